/- Bytes of two differences compare as the differences do: the plain law of DiffOrder, for every two ints. No condition. -/
import Derived.Test.YtceplnpponepkaaMo
namespace Go.Proofs.Ytceplnpponepkaa.Pure
open Go.RowKit Go.Proofs.Ytceplnpponepkaa.PDiffOrder Go.Proofs.YtceplnpponepkaaW.PrintWords Go.Proofs.YtceplnpponepkaaW.PrintLast Go.Proofs.YtceplnpponepkaaW.PrintMore
set_option linter.unusedVariables false
set_option linter.unusedSimpArgs false
/-! ### Plain words -/
def wB (v : Int) : Int := if v < 6 then v + 1 else if v < 16 then v + 10 else if v < 20 then v + 12 else v + 13
def tW (b : Int) : Int × Bool := if 33 ≤ b then (b - 13, true) else if 28 ≤ b ∧ b ≤ 31 then (b - 12, true) else if 16 ≤ b ∧ b ≤ 25 then (b - 10, true) else if 1 ≤ b ∧ b ≤ 6 then (b - 1, true) else (0, false)
def leastF (b : Int) : Int := if b = 33 then -14536567 else if b ≤ 36 then -187660 + 59049 * (b - 34) else if b ≤ 79 then -10513 + 243 * (b - 37) else if b ≤ 207 then b - 144 else if b ≤ 250 then 64 + 243 * (b - 208) else if b ≤ 253 then 10513 + 59049 * (b - 251) else 187660
def trF (b : Int) : Int := if b = 33 then 3 else if b ≤ 36 then 2 else if b ≤ 79 then 1 else if b ≤ 207 then 0 else if b ≤ 250 then 1 else if b ≤ 253 then 2 else 3
def leadF (d : Int) : Int := if d < -187660 then 33 else if d < -10513 then 34 + (d + 187660) / 59049 else if d < -64 then 37 + (d + 10513) / 243 else if d ≤ 63 then 144 + d else if d ≤ 10512 then 208 + (d - 64) / 243 else if d ≤ 187659 then 251 + (d - 10513) / 59049 else 254
def placeF (d : Int) : Int × Int × Int := if -64 ≤ d ∧ d ≤ 63 then (0, 144 + d, 0) else if d > 187659 then (d - 187660, 254, 3) else if d > 10512 then (d - 10513, 251, 2) else if d > 63 then (d - 64, 208, 1) else if d < -187660 then (d + 187660, 34, 3) else if d < -10513 then (d + 10513, 37, 2) else (d + 64, 80, 1)
def digs (t x : Int) : List Int := if t = 0 then [] else if t = 1 then [wB (x % 243)] else if t = 2 then [wB (x / 243 % 243), wB (x % 243)] else [wB (x / 243 / 243 % 243), wB (x / 243 % 243), wB (x % 243)]
def packF (d : Int) : List Int := leadF d :: digs (trF (leadF d)) (d - leastF (leadF d))
theorem w64 {x : Int} (h1 : -9223372036854775808 ≤ x) (h2 : x < 9223372036854775808) : wrap64 x = x := by unfold wrap64; omega
theorem wB_range {v : Int} (h0 : 0 ≤ v) (h1 : v ≤ 242) : 1 ≤ wB v ∧ wB v ≤ 255 := by unfold wB; split <;> (try split) <;> (try split) <;> omega
theorem tW_wB {v : Int} (h0 : 0 ≤ v) (h1 : v ≤ 242) : tW (wB v) = (v, true) := by
  unfold tW wB
  (repeat' split) <;> first | (exfalso; omega) | (congr 1; omega)
theorem wB_lt {v w : Int} : wB v < wB w ↔ v < w := by
  unfold wB
  (repeat' split) <;> omega
theorem wB_inj {v w : Int} : wB v = wB w ↔ v = w := by
  unfold wB
  (repeat' split) <;> omega
theorem tW_some {b : Int} (h0 : 0 ≤ b) (h1 : b ≤ 255) (h : (tW b).2 = true) : 0 ≤ (tW b).1 ∧ (tW b).1 ≤ 242 ∧ wB (tW b).1 = b := by
  unfold tW at h ⊢
  unfold wB
  (repeat' split at h) <;> simp_all <;> (repeat' split) <;> omega
theorem tW_none {b : Int} (h : (tW b).2 = false) : (tW b).1 = 0 ∧ ∀ v, 0 ≤ v → v ≤ 242 → wB v ≠ b := by
  constructor
  · unfold tW at h ⊢
    by_cases c1 : 33 ≤ b
    · rw [if_pos c1] at h; cases h
    rw [if_neg c1] at h ⊢
    by_cases c2 : 28 ≤ b ∧ b ≤ 31
    · rw [if_pos c2] at h; cases h
    rw [if_neg c2] at h ⊢
    by_cases c3 : 16 ≤ b ∧ b ≤ 25
    · rw [if_pos c3] at h; cases h
    rw [if_neg c3] at h ⊢
    by_cases c4 : 1 ≤ b ∧ b ≤ 6
    · rw [if_pos c4] at h; cases h
    rw [if_neg c4]
  · intro v h0 h1 e
    subst e
    rw [tW_wB h0 h1] at h
    cases h
theorem t243 (a : Int) : (0 ≤ a ∧ a.tdiv 243 = a / 243 ∧ a.tmod 243 = a % 243) ∨ (a < 0 ∧ a.tdiv 243 = -((-a) / 243) ∧ a.tmod 243 = -((-a) % 243)) := by
  by_cases h : 0 ≤ a
  · exact .inl ⟨h, Int.tdiv_eq_ediv_of_nonneg h, Int.tmod_eq_emod_of_nonneg h⟩
  · refine .inr ⟨by omega, ?_, ?_⟩
    · rw [← Int.tdiv_eq_ediv_of_nonneg (by omega : 0 ≤ -a), Int.neg_tdiv, Int.neg_neg]
    · rw [← Int.tmod_eq_emod_of_nonneg (by omega : 0 ≤ -a), Int.neg_tmod, Int.neg_neg]
theorem band0 : leastF 33 = -14536567 ∧ trF 33 = 3 := by decide
theorem band1 {b : Int} (h0 : 34 ≤ b) (h1 : b ≤ 36) : leastF b = -187660 + 59049 * (b - 34) ∧ trF b = 2 := by
  unfold leastF trF; rw [if_neg (by omega), if_pos h1, if_neg (by omega), if_pos h1]; exact ⟨rfl, rfl⟩
theorem band2 {b : Int} (h0 : 37 ≤ b) (h1 : b ≤ 79) : leastF b = -10513 + 243 * (b - 37) ∧ trF b = 1 := by
  unfold leastF trF; rw [if_neg (by omega), if_neg (by omega), if_pos h1, if_neg (by omega), if_neg (by omega), if_pos h1]; exact ⟨rfl, rfl⟩
theorem band3 {b : Int} (h0 : 80 ≤ b) (h1 : b ≤ 207) : leastF b = b - 144 ∧ trF b = 0 := by
  unfold leastF trF; rw [if_neg (by omega), if_neg (by omega), if_neg (by omega), if_pos h1, if_neg (by omega), if_neg (by omega), if_neg (by omega), if_pos h1]; exact ⟨rfl, rfl⟩
theorem band4 {b : Int} (h0 : 208 ≤ b) (h1 : b ≤ 250) : leastF b = 64 + 243 * (b - 208) ∧ trF b = 1 := by
  unfold leastF trF; rw [if_neg (by omega), if_neg (by omega), if_neg (by omega), if_neg (by omega), if_pos h1, if_neg (by omega), if_neg (by omega), if_neg (by omega), if_neg (by omega), if_pos h1]; exact ⟨rfl, rfl⟩
theorem band5 {b : Int} (h0 : 251 ≤ b) (h1 : b ≤ 253) : leastF b = 10513 + 59049 * (b - 251) ∧ trF b = 2 := by
  unfold leastF trF; rw [if_neg (by omega), if_neg (by omega), if_neg (by omega), if_neg (by omega), if_neg (by omega), if_pos h1, if_neg (by omega), if_neg (by omega), if_neg (by omega), if_neg (by omega), if_neg (by omega), if_pos h1]; exact ⟨rfl, rfl⟩
theorem band6 : leastF 254 = 187660 ∧ trF 254 = 3 := by decide
/-! ### The program's functions -/
theorem byte_at (k : Nat) (v : Int) (h0 : 0 ≤ v) (h1 : v ≤ 242) : diff_Byte.f (k + 1) v = some (wB v, true) := by
  simp only [diff_Byte.f, diff_Byte.j0, wB, wrap64, decide_eq_true_eq, Bool.false_eq_true, if_false, if_true]
  (repeat' split) <;> first | rfl | (exfalso; omega) | (congr 2; omega)
theorem byte_no (k : Nat) (v : Int) (h : v < 0 ∨ 242 < v) : diff_Byte.f (k + 1) v = some (0, false) := by
  simp only [diff_Byte.f, diff_Byte.j0, wrap64, decide_eq_true_eq, Bool.false_eq_true, if_false, if_true]
  (repeat' split) <;> first | rfl | (exfalso; omega)
theorem trail_at (k : Nat) (b : Int) (h0 : 0 ≤ b) (h1 : b ≤ 255) : diff_Trail.f (k + 2) b = some (tW b) := by
  simp only [diff_Trail.f, diff_Trail.j0, diff_Trail.j1, tW, wrap64, decide_eq_true_eq, Bool.false_eq_true, if_false, if_true]
  (repeat' split) <;> first | rfl | (exfalso; omega) | (congr 2; omega)
theorem first_at (b : Int) (h0 : 33 ≤ b) (h1 : b ≤ 254) : diff_first.f b = some (leastF b, trF b) := by
  simp only [diff_first.f, leastF, trF, wrap64]
  (repeat' split) <;> first | (exfalso; omega) | (congr 2 <;> omega)
theorem place_at (k : Nat) (d : Int) (h0 : -1114111 ≤ d) (h1 : d ≤ 1114111) : diff_place.f (k + 1) d = some (placeF d) := by
  simp only [diff_place.f, diff_place.j0, placeF, wrap64, decide_eq_true_eq, Bool.false_eq_true, if_false, if_true]
  (repeat' split) <;> first | (exfalso; omega) | (congr 2; omega) | (congr 2; congr 1; omega)
theorem l0_done (k : Nat) (left lead : Int) (out : List Int) (ho : 0 < out.length) (h0 : 0 ≤ lead + left) (h1 : lead + left ≤ 255) :
    diff_Pack.l0 (k + 1) left lead out 0 = some (strOfNums (out.set 0 (lead + left)), true) := by
  rw [diff_Pack.l0, if_neg (by omega), if_pos (by omega)]
  have e : wrap64 (lead + left) % 256 = lead + left := by unfold wrap64; omega
  rw [e]
  rfl
theorem l0_step (k : Nat) (left lead : Int) (out : List Int) (i : Int) (hi : 0 < i) (hl : i < out.length) (hi3 : i ≤ 3) (h0 : -100000000 ≤ left) (h1 : left ≤ 100000000) :
    diff_Pack.l0 (k + 2) left lead out i = diff_Pack.l0 (k + 1) (left / 243) lead (out.set i.toNat (wB (left % 243))) (i - 1) := by
  rw [diff_Pack.l0, if_pos (by omega)]
  have e1 : wrap64 (i - 1) = i - 1 := by unfold wrap64; omega
  rcases t243 left with ⟨ha, hd, hm⟩ | ⟨ha, hd, hm⟩
  · rw [if_neg (by omega), hm, byte_at k _ (by omega) (by omega), Option.bind_some, if_pos (by omega), if_pos hl, hd, w64 (by omega) (by omega), e1]
  · by_cases hz : left.tmod 243 < 0
    · have e2 : wrap64 (left.tmod 243 + 243) = left % 243 := by rw [w64 (by omega) (by omega)]; omega
      have e3 : wrap64 (wrap64 (left.tdiv 243) - 1) = left / 243 := by rw [w64 (x := left.tdiv 243) (by omega) (by omega), w64 (by omega) (by omega)]; omega
      rw [if_pos hz, e2, byte_at k _ (by omega) (by omega), Option.bind_some, if_pos (by omega), if_pos hl, e3, e1]
    · have e2 : left.tmod 243 = left % 243 := by omega
      have e3 : wrap64 (left.tdiv 243) = left / 243 := by rw [w64 (x := left.tdiv 243) (by omega) (by omega)]; omega
      rw [if_neg hz, e2, byte_at k _ (by omega) (by omega), Option.bind_some, if_pos (by omega), if_pos hl, e3, e1]
theorem pack_no (k : Nat) (d : Int) (h : d < -1114111 ∨ 1114111 < d) : diff_Pack.f (k + 1) d = some ((⟨#[]⟩ : ByteArray), false) := by
  by_cases a : d < -1114111
  · rw [diff_Pack.f, if_pos a, diff_Pack.j0, if_pos rfl]
  · rw [diff_Pack.f, if_neg a, decide_eq_true (by omega), diff_Pack.j0, if_pos rfl]
theorem pack_0 (k : Nat) (left lead : Int) (h0 : 0 ≤ lead + left) (h1 : lead + left ≤ 255) : diff_Pack.l0 (k + 5) left lead [0] 0 = some (strOfNums [lead + left], true) := by
  rw [l0_done (k + 4) _ _ _ (by simp) h0 h1]; rfl
theorem pack_1 (k : Nat) (left lead : Int) (b0 : -10000000 ≤ left) (b1 : left ≤ 10000000) (h0 : 0 ≤ lead + left / 243) (h1 : lead + left / 243 ≤ 255) :
    diff_Pack.l0 (k + 5) left lead [0, 0] 1 = some (strOfNums [lead + left / 243, wB (left % 243)], true) := by
  rw [l0_step (k + 3) _ _ _ _ (by omega) (by simp) (by omega) (by omega) (by omega)]
  rw [show (1 : Int) - 1 = 0 from rfl, l0_done (k + 3) _ _ _ (by simp) h0 h1]; rfl
theorem pack_2 (k : Nat) (left lead : Int) (b0 : -10000000 ≤ left) (b1 : left ≤ 10000000) (h0 : 0 ≤ lead + left / 243 / 243) (h1 : lead + left / 243 / 243 ≤ 255) :
    diff_Pack.l0 (k + 5) left lead [0, 0, 0] 2 = some (strOfNums [lead + left / 243 / 243, wB (left / 243 % 243), wB (left % 243)], true) := by
  rw [l0_step (k + 3) _ _ _ _ (by omega) (by simp) (by omega) (by omega) (by omega), show (2 : Int) - 1 = 1 from rfl]
  rw [l0_step (k + 2) _ _ _ _ (by omega) (by simp) (by omega) (by omega) (by omega), show (1 : Int) - 1 = 0 from rfl]
  rw [l0_done (k + 2) _ _ _ (by simp) h0 h1]; rfl
theorem pack_3 (k : Nat) (left lead : Int) (b0 : -10000000 ≤ left) (b1 : left ≤ 10000000) (h0 : 0 ≤ lead + left / 243 / 243 / 243) (h1 : lead + left / 243 / 243 / 243 ≤ 255) :
    diff_Pack.l0 (k + 5) left lead [0, 0, 0, 0] 3 = some (strOfNums [lead + left / 243 / 243 / 243, wB (left / 243 / 243 % 243), wB (left / 243 % 243), wB (left % 243)], true) := by
  rw [l0_step (k + 3) _ _ _ _ (by omega) (by simp) (by omega) (by omega) (by omega), show (3 : Int) - 1 = 2 from rfl]
  rw [l0_step (k + 2) _ _ _ _ (by omega) (by simp) (by omega) (by omega) (by omega), show (2 : Int) - 1 = 1 from rfl]
  rw [l0_step (k + 1) _ _ _ _ (by omega) (by simp) (by omega) (by omega) (by omega), show (1 : Int) - 1 = 0 from rfl]
  rw [l0_done (k + 1) _ _ _ (by simp) h0 h1]; rfl
theorem packF_0 {d : Int} (h0 : -64 ≤ d) (h1 : d ≤ 63) : packF d = [144 + d] := by
  have e : leadF d = 144 + d := by unfold leadF; (repeat' split) <;> omega
  have t : trF (144 + d) = 0 := by unfold trF; (repeat' split) <;> omega
  rw [packF, e, t]; rfl
theorem packF_t {d b x t : Int} (e : leadF d = b) (ht : trF b = t) (hx : d - leastF b = x) : packF d = b :: digs t x := by rw [packF, e, ht, hx]
theorem j0_open (k : Nat) (d : Int) (h0 : -1114111 ≤ d) (h1 : d ≤ 1114111) (left lead : Int) (t : Int) (ht0 : 0 ≤ t) (ht : t ≤ 3) (hp : placeF d = (left, lead, t)) :
    diff_Pack.f (k + 6) d = diff_Pack.l0 (k + 5) left lead (List.replicate (t + 1).toNat 0) t := by
  rw [diff_Pack.f, if_neg (by omega), decide_eq_false (by omega), diff_Pack.j0, if_neg (by simp), place_at (k + 4) d h0 h1, hp, Option.bind_some]
  have e : wrap64 (t + 1) = t + 1 := by unfold wrap64; omega
  simp only [e]
  rw [if_pos (by omega), if_pos (by omega)]
theorem pack_at (k : Nat) (d : Int) (h0 : -1114111 ≤ d) (h1 : d ≤ 1114111) : diff_Pack.f (k + 6) d = some (strOfNums (packF d), true) := by
  by_cases c0 : -64 ≤ d ∧ d ≤ 63
  · have hp : placeF d = (0, 144 + d, 0) := by unfold placeF; rw [if_pos c0]
    rw [j0_open k d h0 h1 _ _ _ (by omega) (by omega) hp, packF_0 c0.1 c0.2]
    exact (pack_0 k 0 (144 + d) (by omega) (by omega)).trans (by rw [Int.add_zero])
  by_cases c1 : d > 187659
  · have hp : placeF d = (d - 187660, 254, 3) := by unfold placeF; rw [if_neg c0, if_pos c1]
    rw [j0_open k d h0 h1 _ _ _ (by omega) (by omega) hp]
    refine (pack_3 k _ _ (by omega) (by omega) (by omega) (by omega)).trans ?_
    rw [packF_t (b := 254) (t := 3) (x := d - 187660) (by unfold leadF; (repeat' split) <;> omega) (by decide) (by rw [show leastF 254 = 187660 by decide])]
    rw [show (254 : Int) + (d - 187660) / 243 / 243 / 243 = 254 by omega]; rfl
  by_cases c2 : d > 10512
  · have hp : placeF d = (d - 10513, 251, 2) := by unfold placeF; rw [if_neg c0, if_neg c1, if_pos c2]
    rw [j0_open k d h0 h1 _ _ _ (by omega) (by omega) hp]
    refine (pack_2 k _ _ (by omega) (by omega) (by omega) (by omega)).trans ?_
    have el : leastF (251 + (d - 10513) / 59049) = 10513 + 59049 * ((d - 10513) / 59049) := by unfold leastF; (repeat' split) <;> omega
    rw [packF_t (b := 251 + (d - 10513) / 59049) (t := 2) (x := (d - 10513) - 59049 * ((d - 10513) / 59049)) (by unfold leadF; (repeat' split) <;> omega) (by unfold trF; (repeat' split) <;> omega) (by rw [el]; omega)]
    rw [show (251 : Int) + (d - 10513) / 243 / 243 = 251 + (d - 10513) / 59049 by omega]
    unfold digs
    rw [if_neg (by decide), if_neg (by decide), if_pos rfl]
    rw [show ((d - 10513) - 59049 * ((d - 10513) / 59049)) / 243 % 243 = (d - 10513) / 243 % 243 by omega, show ((d - 10513) - 59049 * ((d - 10513) / 59049)) % 243 = (d - 10513) % 243 by omega]
  by_cases c3 : d > 63
  · have hp : placeF d = (d - 64, 208, 1) := by unfold placeF; rw [if_neg c0, if_neg c1, if_neg c2, if_pos c3]
    rw [j0_open k d h0 h1 _ _ _ (by omega) (by omega) hp]
    refine (pack_1 k _ _ (by omega) (by omega) (by omega) (by omega)).trans ?_
    have el : leastF (208 + (d - 64) / 243) = 64 + 243 * ((d - 64) / 243) := by unfold leastF; (repeat' split) <;> omega
    rw [packF_t (b := 208 + (d - 64) / 243) (t := 1) (x := (d - 64) - 243 * ((d - 64) / 243)) (by unfold leadF; (repeat' split) <;> omega) (by unfold trF; (repeat' split) <;> omega) (by rw [el]; omega)]
    unfold digs
    rw [if_neg (by decide), if_pos rfl]
    rw [show ((d - 64) - 243 * ((d - 64) / 243)) % 243 = (d - 64) % 243 by omega]
  by_cases c4 : d < -187660
  · have hp : placeF d = (d + 187660, 34, 3) := by unfold placeF; rw [if_neg c0, if_neg c1, if_neg c2, if_neg c3, if_pos c4]
    rw [j0_open k d h0 h1 _ _ _ (by omega) (by omega) hp]
    refine (pack_3 k _ _ (by omega) (by omega) (by omega) (by omega)).trans ?_
    rw [packF_t (b := 33) (t := 3) (x := d + 14536567) (by unfold leadF; (repeat' split) <;> omega) (by decide) (by rw [show leastF 33 = -14536567 by decide]; omega)]
    rw [show (34 : Int) + (d + 187660) / 243 / 243 / 243 = 33 by omega]
    unfold digs
    rw [if_neg (by decide), if_neg (by decide), if_neg (by decide)]
    rw [show (d + 14536567) / 243 / 243 % 243 = (d + 187660) / 243 / 243 % 243 by omega, show (d + 14536567) / 243 % 243 = (d + 187660) / 243 % 243 by omega, show (d + 14536567) % 243 = (d + 187660) % 243 by omega]
  by_cases c5 : d < -10513
  · have hp : placeF d = (d + 10513, 37, 2) := by unfold placeF; rw [if_neg c0, if_neg c1, if_neg c2, if_neg c3, if_neg c4, if_pos c5]
    rw [j0_open k d h0 h1 _ _ _ (by omega) (by omega) hp]
    refine (pack_2 k _ _ (by omega) (by omega) (by omega) (by omega)).trans ?_
    have el : leastF (34 + (d + 187660) / 59049) = -187660 + 59049 * ((d + 187660) / 59049) := by unfold leastF; (repeat' split) <;> omega
    rw [packF_t (b := 34 + (d + 187660) / 59049) (t := 2) (x := (d + 187660) - 59049 * ((d + 187660) / 59049)) (by unfold leadF; (repeat' split) <;> omega) (by unfold trF; (repeat' split) <;> omega) (by rw [el]; omega)]
    rw [show (37 : Int) + (d + 10513) / 243 / 243 = 34 + (d + 187660) / 59049 by omega]
    unfold digs
    rw [if_neg (by decide), if_neg (by decide), if_pos rfl]
    rw [show ((d + 187660) - 59049 * ((d + 187660) / 59049)) / 243 % 243 = (d + 10513) / 243 % 243 by omega, show ((d + 187660) - 59049 * ((d + 187660) / 59049)) % 243 = (d + 10513) % 243 by omega]
  · have hp : placeF d = (d + 64, 80, 1) := by unfold placeF; rw [if_neg c0, if_neg c1, if_neg c2, if_neg c3, if_neg c4, if_neg c5]
    rw [j0_open k d h0 h1 _ _ _ (by omega) (by omega) hp]
    refine (pack_1 k _ _ (by omega) (by omega) (by omega) (by omega)).trans ?_
    have el : leastF (37 + (d + 10513) / 243) = -10513 + 243 * ((d + 10513) / 243) := by unfold leastF; (repeat' split) <;> omega
    rw [packF_t (b := 37 + (d + 10513) / 243) (t := 1) (x := (d + 10513) - 243 * ((d + 10513) / 243)) (by unfold leadF; (repeat' split) <;> omega) (by unfold trF; (repeat' split) <;> omega) (by rw [el]; omega)]
    rw [show (80 : Int) + (d + 64) / 243 = 37 + (d + 10513) / 243 by omega]
    unfold digs
    rw [if_neg (by decide), if_pos rfl]
    rw [show ((d + 10513) - 243 * ((d + 10513) / 243)) % 243 = (d + 64) % 243 by omega]
/-! ### Strings of numbers -/
theorem ofNums_toList (xs : List Int) : (strOfNums xs).toList = xs.map fun n => UInt8.ofNat n.toNat := by unfold strOfNums; rw [ByteArray.toList_mk]
theorem ofNums_size (xs : List Int) : (strOfNums xs).size = xs.length := by simp [strOfNums, ByteArray.size]
theorem bt_ofNums (xs : List Int) (i : Nat) (x : Int) (h : xs[i]? = some x) (h0 : 0 ≤ x) (h1 : x ≤ 255) : bt (strOfNums xs) i = x := by
  obtain ⟨hi, hx⟩ := List.getElem?_eq_some_iff.1 h
  have hs : ((i : Nat) : Int).toNat < (strOfNums xs).size := by rw [ofNums_size]; simpa using hi
  rw [bt, dif_pos hs]
  have e : (strOfNums xs)[((i : Nat) : Int).toNat]'hs = UInt8.ofNat x.toNat := by
    simp only [strOfNums, Int.toNat_natCast, ByteArray.getElem_eq_getElem_data, List.getElem_toArray, List.getElem_map, hx]
  rw [e, UInt8.toNat_ofNat']
  omega
theorem rng_hit (k : Nat) (s : ByteArray) (from_ tr v span : Int) (i : Int) (hi0 : 1 ≤ i) (hi : i ≤ tr) (h3 : tr ≤ 3) (hs : i < (s.size : Int)) (b0 : 0 ≤ bt s i) (b1 : bt s i ≤ 255) (v0 : 0 ≤ v) (v1 : v ≤ 100000000) :
    diff_Range.l0 (k + 3) s from_ tr v span i = if (tW (bt s i)).2 = true then diff_Range.l0 (k + 2) s from_ tr (v * 243 + (tW (bt s i)).1) span (i + 1) else some (0, 0, 0, false) := by
  rw [diff_Range.l0, if_pos hi, if_neg (by omega), if_pos (by omega), if_pos hs, trail_at k _ b0 b1, Option.bind_some]
  have e1 : wrap64 (i + 1) = i + 1 := by unfold wrap64; omega
  by_cases c : (tW (bt s i)).2 = true
  · obtain ⟨h1, h2, _⟩ := tW_some b0 b1 c
    have e2 : wrap64 (wrap64 (v * 243) + (tW (bt s i)).1) = v * 243 + (tW (bt s i)).1 := by rw [w64 (x := v * 243) (by omega) (by omega), w64 (by omega) (by omega)]
    rw [if_pos c, if_pos c, e1, e2]
  · rw [if_neg c, if_neg c]
theorem rng_miss (k : Nat) (s : ByteArray) (from_ tr v span : Int) (i : Int) (hi0 : 1 ≤ i) (hi : i ≤ tr) (h3 : tr ≤ 3) (hs : (s.size : Int) ≤ i) (v0 : 0 ≤ v) (v1 : v ≤ 100000000) (s0 : 0 ≤ span) (s1 : span ≤ 100000000) :
    diff_Range.l0 (k + 1) s from_ tr v span i = diff_Range.l0 k s from_ tr (v * 243) (span * 243) (i + 1) := by
  rw [diff_Range.l0, if_pos hi, if_pos (by omega)]
  rw [w64 (x := i + 1) (by omega) (by omega), w64 (x := v * 243) (by omega) (by omega), w64 (x := span * 243) (by omega) (by omega)]
theorem rng_done (k : Nat) (s : ByteArray) (from_ tr v span : Int) (i : Int) (hi : tr < i) (h0 : 0 ≤ tr) (h3 : tr ≤ 3) (f0 : -100000000 ≤ from_) (f1 : from_ ≤ 100000000) (v0 : 0 ≤ v) (v1 : v ≤ 100000000) (s0 : 0 ≤ span) (s1 : span ≤ 100000000) :
    diff_Range.l0 (k + 1) s from_ tr v span i = some (from_ + v, from_ + v + span - 1, tr + 1, true) := by
  rw [diff_Range.l0, if_neg (by omega)]
  rw [w64 (x := from_ + v) (by omega) (by omega), w64 (x := from_ + v + span) (by omega) (by omega), w64 (x := from_ + v + span - 1) (by omega) (by omega), w64 (x := tr + 1) (by omega) (by omega)]
theorem lead_range {d : Int} (h0 : -1114111 ≤ d) (h1 : d ≤ 1114111) : 33 ≤ leadF d ∧ leadF d ≤ 254 := by unfold leadF; (repeat' split) <;> omega
theorem tr_range {b : Int} : 0 ≤ trF b ∧ trF b ≤ 3 := by unfold trF; (repeat' split) <;> omega
theorem least_range {b : Int} (h0 : 33 ≤ b) (h1 : b ≤ 254) : -14536567 ≤ leastF b ∧ leastF b ≤ 187660 := by unfold leastF; (repeat' split) <;> omega
/-- What is left of a difference behind its first byte's least one: a number of so many digits. -/
theorem left_range {d : Int} (h0 : -1114111 ≤ d) (h1 : d ≤ 1114111) : 0 ≤ d - leastF (leadF d) ∧ (trF (leadF d) = 0 → d - leastF (leadF d) = 0) ∧ (trF (leadF d) = 1 → d - leastF (leadF d) ≤ 242) ∧ (trF (leadF d) = 2 → d - leastF (leadF d) ≤ 59048) ∧ (trF (leadF d) = 3 → d - leastF (leadF d) ≤ 14348906) := by
  by_cases c0 : d < -187660
  · have e : leadF d = 33 := by unfold leadF; rw [if_pos c0]
    rw [e, band0.1, band0.2]
    refine ⟨?_, ?_, ?_, ?_, ?_⟩ <;> omega
  by_cases c1 : d < -10513
  · have e : leadF d = 34 + (d + 187660) / 59049 := by unfold leadF; rw [if_neg c0, if_pos c1]
    have b := @band1 (leadF d) (by omega) (by omega)
    rw [b.1, b.2]
    refine ⟨?_, ?_, ?_, ?_, ?_⟩ <;> omega
  by_cases c2 : d < -64
  · have e : leadF d = 37 + (d + 10513) / 243 := by unfold leadF; rw [if_neg c0, if_neg c1, if_pos c2]
    have b := @band2 (leadF d) (by omega) (by omega)
    rw [b.1, b.2]
    refine ⟨?_, ?_, ?_, ?_, ?_⟩ <;> omega
  by_cases c3 : d ≤ 63
  · have e : leadF d = 144 + d := by unfold leadF; rw [if_neg c0, if_neg c1, if_neg c2, if_pos c3]
    have b := @band3 (leadF d) (by omega) (by omega)
    rw [b.1, b.2]
    refine ⟨?_, ?_, ?_, ?_, ?_⟩ <;> omega
  by_cases c4 : d ≤ 10512
  · have e : leadF d = 208 + (d - 64) / 243 := by unfold leadF; rw [if_neg c0, if_neg c1, if_neg c2, if_neg c3, if_pos c4]
    have b := @band4 (leadF d) (by omega) (by omega)
    rw [b.1, b.2]
    refine ⟨?_, ?_, ?_, ?_, ?_⟩ <;> omega
  by_cases c5 : d ≤ 187659
  · have e : leadF d = 251 + (d - 10513) / 59049 := by unfold leadF; rw [if_neg c0, if_neg c1, if_neg c2, if_neg c3, if_neg c4, if_pos c5]
    have b := @band5 (leadF d) (by omega) (by omega)
    rw [b.1, b.2]
    refine ⟨?_, ?_, ?_, ?_, ?_⟩ <;> omega
  · have e : leadF d = 254 := by unfold leadF; rw [if_neg c0, if_neg c1, if_neg c2, if_neg c3, if_neg c4, if_neg c5]
    rw [e, band6.1, band6.2]
    refine ⟨?_, ?_, ?_, ?_, ?_⟩ <;> omega
theorem ne_nil_of_size {s : ByteArray} (hs : 0 < s.size) : ¬ s.toList = ([] : List UInt8) := by
  intro e
  have h := congrArg List.length e
  rw [ByteArray.toList_eq, Array.length_toList, List.length_nil] at h
  have h2 : s.size = s.data.size := rfl
  omega
theorem nil_of_size {s : ByteArray} (hs : s.size = 0) : s.toList = ([] : List UInt8) := by
  have h2 : s.size = s.data.size := rfl
  rw [ByteArray.toList_eq]
  exact List.eq_nil_of_length_eq_zero (by rw [Array.length_toList]; omega)
theorem range_open (k : Nat) (s : ByteArray) (b : Int) (hb : bt s 0 = b) (h0 : 33 ≤ b) (h1 : b ≤ 254) (hs : 0 < s.size) :
    diff_Range.f (k + 1) s = if (s.size : Int) > trF b + 1 then some (0, 0, 0, false) else diff_Range.l0 k s (leastF b) (trF b) 0 1 1 := by
  have hne := ne_nil_of_size hs
  have ht := @tr_range b
  rw [diff_Range.f, if_neg hne, if_pos (by omega), hb, if_neg (by omega), decide_eq_false (by omega), diff_Range.j0, if_neg (by simp), if_pos (by omega), hb, first_at b h0 h1, Option.bind_some]
  rw [w64 (x := trF b + 1) (by omega) (by omega)]
theorem prev_at (k : Nat) (c : Int) : diff_Prev.f (k + 2) c = some (if 12352 ≤ c ∧ c ≤ 12447 then 12400 else if 19968 ≤ c ∧ c ≤ 40869 then 30481 else if 44032 ≤ c ∧ c ≤ 55203 then 49617 else (Go.bits .andNot .u32 c 127 + 64) % 4294967296) := by
  simp only [diff_Prev.f, diff_Prev.j0, diff_Prev.j1, decide_eq_true_eq, Bool.false_eq_true, if_false, if_true]
  (repeat' split) <;> first | rfl | (exfalso; omega)
theorem awake_at (k : Nat) : pilcrowlaw11_awake.f (k + 8) = some true := by
  rw [pilcrowlaw11_awake.f]
  rw [pack_at (k + 2) 65215 (by decide) (by decide), pack_at (k + 2) (-65) (by decide) (by decide), pack_at (k + 2) 64 (by decide) (by decide), pack_no (k + 7) 1114112 (by decide)]
  have hr : diff_Range.f (k + 8) (⟨#[208]⟩ : ByteArray) = some (64, 306, 2, true) := by
    have e := range_open (k + 7) (⟨#[208]⟩ : ByteArray) 208 (by decide) (by decide) (by decide) (by decide)
    rw [show trF 208 = 1 by decide, show leastF 208 = 64 by decide] at e
    rw [e, if_neg (by decide)]
    rw [rng_miss (k + 6) _ _ _ _ _ _ (by decide) (by decide) (by decide) (by decide) (by decide) (by decide) (by decide) (by decide)]
    exact rng_done (k + 5) _ _ _ _ _ _ (by decide) (by decide) (by decide) (by decide) (by decide) (by decide) (by decide) (by decide) (by decide)
  rw [hr, prev_at (k + 6), prev_at (k + 6)]
  simp only [Option.bind_some, ofNums_toList]
  have p1 : packF 65215 = [251, 238, 40] := by decide
  have p2 : packF (-65) = [79, 255] := by decide
  have p3 : packF 64 = [208, 1] := by decide
  have p4 : (Go.bits .andNot .u32 65 127 + 64) % 4294967296 = 64 := by decide
  rw [p1, p2, p3, p4]
  decide
/-! ### The document's trail bytes -/
def trailsL : List Int := (List.range 243).map fun (n : Nat) => wB (n : Int)
theorem trails_len : trailsL.length = 243 := by simp [trailsL]
theorem trails_rd {i : Int} (h0 : 0 ≤ i) (h1 : i ≤ 242) : rd trailsL i = wB i := by
  have hl : i.toNat < 243 := by omega
  have e : ((i.toNat : Nat) : Int) = i := by omega
  simp [rd, trailsL, List.getD_eq_getElem?_getD, List.getElem?_map, List.getElem?_range hl, e]
theorem trails_256 : pilcrowref11_Trails.f 256 = some trailsL := by decide +kernel
theorem trails_at (k : Nat) : pilcrowref11_Trails.f (k + 256) = some trailsL := at_rounds (g := fun k => pilcrowref11_Trails.f k) pilcrowref11_Trails.mono (by omega) trails_256
/-! ### The document's worths -/
def worthF (b : Int) : Int := if (tW b).2 = true then (tW b).1 else -1
theorem worth_loop (b : Int) (b0 : 0 ≤ b) (b1 : b ≤ 255) (d : Nat) : ∀ (k : Nat) (i : Int), 0 ≤ i → (d : Int) = 243 - i → (∀ v, 0 ≤ v → v < i → wB v ≠ b) → d < k → pilcrowref11_Worth.l0 k b trailsL i = some (worthF b) := by
  induction d with
  | zero =>
    intro k i h0 hd hn hk
    obtain ⟨k, rfl⟩ : ∃ m, k = m + 1 := ⟨k - 1, by omega⟩
    rw [pilcrowref11_Worth.l0, trails_len, if_neg (by omega)]
    by_cases c : (tW b).2 = true
    · obtain ⟨h1, h2, h3⟩ := tW_some b0 b1 c
      exact absurd h3 (hn _ h1 (by omega))
    · rw [worthF, if_neg c]
  | succ d ih =>
    intro k i h0 hd hn hk
    obtain ⟨k, rfl⟩ : ∃ m, k = m + 1 := ⟨k - 1, by omega⟩
    rw [pilcrowref11_Worth.l0, trails_len, if_pos (by omega), if_pos h0, trails_rd h0 (by omega)]
    by_cases c : wB i = b
    · rw [if_pos c, ← c, worthF, tW_wB h0 (by omega), if_pos rfl]
    · rw [if_neg c, w64 (x := i + 1) (by omega) (by omega)]
      refine ih k (i + 1) (by omega) (by omega) (fun v hv hvi => ?_) (by omega)
      by_cases e : v = i
      · rw [e]; exact c
      · exact hn v hv (by omega)
theorem worth_at (k : Nat) (b : Int) (b0 : 0 ≤ b) (b1 : b ≤ 255) : pilcrowref11_Worth.f (k + 256) b = some (worthF b) := by
  rw [pilcrowref11_Worth.f, trails_at, Option.bind_some]
  exact worth_loop b b0 b1 243 _ 0 (by omega) (by omega) (fun v h1 h2 => by omega) (by omega)
theorem digs_len {t : Int} (h0 : 0 ≤ t) (h3 : t ≤ 3) (x : Int) : ((digs t x).length : Int) = t := by
  unfold digs
  (repeat' split) <;> simp <;> omega
theorem packF_len {d : Int} : ((packF d).length : Int) = trF (leadF d) + 1 := by
  have ht := @tr_range (leadF d)
  have := digs_len ht.1 ht.2 (d - leastF (leadF d))
  rw [packF, List.length_cons]
  omega
theorem extract_ofNums (xs : List Int) (n : Nat) : (strOfNums xs).extract 0 n = strOfNums (xs.take n) := by
  apply ByteArray.ext
  simp [strOfNums, ByteArray.data_extract]
def lexI : List Int → List Int → Bool
  | _, [] => false
  | [], _ :: _ => true
  | a :: x, b :: y => decide (a < b) || (a == b && lexI x y)
def key (xs : List Int) : List UInt8 := xs.map fun n => UInt8.ofNat n.toNat
def inB (xs : List Int) : Prop := ∀ x ∈ xs, 0 ≤ x ∧ x ≤ 255
theorem u8_lt {a b : Int} (ha : 0 ≤ a ∧ a ≤ 255) (hb : 0 ≤ b ∧ b ≤ 255) : decide (UInt8.ofNat a.toNat < UInt8.ofNat b.toNat) = decide (a < b) := by
  rw [decide_eq_decide, UInt8.lt_iff_toNat_lt, UInt8.toNat_ofNat', UInt8.toNat_ofNat']
  omega
theorem u8_eq {a b : Int} (ha : 0 ≤ a ∧ a ≤ 255) (hb : 0 ≤ b ∧ b ≤ 255) : (UInt8.ofNat a.toNat == UInt8.ofNat b.toNat) = (a == b) := by
  have h : (UInt8.ofNat a.toNat = UInt8.ofNat b.toNat) ↔ a = b := by
    rw [← UInt8.toNat_inj, UInt8.toNat_ofNat', UInt8.toNat_ofNat']
    omega
  by_cases e : a = b
  · rw [e]; simp
  · rw [beq_eq_false_iff_ne.2 e, beq_eq_false_iff_ne.2 (fun hh => e (h.1 hh))]
theorem bl_key : ∀ xs ys : List Int, inB xs → inB ys → Op.bytesLess (key xs) (key ys) = lexI xs ys
  | _, [], _, _ => by
    unfold key
    simp [Op.bytesLess, lexI]
  | [], _ :: _, _, _ => rfl
  | a :: x, b :: y, hx, hy => by
    have ha := hx a List.mem_cons_self
    have hb := hy b List.mem_cons_self
    have ih := bl_key x y (fun z hz => hx z (List.mem_cons_of_mem _ hz)) (fun z hz => hy z (List.mem_cons_of_mem _ hz))
    simp only [key, List.map_cons, Op.bytesLess, lexI]
    rw [u8_lt ha hb, u8_eq ha hb]
    congr 2
theorem key_inj {xs ys : List Int} (hx : inB xs) (hy : inB ys) (h : key xs = key ys) : xs = ys := by
  have back : ∀ l : List Int, inB l → (key l).map (fun u => (u.toNat : Int)) = l := by
    intro l hl
    unfold key
    rw [List.map_map]
    conv => rhs; rw [← List.map_id l]
    apply List.map_congr_left
    intro z hz
    have := hl z hz
    simp only [Function.comp, UInt8.toNat_ofNat', id]
    omega
  rw [← back xs hx, ← back ys hy, h]
theorem lexI_self : ∀ xs : List Int, lexI xs xs = false
  | [] => rfl
  | a :: x => by simp [lexI, lexI_self x]
theorem digs_mem {t x z : Int} (h0 : 0 ≤ t) (h3 : t ≤ 3) (hz : z ∈ digs t x) : ∃ v, 0 ≤ v ∧ v ≤ 242 ∧ z = wB v := by
  obtain rfl | rfl | rfl | rfl : t = 0 ∨ t = 1 ∨ t = 2 ∨ t = 3 := by omega
  · simp [digs] at hz
  · simp [digs] at hz
    exact ⟨_, by omega, by omega, hz⟩
  · simp [digs] at hz
    rcases hz with rfl | rfl
    · exact ⟨_, by omega, by omega, rfl⟩
    · exact ⟨_, by omega, by omega, rfl⟩
  · simp [digs] at hz
    rcases hz with rfl | rfl | rfl
    · exact ⟨_, by omega, by omega, rfl⟩
    · exact ⟨_, by omega, by omega, rfl⟩
    · exact ⟨_, by omega, by omega, rfl⟩
theorem pack_mem {d z : Int} (h0 : -1114111 ≤ d) (h1 : d ≤ 1114111) (hz : z ∈ packF d) : (33 ≤ z ∧ z ≤ 254) ∨ ∃ v, 0 ≤ v ∧ v ≤ 242 ∧ z = wB v := by
  rw [packF, List.mem_cons] at hz
  rcases hz with rfl | hz
  · exact .inl (lead_range h0 h1)
  · have ht := @tr_range (leadF d)
    exact .inr (digs_mem ht.1 ht.2 hz)
theorem pack_inB {d : Int} (h0 : -1114111 ≤ d) (h1 : d ≤ 1114111) : inB (packF d) := by
  intro z hz
  rcases pack_mem h0 h1 hz with h | ⟨v, a, b, rfl⟩
  · omega
  · have := wB_range a b; omega
theorem kept_at (k : Nat) (z : Int) (hz : (33 ≤ z ∧ z ≤ 254) ∨ ∃ v, 0 ≤ v ∧ v ≤ 242 ∧ z = wB v) : pilcrowref11_Kept.f (k + 256) z = some false := by
  rw [pilcrowref11_Kept.f]
  by_cases h : z ≤ 32
  · rw [if_pos h]
    rcases hz with hz | ⟨v, a, b, rfl⟩
    · omega
    · have hr := wB_range a b
      rw [worth_at k (wB v) (by omega) (by omega), Option.bind_some, worthF, tW_wB a b, if_pos rfl, decide_eq_false (by simp only; omega)]
  · rw [if_neg h]
theorem lead_mono {a b : Int} (h : leadF a < leadF b) : a < b := by
  unfold leadF at h
  (repeat' split at h) <;> omega
theorem wB_dec (p q : Int) : decide (wB p < wB q) = decide (p < q) := by rw [decide_eq_decide]; exact wB_lt
theorem wB_beq (p q : Int) : (wB p == wB q) = (p == q) := by
  by_cases e : p = q
  · rw [e]; simp
  · rw [beq_eq_false_iff_ne.2 e, beq_eq_false_iff_ne.2 (fun hh => e (wB_inj.1 hh))]
theorem lex_cons {p q : Int} {xs ys : List Int} {P : Prop} [Decidable P] (h : lexI xs ys = decide P) : lexI (p :: xs) (q :: ys) = decide (p < q ∨ (p = q ∧ P)) := by
  rw [lexI, h]
  by_cases h1 : p < q <;> by_cases h2 : p = q <;> by_cases h3 : P <;> simp [h1, h2, h3]
theorem digs_lex {t x y : Int} (h0 : 0 ≤ t) (h3 : t ≤ 3) (hx0 : 0 ≤ x) (hy0 : 0 ≤ y) (hx : (t = 0 → x = 0) ∧ (t = 1 → x ≤ 242) ∧ (t = 2 → x ≤ 59048) ∧ (t = 3 → x ≤ 14348906)) (hy : (t = 0 → y = 0) ∧ (t = 1 → y ≤ 242) ∧ (t = 2 → y ≤ 59048) ∧ (t = 3 → y ≤ 14348906)) : lexI (digs t x) (digs t y) = decide (x < y) := by
  have hn : lexI ([] : List Int) [] = decide False := rfl
  obtain rfl | rfl | rfl | rfl : t = 0 ∨ t = 1 ∨ t = 2 ∨ t = 3 := by omega
  · have e1 := hx.1 rfl
    have e2 := hy.1 rfl
    subst e1 e2
    rfl
  · have e1 := hx.2.1 rfl
    have e2 := hy.2.1 rfl
    show lexI [wB (x % 243)] [wB (y % 243)] = _
    rw [lex_cons hn, decide_eq_decide, wB_lt, wB_inj]
    simp only [and_false, or_false]
    omega
  · have e1 := hx.2.2.1 rfl
    have e2 := hy.2.2.1 rfl
    show lexI [wB (x / 243 % 243), wB (x % 243)] [wB (y / 243 % 243), wB (y % 243)] = _
    rw [lex_cons (lex_cons hn), decide_eq_decide, wB_lt, wB_inj, wB_lt, wB_inj]
    simp only [and_false, or_false]
    omega
  · have e1 := hx.2.2.2 rfl
    have e2 := hy.2.2.2 rfl
    show lexI [wB (x / 243 / 243 % 243), wB (x / 243 % 243), wB (x % 243)] [wB (y / 243 / 243 % 243), wB (y / 243 % 243), wB (y % 243)] = _
    rw [lex_cons (lex_cons (lex_cons hn)), decide_eq_decide, wB_lt, wB_inj, wB_lt, wB_inj, wB_lt, wB_inj]
    simp only [and_false, or_false]
    omega
theorem pack_lex {a b : Int} (a0 : -1114111 ≤ a) (a1 : a ≤ 1114111) (b0 : -1114111 ≤ b) (b1 : b ≤ 1114111) : lexI (packF a) (packF b) = decide (a < b) := by
  rcases Int.lt_trichotomy (leadF a) (leadF b) with h | h | h
  · have := lead_mono h
    rw [packF, packF, lexI, decide_eq_true h, decide_eq_true this, Bool.true_or]
  · have ra := left_range a0 a1
    have rb := left_range b0 b1
    have ht := @tr_range (leadF b)
    rw [packF, packF, h]
    rw [h] at ra
    rw [lex_cons (digs_lex ht.1 ht.2 ra.1 rb.1 ra.2 rb.2), decide_eq_decide]
    omega
  · have := lead_mono h
    rw [packF, packF, lexI, decide_eq_false (by omega), decide_eq_false (by omega), beq_eq_false_iff_ne.2 (by omega)]
    rfl
theorem pack_take {a b : Int} (a0 : -1114111 ≤ a) (a1 : a ≤ 1114111) (b0 : -1114111 ≤ b) (b1 : b ≤ 1114111) (n : Nat) (hn : n = min (packF a).length (packF b).length) (h : (packF a).take n = (packF b).take n) : a = b := by
  have la := @packF_len a
  have lb := @packF_len b
  have ta := @tr_range (leadF a)
  have tb := @tr_range (leadF b)
  have hl : leadF a = leadF b := by
    have h1 : ((packF a).take n)[0]? = ((packF b).take n)[0]? := by rw [h]
    rw [List.getElem?_take_of_lt (by omega), List.getElem?_take_of_lt (by omega), packF, packF] at h1
    simpa using h1
  rw [hl] at la
  have hlen : (packF a).length = (packF b).length := by omega
  rw [List.take_of_length_le (by omega), List.take_of_length_le (by omega)] at h
  have e1 := pack_lex a0 a1 b0 b1
  have e2 := pack_lex b0 b1 a0 a1
  rw [h, lexI_self] at e1
  rw [h, lexI_self] at e2
  have n1 := of_decide_eq_false e1.symm
  have n2 := of_decide_eq_false e2.symm
  omega
theorem order_end (k : Nat) {a b : Int} (a0 : -1114111 ≤ a) (a1 : a ≤ 1114111) (b0 : -1114111 ≤ b) (b1 : b ≤ 1114111) (i : Int) (hi : ¬ i < ((packF a).length : Int)) : pilcrowlaw11_DiffOrder.l0 (k + 1) a b (strOfNums (packF a)) (strOfNums (packF b)) i = some true := by
  have hz1 : (strOfNums (packF a)).size = (packF a).length := ofNums_size _
  have hz2 : (strOfNums (packF b)).size = (packF b).length := ofNums_size _
  have hmn : mn ((packF a).length : Int) ((packF b).length : Int) = ((min (packF a).length (packF b).length : Nat) : Int) := by
    unfold mn; split <;> omega
  have hbl : (Op.bytesLess (strOfNums (packF a)).toList (strOfNums (packF b)).toList == decide (a < b)) = true := by
    rw [ofNums_toList, ofNums_toList]
    have := bl_key (packF a) (packF b) (pack_inB a0 a1) (pack_inB b0 b1)
    unfold key at this
    rw [this, pack_lex a0 a1 b0 b1]
    simp
  rw [pilcrowlaw11_DiffOrder.l0, hz1, hz2, if_neg hi, if_pos hbl, hmn, if_pos (by omega), if_pos (by omega), if_pos (by omega), Int.toNat_natCast, extract_ofNums, extract_ofNums, ofNums_toList, ofNums_toList]
  obtain ⟨n, hn⟩ : ∃ n, n = min (packF a).length (packF b).length := ⟨_, rfl⟩
  rw [← hn]
  by_cases e : a = b
  · subst e; simp
  · have hne : ¬ (((packF a).take n).map fun n => UInt8.ofNat n.toNat) = (((packF b).take n).map fun n => UInt8.ofNat n.toNat) := fun hh =>
      e (pack_take a0 a1 b0 b1 n hn (key_inj (fun z hz => pack_inB a0 a1 z (List.mem_of_mem_take hz)) (fun z hz => pack_inB b0 b1 z (List.mem_of_mem_take hz)) hh))
    rw [beq_eq_false_iff_ne.2 hne, beq_eq_false_iff_ne.2 e]
    rfl
theorem order_loop (k : Nat) {a b : Int} (a0 : -1114111 ≤ a) (a1 : a ≤ 1114111) (b0 : -1114111 ≤ b) (b1 : b ≤ 1114111) : ∀ d i : Nat, i + d = (packF a).length → pilcrowlaw11_DiffOrder.l0 (k + 256 + d + 1) a b (strOfNums (packF a)) (strOfNums (packF b)) (i : Int) = some true
  | 0, i, hi => order_end _ a0 a1 b0 b1 _ (by omega)
  | d + 1, i, hi => by
    have hz1 : (strOfNums (packF a)).size = (packF a).length := ofNums_size _
    have hg : (packF a)[i]? = some ((packF a)[i]'(by omega)) := List.getElem?_eq_getElem (by omega)
    have hm : (packF a)[i]'(by omega) ∈ packF a := List.getElem_mem _
    have hr := pack_inB a0 a1 _ hm
    have hbt := bt_ofNums (packF a) i _ hg hr.1 hr.2
    have hk := kept_at (k + d + 1) _ (pack_mem a0 a1 hm)
    have hw : wrap64 ((i : Int) + 1) = ((i + 1 : Nat) : Int) := by
      have := @packF_len a
      have := @tr_range (leadF a)
      rw [w64 (by omega) (by omega)]; omega
    rw [show k + 256 + (d + 1) + 1 = (k + d + 1 + 256) + 1 by omega, pilcrowlaw11_DiffOrder.l0, hz1, if_pos (by omega), if_pos (by omega), hbt, hk, Option.bind_some, if_neg (by decide), hw]
    have ih := order_loop k a0 a1 b0 b1 d (i + 1) (by omega)
    rw [show k + 256 + d + 1 = k + d + 1 + 256 by omega] at ih
    rw [ih]
    by_cases h0 : (i : Int) = 0
    · obtain rfl : i = 0 := by omega
      have hl := lead_range a0 a1
      have he : (packF a)[0]'(by omega) = leadF a := rfl
      rw [if_pos h0, if_neg (by rw [he]; omega)]
    · rw [if_neg h0]
theorem DiffOrder : pilcrowlaw11_DiffOrder.Pure := by
  intro a b _ _
  refine ⟨1000, ?_⟩
  have ha : pilcrowlaw11_awake.f 1000 = some true := awake_at 992
  have ha' : pilcrowlaw11_awake.f 999 = some true := awake_at 991
  have hj : ∀ s t, pilcrowlaw11_DiffOrder.j0 1000 a b s t true = some true := fun s t => by
    rw [pilcrowlaw11_DiffOrder.j0, if_pos rfl, ha']; rfl
  by_cases h : a < -1114111 ∨ 1114111 < a
  · have hp : diff_Pack.f 1000 a = some ((⟨#[]⟩ : ByteArray), false) := pack_no 999 a h
    by_cases g : b < -1114111 ∨ 1114111 < b
    · have hq : diff_Pack.f 1000 b = some ((⟨#[]⟩ : ByteArray), false) := pack_no 999 b g
      rw [pilcrowlaw11_DiffOrder.f, hp, Option.bind_some, hq, Option.bind_some, ha, Option.bind_some, if_pos rfl, if_neg (by decide)]
      exact hj _ _
    · have hq : diff_Pack.f 1000 b = some (strOfNums (packF b), true) := pack_at 994 b (by omega) (by omega)
      rw [pilcrowlaw11_DiffOrder.f, hp, Option.bind_some, hq, Option.bind_some, ha, Option.bind_some, if_pos rfl, if_neg (by decide)]
      exact hj _ _
  have a0 : -1114111 ≤ a := by omega
  have a1 : a ≤ 1114111 := by omega
  have hp : diff_Pack.f 1000 a = some (strOfNums (packF a), true) := pack_at 994 a a0 a1
  by_cases g : b < -1114111 ∨ 1114111 < b
  · have hq : diff_Pack.f 1000 b = some ((⟨#[]⟩ : ByteArray), false) := pack_no 999 b g
    rw [pilcrowlaw11_DiffOrder.f, hp, Option.bind_some, hq, Option.bind_some, ha, Option.bind_some, if_pos rfl, if_pos rfl]
    exact hj _ _
  have b0 : -1114111 ≤ b := by omega
  have b1 : b ≤ 1114111 := by omega
  have hq : diff_Pack.f 1000 b = some (strOfNums (packF b), true) := pack_at 994 b b0 b1
  have hlen := @packF_len a
  have ht := @tr_range (leadF a)
  have hl := order_loop (742 - (packF a).length) a0 a1 b0 b1 (packF a).length 0 (Nat.zero_add _)
  rw [show 742 - (packF a).length + 256 + (packF a).length + 1 = 999 by omega] at hl
  rw [pilcrowlaw11_DiffOrder.f, hp, Option.bind_some, hq, Option.bind_some, ha, Option.bind_some, if_pos rfl, if_pos rfl]
  show pilcrowlaw11_DiffOrder.j0 1000 a b (strOfNums (packF a)) (strOfNums (packF b)) false = some true
  rw [pilcrowlaw11_DiffOrder.j0, if_neg (by decide)]
  exact hl

end Go.Proofs.Ytceplnpponepkaa.Pure
