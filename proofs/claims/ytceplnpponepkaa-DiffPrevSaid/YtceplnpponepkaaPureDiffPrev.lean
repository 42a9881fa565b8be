/- What package diff holds the next scalar against is what the document says: the plain law of DiffPrev, for every uint32. No condition. -/
import Derived.Test.YtceplnpponepkaaMp
namespace Go.Proofs.Ytceplnpponepkaa.Pure
open Go.RowKit Go.Proofs.Ytceplnpponepkaa.PDiffPrev Go.Proofs.YtceplnpponepkaaW.PrintWords Go.Proofs.YtceplnpponepkaaW.PrintLast Go.Proofs.YtceplnpponepkaaW.PrintMore
set_option linter.unusedVariables false
set_option linter.unusedSimpArgs false
/-! ### Plain words -/
def wB (v : Int) : Int := if v < 6 then v + 1 else if v < 16 then v + 10 else if v < 20 then v + 12 else v + 13
def tW (b : Int) : Int × Bool := if 33 ≤ b then (b - 13, true) else if 28 ≤ b ∧ b ≤ 31 then (b - 12, true) else if 16 ≤ b ∧ b ≤ 25 then (b - 10, true) else if 1 ≤ b ∧ b ≤ 6 then (b - 1, true) else (0, false)
def leastF (b : Int) : Int := if b = 33 then -14536567 else if b ≤ 36 then -187660 + 59049 * (b - 34) else if b ≤ 79 then -10513 + 243 * (b - 37) else if b ≤ 207 then b - 144 else if b ≤ 250 then 64 + 243 * (b - 208) else if b ≤ 253 then 10513 + 59049 * (b - 251) else 187660
def trF (b : Int) : Int := if b = 33 then 3 else if b ≤ 36 then 2 else if b ≤ 79 then 1 else if b ≤ 207 then 0 else if b ≤ 250 then 1 else if b ≤ 253 then 2 else 3
def leadF (d : Int) : Int := if d < -187660 then 33 else if d < -10513 then 34 + (d + 187660) / 59049 else if d < -64 then 37 + (d + 10513) / 243 else if d ≤ 63 then 144 + d else if d ≤ 10512 then 208 + (d - 64) / 243 else if d ≤ 187659 then 251 + (d - 10513) / 59049 else 254
def placeF (d : Int) : Int × Int × Int := if -64 ≤ d ∧ d ≤ 63 then (0, 144 + d, 0) else if d > 187659 then (d - 187660, 254, 3) else if d > 10512 then (d - 10513, 251, 2) else if d > 63 then (d - 64, 208, 1) else if d < -187660 then (d + 187660, 34, 3) else if d < -10513 then (d + 10513, 37, 2) else (d + 64, 80, 1)
def digs (t x : Int) : List Int := if t = 0 then [] else if t = 1 then [wB (x % 243)] else if t = 2 then [wB (x / 243 % 243), wB (x % 243)] else [wB (x / 243 / 243 % 243), wB (x / 243 % 243), wB (x % 243)]
def packF (d : Int) : List Int := leadF d :: digs (trF (leadF d)) (d - leastF (leadF d))
theorem w64 {x : Int} (h1 : -9223372036854775808 ≤ x) (h2 : x < 9223372036854775808) : wrap64 x = x := by unfold wrap64; omega
theorem wB_range {v : Int} (h0 : 0 ≤ v) (h1 : v ≤ 242) : 1 ≤ wB v ∧ wB v ≤ 255 := by unfold wB; split <;> (try split) <;> (try split) <;> omega
theorem tW_wB {v : Int} (h0 : 0 ≤ v) (h1 : v ≤ 242) : tW (wB v) = (v, true) := by
  unfold tW wB
  (repeat' split) <;> first | (exfalso; omega) | (congr 1; omega)
theorem wB_lt {v w : Int} : wB v < wB w ↔ v < w := by
  unfold wB
  (repeat' split) <;> omega
theorem wB_inj {v w : Int} : wB v = wB w ↔ v = w := by
  unfold wB
  (repeat' split) <;> omega
theorem tW_some {b : Int} (h0 : 0 ≤ b) (h1 : b ≤ 255) (h : (tW b).2 = true) : 0 ≤ (tW b).1 ∧ (tW b).1 ≤ 242 ∧ wB (tW b).1 = b := by
  unfold tW at h ⊢
  unfold wB
  (repeat' split at h) <;> simp_all <;> (repeat' split) <;> omega
theorem tW_none {b : Int} (h : (tW b).2 = false) : (tW b).1 = 0 ∧ ∀ v, 0 ≤ v → v ≤ 242 → wB v ≠ b := by
  constructor
  · unfold tW at h ⊢
    by_cases c1 : 33 ≤ b
    · rw [if_pos c1] at h; cases h
    rw [if_neg c1] at h ⊢
    by_cases c2 : 28 ≤ b ∧ b ≤ 31
    · rw [if_pos c2] at h; cases h
    rw [if_neg c2] at h ⊢
    by_cases c3 : 16 ≤ b ∧ b ≤ 25
    · rw [if_pos c3] at h; cases h
    rw [if_neg c3] at h ⊢
    by_cases c4 : 1 ≤ b ∧ b ≤ 6
    · rw [if_pos c4] at h; cases h
    rw [if_neg c4]
  · intro v h0 h1 e
    subst e
    rw [tW_wB h0 h1] at h
    cases h
theorem t243 (a : Int) : (0 ≤ a ∧ a.tdiv 243 = a / 243 ∧ a.tmod 243 = a % 243) ∨ (a < 0 ∧ a.tdiv 243 = -((-a) / 243) ∧ a.tmod 243 = -((-a) % 243)) := by
  by_cases h : 0 ≤ a
  · exact .inl ⟨h, Int.tdiv_eq_ediv_of_nonneg h, Int.tmod_eq_emod_of_nonneg h⟩
  · refine .inr ⟨by omega, ?_, ?_⟩
    · rw [← Int.tdiv_eq_ediv_of_nonneg (by omega : 0 ≤ -a), Int.neg_tdiv, Int.neg_neg]
    · rw [← Int.tmod_eq_emod_of_nonneg (by omega : 0 ≤ -a), Int.neg_tmod, Int.neg_neg]
theorem band0 : leastF 33 = -14536567 ∧ trF 33 = 3 := by decide
theorem band1 {b : Int} (h0 : 34 ≤ b) (h1 : b ≤ 36) : leastF b = -187660 + 59049 * (b - 34) ∧ trF b = 2 := by
  unfold leastF trF; rw [if_neg (by omega), if_pos h1, if_neg (by omega), if_pos h1]; exact ⟨rfl, rfl⟩
theorem band2 {b : Int} (h0 : 37 ≤ b) (h1 : b ≤ 79) : leastF b = -10513 + 243 * (b - 37) ∧ trF b = 1 := by
  unfold leastF trF; rw [if_neg (by omega), if_neg (by omega), if_pos h1, if_neg (by omega), if_neg (by omega), if_pos h1]; exact ⟨rfl, rfl⟩
theorem band3 {b : Int} (h0 : 80 ≤ b) (h1 : b ≤ 207) : leastF b = b - 144 ∧ trF b = 0 := by
  unfold leastF trF; rw [if_neg (by omega), if_neg (by omega), if_neg (by omega), if_pos h1, if_neg (by omega), if_neg (by omega), if_neg (by omega), if_pos h1]; exact ⟨rfl, rfl⟩
theorem band4 {b : Int} (h0 : 208 ≤ b) (h1 : b ≤ 250) : leastF b = 64 + 243 * (b - 208) ∧ trF b = 1 := by
  unfold leastF trF; rw [if_neg (by omega), if_neg (by omega), if_neg (by omega), if_neg (by omega), if_pos h1, if_neg (by omega), if_neg (by omega), if_neg (by omega), if_neg (by omega), if_pos h1]; exact ⟨rfl, rfl⟩
theorem band5 {b : Int} (h0 : 251 ≤ b) (h1 : b ≤ 253) : leastF b = 10513 + 59049 * (b - 251) ∧ trF b = 2 := by
  unfold leastF trF; rw [if_neg (by omega), if_neg (by omega), if_neg (by omega), if_neg (by omega), if_neg (by omega), if_pos h1, if_neg (by omega), if_neg (by omega), if_neg (by omega), if_neg (by omega), if_neg (by omega), if_pos h1]; exact ⟨rfl, rfl⟩
theorem band6 : leastF 254 = 187660 ∧ trF 254 = 3 := by decide
/-! ### The program's functions -/
theorem byte_at (k : Nat) (v : Int) (h0 : 0 ≤ v) (h1 : v ≤ 242) : diff_Byte.f (k + 1) v = some (wB v, true) := by
  simp only [diff_Byte.f, diff_Byte.j0, wB, wrap64, decide_eq_true_eq, Bool.false_eq_true, if_false, if_true]
  (repeat' split) <;> first | rfl | (exfalso; omega) | (congr 2; omega)
theorem byte_no (k : Nat) (v : Int) (h : v < 0 ∨ 242 < v) : diff_Byte.f (k + 1) v = some (0, false) := by
  simp only [diff_Byte.f, diff_Byte.j0, wrap64, decide_eq_true_eq, Bool.false_eq_true, if_false, if_true]
  (repeat' split) <;> first | rfl | (exfalso; omega)
theorem trail_at (k : Nat) (b : Int) (h0 : 0 ≤ b) (h1 : b ≤ 255) : diff_Trail.f (k + 2) b = some (tW b) := by
  simp only [diff_Trail.f, diff_Trail.j0, diff_Trail.j1, tW, wrap64, decide_eq_true_eq, Bool.false_eq_true, if_false, if_true]
  (repeat' split) <;> first | rfl | (exfalso; omega) | (congr 2; omega)
theorem first_at (b : Int) (h0 : 33 ≤ b) (h1 : b ≤ 254) : diff_first.f b = some (leastF b, trF b) := by
  simp only [diff_first.f, leastF, trF, wrap64]
  (repeat' split) <;> first | (exfalso; omega) | (congr 2 <;> omega)
theorem place_at (k : Nat) (d : Int) (h0 : -1114111 ≤ d) (h1 : d ≤ 1114111) : diff_place.f (k + 1) d = some (placeF d) := by
  simp only [diff_place.f, diff_place.j0, placeF, wrap64, decide_eq_true_eq, Bool.false_eq_true, if_false, if_true]
  (repeat' split) <;> first | (exfalso; omega) | (congr 2; omega) | (congr 2; congr 1; omega)
theorem l0_done (k : Nat) (left lead : Int) (out : List Int) (ho : 0 < out.length) (h0 : 0 ≤ lead + left) (h1 : lead + left ≤ 255) :
    diff_Pack.l0 (k + 1) left lead out 0 = some (strOfNums (out.set 0 (lead + left)), true) := by
  rw [diff_Pack.l0, if_neg (by omega), if_pos (by omega)]
  have e : wrap64 (lead + left) % 256 = lead + left := by unfold wrap64; omega
  rw [e]
  rfl
theorem l0_step (k : Nat) (left lead : Int) (out : List Int) (i : Int) (hi : 0 < i) (hl : i < out.length) (hi3 : i ≤ 3) (h0 : -100000000 ≤ left) (h1 : left ≤ 100000000) :
    diff_Pack.l0 (k + 2) left lead out i = diff_Pack.l0 (k + 1) (left / 243) lead (out.set i.toNat (wB (left % 243))) (i - 1) := by
  rw [diff_Pack.l0, if_pos (by omega)]
  have e1 : wrap64 (i - 1) = i - 1 := by unfold wrap64; omega
  rcases t243 left with ⟨ha, hd, hm⟩ | ⟨ha, hd, hm⟩
  · rw [if_neg (by omega), hm, byte_at k _ (by omega) (by omega), Option.bind_some, if_pos (by omega), if_pos hl, hd, w64 (by omega) (by omega), e1]
  · by_cases hz : left.tmod 243 < 0
    · have e2 : wrap64 (left.tmod 243 + 243) = left % 243 := by rw [w64 (by omega) (by omega)]; omega
      have e3 : wrap64 (wrap64 (left.tdiv 243) - 1) = left / 243 := by rw [w64 (x := left.tdiv 243) (by omega) (by omega), w64 (by omega) (by omega)]; omega
      rw [if_pos hz, e2, byte_at k _ (by omega) (by omega), Option.bind_some, if_pos (by omega), if_pos hl, e3, e1]
    · have e2 : left.tmod 243 = left % 243 := by omega
      have e3 : wrap64 (left.tdiv 243) = left / 243 := by rw [w64 (x := left.tdiv 243) (by omega) (by omega)]; omega
      rw [if_neg hz, e2, byte_at k _ (by omega) (by omega), Option.bind_some, if_pos (by omega), if_pos hl, e3, e1]
theorem pack_no (k : Nat) (d : Int) (h : d < -1114111 ∨ 1114111 < d) : diff_Pack.f (k + 1) d = some ((⟨#[]⟩ : ByteArray), false) := by
  by_cases a : d < -1114111
  · rw [diff_Pack.f, if_pos a, diff_Pack.j0, if_pos rfl]
  · rw [diff_Pack.f, if_neg a, decide_eq_true (by omega), diff_Pack.j0, if_pos rfl]
theorem pack_0 (k : Nat) (left lead : Int) (h0 : 0 ≤ lead + left) (h1 : lead + left ≤ 255) : diff_Pack.l0 (k + 5) left lead [0] 0 = some (strOfNums [lead + left], true) := by
  rw [l0_done (k + 4) _ _ _ (by simp) h0 h1]; rfl
theorem pack_1 (k : Nat) (left lead : Int) (b0 : -10000000 ≤ left) (b1 : left ≤ 10000000) (h0 : 0 ≤ lead + left / 243) (h1 : lead + left / 243 ≤ 255) :
    diff_Pack.l0 (k + 5) left lead [0, 0] 1 = some (strOfNums [lead + left / 243, wB (left % 243)], true) := by
  rw [l0_step (k + 3) _ _ _ _ (by omega) (by simp) (by omega) (by omega) (by omega)]
  rw [show (1 : Int) - 1 = 0 from rfl, l0_done (k + 3) _ _ _ (by simp) h0 h1]; rfl
theorem pack_2 (k : Nat) (left lead : Int) (b0 : -10000000 ≤ left) (b1 : left ≤ 10000000) (h0 : 0 ≤ lead + left / 243 / 243) (h1 : lead + left / 243 / 243 ≤ 255) :
    diff_Pack.l0 (k + 5) left lead [0, 0, 0] 2 = some (strOfNums [lead + left / 243 / 243, wB (left / 243 % 243), wB (left % 243)], true) := by
  rw [l0_step (k + 3) _ _ _ _ (by omega) (by simp) (by omega) (by omega) (by omega), show (2 : Int) - 1 = 1 from rfl]
  rw [l0_step (k + 2) _ _ _ _ (by omega) (by simp) (by omega) (by omega) (by omega), show (1 : Int) - 1 = 0 from rfl]
  rw [l0_done (k + 2) _ _ _ (by simp) h0 h1]; rfl
theorem pack_3 (k : Nat) (left lead : Int) (b0 : -10000000 ≤ left) (b1 : left ≤ 10000000) (h0 : 0 ≤ lead + left / 243 / 243 / 243) (h1 : lead + left / 243 / 243 / 243 ≤ 255) :
    diff_Pack.l0 (k + 5) left lead [0, 0, 0, 0] 3 = some (strOfNums [lead + left / 243 / 243 / 243, wB (left / 243 / 243 % 243), wB (left / 243 % 243), wB (left % 243)], true) := by
  rw [l0_step (k + 3) _ _ _ _ (by omega) (by simp) (by omega) (by omega) (by omega), show (3 : Int) - 1 = 2 from rfl]
  rw [l0_step (k + 2) _ _ _ _ (by omega) (by simp) (by omega) (by omega) (by omega), show (2 : Int) - 1 = 1 from rfl]
  rw [l0_step (k + 1) _ _ _ _ (by omega) (by simp) (by omega) (by omega) (by omega), show (1 : Int) - 1 = 0 from rfl]
  rw [l0_done (k + 1) _ _ _ (by simp) h0 h1]; rfl
theorem packF_0 {d : Int} (h0 : -64 ≤ d) (h1 : d ≤ 63) : packF d = [144 + d] := by
  have e : leadF d = 144 + d := by unfold leadF; (repeat' split) <;> omega
  have t : trF (144 + d) = 0 := by unfold trF; (repeat' split) <;> omega
  rw [packF, e, t]; rfl
theorem packF_t {d b x t : Int} (e : leadF d = b) (ht : trF b = t) (hx : d - leastF b = x) : packF d = b :: digs t x := by rw [packF, e, ht, hx]
theorem j0_open (k : Nat) (d : Int) (h0 : -1114111 ≤ d) (h1 : d ≤ 1114111) (left lead : Int) (t : Int) (ht0 : 0 ≤ t) (ht : t ≤ 3) (hp : placeF d = (left, lead, t)) :
    diff_Pack.f (k + 6) d = diff_Pack.l0 (k + 5) left lead (List.replicate (t + 1).toNat 0) t := by
  rw [diff_Pack.f, if_neg (by omega), decide_eq_false (by omega), diff_Pack.j0, if_neg (by simp), place_at (k + 4) d h0 h1, hp, Option.bind_some]
  have e : wrap64 (t + 1) = t + 1 := by unfold wrap64; omega
  simp only [e]
  rw [if_pos (by omega), if_pos (by omega)]
theorem pack_at (k : Nat) (d : Int) (h0 : -1114111 ≤ d) (h1 : d ≤ 1114111) : diff_Pack.f (k + 6) d = some (strOfNums (packF d), true) := by
  by_cases c0 : -64 ≤ d ∧ d ≤ 63
  · have hp : placeF d = (0, 144 + d, 0) := by unfold placeF; rw [if_pos c0]
    rw [j0_open k d h0 h1 _ _ _ (by omega) (by omega) hp, packF_0 c0.1 c0.2]
    exact (pack_0 k 0 (144 + d) (by omega) (by omega)).trans (by rw [Int.add_zero])
  by_cases c1 : d > 187659
  · have hp : placeF d = (d - 187660, 254, 3) := by unfold placeF; rw [if_neg c0, if_pos c1]
    rw [j0_open k d h0 h1 _ _ _ (by omega) (by omega) hp]
    refine (pack_3 k _ _ (by omega) (by omega) (by omega) (by omega)).trans ?_
    rw [packF_t (b := 254) (t := 3) (x := d - 187660) (by unfold leadF; (repeat' split) <;> omega) (by decide) (by rw [show leastF 254 = 187660 by decide])]
    rw [show (254 : Int) + (d - 187660) / 243 / 243 / 243 = 254 by omega]; rfl
  by_cases c2 : d > 10512
  · have hp : placeF d = (d - 10513, 251, 2) := by unfold placeF; rw [if_neg c0, if_neg c1, if_pos c2]
    rw [j0_open k d h0 h1 _ _ _ (by omega) (by omega) hp]
    refine (pack_2 k _ _ (by omega) (by omega) (by omega) (by omega)).trans ?_
    have el : leastF (251 + (d - 10513) / 59049) = 10513 + 59049 * ((d - 10513) / 59049) := by unfold leastF; (repeat' split) <;> omega
    rw [packF_t (b := 251 + (d - 10513) / 59049) (t := 2) (x := (d - 10513) - 59049 * ((d - 10513) / 59049)) (by unfold leadF; (repeat' split) <;> omega) (by unfold trF; (repeat' split) <;> omega) (by rw [el]; omega)]
    rw [show (251 : Int) + (d - 10513) / 243 / 243 = 251 + (d - 10513) / 59049 by omega]
    unfold digs
    rw [if_neg (by decide), if_neg (by decide), if_pos rfl]
    rw [show ((d - 10513) - 59049 * ((d - 10513) / 59049)) / 243 % 243 = (d - 10513) / 243 % 243 by omega, show ((d - 10513) - 59049 * ((d - 10513) / 59049)) % 243 = (d - 10513) % 243 by omega]
  by_cases c3 : d > 63
  · have hp : placeF d = (d - 64, 208, 1) := by unfold placeF; rw [if_neg c0, if_neg c1, if_neg c2, if_pos c3]
    rw [j0_open k d h0 h1 _ _ _ (by omega) (by omega) hp]
    refine (pack_1 k _ _ (by omega) (by omega) (by omega) (by omega)).trans ?_
    have el : leastF (208 + (d - 64) / 243) = 64 + 243 * ((d - 64) / 243) := by unfold leastF; (repeat' split) <;> omega
    rw [packF_t (b := 208 + (d - 64) / 243) (t := 1) (x := (d - 64) - 243 * ((d - 64) / 243)) (by unfold leadF; (repeat' split) <;> omega) (by unfold trF; (repeat' split) <;> omega) (by rw [el]; omega)]
    unfold digs
    rw [if_neg (by decide), if_pos rfl]
    rw [show ((d - 64) - 243 * ((d - 64) / 243)) % 243 = (d - 64) % 243 by omega]
  by_cases c4 : d < -187660
  · have hp : placeF d = (d + 187660, 34, 3) := by unfold placeF; rw [if_neg c0, if_neg c1, if_neg c2, if_neg c3, if_pos c4]
    rw [j0_open k d h0 h1 _ _ _ (by omega) (by omega) hp]
    refine (pack_3 k _ _ (by omega) (by omega) (by omega) (by omega)).trans ?_
    rw [packF_t (b := 33) (t := 3) (x := d + 14536567) (by unfold leadF; (repeat' split) <;> omega) (by decide) (by rw [show leastF 33 = -14536567 by decide]; omega)]
    rw [show (34 : Int) + (d + 187660) / 243 / 243 / 243 = 33 by omega]
    unfold digs
    rw [if_neg (by decide), if_neg (by decide), if_neg (by decide)]
    rw [show (d + 14536567) / 243 / 243 % 243 = (d + 187660) / 243 / 243 % 243 by omega, show (d + 14536567) / 243 % 243 = (d + 187660) / 243 % 243 by omega, show (d + 14536567) % 243 = (d + 187660) % 243 by omega]
  by_cases c5 : d < -10513
  · have hp : placeF d = (d + 10513, 37, 2) := by unfold placeF; rw [if_neg c0, if_neg c1, if_neg c2, if_neg c3, if_neg c4, if_pos c5]
    rw [j0_open k d h0 h1 _ _ _ (by omega) (by omega) hp]
    refine (pack_2 k _ _ (by omega) (by omega) (by omega) (by omega)).trans ?_
    have el : leastF (34 + (d + 187660) / 59049) = -187660 + 59049 * ((d + 187660) / 59049) := by unfold leastF; (repeat' split) <;> omega
    rw [packF_t (b := 34 + (d + 187660) / 59049) (t := 2) (x := (d + 187660) - 59049 * ((d + 187660) / 59049)) (by unfold leadF; (repeat' split) <;> omega) (by unfold trF; (repeat' split) <;> omega) (by rw [el]; omega)]
    rw [show (37 : Int) + (d + 10513) / 243 / 243 = 34 + (d + 187660) / 59049 by omega]
    unfold digs
    rw [if_neg (by decide), if_neg (by decide), if_pos rfl]
    rw [show ((d + 187660) - 59049 * ((d + 187660) / 59049)) / 243 % 243 = (d + 10513) / 243 % 243 by omega, show ((d + 187660) - 59049 * ((d + 187660) / 59049)) % 243 = (d + 10513) % 243 by omega]
  · have hp : placeF d = (d + 64, 80, 1) := by unfold placeF; rw [if_neg c0, if_neg c1, if_neg c2, if_neg c3, if_neg c4, if_neg c5]
    rw [j0_open k d h0 h1 _ _ _ (by omega) (by omega) hp]
    refine (pack_1 k _ _ (by omega) (by omega) (by omega) (by omega)).trans ?_
    have el : leastF (37 + (d + 10513) / 243) = -10513 + 243 * ((d + 10513) / 243) := by unfold leastF; (repeat' split) <;> omega
    rw [packF_t (b := 37 + (d + 10513) / 243) (t := 1) (x := (d + 10513) - 243 * ((d + 10513) / 243)) (by unfold leadF; (repeat' split) <;> omega) (by unfold trF; (repeat' split) <;> omega) (by rw [el]; omega)]
    rw [show (80 : Int) + (d + 64) / 243 = 37 + (d + 10513) / 243 by omega]
    unfold digs
    rw [if_neg (by decide), if_pos rfl]
    rw [show ((d + 10513) - 243 * ((d + 10513) / 243)) % 243 = (d + 64) % 243 by omega]
/-! ### Strings of numbers -/
theorem ofNums_toList (xs : List Int) : (strOfNums xs).toList = xs.map fun n => UInt8.ofNat n.toNat := by unfold strOfNums; rw [ByteArray.toList_mk]
theorem ofNums_size (xs : List Int) : (strOfNums xs).size = xs.length := by simp [strOfNums, ByteArray.size]
theorem bt_ofNums (xs : List Int) (i : Nat) (x : Int) (h : xs[i]? = some x) (h0 : 0 ≤ x) (h1 : x ≤ 255) : bt (strOfNums xs) i = x := by
  obtain ⟨hi, hx⟩ := List.getElem?_eq_some_iff.1 h
  have hs : ((i : Nat) : Int).toNat < (strOfNums xs).size := by rw [ofNums_size]; simpa using hi
  rw [bt, dif_pos hs]
  have e : (strOfNums xs)[((i : Nat) : Int).toNat]'hs = UInt8.ofNat x.toNat := by
    simp only [strOfNums, Int.toNat_natCast, ByteArray.getElem_eq_getElem_data, List.getElem_toArray, List.getElem_map, hx]
  rw [e, UInt8.toNat_ofNat']
  omega
theorem rng_hit (k : Nat) (s : ByteArray) (from_ tr v span : Int) (i : Int) (hi0 : 1 ≤ i) (hi : i ≤ tr) (h3 : tr ≤ 3) (hs : i < (s.size : Int)) (b0 : 0 ≤ bt s i) (b1 : bt s i ≤ 255) (v0 : 0 ≤ v) (v1 : v ≤ 100000000) :
    diff_Range.l0 (k + 3) s from_ tr v span i = if (tW (bt s i)).2 = true then diff_Range.l0 (k + 2) s from_ tr (v * 243 + (tW (bt s i)).1) span (i + 1) else some (0, 0, 0, false) := by
  rw [diff_Range.l0, if_pos hi, if_neg (by omega), if_pos (by omega), if_pos hs, trail_at k _ b0 b1, Option.bind_some]
  have e1 : wrap64 (i + 1) = i + 1 := by unfold wrap64; omega
  by_cases c : (tW (bt s i)).2 = true
  · obtain ⟨h1, h2, _⟩ := tW_some b0 b1 c
    have e2 : wrap64 (wrap64 (v * 243) + (tW (bt s i)).1) = v * 243 + (tW (bt s i)).1 := by rw [w64 (x := v * 243) (by omega) (by omega), w64 (by omega) (by omega)]
    rw [if_pos c, if_pos c, e1, e2]
  · rw [if_neg c, if_neg c]
theorem rng_miss (k : Nat) (s : ByteArray) (from_ tr v span : Int) (i : Int) (hi0 : 1 ≤ i) (hi : i ≤ tr) (h3 : tr ≤ 3) (hs : (s.size : Int) ≤ i) (v0 : 0 ≤ v) (v1 : v ≤ 100000000) (s0 : 0 ≤ span) (s1 : span ≤ 100000000) :
    diff_Range.l0 (k + 1) s from_ tr v span i = diff_Range.l0 k s from_ tr (v * 243) (span * 243) (i + 1) := by
  rw [diff_Range.l0, if_pos hi, if_pos (by omega)]
  rw [w64 (x := i + 1) (by omega) (by omega), w64 (x := v * 243) (by omega) (by omega), w64 (x := span * 243) (by omega) (by omega)]
theorem rng_done (k : Nat) (s : ByteArray) (from_ tr v span : Int) (i : Int) (hi : tr < i) (h0 : 0 ≤ tr) (h3 : tr ≤ 3) (f0 : -100000000 ≤ from_) (f1 : from_ ≤ 100000000) (v0 : 0 ≤ v) (v1 : v ≤ 100000000) (s0 : 0 ≤ span) (s1 : span ≤ 100000000) :
    diff_Range.l0 (k + 1) s from_ tr v span i = some (from_ + v, from_ + v + span - 1, tr + 1, true) := by
  rw [diff_Range.l0, if_neg (by omega)]
  rw [w64 (x := from_ + v) (by omega) (by omega), w64 (x := from_ + v + span) (by omega) (by omega), w64 (x := from_ + v + span - 1) (by omega) (by omega), w64 (x := tr + 1) (by omega) (by omega)]
theorem lead_range {d : Int} (h0 : -1114111 ≤ d) (h1 : d ≤ 1114111) : 33 ≤ leadF d ∧ leadF d ≤ 254 := by unfold leadF; (repeat' split) <;> omega
theorem tr_range {b : Int} : 0 ≤ trF b ∧ trF b ≤ 3 := by unfold trF; (repeat' split) <;> omega
theorem least_range {b : Int} (h0 : 33 ≤ b) (h1 : b ≤ 254) : -14536567 ≤ leastF b ∧ leastF b ≤ 187660 := by unfold leastF; (repeat' split) <;> omega
/-- What is left of a difference behind its first byte's least one: a number of so many digits. -/
theorem left_range {d : Int} (h0 : -1114111 ≤ d) (h1 : d ≤ 1114111) : 0 ≤ d - leastF (leadF d) ∧ (trF (leadF d) = 0 → d - leastF (leadF d) = 0) ∧ (trF (leadF d) = 1 → d - leastF (leadF d) ≤ 242) ∧ (trF (leadF d) = 2 → d - leastF (leadF d) ≤ 59048) ∧ (trF (leadF d) = 3 → d - leastF (leadF d) ≤ 14348906) := by
  by_cases c0 : d < -187660
  · have e : leadF d = 33 := by unfold leadF; rw [if_pos c0]
    rw [e, band0.1, band0.2]
    refine ⟨?_, ?_, ?_, ?_, ?_⟩ <;> omega
  by_cases c1 : d < -10513
  · have e : leadF d = 34 + (d + 187660) / 59049 := by unfold leadF; rw [if_neg c0, if_pos c1]
    have b := @band1 (leadF d) (by omega) (by omega)
    rw [b.1, b.2]
    refine ⟨?_, ?_, ?_, ?_, ?_⟩ <;> omega
  by_cases c2 : d < -64
  · have e : leadF d = 37 + (d + 10513) / 243 := by unfold leadF; rw [if_neg c0, if_neg c1, if_pos c2]
    have b := @band2 (leadF d) (by omega) (by omega)
    rw [b.1, b.2]
    refine ⟨?_, ?_, ?_, ?_, ?_⟩ <;> omega
  by_cases c3 : d ≤ 63
  · have e : leadF d = 144 + d := by unfold leadF; rw [if_neg c0, if_neg c1, if_neg c2, if_pos c3]
    have b := @band3 (leadF d) (by omega) (by omega)
    rw [b.1, b.2]
    refine ⟨?_, ?_, ?_, ?_, ?_⟩ <;> omega
  by_cases c4 : d ≤ 10512
  · have e : leadF d = 208 + (d - 64) / 243 := by unfold leadF; rw [if_neg c0, if_neg c1, if_neg c2, if_neg c3, if_pos c4]
    have b := @band4 (leadF d) (by omega) (by omega)
    rw [b.1, b.2]
    refine ⟨?_, ?_, ?_, ?_, ?_⟩ <;> omega
  by_cases c5 : d ≤ 187659
  · have e : leadF d = 251 + (d - 10513) / 59049 := by unfold leadF; rw [if_neg c0, if_neg c1, if_neg c2, if_neg c3, if_neg c4, if_pos c5]
    have b := @band5 (leadF d) (by omega) (by omega)
    rw [b.1, b.2]
    refine ⟨?_, ?_, ?_, ?_, ?_⟩ <;> omega
  · have e : leadF d = 254 := by unfold leadF; rw [if_neg c0, if_neg c1, if_neg c2, if_neg c3, if_neg c4, if_neg c5]
    rw [e, band6.1, band6.2]
    refine ⟨?_, ?_, ?_, ?_, ?_⟩ <;> omega
theorem ne_nil_of_size {s : ByteArray} (hs : 0 < s.size) : ¬ s.toList = ([] : List UInt8) := by
  intro e
  have h := congrArg List.length e
  rw [ByteArray.toList_eq, Array.length_toList, List.length_nil] at h
  have h2 : s.size = s.data.size := rfl
  omega
theorem nil_of_size {s : ByteArray} (hs : s.size = 0) : s.toList = ([] : List UInt8) := by
  have h2 : s.size = s.data.size := rfl
  rw [ByteArray.toList_eq]
  exact List.eq_nil_of_length_eq_zero (by rw [Array.length_toList]; omega)
theorem range_open (k : Nat) (s : ByteArray) (b : Int) (hb : bt s 0 = b) (h0 : 33 ≤ b) (h1 : b ≤ 254) (hs : 0 < s.size) :
    diff_Range.f (k + 1) s = if (s.size : Int) > trF b + 1 then some (0, 0, 0, false) else diff_Range.l0 k s (leastF b) (trF b) 0 1 1 := by
  have hne := ne_nil_of_size hs
  have ht := @tr_range b
  rw [diff_Range.f, if_neg hne, if_pos (by omega), hb, if_neg (by omega), decide_eq_false (by omega), diff_Range.j0, if_neg (by simp), if_pos (by omega), hb, first_at b h0 h1, Option.bind_some]
  rw [w64 (x := trF b + 1) (by omega) (by omega)]
theorem prev_at (k : Nat) (c : Int) : diff_Prev.f (k + 2) c = some (if 12352 ≤ c ∧ c ≤ 12447 then 12400 else if 19968 ≤ c ∧ c ≤ 40869 then 30481 else if 44032 ≤ c ∧ c ≤ 55203 then 49617 else (Go.bits .andNot .u32 c 127 + 64) % 4294967296) := by
  simp only [diff_Prev.f, diff_Prev.j0, diff_Prev.j1, decide_eq_true_eq, Bool.false_eq_true, if_false, if_true]
  (repeat' split) <;> first | rfl | (exfalso; omega)
theorem awake_at (k : Nat) : pilcrowlaw11_awake.f (k + 8) = some true := by
  rw [pilcrowlaw11_awake.f]
  rw [pack_at (k + 2) 65215 (by decide) (by decide), pack_at (k + 2) (-65) (by decide) (by decide), pack_at (k + 2) 64 (by decide) (by decide), pack_no (k + 7) 1114112 (by decide)]
  have hr : diff_Range.f (k + 8) (⟨#[208]⟩ : ByteArray) = some (64, 306, 2, true) := by
    have e := range_open (k + 7) (⟨#[208]⟩ : ByteArray) 208 (by decide) (by decide) (by decide) (by decide)
    rw [show trF 208 = 1 by decide, show leastF 208 = 64 by decide] at e
    rw [e, if_neg (by decide)]
    rw [rng_miss (k + 6) _ _ _ _ _ _ (by decide) (by decide) (by decide) (by decide) (by decide) (by decide) (by decide) (by decide)]
    exact rng_done (k + 5) _ _ _ _ _ _ (by decide) (by decide) (by decide) (by decide) (by decide) (by decide) (by decide) (by decide) (by decide)
  rw [hr, prev_at (k + 6), prev_at (k + 6)]
  simp only [Option.bind_some, ofNums_toList]
  have p1 : packF 65215 = [251, 238, 40] := by decide
  have p2 : packF (-65) = [79, 255] := by decide
  have p3 : packF 64 = [208, 1] := by decide
  have p4 : (Go.bits .andNot .u32 65 127 + 64) % 4294967296 = 64 := by decide
  rw [p1, p2, p3, p4]
  decide
theorem refprev_at (k : Nat) (c : Int) (h0 : 0 ≤ c) (h1 : c ≤ 4294967295) : pilcrowref11_Prev.f (k + 2) c = some (if 12352 ≤ c ∧ c ≤ 12447 then 12400 else if 19968 ≤ c ∧ c ≤ 40869 then 30481 else if 44032 ≤ c ∧ c ≤ 55203 then 49617 else c / 128 * 128 + 64) := by
  have ht : c.tdiv 128 = c / 128 := Int.tdiv_eq_ediv_of_nonneg h0
  have hv : c.tdiv 128 % 4294967296 * 128 % 4294967296 + 64 = c / 128 * 128 + 64 := by rw [ht]; omega
  have hw : (c.tdiv 128 % 4294967296 * 128 % 4294967296 + 64) % 4294967296 = c / 128 * 128 + 64 := by rw [hv]; omega
  unfold pilcrowref11_Prev.f
  simp only [pilcrowref11_Prev.j0, pilcrowref11_Prev.j1, hw, decide_eq_true_eq, ge_iff_le]
  repeat' split
  all_goals first | contradiction | rfl | (exfalso; omega) | (rw [hw])
theorem and_mask (n : Nat) (h : n < 4294967296) : n &&& 4294967168 = n / 128 * 128 := by
  apply Nat.eq_of_testBit_eq
  intro i
  have e1 : (4294967168 : Nat) = (2 ^ 25 - 1) <<< 7 := rfl
  have e2 : n / 128 * 128 = (n >>> 7) <<< 7 := by rw [Nat.shiftLeft_eq, Nat.shiftRight_eq_div_pow]
  rw [Nat.testBit_and, e1, e2, Nat.testBit_shiftLeft, Nat.testBit_shiftLeft, Nat.testBit_shiftRight, Nat.testBit_two_pow_sub_one]
  by_cases h7 : 7 ≤ i
  · have e3 : 7 + (i - 7) = i := by omega
    rw [e3]
    by_cases h25 : i - 7 < 25
    · simp [h7, h25]
    · have hb : n.testBit i = false := Nat.testBit_lt_two_pow (Nat.lt_of_lt_of_le h (show 4294967296 ≤ 2 ^ i from Nat.le_trans (by decide) (Nat.pow_le_pow_right (by decide) (show 32 ≤ i by omega))))
      simp [hb]
  · simp [h7]
theorem andNot_127 (c : Int) (h0 : 0 ≤ c) (h1 : c ≤ 4294967295) : Go.bits .andNot .u32 c 127 = c / 128 * 128 := by
  rw [u32_andNot c 127 h0 (by omega) (by omega) (by omega), show 4294967295 - (127 : Int).toNat = 4294967168 by decide, and_mask c.toNat (by omega)]
  omega
theorem DiffPrev : pilcrowlaw11_DiffPrev.Pure := by
  intro c hw
  have hr : 0 ≤ c ∧ c ≤ 4294967295 := by
    have h := hw
    simp only [Lit.wf, Bool.and_eq_true, decide_eq_true_eq] at h
    have e1 : (IntKind.u32.min : Int) = 0 := by decide
    have e2 : (IntKind.u32.max : Int) = 4294967295 := by decide
    omega
  refine ⟨8, ?_⟩
  have ha := awake_at 0
  have h2 := refprev_at 6 c hr.1 hr.2
  have h1 := prev_at 6 c
  rw [andNot_127 c hr.1 hr.2, show (c / 128 * 128 + 64) % 4294967296 = c / 128 * 128 + 64 by omega] at h1
  generalize hp : (if 12352 ≤ c ∧ c ≤ 12447 then (12400 : Int) else if 19968 ≤ c ∧ c ≤ 40869 then 30481 else if 44032 ≤ c ∧ c ≤ 55203 then 49617 else c / 128 * 128 + 64) = p at *
  have hpr : (0 ≤ p ∧ p ≤ 4294967295) ∧ (c ≤ 1114111 → p - c ≤ 187660 ∧ c - p ≤ 187660) := by
    rw [← hp]
    (repeat' split) <;> omega
  have w1 : wrap64 c = c := w64 (by omega) (by omega)
  have w2 : wrap64 p = p := w64 (by omega) (by omega)
  have w3 : wrap64 (p - c) = p - c := w64 (by omega) (by omega)
  have w4 : wrap64 (c - p) = c - p := w64 (by omega) (by omega)
  rw [pilcrowlaw11_DiffPrev.f, h1, Option.bind_some, ha, Option.bind_some, if_pos rfl, h2, Option.bind_some, if_pos rfl, w1, w2, w3, w4]
  by_cases hc : c > 1114111
  · rw [if_pos hc]
  · have := hpr.2 (by omega)
    rw [if_neg hc, if_pos this.1, decide_eq_true this.2]

end Go.Proofs.Ytceplnpponepkaa.Pure
