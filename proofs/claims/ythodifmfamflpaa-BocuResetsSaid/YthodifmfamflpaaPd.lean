/- Differences as bytes: what package diff and the reference of layer 11 compute. -/
import Derived.Test.YthodifmfamflpaaMx
import Derived.Test.YthodifmfamflpaaPBocuExtendsx1
import Derived.Test.YthodifmfamflpaaPBocuExtendsx2
import Derived.Test.YthodifmfamflpaaMy
namespace Go.Proofs.Ythodifmfamflpaa.D
open Go.RowKit Go.Proofs.YthodifmfamflpaaW.PrintWords Go.Proofs.YthodifmfamflpaaW.PrintLast Go.Proofs.YthodifmfamflpaaW.PrintMore PBocuExtends
set_option linter.unusedVariables false
set_option linter.unusedSimpArgs false
def wB (v : Int) : Int := if v < 6 then v + 1 else if v < 16 then v + 10 else if v < 20 then v + 12 else v + 13
def tW (b : Int) : Int × Bool := if 33 ≤ b then (b - 13, true) else if 28 ≤ b ∧ b ≤ 31 then (b - 12, true) else if 16 ≤ b ∧ b ≤ 25 then (b - 10, true) else if 1 ≤ b ∧ b ≤ 6 then (b - 1, true) else (0, false)
def leastF (b : Int) : Int := if b = 33 then -14536567 else if b ≤ 36 then -187660 + 59049 * (b - 34) else if b ≤ 79 then -10513 + 243 * (b - 37) else if b ≤ 207 then b - 144 else if b ≤ 250 then 64 + 243 * (b - 208) else if b ≤ 253 then 10513 + 59049 * (b - 251) else 187660
def trF (b : Int) : Int := if b = 33 then 3 else if b ≤ 36 then 2 else if b ≤ 79 then 1 else if b ≤ 207 then 0 else if b ≤ 250 then 1 else if b ≤ 253 then 2 else 3
def leadF (d : Int) : Int := if d < -187660 then 33 else if d < -10513 then 34 + (d + 187660) / 59049 else if d < -64 then 37 + (d + 10513) / 243 else if d ≤ 63 then 144 + d else if d ≤ 10512 then 208 + (d - 64) / 243 else if d ≤ 187659 then 251 + (d - 10513) / 59049 else 254
def placeF (d : Int) : Int × Int × Int := if -64 ≤ d ∧ d ≤ 63 then (0, 144 + d, 0) else if d > 187659 then (d - 187660, 254, 3) else if d > 10512 then (d - 10513, 251, 2) else if d > 63 then (d - 64, 208, 1) else if d < -187660 then (d + 187660, 34, 3) else if d < -10513 then (d + 10513, 37, 2) else (d + 64, 80, 1)
def digs (t x : Int) : List Int := if t = 0 then [] else if t = 1 then [wB (x % 243)] else if t = 2 then [wB (x / 243 % 243), wB (x % 243)] else [wB (x / 243 / 243 % 243), wB (x / 243 % 243), wB (x % 243)]
def packF (d : Int) : List Int := leadF d :: digs (trF (leadF d)) (d - leastF (leadF d))
theorem w64 {x : Int} (h1 : -9223372036854775808 ≤ x) (h2 : x < 9223372036854775808) : wrap64 x = x := by unfold wrap64; omega
theorem wB_range {v : Int} (h0 : 0 ≤ v) (h1 : v ≤ 242) : 1 ≤ wB v ∧ wB v ≤ 255 := by unfold wB; split <;> (try split) <;> (try split) <;> omega
theorem tW_wB {v : Int} (h0 : 0 ≤ v) (h1 : v ≤ 242) : tW (wB v) = (v, true) := by
  unfold tW wB
  (repeat' split) <;> first | (exfalso; omega) | (congr 1; omega)
theorem wB_lt {v w : Int} : wB v < wB w ↔ v < w := by
  unfold wB
  (repeat' split) <;> omega
theorem wB_inj {v w : Int} : wB v = wB w ↔ v = w := by
  unfold wB
  (repeat' split) <;> omega
theorem tW_some {b : Int} (h0 : 0 ≤ b) (h1 : b ≤ 255) (h : (tW b).2 = true) : 0 ≤ (tW b).1 ∧ (tW b).1 ≤ 242 ∧ wB (tW b).1 = b := by
  unfold tW at h ⊢
  unfold wB
  (repeat' split at h) <;> simp_all <;> (repeat' split) <;> omega
theorem tW_none {b : Int} (h : (tW b).2 = false) : (tW b).1 = 0 ∧ ∀ v, 0 ≤ v → v ≤ 242 → wB v ≠ b := by
  constructor
  · unfold tW at h ⊢
    by_cases c1 : 33 ≤ b
    · rw [if_pos c1] at h; cases h
    rw [if_neg c1] at h ⊢
    by_cases c2 : 28 ≤ b ∧ b ≤ 31
    · rw [if_pos c2] at h; cases h
    rw [if_neg c2] at h ⊢
    by_cases c3 : 16 ≤ b ∧ b ≤ 25
    · rw [if_pos c3] at h; cases h
    rw [if_neg c3] at h ⊢
    by_cases c4 : 1 ≤ b ∧ b ≤ 6
    · rw [if_pos c4] at h; cases h
    rw [if_neg c4]
  · intro v h0 h1 e
    subst e
    rw [tW_wB h0 h1] at h
    cases h
theorem t243 (a : Int) : (0 ≤ a ∧ a.tdiv 243 = a / 243 ∧ a.tmod 243 = a % 243) ∨ (a < 0 ∧ a.tdiv 243 = -((-a) / 243) ∧ a.tmod 243 = -((-a) % 243)) := by
  by_cases h : 0 ≤ a
  · exact .inl ⟨h, Int.tdiv_eq_ediv_of_nonneg h, Int.tmod_eq_emod_of_nonneg h⟩
  · refine .inr ⟨by omega, ?_, ?_⟩
    · rw [← Int.tdiv_eq_ediv_of_nonneg (by omega : 0 ≤ -a), Int.neg_tdiv, Int.neg_neg]
    · rw [← Int.tmod_eq_emod_of_nonneg (by omega : 0 ≤ -a), Int.neg_tmod, Int.neg_neg]
theorem band0 : leastF 33 = -14536567 ∧ trF 33 = 3 := by decide
theorem band1 {b : Int} (h0 : 34 ≤ b) (h1 : b ≤ 36) : leastF b = -187660 + 59049 * (b - 34) ∧ trF b = 2 := by
  unfold leastF trF; rw [if_neg (by omega), if_pos h1, if_neg (by omega), if_pos h1]; exact ⟨rfl, rfl⟩
theorem band2 {b : Int} (h0 : 37 ≤ b) (h1 : b ≤ 79) : leastF b = -10513 + 243 * (b - 37) ∧ trF b = 1 := by
  unfold leastF trF; rw [if_neg (by omega), if_neg (by omega), if_pos h1, if_neg (by omega), if_neg (by omega), if_pos h1]; exact ⟨rfl, rfl⟩
theorem band3 {b : Int} (h0 : 80 ≤ b) (h1 : b ≤ 207) : leastF b = b - 144 ∧ trF b = 0 := by
  unfold leastF trF; rw [if_neg (by omega), if_neg (by omega), if_neg (by omega), if_pos h1, if_neg (by omega), if_neg (by omega), if_neg (by omega), if_pos h1]; exact ⟨rfl, rfl⟩
theorem band4 {b : Int} (h0 : 208 ≤ b) (h1 : b ≤ 250) : leastF b = 64 + 243 * (b - 208) ∧ trF b = 1 := by
  unfold leastF trF; rw [if_neg (by omega), if_neg (by omega), if_neg (by omega), if_neg (by omega), if_pos h1, if_neg (by omega), if_neg (by omega), if_neg (by omega), if_neg (by omega), if_pos h1]; exact ⟨rfl, rfl⟩
theorem band5 {b : Int} (h0 : 251 ≤ b) (h1 : b ≤ 253) : leastF b = 10513 + 59049 * (b - 251) ∧ trF b = 2 := by
  unfold leastF trF; rw [if_neg (by omega), if_neg (by omega), if_neg (by omega), if_neg (by omega), if_neg (by omega), if_pos h1, if_neg (by omega), if_neg (by omega), if_neg (by omega), if_neg (by omega), if_neg (by omega), if_pos h1]; exact ⟨rfl, rfl⟩
theorem band6 : leastF 254 = 187660 ∧ trF 254 = 3 := by decide

theorem byte_at (k : Nat) (v : Int) (h0 : 0 ≤ v) (h1 : v ≤ 242) : diff_Byte.f (k + 1) v = some (wB v, true) := by
  simp only [diff_Byte.f, diff_Byte.j0, wB, wrap64, decide_eq_true_eq, Bool.false_eq_true, if_false, if_true]
  (repeat' split) <;> first | rfl | (exfalso; omega) | (congr 2; omega)
theorem byte_no (k : Nat) (v : Int) (h : v < 0 ∨ 242 < v) : diff_Byte.f (k + 1) v = some (0, false) := by
  simp only [diff_Byte.f, diff_Byte.j0, wrap64, decide_eq_true_eq, Bool.false_eq_true, if_false, if_true]
  (repeat' split) <;> first | rfl | (exfalso; omega)
theorem trail_at (k : Nat) (b : Int) (h0 : 0 ≤ b) (h1 : b ≤ 255) : diff_Trail.f (k + 2) b = some (tW b) := by
  simp only [diff_Trail.f, diff_Trail.j0, diff_Trail.j1, tW, wrap64, decide_eq_true_eq, Bool.false_eq_true, if_false, if_true]
  (repeat' split) <;> first | rfl | (exfalso; omega) | (congr 2; omega)
theorem first_at (b : Int) (h0 : 33 ≤ b) (h1 : b ≤ 254) : diff_first.f b = some (leastF b, trF b) := by
  simp only [diff_first.f, leastF, trF, wrap64]
  (repeat' split) <;> first | (exfalso; omega) | (congr 2 <;> omega)
theorem place_at (k : Nat) (d : Int) (h0 : -1114111 ≤ d) (h1 : d ≤ 1114111) : diff_place.f (k + 1) d = some (placeF d) := by
  simp only [diff_place.f, diff_place.j0, placeF, wrap64, decide_eq_true_eq, Bool.false_eq_true, if_false, if_true]
  (repeat' split) <;> first | (exfalso; omega) | (congr 2; omega) | (congr 2; congr 1; omega)
theorem l0_done (k : Nat) (left lead : Int) (out : List Int) (ho : 0 < out.length) (h0 : 0 ≤ lead + left) (h1 : lead + left ≤ 255) :
    diff_Pack.l0 (k + 1) left lead out 0 = some (strOfNums (out.set 0 (lead + left)), true) := by
  rw [diff_Pack.l0, if_neg (by omega), if_pos (by omega)]
  have e : wrap64 (lead + left) % 256 = lead + left := by unfold wrap64; omega
  rw [e]
  rfl
theorem l0_step (k : Nat) (left lead : Int) (out : List Int) (i : Int) (hi : 0 < i) (hl : i < out.length) (hi3 : i ≤ 3) (h0 : -100000000 ≤ left) (h1 : left ≤ 100000000) :
    diff_Pack.l0 (k + 2) left lead out i = diff_Pack.l0 (k + 1) (left / 243) lead (out.set i.toNat (wB (left % 243))) (i - 1) := by
  rw [diff_Pack.l0, if_pos (by omega)]
  have e1 : wrap64 (i - 1) = i - 1 := by unfold wrap64; omega
  rcases t243 left with ⟨ha, hd, hm⟩ | ⟨ha, hd, hm⟩
  · rw [if_neg (by omega), hm, byte_at k _ (by omega) (by omega), Option.bind_some, if_pos (by omega), if_pos hl, hd, w64 (by omega) (by omega), e1]
  · by_cases hz : left.tmod 243 < 0
    · have e2 : wrap64 (left.tmod 243 + 243) = left % 243 := by rw [w64 (by omega) (by omega)]; omega
      have e3 : wrap64 (wrap64 (left.tdiv 243) - 1) = left / 243 := by rw [w64 (x := left.tdiv 243) (by omega) (by omega), w64 (by omega) (by omega)]; omega
      rw [if_pos hz, e2, byte_at k _ (by omega) (by omega), Option.bind_some, if_pos (by omega), if_pos hl, e3, e1]
    · have e2 : left.tmod 243 = left % 243 := by omega
      have e3 : wrap64 (left.tdiv 243) = left / 243 := by rw [w64 (x := left.tdiv 243) (by omega) (by omega)]; omega
      rw [if_neg hz, e2, byte_at k _ (by omega) (by omega), Option.bind_some, if_pos (by omega), if_pos hl, e3, e1]
theorem pack_no (k : Nat) (d : Int) (h : d < -1114111 ∨ 1114111 < d) : diff_Pack.f (k + 1) d = some ((⟨#[]⟩ : ByteArray), false) := by
  by_cases a : d < -1114111
  · rw [diff_Pack.f, if_pos a, diff_Pack.j0, if_pos rfl]
  · rw [diff_Pack.f, if_neg a, decide_eq_true (by omega), diff_Pack.j0, if_pos rfl]
theorem pack_0 (k : Nat) (left lead : Int) (h0 : 0 ≤ lead + left) (h1 : lead + left ≤ 255) : diff_Pack.l0 (k + 5) left lead [0] 0 = some (strOfNums [lead + left], true) := by
  rw [l0_done (k + 4) _ _ _ (by simp) h0 h1]; rfl
theorem pack_1 (k : Nat) (left lead : Int) (b0 : -10000000 ≤ left) (b1 : left ≤ 10000000) (h0 : 0 ≤ lead + left / 243) (h1 : lead + left / 243 ≤ 255) :
    diff_Pack.l0 (k + 5) left lead [0, 0] 1 = some (strOfNums [lead + left / 243, wB (left % 243)], true) := by
  rw [l0_step (k + 3) _ _ _ _ (by omega) (by simp) (by omega) (by omega) (by omega)]
  rw [show (1 : Int) - 1 = 0 from rfl, l0_done (k + 3) _ _ _ (by simp) h0 h1]; rfl
theorem pack_2 (k : Nat) (left lead : Int) (b0 : -10000000 ≤ left) (b1 : left ≤ 10000000) (h0 : 0 ≤ lead + left / 243 / 243) (h1 : lead + left / 243 / 243 ≤ 255) :
    diff_Pack.l0 (k + 5) left lead [0, 0, 0] 2 = some (strOfNums [lead + left / 243 / 243, wB (left / 243 % 243), wB (left % 243)], true) := by
  rw [l0_step (k + 3) _ _ _ _ (by omega) (by simp) (by omega) (by omega) (by omega), show (2 : Int) - 1 = 1 from rfl]
  rw [l0_step (k + 2) _ _ _ _ (by omega) (by simp) (by omega) (by omega) (by omega), show (1 : Int) - 1 = 0 from rfl]
  rw [l0_done (k + 2) _ _ _ (by simp) h0 h1]; rfl
theorem pack_3 (k : Nat) (left lead : Int) (b0 : -10000000 ≤ left) (b1 : left ≤ 10000000) (h0 : 0 ≤ lead + left / 243 / 243 / 243) (h1 : lead + left / 243 / 243 / 243 ≤ 255) :
    diff_Pack.l0 (k + 5) left lead [0, 0, 0, 0] 3 = some (strOfNums [lead + left / 243 / 243 / 243, wB (left / 243 / 243 % 243), wB (left / 243 % 243), wB (left % 243)], true) := by
  rw [l0_step (k + 3) _ _ _ _ (by omega) (by simp) (by omega) (by omega) (by omega), show (3 : Int) - 1 = 2 from rfl]
  rw [l0_step (k + 2) _ _ _ _ (by omega) (by simp) (by omega) (by omega) (by omega), show (2 : Int) - 1 = 1 from rfl]
  rw [l0_step (k + 1) _ _ _ _ (by omega) (by simp) (by omega) (by omega) (by omega), show (1 : Int) - 1 = 0 from rfl]
  rw [l0_done (k + 1) _ _ _ (by simp) h0 h1]; rfl
theorem packF_0 {d : Int} (h0 : -64 ≤ d) (h1 : d ≤ 63) : packF d = [144 + d] := by
  have e : leadF d = 144 + d := by unfold leadF; (repeat' split) <;> omega
  have t : trF (144 + d) = 0 := by unfold trF; (repeat' split) <;> omega
  rw [packF, e, t]; rfl
theorem packF_t {d b x t : Int} (e : leadF d = b) (ht : trF b = t) (hx : d - leastF b = x) : packF d = b :: digs t x := by rw [packF, e, ht, hx]
theorem j0_open (k : Nat) (d : Int) (h0 : -1114111 ≤ d) (h1 : d ≤ 1114111) (left lead : Int) (t : Int) (ht0 : 0 ≤ t) (ht : t ≤ 3) (hp : placeF d = (left, lead, t)) :
    diff_Pack.f (k + 6) d = diff_Pack.l0 (k + 5) left lead (List.replicate (t + 1).toNat 0) t := by
  rw [diff_Pack.f, if_neg (by omega), decide_eq_false (by omega), diff_Pack.j0, if_neg (by simp), place_at (k + 4) d h0 h1, hp, Option.bind_some]
  have e : wrap64 (t + 1) = t + 1 := by unfold wrap64; omega
  simp only [e]
  rw [if_pos (by omega), if_pos (by omega)]
theorem pack_at (k : Nat) (d : Int) (h0 : -1114111 ≤ d) (h1 : d ≤ 1114111) : diff_Pack.f (k + 6) d = some (strOfNums (packF d), true) := by
  by_cases c0 : -64 ≤ d ∧ d ≤ 63
  · have hp : placeF d = (0, 144 + d, 0) := by unfold placeF; rw [if_pos c0]
    rw [j0_open k d h0 h1 _ _ _ (by omega) (by omega) hp, packF_0 c0.1 c0.2]
    exact (pack_0 k 0 (144 + d) (by omega) (by omega)).trans (by rw [Int.add_zero])
  by_cases c1 : d > 187659
  · have hp : placeF d = (d - 187660, 254, 3) := by unfold placeF; rw [if_neg c0, if_pos c1]
    rw [j0_open k d h0 h1 _ _ _ (by omega) (by omega) hp]
    refine (pack_3 k _ _ (by omega) (by omega) (by omega) (by omega)).trans ?_
    rw [packF_t (b := 254) (t := 3) (x := d - 187660) (by unfold leadF; (repeat' split) <;> omega) (by decide) (by rw [show leastF 254 = 187660 by decide])]
    rw [show (254 : Int) + (d - 187660) / 243 / 243 / 243 = 254 by omega]; rfl
  by_cases c2 : d > 10512
  · have hp : placeF d = (d - 10513, 251, 2) := by unfold placeF; rw [if_neg c0, if_neg c1, if_pos c2]
    rw [j0_open k d h0 h1 _ _ _ (by omega) (by omega) hp]
    refine (pack_2 k _ _ (by omega) (by omega) (by omega) (by omega)).trans ?_
    have el : leastF (251 + (d - 10513) / 59049) = 10513 + 59049 * ((d - 10513) / 59049) := by unfold leastF; (repeat' split) <;> omega
    rw [packF_t (b := 251 + (d - 10513) / 59049) (t := 2) (x := (d - 10513) - 59049 * ((d - 10513) / 59049)) (by unfold leadF; (repeat' split) <;> omega) (by unfold trF; (repeat' split) <;> omega) (by rw [el]; omega)]
    rw [show (251 : Int) + (d - 10513) / 243 / 243 = 251 + (d - 10513) / 59049 by omega]
    unfold digs
    rw [if_neg (by decide), if_neg (by decide), if_pos rfl]
    rw [show ((d - 10513) - 59049 * ((d - 10513) / 59049)) / 243 % 243 = (d - 10513) / 243 % 243 by omega, show ((d - 10513) - 59049 * ((d - 10513) / 59049)) % 243 = (d - 10513) % 243 by omega]
  by_cases c3 : d > 63
  · have hp : placeF d = (d - 64, 208, 1) := by unfold placeF; rw [if_neg c0, if_neg c1, if_neg c2, if_pos c3]
    rw [j0_open k d h0 h1 _ _ _ (by omega) (by omega) hp]
    refine (pack_1 k _ _ (by omega) (by omega) (by omega) (by omega)).trans ?_
    have el : leastF (208 + (d - 64) / 243) = 64 + 243 * ((d - 64) / 243) := by unfold leastF; (repeat' split) <;> omega
    rw [packF_t (b := 208 + (d - 64) / 243) (t := 1) (x := (d - 64) - 243 * ((d - 64) / 243)) (by unfold leadF; (repeat' split) <;> omega) (by unfold trF; (repeat' split) <;> omega) (by rw [el]; omega)]
    unfold digs
    rw [if_neg (by decide), if_pos rfl]
    rw [show ((d - 64) - 243 * ((d - 64) / 243)) % 243 = (d - 64) % 243 by omega]
  by_cases c4 : d < -187660
  · have hp : placeF d = (d + 187660, 34, 3) := by unfold placeF; rw [if_neg c0, if_neg c1, if_neg c2, if_neg c3, if_pos c4]
    rw [j0_open k d h0 h1 _ _ _ (by omega) (by omega) hp]
    refine (pack_3 k _ _ (by omega) (by omega) (by omega) (by omega)).trans ?_
    rw [packF_t (b := 33) (t := 3) (x := d + 14536567) (by unfold leadF; (repeat' split) <;> omega) (by decide) (by rw [show leastF 33 = -14536567 by decide]; omega)]
    rw [show (34 : Int) + (d + 187660) / 243 / 243 / 243 = 33 by omega]
    unfold digs
    rw [if_neg (by decide), if_neg (by decide), if_neg (by decide)]
    rw [show (d + 14536567) / 243 / 243 % 243 = (d + 187660) / 243 / 243 % 243 by omega, show (d + 14536567) / 243 % 243 = (d + 187660) / 243 % 243 by omega, show (d + 14536567) % 243 = (d + 187660) % 243 by omega]
  by_cases c5 : d < -10513
  · have hp : placeF d = (d + 10513, 37, 2) := by unfold placeF; rw [if_neg c0, if_neg c1, if_neg c2, if_neg c3, if_neg c4, if_pos c5]
    rw [j0_open k d h0 h1 _ _ _ (by omega) (by omega) hp]
    refine (pack_2 k _ _ (by omega) (by omega) (by omega) (by omega)).trans ?_
    have el : leastF (34 + (d + 187660) / 59049) = -187660 + 59049 * ((d + 187660) / 59049) := by unfold leastF; (repeat' split) <;> omega
    rw [packF_t (b := 34 + (d + 187660) / 59049) (t := 2) (x := (d + 187660) - 59049 * ((d + 187660) / 59049)) (by unfold leadF; (repeat' split) <;> omega) (by unfold trF; (repeat' split) <;> omega) (by rw [el]; omega)]
    rw [show (37 : Int) + (d + 10513) / 243 / 243 = 34 + (d + 187660) / 59049 by omega]
    unfold digs
    rw [if_neg (by decide), if_neg (by decide), if_pos rfl]
    rw [show ((d + 187660) - 59049 * ((d + 187660) / 59049)) / 243 % 243 = (d + 10513) / 243 % 243 by omega, show ((d + 187660) - 59049 * ((d + 187660) / 59049)) % 243 = (d + 10513) % 243 by omega]
  · have hp : placeF d = (d + 64, 80, 1) := by unfold placeF; rw [if_neg c0, if_neg c1, if_neg c2, if_neg c3, if_neg c4, if_neg c5]
    rw [j0_open k d h0 h1 _ _ _ (by omega) (by omega) hp]
    refine (pack_1 k _ _ (by omega) (by omega) (by omega) (by omega)).trans ?_
    have el : leastF (37 + (d + 10513) / 243) = -10513 + 243 * ((d + 10513) / 243) := by unfold leastF; (repeat' split) <;> omega
    rw [packF_t (b := 37 + (d + 10513) / 243) (t := 1) (x := (d + 10513) - 243 * ((d + 10513) / 243)) (by unfold leadF; (repeat' split) <;> omega) (by unfold trF; (repeat' split) <;> omega) (by rw [el]; omega)]
    rw [show (80 : Int) + (d + 64) / 243 = 37 + (d + 10513) / 243 by omega]
    unfold digs
    rw [if_neg (by decide), if_pos rfl]
    rw [show ((d + 10513) - 243 * ((d + 10513) / 243)) % 243 = (d + 64) % 243 by omega]

theorem ofNums_toList (xs : List Int) : (strOfNums xs).toList = xs.map fun n => UInt8.ofNat n.toNat := by unfold strOfNums; rw [ByteArray.toList_mk]
theorem ofNums_size (xs : List Int) : (strOfNums xs).size = xs.length := by simp [strOfNums, ByteArray.size]
theorem bt_ofNums (xs : List Int) (i : Nat) (x : Int) (h : xs[i]? = some x) (h0 : 0 ≤ x) (h1 : x ≤ 255) : bt (strOfNums xs) i = x := by
  obtain ⟨hi, hx⟩ := List.getElem?_eq_some_iff.1 h
  have hs : ((i : Nat) : Int).toNat < (strOfNums xs).size := by rw [ofNums_size]; simpa using hi
  rw [bt, dif_pos hs]
  have e : (strOfNums xs)[((i : Nat) : Int).toNat]'hs = UInt8.ofNat x.toNat := by
    simp only [strOfNums, Int.toNat_natCast, ByteArray.getElem_eq_getElem_data, List.getElem_toArray, List.getElem_map, hx]
  rw [e, UInt8.toNat_ofNat']
  omega
theorem rng_hit (k : Nat) (s : ByteArray) (from_ tr v span : Int) (i : Int) (hi0 : 1 ≤ i) (hi : i ≤ tr) (h3 : tr ≤ 3) (hs : i < (s.size : Int)) (b0 : 0 ≤ bt s i) (b1 : bt s i ≤ 255) (v0 : 0 ≤ v) (v1 : v ≤ 100000000) :
    diff_Range.l0 (k + 3) s from_ tr v span i = if (tW (bt s i)).2 = true then diff_Range.l0 (k + 2) s from_ tr (v * 243 + (tW (bt s i)).1) span (i + 1) else some (0, 0, 0, false) := by
  rw [diff_Range.l0, if_pos hi, if_neg (by omega), if_pos (by omega), if_pos hs, trail_at k _ b0 b1, Option.bind_some]
  have e1 : wrap64 (i + 1) = i + 1 := by unfold wrap64; omega
  by_cases c : (tW (bt s i)).2 = true
  · obtain ⟨h1, h2, _⟩ := tW_some b0 b1 c
    have e2 : wrap64 (wrap64 (v * 243) + (tW (bt s i)).1) = v * 243 + (tW (bt s i)).1 := by rw [w64 (x := v * 243) (by omega) (by omega), w64 (by omega) (by omega)]
    rw [if_pos c, if_pos c, e1, e2]
  · rw [if_neg c, if_neg c]
theorem rng_miss (k : Nat) (s : ByteArray) (from_ tr v span : Int) (i : Int) (hi0 : 1 ≤ i) (hi : i ≤ tr) (h3 : tr ≤ 3) (hs : (s.size : Int) ≤ i) (v0 : 0 ≤ v) (v1 : v ≤ 100000000) (s0 : 0 ≤ span) (s1 : span ≤ 100000000) :
    diff_Range.l0 (k + 1) s from_ tr v span i = diff_Range.l0 k s from_ tr (v * 243) (span * 243) (i + 1) := by
  rw [diff_Range.l0, if_pos hi, if_pos (by omega)]
  rw [w64 (x := i + 1) (by omega) (by omega), w64 (x := v * 243) (by omega) (by omega), w64 (x := span * 243) (by omega) (by omega)]
theorem rng_done (k : Nat) (s : ByteArray) (from_ tr v span : Int) (i : Int) (hi : tr < i) (h0 : 0 ≤ tr) (h3 : tr ≤ 3) (f0 : -100000000 ≤ from_) (f1 : from_ ≤ 100000000) (v0 : 0 ≤ v) (v1 : v ≤ 100000000) (s0 : 0 ≤ span) (s1 : span ≤ 100000000) :
    diff_Range.l0 (k + 1) s from_ tr v span i = some (from_ + v, from_ + v + span - 1, tr + 1, true) := by
  rw [diff_Range.l0, if_neg (by omega)]
  rw [w64 (x := from_ + v) (by omega) (by omega), w64 (x := from_ + v + span) (by omega) (by omega), w64 (x := from_ + v + span - 1) (by omega) (by omega), w64 (x := tr + 1) (by omega) (by omega)]
theorem lead_range {d : Int} (h0 : -1114111 ≤ d) (h1 : d ≤ 1114111) : 33 ≤ leadF d ∧ leadF d ≤ 254 := by unfold leadF; (repeat' split) <;> omega
theorem tr_range {b : Int} : 0 ≤ trF b ∧ trF b ≤ 3 := by unfold trF; (repeat' split) <;> omega
theorem least_range {b : Int} (h0 : 33 ≤ b) (h1 : b ≤ 254) : -14536567 ≤ leastF b ∧ leastF b ≤ 187660 := by unfold leastF; (repeat' split) <;> omega
/-- What is left of a difference behind its first byte's least one: a number of so many digits. -/
theorem left_range {d : Int} (h0 : -1114111 ≤ d) (h1 : d ≤ 1114111) : 0 ≤ d - leastF (leadF d) ∧ (trF (leadF d) = 0 → d - leastF (leadF d) = 0) ∧ (trF (leadF d) = 1 → d - leastF (leadF d) ≤ 242) ∧ (trF (leadF d) = 2 → d - leastF (leadF d) ≤ 59048) ∧ (trF (leadF d) = 3 → d - leastF (leadF d) ≤ 14348906) := by
  by_cases c0 : d < -187660
  · have e : leadF d = 33 := by unfold leadF; rw [if_pos c0]
    rw [e, band0.1, band0.2]
    refine ⟨?_, ?_, ?_, ?_, ?_⟩ <;> omega
  by_cases c1 : d < -10513
  · have e : leadF d = 34 + (d + 187660) / 59049 := by unfold leadF; rw [if_neg c0, if_pos c1]
    have b := @band1 (leadF d) (by omega) (by omega)
    rw [b.1, b.2]
    refine ⟨?_, ?_, ?_, ?_, ?_⟩ <;> omega
  by_cases c2 : d < -64
  · have e : leadF d = 37 + (d + 10513) / 243 := by unfold leadF; rw [if_neg c0, if_neg c1, if_pos c2]
    have b := @band2 (leadF d) (by omega) (by omega)
    rw [b.1, b.2]
    refine ⟨?_, ?_, ?_, ?_, ?_⟩ <;> omega
  by_cases c3 : d ≤ 63
  · have e : leadF d = 144 + d := by unfold leadF; rw [if_neg c0, if_neg c1, if_neg c2, if_pos c3]
    have b := @band3 (leadF d) (by omega) (by omega)
    rw [b.1, b.2]
    refine ⟨?_, ?_, ?_, ?_, ?_⟩ <;> omega
  by_cases c4 : d ≤ 10512
  · have e : leadF d = 208 + (d - 64) / 243 := by unfold leadF; rw [if_neg c0, if_neg c1, if_neg c2, if_neg c3, if_pos c4]
    have b := @band4 (leadF d) (by omega) (by omega)
    rw [b.1, b.2]
    refine ⟨?_, ?_, ?_, ?_, ?_⟩ <;> omega
  by_cases c5 : d ≤ 187659
  · have e : leadF d = 251 + (d - 10513) / 59049 := by unfold leadF; rw [if_neg c0, if_neg c1, if_neg c2, if_neg c3, if_neg c4, if_pos c5]
    have b := @band5 (leadF d) (by omega) (by omega)
    rw [b.1, b.2]
    refine ⟨?_, ?_, ?_, ?_, ?_⟩ <;> omega
  · have e : leadF d = 254 := by unfold leadF; rw [if_neg c0, if_neg c1, if_neg c2, if_neg c3, if_neg c4, if_neg c5]
    rw [e, band6.1, band6.2]
    refine ⟨?_, ?_, ?_, ?_, ?_⟩ <;> omega
theorem ne_nil_of_size {s : ByteArray} (hs : 0 < s.size) : ¬ s.toList = ([] : List UInt8) := by
  intro e
  have h := congrArg List.length e
  rw [ByteArray.toList_eq, Array.length_toList, List.length_nil] at h
  have h2 : s.size = s.data.size := rfl
  omega
theorem nil_of_size {s : ByteArray} (hs : s.size = 0) : s.toList = ([] : List UInt8) := by
  have h2 : s.size = s.data.size := rfl
  rw [ByteArray.toList_eq]
  exact List.eq_nil_of_length_eq_zero (by rw [Array.length_toList]; omega)
theorem range_open (k : Nat) (s : ByteArray) (b : Int) (hb : bt s 0 = b) (h0 : 33 ≤ b) (h1 : b ≤ 254) (hs : 0 < s.size) :
    diff_Range.f (k + 1) s = if (s.size : Int) > trF b + 1 then some (0, 0, 0, false) else diff_Range.l0 k s (leastF b) (trF b) 0 1 1 := by
  have hne := ne_nil_of_size hs
  have ht := @tr_range b
  rw [diff_Range.f, if_neg hne, if_pos (by omega), hb, if_neg (by omega), decide_eq_false (by omega), diff_Range.j0, if_neg (by simp), if_pos (by omega), hb, first_at b h0 h1, Option.bind_some]
  rw [w64 (x := trF b + 1) (by omega) (by omega)]
theorem prev_at (k : Nat) (c : Int) : diff_Prev.f (k + 2) c = some (if 12352 ≤ c ∧ c ≤ 12447 then 12400 else if 19968 ≤ c ∧ c ≤ 40869 then 30481 else if 44032 ≤ c ∧ c ≤ 55203 then 49617 else (Go.bits .andNot .u32 c 127 + 64) % 4294967296) := by
  simp only [diff_Prev.f, diff_Prev.j0, diff_Prev.j1, decide_eq_true_eq, Bool.false_eq_true, if_false, if_true]
  (repeat' split) <;> first | rfl | (exfalso; omega)
def trailsL : List Int := (List.range 243).map fun (n : Nat) => wB (n : Int)
theorem trails_len : trailsL.length = 243 := by simp [trailsL]
theorem trails_rd {i : Int} (h0 : 0 ≤ i) (h1 : i ≤ 242) : rd trailsL i = wB i := by
  have hl : i.toNat < 243 := by omega
  have e : ((i.toNat : Nat) : Int) = i := by omega
  simp [rd, trailsL, List.getD_eq_getElem?_getD, List.getElem?_map, List.getElem?_range hl, e]
theorem trails_256 : pilcrowref11_Trails.f 256 = some trailsL := by decide +kernel
theorem trails_at (k : Nat) : pilcrowref11_Trails.f (k + 256) = some trailsL := at_rounds (g := fun k => pilcrowref11_Trails.f k) pilcrowref11_Trails.mono (by omega) trails_256

def worthF (b : Int) : Int := if (tW b).2 = true then (tW b).1 else -1
theorem worth_loop (b : Int) (b0 : 0 ≤ b) (b1 : b ≤ 255) (d : Nat) : ∀ (k : Nat) (i : Int), 0 ≤ i → (d : Int) = 243 - i → (∀ v, 0 ≤ v → v < i → wB v ≠ b) → d < k → pilcrowref11_Worth.l0 k b trailsL i = some (worthF b) := by
  induction d with
  | zero =>
    intro k i h0 hd hn hk
    obtain ⟨k, rfl⟩ : ∃ m, k = m + 1 := ⟨k - 1, by omega⟩
    rw [pilcrowref11_Worth.l0, trails_len, if_neg (by omega)]
    by_cases c : (tW b).2 = true
    · obtain ⟨h1, h2, h3⟩ := tW_some b0 b1 c
      exact absurd h3 (hn _ h1 (by omega))
    · rw [worthF, if_neg c]
  | succ d ih =>
    intro k i h0 hd hn hk
    obtain ⟨k, rfl⟩ : ∃ m, k = m + 1 := ⟨k - 1, by omega⟩
    rw [pilcrowref11_Worth.l0, trails_len, if_pos (by omega), if_pos h0, trails_rd h0 (by omega)]
    by_cases c : wB i = b
    · rw [if_pos c, ← c, worthF, tW_wB h0 (by omega), if_pos rfl]
    · rw [if_neg c, w64 (x := i + 1) (by omega) (by omega)]
      refine ih k (i + 1) (by omega) (by omega) (fun v hv hvi => ?_) (by omega)
      by_cases e : v = i
      · rw [e]; exact c
      · exact hn v hv (by omega)
theorem worth_at (k : Nat) (b : Int) (b0 : 0 ≤ b) (b1 : b ≤ 255) : pilcrowref11_Worth.f (k + 256) b = some (worthF b) := by
  rw [pilcrowref11_Worth.f, trails_at, Option.bind_some]
  exact worth_loop b b0 b1 243 _ 0 (by omega) (by omega) (fun v h1 h2 => by omega) (by omega)

theorem rleast_5 : ∀ b : Fin 256, pilcrowref11_Least.f 5 ((b.val : Nat) : Int) = some (if 33 ≤ ((b.val : Nat) : Int) ∧ ((b.val : Nat) : Int) ≤ 254 then (leastF ((b.val : Nat) : Int), trF ((b.val : Nat) : Int)) else (0, -1)) := by decide +kernel
theorem rleast_at (k : Nat) (b : Int) (h0 : 0 ≤ b) (h1 : b ≤ 255) : pilcrowref11_Least.f (k + 5) b = some (if 33 ≤ b ∧ b ≤ 254 then (leastF b, trF b) else (0, -1)) := by
  have h := rleast_5 ⟨b.toNat, by omega⟩
  have e : ((b.toNat : Nat) : Int) = b := by omega
  simp only [e] at h
  exact at_rounds (g := fun k => pilcrowref11_Least.f k b) (pilcrowref11_Least.mono b) (by omega) h

theorem rng_w (k : Nat) (s : ByteArray) (from_ tr v span i y : Int) (hi0 : 1 ≤ i) (hi : i ≤ tr) (h3 : tr ≤ 3) (hs : i < (s.size : Int)) (hy0 : 0 ≤ y) (hy1 : y ≤ 242) (hb : bt s i = wB y) (v0 : 0 ≤ v) (v1 : v ≤ 100000000) :
    diff_Range.l0 (k + 3) s from_ tr v span i = diff_Range.l0 (k + 2) s from_ tr (v * 243 + y) span (i + 1) := by
  have hr := wB_range hy0 hy1
  rw [rng_hit k s from_ tr v span i hi0 hi h3 hs (by omega) (by omega) v0 v1, hb, tW_wB hy0 hy1, if_pos rfl]
/-- What the first bytes of a difference begin: a span in which it lies; all of them: it alone. -/
theorem rng_pre (k : Nat) (b x t from_ : Int) (j : Nat) (h0 : 0 ≤ t) (h3 : t ≤ 3) (hj : (j : Int) ≤ t) (f0 : -100000000 ≤ from_ + x) (f1 : from_ + x ≤ 100000000) (g0 : -50000000 ≤ from_) (g1 : from_ ≤ 50000000)
    (hx : 0 ≤ x) (x0 : t = 0 → x = 0) (x1 : t = 1 → x ≤ 242) (x2 : t = 2 → x ≤ 59048) (x3 : t = 3 → x ≤ 14348906) :
    ∃ lo span, diff_Range.l0 (k + 20) (strOfNums (b :: (digs t x).take j)) from_ t 0 1 1 = some (from_ + lo, from_ + lo + span - 1, t + 1, true) ∧ lo ≤ x ∧ x ≤ lo + span - 1 ∧ ((j : Int) = t → lo = x ∧ span = 1) := by
  have hsz : ∀ n, (digs t x).length = n → j ≤ n → ((strOfNums (b :: (digs t x).take j)).size : Int) = j + 1 := by
    intro n hn hjn
    rw [ofNums_size, List.length_cons, List.length_take, hn, Nat.min_eq_left hjn]
    omega
  by_cases c0 : t = 0
  · subst c0
    obtain rfl := x0 rfl
    refine ⟨0, 1, rng_done (k + 19) _ _ _ _ _ _ (by omega) (by omega) (by omega) (by omega) (by omega) (by omega) (by omega) (by omega) (by omega), by omega, by omega, fun _ => ⟨rfl, rfl⟩⟩
  by_cases c1 : t = 1
  · subst c1
    have hx' := x1 rfl
    have hd : digs 1 x = [wB (x % 243)] := rfl
    have hz := hsz 1 (by rw [hd]; rfl) (by omega)
    rw [hd] at hz ⊢
    have r1 := @wB_range (x % 243) (by omega) (by omega)
    rcases j with _ | j
    · refine ⟨0 * 243, 1 * 243, ?_, by omega, by omega, fun h => by omega⟩
      rw [rng_miss (k + 19) _ _ _ _ _ _ (by omega) (by omega) (by omega) (by omega) (by omega) (by omega) (by omega) (by omega)]
      exact rng_done (k + 18) _ _ _ _ _ _ (by omega) (by omega) (by omega) (by omega) (by omega) (by omega) (by omega) (by omega) (by omega)
    · obtain rfl : j = 0 := by omega
      refine ⟨0 * 243 + x % 243, 1, ?_, by omega, by omega, fun h => by omega⟩
      rw [rng_w (k + 17) _ _ _ _ _ _ (x % 243) (by omega) (by omega) (by omega) (by omega) (by omega) (by omega) (by exact bt_ofNums _ 1 _ rfl (by omega) (by omega)) (by omega) (by omega)]
      exact rng_done (k + 18) _ _ _ _ _ _ (by omega) (by omega) (by omega) (by omega) (by omega) (by omega) (by omega) (by omega) (by omega)
  by_cases c2 : t = 2
  · subst c2
    have hx' := x2 rfl
    have hd : digs 2 x = [wB (x / 243 % 243), wB (x % 243)] := rfl
    have hz := hsz 2 (by rw [hd]; rfl) (by omega)
    rw [hd] at hz ⊢
    have r1 := @wB_range (x / 243 % 243) (by omega) (by omega)
    have r2 := @wB_range (x % 243) (by omega) (by omega)
    rcases j with _ | _ | j
    · refine ⟨0 * 243 * 243, 1 * 243 * 243, ?_, by omega, by omega, fun h => by omega⟩
      rw [rng_miss (k + 19) _ _ _ _ _ _ (by omega) (by omega) (by omega) (by omega) (by omega) (by omega) (by omega) (by omega)]
      rw [rng_miss (k + 18) _ _ _ _ _ _ (by omega) (by omega) (by omega) (by omega) (by omega) (by omega) (by omega) (by omega)]
      exact rng_done (k + 17) _ _ _ _ _ _ (by omega) (by omega) (by omega) (by omega) (by omega) (by omega) (by omega) (by omega) (by omega)
    · refine ⟨(0 * 243 + x / 243 % 243) * 243, 1 * 243, ?_, by omega, by omega, fun h => by omega⟩
      rw [rng_w (k + 17) _ _ _ _ _ _ (x / 243 % 243) (by omega) (by omega) (by omega) (by omega) (by omega) (by omega) (by exact bt_ofNums _ 1 _ rfl (by omega) (by omega)) (by omega) (by omega)]
      rw [rng_miss (k + 18) _ _ _ _ _ _ (by omega) (by omega) (by omega) (by omega) (by omega) (by omega) (by omega) (by omega)]
      exact rng_done (k + 17) _ _ _ _ _ _ (by omega) (by omega) (by omega) (by omega) (by omega) (by omega) (by omega) (by omega) (by omega)
    · obtain rfl : j = 0 := by omega
      refine ⟨(0 * 243 + x / 243 % 243) * 243 + x % 243, 1, ?_, by omega, by omega, fun h => by omega⟩
      rw [rng_w (k + 17) _ _ _ _ _ _ (x / 243 % 243) (by omega) (by omega) (by omega) (by omega) (by omega) (by omega) (by exact bt_ofNums _ 1 _ rfl (by omega) (by omega)) (by omega) (by omega)]
      rw [rng_w (k + 16) _ _ _ _ _ _ (x % 243) (by omega) (by omega) (by omega) (by omega) (by omega) (by omega) (by exact bt_ofNums _ 2 _ rfl (by omega) (by omega)) (by omega) (by omega)]
      exact rng_done (k + 17) _ _ _ _ _ _ (by omega) (by omega) (by omega) (by omega) (by omega) (by omega) (by omega) (by omega) (by omega)
  · obtain rfl : t = 3 := by omega
    have hx' := x3 rfl
    have hd : digs 3 x = [wB (x / 243 / 243 % 243), wB (x / 243 % 243), wB (x % 243)] := rfl
    have hz := hsz 3 (by rw [hd]; rfl) (by omega)
    rw [hd] at hz ⊢
    have r0 := @wB_range (x / 243 / 243 % 243) (by omega) (by omega)
    have r1 := @wB_range (x / 243 % 243) (by omega) (by omega)
    have r2 := @wB_range (x % 243) (by omega) (by omega)
    rcases j with _ | _ | _ | j
    · refine ⟨0 * 243 * 243 * 243, 1 * 243 * 243 * 243, ?_, by omega, by omega, fun h => by omega⟩
      rw [rng_miss (k + 19) _ _ _ _ _ _ (by omega) (by omega) (by omega) (by omega) (by omega) (by omega) (by omega) (by omega)]
      rw [rng_miss (k + 18) _ _ _ _ _ _ (by omega) (by omega) (by omega) (by omega) (by omega) (by omega) (by omega) (by omega)]
      rw [rng_miss (k + 17) _ _ _ _ _ _ (by omega) (by omega) (by omega) (by omega) (by omega) (by omega) (by omega) (by omega)]
      exact rng_done (k + 16) _ _ _ _ _ _ (by omega) (by omega) (by omega) (by omega) (by omega) (by omega) (by omega) (by omega) (by omega)
    · refine ⟨(0 * 243 + x / 243 / 243 % 243) * 243 * 243, 1 * 243 * 243, ?_, by omega, by omega, fun h => by omega⟩
      rw [rng_w (k + 17) _ _ _ _ _ _ (x / 243 / 243 % 243) (by omega) (by omega) (by omega) (by omega) (by omega) (by omega) (by exact bt_ofNums _ 1 _ rfl (by omega) (by omega)) (by omega) (by omega)]
      rw [rng_miss (k + 18) _ _ _ _ _ _ (by omega) (by omega) (by omega) (by omega) (by omega) (by omega) (by omega) (by omega)]
      rw [rng_miss (k + 17) _ _ _ _ _ _ (by omega) (by omega) (by omega) (by omega) (by omega) (by omega) (by omega) (by omega)]
      exact rng_done (k + 16) _ _ _ _ _ _ (by omega) (by omega) (by omega) (by omega) (by omega) (by omega) (by omega) (by omega) (by omega)
    · refine ⟨((0 * 243 + x / 243 / 243 % 243) * 243 + x / 243 % 243) * 243, 1 * 243, ?_, by omega, by omega, fun h => by omega⟩
      rw [rng_w (k + 17) _ _ _ _ _ _ (x / 243 / 243 % 243) (by omega) (by omega) (by omega) (by omega) (by omega) (by omega) (by exact bt_ofNums _ 1 _ rfl (by omega) (by omega)) (by omega) (by omega)]
      rw [rng_w (k + 16) _ _ _ _ _ _ (x / 243 % 243) (by omega) (by omega) (by omega) (by omega) (by omega) (by omega) (by exact bt_ofNums _ 2 _ rfl (by omega) (by omega)) (by omega) (by omega)]
      rw [rng_miss (k + 17) _ _ _ _ _ _ (by omega) (by omega) (by omega) (by omega) (by omega) (by omega) (by omega) (by omega)]
      exact rng_done (k + 16) _ _ _ _ _ _ (by omega) (by omega) (by omega) (by omega) (by omega) (by omega) (by omega) (by omega) (by omega)
    · obtain rfl : j = 0 := by omega
      refine ⟨((0 * 243 + x / 243 / 243 % 243) * 243 + x / 243 % 243) * 243 + x % 243, 1, ?_, by omega, by omega, fun h => by omega⟩
      rw [rng_w (k + 17) _ _ _ _ _ _ (x / 243 / 243 % 243) (by omega) (by omega) (by omega) (by omega) (by omega) (by omega) (by exact bt_ofNums _ 1 _ rfl (by omega) (by omega)) (by omega) (by omega)]
      rw [rng_w (k + 16) _ _ _ _ _ _ (x / 243 % 243) (by omega) (by omega) (by omega) (by omega) (by omega) (by omega) (by exact bt_ofNums _ 2 _ rfl (by omega) (by omega)) (by omega) (by omega)]
      rw [rng_w (k + 15) _ _ _ _ _ _ (x % 243) (by omega) (by omega) (by omega) (by omega) (by omega) (by omega) (by exact bt_ofNums _ 3 _ rfl (by omega) (by omega)) (by omega) (by omega)]
      exact rng_done (k + 16) _ _ _ _ _ _ (by omega) (by omega) (by omega) (by omega) (by omega) (by omega) (by omega) (by omega) (by omega)
theorem digs_len {t : Int} (h0 : 0 ≤ t) (h3 : t ≤ 3) (x : Int) : ((digs t x).length : Int) = t := by
  unfold digs
  (repeat' split) <;> simp <;> omega
theorem packF_len {d : Int} : ((packF d).length : Int) = trF (leadF d) + 1 := by
  have ht := @tr_range (leadF d)
  have := digs_len ht.1 ht.2 (d - leastF (leadF d))
  rw [packF, List.length_cons]
  omega
/-- The range of the first c bytes of a difference. -/
theorem range_pre (k : Nat) (d : Int) (c : Nat) (h0 : -1114111 ≤ d) (h1 : d ≤ 1114111) (hc0 : 0 < c) (hc : (c : Int) ≤ trF (leadF d) + 1) :
    ∃ lo hi, diff_Range.f (k + 21) (strOfNums ((packF d).take c)) = some (lo, hi, trF (leadF d) + 1, true) ∧ lo ≤ d ∧ d ≤ hi ∧ ((c : Int) = trF (leadF d) + 1 → lo = d ∧ hi = d) := by
  have hl := lead_range h0 h1
  have ht := @tr_range (leadF d)
  have hr := left_range h0 h1
  have hb := least_range hl.1 hl.2
  obtain ⟨j, rfl⟩ : ∃ j, c = j + 1 := ⟨c - 1, by omega⟩
  obtain ⟨lo, span, hq, hlo, hhi, hfull⟩ := rng_pre k (leadF d) (d - leastF (leadF d)) (trF (leadF d)) (leastF (leadF d)) j ht.1 ht.2 (by omega) (by omega) (by omega) (by omega) (by omega) hr.1 hr.2.1 hr.2.2.1 hr.2.2.2.1 hr.2.2.2.2
  have e : (packF d).take (j + 1) = leadF d :: (digs (trF (leadF d)) (d - leastF (leadF d))).take j := by rw [packF, List.take_succ_cons]
  have hdl := digs_len ht.1 ht.2 (d - leastF (leadF d))
  have hs : (strOfNums ((packF d).take (j + 1))).size = j + 1 := by rw [ofNums_size, e, List.length_cons, List.length_take]; omega
  have hbt : bt (strOfNums ((packF d).take (j + 1))) 0 = leadF d := by rw [e]; exact bt_ofNums _ 0 _ rfl (by omega) (by omega)
  refine ⟨leastF (leadF d) + lo, leastF (leadF d) + lo + span - 1, ?_, by omega, by omega, fun h => by have := hfull (by omega); omega⟩
  rw [range_open (k + 20) _ _ hbt hl.1 hl.2 (by omega), if_neg (by omega), e]
  exact hq
theorem extract_ofNums (xs : List Int) (n : Nat) : (strOfNums xs).extract 0 n = strOfNums (xs.take n) := by
  apply ByteArray.ext
  simp [strOfNums, ByteArray.data_extract]
def lexI : List Int → List Int → Bool
  | _, [] => false
  | [], _ :: _ => true
  | a :: x, b :: y => decide (a < b) || (a == b && lexI x y)
def key (xs : List Int) : List UInt8 := xs.map fun n => UInt8.ofNat n.toNat
def inB (xs : List Int) : Prop := ∀ x ∈ xs, 0 ≤ x ∧ x ≤ 255
theorem u8_lt {a b : Int} (ha : 0 ≤ a ∧ a ≤ 255) (hb : 0 ≤ b ∧ b ≤ 255) : decide (UInt8.ofNat a.toNat < UInt8.ofNat b.toNat) = decide (a < b) := by
  rw [decide_eq_decide, UInt8.lt_iff_toNat_lt, UInt8.toNat_ofNat', UInt8.toNat_ofNat']
  omega
theorem u8_eq {a b : Int} (ha : 0 ≤ a ∧ a ≤ 255) (hb : 0 ≤ b ∧ b ≤ 255) : (UInt8.ofNat a.toNat == UInt8.ofNat b.toNat) = (a == b) := by
  have h : (UInt8.ofNat a.toNat = UInt8.ofNat b.toNat) ↔ a = b := by
    rw [← UInt8.toNat_inj, UInt8.toNat_ofNat', UInt8.toNat_ofNat']
    omega
  by_cases e : a = b
  · rw [e]; simp
  · rw [beq_eq_false_iff_ne.2 e, beq_eq_false_iff_ne.2 (fun hh => e (h.1 hh))]
theorem bl_key : ∀ xs ys : List Int, inB xs → inB ys → Op.bytesLess (key xs) (key ys) = lexI xs ys
  | _, [], _, _ => by
    unfold key
    simp [Op.bytesLess, lexI]
  | [], _ :: _, _, _ => rfl
  | a :: x, b :: y, hx, hy => by
    have ha := hx a List.mem_cons_self
    have hb := hy b List.mem_cons_self
    have ih := bl_key x y (fun z hz => hx z (List.mem_cons_of_mem _ hz)) (fun z hz => hy z (List.mem_cons_of_mem _ hz))
    simp only [key, List.map_cons, Op.bytesLess, lexI]
    rw [u8_lt ha hb, u8_eq ha hb]
    congr 2
theorem key_inj {xs ys : List Int} (hx : inB xs) (hy : inB ys) (h : key xs = key ys) : xs = ys := by
  have back : ∀ l : List Int, inB l → (key l).map (fun u => (u.toNat : Int)) = l := by
    intro l hl
    unfold key
    rw [List.map_map]
    conv => rhs; rw [← List.map_id l]
    apply List.map_congr_left
    intro z hz
    have := hl z hz
    simp only [Function.comp, UInt8.toNat_ofNat', id]
    omega
  rw [← back xs hx, ← back ys hy, h]
theorem lexI_self : ∀ xs : List Int, lexI xs xs = false
  | [] => rfl
  | a :: x => by simp [lexI, lexI_self x]
theorem digs_mem {t x z : Int} (h0 : 0 ≤ t) (h3 : t ≤ 3) (hz : z ∈ digs t x) : ∃ v, 0 ≤ v ∧ v ≤ 242 ∧ z = wB v := by
  obtain rfl | rfl | rfl | rfl : t = 0 ∨ t = 1 ∨ t = 2 ∨ t = 3 := by omega
  · simp [digs] at hz
  · simp [digs] at hz
    exact ⟨_, by omega, by omega, hz⟩
  · simp [digs] at hz
    rcases hz with rfl | rfl
    · exact ⟨_, by omega, by omega, rfl⟩
    · exact ⟨_, by omega, by omega, rfl⟩
  · simp [digs] at hz
    rcases hz with rfl | rfl | rfl
    · exact ⟨_, by omega, by omega, rfl⟩
    · exact ⟨_, by omega, by omega, rfl⟩
    · exact ⟨_, by omega, by omega, rfl⟩
theorem pack_mem {d z : Int} (h0 : -1114111 ≤ d) (h1 : d ≤ 1114111) (hz : z ∈ packF d) : (33 ≤ z ∧ z ≤ 254) ∨ ∃ v, 0 ≤ v ∧ v ≤ 242 ∧ z = wB v := by
  rw [packF, List.mem_cons] at hz
  rcases hz with rfl | hz
  · exact .inl (lead_range h0 h1)
  · have ht := @tr_range (leadF d)
    exact .inr (digs_mem ht.1 ht.2 hz)
theorem pack_inB {d : Int} (h0 : -1114111 ≤ d) (h1 : d ≤ 1114111) : inB (packF d) := by
  intro z hz
  rcases pack_mem h0 h1 hz with h | ⟨v, a, b, rfl⟩
  · omega
  · have := wB_range a b; omega
theorem lead_mono {a b : Int} (h : leadF a < leadF b) : a < b := by
  unfold leadF at h
  (repeat' split at h) <;> omega
theorem wB_dec (p q : Int) : decide (wB p < wB q) = decide (p < q) := by rw [decide_eq_decide]; exact wB_lt
theorem wB_beq (p q : Int) : (wB p == wB q) = (p == q) := by
  by_cases e : p = q
  · rw [e]; simp
  · rw [beq_eq_false_iff_ne.2 e, beq_eq_false_iff_ne.2 (fun hh => e (wB_inj.1 hh))]
theorem lex_cons {p q : Int} {xs ys : List Int} {P : Prop} [Decidable P] (h : lexI xs ys = decide P) : lexI (p :: xs) (q :: ys) = decide (p < q ∨ (p = q ∧ P)) := by
  rw [lexI, h]
  by_cases h1 : p < q <;> by_cases h2 : p = q <;> by_cases h3 : P <;> simp [h1, h2, h3]
theorem digs_lex {t x y : Int} (h0 : 0 ≤ t) (h3 : t ≤ 3) (hx0 : 0 ≤ x) (hy0 : 0 ≤ y) (hx : (t = 0 → x = 0) ∧ (t = 1 → x ≤ 242) ∧ (t = 2 → x ≤ 59048) ∧ (t = 3 → x ≤ 14348906)) (hy : (t = 0 → y = 0) ∧ (t = 1 → y ≤ 242) ∧ (t = 2 → y ≤ 59048) ∧ (t = 3 → y ≤ 14348906)) : lexI (digs t x) (digs t y) = decide (x < y) := by
  have hn : lexI ([] : List Int) [] = decide False := rfl
  obtain rfl | rfl | rfl | rfl : t = 0 ∨ t = 1 ∨ t = 2 ∨ t = 3 := by omega
  · have e1 := hx.1 rfl
    have e2 := hy.1 rfl
    subst e1 e2
    rfl
  · have e1 := hx.2.1 rfl
    have e2 := hy.2.1 rfl
    show lexI [wB (x % 243)] [wB (y % 243)] = _
    rw [lex_cons hn, decide_eq_decide, wB_lt, wB_inj]
    simp only [and_false, or_false]
    omega
  · have e1 := hx.2.2.1 rfl
    have e2 := hy.2.2.1 rfl
    show lexI [wB (x / 243 % 243), wB (x % 243)] [wB (y / 243 % 243), wB (y % 243)] = _
    rw [lex_cons (lex_cons hn), decide_eq_decide, wB_lt, wB_inj, wB_lt, wB_inj]
    simp only [and_false, or_false]
    omega
  · have e1 := hx.2.2.2 rfl
    have e2 := hy.2.2.2 rfl
    show lexI [wB (x / 243 / 243 % 243), wB (x / 243 % 243), wB (x % 243)] [wB (y / 243 / 243 % 243), wB (y / 243 % 243), wB (y % 243)] = _
    rw [lex_cons (lex_cons (lex_cons hn)), decide_eq_decide, wB_lt, wB_inj, wB_lt, wB_inj, wB_lt, wB_inj]
    simp only [and_false, or_false]
    omega
theorem pack_lex {a b : Int} (a0 : -1114111 ≤ a) (a1 : a ≤ 1114111) (b0 : -1114111 ≤ b) (b1 : b ≤ 1114111) : lexI (packF a) (packF b) = decide (a < b) := by
  rcases Int.lt_trichotomy (leadF a) (leadF b) with h | h | h
  · have := lead_mono h
    rw [packF, packF, lexI, decide_eq_true h, decide_eq_true this, Bool.true_or]
  · have ra := left_range a0 a1
    have rb := left_range b0 b1
    have ht := @tr_range (leadF b)
    rw [packF, packF, h]
    rw [h] at ra
    rw [lex_cons (digs_lex ht.1 ht.2 ra.1 rb.1 ra.2 rb.2), decide_eq_decide]
    omega
  · have := lead_mono h
    rw [packF, packF, lexI, decide_eq_false (by omega), decide_eq_false (by omega), beq_eq_false_iff_ne.2 (by omega)]
    rfl
theorem pack_take {a b : Int} (a0 : -1114111 ≤ a) (a1 : a ≤ 1114111) (b0 : -1114111 ≤ b) (b1 : b ≤ 1114111) (n : Nat) (hn : n = min (packF a).length (packF b).length) (h : (packF a).take n = (packF b).take n) : a = b := by
  have la := @packF_len a
  have lb := @packF_len b
  have ta := @tr_range (leadF a)
  have tb := @tr_range (leadF b)
  have hl : leadF a = leadF b := by
    have h1 : ((packF a).take n)[0]? = ((packF b).take n)[0]? := by rw [h]
    rw [List.getElem?_take_of_lt (by omega), List.getElem?_take_of_lt (by omega), packF, packF] at h1
    simpa using h1
  rw [hl] at la
  have hlen : (packF a).length = (packF b).length := by omega
  rw [List.take_of_length_le (by omega), List.take_of_length_le (by omega)] at h
  have e1 := pack_lex a0 a1 b0 b1
  have e2 := pack_lex b0 b1 a0 a1
  rw [h, lexI_self] at e1
  rw [h, lexI_self] at e2
  have n1 := of_decide_eq_false e1.symm
  have n2 := of_decide_eq_false e2.symm
  omega
theorem refprev_at (k : Nat) (c : Int) (h0 : 0 ≤ c) (h1 : c ≤ 4294967295) : pilcrowref11_Prev.f (k + 2) c = some (if 12352 ≤ c ∧ c ≤ 12447 then 12400 else if 19968 ≤ c ∧ c ≤ 40869 then 30481 else if 44032 ≤ c ∧ c ≤ 55203 then 49617 else c / 128 * 128 + 64) := by
  have ht : c.tdiv 128 = c / 128 := Int.tdiv_eq_ediv_of_nonneg h0
  have hv : c.tdiv 128 % 4294967296 * 128 % 4294967296 + 64 = c / 128 * 128 + 64 := by rw [ht]; omega
  have hw : (c.tdiv 128 % 4294967296 * 128 % 4294967296 + 64) % 4294967296 = c / 128 * 128 + 64 := by rw [hv]; omega
  unfold pilcrowref11_Prev.f
  simp only [pilcrowref11_Prev.j0, pilcrowref11_Prev.j1, hw, decide_eq_true_eq, ge_iff_le]
  repeat' split
  all_goals first | contradiction | rfl | (exfalso; omega) | (rw [hw])
theorem and_mask (n : Nat) (h : n < 4294967296) : n &&& 4294967168 = n / 128 * 128 := by
  apply Nat.eq_of_testBit_eq
  intro i
  have e1 : (4294967168 : Nat) = (2 ^ 25 - 1) <<< 7 := rfl
  have e2 : n / 128 * 128 = (n >>> 7) <<< 7 := by rw [Nat.shiftLeft_eq, Nat.shiftRight_eq_div_pow]
  rw [Nat.testBit_and, e1, e2, Nat.testBit_shiftLeft, Nat.testBit_shiftLeft, Nat.testBit_shiftRight, Nat.testBit_two_pow_sub_one]
  by_cases h7 : 7 ≤ i
  · have e3 : 7 + (i - 7) = i := by omega
    rw [e3]
    by_cases h25 : i - 7 < 25
    · simp [h7, h25]
    · have hb : n.testBit i = false := Nat.testBit_lt_two_pow (Nat.lt_of_lt_of_le h (show 4294967296 ≤ 2 ^ i from Nat.le_trans (by decide) (Nat.pow_le_pow_right (by decide) (show 32 ≤ i by omega))))
      simp [hb]
  · simp [h7]
theorem andNot_127 (c : Int) (h0 : 0 ≤ c) (h1 : c ≤ 4294967295) : Go.bits .andNot .u32 c 127 = c / 128 * 128 := by
  rw [u32_andNot c 127 h0 (by omega) (by omega) (by omega), show 4294967295 - (127 : Int).toNat = 4294967168 by decide, and_mask c.toNat (by omega)]
  omega
theorem least_le {d b : Int} (h0 : -1114111 ≤ d) (h1 : d ≤ 1114111) (b0 : 34 ≤ b) (b1 : b ≤ 254) : leastF b ≤ d ↔ b ≤ leadF d := by
  unfold leastF leadF
  (repeat' split) <;> omega
def mnI (a b : Int) : Int := if a ≤ b then a else b
theorem rpack_lead (d : Int) (h0 : -1114111 ≤ d) (h1 : d ≤ 1114111) (k n : Nat) : ∀ i : Int, (n : Int) = 255 - i → 34 ≤ i →
    pilcrowref11_Pack.l0 (k + n + 300) d (mnI (leadF d) (i - 1)) i = pilcrowref11_Pack.l1 (k + 299) (leadF d) (trF (leadF d)) (d - leastF (leadF d)) [] 0 := by
  have hl := lead_range h0 h1
  have hb := least_range hl.1 hl.2
  induction n with
  | zero =>
    intro i hi h34
    have e : mnI (leadF d) (i - 1) = leadF d := by unfold mnI; rw [if_pos (by omega)]
    rw [e, show k + 0 + 300 = (k + 299) + 1 from rfl, pilcrowref11_Pack.l0, if_neg (by omega)]
    rw [show k + 299 = (k + 294) + 5 from rfl, rleast_at (k + 294) _ (by omega) (by omega), if_pos ⟨hl.1, hl.2⟩, Option.bind_some, w64 (by omega) (by omega)]
  | succ n ih =>
    intro i hi h34
    rw [show k + (n + 1) + 300 = (k + n + 300) + 1 by omega, pilcrowref11_Pack.l0, if_pos (by omega)]
    have em : i % 256 = i := by omega
    rw [em, show k + n + 300 = (k + n + 295) + 5 from rfl, rleast_at (k + n + 295) _ (by omega) (by omega), if_pos ⟨by omega, by omega⟩, Option.bind_some, w64 (x := i + 1) (by omega) (by omega)]
    have hc := least_le h0 h1 h34 (by omega : i ≤ 254)
    have := ih (i + 1) (by omega) (by omega)
    by_cases c : leastF i ≤ d
    · rw [if_pos c]
      have e : mnI (leadF d) (i + 1 - 1) = i := by have := hc.1 c; unfold mnI; split <;> omega
      rw [e] at this
      exact this
    · rw [if_neg c]
      have e : mnI (leadF d) (i + 1 - 1) = mnI (leadF d) (i - 1) := by have : ¬ i ≤ leadF d := fun h => c (hc.2 h); unfold mnI; (repeat' split) <;> omega
      rw [e] at this
      exact this
theorem rpack_step (k : Nat) (lead t x i : Int) (acc : List Int) (hi : i < t) (hi0 : 0 ≤ i) (hi3 : i ≤ 3) (hx : 0 ≤ x) (hx1 : x ≤ 100000000) (ha : acc.length ≤ 3) :
    pilcrowref11_Pack.l1 (k + 257) lead t x acc i = pilcrowref11_Pack.l1 (k + 256) lead t (x / 243) (wB (x % 243) :: acc) (i + 1) := by
  rw [pilcrowref11_Pack.l1, if_pos hi, trails_at, Option.bind_some]
  rcases t243 x with ⟨_, hd, hm⟩ | ⟨h, _⟩
  · rw [hm, hd, trails_len, if_pos (by omega), if_pos (by omega), trails_rd (by omega) (by omega), Option.bind_some, w64 (x := x / 243) (by omega) (by omega), w64 (x := i + 1) (by omega) (by omega)]
    rw [if_pos (by simp; omega)]
    rfl
  · omega
theorem rpack_done (k : Nat) (lead t x i : Int) (acc : List Int) (hi : ¬ i < t) (ha : acc.length ≤ 3) : pilcrowref11_Pack.l1 (k + 1) lead t x acc i = some (strOfNums (lead :: acc)) := by
  rw [pilcrowref11_Pack.l1, if_neg hi, Option.bind_some, if_pos (by simp; omega)]
  rfl
theorem rpack_tail (k : Nat) (lead t x : Int) (h0 : 0 ≤ t) (h3 : t ≤ 3) (hx : 0 ≤ x) (hx1 : x ≤ 100000000) : pilcrowref11_Pack.l1 (k + 299) lead t x [] 0 = some (strOfNums (lead :: digs t x)) := by
  by_cases c0 : t = 0
  · subst c0
    exact rpack_done (k + 298) _ _ _ _ _ (by omega) (by simp)
  rw [rpack_step (k + 42) _ _ _ _ _ (by omega) (by omega) (by omega) hx hx1 (by simp)]
  by_cases c1 : t = 1
  · subst c1
    exact rpack_done (k + 297) _ _ _ _ _ (by omega) (by simp)
  rw [rpack_step (k + 41) _ _ _ _ _ (by omega) (by omega) (by omega) (by omega) (by omega) (by simp)]
  by_cases c2 : t = 2
  · subst c2
    exact rpack_done (k + 296) _ _ _ _ _ (by omega) (by simp)
  rw [rpack_step (k + 40) _ _ _ _ _ (by omega) (by omega) (by omega) (by omega) (by omega) (by simp)]
  obtain rfl : t = 3 := by omega
  exact rpack_done (k + 295) _ _ _ _ _ (by omega) (by simp)
theorem rpack_at (d : Int) (h0 : -1114111 ≤ d) (h1 : d ≤ 1114111) : pilcrowref11_Pack.f 700 d = some (strOfNums (packF d)) := by
  have hl := lead_range h0 h1
  have h := rpack_lead d h0 h1 179 221 34 (by omega) (by omega)
  have e : mnI (leadF d) (34 - 1) = 33 := by unfold mnI; split <;> omega
  rw [e] at h
  have hr := left_range h0 h1
  have ht := @tr_range (leadF d)
  rw [pilcrowref11_Pack.f]
  refine h.trans ((rpack_tail 179 _ _ _ ht.1 ht.2 hr.1 ?_).trans rfl)
  have := least_range hl.1 hl.2
  omega
def capT : Nat → Int
  | 0 => 14348907
  | 1 => 59049
  | 2 => 243
  | _ => 1
theorem capT_step : ∀ t : Nat, t ≤ 2 → capT (t + 1) * 243 ≤ capT t := by
  intro t ht
  rcases t with _ | _ | _ | t
  · decide
  · decide
  · decide
  · omega
theorem ranges_loop (s : ByteArray) (from_ tr : Int) (h0 : 0 ≤ tr) (h3 : tr ≤ 3) (f0 : -100000000 ≤ from_) (f1 : from_ ≤ 100000000) (k : Nat) (t : Nat) : ∀ (i v span : Int), (t : Int) = tr + 1 - i → 1 ≤ i → 0 ≤ v → 1 ≤ span → v + span ≤ capT t → (i < (s.size : Int) → span = 1) →
    (∃ a b, diff_Range.l0 (t + k + 300) s from_ tr v span i = some (a, b, tr + 1, true) ∧ pilcrowref11_Range.l0 (t + k + 300) s from_ tr v (v + span - 1) i = some (a, b, tr + 1)) ∨
    (diff_Range.l0 (t + k + 300) s from_ tr v span i = some (0, 0, 0, false) ∧ pilcrowref11_Range.l0 (t + k + 300) s from_ tr v (v + span - 1) i = some (0, 0, 0)) := by
  induction t with
  | zero =>
    intro i v span ht hi hv hsp hcap _
    have hc : capT 0 = 14348907 := rfl
    left
    refine ⟨from_ + v, from_ + v + span - 1, rng_done (0 + k + 299) _ _ _ _ _ _ (by omega) h0 h3 f0 f1 (by omega) (by omega) (by omega) (by omega), ?_⟩
    rw [show 0 + k + 300 = (0 + k + 299) + 1 from rfl, pilcrowref11_Range.l0, if_neg (by omega)]
    rw [w64 (x := from_ + v) (by omega) (by omega), w64 (x := from_ + (v + span - 1)) (by omega) (by omega), w64 (x := tr + 1) (by omega) (by omega)]
    congr 3
    omega
  | succ t ih =>
    intro i v span ht hi hv hsp hcap h1
    have hst := capT_step t (by omega)
    have hcb : capT (t + 1) ≤ 14348907 ∧ capT t ≤ 14348907 := by
      have ht2 : t ≤ 2 := by omega
      rcases t with _ | _ | _ | t
      · decide
      · decide
      · decide
      · omega
    by_cases c : i < (s.size : Int)
    · obtain rfl : span = 1 := h1 c
      have hb := bt_range s i
      have hw : pilcrowref11_Worth.f (t + k + 300) (bt s i) = some (worthF (bt s i)) := worth_at (t + k + 44) _ hb.1 hb.2
      have eC := rng_hit (t + k + 298) s from_ tr v 1 i hi (by omega) h3 c hb.1 hb.2 hv (by omega)
      have eR : pilcrowref11_Range.l0 (t + k + 300 + 1) s from_ tr v (v + 1 - 1) i = if worthF (bt s i) < 0 then some (0, 0, 0) else pilcrowref11_Range.l0 (t + k + 300) s from_ tr (wrap64 (wrap64 (243 * v) + worthF (bt s i))) (wrap64 (wrap64 (243 * (v + 1 - 1)) + worthF (bt s i))) (wrap64 (i + 1)) := by
        rw [pilcrowref11_Range.l0, if_pos (by omega), if_pos c, if_pos (by omega), hw, Option.bind_some]
      rw [show t + 1 + k + 300 = t + k + 300 + 1 by omega, eR]
      rw [show t + k + 300 + 1 = t + k + 298 + 3 from rfl, eC]
      unfold worthF
      by_cases d : (tW (bt s i)).2 = true
      · obtain ⟨g0, g1, _⟩ := tW_some hb.1 hb.2 d
        rw [if_pos d, if_pos d, if_neg (by omega)]
        rw [w64 (x := 243 * v) (by omega) (by omega), w64 (x := 243 * v + (tW (bt s i)).1) (by omega) (by omega), w64 (x := 243 * (v + 1 - 1)) (by omega) (by omega), w64 (x := 243 * (v + 1 - 1) + (tW (bt s i)).1) (by omega) (by omega), w64 (x := i + 1) (by omega) (by omega)]
        have e1 : 243 * v + (tW (bt s i)).1 = v * 243 + (tW (bt s i)).1 := by omega
        have e2 : 243 * (v + 1 - 1) + (tW (bt s i)).1 = v * 243 + (tW (bt s i)).1 + 1 - 1 := by omega
        rw [e1, e2]
        exact ih (i + 1) (v * 243 + (tW (bt s i)).1) 1 (by omega) (by omega) (by omega) (by omega) (by omega) (fun _ => rfl)
      · rw [if_neg d, if_neg d, if_pos (by omega)]
        exact .inr ⟨rfl, rfl⟩
    · rw [show t + 1 + k + 300 = (t + k + 300) + 1 by omega, rng_miss (t + k + 300) s from_ tr v span i hi (by omega) h3 (by omega) hv (by omega) (by omega) (by omega)]
      rw [pilcrowref11_Range.l0, if_pos (by omega), if_neg c]
      rw [w64 (x := 243 * v) (by omega) (by omega), w64 (x := 243 * v + 0) (by omega) (by omega), w64 (x := 243 * (v + span - 1)) (by omega) (by omega), w64 (x := 243 * (v + span - 1) + 242) (by omega) (by omega), w64 (x := i + 1) (by omega) (by omega)]
      have e1 : 243 * v + 0 = v * 243 := by omega
      have e2 : 243 * (v + span - 1) + 242 = v * 243 + span * 243 - 1 := by omega
      rw [e1, e2]
      exact ih (i + 1) (v * 243) (span * 243) (by omega) (by omega) (by omega) (by omega) (by omega) (fun h => absurd h (by omega))
theorem range_empty (k : Nat) (s : ByteArray) (hs : s.size = 0) : diff_Range.f (k + 1) s = some (0, 0, 0, false) := by
  have he := nil_of_size hs
  rw [diff_Range.f, if_pos he, diff_Range.j0, if_pos rfl]
theorem range_nolead (k : Nat) (s : ByteArray) (hs : 0 < s.size) (h : bt s 0 < 33 ∨ 254 < bt s 0) : diff_Range.f (k + 1) s = some (0, 0, 0, false) := by
  have hne := ne_nil_of_size hs
  rw [diff_Range.f, if_neg hne, if_pos (by omega)]
  by_cases c : bt s 0 < 33
  · rw [if_pos c, diff_Range.j0, if_pos rfl]
  · rw [if_neg c, decide_eq_true (by omega), diff_Range.j0, if_pos rfl]
end Go.Proofs.Ythodifmfamflpaa.D
