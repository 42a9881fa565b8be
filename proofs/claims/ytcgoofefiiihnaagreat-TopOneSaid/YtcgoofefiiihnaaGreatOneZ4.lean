/- Texts of this claim, merged; without what the law does not lean on: Pd PTopOnex1. -/
import Derived.Test.YtcgoofefiiihnaaGreatOneZ3
import Derived.Test.YtcgoofefiiihnaaGreatOneZ2
namespace Go.Proofs.YtcgoofefiiihnaaGreat.D
open Go.RowKit Go.Proofs.YtcgoofefiiihnaaGreatW.PrintWords Go.Proofs.YtcgoofefiiihnaaGreatW.PrintLast Go.Proofs.YtcgoofefiiihnaaGreatW.PrintMore PCod
set_option linter.unusedVariables false
set_option linter.unusedSimpArgs false
def wB (v : Int) : Int := if v < 6 then v + 1 else if v < 16 then v + 10 else if v < 20 then v + 12 else v + 13
def tW (b : Int) : Int × Bool := if 33 ≤ b then (b - 13, true) else if 28 ≤ b ∧ b ≤ 31 then (b - 12, true) else if 16 ≤ b ∧ b ≤ 25 then (b - 10, true) else if 1 ≤ b ∧ b ≤ 6 then (b - 1, true) else (0, false)
def leastF (b : Int) : Int := if b = 33 then -14536567 else if b ≤ 36 then -187660 + 59049 * (b - 34) else if b ≤ 79 then -10513 + 243 * (b - 37) else if b ≤ 207 then b - 144 else if b ≤ 250 then 64 + 243 * (b - 208) else if b ≤ 253 then 10513 + 59049 * (b - 251) else 187660
def trF (b : Int) : Int := if b = 33 then 3 else if b ≤ 36 then 2 else if b ≤ 79 then 1 else if b ≤ 207 then 0 else if b ≤ 250 then 1 else if b ≤ 253 then 2 else 3
def leadF (d : Int) : Int := if d < -187660 then 33 else if d < -10513 then 34 + (d + 187660) / 59049 else if d < -64 then 37 + (d + 10513) / 243 else if d ≤ 63 then 144 + d else if d ≤ 10512 then 208 + (d - 64) / 243 else if d ≤ 187659 then 251 + (d - 10513) / 59049 else 254
def placeF (d : Int) : Int × Int × Int := if -64 ≤ d ∧ d ≤ 63 then (0, 144 + d, 0) else if d > 187659 then (d - 187660, 254, 3) else if d > 10512 then (d - 10513, 251, 2) else if d > 63 then (d - 64, 208, 1) else if d < -187660 then (d + 187660, 34, 3) else if d < -10513 then (d + 10513, 37, 2) else (d + 64, 80, 1)
def digs (t x : Int) : List Int := if t = 0 then [] else if t = 1 then [wB (x % 243)] else if t = 2 then [wB (x / 243 % 243), wB (x % 243)] else [wB (x / 243 / 243 % 243), wB (x / 243 % 243), wB (x % 243)]
def packF (d : Int) : List Int := leadF d :: digs (trF (leadF d)) (d - leastF (leadF d))
theorem w64 {x : Int} (h1 : -9223372036854775808 ≤ x) (h2 : x < 9223372036854775808) : wrap64 x = x := by unfold wrap64; omega
theorem wB_range {v : Int} (h0 : 0 ≤ v) (h1 : v ≤ 242) : 1 ≤ wB v ∧ wB v ≤ 255 := by unfold wB; split <;> (try split) <;> (try split) <;> omega
theorem t243 (a : Int) : (0 ≤ a ∧ a.tdiv 243 = a / 243 ∧ a.tmod 243 = a % 243) ∨ (a < 0 ∧ a.tdiv 243 = -((-a) / 243) ∧ a.tmod 243 = -((-a) % 243)) := by
  by_cases h : 0 ≤ a
  · exact .inl ⟨h, Int.tdiv_eq_ediv_of_nonneg h, Int.tmod_eq_emod_of_nonneg h⟩
  · refine .inr ⟨by omega, ?_, ?_⟩
    · rw [← Int.tdiv_eq_ediv_of_nonneg (by omega : 0 ≤ -a), Int.neg_tdiv, Int.neg_neg]
    · rw [← Int.tmod_eq_emod_of_nonneg (by omega : 0 ≤ -a), Int.neg_tmod, Int.neg_neg]
theorem byte_at (k : Nat) (v : Int) (h0 : 0 ≤ v) (h1 : v ≤ 242) : diff_Byte.f (k + 1) v = some (wB v, true) := by
  simp only [diff_Byte.f, diff_Byte.j0, wB, wrap64, decide_eq_true_eq, Bool.false_eq_true, if_false, if_true]
  (repeat' split) <;> first | rfl | (exfalso; omega) | (congr 2; omega)
theorem place_at (k : Nat) (d : Int) (h0 : -1114111 ≤ d) (h1 : d ≤ 1114111) : diff_place.f (k + 1) d = some (placeF d) := by
  simp only [diff_place.f, diff_place.j0, placeF, wrap64, decide_eq_true_eq, Bool.false_eq_true, if_false, if_true]
  (repeat' split) <;> first | (exfalso; omega) | (congr 2; omega) | (congr 2; congr 1; omega)
theorem l0_done (k : Nat) (left lead : Int) (out : List Int) (ho : 0 < out.length) (h0 : 0 ≤ lead + left) (h1 : lead + left ≤ 255) :
    diff_Pack.l0 (k + 1) left lead out 0 = some (strOfNums (out.set 0 (lead + left)), true) := by
  rw [diff_Pack.l0, if_neg (by omega), if_pos (by omega)]
  have e : wrap64 (lead + left) % 256 = lead + left := by unfold wrap64; omega
  rw [e]
  rfl
theorem l0_step (k : Nat) (left lead : Int) (out : List Int) (i : Int) (hi : 0 < i) (hl : i < out.length) (hi3 : i ≤ 3) (h0 : -100000000 ≤ left) (h1 : left ≤ 100000000) :
    diff_Pack.l0 (k + 2) left lead out i = diff_Pack.l0 (k + 1) (left / 243) lead (out.set i.toNat (wB (left % 243))) (i - 1) := by
  rw [diff_Pack.l0, if_pos (by omega)]
  have e1 : wrap64 (i - 1) = i - 1 := by unfold wrap64; omega
  rcases t243 left with ⟨ha, hd, hm⟩ | ⟨ha, hd, hm⟩
  · rw [if_neg (by omega), hm, byte_at k _ (by omega) (by omega), Option.bind_some, if_pos (by omega), if_pos hl, hd, w64 (by omega) (by omega), e1]
  · by_cases hz : left.tmod 243 < 0
    · have e2 : wrap64 (left.tmod 243 + 243) = left % 243 := by rw [w64 (by omega) (by omega)]; omega
      have e3 : wrap64 (wrap64 (left.tdiv 243) - 1) = left / 243 := by rw [w64 (x := left.tdiv 243) (by omega) (by omega), w64 (by omega) (by omega)]; omega
      rw [if_pos hz, e2, byte_at k _ (by omega) (by omega), Option.bind_some, if_pos (by omega), if_pos hl, e3, e1]
    · have e2 : left.tmod 243 = left % 243 := by omega
      have e3 : wrap64 (left.tdiv 243) = left / 243 := by rw [w64 (x := left.tdiv 243) (by omega) (by omega)]; omega
      rw [if_neg hz, e2, byte_at k _ (by omega) (by omega), Option.bind_some, if_pos (by omega), if_pos hl, e3, e1]
theorem pack_0 (k : Nat) (left lead : Int) (h0 : 0 ≤ lead + left) (h1 : lead + left ≤ 255) : diff_Pack.l0 (k + 5) left lead [0] 0 = some (strOfNums [lead + left], true) := by
  rw [l0_done (k + 4) _ _ _ (by simp) h0 h1]; rfl
theorem pack_1 (k : Nat) (left lead : Int) (b0 : -10000000 ≤ left) (b1 : left ≤ 10000000) (h0 : 0 ≤ lead + left / 243) (h1 : lead + left / 243 ≤ 255) :
    diff_Pack.l0 (k + 5) left lead [0, 0] 1 = some (strOfNums [lead + left / 243, wB (left % 243)], true) := by
  rw [l0_step (k + 3) _ _ _ _ (by omega) (by simp) (by omega) (by omega) (by omega)]
  rw [show (1 : Int) - 1 = 0 from rfl, l0_done (k + 3) _ _ _ (by simp) h0 h1]; rfl
theorem pack_2 (k : Nat) (left lead : Int) (b0 : -10000000 ≤ left) (b1 : left ≤ 10000000) (h0 : 0 ≤ lead + left / 243 / 243) (h1 : lead + left / 243 / 243 ≤ 255) :
    diff_Pack.l0 (k + 5) left lead [0, 0, 0] 2 = some (strOfNums [lead + left / 243 / 243, wB (left / 243 % 243), wB (left % 243)], true) := by
  rw [l0_step (k + 3) _ _ _ _ (by omega) (by simp) (by omega) (by omega) (by omega), show (2 : Int) - 1 = 1 from rfl]
  rw [l0_step (k + 2) _ _ _ _ (by omega) (by simp) (by omega) (by omega) (by omega), show (1 : Int) - 1 = 0 from rfl]
  rw [l0_done (k + 2) _ _ _ (by simp) h0 h1]; rfl
theorem pack_3 (k : Nat) (left lead : Int) (b0 : -10000000 ≤ left) (b1 : left ≤ 10000000) (h0 : 0 ≤ lead + left / 243 / 243 / 243) (h1 : lead + left / 243 / 243 / 243 ≤ 255) :
    diff_Pack.l0 (k + 5) left lead [0, 0, 0, 0] 3 = some (strOfNums [lead + left / 243 / 243 / 243, wB (left / 243 / 243 % 243), wB (left / 243 % 243), wB (left % 243)], true) := by
  rw [l0_step (k + 3) _ _ _ _ (by omega) (by simp) (by omega) (by omega) (by omega), show (3 : Int) - 1 = 2 from rfl]
  rw [l0_step (k + 2) _ _ _ _ (by omega) (by simp) (by omega) (by omega) (by omega), show (2 : Int) - 1 = 1 from rfl]
  rw [l0_step (k + 1) _ _ _ _ (by omega) (by simp) (by omega) (by omega) (by omega), show (1 : Int) - 1 = 0 from rfl]
  rw [l0_done (k + 1) _ _ _ (by simp) h0 h1]; rfl
theorem packF_0 {d : Int} (h0 : -64 ≤ d) (h1 : d ≤ 63) : packF d = [144 + d] := by
  have e : leadF d = 144 + d := by unfold leadF; (repeat' split) <;> omega
  have t : trF (144 + d) = 0 := by unfold trF; (repeat' split) <;> omega
  rw [packF, e, t]; rfl
theorem packF_t {d b x t : Int} (e : leadF d = b) (ht : trF b = t) (hx : d - leastF b = x) : packF d = b :: digs t x := by rw [packF, e, ht, hx]
theorem j0_open (k : Nat) (d : Int) (h0 : -1114111 ≤ d) (h1 : d ≤ 1114111) (left lead : Int) (t : Int) (ht0 : 0 ≤ t) (ht : t ≤ 3) (hp : placeF d = (left, lead, t)) :
    diff_Pack.f (k + 6) d = diff_Pack.l0 (k + 5) left lead (List.replicate (t + 1).toNat 0) t := by
  rw [diff_Pack.f, if_neg (by omega), decide_eq_false (by omega), diff_Pack.j0, if_neg (by simp), place_at (k + 4) d h0 h1, hp, Option.bind_some]
  have e : wrap64 (t + 1) = t + 1 := by unfold wrap64; omega
  simp only [e]
  rw [if_pos (by omega), if_pos (by omega)]
theorem pack_at (k : Nat) (d : Int) (h0 : -1114111 ≤ d) (h1 : d ≤ 1114111) : diff_Pack.f (k + 6) d = some (strOfNums (packF d), true) := by
  by_cases c0 : -64 ≤ d ∧ d ≤ 63
  · have hp : placeF d = (0, 144 + d, 0) := by unfold placeF; rw [if_pos c0]
    rw [j0_open k d h0 h1 _ _ _ (by omega) (by omega) hp, packF_0 c0.1 c0.2]
    exact (pack_0 k 0 (144 + d) (by omega) (by omega)).trans (by rw [Int.add_zero])
  by_cases c1 : d > 187659
  · have hp : placeF d = (d - 187660, 254, 3) := by unfold placeF; rw [if_neg c0, if_pos c1]
    rw [j0_open k d h0 h1 _ _ _ (by omega) (by omega) hp]
    refine (pack_3 k _ _ (by omega) (by omega) (by omega) (by omega)).trans ?_
    rw [packF_t (b := 254) (t := 3) (x := d - 187660) (by unfold leadF; (repeat' split) <;> omega) (by decide) (by rw [show leastF 254 = 187660 by decide])]
    rw [show (254 : Int) + (d - 187660) / 243 / 243 / 243 = 254 by omega]; rfl
  by_cases c2 : d > 10512
  · have hp : placeF d = (d - 10513, 251, 2) := by unfold placeF; rw [if_neg c0, if_neg c1, if_pos c2]
    rw [j0_open k d h0 h1 _ _ _ (by omega) (by omega) hp]
    refine (pack_2 k _ _ (by omega) (by omega) (by omega) (by omega)).trans ?_
    have el : leastF (251 + (d - 10513) / 59049) = 10513 + 59049 * ((d - 10513) / 59049) := by unfold leastF; (repeat' split) <;> omega
    rw [packF_t (b := 251 + (d - 10513) / 59049) (t := 2) (x := (d - 10513) - 59049 * ((d - 10513) / 59049)) (by unfold leadF; (repeat' split) <;> omega) (by unfold trF; (repeat' split) <;> omega) (by rw [el]; omega)]
    rw [show (251 : Int) + (d - 10513) / 243 / 243 = 251 + (d - 10513) / 59049 by omega]
    unfold digs
    rw [if_neg (by decide), if_neg (by decide), if_pos rfl]
    rw [show ((d - 10513) - 59049 * ((d - 10513) / 59049)) / 243 % 243 = (d - 10513) / 243 % 243 by omega, show ((d - 10513) - 59049 * ((d - 10513) / 59049)) % 243 = (d - 10513) % 243 by omega]
  by_cases c3 : d > 63
  · have hp : placeF d = (d - 64, 208, 1) := by unfold placeF; rw [if_neg c0, if_neg c1, if_neg c2, if_pos c3]
    rw [j0_open k d h0 h1 _ _ _ (by omega) (by omega) hp]
    refine (pack_1 k _ _ (by omega) (by omega) (by omega) (by omega)).trans ?_
    have el : leastF (208 + (d - 64) / 243) = 64 + 243 * ((d - 64) / 243) := by unfold leastF; (repeat' split) <;> omega
    rw [packF_t (b := 208 + (d - 64) / 243) (t := 1) (x := (d - 64) - 243 * ((d - 64) / 243)) (by unfold leadF; (repeat' split) <;> omega) (by unfold trF; (repeat' split) <;> omega) (by rw [el]; omega)]
    unfold digs
    rw [if_neg (by decide), if_pos rfl]
    rw [show ((d - 64) - 243 * ((d - 64) / 243)) % 243 = (d - 64) % 243 by omega]
  by_cases c4 : d < -187660
  · have hp : placeF d = (d + 187660, 34, 3) := by unfold placeF; rw [if_neg c0, if_neg c1, if_neg c2, if_neg c3, if_pos c4]
    rw [j0_open k d h0 h1 _ _ _ (by omega) (by omega) hp]
    refine (pack_3 k _ _ (by omega) (by omega) (by omega) (by omega)).trans ?_
    rw [packF_t (b := 33) (t := 3) (x := d + 14536567) (by unfold leadF; (repeat' split) <;> omega) (by decide) (by rw [show leastF 33 = -14536567 by decide]; omega)]
    rw [show (34 : Int) + (d + 187660) / 243 / 243 / 243 = 33 by omega]
    unfold digs
    rw [if_neg (by decide), if_neg (by decide), if_neg (by decide)]
    rw [show (d + 14536567) / 243 / 243 % 243 = (d + 187660) / 243 / 243 % 243 by omega, show (d + 14536567) / 243 % 243 = (d + 187660) / 243 % 243 by omega, show (d + 14536567) % 243 = (d + 187660) % 243 by omega]
  by_cases c5 : d < -10513
  · have hp : placeF d = (d + 10513, 37, 2) := by unfold placeF; rw [if_neg c0, if_neg c1, if_neg c2, if_neg c3, if_neg c4, if_pos c5]
    rw [j0_open k d h0 h1 _ _ _ (by omega) (by omega) hp]
    refine (pack_2 k _ _ (by omega) (by omega) (by omega) (by omega)).trans ?_
    have el : leastF (34 + (d + 187660) / 59049) = -187660 + 59049 * ((d + 187660) / 59049) := by unfold leastF; (repeat' split) <;> omega
    rw [packF_t (b := 34 + (d + 187660) / 59049) (t := 2) (x := (d + 187660) - 59049 * ((d + 187660) / 59049)) (by unfold leadF; (repeat' split) <;> omega) (by unfold trF; (repeat' split) <;> omega) (by rw [el]; omega)]
    rw [show (37 : Int) + (d + 10513) / 243 / 243 = 34 + (d + 187660) / 59049 by omega]
    unfold digs
    rw [if_neg (by decide), if_neg (by decide), if_pos rfl]
    rw [show ((d + 187660) - 59049 * ((d + 187660) / 59049)) / 243 % 243 = (d + 10513) / 243 % 243 by omega, show ((d + 187660) - 59049 * ((d + 187660) / 59049)) % 243 = (d + 10513) % 243 by omega]
  · have hp : placeF d = (d + 64, 80, 1) := by unfold placeF; rw [if_neg c0, if_neg c1, if_neg c2, if_neg c3, if_neg c4, if_neg c5]
    rw [j0_open k d h0 h1 _ _ _ (by omega) (by omega) hp]
    refine (pack_1 k _ _ (by omega) (by omega) (by omega) (by omega)).trans ?_
    have el : leastF (37 + (d + 10513) / 243) = -10513 + 243 * ((d + 10513) / 243) := by unfold leastF; (repeat' split) <;> omega
    rw [packF_t (b := 37 + (d + 10513) / 243) (t := 1) (x := (d + 10513) - 243 * ((d + 10513) / 243)) (by unfold leadF; (repeat' split) <;> omega) (by unfold trF; (repeat' split) <;> omega) (by rw [el]; omega)]
    rw [show (80 : Int) + (d + 64) / 243 = 37 + (d + 10513) / 243 by omega]
    unfold digs
    rw [if_neg (by decide), if_pos rfl]
    rw [show ((d + 10513) - 243 * ((d + 10513) / 243)) % 243 = (d + 64) % 243 by omega]
theorem lead_range {d : Int} (h0 : -1114111 ≤ d) (h1 : d ≤ 1114111) : 33 ≤ leadF d ∧ leadF d ≤ 254 := by unfold leadF; (repeat' split) <;> omega
theorem tr_range {b : Int} : 0 ≤ trF b ∧ trF b ≤ 3 := by unfold trF; (repeat' split) <;> omega
theorem prev_at (k : Nat) (c : Int) : diff_Prev.f (k + 2) c = some (if 12352 ≤ c ∧ c ≤ 12447 then 12400 else if 19968 ≤ c ∧ c ≤ 40869 then 30481 else if 44032 ≤ c ∧ c ≤ 55203 then 49617 else (Go.bits .andNot .u32 c 127 + 64) % 4294967296) := by
  simp only [diff_Prev.f, diff_Prev.j0, diff_Prev.j1, decide_eq_true_eq, Bool.false_eq_true, if_false, if_true]
  (repeat' split) <;> first | rfl | (exfalso; omega)
theorem digs_len {t : Int} (h0 : 0 ≤ t) (h3 : t ≤ 3) (x : Int) : ((digs t x).length : Int) = t := by
  unfold digs
  (repeat' split) <;> simp <;> omega
theorem packF_len {d : Int} : ((packF d).length : Int) = trF (leadF d) + 1 := by
  have ht := @tr_range (leadF d)
  have := digs_len ht.1 ht.2 (d - leastF (leadF d))
  rw [packF, List.length_cons]
  omega
def inB (xs : List Int) : Prop := ∀ x ∈ xs, 0 ≤ x ∧ x ≤ 255
theorem digs_mem {t x z : Int} (h0 : 0 ≤ t) (h3 : t ≤ 3) (hz : z ∈ digs t x) : ∃ v, 0 ≤ v ∧ v ≤ 242 ∧ z = wB v := by
  obtain rfl | rfl | rfl | rfl : t = 0 ∨ t = 1 ∨ t = 2 ∨ t = 3 := by omega
  · simp [digs] at hz
  · simp [digs] at hz
    exact ⟨_, by omega, by omega, hz⟩
  · simp [digs] at hz
    rcases hz with rfl | rfl
    · exact ⟨_, by omega, by omega, rfl⟩
    · exact ⟨_, by omega, by omega, rfl⟩
  · simp [digs] at hz
    rcases hz with rfl | rfl | rfl
    · exact ⟨_, by omega, by omega, rfl⟩
    · exact ⟨_, by omega, by omega, rfl⟩
    · exact ⟨_, by omega, by omega, rfl⟩
theorem pack_mem {d z : Int} (h0 : -1114111 ≤ d) (h1 : d ≤ 1114111) (hz : z ∈ packF d) : (33 ≤ z ∧ z ≤ 254) ∨ ∃ v, 0 ≤ v ∧ v ≤ 242 ∧ z = wB v := by
  rw [packF, List.mem_cons] at hz
  rcases hz with rfl | hz
  · exact .inl (lead_range h0 h1)
  · have ht := @tr_range (leadF d)
    exact .inr (digs_mem ht.1 ht.2 hz)
theorem pack_inB {d : Int} (h0 : -1114111 ≤ d) (h1 : d ≤ 1114111) : inB (packF d) := by
  intro z hz
  rcases pack_mem h0 h1 hz with h | ⟨v, a, b, rfl⟩
  · omega
  · have := wB_range a b; omega
theorem and_mask (n : Nat) (h : n < 4294967296) : n &&& 4294967168 = n / 128 * 128 := by
  apply Nat.eq_of_testBit_eq
  intro i
  have e1 : (4294967168 : Nat) = (2 ^ 25 - 1) <<< 7 := rfl
  have e2 : n / 128 * 128 = (n >>> 7) <<< 7 := by rw [Nat.shiftLeft_eq, Nat.shiftRight_eq_div_pow]
  rw [Nat.testBit_and, e1, e2, Nat.testBit_shiftLeft, Nat.testBit_shiftLeft, Nat.testBit_shiftRight, Nat.testBit_two_pow_sub_one]
  by_cases h7 : 7 ≤ i
  · have e3 : 7 + (i - 7) = i := by omega
    rw [e3]
    by_cases h25 : i - 7 < 25
    · simp [h7, h25]
    · have hb : n.testBit i = false := Nat.testBit_lt_two_pow (Nat.lt_of_lt_of_le h (show 4294967296 ≤ 2 ^ i from Nat.le_trans (by decide) (Nat.pow_le_pow_right (by decide) (show 32 ≤ i by omega))))
      simp [hb]
  · simp [h7]
theorem andNot_127 (c : Int) (h0 : 0 ≤ c) (h1 : c ≤ 4294967295) : Go.bits .andNot .u32 c 127 = c / 128 * 128 := by
  rw [u32_andNot c 127 h0 (by omega) (by omega) (by omega), show 4294967295 - (127 : Int).toNat = 4294967168 by decide, and_mask c.toNat (by omega)]
  omega
end Go.Proofs.YtcgoofefiiihnaaGreat.D
namespace Go.Proofs.YtcgoofefiiihnaaGreat.PTopOne
open Go.RowKit Go.Proofs.YtcgoofefiiihnaaGreatW.PrintWords Go.Proofs.YtcgoofefiiihnaaGreatW.PrintLast Go.Proofs.YtcgoofefiiihnaaGreatW.PrintMore
attribute [local go_sem] max2_int min2_int max_two min_two max_three min_three max_four min_four
set_option linter.unusedVariables false
set_option linter.unusedSimpArgs false
def IsS173 (w0 W : World) (g : Nat) (f0 : Int) (f1 : Int) (f2 : Int) (f3 : Bool) (f4 : List Int) (f5 : Int) (f6 : Int) (f7 : Int) (f8 : Int) : Prop := ∃ A4 c4, W.heap[g]? = some (.cells #[.int .i64 f0, .int .i64 f1, .int .i64 f2, .bool f3, .slice A4 f4.length c4, .int .i64 f5, .int .u8 f6, .int .u8 f7, .int .u32 f8] 173 (0, 0)) ∧ w0.heap.size ≤ g ∧ Kd.C (Kd.int .u32) w0 A4 f4.length f4
theorem IsS173.grown {w0 W : World} {g : Nat} {f0 : Int} {f1 : Int} {f2 : Int} {f3 : Bool} {f4 : List Int} {f5 : Int} {f6 : Int} {f7 : Int} {f8 : Int} {W1 : World} {row : Option Nat} (h : IsS173 w0 W g f0 f1 f2 f3 f4 f5 f6 f7 f8) (hw : W.grownBy W1 row) (hne : some g ≠ row) : IsS173 w0 W1 g f0 f1 f2 f3 f4 f5 f6 f7 f8 := by
  obtain ⟨A4, c4, hb, hg, hr4⟩ := h
  exact ⟨A4, c4, blk_grown hb hw hne, hg, hr4⟩
theorem IsS173.kept {w0 W : World} {g : Nat} {f0 : Int} {f1 : Int} {f2 : Int} {f3 : Bool} {f4 : List Int} {f5 : Int} {f6 : Int} {f7 : Int} {f8 : Int} {W1 : World} {S : Nat → Prop} (h : IsS173 w0 W g f0 f1 f2 f3 f4 f5 f6 f7 f8) (hk : Kept W W1 S) (hne : ¬ S g) : IsS173 w0 W1 g f0 f1 f2 f3 f4 f5 f6 f7 f8 := by
  obtain ⟨A4, c4, hb, hg, hr4⟩ := h
  exact ⟨A4, c4, blk_kept hb hk hne, hg, hr4⟩
theorem IsS173.below {w0 W : World} {g : Nat} {f0 : Int} {f1 : Int} {f2 : Int} {f3 : Bool} {f4 : List Int} {f5 : Int} {f6 : Int} {f7 : Int} {f8 : Int} {W1 : World} (h : IsS173 w0 W g f0 f1 f2 f3 f4 f5 f6 f7 f8) (hw : Below W.heap.size W W1) : IsS173 w0 W1 g f0 f1 f2 f3 f4 f5 f6 f7 f8 := h.grown (grown_of_below hw none) (by simp)
theorem IsS173.alloc {w0 W : World} {g : Nat} {f0 : Int} {f1 : Int} {f2 : Int} {f3 : Bool} {f4 : List Int} {f5 : Int} {f6 : Int} {f7 : Int} {f8 : Int} (h : IsS173 w0 W g f0 f1 f2 f3 f4 f5 f6 f7 f8) (o : Obj) : IsS173 w0 (W.alloc o) g f0 f1 f2 f3 f4 f5 f6 f7 f8 := h.below (below_alloc (Below.refl _ _) o)
theorem IsS173.drewN {w0 W : World} {g : Nat} {f0 : Int} {f1 : Int} {f2 : Int} {f3 : Bool} {f4 : List Int} {f5 : Int} {f6 : Int} {f7 : Int} {f8 : Int} (h : IsS173 w0 W g f0 f1 f2 f3 f4 f5 f6 f7 f8) (m : Nat) : IsS173 w0 (W.drewN m) g f0 f1 f2 f3 f4 f5 f6 f7 f8 := h
theorem IsS173.drew {w0 W : World} {g : Nat} {f0 : Int} {f1 : Int} {f2 : Int} {f3 : Bool} {f4 : List Int} {f5 : Int} {f6 : Int} {f7 : Int} {f8 : Int} (h : IsS173 w0 W g f0 f1 f2 f3 f4 f5 f6 f7 f8) : IsS173 w0 W.drew g f0 f1 f2 f3 f4 f5 f6 f7 f8 := h
theorem IsS173.at_ {w0 W : World} {g : Nat} {f0 : Int} {f1 : Int} {f2 : Int} {f3 : Bool} {f4 : List Int} {f5 : Int} {f6 : Int} {f7 : Int} {f8 : Int} {w' : World} {m : Nat} (hq : W.drewN m = w') (h : IsS173 w0 W g f0 f1 f2 f3 f4 f5 f6 f7 f8) : IsS173 w0 w' g f0 f1 f2 f3 f4 f5 f6 f7 f8 := by subst hq; exact IsS173.drewN h m
theorem IsS173.apart {w0 W : World} {g : Nat} {f0 : Int} {f1 : Int} {f2 : Int} {f3 : Bool} {f4 : List Int} {f5 : Int} {f6 : Int} {f7 : Int} {f8 : Int} {α : Type} {d : Kd α} {e : Nat} {base : Nat} {ok : Nat → Prop} {v : Value} {xs : List α} (h : IsS173 w0 W g f0 f1 f2 f3 f4 f5 f6 f7 f8) (ho : d.R e W base ok v xs) (ht : ∀ q, q ∈ e :: d.E → q ≠ 173) : d.R e W base (fun k => ok k ∧ k ≠ g) v xs := by
  obtain ⟨A4, c4, hb, hg, hr4⟩ := h
  exact Kd.R_types ho hb ht
theorem IsS173.own_ne {w0 W : World} {g : Nat} {f0 : Int} {f1 : Int} {f2 : Int} {f3 : Bool} {f4 : List Int} {f5 : Int} {f6 : Int} {f7 : Int} {f8 : Int} {α : Type} {d : Kd α} {e : Nat} {base : Nat} {ok : Nat → Prop} {v : Value} {xs : List α} (h : IsS173 w0 W g f0 f1 f2 f3 f4 f5 f6 f7 f8) (ho : d.R e W base ok v xs) (ht : e ≠ 173) : some g ≠ v.ownBlock := by
  obtain ⟨A4, c4, hb, hg, hr4⟩ := h
  exact Kd.R_ne ho hb ht
theorem IsS173.lt {w0 W : World} {g : Nat} {f0 : Int} {f1 : Int} {f2 : Int} {f3 : Bool} {f4 : List Int} {f5 : Int} {f6 : Int} {f7 : Int} {f8 : Int} (h : IsS173 w0 W g f0 f1 f2 f3 f4 f5 f6 f7 f8) : g < W.heap.size := by
  obtain ⟨A4, c4, hb, hg, hr4⟩ := h
  exact blk_lt hb
theorem IsS173.ge {w0 W : World} {g : Nat} {f0 : Int} {f1 : Int} {f2 : Int} {f3 : Bool} {f4 : List Int} {f5 : Int} {f6 : Int} {f7 : Int} {f8 : Int} (h : IsS173 w0 W g f0 f1 f2 f3 f4 f5 f6 f7 f8) : w0.heap.size ≤ g := by
  obtain ⟨A4, c4, hb, hg, hr4⟩ := h
  exact hg
theorem IsS173.far {w0 W : World} {g : Nat} {f0 : Int} {f1 : Int} {f2 : Int} {f3 : Bool} {f4 : List Int} {f5 : Int} {f6 : Int} {f7 : Int} {f8 : Int} {p : Addr} (h : IsS173 w0 W g f0 f1 f2 f3 f4 f5 f6 f7 f8) (hne : g ≠ p.block) (u : Value) : IsS173 w0 (W.setCell p u) g f0 f1 f2 f3 f4 f5 f6 f7 f8 := by
  obtain ⟨A4, c4, hb, hg, hr4⟩ := h
  exact ⟨A4, c4, blk_far hb hne u, hg, hr4⟩
theorem IsS173.set_0 {w0 W : World} {g : Nat} {f0 : Int} {f1 : Int} {f2 : Int} {f3 : Bool} {f4 : List Int} {f5 : Int} {f6 : Int} {f7 : Int} {f8 : Int} (h : IsS173 w0 W g f0 f1 f2 f3 f4 f5 f6 f7 f8) (x : Int) : IsS173 w0 (W.setCell ⟨g, 0, none⟩ (.int .i64 x)) g x f1 f2 f3 f4 f5 f6 f7 f8 := by
  obtain ⟨A4, c4, hb, hg, hr4⟩ := h
  exact ⟨A4, c4, by simpa using blk_set hb 0 (.int .i64 x), hg, hr4⟩
theorem IsS173.set_1 {w0 W : World} {g : Nat} {f0 : Int} {f1 : Int} {f2 : Int} {f3 : Bool} {f4 : List Int} {f5 : Int} {f6 : Int} {f7 : Int} {f8 : Int} (h : IsS173 w0 W g f0 f1 f2 f3 f4 f5 f6 f7 f8) (x : Int) : IsS173 w0 (W.setCell ⟨g, 1, none⟩ (.int .i64 x)) g f0 x f2 f3 f4 f5 f6 f7 f8 := by
  obtain ⟨A4, c4, hb, hg, hr4⟩ := h
  exact ⟨A4, c4, by simpa using blk_set hb 1 (.int .i64 x), hg, hr4⟩
theorem IsS173.set_2 {w0 W : World} {g : Nat} {f0 : Int} {f1 : Int} {f2 : Int} {f3 : Bool} {f4 : List Int} {f5 : Int} {f6 : Int} {f7 : Int} {f8 : Int} (h : IsS173 w0 W g f0 f1 f2 f3 f4 f5 f6 f7 f8) (x : Int) : IsS173 w0 (W.setCell ⟨g, 2, none⟩ (.int .i64 x)) g f0 f1 x f3 f4 f5 f6 f7 f8 := by
  obtain ⟨A4, c4, hb, hg, hr4⟩ := h
  exact ⟨A4, c4, by simpa using blk_set hb 2 (.int .i64 x), hg, hr4⟩
theorem IsS173.set_3 {w0 W : World} {g : Nat} {f0 : Int} {f1 : Int} {f2 : Int} {f3 : Bool} {f4 : List Int} {f5 : Int} {f6 : Int} {f7 : Int} {f8 : Int} (h : IsS173 w0 W g f0 f1 f2 f3 f4 f5 f6 f7 f8) (x : Bool) : IsS173 w0 (W.setCell ⟨g, 3, none⟩ (.bool x)) g f0 f1 f2 x f4 f5 f6 f7 f8 := by
  obtain ⟨A4, c4, hb, hg, hr4⟩ := h
  exact ⟨A4, c4, by simpa using blk_set hb 3 (.bool x), hg, hr4⟩
def IsS175 (w0 W : World) (g : Nat) (f0 : Int) (f1 : Int) (f2 : Int) (f3 : Bool) (f4 : List Int) (f5 : Bool) (f6 : Bool) (f7 : Int) (f8 : Int) : Prop := ∃ A4 c4, W.heap[g]? = some (.cells #[.int .i64 f0, .int .i64 f1, .int .i64 f2, .bool f3, .slice A4 f4.length c4, .bool f5, .bool f6, .int .u8 f7, .int .u32 f8] 175 (0, 0)) ∧ w0.heap.size ≤ g ∧ Kd.C (Kd.int .u32) w0 A4 f4.length f4
theorem IsS175.grown {w0 W : World} {g : Nat} {f0 : Int} {f1 : Int} {f2 : Int} {f3 : Bool} {f4 : List Int} {f5 : Bool} {f6 : Bool} {f7 : Int} {f8 : Int} {W1 : World} {row : Option Nat} (h : IsS175 w0 W g f0 f1 f2 f3 f4 f5 f6 f7 f8) (hw : W.grownBy W1 row) (hne : some g ≠ row) : IsS175 w0 W1 g f0 f1 f2 f3 f4 f5 f6 f7 f8 := by
  obtain ⟨A4, c4, hb, hg, hr4⟩ := h
  exact ⟨A4, c4, blk_grown hb hw hne, hg, hr4⟩
theorem IsS175.kept {w0 W : World} {g : Nat} {f0 : Int} {f1 : Int} {f2 : Int} {f3 : Bool} {f4 : List Int} {f5 : Bool} {f6 : Bool} {f7 : Int} {f8 : Int} {W1 : World} {S : Nat → Prop} (h : IsS175 w0 W g f0 f1 f2 f3 f4 f5 f6 f7 f8) (hk : Kept W W1 S) (hne : ¬ S g) : IsS175 w0 W1 g f0 f1 f2 f3 f4 f5 f6 f7 f8 := by
  obtain ⟨A4, c4, hb, hg, hr4⟩ := h
  exact ⟨A4, c4, blk_kept hb hk hne, hg, hr4⟩
theorem IsS175.below {w0 W : World} {g : Nat} {f0 : Int} {f1 : Int} {f2 : Int} {f3 : Bool} {f4 : List Int} {f5 : Bool} {f6 : Bool} {f7 : Int} {f8 : Int} {W1 : World} (h : IsS175 w0 W g f0 f1 f2 f3 f4 f5 f6 f7 f8) (hw : Below W.heap.size W W1) : IsS175 w0 W1 g f0 f1 f2 f3 f4 f5 f6 f7 f8 := h.grown (grown_of_below hw none) (by simp)
theorem IsS175.alloc {w0 W : World} {g : Nat} {f0 : Int} {f1 : Int} {f2 : Int} {f3 : Bool} {f4 : List Int} {f5 : Bool} {f6 : Bool} {f7 : Int} {f8 : Int} (h : IsS175 w0 W g f0 f1 f2 f3 f4 f5 f6 f7 f8) (o : Obj) : IsS175 w0 (W.alloc o) g f0 f1 f2 f3 f4 f5 f6 f7 f8 := h.below (below_alloc (Below.refl _ _) o)
theorem IsS175.drewN {w0 W : World} {g : Nat} {f0 : Int} {f1 : Int} {f2 : Int} {f3 : Bool} {f4 : List Int} {f5 : Bool} {f6 : Bool} {f7 : Int} {f8 : Int} (h : IsS175 w0 W g f0 f1 f2 f3 f4 f5 f6 f7 f8) (m : Nat) : IsS175 w0 (W.drewN m) g f0 f1 f2 f3 f4 f5 f6 f7 f8 := h
theorem IsS175.drew {w0 W : World} {g : Nat} {f0 : Int} {f1 : Int} {f2 : Int} {f3 : Bool} {f4 : List Int} {f5 : Bool} {f6 : Bool} {f7 : Int} {f8 : Int} (h : IsS175 w0 W g f0 f1 f2 f3 f4 f5 f6 f7 f8) : IsS175 w0 W.drew g f0 f1 f2 f3 f4 f5 f6 f7 f8 := h
theorem IsS175.at_ {w0 W : World} {g : Nat} {f0 : Int} {f1 : Int} {f2 : Int} {f3 : Bool} {f4 : List Int} {f5 : Bool} {f6 : Bool} {f7 : Int} {f8 : Int} {w' : World} {m : Nat} (hq : W.drewN m = w') (h : IsS175 w0 W g f0 f1 f2 f3 f4 f5 f6 f7 f8) : IsS175 w0 w' g f0 f1 f2 f3 f4 f5 f6 f7 f8 := by subst hq; exact IsS175.drewN h m
theorem IsS175.apart {w0 W : World} {g : Nat} {f0 : Int} {f1 : Int} {f2 : Int} {f3 : Bool} {f4 : List Int} {f5 : Bool} {f6 : Bool} {f7 : Int} {f8 : Int} {α : Type} {d : Kd α} {e : Nat} {base : Nat} {ok : Nat → Prop} {v : Value} {xs : List α} (h : IsS175 w0 W g f0 f1 f2 f3 f4 f5 f6 f7 f8) (ho : d.R e W base ok v xs) (ht : ∀ q, q ∈ e :: d.E → q ≠ 175) : d.R e W base (fun k => ok k ∧ k ≠ g) v xs := by
  obtain ⟨A4, c4, hb, hg, hr4⟩ := h
  exact Kd.R_types ho hb ht
theorem IsS175.own_ne {w0 W : World} {g : Nat} {f0 : Int} {f1 : Int} {f2 : Int} {f3 : Bool} {f4 : List Int} {f5 : Bool} {f6 : Bool} {f7 : Int} {f8 : Int} {α : Type} {d : Kd α} {e : Nat} {base : Nat} {ok : Nat → Prop} {v : Value} {xs : List α} (h : IsS175 w0 W g f0 f1 f2 f3 f4 f5 f6 f7 f8) (ho : d.R e W base ok v xs) (ht : e ≠ 175) : some g ≠ v.ownBlock := by
  obtain ⟨A4, c4, hb, hg, hr4⟩ := h
  exact Kd.R_ne ho hb ht
theorem IsS175.lt {w0 W : World} {g : Nat} {f0 : Int} {f1 : Int} {f2 : Int} {f3 : Bool} {f4 : List Int} {f5 : Bool} {f6 : Bool} {f7 : Int} {f8 : Int} (h : IsS175 w0 W g f0 f1 f2 f3 f4 f5 f6 f7 f8) : g < W.heap.size := by
  obtain ⟨A4, c4, hb, hg, hr4⟩ := h
  exact blk_lt hb
theorem IsS175.ge {w0 W : World} {g : Nat} {f0 : Int} {f1 : Int} {f2 : Int} {f3 : Bool} {f4 : List Int} {f5 : Bool} {f6 : Bool} {f7 : Int} {f8 : Int} (h : IsS175 w0 W g f0 f1 f2 f3 f4 f5 f6 f7 f8) : w0.heap.size ≤ g := by
  obtain ⟨A4, c4, hb, hg, hr4⟩ := h
  exact hg
theorem IsS175.far {w0 W : World} {g : Nat} {f0 : Int} {f1 : Int} {f2 : Int} {f3 : Bool} {f4 : List Int} {f5 : Bool} {f6 : Bool} {f7 : Int} {f8 : Int} {p : Addr} (h : IsS175 w0 W g f0 f1 f2 f3 f4 f5 f6 f7 f8) (hne : g ≠ p.block) (u : Value) : IsS175 w0 (W.setCell p u) g f0 f1 f2 f3 f4 f5 f6 f7 f8 := by
  obtain ⟨A4, c4, hb, hg, hr4⟩ := h
  exact ⟨A4, c4, blk_far hb hne u, hg, hr4⟩
theorem IsS175.set_0 {w0 W : World} {g : Nat} {f0 : Int} {f1 : Int} {f2 : Int} {f3 : Bool} {f4 : List Int} {f5 : Bool} {f6 : Bool} {f7 : Int} {f8 : Int} (h : IsS175 w0 W g f0 f1 f2 f3 f4 f5 f6 f7 f8) (x : Int) : IsS175 w0 (W.setCell ⟨g, 0, none⟩ (.int .i64 x)) g x f1 f2 f3 f4 f5 f6 f7 f8 := by
  obtain ⟨A4, c4, hb, hg, hr4⟩ := h
  exact ⟨A4, c4, by simpa using blk_set hb 0 (.int .i64 x), hg, hr4⟩
theorem IsS175.set_1 {w0 W : World} {g : Nat} {f0 : Int} {f1 : Int} {f2 : Int} {f3 : Bool} {f4 : List Int} {f5 : Bool} {f6 : Bool} {f7 : Int} {f8 : Int} (h : IsS175 w0 W g f0 f1 f2 f3 f4 f5 f6 f7 f8) (x : Int) : IsS175 w0 (W.setCell ⟨g, 1, none⟩ (.int .i64 x)) g f0 x f2 f3 f4 f5 f6 f7 f8 := by
  obtain ⟨A4, c4, hb, hg, hr4⟩ := h
  exact ⟨A4, c4, by simpa using blk_set hb 1 (.int .i64 x), hg, hr4⟩
theorem IsS175.set_2 {w0 W : World} {g : Nat} {f0 : Int} {f1 : Int} {f2 : Int} {f3 : Bool} {f4 : List Int} {f5 : Bool} {f6 : Bool} {f7 : Int} {f8 : Int} (h : IsS175 w0 W g f0 f1 f2 f3 f4 f5 f6 f7 f8) (x : Int) : IsS175 w0 (W.setCell ⟨g, 2, none⟩ (.int .i64 x)) g f0 f1 x f3 f4 f5 f6 f7 f8 := by
  obtain ⟨A4, c4, hb, hg, hr4⟩ := h
  exact ⟨A4, c4, by simpa using blk_set hb 2 (.int .i64 x), hg, hr4⟩
theorem IsS175.set_3 {w0 W : World} {g : Nat} {f0 : Int} {f1 : Int} {f2 : Int} {f3 : Bool} {f4 : List Int} {f5 : Bool} {f6 : Bool} {f7 : Int} {f8 : Int} (h : IsS175 w0 W g f0 f1 f2 f3 f4 f5 f6 f7 f8) (x : Bool) : IsS175 w0 (W.setCell ⟨g, 3, none⟩ (.bool x)) g f0 f1 f2 x f4 f5 f6 f7 f8 := by
  obtain ⟨A4, c4, hb, hg, hr4⟩ := h
  exact ⟨A4, c4, by simpa using blk_set hb 3 (.bool x), hg, hr4⟩
def IsS177 (w0 W : World) (g : Nat) (f0 : Int) (f1 : Int) (f2 : Int) (f3 : Bool) (f4 : List Int) (f5 : Bool) (f6 : Int) (f7 : Int) : Prop := ∃ A4 c4, W.heap[g]? = some (.cells #[.int .i64 f0, .int .i64 f1, .int .i64 f2, .bool f3, .slice A4 f4.length c4, .bool f5, .int .i64 f6, .int .u32 f7] 177 (0, 0)) ∧ w0.heap.size ≤ g ∧ Kd.C (Kd.int .u32) w0 A4 f4.length f4
theorem IsS177.grown {w0 W : World} {g : Nat} {f0 : Int} {f1 : Int} {f2 : Int} {f3 : Bool} {f4 : List Int} {f5 : Bool} {f6 : Int} {f7 : Int} {W1 : World} {row : Option Nat} (h : IsS177 w0 W g f0 f1 f2 f3 f4 f5 f6 f7) (hw : W.grownBy W1 row) (hne : some g ≠ row) : IsS177 w0 W1 g f0 f1 f2 f3 f4 f5 f6 f7 := by
  obtain ⟨A4, c4, hb, hg, hr4⟩ := h
  exact ⟨A4, c4, blk_grown hb hw hne, hg, hr4⟩
theorem IsS177.kept {w0 W : World} {g : Nat} {f0 : Int} {f1 : Int} {f2 : Int} {f3 : Bool} {f4 : List Int} {f5 : Bool} {f6 : Int} {f7 : Int} {W1 : World} {S : Nat → Prop} (h : IsS177 w0 W g f0 f1 f2 f3 f4 f5 f6 f7) (hk : Kept W W1 S) (hne : ¬ S g) : IsS177 w0 W1 g f0 f1 f2 f3 f4 f5 f6 f7 := by
  obtain ⟨A4, c4, hb, hg, hr4⟩ := h
  exact ⟨A4, c4, blk_kept hb hk hne, hg, hr4⟩
theorem IsS177.below {w0 W : World} {g : Nat} {f0 : Int} {f1 : Int} {f2 : Int} {f3 : Bool} {f4 : List Int} {f5 : Bool} {f6 : Int} {f7 : Int} {W1 : World} (h : IsS177 w0 W g f0 f1 f2 f3 f4 f5 f6 f7) (hw : Below W.heap.size W W1) : IsS177 w0 W1 g f0 f1 f2 f3 f4 f5 f6 f7 := h.grown (grown_of_below hw none) (by simp)
theorem IsS177.alloc {w0 W : World} {g : Nat} {f0 : Int} {f1 : Int} {f2 : Int} {f3 : Bool} {f4 : List Int} {f5 : Bool} {f6 : Int} {f7 : Int} (h : IsS177 w0 W g f0 f1 f2 f3 f4 f5 f6 f7) (o : Obj) : IsS177 w0 (W.alloc o) g f0 f1 f2 f3 f4 f5 f6 f7 := h.below (below_alloc (Below.refl _ _) o)
theorem IsS177.drewN {w0 W : World} {g : Nat} {f0 : Int} {f1 : Int} {f2 : Int} {f3 : Bool} {f4 : List Int} {f5 : Bool} {f6 : Int} {f7 : Int} (h : IsS177 w0 W g f0 f1 f2 f3 f4 f5 f6 f7) (m : Nat) : IsS177 w0 (W.drewN m) g f0 f1 f2 f3 f4 f5 f6 f7 := h
theorem IsS177.drew {w0 W : World} {g : Nat} {f0 : Int} {f1 : Int} {f2 : Int} {f3 : Bool} {f4 : List Int} {f5 : Bool} {f6 : Int} {f7 : Int} (h : IsS177 w0 W g f0 f1 f2 f3 f4 f5 f6 f7) : IsS177 w0 W.drew g f0 f1 f2 f3 f4 f5 f6 f7 := h
theorem IsS177.at_ {w0 W : World} {g : Nat} {f0 : Int} {f1 : Int} {f2 : Int} {f3 : Bool} {f4 : List Int} {f5 : Bool} {f6 : Int} {f7 : Int} {w' : World} {m : Nat} (hq : W.drewN m = w') (h : IsS177 w0 W g f0 f1 f2 f3 f4 f5 f6 f7) : IsS177 w0 w' g f0 f1 f2 f3 f4 f5 f6 f7 := by subst hq; exact IsS177.drewN h m
theorem IsS177.apart {w0 W : World} {g : Nat} {f0 : Int} {f1 : Int} {f2 : Int} {f3 : Bool} {f4 : List Int} {f5 : Bool} {f6 : Int} {f7 : Int} {α : Type} {d : Kd α} {e : Nat} {base : Nat} {ok : Nat → Prop} {v : Value} {xs : List α} (h : IsS177 w0 W g f0 f1 f2 f3 f4 f5 f6 f7) (ho : d.R e W base ok v xs) (ht : ∀ q, q ∈ e :: d.E → q ≠ 177) : d.R e W base (fun k => ok k ∧ k ≠ g) v xs := by
  obtain ⟨A4, c4, hb, hg, hr4⟩ := h
  exact Kd.R_types ho hb ht
theorem IsS177.own_ne {w0 W : World} {g : Nat} {f0 : Int} {f1 : Int} {f2 : Int} {f3 : Bool} {f4 : List Int} {f5 : Bool} {f6 : Int} {f7 : Int} {α : Type} {d : Kd α} {e : Nat} {base : Nat} {ok : Nat → Prop} {v : Value} {xs : List α} (h : IsS177 w0 W g f0 f1 f2 f3 f4 f5 f6 f7) (ho : d.R e W base ok v xs) (ht : e ≠ 177) : some g ≠ v.ownBlock := by
  obtain ⟨A4, c4, hb, hg, hr4⟩ := h
  exact Kd.R_ne ho hb ht
theorem IsS177.lt {w0 W : World} {g : Nat} {f0 : Int} {f1 : Int} {f2 : Int} {f3 : Bool} {f4 : List Int} {f5 : Bool} {f6 : Int} {f7 : Int} (h : IsS177 w0 W g f0 f1 f2 f3 f4 f5 f6 f7) : g < W.heap.size := by
  obtain ⟨A4, c4, hb, hg, hr4⟩ := h
  exact blk_lt hb
theorem IsS177.ge {w0 W : World} {g : Nat} {f0 : Int} {f1 : Int} {f2 : Int} {f3 : Bool} {f4 : List Int} {f5 : Bool} {f6 : Int} {f7 : Int} (h : IsS177 w0 W g f0 f1 f2 f3 f4 f5 f6 f7) : w0.heap.size ≤ g := by
  obtain ⟨A4, c4, hb, hg, hr4⟩ := h
  exact hg
theorem IsS177.far {w0 W : World} {g : Nat} {f0 : Int} {f1 : Int} {f2 : Int} {f3 : Bool} {f4 : List Int} {f5 : Bool} {f6 : Int} {f7 : Int} {p : Addr} (h : IsS177 w0 W g f0 f1 f2 f3 f4 f5 f6 f7) (hne : g ≠ p.block) (u : Value) : IsS177 w0 (W.setCell p u) g f0 f1 f2 f3 f4 f5 f6 f7 := by
  obtain ⟨A4, c4, hb, hg, hr4⟩ := h
  exact ⟨A4, c4, blk_far hb hne u, hg, hr4⟩
theorem IsS177.set_0 {w0 W : World} {g : Nat} {f0 : Int} {f1 : Int} {f2 : Int} {f3 : Bool} {f4 : List Int} {f5 : Bool} {f6 : Int} {f7 : Int} (h : IsS177 w0 W g f0 f1 f2 f3 f4 f5 f6 f7) (x : Int) : IsS177 w0 (W.setCell ⟨g, 0, none⟩ (.int .i64 x)) g x f1 f2 f3 f4 f5 f6 f7 := by
  obtain ⟨A4, c4, hb, hg, hr4⟩ := h
  exact ⟨A4, c4, by simpa using blk_set hb 0 (.int .i64 x), hg, hr4⟩
theorem IsS177.set_1 {w0 W : World} {g : Nat} {f0 : Int} {f1 : Int} {f2 : Int} {f3 : Bool} {f4 : List Int} {f5 : Bool} {f6 : Int} {f7 : Int} (h : IsS177 w0 W g f0 f1 f2 f3 f4 f5 f6 f7) (x : Int) : IsS177 w0 (W.setCell ⟨g, 1, none⟩ (.int .i64 x)) g f0 x f2 f3 f4 f5 f6 f7 := by
  obtain ⟨A4, c4, hb, hg, hr4⟩ := h
  exact ⟨A4, c4, by simpa using blk_set hb 1 (.int .i64 x), hg, hr4⟩
theorem IsS177.set_2 {w0 W : World} {g : Nat} {f0 : Int} {f1 : Int} {f2 : Int} {f3 : Bool} {f4 : List Int} {f5 : Bool} {f6 : Int} {f7 : Int} (h : IsS177 w0 W g f0 f1 f2 f3 f4 f5 f6 f7) (x : Int) : IsS177 w0 (W.setCell ⟨g, 2, none⟩ (.int .i64 x)) g f0 f1 x f3 f4 f5 f6 f7 := by
  obtain ⟨A4, c4, hb, hg, hr4⟩ := h
  exact ⟨A4, c4, by simpa using blk_set hb 2 (.int .i64 x), hg, hr4⟩
theorem IsS177.set_3 {w0 W : World} {g : Nat} {f0 : Int} {f1 : Int} {f2 : Int} {f3 : Bool} {f4 : List Int} {f5 : Bool} {f6 : Int} {f7 : Int} (h : IsS177 w0 W g f0 f1 f2 f3 f4 f5 f6 f7) (x : Bool) : IsS177 w0 (W.setCell ⟨g, 3, none⟩ (.bool x)) g f0 f1 f2 x f4 f5 f6 f7 := by
  obtain ⟨A4, c4, hb, hg, hr4⟩ := h
  exact ⟨A4, c4, by simpa using blk_set hb 3 (.bool x), hg, hr4⟩
def IsS185 (w0 W : World) (g : Nat) (f0 : Int) (f1 : Int) (f2 : Int) (f3 : Bool) (f4 : List Int) (f5 : List Int) : Prop := ∃ A4 c4, ∃ A5 c5, W.heap[g]? = some (.cells #[.int .i64 f0, .int .i64 f1, .int .i64 f2, .bool f3, .slice A4 f4.length c4, .slice A5 f5.length c5] 185 (0, 0)) ∧ w0.heap.size ≤ g ∧ Kd.C (Kd.int .u32) w0 A4 f4.length f4 ∧ Kd.C (Kd.int .u8) w0 A5 f5.length f5
theorem IsS185.grown {w0 W : World} {g : Nat} {f0 : Int} {f1 : Int} {f2 : Int} {f3 : Bool} {f4 : List Int} {f5 : List Int} {W1 : World} {row : Option Nat} (h : IsS185 w0 W g f0 f1 f2 f3 f4 f5) (hw : W.grownBy W1 row) (hne : some g ≠ row) : IsS185 w0 W1 g f0 f1 f2 f3 f4 f5 := by
  obtain ⟨A4, c4, A5, c5, hb, hg, hr4, hr5⟩ := h
  exact ⟨A4, c4, A5, c5, blk_grown hb hw hne, hg, hr4, hr5⟩
theorem IsS185.kept {w0 W : World} {g : Nat} {f0 : Int} {f1 : Int} {f2 : Int} {f3 : Bool} {f4 : List Int} {f5 : List Int} {W1 : World} {S : Nat → Prop} (h : IsS185 w0 W g f0 f1 f2 f3 f4 f5) (hk : Kept W W1 S) (hne : ¬ S g) : IsS185 w0 W1 g f0 f1 f2 f3 f4 f5 := by
  obtain ⟨A4, c4, A5, c5, hb, hg, hr4, hr5⟩ := h
  exact ⟨A4, c4, A5, c5, blk_kept hb hk hne, hg, hr4, hr5⟩
theorem IsS185.below {w0 W : World} {g : Nat} {f0 : Int} {f1 : Int} {f2 : Int} {f3 : Bool} {f4 : List Int} {f5 : List Int} {W1 : World} (h : IsS185 w0 W g f0 f1 f2 f3 f4 f5) (hw : Below W.heap.size W W1) : IsS185 w0 W1 g f0 f1 f2 f3 f4 f5 := h.grown (grown_of_below hw none) (by simp)
theorem IsS185.alloc {w0 W : World} {g : Nat} {f0 : Int} {f1 : Int} {f2 : Int} {f3 : Bool} {f4 : List Int} {f5 : List Int} (h : IsS185 w0 W g f0 f1 f2 f3 f4 f5) (o : Obj) : IsS185 w0 (W.alloc o) g f0 f1 f2 f3 f4 f5 := h.below (below_alloc (Below.refl _ _) o)
theorem IsS185.drewN {w0 W : World} {g : Nat} {f0 : Int} {f1 : Int} {f2 : Int} {f3 : Bool} {f4 : List Int} {f5 : List Int} (h : IsS185 w0 W g f0 f1 f2 f3 f4 f5) (m : Nat) : IsS185 w0 (W.drewN m) g f0 f1 f2 f3 f4 f5 := h
theorem IsS185.drew {w0 W : World} {g : Nat} {f0 : Int} {f1 : Int} {f2 : Int} {f3 : Bool} {f4 : List Int} {f5 : List Int} (h : IsS185 w0 W g f0 f1 f2 f3 f4 f5) : IsS185 w0 W.drew g f0 f1 f2 f3 f4 f5 := h
theorem IsS185.at_ {w0 W : World} {g : Nat} {f0 : Int} {f1 : Int} {f2 : Int} {f3 : Bool} {f4 : List Int} {f5 : List Int} {w' : World} {m : Nat} (hq : W.drewN m = w') (h : IsS185 w0 W g f0 f1 f2 f3 f4 f5) : IsS185 w0 w' g f0 f1 f2 f3 f4 f5 := by subst hq; exact IsS185.drewN h m
theorem IsS185.apart {w0 W : World} {g : Nat} {f0 : Int} {f1 : Int} {f2 : Int} {f3 : Bool} {f4 : List Int} {f5 : List Int} {α : Type} {d : Kd α} {e : Nat} {base : Nat} {ok : Nat → Prop} {v : Value} {xs : List α} (h : IsS185 w0 W g f0 f1 f2 f3 f4 f5) (ho : d.R e W base ok v xs) (ht : ∀ q, q ∈ e :: d.E → q ≠ 185) : d.R e W base (fun k => ok k ∧ k ≠ g) v xs := by
  obtain ⟨A4, c4, A5, c5, hb, hg, hr4, hr5⟩ := h
  exact Kd.R_types ho hb ht
theorem IsS185.own_ne {w0 W : World} {g : Nat} {f0 : Int} {f1 : Int} {f2 : Int} {f3 : Bool} {f4 : List Int} {f5 : List Int} {α : Type} {d : Kd α} {e : Nat} {base : Nat} {ok : Nat → Prop} {v : Value} {xs : List α} (h : IsS185 w0 W g f0 f1 f2 f3 f4 f5) (ho : d.R e W base ok v xs) (ht : e ≠ 185) : some g ≠ v.ownBlock := by
  obtain ⟨A4, c4, A5, c5, hb, hg, hr4, hr5⟩ := h
  exact Kd.R_ne ho hb ht
theorem IsS185.lt {w0 W : World} {g : Nat} {f0 : Int} {f1 : Int} {f2 : Int} {f3 : Bool} {f4 : List Int} {f5 : List Int} (h : IsS185 w0 W g f0 f1 f2 f3 f4 f5) : g < W.heap.size := by
  obtain ⟨A4, c4, A5, c5, hb, hg, hr4, hr5⟩ := h
  exact blk_lt hb
theorem IsS185.ge {w0 W : World} {g : Nat} {f0 : Int} {f1 : Int} {f2 : Int} {f3 : Bool} {f4 : List Int} {f5 : List Int} (h : IsS185 w0 W g f0 f1 f2 f3 f4 f5) : w0.heap.size ≤ g := by
  obtain ⟨A4, c4, A5, c5, hb, hg, hr4, hr5⟩ := h
  exact hg
theorem IsS185.far {w0 W : World} {g : Nat} {f0 : Int} {f1 : Int} {f2 : Int} {f3 : Bool} {f4 : List Int} {f5 : List Int} {p : Addr} (h : IsS185 w0 W g f0 f1 f2 f3 f4 f5) (hne : g ≠ p.block) (u : Value) : IsS185 w0 (W.setCell p u) g f0 f1 f2 f3 f4 f5 := by
  obtain ⟨A4, c4, A5, c5, hb, hg, hr4, hr5⟩ := h
  exact ⟨A4, c4, A5, c5, blk_far hb hne u, hg, hr4, hr5⟩
theorem IsS185.set_0 {w0 W : World} {g : Nat} {f0 : Int} {f1 : Int} {f2 : Int} {f3 : Bool} {f4 : List Int} {f5 : List Int} (h : IsS185 w0 W g f0 f1 f2 f3 f4 f5) (x : Int) : IsS185 w0 (W.setCell ⟨g, 0, none⟩ (.int .i64 x)) g x f1 f2 f3 f4 f5 := by
  obtain ⟨A4, c4, A5, c5, hb, hg, hr4, hr5⟩ := h
  exact ⟨A4, c4, A5, c5, by simpa using blk_set hb 0 (.int .i64 x), hg, hr4, hr5⟩
theorem IsS185.set_1 {w0 W : World} {g : Nat} {f0 : Int} {f1 : Int} {f2 : Int} {f3 : Bool} {f4 : List Int} {f5 : List Int} (h : IsS185 w0 W g f0 f1 f2 f3 f4 f5) (x : Int) : IsS185 w0 (W.setCell ⟨g, 1, none⟩ (.int .i64 x)) g f0 x f2 f3 f4 f5 := by
  obtain ⟨A4, c4, A5, c5, hb, hg, hr4, hr5⟩ := h
  exact ⟨A4, c4, A5, c5, by simpa using blk_set hb 1 (.int .i64 x), hg, hr4, hr5⟩
theorem IsS185.set_2 {w0 W : World} {g : Nat} {f0 : Int} {f1 : Int} {f2 : Int} {f3 : Bool} {f4 : List Int} {f5 : List Int} (h : IsS185 w0 W g f0 f1 f2 f3 f4 f5) (x : Int) : IsS185 w0 (W.setCell ⟨g, 2, none⟩ (.int .i64 x)) g f0 f1 x f3 f4 f5 := by
  obtain ⟨A4, c4, A5, c5, hb, hg, hr4, hr5⟩ := h
  exact ⟨A4, c4, A5, c5, by simpa using blk_set hb 2 (.int .i64 x), hg, hr4, hr5⟩
theorem IsS185.set_3 {w0 W : World} {g : Nat} {f0 : Int} {f1 : Int} {f2 : Int} {f3 : Bool} {f4 : List Int} {f5 : List Int} (h : IsS185 w0 W g f0 f1 f2 f3 f4 f5) (x : Bool) : IsS185 w0 (W.setCell ⟨g, 3, none⟩ (.bool x)) g f0 f1 f2 x f4 f5 := by
  obtain ⟨A4, c4, A5, c5, hb, hg, hr4, hr5⟩ := h
  exact ⟨A4, c4, A5, c5, by simpa using blk_set hb 3 (.bool x), hg, hr4, hr5⟩
def IsS187 (w0 W : World) (g : Nat) (f0 : Int) (f1 : Int) (f2 : Int) (f3 : Bool) (f4 : List Int) (f5 : Int) (f6 : ByteArray) : Prop := ∃ A4 c4, W.heap[g]? = some (.cells #[.int .i64 f0, .int .i64 f1, .int .i64 f2, .bool f3, .slice A4 f4.length c4, .int .u32 f5, .string f6] 187 (0, 0)) ∧ w0.heap.size ≤ g ∧ Kd.C (Kd.int .u32) w0 A4 f4.length f4
theorem IsS187.grown {w0 W : World} {g : Nat} {f0 : Int} {f1 : Int} {f2 : Int} {f3 : Bool} {f4 : List Int} {f5 : Int} {f6 : ByteArray} {W1 : World} {row : Option Nat} (h : IsS187 w0 W g f0 f1 f2 f3 f4 f5 f6) (hw : W.grownBy W1 row) (hne : some g ≠ row) : IsS187 w0 W1 g f0 f1 f2 f3 f4 f5 f6 := by
  obtain ⟨A4, c4, hb, hg, hr4⟩ := h
  exact ⟨A4, c4, blk_grown hb hw hne, hg, hr4⟩
theorem IsS187.kept {w0 W : World} {g : Nat} {f0 : Int} {f1 : Int} {f2 : Int} {f3 : Bool} {f4 : List Int} {f5 : Int} {f6 : ByteArray} {W1 : World} {S : Nat → Prop} (h : IsS187 w0 W g f0 f1 f2 f3 f4 f5 f6) (hk : Kept W W1 S) (hne : ¬ S g) : IsS187 w0 W1 g f0 f1 f2 f3 f4 f5 f6 := by
  obtain ⟨A4, c4, hb, hg, hr4⟩ := h
  exact ⟨A4, c4, blk_kept hb hk hne, hg, hr4⟩
theorem IsS187.below {w0 W : World} {g : Nat} {f0 : Int} {f1 : Int} {f2 : Int} {f3 : Bool} {f4 : List Int} {f5 : Int} {f6 : ByteArray} {W1 : World} (h : IsS187 w0 W g f0 f1 f2 f3 f4 f5 f6) (hw : Below W.heap.size W W1) : IsS187 w0 W1 g f0 f1 f2 f3 f4 f5 f6 := h.grown (grown_of_below hw none) (by simp)
theorem IsS187.alloc {w0 W : World} {g : Nat} {f0 : Int} {f1 : Int} {f2 : Int} {f3 : Bool} {f4 : List Int} {f5 : Int} {f6 : ByteArray} (h : IsS187 w0 W g f0 f1 f2 f3 f4 f5 f6) (o : Obj) : IsS187 w0 (W.alloc o) g f0 f1 f2 f3 f4 f5 f6 := h.below (below_alloc (Below.refl _ _) o)
theorem IsS187.drewN {w0 W : World} {g : Nat} {f0 : Int} {f1 : Int} {f2 : Int} {f3 : Bool} {f4 : List Int} {f5 : Int} {f6 : ByteArray} (h : IsS187 w0 W g f0 f1 f2 f3 f4 f5 f6) (m : Nat) : IsS187 w0 (W.drewN m) g f0 f1 f2 f3 f4 f5 f6 := h
theorem IsS187.drew {w0 W : World} {g : Nat} {f0 : Int} {f1 : Int} {f2 : Int} {f3 : Bool} {f4 : List Int} {f5 : Int} {f6 : ByteArray} (h : IsS187 w0 W g f0 f1 f2 f3 f4 f5 f6) : IsS187 w0 W.drew g f0 f1 f2 f3 f4 f5 f6 := h
theorem IsS187.at_ {w0 W : World} {g : Nat} {f0 : Int} {f1 : Int} {f2 : Int} {f3 : Bool} {f4 : List Int} {f5 : Int} {f6 : ByteArray} {w' : World} {m : Nat} (hq : W.drewN m = w') (h : IsS187 w0 W g f0 f1 f2 f3 f4 f5 f6) : IsS187 w0 w' g f0 f1 f2 f3 f4 f5 f6 := by subst hq; exact IsS187.drewN h m
theorem IsS187.apart {w0 W : World} {g : Nat} {f0 : Int} {f1 : Int} {f2 : Int} {f3 : Bool} {f4 : List Int} {f5 : Int} {f6 : ByteArray} {α : Type} {d : Kd α} {e : Nat} {base : Nat} {ok : Nat → Prop} {v : Value} {xs : List α} (h : IsS187 w0 W g f0 f1 f2 f3 f4 f5 f6) (ho : d.R e W base ok v xs) (ht : ∀ q, q ∈ e :: d.E → q ≠ 187) : d.R e W base (fun k => ok k ∧ k ≠ g) v xs := by
  obtain ⟨A4, c4, hb, hg, hr4⟩ := h
  exact Kd.R_types ho hb ht
theorem IsS187.own_ne {w0 W : World} {g : Nat} {f0 : Int} {f1 : Int} {f2 : Int} {f3 : Bool} {f4 : List Int} {f5 : Int} {f6 : ByteArray} {α : Type} {d : Kd α} {e : Nat} {base : Nat} {ok : Nat → Prop} {v : Value} {xs : List α} (h : IsS187 w0 W g f0 f1 f2 f3 f4 f5 f6) (ho : d.R e W base ok v xs) (ht : e ≠ 187) : some g ≠ v.ownBlock := by
  obtain ⟨A4, c4, hb, hg, hr4⟩ := h
  exact Kd.R_ne ho hb ht
theorem IsS187.lt {w0 W : World} {g : Nat} {f0 : Int} {f1 : Int} {f2 : Int} {f3 : Bool} {f4 : List Int} {f5 : Int} {f6 : ByteArray} (h : IsS187 w0 W g f0 f1 f2 f3 f4 f5 f6) : g < W.heap.size := by
  obtain ⟨A4, c4, hb, hg, hr4⟩ := h
  exact blk_lt hb
theorem IsS187.ge {w0 W : World} {g : Nat} {f0 : Int} {f1 : Int} {f2 : Int} {f3 : Bool} {f4 : List Int} {f5 : Int} {f6 : ByteArray} (h : IsS187 w0 W g f0 f1 f2 f3 f4 f5 f6) : w0.heap.size ≤ g := by
  obtain ⟨A4, c4, hb, hg, hr4⟩ := h
  exact hg
theorem IsS187.far {w0 W : World} {g : Nat} {f0 : Int} {f1 : Int} {f2 : Int} {f3 : Bool} {f4 : List Int} {f5 : Int} {f6 : ByteArray} {p : Addr} (h : IsS187 w0 W g f0 f1 f2 f3 f4 f5 f6) (hne : g ≠ p.block) (u : Value) : IsS187 w0 (W.setCell p u) g f0 f1 f2 f3 f4 f5 f6 := by
  obtain ⟨A4, c4, hb, hg, hr4⟩ := h
  exact ⟨A4, c4, blk_far hb hne u, hg, hr4⟩
theorem IsS187.set_0 {w0 W : World} {g : Nat} {f0 : Int} {f1 : Int} {f2 : Int} {f3 : Bool} {f4 : List Int} {f5 : Int} {f6 : ByteArray} (h : IsS187 w0 W g f0 f1 f2 f3 f4 f5 f6) (x : Int) : IsS187 w0 (W.setCell ⟨g, 0, none⟩ (.int .i64 x)) g x f1 f2 f3 f4 f5 f6 := by
  obtain ⟨A4, c4, hb, hg, hr4⟩ := h
  exact ⟨A4, c4, by simpa using blk_set hb 0 (.int .i64 x), hg, hr4⟩
theorem IsS187.set_1 {w0 W : World} {g : Nat} {f0 : Int} {f1 : Int} {f2 : Int} {f3 : Bool} {f4 : List Int} {f5 : Int} {f6 : ByteArray} (h : IsS187 w0 W g f0 f1 f2 f3 f4 f5 f6) (x : Int) : IsS187 w0 (W.setCell ⟨g, 1, none⟩ (.int .i64 x)) g f0 x f2 f3 f4 f5 f6 := by
  obtain ⟨A4, c4, hb, hg, hr4⟩ := h
  exact ⟨A4, c4, by simpa using blk_set hb 1 (.int .i64 x), hg, hr4⟩
theorem IsS187.set_2 {w0 W : World} {g : Nat} {f0 : Int} {f1 : Int} {f2 : Int} {f3 : Bool} {f4 : List Int} {f5 : Int} {f6 : ByteArray} (h : IsS187 w0 W g f0 f1 f2 f3 f4 f5 f6) (x : Int) : IsS187 w0 (W.setCell ⟨g, 2, none⟩ (.int .i64 x)) g f0 f1 x f3 f4 f5 f6 := by
  obtain ⟨A4, c4, hb, hg, hr4⟩ := h
  exact ⟨A4, c4, by simpa using blk_set hb 2 (.int .i64 x), hg, hr4⟩
theorem IsS187.set_3 {w0 W : World} {g : Nat} {f0 : Int} {f1 : Int} {f2 : Int} {f3 : Bool} {f4 : List Int} {f5 : Int} {f6 : ByteArray} (h : IsS187 w0 W g f0 f1 f2 f3 f4 f5 f6) (x : Bool) : IsS187 w0 (W.setCell ⟨g, 3, none⟩ (.bool x)) g f0 f1 f2 x f4 f5 f6 := by
  obtain ⟨A4, c4, hb, hg, hr4⟩ := h
  exact ⟨A4, c4, by simpa using blk_set hb 3 (.bool x), hg, hr4⟩
mutual
def pilcrowref01_Order.l0 : Nat → List Int → List Int → Int → Option (Int)
  | 0, _, _, _ => none
  | k + 1, x0, x1, x5 => if x5 < (x0.length : Int) then (pilcrowref01_Order.j1 k x0 x1 x5 (decide (x5 < (x1.length : Int)))) else (pilcrowref01_Order.j1 k x0 x1 x5 false)
def pilcrowref01_Order.j1 : Nat → List Int → List Int → Int → Bool → Option (Int)
  | 0, _, _, _, _ => none
  | k + 1, x0, x1, x5, x15 => if x15 = true then (if 0 ≤ x5 then (if x5 < (x0.length : Int) then (if x5 < (x1.length : Int) then (if (rd x0 x5) < (rd x1 x5) then (some (-1)) else (if (rd x0 x5) > (rd x1 x5) then (some 1) else (pilcrowref01_Order.l0 k x0 x1 (wrap64 (x5 + 1))))) else (none)) else (none)) else (none)) else (if (x0.length : Int) < (x1.length : Int) then (some (-1)) else (if (x0.length : Int) > (x1.length : Int) then (some 1) else (some 0)))
end
def pilcrowref01_Order.f (k : Nat) (l0 : List Int) (l1 : List Int) : Option (Int) := pilcrowref01_Order.l0 k l0 l1 0
set_option maxHeartbeats 8000000 in
set_option maxRecDepth 100000 in
theorem pilcrowref01_Order.calls (k : Nat) (A0 : Option Addr) (c0 : Nat) (l0 : List Int) (A1 : Option Addr) (c1 : Nat) (l1 : List Int) (r : Int) (w : World) (hr0 : Kd.C (Kd.int .u32) w A0 l0.length l0) (hc0 : l0.length ≤ c0) (hr1 : Kd.C (Kd.int .u32) w A1 l1.length l1) (hc1 : l1.length ≤ c1) (h : pilcrowref01_Order.f k l0 l1 = some r) :
    Calls Tryz.prog 33 #[.slice A0 l0.length c0, .slice A1 l1.length c1] w fun e w' => e = .returned (.int .i64 r) ∧ Drawn0 w w' := by
  have HR0 := Aside0.mk hr0
  have HC0 := Aside0.mk hc0
  clear hr0 hc0
  have HR1 := Aside0.mk hr1
  have HC1 := Aside0.mk hc1
  clear hr1 hc1
  have H : (pilcrowref01_Order.l0 k l0 l1 0) = some r := h
  clear h
  have H' := Aside0.mk H
  clear H
  go_enter Tryz.func33, Tryz.ntmps33
  go_wp2
  repeat (go_quiet (fail); try go_wp2)
  go_loopg [5] k (fun kq v5 w' => ∃ (x5_1 : Int), v5 = .int .i64 x5_1 ∧ Aside0 (pilcrowref01_Order.l0 kq l0 l1 x5_1 = some r) ∧ Aside0 (kq ≤ k) ∧ Drawn0 w w')
  case atStart => exact ⟨(0), (by first | rfl | (simp; done) | (simp [*]; done)), H', ⟨Nat.le_refl _⟩, by repeat (first | exact Drawn0.refl _ | apply Drawn0.step)⟩
  case round =>
    clear H'
    try clear c1
    try clear p2
    obtain ⟨x5_1, rfl, HA, HK1, ⟨m1, rfl⟩⟩ := hrel
    cases gk with
    | zero => exact absurd HA.out (by simp [pilcrowref01_Order.l0])
    | succ k1 =>
      have H := HA.out
      clear HA
      simp only [pilcrowref01_Order.l0] at H
      have HC3 := Aside0.mk H
      clear H
      go_upto_region 2 with (fail)
      repeat (go_quiet (fail); go_upto_region 2 with (fail))
      go_cut [15] (fun v15 wc => ∃ (kq : Nat) (x15_2 : Bool), v15 = .bool x15_2 ∧ Aside0 (pilcrowref01_Order.j1 kq l0 l1 x5_1 x15_2 = some r) ∧ Aside0 (kq ≤ k1) ∧ Drawn0 w wc)
      case first =>
        have H := HC3.out
        clear HC3
        by_cases c4 : x5_1 < (l0.length : Int)
        · rw [if_pos c4] at H
          have c4b0 : decide (x5_1 < (l0.length : Int)) = true := decide_eq_true c4
          clear c4
          (first | rw [c4b0] | (simp only [i64_w, i32_w]; rw [c4b0]) | skip)
          have H' := Aside0.mk H
          clear H
          go_wp2
          repeat (go_quiet (fail); try go_wp2)
          go_meet
          case rel => exact ⟨_, (decide (x5_1 < (l1.length : Int))), (by first | rfl | (simp; done) | (simp [*]; done)), H', ⟨by have := HK1.out; first | omega | exact Nat.le_refl _⟩, by repeat (first | exact Drawn0.refl _ | apply Drawn0.step)⟩
        · rw [if_neg c4] at H
          have c4b0 : decide (x5_1 < (l0.length : Int)) = false := decide_eq_false c4
          clear c4
          (first | rw [c4b0] | (simp only [i64_w, i32_w]; rw [c4b0]) | skip)
          have H' := Aside0.mk H
          clear H
          go_wp2
          repeat (go_quiet (fail); try go_wp2)
          go_meet
          case rel => exact ⟨_, (false), (by first | rfl | (simp; done) | (simp [*]; done)), H', ⟨by have := HK1.out; first | omega | exact Nat.le_refl _⟩, by repeat (first | exact Drawn0.refl _ | apply Drawn0.step)⟩
      case rest =>
        clear HC3
        try clear c1
        try clear p2
        try clear c3
        try clear c4
        try clear c4b0
        try clear p2
        obtain ⟨kq, x15_2, rfl, HA, HJ2, ⟨mc2, rfl⟩⟩ := hcut
        cases kq with
        | zero => exact absurd HA.out (by simp [pilcrowref01_Order.j1])
        | succ kj2 =>
          have H := HA.out
          clear HA
          simp only [pilcrowref01_Order.j1] at H
          by_cases c5 : x15_2 = true
          · subst c5
            have H1 : (if 0 ≤ x5_1 then (if x5_1 < (l0.length : Int) then (if x5_1 < (l1.length : Int) then (if (rd l0 x5_1) < (rd l1 x5_1) then (some (-1)) else (if (rd l0 x5_1) > (rd l1 x5_1) then (some 1) else (pilcrowref01_Order.l0 kj2 l0 l1 (wrap64 (x5_1 + 1))))) else (none)) else (none)) else (none)) = some r := by rw [if_pos rfl] at H; exact H
            clear H
            have H := H1
            clear H1
            by_cases c6 : 0 ≤ x5_1
            · rw [if_pos c6] at H
              have c6b0 : decide (0 ≤ x5_1) = true := decide_eq_true c6
              clear c6
              by_cases c7 : x5_1 < (l0.length : Int)
              · rw [if_pos c7] at H
                have c7b0 : decide (x5_1 < (l0.length : Int)) = true := decide_eq_true c7
                clear c7
                by_cases c8 : x5_1 < (l1.length : Int)
                · rw [if_pos c8] at H
                  have c8b0 : decide (x5_1 < (l1.length : Int)) = true := decide_eq_true c8
                  clear c8
                  by_cases c9 : (rd l0 x5_1) < (rd l1 x5_1)
                  · rw [if_pos c9] at H
                    have c9b0 : decide ((rd l0 x5_1) < (rd l1 x5_1)) = true := decide_eq_true c9
                    clear c9
                    obtain rfl := Option.some.inj H
                    have p107 : 0 ≤ (x5_1 : Int) := of_decide_eq_true (by first | (with_reducible assumption) | assumption)
                    have q107 : x5_1 < (l0.length : Int) := of_decide_eq_true (by first | (with_reducible assumption) | assumption)
                    obtain ⟨ad107, e107, hx107_0⟩ := Kd.at_int HR0.out x5_1 p107 q107
                    cases e107
                    replace p107 := eq_true p107
                    replace q107 := eq_true q107
                    have p108 : 0 ≤ (x5_1 : Int) := of_decide_eq_true (by first | (with_reducible assumption) | assumption)
                    have q108 : x5_1 < (l1.length : Int) := of_decide_eq_true (by first | (with_reducible assumption) | assumption)
                    obtain ⟨ad108, e108, hx108_0⟩ := Kd.at_int HR1.out x5_1 p108 q108
                    cases e108
                    replace p108 := eq_true p108
                    replace q108 := eq_true q108
                    go_wp2
                    repeat (go_quiet (fail); try go_wp2)
                    go_ret
                    exact ⟨by first | rfl | (simp; done) | (simp [*]; done), by repeat (first | exact Drawn0.refl _ | apply Drawn0.step)⟩
                  · rw [if_neg c9] at H
                    have c9b0 : decide ((rd l0 x5_1) < (rd l1 x5_1)) = false := decide_eq_false c9
                    clear c9
                    by_cases c10 : (rd l0 x5_1) > (rd l1 x5_1)
                    · rw [if_pos c10] at H
                      have c10b0 : decide ((rd l1 x5_1) < (rd l0 x5_1)) = true := decide_eq_true c10
                      clear c10
                      obtain rfl := Option.some.inj H
                      have p107 : 0 ≤ (x5_1 : Int) := of_decide_eq_true (by first | (with_reducible assumption) | assumption)
                      have q107 : x5_1 < (l0.length : Int) := of_decide_eq_true (by first | (with_reducible assumption) | assumption)
                      obtain ⟨ad107, e107, hx107_0⟩ := Kd.at_int HR0.out x5_1 p107 q107
                      cases e107
                      replace p107 := eq_true p107
                      replace q107 := eq_true q107
                      have p108 : 0 ≤ (x5_1 : Int) := of_decide_eq_true (by first | (with_reducible assumption) | assumption)
                      have q108 : x5_1 < (l1.length : Int) := of_decide_eq_true (by first | (with_reducible assumption) | assumption)
                      obtain ⟨ad108, e108, hx108_0⟩ := Kd.at_int HR1.out x5_1 p108 q108
                      cases e108
                      replace p108 := eq_true p108
                      replace q108 := eq_true q108
                      have p109 : 0 ≤ (x5_1 : Int) := of_decide_eq_true (by first | (with_reducible assumption) | assumption)
                      have q109 : x5_1 < (l0.length : Int) := of_decide_eq_true (by first | (with_reducible assumption) | assumption)
                      obtain ⟨ad109, e109, hx109_0⟩ := Kd.at_int HR0.out x5_1 p109 q109
                      obtain rfl : ad107 = ad109 := (by injection e109)
                      replace p109 := eq_true p109
                      replace q109 := eq_true q109
                      have p110 : 0 ≤ (x5_1 : Int) := of_decide_eq_true (by first | (with_reducible assumption) | assumption)
                      have q110 : x5_1 < (l1.length : Int) := of_decide_eq_true (by first | (with_reducible assumption) | assumption)
                      obtain ⟨ad110, e110, hx110_0⟩ := Kd.at_int HR1.out x5_1 p110 q110
                      obtain rfl : ad108 = ad110 := (by injection e110)
                      replace p110 := eq_true p110
                      replace q110 := eq_true q110
                      go_wp2
                      repeat (go_quiet (fail); try go_wp2)
                      go_ret
                      exact ⟨by first | rfl | (simp; done) | (simp [*]; done), by repeat (first | exact Drawn0.refl _ | apply Drawn0.step)⟩
                    · rw [if_neg c10] at H
                      have c10b0 : decide ((rd l1 x5_1) < (rd l0 x5_1)) = false := decide_eq_false c10
                      clear c10
                      have H' := Aside0.mk H
                      clear H
                      have p107 : 0 ≤ (x5_1 : Int) := of_decide_eq_true (by first | (with_reducible assumption) | assumption)
                      have q107 : x5_1 < (l0.length : Int) := of_decide_eq_true (by first | (with_reducible assumption) | assumption)
                      obtain ⟨ad107, e107, hx107_0⟩ := Kd.at_int HR0.out x5_1 p107 q107
                      cases e107
                      replace p107 := eq_true p107
                      replace q107 := eq_true q107
                      have p108 : 0 ≤ (x5_1 : Int) := of_decide_eq_true (by first | (with_reducible assumption) | assumption)
                      have q108 : x5_1 < (l1.length : Int) := of_decide_eq_true (by first | (with_reducible assumption) | assumption)
                      obtain ⟨ad108, e108, hx108_0⟩ := Kd.at_int HR1.out x5_1 p108 q108
                      cases e108
                      replace p108 := eq_true p108
                      replace q108 := eq_true q108
                      have p109 : 0 ≤ (x5_1 : Int) := of_decide_eq_true (by first | (with_reducible assumption) | assumption)
                      have q109 : x5_1 < (l0.length : Int) := of_decide_eq_true (by first | (with_reducible assumption) | assumption)
                      obtain ⟨ad109, e109, hx109_0⟩ := Kd.at_int HR0.out x5_1 p109 q109
                      obtain rfl : ad107 = ad109 := (by injection e109)
                      replace p109 := eq_true p109
                      replace q109 := eq_true q109
                      have p110 : 0 ≤ (x5_1 : Int) := of_decide_eq_true (by first | (with_reducible assumption) | assumption)
                      have q110 : x5_1 < (l1.length : Int) := of_decide_eq_true (by first | (with_reducible assumption) | assumption)
                      obtain ⟨ad110, e110, hx110_0⟩ := Kd.at_int HR1.out x5_1 p110 q110
                      obtain rfl : ad108 = ad110 := (by injection e110)
                      replace p110 := eq_true p110
                      replace q110 := eq_true q110
                      go_wp2
                      repeat (go_quiet (fail); try go_wp2)
                      go_roundg kj2
                      case measure => have := HK1.out; have := HJ2.out; omega
                      case rel => exact ⟨(wrap64 (x5_1 + 1)), (by first | rfl | (simp; done) | (simp [*]; done)), H', ⟨by have := HK1.out; have := HJ2.out; omega⟩, by repeat (first | exact Drawn0.refl _ | apply Drawn0.step)⟩
                · rw [if_neg c8] at H
                  exact absurd H (by simp)
              · rw [if_neg c7] at H
                exact absurd H (by simp)
            · rw [if_neg c6] at H
              exact absurd H (by simp)
          · replace c5 := Bool.eq_false_iff.mpr c5
            subst c5
            have H1 : (if (l0.length : Int) < (l1.length : Int) then (some (-1)) else (if (l0.length : Int) > (l1.length : Int) then (some 1) else (some 0))) = some r := by rw [if_neg (show ¬ (false = true) by decide)] at H; exact H
            clear H
            have H := H1
            clear H1
            by_cases c11 : (l0.length : Int) < (l1.length : Int)
            · rw [if_pos c11] at H
              have c11b0 : decide ((l0.length : Int) < (l1.length : Int)) = true := decide_eq_true c11
              have c11b1 : decide (l0.length < l1.length) = true := decide_eq_true (Int.ofNat_lt.mp c11)
              clear c11
              obtain rfl := Option.some.inj H
              go_wp2
              repeat (go_quiet (fail); try go_wp2)
              go_ret
              exact ⟨by first | rfl | (simp; done) | (simp [*]; done), by repeat (first | exact Drawn0.refl _ | apply Drawn0.step)⟩
            · rw [if_neg c11] at H
              have c11b0 : decide ((l0.length : Int) < (l1.length : Int)) = false := decide_eq_false c11
              have c11b1 : decide (l0.length < l1.length) = false := decide_eq_false (fun h => c11 (Int.ofNat_lt.mpr h))
              clear c11
              by_cases c12 : (l0.length : Int) > (l1.length : Int)
              · rw [if_pos c12] at H
                have c12b0 : decide ((l1.length : Int) < (l0.length : Int)) = true := decide_eq_true c12
                have c12b1 : decide (l1.length < l0.length) = true := decide_eq_true (Int.ofNat_lt.mp c12)
                clear c12
                obtain rfl := Option.some.inj H
                go_wp2
                repeat (go_quiet (fail); try go_wp2)
                go_ret
                exact ⟨by first | rfl | (simp; done) | (simp [*]; done), by repeat (first | exact Drawn0.refl _ | apply Drawn0.step)⟩
              · rw [if_neg c12] at H
                have c12b0 : decide ((l1.length : Int) < (l0.length : Int)) = false := decide_eq_false c12
                have c12b1 : decide (l1.length < l0.length) = false := decide_eq_false (fun h => c12 (Int.ofNat_lt.mpr h))
                clear c12
                obtain rfl := Option.some.inj H
                go_wp2
                repeat (go_quiet (fail); try go_wp2)
                go_ret
                exact ⟨by first | rfl | (simp; done) | (simp [*]; done), by repeat (first | exact Drawn0.refl _ | apply Drawn0.step)⟩
def pilcrowref01_Same.f (k : Nat) (l0 : List Int) (l1 : List Int) : Option (Bool) := (pilcrowref01_Order.f k l0 l1).bind fun t111 => (some (t111 == 0))
set_option maxHeartbeats 8000000 in
set_option maxRecDepth 100000 in
theorem pilcrowref01_Same.calls (k : Nat) (A0 : Option Addr) (c0 : Nat) (l0 : List Int) (A1 : Option Addr) (c1 : Nat) (l1 : List Int) (r : Bool) (w : World) (hr0 : Kd.C (Kd.int .u32) w A0 l0.length l0) (hc0 : l0.length ≤ c0) (hr1 : Kd.C (Kd.int .u32) w A1 l1.length l1) (hc1 : l1.length ≤ c1) (h : pilcrowref01_Same.f k l0 l1 = some r) :
    Calls Tryz.prog 11 #[.slice A0 l0.length c0, .slice A1 l1.length c1] w fun e w' => e = .returned (.bool r) ∧ Drawn0 w w' := by
  have HR0 := Aside0.mk hr0
  have HC0 := Aside0.mk hc0
  clear hr0 hc0
  have HR1 := Aside0.mk hr1
  have HC1 := Aside0.mk hc1
  clear hr1 hc1
  have H : ((pilcrowref01_Order.f k l0 l1).bind fun t111 => (some (t111 == 0))) = some r := h
  clear h
  replace H := Option.bind_eq_some_iff.mp H
  obtain ⟨t111, A30, H⟩ := H
  replace H : (some (t111 == 0)) = some r := H
  have A3 := Aside0.mk A30
  clear A30
  obtain rfl := Option.some.inj H
  go_enter Tryz.func11, Tryz.ntmps11
  go_wp2_with (first | ((with_reducible refine gate_callee (f := 33) rfl ?_); refine goesL_ (some 7) rfl rfl Tryz.func33 (by kernel_rfl) rfl #[.slice A0 l0.length c0, .slice A1 l1.length c1] rfl (by (try simp only [List.map_toArray, List.map_cons, List.map_nil]); first | done | rfl | (simp only [List.length_drop, List.length_take]; rfl)) ?_; (with_reducible refine (pilcrowref01_Order.calls k _ _ l0 _ _ l1 t111 _ ?side1 ?side2 ?side3 ?side4 A3.out).mono ?_); (case side1 => repeat (first | exact HR0.out | (with_reducible refine Kd.C_alloc ?_ _) | (with_reducible refine Kd.C_drewN ?_ _) | (with_reducible refine Kd.C_drew ?_))); (case side2 => exact HC0.out); (case side3 => repeat (first | exact HR1.out | (with_reducible refine Kd.C_alloc ?_ _) | (with_reducible refine Kd.C_drewN ?_ _) | (with_reducible refine Kd.C_drew ?_))); (case side4 => exact HC1.out); rintro e w' ⟨rfl, ⟨nd, rfl⟩⟩; refine ⟨_, rfl, ?_⟩))
  go_ret
  exact ⟨by first | rfl | (simp; done) | (simp [*]; done), by repeat (first | exact Drawn0.refl _ | apply Drawn0.step)⟩
end Go.Proofs.YtcgoofefiiihnaaGreat.PTopOne
