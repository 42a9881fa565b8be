/- permute: awake. -/
import Derived.Test.YtfknlgjfhdphjaaPq
import Derived.Deep.RegionHeld3
import Derived.IntWalk
namespace Go.Proofs.Ytfknlgjfhdphjaa
open Go.RowKit Go.Proofs.YtfknlgjfhdphjaaW.PrintWords Go.Proofs.YtfknlgjfhdphjaaW.PrintMore PPermuteTexts
set_option linter.unusedVariables false
set_option linter.unusedSimpArgs false
theorem vAll : (toL.getD 65 0 = 193 ∧ toL.getD 10 0 = 21 ∧ toL.getD 133 0 = 37 ∧ toL.getD 241 0 = 221 ∧ toL.getD 49 0 = 241) ∧ fromL.getD 64 0 = 32 ∧ fromL.getD 65 0 = 160 := by decide +kernel
theorem vA1 : strOfNums ((bytesOf ⟨#[65, 49]⟩).map (atB toL)) = ⟨#[193, 241]⟩ := by
  show strOfNums [toL.getD 65 0, toL.getD 49 0] = _
  rw [vAll.1.1, vAll.1.2.2.2.2]
  rfl
theorem vA : strOfNums ((bytesOf ⟨#[65]⟩).map (atB fromL)) = ⟨#[160]⟩ := by
  show strOfNums [fromL.getD 65 0] = _
  rw [vAll.2.2]
  rfl
theorem to_at {w : World} {g T : Nat} {A B : List Int} (h : TbAt w g T A B) (b v : Int) (h0 : 0 ≤ b) (h1 : b < 256) (hv : A.getD b.toNat 0 = v) : Calls Try.prog 35 #[.pointer (some ⟨g, 0, none⟩), .int .u8 b] w fun en w' => en = .returned (.int .u8 v) ∧ w = w' := by
  rw [← hv]; exact to_any h b h0 h1
theorem from_at {w : World} {g T : Nat} {A B : List Int} (h : TbAt w g T A B) (b v : Int) (h0 : 0 ≤ b) (h1 : b < 256) (hv : B.getD b.toNat 0 = v) : Calls Try.prog 37 #[.pointer (some ⟨g, 0, none⟩), .int .u8 b] w fun en w' => en = .returned (.int .u8 v) ∧ w = w' := by
  rw [← hv]; exact from_any h b h0 h1
theorem text_at {w : World} {g T : Nat} {A B : List Int} (s v : ByteArray) (hs : s.size ≤ 100000) (h : TbAt w g T A B) (hv : strOfNums ((bytesOf s).map (atB A)) = v) : Calls Try.prog 39 #[.pointer (some ⟨g, 0, none⟩), .string s] w fun en w' => en = .returned (.string v) ∧ Below w.heap.size w w' := by
  rw [← hv]; exact text_any s hs h
theorem back_at {w : World} {g T : Nat} {A B : List Int} (s v : ByteArray) (hs : s.size ≤ 100000) (h : TbAt w g T A B) (hv : strOfNums ((bytesOf s).map (atB B)) = v) : Calls Try.prog 41 #[.pointer (some ⟨g, 0, none⟩), .string s] w fun en w' => en = .returned (.string v) ∧ Below w.heap.size w w' := by
  rw [← hv]; exact back_any s hs h
theorem TbAt.below {w w' : World} {g T : Nat} {A B : List Int} (h : TbAt w g T A B) (k : Below w.heap.size w w') : TbAt w' g T A B := h.kp (Kp.of_below (F := fun _ => False) k) (fun h => h)
theorem pawake_any (w : World) : Calls Try.prog 34 #[] w fun en w' => en = .returned (.bool true) ∧ Below w.heap.size w w' := by
  go_enter Try.func34, Try.ntmps34
  go_wp2_with fail
  refine new_any.mono ?_
  rintro en w1 ⟨rfl, ht, hb⟩
  have HT := Lib.hid ht
  have HB := Lib.hid hb
  have HG := Lib.hid (blk_lt ht.1)
  clear ht hb
  generalize hg : w.heap.size = g at *
  go_wp2_with fail
  refine (to_at HT.out 65 193 (by omega) (by omega) vAll.1.1).mono ?_
  rintro en w2 ⟨rfl, rfl⟩
  go_wp2_with fail
  refine (to_at HT.out 10 21 (by omega) (by omega) vAll.1.2.1).mono ?_
  rintro en w2 ⟨rfl, rfl⟩
  go_wp2_with fail
  refine (to_at HT.out 133 37 (by omega) (by omega) vAll.1.2.2.1).mono ?_
  rintro en w2 ⟨rfl, rfl⟩
  go_wp2_with fail
  refine (to_at HT.out 241 221 (by omega) (by omega) vAll.1.2.2.2.1).mono ?_
  rintro en w2 ⟨rfl, rfl⟩
  go_wp2_with fail
  refine (from_at HT.out 64 32 (by omega) (by omega) vAll.2.1).mono ?_
  rintro en w2 ⟨rfl, rfl⟩
  go_wp2_with fail
  refine (text_at ⟨#[65, 49]⟩ ⟨#[193, 241]⟩ (by decide) HT.out vA1).mono ?_
  rintro en w2 ⟨rfl, hb⟩
  have HT2 := Lib.hid (HT.out.below hb)
  have HB2 := Lib.hid (HB.out.trans (hb.mono (Nat.le_of_lt (by have := HB.out.size; have := HG.out; omega))))
  clear hb
  go_wp2_with fail
  refine (back_at ⟨#[65]⟩ ⟨#[160]⟩ (by decide) HT2.out vA).mono ?_
  rintro en w3 ⟨rfl, hb⟩
  have HB3 := Lib.hid (HB2.out.trans (hb.mono (by have := HB2.out.size; omega)))
  clear hb
  go_wp2_with fail
  go_ret
  rw [hg]
  exact ⟨rfl, HB3.out⟩
end Go.Proofs.Ytfknlgjfhdphjaa
