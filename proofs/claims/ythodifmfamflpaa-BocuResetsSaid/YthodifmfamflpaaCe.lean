/- BOCU-1's End. -/
import Derived.Test.YthodifmfamflpaaCb
namespace Go.Proofs.Ythodifmfamflpaa
open Go.RowKit Go.Proofs.YthodifmfamflpaaW.PrintWords Go.Proofs.YthodifmfamflpaaW.PrintMore
set_option linter.unusedVariables false
set_option linter.unusedSimpArgs false
section
variable {w : World} {g T : Nat} {a e f : Int} {d : Bool} {v : Value} {xs : List Int}
theorem dend_cut (s : CS) (hc : ccut s = true) (h : Dec w g T a 0 f false v xs (cown s)) :
    Calls Try.prog 31 #[.pointer (some ⟨g, 0, none⟩)] w fun en w' => en = .returned (.tuple #[]) ∧ Dec w' g T a 4 a false v xs (cown s) ∧ Stp w g v w' v := by
  have c6 : w.cell? ⟨g, 6, none⟩ = some (.string (strOfNums s.pt)) := h.co 1
  have hE : (strOfNums s.pt).toList.isEmpty = false := ofn_empty _ (by intro h9; rw [ccut, h9] at hc; cases hc)
  have HD := Lib.hid h
  clear h hc
  go_enter Try.func31, Try.ntmps31
  go_wp2_with (first | (go_at_call 44; go_must (refine (dec_stop 4 rfl HD.out).mono ?_); rintro e w1 ⟨rfl, hd1, hs1⟩; have HD1 := Lib.hid hd1; have HS1 := Lib.hid hs1; clear hd1 hs1) | (go_at_call 34; go_must (refine (end_no (e := 4) (d := false) rfl HD1.out.bs).mono ?_); rintro e w2 ⟨rfl, rfl⟩))
  go_end0
  exact ⟨rfl, HD1.out, HS1.out⟩
theorem dend_ok (s : CS) (hc : ccut s = false) (h : Dec w g T a 0 f false v xs (cown s)) :
    Calls Try.prog 31 #[.pointer (some ⟨g, 0, none⟩)] w fun en w' => en = .returned (.tuple #[]) ∧ Dec w' g T a 0 f true v xs (cown s) ∧ Stp w g v w' v := by
  have c6 : w.cell? ⟨g, 6, none⟩ = some (.string (strOfNums s.pt)) := h.co 1
  have hE : (strOfNums s.pt).toList.isEmpty = true := by
    have h9 : s.pt = [] := by simpa [ccut] using hc
    rw [h9, D.ofNums_toList]; rfl
  have HD := Lib.hid h
  clear h hc
  go_enter Try.func31, Try.ntmps31
  go_wp2_with (first | (go_at_call 34; go_must (refine (dec_end HD.out).mono ?_); rintro e w1 ⟨rfl, hd1, hs1⟩; have HD1 := Lib.hid hd1; have HS1 := Lib.hid hs1; clear hd1 hs1))
  go_end0
  exact ⟨rfl, HD1.out, HS1.out⟩
theorem dend_err (s : CS) (he : (e == 0) = false) (h : Dec w g T a e f false v xs (cown s)) :
    Calls Try.prog 31 #[.pointer (some ⟨g, 0, none⟩)] w fun en w' => en = .returned (.tuple #[]) ∧ w = w' := by
  have c6 : w.cell? ⟨g, 6, none⟩ = some (.string (strOfNums s.pt)) := h.co 1
  have HD := Lib.hid h
  have HE := Lib.hid (show (e == 0 && !false) = false by rw [he]; rfl)
  clear h he
  by_cases h9 : s.pt = []
  · have hE : (strOfNums s.pt).toList.isEmpty = true := by rw [h9, D.ofNums_toList]; rfl
    clear h9
    go_enter Try.func31, Try.ntmps31
    go_wp2_with (first | (go_at_call 44; go_must (refine (stop_no 4 HE.out HD.out.bs).mono ?_); rintro e w1 ⟨rfl, rfl⟩) | (go_at_call 34; go_must (refine (end_no HE.out HD.out.bs).mono ?_); rintro e w2 ⟨rfl, rfl⟩))
    go_end0
    exact ⟨rfl, rfl⟩
  · have hE : (strOfNums s.pt).toList.isEmpty = false := ofn_empty _ h9
    clear h9
    go_enter Try.func31, Try.ntmps31
    go_wp2_with (first | (go_at_call 44; go_must (refine (stop_no 4 HE.out HD.out.bs).mono ?_); rintro e w1 ⟨rfl, rfl⟩) | (go_at_call 34; go_must (refine (end_no HE.out HD.out.bs).mono ?_); rintro e w2 ⟨rfl, rfl⟩))
    go_end0
    exact ⟨rfl, rfl⟩
end
end Go.Proofs.Ythodifmfamflpaa
