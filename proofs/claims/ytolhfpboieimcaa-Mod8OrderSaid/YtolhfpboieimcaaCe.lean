/- The decoder's End. -/
import Derived.Test.YtolhfpboieimcaaCb
namespace Go.Proofs.Ytolhfpboieimcaa
open Go.RowKit Go.Proofs.YtolhfpboieimcaaW.PrintWords Go.Proofs.YtolhfpboieimcaaW.PrintMore
set_option linter.unusedVariables false
set_option linter.unusedSimpArgs false
section
variable {w : World} {g T : Nat} {a e f : Int} {d : Bool} {v : Value} {xs : List Int}
theorem dend_cut (s : CS) (hc : ccut s = true) (h : Dec w g T a 0 f false v xs (cown s)) :
    Calls Try.prog 26 #[.pointer (some ⟨g, 0, none⟩)] w fun en w' => en = .returned (.tuple #[]) ∧ Dec w' g T a 4 a false v xs (cown s) ∧ Stp w g v w' v := by
  have c5 : w.cell? ⟨g, 5, none⟩ = some (.int .i64 s.nd) := h.co 0
  have h0 : 0 < s.nd := by simpa [ccut] using hc
  have HD := Lib.hid h
  clear h hc
  go_enter Try.func26, Try.ntmps26
  go_wp2_with (first | (go_at_call 38; go_must (refine (dec_stop 4 rfl HD.out).mono ?_); rintro e w1 ⟨rfl, hd1, hs1⟩; have HD1 := Lib.hid hd1; have HS1 := Lib.hid hs1; clear hd1 hs1) | (go_at_call 29; go_must (refine (end_no (e := 4) (d := false) rfl HD1.out.bs).mono ?_); rintro e w2 ⟨rfl, rfl⟩))
  go_end0
  exact ⟨rfl, HD1.out, HS1.out⟩
theorem dend_ok (s : CS) (hc : ccut s = false) (h : Dec w g T a 0 f false v xs (cown s)) :
    Calls Try.prog 26 #[.pointer (some ⟨g, 0, none⟩)] w fun en w' => en = .returned (.tuple #[]) ∧ Dec w' g T a 0 f true v xs (cown s) ∧ Stp w g v w' v := by
  have c5 : w.cell? ⟨g, 5, none⟩ = some (.int .i64 s.nd) := h.co 0
  have h0 : s.nd ≤ 0 := by simpa [ccut] using hc
  have HD := Lib.hid h
  clear h hc
  go_enter Try.func26, Try.ntmps26
  go_wp2_with (first | (go_at_call 29; go_must (refine (dec_end HD.out).mono ?_); rintro e w1 ⟨rfl, hd1, hs1⟩; have HD1 := Lib.hid hd1; have HS1 := Lib.hid hs1; clear hd1 hs1))
  go_end0
  exact ⟨rfl, HD1.out, HS1.out⟩
theorem dend_err (s : CS) (he : (e == 0) = false) (h : Dec w g T a e f false v xs (cown s)) :
    Calls Try.prog 26 #[.pointer (some ⟨g, 0, none⟩)] w fun en w' => en = .returned (.tuple #[]) ∧ w = w' := by
  have c5 : w.cell? ⟨g, 5, none⟩ = some (.int .i64 s.nd) := h.co 0
  have HD := Lib.hid h
  have HE := Lib.hid (show (e == 0 && !false) = false by rw [he]; rfl)
  clear h he
  by_cases h0 : 0 < s.nd
  · go_enter Try.func26, Try.ntmps26
    go_wp2_with (first | (go_at_call 38; go_must (refine (stop_no 4 HE.out HD.out.bs).mono ?_); rintro e w1 ⟨rfl, rfl⟩) | (go_at_call 29; go_must (refine (end_no HE.out HD.out.bs).mono ?_); rintro e w2 ⟨rfl, rfl⟩))
    go_end0
    exact ⟨rfl, rfl⟩
  · go_enter Try.func26, Try.ntmps26
    go_wp2_with (first | (go_at_call 38; go_must (refine (stop_no 4 HE.out HD.out.bs).mono ?_); rintro e w1 ⟨rfl, rfl⟩) | (go_at_call 29; go_must (refine (end_no HE.out HD.out.bs).mono ?_); rintro e w2 ⟨rfl, rfl⟩))
    go_end0
    exact ⟨rfl, rfl⟩
end
end Go.Proofs.Ytolhfpboieimcaa
