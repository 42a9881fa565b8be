/- UTF-16's End. -/
import Derived.Test.YtjddbdhpdenaeaaCb
namespace Go.Proofs.Ytjddbdhpdenaeaa
open Go.RowKit Go.Proofs.YtjddbdhpdenaeaaW.PrintWords Go.Proofs.YtjddbdhpdenaeaaW.PrintMore
set_option linter.unusedVariables false
set_option linter.unusedSimpArgs false
section
variable {w : World} {g T : Nat} {a e f : Int} {d : Bool} {v : Value} {xs : List Int}
theorem dend_cut (s : CS) (hc : ccut s = true) (h : Dec w g T a 0 f false v xs (cown s)) :
    Calls Try.prog 26 #[.pointer (some ⟨g, 0, none⟩)] w fun en w' => en = .returned (.tuple #[]) ∧ Dec w' g T a 4 a false v xs (cown s) ∧ Stp w g v w' v := by
  have c6 : w.cell? ⟨g, 6, none⟩ = some (.bool s.half) := h.co 1
  have c8 : w.cell? ⟨g, 8, none⟩ = some (.int .u32 s.up) := h.co 3
  have HD := Lib.hid h
  unfold ccut at hc
  clear h
  cases hh : s.half with
  | true =>
    rw [hh] at c6
    clear hc
    go_enter Try.func26, Try.ntmps26
    go_wp2_with (first | (go_at_call 39; go_must (refine (dec_stop 4 rfl HD.out).mono ?_); rintro e w1 ⟨rfl, hd1, hs1⟩; have HD1 := Lib.hid hd1; have HS1 := Lib.hid hs1; clear hd1 hs1) | (go_at_call 32; go_must (refine (end_no (e := 4) (d := false) rfl HD1.out.bs).mono ?_); rintro e w2 ⟨rfl, rfl⟩))
    go_end0
    exact ⟨rfl, HD1.out, HS1.out⟩
  | false =>
    rw [hh] at c6 hc
    have hup : (s.up != 0) = true := by simpa using hc
    clear hc
    go_enter Try.func26, Try.ntmps26
    go_wp2_with (first | (go_at_call 39; go_must (refine (dec_stop 4 rfl HD.out).mono ?_); rintro e w1 ⟨rfl, hd1, hs1⟩; have HD1 := Lib.hid hd1; have HS1 := Lib.hid hs1; clear hd1 hs1) | (go_at_call 32; go_must (refine (end_no (e := 4) (d := false) rfl HD1.out.bs).mono ?_); rintro e w2 ⟨rfl, rfl⟩))
    go_end0
    exact ⟨rfl, HD1.out, HS1.out⟩
theorem dend_ok (s : CS) (hc : ccut s = false) (h : Dec w g T a 0 f false v xs (cown s)) :
    Calls Try.prog 26 #[.pointer (some ⟨g, 0, none⟩)] w fun en w' => en = .returned (.tuple #[]) ∧ Dec w' g T a 0 f true v xs (cown s) ∧ Stp w g v w' v := by
  unfold ccut at hc
  simp only [Bool.or_eq_false_iff] at hc
  have c6 : w.cell? ⟨g, 6, none⟩ = some (.bool false) := hc.1 ▸ (h.co 1)
  have c8 : w.cell? ⟨g, 8, none⟩ = some (.int .u32 s.up) := h.co 3
  have hup : (s.up != 0) = false := hc.2
  have HD := Lib.hid h
  clear h hc
  go_enter Try.func26, Try.ntmps26
  go_wp2_with (first | (go_at_call 32; go_must (refine (dec_end HD.out).mono ?_); rintro e w1 ⟨rfl, hd1, hs1⟩; have HD1 := Lib.hid hd1; have HS1 := Lib.hid hs1; clear hd1 hs1))
  go_end0
  exact ⟨rfl, HD1.out, HS1.out⟩
theorem dend_err (s : CS) (he : (e == 0) = false) (h : Dec w g T a e f false v xs (cown s)) :
    Calls Try.prog 26 #[.pointer (some ⟨g, 0, none⟩)] w fun en w' => en = .returned (.tuple #[]) ∧ w = w' := by
  have c6 : w.cell? ⟨g, 6, none⟩ = some (.bool s.half) := h.co 1
  have c8 : w.cell? ⟨g, 8, none⟩ = some (.int .u32 s.up) := h.co 3
  have HD := Lib.hid h
  have HE := Lib.hid (show (e == 0 && !false) = false by rw [he]; rfl)
  clear h he
  cases hh : s.half with
  | true =>
    rw [hh] at c6
    go_enter Try.func26, Try.ntmps26
    go_wp2_with (first | (go_at_call 39; go_must (refine (stop_no 4 HE.out HD.out.bs).mono ?_); rintro e w1 ⟨rfl, rfl⟩) | (go_at_call 32; go_must (refine (end_no HE.out HD.out.bs).mono ?_); rintro e w2 ⟨rfl, rfl⟩))
    go_end0
    exact ⟨rfl, rfl⟩
  | false =>
    rw [hh] at c6
    cases hup : (s.up != 0) with
    | true =>
      go_enter Try.func26, Try.ntmps26
      go_wp2_with (first | (go_at_call 39; go_must (refine (stop_no 4 HE.out HD.out.bs).mono ?_); rintro e w1 ⟨rfl, rfl⟩) | (go_at_call 32; go_must (refine (end_no HE.out HD.out.bs).mono ?_); rintro e w2 ⟨rfl, rfl⟩))
      go_end0
      exact ⟨rfl, rfl⟩
    | false =>
      go_enter Try.func26, Try.ntmps26
      go_wp2_with (first | (go_at_call 39; go_must (refine (stop_no 4 HE.out HD.out.bs).mono ?_); rintro e w1 ⟨rfl, rfl⟩) | (go_at_call 32; go_must (refine (end_no HE.out HD.out.bs).mono ?_); rintro e w2 ⟨rfl, rfl⟩))
      go_end0
      exact ⟨rfl, rfl⟩
end
end Go.Proofs.Ytjddbdhpdenaeaa
