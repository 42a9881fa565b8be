/- The contracts of Done, of a machine that eats bytes and of one that eats scalars. -/
import Derived.Test.YthodifmfamflpaaStep
namespace Go.Proofs.Ythodifmfamflpaa
open Go.RowKit Go.Proofs.YthodifmfamflpaaW.PrintWords Go.Proofs.YthodifmfamflpaaW.PrintMore
set_option linter.unusedVariables false
set_option linter.unusedSimpArgs false
section
variable {w : World} {g T : Nat} {a e f : Int} {d : Bool} {rest : List Value}
theorem cell4 {v : Value} (h : BsAt w g T a e f d (v :: rest)) : w.cell? ⟨g, 4, none⟩ = some v := h.cr 0
theorem idone_going {A : Option Addr} {n c : Nat} (h : BsAt w g T a 0 f false (.slice A n c :: rest)) : Calls Try.prog 37 #[.pointer (some ⟨g, 0, none⟩)] w fun en w' => en = .returned (.bool false) ∧ w = w' := by
  have h4 := cell4 h
  go_enter Try.func37, Try.ntmps37
  go_wp2_with (go_at_call 42; refine (going_yes h).mono ?_; rintro e w' ⟨rfl, rfl⟩)
  go_ret
  exact ⟨rfl, rfl⟩
theorem idone_over {A : Option Addr} {n c : Nat} (hn : (e == 0 && !d) = false) (h : BsAt w g T a e f d (.slice A n c :: rest)) : Calls Try.prog 37 #[.pointer (some ⟨g, 0, none⟩)] w fun en w' => en = .returned (.bool (((n : Nat) : Int) == 0)) ∧ w = w' := by
  have h4 := cell4 h
  go_enter Try.func37, Try.ntmps37
  go_wp2_with (first | (go_at_call 42; refine (going_no hn h).mono ?_; rintro e w' ⟨rfl, rfl⟩) | (go_at_call 41; refine (held_any h4).mono ?_; rintro e w' ⟨rfl, rfl⟩))
  go_ret
  exact ⟨rfl, rfl⟩
theorem odone_going {s : ByteArray} (h : BsAt w g T a 0 f false (.string s :: rest)) : Calls Try.prog 35 #[.pointer (some ⟨g, 0, none⟩)] w fun en w' => en = .returned (.bool false) ∧ w = w' := by
  have h4 := cell4 h
  go_enter Try.func35, Try.ntmps35
  go_wp2_with (go_at_call 42; refine (going_yes h).mono ?_; rintro e w' ⟨rfl, rfl⟩)
  go_ret
  exact ⟨rfl, rfl⟩
theorem odone_over {s : ByteArray} (hn : (e == 0 && !d) = false) (h : BsAt w g T a e f d (.string s :: rest)) : Calls Try.prog 35 #[.pointer (some ⟨g, 0, none⟩)] w fun en w' => en = .returned (.bool (((s.size : Nat) : Int) == 0)) ∧ w = w' := by
  have h4 := cell4 h
  go_enter Try.func35, Try.ntmps35
  go_wp2_with (first | (go_at_call 42; refine (going_no hn h).mono ?_; rintro e w' ⟨rfl, rfl⟩) | (go_at_call 27; refine (kept_any h4).mono ?_; rintro e w' ⟨rfl, rfl⟩))
  go_ret
  exact ⟨rfl, rfl⟩
end
end Go.Proofs.Ythodifmfamflpaa
