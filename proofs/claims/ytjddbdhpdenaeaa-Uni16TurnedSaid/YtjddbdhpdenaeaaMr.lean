/- The reference of layer 4, turned from a print whose proof of Begins fell. -/
import Derived.Test.YtjddbdhpdenaeaaPUni16Readsx0
namespace Go.Proofs.Ytjddbdhpdenaeaa.PUni16Reads
open Go.RowKit Go.Proofs.YtjddbdhpdenaeaaW.PrintWords Go.Proofs.YtjddbdhpdenaeaaW.PrintLast Go.Proofs.YtjddbdhpdenaeaaW.PrintMore
attribute [local go_sem] max2_int min2_int max_two min_two max_three min_three max_four min_four   -- for this text's walks alone
set_option linter.unusedVariables false
set_option linter.unusedSimpArgs false

/-! ### pilcrowref04_unit: function 30 -/
def pilcrowref04_unit.f (a0 : ByteArray) (a1 : Bool) : Option (Int) := if a1 = true then (if 0 < (a0.size : Int) then (if 1 < (a0.size : Int) then (some ((((((bt a0 0) % 4294967296) * 256) % 4294967296) + ((bt a0 1) % 4294967296)) % 4294967296)) else (none)) else (none)) else (if 1 < (a0.size : Int) then (if 0 < (a0.size : Int) then (some ((((((bt a0 1) % 4294967296) * 256) % 4294967296) + ((bt a0 0) % 4294967296)) % 4294967296)) else (none)) else (none))
set_option maxHeartbeats 8000000 in
set_option maxRecDepth 100000 in
theorem pilcrowref04_unit.calls (a0 : ByteArray) (a1 : Bool) (r : Int) (w : World) (h : pilcrowref04_unit.f a0 a1 = some r) :
    Calls Try.prog 30 #[.string a0, .bool a1] w fun e w' => e = .returned (.int .u32 r) ∧ Drawn0 w w' := by
  have H : (if a1 = true then (if 0 < (a0.size : Int) then (if 1 < (a0.size : Int) then (some ((((((bt a0 0) % 4294967296) * 256) % 4294967296) + ((bt a0 1) % 4294967296)) % 4294967296)) else (none)) else (none)) else (if 1 < (a0.size : Int) then (if 0 < (a0.size : Int) then (some ((((((bt a0 1) % 4294967296) * 256) % 4294967296) + ((bt a0 0) % 4294967296)) % 4294967296)) else (none)) else (none))) = some r := h
  clear h
  by_cases c3 : a1 = true
  · subst c3
    have H1 : (if 0 < (a0.size : Int) then (if 1 < (a0.size : Int) then (some ((((((bt a0 0) % 4294967296) * 256) % 4294967296) + ((bt a0 1) % 4294967296)) % 4294967296)) else (none)) else (none)) = some r := by rw [if_pos rfl] at H; exact H
    clear H
    have H := H1
    clear H1
    by_cases c4 : 0 < (a0.size : Int)
    · rw [if_pos c4] at H
      have c4b0 : decide (0 < (a0.size : Int)) = true := decide_eq_true c4
      have c4b1 : decide (0 < a0.size) = true := decide_eq_true (by omega)
      clear c4
      by_cases c6 : 1 < (a0.size : Int)
      · rw [if_pos c6] at H
        have c6b0 : decide (1 < (a0.size : Int)) = true := decide_eq_true c6
        have c6b1 : decide (1 < a0.size) = true := decide_eq_true (by omega)
        clear c6
        obtain rfl := Option.some.inj H
        have p5 : 0 ≤ (0 : Int) := (by omega)
        have q5 : 0 < a0.size := (by have : (0 : Int) < (a0.size : Int) := of_decide_eq_true (by first | (with_reducible assumption) | assumption); omega)
        have hx5 : ∀ h : 0 < a0.size, ((a0[0]'h).toNat : Int) = bt a0 0 := bt_at a0 0
        clear p5
        have qi5 : (0 < (a0.size : Int)) = True := eq_true (of_decide_eq_true (by first | (with_reducible assumption) | assumption))
        replace q5 := eq_true q5
        have p7 : 0 ≤ (1 : Int) := (by omega)
        have q7 : 1 < a0.size := (by have : (1 : Int) < (a0.size : Int) := of_decide_eq_true (by first | (with_reducible assumption) | assumption); omega)
        have hx7 : ∀ h : 1 < a0.size, ((a0[1]'h).toNat : Int) = bt a0 1 := bt_at a0 1
        clear p7
        have qi7 : (1 < (a0.size : Int)) = True := eq_true (of_decide_eq_true (by first | (with_reducible assumption) | assumption))
        replace q7 := eq_true q7
        go_enter Try.func30, Try.ntmps30
        go_wp2
        repeat (go_quiet (fail); try go_wp2)
        go_ret
        exact ⟨by first | rfl | (simp; done) | (simp [*]; done), by repeat (first | exact Drawn0.refl _ | apply Drawn0.step)⟩
      · rw [if_neg c6] at H
        exact absurd H (by simp)
    · rw [if_neg c4] at H
      exact absurd H (by simp)
  · replace c3 := Bool.eq_false_iff.mpr c3
    subst c3
    have H1 : (if 1 < (a0.size : Int) then (if 0 < (a0.size : Int) then (some ((((((bt a0 1) % 4294967296) * 256) % 4294967296) + ((bt a0 0) % 4294967296)) % 4294967296)) else (none)) else (none)) = some r := by rw [if_neg (show ¬ (false = true) by decide)] at H; exact H
    clear H
    have H := H1
    clear H1
    by_cases c8 : 1 < (a0.size : Int)
    · rw [if_pos c8] at H
      have c8b0 : decide (1 < (a0.size : Int)) = true := decide_eq_true c8
      have c8b1 : decide (1 < a0.size) = true := decide_eq_true (by omega)
      clear c8
      by_cases c10 : 0 < (a0.size : Int)
      · rw [if_pos c10] at H
        have c10b0 : decide (0 < (a0.size : Int)) = true := decide_eq_true c10
        have c10b1 : decide (0 < a0.size) = true := decide_eq_true (by omega)
        clear c10
        obtain rfl := Option.some.inj H
        have p9 : 0 ≤ (1 : Int) := (by omega)
        have q9 : 1 < a0.size := (by have : (1 : Int) < (a0.size : Int) := of_decide_eq_true (by first | (with_reducible assumption) | assumption); omega)
        have hx9 : ∀ h : 1 < a0.size, ((a0[1]'h).toNat : Int) = bt a0 1 := bt_at a0 1
        clear p9
        have qi9 : (1 < (a0.size : Int)) = True := eq_true (of_decide_eq_true (by first | (with_reducible assumption) | assumption))
        replace q9 := eq_true q9
        have p11 : 0 ≤ (0 : Int) := (by omega)
        have q11 : 0 < a0.size := (by have : (0 : Int) < (a0.size : Int) := of_decide_eq_true (by first | (with_reducible assumption) | assumption); omega)
        have hx11 : ∀ h : 0 < a0.size, ((a0[0]'h).toNat : Int) = bt a0 0 := bt_at a0 0
        clear p11
        have qi11 : (0 < (a0.size : Int)) = True := eq_true (of_decide_eq_true (by first | (with_reducible assumption) | assumption))
        replace q11 := eq_true q11
        go_enter Try.func30, Try.ntmps30
        go_wp2
        repeat (go_quiet (fail); try go_wp2)
        go_ret
        exact ⟨by first | rfl | (simp; done) | (simp [*]; done), by repeat (first | exact Drawn0.refl _ | apply Drawn0.step)⟩
      · rw [if_neg c10] at H
        exact absurd H (by simp)
    · rw [if_neg c8] at H
      exact absurd H (by simp)

/-! ### pilcrowref04_lower: function 46 -/
def pilcrowref04_lower.f (a0 : Int) : Option (Bool) := some (((Int.tdiv a0 1024) % 4294967296) == 55)
set_option maxHeartbeats 8000000 in
set_option maxRecDepth 100000 in
theorem pilcrowref04_lower.calls (a0 : Int) (r : Bool) (w : World) (h : pilcrowref04_lower.f a0 = some r) :
    Calls Try.prog 46 #[.int .u32 a0] w fun e w' => e = .returned (.bool r) ∧ Drawn0 w w' := by
  have H : (some (((Int.tdiv a0 1024) % 4294967296) == 55)) = some r := h
  clear h
  obtain rfl := Option.some.inj H
  go_enter Try.func46, Try.ntmps46
  go_wp2
  go_ret
  exact ⟨by first | rfl | (simp; done) | (simp [*]; done), by repeat (first | exact Drawn0.refl _ | apply Drawn0.step)⟩

/-! ### pilcrowref04_upper: function 47 -/
def pilcrowref04_upper.f (a0 : Int) : Option (Bool) := some (((Int.tdiv a0 1024) % 4294967296) == 54)
set_option maxHeartbeats 8000000 in
set_option maxRecDepth 100000 in
theorem pilcrowref04_upper.calls (a0 : Int) (r : Bool) (w : World) (h : pilcrowref04_upper.f a0 = some r) :
    Calls Try.prog 47 #[.int .u32 a0] w fun e w' => e = .returned (.bool r) ∧ Drawn0 w w' := by
  have H : (some (((Int.tdiv a0 1024) % 4294967296) == 54)) = some r := h
  clear h
  obtain rfl := Option.some.inj H
  go_enter Try.func47, Try.ntmps47
  go_wp2
  go_ret
  exact ⟨by first | rfl | (simp; done) | (simp [*]; done), by repeat (first | exact Drawn0.refl _ | apply Drawn0.step)⟩

/-! ### pilcrowref04_Begins: function 29 -/
def pilcrowref04_Begins.f (a0 : ByteArray) (a1 : Bool) : Option (Bool × Bool) := if (a0.size : Int) = 1 then (if a1 = true then (if 0 < (a0.size : Int) then ((pilcrowref04_lower.f ((((bt a0 0) % 4294967296) * 256) % 4294967296)).bind fun t185 => (some (!t185, false))) else (none)) else (some (true, false))) else (if (a0.size : Int) = 2 then ((pilcrowref04_unit.f a0 a1).bind fun t186 => ((pilcrowref04_lower.f t186).bind fun t187 => ((pilcrowref04_lower.f t186).bind fun t188 => (if t188 = true then (some (!t187, false)) else ((pilcrowref04_upper.f t186).bind fun t189 => (some (!t187, !t189))))))) else (if (a0.size : Int) = 3 then (if a1 = true then (if 2 < (a0.size : Int) then ((pilcrowref04_lower.f ((((bt a0 2) % 4294967296) * 256) % 4294967296)).bind fun t190 => (some (t190, false))) else (none)) else (some (true, false))) else (if 2 ≤ (a0.size : Int) then ((pilcrowref04_unit.f (a0.extract 2 a0.size) a1).bind fun t191 => ((pilcrowref04_lower.f t191).bind fun t192 => ((pilcrowref04_unit.f (a0.extract 2 a0.size) a1).bind fun t193 => ((pilcrowref04_lower.f t193).bind fun t194 => (some (t192, t194)))))) else (none))))
set_option maxHeartbeats 8000000 in
set_option maxRecDepth 100000 in
theorem pilcrowref04_Begins.calls (a0 : ByteArray) (a1 : Bool) (r1 : Bool) (r2 : Bool) (w : World) (h : pilcrowref04_Begins.f a0 a1 = some (r1, r2)) :
    Calls Try.prog 29 #[.string a0, .bool a1] w fun e w' => e = .returned (.tuple #[.bool r1, .bool r2]) ∧ Drawn0 w w' := by
  have H : (if (a0.size : Int) = 1 then (if a1 = true then (if 0 < (a0.size : Int) then ((pilcrowref04_lower.f ((((bt a0 0) % 4294967296) * 256) % 4294967296)).bind fun t185 => (some (!t185, false))) else (none)) else (some (true, false))) else (if (a0.size : Int) = 2 then ((pilcrowref04_unit.f a0 a1).bind fun t186 => ((pilcrowref04_lower.f t186).bind fun t187 => ((pilcrowref04_lower.f t186).bind fun t188 => (if t188 = true then (some (!t187, false)) else ((pilcrowref04_upper.f t186).bind fun t189 => (some (!t187, !t189))))))) else (if (a0.size : Int) = 3 then (if a1 = true then (if 2 < (a0.size : Int) then ((pilcrowref04_lower.f ((((bt a0 2) % 4294967296) * 256) % 4294967296)).bind fun t190 => (some (t190, false))) else (none)) else (some (true, false))) else (if 2 ≤ (a0.size : Int) then ((pilcrowref04_unit.f (a0.extract 2 a0.size) a1).bind fun t191 => ((pilcrowref04_lower.f t191).bind fun t192 => ((pilcrowref04_unit.f (a0.extract 2 a0.size) a1).bind fun t193 => ((pilcrowref04_lower.f t193).bind fun t194 => (some (t192, t194)))))) else (none))))) = some (r1, r2) := h
  clear h
  by_cases c3 : (a0.size : Int) = 1
  · rw [if_pos c3] at H
    have c3b0 : ((a0.size : Int) == 1) = true := beq_iff_eq.mpr c3
    have c3b1 : ((a0.size : Int) != 1) = false := bne_eq_false_iff_eq.mpr c3
    clear c3
    by_cases c4 : a1 = true
    · subst c4
      have H1 : (if 0 < (a0.size : Int) then ((pilcrowref04_lower.f ((((bt a0 0) % 4294967296) * 256) % 4294967296)).bind fun t185 => (some (!t185, false))) else (none)) = some (r1, r2) := by rw [if_pos rfl] at H; exact H
      clear H
      have H := H1
      clear H1
      by_cases c5 : 0 < (a0.size : Int)
      · rw [if_pos c5] at H
        have c5b0 : decide (0 < (a0.size : Int)) = true := decide_eq_true c5
        have c5b1 : decide (0 < a0.size) = true := decide_eq_true (by omega)
        clear c5
        replace H := Option.bind_eq_some_iff.mp H
        obtain ⟨t185, A70, H⟩ := H
        replace H : (some (!t185, false)) = some (r1, r2) := H
        have A7 := Aside0.mk A70
        clear A70
        simp only [Option.some.injEq, Prod.mk.injEq] at H
        obtain ⟨rfl, rfl⟩ := H
        have p6 : 0 ≤ (0 : Int) := (by omega)
        have q6 : 0 < a0.size := (by have : (0 : Int) < (a0.size : Int) := of_decide_eq_true (by first | (with_reducible assumption) | assumption); omega)
        have hx6 : ∀ h : 0 < a0.size, ((a0[0]'h).toNat : Int) = bt a0 0 := bt_at a0 0
        clear p6
        have qi6 : (0 < (a0.size : Int)) = True := eq_true (of_decide_eq_true (by first | (with_reducible assumption) | assumption))
        replace q6 := eq_true q6
        go_enter Try.func29, Try.ntmps29
        go_wp2_with (first | (go_at_call 46; (with_reducible refine (pilcrowref04_lower.calls ((((bt a0 0) % 4294967296) * 256) % 4294967296) t185 _ A7.out).mono ?_); rintro e w' ⟨rfl, ⟨nd, rfl⟩⟩; (try first | exact ⟨rfl, _, World.drewN_drewN _ _ _⟩ | exact ⟨rfl, _, Eq.trans (World.drewN_drewN _ _ _) (congrArg (World.drewN _) (Nat.add_assoc _ _ _))⟩)))
        repeat (go_quiet (first | (go_at_call 46; (with_reducible refine (pilcrowref04_lower.calls ((((bt a0 0) % 4294967296) * 256) % 4294967296) t185 _ A7.out).mono ?_); rintro e w' ⟨rfl, ⟨nd, rfl⟩⟩; (try first | exact ⟨rfl, _, World.drewN_drewN _ _ _⟩ | exact ⟨rfl, _, Eq.trans (World.drewN_drewN _ _ _) (congrArg (World.drewN _) (Nat.add_assoc _ _ _))⟩))); try go_wp2_with (first | (go_at_call 46; (with_reducible refine (pilcrowref04_lower.calls ((((bt a0 0) % 4294967296) * 256) % 4294967296) t185 _ A7.out).mono ?_); rintro e w' ⟨rfl, ⟨nd, rfl⟩⟩; (try first | exact ⟨rfl, _, World.drewN_drewN _ _ _⟩ | exact ⟨rfl, _, Eq.trans (World.drewN_drewN _ _ _) (congrArg (World.drewN _) (Nat.add_assoc _ _ _))⟩))))
        go_ret2
        exact ⟨by first | rfl | (simp; done) | (simp [*]; done), by repeat (first | exact Drawn0.refl _ | apply Drawn0.step)⟩
      · rw [if_neg c5] at H
        exact absurd H (by simp)
    · replace c4 := Bool.eq_false_iff.mpr c4
      subst c4
      have H1 : (some (true, false)) = some (r1, r2) := by rw [if_neg (show ¬ (false = true) by decide)] at H; exact H
      clear H
      have H := H1
      clear H1
      simp only [Option.some.injEq, Prod.mk.injEq] at H
      obtain ⟨rfl, rfl⟩ := H
      go_enter Try.func29, Try.ntmps29
      go_wp2
      repeat (go_quiet (fail); try go_wp2)
      go_ret2
      exact ⟨by first | rfl | (simp; done) | (simp [*]; done), by repeat (first | exact Drawn0.refl _ | apply Drawn0.step)⟩
  · rw [if_neg c3] at H
    have c3b0 : ((a0.size : Int) == 1) = false := beq_eq_false_iff_ne.mpr c3
    have c3b1 : ((a0.size : Int) != 1) = true := bne_iff_ne.mpr c3
    by_cases c8 : (a0.size : Int) = 2
    · rw [if_pos c8] at H
      have c8b0 : ((a0.size : Int) == 2) = true := beq_iff_eq.mpr c8
      have c8b1 : ((a0.size : Int) != 2) = false := bne_eq_false_iff_eq.mpr c8
      clear c8
      replace H := Option.bind_eq_some_iff.mp H
      obtain ⟨t186, A90, H⟩ := H
      replace H : ((pilcrowref04_lower.f t186).bind fun t187 => ((pilcrowref04_lower.f t186).bind fun t188 => (if t188 = true then (some (!t187, false)) else ((pilcrowref04_upper.f t186).bind fun t189 => (some (!t187, !t189)))))) = some (r1, r2) := H
      have A9 := Aside0.mk A90
      clear A90
      replace H := Option.bind_eq_some_iff.mp H
      obtain ⟨t187, A100, H⟩ := H
      replace H : ((pilcrowref04_lower.f t186).bind fun t188 => (if t188 = true then (some (!t187, false)) else ((pilcrowref04_upper.f t186).bind fun t189 => (some (!t187, !t189))))) = some (r1, r2) := H
      have A10 := Aside0.mk A100
      clear A100
      replace H := Option.bind_eq_some_iff.mp H
      obtain ⟨t188, A110, H⟩ := H
      replace H : (if t188 = true then (some (!t187, false)) else ((pilcrowref04_upper.f t186).bind fun t189 => (some (!t187, !t189)))) = some (r1, r2) := H
      have A11 := Aside0.mk A110
      clear A110
      by_cases c12 : t188 = true
      · subst c12
        have E_ : t187 = true := by
          have e1 := A10.out
          rw [A11.out] at e1
          exact (Option.some.inj e1).symm
        subst E_
        have H1 : (some (!true, false)) = some (r1, r2) := by rw [if_pos rfl] at H; exact H
        clear H
        have H := H1
        clear H1
        simp only [Option.some.injEq, Prod.mk.injEq] at H
        obtain ⟨rfl, rfl⟩ := H
        go_enter Try.func29, Try.ntmps29
        go_wp2_with (first | (go_at_call 30; (with_reducible refine (pilcrowref04_unit.calls a0 a1 t186 _ A9.out).mono ?_); rintro e w' ⟨rfl, ⟨nd, rfl⟩⟩; (try first | exact ⟨rfl, _, World.drewN_drewN _ _ _⟩ | exact ⟨rfl, _, Eq.trans (World.drewN_drewN _ _ _) (congrArg (World.drewN _) (Nat.add_assoc _ _ _))⟩)) | (go_at_call 46; (with_reducible refine (pilcrowref04_lower.calls t186 t187 _ A10.out).mono ?_); rintro e w' ⟨rfl, ⟨nd, rfl⟩⟩; (try first | exact ⟨rfl, _, World.drewN_drewN _ _ _⟩ | exact ⟨rfl, _, Eq.trans (World.drewN_drewN _ _ _) (congrArg (World.drewN _) (Nat.add_assoc _ _ _))⟩)) | (go_at_call 46; (with_reducible refine (pilcrowref04_lower.calls t186 true _ A11.out).mono ?_); rintro e w' ⟨rfl, ⟨nd, rfl⟩⟩; (try first | exact ⟨rfl, _, World.drewN_drewN _ _ _⟩ | exact ⟨rfl, _, Eq.trans (World.drewN_drewN _ _ _) (congrArg (World.drewN _) (Nat.add_assoc _ _ _))⟩)))
        repeat (go_quiet (first | (go_at_call 30; (with_reducible refine (pilcrowref04_unit.calls a0 a1 t186 _ A9.out).mono ?_); rintro e w' ⟨rfl, ⟨nd, rfl⟩⟩; (try first | exact ⟨rfl, _, World.drewN_drewN _ _ _⟩ | exact ⟨rfl, _, Eq.trans (World.drewN_drewN _ _ _) (congrArg (World.drewN _) (Nat.add_assoc _ _ _))⟩)) | (go_at_call 46; (with_reducible refine (pilcrowref04_lower.calls t186 t187 _ A10.out).mono ?_); rintro e w' ⟨rfl, ⟨nd, rfl⟩⟩; (try first | exact ⟨rfl, _, World.drewN_drewN _ _ _⟩ | exact ⟨rfl, _, Eq.trans (World.drewN_drewN _ _ _) (congrArg (World.drewN _) (Nat.add_assoc _ _ _))⟩)) | (go_at_call 46; (with_reducible refine (pilcrowref04_lower.calls t186 true _ A11.out).mono ?_); rintro e w' ⟨rfl, ⟨nd, rfl⟩⟩; (try first | exact ⟨rfl, _, World.drewN_drewN _ _ _⟩ | exact ⟨rfl, _, Eq.trans (World.drewN_drewN _ _ _) (congrArg (World.drewN _) (Nat.add_assoc _ _ _))⟩))); try go_wp2_with (first | (go_at_call 30; (with_reducible refine (pilcrowref04_unit.calls a0 a1 t186 _ A9.out).mono ?_); rintro e w' ⟨rfl, ⟨nd, rfl⟩⟩; (try first | exact ⟨rfl, _, World.drewN_drewN _ _ _⟩ | exact ⟨rfl, _, Eq.trans (World.drewN_drewN _ _ _) (congrArg (World.drewN _) (Nat.add_assoc _ _ _))⟩)) | (go_at_call 46; (with_reducible refine (pilcrowref04_lower.calls t186 t187 _ A10.out).mono ?_); rintro e w' ⟨rfl, ⟨nd, rfl⟩⟩; (try first | exact ⟨rfl, _, World.drewN_drewN _ _ _⟩ | exact ⟨rfl, _, Eq.trans (World.drewN_drewN _ _ _) (congrArg (World.drewN _) (Nat.add_assoc _ _ _))⟩)) | (go_at_call 46; (with_reducible refine (pilcrowref04_lower.calls t186 true _ A11.out).mono ?_); rintro e w' ⟨rfl, ⟨nd, rfl⟩⟩; (try first | exact ⟨rfl, _, World.drewN_drewN _ _ _⟩ | exact ⟨rfl, _, Eq.trans (World.drewN_drewN _ _ _) (congrArg (World.drewN _) (Nat.add_assoc _ _ _))⟩))))
        go_ret2
        exact ⟨by first | rfl | (simp; done) | (simp [*]; done), by repeat (first | exact Drawn0.refl _ | apply Drawn0.step)⟩
      · replace c12 := Bool.eq_false_iff.mpr c12
        subst c12
        have E_ : t187 = false := by
          have e1 := A10.out
          rw [A11.out] at e1
          exact (Option.some.inj e1).symm
        subst E_
        have H1 : ((pilcrowref04_upper.f t186).bind fun t189 => (some (!false, !t189))) = some (r1, r2) := by rw [if_neg (show ¬ (false = true) by decide)] at H; exact H
        clear H
        have H := H1
        clear H1
        replace H := Option.bind_eq_some_iff.mp H
        obtain ⟨t189, A130, H⟩ := H
        replace H : (some (!false, !t189)) = some (r1, r2) := H
        have A13 := Aside0.mk A130
        clear A130
        simp only [Option.some.injEq, Prod.mk.injEq] at H
        obtain ⟨rfl, rfl⟩ := H
        go_enter Try.func29, Try.ntmps29
        go_wp2_with (first | (go_at_call 30; (with_reducible refine (pilcrowref04_unit.calls a0 a1 t186 _ A9.out).mono ?_); rintro e w' ⟨rfl, ⟨nd, rfl⟩⟩; (try first | exact ⟨rfl, _, World.drewN_drewN _ _ _⟩ | exact ⟨rfl, _, Eq.trans (World.drewN_drewN _ _ _) (congrArg (World.drewN _) (Nat.add_assoc _ _ _))⟩)) | (go_at_call 46; (with_reducible refine (pilcrowref04_lower.calls t186 t187 _ A10.out).mono ?_); rintro e w' ⟨rfl, ⟨nd, rfl⟩⟩; (try first | exact ⟨rfl, _, World.drewN_drewN _ _ _⟩ | exact ⟨rfl, _, Eq.trans (World.drewN_drewN _ _ _) (congrArg (World.drewN _) (Nat.add_assoc _ _ _))⟩)) | (go_at_call 46; (with_reducible refine (pilcrowref04_lower.calls t186 false _ A11.out).mono ?_); rintro e w' ⟨rfl, ⟨nd, rfl⟩⟩; (try first | exact ⟨rfl, _, World.drewN_drewN _ _ _⟩ | exact ⟨rfl, _, Eq.trans (World.drewN_drewN _ _ _) (congrArg (World.drewN _) (Nat.add_assoc _ _ _))⟩)) | (go_at_call 47; (with_reducible refine (pilcrowref04_upper.calls t186 t189 _ A13.out).mono ?_); rintro e w' ⟨rfl, ⟨nd, rfl⟩⟩; (try first | exact ⟨rfl, _, World.drewN_drewN _ _ _⟩ | exact ⟨rfl, _, Eq.trans (World.drewN_drewN _ _ _) (congrArg (World.drewN _) (Nat.add_assoc _ _ _))⟩)))
        repeat (go_quiet (first | (go_at_call 30; (with_reducible refine (pilcrowref04_unit.calls a0 a1 t186 _ A9.out).mono ?_); rintro e w' ⟨rfl, ⟨nd, rfl⟩⟩; (try first | exact ⟨rfl, _, World.drewN_drewN _ _ _⟩ | exact ⟨rfl, _, Eq.trans (World.drewN_drewN _ _ _) (congrArg (World.drewN _) (Nat.add_assoc _ _ _))⟩)) | (go_at_call 46; (with_reducible refine (pilcrowref04_lower.calls t186 t187 _ A10.out).mono ?_); rintro e w' ⟨rfl, ⟨nd, rfl⟩⟩; (try first | exact ⟨rfl, _, World.drewN_drewN _ _ _⟩ | exact ⟨rfl, _, Eq.trans (World.drewN_drewN _ _ _) (congrArg (World.drewN _) (Nat.add_assoc _ _ _))⟩)) | (go_at_call 46; (with_reducible refine (pilcrowref04_lower.calls t186 false _ A11.out).mono ?_); rintro e w' ⟨rfl, ⟨nd, rfl⟩⟩; (try first | exact ⟨rfl, _, World.drewN_drewN _ _ _⟩ | exact ⟨rfl, _, Eq.trans (World.drewN_drewN _ _ _) (congrArg (World.drewN _) (Nat.add_assoc _ _ _))⟩)) | (go_at_call 47; (with_reducible refine (pilcrowref04_upper.calls t186 t189 _ A13.out).mono ?_); rintro e w' ⟨rfl, ⟨nd, rfl⟩⟩; (try first | exact ⟨rfl, _, World.drewN_drewN _ _ _⟩ | exact ⟨rfl, _, Eq.trans (World.drewN_drewN _ _ _) (congrArg (World.drewN _) (Nat.add_assoc _ _ _))⟩))); try go_wp2_with (first | (go_at_call 30; (with_reducible refine (pilcrowref04_unit.calls a0 a1 t186 _ A9.out).mono ?_); rintro e w' ⟨rfl, ⟨nd, rfl⟩⟩; (try first | exact ⟨rfl, _, World.drewN_drewN _ _ _⟩ | exact ⟨rfl, _, Eq.trans (World.drewN_drewN _ _ _) (congrArg (World.drewN _) (Nat.add_assoc _ _ _))⟩)) | (go_at_call 46; (with_reducible refine (pilcrowref04_lower.calls t186 t187 _ A10.out).mono ?_); rintro e w' ⟨rfl, ⟨nd, rfl⟩⟩; (try first | exact ⟨rfl, _, World.drewN_drewN _ _ _⟩ | exact ⟨rfl, _, Eq.trans (World.drewN_drewN _ _ _) (congrArg (World.drewN _) (Nat.add_assoc _ _ _))⟩)) | (go_at_call 46; (with_reducible refine (pilcrowref04_lower.calls t186 false _ A11.out).mono ?_); rintro e w' ⟨rfl, ⟨nd, rfl⟩⟩; (try first | exact ⟨rfl, _, World.drewN_drewN _ _ _⟩ | exact ⟨rfl, _, Eq.trans (World.drewN_drewN _ _ _) (congrArg (World.drewN _) (Nat.add_assoc _ _ _))⟩)) | (go_at_call 47; (with_reducible refine (pilcrowref04_upper.calls t186 t189 _ A13.out).mono ?_); rintro e w' ⟨rfl, ⟨nd, rfl⟩⟩; (try first | exact ⟨rfl, _, World.drewN_drewN _ _ _⟩ | exact ⟨rfl, _, Eq.trans (World.drewN_drewN _ _ _) (congrArg (World.drewN _) (Nat.add_assoc _ _ _))⟩))))
        go_ret2
        exact ⟨by first | rfl | (simp; done) | (simp [*]; done), by repeat (first | exact Drawn0.refl _ | apply Drawn0.step)⟩
    · rw [if_neg c8] at H
      have c8b0 : ((a0.size : Int) == 2) = false := beq_eq_false_iff_ne.mpr c8
      have c8b1 : ((a0.size : Int) != 2) = true := bne_iff_ne.mpr c8
      by_cases c14 : (a0.size : Int) = 3
      · rw [if_pos c14] at H
        have c14b0 : ((a0.size : Int) == 3) = true := beq_iff_eq.mpr c14
        have c14b1 : ((a0.size : Int) != 3) = false := bne_eq_false_iff_eq.mpr c14
        clear c14
        by_cases c15 : a1 = true
        · subst c15
          have H1 : (if 2 < (a0.size : Int) then ((pilcrowref04_lower.f ((((bt a0 2) % 4294967296) * 256) % 4294967296)).bind fun t190 => (some (t190, false))) else (none)) = some (r1, r2) := by rw [if_pos rfl] at H; exact H
          clear H
          have H := H1
          clear H1
          by_cases c16 : 2 < (a0.size : Int)
          · rw [if_pos c16] at H
            have c16b0 : decide (2 < (a0.size : Int)) = true := decide_eq_true c16
            have c16b1 : decide (2 < a0.size) = true := decide_eq_true (by omega)
            clear c16
            replace H := Option.bind_eq_some_iff.mp H
            obtain ⟨t190, A180, H⟩ := H
            replace H : (some (t190, false)) = some (r1, r2) := H
            have A18 := Aside0.mk A180
            clear A180
            simp only [Option.some.injEq, Prod.mk.injEq] at H
            obtain ⟨rfl, rfl⟩ := H
            have p17 : 0 ≤ (2 : Int) := (by omega)
            have q17 : 2 < a0.size := (by have : (2 : Int) < (a0.size : Int) := of_decide_eq_true (by first | (with_reducible assumption) | assumption); omega)
            have hx17 : ∀ h : 2 < a0.size, ((a0[2]'h).toNat : Int) = bt a0 2 := bt_at a0 2
            clear p17
            have qi17 : (2 < (a0.size : Int)) = True := eq_true (of_decide_eq_true (by first | (with_reducible assumption) | assumption))
            replace q17 := eq_true q17
            go_enter Try.func29, Try.ntmps29
            go_wp2_with (first | (go_at_call 46; (with_reducible refine (pilcrowref04_lower.calls ((((bt a0 2) % 4294967296) * 256) % 4294967296) t190 _ A18.out).mono ?_); rintro e w' ⟨rfl, ⟨nd, rfl⟩⟩; (try first | exact ⟨rfl, _, World.drewN_drewN _ _ _⟩ | exact ⟨rfl, _, Eq.trans (World.drewN_drewN _ _ _) (congrArg (World.drewN _) (Nat.add_assoc _ _ _))⟩)))
            repeat (go_quiet (first | (go_at_call 46; (with_reducible refine (pilcrowref04_lower.calls ((((bt a0 2) % 4294967296) * 256) % 4294967296) t190 _ A18.out).mono ?_); rintro e w' ⟨rfl, ⟨nd, rfl⟩⟩; (try first | exact ⟨rfl, _, World.drewN_drewN _ _ _⟩ | exact ⟨rfl, _, Eq.trans (World.drewN_drewN _ _ _) (congrArg (World.drewN _) (Nat.add_assoc _ _ _))⟩))); try go_wp2_with (first | (go_at_call 46; (with_reducible refine (pilcrowref04_lower.calls ((((bt a0 2) % 4294967296) * 256) % 4294967296) t190 _ A18.out).mono ?_); rintro e w' ⟨rfl, ⟨nd, rfl⟩⟩; (try first | exact ⟨rfl, _, World.drewN_drewN _ _ _⟩ | exact ⟨rfl, _, Eq.trans (World.drewN_drewN _ _ _) (congrArg (World.drewN _) (Nat.add_assoc _ _ _))⟩))))
            go_ret2
            exact ⟨by first | rfl | (simp; done) | (simp [*]; done), by repeat (first | exact Drawn0.refl _ | apply Drawn0.step)⟩
          · rw [if_neg c16] at H
            exact absurd H (by simp)
        · replace c15 := Bool.eq_false_iff.mpr c15
          subst c15
          have H1 : (some (true, false)) = some (r1, r2) := by rw [if_neg (show ¬ (false = true) by decide)] at H; exact H
          clear H
          have H := H1
          clear H1
          simp only [Option.some.injEq, Prod.mk.injEq] at H
          obtain ⟨rfl, rfl⟩ := H
          go_enter Try.func29, Try.ntmps29
          go_wp2
          repeat (go_quiet (fail); try go_wp2)
          go_ret2
          exact ⟨by first | rfl | (simp; done) | (simp [*]; done), by repeat (first | exact Drawn0.refl _ | apply Drawn0.step)⟩
      · rw [if_neg c14] at H
        have c14b0 : ((a0.size : Int) == 3) = false := beq_eq_false_iff_ne.mpr c14
        have c14b1 : ((a0.size : Int) != 3) = true := bne_iff_ne.mpr c14
        by_cases c19 : 2 ≤ (a0.size : Int)
        · rw [if_pos c19] at H
          have c19b0 := eq_true c19
          have c19b1 : decide (2 ≤ (a0.size : Int)) = true := decide_eq_true c19
          clear c19
          replace H := Option.bind_eq_some_iff.mp H
          obtain ⟨t191, A200, H⟩ := H
          replace H : ((pilcrowref04_lower.f t191).bind fun t192 => ((pilcrowref04_unit.f (a0.extract 2 a0.size) a1).bind fun t193 => ((pilcrowref04_lower.f t193).bind fun t194 => (some (t192, t194))))) = some (r1, r2) := H
          have A20 := Aside0.mk A200
          clear A200
          replace H := Option.bind_eq_some_iff.mp H
          obtain ⟨t192, A210, H⟩ := H
          replace H : ((pilcrowref04_unit.f (a0.extract 2 a0.size) a1).bind fun t193 => ((pilcrowref04_lower.f t193).bind fun t194 => (some (t192, t194)))) = some (r1, r2) := H
          have A21 := Aside0.mk A210
          clear A210
          have c22b0 := eq_true (of_decide_eq_true (by first | (with_reducible assumption) | assumption) : 2 ≤ (a0.size : Int))
          replace H := Option.bind_eq_some_iff.mp H
          obtain ⟨t193, A230, H⟩ := H
          replace H : ((pilcrowref04_lower.f t193).bind fun t194 => (some (t192, t194))) = some (r1, r2) := H
          have A23 := Aside0.mk A230
          clear A230
          replace H := Option.bind_eq_some_iff.mp H
          obtain ⟨t194, A240, H⟩ := H
          replace H : (some (t192, t194)) = some (r1, r2) := H
          have A24 := Aside0.mk A240
          clear A240
          simp only [Option.some.injEq, Prod.mk.injEq] at H
          obtain ⟨rfl, rfl⟩ := H
          go_enter Try.func29, Try.ntmps29
          go_wp2_with (first | (go_at_call 30; (with_reducible refine (pilcrowref04_unit.calls (a0.extract 2 a0.size) a1 t191 _ A20.out).mono ?_); rintro e w' ⟨rfl, ⟨nd, rfl⟩⟩; (try first | exact ⟨rfl, _, World.drewN_drewN _ _ _⟩ | exact ⟨rfl, _, Eq.trans (World.drewN_drewN _ _ _) (congrArg (World.drewN _) (Nat.add_assoc _ _ _))⟩)) | (go_at_call 46; (with_reducible refine (pilcrowref04_lower.calls t191 t192 _ A21.out).mono ?_); rintro e w' ⟨rfl, ⟨nd, rfl⟩⟩; (try first | exact ⟨rfl, _, World.drewN_drewN _ _ _⟩ | exact ⟨rfl, _, Eq.trans (World.drewN_drewN _ _ _) (congrArg (World.drewN _) (Nat.add_assoc _ _ _))⟩)) | (go_at_call 30; (with_reducible refine (pilcrowref04_unit.calls (a0.extract 2 a0.size) a1 t193 _ A23.out).mono ?_); rintro e w' ⟨rfl, ⟨nd, rfl⟩⟩; (try first | exact ⟨rfl, _, World.drewN_drewN _ _ _⟩ | exact ⟨rfl, _, Eq.trans (World.drewN_drewN _ _ _) (congrArg (World.drewN _) (Nat.add_assoc _ _ _))⟩)) | (go_at_call 46; (with_reducible refine (pilcrowref04_lower.calls t193 t194 _ A24.out).mono ?_); rintro e w' ⟨rfl, ⟨nd, rfl⟩⟩; (try first | exact ⟨rfl, _, World.drewN_drewN _ _ _⟩ | exact ⟨rfl, _, Eq.trans (World.drewN_drewN _ _ _) (congrArg (World.drewN _) (Nat.add_assoc _ _ _))⟩)))
          repeat (go_quiet (first | (go_at_call 30; (with_reducible refine (pilcrowref04_unit.calls (a0.extract 2 a0.size) a1 t191 _ A20.out).mono ?_); rintro e w' ⟨rfl, ⟨nd, rfl⟩⟩; (try first | exact ⟨rfl, _, World.drewN_drewN _ _ _⟩ | exact ⟨rfl, _, Eq.trans (World.drewN_drewN _ _ _) (congrArg (World.drewN _) (Nat.add_assoc _ _ _))⟩)) | (go_at_call 46; (with_reducible refine (pilcrowref04_lower.calls t191 t192 _ A21.out).mono ?_); rintro e w' ⟨rfl, ⟨nd, rfl⟩⟩; (try first | exact ⟨rfl, _, World.drewN_drewN _ _ _⟩ | exact ⟨rfl, _, Eq.trans (World.drewN_drewN _ _ _) (congrArg (World.drewN _) (Nat.add_assoc _ _ _))⟩)) | (go_at_call 30; (with_reducible refine (pilcrowref04_unit.calls (a0.extract 2 a0.size) a1 t193 _ A23.out).mono ?_); rintro e w' ⟨rfl, ⟨nd, rfl⟩⟩; (try first | exact ⟨rfl, _, World.drewN_drewN _ _ _⟩ | exact ⟨rfl, _, Eq.trans (World.drewN_drewN _ _ _) (congrArg (World.drewN _) (Nat.add_assoc _ _ _))⟩)) | (go_at_call 46; (with_reducible refine (pilcrowref04_lower.calls t193 t194 _ A24.out).mono ?_); rintro e w' ⟨rfl, ⟨nd, rfl⟩⟩; (try first | exact ⟨rfl, _, World.drewN_drewN _ _ _⟩ | exact ⟨rfl, _, Eq.trans (World.drewN_drewN _ _ _) (congrArg (World.drewN _) (Nat.add_assoc _ _ _))⟩))); try go_wp2_with (first | (go_at_call 30; (with_reducible refine (pilcrowref04_unit.calls (a0.extract 2 a0.size) a1 t191 _ A20.out).mono ?_); rintro e w' ⟨rfl, ⟨nd, rfl⟩⟩; (try first | exact ⟨rfl, _, World.drewN_drewN _ _ _⟩ | exact ⟨rfl, _, Eq.trans (World.drewN_drewN _ _ _) (congrArg (World.drewN _) (Nat.add_assoc _ _ _))⟩)) | (go_at_call 46; (with_reducible refine (pilcrowref04_lower.calls t191 t192 _ A21.out).mono ?_); rintro e w' ⟨rfl, ⟨nd, rfl⟩⟩; (try first | exact ⟨rfl, _, World.drewN_drewN _ _ _⟩ | exact ⟨rfl, _, Eq.trans (World.drewN_drewN _ _ _) (congrArg (World.drewN _) (Nat.add_assoc _ _ _))⟩)) | (go_at_call 30; (with_reducible refine (pilcrowref04_unit.calls (a0.extract 2 a0.size) a1 t193 _ A23.out).mono ?_); rintro e w' ⟨rfl, ⟨nd, rfl⟩⟩; (try first | exact ⟨rfl, _, World.drewN_drewN _ _ _⟩ | exact ⟨rfl, _, Eq.trans (World.drewN_drewN _ _ _) (congrArg (World.drewN _) (Nat.add_assoc _ _ _))⟩)) | (go_at_call 46; (with_reducible refine (pilcrowref04_lower.calls t193 t194 _ A24.out).mono ?_); rintro e w' ⟨rfl, ⟨nd, rfl⟩⟩; (try first | exact ⟨rfl, _, World.drewN_drewN _ _ _⟩ | exact ⟨rfl, _, Eq.trans (World.drewN_drewN _ _ _) (congrArg (World.drewN _) (Nat.add_assoc _ _ _))⟩))))
          go_ret2
          exact ⟨by first | rfl | (simp; done) | (have h1 := A20.out; rw [A23.out] at h1; have h2 := Option.some.inj h1; subst h2; have h3 := A21.out; rw [A24.out] at h3; have h4 := Option.some.inj h3; subst h4; first | rfl | (simp; done)) | (simp [*]; done), by repeat (first | exact Drawn0.refl _ | apply Drawn0.step)⟩
        · rw [if_neg c19] at H
          exact absurd H (by simp)

/-! ### pilcrowref04_Read: function 13 -/
def pilcrowref04_Read.l0 : Nat → ByteArray → Bool → List Int → Int → Int → Option (List Int × Int × Int)
  | 0, _, _, _, _, _ => none
  | k + 1, x0, x1, x7, x8, x9 => if x9 < (x0.size : Int) then (if 0 ≤ x8 then (if x8 ≤ (wrap64 (x9 + 1)) then (if (wrap64 (x9 + 1)) ≤ (x0.size : Int) then ((pilcrowref04_Begins.f (x0.extract (x8 : Int).toNat ((wrap64 (x9 + 1)) : Int).toNat) x1).bind fun bt198 => (if bt198.1 = true then (if bt198.2 = true then ((pilcrowref04_unit.f (x0.extract (x8 : Int).toNat ((wrap64 (x9 + 1)) : Int).toNat) x1).bind fun t200 => (if ((x0.extract (x8 : Int).toNat ((wrap64 (x9 + 1)) : Int).toNat).size : Int) = 4 then (if 2 ≤ ((x0.extract (x8 : Int).toNat ((wrap64 (x9 + 1)) : Int).toNat).size : Int) then ((pilcrowref04_unit.f ((x0.extract (x8 : Int).toNat ((wrap64 (x9 + 1)) : Int).toNat).extract 2 (x0.extract (x8 : Int).toNat ((wrap64 (x9 + 1)) : Int).toNat).size) x1).bind fun t201 => (if x7.length < 35184372088832 then (pilcrowref04_Read.l0 k x0 x1 (x7 ++ [(((((65536 + ((((t200 - 55296) % 4294967296) * 1024) % 4294967296)) % 4294967296) + t201) % 4294967296) - 56320) % 4294967296]) (wrap64 (x9 + 1)) (wrap64 (x9 + 1))) else (none))) else (none)) else (if x7.length < 35184372088832 then (pilcrowref04_Read.l0 k x0 x1 (x7 ++ [t200]) (wrap64 (x9 + 1)) (wrap64 (x9 + 1))) else (none)))) else (pilcrowref04_Read.l0 k x0 x1 x7 x8 (wrap64 (x9 + 1)))) else (some (x7, 3, x9)))) else (none)) else (none)) else (none)) else (if x8 < (x0.size : Int) then (some (x7, 4, (x0.size : Int))) else (some (x7, 0, (x0.size : Int))))
def pilcrowref04_Read.f (k : Nat) (a0 : ByteArray) (a1 : Bool) : Option (List Int × Int × Int) := pilcrowref04_Read.l0 k a0 a1 (([] : List Int)) 0 0
theorem pilcrowref04_Read.mono_l : ∀ k, (∀ y0 y1 y2 y3 y4, LeO (pilcrowref04_Read.l0 k y0 y1 y2 y3 y4) (pilcrowref04_Read.l0 (k + 1) y0 y1 y2 y3 y4))
  | 0 => fun _ _ _ _ _ r h => by simp [pilcrowref04_Read.l0] at h
  | k + 1 => by
    have ih0 := pilcrowref04_Read.mono_l k
    · intro y0 y1 y2 y3 y4
      unfold pilcrowref04_Read.l0
      repeat' first
      | (with_reducible exact ih0 _ _ _ _ _)
      | (with_reducible exact LeO.refl _)
      | (with_reducible exact LeO.none _)
      | (with_reducible refine LeO.ite ?_ ?_)
      | (with_reducible refine LeO.bind ?_ (fun _ => ?_))
      | exact ih0 _ _ _ _ _
      | exact LeO.none _
      | refine LeO.ite ?_ ?_
      | refine LeO.bind ?_ (fun _ => ?_)
theorem pilcrowref04_Read.mono : ∀ a0 a1 k, LeO (pilcrowref04_Read.f k a0 a1) (pilcrowref04_Read.f (k + 1) a0 a1) := by
  intro a0 a1 k
  have ih0 := pilcrowref04_Read.mono_l k
  unfold pilcrowref04_Read.f
  repeat' first
      | (with_reducible exact ih0 _ _ _ _ _)
      | (with_reducible exact LeO.refl _)
      | (with_reducible exact LeO.none _)
      | (with_reducible refine LeO.ite ?_ ?_)
      | (with_reducible refine LeO.bind ?_ (fun _ => ?_))
      | exact ih0 _ _ _ _ _
      | exact LeO.none _
      | refine LeO.ite ?_ ?_
      | refine LeO.bind ?_ (fun _ => ?_)
set_option maxHeartbeats 8000000 in
set_option maxRecDepth 100000 in
theorem pilcrowref04_Read.calls (k : Nat) (a0 : ByteArray) (a1 : Bool) (r1 : List Int) (r2 : Int) (r3 : Int) (w : World) (h : pilcrowref04_Read.f k a0 a1 = some (r1, r2, r3)) :
    Calls Try.prog 13 #[.string a0, .bool a1] w fun e w' => ∃ v0_ : Value, e = .returned (.tuple #[v0_, .int .i64 r2, .int .i64 r3]) ∧ Kd.R (Kd.int .u32) 44 w' w.heap.size (fun _ => True) v0_ r1 ∧ Below w.heap.size w w' := by
  have HB := Aside0.mk (Below.refl w.heap.size w)
  have H : (pilcrowref04_Read.l0 k a0 a1 (([] : List Int)) 0 0) = some (r1, r2, r3) := h
  clear h
  obtain ⟨y195, hy195⟩ : ∃ y_ : List Int, y_ = (([] : List Int)) := ⟨_, rfl⟩
  replace H : (pilcrowref04_Read.l0 k a0 a1 y195 0 0) = some (r1, r2, r3) := by first | (rw [hy195]; with_reducible exact H) | (have H2_ := (Option.bind_some _ _).symm.trans H; rw [hy195]; with_reducible exact H2_) | (have H2_ := (Option.bind_some _ _).symm.trans H; with_reducible exact H2_) | with_reducible exact H | (rw [hy195]; exact H) | exact H
  have Ny195 := Aside0.mk hy195
  clear hy195
  have H' := Aside0.mk H
  clear H
  go_enter Try.func13, Try.ntmps13
  go_wp2_with (first | ((with_reducible refine gate_dst (N := 14) rfl ?_); refine Kd.R_lit (Kd.int .u32) _ 44 ?hg (N := 14) ?hd (xs := ([] : List Int)) (inner := []) (ok := fun _ => True) (okp := fun _ => True) ?hr ?hp (fun _ hk => hk) trivial (Below.refl _ _) (Nat.le_refl _) (by simp) ?_; (case hd => rfl); (case hg => rfl); (case hr => first | (go_simp; done) | (go_simp; rfl)); (case hp => exact (Reps.none _ _)); intro v196 w3 ho4 hb hg_ hnew_; clear hg_ hnew_; (first | rw [← Ny195.out] at ho4 | (simp only [Int.reduceToNat] at ho4; rw [← Ny195.out] at ho4)); have n0_ := Aside0.mk (Kd.R_lower ho4 (below_size (by repeat (first | (with_reducible first | exact HB.out | apply below_alloc | apply pw_below_drewN | apply below_drew1) | exact HB.out)))); have n1_ := Aside0.mk (below_step (by repeat (first | (with_reducible first | exact HB.out | apply below_alloc | apply pw_below_drewN | apply below_drew1) | exact HB.out)) hb); clear HB; have HO197 := n0_; have HB := n1_; clear n0_ n1_; clear hb ho4))
  go_loopg [7, 8, 9] k (fun kq v7 v8 v9 w' => ∃ (x7_1 : List Int) (x8_1 : Int) (x9_1 : Int), v8 = .int .i64 x8_1 ∧ v9 = .int .i64 x9_1 ∧ Aside0 (pilcrowref04_Read.l0 kq a0 a1 x7_1 x8_1 x9_1 = some (r1, r2, r3)) ∧ Aside0 (kq ≤ k) ∧ Aside0 (Kd.R (Kd.int .u32) 44 w' w.heap.size (fun _ => True) v7 x7_1) ∧ Aside0 (Below w.heap.size w w'))
  case atStart => exact ⟨(y195), (0), (0), (by first | rfl | (simp; done) | (simp [*]; done)), (by first | rfl | (simp; done) | (simp [*]; done)), H', ⟨Nat.le_refl _⟩, ⟨by (with_reducible repeat (first | apply Kd.R_alloc | apply Kd.R_drewN | apply Kd.R_drew)); exact HO197.out⟩, ⟨by repeat (first | (with_reducible first | exact HB.out | apply below_alloc | apply pw_below_drewN | apply below_drew1) | exact HB.out)⟩⟩
  case round =>
    clear H'
    try clear c1
    try clear p2
    obtain ⟨x7_1, x8_1, x9_1, rfl, rfl, HA, HK1, HO_7, HB⟩ := hrel
    cases gk with
    | zero => exact absurd HA.out (by simp [pilcrowref04_Read.l0])
    | succ k1 =>
      have H := HA.out
      clear HA
      simp only [pilcrowref04_Read.l0] at H
      by_cases c5 : x9_1 < (a0.size : Int)
      · rw [if_pos c5] at H
        have c5b0 : decide (x9_1 < (a0.size : Int)) = true := decide_eq_true c5
        clear c5
        by_cases c6 : 0 ≤ x8_1
        · rw [if_pos c6] at H
          have c6b0 := eq_true c6
          have c6b1 : decide (0 ≤ x8_1) = true := decide_eq_true c6
          clear c6
          by_cases c7 : x8_1 ≤ (wrap64 (x9_1 + 1))
          · rw [if_pos c7] at H
            have c7b0 := eq_true c7
            have c7b1 : decide (x8_1 ≤ (wrap64 (x9_1 + 1))) = true := decide_eq_true c7
            by_cases c8 : (wrap64 (x9_1 + 1)) ≤ (a0.size : Int)
            · rw [if_pos c8] at H
              have c8b0 := eq_true c8
              have c8b1 : decide ((wrap64 (x9_1 + 1)) ≤ (a0.size : Int)) = true := decide_eq_true c8
              replace H := Option.bind_eq_some_iff.mp H
              obtain ⟨⟨t198, t199⟩, A90, H⟩ := H
              replace H : (if t198 = true then (if t199 = true then ((pilcrowref04_unit.f (a0.extract (x8_1 : Int).toNat ((wrap64 (x9_1 + 1)) : Int).toNat) a1).bind fun t200 => (if ((a0.extract (x8_1 : Int).toNat ((wrap64 (x9_1 + 1)) : Int).toNat).size : Int) = 4 then (if 2 ≤ ((a0.extract (x8_1 : Int).toNat ((wrap64 (x9_1 + 1)) : Int).toNat).size : Int) then ((pilcrowref04_unit.f ((a0.extract (x8_1 : Int).toNat ((wrap64 (x9_1 + 1)) : Int).toNat).extract 2 (a0.extract (x8_1 : Int).toNat ((wrap64 (x9_1 + 1)) : Int).toNat).size) a1).bind fun t201 => (if x7_1.length < 35184372088832 then (pilcrowref04_Read.l0 k1 a0 a1 (x7_1 ++ [(((((65536 + ((((t200 - 55296) % 4294967296) * 1024) % 4294967296)) % 4294967296) + t201) % 4294967296) - 56320) % 4294967296]) (wrap64 (x9_1 + 1)) (wrap64 (x9_1 + 1))) else (none))) else (none)) else (if x7_1.length < 35184372088832 then (pilcrowref04_Read.l0 k1 a0 a1 (x7_1 ++ [t200]) (wrap64 (x9_1 + 1)) (wrap64 (x9_1 + 1))) else (none)))) else (pilcrowref04_Read.l0 k1 a0 a1 x7_1 x8_1 (wrap64 (x9_1 + 1)))) else (some (x7_1, 3, x9_1))) = some (r1, r2, r3) := H
              have A9 := Aside0.mk A90
              clear A90
              by_cases c10 : t198 = true
              · subst c10
                have H1 : (if t199 = true then ((pilcrowref04_unit.f (a0.extract (x8_1 : Int).toNat ((wrap64 (x9_1 + 1)) : Int).toNat) a1).bind fun t200 => (if ((a0.extract (x8_1 : Int).toNat ((wrap64 (x9_1 + 1)) : Int).toNat).size : Int) = 4 then (if 2 ≤ ((a0.extract (x8_1 : Int).toNat ((wrap64 (x9_1 + 1)) : Int).toNat).size : Int) then ((pilcrowref04_unit.f ((a0.extract (x8_1 : Int).toNat ((wrap64 (x9_1 + 1)) : Int).toNat).extract 2 (a0.extract (x8_1 : Int).toNat ((wrap64 (x9_1 + 1)) : Int).toNat).size) a1).bind fun t201 => (if x7_1.length < 35184372088832 then (pilcrowref04_Read.l0 k1 a0 a1 (x7_1 ++ [(((((65536 + ((((t200 - 55296) % 4294967296) * 1024) % 4294967296)) % 4294967296) + t201) % 4294967296) - 56320) % 4294967296]) (wrap64 (x9_1 + 1)) (wrap64 (x9_1 + 1))) else (none))) else (none)) else (if x7_1.length < 35184372088832 then (pilcrowref04_Read.l0 k1 a0 a1 (x7_1 ++ [t200]) (wrap64 (x9_1 + 1)) (wrap64 (x9_1 + 1))) else (none)))) else (pilcrowref04_Read.l0 k1 a0 a1 x7_1 x8_1 (wrap64 (x9_1 + 1)))) = some (r1, r2, r3) := by rw [if_pos rfl] at H; exact H
                clear H
                have H := H1
                clear H1
                by_cases c11 : t199 = true
                · subst c11
                  have H1 : ((pilcrowref04_unit.f (a0.extract (x8_1 : Int).toNat ((wrap64 (x9_1 + 1)) : Int).toNat) a1).bind fun t200 => (if ((a0.extract (x8_1 : Int).toNat ((wrap64 (x9_1 + 1)) : Int).toNat).size : Int) = 4 then (if 2 ≤ ((a0.extract (x8_1 : Int).toNat ((wrap64 (x9_1 + 1)) : Int).toNat).size : Int) then ((pilcrowref04_unit.f ((a0.extract (x8_1 : Int).toNat ((wrap64 (x9_1 + 1)) : Int).toNat).extract 2 (a0.extract (x8_1 : Int).toNat ((wrap64 (x9_1 + 1)) : Int).toNat).size) a1).bind fun t201 => (if x7_1.length < 35184372088832 then (pilcrowref04_Read.l0 k1 a0 a1 (x7_1 ++ [(((((65536 + ((((t200 - 55296) % 4294967296) * 1024) % 4294967296)) % 4294967296) + t201) % 4294967296) - 56320) % 4294967296]) (wrap64 (x9_1 + 1)) (wrap64 (x9_1 + 1))) else (none))) else (none)) else (if x7_1.length < 35184372088832 then (pilcrowref04_Read.l0 k1 a0 a1 (x7_1 ++ [t200]) (wrap64 (x9_1 + 1)) (wrap64 (x9_1 + 1))) else (none)))) = some (r1, r2, r3) := by rw [if_pos rfl] at H; exact H
                  clear H
                  have H := H1
                  clear H1
                  replace H := Option.bind_eq_some_iff.mp H
                  obtain ⟨t200, A120, H⟩ := H
                  replace H : (if ((a0.extract (x8_1 : Int).toNat ((wrap64 (x9_1 + 1)) : Int).toNat).size : Int) = 4 then (if 2 ≤ ((a0.extract (x8_1 : Int).toNat ((wrap64 (x9_1 + 1)) : Int).toNat).size : Int) then ((pilcrowref04_unit.f ((a0.extract (x8_1 : Int).toNat ((wrap64 (x9_1 + 1)) : Int).toNat).extract 2 (a0.extract (x8_1 : Int).toNat ((wrap64 (x9_1 + 1)) : Int).toNat).size) a1).bind fun t201 => (if x7_1.length < 35184372088832 then (pilcrowref04_Read.l0 k1 a0 a1 (x7_1 ++ [(((((65536 + ((((t200 - 55296) % 4294967296) * 1024) % 4294967296)) % 4294967296) + t201) % 4294967296) - 56320) % 4294967296]) (wrap64 (x9_1 + 1)) (wrap64 (x9_1 + 1))) else (none))) else (none)) else (if x7_1.length < 35184372088832 then (pilcrowref04_Read.l0 k1 a0 a1 (x7_1 ++ [t200]) (wrap64 (x9_1 + 1)) (wrap64 (x9_1 + 1))) else (none))) = some (r1, r2, r3) := H
                  have A12 := Aside0.mk A120
                  clear A120
                  by_cases c13 : ((a0.extract (x8_1 : Int).toNat ((wrap64 (x9_1 + 1)) : Int).toNat).size : Int) = 4
                  · rw [if_pos c13] at H
                    have c13b0 : (((a0.extract (x8_1 : Int).toNat ((wrap64 (x9_1 + 1)) : Int).toNat).size : Int) == 4) = true := beq_iff_eq.mpr c13
                    have c13b1 : (((a0.extract (x8_1 : Int).toNat ((wrap64 (x9_1 + 1)) : Int).toNat).size : Int) != 4) = false := bne_eq_false_iff_eq.mpr c13
                    clear c13
                    by_cases c14 : 2 ≤ ((a0.extract (x8_1 : Int).toNat ((wrap64 (x9_1 + 1)) : Int).toNat).size : Int)
                    · rw [if_pos c14] at H
                      have c14b0 := eq_true c14
                      have c14b1 : decide (2 ≤ ((a0.extract (x8_1 : Int).toNat ((wrap64 (x9_1 + 1)) : Int).toNat).size : Int)) = true := decide_eq_true c14
                      replace H := Option.bind_eq_some_iff.mp H
                      obtain ⟨t201, A150, H⟩ := H
                      replace H : (if x7_1.length < 35184372088832 then (pilcrowref04_Read.l0 k1 a0 a1 (x7_1 ++ [(((((65536 + ((((t200 - 55296) % 4294967296) * 1024) % 4294967296)) % 4294967296) + t201) % 4294967296) - 56320) % 4294967296]) (wrap64 (x9_1 + 1)) (wrap64 (x9_1 + 1))) else (none)) = some (r1, r2, r3) := H
                      have A15 := Aside0.mk A150
                      clear A150
                      have hle_ : wrap64 (x9_1 + 1) ≤ (a0.size : Int) := of_eq_true (by assumption)
                      have hsz_ : (a0.extract (x8_1 : Int).toNat ((wrap64 (x9_1 + 1)) : Int).toNat).size = (((wrap64 (x9_1 + 1)) : Int).toNat - (x8_1 : Int).toNat) := by rw [ByteArray.size_extract, Nat.min_eq_left (by omega)]
                      have A15b := Aside0.mk (by have h_ := A15.out; rw [hsz_] at h_; exact h_)
                      have c13b2 := c13b0
                      rw [hsz_] at c13b2
                      clear hle_ hsz_
                      by_cases c16 : x7_1.length < 35184372088832
                      · rw [if_pos c16] at H
                        have LMc16 := Aside0.mk c16
                        clear c16
                        obtain ⟨y202, hy202⟩ : ∃ y_ : List Int, y_ = (x7_1 ++ [(((((65536 + ((((t200 - 55296) % 4294967296) * 1024) % 4294967296)) % 4294967296) + t201) % 4294967296) - 56320) % 4294967296]) := ⟨_, rfl⟩
                        replace H : (pilcrowref04_Read.l0 k1 a0 a1 y202 (wrap64 (x9_1 + 1)) (wrap64 (x9_1 + 1))) = some (r1, r2, r3) := by first | (rw [hy202]; with_reducible exact H) | (have H2_ := (Option.bind_some _ _).symm.trans H; rw [hy202]; with_reducible exact H2_) | (have H2_ := (Option.bind_some _ _).symm.trans H; with_reducible exact H2_) | with_reducible exact H | (rw [hy202]; exact H) | exact H
                        have Ny202 := Aside0.mk hy202
                        clear hy202
                        have H' := Aside0.mk H
                        clear H
                        go_wp2_with (first | ((with_reducible refine gate_callee (f := 29) rfl ?_); refine goesL_ (some 29) rfl rfl Try.func29 (by kernel_rfl) rfl #[.string (a0.extract (x8_1 : Int).toNat ((wrap64 (x9_1 + 1)) : Int).toNat), .bool a1] rfl (by (try simp only [List.map_toArray, List.map_cons, List.map_nil]); first | done | rfl | (simp only [List.length_drop, List.length_take]; rfl)) ?_; (with_reducible refine (pilcrowref04_Begins.calls (a0.extract (x8_1 : Int).toNat ((wrap64 (x9_1 + 1)) : Int).toNat) a1 true true _ A9.out).mono ?_); rintro e w' ⟨rfl, ⟨nd, rfl⟩⟩; refine ⟨_, rfl, ?_⟩) | ((with_reducible refine gate_callee (f := 30) rfl ?_); refine goesL_ (some 39) rfl rfl Try.func30 (by kernel_rfl) rfl #[.string (a0.extract (x8_1 : Int).toNat ((wrap64 (x9_1 + 1)) : Int).toNat), .bool a1] rfl (by (try simp only [List.map_toArray, List.map_cons, List.map_nil]); first | done | rfl | (simp only [List.length_drop, List.length_take]; rfl)) ?_; (with_reducible refine (pilcrowref04_unit.calls (a0.extract (x8_1 : Int).toNat ((wrap64 (x9_1 + 1)) : Int).toNat) a1 t200 _ A12.out).mono ?_); rintro e w' ⟨rfl, ⟨nd, rfl⟩⟩; refine ⟨_, rfl, ?_⟩) | ((with_reducible refine gate_callee (f := 30) rfl ?_); refine goesL_ (some 50) rfl rfl Try.func30 (by kernel_rfl) rfl #[.string ((a0.extract (x8_1 : Int).toNat ((wrap64 (x9_1 + 1)) : Int).toNat).extract 2 (((wrap64 (x9_1 + 1)) : Int).toNat - (x8_1 : Int).toNat)), .bool a1] rfl (by (try simp only [List.map_toArray, List.map_cons, List.map_nil]); first | done | rfl | (simp only [List.length_drop, List.length_take]; rfl)) ?_; (with_reducible refine (pilcrowref04_unit.calls ((a0.extract (x8_1 : Int).toNat ((wrap64 (x9_1 + 1)) : Int).toNat).extract 2 (((wrap64 (x9_1 + 1)) : Int).toNat - (x8_1 : Int).toNat)) a1 t201 _ A15b.out).mono ?_); rintro e w' ⟨rfl, ⟨nd, rfl⟩⟩; refine ⟨_, rfl, ?_⟩) | ((with_reducible refine gate_builtin (b := .append) (xs := #[.tmp 53, .tmp 55]) rfl ?_); at_builtin; refine Kd.R_append (Kd.int .u32) (w0 := w) w.heap.size rfl (.tmp 53) (.tmp 55) 28 44 (.int .u32 0) 4 rfl Try.underlying28 info44 rfl (by decide) (by omega) u7 x7_1 ((65536 + (t200 - 55296) % 4294967296 * 1024 + t201 - 56320) % 4294967296) [.int .u32 ((65536 + (t200 - 55296) % 4294967296 * 1024 + t201 - 56320) % 4294967296)] (fun _ => True) (fun _ => False) rfl rfl ?aP (fun _ hk => hk.elim) ?aF ?aO ?aB ?aS ?aL ?_; (case aP => exact rfl); (case aB => exact (by repeat (first | (with_reducible first | exact HB.out | apply below_alloc | apply pw_below_drewN | apply below_drew1) | exact HB.out))); (case aF => exact (fun _ _ => trivial)); (case aO => exact (by (with_reducible repeat (first | apply Kd.R_alloc | apply Kd.R_drewN | apply Kd.R_drew)); exact HO_7.out)); (case aS => exact (below_size (by repeat (first | (with_reducible first | exact HB.out | apply below_alloc | apply pw_below_drewN | apply below_drew1) | exact HB.out)))); (case aL => have := LMc16.out; omega); intro v203 w17 ho hb hg hat; rw [show ((65536 + (t200 - 55296) % 4294967296 * 1024 + t201 - 56320) % 4294967296) = ((((((65536 + ((((t200 - 55296) % 4294967296) * 1024) % 4294967296)) % 4294967296) + t201) % 4294967296) - 56320) % 4294967296) by omega, ← Ny202.out] at ho; have n0_ := Aside0.mk (hb); have n1_ := Aside0.mk (ho); clear HB; clear HO_7; have HB := n0_; have HO204 := n1_; clear n0_ n1_; clear ho hb hg hat))
                        go_roundg k1
                        case measure => have := HK1.out; omega
                        case rel => exact ⟨(y202), (wrap64 (x9_1 + 1)), (wrap64 (x9_1 + 1)), (by first | rfl | (simp; done) | (simp [*]; done)), (by first | rfl | (simp; done) | (simp [*]; done)), H', ⟨by have := HK1.out; omega⟩, ⟨by (with_reducible repeat (first | apply Kd.R_alloc | apply Kd.R_drewN | apply Kd.R_drew)); exact HO204.out⟩, ⟨by repeat (first | (with_reducible first | exact HB.out | apply below_alloc | apply pw_below_drewN | apply below_drew1) | exact HB.out)⟩⟩
                      · rw [if_neg c16] at H
                        exact absurd H (by simp)
                    · rw [if_neg c14] at H
                      exact absurd H (by simp)
                  · rw [if_neg c13] at H
                    have c13b0 : (((a0.extract (x8_1 : Int).toNat ((wrap64 (x9_1 + 1)) : Int).toNat).size : Int) == 4) = false := beq_eq_false_iff_ne.mpr c13
                    have c13b1 : (((a0.extract (x8_1 : Int).toNat ((wrap64 (x9_1 + 1)) : Int).toNat).size : Int) != 4) = true := bne_iff_ne.mpr c13
                    have hle_ : wrap64 (x9_1 + 1) ≤ (a0.size : Int) := of_eq_true (by assumption)
                    have hsz_ : (a0.extract (x8_1 : Int).toNat ((wrap64 (x9_1 + 1)) : Int).toNat).size = (((wrap64 (x9_1 + 1)) : Int).toNat - (x8_1 : Int).toNat) := by rw [ByteArray.size_extract, Nat.min_eq_left (by omega)]
                    have c13b2 := c13b0
                    rw [hsz_] at c13b2
                    clear hle_ hsz_
                    by_cases c18 : x7_1.length < 35184372088832
                    · rw [if_pos c18] at H
                      have LMc18 := Aside0.mk c18
                      clear c18
                      obtain ⟨y205, hy205⟩ : ∃ y_ : List Int, y_ = (x7_1 ++ [t200]) := ⟨_, rfl⟩
                      replace H : (pilcrowref04_Read.l0 k1 a0 a1 y205 (wrap64 (x9_1 + 1)) (wrap64 (x9_1 + 1))) = some (r1, r2, r3) := by first | (rw [hy205]; with_reducible exact H) | (have H2_ := (Option.bind_some _ _).symm.trans H; rw [hy205]; with_reducible exact H2_) | (have H2_ := (Option.bind_some _ _).symm.trans H; with_reducible exact H2_) | with_reducible exact H | (rw [hy205]; exact H) | exact H
                      have Ny205 := Aside0.mk hy205
                      clear hy205
                      have H' := Aside0.mk H
                      clear H
                      go_wp2_with (first | ((with_reducible refine gate_callee (f := 29) rfl ?_); refine goesL_ (some 29) rfl rfl Try.func29 (by kernel_rfl) rfl #[.string (a0.extract (x8_1 : Int).toNat ((wrap64 (x9_1 + 1)) : Int).toNat), .bool a1] rfl (by (try simp only [List.map_toArray, List.map_cons, List.map_nil]); first | done | rfl | (simp only [List.length_drop, List.length_take]; rfl)) ?_; (with_reducible refine (pilcrowref04_Begins.calls (a0.extract (x8_1 : Int).toNat ((wrap64 (x9_1 + 1)) : Int).toNat) a1 true true _ A9.out).mono ?_); rintro e w' ⟨rfl, ⟨nd, rfl⟩⟩; refine ⟨_, rfl, ?_⟩) | ((with_reducible refine gate_callee (f := 30) rfl ?_); refine goesL_ (some 39) rfl rfl Try.func30 (by kernel_rfl) rfl #[.string (a0.extract (x8_1 : Int).toNat ((wrap64 (x9_1 + 1)) : Int).toNat), .bool a1] rfl (by (try simp only [List.map_toArray, List.map_cons, List.map_nil]); first | done | rfl | (simp only [List.length_drop, List.length_take]; rfl)) ?_; (with_reducible refine (pilcrowref04_unit.calls (a0.extract (x8_1 : Int).toNat ((wrap64 (x9_1 + 1)) : Int).toNat) a1 t200 _ A12.out).mono ?_); rintro e w' ⟨rfl, ⟨nd, rfl⟩⟩; refine ⟨_, rfl, ?_⟩) | ((with_reducible refine gate_builtin (b := .append) (xs := #[.tmp 53, .tmp 55]) rfl ?_); at_builtin; refine Kd.R_append (Kd.int .u32) (w0 := w) w.heap.size rfl (.tmp 53) (.tmp 55) 28 44 (.int .u32 0) 4 rfl Try.underlying28 info44 rfl (by decide) (by omega) u7 x7_1 t200 [.int .u32 t200] (fun _ => True) (fun _ => False) rfl rfl ?aP (fun _ hk => hk.elim) ?aF ?aO ?aB ?aS ?aL ?_; (case aP => exact rfl); (case aB => exact (by repeat (first | (with_reducible first | exact HB.out | apply below_alloc | apply pw_below_drewN | apply below_drew1) | exact HB.out))); (case aF => exact (fun _ _ => trivial)); (case aO => exact (by (with_reducible repeat (first | apply Kd.R_alloc | apply Kd.R_drewN | apply Kd.R_drew)); exact HO_7.out)); (case aS => exact (below_size (by repeat (first | (with_reducible first | exact HB.out | apply below_alloc | apply pw_below_drewN | apply below_drew1) | exact HB.out)))); (case aL => have := LMc18.out; omega); intro v206 w19 ho hb hg hat; rw [← Ny205.out] at ho; have n0_ := Aside0.mk (hb); have n1_ := Aside0.mk (ho); clear HB; clear HO_7; have HB := n0_; have HO207 := n1_; clear n0_ n1_; clear ho hb hg hat))
                      go_roundg k1
                      case measure => have := HK1.out; omega
                      case rel => exact ⟨(y205), (wrap64 (x9_1 + 1)), (wrap64 (x9_1 + 1)), (by first | rfl | (simp; done) | (simp [*]; done)), (by first | rfl | (simp; done) | (simp [*]; done)), H', ⟨by have := HK1.out; omega⟩, ⟨by (with_reducible repeat (first | apply Kd.R_alloc | apply Kd.R_drewN | apply Kd.R_drew)); exact HO207.out⟩, ⟨by repeat (first | (with_reducible first | exact HB.out | apply below_alloc | apply pw_below_drewN | apply below_drew1) | exact HB.out)⟩⟩
                    · rw [if_neg c18] at H
                      exact absurd H (by simp)
                · replace c11 := Bool.eq_false_iff.mpr c11
                  subst c11
                  have H1 : (pilcrowref04_Read.l0 k1 a0 a1 x7_1 x8_1 (wrap64 (x9_1 + 1))) = some (r1, r2, r3) := by rw [if_neg (show ¬ (false = true) by decide)] at H; exact H
                  clear H
                  have H := H1
                  clear H1
                  have H' := Aside0.mk H
                  clear H
                  go_wp2_with (first | ((with_reducible refine gate_callee (f := 29) rfl ?_); refine goesL_ (some 29) rfl rfl Try.func29 (by kernel_rfl) rfl #[.string (a0.extract (x8_1 : Int).toNat ((wrap64 (x9_1 + 1)) : Int).toNat), .bool a1] rfl (by (try simp only [List.map_toArray, List.map_cons, List.map_nil]); first | done | rfl | (simp only [List.length_drop, List.length_take]; rfl)) ?_; (with_reducible refine (pilcrowref04_Begins.calls (a0.extract (x8_1 : Int).toNat ((wrap64 (x9_1 + 1)) : Int).toNat) a1 true false _ A9.out).mono ?_); rintro e w' ⟨rfl, ⟨nd, rfl⟩⟩; refine ⟨_, rfl, ?_⟩))
                  go_roundg k1
                  case measure => have := HK1.out; omega
                  case rel => exact ⟨(x7_1), (x8_1), (wrap64 (x9_1 + 1)), (by first | rfl | (simp; done) | (simp [*]; done)), (by first | rfl | (simp; done) | (simp [*]; done)), H', ⟨by have := HK1.out; omega⟩, ⟨by (with_reducible repeat (first | apply Kd.R_alloc | apply Kd.R_drewN | apply Kd.R_drew)); exact HO_7.out⟩, ⟨by repeat (first | (with_reducible first | exact HB.out | apply below_alloc | apply pw_below_drewN | apply below_drew1) | exact HB.out)⟩⟩
              · replace c10 := Bool.eq_false_iff.mpr c10
                subst c10
                have H1 : (some (x7_1, 3, x9_1)) = some (r1, r2, r3) := by rw [if_neg (show ¬ (false = true) by decide)] at H; exact H
                clear H
                have H := H1
                clear H1
                simp only [Option.some.injEq, Prod.mk.injEq] at H
                obtain ⟨rfl, rfl, rfl⟩ := H
                go_wp2_with (first | ((with_reducible refine gate_callee (f := 29) rfl ?_); refine goesL_ (some 29) rfl rfl Try.func29 (by kernel_rfl) rfl #[.string (a0.extract (x8_1 : Int).toNat ((wrap64 (x9_1 + 1)) : Int).toNat), .bool a1] rfl (by (try simp only [List.map_toArray, List.map_cons, List.map_nil]); first | done | rfl | (simp only [List.length_drop, List.length_take]; rfl)) ?_; (with_reducible refine (pilcrowref04_Begins.calls (a0.extract (x8_1 : Int).toNat ((wrap64 (x9_1 + 1)) : Int).toNat) a1 false t199 _ A9.out).mono ?_); rintro e w' ⟨rfl, ⟨nd, rfl⟩⟩; refine ⟨_, rfl, ?_⟩))
                go_ret3
                exact ⟨_, by first | rfl | (simp [errW_none, errW_some] <;> rfl) | (simp [*, errW_none, errW_some] <;> rfl), by (with_reducible repeat (first | apply Kd.R_alloc | apply Kd.R_drewN | apply Kd.R_drew)); exact HO_7.out, by repeat (first | (with_reducible first | exact HB.out | apply below_alloc | apply pw_below_drewN | apply below_drew1) | exact HB.out)⟩
            · rw [if_neg c8] at H
              exact absurd H (by simp)
          · rw [if_neg c7] at H
            exact absurd H (by simp)
        · rw [if_neg c6] at H
          exact absurd H (by simp)
      · rw [if_neg c5] at H
        have c5b0 : decide (x9_1 < (a0.size : Int)) = false := decide_eq_false c5
        clear c5
        by_cases c20 : x8_1 < (a0.size : Int)
        · rw [if_pos c20] at H
          have c20b0 : decide (x8_1 < (a0.size : Int)) = true := decide_eq_true c20
          clear c20
          simp only [Option.some.injEq, Prod.mk.injEq] at H
          obtain ⟨rfl, rfl, rfl⟩ := H
          go_wp2
          go_ret3
          exact ⟨_, by first | rfl | (simp [errW_none, errW_some] <;> rfl) | (simp [*, errW_none, errW_some] <;> rfl), by (with_reducible repeat (first | apply Kd.R_alloc | apply Kd.R_drewN | apply Kd.R_drew)); exact HO_7.out, by repeat (first | (with_reducible first | exact HB.out | apply below_alloc | apply pw_below_drewN | apply below_drew1) | exact HB.out)⟩
        · rw [if_neg c20] at H
          have c20b0 : decide (x8_1 < (a0.size : Int)) = false := decide_eq_false c20
          clear c20
          simp only [Option.some.injEq, Prod.mk.injEq] at H
          obtain ⟨rfl, rfl, rfl⟩ := H
          go_wp2
          go_ret3
          exact ⟨_, by first | rfl | (simp [errW_none, errW_some] <;> rfl) | (simp [*, errW_none, errW_some] <;> rfl), by (with_reducible repeat (first | apply Kd.R_alloc | apply Kd.R_drewN | apply Kd.R_drew)); exact HO_7.out, by repeat (first | (with_reducible first | exact HB.out | apply below_alloc | apply pw_below_drewN | apply below_drew1) | exact HB.out)⟩

/-! ### pilcrowlaw04_failed: function 16 -/
def pilcrowlaw04_failed.f (a0 : Int) (a1 : Int) : Option (Int × Int) := if a0 = 0 then (some (0, 0)) else (some (a0, a1))
set_option maxHeartbeats 8000000 in
set_option maxRecDepth 100000 in
theorem pilcrowlaw04_failed.calls (a0 : Int) (a1 : Int) (r1 : Int) (r2 : Int) (w : World) (h : pilcrowlaw04_failed.f a0 a1 = some (r1, r2)) :
    Calls Try.prog 16 #[.int .i64 a0, .int .i64 a1] w fun e w' => e = .returned (.agg #[.int .i64 r1, .int .i64 r2]) ∧ Below w.heap.size w w' := by
  have hu36 := Try.underlying36
  have HB := Aside0.mk (Below.refl w.heap.size w)
  have H : (if a0 = 0 then (some (0, 0)) else (some (a0, a1))) = some (r1, r2) := h
  clear h
  by_cases c3 : a0 = 0
  · rw [if_pos c3] at H
    have c3b0 : (a0 == 0) = true := beq_iff_eq.mpr c3
    have c3b1 : (a0 != 0) = false := bne_eq_false_iff_eq.mpr c3
    clear c3
    simp only [Option.some.injEq, Prod.mk.injEq] at H
    obtain ⟨rfl, rfl⟩ := H
    go_enter Try.func16, Try.ntmps16
    go_wp2_with (first | ((with_reducible refine gate_dst (N := 4) rfl ?_); refine box_event ?hg (N := 4) ?hd (cs := #[.int .i64 0, .int .i64 0]) (t := 36) ?hr ?_; (case hd => rfl); (case hg => rfl); (case hr => first | (go_simp; done) | (go_simp; rfl)); intro gb208 hg w4 hbox hb; have n0_ := Aside0.mk (below_step (by repeat (first | (with_reducible first | exact HB.out | apply below_alloc | apply pw_below_drewN | apply below_drew1) | exact HB.out)) hb); have n1_ := Aside0.mk (hbox); have n2_ := Aside0.mk ((by rw [hg]; exact (below_size (by repeat (first | (with_reducible first | exact HB.out | apply below_alloc | apply pw_below_drewN | apply below_drew1) | exact HB.out))) : w.heap.size ≤ gb208)); have n3_ := Aside0.mk ((by rw [hg]; exact (below_size (by repeat (first | (with_reducible first | exact HB.out | apply below_alloc | apply pw_below_drewN | apply below_drew1) | exact HB.out))) : w.heap.size ≤ gb208)); clear HB; have HB := n0_; have BK208 := n1_; have GW208 := n2_; have GE208 := n3_; clear n0_ n1_ n2_ n3_; clear hb hbox hg; have hcz5_0 : w4.cell? ⟨gb208, 0, none⟩ = some (.int .i64 0) := (blk_cell BK208.out 0).trans rfl; have hcz5_1 : w4.cell? ⟨gb208, 1, none⟩ = some (.int .i64 0) := (blk_cell BK208.out 1).trans rfl; have hfz5_0 := blk_frozen BK208.out 0; have hfz5_1 := blk_frozen BK208.out 1))
    refine bodyPost_ret (results_cell_row rfl _ _ gb208 36 #[.int .i64 0, .int .i64 0] (0, 0) _ rfl (by (with_reducible repeat (first | refine blk_drewN ?_ _ | refine blk_drew ?_ | refine blk_alloc ?_ _)); refine blk_put (cs := #[.int .i64 0, .int .i64 0]) ?_ 1 _ rfl; (with_reducible repeat (first | refine blk_drewN ?_ _ | refine blk_drew ?_ | refine blk_alloc ?_ _)); refine blk_put (cs := #[.int .i64 0, .int .i64 0]) ?_ 0 _ rfl; (with_reducible repeat (first | refine blk_drewN ?_ _ | refine blk_drew ?_ | refine blk_alloc ?_ _)); exact BK208.out) Try.underlying36 rfl (by kernel_rfl)) rfl ?_
    exact ⟨by first | rfl | (simp [errW_none, errW_some] <;> rfl) | (simp [*, errW_none, errW_some] <;> rfl), by repeat (first | (with_reducible first | exact HB.out | apply below_alloc | apply pw_below_drewN | apply below_drew1 | refine below_set ?_ GE208.out) | exact HB.out)⟩
  · rw [if_neg c3] at H
    have c3b0 : (a0 == 0) = false := beq_eq_false_iff_ne.mpr c3
    have c3b1 : (a0 != 0) = true := bne_iff_ne.mpr c3
    simp only [Option.some.injEq, Prod.mk.injEq] at H
    obtain ⟨rfl, rfl⟩ := H
    go_enter Try.func16, Try.ntmps16
    go_wp2_with (first | ((with_reducible refine gate_dst (N := 4) rfl ?_); refine box_event ?hg (N := 4) ?hd (cs := #[.int .i64 0, .int .i64 0]) (t := 36) ?hr ?_; (case hd => rfl); (case hg => rfl); (case hr => first | (go_simp; done) | (go_simp; rfl)); intro gb208 hg w6 hbox hb; have n0_ := Aside0.mk (below_step (by repeat (first | (with_reducible first | exact HB.out | apply below_alloc | apply pw_below_drewN | apply below_drew1) | exact HB.out)) hb); have n1_ := Aside0.mk (hbox); have n2_ := Aside0.mk ((by rw [hg]; exact (below_size (by repeat (first | (with_reducible first | exact HB.out | apply below_alloc | apply pw_below_drewN | apply below_drew1) | exact HB.out))) : w.heap.size ≤ gb208)); have n3_ := Aside0.mk ((by rw [hg]; exact (below_size (by repeat (first | (with_reducible first | exact HB.out | apply below_alloc | apply pw_below_drewN | apply below_drew1) | exact HB.out))) : w.heap.size ≤ gb208)); clear HB; have HB := n0_; have BK208 := n1_; have GW208 := n2_; have GE208 := n3_; clear n0_ n1_ n2_ n3_; clear hb hbox hg; have hcz7_0 : w6.cell? ⟨gb208, 0, none⟩ = some (.int .i64 0) := (blk_cell BK208.out 0).trans rfl; have hcz7_1 : w6.cell? ⟨gb208, 1, none⟩ = some (.int .i64 0) := (blk_cell BK208.out 1).trans rfl; have hfz7_0 := blk_frozen BK208.out 0; have hfz7_1 := blk_frozen BK208.out 1))
    refine bodyPost_ret (results_cell_row rfl _ _ gb208 36 #[.int .i64 a0, .int .i64 a1] (0, 0) _ rfl (by (with_reducible repeat (first | refine blk_drewN ?_ _ | refine blk_drew ?_ | refine blk_alloc ?_ _)); refine blk_put (cs := #[.int .i64 a0, .int .i64 0]) ?_ 1 _ rfl; (with_reducible repeat (first | refine blk_drewN ?_ _ | refine blk_drew ?_ | refine blk_alloc ?_ _)); refine blk_put (cs := #[.int .i64 0, .int .i64 0]) ?_ 0 _ rfl; (with_reducible repeat (first | refine blk_drewN ?_ _ | refine blk_drew ?_ | refine blk_alloc ?_ _)); exact BK208.out) Try.underlying36 rfl (by kernel_rfl)) rfl ?_
    exact ⟨by first | rfl | (simp [errW_none, errW_some] <;> rfl) | (simp [*, errW_none, errW_some] <;> rfl), by repeat (first | (with_reducible first | exact HB.out | apply below_alloc | apply pw_below_drewN | apply below_drew1 | refine below_set ?_ GE208.out) | exact HB.out)⟩

-- NOT PRINTED: function 3 (pilcrowlaw04_Uni16Reads)

end Go.Proofs.Ytjddbdhpdenaeaa.PUni16Reads
