/- The machine of layer 6, byte by byte: the contracts of scalar.Is, lead, second, next. -/
import Derived.Test.YtolhfpboieimcaaDec
import Derived.OpenShut
import Derived.Lib.EndianBits
import Derived.Laws.BitsLemmas
import Derived.Laws.BitsAllLaws
import Derived.Deep.RegionHeld3
namespace Go.Proofs.Ytolhfpboieimcaa
open Go.RowKit Go.Proofs.YtolhfpboieimcaaW.PrintWords Go.Proofs.YtolhfpboieimcaaW.PrintMore
set_option linter.unusedVariables false
set_option linter.unusedSimpArgs false
def isB (c : Int) : Bool := decide (c ≤ 1114111) && (decide (c < 55296) || decide (57343 < c))
theorem is_any (c : Int) (w : World) : Calls Try.prog 42 #[.int .u32 c] w fun en w' => en = .returned (.bool (isB c)) ∧ w = w' := by
  by_cases h1 : c ≤ 1114111
  · by_cases h2 : c < 55296
    · have e : isB c = true := by simp [isB, h1, h2]
      rw [e]
      go_enter Try.func42, Try.ntmps42
      go_wp2
      go_ret
      exact ⟨rfl, rfl⟩
    · by_cases h3 : 57343 < c
      · have e : isB c = true := by simp [isB, h1, h3]
        rw [e]
        go_enter Try.func42, Try.ntmps42
        go_wp2
        go_ret
        exact ⟨rfl, rfl⟩
      · have e : isB c = false := by simp [isB, h2, h3]
        rw [e]
        go_enter Try.func42, Try.ntmps42
        go_wp2
        go_ret
        exact ⟨rfl, rfl⟩
  · have e : isB c = false := by simp [isB, h1]
    rw [e]
    go_enter Try.func42, Try.ntmps42
    go_wp2
    go_ret
    exact ⟨rfl, rfl⟩
section
variable {w : World} {g T : Nat} {a e f : Int} {d : Bool} {v : Value} {xs : List Int} {nd fb c : Int} {gone : Bool}
abbrev own6 (nd fb c : Int) (gone : Bool) : List Value := [.int .i64 nd, .int .u8 fb, .int .u32 c, .bool gone]
theorem and3_at (x : Int) (h0 : 0 ≤ x) (h1 : x < 256) : Go.bits .and .u8 x 3 = x % 4 := by
  rw [u8_and x 3 h0 h1 (by omega) (by omega), show (3 : Int).toNat = 2 ^ 2 - 1 from rfl, Nat.and_two_pow_sub_one_eq_mod]
  omega
theorem lead_n1 (b : Int) (hb0 : 0 ≤ b) (hb : b < 197) (h : Dec w g T a e f d v xs (own6 nd fb c gone)) :
    Calls Try.prog 47 #[.pointer (some ⟨g, 0, none⟩), .int .u8 b] w fun en w' => en = .returned (.bool false) ∧ Dec w' g T a e f d v xs (own6 nd fb c gone) ∧ Stp w g v w' v := by
  have g197 : decide ((197 : Int) ≤ b) = false := decide_eq_false (by omega)
  have g225 : decide ((225 : Int) ≤ b) = false := decide_eq_false (by omega)
  have g240 : decide ((240 : Int) ≤ b) = false := decide_eq_false (by omega)
  have e248 : (b == 248) = false := by simp; omega
  have e249 : (b == 249) = false := by simp; omega
  have c5 : w.cell? ⟨g, 5, none⟩ = some (.int .i64 nd) := h.co 0
  have c6 : w.cell? ⟨g, 6, none⟩ = some (.int .u8 fb) := h.co 1
  have c7 : w.cell? ⟨g, 7, none⟩ = some (.int .u32 c) := h.co 2
  have c8 : w.cell? ⟨g, 8, none⟩ = some (.bool gone) := h.co 3
  have f5 := h.fz 5
  have f6 := h.fz 6
  have f7 := h.fz 7
  have f8 := h.fz 8
  have H := Lib.hid h
  clear h
  go_enter Try.func47, Try.ntmps47
  go_wp2_with fail
  go_ret
  exact ⟨rfl, H.out, Stp.refl _ _ _⟩
theorem lead_n2 (b : Int) (hb : b = 224) (h : Dec w g T a e f d v xs (own6 nd fb c gone)) :
    Calls Try.prog 47 #[.pointer (some ⟨g, 0, none⟩), .int .u8 b] w fun en w' => en = .returned (.bool false) ∧ Dec w' g T a e f d v xs (own6 nd fb c gone) ∧ Stp w g v w' v := by
  subst hb
  have c5 : w.cell? ⟨g, 5, none⟩ = some (.int .i64 nd) := h.co 0
  have c6 : w.cell? ⟨g, 6, none⟩ = some (.int .u8 fb) := h.co 1
  have c7 : w.cell? ⟨g, 7, none⟩ = some (.int .u32 c) := h.co 2
  have c8 : w.cell? ⟨g, 8, none⟩ = some (.bool gone) := h.co 3
  have f5 := h.fz 5
  have f6 := h.fz 6
  have f7 := h.fz 7
  have f8 := h.fz 8
  have H := Lib.hid h
  clear h
  go_enter Try.func47, Try.ntmps47
  go_wp2_with fail
  go_ret
  exact ⟨rfl, H.out, Stp.refl _ _ _⟩
theorem lead_n3 (b : Int) (hb0 : 250 ≤ b) (hb : b ≤ 255) (h : Dec w g T a e f d v xs (own6 nd fb c gone)) :
    Calls Try.prog 47 #[.pointer (some ⟨g, 0, none⟩), .int .u8 b] w fun en w' => en = .returned (.bool false) ∧ Dec w' g T a e f d v xs (own6 nd fb c gone) ∧ Stp w g v w' v := by
  have g197 : decide ((197 : Int) ≤ b) = true := decide_eq_true (by omega)
  have l223 : decide (b ≤ (223 : Int)) = false := decide_eq_false (by omega)
  have g225 : decide ((225 : Int) ≤ b) = true := decide_eq_true (by omega)
  have l239 : decide (b ≤ (239 : Int)) = false := decide_eq_false (by omega)
  have g240 : decide ((240 : Int) ≤ b) = true := decide_eq_true (by omega)
  have l247 : decide (b ≤ (247 : Int)) = false := decide_eq_false (by omega)
  have e248 : (b == 248) = false := by simp; omega
  have e249 : (b == 249) = false := by simp; omega
  have c5 : w.cell? ⟨g, 5, none⟩ = some (.int .i64 nd) := h.co 0
  have c6 : w.cell? ⟨g, 6, none⟩ = some (.int .u8 fb) := h.co 1
  have c7 : w.cell? ⟨g, 7, none⟩ = some (.int .u32 c) := h.co 2
  have c8 : w.cell? ⟨g, 8, none⟩ = some (.bool gone) := h.co 3
  have f5 := h.fz 5
  have f6 := h.fz 6
  have f7 := h.fz 7
  have f8 := h.fz 8
  have H := Lib.hid h
  clear h
  go_enter Try.func47, Try.ntmps47
  go_wp2_with fail
  go_ret
  exact ⟨rfl, H.out, Stp.refl _ _ _⟩
theorem lead_1 (b : Int) (hb0 : 197 ≤ b) (hb : b ≤ 223) (h : Dec w g T a e f d v xs (own6 nd fb c gone)) :
    Calls Try.prog 47 #[.pointer (some ⟨g, 0, none⟩), .int .u8 b] w fun en w' => en = .returned (.bool true) ∧ Dec w' g T a e f d v xs (own6 1 b (b % 32) false) ∧ Stp w g v w' v := by
  have g197 : decide ((197 : Int) ≤ b) = true := decide_eq_true (by omega)
  have l223 : decide (b ≤ (223 : Int)) = true := decide_eq_true (by omega)
  have c5 : w.cell? ⟨g, 5, none⟩ = some (.int .i64 nd) := h.co 0
  have c6 : w.cell? ⟨g, 6, none⟩ = some (.int .u8 fb) := h.co 1
  have c7 : w.cell? ⟨g, 7, none⟩ = some (.int .u32 c) := h.co 2
  have c8 : w.cell? ⟨g, 8, none⟩ = some (.bool gone) := h.co 3
  have f5 := h.fz 5
  have f6 := h.fz 6
  have f7 := h.fz 7
  have f8 := h.fz 8
  have H := Lib.hid h
  clear h
  go_enter Try.func47, Try.ntmps47
  go_wp2_with fail
  go_ret
  exact ⟨rfl, (((H.out.set 0 _).set 2 _).set 1 _).set 3 _, Stp.mine (((((Kp.refl _ _).setg _ _).setg _ _).setg _ _).setg _ _)⟩
theorem lead_2 (b : Int) (hb0 : 225 ≤ b) (hb : b ≤ 239) (h : Dec w g T a e f d v xs (own6 nd fb c gone)) :
    Calls Try.prog 47 #[.pointer (some ⟨g, 0, none⟩), .int .u8 b] w fun en w' => en = .returned (.bool true) ∧ Dec w' g T a e f d v xs (own6 2 b (b % 16) false) ∧ Stp w g v w' v := by
  have g197 : decide ((197 : Int) ≤ b) = true := decide_eq_true (by omega)
  have l223 : decide (b ≤ (223 : Int)) = false := decide_eq_false (by omega)
  have g225 : decide ((225 : Int) ≤ b) = true := decide_eq_true (by omega)
  have l239 : decide (b ≤ (239 : Int)) = true := decide_eq_true (by omega)
  have c5 : w.cell? ⟨g, 5, none⟩ = some (.int .i64 nd) := h.co 0
  have c6 : w.cell? ⟨g, 6, none⟩ = some (.int .u8 fb) := h.co 1
  have c7 : w.cell? ⟨g, 7, none⟩ = some (.int .u32 c) := h.co 2
  have c8 : w.cell? ⟨g, 8, none⟩ = some (.bool gone) := h.co 3
  have f5 := h.fz 5
  have f6 := h.fz 6
  have f7 := h.fz 7
  have f8 := h.fz 8
  have H := Lib.hid h
  clear h
  go_enter Try.func47, Try.ntmps47
  go_wp2_with fail
  go_ret
  exact ⟨rfl, (((H.out.set 0 _).set 2 _).set 1 _).set 3 _, Stp.mine (((((Kp.refl _ _).setg _ _).setg _ _).setg _ _).setg _ _)⟩
theorem lead_3 (b : Int) (hb0 : 240 ≤ b) (hb : b ≤ 247) (h : Dec w g T a e f d v xs (own6 nd fb c gone)) :
    Calls Try.prog 47 #[.pointer (some ⟨g, 0, none⟩), .int .u8 b] w fun en w' => en = .returned (.bool true) ∧ Dec w' g T a e f d v xs (own6 3 b (b % 8) false) ∧ Stp w g v w' v := by
  have g197 : decide ((197 : Int) ≤ b) = true := decide_eq_true (by omega)
  have l223 : decide (b ≤ (223 : Int)) = false := decide_eq_false (by omega)
  have g225 : decide ((225 : Int) ≤ b) = true := decide_eq_true (by omega)
  have l239 : decide (b ≤ (239 : Int)) = false := decide_eq_false (by omega)
  have g240 : decide ((240 : Int) ≤ b) = true := decide_eq_true (by omega)
  have l247 : decide (b ≤ (247 : Int)) = true := decide_eq_true (by omega)
  have c5 : w.cell? ⟨g, 5, none⟩ = some (.int .i64 nd) := h.co 0
  have c6 : w.cell? ⟨g, 6, none⟩ = some (.int .u8 fb) := h.co 1
  have c7 : w.cell? ⟨g, 7, none⟩ = some (.int .u32 c) := h.co 2
  have c8 : w.cell? ⟨g, 8, none⟩ = some (.bool gone) := h.co 3
  have f5 := h.fz 5
  have f6 := h.fz 6
  have f7 := h.fz 7
  have f8 := h.fz 8
  have H := Lib.hid h
  clear h
  go_enter Try.func47, Try.ntmps47
  go_wp2_with fail
  go_ret
  exact ⟨rfl, (((H.out.set 0 _).set 2 _).set 1 _).set 3 _, Stp.mine (((((Kp.refl _ _).setg _ _).setg _ _).setg _ _).setg _ _)⟩
theorem lead_4 (b : Int) (hb : b = 248) (h : Dec w g T a e f d v xs (own6 nd fb c gone)) :
    Calls Try.prog 47 #[.pointer (some ⟨g, 0, none⟩), .int .u8 b] w fun en w' => en = .returned (.bool true) ∧ Dec w' g T a e f d v xs (own6 4 248 0 false) ∧ Stp w g v w' v := by
  subst hb
  have c5 : w.cell? ⟨g, 5, none⟩ = some (.int .i64 nd) := h.co 0
  have c6 : w.cell? ⟨g, 6, none⟩ = some (.int .u8 fb) := h.co 1
  have c7 : w.cell? ⟨g, 7, none⟩ = some (.int .u32 c) := h.co 2
  have c8 : w.cell? ⟨g, 8, none⟩ = some (.bool gone) := h.co 3
  have f5 := h.fz 5
  have f6 := h.fz 6
  have f7 := h.fz 7
  have f8 := h.fz 8
  have H := Lib.hid h
  clear h
  go_enter Try.func47, Try.ntmps47
  go_wp2_with fail
  go_ret
  exact ⟨rfl, (((H.out.set 0 _).set 2 _).set 1 _).set 3 _, Stp.mine (((((Kp.refl _ _).setg _ _).setg _ _).setg _ _).setg _ _)⟩
theorem lead_5 (b : Int) (hb : b = 249) (h : Dec w g T a e f d v xs (own6 nd fb c gone)) :
    Calls Try.prog 47 #[.pointer (some ⟨g, 0, none⟩), .int .u8 b] w fun en w' => en = .returned (.bool true) ∧ Dec w' g T a e f d v xs (own6 4 249 1 false) ∧ Stp w g v w' v := by
  subst hb
  have c5 : w.cell? ⟨g, 5, none⟩ = some (.int .i64 nd) := h.co 0
  have c6 : w.cell? ⟨g, 6, none⟩ = some (.int .u8 fb) := h.co 1
  have c7 : w.cell? ⟨g, 7, none⟩ = some (.int .u32 c) := h.co 2
  have c8 : w.cell? ⟨g, 8, none⟩ = some (.bool gone) := h.co 3
  have f5 := h.fz 5
  have f6 := h.fz 6
  have f7 := h.fz 7
  have f8 := h.fz 8
  have H := Lib.hid h
  clear h
  go_enter Try.func47, Try.ntmps47
  go_wp2_with fail
  go_ret
  exact ⟨rfl, (((H.out.set 0 _).set 2 _).set 1 _).set 3 _, Stp.mine (((((Kp.refl _ _).setg _ _).setg _ _).setg _ _).setg _ _)⟩
/-- May this be the second byte, behind this first one? -/
def secondF (fb b : Int) : Bool := if fb = 240 then decide (176 ≤ b) else if fb = 241 then (b != 182 && b != 183) else if fb = 248 then decide (168 ≤ b) else if fb = 249 then decide (b ≤ 161) else true
theorem second_any (b : Int) (h : Dec w g T a e f d v xs (own6 nd fb c gone)) :
    Calls Try.prog 48 #[.pointer (some ⟨g, 0, none⟩), .int .u8 b] w fun en w' => en = .returned (.bool (secondF fb b)) ∧ w = w' := by
  have c6 : w.cell? ⟨g, 6, none⟩ = some (.int .u8 fb) := h.co 1
  clear h
  by_cases h1 : fb = 240
  · subst h1
    rw [show secondF 240 b = decide (176 ≤ b) from rfl]
    go_enter Try.func48, Try.ntmps48
    go_wp2_with fail
    go_ret
    exact ⟨rfl, rfl⟩
  by_cases h2 : fb = 241
  · subst h2
    rw [show secondF 241 b = (b != 182 && b != 183) from rfl]
    go_enter Try.func48, Try.ntmps48
    go_wp2_with fail
    all_goals go_ret
    all_goals first | exact ⟨rfl, rfl⟩ | exact ⟨by simp [*], rfl⟩
  by_cases h3 : fb = 248
  · subst h3
    rw [show secondF 248 b = decide (168 ≤ b) from rfl]
    go_enter Try.func48, Try.ntmps48
    go_wp2_with fail
    go_ret
    exact ⟨rfl, rfl⟩
  by_cases h4 : fb = 249
  · subst h4
    rw [show secondF 249 b = decide (b ≤ 161) from rfl]
    go_enter Try.func48, Try.ntmps48
    go_wp2_with fail
    go_ret
    exact ⟨rfl, rfl⟩
  have e : secondF fb b = true := by unfold secondF; rw [if_neg h1, if_neg h2, if_neg h3, if_neg h4]
  rw [e]
  have k1 : (fb == 240) = false := by simpa using h1
  have k2 : (fb == 241) = false := by simpa using h2
  have k3 : (fb == 248) = false := by simpa using h3
  have k4 : (fb == 249) = false := by simpa using h4
  clear h1 h2 h3 h4 e
  go_enter Try.func48, Try.ntmps48
  go_wp2_with fail
  go_ret
  exact ⟨rfl, rfl⟩
/-! ### The machine's own state, and one byte -/
structure CS where
  nd : Int
  fb : Int
  c : Int
  gone : Bool
def cown (s : CS) : List Value := own6 s.nd s.fb s.c s.gone
def cok (s : CS) : Prop := (0 ≤ s.nd ∧ s.nd ≤ 4) ∧ (0 ≤ s.fb ∧ s.fb ≤ 255) ∧ 0 ≤ s.c ∧ s.c ≤ 4194303 ∧ (s.nd = 1 → s.c ≤ 131071) ∧ (s.nd = 2 → s.c ≤ 4095) ∧ (s.nd = 3 → s.c ≤ 127) ∧ (s.nd = 4 → s.c ≤ 3)
/-- Is it a first byte of several? -/
def isLead (b : Int) : Prop := (197 ≤ b ∧ b ≤ 223) ∨ (225 ≤ b ∧ b ≤ 249)
instance (b : Int) : Decidable (isLead b) := by unfold isLead; exact inferInstance
/-- The state behind a first byte of several. -/
def leadF (b : Int) : CS := if b < 224 then ⟨1, b, b % 32, false⟩ else if b < 240 then ⟨2, b, b % 16, false⟩ else if b < 248 then ⟨3, b, b % 8, false⟩ else ⟨4, b, b % 4, false⟩
def cnx (s : CS) (b : Int) : Option (CS × Option Int) :=
  if s.nd = 0 then (if b < 160 then some (s, some b) else if isLead b then some (leadF b, none) else none)
  else if b < 160 ∨ 191 < b ∨ (s.gone = false ∧ secondF s.fb b = false) then none
  else if s.nd = 1 then some (⟨0, s.fb, s.c * 32 + b % 32, true⟩, some (s.c * 32 + b % 32)) else some (⟨s.nd - 1, s.fb, s.c * 32 + b % 32, true⟩, none)
/-- Does something wait, so that an end cuts it? -/
def ccut (s : CS) : Bool := decide (s.nd > 0)
theorem leadF_ok {b : Int} (h : isLead b) : cok (leadF b) := by
  unfold isLead at h
  unfold leadF cok
  (repeat' split) <;> simp only <;> omega
theorem lead_any (b : Int) (hb0 : 0 ≤ b) (hb1 : b ≤ 255) (h : Dec w g T a e f d v xs (own6 nd fb c gone)) :
    Calls Try.prog 47 #[.pointer (some ⟨g, 0, none⟩), .int .u8 b] w fun en w' => (¬ isLead b ∧ en = .returned (.bool false) ∧ Dec w' g T a e f d v xs (own6 nd fb c gone) ∧ Stp w g v w' v) ∨ (isLead b ∧ en = .returned (.bool true) ∧ Dec w' g T a e f d v xs (cown (leadF b)) ∧ Stp w g v w' v) := by
  by_cases h1 : b < 197
  · exact (lead_n1 b hb0 h1 h).mono fun en w' h9 => .inl ⟨by unfold isLead; omega, h9⟩
  by_cases h2 : b < 224
  · have e : cown (leadF b) = own6 1 b (b % 32) false := by unfold leadF; rw [if_pos h2]; rfl
    rw [e]
    exact (lead_1 b (by omega) (by omega) h).mono fun en w' h9 => .inr ⟨by unfold isLead; omega, h9⟩
  by_cases h3 : b = 224
  · exact (lead_n2 b h3 h).mono fun en w' h9 => .inl ⟨by unfold isLead; omega, h9⟩
  by_cases h4 : b < 240
  · have e : cown (leadF b) = own6 2 b (b % 16) false := by unfold leadF; rw [if_neg h2, if_pos h4]; rfl
    rw [e]
    exact (lead_2 b (by omega) (by omega) h).mono fun en w' h9 => .inr ⟨by unfold isLead; omega, h9⟩
  by_cases h5 : b < 248
  · have e : cown (leadF b) = own6 3 b (b % 8) false := by unfold leadF; rw [if_neg h2, if_neg h4, if_pos h5]; rfl
    rw [e]
    exact (lead_3 b (by omega) (by omega) h).mono fun en w' h9 => .inr ⟨by unfold isLead; omega, h9⟩
  by_cases h6 : b = 248
  · have e : cown (leadF b) = own6 4 248 0 false := by subst h6; rfl
    rw [e]
    exact (lead_4 b h6 h).mono fun en w' h9 => .inr ⟨by unfold isLead; omega, h9⟩
  by_cases h7 : b = 249
  · have e : cown (leadF b) = own6 4 249 1 false := by subst h7; rfl
    rw [e]
    exact (lead_5 b h7 h).mono fun en w' h9 => .inr ⟨by unfold isLead; omega, h9⟩
  exact (lead_n3 b (by omega) hb1 h).mono fun en w' h9 => .inl ⟨by unfold isLead; omega, h9⟩
theorem cnx_ok {s s' : CS} {b : Int} {r : Option Int} (hs : cok s) (h : cnx s b = some (s', r)) : cok s' := by
  have h9 := hs
  obtain ⟨h1, h2, h4, h5, h6, h7, h8, h10⟩ := hs
  unfold cnx at h
  split at h
  · split at h
    · simp only [Option.some.injEq, Prod.mk.injEq] at h
      obtain ⟨rfl, _⟩ := h
      exact h9
    · split at h
      · rename_i hl
        simp only [Option.some.injEq, Prod.mk.injEq] at h
        obtain ⟨rfl, _⟩ := h
        exact leadF_ok hl
      · cases h
  · split at h
    · cases h
    · split at h
      · simp only [Option.some.injEq, Prod.mk.injEq] at h
        obtain ⟨rfl, _⟩ := h
        unfold cok
        simp only
        omega
      · simp only [Option.some.injEq, Prod.mk.injEq] at h
        obtain ⟨rfl, _⟩ := h
        unfold cok
        simp only
        omega
/-- The bits of one byte more. -/
def cat6 (c b : Int) : Int := Go.bits .or .u32 (c * 32) (b % 32)
theorem cat6_at (c b : Int) (hc0 : 0 ≤ c) (hc1 : c ≤ 4194303) (hb0 : 0 ≤ b) (hb1 : b ≤ 255) : cat6 c b = c * 32 + b % 32 := by
  unfold cat6
  rw [u32_or _ _ (by omega) (by omega) (by omega) (by omega), nat_join5 _ _ (by omega) (by omega)]
  omega
theorem next_one (b : Int) (hb0 : 0 ≤ b) (hb1 : b ≤ 255) (hl : xs.length + 1 ≤ 1073741824) (hb : b < 160) (h : Dec w g T a e f d v xs (own6 0 fb c gone)) :
    Calls Try.prog 37 #[.pointer (some ⟨g, 0, none⟩), .int .u8 b] w fun en w' => en = .returned (.bool true) ∧ ∃ v', Dec w' g T a e f d v' (xs ++ [b]) (own6 0 fb c gone) ∧ Stp w g v w' v' := by
  have hd : decide (b < (160 : Int)) = true := decide_eq_true hb
  have c5 : w.cell? ⟨g, 5, none⟩ = some (.int .i64 0) := h.co 0
  have c6 : w.cell? ⟨g, 6, none⟩ = some (.int .u8 fb) := h.co 1
  have c7 : w.cell? ⟨g, 7, none⟩ = some (.int .u32 c) := h.co 2
  have c8 : w.cell? ⟨g, 8, none⟩ = some (.bool gone) := h.co 3
  have f5 := h.fz 5
  have f6 := h.fz 6
  have f7 := h.fz 7
  have f8 := h.fz 8
  have H := Lib.hid h
  clear h
  go_enter Try.func37, Try.ntmps37
  go_wp2_with fail
  refine (dec_hold_one b rfl hl H.out).mono ?_
  rintro en w1 ⟨rfl, v1, hd1', hs1⟩
  have HD1 := Lib.hid hd1'
  have HS1 := Lib.hid hs1
  clear hd1' hs1
  go_wp2_with fail
  go_ret
  exact ⟨rfl, _, HD1.out, HS1.out⟩
theorem next_lead_no (b : Int) (hb0 : 0 ≤ b) (hb1 : b ≤ 255) (hl : xs.length + 1 ≤ 1073741824) (hb : 160 ≤ b) (hbb : ¬ isLead b) (h : Dec w g T a e f d v xs (own6 0 fb c gone)) :
    Calls Try.prog 37 #[.pointer (some ⟨g, 0, none⟩), .int .u8 b] w fun en w' => en = .returned (.bool false) ∧ Dec w' g T a e f d v xs (own6 0 fb c gone) ∧ Stp w g v w' v := by
  have hd : decide (b < (160 : Int)) = false := decide_eq_false (by omega)
  have c5 : w.cell? ⟨g, 5, none⟩ = some (.int .i64 0) := h.co 0
  have c6 : w.cell? ⟨g, 6, none⟩ = some (.int .u8 fb) := h.co 1
  have c7 : w.cell? ⟨g, 7, none⟩ = some (.int .u32 c) := h.co 2
  have c8 : w.cell? ⟨g, 8, none⟩ = some (.bool gone) := h.co 3
  have f5 := h.fz 5
  have f6 := h.fz 6
  have f7 := h.fz 7
  have f8 := h.fz 8
  have H := Lib.hid h
  clear h
  have HBB := Lib.hid hbb
  clear hbb
  go_enter Try.func37, Try.ntmps37
  go_wp2_with fail
  refine (lead_any b hb0 hb1 H.out).mono ?_
  rintro en w1 h1
  rcases h1 with ⟨h2, rfl, h3, h4⟩ | ⟨h2, rfl, h3, h4⟩
  · have HD1 := Lib.hid h3
    have HS1 := Lib.hid h4
    clear h2 h3 h4
    go_wp2_with fail
    go_ret
    exact ⟨rfl, HD1.out, HS1.out⟩
  · exact absurd h2 HBB.out
theorem next_lead_ok (b : Int) (hb0 : 0 ≤ b) (hb1 : b ≤ 255) (hl : xs.length + 1 ≤ 1073741824) (hb : 160 ≤ b) (hbb : isLead b) (h : Dec w g T a e f d v xs (own6 0 fb c gone)) :
    Calls Try.prog 37 #[.pointer (some ⟨g, 0, none⟩), .int .u8 b] w fun en w' => en = .returned (.bool true) ∧ Dec w' g T a e f d v xs (cown (leadF b)) ∧ Stp w g v w' v := by
  have hd : decide (b < (160 : Int)) = false := decide_eq_false (by omega)
  have c5 : w.cell? ⟨g, 5, none⟩ = some (.int .i64 0) := h.co 0
  have c6 : w.cell? ⟨g, 6, none⟩ = some (.int .u8 fb) := h.co 1
  have c7 : w.cell? ⟨g, 7, none⟩ = some (.int .u32 c) := h.co 2
  have c8 : w.cell? ⟨g, 8, none⟩ = some (.bool gone) := h.co 3
  have f5 := h.fz 5
  have f6 := h.fz 6
  have f7 := h.fz 7
  have f8 := h.fz 8
  have H := Lib.hid h
  clear h
  have HBB := Lib.hid hbb
  clear hbb
  go_enter Try.func37, Try.ntmps37
  go_wp2_with fail
  refine (lead_any b hb0 hb1 H.out).mono ?_
  rintro en w1 h1
  rcases h1 with ⟨h2, rfl, h3, h4⟩ | ⟨h2, rfl, h3, h4⟩
  · exact absurd HBB.out h2
  · have HD1 := Lib.hid h3
    have HS1 := Lib.hid h4
    clear h2 h3 h4
    go_wp2_with fail
    go_ret
    exact ⟨rfl, HD1.out, HS1.out⟩
theorem next_out_lo (b : Int) (hb0 : 0 ≤ b) (hb1 : b ≤ 255) (hl : xs.length + 1 ≤ 1073741824) (hn : 1 ≤ nd) (hb : b < 160) (h : Dec w g T a e f d v xs (own6 nd fb c gone)) :
    Calls Try.prog 37 #[.pointer (some ⟨g, 0, none⟩), .int .u8 b] w fun en w' => en = .returned (.bool false) ∧ Dec w' g T a e f d v xs (own6 nd fb c gone) ∧ Stp w g v w' v := by
  have hn0 : (nd == 0) = false := by simp; omega
  have hd : decide (b < (160 : Int)) = true := decide_eq_true hb
  have c5 : w.cell? ⟨g, 5, none⟩ = some (.int .i64 nd) := h.co 0
  have c6 : w.cell? ⟨g, 6, none⟩ = some (.int .u8 fb) := h.co 1
  have c7 : w.cell? ⟨g, 7, none⟩ = some (.int .u32 c) := h.co 2
  have c8 : w.cell? ⟨g, 8, none⟩ = some (.bool gone) := h.co 3
  have f5 := h.fz 5
  have f6 := h.fz 6
  have f7 := h.fz 7
  have f8 := h.fz 8
  have H := Lib.hid h
  clear h
  go_enter Try.func37, Try.ntmps37
  go_wp2_with fail
  go_ret
  exact ⟨rfl, H.out, Stp.refl _ _ _⟩
theorem next_out_hi (b : Int) (hb0 : 0 ≤ b) (hb1 : b ≤ 255) (hl : xs.length + 1 ≤ 1073741824) (hn : 1 ≤ nd) (hb : 191 < b) (h : Dec w g T a e f d v xs (own6 nd fb c gone)) :
    Calls Try.prog 37 #[.pointer (some ⟨g, 0, none⟩), .int .u8 b] w fun en w' => en = .returned (.bool false) ∧ Dec w' g T a e f d v xs (own6 nd fb c gone) ∧ Stp w g v w' v := by
  have hn0 : (nd == 0) = false := by simp; omega
  have hd : decide (b < (160 : Int)) = false := decide_eq_false (by omega)
  have hd2 : decide ((191 : Int) < b) = true := decide_eq_true hb
  have c5 : w.cell? ⟨g, 5, none⟩ = some (.int .i64 nd) := h.co 0
  have c6 : w.cell? ⟨g, 6, none⟩ = some (.int .u8 fb) := h.co 1
  have c7 : w.cell? ⟨g, 7, none⟩ = some (.int .u32 c) := h.co 2
  have c8 : w.cell? ⟨g, 8, none⟩ = some (.bool gone) := h.co 3
  have f5 := h.fz 5
  have f6 := h.fz 6
  have f7 := h.fz 7
  have f8 := h.fz 8
  have H := Lib.hid h
  clear h
  go_enter Try.func37, Try.ntmps37
  go_wp2_with fail
  go_ret
  exact ⟨rfl, H.out, Stp.refl _ _ _⟩
theorem next_out_se (b : Int) (hb0 : 0 ≤ b) (hb1 : b ≤ 255) (hl : xs.length + 1 ≤ 1073741824) (hn : 1 ≤ nd) (hbl : 160 ≤ b) (hbh : b ≤ 191) (hse : secondF fb b = false) (h : Dec w g T a e f d v xs (own6 nd fb c false)) :
    Calls Try.prog 37 #[.pointer (some ⟨g, 0, none⟩), .int .u8 b] w fun en w' => en = .returned (.bool false) ∧ Dec w' g T a e f d v xs (own6 nd fb c false) ∧ Stp w g v w' v := by
  have hn0 : (nd == 0) = false := by simp; omega
  have hd : decide (b < (160 : Int)) = false := decide_eq_false (by omega)
  have hd2 : decide ((191 : Int) < b) = false := decide_eq_false (by omega)
  have c5 : w.cell? ⟨g, 5, none⟩ = some (.int .i64 nd) := h.co 0
  have c6 : w.cell? ⟨g, 6, none⟩ = some (.int .u8 fb) := h.co 1
  have c7 : w.cell? ⟨g, 7, none⟩ = some (.int .u32 c) := h.co 2
  have c8 : w.cell? ⟨g, 8, none⟩ = some (.bool false) := h.co 3
  have f5 := h.fz 5
  have f6 := h.fz 6
  have f7 := h.fz 7
  have f8 := h.fz 8
  have H := Lib.hid h
  clear h
  have HSE := Lib.hid hse
  clear hse
  go_enter Try.func37, Try.ntmps37
  go_wp2_with fail
  have hse := HSE.out
  refine (second_any b H.out).mono ?_
  rw [hse]
  rintro en w1 ⟨rfl, rfl⟩
  clear hse
  go_wp2_with fail
  go_ret
  exact ⟨rfl, H.out, Stp.refl _ _ _⟩
theorem next_on_true (b : Int) (hb0 : 0 ≤ b) (hb1 : b ≤ 255) (hl : xs.length + 1 ≤ 1073741824) (hn : 2 ≤ nd) (hn3 : nd ≤ 4) (hc0 : 0 ≤ c) (hc1 : c ≤ 4194303) (hbl : 160 ≤ b) (hbh : b ≤ 191) (h : Dec w g T a e f d v xs (own6 nd fb c true)) :
    Calls Try.prog 37 #[.pointer (some ⟨g, 0, none⟩), .int .u8 b] w fun en w' => en = .returned (.bool true) ∧ Dec w' g T a e f d v xs (own6 (nd - 1) fb (c * 32 + b % 32) true) ∧ Stp w g v w' v := by
  have hn0 : (nd == 0) = false := by simp; omega
  have hn1 : (nd - 1 == 0) = false := by simp; omega
  have hd : decide (b < (160 : Int)) = false := decide_eq_false (by omega)
  have hd2 : decide ((191 : Int) < b) = false := decide_eq_false (by omega)
  have hcat := cat6_at c b hc0 hc1 hb0 hb1
  rw [← hcat]
  clear hcat
  have hX : Go.bits .or .u32 (c * 32) (b % 32) = cat6 c b := rfl
  generalize cat6 c b = X at *
  subst hX
  have c5 : w.cell? ⟨g, 5, none⟩ = some (.int .i64 nd) := h.co 0
  have c6 : w.cell? ⟨g, 6, none⟩ = some (.int .u8 fb) := h.co 1
  have c7 : w.cell? ⟨g, 7, none⟩ = some (.int .u32 c) := h.co 2
  have c8 : w.cell? ⟨g, 8, none⟩ = some (.bool true) := h.co 3
  have f5 := h.fz 5
  have f6 := h.fz 6
  have f7 := h.fz 7
  have f8 := h.fz 8
  have H := Lib.hid h
  clear h
  go_enter Try.func37, Try.ntmps37
  go_wp2_with fail
  go_ret
  exact ⟨rfl, ((H.out.set 3 _).set 2 _).set 0 _, Stp.mine ((((Kp.refl _ _).setg _ _).setg _ _).setg _ _)⟩
theorem next_all_true (b : Int) (hb0 : 0 ≤ b) (hb1 : b ≤ 255) (hl : xs.length + 1 ≤ 1073741824) (hc0 : 0 ≤ c) (hc1 : c ≤ 4194303) (hbl : 160 ≤ b) (hbh : b ≤ 191) (h : Dec w g T a e f d v xs (own6 1 fb c true)) :
    Calls Try.prog 37 #[.pointer (some ⟨g, 0, none⟩), .int .u8 b] w fun en w' => en = .returned (.bool true) ∧ ∃ v', Dec w' g T a e f d v' (xs ++ [c * 32 + b % 32]) (own6 0 fb (c * 32 + b % 32) true) ∧ Stp w g v w' v' := by
  have hd : decide (b < (160 : Int)) = false := decide_eq_false (by omega)
  have hd2 : decide ((191 : Int) < b) = false := decide_eq_false (by omega)
  have hcat := cat6_at c b hc0 hc1 hb0 hb1
  rw [← hcat]
  clear hcat
  have hX : Go.bits .or .u32 (c * 32) (b % 32) = cat6 c b := rfl
  generalize cat6 c b = X at *
  have HX := Lib.hid hX
  clear hX
  have c5 : w.cell? ⟨g, 5, none⟩ = some (.int .i64 1) := h.co 0
  have c6 : w.cell? ⟨g, 6, none⟩ = some (.int .u8 fb) := h.co 1
  have c7 : w.cell? ⟨g, 7, none⟩ = some (.int .u32 c) := h.co 2
  have c8 : w.cell? ⟨g, 8, none⟩ = some (.bool true) := h.co 3
  have f5 := h.fz 5
  have f6 := h.fz 6
  have f7 := h.fz 7
  have f8 := h.fz 8
  have H := Lib.hid h
  clear h
  go_enter Try.func37, Try.ntmps37
  go_wp2_with fail
  rw [HX.out]
  have HW : Hid (Dec (((w.setCell ⟨g, 8, none⟩ (.bool true)).setCell ⟨g, 7, none⟩ (.int .u32 X)).setCell ⟨g, 5, none⟩ (.int .i64 0)) g T a e f d v xs (own6 0 fb X true)) := Lib.hid (((H.out.set 3 _).set 2 _).set 0 _)
  have HSW : Hid (Stp w g v (((w.setCell ⟨g, 8, none⟩ (.bool true)).setCell ⟨g, 7, none⟩ (.int .u32 X)).setCell ⟨g, 5, none⟩ (.int .i64 0)) v) := Lib.hid (Stp.mine ((((Kp.refl _ _).setg _ _).setg _ _).setg _ _))
  generalize (((w.setCell ⟨g, 8, none⟩ (.bool true)).setCell ⟨g, 7, none⟩ (.int .u32 X)).setCell ⟨g, 5, none⟩ (.int .i64 0)) = W1 at *
  clear c5 c6 c7 c8 f5 f6 f7 f8
  have c88 : W1.drew.cell? ⟨g, 7, none⟩ = some (.int .u32 X) := HW.out.co 2
  have f88 := HW.out.fz 7
  have cA : (W1.alloc (.cells #[.int .u32 X] 49)).drew.cell? ⟨g, 7, none⟩ = some (.int .u32 X) := ((HW.out.below (below_alloc (Below.refl _ _) (.cells #[.int .u32 X] 49))).drew).co 2
  have HDA : Hid (Dec (W1.alloc (.cells #[.int .u32 X] 49)).drew g T a e f d v xs (own6 0 fb X true)) := Lib.hid ((HW.out.below (below_alloc (Below.refl _ _) (.cells #[.int .u32 X] 49))).drew)
  have HRD : Hid (ReadsInt (W1.alloc (.cells #[.int .u32 X] 49)).drew .u32 (some ⟨W1.heap.size, 0, none⟩) 1 [X]) := Lib.hid (box_reads W1 X)
  go_region_held3 (fun w' => w'.cell? ⟨g, 7, none⟩ = some (.int .u32 X)) (first | assumption | go_keep) (first
    | (go_at_call 46; refine (dec_hold (m := 1) (ys := [X]) HRD.out hl HDA.out).mono ?_; rintro e w3 ⟨rfl, v1, hd3, hs3⟩; have HD3 := Lib.hid hd3; have HS3 := Lib.hid hs3; have c83 : w3.cell? ⟨g, 7, none⟩ = some (.int .u32 X) := hd3.co 2; have f83 := hd3.fz 7; clear hd3 hs3)
    | (fail))
  clear c88 cA
  go_wp2_with fail
  go_ret
  have h2 : Stp w g v (W1.alloc (.cells #[.int .u32 X] 49)).drew v := HSW.out.below ((((Kp.refl (fun _ => False) _).alloc _).drew).below (Nat.le_refl _) (fun _ h => h.elim))
  exact ⟨rfl, _, HD3.out, h2.trans HS3.out⟩
theorem next_on_false (b : Int) (hb0 : 0 ≤ b) (hb1 : b ≤ 255) (hl : xs.length + 1 ≤ 1073741824) (hn : 2 ≤ nd) (hn3 : nd ≤ 4) (hc0 : 0 ≤ c) (hc1 : c ≤ 4194303) (hbl : 160 ≤ b) (hbh : b ≤ 191) (hse : secondF fb b = true) (h : Dec w g T a e f d v xs (own6 nd fb c false)) :
    Calls Try.prog 37 #[.pointer (some ⟨g, 0, none⟩), .int .u8 b] w fun en w' => en = .returned (.bool true) ∧ Dec w' g T a e f d v xs (own6 (nd - 1) fb (c * 32 + b % 32) true) ∧ Stp w g v w' v := by
  have hn0 : (nd == 0) = false := by simp; omega
  have hn1 : (nd - 1 == 0) = false := by simp; omega
  have hd : decide (b < (160 : Int)) = false := decide_eq_false (by omega)
  have hd2 : decide ((191 : Int) < b) = false := decide_eq_false (by omega)
  have hcat := cat6_at c b hc0 hc1 hb0 hb1
  rw [← hcat]
  clear hcat
  have hX : Go.bits .or .u32 (c * 32) (b % 32) = cat6 c b := rfl
  generalize cat6 c b = X at *
  subst hX
  have HSE := Lib.hid hse
  clear hse
  have c5 : w.cell? ⟨g, 5, none⟩ = some (.int .i64 nd) := h.co 0
  have c6 : w.cell? ⟨g, 6, none⟩ = some (.int .u8 fb) := h.co 1
  have c7 : w.cell? ⟨g, 7, none⟩ = some (.int .u32 c) := h.co 2
  have c8 : w.cell? ⟨g, 8, none⟩ = some (.bool false) := h.co 3
  have f5 := h.fz 5
  have f6 := h.fz 6
  have f7 := h.fz 7
  have f8 := h.fz 8
  have H := Lib.hid h
  clear h
  go_enter Try.func37, Try.ntmps37
  go_wp2_with fail
  have hse := HSE.out
  refine (second_any b H.out).mono ?_
  rw [hse]
  rintro en w1 ⟨rfl, rfl⟩
  clear hse
  go_wp2_with fail
  go_ret
  exact ⟨rfl, ((H.out.set 3 _).set 2 _).set 0 _, Stp.mine ((((Kp.refl _ _).setg _ _).setg _ _).setg _ _)⟩
theorem next_all_false (b : Int) (hb0 : 0 ≤ b) (hb1 : b ≤ 255) (hl : xs.length + 1 ≤ 1073741824) (hc0 : 0 ≤ c) (hc1 : c ≤ 4194303) (hbl : 160 ≤ b) (hbh : b ≤ 191) (hse : secondF fb b = true) (h : Dec w g T a e f d v xs (own6 1 fb c false)) :
    Calls Try.prog 37 #[.pointer (some ⟨g, 0, none⟩), .int .u8 b] w fun en w' => en = .returned (.bool true) ∧ ∃ v', Dec w' g T a e f d v' (xs ++ [c * 32 + b % 32]) (own6 0 fb (c * 32 + b % 32) true) ∧ Stp w g v w' v' := by
  have hd : decide (b < (160 : Int)) = false := decide_eq_false (by omega)
  have hd2 : decide ((191 : Int) < b) = false := decide_eq_false (by omega)
  have hcat := cat6_at c b hc0 hc1 hb0 hb1
  rw [← hcat]
  clear hcat
  have hX : Go.bits .or .u32 (c * 32) (b % 32) = cat6 c b := rfl
  generalize cat6 c b = X at *
  have HX := Lib.hid hX
  clear hX
  have HSE := Lib.hid hse
  clear hse
  have c5 : w.cell? ⟨g, 5, none⟩ = some (.int .i64 1) := h.co 0
  have c6 : w.cell? ⟨g, 6, none⟩ = some (.int .u8 fb) := h.co 1
  have c7 : w.cell? ⟨g, 7, none⟩ = some (.int .u32 c) := h.co 2
  have c8 : w.cell? ⟨g, 8, none⟩ = some (.bool false) := h.co 3
  have f5 := h.fz 5
  have f6 := h.fz 6
  have f7 := h.fz 7
  have f8 := h.fz 8
  have H := Lib.hid h
  clear h
  go_enter Try.func37, Try.ntmps37
  go_wp2_with fail
  have hse := HSE.out
  refine (second_any b H.out).mono ?_
  rw [hse]
  rintro en w1 ⟨rfl, rfl⟩
  clear hse
  go_wp2_with fail
  rw [HX.out]
  have HW : Hid (Dec (((w.setCell ⟨g, 8, none⟩ (.bool true)).setCell ⟨g, 7, none⟩ (.int .u32 X)).setCell ⟨g, 5, none⟩ (.int .i64 0)) g T a e f d v xs (own6 0 fb X true)) := Lib.hid (((H.out.set 3 _).set 2 _).set 0 _)
  have HSW : Hid (Stp w g v (((w.setCell ⟨g, 8, none⟩ (.bool true)).setCell ⟨g, 7, none⟩ (.int .u32 X)).setCell ⟨g, 5, none⟩ (.int .i64 0)) v) := Lib.hid (Stp.mine ((((Kp.refl _ _).setg _ _).setg _ _).setg _ _))
  generalize (((w.setCell ⟨g, 8, none⟩ (.bool true)).setCell ⟨g, 7, none⟩ (.int .u32 X)).setCell ⟨g, 5, none⟩ (.int .i64 0)) = W1 at *
  clear c5 c6 c7 c8 f5 f6 f7 f8
  have c88 : W1.drew.cell? ⟨g, 7, none⟩ = some (.int .u32 X) := HW.out.co 2
  have f88 := HW.out.fz 7
  have cA : (W1.alloc (.cells #[.int .u32 X] 49)).drew.cell? ⟨g, 7, none⟩ = some (.int .u32 X) := ((HW.out.below (below_alloc (Below.refl _ _) (.cells #[.int .u32 X] 49))).drew).co 2
  have HDA : Hid (Dec (W1.alloc (.cells #[.int .u32 X] 49)).drew g T a e f d v xs (own6 0 fb X true)) := Lib.hid ((HW.out.below (below_alloc (Below.refl _ _) (.cells #[.int .u32 X] 49))).drew)
  have HRD : Hid (ReadsInt (W1.alloc (.cells #[.int .u32 X] 49)).drew .u32 (some ⟨W1.heap.size, 0, none⟩) 1 [X]) := Lib.hid (box_reads W1 X)
  go_region_held3 (fun w' => w'.cell? ⟨g, 7, none⟩ = some (.int .u32 X)) (first | assumption | go_keep) (first
    | (go_at_call 46; refine (dec_hold (m := 1) (ys := [X]) HRD.out hl HDA.out).mono ?_; rintro e w3 ⟨rfl, v1, hd3, hs3⟩; have HD3 := Lib.hid hd3; have HS3 := Lib.hid hs3; have c83 : w3.cell? ⟨g, 7, none⟩ = some (.int .u32 X) := hd3.co 2; have f83 := hd3.fz 7; clear hd3 hs3)
    | (fail))
  clear c88 cA
  go_wp2_with fail
  go_ret
  have h2 : Stp w g v (W1.alloc (.cells #[.int .u32 X] 49)).drew v := HSW.out.below ((((Kp.refl (fun _ => False) _).alloc _).drew).below (Nat.le_refl _) (fun _ h => h.elim))
  exact ⟨rfl, _, HD3.out, h2.trans HS3.out⟩
theorem next_none (s : CS) (b : Int) (hs : cok s) (hb0 : 0 ≤ b) (hb1 : b ≤ 255) (hl : xs.length + 1 ≤ 1073741824) (hn : cnx s b = none) (h : Dec w g T a e f d v xs (cown s)) :
    Calls Try.prog 37 #[.pointer (some ⟨g, 0, none⟩), .int .u8 b] w fun en w' => en = .returned (.bool false) ∧ ∃ s' v', Dec w' g T a e f d v' xs (cown s') ∧ Stp w g v w' v' := by
  obtain ⟨nd, fb, c, gone⟩ := s
  obtain ⟨h1, h2, h4, h5, h6, h7, h8, h10⟩ := hs
  simp only at h1 h2 h4 h5 h6 h7 h8 h10
  unfold cnx at hn
  simp only at hn
  split at hn
  · rename_i h0
    subst h0
    split at hn
    · cases hn
    · rename_i hb
      split at hn
      · cases hn
      · rename_i hbb
        exact (next_lead_no b hb0 hb1 hl (by omega) hbb h).mono fun en w' ⟨he, hd, hst⟩ => ⟨he, ⟨0, fb, c, gone⟩, _, hd, hst⟩
  · rename_i h0
    split at hn
    · rename_i hb
      by_cases hlo : b < 160
      · exact (next_out_lo (nd := nd) (fb := fb) (c := c) b hb0 hb1 hl (by omega) hlo h).mono fun en w' ⟨he, hd, hst⟩ => ⟨he, ⟨nd, fb, c, gone⟩, _, hd, hst⟩
      by_cases hhi : 191 < b
      · exact (next_out_hi (nd := nd) (fb := fb) (c := c) b hb0 hb1 hl (by omega) hhi h).mono fun en w' ⟨he, hd, hst⟩ => ⟨he, ⟨nd, fb, c, gone⟩, _, hd, hst⟩
      obtain ⟨rfl, hse⟩ : gone = false ∧ secondF fb b = false := by
        rcases hb with h9 | h9 | h9
        · exact absurd h9 hlo
        · exact absurd h9 hhi
        · exact h9
      exact (next_out_se (nd := nd) (fb := fb) (c := c) b hb0 hb1 hl (by omega) (by omega) (by omega) hse h).mono fun en w' ⟨he, hd, hst⟩ => ⟨he, ⟨nd, fb, c, false⟩, _, hd, hst⟩
    · split at hn <;> cases hn
theorem next_some (s s' : CS) (r : Option Int) (b : Int) (hs : cok s) (hb0 : 0 ≤ b) (hb1 : b ≤ 255) (hl : xs.length + 1 ≤ 1073741824) (hn : cnx s b = some (s', r)) (h : Dec w g T a e f d v xs (cown s)) :
    Calls Try.prog 37 #[.pointer (some ⟨g, 0, none⟩), .int .u8 b] w fun en w' => en = .returned (.bool true) ∧ ∃ v', Dec w' g T a e f d v' (xs ++ r.toList) (cown s') ∧ Stp w g v w' v' := by
  obtain ⟨nd, fb, c, gone⟩ := s
  obtain ⟨h1, h2, h4, h5, h6, h7, h8, h10⟩ := hs
  simp only at h1 h2 h4 h5 h6 h7 h8 h10
  unfold cnx at hn
  simp only at hn
  split at hn
  · rename_i h0
    subst h0
    split at hn
    · rename_i hb
      simp only [Option.some.injEq, Prod.mk.injEq] at hn
      obtain ⟨rfl, rfl⟩ := hn
      exact next_one b hb0 hb1 hl hb h
    · rename_i hb
      split at hn
      · rename_i hbb
        simp only [Option.some.injEq, Prod.mk.injEq] at hn
        obtain ⟨rfl, rfl⟩ := hn
        simp only [Option.toList, List.append_nil]
        exact (next_lead_ok b hb0 hb1 hl (by omega) hbb h).mono fun en w' ⟨he, hd, hst⟩ => ⟨he, _, hd, hst⟩
      · cases hn
  · rename_i h0
    split at hn
    · cases hn
    · rename_i hb
      have hse : gone = false → secondF fb b = true := by
        intro hg
        cases hx : secondF fb b with
        | true => rfl
        | false => exact absurd (.inr (.inr ⟨hg, hx⟩)) hb
      split at hn
      · rename_i hn1
        subst hn1
        simp only [Option.some.injEq, Prod.mk.injEq] at hn
        obtain ⟨rfl, rfl⟩ := hn
        cases gone with
        | true => exact next_all_true (fb := fb) (c := c) b hb0 hb1 hl h4 h5 (by omega) (by omega) h
        | false => exact next_all_false (fb := fb) (c := c) b hb0 hb1 hl h4 h5 (by omega) (by omega) (hse rfl) h
      · rename_i hn1
        simp only [Option.some.injEq, Prod.mk.injEq] at hn
        obtain ⟨rfl, rfl⟩ := hn
        simp only [Option.toList, List.append_nil]
        cases gone with
        | true => exact (next_on_true (nd := nd) (fb := fb) (c := c) b hb0 hb1 hl (by omega) (by omega) h4 h5 (by omega) (by omega) h).mono fun en w' ⟨he, hd, hst⟩ => ⟨he, _, hd, hst⟩
        | false => exact (next_on_false (nd := nd) (fb := fb) (c := c) b hb0 hb1 hl (by omega) (by omega) h4 h5 (by omega) (by omega) (hse rfl) h).mono fun en w' ⟨he, hd, hst⟩ => ⟨he, _, hd, hst⟩
end
end Go.Proofs.Ytolhfpboieimcaa
