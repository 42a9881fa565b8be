/- The machine of layer 6, byte by byte: the contracts of scalar.Is, lead, second, next. -/
import Derived.Test.YtcfpbihkodjlkaaDec
import Derived.OpenShut
import Derived.Lib.EndianBits
import Derived.Laws.BitsLemmas
import Derived.Laws.BitsAllLaws
import Derived.Deep.RegionHeld3
import Derived.Test.YtcfpbihkodjlkaaRun
import Derived.LoopTactic
import Derived.Test.YtcfpbihkodjlkaaMc
import Derived.Lib.ConvBytes
namespace Go.Proofs.Ytcfpbihkodjlkaa.M
open Go.RowKit Go.Proofs.YtcfpbihkodjlkaaW.PrintWords Go.Proofs.YtcfpbihkodjlkaaW.PrintMore
set_option linter.unusedVariables false
set_option linter.unusedSimpArgs false
variable {ext : List Value}
def isB (c : Int) : Bool := decide (c ≤ 1114111) && (decide (c < 55296) || decide (57343 < c))
theorem is_any (c : Int) (w : World) : Calls Try.prog 56 #[.int .u32 c] w fun en w' => en = .returned (.bool (isB c)) ∧ w = w' := by
  by_cases h1 : c ≤ 1114111
  · by_cases h2 : c < 55296
    · have e : isB c = true := by simp [isB, h1, h2]
      rw [e]
      go_enter Try.func56, Try.ntmps56
      go_wp2
      go_ret
      exact ⟨rfl, rfl⟩
    · by_cases h3 : 57343 < c
      · have e : isB c = true := by simp [isB, h1, h3]
        rw [e]
        go_enter Try.func56, Try.ntmps56
        go_wp2
        go_ret
        exact ⟨rfl, rfl⟩
      · have e : isB c = false := by simp [isB, h2, h3]
        rw [e]
        go_enter Try.func56, Try.ntmps56
        go_wp2
        go_ret
        exact ⟨rfl, rfl⟩
  · have e : isB c = false := by simp [isB, h1]
    rw [e]
    go_enter Try.func56, Try.ntmps56
    go_wp2
    go_ret
    exact ⟨rfl, rfl⟩
section
variable {w : World} {g T : Nat} {a e f : Int} {d : Bool} {v : Value} {xs : List Int} {nd fb c : Int} {gone : Bool}
abbrev own6 (nd fb c : Int) (gone : Bool) : List Value := [.int .i64 nd, .int .u8 fb, .int .u32 c, .bool gone]
theorem and3_at (x : Int) (h0 : 0 ≤ x) (h1 : x < 256) : Go.bits .and .u8 x 3 = x % 4 := by
  rw [u8_and x 3 h0 h1 (by omega) (by omega), show (3 : Int).toNat = 2 ^ 2 - 1 from rfl, Nat.and_two_pow_sub_one_eq_mod]
  omega
theorem lead_n1 (b : Int) (hb0 : 0 ≤ b) (hb : b < 197) (h : Dec w g T a e f d v xs (own6 nd fb c gone ++ ext)) :
    Calls Try.prog 63 #[.pointer (some ⟨g, 0, none⟩), .int .u8 b] w fun en w' => en = .returned (.bool false) ∧ Dec w' g T a e f d v xs (own6 nd fb c gone ++ ext) ∧ Stp w g v w' v := by
  have g197 : decide ((197 : Int) ≤ b) = false := decide_eq_false (by omega)
  have g225 : decide ((225 : Int) ≤ b) = false := decide_eq_false (by omega)
  have g240 : decide ((240 : Int) ≤ b) = false := decide_eq_false (by omega)
  have e248 : (b == 248) = false := by simp; omega
  have e249 : (b == 249) = false := by simp; omega
  have c5 : w.cell? ⟨g, 5, none⟩ = some (.int .i64 nd) := h.co 0
  have c6 : w.cell? ⟨g, 6, none⟩ = some (.int .u8 fb) := h.co 1
  have c7 : w.cell? ⟨g, 7, none⟩ = some (.int .u32 c) := h.co 2
  have c8 : w.cell? ⟨g, 8, none⟩ = some (.bool gone) := h.co 3
  have f5 := h.fz 5
  have f6 := h.fz 6
  have f7 := h.fz 7
  have f8 := h.fz 8
  have H := Lib.hid h
  clear h
  go_enter Try.func63, Try.ntmps63
  go_wp2_with fail
  go_ret
  exact ⟨rfl, H.out, Stp.refl _ _ _⟩
theorem lead_n2 (b : Int) (hb : b = 224) (h : Dec w g T a e f d v xs (own6 nd fb c gone ++ ext)) :
    Calls Try.prog 63 #[.pointer (some ⟨g, 0, none⟩), .int .u8 b] w fun en w' => en = .returned (.bool false) ∧ Dec w' g T a e f d v xs (own6 nd fb c gone ++ ext) ∧ Stp w g v w' v := by
  subst hb
  have c5 : w.cell? ⟨g, 5, none⟩ = some (.int .i64 nd) := h.co 0
  have c6 : w.cell? ⟨g, 6, none⟩ = some (.int .u8 fb) := h.co 1
  have c7 : w.cell? ⟨g, 7, none⟩ = some (.int .u32 c) := h.co 2
  have c8 : w.cell? ⟨g, 8, none⟩ = some (.bool gone) := h.co 3
  have f5 := h.fz 5
  have f6 := h.fz 6
  have f7 := h.fz 7
  have f8 := h.fz 8
  have H := Lib.hid h
  clear h
  go_enter Try.func63, Try.ntmps63
  go_wp2_with fail
  go_ret
  exact ⟨rfl, H.out, Stp.refl _ _ _⟩
theorem lead_n3 (b : Int) (hb0 : 250 ≤ b) (hb : b ≤ 255) (h : Dec w g T a e f d v xs (own6 nd fb c gone ++ ext)) :
    Calls Try.prog 63 #[.pointer (some ⟨g, 0, none⟩), .int .u8 b] w fun en w' => en = .returned (.bool false) ∧ Dec w' g T a e f d v xs (own6 nd fb c gone ++ ext) ∧ Stp w g v w' v := by
  have g197 : decide ((197 : Int) ≤ b) = true := decide_eq_true (by omega)
  have l223 : decide (b ≤ (223 : Int)) = false := decide_eq_false (by omega)
  have g225 : decide ((225 : Int) ≤ b) = true := decide_eq_true (by omega)
  have l239 : decide (b ≤ (239 : Int)) = false := decide_eq_false (by omega)
  have g240 : decide ((240 : Int) ≤ b) = true := decide_eq_true (by omega)
  have l247 : decide (b ≤ (247 : Int)) = false := decide_eq_false (by omega)
  have e248 : (b == 248) = false := by simp; omega
  have e249 : (b == 249) = false := by simp; omega
  have c5 : w.cell? ⟨g, 5, none⟩ = some (.int .i64 nd) := h.co 0
  have c6 : w.cell? ⟨g, 6, none⟩ = some (.int .u8 fb) := h.co 1
  have c7 : w.cell? ⟨g, 7, none⟩ = some (.int .u32 c) := h.co 2
  have c8 : w.cell? ⟨g, 8, none⟩ = some (.bool gone) := h.co 3
  have f5 := h.fz 5
  have f6 := h.fz 6
  have f7 := h.fz 7
  have f8 := h.fz 8
  have H := Lib.hid h
  clear h
  go_enter Try.func63, Try.ntmps63
  go_wp2_with fail
  go_ret
  exact ⟨rfl, H.out, Stp.refl _ _ _⟩
theorem lead_1 (b : Int) (hb0 : 197 ≤ b) (hb : b ≤ 223) (h : Dec w g T a e f d v xs (own6 nd fb c gone ++ ext)) :
    Calls Try.prog 63 #[.pointer (some ⟨g, 0, none⟩), .int .u8 b] w fun en w' => en = .returned (.bool true) ∧ Dec w' g T a e f d v xs (own6 1 b (b % 32) false ++ ext) ∧ Stp w g v w' v := by
  have g197 : decide ((197 : Int) ≤ b) = true := decide_eq_true (by omega)
  have l223 : decide (b ≤ (223 : Int)) = true := decide_eq_true (by omega)
  have c5 : w.cell? ⟨g, 5, none⟩ = some (.int .i64 nd) := h.co 0
  have c6 : w.cell? ⟨g, 6, none⟩ = some (.int .u8 fb) := h.co 1
  have c7 : w.cell? ⟨g, 7, none⟩ = some (.int .u32 c) := h.co 2
  have c8 : w.cell? ⟨g, 8, none⟩ = some (.bool gone) := h.co 3
  have f5 := h.fz 5
  have f6 := h.fz 6
  have f7 := h.fz 7
  have f8 := h.fz 8
  have H := Lib.hid h
  clear h
  go_enter Try.func63, Try.ntmps63
  go_wp2_with fail
  go_ret
  exact ⟨rfl, (((H.out.set 0 _).set 2 _).set 1 _).set 3 _, Stp.mine (((((Kp.refl _ _).setg _ _).setg _ _).setg _ _).setg _ _)⟩
theorem lead_2 (b : Int) (hb0 : 225 ≤ b) (hb : b ≤ 239) (h : Dec w g T a e f d v xs (own6 nd fb c gone ++ ext)) :
    Calls Try.prog 63 #[.pointer (some ⟨g, 0, none⟩), .int .u8 b] w fun en w' => en = .returned (.bool true) ∧ Dec w' g T a e f d v xs (own6 2 b (b % 16) false ++ ext) ∧ Stp w g v w' v := by
  have g197 : decide ((197 : Int) ≤ b) = true := decide_eq_true (by omega)
  have l223 : decide (b ≤ (223 : Int)) = false := decide_eq_false (by omega)
  have g225 : decide ((225 : Int) ≤ b) = true := decide_eq_true (by omega)
  have l239 : decide (b ≤ (239 : Int)) = true := decide_eq_true (by omega)
  have c5 : w.cell? ⟨g, 5, none⟩ = some (.int .i64 nd) := h.co 0
  have c6 : w.cell? ⟨g, 6, none⟩ = some (.int .u8 fb) := h.co 1
  have c7 : w.cell? ⟨g, 7, none⟩ = some (.int .u32 c) := h.co 2
  have c8 : w.cell? ⟨g, 8, none⟩ = some (.bool gone) := h.co 3
  have f5 := h.fz 5
  have f6 := h.fz 6
  have f7 := h.fz 7
  have f8 := h.fz 8
  have H := Lib.hid h
  clear h
  go_enter Try.func63, Try.ntmps63
  go_wp2_with fail
  go_ret
  exact ⟨rfl, (((H.out.set 0 _).set 2 _).set 1 _).set 3 _, Stp.mine (((((Kp.refl _ _).setg _ _).setg _ _).setg _ _).setg _ _)⟩
theorem lead_3 (b : Int) (hb0 : 240 ≤ b) (hb : b ≤ 247) (h : Dec w g T a e f d v xs (own6 nd fb c gone ++ ext)) :
    Calls Try.prog 63 #[.pointer (some ⟨g, 0, none⟩), .int .u8 b] w fun en w' => en = .returned (.bool true) ∧ Dec w' g T a e f d v xs (own6 3 b (b % 8) false ++ ext) ∧ Stp w g v w' v := by
  have g197 : decide ((197 : Int) ≤ b) = true := decide_eq_true (by omega)
  have l223 : decide (b ≤ (223 : Int)) = false := decide_eq_false (by omega)
  have g225 : decide ((225 : Int) ≤ b) = true := decide_eq_true (by omega)
  have l239 : decide (b ≤ (239 : Int)) = false := decide_eq_false (by omega)
  have g240 : decide ((240 : Int) ≤ b) = true := decide_eq_true (by omega)
  have l247 : decide (b ≤ (247 : Int)) = true := decide_eq_true (by omega)
  have c5 : w.cell? ⟨g, 5, none⟩ = some (.int .i64 nd) := h.co 0
  have c6 : w.cell? ⟨g, 6, none⟩ = some (.int .u8 fb) := h.co 1
  have c7 : w.cell? ⟨g, 7, none⟩ = some (.int .u32 c) := h.co 2
  have c8 : w.cell? ⟨g, 8, none⟩ = some (.bool gone) := h.co 3
  have f5 := h.fz 5
  have f6 := h.fz 6
  have f7 := h.fz 7
  have f8 := h.fz 8
  have H := Lib.hid h
  clear h
  go_enter Try.func63, Try.ntmps63
  go_wp2_with fail
  go_ret
  exact ⟨rfl, (((H.out.set 0 _).set 2 _).set 1 _).set 3 _, Stp.mine (((((Kp.refl _ _).setg _ _).setg _ _).setg _ _).setg _ _)⟩
theorem lead_4 (b : Int) (hb : b = 248) (h : Dec w g T a e f d v xs (own6 nd fb c gone ++ ext)) :
    Calls Try.prog 63 #[.pointer (some ⟨g, 0, none⟩), .int .u8 b] w fun en w' => en = .returned (.bool true) ∧ Dec w' g T a e f d v xs (own6 4 248 0 false ++ ext) ∧ Stp w g v w' v := by
  subst hb
  have c5 : w.cell? ⟨g, 5, none⟩ = some (.int .i64 nd) := h.co 0
  have c6 : w.cell? ⟨g, 6, none⟩ = some (.int .u8 fb) := h.co 1
  have c7 : w.cell? ⟨g, 7, none⟩ = some (.int .u32 c) := h.co 2
  have c8 : w.cell? ⟨g, 8, none⟩ = some (.bool gone) := h.co 3
  have f5 := h.fz 5
  have f6 := h.fz 6
  have f7 := h.fz 7
  have f8 := h.fz 8
  have H := Lib.hid h
  clear h
  go_enter Try.func63, Try.ntmps63
  go_wp2_with fail
  go_ret
  exact ⟨rfl, (((H.out.set 0 _).set 2 _).set 1 _).set 3 _, Stp.mine (((((Kp.refl _ _).setg _ _).setg _ _).setg _ _).setg _ _)⟩
theorem lead_5 (b : Int) (hb : b = 249) (h : Dec w g T a e f d v xs (own6 nd fb c gone ++ ext)) :
    Calls Try.prog 63 #[.pointer (some ⟨g, 0, none⟩), .int .u8 b] w fun en w' => en = .returned (.bool true) ∧ Dec w' g T a e f d v xs (own6 4 249 1 false ++ ext) ∧ Stp w g v w' v := by
  subst hb
  have c5 : w.cell? ⟨g, 5, none⟩ = some (.int .i64 nd) := h.co 0
  have c6 : w.cell? ⟨g, 6, none⟩ = some (.int .u8 fb) := h.co 1
  have c7 : w.cell? ⟨g, 7, none⟩ = some (.int .u32 c) := h.co 2
  have c8 : w.cell? ⟨g, 8, none⟩ = some (.bool gone) := h.co 3
  have f5 := h.fz 5
  have f6 := h.fz 6
  have f7 := h.fz 7
  have f8 := h.fz 8
  have H := Lib.hid h
  clear h
  go_enter Try.func63, Try.ntmps63
  go_wp2_with fail
  go_ret
  exact ⟨rfl, (((H.out.set 0 _).set 2 _).set 1 _).set 3 _, Stp.mine (((((Kp.refl _ _).setg _ _).setg _ _).setg _ _).setg _ _)⟩
/-- May this be the second byte, behind this first one? -/
def secondF (fb b : Int) : Bool := if fb = 240 then decide (176 ≤ b) else if fb = 241 then (b != 182 && b != 183) else if fb = 248 then decide (168 ≤ b) else if fb = 249 then decide (b ≤ 161) else true
theorem second_any (b : Int) (h : Dec w g T a e f d v xs (own6 nd fb c gone ++ ext)) :
    Calls Try.prog 64 #[.pointer (some ⟨g, 0, none⟩), .int .u8 b] w fun en w' => en = .returned (.bool (secondF fb b)) ∧ w = w' := by
  have c6 : w.cell? ⟨g, 6, none⟩ = some (.int .u8 fb) := h.co 1
  clear h
  by_cases h1 : fb = 240
  · subst h1
    rw [show secondF 240 b = decide (176 ≤ b) from rfl]
    go_enter Try.func64, Try.ntmps64
    go_wp2_with fail
    go_ret
    exact ⟨rfl, rfl⟩
  by_cases h2 : fb = 241
  · subst h2
    rw [show secondF 241 b = (b != 182 && b != 183) from rfl]
    go_enter Try.func64, Try.ntmps64
    go_wp2_with fail
    all_goals go_ret
    all_goals first | exact ⟨rfl, rfl⟩ | exact ⟨by simp [*], rfl⟩
  by_cases h3 : fb = 248
  · subst h3
    rw [show secondF 248 b = decide (168 ≤ b) from rfl]
    go_enter Try.func64, Try.ntmps64
    go_wp2_with fail
    go_ret
    exact ⟨rfl, rfl⟩
  by_cases h4 : fb = 249
  · subst h4
    rw [show secondF 249 b = decide (b ≤ 161) from rfl]
    go_enter Try.func64, Try.ntmps64
    go_wp2_with fail
    go_ret
    exact ⟨rfl, rfl⟩
  have e : secondF fb b = true := by unfold secondF; rw [if_neg h1, if_neg h2, if_neg h3, if_neg h4]
  rw [e]
  have k1 : (fb == 240) = false := by simpa using h1
  have k2 : (fb == 241) = false := by simpa using h2
  have k3 : (fb == 248) = false := by simpa using h3
  have k4 : (fb == 249) = false := by simpa using h4
  clear h1 h2 h3 h4 e
  go_enter Try.func64, Try.ntmps64
  go_wp2_with fail
  go_ret
  exact ⟨rfl, rfl⟩
/-! ### The machine's own state, and one byte -/
structure CS where
  nd : Int
  fb : Int
  c : Int
  gone : Bool
def cown (s : CS) : List Value := own6 s.nd s.fb s.c s.gone
def cok (s : CS) : Prop := (0 ≤ s.nd ∧ s.nd ≤ 4) ∧ (0 ≤ s.fb ∧ s.fb ≤ 255) ∧ 0 ≤ s.c ∧ s.c ≤ 4194303 ∧ (s.nd = 1 → s.c ≤ 131071) ∧ (s.nd = 2 → s.c ≤ 4095) ∧ (s.nd = 3 → s.c ≤ 127) ∧ (s.nd = 4 → s.c ≤ 3)
/-- Is it a first byte of several? -/
def isLead (b : Int) : Prop := (197 ≤ b ∧ b ≤ 223) ∨ (225 ≤ b ∧ b ≤ 249)
instance (b : Int) : Decidable (isLead b) := by unfold isLead; exact inferInstance
/-- The state behind a first byte of several. -/
def leadF (b : Int) : CS := if b < 224 then ⟨1, b, b % 32, false⟩ else if b < 240 then ⟨2, b, b % 16, false⟩ else if b < 248 then ⟨3, b, b % 8, false⟩ else ⟨4, b, b % 4, false⟩
def cnx (s : CS) (b : Int) : Option (CS × Option Int) :=
  if s.nd = 0 then (if b < 160 then some (s, some b) else if isLead b then some (leadF b, none) else none)
  else if b < 160 ∨ 191 < b ∨ (s.gone = false ∧ secondF s.fb b = false) then none
  else if s.nd = 1 then some (⟨0, s.fb, s.c * 32 + b % 32, true⟩, some (s.c * 32 + b % 32)) else some (⟨s.nd - 1, s.fb, s.c * 32 + b % 32, true⟩, none)
/-- Does something wait, so that an end cuts it? -/
def ccut (s : CS) : Bool := decide (s.nd > 0)
theorem leadF_ok {b : Int} (h : isLead b) : cok (leadF b) := by
  unfold isLead at h
  unfold leadF cok
  (repeat' split) <;> simp only <;> omega
theorem lead_any (b : Int) (hb0 : 0 ≤ b) (hb1 : b ≤ 255) (h : Dec w g T a e f d v xs (own6 nd fb c gone ++ ext)) :
    Calls Try.prog 63 #[.pointer (some ⟨g, 0, none⟩), .int .u8 b] w fun en w' => (¬ isLead b ∧ en = .returned (.bool false) ∧ Dec w' g T a e f d v xs (own6 nd fb c gone ++ ext) ∧ Stp w g v w' v) ∨ (isLead b ∧ en = .returned (.bool true) ∧ Dec w' g T a e f d v xs (cown (leadF b) ++ ext) ∧ Stp w g v w' v) := by
  by_cases h1 : b < 197
  · exact (lead_n1 b hb0 h1 h).mono fun en w' h9 => .inl ⟨by unfold isLead; omega, h9⟩
  by_cases h2 : b < 224
  · have e : cown (leadF b) = own6 1 b (b % 32) false := by unfold leadF; rw [if_pos h2]; rfl
    rw [e]
    exact (lead_1 b (by omega) (by omega) h).mono fun en w' h9 => .inr ⟨by unfold isLead; omega, h9⟩
  by_cases h3 : b = 224
  · exact (lead_n2 b h3 h).mono fun en w' h9 => .inl ⟨by unfold isLead; omega, h9⟩
  by_cases h4 : b < 240
  · have e : cown (leadF b) = own6 2 b (b % 16) false := by unfold leadF; rw [if_neg h2, if_pos h4]; rfl
    rw [e]
    exact (lead_2 b (by omega) (by omega) h).mono fun en w' h9 => .inr ⟨by unfold isLead; omega, h9⟩
  by_cases h5 : b < 248
  · have e : cown (leadF b) = own6 3 b (b % 8) false := by unfold leadF; rw [if_neg h2, if_neg h4, if_pos h5]; rfl
    rw [e]
    exact (lead_3 b (by omega) (by omega) h).mono fun en w' h9 => .inr ⟨by unfold isLead; omega, h9⟩
  by_cases h6 : b = 248
  · have e : cown (leadF b) = own6 4 248 0 false := by subst h6; rfl
    rw [e]
    exact (lead_4 b h6 h).mono fun en w' h9 => .inr ⟨by unfold isLead; omega, h9⟩
  by_cases h7 : b = 249
  · have e : cown (leadF b) = own6 4 249 1 false := by subst h7; rfl
    rw [e]
    exact (lead_5 b h7 h).mono fun en w' h9 => .inr ⟨by unfold isLead; omega, h9⟩
  exact (lead_n3 b (by omega) hb1 h).mono fun en w' h9 => .inl ⟨by unfold isLead; omega, h9⟩
theorem cnx_ok {s s' : CS} {b : Int} {r : Option Int} (hs : cok s) (h : cnx s b = some (s', r)) : cok s' := by
  have h9 := hs
  obtain ⟨h1, h2, h4, h5, h6, h7, h8, h10⟩ := hs
  unfold cnx at h
  split at h
  · split at h
    · simp only [Option.some.injEq, Prod.mk.injEq] at h
      obtain ⟨rfl, _⟩ := h
      exact h9
    · split at h
      · rename_i hl
        simp only [Option.some.injEq, Prod.mk.injEq] at h
        obtain ⟨rfl, _⟩ := h
        exact leadF_ok hl
      · cases h
  · split at h
    · cases h
    · split at h
      · simp only [Option.some.injEq, Prod.mk.injEq] at h
        obtain ⟨rfl, _⟩ := h
        unfold cok
        simp only
        omega
      · simp only [Option.some.injEq, Prod.mk.injEq] at h
        obtain ⟨rfl, _⟩ := h
        unfold cok
        simp only
        omega
/-- The bits of one byte more. -/
def cat6 (c b : Int) : Int := Go.bits .or .u32 (c * 32) (b % 32)
theorem cat6_at (c b : Int) (hc0 : 0 ≤ c) (hc1 : c ≤ 4194303) (hb0 : 0 ≤ b) (hb1 : b ≤ 255) : cat6 c b = c * 32 + b % 32 := by
  unfold cat6
  rw [u32_or _ _ (by omega) (by omega) (by omega) (by omega), nat_join5 _ _ (by omega) (by omega)]
  omega
theorem next_one (b : Int) (hb0 : 0 ≤ b) (hb1 : b ≤ 255) (hl : xs.length + 1 ≤ 1073741824) (hb : b < 160) (h : Dec w g T a e f d v xs (own6 0 fb c gone ++ ext)) :
    Calls Try.prog 48 #[.pointer (some ⟨g, 0, none⟩), .int .u8 b] w fun en w' => en = .returned (.bool true) ∧ ∃ v', Dec w' g T a e f d v' (xs ++ [b]) (own6 0 fb c gone ++ ext) ∧ Stp w g v w' v' := by
  have hd : decide (b < (160 : Int)) = true := decide_eq_true hb
  have c5 : w.cell? ⟨g, 5, none⟩ = some (.int .i64 0) := h.co 0
  have c6 : w.cell? ⟨g, 6, none⟩ = some (.int .u8 fb) := h.co 1
  have c7 : w.cell? ⟨g, 7, none⟩ = some (.int .u32 c) := h.co 2
  have c8 : w.cell? ⟨g, 8, none⟩ = some (.bool gone) := h.co 3
  have f5 := h.fz 5
  have f6 := h.fz 6
  have f7 := h.fz 7
  have f8 := h.fz 8
  have H := Lib.hid h
  clear h
  go_enter Try.func48, Try.ntmps48
  go_wp2_with fail
  refine (dec_hold_one b rfl hl H.out).mono ?_
  rintro en w1 ⟨rfl, v1, hd1', hs1⟩
  have HD1 := Lib.hid hd1'
  have HS1 := Lib.hid hs1
  clear hd1' hs1
  go_wp2_with fail
  go_ret
  exact ⟨rfl, _, HD1.out, HS1.out⟩
theorem next_lead_no (b : Int) (hb0 : 0 ≤ b) (hb1 : b ≤ 255) (hl : xs.length + 1 ≤ 1073741824) (hb : 160 ≤ b) (hbb : ¬ isLead b) (h : Dec w g T a e f d v xs (own6 0 fb c gone ++ ext)) :
    Calls Try.prog 48 #[.pointer (some ⟨g, 0, none⟩), .int .u8 b] w fun en w' => en = .returned (.bool false) ∧ Dec w' g T a e f d v xs (own6 0 fb c gone ++ ext) ∧ Stp w g v w' v := by
  have hd : decide (b < (160 : Int)) = false := decide_eq_false (by omega)
  have c5 : w.cell? ⟨g, 5, none⟩ = some (.int .i64 0) := h.co 0
  have c6 : w.cell? ⟨g, 6, none⟩ = some (.int .u8 fb) := h.co 1
  have c7 : w.cell? ⟨g, 7, none⟩ = some (.int .u32 c) := h.co 2
  have c8 : w.cell? ⟨g, 8, none⟩ = some (.bool gone) := h.co 3
  have f5 := h.fz 5
  have f6 := h.fz 6
  have f7 := h.fz 7
  have f8 := h.fz 8
  have H := Lib.hid h
  clear h
  have HBB := Lib.hid hbb
  clear hbb
  go_enter Try.func48, Try.ntmps48
  go_wp2_with fail
  refine (lead_any b hb0 hb1 H.out).mono ?_
  rintro en w1 h1
  rcases h1 with ⟨h2, rfl, h3, h4⟩ | ⟨h2, rfl, h3, h4⟩
  · have HD1 := Lib.hid h3
    have HS1 := Lib.hid h4
    clear h2 h3 h4
    go_wp2_with fail
    go_ret
    exact ⟨rfl, HD1.out, HS1.out⟩
  · exact absurd h2 HBB.out
theorem next_lead_ok (b : Int) (hb0 : 0 ≤ b) (hb1 : b ≤ 255) (hl : xs.length + 1 ≤ 1073741824) (hb : 160 ≤ b) (hbb : isLead b) (h : Dec w g T a e f d v xs (own6 0 fb c gone ++ ext)) :
    Calls Try.prog 48 #[.pointer (some ⟨g, 0, none⟩), .int .u8 b] w fun en w' => en = .returned (.bool true) ∧ Dec w' g T a e f d v xs (cown (leadF b) ++ ext) ∧ Stp w g v w' v := by
  have hd : decide (b < (160 : Int)) = false := decide_eq_false (by omega)
  have c5 : w.cell? ⟨g, 5, none⟩ = some (.int .i64 0) := h.co 0
  have c6 : w.cell? ⟨g, 6, none⟩ = some (.int .u8 fb) := h.co 1
  have c7 : w.cell? ⟨g, 7, none⟩ = some (.int .u32 c) := h.co 2
  have c8 : w.cell? ⟨g, 8, none⟩ = some (.bool gone) := h.co 3
  have f5 := h.fz 5
  have f6 := h.fz 6
  have f7 := h.fz 7
  have f8 := h.fz 8
  have H := Lib.hid h
  clear h
  have HBB := Lib.hid hbb
  clear hbb
  go_enter Try.func48, Try.ntmps48
  go_wp2_with fail
  refine (lead_any b hb0 hb1 H.out).mono ?_
  rintro en w1 h1
  rcases h1 with ⟨h2, rfl, h3, h4⟩ | ⟨h2, rfl, h3, h4⟩
  · exact absurd HBB.out h2
  · have HD1 := Lib.hid h3
    have HS1 := Lib.hid h4
    clear h2 h3 h4
    go_wp2_with fail
    go_ret
    exact ⟨rfl, HD1.out, HS1.out⟩
theorem next_out_lo (b : Int) (hb0 : 0 ≤ b) (hb1 : b ≤ 255) (hl : xs.length + 1 ≤ 1073741824) (hn : 1 ≤ nd) (hb : b < 160) (h : Dec w g T a e f d v xs (own6 nd fb c gone ++ ext)) :
    Calls Try.prog 48 #[.pointer (some ⟨g, 0, none⟩), .int .u8 b] w fun en w' => en = .returned (.bool false) ∧ Dec w' g T a e f d v xs (own6 nd fb c gone ++ ext) ∧ Stp w g v w' v := by
  have hn0 : (nd == 0) = false := by simp; omega
  have hd : decide (b < (160 : Int)) = true := decide_eq_true hb
  have c5 : w.cell? ⟨g, 5, none⟩ = some (.int .i64 nd) := h.co 0
  have c6 : w.cell? ⟨g, 6, none⟩ = some (.int .u8 fb) := h.co 1
  have c7 : w.cell? ⟨g, 7, none⟩ = some (.int .u32 c) := h.co 2
  have c8 : w.cell? ⟨g, 8, none⟩ = some (.bool gone) := h.co 3
  have f5 := h.fz 5
  have f6 := h.fz 6
  have f7 := h.fz 7
  have f8 := h.fz 8
  have H := Lib.hid h
  clear h
  go_enter Try.func48, Try.ntmps48
  go_wp2_with fail
  go_ret
  exact ⟨rfl, H.out, Stp.refl _ _ _⟩
theorem next_out_hi (b : Int) (hb0 : 0 ≤ b) (hb1 : b ≤ 255) (hl : xs.length + 1 ≤ 1073741824) (hn : 1 ≤ nd) (hb : 191 < b) (h : Dec w g T a e f d v xs (own6 nd fb c gone ++ ext)) :
    Calls Try.prog 48 #[.pointer (some ⟨g, 0, none⟩), .int .u8 b] w fun en w' => en = .returned (.bool false) ∧ Dec w' g T a e f d v xs (own6 nd fb c gone ++ ext) ∧ Stp w g v w' v := by
  have hn0 : (nd == 0) = false := by simp; omega
  have hd : decide (b < (160 : Int)) = false := decide_eq_false (by omega)
  have hd2 : decide ((191 : Int) < b) = true := decide_eq_true hb
  have c5 : w.cell? ⟨g, 5, none⟩ = some (.int .i64 nd) := h.co 0
  have c6 : w.cell? ⟨g, 6, none⟩ = some (.int .u8 fb) := h.co 1
  have c7 : w.cell? ⟨g, 7, none⟩ = some (.int .u32 c) := h.co 2
  have c8 : w.cell? ⟨g, 8, none⟩ = some (.bool gone) := h.co 3
  have f5 := h.fz 5
  have f6 := h.fz 6
  have f7 := h.fz 7
  have f8 := h.fz 8
  have H := Lib.hid h
  clear h
  go_enter Try.func48, Try.ntmps48
  go_wp2_with fail
  go_ret
  exact ⟨rfl, H.out, Stp.refl _ _ _⟩
theorem next_out_se (b : Int) (hb0 : 0 ≤ b) (hb1 : b ≤ 255) (hl : xs.length + 1 ≤ 1073741824) (hn : 1 ≤ nd) (hbl : 160 ≤ b) (hbh : b ≤ 191) (hse : secondF fb b = false) (h : Dec w g T a e f d v xs (own6 nd fb c false ++ ext)) :
    Calls Try.prog 48 #[.pointer (some ⟨g, 0, none⟩), .int .u8 b] w fun en w' => en = .returned (.bool false) ∧ Dec w' g T a e f d v xs (own6 nd fb c false ++ ext) ∧ Stp w g v w' v := by
  have hn0 : (nd == 0) = false := by simp; omega
  have hd : decide (b < (160 : Int)) = false := decide_eq_false (by omega)
  have hd2 : decide ((191 : Int) < b) = false := decide_eq_false (by omega)
  have c5 : w.cell? ⟨g, 5, none⟩ = some (.int .i64 nd) := h.co 0
  have c6 : w.cell? ⟨g, 6, none⟩ = some (.int .u8 fb) := h.co 1
  have c7 : w.cell? ⟨g, 7, none⟩ = some (.int .u32 c) := h.co 2
  have c8 : w.cell? ⟨g, 8, none⟩ = some (.bool false) := h.co 3
  have f5 := h.fz 5
  have f6 := h.fz 6
  have f7 := h.fz 7
  have f8 := h.fz 8
  have H := Lib.hid h
  clear h
  have HSE := Lib.hid hse
  clear hse
  go_enter Try.func48, Try.ntmps48
  go_wp2_with fail
  have hse := HSE.out
  refine (second_any b H.out).mono ?_
  rw [hse]
  rintro en w1 ⟨rfl, rfl⟩
  clear hse
  go_wp2_with fail
  go_ret
  exact ⟨rfl, H.out, Stp.refl _ _ _⟩
theorem next_on_true (b : Int) (hb0 : 0 ≤ b) (hb1 : b ≤ 255) (hl : xs.length + 1 ≤ 1073741824) (hn : 2 ≤ nd) (hn3 : nd ≤ 4) (hc0 : 0 ≤ c) (hc1 : c ≤ 4194303) (hbl : 160 ≤ b) (hbh : b ≤ 191) (h : Dec w g T a e f d v xs (own6 nd fb c true ++ ext)) :
    Calls Try.prog 48 #[.pointer (some ⟨g, 0, none⟩), .int .u8 b] w fun en w' => en = .returned (.bool true) ∧ Dec w' g T a e f d v xs (own6 (nd - 1) fb (c * 32 + b % 32) true ++ ext) ∧ Stp w g v w' v := by
  have hn0 : (nd == 0) = false := by simp; omega
  have hn1 : (nd - 1 == 0) = false := by simp; omega
  have hd : decide (b < (160 : Int)) = false := decide_eq_false (by omega)
  have hd2 : decide ((191 : Int) < b) = false := decide_eq_false (by omega)
  have hcat := cat6_at c b hc0 hc1 hb0 hb1
  rw [← hcat]
  clear hcat
  have hX : Go.bits .or .u32 (c * 32) (b % 32) = cat6 c b := rfl
  generalize cat6 c b = X at *
  subst hX
  have c5 : w.cell? ⟨g, 5, none⟩ = some (.int .i64 nd) := h.co 0
  have c6 : w.cell? ⟨g, 6, none⟩ = some (.int .u8 fb) := h.co 1
  have c7 : w.cell? ⟨g, 7, none⟩ = some (.int .u32 c) := h.co 2
  have c8 : w.cell? ⟨g, 8, none⟩ = some (.bool true) := h.co 3
  have f5 := h.fz 5
  have f6 := h.fz 6
  have f7 := h.fz 7
  have f8 := h.fz 8
  have H := Lib.hid h
  clear h
  go_enter Try.func48, Try.ntmps48
  go_wp2_with fail
  go_ret
  exact ⟨rfl, ((H.out.set 3 _).set 2 _).set 0 _, Stp.mine ((((Kp.refl _ _).setg _ _).setg _ _).setg _ _)⟩
theorem next_all_true (b : Int) (hb0 : 0 ≤ b) (hb1 : b ≤ 255) (hl : xs.length + 1 ≤ 1073741824) (hc0 : 0 ≤ c) (hc1 : c ≤ 4194303) (hbl : 160 ≤ b) (hbh : b ≤ 191) (h : Dec w g T a e f d v xs (own6 1 fb c true ++ ext)) :
    Calls Try.prog 48 #[.pointer (some ⟨g, 0, none⟩), .int .u8 b] w fun en w' => en = .returned (.bool true) ∧ ∃ v', Dec w' g T a e f d v' (xs ++ [c * 32 + b % 32]) (own6 0 fb (c * 32 + b % 32) true ++ ext) ∧ Stp w g v w' v' := by
  have hd : decide (b < (160 : Int)) = false := decide_eq_false (by omega)
  have hd2 : decide ((191 : Int) < b) = false := decide_eq_false (by omega)
  have hcat := cat6_at c b hc0 hc1 hb0 hb1
  rw [← hcat]
  clear hcat
  have hX : Go.bits .or .u32 (c * 32) (b % 32) = cat6 c b := rfl
  generalize cat6 c b = X at *
  have HX := Lib.hid hX
  clear hX
  have c5 : w.cell? ⟨g, 5, none⟩ = some (.int .i64 1) := h.co 0
  have c6 : w.cell? ⟨g, 6, none⟩ = some (.int .u8 fb) := h.co 1
  have c7 : w.cell? ⟨g, 7, none⟩ = some (.int .u32 c) := h.co 2
  have c8 : w.cell? ⟨g, 8, none⟩ = some (.bool true) := h.co 3
  have f5 := h.fz 5
  have f6 := h.fz 6
  have f7 := h.fz 7
  have f8 := h.fz 8
  have H := Lib.hid h
  clear h
  go_enter Try.func48, Try.ntmps48
  go_wp2_with fail
  rw [HX.out]
  have HW : Hid (Dec (((w.setCell ⟨g, 8, none⟩ (.bool true)).setCell ⟨g, 7, none⟩ (.int .u32 X)).setCell ⟨g, 5, none⟩ (.int .i64 0)) g T a e f d v xs (own6 0 fb X true ++ ext)) := Lib.hid (((H.out.set 3 _).set 2 _).set 0 _)
  have HSW : Hid (Stp w g v (((w.setCell ⟨g, 8, none⟩ (.bool true)).setCell ⟨g, 7, none⟩ (.int .u32 X)).setCell ⟨g, 5, none⟩ (.int .i64 0)) v) := Lib.hid (Stp.mine ((((Kp.refl _ _).setg _ _).setg _ _).setg _ _))
  generalize (((w.setCell ⟨g, 8, none⟩ (.bool true)).setCell ⟨g, 7, none⟩ (.int .u32 X)).setCell ⟨g, 5, none⟩ (.int .i64 0)) = W1 at *
  clear c5 c6 c7 c8 f5 f6 f7 f8
  have c88 : W1.drew.cell? ⟨g, 7, none⟩ = some (.int .u32 X) := HW.out.co 2
  have f88 := HW.out.fz 7
  have cA : (W1.alloc (.cells #[.int .u32 X] 22)).drew.cell? ⟨g, 7, none⟩ = some (.int .u32 X) := ((HW.out.below (below_alloc (Below.refl _ _) (.cells #[.int .u32 X] 22))).drew).co 2
  have HDA : Hid (Dec (W1.alloc (.cells #[.int .u32 X] 22)).drew g T a e f d v xs (own6 0 fb X true ++ ext)) := Lib.hid ((HW.out.below (below_alloc (Below.refl _ _) (.cells #[.int .u32 X] 22))).drew)
  have HRD : Hid (ReadsInt (W1.alloc (.cells #[.int .u32 X] 22)).drew .u32 (some ⟨W1.heap.size, 0, none⟩) 1 [X]) := Lib.hid (box_reads W1 X)
  go_region_held3 (fun w' => w'.cell? ⟨g, 7, none⟩ = some (.int .u32 X)) (first | assumption | go_keep) (first
    | (go_at_call 62; refine (dec_hold (m := 1) (ys := [X]) HRD.out hl HDA.out).mono ?_; rintro e w3 ⟨rfl, v1, hd3, hs3⟩; have HD3 := Lib.hid hd3; have HS3 := Lib.hid hs3; have c83 : w3.cell? ⟨g, 7, none⟩ = some (.int .u32 X) := hd3.co 2; have f83 := hd3.fz 7; clear hd3 hs3)
    | (fail))
  clear c88 cA
  go_wp2_with fail
  go_ret
  have h2 : Stp w g v (W1.alloc (.cells #[.int .u32 X] 22)).drew v := HSW.out.below ((((Kp.refl (fun _ => False) _).alloc _).drew).below (Nat.le_refl _) (fun _ h => h.elim))
  exact ⟨rfl, _, HD3.out, h2.trans HS3.out⟩
theorem next_on_false (b : Int) (hb0 : 0 ≤ b) (hb1 : b ≤ 255) (hl : xs.length + 1 ≤ 1073741824) (hn : 2 ≤ nd) (hn3 : nd ≤ 4) (hc0 : 0 ≤ c) (hc1 : c ≤ 4194303) (hbl : 160 ≤ b) (hbh : b ≤ 191) (hse : secondF fb b = true) (h : Dec w g T a e f d v xs (own6 nd fb c false ++ ext)) :
    Calls Try.prog 48 #[.pointer (some ⟨g, 0, none⟩), .int .u8 b] w fun en w' => en = .returned (.bool true) ∧ Dec w' g T a e f d v xs (own6 (nd - 1) fb (c * 32 + b % 32) true ++ ext) ∧ Stp w g v w' v := by
  have hn0 : (nd == 0) = false := by simp; omega
  have hn1 : (nd - 1 == 0) = false := by simp; omega
  have hd : decide (b < (160 : Int)) = false := decide_eq_false (by omega)
  have hd2 : decide ((191 : Int) < b) = false := decide_eq_false (by omega)
  have hcat := cat6_at c b hc0 hc1 hb0 hb1
  rw [← hcat]
  clear hcat
  have hX : Go.bits .or .u32 (c * 32) (b % 32) = cat6 c b := rfl
  generalize cat6 c b = X at *
  subst hX
  have HSE := Lib.hid hse
  clear hse
  have c5 : w.cell? ⟨g, 5, none⟩ = some (.int .i64 nd) := h.co 0
  have c6 : w.cell? ⟨g, 6, none⟩ = some (.int .u8 fb) := h.co 1
  have c7 : w.cell? ⟨g, 7, none⟩ = some (.int .u32 c) := h.co 2
  have c8 : w.cell? ⟨g, 8, none⟩ = some (.bool false) := h.co 3
  have f5 := h.fz 5
  have f6 := h.fz 6
  have f7 := h.fz 7
  have f8 := h.fz 8
  have H := Lib.hid h
  clear h
  go_enter Try.func48, Try.ntmps48
  go_wp2_with fail
  have hse := HSE.out
  refine (second_any b H.out).mono ?_
  rw [hse]
  rintro en w1 ⟨rfl, rfl⟩
  clear hse
  go_wp2_with fail
  go_ret
  exact ⟨rfl, ((H.out.set 3 _).set 2 _).set 0 _, Stp.mine ((((Kp.refl _ _).setg _ _).setg _ _).setg _ _)⟩
theorem next_all_false (b : Int) (hb0 : 0 ≤ b) (hb1 : b ≤ 255) (hl : xs.length + 1 ≤ 1073741824) (hc0 : 0 ≤ c) (hc1 : c ≤ 4194303) (hbl : 160 ≤ b) (hbh : b ≤ 191) (hse : secondF fb b = true) (h : Dec w g T a e f d v xs (own6 1 fb c false ++ ext)) :
    Calls Try.prog 48 #[.pointer (some ⟨g, 0, none⟩), .int .u8 b] w fun en w' => en = .returned (.bool true) ∧ ∃ v', Dec w' g T a e f d v' (xs ++ [c * 32 + b % 32]) (own6 0 fb (c * 32 + b % 32) true ++ ext) ∧ Stp w g v w' v' := by
  have hd : decide (b < (160 : Int)) = false := decide_eq_false (by omega)
  have hd2 : decide ((191 : Int) < b) = false := decide_eq_false (by omega)
  have hcat := cat6_at c b hc0 hc1 hb0 hb1
  rw [← hcat]
  clear hcat
  have hX : Go.bits .or .u32 (c * 32) (b % 32) = cat6 c b := rfl
  generalize cat6 c b = X at *
  have HX := Lib.hid hX
  clear hX
  have HSE := Lib.hid hse
  clear hse
  have c5 : w.cell? ⟨g, 5, none⟩ = some (.int .i64 1) := h.co 0
  have c6 : w.cell? ⟨g, 6, none⟩ = some (.int .u8 fb) := h.co 1
  have c7 : w.cell? ⟨g, 7, none⟩ = some (.int .u32 c) := h.co 2
  have c8 : w.cell? ⟨g, 8, none⟩ = some (.bool false) := h.co 3
  have f5 := h.fz 5
  have f6 := h.fz 6
  have f7 := h.fz 7
  have f8 := h.fz 8
  have H := Lib.hid h
  clear h
  go_enter Try.func48, Try.ntmps48
  go_wp2_with fail
  have hse := HSE.out
  refine (second_any b H.out).mono ?_
  rw [hse]
  rintro en w1 ⟨rfl, rfl⟩
  clear hse
  go_wp2_with fail
  rw [HX.out]
  have HW : Hid (Dec (((w.setCell ⟨g, 8, none⟩ (.bool true)).setCell ⟨g, 7, none⟩ (.int .u32 X)).setCell ⟨g, 5, none⟩ (.int .i64 0)) g T a e f d v xs (own6 0 fb X true ++ ext)) := Lib.hid (((H.out.set 3 _).set 2 _).set 0 _)
  have HSW : Hid (Stp w g v (((w.setCell ⟨g, 8, none⟩ (.bool true)).setCell ⟨g, 7, none⟩ (.int .u32 X)).setCell ⟨g, 5, none⟩ (.int .i64 0)) v) := Lib.hid (Stp.mine ((((Kp.refl _ _).setg _ _).setg _ _).setg _ _))
  generalize (((w.setCell ⟨g, 8, none⟩ (.bool true)).setCell ⟨g, 7, none⟩ (.int .u32 X)).setCell ⟨g, 5, none⟩ (.int .i64 0)) = W1 at *
  clear c5 c6 c7 c8 f5 f6 f7 f8
  have c88 : W1.drew.cell? ⟨g, 7, none⟩ = some (.int .u32 X) := HW.out.co 2
  have f88 := HW.out.fz 7
  have cA : (W1.alloc (.cells #[.int .u32 X] 22)).drew.cell? ⟨g, 7, none⟩ = some (.int .u32 X) := ((HW.out.below (below_alloc (Below.refl _ _) (.cells #[.int .u32 X] 22))).drew).co 2
  have HDA : Hid (Dec (W1.alloc (.cells #[.int .u32 X] 22)).drew g T a e f d v xs (own6 0 fb X true ++ ext)) := Lib.hid ((HW.out.below (below_alloc (Below.refl _ _) (.cells #[.int .u32 X] 22))).drew)
  have HRD : Hid (ReadsInt (W1.alloc (.cells #[.int .u32 X] 22)).drew .u32 (some ⟨W1.heap.size, 0, none⟩) 1 [X]) := Lib.hid (box_reads W1 X)
  go_region_held3 (fun w' => w'.cell? ⟨g, 7, none⟩ = some (.int .u32 X)) (first | assumption | go_keep) (first
    | (go_at_call 62; refine (dec_hold (m := 1) (ys := [X]) HRD.out hl HDA.out).mono ?_; rintro e w3 ⟨rfl, v1, hd3, hs3⟩; have HD3 := Lib.hid hd3; have HS3 := Lib.hid hs3; have c83 : w3.cell? ⟨g, 7, none⟩ = some (.int .u32 X) := hd3.co 2; have f83 := hd3.fz 7; clear hd3 hs3)
    | (fail))
  clear c88 cA
  go_wp2_with fail
  go_ret
  have h2 : Stp w g v (W1.alloc (.cells #[.int .u32 X] 22)).drew v := HSW.out.below ((((Kp.refl (fun _ => False) _).alloc _).drew).below (Nat.le_refl _) (fun _ h => h.elim))
  exact ⟨rfl, _, HD3.out, h2.trans HS3.out⟩
theorem next_none (s : CS) (b : Int) (hs : cok s) (hb0 : 0 ≤ b) (hb1 : b ≤ 255) (hl : xs.length + 1 ≤ 1073741824) (hn : cnx s b = none) (h : Dec w g T a e f d v xs (cown s ++ ext)) :
    Calls Try.prog 48 #[.pointer (some ⟨g, 0, none⟩), .int .u8 b] w fun en w' => en = .returned (.bool false) ∧ ∃ s' v', Dec w' g T a e f d v' xs (cown s' ++ ext) ∧ Stp w g v w' v' := by
  obtain ⟨nd, fb, c, gone⟩ := s
  obtain ⟨h1, h2, h4, h5, h6, h7, h8, h10⟩ := hs
  simp only at h1 h2 h4 h5 h6 h7 h8 h10
  unfold cnx at hn
  simp only at hn
  split at hn
  · rename_i h0
    subst h0
    split at hn
    · cases hn
    · rename_i hb
      split at hn
      · cases hn
      · rename_i hbb
        exact (next_lead_no b hb0 hb1 hl (by omega) hbb h).mono fun en w' ⟨he, hd, hst⟩ => ⟨he, ⟨0, fb, c, gone⟩, _, hd, hst⟩
  · rename_i h0
    split at hn
    · rename_i hb
      by_cases hlo : b < 160
      · exact (next_out_lo (nd := nd) (fb := fb) (c := c) b hb0 hb1 hl (by omega) hlo h).mono fun en w' ⟨he, hd, hst⟩ => ⟨he, ⟨nd, fb, c, gone⟩, _, hd, hst⟩
      by_cases hhi : 191 < b
      · exact (next_out_hi (nd := nd) (fb := fb) (c := c) b hb0 hb1 hl (by omega) hhi h).mono fun en w' ⟨he, hd, hst⟩ => ⟨he, ⟨nd, fb, c, gone⟩, _, hd, hst⟩
      obtain ⟨rfl, hse⟩ : gone = false ∧ secondF fb b = false := by
        rcases hb with h9 | h9 | h9
        · exact absurd h9 hlo
        · exact absurd h9 hhi
        · exact h9
      exact (next_out_se (nd := nd) (fb := fb) (c := c) b hb0 hb1 hl (by omega) (by omega) (by omega) hse h).mono fun en w' ⟨he, hd, hst⟩ => ⟨he, ⟨nd, fb, c, false⟩, _, hd, hst⟩
    · split at hn <;> cases hn
theorem next_some (s s' : CS) (r : Option Int) (b : Int) (hs : cok s) (hb0 : 0 ≤ b) (hb1 : b ≤ 255) (hl : xs.length + 1 ≤ 1073741824) (hn : cnx s b = some (s', r)) (h : Dec w g T a e f d v xs (cown s ++ ext)) :
    Calls Try.prog 48 #[.pointer (some ⟨g, 0, none⟩), .int .u8 b] w fun en w' => en = .returned (.bool true) ∧ ∃ v', Dec w' g T a e f d v' (xs ++ r.toList) (cown s' ++ ext) ∧ Stp w g v w' v' := by
  obtain ⟨nd, fb, c, gone⟩ := s
  obtain ⟨h1, h2, h4, h5, h6, h7, h8, h10⟩ := hs
  simp only at h1 h2 h4 h5 h6 h7 h8 h10
  unfold cnx at hn
  simp only at hn
  split at hn
  · rename_i h0
    subst h0
    split at hn
    · rename_i hb
      simp only [Option.some.injEq, Prod.mk.injEq] at hn
      obtain ⟨rfl, rfl⟩ := hn
      exact next_one b hb0 hb1 hl hb h
    · rename_i hb
      split at hn
      · rename_i hbb
        simp only [Option.some.injEq, Prod.mk.injEq] at hn
        obtain ⟨rfl, rfl⟩ := hn
        simp only [Option.toList, List.append_nil]
        exact (next_lead_ok b hb0 hb1 hl (by omega) hbb h).mono fun en w' ⟨he, hd, hst⟩ => ⟨he, _, hd, hst⟩
      · cases hn
  · rename_i h0
    split at hn
    · cases hn
    · rename_i hb
      have hse : gone = false → secondF fb b = true := by
        intro hg
        cases hx : secondF fb b with
        | true => rfl
        | false => exact absurd (.inr (.inr ⟨hg, hx⟩)) hb
      split at hn
      · rename_i hn1
        subst hn1
        simp only [Option.some.injEq, Prod.mk.injEq] at hn
        obtain ⟨rfl, rfl⟩ := hn
        cases gone with
        | true => exact next_all_true (fb := fb) (c := c) b hb0 hb1 hl h4 h5 (by omega) (by omega) h
        | false => exact next_all_false (fb := fb) (c := c) b hb0 hb1 hl h4 h5 (by omega) (by omega) (hse rfl) h
      · rename_i hn1
        simp only [Option.some.injEq, Prod.mk.injEq] at hn
        obtain ⟨rfl, rfl⟩ := hn
        simp only [Option.toList, List.append_nil]
        cases gone with
        | true => exact (next_on_true (nd := nd) (fb := fb) (c := c) b hb0 hb1 hl (by omega) (by omega) h4 h5 (by omega) (by omega) h).mono fun en w' ⟨he, hd, hst⟩ => ⟨he, _, hd, hst⟩
        | false => exact (next_on_false (nd := nd) (fb := fb) (c := c) b hb0 hb1 hl (by omega) (by omega) h4 h5 (by omega) (by omega) (hse rfl) h).mono fun en w' ⟨he, hd, hst⟩ => ⟨he, _, hd, hst⟩
end
end Go.Proofs.Ytcfpbihkodjlkaa.M
namespace Go.Proofs.Ytcfpbihkodjlkaa.M
open Go.RowKit Go.Proofs.YtcfpbihkodjlkaaW.PrintWords Go.Proofs.YtcfpbihkodjlkaaW.PrintMore
set_option linter.unusedVariables false
set_option linter.unusedSimpArgs false
variable {ext : List Value}
section
variable {w : World} {g T : Nat} {a e f : Int} {d : Bool} {v : Value} {xs : List Int}
theorem run_ok {s s' : CS} {l os : List Int} (hs : cok s) (h : run cnx s l = some (s', os)) : cok s' := by
  induction l generalizing s os with
  | nil => simp only [run, Option.some.injEq, Prod.mk.injEq] at h; exact h.1 ▸ hs
  | cons b l ih =>
    simp only [run] at h
    cases hb : cnx s b with
    | none => rw [hb] at h; cases h
    | some p =>
      rw [hb, Option.bind_some] at h
      obtain ⟨q, hq, he⟩ := Option.map_eq_some_iff.1 h
      simp only [Prod.mk.injEq] at he
      exact ih (cnx_ok hs hb) (by rw [hq, ← he.1])
variable (ext) in
/-- What holds at a round's head: so many bytes were eaten, and what they told waits. -/
structure FeedAt (w : World) (g T : Nat) (a : Int) (v : Value) (s0 : CS) (t : ByteArray) (room : Int) (k : Nat) (os : List Int) (s : CS) (v' : Value) (w' : World) : Prop where
  le : k ≤ t.size
  run : run cnx s0 ((bytesOf t).take k) = some (s, os)
  dec : Dec w' g T (a + k) 0 0 false v' os (cown s ++ ext)
  stp : Stp w g v w' v'
  room : (os.length : Int) ≤ room ∨ os = []
  ok : cok s
  few : os.length ≤ k
variable (ext) in
def FeedRel (w : World) (g T : Nat) (a : Int) (v : Value) (s0 : CS) (t : ByteArray) (room : Int) (n : Value) (w' : World) : Prop :=
  ∃ k os s v', n = .int .i64 (k : Nat) ∧ FeedAt ext w g T a v s0 t room k os s v' w'
abbrev nilv : Value := .slice none 0 0
variable (ext) in
/-- What Feed hands back: how many bytes were eaten, what they told; it goes on, or the next byte is wrong. -/
def FeedPost (w : World) (g T : Nat) (a : Int) (s0 : CS) (t : ByteArray) (room : Int) (en : Ending) (w' : World) : Prop :=
  ∃ (m : Nat) (os : List Int) (r : Value) (s : CS), en = .returned (.tuple #[.int .i64 m, r]) ∧ m ≤ t.size ∧ run cnx s0 ((bytesOf t).take m) = some (s, os) ∧ w'.ownsRow w.heap.size 22 1 r os.length (nums .u32 os) ∧ Kp (fun k => k = g) w w' ∧
    ((os.length : Int) ≤ room ∨ os = []) ∧ os.length ≤ m ∧ cok s ∧
    ((Dec w' g T (a + m) 0 0 false nilv [] (cown s ++ ext) ∧ (m = t.size ∨ room ≤ os.length)) ∨
     (m < t.size ∧ cnx s (bt t m) = none ∧ ∃ s', Dec w' g T (a + m) 3 (a + m) false nilv [] (cown s' ++ ext)))
theorem _root_.Go.Proofs.Ytcfpbihkodjlkaa.Stp.nil {w w1 : World} {g : Nat} {v : Value} (h : Stp w g nilv w1 v) : Kp (fun k => k = g) w w1 := h.kp.mono (fun k hk => hk.elim .inl (fun h2 => by cases h2))
theorem feed_end {w wr w' : World} {g T : Nat} {a : Int} {v1 r v' : Value} {s0 s : CS} {t : ByteArray} {room : Int} {k : Nat} {os : List Int} (h : FeedAt ext w g T a nilv s0 t room k os s v1 wr) (hx : k = t.size ∨ room ≤ os.length)
    (hd : Dec w' g T (a + k) 0 0 false v' (os.drop (min room.toNat os.length)) (cown s ++ ext)) (ho : w'.ownsRow wr.heap.size 22 1 r (os.take (min room.toNat os.length)).length (nums .u32 (os.take (min room.toNat os.length)))) (hs : Stp wr g v1 w' v') (hv : os.length ≤ room.toNat → v' = .slice none 0 0) :
    FeedPost ext w g T a s0 t room (.returned (.tuple #[.int .i64 k, r])) w' := by
  have hle : os.length ≤ room.toNat := by rcases h.room with h1 | h1 <;> simp_all <;> omega
  obtain rfl := hv hle
  have hm : min room.toNat os.length = os.length := by omega
  rw [hm, List.take_length] at ho
  rw [hm, List.drop_length] at hd
  exact ⟨k, os, r, s, rfl, h.le, h.run, own_weaken ho h.stp.kp.size, (h.stp.trans hs).nil, h.room, h.few, h.ok, .inl ⟨hd, hx⟩⟩
theorem feed_wrong {w wr w1 w' : World} {g T : Nat} {a : Int} {v1 r v' v2 : Value} {s0 s s1 : CS} {t : ByteArray} {room : Int} {k : Nat} {os : List Int} (h : FeedAt ext w g T a nilv s0 t room k os s v1 wr) (hk : k < t.size) (hn : cnx s (bt t k) = none) (hs1 : Stp wr g v1 w1 v2)
    (hd : Dec w' g T (a + k) 3 (a + k) false v' (os.drop (min room.toNat os.length)) (cown s1 ++ ext)) (ho : w'.ownsRow w1.heap.size 22 1 r (os.take (min room.toNat os.length)).length (nums .u32 (os.take (min room.toNat os.length)))) (hs : Stp w1 g v2 w' v') (hv : os.length ≤ room.toNat → v' = .slice none 0 0) :
    FeedPost ext w g T a s0 t room (.returned (.tuple #[.int .i64 k, r])) w' := by
  have hle : os.length ≤ room.toNat := by rcases h.room with h1 | h1 <;> simp_all <;> omega
  obtain rfl := hv hle
  have hm : min room.toNat os.length = os.length := by omega
  rw [hm, List.take_length] at ho
  rw [hm, List.drop_length] at hd
  exact ⟨k, os, r, s, rfl, h.le, h.run, own_weaken ho (Nat.le_trans h.stp.kp.size hs1.kp.size), ((h.stp.trans hs1).trans hs).nil, h.room, h.few, h.ok, .inr ⟨hk, hn, s1, hd⟩⟩
theorem feed_on {w wr w' : World} {g T : Nat} {a : Int} {v v1 v' : Value} {s0 s s1 : CS} {t : ByteArray} {room : Int} {k : Nat} {os : List Int} {r : Option Int} (h : FeedAt ext w g T a v s0 t room k os s v1 wr) (hk : k < t.size) (hr : (os.length : Int) < room) (hn : cnx s (bt t k) = some (s1, r))
    (hd : Dec w' g T (a + k + 1) 0 0 false v' (os ++ r.toList) (cown s1 ++ ext)) (hs : Stp wr g v1 w' v') : FeedRel ext w g T a v s0 t room (.int .i64 ((k : Int) + 1)) w' := by
  have hl : r.toList.length ≤ 1 := by cases r <;> simp
  refine ⟨k + 1, os ++ r.toList, s1, v', rfl, hk, ?_, ?_, h.stp.trans hs, .inl (by rw [List.length_append]; omega), cnx_ok h.ok hn, by rw [List.length_append]; have := h.few; omega⟩
  · rw [take_bt t k hk, run_snoc, h.run]
    simp only [Option.bind_some, hn, Option.map_some]
  · rw [show a + ((k + 1 : Nat) : Int) = a + k + 1 by omega]
    exact hd
theorem feed_any (t : ByteArray) (room : Int) (s0 : CS) (hs : cok s0) (ht : t.size ≤ 1000000) (ha0 : 0 ≤ a) (ha1 : a ≤ 1000000000) (h : Dec w g T a 0 0 false nilv [] (cown s0 ++ ext)) :
    Calls Try.prog 30 #[.pointer (some ⟨g, 0, none⟩), .string t, .int .i64 room] w (FeedPost ext w g T a s0 t room) := by
  have HS : Hid (FeedRel ext w g T a nilv s0 t room (.int .i64 0) w) := ⟨0, [], s0, nilv, rfl, Nat.zero_le _, rfl, by simpa using h, Stp.refl _ _ _, .inr rfl, hs, Nat.zero_le _⟩
  clear h hs
  go_enter Try.func30, Try.ntmps30
  go_wp2_with fail
  go_loopw [8] (fun n wr => FeedRel ext w g T a nilv s0 t room n wr) (fun n _ => t.size - (intOf n).toNat)
  case atStart => exact HS.out
  case round =>
    obtain ⟨k, os, s, v1, rfl, hk⟩ := hrel
    have hle := hk.le
    have hfew := hk.few
    have HD := Lib.hid hk.dec
    have HK := Lib.hid hk
    have HO := Lib.hid hk.ok
    clear hk
    by_cases hlt : k < t.size
    · by_cases hroom : (os.length : Int) < room
      · have he : ((t[k]'hlt).toNat : Int) = bt t k := bt_at t k hlt
        have hb : 0 ≤ ((t[k]'hlt).toNat : Int) ∧ ((t[k]'hlt).toNat : Int) ≤ 255 := he ▸ bt_range t k
        have HB := Lib.hid hb
        cases hn : cnx s (bt t k) with
        | none =>
          have hn1 : cnx s ((t[k]'hlt).toNat : Int) = none := by rw [he]; exact hn
          have HN := Lib.hid hn
          have HN1 := Lib.hid hn1
          clear hn hn1 he hb
          go_wp2_with (first | (go_at_call 46; go_must (refine (dec_held HD.out).mono ?_); rintro e w' ⟨rfl, rfl⟩) | (go_at_call 47; go_must (refine (going_yes HD.out.bs).mono ?_); rintro e w' ⟨rfl, rfl⟩) | (go_at_call 48; go_must (refine (next_none s _ HO.out HB.out.1 HB.out.2 (by omega) HN1.out HD.out).mono ?_); rintro e w2 ⟨rfl, s2, v2, hd2, hs2⟩; have HD2 := Lib.hid hd2; have HS2 := Lib.hid hs2; clear hd2 hs2) | (go_at_call 49; go_must (refine (dec_stop 3 rfl HD2.out).mono ?_); rintro e w3 ⟨rfl, hd3, hs3⟩; have HD3 := Lib.hid hd3; have HS3 := Lib.hid hs3; clear hd3 hs3) | (go_at_call 51; go_must (refine (dec_tell room (by omega) HD3.out).mono ?_); rintro e w4 ⟨r4, v4, rfl, hd4, ho4, hs4, hv4⟩; have HD4 := Lib.hid hd4; have HO4 := Lib.hid ho4; have HS4 := Lib.hid hs4; have HV4 := Lib.hid hv4; clear hd4 ho4 hs4 hv4))
          go_ret2
          exact feed_wrong HK.out hlt HN.out (HS2.out.trans HS3.out) HD4.out HO4.out HS4.out HV4.out
        | some p =>
          obtain ⟨s1, r⟩ := p
          have hn1 : cnx s ((t[k]'hlt).toNat : Int) = some (s1, r) := by rw [he]; exact hn
          have HN := Lib.hid hn
          have HN1 := Lib.hid hn1
          clear hn hn1 he hb
          go_wp2_with (first | (go_at_call 46; go_must (refine (dec_held HD.out).mono ?_); rintro e w' ⟨rfl, rfl⟩) | (go_at_call 47; go_must (refine (going_yes HD.out.bs).mono ?_); rintro e w' ⟨rfl, rfl⟩) | (go_at_call 48; go_must (refine (next_some s s1 r _ HO.out HB.out.1 HB.out.2 (by omega) HN1.out HD.out).mono ?_); rintro e w2 ⟨rfl, v2, hd2, hs2⟩; have HD2 := Lib.hid hd2; have HS2 := Lib.hid hs2; clear hd2 hs2) | (go_at_call 50; go_must (refine (dec_eat 1 (by omega) (by omega) (by omega) (by omega) HD2.out).mono ?_); rintro e w3 ⟨rfl, hd3, hs3⟩; have HD3 := Lib.hid hd3; have HS3 := Lib.hid hs3; clear hd3 hs3))
          go_roundw
          case rel => exact feed_on HK.out hlt hroom HN.out HD3.out (HS2.out.trans HS3.out)
          case measure => simp [intOf]; omega
      · have HE := Lib.hid (show k = t.size ∨ room ≤ os.length from .inr (by omega))
        go_wp2_with (first | (go_at_call 46; go_must (refine (dec_held HD.out).mono ?_); rintro e w' ⟨rfl, rfl⟩) | (go_at_call 51; go_must (refine (dec_tell room (by omega) HD.out).mono ?_); rintro e w4 ⟨r4, v4, rfl, hd4, ho4, hs4, hv4⟩; have HD4 := Lib.hid hd4; have HO4 := Lib.hid ho4; have HS4 := Lib.hid hs4; have HV4 := Lib.hid hv4; clear hd4 ho4 hs4 hv4))
        go_ret2
        exact feed_end HK.out HE.out HD4.out HO4.out HS4.out HV4.out
    · have HE := Lib.hid (show k = t.size ∨ room ≤ os.length from .inl (by omega))
      go_wp2_with (first | (go_at_call 51; go_must (refine (dec_tell room (by omega) HD.out).mono ?_); rintro e w4 ⟨r4, v4, rfl, hd4, ho4, hs4, hv4⟩; have HD4 := Lib.hid hd4; have HO4 := Lib.hid ho4; have HS4 := Lib.hid hs4; have HV4 := Lib.hid hv4; clear hd4 ho4 hs4 hv4))
      go_ret2
      exact feed_end HK.out HE.out HD4.out HO4.out HS4.out HV4.out
end
end Go.Proofs.Ytcfpbihkodjlkaa.M
namespace Go.Proofs.Ytcfpbihkodjlkaa.M
open Go.RowKit Go.Proofs.YtcfpbihkodjlkaaW.PrintWords Go.Proofs.YtcfpbihkodjlkaaW.PrintMore
set_option linter.unusedVariables false
set_option linter.unusedSimpArgs false
variable {ext : List Value}
section
variable {w : World} {g T : Nat} {a e f : Int} {d : Bool} {v : Value} {xs : List Int}
theorem dend_cut (s : CS) (hc : ccut s = true) (h : Dec w g T a 0 f false v xs (cown s ++ ext)) :
    Calls Try.prog 32 #[.pointer (some ⟨g, 0, none⟩)] w fun en w' => en = .returned (.tuple #[]) ∧ Dec w' g T a 4 a false v xs (cown s ++ ext) ∧ Stp w g v w' v := by
  have c5 : w.cell? ⟨g, 5, none⟩ = some (.int .i64 s.nd) := h.co 0
  have h0 : 0 < s.nd := by simpa [ccut] using hc
  have HD := Lib.hid h
  clear h hc
  go_enter Try.func32, Try.ntmps32
  go_wp2_with (first | (go_at_call 49; go_must (refine (dec_stop 4 rfl HD.out).mono ?_); rintro e w1 ⟨rfl, hd1, hs1⟩; have HD1 := Lib.hid hd1; have HS1 := Lib.hid hs1; clear hd1 hs1) | (go_at_call 40; go_must (refine (end_no (e := 4) (d := false) rfl HD1.out.bs).mono ?_); rintro e w2 ⟨rfl, rfl⟩))
  go_end0
  exact ⟨rfl, HD1.out, HS1.out⟩
theorem dend_ok (s : CS) (hc : ccut s = false) (h : Dec w g T a 0 f false v xs (cown s ++ ext)) :
    Calls Try.prog 32 #[.pointer (some ⟨g, 0, none⟩)] w fun en w' => en = .returned (.tuple #[]) ∧ Dec w' g T a 0 f true v xs (cown s ++ ext) ∧ Stp w g v w' v := by
  have c5 : w.cell? ⟨g, 5, none⟩ = some (.int .i64 s.nd) := h.co 0
  have h0 : s.nd ≤ 0 := by simpa [ccut] using hc
  have HD := Lib.hid h
  clear h hc
  go_enter Try.func32, Try.ntmps32
  go_wp2_with (first | (go_at_call 40; go_must (refine (dec_end HD.out).mono ?_); rintro e w1 ⟨rfl, hd1, hs1⟩; have HD1 := Lib.hid hd1; have HS1 := Lib.hid hs1; clear hd1 hs1))
  go_end0
  exact ⟨rfl, HD1.out, HS1.out⟩
theorem dend_err (s : CS) (he : (e == 0) = false) (h : Dec w g T a e f false v xs (cown s ++ ext)) :
    Calls Try.prog 32 #[.pointer (some ⟨g, 0, none⟩)] w fun en w' => en = .returned (.tuple #[]) ∧ w = w' := by
  have c5 : w.cell? ⟨g, 5, none⟩ = some (.int .i64 s.nd) := h.co 0
  have HD := Lib.hid h
  have HE := Lib.hid (show (e == 0 && !false) = false by rw [he]; rfl)
  clear h he
  by_cases h0 : 0 < s.nd
  · go_enter Try.func32, Try.ntmps32
    go_wp2_with (first | (go_at_call 49; go_must (refine (stop_no 4 HE.out HD.out.bs).mono ?_); rintro e w1 ⟨rfl, rfl⟩) | (go_at_call 40; go_must (refine (end_no HE.out HD.out.bs).mono ?_); rintro e w2 ⟨rfl, rfl⟩))
    go_end0
    exact ⟨rfl, rfl⟩
  · go_enter Try.func32, Try.ntmps32
    go_wp2_with (first | (go_at_call 49; go_must (refine (stop_no 4 HE.out HD.out.bs).mono ?_); rintro e w1 ⟨rfl, rfl⟩) | (go_at_call 40; go_must (refine (end_no HE.out HD.out.bs).mono ?_); rintro e w2 ⟨rfl, rfl⟩))
    go_end0
    exact ⟨rfl, rfl⟩
end
end Go.Proofs.Ytcfpbihkodjlkaa.M
namespace Go.Proofs.Ytcfpbihkodjlkaa.M
open Go.RowKit Go.Proofs.YtcfpbihkodjlkaaW.PrintWords Go.Proofs.YtcfpbihkodjlkaaW.PrintMore
set_option linter.unusedVariables false
set_option linter.unusedSimpArgs false
variable {ext : List Value}
/-- The encoder's own state; a scalar's bytes, and the state behind it. -/
structure ES where
def eown (_s : ES) : List Value := []
def eok (_s : ES) : Prop := True
/-- A scalar's bytes. -/
def rby (c : Int) : List Int :=
  if c < 160 then [c] else if c < 1024 then [192 + c / 32, 160 + c % 32] else if c < 16384 then [224 + c / 1024, 160 + c / 32 % 32, 160 + c % 32]
  else if c < 262144 then [240 + c / 32768, 160 + c / 1024 % 32, 160 + c / 32 % 32, 160 + c % 32]
  else [248 + c / 1048576, 160 + c / 32768 % 32, 160 + c / 1024 % 32, 160 + c / 32 % 32, 160 + c % 32]
def eby (s : ES) (c : Int) : List Int × ES := (rby c, s)
theorem isB_range {c : Int} (h : isB c = true) : c ≤ 1114111 := by
  simp only [isB, Bool.and_eq_true, decide_eq_true_eq] at h
  exact h.1
theorem eby_ok {s : ES} {c : Int} (hs : eok s) (h0 : 0 ≤ c) (hc : isB c = true) : eok (eby s c).2 := trivial
theorem rby_len (c : Int) : (rby c).length ≤ 5 := by
  unfold rby
  (repeat' split) <;> simp
theorem rby_pos (c : Int) : 0 < (rby c).length := by
  unfold rby
  (repeat' split) <;> simp
theorem eby_len (s : ES) (c : Int) : (eby s c).1.length ≤ 5 := rby_len c
theorem eby_pos (s : ES) (c : Int) (hs : eok s) (h0 : 0 ≤ c) (hc : isB c = true) : 0 < (eby s c).1.length := rby_pos c
theorem rby_range (c : Int) (h0 : 0 ≤ c) (hc : isB c = true) : ∀ x ∈ rby c, 0 ≤ x ∧ x ≤ 255 := by
  have := isB_range hc
  unfold rby
  intro x hx
  split at hx
  · simp only [List.mem_cons, List.not_mem_nil, or_false] at hx; omega
  · split at hx
    · simp only [List.mem_cons, List.not_mem_nil, or_false] at hx; omega
    · split at hx
      · simp only [List.mem_cons, List.not_mem_nil, or_false] at hx; omega
      · split at hx
        · simp only [List.mem_cons, List.not_mem_nil, or_false] at hx; omega
        · simp only [List.mem_cons, List.not_mem_nil, or_false] at hx; omega
theorem eby_bytes (s : ES) (c : Int) (hs : eok s) (h0 : 0 ≤ c) (hc : isB c = true) : ∀ x ∈ (eby s c).1, 0 ≤ x ∧ x ≤ 255 := rby_range c h0 hc
theorem and31_at (x : Int) (h0 : 0 ≤ x) (h1 : x < 4294967296) : Go.bits .and .u32 x 31 = x % 32 := by
  rw [u32_and x 31 h0 h1 (by omega) (by omega), show (31 : Int).toNat = 2 ^ 5 - 1 from rfl, Nat.and_two_pow_sub_one_eq_mod]
  omega
theorem or_at (i : Nat) (x y : Int) (hx0 : 0 ≤ x) (hx1 : x < 256) (hxm : x.toNat % 2 ^ i = 0) (hy0 : 0 ≤ y) (hy1 : y.toNat < 2 ^ i) (hy2 : y < 256) : Go.bits .or .u8 x y = x + y := by
  rw [u8_or x y hx0 hx1 hy0 hy2, nat_join i _ _ hxm hy1]; omega
theorem w8_1 {x : Int} (h0 : 0 ≤ x) (h1 : x ≤ 100) : wrap64 (x - 1) = x - 1 := by unfold wrap64; omega
theorem ebl_step (k : Nat) (c ld i : Int) (l : List Int) (s0 s1 s2 : Int) (s3 : Bool) (s4 : ByteArray) (hc0 : 0 ≤ c) (hc1 : c ≤ 1114111) (hi : 0 < i) (hil : i < l.length) (hi2 : i ≤ 100) :
    PMod8Bytes.mod8_Encoder_bytes.l0 (k + 1) c ld l i s0 s1 s2 s3 s4 = PMod8Bytes.mod8_Encoder_bytes.l0 k (c / 32) ld (l.set i.toNat (160 + c % 32)) (i - 1) s0 s1 s2 s3 s4 := by
  rw [PMod8Bytes.mod8_Encoder_bytes.l0, if_pos hi, if_pos (by omega), if_pos hil, and31_at c hc0 (by omega), show c % 32 % 256 = c % 32 by omega, or_at 5 160 (c % 32) (by omega) (by omega) rfl (by omega) (by omega) (by omega), w8_1 (by omega) hi2]
theorem ebl_end (k : Nat) (c ld : Int) (x : Int) (l : List Int) (s0 s1 s2 : Int) (s3 : Bool) (s4 : ByteArray) (n : Nat) (hl0 : 0 ≤ ld) (hl1 : ld < 256) (hlm : ld.toNat % 2 ^ n = 0) (hc0 : 0 ≤ c) (hc1 : c.toNat < 2 ^ n) (hc2 : c < 256) :
    PMod8Bytes.mod8_Encoder_bytes.l0 (k + 1) c ld (x :: l) 0 s0 s1 s2 s3 s4 = some (strOfNums ((ld + c) :: l), s0, s1, s2, s3, s4) := by
  rw [PMod8Bytes.mod8_Encoder_bytes.l0, if_neg (by decide), if_pos (by simp; try omega), show c % 256 = c by omega, or_at n ld c hl0 hl1 hlm hc0 hc1 hc2]
  rfl
theorem ebytesF_at (k : Nat) (c : Int) (h0 : 0 ≤ c) (hc : c ≤ 1114111) (s0 s1 s2 : Int) (s3 : Bool) (s4 : ByteArray) : PMod8Bytes.mod8_Encoder_bytes.f (k + 9) s0 s1 s2 s3 s4 c = some (strOfNums (rby c), s0, s1, s2, s3, s4) := by
  unfold PMod8Bytes.mod8_Encoder_bytes.f rby
  by_cases c1 : c < 160
  · rw [if_pos c1, if_pos c1, show c % 256 = c by omega]
  rw [if_neg c1, if_neg c1]
  by_cases c2 : c < 1024
  · rw [if_pos c2, if_pos c2, PMod8Bytes.mod8_Encoder_bytes.j0, if_pos (by decide), if_pos (by decide), w8_1 (by decide) (by decide)]
    show PMod8Bytes.mod8_Encoder_bytes.l0 (k + 8) c 192 [0, 0] 1 s0 s1 s2 s3 s4 = _
    rw [ebl_step _ _ _ _ _ _ _ _ _ _ h0 hc (by decide) (by decide) (by decide)]
    exact ebl_end _ _ _ _ _ _ _ _ _ _ 5 (by decide) (by decide) rfl (by omega) (by omega) (by omega)
  rw [if_neg c2, if_neg c2]
  by_cases c3 : c < 16384
  · rw [if_pos c3, if_pos c3, PMod8Bytes.mod8_Encoder_bytes.j0, if_pos (by decide), if_pos (by decide), w8_1 (by decide) (by decide)]
    show PMod8Bytes.mod8_Encoder_bytes.l0 (k + 8) c 224 [0, 0, 0] 2 s0 s1 s2 s3 s4 = _
    rw [ebl_step _ _ _ _ _ _ _ _ _ _ h0 hc (by decide) (by decide) (by decide)]
    show PMod8Bytes.mod8_Encoder_bytes.l0 (k + 7) (c / 32) 224 [0, 0, 160 + c % 32] 1 s0 s1 s2 s3 s4 = _
    rw [ebl_step _ _ _ _ _ _ _ _ _ _ (by omega) (by omega) (by decide) (by simp; try decide) (by decide)]
    refine (ebl_end _ _ _ _ _ _ _ _ _ _ 4 (by decide) (by decide) rfl (by omega) (by omega) (by omega)).trans ?_
    rw [show c / 32 / 32 = c / 1024 by omega]
    rfl
  rw [if_neg c3, if_neg c3]
  by_cases c4 : c < 262144
  · rw [if_pos c4, if_pos c4, PMod8Bytes.mod8_Encoder_bytes.j0, if_pos (by decide), if_pos (by decide), w8_1 (by decide) (by decide)]
    show PMod8Bytes.mod8_Encoder_bytes.l0 (k + 8) c 240 [0, 0, 0, 0] 3 s0 s1 s2 s3 s4 = _
    rw [ebl_step _ _ _ _ _ _ _ _ _ _ h0 hc (by decide) (by decide) (by decide)]
    show PMod8Bytes.mod8_Encoder_bytes.l0 (k + 7) (c / 32) 240 [0, 0, 0, 160 + c % 32] 2 s0 s1 s2 s3 s4 = _
    rw [ebl_step _ _ _ _ _ _ _ _ _ _ (by omega) (by omega) (by decide) (by simp; try decide) (by decide)]
    show PMod8Bytes.mod8_Encoder_bytes.l0 (k + 6) (c / 32 / 32) 240 [0, 0, 160 + c / 32 % 32, 160 + c % 32] 1 s0 s1 s2 s3 s4 = _
    rw [ebl_step _ _ _ _ _ _ _ _ _ _ (by omega) (by omega) (by decide) (by simp; try decide) (by decide)]
    refine (ebl_end _ _ _ _ _ _ _ _ _ _ 3 (by decide) (by decide) rfl (by omega) (by omega) (by omega)).trans ?_
    rw [show c / 32 / 32 / 32 = c / 32768 by omega, show c / 32 / 32 = c / 1024 by omega]
    rfl
  · rw [if_neg c4, if_neg c4, PMod8Bytes.mod8_Encoder_bytes.j0, if_pos (by decide), if_pos (by decide), w8_1 (by decide) (by decide)]
    show PMod8Bytes.mod8_Encoder_bytes.l0 (k + 8) c 248 [0, 0, 0, 0, 0] 4 s0 s1 s2 s3 s4 = _
    rw [ebl_step _ _ _ _ _ _ _ _ _ _ h0 hc (by decide) (by decide) (by decide)]
    show PMod8Bytes.mod8_Encoder_bytes.l0 (k + 7) (c / 32) 248 [0, 0, 0, 0, 160 + c % 32] 3 s0 s1 s2 s3 s4 = _
    rw [ebl_step _ _ _ _ _ _ _ _ _ _ (by omega) (by omega) (by decide) (by simp; try decide) (by decide)]
    show PMod8Bytes.mod8_Encoder_bytes.l0 (k + 6) (c / 32 / 32) 248 [0, 0, 0, 160 + c / 32 % 32, 160 + c % 32] 2 s0 s1 s2 s3 s4 = _
    rw [ebl_step _ _ _ _ _ _ _ _ _ _ (by omega) (by omega) (by decide) (by simp; try decide) (by decide)]
    show PMod8Bytes.mod8_Encoder_bytes.l0 (k + 5) (c / 32 / 32 / 32) 248 [0, 0, 160 + c / 32 / 32 % 32, 160 + c / 32 % 32, 160 + c % 32] 1 s0 s1 s2 s3 s4 = _
    rw [ebl_step _ _ _ _ _ _ _ _ _ _ (by omega) (by omega) (by decide) (by simp; try decide) (by decide)]
    refine (ebl_end _ _ _ _ _ _ _ _ _ _ 2 (by decide) (by decide) rfl (by omega) (by omega) (by omega)).trans ?_
    rw [show c / 32 / 32 / 32 / 32 = c / 1048576 by omega, show c / 32 / 32 / 32 = c / 32768 by omega, show c / 32 / 32 = c / 1024 by omega]
    rfl
section
variable {w : World} {g : Nat} {a e f : Int} {d : Bool} {s : ByteArray}
theorem ebytes_any {T : Nat} (q : ES) (c : Int) (hq : eok q) (hc0 : 0 ≤ c) (hc1 : isB c = true) (h : Enc w g T a e f d s (eown q ++ ext)) :
    Calls Try.prog 58 #[.pointer (some ⟨g, 0, none⟩), .int .u32 c] w fun en w' => en = .returned (.string (strOfNums (eby q c).1)) ∧ Enc w' g T a e f d s (eown (eby q c).2 ++ ext) ∧ Kp (fun k => k = g) w w' := by
  have hi : PMod8Bytes.IsG w w g 0 0 0 false ⟨#[]⟩ := blk_lt h
  refine (PMod8Bytes.mod8_Encoder_bytes.calls 9 g 0 0 0 false ⟨#[]⟩ c (strOfNums (rby c)) 0 0 0 false ⟨#[]⟩ w w hi (Below.refl _ _) (ebytesF_at 0 c hc0 (isB_range hc1) 0 0 0 false ⟨#[]⟩)).mono ?_
  rintro en w' ⟨rfl, _, h2, _⟩
  exact ⟨rfl, blk_below h h2, Kp.of_below h2⟩
end
end Go.Proofs.Ytcfpbihkodjlkaa.M
namespace Go.Proofs.Ytcfpbihkodjlkaa.M
open Go.RowKit Go.Proofs.YtcfpbihkodjlkaaW.PrintWords Go.Proofs.YtcfpbihkodjlkaaW.PrintMore
set_option linter.unusedVariables false
set_option linter.unusedSimpArgs false
variable {ext : List Value}
/-- All that scalars become, and the state behind them. -/
def erun : ES → List Int → List Int × ES
  | s, [] => ([], s)
  | s, c :: r => ((eby s c).1 ++ (erun (eby s c).2 r).1, (erun (eby s c).2 r).2)
theorem erun_append : ∀ (l : List Int) (s : ES) (m : List Int), erun s (l ++ m) = ((erun s l).1 ++ (erun (erun s l).2 m).1, (erun (erun s l).2 m).2)
  | [], s, m => rfl
  | x :: l, s, m => by simp [erun, erun_append l, List.append_assoc]
theorem erun_snoc (l : List Int) (s : ES) (c : Int) : erun s (l ++ [c]) = ((erun s l).1 ++ (eby (erun s l).2 c).1, (eby (erun s l).2 c).2) := by
  rw [erun_append]; simp [erun]
theorem bytesOf_append (x y : ByteArray) : bytesOf (x ++ y) = bytesOf x ++ bytesOf y := by simp [bytesOf, ByteArray.data_append]
theorem bytesOf_ofNums {xs : List Int} (h : ∀ x ∈ xs, 0 ≤ x ∧ x ≤ 255) : bytesOf (strOfNums xs) = xs := by
  unfold bytesOf strOfNums
  simp only [List.map_map]
  refine (List.map_congr_left (g := id) ?_).trans (List.map_id xs)
  intro x hx
  have := h x hx
  simp only [Function.comp_apply, id, UInt8.toNat_ofNat']
  omega
theorem _root_.Go.Proofs.Ytcfpbihkodjlkaa.Given.bytes {s x y : ByteArray} {room : Int} (h : Given s room x y) : bytesOf x = (bytesOf s).take room.toNat ∧ bytesOf y = (bytesOf s).drop room.toNat := by
  constructor
  · rw [bytesOf, h.1, bytesOf, List.map_take]
  · rw [bytesOf, h.2, bytesOf, List.map_drop]
theorem _root_.Go.Proofs.Ytcfpbihkodjlkaa.Given.le {s x y : ByteArray} {room : Int} (h : Given s room x y) : x.size ≤ room.toNat := by
  have := congrArg List.length h.bytes.1
  rw [List.length_take, bytesOf_length] at this
  omega
section
variable {w : World} {g T : Nat} {a e f : Int} {d : Bool} {s : ByteArray}
variable (ext) in
/-- What holds at a round's head of Feed: k scalars were eaten, x was told, y waits. -/
structure EFeedAt (w : World) (g T : Nat) (a : Int) (p : List Int) (s0 : ES) (ls : List Int) (room : Int) (k : Nat) (x y : ByteArray) (wr : World) : Prop where
  le : k ≤ ls.length
  sc : ∀ c ∈ ls.take k, isB c = true
  by_ : bytesOf x ++ bytesOf y = p ++ (erun s0 (ls.take k)).1
  enc : Enc wr g T (a + k) 0 0 false y (eown (erun s0 (ls.take k)).2 ++ ext)
  kp : Kp (fun k => k = g) w wr
  rm : x.size ≤ room.toNat
  full : y.size ≠ 0 → x.size = room.toNat
  few : y.size ≤ max p.length 5
  ok : eok (erun s0 (ls.take k)).2
  got : k = 0 ∨ p.length ≤ room.toNat
variable (ext) in
/-- What Feed hands back: how many scalars were eaten, which bytes are told; it goes on, or the next one is no scalar. -/
def EFeedPost (w : World) (g T : Nat) (a : Int) (p : List Int) (s0 : ES) (ls : List Int) (room : Int) (en : Ending) (w' : World) : Prop :=
  ∃ (m : Nat) (x y : ByteArray), en = .returned (.tuple #[.int .i64 m, .string x]) ∧ m ≤ ls.length ∧ (∀ c ∈ ls.take m, isB c = true) ∧ bytesOf x ++ bytesOf y = p ++ (erun s0 (ls.take m)).1 ∧ Kp (fun k => k = g) w w' ∧ x.size ≤ room.toNat ∧ (y.size ≠ 0 → x.size = room.toNat) ∧ y.size ≤ max p.length 5 ∧ eok (erun s0 (ls.take m)).2 ∧
    ((Enc w' g T (a + m) 0 0 false y (eown (erun s0 (ls.take m)).2 ++ ext) ∧ (m = ls.length ∨ y.size ≠ 0)) ∨
     (m < ls.length ∧ isB (ls.getD m 0) = false ∧ y.size = 0 ∧ Enc w' g T (a + m) 2 (a + m) false y (eown (erun s0 (ls.take m)).2 ++ ext)))
theorem take_snoc {ls : List Int} {k : Nat} (h : k < ls.length) : ls.take (k + 1) = ls.take k ++ [ls.getD k 0] := by
  rw [List.take_succ_eq_append_getElem h, List.getD_eq_getElem?_getD, List.getElem?_eq_getElem h]; rfl
theorem efeed_start {p : List Int} {s0 : ES} {ls : List Int} {room : Int} {kept x y : ByteArray} {w1 : World} (hp : bytesOf kept = p) (hs : eok s0) (hg : Given kept room x y) (h : Enc w1 g T a 0 0 false y (eown s0 ++ ext)) (hk : Kp (fun k => k = g) w w1) : EFeedAt ext w g T a p s0 ls room 0 x y w1 := by
  obtain ⟨h1, h2⟩ := hg.bytes
  have hx := congrArg List.length h1
  have hy := congrArg List.length h2
  rw [List.length_take, bytesOf_length] at hx
  rw [List.length_drop, bytesOf_length] at hy
  refine ⟨Nat.zero_le _, by simp, ?_, by simpa [erun] using h, hk, by omega, fun h0 => by omega, by rw [← hp]; omega, by simpa [erun] using hs, .inl rfl⟩
  rw [h1, h2, List.take_append_drop, hp]; simp [erun]
theorem efeed_on {p : List Int} {s0 : ES} {ls : List Int} {room : Int} {k : Nat} {x y x2 y2 b : ByteArray} {wr w2 : World} (h : EFeedAt ext w g T a p s0 ls room k x y wr) (hk : k < ls.length) (hc0 : 0 ≤ ls.getD k 0) (hc : isB (ls.getD k 0) = true) (hy : y.size = 0)
    (hb : b = strOfNums (eby (erun s0 (ls.take k)).2 (ls.getD k 0)).1) (hg : Given (y ++ b) (room - x.size) x2 y2) (he : Enc w2 g T (a + k + 1) 0 0 false y2 (eown (eby (erun s0 (ls.take k)).2 (ls.getD k 0)).2 ++ ext)) (hkp : Kp (fun k => k = g) wr w2) :
    EFeedAt ext w g T a p s0 ls room (k + 1) (x ++ x2) y2 w2 := by
  subst hb
  obtain ⟨h1, h2⟩ := hg.bytes
  have hbb := bytesOf_ofNums (eby_bytes _ _ h.ok hc0 hc)
  have hy0 : bytesOf y = [] := List.eq_nil_of_length_eq_zero (by rw [bytesOf_length]; exact hy)
  rw [bytesOf_append, hy0, List.nil_append, hbb] at h1 h2
  have hx2 := congrArg List.length h1
  have hy2 := congrArg List.length h2
  have hl := eby_len (erun s0 (ls.take k)).2 (ls.getD k 0)
  rw [List.length_take, bytesOf_length] at hx2
  rw [List.length_drop, bytesOf_length] at hy2
  have hr := h.rm
  have hby := h.by_
  rw [hy0, List.append_nil] at hby
  have hxl := congrArg List.length hby
  rw [bytesOf_length, List.length_append] at hxl
  have hsz : (x ++ x2).size = x.size + x2.size := ByteArray.size_append
  refine ⟨hk, ?_, ?_, ?_, h.kp.tr hkp, by omega, fun h0 => by omega, by omega, ?_, .inr (by omega)⟩
  · rw [take_snoc hk]
    intro c hm
    rcases List.mem_append.1 hm with h9 | h9
    · exact h.sc c h9
    · rw [List.mem_singleton.1 h9]; exact hc
  · rw [take_snoc hk, erun_snoc, bytesOf_append, List.append_assoc, h1, h2, List.take_append_drop, hby, List.append_assoc]
  · rw [take_snoc hk, erun_snoc, show a + ((k + 1 : Nat) : Int) = a + k + 1 by omega]
    exact he
  · rw [take_snoc hk, erun_snoc]
    exact eby_ok h.ok hc0 hc
theorem efeed_end {p : List Int} {s0 : ES} {ls : List Int} {room : Int} {k : Nat} {x y : ByteArray} {wr : World} (h : EFeedAt ext w g T a p s0 ls room k x y wr) (hx : k = ls.length ∨ y.size ≠ 0) : EFeedPost ext w g T a p s0 ls room (.returned (.tuple #[.int .i64 k, .string x])) wr :=
  ⟨k, x, y, rfl, h.le, h.sc, h.by_, h.kp, h.rm, h.full, h.few, h.ok, .inl ⟨h.enc, hx⟩⟩
theorem efeed_wrong {p : List Int} {s0 : ES} {ls : List Int} {room : Int} {k : Nat} {x y : ByteArray} {wr w2 : World} (h : EFeedAt ext w g T a p s0 ls room k x y wr) (hk : k < ls.length) (hn : isB (ls.getD k 0) = false) (hy : y.size = 0) (he : Enc w2 g T (a + k) 2 (a + k) false y (eown (erun s0 (ls.take k)).2 ++ ext)) (hkp : Kp (fun k => k = g) wr w2) :
    EFeedPost ext w g T a p s0 ls room (.returned (.tuple #[.int .i64 k, .string x])) w2 :=
  ⟨k, x, y, rfl, h.le, h.sc, h.by_, h.kp.tr hkp, h.rm, h.full, h.few, h.ok, .inr ⟨hk, hn, hy, he⟩⟩
theorem efeed_any (A : Option Addr) (n c : Nat) (ls : List Int) (room : Int) (s0 : ES) (p : List Int) (kept : ByteArray) (hp : bytesOf kept = p) (hpl : p.length ≤ 100) (hs : eok s0) (hr : ReadsInt w .u32 A n ls) (hrg : ∀ ad, A = some ad → ad.block ≠ g) (hwf : ∀ k, 0 ≤ ls.getD k 0 ∧ ls.getD k 0 ≤ 4294967295) (hn : n ≤ 1000000) (ha0 : 0 ≤ a) (ha1 : a ≤ 1000000000) (hr1 : room ≤ 1000000000) (hr0 : -1000000000 ≤ room) (h : Enc w g T a 0 0 false kept (eown s0 ++ ext)) :
    Calls Try.prog 35 #[.pointer (some ⟨g, 0, none⟩), .slice A n c, .int .i64 room] w (EFeedPost ext w g T a p s0 ls room) := by
  have HD := Lib.hid h
  have HLN := Lib.hid hr.1
  have HR := Lib.hid hr
  have HRG := Lib.hid hrg
  have HWF := Lib.hid hwf
  have HPP := Lib.hid hp
  have HSS := Lib.hid hs
  have HLB : Hid (∀ (q : ES) (y : ByteArray) (cc : Int), y.size = 0 → eok q → 0 ≤ cc → isB cc = true → y.size + (strOfNums (eby q cc).1).size ≤ 1073741824 ∧ (y ++ strOfNums (eby q cc).1).size ≤ 1073741824) := by
    intro q y cc hy hq h0 hb
    have hl := eby_len q cc
    have hz : (strOfNums (eby q cc).1).size = (eby q cc).1.length := by simp [strOfNums, ByteArray.size]
    have hsz : (y ++ strOfNums (eby q cc).1).size = y.size + (strOfNums (eby q cc).1).size := ByteArray.size_append
    omega
  clear h hr hrg hwf hp hs
  go_enter Try.func35, Try.ntmps35
  go_wp2_with (first | (go_at_call 55; go_must (refine (enc_give room (by rw [← bytesOf_length, HPP.out]; omega) HD.out).mono ?_); rintro e w1 ⟨x, y, rfl, he1, hk1, hg1⟩; have HF := Lib.hid (efeed_start (ls := ls) HPP.out HSS.out hg1 he1 hk1); clear he1 hk1 hg1))
  go_loopw [8, 9] (fun o q wr => ∃ (k : Nat) (x y : ByteArray), q = .int .i64 k ∧ o = .string x ∧ EFeedAt ext w g T a p s0 ls room k x y wr) (fun _ q _ => n - (intOf q).toNat)
  case atStart => exact ⟨0, _, _, rfl, rfl, HF.out⟩
  case round =>
    clear HF
    obtain ⟨k, x, y, rfl, rfl, hk⟩ := hrel
    have hle := hk.le
    have hrm := hk.rm
    have hfew := hk.few
    have hkn : k ≤ n := by have := HLN.out; omega
    have HE := Lib.hid hk.enc
    have HK := Lib.hid hk
    clear hk
    by_cases hlt : k < n
    · by_cases hy : y.size = 0
      · have hyb : ((y.size : Int) == 0) = true := by simp [hy]
        have hr1 := reads_kp HR.out HK.out.kp HRG.out
        obtain ⟨ad, rfl, hc⟩ := hr1.at_ (k : Int) (by omega) (by omega)
        rw [Int.toNat_natCast, show rd ls (k : Int) = ls.getD k 0 from rfl] at hc
        have hw := HWF.out k
        have HY := Lib.hid hy
        have HLT := Lib.hid (show k < ls.length by have := HLN.out; omega)
        generalize hgc : ls.getD k 0 = cc at *
        have HGC := Lib.hid hgc
        clear hgc hy hr1
        cases hb : isB cc with
        | false =>
          have HB := Lib.hid hb
          clear hb
          go_wp2_with (first | (go_at_call 26; go_must (refine (enc_kept HE.out).mono ?_); rintro e w' ⟨rfl, rfl⟩) | (go_at_call 47; go_must (refine (going_yes HE.out).mono ?_); rintro e w' ⟨rfl, rfl⟩) | (go_at_call 56; go_must (refine (is_any cc _).mono ?_); rw [HB.out]; rintro e w' ⟨rfl, rfl⟩) | (go_at_call 49; go_must (refine (stop_yes 2 rfl HE.out).mono ?_); rintro e w2 ⟨rfl, he2, hk2⟩; have HE2 := Lib.hid he2; have HK2 := Lib.hid hk2; clear he2 hk2))
          go_ret2
          exact efeed_wrong HK.out HLT.out (by rw [HGC.out]; exact HB.out) HY.out HE2.out HK2.out
        | true =>
          have HB := Lib.hid hb
          clear hb
          go_wp2_with (first | (go_at_call 26; go_must (refine (enc_kept HE.out).mono ?_); rintro e w' ⟨rfl, rfl⟩) | (go_at_call 47; go_must (refine (going_yes HE.out).mono ?_); rintro e w' ⟨rfl, rfl⟩) | (go_at_call 56; go_must (refine (is_any cc _).mono ?_); rw [HB.out]; rintro e w' ⟨rfl, rfl⟩))
          have hw0 := HWF.out k
          have hadg : (ad.add k).block ≠ g := by rw [add_block]; exact HRG.out ad rfl
          have HADG := Lib.hid hadg
          have HADL := Lib.hid (World.block_lt_of_cell? wr _ hc)
          clear hadg
          go_region_held3 (fun w' => w'.cell? (ad.add k) = some (.int .u32 cc)) (first | assumption | go_keep) (first | (go_at_call 58; refine (ebytes_any (w := wr.drew) (erun s0 (ls.take k)).2 cc HK.out.ok (by omega) HB.out HE.out).mono ?_; rintro e w3 ⟨rfl, he3, hk3⟩; have HE3 := Lib.hid he3; have HK3 := Lib.hid hk3; have hc3 : w3.cell? (ad.add k) = some (.int .u32 cc) := (World.cell?_of_block (w := wr) (hk3.block _ HADL.out HADG.out)).trans hc; clear he3 hk3) | (go_at_call 57; refine (enc_keep (HLB.out _ y cc HY.out HK.out.ok (by omega) HB.out).1 HE3.out).mono ?_; rintro e w4 ⟨rfl, he4, hk4⟩; have HE4 := Lib.hid he4; have HK4 := Lib.hid hk4; have hc4 : w4.cell? (ad.add k) = some (.int .u32 cc) := (World.cell?_of_block (w := w3) (hk4.block _ (Nat.lt_of_lt_of_le HADL.out HK3.out.size) HADG.out)).trans hc3; clear he4 hk4))
          go_wp2_with (first | (go_at_call 50; go_must (refine (eat_pos 1 (by omega) (by omega) (by omega) (by omega) HE4.out).mono ?_); rintro e w5 ⟨rfl, he5, hk5⟩; have HE5 := Lib.hid he5; have HK5 := Lib.hid hk5; clear he5 hk5) | (go_at_call 55; go_must (refine (enc_give _ (HLB.out _ y cc HY.out HK.out.ok (by omega) HB.out).2 HE5.out).mono ?_); rintro e w6 ⟨x6, y6, rfl, he6, hk6, hg6⟩; have HE6 := Lib.hid he6; have HK6 := Lib.hid hk6; have HG6 := Lib.hid hg6; have hx6 := hg6.le; clear he6 hk6 hg6))
          go_roundw
          case rel => exact ⟨k + 1, _, _, rfl, rfl, efeed_on HK.out HLT.out (by rw [HGC.out]; omega) (by rw [HGC.out]; exact HB.out) HY.out (by rw [HGC.out]) HG6.out (by rw [HGC.out]; exact HE6.out) (((((Kp.refl _ _).drew.tr HK3.out).tr HK4.out).tr HK5.out).tr HK6.out)⟩
          case measure => simp [intOf]; omega
      · have HY : Hid (y.size ≠ 0) := hy
        have hyb : ((y.size : Int) == 0) = false := by simp [hy]
        clear hy
        go_wp2_with (first | (go_at_call 26; go_must (refine (enc_kept HE.out).mono ?_); rintro e w' ⟨rfl, rfl⟩))
        go_ret2
        exact efeed_end HK.out (.inr HY.out)
    · have HX := Lib.hid (show k = ls.length from by have := HLN.out; omega)
      go_wp2_with (first | (go_at_call 26; go_must (refine (enc_kept HE.out).mono ?_); rintro e w' ⟨rfl, rfl⟩))
      go_ret2
      exact efeed_end HK.out (.inl HX.out)
end
end Go.Proofs.Ytcfpbihkodjlkaa.M
