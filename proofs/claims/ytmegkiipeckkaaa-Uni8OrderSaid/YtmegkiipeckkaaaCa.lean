/- UTF-8's machine, byte by byte: the contracts of scalar.Is, lead, next. -/
import Derived.Test.YtmegkiipeckkaaaDec
import Derived.OpenShut
import Derived.Lib.EndianBits
import Derived.Laws.BitsLemmas
import Derived.Laws.BitsAllLaws
import Derived.Deep.RegionHeld3
namespace Go.Proofs.Ytmegkiipeckkaaa
open Go.RowKit Go.Proofs.YtmegkiipeckkaaaW.PrintWords Go.Proofs.YtmegkiipeckkaaaW.PrintMore
set_option linter.unusedVariables false
set_option linter.unusedSimpArgs false
def isB (c : Int) : Bool := decide (c ≤ 1114111) && (decide (c < 55296) || decide (57343 < c))
theorem is_any (c : Int) (w : World) : Calls Try.prog 42 #[.int .u32 c] w fun en w' => en = .returned (.bool (isB c)) ∧ w = w' := by
  by_cases h1 : c ≤ 1114111
  · by_cases h2 : c < 55296
    · have e : isB c = true := by simp [isB, h1, h2]
      rw [e]
      go_enter Try.func42, Try.ntmps42
      go_wp2
      go_ret
      exact ⟨rfl, rfl⟩
    · by_cases h3 : 57343 < c
      · have e : isB c = true := by simp [isB, h1, h3]
        rw [e]
        go_enter Try.func42, Try.ntmps42
        go_wp2
        go_ret
        exact ⟨rfl, rfl⟩
      · have e : isB c = false := by simp [isB, h2, h3]
        rw [e]
        go_enter Try.func42, Try.ntmps42
        go_wp2
        go_ret
        exact ⟨rfl, rfl⟩
  · have e : isB c = false := by simp [isB, h1]
    rw [e]
    go_enter Try.func42, Try.ntmps42
    go_wp2
    go_ret
    exact ⟨rfl, rfl⟩
section
variable {w : World} {g T : Nat} {a e f : Int} {d : Bool} {v : Value} {xs : List Int} {nd lo hi c : Int}
abbrev own8 (nd lo hi c : Int) : List Value := [.int .i64 nd, .int .u8 lo, .int .u8 hi, .int .u32 c]
theorem lead_lt (b : Int) (hb0 : 0 ≤ b) (hb : b < 194) (h : Dec w g T a e f d v xs (own8 nd lo hi c)) :
    Calls Try.prog 47 #[.pointer (some ⟨g, 0, none⟩), .int .u8 b] w fun en w' => en = .returned (.bool false) ∧ Dec w' g T a e f d v xs (own8 nd 128 191 c) ∧ Stp w g v w' v := by
  have d194 : decide (b < (194 : Int)) = true := decide_eq_true (by omega)
  have c5 : w.cell? ⟨g, 5, none⟩ = some (.int .i64 nd) := h.co 0
  have c6 : w.cell? ⟨g, 6, none⟩ = some (.int .u8 lo) := h.co 1
  have c7 : w.cell? ⟨g, 7, none⟩ = some (.int .u8 hi) := h.co 2
  have c8 : w.cell? ⟨g, 8, none⟩ = some (.int .u32 c) := h.co 3
  have f5 := h.fz 5
  have f6 := h.fz 6
  have f7 := h.fz 7
  have f8 := h.fz 8
  have H := Lib.hid h
  clear h
  go_enter Try.func47, Try.ntmps47
  go_wp2_with fail
  go_ret
  exact ⟨rfl, ((H.out.set 1 _).set 2 _), Stp.mine (((Kp.refl _ _).setg _ _).setg _ _)⟩
theorem lead_gt (b : Int) (hb0 : 244 < b) (hb : b ≤ 255) (h : Dec w g T a e f d v xs (own8 nd lo hi c)) :
    Calls Try.prog 47 #[.pointer (some ⟨g, 0, none⟩), .int .u8 b] w fun en w' => en = .returned (.bool false) ∧ Dec w' g T a e f d v xs (own8 nd 128 191 c) ∧ Stp w g v w' v := by
  have d194 : decide (b < (194 : Int)) = false := decide_eq_false (by omega)
  have g244 : decide ((244 : Int) < b) = true := decide_eq_true (by omega)
  have c5 : w.cell? ⟨g, 5, none⟩ = some (.int .i64 nd) := h.co 0
  have c6 : w.cell? ⟨g, 6, none⟩ = some (.int .u8 lo) := h.co 1
  have c7 : w.cell? ⟨g, 7, none⟩ = some (.int .u8 hi) := h.co 2
  have c8 : w.cell? ⟨g, 8, none⟩ = some (.int .u32 c) := h.co 3
  have f5 := h.fz 5
  have f6 := h.fz 6
  have f7 := h.fz 7
  have f8 := h.fz 8
  have H := Lib.hid h
  clear h
  go_enter Try.func47, Try.ntmps47
  go_wp2_with fail
  go_ret
  exact ⟨rfl, ((H.out.set 1 _).set 2 _), Stp.mine (((Kp.refl _ _).setg _ _).setg _ _)⟩
theorem lead_1 (b : Int) (hb0 : 194 ≤ b) (hb : b < 224) (h : Dec w g T a e f d v xs (own8 nd lo hi c)) :
    Calls Try.prog 47 #[.pointer (some ⟨g, 0, none⟩), .int .u8 b] w fun en w' => en = .returned (.bool true) ∧ Dec w' g T a e f d v xs (own8 1 128 191 (b % 32)) ∧ Stp w g v w' v := by
  have d194 : decide (b < (194 : Int)) = false := decide_eq_false (by omega)
  have g244 : decide ((244 : Int) < b) = false := decide_eq_false (by omega)
  have d224 : decide (b < (224 : Int)) = true := decide_eq_true (by omega)
  have n224 : (b == 224) = false := by simp; omega
  have n237 : (b == 237) = false := by simp; omega
  have n240 : (b == 240) = false := by simp; omega
  have n244 : (b == 244) = false := by simp; omega
  have c5 : w.cell? ⟨g, 5, none⟩ = some (.int .i64 nd) := h.co 0
  have c6 : w.cell? ⟨g, 6, none⟩ = some (.int .u8 lo) := h.co 1
  have c7 : w.cell? ⟨g, 7, none⟩ = some (.int .u8 hi) := h.co 2
  have c8 : w.cell? ⟨g, 8, none⟩ = some (.int .u32 c) := h.co 3
  have f5 := h.fz 5
  have f6 := h.fz 6
  have f7 := h.fz 7
  have f8 := h.fz 8
  have H := Lib.hid h
  clear h
  go_enter Try.func47, Try.ntmps47
  go_wp2_with fail
  go_ret
  exact ⟨rfl, ((((H.out.set 1 _).set 2 _).set 0 _).set 3 _), Stp.mine (((((Kp.refl _ _).setg _ _).setg _ _).setg _ _).setg _ _)⟩
theorem lead_2 (b : Int) (hb0 : 224 < b) (hb : b < 240) (hb2 : b ≠ 237) (h : Dec w g T a e f d v xs (own8 nd lo hi c)) :
    Calls Try.prog 47 #[.pointer (some ⟨g, 0, none⟩), .int .u8 b] w fun en w' => en = .returned (.bool true) ∧ Dec w' g T a e f d v xs (own8 2 128 191 (b % 16)) ∧ Stp w g v w' v := by
  have d194 : decide (b < (194 : Int)) = false := decide_eq_false (by omega)
  have g244 : decide ((244 : Int) < b) = false := decide_eq_false (by omega)
  have d224 : decide (b < (224 : Int)) = false := decide_eq_false (by omega)
  have d240 : decide (b < (240 : Int)) = true := decide_eq_true (by omega)
  have n224 : (b == 224) = false := by simp; omega
  have n237 : (b == 237) = false := by simp; omega
  have n240 : (b == 240) = false := by simp; omega
  have n244 : (b == 244) = false := by simp; omega
  have c5 : w.cell? ⟨g, 5, none⟩ = some (.int .i64 nd) := h.co 0
  have c6 : w.cell? ⟨g, 6, none⟩ = some (.int .u8 lo) := h.co 1
  have c7 : w.cell? ⟨g, 7, none⟩ = some (.int .u8 hi) := h.co 2
  have c8 : w.cell? ⟨g, 8, none⟩ = some (.int .u32 c) := h.co 3
  have f5 := h.fz 5
  have f6 := h.fz 6
  have f7 := h.fz 7
  have f8 := h.fz 8
  have H := Lib.hid h
  clear h
  go_enter Try.func47, Try.ntmps47
  go_wp2_with fail
  go_ret
  exact ⟨rfl, ((((H.out.set 1 _).set 2 _).set 0 _).set 3 _), Stp.mine (((((Kp.refl _ _).setg _ _).setg _ _).setg _ _).setg _ _)⟩
theorem lead_3 (b : Int) (hb0 : 240 < b) (hb : b < 244) (h : Dec w g T a e f d v xs (own8 nd lo hi c)) :
    Calls Try.prog 47 #[.pointer (some ⟨g, 0, none⟩), .int .u8 b] w fun en w' => en = .returned (.bool true) ∧ Dec w' g T a e f d v xs (own8 3 128 191 (b % 8)) ∧ Stp w g v w' v := by
  have d194 : decide (b < (194 : Int)) = false := decide_eq_false (by omega)
  have g244 : decide ((244 : Int) < b) = false := decide_eq_false (by omega)
  have d224 : decide (b < (224 : Int)) = false := decide_eq_false (by omega)
  have d240 : decide (b < (240 : Int)) = false := decide_eq_false (by omega)
  have n224 : (b == 224) = false := by simp; omega
  have n237 : (b == 237) = false := by simp; omega
  have n240 : (b == 240) = false := by simp; omega
  have n244 : (b == 244) = false := by simp; omega
  have c5 : w.cell? ⟨g, 5, none⟩ = some (.int .i64 nd) := h.co 0
  have c6 : w.cell? ⟨g, 6, none⟩ = some (.int .u8 lo) := h.co 1
  have c7 : w.cell? ⟨g, 7, none⟩ = some (.int .u8 hi) := h.co 2
  have c8 : w.cell? ⟨g, 8, none⟩ = some (.int .u32 c) := h.co 3
  have f5 := h.fz 5
  have f6 := h.fz 6
  have f7 := h.fz 7
  have f8 := h.fz 8
  have H := Lib.hid h
  clear h
  go_enter Try.func47, Try.ntmps47
  go_wp2_with fail
  go_ret
  exact ⟨rfl, ((((H.out.set 1 _).set 2 _).set 0 _).set 3 _), Stp.mine (((((Kp.refl _ _).setg _ _).setg _ _).setg _ _).setg _ _)⟩
theorem lead_224 (b : Int) (hb : b = 224) (h : Dec w g T a e f d v xs (own8 nd lo hi c)) :
    Calls Try.prog 47 #[.pointer (some ⟨g, 0, none⟩), .int .u8 b] w fun en w' => en = .returned (.bool true) ∧ Dec w' g T a e f d v xs (own8 2 160 191 0) ∧ Stp w g v w' v := by
  subst hb
  have c5 : w.cell? ⟨g, 5, none⟩ = some (.int .i64 nd) := h.co 0
  have c6 : w.cell? ⟨g, 6, none⟩ = some (.int .u8 lo) := h.co 1
  have c7 : w.cell? ⟨g, 7, none⟩ = some (.int .u8 hi) := h.co 2
  have c8 : w.cell? ⟨g, 8, none⟩ = some (.int .u32 c) := h.co 3
  have f5 := h.fz 5
  have f6 := h.fz 6
  have f7 := h.fz 7
  have f8 := h.fz 8
  have H := Lib.hid h
  clear h
  go_enter Try.func47, Try.ntmps47
  go_wp2_with fail
  go_ret
  exact ⟨rfl, (((((H.out.set 1 _).set 2 _).set 0 _).set 3 _).set 1 _), Stp.mine ((((((Kp.refl _ _).setg _ _).setg _ _).setg _ _).setg _ _).setg _ _)⟩
theorem lead_237 (b : Int) (hb : b = 237) (h : Dec w g T a e f d v xs (own8 nd lo hi c)) :
    Calls Try.prog 47 #[.pointer (some ⟨g, 0, none⟩), .int .u8 b] w fun en w' => en = .returned (.bool true) ∧ Dec w' g T a e f d v xs (own8 2 128 159 13) ∧ Stp w g v w' v := by
  subst hb
  have c5 : w.cell? ⟨g, 5, none⟩ = some (.int .i64 nd) := h.co 0
  have c6 : w.cell? ⟨g, 6, none⟩ = some (.int .u8 lo) := h.co 1
  have c7 : w.cell? ⟨g, 7, none⟩ = some (.int .u8 hi) := h.co 2
  have c8 : w.cell? ⟨g, 8, none⟩ = some (.int .u32 c) := h.co 3
  have f5 := h.fz 5
  have f6 := h.fz 6
  have f7 := h.fz 7
  have f8 := h.fz 8
  have H := Lib.hid h
  clear h
  go_enter Try.func47, Try.ntmps47
  go_wp2_with fail
  go_ret
  exact ⟨rfl, (((((H.out.set 1 _).set 2 _).set 0 _).set 3 _).set 2 _), Stp.mine ((((((Kp.refl _ _).setg _ _).setg _ _).setg _ _).setg _ _).setg _ _)⟩
theorem lead_240 (b : Int) (hb : b = 240) (h : Dec w g T a e f d v xs (own8 nd lo hi c)) :
    Calls Try.prog 47 #[.pointer (some ⟨g, 0, none⟩), .int .u8 b] w fun en w' => en = .returned (.bool true) ∧ Dec w' g T a e f d v xs (own8 3 144 191 0) ∧ Stp w g v w' v := by
  subst hb
  have c5 : w.cell? ⟨g, 5, none⟩ = some (.int .i64 nd) := h.co 0
  have c6 : w.cell? ⟨g, 6, none⟩ = some (.int .u8 lo) := h.co 1
  have c7 : w.cell? ⟨g, 7, none⟩ = some (.int .u8 hi) := h.co 2
  have c8 : w.cell? ⟨g, 8, none⟩ = some (.int .u32 c) := h.co 3
  have f5 := h.fz 5
  have f6 := h.fz 6
  have f7 := h.fz 7
  have f8 := h.fz 8
  have H := Lib.hid h
  clear h
  go_enter Try.func47, Try.ntmps47
  go_wp2_with fail
  go_ret
  exact ⟨rfl, (((((H.out.set 1 _).set 2 _).set 0 _).set 3 _).set 1 _), Stp.mine ((((((Kp.refl _ _).setg _ _).setg _ _).setg _ _).setg _ _).setg _ _)⟩
theorem lead_244 (b : Int) (hb : b = 244) (h : Dec w g T a e f d v xs (own8 nd lo hi c)) :
    Calls Try.prog 47 #[.pointer (some ⟨g, 0, none⟩), .int .u8 b] w fun en w' => en = .returned (.bool true) ∧ Dec w' g T a e f d v xs (own8 3 128 143 4) ∧ Stp w g v w' v := by
  subst hb
  have c5 : w.cell? ⟨g, 5, none⟩ = some (.int .i64 nd) := h.co 0
  have c6 : w.cell? ⟨g, 6, none⟩ = some (.int .u8 lo) := h.co 1
  have c7 : w.cell? ⟨g, 7, none⟩ = some (.int .u8 hi) := h.co 2
  have c8 : w.cell? ⟨g, 8, none⟩ = some (.int .u32 c) := h.co 3
  have f5 := h.fz 5
  have f6 := h.fz 6
  have f7 := h.fz 7
  have f8 := h.fz 8
  have H := Lib.hid h
  clear h
  go_enter Try.func47, Try.ntmps47
  go_wp2_with fail
  go_ret
  exact ⟨rfl, (((((H.out.set 1 _).set 2 _).set 0 _).set 3 _).set 2 _), Stp.mine ((((((Kp.refl _ _).setg _ _).setg _ _).setg _ _).setg _ _).setg _ _)⟩
/-! ### The machine's own state, and one byte -/
structure CS where
  nd : Int
  lo : Int
  hi : Int
  c : Int
def cown (s : CS) : List Value := own8 s.nd s.lo s.hi s.c
def cok (s : CS) : Prop := (0 ≤ s.nd ∧ s.nd ≤ 3) ∧ (0 ≤ s.lo ∧ s.lo ≤ 255) ∧ (0 ≤ s.hi ∧ s.hi ≤ 255) ∧ 0 ≤ s.c ∧ s.c ≤ 2097151 ∧ (s.nd = 1 → s.c ≤ 32767) ∧ (s.nd = 2 → s.c ≤ 511) ∧ (s.nd = 3 → s.c ≤ 7)
/-- The state behind a first byte of several. -/
def leadF (b : Int) : CS :=
  if b < 224 then ⟨1, 128, 191, b % 32⟩ else if b < 240 then ⟨2, if b = 224 then 160 else 128, if b = 237 then 159 else 191, b % 16⟩ else ⟨3, if b = 240 then 144 else 128, if b = 244 then 143 else 191, b % 8⟩
def cnx (s : CS) (b : Int) : Option (CS × Option Int) :=
  if s.nd = 0 then (if b < 128 then some (s, some b) else if b < 194 ∨ 244 < b then none else some (leadF b, none))
  else if b < s.lo ∨ s.hi < b then none
  else if s.nd = 1 then some (⟨0, 128, 191, s.c * 64 + b % 64⟩, some (s.c * 64 + b % 64)) else some (⟨s.nd - 1, 128, 191, s.c * 64 + b % 64⟩, none)
/-- Does something wait, so that an end cuts it? -/
def ccut (s : CS) : Bool := decide (s.nd > 0)
theorem leadF_ok {b : Int} (h0 : 194 ≤ b) (h1 : b ≤ 244) : cok (leadF b) := by
  unfold leadF cok
  split
  · simp only; omega
  · split
    · simp only; split <;> split <;> omega
    · simp only; split <;> split <;> omega
theorem lead_any (b : Int) (hb0 : 0 ≤ b) (hb1 : b ≤ 255) (h : Dec w g T a e f d v xs (own8 nd lo hi c)) :
    Calls Try.prog 47 #[.pointer (some ⟨g, 0, none⟩), .int .u8 b] w fun en w' => ((b < 194 ∨ 244 < b) ∧ en = .returned (.bool false) ∧ Dec w' g T a e f d v xs (own8 nd 128 191 c) ∧ Stp w g v w' v) ∨ (¬ (b < 194 ∨ 244 < b) ∧ en = .returned (.bool true) ∧ Dec w' g T a e f d v xs (cown (leadF b)) ∧ Stp w g v w' v) := by
  by_cases h1 : b < 194
  · exact (lead_lt b hb0 h1 h).mono fun en w' h9 => .inl ⟨.inl h1, h9⟩
  by_cases h2 : 244 < b
  · exact (lead_gt b h2 hb1 h).mono fun en w' h9 => .inl ⟨.inr h2, h9⟩
  have hn : ¬ (b < 194 ∨ 244 < b) := by omega
  by_cases h3 : b < 224
  · have e : cown (leadF b) = own8 1 128 191 (b % 32) := by unfold leadF; rw [if_pos h3]; rfl
    rw [e]
    exact (lead_1 b (by omega) h3 h).mono fun en w' h9 => .inr ⟨hn, h9⟩
  by_cases h4 : b < 240
  · by_cases h5 : b = 224
    · have e : cown (leadF b) = own8 2 160 191 0 := by subst h5; rfl
      rw [e]
      exact (lead_224 b h5 h).mono fun en w' h9 => .inr ⟨hn, h9⟩
    by_cases h6 : b = 237
    · have e : cown (leadF b) = own8 2 128 159 13 := by subst h6; rfl
      rw [e]
      exact (lead_237 b h6 h).mono fun en w' h9 => .inr ⟨hn, h9⟩
    have e : cown (leadF b) = own8 2 128 191 (b % 16) := by unfold leadF; rw [if_neg h3, if_pos h4, if_neg h5, if_neg h6]; rfl
    rw [e]
    exact (lead_2 b (by omega) h4 h6 h).mono fun en w' h9 => .inr ⟨hn, h9⟩
  · by_cases h5 : b = 240
    · have e : cown (leadF b) = own8 3 144 191 0 := by subst h5; rfl
      rw [e]
      exact (lead_240 b h5 h).mono fun en w' h9 => .inr ⟨hn, h9⟩
    by_cases h6 : b = 244
    · have e : cown (leadF b) = own8 3 128 143 4 := by subst h6; rfl
      rw [e]
      exact (lead_244 b h6 h).mono fun en w' h9 => .inr ⟨hn, h9⟩
    have e : cown (leadF b) = own8 3 128 191 (b % 8) := by unfold leadF; rw [if_neg h3, if_neg h4, if_neg h5, if_neg h6]; rfl
    rw [e]
    exact (lead_3 b (by omega) (by omega) h).mono fun en w' h9 => .inr ⟨hn, h9⟩
theorem cnx_ok {s s' : CS} {b : Int} {r : Option Int} (hs : cok s) (h : cnx s b = some (s', r)) : cok s' := by
  have h9 := hs
  obtain ⟨h1, h2, h3, h4, h5, h6, h7, h8⟩ := hs
  unfold cnx at h
  split at h
  · split at h
    · simp only [Option.some.injEq, Prod.mk.injEq] at h
      obtain ⟨rfl, _⟩ := h
      exact h9
    · split at h
      · cases h
      · simp only [Option.some.injEq, Prod.mk.injEq] at h
        obtain ⟨rfl, _⟩ := h
        exact leadF_ok (by omega) (by omega)
  · split at h
    · cases h
    · split at h
      · simp only [Option.some.injEq, Prod.mk.injEq] at h
        obtain ⟨rfl, _⟩ := h
        unfold cok
        simp only
        omega
      · simp only [Option.some.injEq, Prod.mk.injEq] at h
        obtain ⟨rfl, _⟩ := h
        unfold cok
        simp only
        omega
/-- The bits of one byte more. -/
def cat8 (c b : Int) : Int := Go.bits .or .u32 (c * 64) (b % 64)
theorem cat8_at (c b : Int) (hc0 : 0 ≤ c) (hc1 : c ≤ 2097151) (hb0 : 0 ≤ b) (hb1 : b ≤ 255) : cat8 c b = c * 64 + b % 64 := by
  unfold cat8
  rw [u32_or _ _ (by omega) (by omega) (by omega) (by omega), nat_join6 _ _ (by omega) (by omega)]
  omega
theorem next_ascii (b : Int) (hb0 : 0 ≤ b) (hb1 : b ≤ 255) (hl : xs.length + 1 ≤ 1073741824) (hb : b < 128) (h : Dec w g T a e f d v xs (own8 0 lo hi c)) :
    Calls Try.prog 37 #[.pointer (some ⟨g, 0, none⟩), .int .u8 b] w fun en w' => en = .returned (.bool true) ∧ ∃ v', Dec w' g T a e f d v' (xs ++ [b]) (own8 0 lo hi c) ∧ Stp w g v w' v' := by
  have hd : decide (b < (128 : Int)) = true := decide_eq_true hb
  have c5 : w.cell? ⟨g, 5, none⟩ = some (.int .i64 0) := h.co 0
  have c6 : w.cell? ⟨g, 6, none⟩ = some (.int .u8 lo) := h.co 1
  have c7 : w.cell? ⟨g, 7, none⟩ = some (.int .u8 hi) := h.co 2
  have c8 : w.cell? ⟨g, 8, none⟩ = some (.int .u32 c) := h.co 3
  have f5 := h.fz 5
  have f6 := h.fz 6
  have f7 := h.fz 7
  have f8 := h.fz 8
  have H := Lib.hid h
  clear h
  go_enter Try.func37, Try.ntmps37
  go_wp2_with fail
  refine (dec_hold_one b rfl hl H.out).mono ?_
  rintro en w1 ⟨rfl, v1, hd1', hs1⟩
  have HD1 := Lib.hid hd1'
  have HS1 := Lib.hid hs1
  clear hd1' hs1
  go_wp2_with fail
  go_ret
  exact ⟨rfl, _, HD1.out, HS1.out⟩
theorem next_lead_no (b : Int) (hb0 : 0 ≤ b) (hb1 : b ≤ 255) (hl : xs.length + 1 ≤ 1073741824) (hb : 128 ≤ b) (hbb : b < 194 ∨ 244 < b) (h : Dec w g T a e f d v xs (own8 0 lo hi c)) :
    Calls Try.prog 37 #[.pointer (some ⟨g, 0, none⟩), .int .u8 b] w fun en w' => en = .returned (.bool false) ∧ Dec w' g T a e f d v xs (own8 0 128 191 c) ∧ Stp w g v w' v := by
  have hd : decide (b < (128 : Int)) = false := decide_eq_false (by omega)
  have c5 : w.cell? ⟨g, 5, none⟩ = some (.int .i64 0) := h.co 0
  have c6 : w.cell? ⟨g, 6, none⟩ = some (.int .u8 lo) := h.co 1
  have c7 : w.cell? ⟨g, 7, none⟩ = some (.int .u8 hi) := h.co 2
  have c8 : w.cell? ⟨g, 8, none⟩ = some (.int .u32 c) := h.co 3
  have f5 := h.fz 5
  have f6 := h.fz 6
  have f7 := h.fz 7
  have f8 := h.fz 8
  have H := Lib.hid h
  clear h
  have HBB := Lib.hid hbb
  clear hbb
  go_enter Try.func37, Try.ntmps37
  go_wp2_with fail
  refine (lead_any b hb0 hb1 H.out).mono ?_
  rintro en w1 h1
  rcases h1 with ⟨h2, rfl, h3, h4⟩ | ⟨h2, rfl, h3, h4⟩
  · have HD1 := Lib.hid h3
    have HS1 := Lib.hid h4
    clear h2 h3 h4
    go_wp2_with fail
    go_ret
    exact ⟨rfl, HD1.out, HS1.out⟩
  · exact absurd HBB.out h2
theorem next_lead_ok (b : Int) (hb0 : 0 ≤ b) (hb1 : b ≤ 255) (hl : xs.length + 1 ≤ 1073741824) (hb : 128 ≤ b) (hbb : ¬ (b < 194 ∨ 244 < b)) (h : Dec w g T a e f d v xs (own8 0 lo hi c)) :
    Calls Try.prog 37 #[.pointer (some ⟨g, 0, none⟩), .int .u8 b] w fun en w' => en = .returned (.bool true) ∧ Dec w' g T a e f d v xs (cown (leadF b)) ∧ Stp w g v w' v := by
  have hd : decide (b < (128 : Int)) = false := decide_eq_false (by omega)
  have c5 : w.cell? ⟨g, 5, none⟩ = some (.int .i64 0) := h.co 0
  have c6 : w.cell? ⟨g, 6, none⟩ = some (.int .u8 lo) := h.co 1
  have c7 : w.cell? ⟨g, 7, none⟩ = some (.int .u8 hi) := h.co 2
  have c8 : w.cell? ⟨g, 8, none⟩ = some (.int .u32 c) := h.co 3
  have f5 := h.fz 5
  have f6 := h.fz 6
  have f7 := h.fz 7
  have f8 := h.fz 8
  have H := Lib.hid h
  clear h
  have HBB := Lib.hid hbb
  clear hbb
  go_enter Try.func37, Try.ntmps37
  go_wp2_with fail
  refine (lead_any b hb0 hb1 H.out).mono ?_
  rintro en w1 h1
  rcases h1 with ⟨h2, rfl, h3, h4⟩ | ⟨h2, rfl, h3, h4⟩
  · exact absurd h2 HBB.out
  · have HD1 := Lib.hid h3
    have HS1 := Lib.hid h4
    clear h2 h3 h4
    go_wp2_with fail
    go_ret
    exact ⟨rfl, HD1.out, HS1.out⟩
theorem next_out_lo (b : Int) (hb0 : 0 ≤ b) (hb1 : b ≤ 255) (hl : xs.length + 1 ≤ 1073741824) (hn : 1 ≤ nd) (hb : b < lo) (h : Dec w g T a e f d v xs (own8 nd lo hi c)) :
    Calls Try.prog 37 #[.pointer (some ⟨g, 0, none⟩), .int .u8 b] w fun en w' => en = .returned (.bool false) ∧ Dec w' g T a e f d v xs (own8 nd lo hi c) ∧ Stp w g v w' v := by
  have hn0 : (nd == 0) = false := by simp; omega
  have hd : decide (b < lo) = true := decide_eq_true hb
  have c5 : w.cell? ⟨g, 5, none⟩ = some (.int .i64 nd) := h.co 0
  have c6 : w.cell? ⟨g, 6, none⟩ = some (.int .u8 lo) := h.co 1
  have c7 : w.cell? ⟨g, 7, none⟩ = some (.int .u8 hi) := h.co 2
  have c8 : w.cell? ⟨g, 8, none⟩ = some (.int .u32 c) := h.co 3
  have f5 := h.fz 5
  have f6 := h.fz 6
  have f7 := h.fz 7
  have f8 := h.fz 8
  have H := Lib.hid h
  clear h
  go_enter Try.func37, Try.ntmps37
  go_wp2_with fail
  go_ret
  exact ⟨rfl, H.out, Stp.refl _ _ _⟩
theorem next_out_hi (b : Int) (hb0 : 0 ≤ b) (hb1 : b ≤ 255) (hl : xs.length + 1 ≤ 1073741824) (hn : 1 ≤ nd) (hbl : lo ≤ b) (hb : hi < b) (h : Dec w g T a e f d v xs (own8 nd lo hi c)) :
    Calls Try.prog 37 #[.pointer (some ⟨g, 0, none⟩), .int .u8 b] w fun en w' => en = .returned (.bool false) ∧ Dec w' g T a e f d v xs (own8 nd lo hi c) ∧ Stp w g v w' v := by
  have hn0 : (nd == 0) = false := by simp; omega
  have hd : decide (b < lo) = false := decide_eq_false (by omega)
  have hd2 : decide (hi < b) = true := decide_eq_true hb
  have c5 : w.cell? ⟨g, 5, none⟩ = some (.int .i64 nd) := h.co 0
  have c6 : w.cell? ⟨g, 6, none⟩ = some (.int .u8 lo) := h.co 1
  have c7 : w.cell? ⟨g, 7, none⟩ = some (.int .u8 hi) := h.co 2
  have c8 : w.cell? ⟨g, 8, none⟩ = some (.int .u32 c) := h.co 3
  have f5 := h.fz 5
  have f6 := h.fz 6
  have f7 := h.fz 7
  have f8 := h.fz 8
  have H := Lib.hid h
  clear h
  go_enter Try.func37, Try.ntmps37
  go_wp2_with fail
  go_ret
  exact ⟨rfl, H.out, Stp.refl _ _ _⟩
theorem next_on (b : Int) (hb0 : 0 ≤ b) (hb1 : b ≤ 255) (hl : xs.length + 1 ≤ 1073741824) (hn : 2 ≤ nd) (hn3 : nd ≤ 3) (hc0 : 0 ≤ c) (hc1 : c ≤ 2097151) (hbl : lo ≤ b) (hbh : b ≤ hi) (h : Dec w g T a e f d v xs (own8 nd lo hi c)) :
    Calls Try.prog 37 #[.pointer (some ⟨g, 0, none⟩), .int .u8 b] w fun en w' => en = .returned (.bool true) ∧ Dec w' g T a e f d v xs (own8 (nd - 1) 128 191 (c * 64 + b % 64)) ∧ Stp w g v w' v := by
  have hn0 : (nd == 0) = false := by simp; omega
  have hn1 : (nd - 1 == 0) = false := by simp; omega
  have hd : decide (b < lo) = false := decide_eq_false (by omega)
  have hd2 : decide (hi < b) = false := decide_eq_false (by omega)
  have hcat := cat8_at c b hc0 hc1 hb0 hb1
  rw [← hcat]
  clear hcat
  have hX : Go.bits .or .u32 (c * 64) (b % 64) = cat8 c b := rfl
  generalize cat8 c b = X at *
  subst hX
  have c5 : w.cell? ⟨g, 5, none⟩ = some (.int .i64 nd) := h.co 0
  have c6 : w.cell? ⟨g, 6, none⟩ = some (.int .u8 lo) := h.co 1
  have c7 : w.cell? ⟨g, 7, none⟩ = some (.int .u8 hi) := h.co 2
  have c8 : w.cell? ⟨g, 8, none⟩ = some (.int .u32 c) := h.co 3
  have f5 := h.fz 5
  have f6 := h.fz 6
  have f7 := h.fz 7
  have f8 := h.fz 8
  have H := Lib.hid h
  clear h
  go_enter Try.func37, Try.ntmps37
  go_wp2_with fail
  go_ret
  exact ⟨rfl, (((H.out.set 1 _).set 2 _).set 3 _).set 0 _, Stp.mine (((((Kp.refl _ _).setg _ _).setg _ _).setg _ _).setg _ _)⟩
theorem next_all (b : Int) (hb0 : 0 ≤ b) (hb1 : b ≤ 255) (hl : xs.length + 1 ≤ 1073741824) (hc0 : 0 ≤ c) (hc1 : c ≤ 2097151) (hbl : lo ≤ b) (hbh : b ≤ hi) (h : Dec w g T a e f d v xs (own8 1 lo hi c)) :
    Calls Try.prog 37 #[.pointer (some ⟨g, 0, none⟩), .int .u8 b] w fun en w' => en = .returned (.bool true) ∧ ∃ v', Dec w' g T a e f d v' (xs ++ [c * 64 + b % 64]) (own8 0 128 191 (c * 64 + b % 64)) ∧ Stp w g v w' v' := by
  have hd : decide (b < lo) = false := decide_eq_false (by omega)
  have hd2 : decide (hi < b) = false := decide_eq_false (by omega)
  have hcat := cat8_at c b hc0 hc1 hb0 hb1
  rw [← hcat]
  clear hcat
  have hX : Go.bits .or .u32 (c * 64) (b % 64) = cat8 c b := rfl
  generalize cat8 c b = X at *
  have HX := Lib.hid hX
  clear hX
  have c5 : w.cell? ⟨g, 5, none⟩ = some (.int .i64 1) := h.co 0
  have c6 : w.cell? ⟨g, 6, none⟩ = some (.int .u8 lo) := h.co 1
  have c7 : w.cell? ⟨g, 7, none⟩ = some (.int .u8 hi) := h.co 2
  have c8 : w.cell? ⟨g, 8, none⟩ = some (.int .u32 c) := h.co 3
  have f5 := h.fz 5
  have f6 := h.fz 6
  have f7 := h.fz 7
  have f8 := h.fz 8
  have H := Lib.hid h
  clear h
  go_enter Try.func37, Try.ntmps37
  go_wp2_with fail
  rw [HX.out]
  have HW : Hid (Dec ((((w.setCell ⟨g, 6, none⟩ (.int .u8 128)).setCell ⟨g, 7, none⟩ (.int .u8 191)).setCell ⟨g, 8, none⟩ (.int .u32 X)).setCell ⟨g, 5, none⟩ (.int .i64 0)) g T a e f d v xs (own8 0 128 191 X)) := Lib.hid ((((H.out.set 1 _).set 2 _).set 3 _).set 0 _)
  have HSW : Hid (Stp w g v ((((w.setCell ⟨g, 6, none⟩ (.int .u8 128)).setCell ⟨g, 7, none⟩ (.int .u8 191)).setCell ⟨g, 8, none⟩ (.int .u32 X)).setCell ⟨g, 5, none⟩ (.int .i64 0)) v) := Lib.hid (Stp.mine (((((Kp.refl _ _).setg _ _).setg _ _).setg _ _).setg _ _))
  generalize ((((w.setCell ⟨g, 6, none⟩ (.int .u8 128)).setCell ⟨g, 7, none⟩ (.int .u8 191)).setCell ⟨g, 8, none⟩ (.int .u32 X)).setCell ⟨g, 5, none⟩ (.int .i64 0)) = W1 at *
  clear c5 c6 c7 c8 f5 f6 f7 f8
  have c88 : W1.drew.cell? ⟨g, 8, none⟩ = some (.int .u32 X) := HW.out.co 3
  have f88 := HW.out.fz 8
  have cA : (W1.alloc (.cells #[.int .u32 X] 49)).drew.cell? ⟨g, 8, none⟩ = some (.int .u32 X) := ((HW.out.below (below_alloc (Below.refl _ _) (.cells #[.int .u32 X] 49))).drew).co 3
  have HDA : Hid (Dec (W1.alloc (.cells #[.int .u32 X] 49)).drew g T a e f d v xs (own8 0 128 191 X)) := Lib.hid ((HW.out.below (below_alloc (Below.refl _ _) (.cells #[.int .u32 X] 49))).drew)
  have HRD : Hid (ReadsInt (W1.alloc (.cells #[.int .u32 X] 49)).drew .u32 (some ⟨W1.heap.size, 0, none⟩) 1 [X]) := Lib.hid (box_reads W1 X)
  go_region_held3 (fun w' => w'.cell? ⟨g, 8, none⟩ = some (.int .u32 X)) (first | assumption | go_keep) (first
    | (go_at_call 46; refine (dec_hold (m := 1) (ys := [X]) HRD.out hl HDA.out).mono ?_; rintro e w3 ⟨rfl, v1, hd3, hs3⟩; have HD3 := Lib.hid hd3; have HS3 := Lib.hid hs3; have c83 : w3.cell? ⟨g, 8, none⟩ = some (.int .u32 X) := hd3.co 3; have f83 := hd3.fz 8; clear hd3 hs3)
    | (fail))
  clear c88 cA
  go_wp2_with fail
  go_ret
  have h2 : Stp w g v (W1.alloc (.cells #[.int .u32 X] 49)).drew v := HSW.out.below ((((Kp.refl (fun _ => False) _).alloc _).drew).below (Nat.le_refl _) (fun _ h => h.elim))
  exact ⟨rfl, _, HD3.out, h2.trans HS3.out⟩
theorem next_none (s : CS) (b : Int) (hs : cok s) (hb0 : 0 ≤ b) (hb1 : b ≤ 255) (hl : xs.length + 1 ≤ 1073741824) (hn : cnx s b = none) (h : Dec w g T a e f d v xs (cown s)) :
    Calls Try.prog 37 #[.pointer (some ⟨g, 0, none⟩), .int .u8 b] w fun en w' => en = .returned (.bool false) ∧ ∃ s' v', Dec w' g T a e f d v' xs (cown s') ∧ Stp w g v w' v' := by
  obtain ⟨nd, lo, hi, c⟩ := s
  obtain ⟨h1, h2, h3, h4, h5, h6, h7, h8⟩ := hs
  simp only at h1 h2 h3 h4 h5 h6 h7 h8
  unfold cnx at hn
  simp only at hn
  split at hn
  · rename_i h0
    subst h0
    split at hn
    · cases hn
    · rename_i hb
      split at hn
      · rename_i hbb
        exact (next_lead_no b hb0 hb1 hl (by omega) hbb h).mono fun en w' ⟨he, hd, hst⟩ => ⟨he, ⟨0, 128, 191, c⟩, _, hd, hst⟩
      · cases hn
  · rename_i h0
    split at hn
    · rename_i hb
      by_cases hlo : b < lo
      · exact (next_out_lo (nd := nd) (lo := lo) (hi := hi) (c := c) b hb0 hb1 hl (by omega) hlo h).mono fun en w' ⟨he, hd, hst⟩ => ⟨he, ⟨nd, lo, hi, c⟩, _, hd, hst⟩
      · exact (next_out_hi (nd := nd) (lo := lo) (hi := hi) (c := c) b hb0 hb1 hl (by omega) (by omega) (by omega) h).mono fun en w' ⟨he, hd, hst⟩ => ⟨he, ⟨nd, lo, hi, c⟩, _, hd, hst⟩
    · split at hn <;> cases hn
theorem next_some (s s' : CS) (r : Option Int) (b : Int) (hs : cok s) (hb0 : 0 ≤ b) (hb1 : b ≤ 255) (hl : xs.length + 1 ≤ 1073741824) (hn : cnx s b = some (s', r)) (h : Dec w g T a e f d v xs (cown s)) :
    Calls Try.prog 37 #[.pointer (some ⟨g, 0, none⟩), .int .u8 b] w fun en w' => en = .returned (.bool true) ∧ ∃ v', Dec w' g T a e f d v' (xs ++ r.toList) (cown s') ∧ Stp w g v w' v' := by
  obtain ⟨nd, lo, hi, c⟩ := s
  obtain ⟨h1, h2, h3, h4, h5, h6, h7, h8⟩ := hs
  simp only at h1 h2 h3 h4 h5 h6 h7 h8
  unfold cnx at hn
  simp only at hn
  split at hn
  · rename_i h0
    subst h0
    split at hn
    · rename_i hb
      simp only [Option.some.injEq, Prod.mk.injEq] at hn
      obtain ⟨rfl, rfl⟩ := hn
      exact next_ascii b hb0 hb1 hl hb h
    · rename_i hb
      split at hn
      · cases hn
      · rename_i hbb
        simp only [Option.some.injEq, Prod.mk.injEq] at hn
        obtain ⟨rfl, rfl⟩ := hn
        simp only [Option.toList, List.append_nil]
        exact (next_lead_ok b hb0 hb1 hl (by omega) hbb h).mono fun en w' ⟨he, hd, hst⟩ => ⟨he, _, hd, hst⟩
  · rename_i h0
    split at hn
    · cases hn
    · rename_i hb
      split at hn
      · rename_i hn1
        subst hn1
        simp only [Option.some.injEq, Prod.mk.injEq] at hn
        obtain ⟨rfl, rfl⟩ := hn
        exact next_all (lo := lo) (hi := hi) (c := c) b hb0 hb1 hl h4 h5 (by omega) (by omega) h
      · rename_i hn1
        simp only [Option.some.injEq, Prod.mk.injEq] at hn
        obtain ⟨rfl, rfl⟩ := hn
        simp only [Option.toList, List.append_nil]
        exact (next_on (nd := nd) (lo := lo) (hi := hi) (c := c) b hb0 hb1 hl (by omega) (by omega) h4 h5 (by omega) (by omega) h).mono fun en w' ⟨he, hd, hst⟩ => ⟨he, _, hd, hst⟩
end
end Go.Proofs.Ytmegkiipeckkaaa
