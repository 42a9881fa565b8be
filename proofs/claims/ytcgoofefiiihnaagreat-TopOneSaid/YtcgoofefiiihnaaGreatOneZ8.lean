/- Texts of this claim, merged; without what the law does not lean on: A Da M Sd Se Sf Sg Sh Ds. -/
import Derived.Test.YtcgoofefiiihnaaGreatOneZ7
import Derived.OpenShut
import Derived.Lib.EndianBits
import Derived.Laws.BitsLemmas
import Derived.Laws.BitsAllLaws
import Derived.Deep.RegionHeld3
import Derived.LoopTactic
import Derived.Lib.ConvBytes
import Derived.Test.YtcgoofefiiihnaaGreatOneZ3
namespace Go.Proofs.YtcgoofefiiihnaaGreat.A
open Go.RowKit Go.Proofs.YtcgoofefiiihnaaGreatW.PrintWords Go.Proofs.YtcgoofefiiihnaaGreatW.PrintMore
set_option linter.unusedVariables false
set_option linter.unusedSimpArgs false
set_option maxRecDepth 20000
section
variable {w : World} {g T : Nat} {a e f : Int} {d : Bool} {v : Value} {xs : List Int} {nd lo hi c : Int}
abbrev own8 (nd lo hi c : Int) : List Value := [.int .i64 nd, .int .u8 lo, .int .u8 hi, .int .u32 c]
theorem lead_lt (b : Int) (hb0 : 0 ≤ b) (hb : b < 194) (h : Dec w g T a e f d v xs (own8 nd lo hi c)) :
    Calls Tryz.prog 166 #[.pointer (some ⟨g, 0, none⟩), .int .u8 b] w fun en w' => en = .returned (.bool false) ∧ Dec w' g T a e f d v xs (own8 nd 128 191 c) ∧ Stp w g v w' v := by
  have d194 : decide (b < (194 : Int)) = true := decide_eq_true (by omega)
  have c5 : w.cell? ⟨g, 5, none⟩ = some (.int .i64 nd) := h.co 0
  have c6 : w.cell? ⟨g, 6, none⟩ = some (.int .u8 lo) := h.co 1
  have c7 : w.cell? ⟨g, 7, none⟩ = some (.int .u8 hi) := h.co 2
  have c8 : w.cell? ⟨g, 8, none⟩ = some (.int .u32 c) := h.co 3
  have f5 := h.fz 5
  have f6 := h.fz 6
  have f7 := h.fz 7
  have f8 := h.fz 8
  have H := Lib.hid h
  clear h
  go_enter Tryz.func166, Tryz.ntmps166
  go_wp2_with fail
  go_ret
  exact ⟨rfl, ((H.out.set 1 _).set 2 _), Stp.mine (((Kp.refl _ _).setg _ _).setg _ _)⟩
theorem lead_gt (b : Int) (hb0 : 244 < b) (hb : b ≤ 255) (h : Dec w g T a e f d v xs (own8 nd lo hi c)) :
    Calls Tryz.prog 166 #[.pointer (some ⟨g, 0, none⟩), .int .u8 b] w fun en w' => en = .returned (.bool false) ∧ Dec w' g T a e f d v xs (own8 nd 128 191 c) ∧ Stp w g v w' v := by
  have d194 : decide (b < (194 : Int)) = false := decide_eq_false (by omega)
  have g244 : decide ((244 : Int) < b) = true := decide_eq_true (by omega)
  have c5 : w.cell? ⟨g, 5, none⟩ = some (.int .i64 nd) := h.co 0
  have c6 : w.cell? ⟨g, 6, none⟩ = some (.int .u8 lo) := h.co 1
  have c7 : w.cell? ⟨g, 7, none⟩ = some (.int .u8 hi) := h.co 2
  have c8 : w.cell? ⟨g, 8, none⟩ = some (.int .u32 c) := h.co 3
  have f5 := h.fz 5
  have f6 := h.fz 6
  have f7 := h.fz 7
  have f8 := h.fz 8
  have H := Lib.hid h
  clear h
  go_enter Tryz.func166, Tryz.ntmps166
  go_wp2_with fail
  go_ret
  exact ⟨rfl, ((H.out.set 1 _).set 2 _), Stp.mine (((Kp.refl _ _).setg _ _).setg _ _)⟩
theorem lead_1 (b : Int) (hb0 : 194 ≤ b) (hb : b < 224) (h : Dec w g T a e f d v xs (own8 nd lo hi c)) :
    Calls Tryz.prog 166 #[.pointer (some ⟨g, 0, none⟩), .int .u8 b] w fun en w' => en = .returned (.bool true) ∧ Dec w' g T a e f d v xs (own8 1 128 191 (b % 32)) ∧ Stp w g v w' v := by
  have d194 : decide (b < (194 : Int)) = false := decide_eq_false (by omega)
  have g244 : decide ((244 : Int) < b) = false := decide_eq_false (by omega)
  have d224 : decide (b < (224 : Int)) = true := decide_eq_true (by omega)
  have n224 : (b == 224) = false := by simp; omega
  have n237 : (b == 237) = false := by simp; omega
  have n240 : (b == 240) = false := by simp; omega
  have n244 : (b == 244) = false := by simp; omega
  have c5 : w.cell? ⟨g, 5, none⟩ = some (.int .i64 nd) := h.co 0
  have c6 : w.cell? ⟨g, 6, none⟩ = some (.int .u8 lo) := h.co 1
  have c7 : w.cell? ⟨g, 7, none⟩ = some (.int .u8 hi) := h.co 2
  have c8 : w.cell? ⟨g, 8, none⟩ = some (.int .u32 c) := h.co 3
  have f5 := h.fz 5
  have f6 := h.fz 6
  have f7 := h.fz 7
  have f8 := h.fz 8
  have H := Lib.hid h
  clear h
  go_enter Tryz.func166, Tryz.ntmps166
  go_wp2_with fail
  go_ret
  exact ⟨rfl, ((((H.out.set 1 _).set 2 _).set 0 _).set 3 _), Stp.mine (((((Kp.refl _ _).setg _ _).setg _ _).setg _ _).setg _ _)⟩
theorem lead_2 (b : Int) (hb0 : 224 < b) (hb : b < 240) (hb2 : b ≠ 237) (h : Dec w g T a e f d v xs (own8 nd lo hi c)) :
    Calls Tryz.prog 166 #[.pointer (some ⟨g, 0, none⟩), .int .u8 b] w fun en w' => en = .returned (.bool true) ∧ Dec w' g T a e f d v xs (own8 2 128 191 (b % 16)) ∧ Stp w g v w' v := by
  have d194 : decide (b < (194 : Int)) = false := decide_eq_false (by omega)
  have g244 : decide ((244 : Int) < b) = false := decide_eq_false (by omega)
  have d224 : decide (b < (224 : Int)) = false := decide_eq_false (by omega)
  have d240 : decide (b < (240 : Int)) = true := decide_eq_true (by omega)
  have n224 : (b == 224) = false := by simp; omega
  have n237 : (b == 237) = false := by simp; omega
  have n240 : (b == 240) = false := by simp; omega
  have n244 : (b == 244) = false := by simp; omega
  have c5 : w.cell? ⟨g, 5, none⟩ = some (.int .i64 nd) := h.co 0
  have c6 : w.cell? ⟨g, 6, none⟩ = some (.int .u8 lo) := h.co 1
  have c7 : w.cell? ⟨g, 7, none⟩ = some (.int .u8 hi) := h.co 2
  have c8 : w.cell? ⟨g, 8, none⟩ = some (.int .u32 c) := h.co 3
  have f5 := h.fz 5
  have f6 := h.fz 6
  have f7 := h.fz 7
  have f8 := h.fz 8
  have H := Lib.hid h
  clear h
  go_enter Tryz.func166, Tryz.ntmps166
  go_wp2_with fail
  go_ret
  exact ⟨rfl, ((((H.out.set 1 _).set 2 _).set 0 _).set 3 _), Stp.mine (((((Kp.refl _ _).setg _ _).setg _ _).setg _ _).setg _ _)⟩
theorem lead_3 (b : Int) (hb0 : 240 < b) (hb : b < 244) (h : Dec w g T a e f d v xs (own8 nd lo hi c)) :
    Calls Tryz.prog 166 #[.pointer (some ⟨g, 0, none⟩), .int .u8 b] w fun en w' => en = .returned (.bool true) ∧ Dec w' g T a e f d v xs (own8 3 128 191 (b % 8)) ∧ Stp w g v w' v := by
  have d194 : decide (b < (194 : Int)) = false := decide_eq_false (by omega)
  have g244 : decide ((244 : Int) < b) = false := decide_eq_false (by omega)
  have d224 : decide (b < (224 : Int)) = false := decide_eq_false (by omega)
  have d240 : decide (b < (240 : Int)) = false := decide_eq_false (by omega)
  have n224 : (b == 224) = false := by simp; omega
  have n237 : (b == 237) = false := by simp; omega
  have n240 : (b == 240) = false := by simp; omega
  have n244 : (b == 244) = false := by simp; omega
  have c5 : w.cell? ⟨g, 5, none⟩ = some (.int .i64 nd) := h.co 0
  have c6 : w.cell? ⟨g, 6, none⟩ = some (.int .u8 lo) := h.co 1
  have c7 : w.cell? ⟨g, 7, none⟩ = some (.int .u8 hi) := h.co 2
  have c8 : w.cell? ⟨g, 8, none⟩ = some (.int .u32 c) := h.co 3
  have f5 := h.fz 5
  have f6 := h.fz 6
  have f7 := h.fz 7
  have f8 := h.fz 8
  have H := Lib.hid h
  clear h
  go_enter Tryz.func166, Tryz.ntmps166
  go_wp2_with fail
  go_ret
  exact ⟨rfl, ((((H.out.set 1 _).set 2 _).set 0 _).set 3 _), Stp.mine (((((Kp.refl _ _).setg _ _).setg _ _).setg _ _).setg _ _)⟩
theorem lead_224 (b : Int) (hb : b = 224) (h : Dec w g T a e f d v xs (own8 nd lo hi c)) :
    Calls Tryz.prog 166 #[.pointer (some ⟨g, 0, none⟩), .int .u8 b] w fun en w' => en = .returned (.bool true) ∧ Dec w' g T a e f d v xs (own8 2 160 191 0) ∧ Stp w g v w' v := by
  subst hb
  have c5 : w.cell? ⟨g, 5, none⟩ = some (.int .i64 nd) := h.co 0
  have c6 : w.cell? ⟨g, 6, none⟩ = some (.int .u8 lo) := h.co 1
  have c7 : w.cell? ⟨g, 7, none⟩ = some (.int .u8 hi) := h.co 2
  have c8 : w.cell? ⟨g, 8, none⟩ = some (.int .u32 c) := h.co 3
  have f5 := h.fz 5
  have f6 := h.fz 6
  have f7 := h.fz 7
  have f8 := h.fz 8
  have H := Lib.hid h
  clear h
  go_enter Tryz.func166, Tryz.ntmps166
  go_wp2_with fail
  go_ret
  exact ⟨rfl, (((((H.out.set 1 _).set 2 _).set 0 _).set 3 _).set 1 _), Stp.mine ((((((Kp.refl _ _).setg _ _).setg _ _).setg _ _).setg _ _).setg _ _)⟩
theorem lead_237 (b : Int) (hb : b = 237) (h : Dec w g T a e f d v xs (own8 nd lo hi c)) :
    Calls Tryz.prog 166 #[.pointer (some ⟨g, 0, none⟩), .int .u8 b] w fun en w' => en = .returned (.bool true) ∧ Dec w' g T a e f d v xs (own8 2 128 159 13) ∧ Stp w g v w' v := by
  subst hb
  have c5 : w.cell? ⟨g, 5, none⟩ = some (.int .i64 nd) := h.co 0
  have c6 : w.cell? ⟨g, 6, none⟩ = some (.int .u8 lo) := h.co 1
  have c7 : w.cell? ⟨g, 7, none⟩ = some (.int .u8 hi) := h.co 2
  have c8 : w.cell? ⟨g, 8, none⟩ = some (.int .u32 c) := h.co 3
  have f5 := h.fz 5
  have f6 := h.fz 6
  have f7 := h.fz 7
  have f8 := h.fz 8
  have H := Lib.hid h
  clear h
  go_enter Tryz.func166, Tryz.ntmps166
  go_wp2_with fail
  go_ret
  exact ⟨rfl, (((((H.out.set 1 _).set 2 _).set 0 _).set 3 _).set 2 _), Stp.mine ((((((Kp.refl _ _).setg _ _).setg _ _).setg _ _).setg _ _).setg _ _)⟩
theorem lead_240 (b : Int) (hb : b = 240) (h : Dec w g T a e f d v xs (own8 nd lo hi c)) :
    Calls Tryz.prog 166 #[.pointer (some ⟨g, 0, none⟩), .int .u8 b] w fun en w' => en = .returned (.bool true) ∧ Dec w' g T a e f d v xs (own8 3 144 191 0) ∧ Stp w g v w' v := by
  subst hb
  have c5 : w.cell? ⟨g, 5, none⟩ = some (.int .i64 nd) := h.co 0
  have c6 : w.cell? ⟨g, 6, none⟩ = some (.int .u8 lo) := h.co 1
  have c7 : w.cell? ⟨g, 7, none⟩ = some (.int .u8 hi) := h.co 2
  have c8 : w.cell? ⟨g, 8, none⟩ = some (.int .u32 c) := h.co 3
  have f5 := h.fz 5
  have f6 := h.fz 6
  have f7 := h.fz 7
  have f8 := h.fz 8
  have H := Lib.hid h
  clear h
  go_enter Tryz.func166, Tryz.ntmps166
  go_wp2_with fail
  go_ret
  exact ⟨rfl, (((((H.out.set 1 _).set 2 _).set 0 _).set 3 _).set 1 _), Stp.mine ((((((Kp.refl _ _).setg _ _).setg _ _).setg _ _).setg _ _).setg _ _)⟩
theorem lead_244 (b : Int) (hb : b = 244) (h : Dec w g T a e f d v xs (own8 nd lo hi c)) :
    Calls Tryz.prog 166 #[.pointer (some ⟨g, 0, none⟩), .int .u8 b] w fun en w' => en = .returned (.bool true) ∧ Dec w' g T a e f d v xs (own8 3 128 143 4) ∧ Stp w g v w' v := by
  subst hb
  have c5 : w.cell? ⟨g, 5, none⟩ = some (.int .i64 nd) := h.co 0
  have c6 : w.cell? ⟨g, 6, none⟩ = some (.int .u8 lo) := h.co 1
  have c7 : w.cell? ⟨g, 7, none⟩ = some (.int .u8 hi) := h.co 2
  have c8 : w.cell? ⟨g, 8, none⟩ = some (.int .u32 c) := h.co 3
  have f5 := h.fz 5
  have f6 := h.fz 6
  have f7 := h.fz 7
  have f8 := h.fz 8
  have H := Lib.hid h
  clear h
  go_enter Tryz.func166, Tryz.ntmps166
  go_wp2_with fail
  go_ret
  exact ⟨rfl, (((((H.out.set 1 _).set 2 _).set 0 _).set 3 _).set 2 _), Stp.mine ((((((Kp.refl _ _).setg _ _).setg _ _).setg _ _).setg _ _).setg _ _)⟩
structure CS where
  nd : Int
  lo : Int
  hi : Int
  c : Int
def cown (s : CS) : List Value := own8 s.nd s.lo s.hi s.c
def cok (s : CS) : Prop := (0 ≤ s.nd ∧ s.nd ≤ 3) ∧ (0 ≤ s.lo ∧ s.lo ≤ 255) ∧ (0 ≤ s.hi ∧ s.hi ≤ 255) ∧ 0 ≤ s.c ∧ s.c ≤ 2097151 ∧ (s.nd = 1 → s.c ≤ 32767) ∧ (s.nd = 2 → s.c ≤ 511) ∧ (s.nd = 3 → s.c ≤ 7)
def leadF (b : Int) : CS :=
  if b < 224 then ⟨1, 128, 191, b % 32⟩ else if b < 240 then ⟨2, if b = 224 then 160 else 128, if b = 237 then 159 else 191, b % 16⟩ else ⟨3, if b = 240 then 144 else 128, if b = 244 then 143 else 191, b % 8⟩
def cnx (s : CS) (b : Int) : Option (CS × Option Int) :=
  if s.nd = 0 then (if b < 128 then some (s, some b) else if b < 194 ∨ 244 < b then none else some (leadF b, none))
  else if b < s.lo ∨ s.hi < b then none
  else if s.nd = 1 then some (⟨0, 128, 191, s.c * 64 + b % 64⟩, some (s.c * 64 + b % 64)) else some (⟨s.nd - 1, 128, 191, s.c * 64 + b % 64⟩, none)
def ccut (s : CS) : Bool := decide (s.nd > 0)
theorem leadF_ok {b : Int} (h0 : 194 ≤ b) (h1 : b ≤ 244) : cok (leadF b) := by
  unfold leadF cok
  split
  · simp only; omega
  · split
    · simp only; split <;> split <;> omega
    · simp only; split <;> split <;> omega
theorem lead_any (b : Int) (hb0 : 0 ≤ b) (hb1 : b ≤ 255) (h : Dec w g T a e f d v xs (own8 nd lo hi c)) :
    Calls Tryz.prog 166 #[.pointer (some ⟨g, 0, none⟩), .int .u8 b] w fun en w' => ((b < 194 ∨ 244 < b) ∧ en = .returned (.bool false) ∧ Dec w' g T a e f d v xs (own8 nd 128 191 c) ∧ Stp w g v w' v) ∨ (¬ (b < 194 ∨ 244 < b) ∧ en = .returned (.bool true) ∧ Dec w' g T a e f d v xs (cown (leadF b)) ∧ Stp w g v w' v) := by
  by_cases h1 : b < 194
  · exact (lead_lt b hb0 h1 h).mono fun en w' h9 => .inl ⟨.inl h1, h9⟩
  by_cases h2 : 244 < b
  · exact (lead_gt b h2 hb1 h).mono fun en w' h9 => .inl ⟨.inr h2, h9⟩
  have hn : ¬ (b < 194 ∨ 244 < b) := by omega
  by_cases h3 : b < 224
  · have e : cown (leadF b) = own8 1 128 191 (b % 32) := by unfold leadF; rw [if_pos h3]; rfl
    rw [e]
    exact (lead_1 b (by omega) h3 h).mono fun en w' h9 => .inr ⟨hn, h9⟩
  by_cases h4 : b < 240
  · by_cases h5 : b = 224
    · have e : cown (leadF b) = own8 2 160 191 0 := by subst h5; rfl
      rw [e]
      exact (lead_224 b h5 h).mono fun en w' h9 => .inr ⟨hn, h9⟩
    by_cases h6 : b = 237
    · have e : cown (leadF b) = own8 2 128 159 13 := by subst h6; rfl
      rw [e]
      exact (lead_237 b h6 h).mono fun en w' h9 => .inr ⟨hn, h9⟩
    have e : cown (leadF b) = own8 2 128 191 (b % 16) := by unfold leadF; rw [if_neg h3, if_pos h4, if_neg h5, if_neg h6]; rfl
    rw [e]
    exact (lead_2 b (by omega) h4 h6 h).mono fun en w' h9 => .inr ⟨hn, h9⟩
  · by_cases h5 : b = 240
    · have e : cown (leadF b) = own8 3 144 191 0 := by subst h5; rfl
      rw [e]
      exact (lead_240 b h5 h).mono fun en w' h9 => .inr ⟨hn, h9⟩
    by_cases h6 : b = 244
    · have e : cown (leadF b) = own8 3 128 143 4 := by subst h6; rfl
      rw [e]
      exact (lead_244 b h6 h).mono fun en w' h9 => .inr ⟨hn, h9⟩
    have e : cown (leadF b) = own8 3 128 191 (b % 8) := by unfold leadF; rw [if_neg h3, if_neg h4, if_neg h5, if_neg h6]; rfl
    rw [e]
    exact (lead_3 b (by omega) (by omega) h).mono fun en w' h9 => .inr ⟨hn, h9⟩
theorem cnx_ok {s s' : CS} {b : Int} {r : Option Int} (hs : cok s) (h : cnx s b = some (s', r)) : cok s' := by
  have h9 := hs
  obtain ⟨h1, h2, h3, h4, h5, h6, h7, h8⟩ := hs
  unfold cnx at h
  split at h
  · split at h
    · simp only [Option.some.injEq, Prod.mk.injEq] at h
      obtain ⟨rfl, _⟩ := h
      exact h9
    · split at h
      · cases h
      · simp only [Option.some.injEq, Prod.mk.injEq] at h
        obtain ⟨rfl, _⟩ := h
        exact leadF_ok (by omega) (by omega)
  · split at h
    · cases h
    · split at h
      · simp only [Option.some.injEq, Prod.mk.injEq] at h
        obtain ⟨rfl, _⟩ := h
        unfold cok
        simp only
        omega
      · simp only [Option.some.injEq, Prod.mk.injEq] at h
        obtain ⟨rfl, _⟩ := h
        unfold cok
        simp only
        omega
def cat8 (c b : Int) : Int := Go.bits .or .u32 (c * 64) (b % 64)
theorem cat8_at (c b : Int) (hc0 : 0 ≤ c) (hc1 : c ≤ 2097151) (hb0 : 0 ≤ b) (hb1 : b ≤ 255) : cat8 c b = c * 64 + b % 64 := by
  unfold cat8
  rw [u32_or _ _ (by omega) (by omega) (by omega) (by omega), nat_join6 _ _ (by omega) (by omega)]
  omega
theorem next_ascii (b : Int) (hb0 : 0 ≤ b) (hb1 : b ≤ 255) (hl : xs.length + 1 ≤ 1073741824) (hb : b < 128) (h : Dec w g T a e f d v xs (own8 0 lo hi c)) :
    Calls Tryz.prog 162 #[.pointer (some ⟨g, 0, none⟩), .int .u8 b] w fun en w' => en = .returned (.bool true) ∧ ∃ v', Dec w' g T a e f d v' (xs ++ [b]) (own8 0 lo hi c) ∧ Stp w g v w' v' := by
  have hd : decide (b < (128 : Int)) = true := decide_eq_true hb
  have c5 : w.cell? ⟨g, 5, none⟩ = some (.int .i64 0) := h.co 0
  have c6 : w.cell? ⟨g, 6, none⟩ = some (.int .u8 lo) := h.co 1
  have c7 : w.cell? ⟨g, 7, none⟩ = some (.int .u8 hi) := h.co 2
  have c8 : w.cell? ⟨g, 8, none⟩ = some (.int .u32 c) := h.co 3
  have f5 := h.fz 5
  have f6 := h.fz 6
  have f7 := h.fz 7
  have f8 := h.fz 8
  have H := Lib.hid h
  clear h
  go_enter Tryz.func162, Tryz.ntmps162
  go_wp2_with fail
  refine (dec_hold_one b rfl hl H.out).mono ?_
  rintro en w1 ⟨rfl, v1, hd1', hs1⟩
  have HD1 := Lib.hid hd1'
  have HS1 := Lib.hid hs1
  clear hd1' hs1
  go_wp2_with fail
  go_ret
  exact ⟨rfl, _, HD1.out, HS1.out⟩
theorem next_lead_no (b : Int) (hb0 : 0 ≤ b) (hb1 : b ≤ 255) (hl : xs.length + 1 ≤ 1073741824) (hb : 128 ≤ b) (hbb : b < 194 ∨ 244 < b) (h : Dec w g T a e f d v xs (own8 0 lo hi c)) :
    Calls Tryz.prog 162 #[.pointer (some ⟨g, 0, none⟩), .int .u8 b] w fun en w' => en = .returned (.bool false) ∧ Dec w' g T a e f d v xs (own8 0 128 191 c) ∧ Stp w g v w' v := by
  have hd : decide (b < (128 : Int)) = false := decide_eq_false (by omega)
  have c5 : w.cell? ⟨g, 5, none⟩ = some (.int .i64 0) := h.co 0
  have c6 : w.cell? ⟨g, 6, none⟩ = some (.int .u8 lo) := h.co 1
  have c7 : w.cell? ⟨g, 7, none⟩ = some (.int .u8 hi) := h.co 2
  have c8 : w.cell? ⟨g, 8, none⟩ = some (.int .u32 c) := h.co 3
  have f5 := h.fz 5
  have f6 := h.fz 6
  have f7 := h.fz 7
  have f8 := h.fz 8
  have H := Lib.hid h
  clear h
  have HBB := Lib.hid hbb
  clear hbb
  go_enter Tryz.func162, Tryz.ntmps162
  go_wp2_with fail
  refine (lead_any b hb0 hb1 H.out).mono ?_
  rintro en w1 h1
  rcases h1 with ⟨h2, rfl, h3, h4⟩ | ⟨h2, rfl, h3, h4⟩
  · have HD1 := Lib.hid h3
    have HS1 := Lib.hid h4
    clear h2 h3 h4
    go_wp2_with fail
    go_ret
    exact ⟨rfl, HD1.out, HS1.out⟩
  · exact absurd HBB.out h2
theorem next_lead_ok (b : Int) (hb0 : 0 ≤ b) (hb1 : b ≤ 255) (hl : xs.length + 1 ≤ 1073741824) (hb : 128 ≤ b) (hbb : ¬ (b < 194 ∨ 244 < b)) (h : Dec w g T a e f d v xs (own8 0 lo hi c)) :
    Calls Tryz.prog 162 #[.pointer (some ⟨g, 0, none⟩), .int .u8 b] w fun en w' => en = .returned (.bool true) ∧ Dec w' g T a e f d v xs (cown (leadF b)) ∧ Stp w g v w' v := by
  have hd : decide (b < (128 : Int)) = false := decide_eq_false (by omega)
  have c5 : w.cell? ⟨g, 5, none⟩ = some (.int .i64 0) := h.co 0
  have c6 : w.cell? ⟨g, 6, none⟩ = some (.int .u8 lo) := h.co 1
  have c7 : w.cell? ⟨g, 7, none⟩ = some (.int .u8 hi) := h.co 2
  have c8 : w.cell? ⟨g, 8, none⟩ = some (.int .u32 c) := h.co 3
  have f5 := h.fz 5
  have f6 := h.fz 6
  have f7 := h.fz 7
  have f8 := h.fz 8
  have H := Lib.hid h
  clear h
  have HBB := Lib.hid hbb
  clear hbb
  go_enter Tryz.func162, Tryz.ntmps162
  go_wp2_with fail
  refine (lead_any b hb0 hb1 H.out).mono ?_
  rintro en w1 h1
  rcases h1 with ⟨h2, rfl, h3, h4⟩ | ⟨h2, rfl, h3, h4⟩
  · exact absurd h2 HBB.out
  · have HD1 := Lib.hid h3
    have HS1 := Lib.hid h4
    clear h2 h3 h4
    go_wp2_with fail
    go_ret
    exact ⟨rfl, HD1.out, HS1.out⟩
theorem next_out_lo (b : Int) (hb0 : 0 ≤ b) (hb1 : b ≤ 255) (hl : xs.length + 1 ≤ 1073741824) (hn : 1 ≤ nd) (hb : b < lo) (h : Dec w g T a e f d v xs (own8 nd lo hi c)) :
    Calls Tryz.prog 162 #[.pointer (some ⟨g, 0, none⟩), .int .u8 b] w fun en w' => en = .returned (.bool false) ∧ Dec w' g T a e f d v xs (own8 nd lo hi c) ∧ Stp w g v w' v := by
  have hn0 : (nd == 0) = false := by simp; omega
  have hd : decide (b < lo) = true := decide_eq_true hb
  have c5 : w.cell? ⟨g, 5, none⟩ = some (.int .i64 nd) := h.co 0
  have c6 : w.cell? ⟨g, 6, none⟩ = some (.int .u8 lo) := h.co 1
  have c7 : w.cell? ⟨g, 7, none⟩ = some (.int .u8 hi) := h.co 2
  have c8 : w.cell? ⟨g, 8, none⟩ = some (.int .u32 c) := h.co 3
  have f5 := h.fz 5
  have f6 := h.fz 6
  have f7 := h.fz 7
  have f8 := h.fz 8
  have H := Lib.hid h
  clear h
  go_enter Tryz.func162, Tryz.ntmps162
  go_wp2_with fail
  go_ret
  exact ⟨rfl, H.out, Stp.refl _ _ _⟩
theorem next_out_hi (b : Int) (hb0 : 0 ≤ b) (hb1 : b ≤ 255) (hl : xs.length + 1 ≤ 1073741824) (hn : 1 ≤ nd) (hbl : lo ≤ b) (hb : hi < b) (h : Dec w g T a e f d v xs (own8 nd lo hi c)) :
    Calls Tryz.prog 162 #[.pointer (some ⟨g, 0, none⟩), .int .u8 b] w fun en w' => en = .returned (.bool false) ∧ Dec w' g T a e f d v xs (own8 nd lo hi c) ∧ Stp w g v w' v := by
  have hn0 : (nd == 0) = false := by simp; omega
  have hd : decide (b < lo) = false := decide_eq_false (by omega)
  have hd2 : decide (hi < b) = true := decide_eq_true hb
  have c5 : w.cell? ⟨g, 5, none⟩ = some (.int .i64 nd) := h.co 0
  have c6 : w.cell? ⟨g, 6, none⟩ = some (.int .u8 lo) := h.co 1
  have c7 : w.cell? ⟨g, 7, none⟩ = some (.int .u8 hi) := h.co 2
  have c8 : w.cell? ⟨g, 8, none⟩ = some (.int .u32 c) := h.co 3
  have f5 := h.fz 5
  have f6 := h.fz 6
  have f7 := h.fz 7
  have f8 := h.fz 8
  have H := Lib.hid h
  clear h
  go_enter Tryz.func162, Tryz.ntmps162
  go_wp2_with fail
  go_ret
  exact ⟨rfl, H.out, Stp.refl _ _ _⟩
theorem next_on (b : Int) (hb0 : 0 ≤ b) (hb1 : b ≤ 255) (hl : xs.length + 1 ≤ 1073741824) (hn : 2 ≤ nd) (hn3 : nd ≤ 3) (hc0 : 0 ≤ c) (hc1 : c ≤ 2097151) (hbl : lo ≤ b) (hbh : b ≤ hi) (h : Dec w g T a e f d v xs (own8 nd lo hi c)) :
    Calls Tryz.prog 162 #[.pointer (some ⟨g, 0, none⟩), .int .u8 b] w fun en w' => en = .returned (.bool true) ∧ Dec w' g T a e f d v xs (own8 (nd - 1) 128 191 (c * 64 + b % 64)) ∧ Stp w g v w' v := by
  have hn0 : (nd == 0) = false := by simp; omega
  have hn1 : (nd - 1 == 0) = false := by simp; omega
  have hd : decide (b < lo) = false := decide_eq_false (by omega)
  have hd2 : decide (hi < b) = false := decide_eq_false (by omega)
  have hcat := cat8_at c b hc0 hc1 hb0 hb1
  rw [← hcat]
  clear hcat
  have hX : Go.bits .or .u32 (c * 64) (b % 64) = cat8 c b := rfl
  generalize cat8 c b = X at *
  subst hX
  have c5 : w.cell? ⟨g, 5, none⟩ = some (.int .i64 nd) := h.co 0
  have c6 : w.cell? ⟨g, 6, none⟩ = some (.int .u8 lo) := h.co 1
  have c7 : w.cell? ⟨g, 7, none⟩ = some (.int .u8 hi) := h.co 2
  have c8 : w.cell? ⟨g, 8, none⟩ = some (.int .u32 c) := h.co 3
  have f5 := h.fz 5
  have f6 := h.fz 6
  have f7 := h.fz 7
  have f8 := h.fz 8
  have H := Lib.hid h
  clear h
  go_enter Tryz.func162, Tryz.ntmps162
  go_wp2_with fail
  go_ret
  exact ⟨rfl, (((H.out.set 1 _).set 2 _).set 3 _).set 0 _, Stp.mine (((((Kp.refl _ _).setg _ _).setg _ _).setg _ _).setg _ _)⟩
theorem next_all (b : Int) (hb0 : 0 ≤ b) (hb1 : b ≤ 255) (hl : xs.length + 1 ≤ 1073741824) (hc0 : 0 ≤ c) (hc1 : c ≤ 2097151) (hbl : lo ≤ b) (hbh : b ≤ hi) (h : Dec w g T a e f d v xs (own8 1 lo hi c)) :
    Calls Tryz.prog 162 #[.pointer (some ⟨g, 0, none⟩), .int .u8 b] w fun en w' => en = .returned (.bool true) ∧ ∃ v', Dec w' g T a e f d v' (xs ++ [c * 64 + b % 64]) (own8 0 128 191 (c * 64 + b % 64)) ∧ Stp w g v w' v' := by
  have hd : decide (b < lo) = false := decide_eq_false (by omega)
  have hd2 : decide (hi < b) = false := decide_eq_false (by omega)
  have hcat := cat8_at c b hc0 hc1 hb0 hb1
  rw [← hcat]
  clear hcat
  have hX : Go.bits .or .u32 (c * 64) (b % 64) = cat8 c b := rfl
  generalize cat8 c b = X at *
  have HX := Lib.hid hX
  clear hX
  have c5 : w.cell? ⟨g, 5, none⟩ = some (.int .i64 1) := h.co 0
  have c6 : w.cell? ⟨g, 6, none⟩ = some (.int .u8 lo) := h.co 1
  have c7 : w.cell? ⟨g, 7, none⟩ = some (.int .u8 hi) := h.co 2
  have c8 : w.cell? ⟨g, 8, none⟩ = some (.int .u32 c) := h.co 3
  have f5 := h.fz 5
  have f6 := h.fz 6
  have f7 := h.fz 7
  have f8 := h.fz 8
  have H := Lib.hid h
  clear h
  go_enter Tryz.func162, Tryz.ntmps162
  go_wp2_with fail
  rw [HX.out]
  have HW : Hid (Dec ((((w.setCell ⟨g, 6, none⟩ (.int .u8 128)).setCell ⟨g, 7, none⟩ (.int .u8 191)).setCell ⟨g, 8, none⟩ (.int .u32 X)).setCell ⟨g, 5, none⟩ (.int .i64 0)) g T a e f d v xs (own8 0 128 191 X)) := Lib.hid ((((H.out.set 1 _).set 2 _).set 3 _).set 0 _)
  have HSW : Hid (Stp w g v ((((w.setCell ⟨g, 6, none⟩ (.int .u8 128)).setCell ⟨g, 7, none⟩ (.int .u8 191)).setCell ⟨g, 8, none⟩ (.int .u32 X)).setCell ⟨g, 5, none⟩ (.int .i64 0)) v) := Lib.hid (Stp.mine (((((Kp.refl _ _).setg _ _).setg _ _).setg _ _).setg _ _))
  generalize ((((w.setCell ⟨g, 6, none⟩ (.int .u8 128)).setCell ⟨g, 7, none⟩ (.int .u8 191)).setCell ⟨g, 8, none⟩ (.int .u32 X)).setCell ⟨g, 5, none⟩ (.int .i64 0)) = W1 at *
  clear c5 c6 c7 c8 f5 f6 f7 f8
  have c88 : W1.drew.cell? ⟨g, 8, none⟩ = some (.int .u32 X) := HW.out.co 3
  have f88 := HW.out.fz 8
  have cA : (W1.alloc (.cells #[.int .u32 X] 56)).drew.cell? ⟨g, 8, none⟩ = some (.int .u32 X) := ((HW.out.below (below_alloc (Below.refl _ _) (.cells #[.int .u32 X] 56))).drew).co 3
  have HDA : Hid (Dec (W1.alloc (.cells #[.int .u32 X] 56)).drew g T a e f d v xs (own8 0 128 191 X)) := Lib.hid ((HW.out.below (below_alloc (Below.refl _ _) (.cells #[.int .u32 X] 56))).drew)
  have HRD : Hid (ReadsInt (W1.alloc (.cells #[.int .u32 X] 56)).drew .u32 (some ⟨W1.heap.size, 0, none⟩) 1 [X]) := Lib.hid (box_reads W1 X)
  go_region_held3 (fun w' => w'.cell? ⟨g, 8, none⟩ = some (.int .u32 X)) (first | assumption | go_keep) (first
    | (go_at_call 165; refine (dec_hold (m := 1) (ys := [X]) HRD.out hl HDA.out).mono ?_; rintro e w3 ⟨rfl, v1, hd3, hs3⟩; have HD3 := Lib.hid hd3; have HS3 := Lib.hid hs3; have c83 : w3.cell? ⟨g, 8, none⟩ = some (.int .u32 X) := hd3.co 3; have f83 := hd3.fz 8; clear hd3 hs3)
    | (fail))
  clear c88 cA
  go_wp2_with fail
  go_ret
  have h2 : Stp w g v (W1.alloc (.cells #[.int .u32 X] 56)).drew v := HSW.out.below ((((Kp.refl (fun _ => False) _).alloc _).drew).below (Nat.le_refl _) (fun _ h => h.elim))
  exact ⟨rfl, _, HD3.out, h2.trans HS3.out⟩
theorem next_none (s : CS) (b : Int) (hs : cok s) (hb0 : 0 ≤ b) (hb1 : b ≤ 255) (hl : xs.length + 1 ≤ 1073741824) (hn : cnx s b = none) (h : Dec w g T a e f d v xs (cown s)) :
    Calls Tryz.prog 162 #[.pointer (some ⟨g, 0, none⟩), .int .u8 b] w fun en w' => en = .returned (.bool false) ∧ ∃ s' v', Dec w' g T a e f d v' xs (cown s') ∧ Stp w g v w' v' := by
  obtain ⟨nd, lo, hi, c⟩ := s
  obtain ⟨h1, h2, h3, h4, h5, h6, h7, h8⟩ := hs
  simp only at h1 h2 h3 h4 h5 h6 h7 h8
  unfold cnx at hn
  simp only at hn
  split at hn
  · rename_i h0
    subst h0
    split at hn
    · cases hn
    · rename_i hb
      split at hn
      · rename_i hbb
        exact (next_lead_no b hb0 hb1 hl (by omega) hbb h).mono fun en w' ⟨he, hd, hst⟩ => ⟨he, ⟨0, 128, 191, c⟩, _, hd, hst⟩
      · cases hn
  · rename_i h0
    split at hn
    · rename_i hb
      by_cases hlo : b < lo
      · exact (next_out_lo (nd := nd) (lo := lo) (hi := hi) (c := c) b hb0 hb1 hl (by omega) hlo h).mono fun en w' ⟨he, hd, hst⟩ => ⟨he, ⟨nd, lo, hi, c⟩, _, hd, hst⟩
      · exact (next_out_hi (nd := nd) (lo := lo) (hi := hi) (c := c) b hb0 hb1 hl (by omega) (by omega) (by omega) h).mono fun en w' ⟨he, hd, hst⟩ => ⟨he, ⟨nd, lo, hi, c⟩, _, hd, hst⟩
    · split at hn <;> cases hn
theorem next_some (s s' : CS) (r : Option Int) (b : Int) (hs : cok s) (hb0 : 0 ≤ b) (hb1 : b ≤ 255) (hl : xs.length + 1 ≤ 1073741824) (hn : cnx s b = some (s', r)) (h : Dec w g T a e f d v xs (cown s)) :
    Calls Tryz.prog 162 #[.pointer (some ⟨g, 0, none⟩), .int .u8 b] w fun en w' => en = .returned (.bool true) ∧ ∃ v', Dec w' g T a e f d v' (xs ++ r.toList) (cown s') ∧ Stp w g v w' v' := by
  obtain ⟨nd, lo, hi, c⟩ := s
  obtain ⟨h1, h2, h3, h4, h5, h6, h7, h8⟩ := hs
  simp only at h1 h2 h3 h4 h5 h6 h7 h8
  unfold cnx at hn
  simp only at hn
  split at hn
  · rename_i h0
    subst h0
    split at hn
    · rename_i hb
      simp only [Option.some.injEq, Prod.mk.injEq] at hn
      obtain ⟨rfl, rfl⟩ := hn
      exact next_ascii b hb0 hb1 hl hb h
    · rename_i hb
      split at hn
      · cases hn
      · rename_i hbb
        simp only [Option.some.injEq, Prod.mk.injEq] at hn
        obtain ⟨rfl, rfl⟩ := hn
        simp only [Option.toList, List.append_nil]
        exact (next_lead_ok b hb0 hb1 hl (by omega) hbb h).mono fun en w' ⟨he, hd, hst⟩ => ⟨he, _, hd, hst⟩
  · rename_i h0
    split at hn
    · cases hn
    · rename_i hb
      split at hn
      · rename_i hn1
        subst hn1
        simp only [Option.some.injEq, Prod.mk.injEq] at hn
        obtain ⟨rfl, rfl⟩ := hn
        exact next_all (lo := lo) (hi := hi) (c := c) b hb0 hb1 hl h4 h5 (by omega) (by omega) h
      · rename_i hn1
        simp only [Option.some.injEq, Prod.mk.injEq] at hn
        obtain ⟨rfl, rfl⟩ := hn
        simp only [Option.toList, List.append_nil]
        exact (next_on (nd := nd) (lo := lo) (hi := hi) (c := c) b hb0 hb1 hl (by omega) (by omega) h4 h5 (by omega) (by omega) h).mono fun en w' ⟨he, hd, hst⟩ => ⟨he, _, hd, hst⟩
end
section
variable {w : World} {g T : Nat} {a e f : Int} {d : Bool} {v : Value} {xs : List Int}
structure FeedAt (w : World) (g T : Nat) (a : Int) (v : Value) (s0 : CS) (t : ByteArray) (room : Int) (k : Nat) (os : List Int) (s : CS) (v' : Value) (w' : World) : Prop where
  le : k ≤ t.size
  run : run cnx s0 ((bytesOf t).take k) = some (s, os)
  dec : Dec w' g T (a + k) 0 0 false v' os (cown s)
  stp : Stp w g v w' v'
  room : (os.length : Int) ≤ room ∨ os = []
  ok : cok s
  few : os.length ≤ k
def FeedRel (w : World) (g T : Nat) (a : Int) (v : Value) (s0 : CS) (t : ByteArray) (room : Int) (n : Value) (w' : World) : Prop :=
  ∃ k os s v', n = .int .i64 (k : Nat) ∧ FeedAt w g T a v s0 t room k os s v' w'
def FeedPost (w : World) (g T : Nat) (a : Int) (s0 : CS) (t : ByteArray) (room : Int) (en : Ending) (w' : World) : Prop :=
  ∃ (m : Nat) (os : List Int) (r : Value) (s : CS), en = .returned (.tuple #[.int .i64 m, r]) ∧ m ≤ t.size ∧ run cnx s0 ((bytesOf t).take m) = some (s, os) ∧ w'.ownsRow w.heap.size 56 1 r os.length (nums .u32 os) ∧ Kp (fun k => k = g) w w' ∧
    ((os.length : Int) ≤ room ∨ os = []) ∧ os.length ≤ m ∧ cok s ∧
    ((Dec w' g T (a + m) 0 0 false nilv [] (cown s) ∧ (m = t.size ∨ room ≤ os.length)) ∨
     (m < t.size ∧ cnx s (bt t m) = none ∧ ∃ s', Dec w' g T (a + m) 3 (a + m) false nilv [] (cown s')))
theorem feed_end {w wr w' : World} {g T : Nat} {a : Int} {v1 r v' : Value} {s0 s : CS} {t : ByteArray} {room : Int} {k : Nat} {os : List Int} (h : FeedAt w g T a nilv s0 t room k os s v1 wr) (hx : k = t.size ∨ room ≤ os.length)
    (hd : Dec w' g T (a + k) 0 0 false v' (os.drop (min room.toNat os.length)) (cown s)) (ho : w'.ownsRow wr.heap.size 56 1 r (os.take (min room.toNat os.length)).length (nums .u32 (os.take (min room.toNat os.length)))) (hs : Stp wr g v1 w' v') (hv : os.length ≤ room.toNat → v' = .slice none 0 0) :
    FeedPost w g T a s0 t room (.returned (.tuple #[.int .i64 k, r])) w' := by
  have hle : os.length ≤ room.toNat := by rcases h.room with h1 | h1 <;> simp_all <;> omega
  obtain rfl := hv hle
  have hm : min room.toNat os.length = os.length := by omega
  rw [hm, List.take_length] at ho
  rw [hm, List.drop_length] at hd
  exact ⟨k, os, r, s, rfl, h.le, h.run, own_weaken ho h.stp.kp.size, (h.stp.trans hs).nil, h.room, h.few, h.ok, .inl ⟨hd, hx⟩⟩
theorem feed_wrong {w wr w1 w' : World} {g T : Nat} {a : Int} {v1 r v' v2 : Value} {s0 s s1 : CS} {t : ByteArray} {room : Int} {k : Nat} {os : List Int} (h : FeedAt w g T a nilv s0 t room k os s v1 wr) (hk : k < t.size) (hn : cnx s (bt t k) = none) (hs1 : Stp wr g v1 w1 v2)
    (hd : Dec w' g T (a + k) 3 (a + k) false v' (os.drop (min room.toNat os.length)) (cown s1)) (ho : w'.ownsRow w1.heap.size 56 1 r (os.take (min room.toNat os.length)).length (nums .u32 (os.take (min room.toNat os.length)))) (hs : Stp w1 g v2 w' v') (hv : os.length ≤ room.toNat → v' = .slice none 0 0) :
    FeedPost w g T a s0 t room (.returned (.tuple #[.int .i64 k, r])) w' := by
  have hle : os.length ≤ room.toNat := by rcases h.room with h1 | h1 <;> simp_all <;> omega
  obtain rfl := hv hle
  have hm : min room.toNat os.length = os.length := by omega
  rw [hm, List.take_length] at ho
  rw [hm, List.drop_length] at hd
  exact ⟨k, os, r, s, rfl, h.le, h.run, own_weaken ho (Nat.le_trans h.stp.kp.size hs1.kp.size), ((h.stp.trans hs1).trans hs).nil, h.room, h.few, h.ok, .inr ⟨hk, hn, s1, hd⟩⟩
theorem feed_on {w wr w' : World} {g T : Nat} {a : Int} {v v1 v' : Value} {s0 s s1 : CS} {t : ByteArray} {room : Int} {k : Nat} {os : List Int} {r : Option Int} (h : FeedAt w g T a v s0 t room k os s v1 wr) (hk : k < t.size) (hr : (os.length : Int) < room) (hn : cnx s (bt t k) = some (s1, r))
    (hd : Dec w' g T (a + k + 1) 0 0 false v' (os ++ r.toList) (cown s1)) (hs : Stp wr g v1 w' v') : FeedRel w g T a v s0 t room (.int .i64 ((k : Int) + 1)) w' := by
  have hl : r.toList.length ≤ 1 := by cases r <;> simp
  refine ⟨k + 1, os ++ r.toList, s1, v', rfl, hk, ?_, ?_, h.stp.trans hs, .inl (by rw [List.length_append]; omega), cnx_ok h.ok hn, by rw [List.length_append]; have := h.few; omega⟩
  · rw [take_bt t k hk, run_snoc, h.run]
    simp only [Option.bind_some, hn, Option.map_some]
  · rw [show a + ((k + 1 : Nat) : Int) = a + k + 1 by omega]
    exact hd
theorem feed_any (t : ByteArray) (room : Int) (s0 : CS) (hs : cok s0) (ht : t.size ≤ 1000000) (ha0 : 0 ≤ a) (ha1 : a ≤ 1000000000) (h : Dec w g T a 0 0 false nilv [] (cown s0)) :
    Calls Tryz.prog 157 #[.pointer (some ⟨g, 0, none⟩), .string t, .int .i64 room] w (FeedPost w g T a s0 t room) := by
  have HS : Hid (FeedRel w g T a nilv s0 t room (.int .i64 0) w) := ⟨0, [], s0, nilv, rfl, Nat.zero_le _, rfl, by simpa using h, Stp.refl _ _ _, .inr rfl, hs, Nat.zero_le _⟩
  clear h hs
  go_enter Tryz.func157, Tryz.ntmps157
  go_wp2_with fail
  go_loopw [8] (fun n wr => FeedRel w g T a nilv s0 t room n wr) (fun n _ => t.size - (intOf n).toNat)
  case atStart => exact HS.out
  case round =>
    obtain ⟨k, os, s, v1, rfl, hk⟩ := hrel
    have hle := hk.le
    have hfew := hk.few
    have HD := Lib.hid hk.dec
    have HK := Lib.hid hk
    have HO := Lib.hid hk.ok
    clear hk
    by_cases hlt : k < t.size
    · by_cases hroom : (os.length : Int) < room
      · have he : ((t[k]'hlt).toNat : Int) = bt t k := bt_at t k hlt
        have hb : 0 ≤ ((t[k]'hlt).toNat : Int) ∧ ((t[k]'hlt).toNat : Int) ≤ 255 := he ▸ bt_range t k
        have HB := Lib.hid hb
        cases hn : cnx s (bt t k) with
        | none =>
          have hn1 : cnx s ((t[k]'hlt).toNat : Int) = none := by rw [he]; exact hn
          have HN := Lib.hid hn
          have HN1 := Lib.hid hn1
          clear hn hn1 he hb
          go_wp2_with (first | (go_at_call 159; go_must (refine (dec_held HD.out).mono ?_); rintro e w' ⟨rfl, rfl⟩) | (go_at_call 158; go_must (refine (going_yes HD.out.bs).mono ?_); rintro e w' ⟨rfl, rfl⟩) | (go_at_call 162; go_must (refine (next_none s _ HO.out HB.out.1 HB.out.2 (by omega) HN1.out HD.out).mono ?_); rintro e w2 ⟨rfl, s2, v2, hd2, hs2⟩; have HD2 := Lib.hid hd2; have HS2 := Lib.hid hs2; clear hd2 hs2) | (go_at_call 160; go_must (refine (dec_stop 3 rfl HD2.out).mono ?_); rintro e w3 ⟨rfl, hd3, hs3⟩; have HD3 := Lib.hid hd3; have HS3 := Lib.hid hs3; clear hd3 hs3) | (go_at_call 164; go_must (refine (dec_tell room (by omega) HD3.out).mono ?_); rintro e w4 ⟨r4, v4, rfl, hd4, ho4, hs4, hv4⟩; have HD4 := Lib.hid hd4; have HO4 := Lib.hid ho4; have HS4 := Lib.hid hs4; have HV4 := Lib.hid hv4; clear hd4 ho4 hs4 hv4))
          go_ret2
          exact feed_wrong HK.out hlt HN.out (HS2.out.trans HS3.out) HD4.out HO4.out HS4.out HV4.out
        | some p =>
          obtain ⟨s1, r⟩ := p
          have hn1 : cnx s ((t[k]'hlt).toNat : Int) = some (s1, r) := by rw [he]; exact hn
          have HN := Lib.hid hn
          have HN1 := Lib.hid hn1
          clear hn hn1 he hb
          go_wp2_with (first | (go_at_call 159; go_must (refine (dec_held HD.out).mono ?_); rintro e w' ⟨rfl, rfl⟩) | (go_at_call 158; go_must (refine (going_yes HD.out.bs).mono ?_); rintro e w' ⟨rfl, rfl⟩) | (go_at_call 162; go_must (refine (next_some s s1 r _ HO.out HB.out.1 HB.out.2 (by omega) HN1.out HD.out).mono ?_); rintro e w2 ⟨rfl, v2, hd2, hs2⟩; have HD2 := Lib.hid hd2; have HS2 := Lib.hid hs2; clear hd2 hs2) | (go_at_call 163; go_must (refine (dec_eat 1 (by omega) (by omega) (by omega) (by omega) HD2.out).mono ?_); rintro e w3 ⟨rfl, hd3, hs3⟩; have HD3 := Lib.hid hd3; have HS3 := Lib.hid hs3; clear hd3 hs3))
          go_roundw
          case rel => exact feed_on HK.out hlt hroom HN.out HD3.out (HS2.out.trans HS3.out)
          case measure => simp [intOf]; omega
      · have HE := Lib.hid (show k = t.size ∨ room ≤ os.length from .inr (by omega))
        go_wp2_with (first | (go_at_call 159; go_must (refine (dec_held HD.out).mono ?_); rintro e w' ⟨rfl, rfl⟩) | (go_at_call 164; go_must (refine (dec_tell room (by omega) HD.out).mono ?_); rintro e w4 ⟨r4, v4, rfl, hd4, ho4, hs4, hv4⟩; have HD4 := Lib.hid hd4; have HO4 := Lib.hid ho4; have HS4 := Lib.hid hs4; have HV4 := Lib.hid hv4; clear hd4 ho4 hs4 hv4))
        go_ret2
        exact feed_end HK.out HE.out HD4.out HO4.out HS4.out HV4.out
    · have HE := Lib.hid (show k = t.size ∨ room ≤ os.length from .inl (by omega))
      go_wp2_with (first | (go_at_call 164; go_must (refine (dec_tell room (by omega) HD.out).mono ?_); rintro e w4 ⟨r4, v4, rfl, hd4, ho4, hs4, hv4⟩; have HD4 := Lib.hid hd4; have HO4 := Lib.hid ho4; have HS4 := Lib.hid hs4; have HV4 := Lib.hid hv4; clear hd4 ho4 hs4 hv4))
      go_ret2
      exact feed_end HK.out HE.out HD4.out HO4.out HS4.out HV4.out
end
section
variable {w : World} {g T : Nat} {a e f : Int} {d : Bool} {v : Value} {xs : List Int}
theorem dend_cut (s : CS) (hc : ccut s = true) (h : Dec w g T a 0 f false v xs (cown s)) :
    Calls Tryz.prog 155 #[.pointer (some ⟨g, 0, none⟩)] w fun en w' => en = .returned (.tuple #[]) ∧ Dec w' g T a 4 a false v xs (cown s) ∧ Stp w g v w' v := by
  have c5 : w.cell? ⟨g, 5, none⟩ = some (.int .i64 s.nd) := h.co 0
  have h0 : 0 < s.nd := by simpa [ccut] using hc
  have HD := Lib.hid h
  clear h hc
  go_enter Tryz.func155, Tryz.ntmps155
  go_wp2_with (first | (go_at_call 160; go_must (refine (dec_stop 4 rfl HD.out).mono ?_); rintro e w1 ⟨rfl, hd1, hs1⟩; have HD1 := Lib.hid hd1; have HS1 := Lib.hid hs1; clear hd1 hs1) | (go_at_call 161; go_must (refine (end_no (e := 4) (d := false) rfl HD1.out.bs).mono ?_); rintro e w2 ⟨rfl, rfl⟩))
  go_end0
  exact ⟨rfl, HD1.out, HS1.out⟩
theorem dend_ok (s : CS) (hc : ccut s = false) (h : Dec w g T a 0 f false v xs (cown s)) :
    Calls Tryz.prog 155 #[.pointer (some ⟨g, 0, none⟩)] w fun en w' => en = .returned (.tuple #[]) ∧ Dec w' g T a 0 f true v xs (cown s) ∧ Stp w g v w' v := by
  have c5 : w.cell? ⟨g, 5, none⟩ = some (.int .i64 s.nd) := h.co 0
  have h0 : s.nd ≤ 0 := by simpa [ccut] using hc
  have HD := Lib.hid h
  clear h hc
  go_enter Tryz.func155, Tryz.ntmps155
  go_wp2_with (first | (go_at_call 161; go_must (refine (dec_end HD.out).mono ?_); rintro e w1 ⟨rfl, hd1, hs1⟩; have HD1 := Lib.hid hd1; have HS1 := Lib.hid hs1; clear hd1 hs1))
  go_end0
  exact ⟨rfl, HD1.out, HS1.out⟩
theorem dend_err (s : CS) (he : (e == 0) = false) (h : Dec w g T a e f false v xs (cown s)) :
    Calls Tryz.prog 155 #[.pointer (some ⟨g, 0, none⟩)] w fun en w' => en = .returned (.tuple #[]) ∧ w = w' := by
  have c5 : w.cell? ⟨g, 5, none⟩ = some (.int .i64 s.nd) := h.co 0
  have HD := Lib.hid h
  have HE := Lib.hid (show (e == 0 && !false) = false by rw [he]; rfl)
  clear h he
  by_cases h0 : 0 < s.nd
  · go_enter Tryz.func155, Tryz.ntmps155
    go_wp2_with (first | (go_at_call 160; go_must (refine (stop_no 4 HE.out HD.out.bs).mono ?_); rintro e w1 ⟨rfl, rfl⟩) | (go_at_call 161; go_must (refine (end_no HE.out HD.out.bs).mono ?_); rintro e w2 ⟨rfl, rfl⟩))
    go_end0
    exact ⟨rfl, rfl⟩
  · go_enter Tryz.func155, Tryz.ntmps155
    go_wp2_with (first | (go_at_call 160; go_must (refine (stop_no 4 HE.out HD.out.bs).mono ?_); rintro e w1 ⟨rfl, rfl⟩) | (go_at_call 161; go_must (refine (end_no HE.out HD.out.bs).mono ?_); rintro e w2 ⟨rfl, rfl⟩))
    go_end0
    exact ⟨rfl, rfl⟩
end
structure ES where
def eown (_s : ES) : List Value := []
def eok (_s : ES) : Prop := True
def rby (c : Int) : List Int :=
  if c < 128 then [c] else if c < 2048 then [192 + c / 64, 128 + c % 64] else if c < 65536 then [224 + c / 4096, 128 + c / 64 % 64, 128 + c % 64]
  else [240 + c / 262144, 128 + c / 4096 % 64, 128 + c / 64 % 64, 128 + c % 64]
def eby (s : ES) (c : Int) : List Int × ES := (rby c, s)
theorem isB_range {c : Int} (h : isB c = true) : c ≤ 1114111 := by
  simp only [isB, Bool.and_eq_true, decide_eq_true_eq] at h
  exact h.1
theorem eby_ok {s : ES} {c : Int} (hs : eok s) (h0 : 0 ≤ c) (hc : isB c = true) : eok (eby s c).2 := trivial
theorem rby_len (c : Int) : (rby c).length ≤ 4 := by
  unfold rby
  (repeat' split) <;> simp
theorem eby_len (s : ES) (c : Int) : (eby s c).1.length ≤ 5 := Nat.le_trans (rby_len c) (by decide)
theorem rby_range (c : Int) (h0 : 0 ≤ c) (hc : isB c = true) : ∀ x ∈ rby c, 0 ≤ x ∧ x ≤ 255 := by
  have := isB_range hc
  unfold rby
  intro x hx
  split at hx
  · simp only [List.mem_cons, List.not_mem_nil, or_false] at hx; omega
  · split at hx
    · simp only [List.mem_cons, List.not_mem_nil, or_false] at hx; omega
    · split at hx
      · simp only [List.mem_cons, List.not_mem_nil, or_false] at hx; omega
      · simp only [List.mem_cons, List.not_mem_nil, or_false] at hx; omega
theorem eby_bytes (s : ES) (c : Int) (hs : eok s) (h0 : 0 ≤ c) (hc : isB c = true) : ∀ x ∈ (eby s c).1, 0 ≤ x ∧ x ≤ 255 := rby_range c h0 hc
section
variable {w : World} {g T : Nat} {a e f : Int} {d : Bool} {s : ByteArray}
theorem tail_0 {B : Nat} {c : Int} {W : World} (h0 : 0 ≤ c) (hc : W.cell? ⟨B, 0, none⟩ = some (.int .u32 c)) :
    Calls Tryz.prog 228 #[.int .i64 0, .pointer (some ⟨B, 0, none⟩)] W fun en w' => en = .returned (.int .u8 (128 + c % 64)) ∧ W = w' := by
  go_enter Tryz.func228, Tryz.ntmps228
  go_wp2_with fail
  go_ret
  exact ⟨rfl, rfl⟩
theorem tail_1 {B : Nat} {c : Int} {W : World} (h0 : 0 ≤ c) (hc : W.cell? ⟨B, 0, none⟩ = some (.int .u32 c)) :
    Calls Tryz.prog 228 #[.int .i64 1, .pointer (some ⟨B, 0, none⟩)] W fun en w' => en = .returned (.int .u8 (128 + c / 64 % 64)) ∧ W = w' := by
  go_enter Tryz.func228, Tryz.ntmps228
  go_wp2_with fail
  go_ret
  exact ⟨rfl, rfl⟩
theorem tail_2 {B : Nat} {c : Int} {W : World} (h0 : 0 ≤ c) (hc : W.cell? ⟨B, 0, none⟩ = some (.int .u32 c)) :
    Calls Tryz.prog 228 #[.int .i64 2, .pointer (some ⟨B, 0, none⟩)] W fun en w' => en = .returned (.int .u8 (128 + c / 4096 % 64)) ∧ W = w' := by
  go_enter Tryz.func228, Tryz.ntmps228
  go_wp2_with fail
  go_ret
  exact ⟨rfl, rfl⟩
theorem boxed (W : World) (c : Int) : (W.alloc (.cells #[.int .u32 c] 56)).cell? ⟨W.heap.size, 0, none⟩ = some (.int .u32 c) := World.cell?_alloc_at _ _ _ _ rfl
set_option maxHeartbeats 1000000 in
theorem ebytes_any (q : ES) (c : Int) (hq : eok q) (hc0 : 0 ≤ c) (hc1 : isB c = true) (h : Enc w g T a e f d s (eown q)) :
    Calls Tryz.prog 227 #[.pointer (some ⟨g, 0, none⟩), .int .u32 c] w fun en w' => en = .returned (.string (strOfNums (eby q c).1)) ∧ Enc w' g T a e f d s (eown (eby q c).2) ∧ Kp (fun k => k = g) w w' := by
  have hcc := isB_range hc1
  have HC := Lib.hid (boxed w c)
  have HD := Lib.hid (blk_alloc h (.cells #[.int .u32 c] 56))
  have HK := Lib.hid ((Kp.refl (fun k => k = g) w).alloc (.cells #[.int .u32 c] 56))
  have hmf : ∀ (fn : Fn) (first cap : Array Value) (w : World), (Instr.makeFunc fn first cap).run Tryz.prog w = .ok (.func fn first cap) w := fun _ _ _ _ => rfl
  clear h hc1 hq
  show Calls Tryz.prog 227 #[.pointer (some ⟨g, 0, none⟩), .int .u32 c] w fun en w' => en = .returned (.string (strOfNums (rby c))) ∧ Enc w' g T a e f d s [] ∧ Kp (fun k => k = g) w w'
  by_cases h1 : c < 128
  · have e1 : rby c = [c] := if_pos h1
    rw [e1]
    have hd1 : decide (c < (128 : Int)) = true := decide_eq_true h1
    have hcm : c % 256 = c := by omega
    have hc := HC.out
    have hsz : (w.alloc (.cells #[.int .u32 c] 56)).heap.size = w.heap.size + 1 := by simp
    have hconv := conv1 (w.alloc (.cells #[.int .u32 c] 56)) c
    rw [hsz] at hconv
    clear hsz
    clear e1
    go_enter Tryz.func227, Tryz.ntmps227
    go_wp2_with fail
    go_ret
    exact ⟨rfl, blk_alloc HD.out _, HK.out.alloc _⟩
  by_cases h2 : c < 2048
  · have e1 : rby c = [192 + c / 64, 128 + c % 64] := by unfold rby; rw [if_neg h1, if_pos h2]
    rw [e1]
    have hd1 : decide (c < (128 : Int)) = false := decide_eq_false (by omega)
    have hd2 : decide (c < (2048 : Int)) = true := decide_eq_true (by omega)
    have hc := HC.out
    have ho : Go.bits .or .u8 192 (c / 64) = 192 + c / 64 := u8_or192 _ (by omega) (by omega)
    have hm : IntKind.u8.wrap (c / 64) = c / 64 := wrap8 (by omega) (by omega)
    clear e1
    go_enter Tryz.func227, Tryz.ntmps227
    go_wp2_with fail
    clear hc
    generalize w.alloc (.cells #[.int .u32 c] 56) = W0 at *
    generalize w.heap.size = B at *
    have hcs : W0.drew.cell? ⟨B, 0, none⟩ = some (.int .u32 c) := HC.out
    have hcs0 := HC.out
    have hBW : B < W0.heap.size := World.block_lt_of_cell? _ _ HC.out
    have hcs2 : (W0.alloc (.cells #[.int .u8 (192 + c / 64), .int .u8 (128 + c % 64)] 5)).drew.cell? ⟨B, 0, none⟩ = some (.int .u32 c) := (World.cell?_alloc_past (w := W0) _ _ _ hBW).trans HC.out
    have hconv : Sem.run Tryz.prog (convert 82 9 (.slice (some ⟨W0.heap.size, 0, none⟩) 2 2)) (W0.alloc (.cells #[.int .u8 (192 + c / 64), .int .u8 (128 + c % 64)] 5)).drew = .ok (.string (strOfNums [192 + c / 64, 128 + c % 64])) (W0.alloc (.cells #[.int .u8 (192 + c / 64), .int .u8 (128 + c % 64)] 5)).drew := conv2 W0.drew (192 + c / 64) (128 + c % 64)
    go_region_with (first
      | (go_at_call 228; (with_reducible refine (tail_0 (B := B) (c := c) hc0 (by assumption)).mono ?_); rintro e w' ⟨rfl, rfl⟩)
      | (fail))
    all_goals (go_wp2_with fail)
    all_goals go_ret
    all_goals exact ⟨rfl, blk_alloc HD.out _, (HK.out.alloc _).drew⟩
  by_cases h3 : c < 65536
  · have e1 : rby c = [224 + c / 4096, 128 + c / 64 % 64, 128 + c % 64] := by unfold rby; rw [if_neg h1, if_neg h2, if_pos h3]
    rw [e1]
    have hd1 : decide (c < (128 : Int)) = false := decide_eq_false (by omega)
    have hd2 : decide (c < (2048 : Int)) = false := decide_eq_false (by omega)
    have hd3 : decide (c < (65536 : Int)) = true := decide_eq_true (by omega)
    have hc := HC.out
    have ho : Go.bits .or .u8 224 (c / 4096) = 224 + c / 4096 := u8_or224 _ (by omega) (by omega)
    have hm : IntKind.u8.wrap (c / 4096) = c / 4096 := wrap8 (by omega) (by omega)
    clear e1
    go_enter Tryz.func227, Tryz.ntmps227
    go_wp2_with fail
    clear hc
    generalize w.alloc (.cells #[.int .u32 c] 56) = W0 at *
    generalize w.heap.size = B at *
    have hcs : W0.drew.cell? ⟨B, 0, none⟩ = some (.int .u32 c) := HC.out
    have hcs0 := HC.out
    have hBW : B < W0.heap.size := World.block_lt_of_cell? _ _ HC.out
    have hcs2 : (W0.alloc (.cells #[.int .u8 (224 + c / 4096), .int .u8 (128 + c / 64 % 64), .int .u8 (128 + c % 64)] 5)).drew.cell? ⟨B, 0, none⟩ = some (.int .u32 c) := (World.cell?_alloc_past (w := W0) _ _ _ hBW).trans HC.out
    have hconv : Sem.run Tryz.prog (convert 82 9 (.slice (some ⟨W0.heap.size, 0, none⟩) 3 3)) (W0.alloc (.cells #[.int .u8 (224 + c / 4096), .int .u8 (128 + c / 64 % 64), .int .u8 (128 + c % 64)] 5)).drew = .ok (.string (strOfNums [224 + c / 4096, 128 + c / 64 % 64, 128 + c % 64])) (W0.alloc (.cells #[.int .u8 (224 + c / 4096), .int .u8 (128 + c / 64 % 64), .int .u8 (128 + c % 64)] 5)).drew := conv3 W0.drew (224 + c / 4096) (128 + c / 64 % 64) (128 + c % 64)
    go_region_with (first
      | (go_at_call 228; (with_reducible refine (tail_0 (B := B) (c := c) hc0 (by assumption)).mono ?_); rintro e w' ⟨rfl, rfl⟩)
      | (go_at_call 228; (with_reducible refine (tail_1 (B := B) (c := c) hc0 (by assumption)).mono ?_); rintro e w' ⟨rfl, rfl⟩)
      | (fail))
    all_goals (go_wp2_with fail)
    all_goals go_ret
    all_goals exact ⟨rfl, blk_alloc HD.out _, (HK.out.alloc _).drew⟩
  · have e1 : rby c = [240 + c / 262144, 128 + c / 4096 % 64, 128 + c / 64 % 64, 128 + c % 64] := by unfold rby; rw [if_neg h1, if_neg h2, if_neg h3]
    rw [e1]
    have hd1 : decide (c < (128 : Int)) = false := decide_eq_false (by omega)
    have hd2 : decide (c < (2048 : Int)) = false := decide_eq_false (by omega)
    have hd3 : decide (c < (65536 : Int)) = false := decide_eq_false (by omega)
    have hc := HC.out
    have ho : Go.bits .or .u8 240 (c / 262144) = 240 + c / 262144 := u8_or240 _ (by omega) (by omega)
    have hm : IntKind.u8.wrap (c / 262144) = c / 262144 := wrap8 (by omega) (by omega)
    clear e1
    go_enter Tryz.func227, Tryz.ntmps227
    go_wp2_with fail
    clear hc
    generalize w.alloc (.cells #[.int .u32 c] 56) = W0 at *
    generalize w.heap.size = B at *
    have hcs : W0.drew.cell? ⟨B, 0, none⟩ = some (.int .u32 c) := HC.out
    have hcs0 := HC.out
    have hBW : B < W0.heap.size := World.block_lt_of_cell? _ _ HC.out
    have hcs2 : (W0.alloc (.cells #[.int .u8 (240 + c / 262144), .int .u8 (128 + c / 4096 % 64), .int .u8 (128 + c / 64 % 64), .int .u8 (128 + c % 64)] 5)).drew.cell? ⟨B, 0, none⟩ = some (.int .u32 c) := (World.cell?_alloc_past (w := W0) _ _ _ hBW).trans HC.out
    have hconv : Sem.run Tryz.prog (convert 82 9 (.slice (some ⟨W0.heap.size, 0, none⟩) 4 4)) (W0.alloc (.cells #[.int .u8 (240 + c / 262144), .int .u8 (128 + c / 4096 % 64), .int .u8 (128 + c / 64 % 64), .int .u8 (128 + c % 64)] 5)).drew = .ok (.string (strOfNums [240 + c / 262144, 128 + c / 4096 % 64, 128 + c / 64 % 64, 128 + c % 64])) (W0.alloc (.cells #[.int .u8 (240 + c / 262144), .int .u8 (128 + c / 4096 % 64), .int .u8 (128 + c / 64 % 64), .int .u8 (128 + c % 64)] 5)).drew := conv4 W0.drew (240 + c / 262144) (128 + c / 4096 % 64) (128 + c / 64 % 64) (128 + c % 64)
    go_region_with (first
      | (go_at_call 228; (with_reducible refine (tail_0 (B := B) (c := c) hc0 (by assumption)).mono ?_); rintro e w' ⟨rfl, rfl⟩)
      | (go_at_call 228; (with_reducible refine (tail_1 (B := B) (c := c) hc0 (by assumption)).mono ?_); rintro e w' ⟨rfl, rfl⟩)
      | (go_at_call 228; (with_reducible refine (tail_2 (B := B) (c := c) hc0 (by assumption)).mono ?_); rintro e w' ⟨rfl, rfl⟩)
      | (fail))
    all_goals (go_wp2_with fail)
    all_goals go_ret
    all_goals exact ⟨rfl, blk_alloc HD.out _, (HK.out.alloc _).drew⟩
end
def erun : ES → List Int → List Int × ES
  | s, [] => ([], s)
  | s, c :: r => ((eby s c).1 ++ (erun (eby s c).2 r).1, (erun (eby s c).2 r).2)
theorem erun_append : ∀ (l : List Int) (s : ES) (m : List Int), erun s (l ++ m) = ((erun s l).1 ++ (erun (erun s l).2 m).1, (erun (erun s l).2 m).2)
  | [], s, m => rfl
  | x :: l, s, m => by simp [erun, erun_append l, List.append_assoc]
theorem erun_snoc (l : List Int) (s : ES) (c : Int) : erun s (l ++ [c]) = ((erun s l).1 ++ (eby (erun s l).2 c).1, (eby (erun s l).2 c).2) := by
  rw [erun_append]; simp [erun]
section
variable {w : World} {g T : Nat} {a e f : Int} {d : Bool} {s : ByteArray}
structure EFeedAt (w : World) (g T : Nat) (a : Int) (p : List Int) (s0 : ES) (ls : List Int) (room : Int) (k : Nat) (x y : ByteArray) (wr : World) : Prop where
  le : k ≤ ls.length
  sc : ∀ c ∈ ls.take k, isB c = true
  by_ : bytesOf x ++ bytesOf y = p ++ (erun s0 (ls.take k)).1
  enc : Enc wr g T (a + k) 0 0 false y (eown (erun s0 (ls.take k)).2)
  kp : Kp (fun k => k = g) w wr
  rm : x.size ≤ room.toNat
  full : y.size ≠ 0 → x.size = room.toNat
  few : y.size ≤ max p.length 5 ∧ (k ≠ 0 → y.size ≤ (eby (erun s0 (ls.take (k - 1))).2 (ls.getD (k - 1) 0)).1.length)
  ok : eok (erun s0 (ls.take k)).2
  got : k = 0 ∨ p.length ≤ room.toNat
def EFeedPost (w : World) (g T : Nat) (a : Int) (p : List Int) (s0 : ES) (ls : List Int) (room : Int) (en : Ending) (w' : World) : Prop :=
  ∃ (m : Nat) (x y : ByteArray), en = .returned (.tuple #[.int .i64 m, .string x]) ∧ m ≤ ls.length ∧ (∀ c ∈ ls.take m, isB c = true) ∧ bytesOf x ++ bytesOf y = p ++ (erun s0 (ls.take m)).1 ∧ Kp (fun k => k = g) w w' ∧ x.size ≤ room.toNat ∧ (y.size ≠ 0 → x.size = room.toNat) ∧ (y.size ≤ max p.length 5 ∧ (m ≠ 0 → y.size ≤ (eby (erun s0 (ls.take (m - 1))).2 (ls.getD (m - 1) 0)).1.length)) ∧ eok (erun s0 (ls.take m)).2 ∧
    ((Enc w' g T (a + m) 0 0 false y (eown (erun s0 (ls.take m)).2) ∧ (m = ls.length ∨ y.size ≠ 0)) ∨
     (m < ls.length ∧ isB (ls.getD m 0) = false ∧ y.size = 0 ∧ Enc w' g T (a + m) 2 (a + m) false y (eown (erun s0 (ls.take m)).2)))
theorem take_snoc {ls : List Int} {k : Nat} (h : k < ls.length) : ls.take (k + 1) = ls.take k ++ [ls.getD k 0] := by
  rw [List.take_succ_eq_append_getElem h, List.getD_eq_getElem?_getD, List.getElem?_eq_getElem h]; rfl
theorem efeed_start {p : List Int} {s0 : ES} {ls : List Int} {room : Int} {kept x y : ByteArray} {w1 : World} (hp : bytesOf kept = p) (hs : eok s0) (hg : Given kept room x y) (h : Enc w1 g T a 0 0 false y (eown s0)) (hk : Kp (fun k => k = g) w w1) : EFeedAt w g T a p s0 ls room 0 x y w1 := by
  obtain ⟨h1, h2⟩ := hg.bytes
  have hx := congrArg List.length h1
  have hy := congrArg List.length h2
  rw [List.length_take, bytesOf_length] at hx
  rw [List.length_drop, bytesOf_length] at hy
  refine ⟨Nat.zero_le _, by simp, ?_, by simpa [erun] using h, hk, by omega, fun h0 => by omega, ⟨by rw [← hp]; omega, fun h0 => absurd rfl h0⟩, by simpa [erun] using hs, .inl rfl⟩
  rw [h1, h2, List.take_append_drop, hp]; simp [erun]
theorem efeed_on {p : List Int} {s0 : ES} {ls : List Int} {room : Int} {k : Nat} {x y x2 y2 b : ByteArray} {wr w2 : World} (h : EFeedAt w g T a p s0 ls room k x y wr) (hk : k < ls.length) (hc0 : 0 ≤ ls.getD k 0) (hc : isB (ls.getD k 0) = true) (hy : y.size = 0)
    (hb : b = strOfNums (eby (erun s0 (ls.take k)).2 (ls.getD k 0)).1) (hg : Given (y ++ b) (room - x.size) x2 y2) (he : Enc w2 g T (a + k + 1) 0 0 false y2 (eown (eby (erun s0 (ls.take k)).2 (ls.getD k 0)).2)) (hkp : Kp (fun k => k = g) wr w2) :
    EFeedAt w g T a p s0 ls room (k + 1) (x ++ x2) y2 w2 := by
  subst hb
  obtain ⟨h1, h2⟩ := hg.bytes
  have hbb := bytesOf_ofNums (eby_bytes _ _ h.ok hc0 hc)
  have hy0 : bytesOf y = [] := List.eq_nil_of_length_eq_zero (by rw [bytesOf_length]; exact hy)
  rw [bytesOf_append, hy0, List.nil_append, hbb] at h1 h2
  have hx2 := congrArg List.length h1
  have hy2 := congrArg List.length h2
  have hl := eby_len (erun s0 (ls.take k)).2 (ls.getD k 0)
  rw [List.length_take, bytesOf_length] at hx2
  rw [List.length_drop, bytesOf_length] at hy2
  have hr := h.rm
  have hby := h.by_
  rw [hy0, List.append_nil] at hby
  have hxl := congrArg List.length hby
  rw [bytesOf_length, List.length_append] at hxl
  have hsz : (x ++ x2).size = x.size + x2.size := ByteArray.size_append
  refine ⟨hk, ?_, ?_, ?_, h.kp.tr hkp, by omega, fun h0 => by omega, ⟨by omega, fun _ => by rw [Nat.add_sub_cancel]; omega⟩, ?_, .inr (by omega)⟩
  · rw [take_snoc hk]
    intro c hm
    rcases List.mem_append.1 hm with h9 | h9
    · exact h.sc c h9
    · rw [List.mem_singleton.1 h9]; exact hc
  · rw [take_snoc hk, erun_snoc, bytesOf_append, List.append_assoc, h1, h2, List.take_append_drop, hby, List.append_assoc]
  · rw [take_snoc hk, erun_snoc, show a + ((k + 1 : Nat) : Int) = a + k + 1 by omega]
    exact he
  · rw [take_snoc hk, erun_snoc]
    exact eby_ok h.ok hc0 hc
theorem efeed_end {p : List Int} {s0 : ES} {ls : List Int} {room : Int} {k : Nat} {x y : ByteArray} {wr : World} (h : EFeedAt w g T a p s0 ls room k x y wr) (hx : k = ls.length ∨ y.size ≠ 0) : EFeedPost w g T a p s0 ls room (.returned (.tuple #[.int .i64 k, .string x])) wr :=
  ⟨k, x, y, rfl, h.le, h.sc, h.by_, h.kp, h.rm, h.full, h.few, h.ok, .inl ⟨h.enc, hx⟩⟩
theorem efeed_wrong {p : List Int} {s0 : ES} {ls : List Int} {room : Int} {k : Nat} {x y : ByteArray} {wr w2 : World} (h : EFeedAt w g T a p s0 ls room k x y wr) (hk : k < ls.length) (hn : isB (ls.getD k 0) = false) (hy : y.size = 0) (he : Enc w2 g T (a + k) 2 (a + k) false y (eown (erun s0 (ls.take k)).2)) (hkp : Kp (fun k => k = g) wr w2) :
    EFeedPost w g T a p s0 ls room (.returned (.tuple #[.int .i64 k, .string x])) w2 :=
  ⟨k, x, y, rfl, h.le, h.sc, h.by_, h.kp.tr hkp, h.rm, h.full, h.few, h.ok, .inr ⟨hk, hn, hy, he⟩⟩
theorem efeed_any (A : Option Addr) (n c : Nat) (ls : List Int) (room : Int) (s0 : ES) (p : List Int) (kept : ByteArray) (hp : bytesOf kept = p) (hpl : p.length ≤ 100) (hs : eok s0) (hr : ReadsInt w .u32 A n ls) (hrg : ∀ ad, A = some ad → ad.block ≠ g) (hwf : ∀ k, 0 ≤ ls.getD k 0 ∧ ls.getD k 0 ≤ 4294967295) (hn : n ≤ 1000000) (ha0 : 0 ≤ a) (ha1 : a ≤ 1000000000) (hr1 : room ≤ 1000000000) (hr0 : -1000000000 ≤ room) (h : Enc w g T a 0 0 false kept (eown s0)) :
    Calls Tryz.prog 223 #[.pointer (some ⟨g, 0, none⟩), .slice A n c, .int .i64 room] w (EFeedPost w g T a p s0 ls room) := by
  have HD := Lib.hid h
  have HLN := Lib.hid hr.1
  have HR := Lib.hid hr
  have HRG := Lib.hid hrg
  have HWF := Lib.hid hwf
  have HPP := Lib.hid hp
  have HSS := Lib.hid hs
  have HLB : Hid (∀ (q : ES) (y : ByteArray) (cc : Int), y.size = 0 → eok q → 0 ≤ cc → isB cc = true → y.size + (strOfNums (eby q cc).1).size ≤ 1073741824 ∧ (y ++ strOfNums (eby q cc).1).size ≤ 1073741824) := by
    intro q y cc hy hq h0 hb
    have hl := eby_len q cc
    have hz : (strOfNums (eby q cc).1).size = (eby q cc).1.length := by simp [strOfNums, ByteArray.size]
    have hsz : (y ++ strOfNums (eby q cc).1).size = y.size + (strOfNums (eby q cc).1).size := ByteArray.size_append
    omega
  clear h hr hrg hwf hp hs
  go_enter Tryz.func223, Tryz.ntmps223
  go_wp2_with (first | (go_at_call 225; go_must (refine (enc_give room (by rw [← bytesOf_length, HPP.out]; omega) HD.out).mono ?_); rintro e w1 ⟨x, y, rfl, he1, hk1, hg1⟩; have HF := Lib.hid (efeed_start (ls := ls) HPP.out HSS.out hg1 he1 hk1); clear he1 hk1 hg1))
  go_loopw [8, 9] (fun o q wr => ∃ (k : Nat) (x y : ByteArray), q = .int .i64 k ∧ o = .string x ∧ EFeedAt w g T a p s0 ls room k x y wr) (fun _ q _ => n - (intOf q).toNat)
  case atStart => exact ⟨0, _, _, rfl, rfl, HF.out⟩
  case round =>
    clear HF
    obtain ⟨k, x, y, rfl, rfl, hk⟩ := hrel
    have hle := hk.le
    have hrm := hk.rm
    have hfew := hk.few
    have hkn : k ≤ n := by have := HLN.out; omega
    have HE := Lib.hid hk.enc
    have HK := Lib.hid hk
    clear hk
    by_cases hlt : k < n
    · by_cases hy : y.size = 0
      · have hyb : ((y.size : Int) == 0) = true := by simp [hy]
        have hr1 := reads_kp HR.out HK.out.kp HRG.out
        obtain ⟨ad, rfl, hc⟩ := hr1.at_ (k : Int) (by omega) (by omega)
        rw [Int.toNat_natCast, show rd ls (k : Int) = ls.getD k 0 from rfl] at hc
        have hw := HWF.out k
        have HY := Lib.hid hy
        have HLT := Lib.hid (show k < ls.length by have := HLN.out; omega)
        generalize hgc : ls.getD k 0 = cc at *
        have HGC := Lib.hid hgc
        clear hgc hy hr1
        cases hb : isB cc with
        | false =>
          have HB := Lib.hid hb
          clear hb
          go_wp2_with (first | (go_at_call 224; go_must (refine (enc_kept HE.out).mono ?_); rintro e w' ⟨rfl, rfl⟩) | (go_at_call 158; go_must (refine (going_yes HE.out).mono ?_); rintro e w' ⟨rfl, rfl⟩) | (go_at_call 86; go_must (refine (is_any cc _).mono ?_); rw [HB.out]; rintro e w' ⟨rfl, rfl⟩) | (go_at_call 160; go_must (refine (stop_yes 2 rfl HE.out).mono ?_); rintro e w2 ⟨rfl, he2, hk2⟩; have HE2 := Lib.hid he2; have HK2 := Lib.hid hk2; clear he2 hk2))
          go_ret2
          exact efeed_wrong HK.out HLT.out (by rw [HGC.out]; exact HB.out) HY.out HE2.out HK2.out
        | true =>
          have HB := Lib.hid hb
          clear hb
          go_wp2_with (first | (go_at_call 224; go_must (refine (enc_kept HE.out).mono ?_); rintro e w' ⟨rfl, rfl⟩) | (go_at_call 158; go_must (refine (going_yes HE.out).mono ?_); rintro e w' ⟨rfl, rfl⟩) | (go_at_call 86; go_must (refine (is_any cc _).mono ?_); rw [HB.out]; rintro e w' ⟨rfl, rfl⟩))
          have hw0 := HWF.out k
          have hadg : (ad.add k).block ≠ g := by rw [add_block]; exact HRG.out ad rfl
          have HADG := Lib.hid hadg
          have HADL := Lib.hid (World.block_lt_of_cell? wr _ hc)
          clear hadg
          go_region_held3 (fun w' => w'.cell? (ad.add k) = some (.int .u32 cc)) (first | assumption | go_keep) (first | (go_at_call 227; refine (ebytes_any (w := wr.drew) (erun s0 (ls.take k)).2 cc HK.out.ok (by omega) HB.out HE.out).mono ?_; rintro e w3 ⟨rfl, he3, hk3⟩; have HE3 := Lib.hid he3; have HK3 := Lib.hid hk3; have hc3 : w3.cell? (ad.add k) = some (.int .u32 cc) := (World.cell?_of_block (w := wr) (hk3.block _ HADL.out HADG.out)).trans hc; clear he3 hk3) | (go_at_call 226; refine (enc_keep (HLB.out _ y cc HY.out HK.out.ok (by omega) HB.out).1 HE3.out).mono ?_; rintro e w4 ⟨rfl, he4, hk4⟩; have HE4 := Lib.hid he4; have HK4 := Lib.hid hk4; have hc4 : w4.cell? (ad.add k) = some (.int .u32 cc) := (World.cell?_of_block (w := w3) (hk4.block _ (Nat.lt_of_lt_of_le HADL.out HK3.out.size) HADG.out)).trans hc3; clear he4 hk4))
          go_wp2_with (first | (go_at_call 163; go_must (refine (eat_pos 1 (by omega) (by omega) (by omega) (by omega) HE4.out).mono ?_); rintro e w5 ⟨rfl, he5, hk5⟩; have HE5 := Lib.hid he5; have HK5 := Lib.hid hk5; clear he5 hk5) | (go_at_call 225; go_must (refine (enc_give _ (HLB.out _ y cc HY.out HK.out.ok (by omega) HB.out).2 HE5.out).mono ?_); rintro e w6 ⟨x6, y6, rfl, he6, hk6, hg6⟩; have HE6 := Lib.hid he6; have HK6 := Lib.hid hk6; have HG6 := Lib.hid hg6; have hx6 := hg6.le; clear he6 hk6 hg6))
          go_roundw
          case rel => exact ⟨k + 1, _, _, rfl, rfl, efeed_on HK.out HLT.out (by rw [HGC.out]; omega) (by rw [HGC.out]; exact HB.out) HY.out (by rw [HGC.out]) HG6.out (by rw [HGC.out]; exact HE6.out) (((((Kp.refl _ _).drew.tr HK3.out).tr HK4.out).tr HK5.out).tr HK6.out)⟩
          case measure => simp [intOf]; omega
      · have HY : Hid (y.size ≠ 0) := hy
        have hyb : ((y.size : Int) == 0) = false := by simp [hy]
        clear hy
        go_wp2_with (first | (go_at_call 224; go_must (refine (enc_kept HE.out).mono ?_); rintro e w' ⟨rfl, rfl⟩))
        go_ret2
        exact efeed_end HK.out (.inr HY.out)
    · have HX := Lib.hid (show k = ls.length from by have := HLN.out; omega)
      go_wp2_with (first | (go_at_call 224; go_must (refine (enc_kept HE.out).mono ?_); rintro e w' ⟨rfl, rfl⟩))
      go_ret2
      exact efeed_end HK.out (.inl HX.out)
end
end Go.Proofs.YtcgoofefiiihnaaGreat.A
namespace Go.Proofs.YtcgoofefiiihnaaGreat.A
open Go.RowKit Go.Proofs.YtcgoofefiiihnaaGreatW.PrintWords Go.Proofs.YtcgoofefiiihnaaGreatW.PrintMore
set_option linter.unusedVariables false
set_option linter.unusedSimpArgs false
set_option maxRecDepth 20000
abbrev st0 : CS := ⟨0, 0, 0, 0⟩
theorem cok0 : cok st0 := by unfold cok; simp
theorem newd_any (w : World) : Calls Tryz.prog 47 #[] w fun en w' => en = .returned (.pointer (some ⟨w.heap.size, 0, none⟩)) ∧ Dec w' w.heap.size 173 0 0 0 false nilv [] (cown st0) ∧ Below w.heap.size w w' := by
  go_enter Tryz.func47, Tryz.ntmps47
  go_wp2
  go_ret
  exact ⟨rfl, ⟨blk_new _ _, q_none _ _, fun h => by cases h⟩, (Below.refl _ _).alloc (Nat.le_refl _) _⟩
theorem cnewd_any (w : World) : Calls Tryz.prog 26 #[.int .i64 1] w fun en w' => en = .returned (.tuple #[.iface 103 (.pointer (some ⟨w.heap.size, 0, none⟩)), .int .i64 0]) ∧ Dec w' w.heap.size 173 0 0 0 false nilv [] (cown st0) ∧ Below w.heap.size w w' := by
  go_enter Tryz.func26, Tryz.ntmps26
  go_wp2_with fail
  refine (newd_any _).mono ?_
  rintro en w1 ⟨rfl, he1, hb1⟩
  have HE := Lib.hid he1
  have HB := Lib.hid hb1
  clear he1 hb1
  go_wp2_with fail
  go_ret2
  exact ⟨rfl, HE.out, HB.out⟩
theorem md_feed (a : Addr) (w : World) : (method 446 103 (.pointer (some a)) "Feed").run Tryz.prog w = .ok (157, .pointer (some a)) w := by kernel_rfl
theorem md_fail (a : Addr) (w : World) : (method 446 103 (.pointer (some a)) "Fail").run Tryz.prog w = .ok (156, .pointer (some a)) w := by kernel_rfl
theorem md_end (a : Addr) (w : World) : (method 446 103 (.pointer (some a)) "End").run Tryz.prog w = .ok (155, .pointer (some a)) w := by kernel_rfl
theorem md_done (a : Addr) (w : World) : (method 446 103 (.pointer (some a)) "Done").run Tryz.prog w = .ok (154, .pointer (some a)) w := by kernel_rfl
def DecPost (w : World) (t : ByteArray) (en : Ending) (w' : World) : Prop :=
  ∃ (v : Value) (m : Nat) (os : List Int) (s : CS) (e f : Int), en = .returned (.tuple #[v, .agg #[.int .i64 e, .int .i64 f]]) ∧ m ≤ t.size ∧ os.length ≤ m ∧ run cnx st0 ((bytesOf t).take m) = some (s, os) ∧ w'.ownsRow w.heap.size 56 1 v os.length (nums .u32 os) ∧ Below w.heap.size w w' ∧ e = (if m < t.size then 3 else if ccut s = true then 4 else 0) ∧ f = (if e = 0 then 0 else (m : Int)) ∧ (m = t.size ∨ (m < t.size ∧ cnx s (bt t m) = none))
theorem decode_end {w w8 : World} {t : ByteArray} {m : Nat} {os : List Int} {s : CS} {v : Value} {e f : Int} (hm : m ≤ t.size) (hf : os.length ≤ m) (hr : run cnx st0 ((bytesOf t).take m) = some (s, os)) (ho : w8.ownsRow w.heap.size 56 1 v os.length (nums .u32 os)) (hb : Below w.heap.size w w8) (he : e = (if m < t.size then 3 else if ccut s = true then 4 else 0)) (hff : f = (if e = 0 then 0 else (m : Int))) (hn : m = t.size ∨ (m < t.size ∧ cnx s (bt t m) = none)) : DecPost w t (.returned (.tuple #[v, .agg #[.int .i64 e, .int .i64 f]])) w8 :=
  ⟨v, m, os, s, e, f, rfl, hm, hf, hr, ho, hb, he, hff, hn⟩
set_option maxHeartbeats 4000000 in
theorem decode_any {w : World} (t : ByteArray) (hz : t.size ≤ 4000) :
    Calls Tryz.prog 9 #[.int .i64 1, .string t] w (DecPost w t) := by
  have hm1 := md_feed ⟨w.heap.size + 1, 0, none⟩
  have hm2 := md_fail ⟨w.heap.size + 1, 0, none⟩
  have hm3 := md_end ⟨w.heap.size + 1, 0, none⟩
  have hm4 := md_done ⟨w.heap.size + 1, 0, none⟩
  have huF : ∀ (x y : Int) (W : World), Sem.run Tryz.prog (Instr.field 27 (.agg #[.int .i64 x, .int .i64 y]) 0) W = .ok (.int .i64 x) W := fun x y W => by kernel_rfl
  go_enter Tryz.func9, Tryz.ntmps9
  go_wp2_with fail
  refine (cnewd_any _).mono ?_
  rintro en w1 ⟨rfl, he1, hb1⟩
  have HE := Lib.hid he1
  have HB := Lib.hid hb1
  clear he1 hb1
  have hz0 : (w.alloc (.cells #[.int .i64 0, .int .i64 0] 27)).heap.size = w.heap.size + 1 := by simp
  rw [hz0] at HE HB
  have hz1 := HB.out.size
  rw [hz0] at hz1
  have HR : Hid (w1.heap[w.heap.size]? = some (.cells #[.int .i64 0, .int .i64 0] 27 (0, 0))) := Lib.hid ((HB.out.block _ (by omega)).trans (blk_new w _))
  have HBW : Hid (Below w.heap.size w w1) := Lib.hid ((below_alloc (Below.refl w.heap.size w) (.cells #[.int .i64 0, .int .i64 0] 27)).trans (HB.out.mono (by omega)))
  have HL1 : Hid (w.heap.size + 1 < w1.heap.size) := Lib.hid HE.out.lt
  clear hz0 hz1 HB
  go_wp2_with fail
  go_loopw [1, 8] (fun l o wr => l = .string t ∧ o = .slice none 0 0 ∧ wr = w1) (fun _ _ _ => 0)
  case atStart => exact ⟨rfl, rfl, rfl⟩
  case round =>
    obtain ⟨rfl, rfl, rfl⟩ := hrel
    go_wp2_with fail
    refine (feed_any t 4096 st0 cok0 (by omega) (by omega) (by omega) HE.out).mono ?_
    rintro en w3 ⟨m, os, r, s, rfl, hm, hr, ho, hk3, hrm, hfew, hok, hcase⟩
    obtain ⟨A3, c3, rfl, hle3, _⟩ := own_reads_of_le (enc := fun x => Value.int .u32 x) (d := (0 : Int)) ho
    have HO3 := Lib.hid (own_reads' ho)
    have HM := Lib.hid hm
    have HRUN := Lib.hid hr
    have HFEW := Lib.hid hfew
    have HR3 := Lib.hid (hk3.blk HR.out (fun h => by omega))
    have HB3 := Lib.hid (HBW.out.trans (hk3.below (B := w.heap.size) HBW.out.size (fun k hk => by omega)))
    have HZ3 := Lib.hid (Nat.lt_of_lt_of_le HL1.out hk3.size)
    have hosl : os.length ≤ 4000 := by omega
    clear ho hk3 hrm hok hle3 hr hfew HL1
    rcases hcase with ⟨hd3, hx⟩ | ⟨hlt, hn, s', hd3⟩
    · obtain rfl : m = t.size := by omega
      rw [Int.zero_add] at hd3
      have HD3 := Lib.hid hd3
      have hE : (t.extract t.size t.size).toList.isEmpty = true := by rw [isEmpty_size, ByteArray.size_extract, decide_eq_true]; omega
      have hmm : ((t.size : Int) < 0) = False := by simp
      clear hd3 hx hm
      cases hc : ccut s with
      | false =>
        have HC := Lib.hid hc
        clear hc
        go_wp2_with (at_builtin; go_must (refine print_append_row (w0 := w3) w3.heap.size rfl (.tmp 28) (.tmp 29) 24 56 .u32 4 rfl Tryz.underlying24 infoU (by omega) (.slice none 0 0) [] os A3 os.length c3 rfl rfl (own_nil _ _ _ _) HO3.out (Below.refl _ _) (Nat.le_refl _) (by simp only [List.length_nil]; omega) ?_); intro v4 w4 ho4 hb4 hg4 hat4; rw [List.nil_append] at ho4; have HO4 := Lib.hid ho4; have HB4 := Lib.hid hb4; clear ho4 hb4 hg4 hat4)
        have HD4 := Lib.hid (HD3.out.below HB4.out)
        have HR4 := Lib.hid (blk_below HR3.out HB4.out)
        have HB04 := Lib.hid (HB3.out.trans (HB4.out.mono (Nat.le_trans (Nat.le_succ _) (Nat.le_of_lt HZ3.out))))
        clear HD3 HR3
        refine (dend_ok s HC.out HD4.out).mono ?_
        rintro en w5 ⟨rfl, hd5, hs5⟩
        have hk5 := hs5.nil
        have HD5 := Lib.hid hd5
        have HR5 := Lib.hid (hk5.blk HR4.out (fun h => by omega))
        have HB05 := Lib.hid (HB04.out.trans (hk5.below (B := w.heap.size) HB04.out.size (fun k hk => by omega)))
        have HO5 := Lib.hid (hk5.own HO4.out (fun k hk h0 => by have := own_base HO4.out k hk; have := HZ3.out; omega))
        clear hd5 hs5 hk5
        go_wp2_with fail
        go_loopw [8, 11] (fun o _ wr => o = v4 ∧ wr = w5) (fun _ _ _ => 0)
        case atStart => exact ⟨rfl, rfl⟩
        case round =>
          obtain ⟨rfl, rfl⟩ := hrel
          go_wp2_with fail
          refine (dec_done_over (e := 0) (d := true) rfl HD5.out).mono ?_
          rintro en w6 ⟨rfl, rfl⟩
          go_wp2_with fail
          refine (dec_fail HD5.out).mono ?_
          rintro en w8 ⟨rfl, hb8⟩
          have HR8 := Lib.hid (blk_below HR5.out hb8)
          have HB8 := Lib.hid (HB05.out.trans (hb8.mono HB05.out.size))
          have HO8 := Lib.hid ((Kp.of_below hb8 : Kp (fun _ => False) _ w8).own HO5.out (fun _ _ h => h))
          clear hb8
          have q0 : w8.cell? ⟨w.heap.size, 0, none⟩ = some (.int .i64 0) := blk_cell HR8.out 0
          have q1 : w8.cell? ⟨w.heap.size, 1, none⟩ = some (.int .i64 0) := blk_cell HR8.out 1
          have r0 : w8.frozen? ⟨w.heap.size, 0, none⟩ = false := blk_frozen HR8.out 0
          have r1 : w8.frozen? ⟨w.heap.size, 1, none⟩ = false := blk_frozen HR8.out 1
          go_wp2_with fail
          have HR8b : (w8.setCell ⟨w.heap.size, 0, none⟩ (.int .i64 0)).heap[w.heap.size]? = some (.cells #[.int .i64 0, .int .i64 0] 27 (0, 0)) := (blk_set HR8.out 0 _).trans rfl
          have HR9 : ((w8.setCell ⟨w.heap.size, 0, none⟩ (.int .i64 0)).setCell ⟨w.heap.size, 1, none⟩ (.int .i64 0)).heap[w.heap.size]? = some (.cells #[.int .i64 0, .int .i64 0] 27 (0, 0)) := (blk_set HR8b 1 _).trans rfl
          have hk9 : Kp (fun k => k = w.heap.size) w8 ((w8.setCell ⟨w.heap.size, 0, none⟩ (.int .i64 0)).setCell ⟨w.heap.size, 1, none⟩ (.int .i64 0)) := ((Kp.refl _ _).setg _ _).setg _ _
          have HB9 := HB8.out.trans (hk9.below (B := w.heap.size) HB8.out.size (fun k hk => Nat.le_of_eq hk.symm))
          have HO9 := hk9.own HO8.out (fun k hk h0 => by have := own_base HO8.out k hk; have := HZ3.out; omega)
          (try simp only [Exit.inBlock, Exit.then])
          refine bodyPost_ret (results_tc rfl _ _ w.heap.size 27 #[.int .i64 0, .int .i64 0] (0, 0) _ rfl HR9 Tryz.underlying27 rfl (by kernel_rfl)) rfl ?_
          exact decode_end (s := s) (m := t.size) HM.out HFEW.out HRUN.out (own_weaken HO9 (Nat.le_trans (Nat.le_succ _) (Nat.le_of_lt HZ3.out))) HB9 (by rw [if_neg (Nat.lt_irrefl _), if_neg (by rw [HC.out]; decide)]) rfl (.inl rfl)
      | true =>
        have HC := Lib.hid hc
        clear hc
        go_wp2_with (at_builtin; go_must (refine print_append_row (w0 := w3) w3.heap.size rfl (.tmp 28) (.tmp 29) 24 56 .u32 4 rfl Tryz.underlying24 infoU (by omega) (.slice none 0 0) [] os A3 os.length c3 rfl rfl (own_nil _ _ _ _) HO3.out (Below.refl _ _) (Nat.le_refl _) (by simp only [List.length_nil]; omega) ?_); intro v4 w4 ho4 hb4 hg4 hat4; rw [List.nil_append] at ho4; have HO4 := Lib.hid ho4; have HB4 := Lib.hid hb4; clear ho4 hb4 hg4 hat4)
        have HD4 := Lib.hid (HD3.out.below HB4.out)
        have HR4 := Lib.hid (blk_below HR3.out HB4.out)
        have HB04 := Lib.hid (HB3.out.trans (HB4.out.mono (Nat.le_trans (Nat.le_succ _) (Nat.le_of_lt HZ3.out))))
        clear HD3 HR3
        refine (dend_cut s HC.out HD4.out).mono ?_
        rintro en w5 ⟨rfl, hd5, hs5⟩
        have hk5 := hs5.nil
        have HD5 := Lib.hid hd5
        have HR5 := Lib.hid (hk5.blk HR4.out (fun h => by omega))
        have HB05 := Lib.hid (HB04.out.trans (hk5.below (B := w.heap.size) HB04.out.size (fun k hk => by omega)))
        have HO5 := Lib.hid (hk5.own HO4.out (fun k hk h0 => by have := own_base HO4.out k hk; have := HZ3.out; omega))
        clear hd5 hs5 hk5
        go_wp2_with fail
        go_loopw [8, 11] (fun o _ wr => o = v4 ∧ wr = w5) (fun _ _ _ => 0)
        case atStart => exact ⟨rfl, rfl⟩
        case round =>
          obtain ⟨rfl, rfl⟩ := hrel
          go_wp2_with fail
          refine (dec_done_over (e := 4) (d := false) rfl HD5.out).mono ?_
          rintro en w6 ⟨rfl, rfl⟩
          go_wp2_with fail
          refine (dec_fail HD5.out).mono ?_
          rintro en w8 ⟨rfl, hb8⟩
          have HR8 := Lib.hid (blk_below HR5.out hb8)
          have HB8 := Lib.hid (HB05.out.trans (hb8.mono HB05.out.size))
          have HO8 := Lib.hid ((Kp.of_below hb8 : Kp (fun _ => False) _ w8).own HO5.out (fun _ _ h => h))
          clear hb8
          have q0 : w8.cell? ⟨w.heap.size, 0, none⟩ = some (.int .i64 0) := blk_cell HR8.out 0
          have q1 : w8.cell? ⟨w.heap.size, 1, none⟩ = some (.int .i64 0) := blk_cell HR8.out 1
          have r0 : w8.frozen? ⟨w.heap.size, 0, none⟩ = false := blk_frozen HR8.out 0
          have r1 : w8.frozen? ⟨w.heap.size, 1, none⟩ = false := blk_frozen HR8.out 1
          go_wp2_with fail
          have HR8b : (w8.setCell ⟨w.heap.size, 0, none⟩ (.int .i64 4)).heap[w.heap.size]? = some (.cells #[.int .i64 4, .int .i64 0] 27 (0, 0)) := (blk_set HR8.out 0 _).trans rfl
          have HR9 : ((w8.setCell ⟨w.heap.size, 0, none⟩ (.int .i64 4)).setCell ⟨w.heap.size, 1, none⟩ (.int .i64 (t.size : Int))).heap[w.heap.size]? = some (.cells #[.int .i64 4, .int .i64 (t.size : Int)] 27 (0, 0)) := (blk_set HR8b 1 _).trans rfl
          have hk9 : Kp (fun k => k = w.heap.size) w8 ((w8.setCell ⟨w.heap.size, 0, none⟩ (.int .i64 4)).setCell ⟨w.heap.size, 1, none⟩ (.int .i64 (t.size : Int))) := ((Kp.refl _ _).setg _ _).setg _ _
          have HB9 := HB8.out.trans (hk9.below (B := w.heap.size) HB8.out.size (fun k hk => Nat.le_of_eq hk.symm))
          have HO9 := hk9.own HO8.out (fun k hk h0 => by have := own_base HO8.out k hk; have := HZ3.out; omega)
          (try simp only [Exit.inBlock, Exit.then])
          refine bodyPost_ret (results_tc rfl _ _ w.heap.size 27 #[.int .i64 4, .int .i64 (t.size : Int)] (0, 0) _ rfl HR9 Tryz.underlying27 rfl (by kernel_rfl)) rfl ?_
          exact decode_end (s := s) (m := t.size) HM.out HFEW.out HRUN.out (own_weaken HO9 (Nat.le_trans (Nat.le_succ _) (Nat.le_of_lt HZ3.out))) HB9 (by rw [if_neg (Nat.lt_irrefl _), if_pos HC.out]) rfl (.inl rfl)
    · rw [Int.zero_add] at hd3
      have HD3 := Lib.hid hd3
      have HLT := Lib.hid hlt
      have HN := Lib.hid hn
      have hE : (t.extract m t.size).toList.isEmpty = false := by rw [isEmpty_size, ByteArray.size_extract, decide_eq_false]; omega
      have hmm : ((m : Int) < 0) = False := by simp
      clear hd3 hlt hn
      go_wp2_with (at_builtin; go_must (refine print_append_row (w0 := w3) w3.heap.size rfl (.tmp 28) (.tmp 29) 24 56 .u32 4 rfl Tryz.underlying24 infoU (by omega) (.slice none 0 0) [] os A3 os.length c3 rfl rfl (own_nil _ _ _ _) HO3.out (Below.refl _ _) (Nat.le_refl _) (by simp only [List.length_nil]; omega) ?_); intro v4 w4 ho4 hb4 hg4 hat4; rw [List.nil_append] at ho4; have HO4 := Lib.hid ho4; have HB4 := Lib.hid hb4; clear ho4 hb4 hg4 hat4)
      have HD4 := Lib.hid (HD3.out.below HB4.out)
      have HR4 := Lib.hid (blk_below HR3.out HB4.out)
      have HB04 := Lib.hid (HB3.out.trans (HB4.out.mono (Nat.le_trans (Nat.le_succ _) (Nat.le_of_lt HZ3.out))))
      clear HD3 HR3
      refine (dec_fail HD4.out).mono ?_
      rintro en w4f ⟨rfl, hb4f⟩
      have HDF := Lib.hid (HD4.out.below hb4f)
      have HRF := Lib.hid (blk_below HR4.out hb4f)
      have HB0F := Lib.hid (HB04.out.trans (hb4f.mono HB04.out.size))
      have HOF := Lib.hid ((Kp.of_below hb4f : Kp (fun _ => False) w4 w4f).own HO4.out (fun _ _ h => h))
      clear hb4f
      go_wp2_with fail
      refine (dend_err s' (e := 3) rfl HDF.out).mono ?_
      rintro en w5 ⟨rfl, rfl⟩
      have HD5 := HDF
      have HR5 := HRF
      have HB05 := HB0F
      have HO5 := HOF
      go_wp2_with fail
      go_loopw [8, 11] (fun o _ wr => o = v4 ∧ wr = w4f) (fun _ _ _ => 0)
      case atStart => exact ⟨rfl, rfl⟩
      case round =>
        obtain ⟨rfl, rfl⟩ := hrel
        go_wp2_with fail
        refine (dec_done_over (e := 3) (d := false) rfl HD5.out).mono ?_
        rintro en w6 ⟨rfl, rfl⟩
        go_wp2_with fail
        refine (dec_fail HD5.out).mono ?_
        rintro en w8 ⟨rfl, hb8⟩
        have HR8 := Lib.hid (blk_below HR5.out hb8)
        have HB8 := Lib.hid (HB05.out.trans (hb8.mono HB05.out.size))
        have HO8 := Lib.hid ((Kp.of_below hb8 : Kp (fun _ => False) _ w8).own HO5.out (fun _ _ h => h))
        clear hb8
        have q0 : w8.cell? ⟨w.heap.size, 0, none⟩ = some (.int .i64 0) := blk_cell HR8.out 0
        have q1 : w8.cell? ⟨w.heap.size, 1, none⟩ = some (.int .i64 0) := blk_cell HR8.out 1
        have r0 : w8.frozen? ⟨w.heap.size, 0, none⟩ = false := blk_frozen HR8.out 0
        have r1 : w8.frozen? ⟨w.heap.size, 1, none⟩ = false := blk_frozen HR8.out 1
        go_wp2_with fail
        have HR8b : (w8.setCell ⟨w.heap.size, 0, none⟩ (.int .i64 3)).heap[w.heap.size]? = some (.cells #[.int .i64 3, .int .i64 0] 27 (0, 0)) := (blk_set HR8.out 0 _).trans rfl
        have HR9 : ((w8.setCell ⟨w.heap.size, 0, none⟩ (.int .i64 3)).setCell ⟨w.heap.size, 1, none⟩ (.int .i64 (m : Int))).heap[w.heap.size]? = some (.cells #[.int .i64 3, .int .i64 (m : Int)] 27 (0, 0)) := (blk_set HR8b 1 _).trans rfl
        have hk9 : Kp (fun k => k = w.heap.size) w8 ((w8.setCell ⟨w.heap.size, 0, none⟩ (.int .i64 3)).setCell ⟨w.heap.size, 1, none⟩ (.int .i64 (m : Int))) := ((Kp.refl _ _).setg _ _).setg _ _
        have HB9 := HB8.out.trans (hk9.below (B := w.heap.size) HB8.out.size (fun k hk => Nat.le_of_eq hk.symm))
        have HO9 := hk9.own HO8.out (fun k hk h0 => by have := own_base HO8.out k hk; have := HZ3.out; omega)
        (try simp only [Exit.inBlock, Exit.then])
        refine bodyPost_ret (results_tc rfl _ _ w.heap.size 27 #[.int .i64 3, .int .i64 (m : Int)] (0, 0) _ rfl HR9 Tryz.underlying27 rfl (by kernel_rfl)) rfl ?_
        exact decode_end (s := s) (m := m) HM.out HFEW.out HRUN.out (own_weaken HO9 (Nat.le_trans (Nat.le_succ _) (Nat.le_of_lt HZ3.out))) HB9 (by rw [if_pos HLT.out]) rfl (.inr ⟨HLT.out, HN.out⟩)
end Go.Proofs.YtcgoofefiiihnaaGreat.A
namespace Go.Proofs.YtcgoofefiiihnaaGreat.M
open Go.RowKit Go.Proofs.YtcgoofefiiihnaaGreatW.PrintWords Go.Proofs.YtcgoofefiiihnaaGreatW.PrintMore
set_option linter.unusedVariables false
set_option linter.unusedSimpArgs false
set_option maxRecDepth 20000
variable {ext : List Value}
section
variable {w : World} {g T : Nat} {a e f : Int} {d : Bool} {v : Value} {xs : List Int} {nd fb c : Int} {gone : Bool}
abbrev own6 (nd fb c : Int) (gone : Bool) : List Value := [.int .i64 nd, .int .u8 fb, .int .u32 c, .bool gone]
def secondF (fb b : Int) : Bool := if fb = 240 then decide (176 ≤ b) else if fb = 241 then (b != 182 && b != 183) else if fb = 248 then decide (168 ≤ b) else if fb = 249 then decide (b ≤ 161) else true
structure CS where
  nd : Int
  fb : Int
  c : Int
  gone : Bool
def cown (s : CS) : List Value := own6 s.nd s.fb s.c s.gone
def cok (s : CS) : Prop := (0 ≤ s.nd ∧ s.nd ≤ 4) ∧ (0 ≤ s.fb ∧ s.fb ≤ 255) ∧ 0 ≤ s.c ∧ s.c ≤ 4194303 ∧ (s.nd = 1 → s.c ≤ 131071) ∧ (s.nd = 2 → s.c ≤ 4095) ∧ (s.nd = 3 → s.c ≤ 127) ∧ (s.nd = 4 → s.c ≤ 3)
def isLead (b : Int) : Prop := (197 ≤ b ∧ b ≤ 223) ∨ (225 ≤ b ∧ b ≤ 249)
instance (b : Int) : Decidable (isLead b) := by unfold isLead; exact inferInstance
def leadF (b : Int) : CS := if b < 224 then ⟨1, b, b % 32, false⟩ else if b < 240 then ⟨2, b, b % 16, false⟩ else if b < 248 then ⟨3, b, b % 8, false⟩ else ⟨4, b, b % 4, false⟩
def cnx (s : CS) (b : Int) : Option (CS × Option Int) :=
  if s.nd = 0 then (if b < 160 then some (s, some b) else if isLead b then some (leadF b, none) else none)
  else if b < 160 ∨ 191 < b ∨ (s.gone = false ∧ secondF s.fb b = false) then none
  else if s.nd = 1 then some (⟨0, s.fb, s.c * 32 + b % 32, true⟩, some (s.c * 32 + b % 32)) else some (⟨s.nd - 1, s.fb, s.c * 32 + b % 32, true⟩, none)
end
section
variable {w : World} {g T : Nat} {a e f : Int} {d : Bool} {v : Value} {xs : List Int}
variable (ext) in
structure FeedAt (w : World) (g T : Nat) (a : Int) (v : Value) (s0 : CS) (t : ByteArray) (room : Int) (k : Nat) (os : List Int) (s : CS) (v' : Value) (w' : World) : Prop where
  le : k ≤ t.size
  run : run cnx s0 ((bytesOf t).take k) = some (s, os)
  dec : Dec w' g T (a + k) 0 0 false v' os (cown s ++ ext)
  stp : Stp w g v w' v'
  room : (os.length : Int) ≤ room ∨ os = []
  ok : cok s
  few : os.length ≤ k
end
section
variable {w : World} {g T : Nat} {a e f : Int} {d : Bool} {v : Value} {xs : List Int}
end
structure ES where
def eown (_s : ES) : List Value := []
def eok (_s : ES) : Prop := True
def rby (c : Int) : List Int :=
  if c < 160 then [c] else if c < 1024 then [192 + c / 32, 160 + c % 32] else if c < 16384 then [224 + c / 1024, 160 + c / 32 % 32, 160 + c % 32]
  else if c < 262144 then [240 + c / 32768, 160 + c / 1024 % 32, 160 + c / 32 % 32, 160 + c % 32]
  else [248 + c / 1048576, 160 + c / 32768 % 32, 160 + c / 1024 % 32, 160 + c / 32 % 32, 160 + c % 32]
def eby (s : ES) (c : Int) : List Int × ES := (rby c, s)
theorem isB_range {c : Int} (h : isB c = true) : c ≤ 1114111 := by
  simp only [isB, Bool.and_eq_true, decide_eq_true_eq] at h
  exact h.1
theorem eby_ok {s : ES} {c : Int} (hs : eok s) (h0 : 0 ≤ c) (hc : isB c = true) : eok (eby s c).2 := trivial
theorem rby_len (c : Int) : (rby c).length ≤ 5 := by
  unfold rby
  (repeat' split) <;> simp
theorem eby_len (s : ES) (c : Int) : (eby s c).1.length ≤ 5 := rby_len c
theorem rby_range (c : Int) (h0 : 0 ≤ c) (hc : isB c = true) : ∀ x ∈ rby c, 0 ≤ x ∧ x ≤ 255 := by
  have := isB_range hc
  unfold rby
  intro x hx
  split at hx
  · simp only [List.mem_cons, List.not_mem_nil, or_false] at hx; omega
  · split at hx
    · simp only [List.mem_cons, List.not_mem_nil, or_false] at hx; omega
    · split at hx
      · simp only [List.mem_cons, List.not_mem_nil, or_false] at hx; omega
      · split at hx
        · simp only [List.mem_cons, List.not_mem_nil, or_false] at hx; omega
        · simp only [List.mem_cons, List.not_mem_nil, or_false] at hx; omega
theorem eby_bytes (s : ES) (c : Int) (hs : eok s) (h0 : 0 ≤ c) (hc : isB c = true) : ∀ x ∈ (eby s c).1, 0 ≤ x ∧ x ≤ 255 := rby_range c h0 hc
theorem and31_at (x : Int) (h0 : 0 ≤ x) (h1 : x < 4294967296) : Go.bits .and .u32 x 31 = x % 32 := by
  rw [u32_and x 31 h0 h1 (by omega) (by omega), show (31 : Int).toNat = 2 ^ 5 - 1 from rfl, Nat.and_two_pow_sub_one_eq_mod]
  omega
theorem or_at (i : Nat) (x y : Int) (hx0 : 0 ≤ x) (hx1 : x < 256) (hxm : x.toNat % 2 ^ i = 0) (hy0 : 0 ≤ y) (hy1 : y.toNat < 2 ^ i) (hy2 : y < 256) : Go.bits .or .u8 x y = x + y := by
  rw [u8_or x y hx0 hx1 hy0 hy2, nat_join i _ _ hxm hy1]; omega
theorem w8_1 {x : Int} (h0 : 0 ≤ x) (h1 : x ≤ 100) : wrap64 (x - 1) = x - 1 := by unfold wrap64; omega
theorem ebl_step (k : Nat) (c ld i : Int) (l : List Int) (s0 s1 s2 : Int) (s3 : Bool) (s4 : ByteArray) (hc0 : 0 ≤ c) (hc1 : c ≤ 1114111) (hi : 0 < i) (hil : i < l.length) (hi2 : i ≤ 100) :
    PMod8Bytes.mod8_Encoder_bytes.l0 (k + 1) c ld l i s0 s1 s2 s3 s4 = PMod8Bytes.mod8_Encoder_bytes.l0 k (c / 32) ld (l.set i.toNat (160 + c % 32)) (i - 1) s0 s1 s2 s3 s4 := by
  rw [PMod8Bytes.mod8_Encoder_bytes.l0, if_pos hi, if_pos (by omega), if_pos hil, and31_at c hc0 (by omega), show c % 32 % 256 = c % 32 by omega, or_at 5 160 (c % 32) (by omega) (by omega) rfl (by omega) (by omega) (by omega), w8_1 (by omega) hi2]
theorem ebl_end (k : Nat) (c ld : Int) (x : Int) (l : List Int) (s0 s1 s2 : Int) (s3 : Bool) (s4 : ByteArray) (n : Nat) (hl0 : 0 ≤ ld) (hl1 : ld < 256) (hlm : ld.toNat % 2 ^ n = 0) (hc0 : 0 ≤ c) (hc1 : c.toNat < 2 ^ n) (hc2 : c < 256) :
    PMod8Bytes.mod8_Encoder_bytes.l0 (k + 1) c ld (x :: l) 0 s0 s1 s2 s3 s4 = some (strOfNums ((ld + c) :: l), s0, s1, s2, s3, s4) := by
  rw [PMod8Bytes.mod8_Encoder_bytes.l0, if_neg (by decide), if_pos (by simp; try omega), show c % 256 = c by omega, or_at n ld c hl0 hl1 hlm hc0 hc1 hc2]
  rfl
theorem ebytesF_at (k : Nat) (c : Int) (h0 : 0 ≤ c) (hc : c ≤ 1114111) (s0 s1 s2 : Int) (s3 : Bool) (s4 : ByteArray) : PMod8Bytes.mod8_Encoder_bytes.f (k + 9) s0 s1 s2 s3 s4 c = some (strOfNums (rby c), s0, s1, s2, s3, s4) := by
  unfold PMod8Bytes.mod8_Encoder_bytes.f rby
  by_cases c1 : c < 160
  · rw [if_pos c1, if_pos c1, show c % 256 = c by omega]
  rw [if_neg c1, if_neg c1]
  by_cases c2 : c < 1024
  · rw [if_pos c2, if_pos c2, PMod8Bytes.mod8_Encoder_bytes.j0, if_pos (by decide), if_pos (by decide), w8_1 (by decide) (by decide)]
    show PMod8Bytes.mod8_Encoder_bytes.l0 (k + 8) c 192 [0, 0] 1 s0 s1 s2 s3 s4 = _
    rw [ebl_step _ _ _ _ _ _ _ _ _ _ h0 hc (by decide) (by decide) (by decide)]
    exact ebl_end _ _ _ _ _ _ _ _ _ _ 5 (by decide) (by decide) rfl (by omega) (by omega) (by omega)
  rw [if_neg c2, if_neg c2]
  by_cases c3 : c < 16384
  · rw [if_pos c3, if_pos c3, PMod8Bytes.mod8_Encoder_bytes.j0, if_pos (by decide), if_pos (by decide), w8_1 (by decide) (by decide)]
    show PMod8Bytes.mod8_Encoder_bytes.l0 (k + 8) c 224 [0, 0, 0] 2 s0 s1 s2 s3 s4 = _
    rw [ebl_step _ _ _ _ _ _ _ _ _ _ h0 hc (by decide) (by decide) (by decide)]
    show PMod8Bytes.mod8_Encoder_bytes.l0 (k + 7) (c / 32) 224 [0, 0, 160 + c % 32] 1 s0 s1 s2 s3 s4 = _
    rw [ebl_step _ _ _ _ _ _ _ _ _ _ (by omega) (by omega) (by decide) (by simp; try decide) (by decide)]
    refine (ebl_end _ _ _ _ _ _ _ _ _ _ 4 (by decide) (by decide) rfl (by omega) (by omega) (by omega)).trans ?_
    rw [show c / 32 / 32 = c / 1024 by omega]
    rfl
  rw [if_neg c3, if_neg c3]
  by_cases c4 : c < 262144
  · rw [if_pos c4, if_pos c4, PMod8Bytes.mod8_Encoder_bytes.j0, if_pos (by decide), if_pos (by decide), w8_1 (by decide) (by decide)]
    show PMod8Bytes.mod8_Encoder_bytes.l0 (k + 8) c 240 [0, 0, 0, 0] 3 s0 s1 s2 s3 s4 = _
    rw [ebl_step _ _ _ _ _ _ _ _ _ _ h0 hc (by decide) (by decide) (by decide)]
    show PMod8Bytes.mod8_Encoder_bytes.l0 (k + 7) (c / 32) 240 [0, 0, 0, 160 + c % 32] 2 s0 s1 s2 s3 s4 = _
    rw [ebl_step _ _ _ _ _ _ _ _ _ _ (by omega) (by omega) (by decide) (by simp; try decide) (by decide)]
    show PMod8Bytes.mod8_Encoder_bytes.l0 (k + 6) (c / 32 / 32) 240 [0, 0, 160 + c / 32 % 32, 160 + c % 32] 1 s0 s1 s2 s3 s4 = _
    rw [ebl_step _ _ _ _ _ _ _ _ _ _ (by omega) (by omega) (by decide) (by simp; try decide) (by decide)]
    refine (ebl_end _ _ _ _ _ _ _ _ _ _ 3 (by decide) (by decide) rfl (by omega) (by omega) (by omega)).trans ?_
    rw [show c / 32 / 32 / 32 = c / 32768 by omega, show c / 32 / 32 = c / 1024 by omega]
    rfl
  · rw [if_neg c4, if_neg c4, PMod8Bytes.mod8_Encoder_bytes.j0, if_pos (by decide), if_pos (by decide), w8_1 (by decide) (by decide)]
    show PMod8Bytes.mod8_Encoder_bytes.l0 (k + 8) c 248 [0, 0, 0, 0, 0] 4 s0 s1 s2 s3 s4 = _
    rw [ebl_step _ _ _ _ _ _ _ _ _ _ h0 hc (by decide) (by decide) (by decide)]
    show PMod8Bytes.mod8_Encoder_bytes.l0 (k + 7) (c / 32) 248 [0, 0, 0, 0, 160 + c % 32] 3 s0 s1 s2 s3 s4 = _
    rw [ebl_step _ _ _ _ _ _ _ _ _ _ (by omega) (by omega) (by decide) (by simp; try decide) (by decide)]
    show PMod8Bytes.mod8_Encoder_bytes.l0 (k + 6) (c / 32 / 32) 248 [0, 0, 0, 160 + c / 32 % 32, 160 + c % 32] 2 s0 s1 s2 s3 s4 = _
    rw [ebl_step _ _ _ _ _ _ _ _ _ _ (by omega) (by omega) (by decide) (by simp; try decide) (by decide)]
    show PMod8Bytes.mod8_Encoder_bytes.l0 (k + 5) (c / 32 / 32 / 32) 248 [0, 0, 160 + c / 32 / 32 % 32, 160 + c / 32 % 32, 160 + c % 32] 1 s0 s1 s2 s3 s4 = _
    rw [ebl_step _ _ _ _ _ _ _ _ _ _ (by omega) (by omega) (by decide) (by simp; try decide) (by decide)]
    refine (ebl_end _ _ _ _ _ _ _ _ _ _ 2 (by decide) (by decide) rfl (by omega) (by omega) (by omega)).trans ?_
    rw [show c / 32 / 32 / 32 / 32 = c / 1048576 by omega, show c / 32 / 32 / 32 = c / 32768 by omega, show c / 32 / 32 = c / 1024 by omega]
    rfl
section
variable {w : World} {g : Nat} {a e f : Int} {d : Bool} {s : ByteArray}
theorem ebytes_any {T : Nat} (q : ES) (c : Int) (hq : eok q) (hc0 : 0 ≤ c) (hc1 : isB c = true) (h : Enc w g T a e f d s (eown q ++ ext)) :
    Calls Tryz.prog 237 #[.pointer (some ⟨g, 0, none⟩), .int .u32 c] w fun en w' => en = .returned (.string (strOfNums (eby q c).1)) ∧ Enc w' g T a e f d s (eown (eby q c).2 ++ ext) ∧ Kp (fun k => k = g) w w' := by
  have hi : PMod8Bytes.IsG w w g 0 0 0 false ⟨#[]⟩ := blk_lt h
  refine (PMod8Bytes.mod8_Encoder_bytes.calls 9 g 0 0 0 false ⟨#[]⟩ c (strOfNums (rby c)) 0 0 0 false ⟨#[]⟩ w w hi (Below.refl _ _) (ebytesF_at 0 c hc0 (isB_range hc1) 0 0 0 false ⟨#[]⟩)).mono ?_
  rintro en w' ⟨rfl, _, h2, _⟩
  exact ⟨rfl, blk_below h h2, Kp.of_below h2⟩
end
def erun : ES → List Int → List Int × ES
  | s, [] => ([], s)
  | s, c :: r => ((eby s c).1 ++ (erun (eby s c).2 r).1, (erun (eby s c).2 r).2)
theorem erun_append : ∀ (l : List Int) (s : ES) (m : List Int), erun s (l ++ m) = ((erun s l).1 ++ (erun (erun s l).2 m).1, (erun (erun s l).2 m).2)
  | [], s, m => rfl
  | x :: l, s, m => by simp [erun, erun_append l, List.append_assoc]
theorem erun_snoc (l : List Int) (s : ES) (c : Int) : erun s (l ++ [c]) = ((erun s l).1 ++ (eby (erun s l).2 c).1, (eby (erun s l).2 c).2) := by
  rw [erun_append]; simp [erun]
section
variable {w : World} {g T : Nat} {a e f : Int} {d : Bool} {s : ByteArray}
variable (ext) in
structure EFeedAt (w : World) (g T : Nat) (a : Int) (p : List Int) (s0 : ES) (ls : List Int) (room : Int) (k : Nat) (x y : ByteArray) (wr : World) : Prop where
  le : k ≤ ls.length
  sc : ∀ c ∈ ls.take k, isB c = true
  by_ : bytesOf x ++ bytesOf y = p ++ (erun s0 (ls.take k)).1
  enc : Enc wr g T (a + k) 0 0 false y (eown (erun s0 (ls.take k)).2 ++ ext)
  kp : Kp (fun k => k = g) w wr
  rm : x.size ≤ room.toNat
  full : y.size ≠ 0 → x.size = room.toNat
  few : y.size ≤ max p.length 5
  ok : eok (erun s0 (ls.take k)).2
  got : k = 0 ∨ p.length ≤ room.toNat
variable (ext) in
def EFeedPost (w : World) (g T : Nat) (a : Int) (p : List Int) (s0 : ES) (ls : List Int) (room : Int) (en : Ending) (w' : World) : Prop :=
  ∃ (m : Nat) (x y : ByteArray), en = .returned (.tuple #[.int .i64 m, .string x]) ∧ m ≤ ls.length ∧ (∀ c ∈ ls.take m, isB c = true) ∧ bytesOf x ++ bytesOf y = p ++ (erun s0 (ls.take m)).1 ∧ Kp (fun k => k = g) w w' ∧ x.size ≤ room.toNat ∧ (y.size ≠ 0 → x.size = room.toNat) ∧ y.size ≤ max p.length 5 ∧ eok (erun s0 (ls.take m)).2 ∧
    ((Enc w' g T (a + m) 0 0 false y (eown (erun s0 (ls.take m)).2 ++ ext) ∧ (m = ls.length ∨ y.size ≠ 0)) ∨
     (m < ls.length ∧ isB (ls.getD m 0) = false ∧ y.size = 0 ∧ Enc w' g T (a + m) 2 (a + m) false y (eown (erun s0 (ls.take m)).2 ++ ext)))
theorem take_snoc {ls : List Int} {k : Nat} (h : k < ls.length) : ls.take (k + 1) = ls.take k ++ [ls.getD k 0] := by
  rw [List.take_succ_eq_append_getElem h, List.getD_eq_getElem?_getD, List.getElem?_eq_getElem h]; rfl
theorem efeed_start {p : List Int} {s0 : ES} {ls : List Int} {room : Int} {kept x y : ByteArray} {w1 : World} (hp : bytesOf kept = p) (hs : eok s0) (hg : Given kept room x y) (h : Enc w1 g T a 0 0 false y (eown s0 ++ ext)) (hk : Kp (fun k => k = g) w w1) : EFeedAt ext w g T a p s0 ls room 0 x y w1 := by
  obtain ⟨h1, h2⟩ := hg.bytes
  have hx := congrArg List.length h1
  have hy := congrArg List.length h2
  rw [List.length_take, bytesOf_length] at hx
  rw [List.length_drop, bytesOf_length] at hy
  refine ⟨Nat.zero_le _, by simp, ?_, by simpa [erun] using h, hk, by omega, fun h0 => by omega, by rw [← hp]; omega, by simpa [erun] using hs, .inl rfl⟩
  rw [h1, h2, List.take_append_drop, hp]; simp [erun]
theorem efeed_on {p : List Int} {s0 : ES} {ls : List Int} {room : Int} {k : Nat} {x y x2 y2 b : ByteArray} {wr w2 : World} (h : EFeedAt ext w g T a p s0 ls room k x y wr) (hk : k < ls.length) (hc0 : 0 ≤ ls.getD k 0) (hc : isB (ls.getD k 0) = true) (hy : y.size = 0)
    (hb : b = strOfNums (eby (erun s0 (ls.take k)).2 (ls.getD k 0)).1) (hg : Given (y ++ b) (room - x.size) x2 y2) (he : Enc w2 g T (a + k + 1) 0 0 false y2 (eown (eby (erun s0 (ls.take k)).2 (ls.getD k 0)).2 ++ ext)) (hkp : Kp (fun k => k = g) wr w2) :
    EFeedAt ext w g T a p s0 ls room (k + 1) (x ++ x2) y2 w2 := by
  subst hb
  obtain ⟨h1, h2⟩ := hg.bytes
  have hbb := bytesOf_ofNums (eby_bytes _ _ h.ok hc0 hc)
  have hy0 : bytesOf y = [] := List.eq_nil_of_length_eq_zero (by rw [bytesOf_length]; exact hy)
  rw [bytesOf_append, hy0, List.nil_append, hbb] at h1 h2
  have hx2 := congrArg List.length h1
  have hy2 := congrArg List.length h2
  have hl := eby_len (erun s0 (ls.take k)).2 (ls.getD k 0)
  rw [List.length_take, bytesOf_length] at hx2
  rw [List.length_drop, bytesOf_length] at hy2
  have hr := h.rm
  have hby := h.by_
  rw [hy0, List.append_nil] at hby
  have hxl := congrArg List.length hby
  rw [bytesOf_length, List.length_append] at hxl
  have hsz : (x ++ x2).size = x.size + x2.size := ByteArray.size_append
  refine ⟨hk, ?_, ?_, ?_, h.kp.tr hkp, by omega, fun h0 => by omega, by omega, ?_, .inr (by omega)⟩
  · rw [take_snoc hk]
    intro c hm
    rcases List.mem_append.1 hm with h9 | h9
    · exact h.sc c h9
    · rw [List.mem_singleton.1 h9]; exact hc
  · rw [take_snoc hk, erun_snoc, bytesOf_append, List.append_assoc, h1, h2, List.take_append_drop, hby, List.append_assoc]
  · rw [take_snoc hk, erun_snoc, show a + ((k + 1 : Nat) : Int) = a + k + 1 by omega]
    exact he
  · rw [take_snoc hk, erun_snoc]
    exact eby_ok h.ok hc0 hc
theorem efeed_end {p : List Int} {s0 : ES} {ls : List Int} {room : Int} {k : Nat} {x y : ByteArray} {wr : World} (h : EFeedAt ext w g T a p s0 ls room k x y wr) (hx : k = ls.length ∨ y.size ≠ 0) : EFeedPost ext w g T a p s0 ls room (.returned (.tuple #[.int .i64 k, .string x])) wr :=
  ⟨k, x, y, rfl, h.le, h.sc, h.by_, h.kp, h.rm, h.full, h.few, h.ok, .inl ⟨h.enc, hx⟩⟩
theorem efeed_wrong {p : List Int} {s0 : ES} {ls : List Int} {room : Int} {k : Nat} {x y : ByteArray} {wr w2 : World} (h : EFeedAt ext w g T a p s0 ls room k x y wr) (hk : k < ls.length) (hn : isB (ls.getD k 0) = false) (hy : y.size = 0) (he : Enc w2 g T (a + k) 2 (a + k) false y (eown (erun s0 (ls.take k)).2 ++ ext)) (hkp : Kp (fun k => k = g) wr w2) :
    EFeedPost ext w g T a p s0 ls room (.returned (.tuple #[.int .i64 k, .string x])) w2 :=
  ⟨k, x, y, rfl, h.le, h.sc, h.by_, h.kp.tr hkp, h.rm, h.full, h.few, h.ok, .inr ⟨hk, hn, hy, he⟩⟩
theorem efeed_any (A : Option Addr) (n c : Nat) (ls : List Int) (room : Int) (s0 : ES) (p : List Int) (kept : ByteArray) (hp : bytesOf kept = p) (hpl : p.length ≤ 100) (hs : eok s0) (hr : ReadsInt w .u32 A n ls) (hrg : ∀ ad, A = some ad → ad.block ≠ g) (hwf : ∀ k, 0 ≤ ls.getD k 0 ∧ ls.getD k 0 ≤ 4294967295) (hn : n ≤ 1000000) (ha0 : 0 ≤ a) (ha1 : a ≤ 1000000000) (hr1 : room ≤ 1000000000) (hr0 : -1000000000 ≤ room) (h : Enc w g T a 0 0 false kept (eown s0 ++ ext)) :
    Calls Tryz.prog 235 #[.pointer (some ⟨g, 0, none⟩), .slice A n c, .int .i64 room] w (EFeedPost ext w g T a p s0 ls room) := by
  have HD := Lib.hid h
  have HLN := Lib.hid hr.1
  have HR := Lib.hid hr
  have HRG := Lib.hid hrg
  have HWF := Lib.hid hwf
  have HPP := Lib.hid hp
  have HSS := Lib.hid hs
  have HLB : Hid (∀ (q : ES) (y : ByteArray) (cc : Int), y.size = 0 → eok q → 0 ≤ cc → isB cc = true → y.size + (strOfNums (eby q cc).1).size ≤ 1073741824 ∧ (y ++ strOfNums (eby q cc).1).size ≤ 1073741824) := by
    intro q y cc hy hq h0 hb
    have hl := eby_len q cc
    have hz : (strOfNums (eby q cc).1).size = (eby q cc).1.length := by simp [strOfNums, ByteArray.size]
    have hsz : (y ++ strOfNums (eby q cc).1).size = y.size + (strOfNums (eby q cc).1).size := ByteArray.size_append
    omega
  clear h hr hrg hwf hp hs
  go_enter Tryz.func235, Tryz.ntmps235
  go_wp2_with (first | (go_at_call 225; go_must (refine (enc_give room (by rw [← bytesOf_length, HPP.out]; omega) HD.out).mono ?_); rintro e w1 ⟨x, y, rfl, he1, hk1, hg1⟩; have HF := Lib.hid (efeed_start (ls := ls) HPP.out HSS.out hg1 he1 hk1); clear he1 hk1 hg1))
  go_loopw [8, 9] (fun o q wr => ∃ (k : Nat) (x y : ByteArray), q = .int .i64 k ∧ o = .string x ∧ EFeedAt ext w g T a p s0 ls room k x y wr) (fun _ q _ => n - (intOf q).toNat)
  case atStart => exact ⟨0, _, _, rfl, rfl, HF.out⟩
  case round =>
    clear HF
    obtain ⟨k, x, y, rfl, rfl, hk⟩ := hrel
    have hle := hk.le
    have hrm := hk.rm
    have hfew := hk.few
    have hkn : k ≤ n := by have := HLN.out; omega
    have HE := Lib.hid hk.enc
    have HK := Lib.hid hk
    clear hk
    by_cases hlt : k < n
    · by_cases hy : y.size = 0
      · have hyb : ((y.size : Int) == 0) = true := by simp [hy]
        have hr1 := reads_kp HR.out HK.out.kp HRG.out
        obtain ⟨ad, rfl, hc⟩ := hr1.at_ (k : Int) (by omega) (by omega)
        rw [Int.toNat_natCast, show rd ls (k : Int) = ls.getD k 0 from rfl] at hc
        have hw := HWF.out k
        have HY := Lib.hid hy
        have HLT := Lib.hid (show k < ls.length by have := HLN.out; omega)
        generalize hgc : ls.getD k 0 = cc at *
        have HGC := Lib.hid hgc
        clear hgc hy hr1
        cases hb : isB cc with
        | false =>
          have HB := Lib.hid hb
          clear hb
          go_wp2_with (first | (go_at_call 224; go_must (refine (enc_kept HE.out).mono ?_); rintro e w' ⟨rfl, rfl⟩) | (go_at_call 158; go_must (refine (going_yes HE.out).mono ?_); rintro e w' ⟨rfl, rfl⟩) | (go_at_call 86; go_must (refine (is_any cc _).mono ?_); rw [HB.out]; rintro e w' ⟨rfl, rfl⟩) | (go_at_call 160; go_must (refine (stop_yes 2 rfl HE.out).mono ?_); rintro e w2 ⟨rfl, he2, hk2⟩; have HE2 := Lib.hid he2; have HK2 := Lib.hid hk2; clear he2 hk2))
          go_ret2
          exact efeed_wrong HK.out HLT.out (by rw [HGC.out]; exact HB.out) HY.out HE2.out HK2.out
        | true =>
          have HB := Lib.hid hb
          clear hb
          go_wp2_with (first | (go_at_call 224; go_must (refine (enc_kept HE.out).mono ?_); rintro e w' ⟨rfl, rfl⟩) | (go_at_call 158; go_must (refine (going_yes HE.out).mono ?_); rintro e w' ⟨rfl, rfl⟩) | (go_at_call 86; go_must (refine (is_any cc _).mono ?_); rw [HB.out]; rintro e w' ⟨rfl, rfl⟩))
          have hw0 := HWF.out k
          have hadg : (ad.add k).block ≠ g := by rw [add_block]; exact HRG.out ad rfl
          have HADG := Lib.hid hadg
          have HADL := Lib.hid (World.block_lt_of_cell? wr _ hc)
          clear hadg
          go_region_held3 (fun w' => w'.cell? (ad.add k) = some (.int .u32 cc)) (first | assumption | go_keep) (first | (go_at_call 237; refine (ebytes_any (w := wr.drew) (erun s0 (ls.take k)).2 cc HK.out.ok (by omega) HB.out HE.out).mono ?_; rintro e w3 ⟨rfl, he3, hk3⟩; have HE3 := Lib.hid he3; have HK3 := Lib.hid hk3; have hc3 : w3.cell? (ad.add k) = some (.int .u32 cc) := (World.cell?_of_block (w := wr) (hk3.block _ HADL.out HADG.out)).trans hc; clear he3 hk3) | (go_at_call 226; refine (enc_keep (HLB.out _ y cc HY.out HK.out.ok (by omega) HB.out).1 HE3.out).mono ?_; rintro e w4 ⟨rfl, he4, hk4⟩; have HE4 := Lib.hid he4; have HK4 := Lib.hid hk4; have hc4 : w4.cell? (ad.add k) = some (.int .u32 cc) := (World.cell?_of_block (w := w3) (hk4.block _ (Nat.lt_of_lt_of_le HADL.out HK3.out.size) HADG.out)).trans hc3; clear he4 hk4))
          go_wp2_with (first | (go_at_call 163; go_must (refine (eat_pos 1 (by omega) (by omega) (by omega) (by omega) HE4.out).mono ?_); rintro e w5 ⟨rfl, he5, hk5⟩; have HE5 := Lib.hid he5; have HK5 := Lib.hid hk5; clear he5 hk5) | (go_at_call 225; go_must (refine (enc_give _ (HLB.out _ y cc HY.out HK.out.ok (by omega) HB.out).2 HE5.out).mono ?_); rintro e w6 ⟨x6, y6, rfl, he6, hk6, hg6⟩; have HE6 := Lib.hid he6; have HK6 := Lib.hid hk6; have HG6 := Lib.hid hg6; have hx6 := hg6.le; clear he6 hk6 hg6))
          go_roundw
          case rel => exact ⟨k + 1, _, _, rfl, rfl, efeed_on HK.out HLT.out (by rw [HGC.out]; omega) (by rw [HGC.out]; exact HB.out) HY.out (by rw [HGC.out]) HG6.out (by rw [HGC.out]; exact HE6.out) (((((Kp.refl _ _).drew.tr HK3.out).tr HK4.out).tr HK5.out).tr HK6.out)⟩
          case measure => simp [intOf]; omega
      · have HY : Hid (y.size ≠ 0) := hy
        have hyb : ((y.size : Int) == 0) = false := by simp [hy]
        clear hy
        go_wp2_with (first | (go_at_call 224; go_must (refine (enc_kept HE.out).mono ?_); rintro e w' ⟨rfl, rfl⟩))
        go_ret2
        exact efeed_end HK.out (.inr HY.out)
    · have HX := Lib.hid (show k = ls.length from by have := HLN.out; omega)
      go_wp2_with (first | (go_at_call 224; go_must (refine (enc_kept HE.out).mono ?_); rintro e w' ⟨rfl, rfl⟩))
      go_ret2
      exact efeed_end HK.out (.inl HX.out)
end
end Go.Proofs.YtcgoofefiiihnaaGreat.M
namespace Go.Proofs.YtcgoofefiiihnaaGreat.S
open Go.RowKit Go.Proofs.YtcgoofefiiihnaaGreatW.PrintWords Go.Proofs.YtcgoofefiiihnaaGreatW.PrintMore
set_option linter.unusedVariables false
set_option linter.unusedSimpArgs false
set_option maxRecDepth 20000
abbrev Win (w : World) (k : Nat) (o u : List Int) : Prop := w.heap[k]? = some (.cells (nums .u32 o ++ nums .i64 u).toArray 245 (0, 0))
theorem eight {n : Int} (h0 : 0 ≤ n) (h1 : n < 8) : n = 0 ∨ n = 1 ∨ n = 2 ∨ n = 3 ∨ n = 4 ∨ n = 5 ∨ n = 6 ∨ n = 7 := by omega
theorem list8 {o : List Int} (h : o.length = 8) : ∃ a b c d e f g i : Int, o = [a, b, c, d, e, f, g, i] := by
  match o, h with
  | [a, b, c, d, e, f, g, i], _ => exact ⟨a, b, c, d, e, f, g, i, rfl⟩
theorem win_is (n : Int) (w : World) (h0 : 0 ≤ n) (h1 : n < 8) : Calls Tryz.prog 220 #[.int .i64 n] w fun en w' => en = .returned (.bool true) ∧ w = w' := by
  have d0 : decide ((0 : Int) ≤ n) = true := decide_eq_true h0
  have d1 : decide (n < (8 : Int)) = true := decide_eq_true h1
  go_enter Tryz.func220, Tryz.ntmps220
  go_wp2
  go_ret
  exact ⟨rfl, rfl⟩
theorem at_any {w : World} {k : Nat} {o u : List Int} (n : Int) (hl : o.length = 8) (h0 : 0 ≤ n) (h1 : n < 8) (h : Win w k o u) :
    Calls Tryz.prog 212 #[.pointer (some ⟨k, 0, none⟩), .int .i64 n] w fun en w' => en = .returned (.int .u32 (atF o n)) ∧ w = w' := by
  obtain ⟨o0, o1, o2, o3, o4, o5, o6, o7, rfl⟩ := list8 hl
  clear hl
  have c0 : w.cell? ⟨k, 0, none⟩ = some (.int .u32 o0) := (blk_cell h 0).trans rfl
  have c1 : w.cell? ⟨k, 1, none⟩ = some (.int .u32 o1) := (blk_cell h 1).trans rfl
  have c2 : w.cell? ⟨k, 2, none⟩ = some (.int .u32 o2) := (blk_cell h 2).trans rfl
  have c3 : w.cell? ⟨k, 3, none⟩ = some (.int .u32 o3) := (blk_cell h 3).trans rfl
  have c4 : w.cell? ⟨k, 4, none⟩ = some (.int .u32 o4) := (blk_cell h 4).trans rfl
  have c5 : w.cell? ⟨k, 5, none⟩ = some (.int .u32 o5) := (blk_cell h 5).trans rfl
  have c6 : w.cell? ⟨k, 6, none⟩ = some (.int .u32 o6) := (blk_cell h 6).trans rfl
  have c7 : w.cell? ⟨k, 7, none⟩ = some (.int .u32 o7) := (blk_cell h 7).trans rfl
  clear h
  rcases eight h0 h1 with rfl | rfl | rfl | rfl | rfl | rfl | rfl | rfl
  all_goals
    clear h0 h1
    go_enter Tryz.func212, Tryz.ntmps212
    go_wp2_with fail
    refine (win_is _ _ (by decide) (by decide)).mono ?_
    rintro en w1 ⟨rfl, rfl⟩
    go_wp2_with fail
    go_ret
    exact ⟨rfl, rfl⟩
theorem set_any {w : World} {k : Nat} {o u : List Int} (n x : Int) (hl : o.length = 8) (h0 : 0 ≤ n) (h1 : n < 8) (h : Win w k o u) :
    Calls Tryz.prog 214 #[.pointer (some ⟨k, 0, none⟩), .int .i64 n, .int .u32 x] w fun en w' => en = .returned (.tuple #[]) ∧ Win w' k (o.set n.toNat x) u ∧ Kp (fun j => j = k) w w' := by
  obtain ⟨o0, o1, o2, o3, o4, o5, o6, o7, rfl⟩ := list8 hl
  clear hl
  have c0 : w.cell? ⟨k, 0, none⟩ = some (.int .u32 o0) := (blk_cell h 0).trans rfl
  have c1 : w.cell? ⟨k, 1, none⟩ = some (.int .u32 o1) := (blk_cell h 1).trans rfl
  have c2 : w.cell? ⟨k, 2, none⟩ = some (.int .u32 o2) := (blk_cell h 2).trans rfl
  have c3 : w.cell? ⟨k, 3, none⟩ = some (.int .u32 o3) := (blk_cell h 3).trans rfl
  have c4 : w.cell? ⟨k, 4, none⟩ = some (.int .u32 o4) := (blk_cell h 4).trans rfl
  have c5 : w.cell? ⟨k, 5, none⟩ = some (.int .u32 o5) := (blk_cell h 5).trans rfl
  have c6 : w.cell? ⟨k, 6, none⟩ = some (.int .u32 o6) := (blk_cell h 6).trans rfl
  have c7 : w.cell? ⟨k, 7, none⟩ = some (.int .u32 o7) := (blk_cell h 7).trans rfl
  have f0 := blk_frozen h 0
  have f1 := blk_frozen h 1
  have f2 := blk_frozen h 2
  have f3 := blk_frozen h 3
  have f4 := blk_frozen h 4
  have f5 := blk_frozen h 5
  have f6 := blk_frozen h 6
  have f7 := blk_frozen h 7
  have H := Lib.hid h
  clear h
  rcases eight h0 h1 with rfl | rfl | rfl | rfl | rfl | rfl | rfl | rfl
  all_goals
    clear h0 h1
    go_enter Tryz.func214, Tryz.ntmps214
    go_wp2_with fail
    refine (win_is _ _ (by decide) (by decide)).mono ?_
    rintro en w1 ⟨rfl, rfl⟩
    go_wp2_with fail
    go_end0
    exact ⟨rfl, (blk_set H.out _ _).trans rfl, (Kp.refl _ _).setg _ _⟩
theorem stat_idx : (∀ W : World, Sem.run Tryz.prog (Instr.index 242 (.agg #[.int .u32 0, .int .u32 128, .int .u32 256, .int .u32 768, .int .u32 8192, .int .u32 8320, .int .u32 8448, .int .u32 12288]) (.int .i64 0)) W = .ok (.int .u32 0) W) ∧ (∀ W : World, Sem.run Tryz.prog (Instr.index 242 (.agg #[.int .u32 0, .int .u32 128, .int .u32 256, .int .u32 768, .int .u32 8192, .int .u32 8320, .int .u32 8448, .int .u32 12288]) (.int .i64 1)) W = .ok (.int .u32 128) W) ∧ (∀ W : World, Sem.run Tryz.prog (Instr.index 242 (.agg #[.int .u32 0, .int .u32 128, .int .u32 256, .int .u32 768, .int .u32 8192, .int .u32 8320, .int .u32 8448, .int .u32 12288]) (.int .i64 2)) W = .ok (.int .u32 256) W) ∧ (∀ W : World, Sem.run Tryz.prog (Instr.index 242 (.agg #[.int .u32 0, .int .u32 128, .int .u32 256, .int .u32 768, .int .u32 8192, .int .u32 8320, .int .u32 8448, .int .u32 12288]) (.int .i64 3)) W = .ok (.int .u32 768) W) ∧ (∀ W : World, Sem.run Tryz.prog (Instr.index 242 (.agg #[.int .u32 0, .int .u32 128, .int .u32 256, .int .u32 768, .int .u32 8192, .int .u32 8320, .int .u32 8448, .int .u32 12288]) (.int .i64 4)) W = .ok (.int .u32 8192) W) ∧ (∀ W : World, Sem.run Tryz.prog (Instr.index 242 (.agg #[.int .u32 0, .int .u32 128, .int .u32 256, .int .u32 768, .int .u32 8192, .int .u32 8320, .int .u32 8448, .int .u32 12288]) (.int .i64 5)) W = .ok (.int .u32 8320) W) ∧ (∀ W : World, Sem.run Tryz.prog (Instr.index 242 (.agg #[.int .u32 0, .int .u32 128, .int .u32 256, .int .u32 768, .int .u32 8192, .int .u32 8320, .int .u32 8448, .int .u32 12288]) (.int .i64 6)) W = .ok (.int .u32 8448) W) ∧ (∀ W : World, Sem.run Tryz.prog (Instr.index 242 (.agg #[.int .u32 0, .int .u32 128, .int .u32 256, .int .u32 768, .int .u32 8192, .int .u32 8320, .int .u32 8448, .int .u32 12288]) (.int .i64 7)) W = .ok (.int .u32 12288) W) := by
  refine ⟨?_, ?_, ?_, ?_, ?_, ?_, ?_, ?_⟩ <;> (intro W; kernel_rfl)
theorem spec_idx : (∀ W : World, Sem.run Tryz.prog (Instr.index 302 (.agg #[.int .u32 192, .int .u32 592, .int .u32 880, .int .u32 1328, .int .u32 12352, .int .u32 12448, .int .u32 65376]) (.int .u32 0)) W = .ok (.int .u32 192) W) ∧ (∀ W : World, Sem.run Tryz.prog (Instr.index 302 (.agg #[.int .u32 192, .int .u32 592, .int .u32 880, .int .u32 1328, .int .u32 12352, .int .u32 12448, .int .u32 65376]) (.int .u32 1)) W = .ok (.int .u32 592) W) ∧ (∀ W : World, Sem.run Tryz.prog (Instr.index 302 (.agg #[.int .u32 192, .int .u32 592, .int .u32 880, .int .u32 1328, .int .u32 12352, .int .u32 12448, .int .u32 65376]) (.int .u32 2)) W = .ok (.int .u32 880) W) ∧ (∀ W : World, Sem.run Tryz.prog (Instr.index 302 (.agg #[.int .u32 192, .int .u32 592, .int .u32 880, .int .u32 1328, .int .u32 12352, .int .u32 12448, .int .u32 65376]) (.int .u32 3)) W = .ok (.int .u32 1328) W) ∧ (∀ W : World, Sem.run Tryz.prog (Instr.index 302 (.agg #[.int .u32 192, .int .u32 592, .int .u32 880, .int .u32 1328, .int .u32 12352, .int .u32 12448, .int .u32 65376]) (.int .u32 4)) W = .ok (.int .u32 12352) W) ∧ (∀ W : World, Sem.run Tryz.prog (Instr.index 302 (.agg #[.int .u32 192, .int .u32 592, .int .u32 880, .int .u32 1328, .int .u32 12352, .int .u32 12448, .int .u32 65376]) (.int .u32 5)) W = .ok (.int .u32 12448) W) ∧ (∀ W : World, Sem.run Tryz.prog (Instr.index 302 (.agg #[.int .u32 192, .int .u32 592, .int .u32 880, .int .u32 1328, .int .u32 12352, .int .u32 12448, .int .u32 65376]) (.int .u32 6)) W = .ok (.int .u32 65376) W) := by
  refine ⟨?_, ?_, ?_, ?_, ?_, ?_, ?_⟩ <;> (intro W; kernel_rfl)
theorem static_any (n : Int) (w : World) (h0 : 0 ≤ n) (h1 : n < 8) : Calls Tryz.prog 211 #[.int .i64 n] w fun en w' => en = .returned (.tuple #[.int .u32 (statL.getD n.toNat 0), .bool true]) ∧ w = w' := by
  rcases eight h0 h1 with rfl | rfl | rfl | rfl | rfl | rfl | rfl | rfl
  all_goals
    clear h0 h1
    obtain ⟨x0, x1, x2, x3, x4, x5, x6, x7⟩ := stat_idx
    go_enter Tryz.func211, Tryz.ntmps211
    go_wp2_with fail
    go_ret2
    exact ⟨rfl, rfl⟩
theorem special_any (w : World) : Calls Tryz.prog 221 #[] w fun en w' => en = .returned (.agg #[.int .u32 192, .int .u32 592, .int .u32 880, .int .u32 1328, .int .u32 12352, .int .u32 12448, .int .u32 65376]) ∧ Below w.heap.size w w' := by
  have hu := Tryz.underlying302
  go_enter Tryz.func221, Tryz.ntmps221
  go_wp2
  exact bodyPost_ret (v := .agg #[.int .u32 192, .int .u32 592, .int .u32 880, .int .u32 1328, .int .u32 12352, .int .u32 12448, .int .u32 65376]) (by simp [results, Tryz.results221, go_sem]) rfl ⟨rfl, (Below.refl _ _).alloc (Nat.le_refl _) _⟩
def offV (x : Int) : Value := match offF x with | none => .tuple #[.int .u32 0, .bool false] | some y => .tuple #[.int .u32 y, .bool true]
theorem offset_any (x : Int) (w : World) (h0 : 0 ≤ x) (h1 : x ≤ 255) : Calls Tryz.prog 213 #[.int .u8 x] w fun en w' => en = .returned (offV x) ∧ Below w.heap.size w w' := by
  by_cases hz : x = 0
  · subst hz
    clear h0 h1
    go_enter Tryz.func213, Tryz.ntmps213
    go_wp2_with fail
    go_ret2
    exact ⟨rfl, Below.refl _ _⟩
  have e0 : (x == 0) = false := by simpa using hz
  by_cases h2 : 167 < x
  · have g167 : decide ((167 : Int) < x) = true := decide_eq_true h2
    by_cases h3 : x < 249
    · have l249 : decide (x < (249 : Int)) = true := decide_eq_true h3
      have ho : offV x = .tuple #[.int .u32 0, .bool false] := by unfold offV offF; rw [if_pos (.inr ⟨h2, h3⟩)]
      rw [ho]
      clear ho
      go_enter Tryz.func213, Tryz.ntmps213
      go_wp2_with fail
      go_ret2
      exact ⟨rfl, Below.refl _ _⟩
    · have : x = 249 ∨ x = 250 ∨ x = 251 ∨ x = 252 ∨ x = 253 ∨ x = 254 ∨ x = 255 := by omega
      clear h0 h1 e0 h2 g167 h3 hz
      rcases this with rfl | rfl | rfl | rfl | rfl | rfl | rfl
      all_goals
        obtain ⟨x0, x1, x2, x3, x4, x5, x6⟩ := spec_idx
        go_enter Tryz.func213, Tryz.ntmps213
        go_wp2_with fail
        refine (special_any _).mono ?_
        rintro en w1 ⟨rfl, hb⟩
        have HB := Lib.hid hb
        clear hb
        go_wp2_with fail
        go_ret2
        exact ⟨rfl, HB.out⟩
  · have g167 : decide ((167 : Int) < x) = false := decide_eq_false h2
    by_cases h3 : x ≤ 103
    · have l103 : decide (x ≤ (103 : Int)) = true := decide_eq_true h3
      have ho : offV x = .tuple #[.int .u32 (x * 128), .bool true] := by unfold offV offF; rw [if_neg (by omega), if_pos h3]
      rw [ho]
      clear ho
      go_enter Tryz.func213, Tryz.ntmps213
      go_wp2_with fail
      go_ret2
      exact ⟨rfl, Below.refl _ _⟩
    · have l103 : decide (x ≤ (103 : Int)) = false := decide_eq_false h3
      have l167 : decide (x ≤ (167 : Int)) = true := decide_eq_true (by omega)
      have ho : offV x = .tuple #[.int .u32 (x * 128 + 44032), .bool true] := by unfold offV offF; rw [if_neg (by omega), if_neg h3, if_pos (by omega)]
      rw [ho]
      clear ho
      go_enter Tryz.func213, Tryz.ntmps213
      go_wp2_with fail
      go_ret2
      exact ⟨rfl, Below.refl _ _⟩
theorem or_be (x y : Int) (hx0 : 0 ≤ x) (hx1 : x ≤ 255) (hy0 : 0 ≤ y) (hy1 : y ≤ 255) : Go.bits .or .u32 (x * 256) y = x * 256 + y := by
  have h := u32_or (x * 256) y (by omega) (by omega) hy0 (by omega)
  have h2 := u32_or y (x * 256) hy0 (by omega) (by omega) (by omega)
  rw [h, Nat.or_comm, ← h2, u32_or8 _ _ hy0 (by omega) (by omega) (by omega) (by omega)]
  omega
theorem extended_any (x y : Int) (w : World) (hx0 : 0 ≤ x) (hx1 : x ≤ 255) (hy0 : 0 ≤ y) (hy1 : y ≤ 255) : Calls Tryz.prog 216 #[.int .u8 x, .int .u8 y] w fun en w' => en = .returned (.tuple #[.int .i64 (x / 32), .int .u32 (65536 + 128 * (x % 32 * 256 + y))]) ∧ w = w' := by
  have hor := or_be (x % 32) y (by omega) (by omega) hy0 hy1
  go_enter Tryz.func216, Tryz.ntmps216
  go_wp2_with fail
  go_ret2
  exact ⟨rfl, rfl⟩
abbrev own14 (k : Nat) (s : CS) : List Value := [.pointer (some ⟨k, 0, none⟩), .bool s.uni, .int .i64 s.act, .int .i64 s.beg, .int .i64 s.n, .int .u8 s.first, .int .u32 s.up]
section
variable {w : World} {g T k : Nat} {a e f : Int} {d : Bool} {v : Value} {xs : List Int} {s : CS}
theorem begin_any (what n : Int) (h : Dec w g T a e f d v xs (own14 k s)) :
    Calls Tryz.prog 218 #[.pointer (some ⟨g, 0, none⟩), .int .i64 what, .int .i64 n] w fun en w' => en = .returned (.bool true) ∧ Dec w' g T a e f d v xs (own14 k (begF s what n)) ∧ Stp w g v w' v := by
  have c5 : w.cell? ⟨g, 5, none⟩ = some (.pointer (some ⟨k, 0, none⟩)) := h.co 0
  have c6 : w.cell? ⟨g, 6, none⟩ = some (.bool s.uni) := h.co 1
  have c7 : w.cell? ⟨g, 7, none⟩ = some (.int .i64 s.act) := h.co 2
  have c8 : w.cell? ⟨g, 8, none⟩ = some (.int .i64 s.beg) := h.co 3
  have c9 : w.cell? ⟨g, 9, none⟩ = some (.int .i64 s.n) := h.co 4
  have c10 : w.cell? ⟨g, 10, none⟩ = some (.int .u8 s.first) := h.co 5
  have c11 : w.cell? ⟨g, 11, none⟩ = some (.int .u32 s.up) := h.co 6
  have f6 := h.fz 6
  have f7 := h.fz 7
  have f8 := h.fz 8
  have f9 := h.fz 9
  have f10 := h.fz 10
  have f11 := h.fz 11
  have H := Lib.hid h
  clear h
  go_enter Tryz.func218, Tryz.ntmps218
  go_wp2_with fail
  go_ret
  exact ⟨rfl, (H.out.set 3 _).set 4 _, Stp.mine (((Kp.refl _ _).setg _ _).setg _ _)⟩
theorem activate_any (n : Int) (h : Dec w g T a e f d v xs (own14 k s)) :
    Calls Tryz.prog 215 #[.pointer (some ⟨g, 0, none⟩), .int .i64 n] w fun en w' => en = .returned (.bool true) ∧ Dec w' g T a e f d v xs (own14 k (actF s n)) ∧ Stp w g v w' v := by
  have c5 : w.cell? ⟨g, 5, none⟩ = some (.pointer (some ⟨k, 0, none⟩)) := h.co 0
  have c6 : w.cell? ⟨g, 6, none⟩ = some (.bool s.uni) := h.co 1
  have c7 : w.cell? ⟨g, 7, none⟩ = some (.int .i64 s.act) := h.co 2
  have c8 : w.cell? ⟨g, 8, none⟩ = some (.int .i64 s.beg) := h.co 3
  have c9 : w.cell? ⟨g, 9, none⟩ = some (.int .i64 s.n) := h.co 4
  have c10 : w.cell? ⟨g, 10, none⟩ = some (.int .u8 s.first) := h.co 5
  have c11 : w.cell? ⟨g, 11, none⟩ = some (.int .u32 s.up) := h.co 6
  have f6 := h.fz 6
  have f7 := h.fz 7
  have f8 := h.fz 8
  have f9 := h.fz 9
  have f10 := h.fz 10
  have f11 := h.fz 11
  have H := Lib.hid h
  clear h
  go_enter Tryz.func215, Tryz.ntmps215
  go_wp2_with fail
  go_ret
  exact ⟨rfl, ((H.out.set 2 _).set 1 _).set 3 _, Stp.mine ((((Kp.refl _ _).setg _ _).setg _ _).setg _ _)⟩
theorem fits_any (b : Int) (h0 : 0 ≤ b) (h1 : b ≤ 255) (h : Dec w g T a e f d v xs (own14 k s)) :
    Calls Tryz.prog 217 #[.pointer (some ⟨g, 0, none⟩), .int .u8 b] w fun en w' => en = .returned (.bool (fitB s b)) ∧ w = w' := by
  have c11 : w.cell? ⟨g, 11, none⟩ = some (.int .u32 s.up) := h.co 6
  clear h
  unfold fitB
  generalize s.up = up at *
  cases hl : decide ((220 : Int) ≤ b) <;> cases hr : decide (b ≤ (223 : Int))
  all_goals
    go_enter Tryz.func217, Tryz.ntmps217
    go_wp2
    go_ret
    exact ⟨by cases hup : (up != 0) <;> simp [hup], rfl⟩
end
end Go.Proofs.YtcgoofefiiihnaaGreat.S
namespace Go.Proofs.YtcgoofefiiihnaaGreat.S
open Go.RowKit Go.Proofs.YtcgoofefiiihnaaGreatW.PrintWords Go.Proofs.YtcgoofefiiihnaaGreatW.PrintMore
set_option linter.unusedVariables false
set_option linter.unusedSimpArgs false
set_option maxRecDepth 20000
section
variable {w : World} {g T k : Nat} {a e f : Int} {d : Bool} {v : Value} {xs : List Int} {s : CS}
theorem single_no1 (b : Int) (h0 : 0 ≤ b) (h1 : b ≤ 255) (hu : s.up ≠ 0) (hb : b ≠ 14) (h : Dec w g T a e f d v xs (own14 k s)) :
    Calls Tryz.prog 210 #[.pointer (some ⟨g, 0, none⟩), .int .u8 b] w fun en w' => en = .returned (.bool false) ∧ Dec w' g T a e f d v xs (own14 k (s)) ∧ Stp w g v w' v := by
  have u1 : (s.up != 0) = true := by simpa using hu
  have b14 : (b != 14) = true := by simpa using hb
  have c5 : w.cell? ⟨g, 5, none⟩ = some (.pointer (some ⟨k, 0, none⟩)) := h.co 0
  have c6 : w.cell? ⟨g, 6, none⟩ = some (.bool s.uni) := h.co 1
  have c7 : w.cell? ⟨g, 7, none⟩ = some (.int .i64 s.act) := h.co 2
  have c8 : w.cell? ⟨g, 8, none⟩ = some (.int .i64 s.beg) := h.co 3
  have c9 : w.cell? ⟨g, 9, none⟩ = some (.int .i64 s.n) := h.co 4
  have c10 : w.cell? ⟨g, 10, none⟩ = some (.int .u8 s.first) := h.co 5
  have c11 : w.cell? ⟨g, 11, none⟩ = some (.int .u32 s.up) := h.co 6
  have f6 := h.fz 6
  have f7 := h.fz 7
  have f8 := h.fz 8
  have f9 := h.fz 9
  have f10 := h.fz 10
  have f11 := h.fz 11
  have H := Lib.hid h
  clear h
  go_enter Tryz.func210, Tryz.ntmps210
  go_wp2_with fail
  go_ret
  exact ⟨rfl, H.out, Stp.refl _ _ _⟩
theorem single_no2 (hu : s.up = 0) (h : Dec w g T a e f d v xs (own14 k s)) :
    Calls Tryz.prog 210 #[.pointer (some ⟨g, 0, none⟩), .int .u8 12] w fun en w' => en = .returned (.bool false) ∧ Dec w' g T a e f d v xs (own14 k s) ∧ Stp w g v w' v := by
  have u0 : (s.up != 0) = false := by rw [hu]; rfl
  have c5 : w.cell? ⟨g, 5, none⟩ = some (.pointer (some ⟨k, 0, none⟩)) := h.co 0
  have c6 : w.cell? ⟨g, 6, none⟩ = some (.bool s.uni) := h.co 1
  have c7 : w.cell? ⟨g, 7, none⟩ = some (.int .i64 s.act) := h.co 2
  have c8 : w.cell? ⟨g, 8, none⟩ = some (.int .i64 s.beg) := h.co 3
  have c9 : w.cell? ⟨g, 9, none⟩ = some (.int .i64 s.n) := h.co 4
  have c10 : w.cell? ⟨g, 10, none⟩ = some (.int .u8 s.first) := h.co 5
  have c11 : w.cell? ⟨g, 11, none⟩ = some (.int .u32 s.up) := h.co 6
  have f6 := h.fz 6
  have f7 := h.fz 7
  have f8 := h.fz 8
  have f9 := h.fz 9
  have f10 := h.fz 10
  have f11 := h.fz 11
  have H := Lib.hid h
  clear h
  go_enter Tryz.func210, Tryz.ntmps210
  go_wp2_with fail
  go_ret
  exact ⟨rfl, H.out, Stp.refl _ _ _⟩
theorem single_self (b : Int) (h0 : 0 ≤ b) (h1 : b ≤ 255) (hl : xs.length + 1 ≤ 1073741824) (hu : s.up = 0) (hb : 32 ≤ b) (hb1 : b < 128) (h : Dec w g T a e f d v xs (own14 k s)) :
    Calls Tryz.prog 210 #[.pointer (some ⟨g, 0, none⟩), .int .u8 b] w fun en w' => en = .returned (.bool true) ∧ ∃ v', Dec w' g T a e f d v' (xs ++ [b]) (own14 k (s)) ∧ Stp w g v w' v' := by
  have u0 : (s.up != 0) = false := by rw [hu]; rfl
  have ge128 : decide ((128 : Int) ≤ b) = false := decide_eq_false (by omega)
  have ge32 : decide ((32 : Int) ≤ b) = true := decide_eq_true (by omega)
  have eq12 : (b == 12) = false := by simp; omega
  have c5 : w.cell? ⟨g, 5, none⟩ = some (.pointer (some ⟨k, 0, none⟩)) := h.co 0
  have c6 : w.cell? ⟨g, 6, none⟩ = some (.bool s.uni) := h.co 1
  have c7 : w.cell? ⟨g, 7, none⟩ = some (.int .i64 s.act) := h.co 2
  have c8 : w.cell? ⟨g, 8, none⟩ = some (.int .i64 s.beg) := h.co 3
  have c9 : w.cell? ⟨g, 9, none⟩ = some (.int .i64 s.n) := h.co 4
  have c10 : w.cell? ⟨g, 10, none⟩ = some (.int .u8 s.first) := h.co 5
  have c11 : w.cell? ⟨g, 11, none⟩ = some (.int .u32 s.up) := h.co 6
  have f6 := h.fz 6
  have f7 := h.fz 7
  have f8 := h.fz 8
  have f9 := h.fz 9
  have f10 := h.fz 10
  have f11 := h.fz 11
  have H := Lib.hid h
  clear h
  go_enter Tryz.func210, Tryz.ntmps210
  go_wp2_with fail
  refine (dec_hold_one b rfl hl H.out).mono ?_
  rintro en w1 ⟨rfl, v1, hd1, hs1⟩
  have HD1 := Lib.hid hd1
  have HS1 := Lib.hid hs1
  clear hd1 hs1
  go_wp2_with fail
  go_ret
  exact ⟨rfl, _, HD1.out, HS1.out⟩
theorem single_self0 (hl : xs.length + 1 ≤ 1073741824) (hu : s.up = 0) (h : Dec w g T a e f d v xs (own14 k s)) :
    Calls Tryz.prog 210 #[.pointer (some ⟨g, 0, none⟩), .int .u8 0] w fun en w' => en = .returned (.bool true) ∧ ∃ v', Dec w' g T a e f d v' (xs ++ [0]) (own14 k (s)) ∧ Stp w g v w' v' := by
  have u0 : (s.up != 0) = false := by rw [hu]; rfl
  have c5 : w.cell? ⟨g, 5, none⟩ = some (.pointer (some ⟨k, 0, none⟩)) := h.co 0
  have c6 : w.cell? ⟨g, 6, none⟩ = some (.bool s.uni) := h.co 1
  have c7 : w.cell? ⟨g, 7, none⟩ = some (.int .i64 s.act) := h.co 2
  have c8 : w.cell? ⟨g, 8, none⟩ = some (.int .i64 s.beg) := h.co 3
  have c9 : w.cell? ⟨g, 9, none⟩ = some (.int .i64 s.n) := h.co 4
  have c10 : w.cell? ⟨g, 10, none⟩ = some (.int .u8 s.first) := h.co 5
  have c11 : w.cell? ⟨g, 11, none⟩ = some (.int .u32 s.up) := h.co 6
  have f6 := h.fz 6
  have f7 := h.fz 7
  have f8 := h.fz 8
  have f9 := h.fz 9
  have f10 := h.fz 10
  have f11 := h.fz 11
  have H := Lib.hid h
  clear h
  go_enter Tryz.func210, Tryz.ntmps210
  go_wp2_with fail
  refine (dec_hold_one 0 rfl hl H.out).mono ?_
  rintro en w1 ⟨rfl, v1, hd1, hs1⟩
  have HD1 := Lib.hid hd1
  have HS1 := Lib.hid hs1
  clear hd1 hs1
  go_wp2_with fail
  go_ret
  exact ⟨rfl, _, HD1.out, HS1.out⟩
theorem single_self9 (hl : xs.length + 1 ≤ 1073741824) (hu : s.up = 0) (h : Dec w g T a e f d v xs (own14 k s)) :
    Calls Tryz.prog 210 #[.pointer (some ⟨g, 0, none⟩), .int .u8 9] w fun en w' => en = .returned (.bool true) ∧ ∃ v', Dec w' g T a e f d v' (xs ++ [9]) (own14 k (s)) ∧ Stp w g v w' v' := by
  have u0 : (s.up != 0) = false := by rw [hu]; rfl
  have c5 : w.cell? ⟨g, 5, none⟩ = some (.pointer (some ⟨k, 0, none⟩)) := h.co 0
  have c6 : w.cell? ⟨g, 6, none⟩ = some (.bool s.uni) := h.co 1
  have c7 : w.cell? ⟨g, 7, none⟩ = some (.int .i64 s.act) := h.co 2
  have c8 : w.cell? ⟨g, 8, none⟩ = some (.int .i64 s.beg) := h.co 3
  have c9 : w.cell? ⟨g, 9, none⟩ = some (.int .i64 s.n) := h.co 4
  have c10 : w.cell? ⟨g, 10, none⟩ = some (.int .u8 s.first) := h.co 5
  have c11 : w.cell? ⟨g, 11, none⟩ = some (.int .u32 s.up) := h.co 6
  have f6 := h.fz 6
  have f7 := h.fz 7
  have f8 := h.fz 8
  have f9 := h.fz 9
  have f10 := h.fz 10
  have f11 := h.fz 11
  have H := Lib.hid h
  clear h
  go_enter Tryz.func210, Tryz.ntmps210
  go_wp2_with fail
  refine (dec_hold_one 9 rfl hl H.out).mono ?_
  rintro en w1 ⟨rfl, v1, hd1, hs1⟩
  have HD1 := Lib.hid hd1
  have HS1 := Lib.hid hs1
  clear hd1 hs1
  go_wp2_with fail
  go_ret
  exact ⟨rfl, _, HD1.out, HS1.out⟩
theorem single_self10 (hl : xs.length + 1 ≤ 1073741824) (hu : s.up = 0) (h : Dec w g T a e f d v xs (own14 k s)) :
    Calls Tryz.prog 210 #[.pointer (some ⟨g, 0, none⟩), .int .u8 10] w fun en w' => en = .returned (.bool true) ∧ ∃ v', Dec w' g T a e f d v' (xs ++ [10]) (own14 k (s)) ∧ Stp w g v w' v' := by
  have u0 : (s.up != 0) = false := by rw [hu]; rfl
  have c5 : w.cell? ⟨g, 5, none⟩ = some (.pointer (some ⟨k, 0, none⟩)) := h.co 0
  have c6 : w.cell? ⟨g, 6, none⟩ = some (.bool s.uni) := h.co 1
  have c7 : w.cell? ⟨g, 7, none⟩ = some (.int .i64 s.act) := h.co 2
  have c8 : w.cell? ⟨g, 8, none⟩ = some (.int .i64 s.beg) := h.co 3
  have c9 : w.cell? ⟨g, 9, none⟩ = some (.int .i64 s.n) := h.co 4
  have c10 : w.cell? ⟨g, 10, none⟩ = some (.int .u8 s.first) := h.co 5
  have c11 : w.cell? ⟨g, 11, none⟩ = some (.int .u32 s.up) := h.co 6
  have f6 := h.fz 6
  have f7 := h.fz 7
  have f8 := h.fz 8
  have f9 := h.fz 9
  have f10 := h.fz 10
  have f11 := h.fz 11
  have H := Lib.hid h
  clear h
  go_enter Tryz.func210, Tryz.ntmps210
  go_wp2_with fail
  refine (dec_hold_one 10 rfl hl H.out).mono ?_
  rintro en w1 ⟨rfl, v1, hd1, hs1⟩
  have HD1 := Lib.hid hd1
  have HS1 := Lib.hid hs1
  clear hd1 hs1
  go_wp2_with fail
  go_ret
  exact ⟨rfl, _, HD1.out, HS1.out⟩
theorem single_self13 (hl : xs.length + 1 ≤ 1073741824) (hu : s.up = 0) (h : Dec w g T a e f d v xs (own14 k s)) :
    Calls Tryz.prog 210 #[.pointer (some ⟨g, 0, none⟩), .int .u8 13] w fun en w' => en = .returned (.bool true) ∧ ∃ v', Dec w' g T a e f d v' (xs ++ [13]) (own14 k (s)) ∧ Stp w g v w' v' := by
  have u0 : (s.up != 0) = false := by rw [hu]; rfl
  have c5 : w.cell? ⟨g, 5, none⟩ = some (.pointer (some ⟨k, 0, none⟩)) := h.co 0
  have c6 : w.cell? ⟨g, 6, none⟩ = some (.bool s.uni) := h.co 1
  have c7 : w.cell? ⟨g, 7, none⟩ = some (.int .i64 s.act) := h.co 2
  have c8 : w.cell? ⟨g, 8, none⟩ = some (.int .i64 s.beg) := h.co 3
  have c9 : w.cell? ⟨g, 9, none⟩ = some (.int .i64 s.n) := h.co 4
  have c10 : w.cell? ⟨g, 10, none⟩ = some (.int .u8 s.first) := h.co 5
  have c11 : w.cell? ⟨g, 11, none⟩ = some (.int .u32 s.up) := h.co 6
  have f6 := h.fz 6
  have f7 := h.fz 7
  have f8 := h.fz 8
  have f9 := h.fz 9
  have f10 := h.fz 10
  have f11 := h.fz 11
  have H := Lib.hid h
  clear h
  go_enter Tryz.func210, Tryz.ntmps210
  go_wp2_with fail
  refine (dec_hold_one 13 rfl hl H.out).mono ?_
  rintro en w1 ⟨rfl, v1, hd1, hs1⟩
  have HD1 := Lib.hid hd1
  have HS1 := Lib.hid hs1
  clear hd1 hs1
  go_wp2_with fail
  go_ret
  exact ⟨rfl, _, HD1.out, HS1.out⟩
theorem single_def (b : Int) (h0 : 0 ≤ b) (h1 : b ≤ 255) (hu : s.up = 0) (hb : 24 ≤ b) (hb1 : b < 32) (h : Dec w g T a e f d v xs (own14 k s)) :
    Calls Tryz.prog 210 #[.pointer (some ⟨g, 0, none⟩), .int .u8 b] w fun en w' => en = .returned (.bool true) ∧ Dec w' g T a e f d v xs (own14 k (begF s 2 (b - 24))) ∧ Stp w g v w' v := by
  have u0 : (s.up != 0) = false := by rw [hu]; rfl
  have ge128 : decide ((128 : Int) ≤ b) = false := decide_eq_false (by omega)
  have ge32 : decide ((32 : Int) ≤ b) = false := decide_eq_false (by omega)
  have ge24 : decide ((24 : Int) ≤ b) = true := decide_eq_true (by omega)
  have eq0 : (b == 0) = false := by simp; omega
  have eq9 : (b == 9) = false := by simp; omega
  have eq10 : (b == 10) = false := by simp; omega
  have eq12 : (b == 12) = false := by simp; omega
  have eq13 : (b == 13) = false := by simp; omega
  have c5 : w.cell? ⟨g, 5, none⟩ = some (.pointer (some ⟨k, 0, none⟩)) := h.co 0
  have c6 : w.cell? ⟨g, 6, none⟩ = some (.bool s.uni) := h.co 1
  have c7 : w.cell? ⟨g, 7, none⟩ = some (.int .i64 s.act) := h.co 2
  have c8 : w.cell? ⟨g, 8, none⟩ = some (.int .i64 s.beg) := h.co 3
  have c9 : w.cell? ⟨g, 9, none⟩ = some (.int .i64 s.n) := h.co 4
  have c10 : w.cell? ⟨g, 10, none⟩ = some (.int .u8 s.first) := h.co 5
  have c11 : w.cell? ⟨g, 11, none⟩ = some (.int .u32 s.up) := h.co 6
  have f6 := h.fz 6
  have f7 := h.fz 7
  have f8 := h.fz 8
  have f9 := h.fz 9
  have f10 := h.fz 10
  have f11 := h.fz 11
  have H := Lib.hid h
  clear h
  go_enter Tryz.func210, Tryz.ntmps210
  go_wp2_with fail
  refine (begin_any 2 (b - 24) H.out).mono ?_
  rintro en w1 ⟨rfl, hd1, hs1⟩
  have HD1 := Lib.hid hd1
  have HS1 := Lib.hid hs1
  clear hd1 hs1
  go_wp2_with fail
  go_ret
  exact ⟨rfl, HD1.out, HS1.out⟩
theorem single_act (b : Int) (h0 : 0 ≤ b) (h1 : b ≤ 255) (hu : s.up = 0) (hb : 16 ≤ b) (hb1 : b < 24) (h : Dec w g T a e f d v xs (own14 k s)) :
    Calls Tryz.prog 210 #[.pointer (some ⟨g, 0, none⟩), .int .u8 b] w fun en w' => en = .returned (.bool true) ∧ Dec w' g T a e f d v xs (own14 k (actF s (b - 16))) ∧ Stp w g v w' v := by
  have u0 : (s.up != 0) = false := by rw [hu]; rfl
  have ge128 : decide ((128 : Int) ≤ b) = false := decide_eq_false (by omega)
  have ge32 : decide ((32 : Int) ≤ b) = false := decide_eq_false (by omega)
  have ge24 : decide ((24 : Int) ≤ b) = false := decide_eq_false (by omega)
  have ge16 : decide ((16 : Int) ≤ b) = true := decide_eq_true (by omega)
  have eq0 : (b == 0) = false := by simp; omega
  have eq9 : (b == 9) = false := by simp; omega
  have eq10 : (b == 10) = false := by simp; omega
  have eq12 : (b == 12) = false := by simp; omega
  have eq13 : (b == 13) = false := by simp; omega
  have c5 : w.cell? ⟨g, 5, none⟩ = some (.pointer (some ⟨k, 0, none⟩)) := h.co 0
  have c6 : w.cell? ⟨g, 6, none⟩ = some (.bool s.uni) := h.co 1
  have c7 : w.cell? ⟨g, 7, none⟩ = some (.int .i64 s.act) := h.co 2
  have c8 : w.cell? ⟨g, 8, none⟩ = some (.int .i64 s.beg) := h.co 3
  have c9 : w.cell? ⟨g, 9, none⟩ = some (.int .i64 s.n) := h.co 4
  have c10 : w.cell? ⟨g, 10, none⟩ = some (.int .u8 s.first) := h.co 5
  have c11 : w.cell? ⟨g, 11, none⟩ = some (.int .u32 s.up) := h.co 6
  have f6 := h.fz 6
  have f7 := h.fz 7
  have f8 := h.fz 8
  have f9 := h.fz 9
  have f10 := h.fz 10
  have f11 := h.fz 11
  have H := Lib.hid h
  clear h
  go_enter Tryz.func210, Tryz.ntmps210
  go_wp2_with fail
  refine (activate_any (b - 16) H.out).mono ?_
  rintro en w1 ⟨rfl, hd1, hs1⟩
  have HD1 := Lib.hid hd1
  have HS1 := Lib.hid hs1
  clear hd1 hs1
  go_wp2_with fail
  go_ret
  exact ⟨rfl, HD1.out, HS1.out⟩
theorem single_quote (b : Int) (h0 : 0 ≤ b) (h1 : b ≤ 255) (hu : s.up = 0) (hb : 1 ≤ b) (hb1 : b ≤ 8) (h : Dec w g T a e f d v xs (own14 k s)) :
    Calls Tryz.prog 210 #[.pointer (some ⟨g, 0, none⟩), .int .u8 b] w fun en w' => en = .returned (.bool true) ∧ Dec w' g T a e f d v xs (own14 k (begF s 1 (b - 1))) ∧ Stp w g v w' v := by
  have u0 : (s.up != 0) = false := by rw [hu]; rfl
  have ge128 : decide ((128 : Int) ≤ b) = false := decide_eq_false (by omega)
  have ge32 : decide ((32 : Int) ≤ b) = false := decide_eq_false (by omega)
  have ge24 : decide ((24 : Int) ≤ b) = false := decide_eq_false (by omega)
  have ge16 : decide ((16 : Int) ≤ b) = false := decide_eq_false (by omega)
  have eq0 : (b == 0) = false := by simp; omega
  have eq9 : (b == 9) = false := by simp; omega
  have eq10 : (b == 10) = false := by simp; omega
  have eq11 : (b == 11) = false := by simp; omega
  have eq12 : (b == 12) = false := by simp; omega
  have eq13 : (b == 13) = false := by simp; omega
  have eq14 : (b == 14) = false := by simp; omega
  have eq15 : (b == 15) = false := by simp; omega
  have c5 : w.cell? ⟨g, 5, none⟩ = some (.pointer (some ⟨k, 0, none⟩)) := h.co 0
  have c6 : w.cell? ⟨g, 6, none⟩ = some (.bool s.uni) := h.co 1
  have c7 : w.cell? ⟨g, 7, none⟩ = some (.int .i64 s.act) := h.co 2
  have c8 : w.cell? ⟨g, 8, none⟩ = some (.int .i64 s.beg) := h.co 3
  have c9 : w.cell? ⟨g, 9, none⟩ = some (.int .i64 s.n) := h.co 4
  have c10 : w.cell? ⟨g, 10, none⟩ = some (.int .u8 s.first) := h.co 5
  have c11 : w.cell? ⟨g, 11, none⟩ = some (.int .u32 s.up) := h.co 6
  have f6 := h.fz 6
  have f7 := h.fz 7
  have f8 := h.fz 8
  have f9 := h.fz 9
  have f10 := h.fz 10
  have f11 := h.fz 11
  have H := Lib.hid h
  clear h
  go_enter Tryz.func210, Tryz.ntmps210
  go_wp2_with fail
  refine (begin_any 1 (b - 1) H.out).mono ?_
  rintro en w1 ⟨rfl, hd1, hs1⟩
  have HD1 := Lib.hid hd1
  have HS1 := Lib.hid hs1
  clear hd1 hs1
  go_wp2_with fail
  go_ret
  exact ⟨rfl, HD1.out, HS1.out⟩
theorem single_uni (hu : s.up = 0) (h : Dec w g T a e f d v xs (own14 k s)) :
    Calls Tryz.prog 210 #[.pointer (some ⟨g, 0, none⟩), .int .u8 15] w fun en w' => en = .returned (.bool true) ∧ Dec w' g T a e f d v xs (own14 k ({ s with uni := true })) ∧ Stp w g v w' v := by
  have u0 : (s.up != 0) = false := by rw [hu]; rfl
  have c5 : w.cell? ⟨g, 5, none⟩ = some (.pointer (some ⟨k, 0, none⟩)) := h.co 0
  have c6 : w.cell? ⟨g, 6, none⟩ = some (.bool s.uni) := h.co 1
  have c7 : w.cell? ⟨g, 7, none⟩ = some (.int .i64 s.act) := h.co 2
  have c8 : w.cell? ⟨g, 8, none⟩ = some (.int .i64 s.beg) := h.co 3
  have c9 : w.cell? ⟨g, 9, none⟩ = some (.int .i64 s.n) := h.co 4
  have c10 : w.cell? ⟨g, 10, none⟩ = some (.int .u8 s.first) := h.co 5
  have c11 : w.cell? ⟨g, 11, none⟩ = some (.int .u32 s.up) := h.co 6
  have f6 := h.fz 6
  have f7 := h.fz 7
  have f8 := h.fz 8
  have f9 := h.fz 9
  have f10 := h.fz 10
  have f11 := h.fz 11
  have H := Lib.hid h
  clear h
  go_enter Tryz.func210, Tryz.ntmps210
  go_wp2_with fail
  go_ret
  exact ⟨rfl, H.out.set 1 _, Stp.mine ((Kp.refl _ _).setg _ _)⟩
theorem single_unit (h : Dec w g T a e f d v xs (own14 k s)) :
    Calls Tryz.prog 210 #[.pointer (some ⟨g, 0, none⟩), .int .u8 14] w fun en w' => en = .returned (.bool true) ∧ Dec w' g T a e f d v xs (own14 k (begF s 5 0)) ∧ Stp w g v w' v := by
  have c5 : w.cell? ⟨g, 5, none⟩ = some (.pointer (some ⟨k, 0, none⟩)) := h.co 0
  have c6 : w.cell? ⟨g, 6, none⟩ = some (.bool s.uni) := h.co 1
  have c7 : w.cell? ⟨g, 7, none⟩ = some (.int .i64 s.act) := h.co 2
  have c8 : w.cell? ⟨g, 8, none⟩ = some (.int .i64 s.beg) := h.co 3
  have c9 : w.cell? ⟨g, 9, none⟩ = some (.int .i64 s.n) := h.co 4
  have c10 : w.cell? ⟨g, 10, none⟩ = some (.int .u8 s.first) := h.co 5
  have c11 : w.cell? ⟨g, 11, none⟩ = some (.int .u32 s.up) := h.co 6
  have f6 := h.fz 6
  have f7 := h.fz 7
  have f8 := h.fz 8
  have f9 := h.fz 9
  have f10 := h.fz 10
  have f11 := h.fz 11
  have H := Lib.hid h
  clear h
  cases hup : (s.up != 0)
  all_goals
    go_enter Tryz.func210, Tryz.ntmps210
    go_wp2_with fail
    refine (begin_any 5 0 H.out).mono ?_
    rintro en w1 ⟨rfl, hd1, hs1⟩
    have HD1 := Lib.hid hd1
    have HS1 := Lib.hid hs1
    clear hd1 hs1
    go_wp2_with fail
    go_ret
    exact ⟨rfl, HD1.out, HS1.out⟩
theorem single_pair (hu : s.up = 0) (h : Dec w g T a e f d v xs (own14 k s)) :
    Calls Tryz.prog 210 #[.pointer (some ⟨g, 0, none⟩), .int .u8 11] w fun en w' => en = .returned (.bool true) ∧ Dec w' g T a e f d v xs (own14 k (begF s 3 0)) ∧ Stp w g v w' v := by
  have u0 : (s.up != 0) = false := by rw [hu]; rfl
  have c5 : w.cell? ⟨g, 5, none⟩ = some (.pointer (some ⟨k, 0, none⟩)) := h.co 0
  have c6 : w.cell? ⟨g, 6, none⟩ = some (.bool s.uni) := h.co 1
  have c7 : w.cell? ⟨g, 7, none⟩ = some (.int .i64 s.act) := h.co 2
  have c8 : w.cell? ⟨g, 8, none⟩ = some (.int .i64 s.beg) := h.co 3
  have c9 : w.cell? ⟨g, 9, none⟩ = some (.int .i64 s.n) := h.co 4
  have c10 : w.cell? ⟨g, 10, none⟩ = some (.int .u8 s.first) := h.co 5
  have c11 : w.cell? ⟨g, 11, none⟩ = some (.int .u32 s.up) := h.co 6
  have f6 := h.fz 6
  have f7 := h.fz 7
  have f8 := h.fz 8
  have f9 := h.fz 9
  have f10 := h.fz 10
  have f11 := h.fz 11
  have H := Lib.hid h
  clear h
  go_enter Tryz.func210, Tryz.ntmps210
  go_wp2_with fail
  refine (begin_any 3 0 H.out).mono ?_
  rintro en w1 ⟨rfl, hd1, hs1⟩
  have HD1 := Lib.hid hd1
  have HS1 := Lib.hid hs1
  clear hd1 hs1
  go_wp2_with fail
  go_ret
  exact ⟨rfl, HD1.out, HS1.out⟩
end
end Go.Proofs.YtcgoofefiiihnaaGreat.S
namespace Go.Proofs.YtcgoofefiiihnaaGreat.S
open Go.RowKit Go.Proofs.YtcgoofefiiihnaaGreatW.PrintWords Go.Proofs.YtcgoofefiiihnaaGreatW.PrintMore
set_option linter.unusedVariables false
set_option linter.unusedSimpArgs false
set_option maxRecDepth 20000
section
variable {w : World} {g T k : Nat} {a e f : Int} {d : Bool} {v : Value} {xs : List Int} {s : CS}
theorem and_1023 (x : Int) (h0 : 0 ≤ x) (h1 : x < 4294967296) : Go.bits .and .u32 x 1023 = x % 1024 := by
  rw [u32_and x 1023 h0 h1 (by decide) (by decide)]
  have h := Nat.and_two_pow_sub_one_eq_mod x.toNat 10
  have e : x.toNat &&& (1023 : Int).toNat = x.toNat % 1024 := h
  rw [e]
  omega
theorem double_rest_lo (b : Int) (h0 : 0 ≤ b) (h1 : b ≤ 255) (hb : b < 224) (hf : fitB s b = true) (h : Dec w g T a e f d v xs (own14 k s)) :
    Calls Tryz.prog 209 #[.pointer (some ⟨g, 0, none⟩), .int .u8 b] w fun en w' => en = .returned (.bool true) ∧ Dec w' g T a e f d v xs (own14 k (begF { s with first := b } 6 0)) ∧ Stp w g v w' v := by
  have HF := Lib.hid hf
  clear hf
  have lt224 : decide (b < (224 : Int)) = true := decide_eq_true (by omega)
  have c5 : w.cell? ⟨g, 5, none⟩ = some (.pointer (some ⟨k, 0, none⟩)) := h.co 0
  have c6 : w.cell? ⟨g, 6, none⟩ = some (.bool s.uni) := h.co 1
  have c7 : w.cell? ⟨g, 7, none⟩ = some (.int .i64 s.act) := h.co 2
  have c8 : w.cell? ⟨g, 8, none⟩ = some (.int .i64 s.beg) := h.co 3
  have c9 : w.cell? ⟨g, 9, none⟩ = some (.int .i64 s.n) := h.co 4
  have c10 : w.cell? ⟨g, 10, none⟩ = some (.int .u8 s.first) := h.co 5
  have c11 : w.cell? ⟨g, 11, none⟩ = some (.int .u32 s.up) := h.co 6
  have f6 := h.fz 6
  have f7 := h.fz 7
  have f8 := h.fz 8
  have f9 := h.fz 9
  have f10 := h.fz 10
  have f11 := h.fz 11
  have H := Lib.hid h
  clear h
  go_enter Tryz.func209, Tryz.ntmps209
  go_wp2_with fail
  have hfx : fitB { s with first := b } b = true := HF.out
  refine (fits_any (s := { s with first := b }) b h0 h1 (H.out.set 5 (.int .u8 b))).mono ?_
  rw [hfx]
  rintro en w1 ⟨rfl, rfl⟩
  clear hfx
  go_wp2_with fail
  refine (begin_any (s := { s with first := b }) 6 0 (H.out.set 5 (.int .u8 b))).mono ?_
  rintro en w1 ⟨rfl, hd1, hs1⟩
  have HD1 := Lib.hid hd1
  have HS1 := Lib.hid hs1
  clear hd1 hs1
  go_wp2_with fail
  go_ret
  exact ⟨rfl, HD1.out, (Stp.mine ((Kp.refl _ _).setg _ _)).trans HS1.out⟩
theorem double_no_lo (b : Int) (h0 : 0 ≤ b) (h1 : b ≤ 255) (hb : b < 224) (hf : fitB s b = false) (h : Dec w g T a e f d v xs (own14 k s)) :
    Calls Tryz.prog 209 #[.pointer (some ⟨g, 0, none⟩), .int .u8 b] w fun en w' => en = .returned (.bool false) ∧ Dec w' g T a e f d v xs (own14 k ({ s with first := b })) ∧ Stp w g v w' v := by
  have HF := Lib.hid hf
  clear hf
  have lt224 : decide (b < (224 : Int)) = true := decide_eq_true (by omega)
  have c5 : w.cell? ⟨g, 5, none⟩ = some (.pointer (some ⟨k, 0, none⟩)) := h.co 0
  have c6 : w.cell? ⟨g, 6, none⟩ = some (.bool s.uni) := h.co 1
  have c7 : w.cell? ⟨g, 7, none⟩ = some (.int .i64 s.act) := h.co 2
  have c8 : w.cell? ⟨g, 8, none⟩ = some (.int .i64 s.beg) := h.co 3
  have c9 : w.cell? ⟨g, 9, none⟩ = some (.int .i64 s.n) := h.co 4
  have c10 : w.cell? ⟨g, 10, none⟩ = some (.int .u8 s.first) := h.co 5
  have c11 : w.cell? ⟨g, 11, none⟩ = some (.int .u32 s.up) := h.co 6
  have f6 := h.fz 6
  have f7 := h.fz 7
  have f8 := h.fz 8
  have f9 := h.fz 9
  have f10 := h.fz 10
  have f11 := h.fz 11
  have H := Lib.hid h
  clear h
  go_enter Tryz.func209, Tryz.ntmps209
  go_wp2_with fail
  have hfx : fitB { s with first := b } b = false := HF.out
  refine (fits_any (s := { s with first := b }) b h0 h1 (H.out.set 5 (.int .u8 b))).mono ?_
  rw [hfx]
  rintro en w1 ⟨rfl, rfl⟩
  clear hfx
  go_wp2_with fail
  go_ret
  exact ⟨rfl, H.out.set 5 _, Stp.mine ((Kp.refl _ _).setg _ _)⟩
theorem double_rest_hi (b : Int) (h0 : 0 ≤ b) (h1 : b ≤ 255) (hb : 242 < b) (hf : fitB s b = true) (h : Dec w g T a e f d v xs (own14 k s)) :
    Calls Tryz.prog 209 #[.pointer (some ⟨g, 0, none⟩), .int .u8 b] w fun en w' => en = .returned (.bool true) ∧ Dec w' g T a e f d v xs (own14 k (begF { s with first := b } 6 0)) ∧ Stp w g v w' v := by
  have HF := Lib.hid hf
  clear hf
  have lt224 : decide (b < (224 : Int)) = false := decide_eq_false (by omega)
  have gt242 : decide ((242 : Int) < b) = true := decide_eq_true (by omega)
  have c5 : w.cell? ⟨g, 5, none⟩ = some (.pointer (some ⟨k, 0, none⟩)) := h.co 0
  have c6 : w.cell? ⟨g, 6, none⟩ = some (.bool s.uni) := h.co 1
  have c7 : w.cell? ⟨g, 7, none⟩ = some (.int .i64 s.act) := h.co 2
  have c8 : w.cell? ⟨g, 8, none⟩ = some (.int .i64 s.beg) := h.co 3
  have c9 : w.cell? ⟨g, 9, none⟩ = some (.int .i64 s.n) := h.co 4
  have c10 : w.cell? ⟨g, 10, none⟩ = some (.int .u8 s.first) := h.co 5
  have c11 : w.cell? ⟨g, 11, none⟩ = some (.int .u32 s.up) := h.co 6
  have f6 := h.fz 6
  have f7 := h.fz 7
  have f8 := h.fz 8
  have f9 := h.fz 9
  have f10 := h.fz 10
  have f11 := h.fz 11
  have H := Lib.hid h
  clear h
  go_enter Tryz.func209, Tryz.ntmps209
  go_wp2_with fail
  have hfx : fitB { s with first := b } b = true := HF.out
  refine (fits_any (s := { s with first := b }) b h0 h1 (H.out.set 5 (.int .u8 b))).mono ?_
  rw [hfx]
  rintro en w1 ⟨rfl, rfl⟩
  clear hfx
  go_wp2_with fail
  refine (begin_any (s := { s with first := b }) 6 0 (H.out.set 5 (.int .u8 b))).mono ?_
  rintro en w1 ⟨rfl, hd1, hs1⟩
  have HD1 := Lib.hid hd1
  have HS1 := Lib.hid hs1
  clear hd1 hs1
  go_wp2_with fail
  go_ret
  exact ⟨rfl, HD1.out, (Stp.mine ((Kp.refl _ _).setg _ _)).trans HS1.out⟩
theorem double_no_hi (b : Int) (h0 : 0 ≤ b) (h1 : b ≤ 255) (hb : 242 < b) (hf : fitB s b = false) (h : Dec w g T a e f d v xs (own14 k s)) :
    Calls Tryz.prog 209 #[.pointer (some ⟨g, 0, none⟩), .int .u8 b] w fun en w' => en = .returned (.bool false) ∧ Dec w' g T a e f d v xs (own14 k ({ s with first := b })) ∧ Stp w g v w' v := by
  have HF := Lib.hid hf
  clear hf
  have lt224 : decide (b < (224 : Int)) = false := decide_eq_false (by omega)
  have gt242 : decide ((242 : Int) < b) = true := decide_eq_true (by omega)
  have c5 : w.cell? ⟨g, 5, none⟩ = some (.pointer (some ⟨k, 0, none⟩)) := h.co 0
  have c6 : w.cell? ⟨g, 6, none⟩ = some (.bool s.uni) := h.co 1
  have c7 : w.cell? ⟨g, 7, none⟩ = some (.int .i64 s.act) := h.co 2
  have c8 : w.cell? ⟨g, 8, none⟩ = some (.int .i64 s.beg) := h.co 3
  have c9 : w.cell? ⟨g, 9, none⟩ = some (.int .i64 s.n) := h.co 4
  have c10 : w.cell? ⟨g, 10, none⟩ = some (.int .u8 s.first) := h.co 5
  have c11 : w.cell? ⟨g, 11, none⟩ = some (.int .u32 s.up) := h.co 6
  have f6 := h.fz 6
  have f7 := h.fz 7
  have f8 := h.fz 8
  have f9 := h.fz 9
  have f10 := h.fz 10
  have f11 := h.fz 11
  have H := Lib.hid h
  clear h
  go_enter Tryz.func209, Tryz.ntmps209
  go_wp2_with fail
  have hfx : fitB { s with first := b } b = false := HF.out
  refine (fits_any (s := { s with first := b }) b h0 h1 (H.out.set 5 (.int .u8 b))).mono ?_
  rw [hfx]
  rintro en w1 ⟨rfl, rfl⟩
  clear hfx
  go_wp2_with fail
  go_ret
  exact ⟨rfl, H.out.set 5 _, Stp.mine ((Kp.refl _ _).setg _ _)⟩
theorem double_unit (h : Dec w g T a e f d v xs (own14 k s)) :
    Calls Tryz.prog 209 #[.pointer (some ⟨g, 0, none⟩), .int .u8 240] w fun en w' => en = .returned (.bool true) ∧ Dec w' g T a e f d v xs (own14 k (begF s 5 0)) ∧ Stp w g v w' v := by
  have c5 : w.cell? ⟨g, 5, none⟩ = some (.pointer (some ⟨k, 0, none⟩)) := h.co 0
  have c6 : w.cell? ⟨g, 6, none⟩ = some (.bool s.uni) := h.co 1
  have c7 : w.cell? ⟨g, 7, none⟩ = some (.int .i64 s.act) := h.co 2
  have c8 : w.cell? ⟨g, 8, none⟩ = some (.int .i64 s.beg) := h.co 3
  have c9 : w.cell? ⟨g, 9, none⟩ = some (.int .i64 s.n) := h.co 4
  have c10 : w.cell? ⟨g, 10, none⟩ = some (.int .u8 s.first) := h.co 5
  have c11 : w.cell? ⟨g, 11, none⟩ = some (.int .u32 s.up) := h.co 6
  have f6 := h.fz 6
  have f7 := h.fz 7
  have f8 := h.fz 8
  have f9 := h.fz 9
  have f10 := h.fz 10
  have f11 := h.fz 11
  have H := Lib.hid h
  clear h
  cases hup : (s.up != 0)
  all_goals
    go_enter Tryz.func209, Tryz.ntmps209
    go_wp2_with fail
    refine (begin_any 5 0 H.out).mono ?_
    rintro en w1 ⟨rfl, hd1, hs1⟩
    have HD1 := Lib.hid hd1
    have HS1 := Lib.hid hs1
    clear hd1 hs1
    go_wp2_with fail
    go_ret
    exact ⟨rfl, HD1.out, HS1.out⟩
theorem double_242 (h : Dec w g T a e f d v xs (own14 k s)) :
    Calls Tryz.prog 209 #[.pointer (some ⟨g, 0, none⟩), .int .u8 242] w fun en w' => en = .returned (.bool false) ∧ Dec w' g T a e f d v xs (own14 k (s)) ∧ Stp w g v w' v := by
  have c5 : w.cell? ⟨g, 5, none⟩ = some (.pointer (some ⟨k, 0, none⟩)) := h.co 0
  have c6 : w.cell? ⟨g, 6, none⟩ = some (.bool s.uni) := h.co 1
  have c7 : w.cell? ⟨g, 7, none⟩ = some (.int .i64 s.act) := h.co 2
  have c8 : w.cell? ⟨g, 8, none⟩ = some (.int .i64 s.beg) := h.co 3
  have c9 : w.cell? ⟨g, 9, none⟩ = some (.int .i64 s.n) := h.co 4
  have c10 : w.cell? ⟨g, 10, none⟩ = some (.int .u8 s.first) := h.co 5
  have c11 : w.cell? ⟨g, 11, none⟩ = some (.int .u32 s.up) := h.co 6
  have f6 := h.fz 6
  have f7 := h.fz 7
  have f8 := h.fz 8
  have f9 := h.fz 9
  have f10 := h.fz 10
  have f11 := h.fz 11
  have H := Lib.hid h
  clear h
  cases hup : (s.up != 0)
  all_goals
    go_enter Tryz.func209, Tryz.ntmps209
    go_wp2_with fail
    go_ret
    exact ⟨rfl, H.out, Stp.refl _ _ _⟩
theorem double_pair (hu : s.up = 0) (h : Dec w g T a e f d v xs (own14 k s)) :
    Calls Tryz.prog 209 #[.pointer (some ⟨g, 0, none⟩), .int .u8 241] w fun en w' => en = .returned (.bool true) ∧ Dec w' g T a e f d v xs (own14 k (begF s 3 0)) ∧ Stp w g v w' v := by
  have u0 : (s.up != 0) = false := by rw [hu]; rfl
  have c5 : w.cell? ⟨g, 5, none⟩ = some (.pointer (some ⟨k, 0, none⟩)) := h.co 0
  have c6 : w.cell? ⟨g, 6, none⟩ = some (.bool s.uni) := h.co 1
  have c7 : w.cell? ⟨g, 7, none⟩ = some (.int .i64 s.act) := h.co 2
  have c8 : w.cell? ⟨g, 8, none⟩ = some (.int .i64 s.beg) := h.co 3
  have c9 : w.cell? ⟨g, 9, none⟩ = some (.int .i64 s.n) := h.co 4
  have c10 : w.cell? ⟨g, 10, none⟩ = some (.int .u8 s.first) := h.co 5
  have c11 : w.cell? ⟨g, 11, none⟩ = some (.int .u32 s.up) := h.co 6
  have f6 := h.fz 6
  have f7 := h.fz 7
  have f8 := h.fz 8
  have f9 := h.fz 9
  have f10 := h.fz 10
  have f11 := h.fz 11
  have H := Lib.hid h
  clear h
  go_enter Tryz.func209, Tryz.ntmps209
  go_wp2_with fail
  refine (begin_any 3 0 H.out).mono ?_
  rintro en w1 ⟨rfl, hd1, hs1⟩
  have HD1 := Lib.hid hd1
  have HS1 := Lib.hid hs1
  clear hd1 hs1
  go_wp2_with fail
  go_ret
  exact ⟨rfl, HD1.out, HS1.out⟩
theorem double_up (b : Int) (h0 : 0 ≤ b) (h1 : b ≤ 255) (hu : s.up ≠ 0) (hb : 224 ≤ b) (hb1 : b ≤ 242) (hb2 : b ≠ 240) (h : Dec w g T a e f d v xs (own14 k s)) :
    Calls Tryz.prog 209 #[.pointer (some ⟨g, 0, none⟩), .int .u8 b] w fun en w' => en = .returned (.bool false) ∧ Dec w' g T a e f d v xs (own14 k (s)) ∧ Stp w g v w' v := by
  have u1 : (s.up != 0) = true := by simpa using hu
  have lt224 : decide (b < (224 : Int)) = false := decide_eq_false (by omega)
  have gt242 : decide ((242 : Int) < b) = false := decide_eq_false (by omega)
  have eq240 : (b == 240) = false := by simp; omega
  have c5 : w.cell? ⟨g, 5, none⟩ = some (.pointer (some ⟨k, 0, none⟩)) := h.co 0
  have c6 : w.cell? ⟨g, 6, none⟩ = some (.bool s.uni) := h.co 1
  have c7 : w.cell? ⟨g, 7, none⟩ = some (.int .i64 s.act) := h.co 2
  have c8 : w.cell? ⟨g, 8, none⟩ = some (.int .i64 s.beg) := h.co 3
  have c9 : w.cell? ⟨g, 9, none⟩ = some (.int .i64 s.n) := h.co 4
  have c10 : w.cell? ⟨g, 10, none⟩ = some (.int .u8 s.first) := h.co 5
  have c11 : w.cell? ⟨g, 11, none⟩ = some (.int .u32 s.up) := h.co 6
  have f6 := h.fz 6
  have f7 := h.fz 7
  have f8 := h.fz 8
  have f9 := h.fz 9
  have f10 := h.fz 10
  have f11 := h.fz 11
  have H := Lib.hid h
  clear h
  go_enter Tryz.func209, Tryz.ntmps209
  go_wp2_with fail
  go_ret
  exact ⟨rfl, H.out, Stp.refl _ _ _⟩
theorem double_def (b : Int) (h0 : 0 ≤ b) (h1 : b ≤ 255) (hu : s.up = 0) (hb : 232 ≤ b) (hb1 : b < 240) (h : Dec w g T a e f d v xs (own14 k s)) :
    Calls Tryz.prog 209 #[.pointer (some ⟨g, 0, none⟩), .int .u8 b] w fun en w' => en = .returned (.bool true) ∧ Dec w' g T a e f d v xs (own14 k (begF s 2 (b - 232))) ∧ Stp w g v w' v := by
  have u0 : (s.up != 0) = false := by rw [hu]; rfl
  have lt224 : decide (b < (224 : Int)) = false := decide_eq_false (by omega)
  have gt242 : decide ((242 : Int) < b) = false := decide_eq_false (by omega)
  have eq240 : (b == 240) = false := by simp; omega
  have eq241 : (b == 241) = false := by simp; omega
  have eq242 : (b == 242) = false := by simp; omega
  have ge232 : decide ((232 : Int) ≤ b) = true := decide_eq_true (by omega)
  have c5 : w.cell? ⟨g, 5, none⟩ = some (.pointer (some ⟨k, 0, none⟩)) := h.co 0
  have c6 : w.cell? ⟨g, 6, none⟩ = some (.bool s.uni) := h.co 1
  have c7 : w.cell? ⟨g, 7, none⟩ = some (.int .i64 s.act) := h.co 2
  have c8 : w.cell? ⟨g, 8, none⟩ = some (.int .i64 s.beg) := h.co 3
  have c9 : w.cell? ⟨g, 9, none⟩ = some (.int .i64 s.n) := h.co 4
  have c10 : w.cell? ⟨g, 10, none⟩ = some (.int .u8 s.first) := h.co 5
  have c11 : w.cell? ⟨g, 11, none⟩ = some (.int .u32 s.up) := h.co 6
  have f6 := h.fz 6
  have f7 := h.fz 7
  have f8 := h.fz 8
  have f9 := h.fz 9
  have f10 := h.fz 10
  have f11 := h.fz 11
  have H := Lib.hid h
  clear h
  go_enter Tryz.func209, Tryz.ntmps209
  go_wp2_with fail
  refine (begin_any 2 (b - 232) H.out).mono ?_
  rintro en w1 ⟨rfl, hd1, hs1⟩
  have HD1 := Lib.hid hd1
  have HS1 := Lib.hid hs1
  clear hd1 hs1
  go_wp2_with fail
  go_ret
  exact ⟨rfl, HD1.out, HS1.out⟩
theorem double_act (b : Int) (h0 : 0 ≤ b) (h1 : b ≤ 255) (hu : s.up = 0) (hb : 224 ≤ b) (hb1 : b < 232) (h : Dec w g T a e f d v xs (own14 k s)) :
    Calls Tryz.prog 209 #[.pointer (some ⟨g, 0, none⟩), .int .u8 b] w fun en w' => en = .returned (.bool true) ∧ Dec w' g T a e f d v xs (own14 k (actF s (b - 224))) ∧ Stp w g v w' v := by
  have u0 : (s.up != 0) = false := by rw [hu]; rfl
  have lt224 : decide (b < (224 : Int)) = false := decide_eq_false (by omega)
  have gt242 : decide ((242 : Int) < b) = false := decide_eq_false (by omega)
  have eq240 : (b == 240) = false := by simp; omega
  have eq241 : (b == 241) = false := by simp; omega
  have eq242 : (b == 242) = false := by simp; omega
  have ge232 : decide ((232 : Int) ≤ b) = false := decide_eq_false (by omega)
  have c5 : w.cell? ⟨g, 5, none⟩ = some (.pointer (some ⟨k, 0, none⟩)) := h.co 0
  have c6 : w.cell? ⟨g, 6, none⟩ = some (.bool s.uni) := h.co 1
  have c7 : w.cell? ⟨g, 7, none⟩ = some (.int .i64 s.act) := h.co 2
  have c8 : w.cell? ⟨g, 8, none⟩ = some (.int .i64 s.beg) := h.co 3
  have c9 : w.cell? ⟨g, 9, none⟩ = some (.int .i64 s.n) := h.co 4
  have c10 : w.cell? ⟨g, 10, none⟩ = some (.int .u8 s.first) := h.co 5
  have c11 : w.cell? ⟨g, 11, none⟩ = some (.int .u32 s.up) := h.co 6
  have f6 := h.fz 6
  have f7 := h.fz 7
  have f8 := h.fz 8
  have f9 := h.fz 9
  have f10 := h.fz 10
  have f11 := h.fz 11
  have H := Lib.hid h
  clear h
  go_enter Tryz.func209, Tryz.ntmps209
  go_wp2_with fail
  refine (activate_any (b - 224) H.out).mono ?_
  rintro en w1 ⟨rfl, hd1, hs1⟩
  have HD1 := Lib.hid hd1
  have HS1 := Lib.hid hs1
  clear hd1 hs1
  go_wp2_with fail
  go_ret
  exact ⟨rfl, HD1.out, HS1.out⟩
theorem whole_up (u : Int) (h0 : 0 ≤ u) (h1 : u ≤ 65535) (hu : s.up = 0) (hb : 55296 ≤ u) (hb1 : u < 56320) (h : Dec w g T a e f d v xs (own14 k s)) :
    Calls Tryz.prog 219 #[.pointer (some ⟨g, 0, none⟩), .int .u32 u] w fun en w' => en = .returned (.bool true) ∧ Dec w' g T a e f d v xs (own14 k ({ s with beg := 0, up := u })) ∧ Stp w g v w' v := by
  have u0 : (s.up != 0) = false := by rw [hu]; rfl
  have ge55296 : decide ((55296 : Int) ≤ u) = true := decide_eq_true (by omega)
  have lt56320 : decide (u < (56320 : Int)) = true := decide_eq_true (by omega)
  have c5 : w.cell? ⟨g, 5, none⟩ = some (.pointer (some ⟨k, 0, none⟩)) := h.co 0
  have c6 : w.cell? ⟨g, 6, none⟩ = some (.bool s.uni) := h.co 1
  have c7 : w.cell? ⟨g, 7, none⟩ = some (.int .i64 s.act) := h.co 2
  have c8 : w.cell? ⟨g, 8, none⟩ = some (.int .i64 s.beg) := h.co 3
  have c9 : w.cell? ⟨g, 9, none⟩ = some (.int .i64 s.n) := h.co 4
  have c10 : w.cell? ⟨g, 10, none⟩ = some (.int .u8 s.first) := h.co 5
  have c11 : w.cell? ⟨g, 11, none⟩ = some (.int .u32 s.up) := h.co 6
  have f6 := h.fz 6
  have f7 := h.fz 7
  have f8 := h.fz 8
  have f9 := h.fz 9
  have f10 := h.fz 10
  have f11 := h.fz 11
  have H := Lib.hid h
  clear h
  go_enter Tryz.func219, Tryz.ntmps219
  go_wp2_with fail
  go_ret
  exact ⟨rfl, (H.out.set 3 _).set 6 _, Stp.mine (((Kp.refl _ _).setg _ _).setg _ _)⟩
theorem whole_lo (u : Int) (h0 : 0 ≤ u) (h1 : u ≤ 65535) (hl : xs.length + 1 ≤ 1073741824) (hu : s.up = 0) (hb : u < 55296) (h : Dec w g T a e f d v xs (own14 k s)) :
    Calls Tryz.prog 219 #[.pointer (some ⟨g, 0, none⟩), .int .u32 u] w fun en w' => en = .returned (.bool true) ∧ ∃ v', Dec w' g T a e f d v' (xs ++ [u]) (own14 k ({ s with beg := 0 })) ∧ Stp w g v w' v' := by
  have u0 : (s.up != 0) = false := by rw [hu]; rfl
  have ge55296 : decide ((55296 : Int) ≤ u) = false := decide_eq_false (by omega)
  have c5 : w.cell? ⟨g, 5, none⟩ = some (.pointer (some ⟨k, 0, none⟩)) := h.co 0
  have c6 : w.cell? ⟨g, 6, none⟩ = some (.bool s.uni) := h.co 1
  have c7 : w.cell? ⟨g, 7, none⟩ = some (.int .i64 s.act) := h.co 2
  have c8 : w.cell? ⟨g, 8, none⟩ = some (.int .i64 s.beg) := h.co 3
  have c9 : w.cell? ⟨g, 9, none⟩ = some (.int .i64 s.n) := h.co 4
  have c10 : w.cell? ⟨g, 10, none⟩ = some (.int .u8 s.first) := h.co 5
  have c11 : w.cell? ⟨g, 11, none⟩ = some (.int .u32 s.up) := h.co 6
  have f6 := h.fz 6
  have f7 := h.fz 7
  have f8 := h.fz 8
  have f9 := h.fz 9
  have f10 := h.fz 10
  have f11 := h.fz 11
  have H := Lib.hid h
  clear h
  go_enter Tryz.func219, Tryz.ntmps219
  go_wp2_with fail
  refine (dec_hold_one u (by simp [World.setCell]) hl (H.out.set 3 (.int .i64 0))).mono ?_
  rintro en w1 ⟨rfl, v1, hd1, hs1⟩
  have HD1 := Lib.hid hd1
  have HS1 := Lib.hid hs1
  clear hd1 hs1
  go_wp2_with fail
  go_ret
  exact ⟨rfl, _, HD1.out, (Stp.mine ((Kp.refl _ _).setg _ _)).trans HS1.out⟩
theorem whole_hi (u : Int) (h0 : 0 ≤ u) (h1 : u ≤ 65535) (hl : xs.length + 1 ≤ 1073741824) (hu : s.up = 0) (hb : 56320 ≤ u) (h : Dec w g T a e f d v xs (own14 k s)) :
    Calls Tryz.prog 219 #[.pointer (some ⟨g, 0, none⟩), .int .u32 u] w fun en w' => en = .returned (.bool true) ∧ ∃ v', Dec w' g T a e f d v' (xs ++ [u]) (own14 k ({ s with beg := 0 })) ∧ Stp w g v w' v' := by
  have u0 : (s.up != 0) = false := by rw [hu]; rfl
  have ge55296 : decide ((55296 : Int) ≤ u) = true := decide_eq_true (by omega)
  have lt56320 : decide (u < (56320 : Int)) = false := decide_eq_false (by omega)
  have c5 : w.cell? ⟨g, 5, none⟩ = some (.pointer (some ⟨k, 0, none⟩)) := h.co 0
  have c6 : w.cell? ⟨g, 6, none⟩ = some (.bool s.uni) := h.co 1
  have c7 : w.cell? ⟨g, 7, none⟩ = some (.int .i64 s.act) := h.co 2
  have c8 : w.cell? ⟨g, 8, none⟩ = some (.int .i64 s.beg) := h.co 3
  have c9 : w.cell? ⟨g, 9, none⟩ = some (.int .i64 s.n) := h.co 4
  have c10 : w.cell? ⟨g, 10, none⟩ = some (.int .u8 s.first) := h.co 5
  have c11 : w.cell? ⟨g, 11, none⟩ = some (.int .u32 s.up) := h.co 6
  have f6 := h.fz 6
  have f7 := h.fz 7
  have f8 := h.fz 8
  have f9 := h.fz 9
  have f10 := h.fz 10
  have f11 := h.fz 11
  have H := Lib.hid h
  clear h
  go_enter Tryz.func219, Tryz.ntmps219
  go_wp2_with fail
  refine (dec_hold_one u (by simp [World.setCell]) hl (H.out.set 3 (.int .i64 0))).mono ?_
  rintro en w1 ⟨rfl, v1, hd1, hs1⟩
  have HD1 := Lib.hid hd1
  have HS1 := Lib.hid hs1
  clear hd1 hs1
  go_wp2_with fail
  go_ret
  exact ⟨rfl, _, HD1.out, (Stp.mine ((Kp.refl _ _).setg _ _)).trans HS1.out⟩
theorem whole_pair (u : Int) (h0 : 0 ≤ u) (h1 : u ≤ 65535) (hl : xs.length + 1 ≤ 1073741824) (hu : 55296 ≤ s.up) (hu1 : s.up < 56320) (hb : 56320 ≤ u) (hb1 : u < 57344) (h : Dec w g T a e f d v xs (own14 k s)) :
    Calls Tryz.prog 219 #[.pointer (some ⟨g, 0, none⟩), .int .u32 u] w fun en w' => en = .returned (.bool true) ∧ ∃ v', Dec w' g T a e f d v' (xs ++ [65536 + (s.up - 55296) * 1024 + (u - 56320)]) (own14 k ({ s with beg := 0, up := 0 })) ∧ Stp w g v w' v' := by
  have u1 : (s.up != 0) = true := by simp; omega
  have hP : 65536 + (s.up - 55296) * 1024 + (u - 56320) = 65536 + s.up % 1024 * 1024 + u % 1024 := by omega
  rw [hP]
  clear hP
  have ha1 := and_1023 s.up (by omega) (by omega)
  have ha2 := and_1023 u (by omega) (by omega)
  have hw2 : IntKind.u32.wrap (s.up % 1024 * 1024) = s.up % 1024 * 1024 := wrap_u32 (by omega) (by omega)
  have hw3 : IntKind.u32.wrap (65536 + s.up % 1024 * 1024) = 65536 + s.up % 1024 * 1024 := wrap_u32 (by omega) (by omega)
  have hw5 : IntKind.u32.wrap (65536 + s.up % 1024 * 1024 + u % 1024) = 65536 + s.up % 1024 * 1024 + u % 1024 := wrap_u32 (by omega) (by omega)
  have c5 : w.cell? ⟨g, 5, none⟩ = some (.pointer (some ⟨k, 0, none⟩)) := h.co 0
  have c6 : w.cell? ⟨g, 6, none⟩ = some (.bool s.uni) := h.co 1
  have c7 : w.cell? ⟨g, 7, none⟩ = some (.int .i64 s.act) := h.co 2
  have c8 : w.cell? ⟨g, 8, none⟩ = some (.int .i64 s.beg) := h.co 3
  have c9 : w.cell? ⟨g, 9, none⟩ = some (.int .i64 s.n) := h.co 4
  have c10 : w.cell? ⟨g, 10, none⟩ = some (.int .u8 s.first) := h.co 5
  have c11 : w.cell? ⟨g, 11, none⟩ = some (.int .u32 s.up) := h.co 6
  have f6 := h.fz 6
  have f7 := h.fz 7
  have f8 := h.fz 8
  have f9 := h.fz 9
  have f10 := h.fz 10
  have f11 := h.fz 11
  have H := Lib.hid h
  clear h
  go_enter Tryz.func219, Tryz.ntmps219
  go_wp2_with fail
  generalize hPP : 65536 + s.up % 1024 * 1024 + u % 1024 = P at *
  have c11d : (w.setCell ⟨g, 8, none⟩ (.int .i64 0)).drew.cell? ⟨g, 11, none⟩ = some (.int .u32 s.up) := (H.out.set 3 _).co 6
  have HWO := Lib.hid (H.out.set 3 (.int .i64 0))
  have cA : ((w.setCell ⟨g, 8, none⟩ (.int .i64 0)).alloc (.cells #[.int .u32 P] 56)).drew.cell? ⟨g, 11, none⟩ = some (.int .u32 s.up) := ((HWO.out.below (below_alloc (Below.refl _ _) (.cells #[.int .u32 P] 56))).drew).co 6
  have HDA : Hid (Dec ((w.setCell ⟨g, 8, none⟩ (.int .i64 0)).alloc (.cells #[.int .u32 P] 56)).drew g T a e f d v xs (own14 k { s with beg := 0 })) := Lib.hid ((HWO.out.below (below_alloc (Below.refl _ _) (.cells #[.int .u32 P] 56))).drew)
  have hsz : (w.setCell ⟨g, 8, none⟩ (.int .i64 0)).heap.size = w.heap.size := by simp [World.setCell]
  have hrd : ReadsInt ((w.setCell ⟨g, 8, none⟩ (.int .i64 0)).alloc (.cells #[.int .u32 P] 56)).drew .u32 (some ⟨w.heap.size, 0, none⟩) 1 [P] := by
    have h9 := box_reads (w.setCell ⟨g, 8, none⟩ (.int .i64 0)) P
    rw [hsz] at h9
    exact h9
  have HRD := Lib.hid hrd
  clear hrd hsz
  go_region_held3 (fun w' => w'.cell? ⟨g, 11, none⟩ = some (.int .u32 s.up)) (first | assumption | go_keep) (first
    | (go_at_call 165; refine (dec_hold (m := 1) (ys := [P]) HRD.out hl HDA.out).mono ?_; rintro e w3 ⟨rfl, v1, hd3, hs3⟩; have HD3 := Lib.hid hd3; have HS3 := Lib.hid hs3; have c113 : w3.cell? ⟨g, 11, none⟩ = some (.int .u32 s.up) := hd3.co 6; have f113 := hd3.fz 11; clear hd3 hs3)
    | (fail))
  clear c5 c6 c7 c8 c9 c10 c11 f6 f7 f8 f9 f10 f11 c11d cA
  go_wp2_with fail
  go_ret
  have h1 : Stp w g v (w.setCell ⟨g, 8, none⟩ (.int .i64 0)) v := Stp.mine ((Kp.refl _ _).setg _ _)
  have h2 : Stp w g v ((w.setCell ⟨g, 8, none⟩ (.int .i64 0)).alloc (.cells #[.int .u32 P] 56)).drew v := h1.below ((((Kp.refl (fun _ => False) _).alloc _).drew).below (Nat.le_refl _) (fun _ h => h.elim))
  rw [hPP]
  exact ⟨rfl, _, HD3.out.set 6 _, (h2.trans HS3.out).trans (Stp.mine ((Kp.refl _ _).setg _ _))⟩
end
end Go.Proofs.YtcgoofefiiihnaaGreat.S
namespace Go.Proofs.YtcgoofefiiihnaaGreat.S
open Go.RowKit Go.Proofs.YtcgoofefiiihnaaGreatW.PrintWords Go.Proofs.YtcgoofefiiihnaaGreatW.PrintMore
set_option linter.unusedVariables false
set_option linter.unusedSimpArgs false
set_option maxRecDepth 20000
abbrev useL : List Int := [7, 6, 5, 4, 3, 2, 1, 0]
structure DecS (w : World) (g T : Nat) (a e f : Int) (d : Bool) (v : Value) (xs : List Int) (k : Nat) (s : CS) : Prop where
  dec : Dec w g T a e f d v xs (own14 k s)
  win : Win w k s.o useL
  ne : k ≠ g
  nv : v.ownBlock ≠ some k
structure StS (w : World) (g k : Nat) (v : Value) (w' : World) (v' : Value) : Prop where
  kp : Kp (fun j => j = g ∨ j = k ∨ v.ownBlock = some j) w w'
  mv : ∀ j, v'.ownBlock = some j → v.ownBlock = some j ∨ w.heap.size ≤ j
theorem StS.refl (w : World) (g k : Nat) (v : Value) : StS w g k v w v := ⟨Kp.refl _ _, fun _ h => .inl h⟩
theorem StS.of {w w' : World} {g : Nat} {v v' : Value} (k : Nat) (h : Stp w g v w' v') : StS w g k v w' v' :=
  ⟨h.kp.mono (fun j hj => .inl (hj.elim .inl (fun h2 => .inr (.inr h2)))), h.mv⟩
theorem StS.win {w w' : World} {k : Nat} (g : Nat) (v : Value) (h : Kp (fun j => j = k) w w') : StS w g k v w' v := ⟨h.mono (fun j hj => .inl (.inr (.inl hj))), fun _ h => .inl h⟩
theorem StS.trans {w w1 w2 : World} {g k : Nat} {v v1 v2 : Value} (h : StS w g k v w1 v1) (h2 : StS w1 g k v1 w2 v2) : StS w g k v w2 v2 :=
  ⟨h.kp.trans h2.kp (fun i hi => by
      rcases hi with h1 | h1 | h1
      · exact .inl (.inl h1)
      · exact .inl (.inr (.inl h1))
      · exact (h.mv i h1).elim (fun h3 => .inl (.inr (.inr h3))) .inr),
   fun i hi => (h2.mv i hi).elim (fun h1 => h.mv i h1) (fun h1 => .inr (Nat.le_trans h.kp.size h1))⟩
section
variable {w w' : World} {g T k : Nat} {a a' e e' f f' : Int} {d d' : Bool} {v v' : Value} {xs xs' : List Int} {s s' : CS}
theorem DecS.stp (h : DecS w g T a e f d v xs k s) (hd : Dec w' g T a' e' f' d' v' xs' (own14 k s')) (ho : s'.o = s.o) (hs : Stp w g v w' v') : DecS w' g T a' e' f' d' v' xs' k s' :=
  ⟨hd, by rw [ho]; exact hs.keeps h.win h.ne h.nv, h.ne, fun hk => (hs.mv k hk).elim h.nv (fun h2 => by have := blk_lt h.win; omega)⟩
theorem DecS.set_win (h : DecS w g T a e f d v xs k s) {o : List Int} (hw : Win w' k o useL) (hk : Kp (fun j => j = k) w w') : DecS w' g T a e f d v xs k { s with o := o } :=
  ⟨h.dec.kept hk (fun hg => h.ne hg.symm) (fun j hj hjk => h.nv (by rw [hj]; exact congrArg some hjk)), hw, h.ne, h.nv⟩
end
section
variable {w : World} {g T k : Nat} {a e f : Int} {d : Bool} {v : Value} {xs : List Int} {s : CS}
theorem single_win (b : Int) (h0 : 0 ≤ b) (h1 : b ≤ 255) (hl : xs.length + 1 ≤ 1073741824) (hu : s.up = 0) (hb : 128 ≤ b) (hs : cok s) (h : DecS w g T a e f d v xs k s) :
    Calls Tryz.prog 210 #[.pointer (some ⟨g, 0, none⟩), .int .u8 b] w fun en w' => en = .returned (.bool true) ∧ ∃ v', DecS w' g T a e f d v' (xs ++ [atF s.o s.act + b - 128]) k (s) ∧ StS w g k v w' v' := by
  have u0 : (s.up != 0) = false := by rw [hu]; rfl
  have ge128 : decide ((128 : Int) ≤ b) = true := decide_eq_true (by omega)
  have eq12 : (b == 12) = false := by simp; omega
  have hof := hs.off s.act.toNat (by have := hs.act; omega)
  rw [show s.o.getD s.act.toNat 0 = atF s.o s.act from rfl] at hof
  unfold offOk at hof
  have HAT := Lib.hid (at_any (w := w.drew) s.act hs.len hs.act.1 hs.act.2 h.win)
  generalize atF s.o s.act = q at *
  have hwb : IntKind.u32.wrap b = b := wrap_u32 (by omega) (by omega)
  have hw1 : IntKind.u32.wrap (q + b) = q + b := wrap_u32 (by omega) (by omega)
  have hw2 : IntKind.u32.wrap (q + b - 128) = q + b - 128 := wrap_u32 (by omega) (by omega)
  clear hof
  generalize hPP : q + b - 128 = P at *
  have c5 : w.cell? ⟨g, 5, none⟩ = some (.pointer (some ⟨k, 0, none⟩)) := h.dec.co 0
  have c6 : w.cell? ⟨g, 6, none⟩ = some (.bool s.uni) := h.dec.co 1
  have c7 : w.cell? ⟨g, 7, none⟩ = some (.int .i64 s.act) := h.dec.co 2
  have c8 : w.cell? ⟨g, 8, none⟩ = some (.int .i64 s.beg) := h.dec.co 3
  have c9 : w.cell? ⟨g, 9, none⟩ = some (.int .i64 s.n) := h.dec.co 4
  have c10 : w.cell? ⟨g, 10, none⟩ = some (.int .u8 s.first) := h.dec.co 5
  have c11 : w.cell? ⟨g, 11, none⟩ = some (.int .u32 s.up) := h.dec.co 6
  have f6 := h.dec.fz 6
  have f7 := h.dec.fz 7
  have f8 := h.dec.fz 8
  have f9 := h.dec.fz 9
  have f10 := h.dec.fz 10
  have f11 := h.dec.fz 11
  have H := Lib.hid h
  clear h
  go_enter Tryz.func210, Tryz.ntmps210
  go_wp2_with fail
  have c6d : w.drew.cell? ⟨g, 6, none⟩ = some (.bool s.uni) := c6
  have c5d : w.drew.cell? ⟨g, 5, none⟩ = some (.pointer (some ⟨k, 0, none⟩)) := c5
  have c7d : w.drew.cell? ⟨g, 7, none⟩ = some (.int .i64 s.act) := c7
  have cA5 : (w.alloc (.cells #[.int .u32 P] 56)).drew.cell? ⟨g, 5, none⟩ = some (.pointer (some ⟨k, 0, none⟩)) := ((H.out.dec.below (below_alloc (Below.refl _ _) (.cells #[.int .u32 P] 56))).drew).co 0
  have cA7 : (w.alloc (.cells #[.int .u32 P] 56)).drew.cell? ⟨g, 7, none⟩ = some (.int .i64 s.act) := ((H.out.dec.below (below_alloc (Below.refl _ _) (.cells #[.int .u32 P] 56))).drew).co 2
  have HDA : Hid (Dec (w.alloc (.cells #[.int .u32 P] 56)).drew g T a e f d v xs (own14 k s)) := Lib.hid ((H.out.dec.below (below_alloc (Below.refl _ _) (.cells #[.int .u32 P] 56))).drew)
  have HRD : Hid (ReadsInt (w.alloc (.cells #[.int .u32 P] 56)).drew .u32 (some ⟨w.heap.size, 0, none⟩) 1 [P]) := Lib.hid (box_reads w P)
  go_region_held3 (fun w' => w'.cell? ⟨g, 5, none⟩ = some (.pointer (some ⟨k, 0, none⟩)) ∧ w'.cell? ⟨g, 7, none⟩ = some (.int .i64 s.act)) (first | exact ⟨by assumption, by assumption⟩ | go_keep) (first
    | (go_at_call 212; refine HAT.out.mono ?_; rintro e w2 ⟨rfl, rfl⟩)
    | (go_at_call 165; refine (dec_hold (m := 1) (ys := [P]) HRD.out hl HDA.out).mono ?_; rintro e w3 ⟨rfl, v1, hd3, hs3⟩; have HD3 := Lib.hid hd3; have HS3 := Lib.hid hs3; have c53 : w3.cell? ⟨g, 5, none⟩ = some (.pointer (some ⟨k, 0, none⟩)) := hd3.co 0; have c73 : w3.cell? ⟨g, 7, none⟩ = some (.int .i64 s.act) := hd3.co 2; clear hd3 hs3)
    | (fail))
  clear c5 c6 c7 c8 c9 c10 c11 f6 f7 f8 f9 f10 f11 c5d c7d cA5 cA7
  go_wp2_with fail
  go_ret
  have h2 : Stp w g v (w.alloc (.cells #[.int .u32 P] 56)).drew v := (Stp.refl w g v).below ((((Kp.refl (fun _ => False) _).alloc _).drew).below (Nat.le_refl _) (fun _ h => h.elim))
  exact ⟨rfl, _, H.out.stp HD3.out rfl (h2.trans HS3.out), StS.of k (h2.trans HS3.out)⟩
theorem more_quote_lo (b : Int) (h0 : 0 ≤ b) (h1 : b ≤ 255) (hl : xs.length + 1 ≤ 1073741824) (hb : s.beg = 1) (hlo : b < 128) (hs : cok s) (h : DecS w g T a e f d v xs k s) :
    Calls Tryz.prog 208 #[.pointer (some ⟨g, 0, none⟩), .int .u8 b] w fun en w' => en = .returned (.bool true) ∧ ∃ v', DecS w' g T a e f d v' (xs ++ [statL.getD s.n.toNat 0 + b]) k ({ s with beg := 0 }) ∧ StS w g k v w' v' := by
  have ge128 : decide ((128 : Int) ≤ b) = false := decide_eq_false (by omega)
  obtain ⟨ha0, ha1⟩ := hs.act
  obtain ⟨hn0, hn1⟩ := hs.n
  have hlen := hs.len
  have hst : ∀ i < 8, 0 ≤ statL.getD i 0 ∧ statL.getD i 0 ≤ 12288 := by decide
  have hs1 := hst s.n.toNat (by omega)
  have HST := Lib.hid (static_any s.n w hn0 hn1)
  clear hst
  generalize statL.getD s.n.toNat 0 = q at *
  obtain ⟨hq0, hq1⟩ := hs1
  have c5 : w.cell? ⟨g, 5, none⟩ = some (.pointer (some ⟨k, 0, none⟩)) := h.dec.co 0
  have c6 : w.cell? ⟨g, 6, none⟩ = some (.bool s.uni) := h.dec.co 1
  have c7 : w.cell? ⟨g, 7, none⟩ = some (.int .i64 s.act) := h.dec.co 2
  have c8 : w.cell? ⟨g, 8, none⟩ = some (.int .i64 1) := (h.dec.co 3).trans (by rw [← hb]; rfl)
  have c9 : w.cell? ⟨g, 9, none⟩ = some (.int .i64 s.n) := h.dec.co 4
  have c10 : w.cell? ⟨g, 10, none⟩ = some (.int .u8 s.first) := h.dec.co 5
  have c11 : w.cell? ⟨g, 11, none⟩ = some (.int .u32 s.up) := h.dec.co 6
  have f6 := h.dec.fz 6
  have f7 := h.dec.fz 7
  have f8 := h.dec.fz 8
  have f9 := h.dec.fz 9
  have f10 := h.dec.fz 10
  have f11 := h.dec.fz 11
  have H := Lib.hid h
  clear h
  clear hb hs
  go_enter Tryz.func208, Tryz.ntmps208
  go_wp2_with fail
  refine HST.out.mono ?_
  rintro en w1 ⟨rfl, rfl⟩
  go_wp2_with fail
  refine (dec_hold_one (q + b) rfl hl H.out.dec).mono ?_
  rintro en w1 ⟨rfl, v1, hd1, hs1⟩
  have HD1 := Lib.hid hd1
  have HS1 := Lib.hid hs1
  have c81 := hd1.co 3
  have f81 := hd1.fz 8
  clear hd1 hs1
  go_wp2_with fail
  go_ret
  have h2 := HS1.out.trans (Stp.mine ((Kp.refl (fun j => j = g) _).setg 8 (.int .i64 0)))
  exact ⟨rfl, _, H.out.stp (s' := { s with beg := 0 }) (HD1.out.set 3 _) rfl h2, StS.of k h2⟩
theorem more_quote_hi (b : Int) (h0 : 0 ≤ b) (h1 : b ≤ 255) (hl : xs.length + 1 ≤ 1073741824) (hb : s.beg = 1) (hhi : 128 ≤ b) (hs : cok s) (h : DecS w g T a e f d v xs k s) :
    Calls Tryz.prog 208 #[.pointer (some ⟨g, 0, none⟩), .int .u8 b] w fun en w' => en = .returned (.bool true) ∧ ∃ v', DecS w' g T a e f d v' (xs ++ [atF s.o s.n - 128 + b]) k ({ s with beg := 0 }) ∧ StS w g k v w' v' := by
  have ge128 : decide ((128 : Int) ≤ b) = true := decide_eq_true (by omega)
  obtain ⟨ha0, ha1⟩ := hs.act
  obtain ⟨hn0, hn1⟩ := hs.n
  have hlen := hs.len
  have hof := hs.off s.n.toNat (by omega)
  rw [show s.o.getD s.n.toNat 0 = atF s.o s.n from rfl] at hof
  unfold offOk at hof
  have HST := Lib.hid (static_any s.n w hn0 hn1)
  have HAT := Lib.hid (at_any (w := w.drew) s.n hs.len hn0 hn1 h.win)
  generalize statL.getD s.n.toNat 0 = q at *
  generalize atF s.o s.n = r at *
  have hr0 : 128 ≤ r := hof.1
  have hr1 : r ≤ 1114111 := by omega
  have hw1 : IntKind.u32.wrap (r - 128) = r - 128 := wrap_u32 (by omega) (by omega)
  clear hof
  have c5 : w.cell? ⟨g, 5, none⟩ = some (.pointer (some ⟨k, 0, none⟩)) := h.dec.co 0
  have c6 : w.cell? ⟨g, 6, none⟩ = some (.bool s.uni) := h.dec.co 1
  have c7 : w.cell? ⟨g, 7, none⟩ = some (.int .i64 s.act) := h.dec.co 2
  have c8 : w.cell? ⟨g, 8, none⟩ = some (.int .i64 1) := (h.dec.co 3).trans (by rw [← hb]; rfl)
  have c9 : w.cell? ⟨g, 9, none⟩ = some (.int .i64 s.n) := h.dec.co 4
  have c10 : w.cell? ⟨g, 10, none⟩ = some (.int .u8 s.first) := h.dec.co 5
  have c11 : w.cell? ⟨g, 11, none⟩ = some (.int .u32 s.up) := h.dec.co 6
  have f6 := h.dec.fz 6
  have f7 := h.dec.fz 7
  have f8 := h.dec.fz 8
  have f9 := h.dec.fz 9
  have f10 := h.dec.fz 10
  have f11 := h.dec.fz 11
  have H := Lib.hid h
  clear h
  clear hb hs
  go_enter Tryz.func208, Tryz.ntmps208
  go_wp2_with fail
  refine HST.out.mono ?_
  rintro en w1 ⟨rfl, rfl⟩
  go_wp2_with fail
  have c5d : w.drew.cell? ⟨g, 5, none⟩ = some (.pointer (some ⟨k, 0, none⟩)) := c5
  have c9d : w.drew.cell? ⟨g, 9, none⟩ = some (.int .i64 s.n) := c9
  go_region_held3 (fun w' => w'.cell? ⟨g, 5, none⟩ = some (.pointer (some ⟨k, 0, none⟩)) ∧ w'.cell? ⟨g, 9, none⟩ = some (.int .i64 s.n)) (first | exact ⟨by assumption, by assumption⟩ | go_keep) (first
    | (go_at_call 212; refine HAT.out.mono ?_; rintro e w2 ⟨rfl, rfl⟩)
    | (fail))
  have HDR := Lib.hid (H.out.dec.drew)
  go_wp2_with fail
  refine (dec_hold_one (r - 128 + b) rfl hl HDR.out).mono ?_
  rintro en w1 ⟨rfl, v1, hd1, hs1⟩
  have HD1 := Lib.hid hd1
  have HS1 := Lib.hid hs1
  have c81 := hd1.co 3
  have f81 := hd1.fz 8
  clear hd1 hs1
  go_wp2_with fail
  go_ret
  have h0 : Stp w g v w.drew v := (Stp.refl w g v).below (((Kp.refl (fun _ => False) _).drew).below (Nat.le_refl _) (fun _ h => h.elim))
  have h2 := (h0.trans HS1.out).trans (Stp.mine ((Kp.refl (fun j => j = g) _).setg 8 (.int .i64 0)))
  exact ⟨rfl, _, H.out.stp (s' := { s with beg := 0 }) (HD1.out.set 3 _) rfl h2, StS.of k h2⟩
theorem more_def_no (b : Int) (h0 : 0 ≤ b) (h1 : b ≤ 255) (hb : s.beg = 2) (ho : offF b = none) (hs : cok s) (h : DecS w g T a e f d v xs k s) :
    Calls Tryz.prog 208 #[.pointer (some ⟨g, 0, none⟩), .int .u8 b] w fun en w' => en = .returned (.bool false) ∧ DecS w' g T a e f d v xs k (s) ∧ StS w g k v w' v := by
  have hov : offV b = .tuple #[.int .u32 0, .bool false] := by unfold offV; rw [ho]
  have HOF := Lib.hid (offset_any b w h0 h1)
  rw [hov] at HOF
  clear hov ho
  have c5 : w.cell? ⟨g, 5, none⟩ = some (.pointer (some ⟨k, 0, none⟩)) := h.dec.co 0
  have c6 : w.cell? ⟨g, 6, none⟩ = some (.bool s.uni) := h.dec.co 1
  have c7 : w.cell? ⟨g, 7, none⟩ = some (.int .i64 s.act) := h.dec.co 2
  have c8 : w.cell? ⟨g, 8, none⟩ = some (.int .i64 2) := (h.dec.co 3).trans (by rw [← hb]; rfl)
  have c9 : w.cell? ⟨g, 9, none⟩ = some (.int .i64 s.n) := h.dec.co 4
  have c10 : w.cell? ⟨g, 10, none⟩ = some (.int .u8 s.first) := h.dec.co 5
  have c11 : w.cell? ⟨g, 11, none⟩ = some (.int .u32 s.up) := h.dec.co 6
  have f6 := h.dec.fz 6
  have f7 := h.dec.fz 7
  have f8 := h.dec.fz 8
  have f9 := h.dec.fz 9
  have f10 := h.dec.fz 10
  have f11 := h.dec.fz 11
  have H := Lib.hid h
  clear h
  clear hb hs
  go_enter Tryz.func208, Tryz.ntmps208
  go_wp2_with fail
  refine HOF.out.mono ?_
  rintro en w1 ⟨rfl, hb1⟩
  have HB1 := Lib.hid hb1
  clear hb1
  go_wp2_with fail
  go_ret
  have h2 : Stp w g v w1 v := (Stp.refl w g v).below HB1.out
  exact ⟨rfl, H.out.stp (H.out.dec.below HB1.out) rfl h2, StS.of k h2⟩
theorem more_def (b : Int) (h0 : 0 ≤ b) (h1 : b ≤ 255) (x : Int) (hb : s.beg = 2) (ho : offF b = some x) (hs : cok s) (h : DecS w g T a e f d v xs k s) :
    Calls Tryz.prog 208 #[.pointer (some ⟨g, 0, none⟩), .int .u8 b] w fun en w' => en = .returned (.bool true) ∧ DecS w' g T a e f d v xs k (actF { s with o := s.o.set s.n.toNat x } s.n) ∧ StS w g k v w' v := by
  have hov : offV b = .tuple #[.int .u32 x, .bool true] := by unfold offV; rw [ho]
  have HOF := Lib.hid (offset_any b w h0 h1)
  rw [hov] at HOF
  clear hov ho
  obtain ⟨ha0, ha1⟩ := hs.act
  obtain ⟨hn0, hn1⟩ := hs.n
  have hlen := hs.len
  have HS := Lib.hid hs.len
  have c5 : w.cell? ⟨g, 5, none⟩ = some (.pointer (some ⟨k, 0, none⟩)) := h.dec.co 0
  have c6 : w.cell? ⟨g, 6, none⟩ = some (.bool s.uni) := h.dec.co 1
  have c7 : w.cell? ⟨g, 7, none⟩ = some (.int .i64 s.act) := h.dec.co 2
  have c8 : w.cell? ⟨g, 8, none⟩ = some (.int .i64 2) := (h.dec.co 3).trans (by rw [← hb]; rfl)
  have c9 : w.cell? ⟨g, 9, none⟩ = some (.int .i64 s.n) := h.dec.co 4
  have c10 : w.cell? ⟨g, 10, none⟩ = some (.int .u8 s.first) := h.dec.co 5
  have c11 : w.cell? ⟨g, 11, none⟩ = some (.int .u32 s.up) := h.dec.co 6
  have f6 := h.dec.fz 6
  have f7 := h.dec.fz 7
  have f8 := h.dec.fz 8
  have f9 := h.dec.fz 9
  have f10 := h.dec.fz 10
  have f11 := h.dec.fz 11
  have H := Lib.hid h
  clear h
  clear hb hs hlen
  go_enter Tryz.func208, Tryz.ntmps208
  go_wp2_with fail
  refine HOF.out.mono ?_
  rintro en w1 ⟨rfl, hb1⟩
  have HB1 := Lib.hid hb1
  clear hb1
  have h21 : Stp w g v w1 v := (Stp.refl w g v).below HB1.out
  have HD1 := Lib.hid (H.out.stp (H.out.dec.below HB1.out) rfl h21)
  have HST1 := Lib.hid (StS.of k h21)
  clear h21 c5 c6 c7 c8 c9 c10 c11 f6 f7 f8 f9 f10 f11
  have c5d : w1.drew.cell? ⟨g, 5, none⟩ = some (.pointer (some ⟨k, 0, none⟩)) := HD1.out.dec.co 0
  have c9d : w1.drew.cell? ⟨g, 9, none⟩ = some (.int .i64 s.n) := HD1.out.dec.co 4
  have c5 : w1.cell? ⟨g, 5, none⟩ = some (.pointer (some ⟨k, 0, none⟩)) := HD1.out.dec.co 0
  have c9 : w1.cell? ⟨g, 9, none⟩ = some (.int .i64 s.n) := HD1.out.dec.co 4
  go_wp2_with fail
  go_region_held3 (fun w' => w'.cell? ⟨g, 5, none⟩ = some (.pointer (some ⟨k, 0, none⟩)) ∧ w'.cell? ⟨g, 9, none⟩ = some (.int .i64 s.n)) (first | exact ⟨by assumption, by assumption⟩ | go_keep) (first
    | (go_at_call 214; refine (set_any (w := w1.drew) s.n x HS.out hn0 hn1 HD1.out.win).mono ?_; rintro e w3 ⟨rfl, hw3, hk3⟩; have HW3 := Lib.hid hw3; have HK3 : Hid (Kp (fun j => j = k) w1 w3) := Lib.hid (((Kp.refl _ w1).drew).tr hk3); have HD3 := Lib.hid (HD1.out.set_win hw3 (((Kp.refl _ w1).drew).tr hk3)); have c53 : w3.cell? ⟨g, 5, none⟩ = some (.pointer (some ⟨k, 0, none⟩)) := HD3.out.dec.co 0; have c93 : w3.cell? ⟨g, 9, none⟩ = some (.int .i64 s.n) := HD3.out.dec.co 4; clear hw3 hk3)
    | (fail))
  clear c5 c9 c5d c9d
  go_wp2_with fail
  refine (activate_any s.n HD3.out.dec).mono ?_
  rintro en w4 ⟨rfl, hd4, hs4⟩
  have HD4 := Lib.hid hd4
  have HS4 := Lib.hid hs4
  clear hd4 hs4
  go_wp2_with fail
  go_ret
  exact ⟨rfl, HD3.out.stp HD4.out rfl HS4.out, (HST1.out.trans (StS.win g v HK3.out)).trans (StS.of k HS4.out)⟩
theorem more_pair (b : Int) (h0 : 0 ≤ b) (h1 : b ≤ 255) (hb : s.beg = 3) (hs : cok s) (h : DecS w g T a e f d v xs k s) :
    Calls Tryz.prog 208 #[.pointer (some ⟨g, 0, none⟩), .int .u8 b] w fun en w' => en = .returned (.bool true) ∧ DecS w' g T a e f d v xs k ({ s with first := b, beg := 4 }) ∧ StS w g k v w' v := by
  have c5 : w.cell? ⟨g, 5, none⟩ = some (.pointer (some ⟨k, 0, none⟩)) := h.dec.co 0
  have c6 : w.cell? ⟨g, 6, none⟩ = some (.bool s.uni) := h.dec.co 1
  have c7 : w.cell? ⟨g, 7, none⟩ = some (.int .i64 s.act) := h.dec.co 2
  have c8 : w.cell? ⟨g, 8, none⟩ = some (.int .i64 3) := (h.dec.co 3).trans (by rw [← hb]; rfl)
  have c9 : w.cell? ⟨g, 9, none⟩ = some (.int .i64 s.n) := h.dec.co 4
  have c10 : w.cell? ⟨g, 10, none⟩ = some (.int .u8 s.first) := h.dec.co 5
  have c11 : w.cell? ⟨g, 11, none⟩ = some (.int .u32 s.up) := h.dec.co 6
  have f6 := h.dec.fz 6
  have f7 := h.dec.fz 7
  have f8 := h.dec.fz 8
  have f9 := h.dec.fz 9
  have f10 := h.dec.fz 10
  have f11 := h.dec.fz 11
  have H := Lib.hid h
  clear h
  clear hb hs
  go_enter Tryz.func208, Tryz.ntmps208
  go_wp2_with fail
  go_ret
  have h2 : Stp w g v ((w.setCell ⟨g, 10, none⟩ (.int .u8 b)).setCell ⟨g, 8, none⟩ (.int .i64 4)) v := Stp.mine (((Kp.refl _ _).setg _ _).setg _ _)
  exact ⟨rfl, H.out.stp (s' := { s with first := b, beg := 4 }) ((H.out.dec.set 5 _).set 3 _) rfl h2, StS.of k h2⟩
theorem more_last (b : Int) (h0 : 0 ≤ b) (h1 : b ≤ 255) (hb : s.beg = 4) (hs : cok s) (h : DecS w g T a e f d v xs k s) :
    Calls Tryz.prog 208 #[.pointer (some ⟨g, 0, none⟩), .int .u8 b] w fun en w' => en = .returned (.bool true) ∧ DecS w' g T a e f d v xs k (actF { s with o := s.o.set (s.first / 32).toNat (65536 + 128 * (s.first % 32 * 256 + b)) } (s.first / 32)) ∧ StS w g k v w' v := by
  obtain ⟨hf0, hf1⟩ := hs.first
  have HEX := Lib.hid (extended_any s.first b w hf0 hf1 h0 h1)
  have HS := Lib.hid hs.len
  have hq0 : 0 ≤ s.first / 32 := by omega
  have hq1 : s.first / 32 < 8 := by omega
  generalize s.first / 32 = q at *
  generalize 65536 + 128 * (s.first % 32 * 256 + b) = r at *
  have c5 : w.cell? ⟨g, 5, none⟩ = some (.pointer (some ⟨k, 0, none⟩)) := h.dec.co 0
  have c6 : w.cell? ⟨g, 6, none⟩ = some (.bool s.uni) := h.dec.co 1
  have c7 : w.cell? ⟨g, 7, none⟩ = some (.int .i64 s.act) := h.dec.co 2
  have c8 : w.cell? ⟨g, 8, none⟩ = some (.int .i64 4) := (h.dec.co 3).trans (by rw [← hb]; rfl)
  have c9 : w.cell? ⟨g, 9, none⟩ = some (.int .i64 s.n) := h.dec.co 4
  have c10 : w.cell? ⟨g, 10, none⟩ = some (.int .u8 s.first) := h.dec.co 5
  have c11 : w.cell? ⟨g, 11, none⟩ = some (.int .u32 s.up) := h.dec.co 6
  have f6 := h.dec.fz 6
  have f7 := h.dec.fz 7
  have f8 := h.dec.fz 8
  have f9 := h.dec.fz 9
  have f10 := h.dec.fz 10
  have f11 := h.dec.fz 11
  have H := Lib.hid h
  clear h
  clear hb hs
  go_enter Tryz.func208, Tryz.ntmps208
  go_wp2_with fail
  refine HEX.out.mono ?_
  rintro en w1 ⟨rfl, rfl⟩
  go_wp2_with fail
  refine (set_any (w := w) q r HS.out hq0 hq1 H.out.win).mono ?_
  rintro en w3 ⟨rfl, hw3, hk3⟩
  have HK3 := Lib.hid hk3
  have HD3 := Lib.hid (H.out.set_win hw3 hk3)
  clear hw3 hk3
  go_wp2_with fail
  refine (activate_any q HD3.out.dec).mono ?_
  rintro en w4 ⟨rfl, hd4, hs4⟩
  have HD4 := Lib.hid hd4
  have HS4 := Lib.hid hs4
  clear hd4 hs4
  go_wp2_with fail
  go_ret
  exact ⟨rfl, HD3.out.stp HD4.out rfl HS4.out, (StS.win g v HK3.out).trans (StS.of k HS4.out)⟩
theorem more_unit (b : Int) (h0 : 0 ≤ b) (h1 : b ≤ 255) (hb : s.beg = 5) (hf : fitB s b = true) (hs : cok s) (h : DecS w g T a e f d v xs k s) :
    Calls Tryz.prog 208 #[.pointer (some ⟨g, 0, none⟩), .int .u8 b] w fun en w' => en = .returned (.bool true) ∧ DecS w' g T a e f d v xs k (begF { s with first := b } 6 0) ∧ StS w g k v w' v := by
  have HF := Lib.hid hf
  clear hf
  have c5 : w.cell? ⟨g, 5, none⟩ = some (.pointer (some ⟨k, 0, none⟩)) := h.dec.co 0
  have c6 : w.cell? ⟨g, 6, none⟩ = some (.bool s.uni) := h.dec.co 1
  have c7 : w.cell? ⟨g, 7, none⟩ = some (.int .i64 s.act) := h.dec.co 2
  have c8 : w.cell? ⟨g, 8, none⟩ = some (.int .i64 5) := (h.dec.co 3).trans (by rw [← hb]; rfl)
  have c9 : w.cell? ⟨g, 9, none⟩ = some (.int .i64 s.n) := h.dec.co 4
  have c10 : w.cell? ⟨g, 10, none⟩ = some (.int .u8 s.first) := h.dec.co 5
  have c11 : w.cell? ⟨g, 11, none⟩ = some (.int .u32 s.up) := h.dec.co 6
  have f6 := h.dec.fz 6
  have f7 := h.dec.fz 7
  have f8 := h.dec.fz 8
  have f9 := h.dec.fz 9
  have f10 := h.dec.fz 10
  have f11 := h.dec.fz 11
  have H := Lib.hid h
  clear h
  clear hb hs
  go_enter Tryz.func208, Tryz.ntmps208
  go_wp2_with fail
  have hfx : fitB { s with first := b } b = true := HF.out
  refine (fits_any (s := { s with first := b }) b h0 h1 (H.out.dec.set 5 (.int .u8 b))).mono ?_
  rw [hfx]
  rintro en w1 ⟨rfl, rfl⟩
  clear hfx
  go_wp2_with fail
  refine (begin_any (s := { s with first := b }) 6 0 (H.out.dec.set 5 (.int .u8 b))).mono ?_
  rintro en w1 ⟨rfl, hd1, hs1⟩
  have HD1 := Lib.hid hd1
  have HS1 := Lib.hid hs1
  clear hd1 hs1
  go_wp2_with fail
  go_ret
  have h2 := (Stp.mine (v := v) ((Kp.refl (fun j => j = g) w).setg 10 (.int .u8 b))).trans HS1.out
  exact ⟨rfl, H.out.stp HD1.out rfl h2, StS.of k h2⟩
theorem more_unit_no (b : Int) (h0 : 0 ≤ b) (h1 : b ≤ 255) (hb : s.beg = 5) (hf : fitB s b = false) (hs : cok s) (h : DecS w g T a e f d v xs k s) :
    Calls Tryz.prog 208 #[.pointer (some ⟨g, 0, none⟩), .int .u8 b] w fun en w' => en = .returned (.bool false) ∧ DecS w' g T a e f d v xs k ({ s with first := b }) ∧ StS w g k v w' v := by
  have HF := Lib.hid hf
  clear hf
  have c5 : w.cell? ⟨g, 5, none⟩ = some (.pointer (some ⟨k, 0, none⟩)) := h.dec.co 0
  have c6 : w.cell? ⟨g, 6, none⟩ = some (.bool s.uni) := h.dec.co 1
  have c7 : w.cell? ⟨g, 7, none⟩ = some (.int .i64 s.act) := h.dec.co 2
  have c8 : w.cell? ⟨g, 8, none⟩ = some (.int .i64 5) := (h.dec.co 3).trans (by rw [← hb]; rfl)
  have c9 : w.cell? ⟨g, 9, none⟩ = some (.int .i64 s.n) := h.dec.co 4
  have c10 : w.cell? ⟨g, 10, none⟩ = some (.int .u8 s.first) := h.dec.co 5
  have c11 : w.cell? ⟨g, 11, none⟩ = some (.int .u32 s.up) := h.dec.co 6
  have f6 := h.dec.fz 6
  have f7 := h.dec.fz 7
  have f8 := h.dec.fz 8
  have f9 := h.dec.fz 9
  have f10 := h.dec.fz 10
  have f11 := h.dec.fz 11
  have H := Lib.hid h
  clear h
  clear hb hs
  go_enter Tryz.func208, Tryz.ntmps208
  go_wp2_with fail
  have hfx : fitB { s with first := b } b = false := HF.out
  refine (fits_any (s := { s with first := b }) b h0 h1 (H.out.dec.set 5 (.int .u8 b))).mono ?_
  rw [hfx]
  rintro en w1 ⟨rfl, rfl⟩
  clear hfx
  go_wp2_with fail
  go_ret
  have h2 : Stp w g v (w.setCell ⟨g, 10, none⟩ (.int .u8 b)) v := Stp.mine ((Kp.refl _ _).setg _ _)
  exact ⟨rfl, H.out.stp (s' := { s with first := b }) (H.out.dec.set 5 _) rfl h2, StS.of k h2⟩
theorem wholeF_o (s : CS) (u : Int) : (wholeF s u).1.o = s.o := by
  unfold wholeF
  split
  · rfl
  · split <;> rfl
theorem whole_any (u : Int) (h0 : 0 ≤ u) (h1 : u ≤ 65535) (hl : xs.length + 1 ≤ 1073741824) (hup : s.up = 0 ∨ (55296 ≤ s.up ∧ s.up < 56320)) (hf : s.up ≠ 0 → 56320 ≤ u ∧ u < 57344) (h : Dec w g T a e f d v xs (own14 k s)) :
    Calls Tryz.prog 219 #[.pointer (some ⟨g, 0, none⟩), .int .u32 u] w fun en w' => en = .returned (.bool true) ∧ ∃ v', Dec w' g T a e f d v' (xs ++ (wholeF s u).2.toList) (own14 k (wholeF s u).1) ∧ Stp w g v w' v' := by
  unfold wholeF
  by_cases hu : s.up = 0
  · rw [if_neg (by simp [hu])]
    by_cases h2 : u < 55296
    · rw [if_neg (by omega)]
      exact whole_lo u h0 h1 hl hu h2 h
    · by_cases h3 : u < 56320
      · rw [if_pos ⟨by omega, h3⟩]
        simp only [Option.toList, List.append_nil]
        exact (whole_up u h0 h1 hu (by omega) h3 h).mono fun en w' ⟨he, hd, hs⟩ => ⟨he, _, hd, hs⟩
      · rw [if_neg (by omega)]
        exact whole_hi u h0 h1 hl hu (by omega) h
  · rw [if_pos hu]
    obtain ⟨h4, h5⟩ := hf hu
    obtain ⟨h6, h7⟩ := hup.resolve_left hu
    exact whole_pair u h0 h1 hl h6 h7 h4 h5 h
theorem more_rest (b : Int) (h0 : 0 ≤ b) (h1 : b ≤ 255) (hl : xs.length + 1 ≤ 1073741824) (hb : s.beg = 6) (hs : cok s) (h : DecS w g T a e f d v xs k s) :
    Calls Tryz.prog 208 #[.pointer (some ⟨g, 0, none⟩), .int .u8 b] w fun en w' => en = .returned (.bool true) ∧ ∃ v', DecS w' g T a e f d v' (xs ++ (wholeF s (s.first * 256 + b)).2.toList) k (wholeF s (s.first * 256 + b)).1 ∧ StS w g k v w' v' := by
  obtain ⟨hf0, hf1⟩ := hs.first
  have hor := or_be s.first b hf0 hf1 h0 h1
  have hwf : s.up ≠ 0 → 56320 ≤ s.first * 256 + b ∧ s.first * 256 + b < 57344 := by
    intro hu
    have h9 := hs.fit hb
    unfold fitB at h9
    have hu1 : (s.up != 0) = true := by simpa using hu
    rw [hu1] at h9
    simp at h9
    omega
  have HW := Lib.hid (fun (w : World) (h : Dec w g T a e f d v xs (own14 k s)) => whole_any (s.first * 256 + b) (by omega) (by omega) hl hs.up hwf h)
  have HO := Lib.hid (wholeF_o s (s.first * 256 + b))
  generalize wholeF s (s.first * 256 + b) = p at *
  obtain ⟨p1, p2⟩ := p
  clear hwf
  have c5 : w.cell? ⟨g, 5, none⟩ = some (.pointer (some ⟨k, 0, none⟩)) := h.dec.co 0
  have c6 : w.cell? ⟨g, 6, none⟩ = some (.bool s.uni) := h.dec.co 1
  have c7 : w.cell? ⟨g, 7, none⟩ = some (.int .i64 s.act) := h.dec.co 2
  have c8 : w.cell? ⟨g, 8, none⟩ = some (.int .i64 6) := (h.dec.co 3).trans (by rw [← hb]; rfl)
  have c9 : w.cell? ⟨g, 9, none⟩ = some (.int .i64 s.n) := h.dec.co 4
  have c10 : w.cell? ⟨g, 10, none⟩ = some (.int .u8 s.first) := h.dec.co 5
  have c11 : w.cell? ⟨g, 11, none⟩ = some (.int .u32 s.up) := h.dec.co 6
  have f6 := h.dec.fz 6
  have f7 := h.dec.fz 7
  have f8 := h.dec.fz 8
  have f9 := h.dec.fz 9
  have f10 := h.dec.fz 10
  have f11 := h.dec.fz 11
  have H := Lib.hid h
  clear h
  clear hb hs
  go_enter Tryz.func208, Tryz.ntmps208
  go_wp2_with fail
  refine (HW.out _ H.out.dec).mono ?_
  rintro en w1 ⟨rfl, v1, hd1, hs1⟩
  have HD1 := Lib.hid hd1
  have HS1 := Lib.hid hs1
  clear hd1 hs1
  go_wp2_with fail
  go_ret
  exact ⟨rfl, _, H.out.stp HD1.out HO.out HS1.out, StS.of k HS1.out⟩
theorem next_more (b : Int) (r : Bool) {Q : World → Prop} (hb : s.beg ≠ 0) (h : Dec w g T a e f d v xs (own14 k s)) (hm : Calls Tryz.prog 208 #[.pointer (some ⟨g, 0, none⟩), .int .u8 b] w fun en w' => en = .returned (.bool r) ∧ Q w') :
    Calls Tryz.prog 207 #[.pointer (some ⟨g, 0, none⟩), .int .u8 b] w fun en w' => en = .returned (.bool r) ∧ Q w' := by
  have n0 : (s.beg != 0) = true := by simpa using hb
  have c7 : w.cell? ⟨g, 6, none⟩ = some (.bool s.uni) := h.co 1
  have c8 : w.cell? ⟨g, 8, none⟩ = some (.int .i64 s.beg) := h.co 3
  have HM := Lib.hid hm
  clear h hm hb
  go_enter Tryz.func207, Tryz.ntmps207
  go_wp2_with fail
  refine HM.out.mono ?_
  rintro en w1 ⟨rfl, hq⟩
  have HQ := Lib.hid hq
  clear hq
  go_wp2_with fail
  go_ret
  exact ⟨rfl, HQ.out⟩
theorem next_double (b : Int) (r : Bool) {Q : World → Prop} (hb : s.beg = 0) (hu : s.uni = true) (h : Dec w g T a e f d v xs (own14 k s)) (hm : Calls Tryz.prog 209 #[.pointer (some ⟨g, 0, none⟩), .int .u8 b] w fun en w' => en = .returned (.bool r) ∧ Q w') :
    Calls Tryz.prog 207 #[.pointer (some ⟨g, 0, none⟩), .int .u8 b] w fun en w' => en = .returned (.bool r) ∧ Q w' := by
  have n0 : (s.beg != 0) = false := by rw [hb]; rfl
  have c7 : w.cell? ⟨g, 6, none⟩ = some (.bool s.uni) := h.co 1
  have c8 : w.cell? ⟨g, 8, none⟩ = some (.int .i64 s.beg) := h.co 3
  rw [hu] at c7
  clear hu
  have HM := Lib.hid hm
  clear h hm hb
  go_enter Tryz.func207, Tryz.ntmps207
  go_wp2_with fail
  refine HM.out.mono ?_
  rintro en w1 ⟨rfl, hq⟩
  have HQ := Lib.hid hq
  clear hq
  go_wp2_with fail
  go_ret
  exact ⟨rfl, HQ.out⟩
theorem next_single (b : Int) (r : Bool) {Q : World → Prop} (hb : s.beg = 0) (hu : s.uni = false) (h : Dec w g T a e f d v xs (own14 k s)) (hm : Calls Tryz.prog 210 #[.pointer (some ⟨g, 0, none⟩), .int .u8 b] w fun en w' => en = .returned (.bool r) ∧ Q w') :
    Calls Tryz.prog 207 #[.pointer (some ⟨g, 0, none⟩), .int .u8 b] w fun en w' => en = .returned (.bool r) ∧ Q w' := by
  have n0 : (s.beg != 0) = false := by rw [hb]; rfl
  have c7 : w.cell? ⟨g, 6, none⟩ = some (.bool s.uni) := h.co 1
  have c8 : w.cell? ⟨g, 8, none⟩ = some (.int .i64 s.beg) := h.co 3
  rw [hu] at c7
  clear hu
  have HM := Lib.hid hm
  clear h hm hb
  go_enter Tryz.func207, Tryz.ntmps207
  go_wp2_with fail
  refine HM.out.mono ?_
  rintro en w1 ⟨rfl, hq⟩
  have HQ := Lib.hid hq
  clear hq
  go_wp2_with fail
  go_ret
  exact ⟨rfl, HQ.out⟩
theorem some_eq {x s' : CS} {y r : Option Int} (h : (some (x, y) : Option (CS × Option Int)) = some (s', r)) : s' = x ∧ r = y := by
  simp only [Option.some.injEq, Prod.mk.injEq] at h
  exact ⟨h.1.symm, h.2.symm⟩
abbrev NextNo (w : World) (g T k : Nat) (a e f : Int) (d : Bool) (v : Value) (xs : List Int) (en : Ending) (w' : World) : Prop := en = .returned (.bool false) ∧ ∃ s' v', DecS w' g T a e f d v' xs k s' ∧ StS w g k v w' v'
abbrev NextYes (w : World) (g T k : Nat) (a e f : Int) (d : Bool) (v : Value) (xs : List Int) (s' : CS) (r : Option Int) (en : Ending) (w' : World) : Prop := en = .returned (.bool true) ∧ ∃ v', DecS w' g T a e f d v' (xs ++ r.toList) k s' ∧ StS w g k v w' v'
theorem no_of {w' : World} {en : Ending} (h : DecS w g T a e f d v xs k s) {s' : CS} (ho : s'.o = s.o) (hq : en = .returned (.bool false) ∧ Dec w' g T a e f d v xs (own14 k s') ∧ Stp w g v w' v) : NextNo w g T k a e f d v xs en w' :=
  ⟨hq.1, s', v, h.stp hq.2.1 ho hq.2.2, StS.of k hq.2.2⟩
theorem yes_of {w' : World} {en : Ending} (h : DecS w g T a e f d v xs k s) {s' : CS} (ho : s'.o = s.o) (hq : en = .returned (.bool true) ∧ Dec w' g T a e f d v xs (own14 k s') ∧ Stp w g v w' v) : NextYes w g T k a e f d v xs s' none en w' :=
  ⟨hq.1, v, by rw [Option.toList, List.append_nil]; exact h.stp hq.2.1 ho hq.2.2, StS.of k hq.2.2⟩
theorem told_of {w' : World} {en : Ending} (h : DecS w g T a e f d v xs k s) {s' : CS} {x : Int} (ho : s'.o = s.o) (hq : en = .returned (.bool true) ∧ ∃ v', Dec w' g T a e f d v' (xs ++ [x]) (own14 k s') ∧ Stp w g v w' v') : NextYes w g T k a e f d v xs s' (some x) en w' := by
  obtain ⟨h1, v', h2, h3⟩ := hq
  exact ⟨h1, v', h.stp h2 ho h3, StS.of k h3⟩
theorem yes_ofS {w' : World} {en : Ending} {s' : CS} (hq : en = .returned (.bool true) ∧ DecS w' g T a e f d v xs k s' ∧ StS w g k v w' v) : NextYes w g T k a e f d v xs s' none en w' :=
  ⟨hq.1, v, by rw [Option.toList, List.append_nil]; exact hq.2.1, hq.2.2⟩
theorem single_none (b : Int) (h0 : 0 ≤ b) (h1 : b ≤ 255) (hn : singleF s b = none) (h : DecS w g T a e f d v xs k s) :
    Calls Tryz.prog 210 #[.pointer (some ⟨g, 0, none⟩), .int .u8 b] w (NextNo w g T k a e f d v xs) := by
  unfold singleF at hn
  split at hn
  · rename_i hc
    by_cases h2 : s.up ≠ 0 ∧ b ≠ 14
    · exact (single_no1 b h0 h1 h2.1 h2.2 h.dec).mono fun en w' hq => no_of h rfl hq
    · obtain rfl : b = 12 := hc.resolve_left h2
      exact (single_no2 (by omega) h.dec).mono fun en w' hq => no_of h rfl hq
  · (repeat (split at hn <;> try cases hn))
theorem single_some {s' : CS} {r : Option Int} (b : Int) (h0 : 0 ≤ b) (h1 : b ≤ 255) (hl : xs.length + 1 ≤ 1073741824) (hs : cok s) (hn : singleF s b = some (s', r)) (h : DecS w g T a e f d v xs k s) :
    Calls Tryz.prog 210 #[.pointer (some ⟨g, 0, none⟩), .int .u8 b] w (NextYes w g T k a e f d v xs s' r) := by
  unfold singleF at hn
  split at hn
  · cases hn
  · rename_i hc
    have hup : b ≠ 14 → s.up = 0 := by intro hb; omega
    split at hn
    · obtain ⟨rfl, rfl⟩ := some_eq hn
      exact single_win b h0 h1 hl (hup (by omega)) (by omega) hs h
    · split at hn
      · obtain ⟨rfl, rfl⟩ := some_eq hn
        by_cases h32 : 32 ≤ b
        · exact (single_self b h0 h1 hl (hup (by omega)) h32 (by omega) h.dec).mono fun en w' hq => told_of h rfl hq
        · have hb : b = 0 ∨ b = 9 ∨ b = 10 ∨ b = 13 := by omega
          have hu := hup (by omega)
          rcases hb with rfl | rfl | rfl | rfl
          · exact (single_self0 hl hu h.dec).mono fun en w' hq => told_of h rfl hq
          · exact (single_self9 hl hu h.dec).mono fun en w' hq => told_of h rfl hq
          · exact (single_self10 hl hu h.dec).mono fun en w' hq => told_of h rfl hq
          · exact (single_self13 hl hu h.dec).mono fun en w' hq => told_of h rfl hq
      · split at hn
        · obtain ⟨rfl, rfl⟩ := some_eq hn
          exact (single_def b h0 h1 (hup (by omega)) (by omega) (by omega) h.dec).mono fun en w' hq => yes_of h rfl hq
        · split at hn
          · obtain ⟨rfl, rfl⟩ := some_eq hn
            exact (single_act b h0 h1 (hup (by omega)) (by omega) (by omega) h.dec).mono fun en w' hq => yes_of h rfl hq
          · split at hn
            · rename_i h15
              subst h15
              obtain ⟨rfl, rfl⟩ := some_eq hn
              exact (single_uni (hup (by omega)) h.dec).mono fun en w' hq => yes_of h rfl hq
            · split at hn
              · rename_i h14
                subst h14
                obtain ⟨rfl, rfl⟩ := some_eq hn
                exact (single_unit h.dec).mono fun en w' hq => yes_of h rfl hq
              · split at hn
                · rename_i h11
                  subst h11
                  obtain ⟨rfl, rfl⟩ := some_eq hn
                  exact (single_pair (hup (by omega)) h.dec).mono fun en w' hq => yes_of h rfl hq
                · obtain ⟨rfl, rfl⟩ := some_eq hn
                  exact (single_quote b h0 h1 (hup (by omega)) (by omega) (by omega) h.dec).mono fun en w' hq => yes_of h rfl hq
theorem double_none (b : Int) (h0 : 0 ≤ b) (h1 : b ≤ 255) (hn : doubleF s b = none) (h : DecS w g T a e f d v xs k s) :
    Calls Tryz.prog 209 #[.pointer (some ⟨g, 0, none⟩), .int .u8 b] w (NextNo w g T k a e f d v xs) := by
  unfold doubleF at hn
  split at hn
  · rename_i hc
    split at hn
    · cases hn
    · rename_i hf
      have hf1 : fitB s b = false := by simpa using hf
      by_cases h2 : b < 224
      · exact (double_no_lo b h0 h1 h2 hf1 h.dec).mono fun en w' hq => no_of (s' := { s with first := b }) h rfl hq
      · exact (double_no_hi b h0 h1 (by omega) hf1 h.dec).mono fun en w' hq => no_of (s' := { s with first := b }) h rfl hq
  · split at hn
    · cases hn
    · split at hn
      · by_cases h242 : b = 242
        · subst h242
          exact (double_242 h.dec).mono fun en w' hq => no_of h rfl hq
        · exact (double_up b h0 h1 (by omega) (by omega) (by omega) (by omega) h.dec).mono fun en w' hq => no_of h rfl hq
      · (repeat (split at hn <;> try cases hn))
theorem double_some {s' : CS} {r : Option Int} (b : Int) (h0 : 0 ≤ b) (h1 : b ≤ 255) (hn : doubleF s b = some (s', r)) (h : DecS w g T a e f d v xs k s) :
    Calls Tryz.prog 209 #[.pointer (some ⟨g, 0, none⟩), .int .u8 b] w (NextYes w g T k a e f d v xs s' r) := by
  unfold doubleF at hn
  split at hn
  · rename_i hc
    split at hn
    · rename_i hf
      obtain ⟨rfl, rfl⟩ := some_eq hn
      by_cases h2 : b < 224
      · exact (double_rest_lo b h0 h1 h2 hf h.dec).mono fun en w' hq => yes_of h rfl hq
      · exact (double_rest_hi b h0 h1 (by omega) hf h.dec).mono fun en w' hq => yes_of h rfl hq
    · cases hn
  · split at hn
    · rename_i h240
      subst h240
      obtain ⟨rfl, rfl⟩ := some_eq hn
      exact (double_unit h.dec).mono fun en w' hq => yes_of h rfl hq
    · split at hn
      · cases hn
      · rename_i hu
        have hup : s.up = 0 := by omega
        split at hn
        · rename_i h241
          subst h241
          obtain ⟨rfl, rfl⟩ := some_eq hn
          exact (double_pair hup h.dec).mono fun en w' hq => yes_of h rfl hq
        · split at hn
          · obtain ⟨rfl, rfl⟩ := some_eq hn
            exact (double_def b h0 h1 hup (by omega) (by omega) h.dec).mono fun en w' hq => yes_of h rfl hq
          · obtain ⟨rfl, rfl⟩ := some_eq hn
            exact (double_act b h0 h1 hup (by omega) (by omega) h.dec).mono fun en w' hq => yes_of h rfl hq
theorem more_none (b : Int) (h0 : 0 ≤ b) (h1 : b ≤ 255) (hs : cok s) (hn : moreF s b = none) (h : DecS w g T a e f d v xs k s) :
    Calls Tryz.prog 208 #[.pointer (some ⟨g, 0, none⟩), .int .u8 b] w (NextNo w g T k a e f d v xs) := by
  unfold moreF at hn
  split at hn
  · cases hn
  · split at hn
    · rename_i h2
      cases ho : offF b with
      | none => exact (more_def_no b h0 h1 h2 ho hs h).mono fun en w' hq => ⟨hq.1, s, v, hq.2⟩
      | some x => rw [ho] at hn; cases hn
    · split at hn
      · cases hn
      · split at hn
        · cases hn
        · split at hn
          · rename_i h5
            split at hn
            · cases hn
            · rename_i hf
              exact (more_unit_no b h0 h1 h5 (by simpa using hf) hs h).mono fun en w' hq => ⟨hq.1, { s with first := b }, v, hq.2⟩
          · cases hn
theorem more_some {s' : CS} {r : Option Int} (b : Int) (h0 : 0 ≤ b) (h1 : b ≤ 255) (hl : xs.length + 1 ≤ 1073741824) (hs : cok s) (hb : s.beg ≠ 0) (hn : moreF s b = some (s', r)) (h : DecS w g T a e f d v xs k s) :
    Calls Tryz.prog 208 #[.pointer (some ⟨g, 0, none⟩), .int .u8 b] w (NextYes w g T k a e f d v xs s' r) := by
  unfold moreF at hn
  split at hn
  · rename_i hb1
    obtain ⟨rfl, rfl⟩ := some_eq hn
    by_cases h2 : 128 ≤ b
    · rw [if_pos h2]
      exact more_quote_hi b h0 h1 hl hb1 h2 hs h
    · rw [if_neg h2]
      exact more_quote_lo b h0 h1 hl hb1 (by omega) hs h
  · split at hn
    · rename_i h2
      cases ho : offF b with
      | none => rw [ho] at hn; cases hn
      | some x =>
        rw [ho] at hn
        obtain ⟨rfl, rfl⟩ := some_eq hn
        exact (more_def b h0 h1 x h2 ho hs h).mono fun en w' hq => yes_ofS hq
    · split at hn
      · rename_i h3
        obtain ⟨rfl, rfl⟩ := some_eq hn
        exact (more_pair b h0 h1 h3 hs h).mono fun en w' hq => yes_ofS hq
      · split at hn
        · rename_i h4
          obtain ⟨rfl, rfl⟩ := some_eq hn
          exact (more_last b h0 h1 h4 hs h).mono fun en w' hq => yes_ofS hq
        · split at hn
          · rename_i h5
            split at hn
            · rename_i hf
              obtain ⟨rfl, rfl⟩ := some_eq hn
              exact (more_unit b h0 h1 h5 hf hs h).mono fun en w' hq => yes_ofS hq
            · cases hn
          · obtain ⟨rfl, rfl⟩ := some_eq hn
            have h6 := hs.beg
            exact more_rest b h0 h1 hl (by omega) hs h
theorem next_none (b : Int) (hs : cok s) (h0 : 0 ≤ b) (h1 : b ≤ 255) (hn : cnx s b = none) (h : DecS w g T a e f d v xs k s) :
    Calls Tryz.prog 207 #[.pointer (some ⟨g, 0, none⟩), .int .u8 b] w (NextNo w g T k a e f d v xs) := by
  unfold cnx at hn
  split at hn
  · rename_i hb
    exact next_more b false hb h.dec (more_none b h0 h1 hs hn h)
  · rename_i hb
    have hb0 : s.beg = 0 := Decidable.not_not.1 hb
    split at hn
    · rename_i hu
      exact next_double b false hb0 hu h.dec (double_none b h0 h1 hn h)
    · rename_i hu
      exact next_single b false hb0 (by simpa using hu) h.dec (single_none b h0 h1 hn h)
theorem next_some {s' : CS} {r : Option Int} (b : Int) (hs : cok s) (h0 : 0 ≤ b) (h1 : b ≤ 255) (hl : xs.length + 1 ≤ 1073741824) (hn : cnx s b = some (s', r)) (h : DecS w g T a e f d v xs k s) :
    Calls Tryz.prog 207 #[.pointer (some ⟨g, 0, none⟩), .int .u8 b] w (NextYes w g T k a e f d v xs s' r) := by
  unfold cnx at hn
  split at hn
  · rename_i hb
    exact next_more b true hb h.dec (more_some b h0 h1 hl hs hb hn h)
  · rename_i hb
    have hb0 : s.beg = 0 := Decidable.not_not.1 hb
    split at hn
    · rename_i hu
      exact next_double b true hb0 hu h.dec (double_some b h0 h1 hn h)
    · rename_i hu
      exact next_single b true hb0 (by simpa using hu) h.dec (single_some b h0 h1 hl hs hn h)
end
end Go.Proofs.YtcgoofefiiihnaaGreat.S
namespace Go.Proofs.YtcgoofefiiihnaaGreat.S
open Go.RowKit Go.Proofs.YtcgoofefiiihnaaGreatW.PrintWords Go.Proofs.YtcgoofefiiihnaaGreatW.PrintMore
set_option linter.unusedVariables false
set_option linter.unusedSimpArgs false
set_option maxRecDepth 20000
section
variable {w w' : World} {g T k : Nat} {a e f : Int} {d : Bool} {v v' : Value} {xs : List Int} {s : CS}
theorem StS.nil (h : StS w g k nilv w' v') : Kp (fun j => j = g ∨ j = k) w w' := h.kp.mono (fun j hj => by
  rcases hj with h1 | h1 | h1
  · exact .inl (.inl h1)
  · exact .inl (.inr h1)
  · cases h1)
theorem decS_eat (n : Int) (h0 : 0 ≤ a) (h1 : a ≤ 1152921504606846976) (hp : 0 ≤ n) (hn : n ≤ 1125899906842624) (h : DecS w g T a 0 f false v xs k s) :
    Calls Tryz.prog 163 #[.pointer (some ⟨g, 0, none⟩), .int .i64 n] w fun en w' => en = .returned (.tuple #[]) ∧ DecS w' g T (a + n) 0 f false v xs k s ∧ StS w g k v w' v :=
  (dec_eat n h0 h1 hp hn h.dec).mono fun en w' ⟨he, hd, hs⟩ => ⟨he, h.stp hd rfl hs, StS.of k hs⟩
theorem decS_stop (n : Int) (hn : (n == 0) = false) (h : DecS w g T a 0 f false v xs k s) :
    Calls Tryz.prog 160 #[.pointer (some ⟨g, 0, none⟩), .int .i64 n] w fun en w' => en = .returned (.tuple #[]) ∧ DecS w' g T a n a false v xs k s ∧ StS w g k v w' v :=
  (dec_stop n hn h.dec).mono fun en w' ⟨he, hd, hs⟩ => ⟨he, h.stp hd rfl hs, StS.of k hs⟩
theorem decS_end (h : DecS w g T a 0 f false v xs k s) :
    Calls Tryz.prog 161 #[.pointer (some ⟨g, 0, none⟩)] w fun en w' => en = .returned (.tuple #[]) ∧ DecS w' g T a 0 f true v xs k s ∧ StS w g k v w' v :=
  (dec_end h.dec).mono fun en w' ⟨he, hd, hs⟩ => ⟨he, h.stp hd rfl hs, StS.of k hs⟩
theorem decS_tell (room : Int) (hl : xs.length ≤ 1073741824) (h : DecS w g T a e f d v xs k s) :
    Calls Tryz.prog 164 #[.pointer (some ⟨g, 4, none⟩), .int .i64 room] w fun en w' => ∃ r v', en = .returned r ∧ DecS w' g T a e f d v' (xs.drop (min room.toNat xs.length)) k s ∧
      w'.ownsRow w.heap.size 56 1 r (xs.take (min room.toNat xs.length)).length (nums .u32 (xs.take (min room.toNat xs.length))) ∧ StS w g k v w' v' ∧ (xs.length ≤ room.toNat → v' = .slice none 0 0) :=
  (dec_tell room hl h.dec).mono fun en w' ⟨r, v', he, hd, ho, hs, hv⟩ => ⟨r, v', he, h.stp hd rfl hs, ho, StS.of k hs, hv⟩
end
section
variable {w : World} {g T kw : Nat} {a e f : Int} {d : Bool} {v : Value} {xs : List Int}
structure FeedAt (w : World) (g T kw : Nat) (a : Int) (v : Value) (s0 : CS) (t : ByteArray) (room : Int) (k : Nat) (os : List Int) (s : CS) (v' : Value) (w' : World) : Prop where
  le : k ≤ t.size
  run : run cnx s0 ((bytesOf t).take k) = some (s, os)
  dec : DecS w' g T (a + k) 0 0 false v' os kw s
  stp : StS w g kw v w' v'
  room : (os.length : Int) ≤ room ∨ os = []
  ok : cok s
  few : os.length ≤ k
def FeedRel (w : World) (g T kw : Nat) (a : Int) (v : Value) (s0 : CS) (t : ByteArray) (room : Int) (n : Value) (w' : World) : Prop :=
  ∃ k os s v', n = .int .i64 (k : Nat) ∧ FeedAt w g T kw a v s0 t room k os s v' w'
def FeedPost (w : World) (g T kw : Nat) (a : Int) (s0 : CS) (t : ByteArray) (room : Int) (en : Ending) (w' : World) : Prop :=
  ∃ (m : Nat) (os : List Int) (r : Value) (s : CS), en = .returned (.tuple #[.int .i64 m, r]) ∧ m ≤ t.size ∧ run cnx s0 ((bytesOf t).take m) = some (s, os) ∧ w'.ownsRow w.heap.size 56 1 r os.length (nums .u32 os) ∧ Kp (fun k => k = g ∨ k = kw) w w' ∧
    ((os.length : Int) ≤ room ∨ os = []) ∧ os.length ≤ m ∧ cok s ∧
    ((DecS w' g T (a + m) 0 0 false nilv [] kw s ∧ (m = t.size ∨ room ≤ os.length)) ∨
     (m < t.size ∧ cnx s (bt t m) = none ∧ ∃ s', DecS w' g T (a + m) 3 (a + m) false nilv [] kw s'))
theorem feed_end {w wr w' : World} {g T kw : Nat} {a : Int} {v1 r v' : Value} {s0 s : CS} {t : ByteArray} {room : Int} {k : Nat} {os : List Int} (h : FeedAt w g T kw a nilv s0 t room k os s v1 wr) (hx : k = t.size ∨ room ≤ os.length)
    (hd : DecS w' g T (a + k) 0 0 false v' (os.drop (min room.toNat os.length)) kw s) (ho : w'.ownsRow wr.heap.size 56 1 r (os.take (min room.toNat os.length)).length (nums .u32 (os.take (min room.toNat os.length)))) (hs : StS wr g kw v1 w' v') (hv : os.length ≤ room.toNat → v' = .slice none 0 0) :
    FeedPost w g T kw a s0 t room (.returned (.tuple #[.int .i64 k, r])) w' := by
  have hle : os.length ≤ room.toNat := by rcases h.room with h1 | h1 <;> simp_all <;> omega
  obtain rfl := hv hle
  have hm : min room.toNat os.length = os.length := by omega
  rw [hm, List.take_length] at ho
  rw [hm, List.drop_length] at hd
  exact ⟨k, os, r, s, rfl, h.le, h.run, own_weaken ho h.stp.kp.size, (h.stp.trans hs).nil, h.room, h.few, h.ok, .inl ⟨hd, hx⟩⟩
theorem feed_wrong {w wr w1 w' : World} {g T kw : Nat} {a : Int} {v1 r v' v2 : Value} {s0 s s1 : CS} {t : ByteArray} {room : Int} {k : Nat} {os : List Int} (h : FeedAt w g T kw a nilv s0 t room k os s v1 wr) (hk : k < t.size) (hn : cnx s (bt t k) = none) (hs1 : StS wr g kw v1 w1 v2)
    (hd : DecS w' g T (a + k) 3 (a + k) false v' (os.drop (min room.toNat os.length)) kw s1) (ho : w'.ownsRow w1.heap.size 56 1 r (os.take (min room.toNat os.length)).length (nums .u32 (os.take (min room.toNat os.length)))) (hs : StS w1 g kw v2 w' v') (hv : os.length ≤ room.toNat → v' = .slice none 0 0) :
    FeedPost w g T kw a s0 t room (.returned (.tuple #[.int .i64 k, r])) w' := by
  have hle : os.length ≤ room.toNat := by rcases h.room with h1 | h1 <;> simp_all <;> omega
  obtain rfl := hv hle
  have hm : min room.toNat os.length = os.length := by omega
  rw [hm, List.take_length] at ho
  rw [hm, List.drop_length] at hd
  exact ⟨k, os, r, s, rfl, h.le, h.run, own_weaken ho (Nat.le_trans h.stp.kp.size hs1.kp.size), ((h.stp.trans hs1).trans hs).nil, h.room, h.few, h.ok, .inr ⟨hk, hn, s1, hd⟩⟩
theorem feed_on {w wr w' : World} {g T kw : Nat} {a : Int} {v v1 v' : Value} {s0 s s1 : CS} {t : ByteArray} {room : Int} {k : Nat} {os : List Int} {r : Option Int} (h : FeedAt w g T kw a v s0 t room k os s v1 wr) (hk : k < t.size) (hr : (os.length : Int) < room) (hn : cnx s (bt t k) = some (s1, r))
    (hd : DecS w' g T (a + k + 1) 0 0 false v' (os ++ r.toList) kw s1) (hs : StS wr g kw v1 w' v') : FeedRel w g T kw a v s0 t room (.int .i64 ((k : Int) + 1)) w' := by
  have hl : r.toList.length ≤ 1 := by cases r <;> simp
  refine ⟨k + 1, os ++ r.toList, s1, v', rfl, hk, ?_, ?_, h.stp.trans hs, .inl (by rw [List.length_append]; omega), cnx_ok h.ok (bt_range t k).1 (bt_range t k).2 hn, by rw [List.length_append]; have := h.few; omega⟩
  · rw [take_bt t k hk, run_snoc, h.run]
    simp only [Option.bind_some, hn, Option.map_some]
  · rw [show a + ((k + 1 : Nat) : Int) = a + k + 1 by omega]
    exact hd
theorem feed_any (t : ByteArray) (room : Int) (s0 : CS) (hs : cok s0) (ht : t.size ≤ 1000000) (ha0 : 0 ≤ a) (ha1 : a ≤ 1000000000) (h : DecS w g T a 0 0 false nilv [] kw s0) :
    Calls Tryz.prog 206 #[.pointer (some ⟨g, 0, none⟩), .string t, .int .i64 room] w (FeedPost w g T kw a s0 t room) := by
  have HS : Hid (FeedRel w g T kw a nilv s0 t room (.int .i64 0) w) := ⟨0, [], s0, nilv, rfl, Nat.zero_le _, rfl, by simpa using h, StS.refl _ _ _ _, .inr rfl, hs, Nat.zero_le _⟩
  clear h hs
  go_enter Tryz.func206, Tryz.ntmps206
  go_wp2_with fail
  go_loopw [8] (fun n wr => FeedRel w g T kw a nilv s0 t room n wr) (fun n _ => t.size - (intOf n).toNat)
  case atStart => exact HS.out
  case round =>
    obtain ⟨k, os, s, v1, rfl, hk⟩ := hrel
    have hle := hk.le
    have hfew := hk.few
    have HD := Lib.hid hk.dec
    have HK := Lib.hid hk
    have HO := Lib.hid hk.ok
    clear hk
    by_cases hlt : k < t.size
    · by_cases hroom : (os.length : Int) < room
      · have he : ((t[k]'hlt).toNat : Int) = bt t k := bt_at t k hlt
        have hb : 0 ≤ ((t[k]'hlt).toNat : Int) ∧ ((t[k]'hlt).toNat : Int) ≤ 255 := he ▸ bt_range t k
        have HB := Lib.hid hb
        cases hn : cnx s (bt t k) with
        | none =>
          have hn1 : cnx s ((t[k]'hlt).toNat : Int) = none := by rw [he]; exact hn
          have HN := Lib.hid hn
          have HN1 := Lib.hid hn1
          clear hn hn1 he hb
          go_wp2_with (first | (go_at_call 159; go_must (refine (dec_held HD.out.dec).mono ?_); rintro e w' ⟨rfl, rfl⟩) | (go_at_call 158; go_must (refine (going_yes HD.out.dec.bs).mono ?_); rintro e w' ⟨rfl, rfl⟩) | (go_at_call 207; go_must (refine (next_none _ HO.out HB.out.1 HB.out.2 HN1.out HD.out).mono ?_); rintro e w2 ⟨rfl, s2, v2, hd2, hs2⟩; have HD2 := Lib.hid hd2; have HS2 := Lib.hid hs2; clear hd2 hs2) | (go_at_call 160; go_must (refine (decS_stop 3 rfl HD2.out).mono ?_); rintro e w3 ⟨rfl, hd3, hs3⟩; have HD3 := Lib.hid hd3; have HS3 := Lib.hid hs3; clear hd3 hs3) | (go_at_call 164; go_must (refine (decS_tell room (by omega) HD3.out).mono ?_); rintro e w4 ⟨r4, v4, rfl, hd4, ho4, hs4, hv4⟩; have HD4 := Lib.hid hd4; have HO4 := Lib.hid ho4; have HS4 := Lib.hid hs4; have HV4 := Lib.hid hv4; clear hd4 ho4 hs4 hv4))
          go_ret2
          exact feed_wrong HK.out hlt HN.out (HS2.out.trans HS3.out) HD4.out HO4.out HS4.out HV4.out
        | some p =>
          obtain ⟨s1, r⟩ := p
          have hn1 : cnx s ((t[k]'hlt).toNat : Int) = some (s1, r) := by rw [he]; exact hn
          have HN := Lib.hid hn
          have HN1 := Lib.hid hn1
          clear hn hn1 he hb
          go_wp2_with (first | (go_at_call 159; go_must (refine (dec_held HD.out.dec).mono ?_); rintro e w' ⟨rfl, rfl⟩) | (go_at_call 158; go_must (refine (going_yes HD.out.dec.bs).mono ?_); rintro e w' ⟨rfl, rfl⟩) | (go_at_call 207; go_must (refine (next_some _ HO.out HB.out.1 HB.out.2 (by omega) HN1.out HD.out).mono ?_); rintro e w2 ⟨rfl, v2, hd2, hs2⟩; have HD2 := Lib.hid hd2; have HS2 := Lib.hid hs2; clear hd2 hs2) | (go_at_call 163; go_must (refine (decS_eat 1 (by omega) (by omega) (by omega) (by omega) HD2.out).mono ?_); rintro e w3 ⟨rfl, hd3, hs3⟩; have HD3 := Lib.hid hd3; have HS3 := Lib.hid hs3; clear hd3 hs3))
          go_roundw
          case rel => exact feed_on HK.out hlt hroom HN.out HD3.out (HS2.out.trans HS3.out)
          case measure => simp [intOf]; omega
      · have HE := Lib.hid (show k = t.size ∨ room ≤ os.length from .inr (by omega))
        go_wp2_with (first | (go_at_call 159; go_must (refine (dec_held HD.out.dec).mono ?_); rintro e w' ⟨rfl, rfl⟩) | (go_at_call 164; go_must (refine (decS_tell room (by omega) HD.out).mono ?_); rintro e w4 ⟨r4, v4, rfl, hd4, ho4, hs4, hv4⟩; have HD4 := Lib.hid hd4; have HO4 := Lib.hid ho4; have HS4 := Lib.hid hs4; have HV4 := Lib.hid hv4; clear hd4 ho4 hs4 hv4))
        go_ret2
        exact feed_end HK.out HE.out HD4.out HO4.out HS4.out HV4.out
    · have HE := Lib.hid (show k = t.size ∨ room ≤ os.length from .inl (by omega))
      go_wp2_with (first | (go_at_call 164; go_must (refine (decS_tell room (by omega) HD.out).mono ?_); rintro e w4 ⟨r4, v4, rfl, hd4, ho4, hs4, hv4⟩; have HD4 := Lib.hid hd4; have HO4 := Lib.hid ho4; have HS4 := Lib.hid hs4; have HV4 := Lib.hid hv4; clear hd4 ho4 hs4 hv4))
      go_ret2
      exact feed_end HK.out HE.out HD4.out HO4.out HS4.out HV4.out
end
section
variable {w : World} {g T k : Nat} {a e f : Int} {d : Bool} {v : Value} {xs : List Int} {s : CS}
theorem dend_cut (hc : ccut s = true) (h : DecS w g T a 0 f false v xs k s) :
    Calls Tryz.prog 205 #[.pointer (some ⟨g, 0, none⟩)] w fun en w' => en = .returned (.tuple #[]) ∧ DecS w' g T a 4 a false v xs k s ∧ StS w g k v w' v := by
  have c8 : w.cell? ⟨g, 8, none⟩ = some (.int .i64 s.beg) := h.dec.co 3
  have c11 : w.cell? ⟨g, 11, none⟩ = some (.int .u32 s.up) := h.dec.co 6
  have HD := Lib.hid h
  clear h
  unfold ccut at hc
  cases hb : (s.beg != 0)
  · rw [hb, Bool.false_or] at hc
    go_enter Tryz.func205, Tryz.ntmps205
    go_wp2_with (first | (go_at_call 160; go_must (refine (decS_stop 4 rfl HD.out).mono ?_); rintro e w1 ⟨rfl, hd1, hs1⟩; have HD1 := Lib.hid hd1; have HS1 := Lib.hid hs1; clear hd1 hs1) | (go_at_call 161; go_must (refine (end_no (e := 4) (d := false) rfl HD1.out.dec.bs).mono ?_); rintro e w2 ⟨rfl, rfl⟩))
    go_end0
    exact ⟨rfl, HD1.out, HS1.out⟩
  · clear hc
    go_enter Tryz.func205, Tryz.ntmps205
    go_wp2_with (first | (go_at_call 160; go_must (refine (decS_stop 4 rfl HD.out).mono ?_); rintro e w1 ⟨rfl, hd1, hs1⟩; have HD1 := Lib.hid hd1; have HS1 := Lib.hid hs1; clear hd1 hs1) | (go_at_call 161; go_must (refine (end_no (e := 4) (d := false) rfl HD1.out.dec.bs).mono ?_); rintro e w2 ⟨rfl, rfl⟩))
    go_end0
    exact ⟨rfl, HD1.out, HS1.out⟩
theorem dend_ok (hc : ccut s = false) (h : DecS w g T a 0 f false v xs k s) :
    Calls Tryz.prog 205 #[.pointer (some ⟨g, 0, none⟩)] w fun en w' => en = .returned (.tuple #[]) ∧ DecS w' g T a 0 f true v xs k s ∧ StS w g k v w' v := by
  have c8 : w.cell? ⟨g, 8, none⟩ = some (.int .i64 s.beg) := h.dec.co 3
  have c11 : w.cell? ⟨g, 11, none⟩ = some (.int .u32 s.up) := h.dec.co 6
  have HD := Lib.hid h
  clear h
  unfold ccut at hc
  rw [Bool.or_eq_false_iff] at hc
  obtain ⟨hb, hu⟩ := hc
  go_enter Tryz.func205, Tryz.ntmps205
  go_wp2_with (first | (go_at_call 161; go_must (refine (decS_end HD.out).mono ?_); rintro e w1 ⟨rfl, hd1, hs1⟩; have HD1 := Lib.hid hd1; have HS1 := Lib.hid hs1; clear hd1 hs1))
  go_end0
  exact ⟨rfl, HD1.out, HS1.out⟩
theorem dend_err (he : (e == 0) = false) (h : DecS w g T a e f false v xs k s) :
    Calls Tryz.prog 205 #[.pointer (some ⟨g, 0, none⟩)] w fun en w' => en = .returned (.tuple #[]) ∧ w = w' := by
  have c8 : w.cell? ⟨g, 8, none⟩ = some (.int .i64 s.beg) := h.dec.co 3
  have c11 : w.cell? ⟨g, 11, none⟩ = some (.int .u32 s.up) := h.dec.co 6
  have HD := Lib.hid h
  clear h
  have HE := Lib.hid (show (e == 0 && !false) = false by rw [he]; rfl)
  clear he
  cases hb : (s.beg != 0)
  · cases hu : (s.up != 0)
    all_goals
      go_enter Tryz.func205, Tryz.ntmps205
      go_wp2_with (first | (go_at_call 160; go_must (refine (stop_no 4 HE.out HD.out.dec.bs).mono ?_); rintro e w1 ⟨rfl, rfl⟩) | (go_at_call 161; go_must (refine (end_no HE.out HD.out.dec.bs).mono ?_); rintro e w2 ⟨rfl, rfl⟩))
      go_end0
      exact ⟨rfl, rfl⟩
  · cases hu : (s.up != 0)
    all_goals
      go_enter Tryz.func205, Tryz.ntmps205
      go_wp2_with (first | (go_at_call 160; go_must (refine (stop_no 4 HE.out HD.out.dec.bs).mono ?_); rintro e w1 ⟨rfl, rfl⟩) | (go_at_call 161; go_must (refine (end_no HE.out HD.out.dec.bs).mono ?_); rintro e w2 ⟨rfl, rfl⟩))
      go_end0
      exact ⟨rfl, rfl⟩
end
end Go.Proofs.YtcgoofefiiihnaaGreat.S
namespace Go.Proofs.YtcgoofefiiihnaaGreat.S
open Go.RowKit Go.Proofs.YtcgoofefiiihnaaGreatW.PrintWords Go.Proofs.YtcgoofefiiihnaaGreatW.PrintMore
set_option linter.unusedVariables false
set_option linter.unusedSimpArgs false
set_option maxRecDepth 20000
theorem newwin_any (w : World) : Calls Tryz.prog 88 #[] w fun en w' => en = .returned (.pointer (some ⟨w.heap.size, 0, none⟩)) ∧ Win w' w.heap.size firstL useL ∧ w'.heap.size = w.heap.size + 1 ∧ Below w.heap.size w w' := by
  go_enter Tryz.func88, Tryz.ntmps88
  go_wp2
  go_ret
  exact ⟨rfl, blk_new _ _, by simp, (Below.refl _ _).alloc (Nat.le_refl _) _⟩
theorem newd_any (w : World) : Calls Tryz.prog 53 #[] w fun en w' => en = .returned (.pointer (some ⟨w.heap.size + 1, 0, none⟩)) ∧ DecS w' (w.heap.size + 1) 191 0 0 0 false nilv [] w.heap.size st0 ∧ Below w.heap.size w w' := by
  go_enter Tryz.func53, Tryz.ntmps53
  go_wp2_with fail
  refine (newwin_any _).mono ?_
  rintro en w1 ⟨rfl, hw1, hz1, hb1⟩
  have HW := Lib.hid hw1
  have HB := Lib.hid hb1
  have HZ := Lib.hid hz1
  clear hw1 hb1 hz1
  go_wp2_with fail
  rw [HZ.out]
  go_ret
  refine ⟨rfl, ⟨⟨?_, q_none _ _, fun h => by cases h⟩, blk_alloc HW.out _, by omega, fun h => by cases h⟩, below_alloc HB.out _⟩
  rw [← HZ.out]
  exact blk_new w1 _
theorem cnewd_any (c : Int) (hc : c = 9 ∨ c = 10) (w : World) : Calls Tryz.prog 26 #[.int .i64 c] w fun en w' => en = .returned (.tuple #[.iface 115 (.pointer (some ⟨w.heap.size + 1, 0, none⟩)), .int .i64 0]) ∧ DecS w' (w.heap.size + 1) 191 0 0 0 false nilv [] w.heap.size st0 ∧ Below w.heap.size w w' := by
  rcases hc with rfl | rfl
  all_goals
    go_enter Tryz.func26, Tryz.ntmps26
    go_wp2_with fail
    refine (newd_any _).mono ?_
    rintro en w1 ⟨rfl, he1, hb1⟩
    have HE := Lib.hid he1
    have HB := Lib.hid hb1
    clear he1 hb1
    go_wp2_with fail
    go_ret2
    exact ⟨rfl, HE.out, HB.out⟩
theorem md_feed (a : Addr) (w : World) : (method 446 115 (.pointer (some a)) "Feed").run Tryz.prog w = .ok (206, .pointer (some a)) w := by kernel_rfl
theorem md_fail (a : Addr) (w : World) : (method 446 115 (.pointer (some a)) "Fail").run Tryz.prog w = .ok (156, .pointer (some a)) w := by kernel_rfl
theorem md_end (a : Addr) (w : World) : (method 446 115 (.pointer (some a)) "End").run Tryz.prog w = .ok (205, .pointer (some a)) w := by kernel_rfl
theorem md_done (a : Addr) (w : World) : (method 446 115 (.pointer (some a)) "Done").run Tryz.prog w = .ok (154, .pointer (some a)) w := by kernel_rfl
def DecPost (w : World) (t : ByteArray) (en : Ending) (w' : World) : Prop :=
  ∃ (v : Value) (m : Nat) (os : List Int) (s : CS) (e f : Int), en = .returned (.tuple #[v, .agg #[.int .i64 e, .int .i64 f]]) ∧ m ≤ t.size ∧ os.length ≤ m ∧ run cnx st0 ((bytesOf t).take m) = some (s, os) ∧ w'.ownsRow w.heap.size 56 1 v os.length (nums .u32 os) ∧ Below w.heap.size w w' ∧ e = (if m < t.size then 3 else if ccut s = true then 4 else 0) ∧ f = (if e = 0 then 0 else (m : Int)) ∧ (m = t.size ∨ (m < t.size ∧ cnx s (bt t m) = none))
theorem decode_end {w w8 : World} {t : ByteArray} {m : Nat} {os : List Int} {s : CS} {v : Value} {e f : Int} (hm : m ≤ t.size) (hf : os.length ≤ m) (hr : run cnx st0 ((bytesOf t).take m) = some (s, os)) (ho : w8.ownsRow w.heap.size 56 1 v os.length (nums .u32 os)) (hb : Below w.heap.size w w8) (he : e = (if m < t.size then 3 else if ccut s = true then 4 else 0)) (hff : f = (if e = 0 then 0 else (m : Int))) (hn : m = t.size ∨ (m < t.size ∧ cnx s (bt t m) = none)) : DecPost w t (.returned (.tuple #[v, .agg #[.int .i64 e, .int .i64 f]])) w8 :=
  ⟨v, m, os, s, e, f, rfl, hm, hf, hr, ho, hb, he, hff, hn⟩
set_option maxHeartbeats 4000000 in
theorem decode_any {w : World} (c : Int) (hc : c = 9 ∨ c = 10) (t : ByteArray) (hz : t.size ≤ 4000) :
    Calls Tryz.prog 9 #[.int .i64 c, .string t] w (DecPost w t) := by
  have hm1 := md_feed ⟨w.heap.size + 1 + 1, 0, none⟩
  have hm2 := md_fail ⟨w.heap.size + 1 + 1, 0, none⟩
  have hm3 := md_end ⟨w.heap.size + 1 + 1, 0, none⟩
  have hm4 := md_done ⟨w.heap.size + 1 + 1, 0, none⟩
  have huF : ∀ (x y : Int) (W : World), Sem.run Tryz.prog (Instr.field 27 (.agg #[.int .i64 x, .int .i64 y]) 0) W = .ok (.int .i64 x) W := fun x y W => by kernel_rfl
  have HC0 := Lib.hid hc
  clear hc
  go_enter Tryz.func9, Tryz.ntmps9
  go_wp2_with fail
  refine (cnewd_any c HC0.out _).mono ?_
  rintro en w1 ⟨rfl, he1, hb1⟩
  have HE := Lib.hid he1
  have HB := Lib.hid hb1
  clear he1 hb1
  have hz0 : (w.alloc (.cells #[.int .i64 0, .int .i64 0] 27)).heap.size = w.heap.size + 1 := by simp
  rw [hz0] at HE HB
  have hz1 := HB.out.size
  rw [hz0] at hz1
  have HR : Hid (w1.heap[w.heap.size]? = some (.cells #[.int .i64 0, .int .i64 0] 27 (0, 0))) := Lib.hid ((HB.out.block _ (by omega)).trans (blk_new w _))
  have HBW : Hid (Below w.heap.size w w1) := Lib.hid ((below_alloc (Below.refl w.heap.size w) (.cells #[.int .i64 0, .int .i64 0] 27)).trans (HB.out.mono (by omega)))
  have HL1 : Hid (w.heap.size + 1 < w1.heap.size) := Lib.hid (Nat.lt_trans (Nat.lt_succ_self _) HE.out.dec.lt)
  clear hz0 hz1 HB
  go_wp2_with fail
  go_loopw [1, 8] (fun l o wr => l = .string t ∧ o = .slice none 0 0 ∧ wr = w1) (fun _ _ _ => 0)
  case atStart => exact ⟨rfl, rfl, rfl⟩
  case round =>
    obtain ⟨rfl, rfl, rfl⟩ := hrel
    go_wp2_with fail
    refine (feed_any t 4096 st0 cok0 (by omega) (by omega) (by omega) HE.out).mono ?_
    rintro en w3 ⟨m, os, r, s, rfl, hm, hr, ho, hk3, hrm, hfew, hok, hcase⟩
    obtain ⟨A3, c3, rfl, hle3, _⟩ := own_reads_of_le (enc := fun x => Value.int .u32 x) (d := (0 : Int)) ho
    have HO3 := Lib.hid (own_reads' ho)
    have HM := Lib.hid hm
    have HRUN := Lib.hid hr
    have HFEW := Lib.hid hfew
    have HR3 := Lib.hid (hk3.blk HR.out (fun h => by rcases h with h | h <;> omega))
    have HB3 := Lib.hid (HBW.out.trans (hk3.below (B := w.heap.size) HBW.out.size (fun k hk => by rcases hk with h | h <;> omega)))
    have HZ3 := Lib.hid (Nat.lt_of_lt_of_le HL1.out hk3.size)
    have HZ4 : Hid (w.heap.size + 1 + 1 < w3.heap.size) := Lib.hid (Nat.lt_of_lt_of_le HE.out.dec.lt hk3.size)
    have hosl : os.length ≤ 4000 := by omega
    clear ho hk3 hrm hok hle3 hr hfew HL1
    rcases hcase with ⟨hd3, hx⟩ | ⟨hlt, hn, s', hd3⟩
    · obtain rfl : m = t.size := by omega
      rw [Int.zero_add] at hd3
      have HD3 := Lib.hid hd3
      have hE : (t.extract t.size t.size).toList.isEmpty = true := by rw [isEmpty_size, ByteArray.size_extract, decide_eq_true]; omega
      have hmm : ((t.size : Int) < 0) = False := by simp
      clear hd3 hx hm
      cases hc : ccut s with
      | false =>
        have HC := Lib.hid hc
        clear hc
        go_wp2_with (at_builtin; go_must (refine print_append_row (w0 := w3) w3.heap.size rfl (.tmp 28) (.tmp 29) 24 56 .u32 4 rfl Tryz.underlying24 infoU (by omega) (.slice none 0 0) [] os A3 os.length c3 rfl rfl (own_nil _ _ _ _) HO3.out (Below.refl _ _) (Nat.le_refl _) (by simp only [List.length_nil]; omega) ?_); intro v4 w4 ho4 hb4 hg4 hat4; rw [List.nil_append] at ho4; have HO4 := Lib.hid ho4; have HB4 := Lib.hid hb4; clear ho4 hb4 hg4 hat4)
        have HD4 := Lib.hid (HD3.out.stp (HD3.out.dec.below HB4.out) rfl ((Stp.refl _ _ _).below HB4.out))
        have HR4 := Lib.hid (blk_below HR3.out HB4.out)
        have HB04 := Lib.hid (HB3.out.trans (HB4.out.mono (Nat.le_trans (Nat.le_succ _) (Nat.le_of_lt HZ3.out))))
        clear HD3 HR3
        refine (dend_ok HC.out HD4.out).mono ?_
        rintro en w5 ⟨rfl, hd5, hs5⟩
        have hk5 := hs5.nil
        have HD5 := Lib.hid hd5
        have HR5 := Lib.hid (hk5.blk HR4.out (fun h => by rcases h with h | h <;> omega))
        have HB05 := Lib.hid (HB04.out.trans (hk5.below (B := w.heap.size) HB04.out.size (fun k hk => by rcases hk with h | h <;> omega)))
        have HO5 := Lib.hid (hk5.own HO4.out (fun k hk h0 => by have := own_base HO4.out k hk; have := HZ3.out; have := HZ4.out; rcases h0 with h | h <;> omega))
        clear hd5 hs5 hk5
        go_wp2_with fail
        go_loopw [8, 11] (fun o _ wr => o = v4 ∧ wr = w5) (fun _ _ _ => 0)
        case atStart => exact ⟨rfl, rfl⟩
        case round =>
          obtain ⟨rfl, rfl⟩ := hrel
          go_wp2_with fail
          refine (dec_done_over (e := 0) (d := true) rfl HD5.out.dec).mono ?_
          rintro en w6 ⟨rfl, rfl⟩
          go_wp2_with fail
          refine (dec_fail HD5.out.dec).mono ?_
          rintro en w8 ⟨rfl, hb8⟩
          have HR8 := Lib.hid (blk_below HR5.out hb8)
          have HB8 := Lib.hid (HB05.out.trans (hb8.mono HB05.out.size))
          have HO8 := Lib.hid ((Kp.of_below hb8 : Kp (fun _ => False) _ w8).own HO5.out (fun _ _ h => h))
          clear hb8
          have q0 : w8.cell? ⟨w.heap.size, 0, none⟩ = some (.int .i64 0) := blk_cell HR8.out 0
          have q1 : w8.cell? ⟨w.heap.size, 1, none⟩ = some (.int .i64 0) := blk_cell HR8.out 1
          have r0 : w8.frozen? ⟨w.heap.size, 0, none⟩ = false := blk_frozen HR8.out 0
          have r1 : w8.frozen? ⟨w.heap.size, 1, none⟩ = false := blk_frozen HR8.out 1
          go_wp2_with fail
          have HR8b : (w8.setCell ⟨w.heap.size, 0, none⟩ (.int .i64 0)).heap[w.heap.size]? = some (.cells #[.int .i64 0, .int .i64 0] 27 (0, 0)) := (blk_set HR8.out 0 _).trans rfl
          have HR9 : ((w8.setCell ⟨w.heap.size, 0, none⟩ (.int .i64 0)).setCell ⟨w.heap.size, 1, none⟩ (.int .i64 0)).heap[w.heap.size]? = some (.cells #[.int .i64 0, .int .i64 0] 27 (0, 0)) := (blk_set HR8b 1 _).trans rfl
          have hk9 : Kp (fun k => k = w.heap.size) w8 ((w8.setCell ⟨w.heap.size, 0, none⟩ (.int .i64 0)).setCell ⟨w.heap.size, 1, none⟩ (.int .i64 0)) := ((Kp.refl _ _).setg _ _).setg _ _
          have HB9 := HB8.out.trans (hk9.below (B := w.heap.size) HB8.out.size (fun k hk => Nat.le_of_eq hk.symm))
          have HO9 := hk9.own HO8.out (fun k hk h0 => by have := own_base HO8.out k hk; have := HZ3.out; omega)
          (try simp only [Exit.inBlock, Exit.then])
          refine bodyPost_ret (results_tc rfl _ _ w.heap.size 27 #[.int .i64 0, .int .i64 0] (0, 0) _ rfl HR9 Tryz.underlying27 rfl (by kernel_rfl)) rfl ?_
          exact decode_end (s := s) (m := t.size) HM.out HFEW.out HRUN.out (own_weaken HO9 (Nat.le_trans (Nat.le_succ _) (Nat.le_of_lt HZ3.out))) HB9 (by rw [if_neg (Nat.lt_irrefl _), if_neg (by rw [HC.out]; decide)]) rfl (.inl rfl)
      | true =>
        have HC := Lib.hid hc
        clear hc
        go_wp2_with (at_builtin; go_must (refine print_append_row (w0 := w3) w3.heap.size rfl (.tmp 28) (.tmp 29) 24 56 .u32 4 rfl Tryz.underlying24 infoU (by omega) (.slice none 0 0) [] os A3 os.length c3 rfl rfl (own_nil _ _ _ _) HO3.out (Below.refl _ _) (Nat.le_refl _) (by simp only [List.length_nil]; omega) ?_); intro v4 w4 ho4 hb4 hg4 hat4; rw [List.nil_append] at ho4; have HO4 := Lib.hid ho4; have HB4 := Lib.hid hb4; clear ho4 hb4 hg4 hat4)
        have HD4 := Lib.hid (HD3.out.stp (HD3.out.dec.below HB4.out) rfl ((Stp.refl _ _ _).below HB4.out))
        have HR4 := Lib.hid (blk_below HR3.out HB4.out)
        have HB04 := Lib.hid (HB3.out.trans (HB4.out.mono (Nat.le_trans (Nat.le_succ _) (Nat.le_of_lt HZ3.out))))
        clear HD3 HR3
        refine (dend_cut HC.out HD4.out).mono ?_
        rintro en w5 ⟨rfl, hd5, hs5⟩
        have hk5 := hs5.nil
        have HD5 := Lib.hid hd5
        have HR5 := Lib.hid (hk5.blk HR4.out (fun h => by rcases h with h | h <;> omega))
        have HB05 := Lib.hid (HB04.out.trans (hk5.below (B := w.heap.size) HB04.out.size (fun k hk => by rcases hk with h | h <;> omega)))
        have HO5 := Lib.hid (hk5.own HO4.out (fun k hk h0 => by have := own_base HO4.out k hk; have := HZ3.out; have := HZ4.out; rcases h0 with h | h <;> omega))
        clear hd5 hs5 hk5
        go_wp2_with fail
        go_loopw [8, 11] (fun o _ wr => o = v4 ∧ wr = w5) (fun _ _ _ => 0)
        case atStart => exact ⟨rfl, rfl⟩
        case round =>
          obtain ⟨rfl, rfl⟩ := hrel
          go_wp2_with fail
          refine (dec_done_over (e := 4) (d := false) rfl HD5.out.dec).mono ?_
          rintro en w6 ⟨rfl, rfl⟩
          go_wp2_with fail
          refine (dec_fail HD5.out.dec).mono ?_
          rintro en w8 ⟨rfl, hb8⟩
          have HR8 := Lib.hid (blk_below HR5.out hb8)
          have HB8 := Lib.hid (HB05.out.trans (hb8.mono HB05.out.size))
          have HO8 := Lib.hid ((Kp.of_below hb8 : Kp (fun _ => False) _ w8).own HO5.out (fun _ _ h => h))
          clear hb8
          have q0 : w8.cell? ⟨w.heap.size, 0, none⟩ = some (.int .i64 0) := blk_cell HR8.out 0
          have q1 : w8.cell? ⟨w.heap.size, 1, none⟩ = some (.int .i64 0) := blk_cell HR8.out 1
          have r0 : w8.frozen? ⟨w.heap.size, 0, none⟩ = false := blk_frozen HR8.out 0
          have r1 : w8.frozen? ⟨w.heap.size, 1, none⟩ = false := blk_frozen HR8.out 1
          go_wp2_with fail
          have HR8b : (w8.setCell ⟨w.heap.size, 0, none⟩ (.int .i64 4)).heap[w.heap.size]? = some (.cells #[.int .i64 4, .int .i64 0] 27 (0, 0)) := (blk_set HR8.out 0 _).trans rfl
          have HR9 : ((w8.setCell ⟨w.heap.size, 0, none⟩ (.int .i64 4)).setCell ⟨w.heap.size, 1, none⟩ (.int .i64 (t.size : Int))).heap[w.heap.size]? = some (.cells #[.int .i64 4, .int .i64 (t.size : Int)] 27 (0, 0)) := (blk_set HR8b 1 _).trans rfl
          have hk9 : Kp (fun k => k = w.heap.size) w8 ((w8.setCell ⟨w.heap.size, 0, none⟩ (.int .i64 4)).setCell ⟨w.heap.size, 1, none⟩ (.int .i64 (t.size : Int))) := ((Kp.refl _ _).setg _ _).setg _ _
          have HB9 := HB8.out.trans (hk9.below (B := w.heap.size) HB8.out.size (fun k hk => Nat.le_of_eq hk.symm))
          have HO9 := hk9.own HO8.out (fun k hk h0 => by have := own_base HO8.out k hk; have := HZ3.out; omega)
          (try simp only [Exit.inBlock, Exit.then])
          refine bodyPost_ret (results_tc rfl _ _ w.heap.size 27 #[.int .i64 4, .int .i64 (t.size : Int)] (0, 0) _ rfl HR9 Tryz.underlying27 rfl (by kernel_rfl)) rfl ?_
          exact decode_end (s := s) (m := t.size) HM.out HFEW.out HRUN.out (own_weaken HO9 (Nat.le_trans (Nat.le_succ _) (Nat.le_of_lt HZ3.out))) HB9 (by rw [if_neg (Nat.lt_irrefl _), if_pos HC.out]) rfl (.inl rfl)
    · rw [Int.zero_add] at hd3
      have HD3 := Lib.hid hd3
      have HLT := Lib.hid hlt
      have HN := Lib.hid hn
      have hE : (t.extract m t.size).toList.isEmpty = false := by rw [isEmpty_size, ByteArray.size_extract, decide_eq_false]; omega
      have hmm : ((m : Int) < 0) = False := by simp
      clear hd3 hlt hn
      go_wp2_with (at_builtin; go_must (refine print_append_row (w0 := w3) w3.heap.size rfl (.tmp 28) (.tmp 29) 24 56 .u32 4 rfl Tryz.underlying24 infoU (by omega) (.slice none 0 0) [] os A3 os.length c3 rfl rfl (own_nil _ _ _ _) HO3.out (Below.refl _ _) (Nat.le_refl _) (by simp only [List.length_nil]; omega) ?_); intro v4 w4 ho4 hb4 hg4 hat4; rw [List.nil_append] at ho4; have HO4 := Lib.hid ho4; have HB4 := Lib.hid hb4; clear ho4 hb4 hg4 hat4)
      have HD4 := Lib.hid (HD3.out.stp (HD3.out.dec.below HB4.out) rfl ((Stp.refl _ _ _).below HB4.out))
      have HR4 := Lib.hid (blk_below HR3.out HB4.out)
      have HB04 := Lib.hid (HB3.out.trans (HB4.out.mono (Nat.le_trans (Nat.le_succ _) (Nat.le_of_lt HZ3.out))))
      clear HD3 HR3
      refine (dec_fail HD4.out.dec).mono ?_
      rintro en w4f ⟨rfl, hb4f⟩
      have HDF := Lib.hid (HD4.out.stp (HD4.out.dec.below hb4f) rfl ((Stp.refl _ _ _).below hb4f))
      have HRF := Lib.hid (blk_below HR4.out hb4f)
      have HB0F := Lib.hid (HB04.out.trans (hb4f.mono HB04.out.size))
      have HOF := Lib.hid ((Kp.of_below hb4f : Kp (fun _ => False) w4 w4f).own HO4.out (fun _ _ h => h))
      clear hb4f
      go_wp2_with fail
      refine (dend_err (e := 3) rfl HDF.out).mono ?_
      rintro en w5 ⟨rfl, rfl⟩
      have HD5 := HDF
      have HR5 := HRF
      have HB05 := HB0F
      have HO5 := HOF
      go_wp2_with fail
      go_loopw [8, 11] (fun o _ wr => o = v4 ∧ wr = w4f) (fun _ _ _ => 0)
      case atStart => exact ⟨rfl, rfl⟩
      case round =>
        obtain ⟨rfl, rfl⟩ := hrel
        go_wp2_with fail
        refine (dec_done_over (e := 3) (d := false) rfl HD5.out.dec).mono ?_
        rintro en w6 ⟨rfl, rfl⟩
        go_wp2_with fail
        refine (dec_fail HD5.out.dec).mono ?_
        rintro en w8 ⟨rfl, hb8⟩
        have HR8 := Lib.hid (blk_below HR5.out hb8)
        have HB8 := Lib.hid (HB05.out.trans (hb8.mono HB05.out.size))
        have HO8 := Lib.hid ((Kp.of_below hb8 : Kp (fun _ => False) _ w8).own HO5.out (fun _ _ h => h))
        clear hb8
        have q0 : w8.cell? ⟨w.heap.size, 0, none⟩ = some (.int .i64 0) := blk_cell HR8.out 0
        have q1 : w8.cell? ⟨w.heap.size, 1, none⟩ = some (.int .i64 0) := blk_cell HR8.out 1
        have r0 : w8.frozen? ⟨w.heap.size, 0, none⟩ = false := blk_frozen HR8.out 0
        have r1 : w8.frozen? ⟨w.heap.size, 1, none⟩ = false := blk_frozen HR8.out 1
        go_wp2_with fail
        have HR8b : (w8.setCell ⟨w.heap.size, 0, none⟩ (.int .i64 3)).heap[w.heap.size]? = some (.cells #[.int .i64 3, .int .i64 0] 27 (0, 0)) := (blk_set HR8.out 0 _).trans rfl
        have HR9 : ((w8.setCell ⟨w.heap.size, 0, none⟩ (.int .i64 3)).setCell ⟨w.heap.size, 1, none⟩ (.int .i64 (m : Int))).heap[w.heap.size]? = some (.cells #[.int .i64 3, .int .i64 (m : Int)] 27 (0, 0)) := (blk_set HR8b 1 _).trans rfl
        have hk9 : Kp (fun k => k = w.heap.size) w8 ((w8.setCell ⟨w.heap.size, 0, none⟩ (.int .i64 3)).setCell ⟨w.heap.size, 1, none⟩ (.int .i64 (m : Int))) := ((Kp.refl _ _).setg _ _).setg _ _
        have HB9 := HB8.out.trans (hk9.below (B := w.heap.size) HB8.out.size (fun k hk => Nat.le_of_eq hk.symm))
        have HO9 := hk9.own HO8.out (fun k hk h0 => by have := own_base HO8.out k hk; have := HZ3.out; omega)
        (try simp only [Exit.inBlock, Exit.then])
        refine bodyPost_ret (results_tc rfl _ _ w.heap.size 27 #[.int .i64 3, .int .i64 (m : Int)] (0, 0) _ rfl HR9 Tryz.underlying27 rfl (by kernel_rfl)) rfl ?_
        exact decode_end (s := s) (m := m) HM.out HFEW.out HRUN.out (own_weaken HO9 (Nat.le_trans (Nat.le_succ _) (Nat.le_of_lt HZ3.out))) HB9 (by rw [if_pos HLT.out]) rfl (.inr ⟨HLT.out, HN.out⟩)
end Go.Proofs.YtcgoofefiiihnaaGreat.S
