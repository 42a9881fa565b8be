/- UTF-16: what the bytes since the last scalar say of the machine. -/
import Derived.Test.YtjddbdhpdenaeaaCa
namespace Go.Proofs.Ytjddbdhpdenaeaa
open Go.RowKit Go.Proofs.YtjddbdhpdenaeaaW.PrintWords Go.Proofs.YtjddbdhpdenaeaaW.PrintMore
set_option linter.unusedVariables false
set_option linter.unusedSimpArgs false
def isHigh (u : Int) : Bool := decide (55296 ≤ u) && decide (u < 56320)
/-- Do these bytes begin a scalar's; are they all of them? -/
def begF (big : Bool) : List Int → Bool × Bool
  | [x] => (!(big && isLow (x * 256)), false)
  | [x, y] => (!isLow (unitB big x y), !isLow (unitB big x y) && !isHigh (unitB big x y))
  | [x, y, z] => (!big || isLow (z * 256), false)
  | [x, y, z, v] => (isLow (unitB big z v), isLow (unitB big z v))
  | _ => (false, false)
/-- The scalar that they are. -/
def valF (big : Bool) : List Int → Int
  | [x, y] => unitB big x y
  | [x, y, z, v] => pairB (unitB big x y) (unitB big z v)
  | _ => 0
/-- The machine, after these bytes of a scalar. -/
def Sim (big : Bool) (s : CS) : List Int → Prop
  | [] => s.big = big ∧ s.half = false ∧ s.up = 0
  | [x] => s.big = big ∧ s.half = true ∧ s.b0 = x ∧ s.up = 0
  | [x, y] => s.big = big ∧ s.half = false ∧ s.up = unitB big x y ∧ 55296 ≤ s.up ∧ s.up < 56320
  | [x, y, z] => s.big = big ∧ s.half = true ∧ s.b0 = z ∧ s.up = unitB big x y ∧ 55296 ≤ s.up ∧ s.up < 56320
  | _ => False
theorem fits_0 (u : Int) : fitsU 0 u = !isLow u := by unfold fitsU; cases isLow u <;> rfl
theorem fits_up {up : Int} (h : 55296 ≤ up) (u : Int) : fitsU up u = isLow u := by
  have h1 : (up != 0) = true := by simp; omega
  unfold fitsU
  rw [h1]
  cases isLow u <;> rfl
/-- One byte more. -/
theorem sim_step {big : Bool} {s : CS} {q : List Int} {b : Int} (h : Sim big s q) (h0 : 0 ≤ b) (h1 : b ≤ 255) :
    (begF big (q ++ [b])).1 = false ∧ cnx s b = none ∨
    (begF big (q ++ [b])).1 = true ∧ (begF big (q ++ [b])).2 = false ∧ (∃ s', cnx s b = some (s', none) ∧ Sim big s' (q ++ [b])) ∨
    (begF big (q ++ [b])).1 = true ∧ (begF big (q ++ [b])).2 = true ∧ (∃ s', cnx s b = some (s', some (valF big (q ++ [b]))) ∧ Sim big s' []) := by
  have hbm : b % 256 = b := by omega
  obtain ⟨sb, half, b0, up⟩ := s
  match q, h with
  | [], h =>
    obtain ⟨rfl, rfl, rfl⟩ : sb = big ∧ half = false ∧ up = 0 := h
    show (begF sb [b]).1 = false ∧ _ ∨ _
    cases hc : (sb && isLow (b * 256)) with
    | true =>
      refine .inl ⟨by simp [begF, hc], ?_⟩
      simp only [Bool.and_eq_true] at hc
      simp [cnx, fits_0, hc.1, hc.2]
    | false =>
      refine .inr (.inl ⟨by simp [begF, hc], rfl, ⟨sb, true, b, 0⟩, ?_, rfl, rfl, rfl, rfl⟩)
      unfold cnx
      simp only [if_true, fits_0, Bool.not_not, hc, Bool.false_eq_true, if_false, hbm]
  | [x], h =>
    obtain ⟨rfl, rfl, rfl, rfl⟩ : sb = big ∧ half = true ∧ b0 = x ∧ up = 0 := h
    show (begF sb [b0, b]).1 = false ∧ _ ∨ _
    unfold cnx
    simp only [fits_0, Bool.true_eq_false, if_false, begF]
    cases hl : isLow (unitB sb b0 b) with
    | true => exact .inl ⟨by simp [hl], by simp⟩
    | false =>
      by_cases hr : 55296 ≤ unitB sb b0 b ∧ unitB sb b0 b < 56320
      · have hh : isHigh (unitB sb b0 b) = true := by simp [isHigh, hr.1, hr.2]
        refine .inr (.inl ⟨by simp [hl], by simp [hl, hh], ⟨sb, false, b0, unitB sb b0 b⟩, by simp [hr], rfl, rfl, rfl, hr.1, hr.2⟩)
      · have hh : isHigh (unitB sb b0 b) = false := by
          unfold isHigh
          simp only [Bool.and_eq_false_iff, decide_eq_false_iff_not]
          omega
        refine .inr (.inr ⟨by simp [hl], by simp [hl, hh], ⟨sb, false, b0, 0⟩, by simp [hr, valF], rfl, rfl, rfl⟩)
  | [x, y], h =>
    obtain ⟨rfl, rfl, hu, hu0, hu1⟩ : sb = big ∧ half = false ∧ up = unitB big x y ∧ 55296 ≤ up ∧ up < 56320 := h
    show (begF sb [x, y, b]).1 = false ∧ _ ∨ _
    have hf := fits_up hu0 (b * 256)
    cases hc : (!sb || isLow (b * 256)) with
    | false =>
      refine .inl ⟨by simp [begF, hc], ?_⟩
      simp only [Bool.or_eq_false_iff, Bool.not_eq_false'] at hc
      unfold cnx
      simp [hf, hc.1, hc.2]
    | true =>
      refine .inr (.inl ⟨by simp [begF, hc], rfl, ⟨sb, true, b, up⟩, ?_, rfl, rfl, rfl, hu, hu0, hu1⟩)
      unfold cnx
      have hn : (sb && !isLow (b * 256)) = false := by cases sb <;> simp_all
      simp only [if_true, hf, hn, Bool.false_eq_true, if_false, hbm]
  | [x, y, z], h =>
    obtain ⟨rfl, rfl, rfl, hu, hu0, hu1⟩ : sb = big ∧ half = true ∧ b0 = z ∧ up = unitB big x y ∧ 55296 ≤ up ∧ up < 56320 := h
    show (begF sb [x, y, b0, b]).1 = false ∧ _ ∨ _
    have hf := fits_up hu0 (unitB sb b0 b)
    have hne : up ≠ 0 := by omega
    unfold cnx
    simp only [hf, Bool.true_eq_false, if_false, begF]
    cases hl : isLow (unitB sb b0 b) with
    | false => exact .inl ⟨by simp [hl], by simp⟩
    | true =>
      refine .inr (.inr ⟨by simp [hl], by simp [hl], ⟨sb, false, b0, 0⟩, ?_, rfl, rfl, rfl⟩)
      rw [if_pos hne]
      simp [valF, hu]
end Go.Proofs.Ytjddbdhpdenaeaa
