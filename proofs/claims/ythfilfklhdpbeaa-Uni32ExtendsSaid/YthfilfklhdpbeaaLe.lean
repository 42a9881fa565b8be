/- UTF-32: the reference's First and Bytes, as contracts. -/
import Derived.Test.YthfilfklhdpbeaaLc
namespace Go.Proofs.Ythfilfklhdpbeaa
open Go.RowKit Go.Proofs.YthfilfklhdpbeaaW.PrintWords Go.Proofs.YthfilfklhdpbeaaW.PrintMore
set_option linter.unusedVariables false
set_option linter.unusedSimpArgs false
theorem isF2_at (c : Int) : PUni32Writes.pilcrowref01_Is.f c = some (isB c) := by
  unfold PUni32Writes.pilcrowref01_Is.f isB
  (repeat' split) <;> congr 1 <;> (rw [Bool.eq_iff_iff]; simp; omega)
theorem first_loop (ls : List Int) (hz : ls.length ≤ 1000000) (m : Nat) (hm : m ≤ ls.length) (hall : ∀ c ∈ ls.take m, isB c = true) (hend : m = ls.length ∨ isB (ls.getD m 0) = false) (d : Nat) :
    ∀ (i fuel : Nat), m - i = d → i ≤ m → d + 1 ≤ fuel → PUni32Writes.pilcrowref01_First.l0 fuel ls (i : Int) = some (if m < ls.length then (m : Int) else -1) := by
  induction d with
  | zero =>
    intro i fuel hd hi hf
    obtain ⟨fuel, rfl⟩ : ∃ q, fuel = q + 1 := ⟨fuel - 1, by omega⟩
    obtain rfl : i = m := by omega
    rw [PUni32Writes.pilcrowref01_First.l0]
    by_cases h1 : i < ls.length
    · rw [if_pos (by omega), if_pos (by omega), if_pos h1, isF2_at, rd_nat, Option.bind_some]
      rcases hend with h2 | h2
      · omega
      · rw [h2]; rfl
    · rw [if_neg (by omega), if_neg h1]
  | succ d ih =>
    intro i fuel hd hi hf
    obtain ⟨fuel, rfl⟩ : ∃ q, fuel = q + 1 := ⟨fuel - 1, by omega⟩
    have h1 : isB (ls.getD i 0) = true := by
      refine hall _ ?_
      rw [List.getD_eq_getElem?_getD, List.getElem?_eq_getElem (by omega)]
      exact List.mem_take_iff_getElem.2 ⟨i, by omega, rfl⟩
    rw [PUni32Writes.pilcrowref01_First.l0, if_pos (by omega), if_pos (by omega), isF2_at, rd_nat, Option.bind_some, h1, if_pos rfl, w64 (by omega) (by omega), show (i : Int) + 1 = ((i + 1 : Nat) : Int) by omega]
    exact ih (i + 1) fuel (by omega) (by omega) (by omega)
theorem first_any {w : World} {A0 : Option Addr} {n0 c0 : Nat} {ls : List Int} (h0 : ReadsInt w .u32 A0 n0 ls) (hc0 : n0 ≤ c0) (hz : n0 ≤ 1000000) (m : Nat) (hm : m ≤ ls.length) (hall : ∀ c ∈ ls.take m, isB c = true) (hend : m = ls.length ∨ isB (ls.getD m 0) = false) :
    Calls Try.prog 22 #[.slice A0 n0 c0] w fun e w' => e = .returned (.int .i64 (if m < ls.length then (m : Int) else -1)) ∧ ∃ n, w' = w.drewN n := by
  obtain rfl : ls.length = n0 := h0.1
  exact (PUni32Writes.pilcrowref01_First.calls _ A0 c0 ls _ w (Kd.C_of_reads (d := 0) h0) hc0 (first_loop ls hz m hm hall hend _ 0 _ rfl (Nat.zero_le _) (Nat.le_refl _))).mono fun e w' ⟨he, hd⟩ => ⟨he, hd.out⟩
/-- The four bytes of a number. -/
def rby (big : Bool) (c : Int) : List Int := if big then [c / 16777216 % 256, c / 65536 % 256, c / 256 % 256, c % 256] else [c % 256, c / 256 % 256, c / 65536 % 256, c / 16777216 % 256]
theorem rby_range (big : Bool) (c : Int) : ∀ x ∈ rby big c, 0 ≤ x ∧ x ≤ 255 := by
  intro x hx
  unfold rby at hx
  cases big <;> simp at hx <;> omega
theorem rby_eby (big : Bool) (c : Int) (h0 : 0 ≤ c) (h : isB c = true) : rby big c = (eby ⟨big⟩ c).1 := by
  have := isB_range h
  unfold rby eby
  cases big <;> simp <;> omega
theorem rby_len (big : Bool) (c : Int) : (rby big c).length = 4 := by unfold rby; cases big <;> rfl
theorem bytes_loop (ls : List Int) (big : Bool) (hz : ls.length ≤ 1000000) (hwf : ∀ k, 0 ≤ ls.getD k 0 ∧ ls.getD k 0 ≤ 4294967295) (d : Nat) :
    ∀ (i fuel : Nat) (acc : List Int), ls.length - i = d → i ≤ ls.length → d + 1 ≤ fuel → acc.length ≤ 4 * i → PUni32Writes.pilcrowref05_Bytes.l0 fuel ls big acc (i : Int) = some (strOfNums (acc ++ (ls.drop i).flatMap (rby big))) := by
  induction d with
  | zero =>
    intro i fuel acc hd hi hf ha
    obtain ⟨fuel, rfl⟩ : ∃ q, fuel = q + 1 := ⟨fuel - 1, by omega⟩
    obtain rfl : i = ls.length := by omega
    rw [PUni32Writes.pilcrowref05_Bytes.l0, if_neg (by omega), List.drop_length]
    simp
  | succ d ih =>
    intro i fuel acc hd hi hf ha
    obtain ⟨fuel, rfl⟩ : ∃ q, fuel = q + 1 := ⟨fuel - 1, by omega⟩
    have hw := hwf i
    have hdr : ls.drop i = ls.getD i 0 :: ls.drop (i + 1) := by
      rw [List.drop_eq_getElem_cons (by omega), List.getD_eq_getElem?_getD, List.getElem?_eq_getElem (by omega)]; rfl
    rw [hdr, List.flatMap_cons, ← List.append_assoc]
    rw [PUni32Writes.pilcrowref05_Bytes.l0, if_pos (by omega), if_pos (by omega), rd_nat, Option.bind_some]
    generalize ls.getD i 0 = c at *
    have h256 : (256 : Int) ∣ 4294967296 := ⟨16777216, by decide⟩
    have e0 : Int.tmod c 256 % 256 = c % 256 := by rw [Int.tmod_eq_emod_of_nonneg hw.1]; exact Int.emod_emod_of_dvd _ (Int.dvd_refl _)
    have e1 : Int.tdiv c 256 % 4294967296 % 256 = c / 256 % 256 := by rw [Int.tdiv_eq_ediv_of_nonneg hw.1]; exact Int.emod_emod_of_dvd _ h256
    have e2 : Int.tdiv c 65536 % 4294967296 % 256 = c / 65536 % 256 := by rw [Int.tdiv_eq_ediv_of_nonneg hw.1]; exact Int.emod_emod_of_dvd _ h256
    have e3 : Int.tdiv c 16777216 % 4294967296 % 256 = c / 16777216 % 256 := by rw [Int.tdiv_eq_ediv_of_nonneg hw.1]; exact Int.emod_emod_of_dvd _ h256
    rw [e0, e1, e2, e3]
    clear e0 e1 e2 e3 h256
    have hi1 : wrap64 ((i : Int) + 1) = ((i + 1 : Nat) : Int) := by rw [w64 (by omega) (by omega)]; omega
    have hlt : acc.length + 4 < 140737488355328 := by omega
    have hb := rby_len big c
    have := ih (i + 1) fuel (acc ++ rby big c) (by omega) (by omega) (by omega) (by rw [List.length_append, hb]; omega)
    cases big with
    | true => simp [rd, hi1, hlt]; simpa [rby] using this
    | false => simp [rd, hi1, hlt]; simpa [rby] using this
theorem refbytes_any {w : World} {A0 : Option Addr} {n0 c0 : Nat} {ls : List Int} (big : Bool) (h0 : ReadsInt w .u32 A0 n0 ls) (hc0 : n0 ≤ c0) (hz : n0 ≤ 1000000) (hwf : ∀ k, 0 ≤ ls.getD k 0 ∧ ls.getD k 0 ≤ 4294967295) :
    Calls Try.prog 12 #[.slice A0 n0 c0, .bool big] w fun e w' => ∃ x, e = .returned (.string x) ∧ bytesOf x = ls.flatMap (rby big) ∧ Below w.heap.size w w' := by
  obtain rfl : ls.length = n0 := h0.1
  have hl := bytes_loop ls big hz hwf _ 0 _ [] rfl (Nat.zero_le _) (Nat.le_refl _) (by simp)
  refine (PUni32Writes.pilcrowref05_Bytes.calls _ A0 c0 ls big _ w (Kd.C_of_reads (d := 0) h0) hc0 hl).mono fun e w' ⟨he, hd⟩ => ⟨_, he, ?_, hd⟩
  rw [List.nil_append, List.drop_zero, bytesOf_ofNums]
  intro x hx
  obtain ⟨c, _, hx2⟩ := List.mem_flatMap.1 hx
  exact rby_range big c x hx2
theorem erun_rby (big : Bool) : ∀ (l : List Int), (∀ c ∈ l, 0 ≤ c ∧ isB c = true) → (erun ⟨big⟩ l).1 = l.flatMap (rby big)
  | [], _ => rfl
  | c :: l, h => by
    have h1 := h c (by simp)
    rw [erun, List.flatMap_cons, rby_eby big c h1.1 h1.2]
    show (eby ⟨big⟩ c).1 ++ (erun ⟨big⟩ l).1 = _
    rw [erun_rby big l (fun c hc => h c (by simp [hc]))]
end Go.Proofs.Ythfilfklhdpbeaa
