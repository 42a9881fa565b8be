/- The reference's First and Bytes, as contracts. -/
import Derived.Test.YthodifmfamflpaaLc
namespace Go.Proofs.Ythodifmfamflpaa
open Go.RowKit Go.Proofs.YthodifmfamflpaaW.PrintWords Go.Proofs.YthodifmfamflpaaW.PrintMore
set_option linter.unusedVariables false
set_option linter.unusedSimpArgs false
theorem isF2_at (c : Int) : PBocuExtends.pilcrowref01_Is.f c = some (isB c) := by
  unfold PBocuExtends.pilcrowref01_Is.f isB
  (repeat' split) <;> congr 1 <;> (rw [Bool.eq_iff_iff]; simp; omega)
theorem first_loop (ls : List Int) (hz : ls.length ≤ 1000000) (m : Nat) (hm : m ≤ ls.length) (hall : ∀ c ∈ ls.take m, isB c = true) (hend : m = ls.length ∨ isB (ls.getD m 0) = false) (d : Nat) :
    ∀ (i fuel : Nat), m - i = d → i ≤ m → d + 1 ≤ fuel → PBocuExtends.pilcrowref01_First.l0 fuel ls (i : Int) = some (if m < ls.length then (m : Int) else -1) := by
  induction d with
  | zero =>
    intro i fuel hd hi hf
    obtain ⟨fuel, rfl⟩ : ∃ q, fuel = q + 1 := ⟨fuel - 1, by omega⟩
    obtain rfl : i = m := by omega
    rw [PBocuExtends.pilcrowref01_First.l0]
    by_cases h1 : i < ls.length
    · rw [if_pos (by omega), if_pos (by omega), if_pos h1, isF2_at, rd_nat, Option.bind_some]
      rcases hend with h2 | h2
      · omega
      · rw [h2]; rfl
    · rw [if_neg (by omega), if_neg h1]
  | succ d ih =>
    intro i fuel hd hi hf
    obtain ⟨fuel, rfl⟩ : ∃ q, fuel = q + 1 := ⟨fuel - 1, by omega⟩
    have h1 : isB (ls.getD i 0) = true := by
      refine hall _ ?_
      rw [List.getD_eq_getElem?_getD, List.getElem?_eq_getElem (by omega)]
      exact List.mem_take_iff_getElem.2 ⟨i, by omega, rfl⟩
    rw [PBocuExtends.pilcrowref01_First.l0, if_pos (by omega), if_pos (by omega), isF2_at, rd_nat, Option.bind_some, h1, if_pos rfl, w64 (by omega) (by omega), show (i : Int) + 1 = ((i + 1 : Nat) : Int) by omega]
    exact ih (i + 1) fuel (by omega) (by omega) (by omega)
theorem first_any {w : World} {A0 : Option Addr} {n0 c0 : Nat} {ls : List Int} (h0 : ReadsInt w .u32 A0 n0 ls) (hc0 : n0 ≤ c0) (hz : n0 ≤ 1000000) (m : Nat) (hm : m ≤ ls.length) (hall : ∀ c ∈ ls.take m, isB c = true) (hend : m = ls.length ∨ isB (ls.getD m 0) = false) :
    Calls Try.prog 13 #[.slice A0 n0 c0] w fun e w' => e = .returned (.int .i64 (if m < ls.length then (m : Int) else -1)) ∧ ∃ n, w' = w.drewN n := by
  obtain rfl : ls.length = n0 := h0.1
  exact (PBocuExtends.pilcrowref01_First.calls _ A0 c0 ls _ w (Kd.C_of_reads (d := 0) h0) hc0 (first_loop ls hz m hm hall hend _ 0 _ rfl (Nat.zero_le _) (Nat.le_refl _))).mono fun e w' ⟨he, hd⟩ => ⟨he, hd.out⟩
theorem ofNums_append' (xs ys : List Int) : strOfNums (xs ++ ys) = strOfNums xs ++ strOfNums ys := (ofn_append xs ys).symm
theorem erun_bytes : ∀ (l : List Int) {s : ES}, eok s → (∀ c ∈ l, 0 ≤ c ∧ isB c = true) → (∀ x ∈ (erun s l).1, 0 ≤ x ∧ x ≤ 255) ∧ l.length ≤ (erun s l).1.length ∧ (erun s l).1.length ≤ 4 * l.length
  | [], s, _, _ => by simp [erun]
  | c :: l, s, hs, h => by
    have hc := h c (by simp)
    obtain ⟨h1, h2, h3⟩ := erun_bytes l (eby_ok hs hc.1 hc.2) (fun x hx => h x (by simp [hx]))
    have h4 := eby_pos s c hs hc.1 hc.2
    have h5 := eby_len4 s c
    simp only [erun]
    rw [List.length_append, List.length_cons]
    refine ⟨fun x hx => ?_, by omega, by omega⟩
    rcases List.mem_append.1 hx with h9 | h9
    · exact eby_bytes s c hs hc.1 hc.2 x h9
    · exact h1 x h9
theorem txt_len (l : List Int) (h : ∀ c ∈ l, 0 ≤ c ∧ isB c = true) : (txt l).length ≤ 4 * l.length := (erun_bytes l eok0 h).2.2
theorem bytes_loop (ls : List Int) (hz : ls.length ≤ 1000000) (hwf : ∀ k, 0 ≤ ls.getD k 0 ∧ ls.getD k 0 ≤ 4294967295) (hsc : ∀ c ∈ ls, isB c = true) (d : Nat) :
    ∀ (i fuel : Nat) (acc : List Int) (s : ES), eok s → ls.length - i = d → i ≤ ls.length → d + 800 ≤ fuel → acc.length ≤ 4 * i → PBocuExtends.pilcrowref12_Bytes.l0 fuel ls (strOfNums acc) s.pv (i : Int) = some (strOfNums (acc ++ (erun s (ls.drop i)).1)) := by
  induction d with
  | zero =>
    intro i fuel acc s hs hd hi hf ha
    obtain ⟨fuel, rfl⟩ : ∃ q, fuel = q + 1 := ⟨fuel - 1, by omega⟩
    obtain rfl : i = ls.length := by omega
    rw [PBocuExtends.pilcrowref12_Bytes.l0, if_neg (by omega), List.drop_length]
    simp [erun]
  | succ d ih =>
    intro i fuel acc s hs hd hi hf ha
    have hw := hwf i
    have hsb : isB (ls.getD i 0) = true := by
      refine hsc _ ?_
      rw [List.getD_eq_getElem?_getD, List.getElem?_eq_getElem (by omega)]
      exact List.getElem_mem _
    have hdr : ls.drop i = ls.getD i 0 :: ls.drop (i + 1) := by
      rw [List.drop_eq_getElem_cons (by omega), List.getD_eq_getElem?_getD, List.getElem?_eq_getElem (by omega)]; rfl
    obtain ⟨fuel, rfl⟩ : ∃ q, fuel = q + 1 := ⟨fuel - 1, by omega⟩
    have hi1 : wrap64 ((i : Int) + 1) = ((i + 1 : Nat) : Int) := by rw [w64' (by omega) (by omega)]; omega
    have hcr := isB_range hsb
    have hs2 := eby_ok hs hw.1 hsb
    have hb := eby_len4 s (ls.getD i 0)
    have hpv := hs
    unfold eok at hpv
    rw [hdr]
    simp only [erun]
    rw [← List.append_assoc]
    rw [PBocuExtends.pilcrowref12_Bytes.l0, if_pos (by omega), if_pos (by omega), rd_nat]
    generalize ls.getD i 0 = c at *
    by_cases h : c ≤ 32
    · have e : eby s c = ([c], ⟨if c < 32 then 64 else s.pv⟩) := if_pos h
      rw [e] at hs2 hb ⊢
      simp only at hs2 hb ⊢
      rw [if_neg (by omega), Option.bind_some, show c % 256 = c by omega, if_pos (by rw [strOfNums_size, strOfNums_size]; simp; omega), ← ofNums_append', hi1]
      by_cases h2 : c = 32
      · rw [if_pos h2]
        rw [if_neg (by omega)] at hs2 ⊢
        exact ih (i + 1) fuel _ ⟨s.pv⟩ hs2 (by omega) (by omega) (by omega) (by rw [List.length_append, List.length_singleton]; omega)
      · rw [if_neg h2]
        rw [if_pos (by omega)] at hs2 ⊢
        exact ih (i + 1) fuel _ ⟨64⟩ hs2 (by omega) (by omega) (by omega) (by rw [List.length_append, List.length_singleton]; omega)
    · have e : eby s c = (D.packF (c - s.pv), ⟨prevF c⟩) := if_neg h
      rw [e] at hs2 hb ⊢
      simp only at hs2 hb ⊢
      obtain ⟨k7, hk7⟩ : ∃ q, fuel = q + 700 := ⟨fuel - 700, by omega⟩
      have hpk : PBocuExtends.pilcrowref11_Pack.f fuel (c - s.pv) = some (strOfNums (D.packF (c - s.pv))) := by rw [hk7]; exact rpack_any k7 _ (by omega) (by omega)
      have hpr : PBocuExtends.pilcrowref11_Prev.f fuel c = some (prevF c) := by rw [hk7, show k7 + 700 = k7 + 698 + 2 by omega]; exact rprev_any _ c (by omega) hcr
      have hpf := prevF_range (c := c) (by omega) hcr
      rw [if_pos (by omega), w64' (x := c) (by omega) (by omega), w64' (x := c - s.pv) (by omega) (by omega), hpk, Option.bind_some, if_pos (by rw [strOfNums_size, strOfNums_size]; omega), hpr, Option.bind_some, ← ofNums_append', hi1, w64' (x := prevF c) (by omega) (by omega)]
      exact ih (i + 1) fuel _ ⟨prevF c⟩ hs2 (by omega) (by omega) (by omega) (by rw [List.length_append]; omega)
theorem refbytes_any {w : World} {A0 : Option Addr} {n0 c0 : Nat} {ls : List Int} (h0 : ReadsInt w .u32 A0 n0 ls) (hc0 : n0 ≤ c0) (hz : n0 ≤ 1000000) (hwf : ∀ k, 0 ≤ ls.getD k 0 ∧ ls.getD k 0 ≤ 4294967295) (hsc : ∀ c ∈ ls, isB c = true) :
    Calls Try.prog 26 #[.slice A0 n0 c0] w fun e w' => ∃ x, e = .returned (.string x) ∧ bytesOf x = txt ls ∧ Below w.heap.size w w' := by
  obtain rfl : ls.length = n0 := h0.1
  have hl := bytes_loop ls hz hwf hsc _ 0 (ls.length + 800) [] es0 eok0 rfl (Nat.zero_le _) (by omega) (by simp)
  refine (PBocuExtends.pilcrowref12_Bytes.calls _ A0 c0 ls _ w (Kd.C_of_reads (d := 0) h0) hc0 hl).mono fun e w' ⟨he, hd⟩ => ⟨_, he, ?_, hd⟩
  rw [List.nil_append, List.drop_zero, bytesOf_ofNums]
  refine (erun_bytes ls eok0 fun c hc => ⟨?_, hsc c hc⟩).1
  obtain ⟨k, hk, rfl⟩ := List.mem_iff_getElem.1 hc
  have := hwf k
  rw [List.getD_eq_getElem?_getD, List.getElem?_eq_getElem hk] at this
  exact this.1
theorem erun_txt (l : List Int) (_ : ∀ c ∈ l, 0 ≤ c ∧ isB c = true) : (erun es0 l).1 = txt l := rfl
end Go.Proofs.Ythodifmfamflpaa
