/- UTF-16: the reference's First and Bytes, as contracts. -/
import Derived.Test.YtjddbdhpdenaeaaLc
namespace Go.Proofs.Ytjddbdhpdenaeaa
open Go.RowKit Go.Proofs.YtjddbdhpdenaeaaW.PrintWords Go.Proofs.YtjddbdhpdenaeaaW.PrintMore
set_option linter.unusedVariables false
set_option linter.unusedSimpArgs false
theorem isF2_at (c : Int) : PUni16Writes.pilcrowref01_Is.f c = some (isB c) := by
  unfold PUni16Writes.pilcrowref01_Is.f isB
  (repeat' split) <;> congr 1 <;> (rw [Bool.eq_iff_iff]; simp; omega)
theorem first_loop (ls : List Int) (hz : ls.length ≤ 1000000) (m : Nat) (hm : m ≤ ls.length) (hall : ∀ c ∈ ls.take m, isB c = true) (hend : m = ls.length ∨ isB (ls.getD m 0) = false) (d : Nat) :
    ∀ (i fuel : Nat), m - i = d → i ≤ m → d + 1 ≤ fuel → PUni16Writes.pilcrowref01_First.l0 fuel ls (i : Int) = some (if m < ls.length then (m : Int) else -1) := by
  induction d with
  | zero =>
    intro i fuel hd hi hf
    obtain ⟨fuel, rfl⟩ : ∃ q, fuel = q + 1 := ⟨fuel - 1, by omega⟩
    obtain rfl : i = m := by omega
    rw [PUni16Writes.pilcrowref01_First.l0]
    by_cases h1 : i < ls.length
    · rw [if_pos (by omega), if_pos (by omega), if_pos h1, isF2_at, rd_nat, Option.bind_some]
      rcases hend with h2 | h2
      · omega
      · rw [h2]; rfl
    · rw [if_neg (by omega), if_neg h1]
  | succ d ih =>
    intro i fuel hd hi hf
    obtain ⟨fuel, rfl⟩ : ∃ q, fuel = q + 1 := ⟨fuel - 1, by omega⟩
    have h1 : isB (ls.getD i 0) = true := by
      refine hall _ ?_
      rw [List.getD_eq_getElem?_getD, List.getElem?_eq_getElem (by omega)]
      exact List.mem_take_iff_getElem.2 ⟨i, by omega, rfl⟩
    rw [PUni16Writes.pilcrowref01_First.l0, if_pos (by omega), if_pos (by omega), isF2_at, rd_nat, Option.bind_some, h1, if_pos rfl, w64 (by omega) (by omega), show (i : Int) + 1 = ((i + 1 : Nat) : Int) by omega]
    exact ih (i + 1) fuel (by omega) (by omega) (by omega)
theorem first_any {w : World} {A0 : Option Addr} {n0 c0 : Nat} {ls : List Int} (h0 : ReadsInt w .u32 A0 n0 ls) (hc0 : n0 ≤ c0) (hz : n0 ≤ 1000000) (m : Nat) (hm : m ≤ ls.length) (hall : ∀ c ∈ ls.take m, isB c = true) (hend : m = ls.length ∨ isB (ls.getD m 0) = false) :
    Calls Try.prog 20 #[.slice A0 n0 c0] w fun e w' => e = .returned (.int .i64 (if m < ls.length then (m : Int) else -1)) ∧ ∃ n, w' = w.drewN n := by
  obtain rfl : ls.length = n0 := h0.1
  exact (PUni16Writes.pilcrowref01_First.calls _ A0 c0 ls _ w (Kd.C_of_reads (d := 0) h0) hc0 (first_loop ls hz m hm hall hend _ 0 _ rfl (Nat.zero_le _) (Nat.le_refl _))).mono fun e w' ⟨he, hd⟩ => ⟨he, hd.out⟩
/-- A scalar's bytes. -/
def rby (big : Bool) (c : Int) : List Int := if c < 65536 then ubyF big c else ubyF big (55296 + (c - 65536) / 1024) ++ ubyF big (56320 + (c - 65536) % 1024)
theorem rby_eby (big : Bool) (c : Int) : rby big c = (eby ⟨big⟩ c).1 := rfl
theorem rby_len (big : Bool) (c : Int) : (rby big c).length ≤ 4 := by unfold rby; split <;> simp [uby_len]
theorem units_at (c : Int) (h0 : 0 ≤ c) (h : isB c = true) : PUni16Writes.pilcrowref04_Units.f c = some (if c < 65536 then [c] else [55296 + (c - 65536) / 1024, 56320 + (c - 65536) % 1024]) := by
  have := isB_range h
  unfold PUni16Writes.pilcrowref04_Units.f
  split
  · rfl
  · rw [show (c - 65536) % 4294967296 = c - 65536 by omega, show (55296 + (c - 65536) / 1024) % 4294967296 = 55296 + (c - 65536) / 1024 by omega]
theorem byte_lo (u : Int) (h0 : 0 ≤ u) : Int.tmod u 256 % 256 = u % 256 := by
  rw [Int.tmod_eq_emod_of_nonneg h0]; exact Int.emod_emod_of_dvd _ (Int.dvd_refl _)
theorem byte_hi (u : Int) (h0 : 0 ≤ u) (h1 : u ≤ 65535) : Int.tdiv u 256 % 4294967296 % 256 = u / 256 := by
  rw [Int.tdiv_eq_ediv_of_nonneg h0]; omega
theorem l1_end (k : Nat) (ls : List Int) (big : Bool) (acc : List Int) (i : Int) (us : List Int) (j : Int) (hj : ¬ j < (us.length : Int)) : PUni16Writes.pilcrowref04_Bytes.l1 (k + 1) ls big acc i us j = PUni16Writes.pilcrowref04_Bytes.l0 k ls big acc (wrap64 (i + 1)) := by
  rw [PUni16Writes.pilcrowref04_Bytes.l1, if_neg hj]
theorem l1_go (k : Nat) (ls : List Int) (big : Bool) (acc : List Int) (i : Int) (us : List Int) (j : Nat) (u : Int) (hj : j < us.length) (hz : j ≤ 1000) (hu : us.getD j 0 = u) (h0 : 0 ≤ u) (h1 : u ≤ 65535) (hl : acc.length + 2 < 140737488355328) :
    PUni16Writes.pilcrowref04_Bytes.l1 (k + 1) ls big acc i us (j : Int) = PUni16Writes.pilcrowref04_Bytes.l1 k ls big (acc ++ ubyF big u) i us ((j + 1 : Nat) : Int) := by
  have hi1 : wrap64 ((j : Int) + 1) = ((j + 1 : Nat) : Int) := by rw [w64 (by omega) (by omega)]; omega
  rw [PUni16Writes.pilcrowref04_Bytes.l1, if_pos (by omega), rd_nat, hu, byte_lo u h0, byte_hi u h0 h1, hi1]
  cases big with
  | true => rw [if_pos rfl, if_pos (by omega), Option.bind_some]; exact if_pos hl
  | false => rw [if_neg (by decide), if_pos (by omega), Option.bind_some]; exact if_pos hl
theorem bytes_loop (ls : List Int) (big : Bool) (hz : ls.length ≤ 1000000) (hwf : ∀ k, 0 ≤ ls.getD k 0 ∧ ls.getD k 0 ≤ 4294967295) (hsc : ∀ c ∈ ls, isB c = true) (d : Nat) :
    ∀ (i fuel : Nat) (acc : List Int), ls.length - i = d → i ≤ ls.length → 4 * d + 1 ≤ fuel → acc.length ≤ 4 * i → PUni16Writes.pilcrowref04_Bytes.l0 fuel ls big acc (i : Int) = some (strOfNums (acc ++ (ls.drop i).flatMap (rby big))) := by
  induction d with
  | zero =>
    intro i fuel acc hd hi hf ha
    obtain ⟨fuel, rfl⟩ : ∃ q, fuel = q + 1 := ⟨fuel - 1, by omega⟩
    obtain rfl : i = ls.length := by omega
    rw [PUni16Writes.pilcrowref04_Bytes.l0, if_neg (by omega), List.drop_length]
    simp
  | succ d ih =>
    intro i fuel acc hd hi hf ha
    have hw := hwf i
    have hs : isB (ls.getD i 0) = true := by
      refine hsc _ ?_
      rw [List.getD_eq_getElem?_getD, List.getElem?_eq_getElem (by omega)]
      exact List.getElem_mem _
    have hdr : ls.drop i = ls.getD i 0 :: ls.drop (i + 1) := by
      rw [List.drop_eq_getElem_cons (by omega), List.getD_eq_getElem?_getD, List.getElem?_eq_getElem (by omega)]; rfl
    obtain ⟨fuel, rfl⟩ : ∃ q, fuel = q + 1 := ⟨fuel - 1, by omega⟩
    rw [hdr, List.flatMap_cons, ← List.append_assoc]
    rw [PUni16Writes.pilcrowref04_Bytes.l0, if_pos (by omega), if_pos (by omega), rd_nat]
    generalize ls.getD i 0 = c at *
    have hc := isB_range hs
    rw [units_at c hw.1 hs, Option.bind_some]
    have hi1 : wrap64 ((i : Int) + 1) = ((i + 1 : Nat) : Int) := by rw [w64 (by omega) (by omega)]; omega
    have hb := rby_len big c
    unfold rby at hb ⊢
    by_cases h1 : c < 65536
    · rw [if_pos h1] at hb
      rw [if_pos h1, if_pos h1]
      obtain ⟨q, rfl⟩ : ∃ q, fuel = q + 2 := ⟨fuel - 2, by omega⟩
      have g1 := l1_go (q + 1) ls big acc (i : Int) [c] 0 c (by simp) (by omega) rfl hw.1 (by omega) (by omega)
      rw [show ((0 : Nat) : Int) = 0 from rfl] at g1
      rw [g1, l1_end _ _ _ _ _ _ _ (by simp), hi1]
      exact ih (i + 1) q (acc ++ ubyF big c) (by omega) (by omega) (by omega) (by rw [List.length_append, uby_len]; omega)
    · rw [if_neg h1] at hb
      rw [if_neg h1, if_neg h1]
      obtain ⟨q, rfl⟩ : ∃ q, fuel = q + 3 := ⟨fuel - 3, by omega⟩
      have g1 := l1_go (q + 2) ls big acc (i : Int) [55296 + (c - 65536) / 1024, 56320 + (c - 65536) % 1024] 0 _ (by simp) (by omega) rfl (by show 0 ≤ 55296 + (c - 65536) / 1024; omega) (by show 55296 + (c - 65536) / 1024 ≤ 65535; omega) (by omega)
      have g2 := l1_go (q + 1) ls big (acc ++ ubyF big (55296 + (c - 65536) / 1024)) (i : Int) [55296 + (c - 65536) / 1024, 56320 + (c - 65536) % 1024] 1 _ (by simp) (by omega) rfl (by show 0 ≤ 56320 + (c - 65536) % 1024; omega) (by show 56320 + (c - 65536) % 1024 ≤ 65535; omega) (by rw [List.length_append, uby_len]; omega)
      rw [show ((0 : Nat) : Int) = 0 from rfl] at g1
      rw [g1]
      refine Eq.trans g2 ?_
      rw [l1_end _ _ _ _ _ _ _ (by simp), hi1, ← List.append_assoc]
      exact ih (i + 1) q _ (by omega) (by omega) (by omega) (by rw [List.length_append, List.length_append, uby_len, uby_len]; omega)
theorem rby_range (big : Bool) (c : Int) (h0 : 0 ≤ c) (hc : isB c = true) : ∀ x ∈ rby big c, 0 ≤ x ∧ x ≤ 255 := eby_bytes ⟨big⟩ c trivial h0 hc
theorem refbytes_any {w : World} {A0 : Option Addr} {n0 c0 : Nat} {ls : List Int} (big : Bool) (h0 : ReadsInt w .u32 A0 n0 ls) (hc0 : n0 ≤ c0) (hz : n0 ≤ 1000000) (hwf : ∀ k, 0 ≤ ls.getD k 0 ∧ ls.getD k 0 ≤ 4294967295) (hsc : ∀ c ∈ ls, isB c = true) :
    Calls Try.prog 21 #[.slice A0 n0 c0, .bool big] w fun e w' => ∃ x, e = .returned (.string x) ∧ bytesOf x = ls.flatMap (rby big) ∧ Below w.heap.size w w' := by
  obtain rfl : ls.length = n0 := h0.1
  have hl := bytes_loop ls big hz hwf hsc _ 0 _ [] rfl (Nat.zero_le _) (Nat.le_refl _) (by simp)
  refine (PUni16Writes.pilcrowref04_Bytes.calls _ A0 c0 ls big _ w (Kd.C_of_reads (d := 0) h0) hc0 hl).mono fun e w' ⟨he, hd⟩ => ⟨_, he, ?_, hd⟩
  rw [List.nil_append, List.drop_zero, bytesOf_ofNums]
  intro x hx
  obtain ⟨c, hc, hx2⟩ := List.mem_flatMap.1 hx
  refine rby_range big c ?_ (hsc c hc) x hx2
  obtain ⟨k, hk, rfl⟩ := List.mem_iff_getElem.1 hc
  have := hwf k
  rw [List.getD_eq_getElem?_getD, List.getElem?_eq_getElem hk] at this
  exact this.1
theorem erun_rby (big : Bool) : ∀ (l : List Int), (∀ c ∈ l, 0 ≤ c ∧ isB c = true) → (erun ⟨big⟩ l).1 = l.flatMap (rby big)
  | [], _ => rfl
  | c :: l, h => by
    rw [erun, List.flatMap_cons, rby_eby big c]
    show (eby ⟨big⟩ c).1 ++ (erun ⟨big⟩ l).1 = _
    rw [erun_rby big l (fun c hc => h c (by simp [hc]))]
end Go.Proofs.Ytjddbdhpdenaeaa
