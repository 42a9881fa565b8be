/- The reference's First and Bytes, as contracts. -/
import Derived.Test.YtolhfpboieimcaaLc
import Derived.Test.YtolhfpboieimcaaMb
namespace Go.Proofs.Ytolhfpboieimcaa
open Go.RowKit Go.Proofs.YtolhfpboieimcaaW.PrintWords Go.Proofs.YtolhfpboieimcaaW.PrintMore
set_option linter.unusedVariables false
set_option linter.unusedSimpArgs false
theorem isF2_at (c : Int) : PMod8Writes.pilcrowref01_Is.f c = some (isB c) := by
  unfold PMod8Writes.pilcrowref01_Is.f isB
  (repeat' split) <;> congr 1 <;> (rw [Bool.eq_iff_iff]; simp; omega)
theorem first_loop (ls : List Int) (hz : ls.length ≤ 1000000) (m : Nat) (hm : m ≤ ls.length) (hall : ∀ c ∈ ls.take m, isB c = true) (hend : m = ls.length ∨ isB (ls.getD m 0) = false) (d : Nat) :
    ∀ (i fuel : Nat), m - i = d → i ≤ m → d + 1 ≤ fuel → PMod8Writes.pilcrowref01_First.l0 fuel ls (i : Int) = some (if m < ls.length then (m : Int) else -1) := by
  induction d with
  | zero =>
    intro i fuel hd hi hf
    obtain ⟨fuel, rfl⟩ : ∃ q, fuel = q + 1 := ⟨fuel - 1, by omega⟩
    obtain rfl : i = m := by omega
    rw [PMod8Writes.pilcrowref01_First.l0]
    by_cases h1 : i < ls.length
    · rw [if_pos (by omega), if_pos (by omega), if_pos h1, isF2_at, rd_nat, Option.bind_some]
      rcases hend with h2 | h2
      · omega
      · rw [h2]; rfl
    · rw [if_neg (by omega), if_neg h1]
  | succ d ih =>
    intro i fuel hd hi hf
    obtain ⟨fuel, rfl⟩ : ∃ q, fuel = q + 1 := ⟨fuel - 1, by omega⟩
    have h1 : isB (ls.getD i 0) = true := by
      refine hall _ ?_
      rw [List.getD_eq_getElem?_getD, List.getElem?_eq_getElem (by omega)]
      exact List.mem_take_iff_getElem.2 ⟨i, by omega, rfl⟩
    rw [PMod8Writes.pilcrowref01_First.l0, if_pos (by omega), if_pos (by omega), isF2_at, rd_nat, Option.bind_some, h1, if_pos rfl, w64 (by omega) (by omega), show (i : Int) + 1 = ((i + 1 : Nat) : Int) by omega]
    exact ih (i + 1) fuel (by omega) (by omega) (by omega)
theorem first_any {w : World} {A0 : Option Addr} {n0 c0 : Nat} {ls : List Int} (h0 : ReadsInt w .u32 A0 n0 ls) (hc0 : n0 ≤ c0) (hz : n0 ≤ 1000000) (m : Nat) (hm : m ≤ ls.length) (hall : ∀ c ∈ ls.take m, isB c = true) (hend : m = ls.length ∨ isB (ls.getD m 0) = false) :
    Calls Try.prog 11 #[.slice A0 n0 c0] w fun e w' => e = .returned (.int .i64 (if m < ls.length then (m : Int) else -1)) ∧ ∃ n, w' = w.drewN n := by
  obtain rfl : ls.length = n0 := h0.1
  exact (PMod8Writes.pilcrowref01_First.calls _ A0 c0 ls _ w (Kd.C_of_reads (d := 0) h0) hc0 (first_loop ls hz m hm hall hend _ 0 _ rfl (Nat.zero_le _) (Nat.le_refl _))).mono fun e w' ⟨he, hd⟩ => ⟨he, hd.out⟩
/-- A scalar's bytes, by the reference. -/
theorem one_at (k : Nat) (c : Int) (h0 : 0 ≤ c) (hc : isB c = true) : PMod8Extends.pilcrowref06_One.f (k + 9) c = some (strOfNums (rby c)) := by
  have hr := isB_range hc
  have hm : ∀ a : Int, 0 ≤ a → Int.tmod a 32 = a % 32 := fun a ha => Int.tmod_eq_emod_of_nonneg ha
  have hd : ∀ a : Int, 0 ≤ a → Int.tdiv a 32 = a / 32 := fun a ha => Int.tdiv_eq_ediv_of_nonneg ha
  have step : ∀ (q : Nat) (a n i : Int) (l : List Int), 0 ≤ a → a ≤ 1114111 → 0 ≤ i → i < n → n ≤ 5 → l.length ≤ 5 → PMod8Extends.pilcrowref06_One.l0 (q + 1) a n l i = PMod8Extends.pilcrowref06_One.l0 q (a / 32) n ((160 + a % 32) :: l) (i + 1) := by
    intro q a n i l ha0 ha1 hi hin hn hl
    rw [PMod8Extends.pilcrowref06_One.l0, if_pos hin, Option.bind_some, if_pos (by simp; omega), hm a ha0, hd a ha0, w64 (x := i + 1) (by omega) (by omega), show a / 32 % 4294967296 = a / 32 by omega, show (160 + a % 32) % 4294967296 % 256 = 160 + a % 32 by omega]
    rfl
  have fin : ∀ (q : Nat) (a n v : Int) (l : List Int), rd ([0, 0, 192, 224, 240, 248] : List Int) n = v → 0 ≤ n → n < 6 → 0 ≤ a → 0 ≤ v → v + a ≤ 255 → l.length ≤ 5 → PMod8Extends.pilcrowref06_One.l0 (q + 1) a n l n = some (strOfNums ((v + a) :: l)) := by
    intro q a n v l hv h0 h1 ha hv0 hva hl
    rw [PMod8Extends.pilcrowref06_One.l0, if_neg (by omega), Option.bind_some, if_pos h0, if_pos (by show n < 6; exact h1), Option.bind_some, if_pos (by simp; omega), hv, show (v + a) % 4294967296 % 256 = v + a by omega]
    rfl
  rw [PMod8Extends.pilcrowref06_One.f, size_at, Option.bind_some]
  by_cases c1 : c < 160
  · rw [size1 c1, if_pos rfl, rby1 c1, show c % 256 = c by omega]
  by_cases c2 : c < 1024
  · rw [size2 (by omega) (by omega), if_neg (by decide), rby2 (by omega) (by omega)]
    rw [step _ _ _ _ _ (by omega) (by omega) (by decide) (by decide) (by decide) (by simp)]
    refine (fin _ _ 2 192 _ rfl (by decide) (by decide) (by omega) (by decide) (by omega) (by simp)).trans ?_
    rfl
  by_cases c3 : c < 16384
  · rw [size3 (by omega) (by omega), if_neg (by decide), rby3 (by omega) (by omega)]
    rw [step _ _ _ _ _ (by omega) (by omega) (by decide) (by decide) (by decide) (by simp)]
    rw [step _ _ _ _ _ (by omega) (by omega) (by decide) (by decide) (by decide) (by simp)]
    refine (fin _ _ 3 224 _ rfl (by decide) (by decide) (by omega) (by decide) (by omega) (by simp)).trans ?_
    rw [show c / 32 / 32 = c / 1024 by omega]
  by_cases c4 : c < 262144
  · rw [size4 (by omega) (by omega), if_neg (by decide), rby4 (by omega) (by omega)]
    rw [step _ _ _ _ _ (by omega) (by omega) (by decide) (by decide) (by decide) (by simp)]
    rw [step _ _ _ _ _ (by omega) (by omega) (by decide) (by decide) (by decide) (by simp)]
    rw [step _ _ _ _ _ (by omega) (by omega) (by decide) (by decide) (by decide) (by simp)]
    refine (fin _ _ 4 240 _ rfl (by decide) (by decide) (by omega) (by decide) (by omega) (by simp)).trans ?_
    rw [show c / 32 / 32 / 32 = c / 32768 by omega, show c / 32 / 32 = c / 1024 by omega]
  · rw [size5 (by omega), if_neg (by decide), rby5 (by omega)]
    rw [step _ _ _ _ _ (by omega) (by omega) (by decide) (by decide) (by decide) (by simp)]
    rw [step _ _ _ _ _ (by omega) (by omega) (by decide) (by decide) (by decide) (by simp)]
    rw [step _ _ _ _ _ (by omega) (by omega) (by decide) (by decide) (by decide) (by simp)]
    rw [step _ _ _ _ _ (by omega) (by omega) (by decide) (by decide) (by decide) (by simp)]
    refine (fin _ _ 5 248 _ rfl (by decide) (by decide) (by omega) (by decide) (by omega) (by simp)).trans ?_
    rw [show c / 32 / 32 / 32 / 32 = c / 1048576 by omega, show c / 32 / 32 / 32 = c / 32768 by omega, show c / 32 / 32 = c / 1024 by omega]
theorem rby_size (c : Int) : (strOfNums (rby c)).size = (rby c).length := by rw [strOfNums_size]
theorem ofNums_append' (xs ys : List Int) : strOfNums (xs ++ ys) = strOfNums xs ++ strOfNums ys := by
  apply ByteArray.ext
  simp [strOfNums, ByteArray.data_append]
theorem bytes_loop (ls : List Int) (hz : ls.length ≤ 1000000) (hwf : ∀ k, 0 ≤ ls.getD k 0 ∧ ls.getD k 0 ≤ 4294967295) (hsc : ∀ c ∈ ls, isB c = true) (d : Nat) :
    ∀ (i fuel : Nat) (acc : List Int), ls.length - i = d → i ≤ ls.length → d + 10 ≤ fuel → acc.length ≤ 5 * i → PMod8Extends.pilcrowref06_Bytes.l0 fuel ls (strOfNums acc) (i : Int) = some (strOfNums (acc ++ (ls.drop i).flatMap rby)) := by
  induction d with
  | zero =>
    intro i fuel acc hd hi hf ha
    obtain ⟨fuel, rfl⟩ : ∃ q, fuel = q + 1 := ⟨fuel - 1, by omega⟩
    obtain rfl : i = ls.length := by omega
    rw [PMod8Extends.pilcrowref06_Bytes.l0, if_neg (by omega), List.drop_length]
    simp
  | succ d ih =>
    intro i fuel acc hd hi hf ha
    have hw := hwf i
    have hs : isB (ls.getD i 0) = true := by
      refine hsc _ ?_
      rw [List.getD_eq_getElem?_getD, List.getElem?_eq_getElem (by omega)]
      exact List.getElem_mem _
    have hdr : ls.drop i = ls.getD i 0 :: ls.drop (i + 1) := by
      rw [List.drop_eq_getElem_cons (by omega), List.getD_eq_getElem?_getD, List.getElem?_eq_getElem (by omega)]; rfl
    obtain ⟨fuel, rfl⟩ : ∃ q, fuel = q + 10 := ⟨fuel - 10, by omega⟩
    have hi1 : wrap64 ((i : Int) + 1) = ((i + 1 : Nat) : Int) := by rw [w64 (by omega) (by omega)]; omega
    have hb := rby_len (ls.getD i 0)
    rw [hdr, List.flatMap_cons, ← List.append_assoc]
    rw [PMod8Extends.pilcrowref06_Bytes.l0, if_pos (by omega), if_pos (by omega), rd_nat, one_at fuel _ hw.1 hs, Option.bind_some, if_pos (by rw [strOfNums_size, strOfNums_size]; omega), ← ofNums_append', hi1]
    exact ih (i + 1) (fuel + 9) _ (by omega) (by omega) (by omega) (by rw [List.length_append]; omega)
theorem refbytes_any {w : World} {A0 : Option Addr} {n0 c0 : Nat} {ls : List Int} (h0 : ReadsInt w .u32 A0 n0 ls) (hc0 : n0 ≤ c0) (hz : n0 ≤ 1000000) (hwf : ∀ k, 0 ≤ ls.getD k 0 ∧ ls.getD k 0 ≤ 4294967295) (hsc : ∀ c ∈ ls, isB c = true) :
    Calls Try.prog 22 #[.slice A0 n0 c0] w fun e w' => ∃ x, e = .returned (.string x) ∧ bytesOf x = txt ls ∧ Below w.heap.size w w' := by
  obtain rfl : ls.length = n0 := h0.1
  have hl := bytes_loop ls hz hwf hsc _ 0 _ [] rfl (Nat.zero_le _) (Nat.le_refl _) (by simp)
  refine (PMod8Extends.pilcrowref06_Bytes.calls _ A0 c0 ls _ w (Kd.C_of_reads (d := 0) h0) hc0 hl).mono fun e w' ⟨he, hd⟩ => ⟨_, he, ?_, hd⟩
  rw [List.nil_append, List.drop_zero, bytesOf_ofNums]
  intro x hx
  obtain ⟨c, hc, hx2⟩ := List.mem_flatMap.1 hx
  refine rby_range c ?_ (hsc c hc) x hx2
  obtain ⟨k, hk, rfl⟩ := List.mem_iff_getElem.1 hc
  have := hwf k
  rw [List.getD_eq_getElem?_getD, List.getElem?_eq_getElem hk] at this
  exact this.1
theorem erun_txt : ∀ (l : List Int), (∀ c ∈ l, 0 ≤ c ∧ isB c = true) → (erun es0 l).1 = txt l
  | [], _ => rfl
  | c :: l, h => by
    rw [erun]
    show rby c ++ (erun es0 l).1 = (c :: l).flatMap rby
    rw [erun_txt l (fun c hc => h c (by simp [hc])), List.flatMap_cons]
end Go.Proofs.Ytolhfpboieimcaa
