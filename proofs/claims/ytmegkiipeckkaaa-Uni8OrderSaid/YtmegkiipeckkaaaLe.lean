/- The reference's First and Bytes, as contracts. -/
import Derived.Test.YtmegkiipeckkaaaLc
import Derived.Test.YtmegkiipeckkaaaMb
namespace Go.Proofs.Ytmegkiipeckkaaa
open Go.RowKit Go.Proofs.YtmegkiipeckkaaaW.PrintWords Go.Proofs.YtmegkiipeckkaaaW.PrintMore
set_option linter.unusedVariables false
set_option linter.unusedSimpArgs false
theorem isF2_at (c : Int) : PUni8Writes.pilcrowref01_Is.f c = some (isB c) := by
  unfold PUni8Writes.pilcrowref01_Is.f isB
  (repeat' split) <;> congr 1 <;> (rw [Bool.eq_iff_iff]; simp; omega)
theorem first_loop (ls : List Int) (hz : ls.length ≤ 1000000) (m : Nat) (hm : m ≤ ls.length) (hall : ∀ c ∈ ls.take m, isB c = true) (hend : m = ls.length ∨ isB (ls.getD m 0) = false) (d : Nat) :
    ∀ (i fuel : Nat), m - i = d → i ≤ m → d + 1 ≤ fuel → PUni8Writes.pilcrowref01_First.l0 fuel ls (i : Int) = some (if m < ls.length then (m : Int) else -1) := by
  induction d with
  | zero =>
    intro i fuel hd hi hf
    obtain ⟨fuel, rfl⟩ : ∃ q, fuel = q + 1 := ⟨fuel - 1, by omega⟩
    obtain rfl : i = m := by omega
    rw [PUni8Writes.pilcrowref01_First.l0]
    by_cases h1 : i < ls.length
    · rw [if_pos (by omega), if_pos (by omega), if_pos h1, isF2_at, rd_nat, Option.bind_some]
      rcases hend with h2 | h2
      · omega
      · rw [h2]; rfl
    · rw [if_neg (by omega), if_neg h1]
  | succ d ih =>
    intro i fuel hd hi hf
    obtain ⟨fuel, rfl⟩ : ∃ q, fuel = q + 1 := ⟨fuel - 1, by omega⟩
    have h1 : isB (ls.getD i 0) = true := by
      refine hall _ ?_
      rw [List.getD_eq_getElem?_getD, List.getElem?_eq_getElem (by omega)]
      exact List.mem_take_iff_getElem.2 ⟨i, by omega, rfl⟩
    rw [PUni8Writes.pilcrowref01_First.l0, if_pos (by omega), if_pos (by omega), isF2_at, rd_nat, Option.bind_some, h1, if_pos rfl, w64 (by omega) (by omega), show (i : Int) + 1 = ((i + 1 : Nat) : Int) by omega]
    exact ih (i + 1) fuel (by omega) (by omega) (by omega)
theorem first_any {w : World} {A0 : Option Addr} {n0 c0 : Nat} {ls : List Int} (h0 : ReadsInt w .u32 A0 n0 ls) (hc0 : n0 ≤ c0) (hz : n0 ≤ 1000000) (m : Nat) (hm : m ≤ ls.length) (hall : ∀ c ∈ ls.take m, isB c = true) (hend : m = ls.length ∨ isB (ls.getD m 0) = false) :
    Calls Try.prog 11 #[.slice A0 n0 c0] w fun e w' => e = .returned (.int .i64 (if m < ls.length then (m : Int) else -1)) ∧ ∃ n, w' = w.drewN n := by
  obtain rfl : ls.length = n0 := h0.1
  exact (PUni8Writes.pilcrowref01_First.calls _ A0 c0 ls _ w (Kd.C_of_reads (d := 0) h0) hc0 (first_loop ls hz m hm hall hend _ 0 _ rfl (Nat.zero_le _) (Nat.le_refl _))).mono fun e w' ⟨he, hd⟩ => ⟨he, hd.out⟩
theorem set_last (l : List Int) (i : Nat) (x : Int) (h : i < l.length) : l.set i x = l.take i ++ x :: l.drop (i + 1) := List.set_eq_take_append_cons_drop (l := l) (i := i) (a := x) |>.trans (if_pos h)
/-- A scalar's bytes, by the reference. -/
theorem one_at (k : Nat) (c : Int) (h0 : 0 ≤ c) (hc : isB c = true) : PUni8Extends.pilcrowref03_One.f (k + 9) c = some (strOfNums (rby c)) := by
  have hr := isB_range hc
  have hm : ∀ a : Int, 0 ≤ a → Int.tmod a 64 = a % 64 := fun a ha => Int.tmod_eq_emod_of_nonneg ha
  have hd : ∀ a : Int, 0 ≤ a → Int.tdiv a 64 = a / 64 := fun a ha => Int.tdiv_eq_ediv_of_nonneg ha
  have hw : ∀ a : Int, 0 ≤ a → a ≤ 100 → wrap64 (a - 1) = a - 1 := fun a h1 h2 => w64 (by omega) (by omega)
  have step : ∀ (q : Nat) (a n i : Int) (l : List Int), 0 ≤ a → a ≤ 1114111 → 0 < i → i < l.length → i ≤ 100 → PUni8Extends.pilcrowref03_One.l0 (q + 1) a n l i = PUni8Extends.pilcrowref03_One.l0 q (a / 64) n (l.set i.toNat (128 + a % 64)) (i - 1) := by
    intro q a n i l ha0 ha1 hi hil hi2
    rw [PUni8Extends.pilcrowref03_One.l0, if_pos hi, if_pos (by omega), if_pos hil, hm a ha0, hd a ha0, hw i (by omega) hi2, show a / 64 % 4294967296 = a / 64 by omega, show (128 + a % 64) % 4294967296 % 256 = 128 + a % 64 by omega]
  rw [PUni8Extends.pilcrowref03_One.f, size_at, Option.bind_some]
  by_cases c1 : c < 128
  · rw [size1 c1, if_pos rfl, rby1 c1, show c % 256 = c by omega]
  by_cases c2 : c < 2048
  · rw [size2 (by omega) (by omega), if_neg (by decide), if_pos (by decide), if_pos (by decide), hw 2 (by decide) (by decide), rby2 (by omega) (by omega)]
    show PUni8Extends.pilcrowref03_One.l0 (k + 9) c 2 [0, 0] 1 = _
    rw [step _ _ _ _ _ (by omega) (by omega) (by decide) (by decide) (by decide)]
    rw [PUni8Extends.pilcrowref03_One.l0, if_neg (by decide), if_pos rfl, if_pos (by simp; try decide), show (192 + c / 64) % 4294967296 % 256 = 192 + c / 64 by omega]
    rfl
  by_cases c3 : c < 65536
  · rw [size3 (by omega) (by omega), if_neg (by decide), if_pos (by decide), if_pos (by decide), hw 3 (by decide) (by decide), rby3 (by omega) (by omega)]
    show PUni8Extends.pilcrowref03_One.l0 (k + 9) c 3 [0, 0, 0] 2 = _
    rw [step _ _ _ _ _ (by omega) (by omega) (by decide) (by decide) (by decide)]
    show PUni8Extends.pilcrowref03_One.l0 (k + 8) (c / 64) 3 [0, 0, 128 + c % 64] 1 = _
    rw [step _ _ _ _ _ (by omega) (by omega) (by decide) (by simp; try decide) (by decide)]
    show PUni8Extends.pilcrowref03_One.l0 (k + 7) (c / 64 / 64) 3 [0, 128 + c / 64 % 64, 128 + c % 64] 0 = _
    rw [PUni8Extends.pilcrowref03_One.l0, if_neg (by decide), if_neg (by decide), if_pos rfl, if_pos (by simp; try decide), show (224 + c / 64 / 64) % 4294967296 % 256 = 224 + c / 4096 by omega]
    rfl
  · rw [size4 (by omega), if_neg (by decide), if_pos (by decide), if_pos (by decide), hw 4 (by decide) (by decide), rby4 (by omega)]
    show PUni8Extends.pilcrowref03_One.l0 (k + 9) c 4 [0, 0, 0, 0] 3 = _
    rw [step _ _ _ _ _ (by omega) (by omega) (by decide) (by decide) (by decide)]
    show PUni8Extends.pilcrowref03_One.l0 (k + 8) (c / 64) 4 [0, 0, 0, 128 + c % 64] 2 = _
    rw [step _ _ _ _ _ (by omega) (by omega) (by decide) (by simp; try decide) (by decide)]
    show PUni8Extends.pilcrowref03_One.l0 (k + 7) (c / 64 / 64) 4 [0, 0, 128 + c / 64 % 64, 128 + c % 64] 1 = _
    rw [step _ _ _ _ _ (by omega) (by omega) (by decide) (by simp; try decide) (by decide)]
    show PUni8Extends.pilcrowref03_One.l0 (k + 6) (c / 64 / 64 / 64) 4 [0, 128 + c / 64 / 64 % 64, 128 + c / 64 % 64, 128 + c % 64] 0 = _
    rw [PUni8Extends.pilcrowref03_One.l0, if_neg (by decide), if_neg (by decide), if_neg (by decide), if_pos rfl, if_pos (by simp; try decide), show (240 + c / 64 / 64 / 64) % 4294967296 % 256 = 240 + c / 262144 by omega, show c / 64 / 64 = c / 4096 by omega]
    rfl
theorem rby_size (c : Int) : (strOfNums (rby c)).size = (rby c).length := by rw [strOfNums_size]
theorem ofNums_append' (xs ys : List Int) : strOfNums (xs ++ ys) = strOfNums xs ++ strOfNums ys := by
  apply ByteArray.ext
  simp [strOfNums, ByteArray.data_append]
theorem bytes_loop (ls : List Int) (hz : ls.length ≤ 1000000) (hwf : ∀ k, 0 ≤ ls.getD k 0 ∧ ls.getD k 0 ≤ 4294967295) (hsc : ∀ c ∈ ls, isB c = true) (d : Nat) :
    ∀ (i fuel : Nat) (acc : List Int), ls.length - i = d → i ≤ ls.length → d + 10 ≤ fuel → acc.length ≤ 4 * i → PUni8Extends.pilcrowref03_Bytes.l0 fuel ls (strOfNums acc) (i : Int) = some (strOfNums (acc ++ (ls.drop i).flatMap rby)) := by
  induction d with
  | zero =>
    intro i fuel acc hd hi hf ha
    obtain ⟨fuel, rfl⟩ : ∃ q, fuel = q + 1 := ⟨fuel - 1, by omega⟩
    obtain rfl : i = ls.length := by omega
    rw [PUni8Extends.pilcrowref03_Bytes.l0, if_neg (by omega), List.drop_length]
    simp
  | succ d ih =>
    intro i fuel acc hd hi hf ha
    have hw := hwf i
    have hs : isB (ls.getD i 0) = true := by
      refine hsc _ ?_
      rw [List.getD_eq_getElem?_getD, List.getElem?_eq_getElem (by omega)]
      exact List.getElem_mem _
    have hdr : ls.drop i = ls.getD i 0 :: ls.drop (i + 1) := by
      rw [List.drop_eq_getElem_cons (by omega), List.getD_eq_getElem?_getD, List.getElem?_eq_getElem (by omega)]; rfl
    obtain ⟨fuel, rfl⟩ : ∃ q, fuel = q + 10 := ⟨fuel - 10, by omega⟩
    have hi1 : wrap64 ((i : Int) + 1) = ((i + 1 : Nat) : Int) := by rw [w64 (by omega) (by omega)]; omega
    have hb := rby_len (ls.getD i 0)
    rw [hdr, List.flatMap_cons, ← List.append_assoc]
    rw [PUni8Extends.pilcrowref03_Bytes.l0, if_pos (by omega), if_pos (by omega), rd_nat, one_at fuel _ hw.1 hs, Option.bind_some, if_pos (by rw [strOfNums_size, strOfNums_size]; omega), ← ofNums_append', hi1]
    exact ih (i + 1) (fuel + 9) _ (by omega) (by omega) (by omega) (by rw [List.length_append]; omega)
theorem refbytes_any {w : World} {A0 : Option Addr} {n0 c0 : Nat} {ls : List Int} (h0 : ReadsInt w .u32 A0 n0 ls) (hc0 : n0 ≤ c0) (hz : n0 ≤ 1000000) (hwf : ∀ k, 0 ≤ ls.getD k 0 ∧ ls.getD k 0 ≤ 4294967295) (hsc : ∀ c ∈ ls, isB c = true) :
    Calls Try.prog 22 #[.slice A0 n0 c0] w fun e w' => ∃ x, e = .returned (.string x) ∧ bytesOf x = txt ls ∧ Below w.heap.size w w' := by
  obtain rfl : ls.length = n0 := h0.1
  have hl := bytes_loop ls hz hwf hsc _ 0 _ [] rfl (Nat.zero_le _) (Nat.le_refl _) (by simp)
  refine (PUni8Extends.pilcrowref03_Bytes.calls _ A0 c0 ls _ w (Kd.C_of_reads (d := 0) h0) hc0 hl).mono fun e w' ⟨he, hd⟩ => ⟨_, he, ?_, hd⟩
  rw [List.nil_append, List.drop_zero, bytesOf_ofNums]
  intro x hx
  obtain ⟨c, hc, hx2⟩ := List.mem_flatMap.1 hx
  refine rby_range c ?_ (hsc c hc) x hx2
  obtain ⟨k, hk, rfl⟩ := List.mem_iff_getElem.1 hc
  have := hwf k
  rw [List.getD_eq_getElem?_getD, List.getElem?_eq_getElem hk] at this
  exact this.1
theorem erun_txt : ∀ (l : List Int), (∀ c ∈ l, 0 ≤ c ∧ isB c = true) → (erun es0 l).1 = txt l
  | [], _ => rfl
  | c :: l, h => by
    rw [erun]
    show rby c ++ (erun es0 l).1 = (c :: l).flatMap rby
    rw [erun_txt l (fun c hc => h c (by simp [hc])), List.flatMap_cons]
end Go.Proofs.Ytmegkiipeckkaaa
