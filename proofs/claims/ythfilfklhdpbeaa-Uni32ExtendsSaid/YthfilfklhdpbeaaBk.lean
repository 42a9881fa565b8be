/- UTF-32: what is written is read, what is read is written: plain laws. -/
import Derived.Test.YthfilfklhdpbeaaLe
namespace Go.Proofs.Ythfilfklhdpbeaa
open Go.RowKit Go.Proofs.YthfilfklhdpbeaaW.PrintWords Go.Proofs.YthfilfklhdpbeaaW.PrintMore
set_option linter.unusedVariables false
set_option linter.unusedSimpArgs false
theorem bytes_inj {x y : ByteArray} (h : bytesOf x = bytesOf y) : x = y := by
  have h1 := (toList_of_bytes h).trans (toList_of_bytes (rfl : bytesOf y = bytesOf y)).symm
  rw [ByteArray.toList_eq, ByteArray.toList_eq] at h1
  obtain ⟨⟨a⟩⟩ := x
  obtain ⟨⟨b⟩⟩ := y
  simp at h1
  rw [h1]
theorem run4 (big : Bool) (a b c d : Int) (ha : 0 ≤ a ∧ a ≤ 255) (hb : 0 ≤ b ∧ b ≤ 255) (hc : 0 ≤ c ∧ c ≤ 255) (hd : 0 ≤ d ∧ d ≤ 255) :
    run cnx ⟨big, 0, 0⟩ [a, b, c, d] = if (fitsB big 0 (numB big [a]) && (fitsB big 1 (numB big [a, b]) && (fitsB big 2 (numB big [a, b, c]) && isB (numB big [a, b, c, d])))) = true then some (⟨big, 0, 0⟩, [numB big [a, b, c, d]]) else none := by
  have h1 : cnx ⟨big, 0, 0⟩ a = if fitsB big 0 (numB big [a]) = true then some (stOf big [a], none) else none := cnx_at big [] a (by simp) (by simp) ha.1 ha.2
  have h2 : cnx (stOf big [a]) b = if fitsB big 1 (numB big [a, b]) = true then some (stOf big [a, b], none) else none := cnx_at big [a] b (by simp) (by simp [ha]) hb.1 hb.2
  have h3 : cnx (stOf big [a, b]) c = if fitsB big 2 (numB big [a, b, c]) = true then some (stOf big [a, b, c], none) else none := cnx_at big [a, b] c (by simp) (by simp [ha, hb]) hc.1 hc.2
  have h4 : cnx (stOf big [a, b, c]) d = if isB (numB big [a, b, c, d]) = true then some (stOf big [], some (numB big [a, b, c, d])) else none := cnx_at big [a, b, c] d (by simp) (by simp [ha, hb, hc]) hd.1 hd.2
  simp only [run]
  rw [h1]
  cases f1 : fitsB big 0 (numB big [a])
  · simp
  simp only [if_true, Bool.true_and, Option.bind_some, h2]
  cases f2 : fitsB big 1 (numB big [a, b])
  · simp
  simp only [if_true, Bool.true_and, Option.bind_some, h3]
  cases f3 : fitsB big 2 (numB big [a, b, c])
  · simp
  simp only [if_true, Bool.true_and, Option.bind_some, h4]
  cases f4 : isB (numB big [a, b, c, d])
  · simp
  rfl
theorem word_rby (big : Bool) (c : Int) (h0 : 0 ≤ c) (h1 : c ≤ 4294967295) : run cnx ⟨big, 0, 0⟩ (rby big c) = if isB c = true then some (⟨big, 0, 0⟩, [c]) else none := by
  have hx : ∀ k : Int, 0 ≤ k % 256 ∧ k % 256 ≤ 255 := fun k => by omega
  cases big with
  | true =>
    have hr : rby true c = [c / 16777216 % 256, c / 65536 % 256, c / 256 % 256, c % 256] := rfl
    have hn : numB true [c / 16777216 % 256, c / 65536 % 256, c / 256 % 256, c % 256] = c := by simp only [numB, if_true]; omega
    rw [hr, run4 true _ _ _ _ (hx _) (hx _) (hx _) (hx _), hn]
    cases hb : isB c
    · simp
    · have h2 := (isB_iff c).1 hb
      have g1 : fitsB true 0 (numB true [c / 16777216 % 256]) = true := by simp [fitsB, numB]; omega
      have g2 : fitsB true 1 (numB true [c / 16777216 % 256, c / 65536 % 256]) = true := by simp [fitsB, numB]; omega
      have g3 : fitsB true 2 (numB true [c / 16777216 % 256, c / 65536 % 256, c / 256 % 256]) = true := by
        simp [fitsB, numB]
        rw [isB_iff]
        omega
      rw [g1, g2, g3]; rfl
  | false =>
    have hr : rby false c = [c % 256, c / 256 % 256, c / 65536 % 256, c / 16777216 % 256] := rfl
    have hn : numB false [c % 256, c / 256 % 256, c / 65536 % 256, c / 16777216 % 256] = c := by simp only [numB]; simp; omega
    rw [hr, run4 false _ _ _ _ (hx _) (hx _) (hx _) (hx _), hn]
    cases hb : isB c
    · simp
    · have h2 := (isB_iff c).1 hb
      have g1 : fitsB false 0 (numB false [c % 256]) = true := by simp [fitsB]
      have g2 : fitsB false 1 (numB false [c % 256, c / 256 % 256]) = true := by simp [fitsB]
      have g3 : fitsB false 2 (numB false [c % 256, c / 256 % 256, c / 65536 % 256]) = true := by
        simp [fitsB, numB]
        rw [isB_iff]
        omega
      rw [g1, g2, g3]; rfl
/-- What is written is read as it was. -/
theorem back_law (big : Bool) : ∀ (l : List Int), (∀ c ∈ l, 0 ≤ c ∧ isB c = true) → run cnx ⟨big, 0, 0⟩ (l.flatMap (rby big)) = some (⟨big, 0, 0⟩, l)
  | [], _ => rfl
  | c :: l, h => by
    have h1 := h c (by simp)
    have h2 := isB_range h1.2
    rw [List.flatMap_cons, run_append, word_rby big c h1.1 (by omega), if_pos h1.2, Option.bind_some, back_law big l (fun c hc => h c (by simp [hc]))]
    rfl
theorem rby_num (big : Bool) (a b c d : Int) (ha : 0 ≤ a ∧ a ≤ 255) (hb : 0 ≤ b ∧ b ≤ 255) (hc : 0 ≤ c ∧ c ≤ 255) (hd : 0 ≤ d ∧ d ≤ 255) : rby big (numB big [a, b, c, d]) = [a, b, c, d] ∧ 0 ≤ numB big [a, b, c, d] := by
  cases big <;> simp [rby, numB] <;> omega
/-- What is read to its end is written as it was. -/
theorem one_law (big : Bool) (n : Nat) : ∀ (l : List Int) (s : CS) (os : List Int), l.length ≤ n → (∀ x ∈ l, 0 ≤ x ∧ x ≤ 255) → run cnx ⟨big, 0, 0⟩ l = some (s, os) → l.length % 4 = 0 → os.flatMap (rby big) = l ∧ ∀ c ∈ os, 0 ≤ c ∧ isB c = true := by
  induction n with
  | zero =>
    intro l s os hl hx hr h4
    obtain rfl : l = [] := List.eq_nil_of_length_eq_zero (by omega)
    simp [run] at hr
    obtain ⟨_, rfl⟩ := hr
    simp
  | succ n ih =>
    intro l s os hl hx hr h4
    match l, hl, hx, hr, h4 with
    | [], _, _, hr, _ =>
      simp [run] at hr
      obtain ⟨_, rfl⟩ := hr
      simp
    | [_], _, _, _, h4 => simp at h4
    | [_, _], _, _, _, h4 => simp at h4
    | [_, _, _], _, _, _, h4 => simp at h4
    | a :: b :: c :: d :: r, hl, hx, hr, h4 =>
      have e : a :: b :: c :: d :: r = [a, b, c, d] ++ r := rfl
      rw [e, run_append, run4 big a b c d (hx a (by simp)) (hx b (by simp)) (hx c (by simp)) (hx d (by simp))] at hr
      split at hr
      · rename_i hf
        simp only [Bool.and_eq_true] at hf
        rw [Option.bind_some] at hr
        cases hq : run cnx ⟨big, 0, 0⟩ r with
        | none => rw [hq] at hr; cases hr
        | some q =>
          rw [hq] at hr
          simp only [Option.map_some, Option.some.injEq, Prod.mk.injEq] at hr
          obtain ⟨_, rfl⟩ := hr
          have hn := rby_num big a b c d (hx a (by simp)) (hx b (by simp)) (hx c (by simp)) (hx d (by simp))
          obtain ⟨i1, i2⟩ := ih r q.1 q.2 (by simp at hl; omega) (fun x h => hx x (by simp [h])) hq (by simp at h4; omega)
          refine ⟨?_, ?_⟩
          · rw [List.flatMap_append, i1, e]
            simp [hn.1]
          · intro z hz
            rcases List.mem_append.1 hz with h9 | h9
            · simp at h9
              rw [h9]
              exact ⟨hn.2, hf.2.2.2⟩
            · exact i2 z h9
      · cases hr
end Go.Proofs.Ythfilfklhdpbeaa
