/- Bytes of a text, and a machine's run over them: small laws. -/
import Derived.Test.YthodifmfamflpaaCa
import Derived.Test.YthodifmfamflpaaRun
import Derived.Test.YthodifmfamflpaaSm
namespace Go.Proofs.Ythodifmfamflpaa
open Go.RowKit Go.Proofs.YthodifmfamflpaaW.PrintWords Go.Proofs.YthodifmfamflpaaW.PrintMore
set_option linter.unusedVariables false
set_option linter.unusedSimpArgs false
theorem w64' {x : Int} (h1 : -9223372036854775808 ≤ x) (h2 : x < 9223372036854775808) : wrap64 x = x := by unfold wrap64; omega
theorem bytesOf_range (t : ByteArray) : ∀ x ∈ bytesOf t, 0 ≤ x ∧ x ≤ 255 := by
  intro x hx
  simp only [bytesOf, List.mem_map] at hx
  obtain ⟨b, _, rfl⟩ := hx
  have := b.toNat_lt
  omega
theorem bytesOf_bt (q : ByteArray) : bytesOf q = (List.range q.size).map fun (i : Nat) => bt q i := by
  apply List.ext_getElem
  · rw [bytesOf_length]; simp
  · intro i h1 h2
    have := rd_bytesOf q (i : Int)
    rw [rd, Int.toNat_natCast, List.getD_eq_getElem?_getD, List.getElem?_eq_getElem h1] at this
    simpa using this
theorem getD_bt (t : ByteArray) (k : Nat) : (bytesOf t).getD k 0 = bt t k := by
  have := rd_bytesOf t (k : Int)
  rw [rd, Int.toNat_natCast] at this
  exact this
theorem bytes_mid (t : ByteArray) (i j : Nat) (h : i ≤ j) (hj : j ≤ t.size) : bytesOf (t.extract i j) = ((bytesOf t).take j).drop i ∧ (t.extract i j).size = j - i := by
  constructor
  · rw [bytesOf, bytesOf, ByteArray.data_extract, Array.toList_extract, List.extract_eq_take_drop, ← List.map_take, ← List.map_drop, List.drop_take]
  · rw [ByteArray.size_extract]; omega
theorem run_none {s : CS} {L : List Int} {k m : Nat} (hk : k ≤ m) (h : run cnx s (L.take k) = none) : run cnx s (L.take m) = none := by
  obtain ⟨d, rfl⟩ : ∃ d, m = k + d := ⟨m - k, by omega⟩
  rw [List.take_add, run_append, h]; rfl
theorem wrap64_nat' (n : Nat) (h : n ≤ 1000000) : wrap64 ((n : Int) + 1) = ((n + 1 : Nat) : Int) := by rw [w64' (by omega) (by omega)]; omega
theorem mono_le {α : Type} {f : Nat → Option α} (h : ∀ k, LeO (f k) (f (k + 1))) {a b : Nat} (hab : a ≤ b) {r : α} (hr : f a = some r) : f b = some r := by
  induction hab with
  | refl => exact hr
  | step _ ih => exact h _ _ ih
/-- A text is read to its end, or to a byte that doesn't fit. -/
theorem run_stop (s0 : CS) (t : ByteArray) : ∃ m fin out, m ≤ t.size ∧ run cnx s0 ((bytesOf t).take m) = some (fin, out) ∧ (m = t.size ∨ (m < t.size ∧ cnx fin (bt t m) = none)) := by
  have key : ∀ n, n ≤ t.size → (∃ fin out, run cnx s0 ((bytesOf t).take n) = some (fin, out)) ∨ ∃ m fin out, m < t.size ∧ run cnx s0 ((bytesOf t).take m) = some (fin, out) ∧ cnx fin (bt t m) = none := by
    intro n
    induction n with
    | zero => exact fun _ => .inl ⟨s0, [], rfl⟩
    | succ n ih =>
      intro hn
      rcases ih (by omega) with ⟨fin, out, h1⟩ | h1
      · cases hc : cnx fin (bt t n) with
        | none => exact .inr ⟨n, fin, out, by omega, h1, hc⟩
        | some p => exact .inl ⟨p.1, out ++ p.2.toList, by rw [take_bt t n (by omega), run_snoc, h1, Option.bind_some, hc]; rfl⟩
      · exact .inr h1
  rcases key t.size (Nat.le_refl _) with ⟨fin, out, h⟩ | ⟨m, fin, out, h1, h2, h3⟩
  · exact ⟨t.size, fin, out, Nat.le_refl _, h, .inl rfl⟩
  · exact ⟨m, fin, out, by omega, h2, .inr ⟨h1, h3⟩⟩
end Go.Proofs.Ythodifmfamflpaa
