/- A law's arguments, opened: a slice of integers; an array of two such slices. -/
import Derived.Test.YthodifmfamflpaaDec
import Derived.OpenShut
import Derived.ChangeSlices
namespace Go.Proofs.Ythodifmfamflpaa
open Go.RowKit Go.ChangeShapes Go.Proofs.YthodifmfamflpaaW.PrintWords Go.Proofs.YthodifmfamflpaaW.PrintMore
set_option linter.unusedVariables false
section
variable {H : Type} {enc : TypeId × Value → H} {W : World}
theorem ints_of_trod {fuel : Nat} {x : Value} {k : IntKind} {t e : TypeId} {y : DataW H × List MemPlace} (ht : Try.prog.underlying t = some (.slice e)) (he : Try.prog.underlying e = some (.int k)) (hc : Try.prog.cellsOf e = 1) (h : DataW.trod enc Try.prog W 0 (fun _ => true) true fuel t [x] = some y) :
    ∃ A n c zs, x = .slice A n c ∧ n ≤ c ∧ ReadsInt W k A n zs ∧ ∀ z ∈ zs, (Lit.int k z).wf = true := by
  rcases open_ints ht he hc h with ⟨hcs, _⟩ | ⟨a, l, c, zs, hcs, _, hl, hm, hz, _, hcell, hwz⟩
  · simp at hcs
    exact ⟨none, 0, 0, [], hcs, Nat.le_refl _, ⟨rfl, by decide, fun h => by omega⟩, by simp⟩
  · simp at hcs
    simp at hz
    refine ⟨some a, l, c, zs.take l, hcs, hl, ⟨by simp [hz]; omega, by unfold maxLen at hm; omega, fun _ => ⟨a, rfl, fun j hj => ?_⟩⟩, fun z hz => hwz z (List.mem_of_mem_take hz)⟩
    rw [hcell j (by omega), List.getD_eq_getElem?_getD, List.getD_eq_getElem?_getD, List.getElem?_take_of_lt hj]
theorem ints_open {v : Value} {k : IntKind} {t e : TypeId} {d : DataW H} {p : List MemPlace} (hv : ∃ a n c, v = .slice a n c) (ht : Try.prog.underlying t = some (.slice e)) (he : Try.prog.underlying e = some (.int k)) (hc : Try.prog.cellsOf e = 1) (h : DataW.Trod enc Try.prog W 0 (fun _ => true) true t v d p) :
    ∃ A n c zs, v = .slice A n c ∧ n ≤ c ∧ ReadsInt W k A n zs ∧ ∀ z ∈ zs, (Lit.int k z).wf = true := by
  obtain ⟨a, n, c, rfl⟩ := hv
  obtain ⟨fuel, hf⟩ := h
  exact ints_of_trod ht he hc hf
end
theorem laidOut : laidOutB Try.prog = true := by kernel_rfl
end Go.Proofs.Ythodifmfamflpaa
