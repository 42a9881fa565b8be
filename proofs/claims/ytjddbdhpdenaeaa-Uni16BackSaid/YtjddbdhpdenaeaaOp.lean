/- A law's arguments, opened: a slice of integers; an array of two such slices. -/
import Derived.Test.YtjddbdhpdenaeaaDec
import Derived.OpenShut
import Derived.ChangeSlices
namespace Go.Proofs.Ytjddbdhpdenaeaa
open Go.RowKit Go.ChangeShapes Go.Proofs.YtjddbdhpdenaeaaW.PrintWords Go.Proofs.YtjddbdhpdenaeaaW.PrintMore
set_option linter.unusedVariables false
section
variable {H : Type} {enc : TypeId × Value → H} {W : World}
theorem ints_of_trod {fuel : Nat} {x : Value} {k : IntKind} {t e : TypeId} {y : DataW H × List MemPlace} (ht : Try.prog.underlying t = some (.slice e)) (he : Try.prog.underlying e = some (.int k)) (hc : Try.prog.cellsOf e = 1) (h : DataW.trod enc Try.prog W 0 (fun _ => true) true fuel t [x] = some y) :
    ∃ A n c zs, x = .slice A n c ∧ n ≤ c ∧ ReadsInt W k A n zs ∧ ∀ z ∈ zs, (Lit.int k z).wf = true := by
  rcases open_ints ht he hc h with ⟨hcs, _⟩ | ⟨a, l, c, zs, hcs, _, hl, hm, hz, _, hcell, hwz⟩
  · simp at hcs
    exact ⟨none, 0, 0, [], hcs, Nat.le_refl _, ⟨rfl, by decide, fun h => by omega⟩, by simp⟩
  · simp at hcs
    simp at hz
    refine ⟨some a, l, c, zs.take l, hcs, hl, ⟨by simp [hz]; omega, by unfold maxLen at hm; omega, fun _ => ⟨a, rfl, fun j hj => ?_⟩⟩, fun z hz => hwz z (List.mem_of_mem_take hz)⟩
    rw [hcell j (by omega), List.getD_eq_getElem?_getD, List.getD_eq_getElem?_getD, List.getElem?_take_of_lt hj]
theorem ints_open {v : Value} {k : IntKind} {t e : TypeId} {d : DataW H} {p : List MemPlace} (hv : ∃ a n c, v = .slice a n c) (ht : Try.prog.underlying t = some (.slice e)) (he : Try.prog.underlying e = some (.int k)) (hc : Try.prog.cellsOf e = 1) (h : DataW.Trod enc Try.prog W 0 (fun _ => true) true t v d p) :
    ∃ A n c zs, v = .slice A n c ∧ n ≤ c ∧ ReadsInt W k A n zs ∧ ∀ z ∈ zs, (Lit.int k z).wf = true := by
  obtain ⟨a, n, c, rfl⟩ := hv
  obtain ⟨fuel, hf⟩ := h
  exact ints_of_trod ht he hc hf
theorem cuts_open {v : Value} {d : DataW H} {p : List MemPlace} (hv : Value.okWide Try.prog W .any 0 23 v) (h : DataW.Trod enc Try.prog W 0 (fun _ => true) true 23 v d p) :
    ∃ A1 n1 c1 ps A2 n2 c2 rs, v = .agg #[.slice A1 n1 c1, .slice A2 n2 c2] ∧ n1 ≤ c1 ∧ n2 ≤ c2 ∧ ReadsInt W .i64 A1 n1 ps ∧ ReadsInt W .i64 A2 n2 rs := by
  simp only [Value.okWide, Try.underlying23] at hv
  obtain ⟨cs, rfl, hsz, _⟩ := hv
  obtain ⟨fuel, hf⟩ := h
  obtain ⟨ys, m, rfl, _, hl, hn, hi⟩ := DataW.trod_array Try.underlying23 hf
  have hc : Try.prog.cellsOf 22 = 1 := by kernel_rfl
  have hc2 : Try.prog.cellsOf 23 = 2 := by kernel_rfl
  have hce : Try.prog.cellsOf 3 = 1 := by kernel_rfl
  rw [hc2] at hsz
  obtain ⟨x0, x1, rfl⟩ : ∃ x0 x1, cs = #[x0, x1] := by
    obtain ⟨l⟩ := cs
    match l, hsz with
    | [x0, x1], _ => exact ⟨x0, x1, rfl⟩
  have h0 := hi 0 (by omega)
  have h1 := hi 1 (by omega)
  rw [hc] at h0 h1
  simp [Value.cells] at h0 h1
  obtain ⟨y0, e0⟩ : ∃ y, ys[0]? = some y := ⟨ys[0], List.getElem?_eq_getElem (by omega)⟩
  obtain ⟨y1, e1⟩ : ∃ y, ys[1]? = some y := ⟨ys[1], List.getElem?_eq_getElem (by omega)⟩
  rw [e0] at h0
  rw [e1] at h1
  obtain ⟨A1, n1, c1, ps, rfl, q1, r1, _⟩ := ints_of_trod Try.underlying22 Try.underlying3 hce h0
  obtain ⟨A2, n2, c2, rs, rfl, q2, r2, _⟩ := ints_of_trod Try.underlying22 Try.underlying3 hce h1
  exact ⟨A1, n1, c1, ps, A2, n2, c2, rs, rfl, q1, q2, r1, r2⟩
end
theorem laidOut : laidOutB Try.prog = true := by kernel_rfl
end Go.Proofs.Ytjddbdhpdenaeaa
