/- The step laws' argument, opened: a list of ops. -/
import Derived.Test.YtfknlgjfhdphjaaSb
import Derived.OpenShut
import Derived.ChangeSlices
import Derived.Deep.Slices
import Derived.Lib.SmallJoins
namespace Go.Proofs.Ytfknlgjfhdphjaa
open Go.RowKit Go.ChangeShapes Go.WideShapes Go.Deep Go.Joins Go.Proofs.YtfknlgjfhdphjaaW.PrintWords Go.Proofs.YtfknlgjfhdphjaaW.PrintMore
set_option linter.unusedVariables false
section
variable {H : Type} {enc : TypeId × Value → H} {W : World}
theorem ints_of_trod {fuel : Nat} {x : Value} {k : IntKind} {t e : TypeId} {y : DataW H × List MemPlace} (ht : Try.prog.underlying t = some (.slice e)) (he : Try.prog.underlying e = some (.int k)) (hc : Try.prog.cellsOf e = 1) (h : DataW.trod enc Try.prog W 0 (fun _ => true) true fuel t [x] = some y) :
    ∃ A n c zs, x = .slice A n c ∧ n ≤ c ∧ ReadsInt W k A n zs ∧ ∀ z ∈ zs, (Lit.int k z).wf = true := by
  rcases open_ints ht he hc h with ⟨hcs, _⟩ | ⟨a, l, c, zs, hcs, _, hl, hm, hz, _, hcell, hwz⟩
  · simp at hcs
    exact ⟨none, 0, 0, [], hcs, Nat.le_refl _, ⟨rfl, by decide, fun h => by omega⟩, by simp⟩
  · simp at hcs
    simp at hz
    refine ⟨some a, l, c, zs.take l, hcs, hl, ⟨by simp [hz]; omega, by unfold maxLen at hm; omega, fun _ => ⟨a, rfl, fun j hj => ?_⟩⟩, fun z hz => hwz z (List.mem_of_mem_take hz)⟩
    rw [hcell j (by omega), List.getD_eq_getElem?_getD, List.getD_eq_getElem?_getD, List.getElem?_take_of_lt hj]
theorem list4 {α : Type} {l : List α} (h : l.length = 4) : ∃ a b c d, l = [a, b, c, d] := by
  match l, h with
  | [a, b, c, d], _ => exact ⟨a, b, c, d, rfl⟩
def wideO (o : PStepBase.S35) : Prop := (Lit.int .i64 o.f0).wf = true ∧ (Lit.int .i64 o.f1).wf = true ∧ ∀ z ∈ o.f3, (Lit.int .u32 z).wf = true
theorem op_open {fuel : Nat} {cs : List Value} {y : DataW H × List MemPlace} (hl : cs.length = 4) (h : DataW.trod enc Try.prog W 0 (fun _ => true) true fuel 35 cs = some y) : ∃ o, PStepBase.k35.K W o cs ∧ wideO o := by
  obtain ⟨a, b, c, d, rfl⟩ := list4 hl
  obtain ⟨y0, y1, y2, y3, n, _, _, h0, h1, h2, h3⟩ := trod_struct4 Try.underlying35 h
  have e1 : Try.prog.cellsOf 3 = 1 := by kernel_rfl
  have e2 : Try.prog.cellsOf 9 = 1 := by kernel_rfl
  have e3 : Try.prog.cellsOf 33 = 1 := by kernel_rfl
  simp only [e1, e2, e3, List.drop_zero, List.drop_succ_cons, List.take_succ_cons, List.take_zero] at h0 h1 h2 h3
  obtain ⟨n0, hx0, _, w0⟩ := DataW.trod_int Try.underlying3 h0
  obtain ⟨n1, hx1, _, w1⟩ := DataW.trod_int Try.underlying3 h1
  obtain ⟨s2, hx2, _⟩ := DataW.trod_string Try.underlying9 h2
  obtain ⟨A, m, cap, zs, hx3, hle, hr, w3⟩ := ints_of_trod Try.underlying33 Try.underlying49 (by kernel_rfl) h3
  simp only [List.cons.injEq, and_true] at hx0 hx1 hx2
  subst hx0 hx1 hx2 hx3
  have hzl : zs.length = m := hr.1
  subst hzl
  exact ⟨⟨n0, n1, s2, zs⟩, PStepBase.k35_mk W ⟨n0, n1, s2, zs⟩ hle (Kd.C_of_reads (enc := fun x => Value.int .u32 x) (d := (0 : Int)) hr), w0, w1, w3⟩
theorem ops_open {v : Value} {d : DataW H} {p : List MemPlace} (hv : ∃ a n c, v = .slice a n c) (h : DataW.Trod enc Try.prog W 0 (fun _ => true) true 22 v d p) :
    ∃ A c l, v = .slice A l.length c ∧ l.length ≤ c ∧ Ops W A l ∧ ∀ o ∈ l, wideO o := by
  obtain ⟨a0, n0, c0, rfl⟩ := hv
  obtain ⟨fuel, hf⟩ := h
  have hC : Try.prog.cellsOf 35 = 4 := by kernel_rfl
  rcases open_slice Try.underlying22 hf with ⟨hcs, _⟩ | ⟨a, len, cap, m, n, D, Pl, hcs, _, hl, hm, hmm, _, hi⟩
  · injection hcs with hcs _
    injection hcs with e1 e2 e3
    subst e1 e2 e3
    exact ⟨none, 0, [], rfl, Nat.le_refl _, Kd.C_nil _ _, by simp⟩
  · injection hcs with hcs _
    injection hcs with e1 e2 e3
    subst e1 e2 e3
    simp only [if_true] at hmm
    have H : ∀ i, i < n0 → ∃ o : PStepBase.S35, wideO o ∧ ∃ cs, cs.length = 4 ∧ PStepBase.k35.K W o cs ∧ ∀ j u, cs[j]? = some u → W.cell? (a.add (i * 4 + j)) = some u := by
      intro i hin
      obtain ⟨cs, hc, ht⟩ := hi i (by omega)
      rw [hC] at hc
      obtain ⟨_, hcl, hat⟩ := World.cells?_some hc
      obtain ⟨o, hk, hw⟩ := op_open hcl ht
      refine ⟨o, hw, cs, hcl, hk, fun j u hj => ?_⟩
      have hj4 : j < 4 := by rw [← hcl]; exact (List.getElem?_eq_some_iff.1 hj).1
      rw [← Go.Deep.add_add, hat j hj4, hj]
    let f : Nat → PStepBase.S35 := fun i => if h : i < n0 then Classical.choose (H i h) else PStepBase.z35
    have hlen : ((List.range n0).map f).length = n0 := by simp
    have hfi : ∀ i (h : i < n0), f i = Classical.choose (H i h) := fun i h => dif_pos h
    refine ⟨some a, c0, (List.range n0).map f, by rw [hlen], by rw [hlen]; exact hl, ⟨rfl, by rw [hlen]; unfold maxLen at hm; omega, fun _ => ⟨a, rfl, fun j p hj => ?_⟩⟩, fun o ho => ?_⟩
    · rw [List.getElem?_map] at hj
      obtain ⟨q, hq, rfl⟩ := Option.map_eq_some_iff.1 hj
      obtain ⟨hjn, rfl⟩ := List.getElem?_eq_some_iff.1 hq
      rw [List.length_range] at hjn
      rw [List.getElem_range, hfi j hjn]
      obtain ⟨_, cs, h1, h2, h3⟩ := Classical.choose_spec (H j hjn)
      exact ⟨cs, h1, h2, h3⟩
    · rw [List.mem_map] at ho
      obtain ⟨i, hi, rfl⟩ := ho
      rw [List.mem_range] at hi
      rw [hfi i hi]
      exact (Classical.choose_spec (H i hi)).1
end
theorem laidOut : laidOutB Try.prog = true := by kernel_rfl
theorem base_row (A : Option Addr) (c : Nat) (l : List PStepBase.S35) (hc : l.length ≤ c) {w : World} (h : Ops w A l) (_ : ∀ o ∈ l, wideO o) : Calls Try.prog 3 #[.slice A l.length c] w fun en w' => en = .returned (.bool true) ∧ Below w.heap.size w w' := base_all A c l hc h
end Go.Proofs.Ytfknlgjfhdphjaa
