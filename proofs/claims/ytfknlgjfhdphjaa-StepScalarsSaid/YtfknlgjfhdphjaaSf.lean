/- The law StepIn: the three machines that stand beside one another. -/
import Derived.Test.YtfknlgjfhdphjaaSe
namespace Go.Proofs.Ytfknlgjfhdphjaa
open Go.RowKit Go.Proofs.YtfknlgjfhdphjaaW.PrintWords Go.Proofs.YtfknlgjfhdphjaaW.PrintMore
set_option linter.unusedVariables false
set_option linter.unusedSimpArgs false
theorem three_new (w : World) (a b c : Obj) : (((w.alloc a).alloc b).alloc c).heap[w.heap.size]? = some a ∧ (((w.alloc a).alloc b).alloc c).heap[w.heap.size + 1]? = some b ∧ (((w.alloc a).alloc b).alloc c).heap[w.heap.size + 1 + 1]? = some c := by
  have s1 : (w.alloc a).heap.size = w.heap.size + 1 := by simp [World.alloc, -World.alloc_eq]
  have s2 : ((w.alloc a).alloc b).heap.size = w.heap.size + 1 + 1 := by simp [World.alloc, -World.alloc_eq]
  refine ⟨?_, ?_, ?_⟩
  · rw [heap_alloc_old _ _ (by omega)]; exact heap_alloc2_old w a b
  · rw [heap_alloc_old _ _ (by omega)]; exact heap_alloc2_new w a b
  · have := heap_alloc_new ((w.alloc a).alloc b) c
    rw [s2] at this
    exact this
abbrev TI : Nat := 55
abbrev TB : Nat := 29
abbrev TR : Nat := 47
/-- An In at gb, a Base behind it, a Row behind that; apart from each other. -/
structure Tri (w0 w : World) (gb : Nat) (s1 s2 : St) (v v2 : Value) (xs1 xs2 : List Int) : Prop where
  d : Dec w gb TI s1.a s1.e s1.f s1.d v xs1 []
  b : BA w (gb + 1) TB s2 []
  r : RowW w (gb + 1 + 1) TR v2 xs2
  n1 : ∀ k, v.ownBlock = some k → w0.heap.size ≤ k ∧ k ≠ gb + 1 ∧ k ≠ gb + 1 + 1 ∧ v2.ownBlock ≠ some k
  n2 : ∀ k, v2.ownBlock = some k → w0.heap.size ≤ k ∧ k ≠ gb ∧ k ≠ gb + 1
  bel : Below w0.heap.size w0 w
  lo : w0.heap.size ≤ gb
section
variable {w0 w w' : World} {gb : Nat} {s1 s2 : St} {v v2 : Value} {xs1 xs2 : List Int}
theorem Tri.lt (h : Tri w0 w gb s1 s2 v v2 xs1 xs2) : gb + 1 + 1 < w.heap.size := blk_lt h.r.bs
theorem Tri.v_lt (h : Tri w0 w gb s1 s2 v v2 xs1 xs2) (k : Nat) (hk : v.ownBlock = some k) : k < w.heap.size := q_lt h.d.q k hk
theorem Tri.v2_lt (h : Tri w0 w gb s1 s2 v v2 xs1 xs2) (k : Nat) (hk : v2.ownBlock = some k) : k < w.heap.size := q_lt h.r.q k hk
/-- The In's Base turned. -/
theorem Tri.base1 {s : St} (h : Tri w0 w gb s1 s2 v v2 xs1 xs2) (hb : BA w' gb TI s (v :: [])) (hk : Kp (fun k => k = gb) w w') : Tri w0 w' gb s s2 v v2 xs1 xs2 :=
  ⟨h.d.of_bs hb hk, hk.blk h.b (by omega), h.r.kept hk (by omega) (fun k hv => (h.n2 k hv).2.1), h.n1, h.n2, h.bel.trans (hk.below h.bel.size (fun k hk => by rw [hk]; exact h.lo)), h.lo⟩
/-- The Base turned. -/
theorem Tri.base2 {s : St} (h : Tri w0 w gb s1 s2 v v2 xs1 xs2) (hb : BA w' (gb + 1) TB s []) (hk : Kp (fun k => k = gb + 1) w w') : Tri w0 w' gb s1 s v v2 xs1 xs2 :=
  ⟨h.d.kept hk (by omega) (fun k hv => (h.n1 k hv).2.1), hb, h.r.kept hk (by omega) (fun k hv => (h.n2 k hv).2.2), h.n1, h.n2, h.bel.trans (hk.below h.bel.size (fun k hk => by have := h.lo; omega)), h.lo⟩
/-- The In's Row turned. -/
theorem Tri.row1 {v' : Value} {ys : List Int} (h : Tri w0 w gb s1 s2 v v2 xs1 xs2) (hd : Dec w' gb TI s1.a s1.e s1.f s1.d v' ys []) (hs : Stp w gb v w' v') : Tri w0 w' gb s1 s2 v' v2 ys xs2 := by
  refine ⟨hd, hs.keeps h.b (by omega) (fun hv => (h.n1 _ hv).2.1 rfl), h.r.kept hs.kp (fun hh => hh.elim (fun h1 => by omega) (fun hv => (h.n1 _ hv).2.2.1 rfl)) (fun k hv hh => hh.elim (h.n2 k hv).2.1 (fun h3 => (h.n1 k h3).2.2.2 hv)), fun k hv => ?_, h.n2,
    h.bel.trans (hs.kp.below h.bel.size (fun k hk => hk.elim (fun h1 => by rw [h1]; exact h.lo) (fun h1 => (h.n1 k h1).1))), h.lo⟩
  rcases hs.mv k hv with h1 | h1
  · exact h.n1 k h1
  · have := h.bel.size
    have := h.lt
    exact ⟨by omega, by omega, by omega, fun h2 => by have := h.v2_lt k h2; omega⟩
/-- The Row turned. -/
theorem Tri.row2 {v' : Value} {ys : List Int} (h : Tri w0 w gb s1 s2 v v2 xs1 xs2) (hd : RowW w' (gb + 1 + 1) TR v' ys) (hs : Stp w (gb + 1 + 1) v2 w' v') : Tri w0 w' gb s1 s2 v v' xs1 ys := by
  refine ⟨h.d.kept hs.kp (fun hh => hh.elim (fun h1 => by omega) (fun hv => (h.n2 _ hv).2.1 rfl)) (fun k hv hh => hh.elim (h.n1 k hv).2.2.1 (fun h3 => (h.n1 k hv).2.2.2 h3)), hs.keeps h.b (by omega) (fun hv => (h.n2 _ hv).2.2 rfl), hd, fun k hv => ?_, fun k hv => ?_,
    h.bel.trans (hs.kp.below h.bel.size (fun k hk => hk.elim (fun h1 => by have := h.lo; omega) (fun h1 => (h.n2 k h1).1))), h.lo⟩
  · have h1 := h.n1 k hv
    refine ⟨h1.1, h1.2.1, h1.2.2.1, fun h2 => ?_⟩
    rcases hs.mv k h2 with h3 | h3
    · exact h1.2.2.2 h3
    · have := h.v_lt k hv; omega
  · rcases hs.mv k hv with h1 | h1
    · exact h.n2 k h1
    · have := h.bel.size
      have := h.lt
      exact ⟨by omega, by omega, by omega⟩
theorem Tri.below (h : Tri w0 w gb s1 s2 v v2 xs1 xs2) (hb : Below w.heap.size w w') : Tri w0 w' gb s1 s2 v v2 xs1 xs2 :=
  have hk : Kp (fun _ => False) w w' := Kp.of_below hb
  ⟨h.d.below hb, hk.blk h.b (fun h => h), h.r.kept hk (fun h => h) (fun _ _ h => h), h.n1, h.n2, h.bel.trans (hb.mono h.bel.size), h.lo⟩
/-- Another block, not the three machines', stands behind what turns them. -/
theorem Tri.far1 (h : Tri w0 w gb s1 s2 v v2 xs1 xs2) {v' : Value} (hs : Stp w gb v w' v') {k : Nat} {o : Obj} (hb : w.heap[k]? = some o) (hg : gb + 1 + 1 < k) (hv : v.ownBlock ≠ some k) : w'.heap[k]? = some o := hs.keeps hb (by omega) hv
end
end Go.Proofs.Ytfknlgjfhdphjaa
