/- The step laws: rows of scalars; Same. -/
import Derived.Test.YtfknlgjfhdphjaaSc
import Derived.Test.YtfknlgjfhdphjaaPStepScalarsx
namespace Go.Proofs.Ytfknlgjfhdphjaa
open Go.RowKit Go.Proofs.YtfknlgjfhdphjaaW.PrintWords Go.Proofs.YtfknlgjfhdphjaaW.PrintMore Go.Proofs.Ytfknlgjfhdphjaa.PStepScalars
set_option linter.unusedVariables false
set_option linter.unusedSimpArgs false
theorem w64 {x : Int} (h1 : -9223372036854775808 ≤ x) (h2 : x < 9223372036854775808) : wrap64 x = x := by unfold wrap64; omega
theorem rd_nat (l : List Int) (i : Nat) : rd l (i : Int) = l.getD i 0 := rfl
theorem order_loop (l0 l1 : List Int) (hz : l0.length ≤ 1000000000) (d : Nat) : ∀ (k i : Nat), l0.length - i = d → i ≤ l0.length → i ≤ l1.length → (∀ q, q < i → l0.getD q 0 = l1.getD q 0) → 2 * d + 2 ≤ k → ∃ r, pilcrowref01_Order.l0 k l0 l1 (i : Int) = some r ∧ (r = 0 ↔ l0 = l1) := by
  induction d with
  | zero =>
    intro k i hd h0 h1 hq hk
    obtain ⟨k, rfl⟩ : ∃ m, k = m + 2 := ⟨k - 2, by omega⟩
    rw [pilcrowref01_Order.l0, if_neg (by omega), pilcrowref01_Order.j1, if_neg (by simp)]
    by_cases h : (l0.length : Int) < l1.length
    · rw [if_pos h]
      exact ⟨_, rfl, fun h9 => by omega, fun h9 => by rw [h9] at h; omega⟩
    · rw [if_neg h, if_neg (by omega)]
      refine ⟨_, rfl, fun _ => ?_, fun _ => rfl⟩
      refine List.ext_getElem (by omega) fun q h2 h3 => ?_
      have := hq q (by omega)
      rw [List.getD_eq_getElem?_getD, List.getD_eq_getElem?_getD, List.getElem?_eq_getElem h2, List.getElem?_eq_getElem h3] at this
      exact this
  | succ d ih =>
    intro k i hd h0 h1 hq hk
    obtain ⟨k, rfl⟩ : ∃ m, k = m + 2 := ⟨k - 2, by omega⟩
    rw [pilcrowref01_Order.l0, if_pos (by omega)]
    by_cases h : (i : Int) < l1.length
    · rw [decide_eq_true h, pilcrowref01_Order.j1, if_pos rfl, if_pos (by omega), if_pos (by omega), if_pos h, rd_nat, rd_nat]
      by_cases hlt : l0.getD i 0 < l1.getD i 0
      · rw [if_pos hlt]
        exact ⟨_, rfl, fun h9 => by omega, fun h9 => by rw [h9] at hlt; omega⟩
      · rw [if_neg hlt]
        by_cases hgt : l0.getD i 0 > l1.getD i 0
        · rw [if_pos hgt]
          exact ⟨_, rfl, fun h9 => by omega, fun h9 => by rw [h9] at hgt; omega⟩
        · rw [if_neg hgt, w64 (by omega) (by omega)]
          exact ih k (i + 1) (by omega) (by omega) (by omega) (fun q h9 => by
            by_cases e : q = i
            · rw [e]; omega
            · exact hq q (by omega)) (by omega)
    · rw [decide_eq_false h, pilcrowref01_Order.j1, if_neg (by simp), if_neg (by omega), if_pos (by omega)]
      exact ⟨_, rfl, fun h9 => by omega, fun h9 => by rw [h9] at hd; omega⟩
theorem same_at (l0 l1 : List Int) (hz : l0.length ≤ 1000000000) : pilcrowref01_Same.f (2 * l0.length + 2) l0 l1 = some (decide (l0 = l1)) := by
  obtain ⟨r, hr, h⟩ := order_loop l0 l1 hz l0.length (2 * l0.length + 2) 0 (by omega) (by omega) (by omega) (fun q h9 => by omega) (by omega)
  rw [pilcrowref01_Same.f, pilcrowref01_Order.f]
  rw [show ((0 : Nat) : Int) = 0 from rfl] at hr
  rw [hr, Option.bind_some]
  congr 1
  by_cases e : l0 = l1
  · rw [decide_eq_true e, h.2 e]; rfl
  · rw [decide_eq_false e]
    exact beq_eq_false_iff_ne.2 (fun h9 => e (h.1 h9))
theorem same_any {w : World} {A0 A1 : Option Addr} {n0 n1 c0 c1 : Nat} {l0 l1 : List Int} (h0 : ReadsInt w .u32 A0 n0 l0) (h1 : ReadsInt w .u32 A1 n1 l1) (hc0 : n0 ≤ c0) (hc1 : n1 ≤ c1) (hz : n0 ≤ 1000000000) :
    Calls Try.prog 29 #[.slice A0 n0 c0, .slice A1 n1 c1] w fun e w' => e = .returned (.bool (decide (l0 = l1))) ∧ ∃ n, w' = w.drewN n := by
  obtain rfl : l0.length = n0 := h0.1
  obtain rfl : l1.length = n1 := h1.1
  exact (pilcrowref01_Same.calls _ A0 c0 l0 A1 c1 l1 _ w (Kd.C_of_reads (d := 0) h0) hc0 (Kd.C_of_reads (d := 0) h1) hc1 (same_at l0 l1 hz)).mono fun e w' ⟨he, hd⟩ => ⟨he, hd.out⟩
theorem reads_of_C {w : World} {A : Option Addr} {n : Nat} {xs : List Int} (h : (Kd.int .u32).C w A n xs) : ReadsInt w .u32 A n xs :=
  ⟨h.1, h.2.1, fun hn => by
    obtain ⟨ad, e, hc⟩ := h.2.2 hn
    refine ⟨ad, e, fun j hj => ?_⟩
    have hjl : j < xs.length := by have := h.1; omega
    obtain ⟨c, _, hk, hu⟩ := hc j xs[j] (List.getElem?_eq_getElem hjl)
    have hk' : c = [.int .u32 xs[j]] := hk
    subst hk'
    have h9 := hu 0 _ rfl
    have h8 : w.cell? (ad.add (j * 1 + 0)) = some (.int .u32 xs[j]) := h9
    rw [Nat.mul_one, Nat.add_zero] at h8
    rw [h8, List.getD_eq_getElem?_getD, List.getElem?_eq_getElem hjl]
    rfl⟩
/-- Scalars that wait, alone in a block. -/
structure RowW (w : World) (g T : Nat) (v : Value) (xs : List Int) : Prop where
  bs : w.heap[g]? = some (.cells #[v] T (0, 0))
  q : QRow w 0 49 1 v xs.length (nums .u32 xs)
  ne : v.ownBlock ≠ some g
section
variable {w : World} {g T : Nat} {v : Value} {xs : List Int}
theorem RowW.c (h : RowW w g T v xs) : w.cell? ⟨g, 0, none⟩ = some v := (blk_cell h.bs 0).trans rfl
theorem RowW.kept (h : RowW w g T v xs) {w' : World} {F : Nat → Prop} (hk : Kp F w w') (hg : ¬ F g) (hv : ∀ k, v.ownBlock = some k → ¬ F k) : RowW w' g T v xs := ⟨hk.blk h.bs hg, hk.q h.q hv, h.ne⟩
theorem r_held (h : RowW w g T v xs) : Calls Try.prog 30 #[.pointer (some ⟨g, 0, none⟩)] w fun en w' => en = .returned (.int .i64 xs.length) ∧ w = w' := by
  obtain ⟨A, c, rfl, _⟩ := q_slice h.q
  exact held_any h.c
theorem r_hold {A : Option Addr} {m c : Nat} {ys : List Int} (hr : ReadsInt w .u32 A m ys) (hl : xs.length + m ≤ 1073741824) (h : RowW w g T v xs) :
    Calls Try.prog 27 #[.pointer (some ⟨g, 0, none⟩), .slice A m c] w fun en w' => en = .returned (.tuple #[]) ∧ ∃ v', RowW w' g T v' (xs ++ ys) ∧ Stp w g v w' v' := by
  refine (hold_any h.c (blk_frozen h.bs 0) h.q h.ne hr hl).mono ?_
  rintro en w' ⟨rfl, v1, w1, rfl, hq, hg, hat⟩
  have hgl := (blk_lt h.bs)
  have hv1 : ∀ k, v1.ownBlock = some k → v.ownBlock = some k ∨ w.heap.size ≤ k := by
    intro k hk
    rcases hat with hat | ⟨b, hb, hle⟩
    · exact .inl (hat ▸ hk)
    · rw [hb] at hk; injection hk with hk; exact .inr (hk ▸ hle)
  have hne1 : v1.ownBlock ≠ some g := fun hk => (hv1 g hk).elim h.ne (fun h2 => by omega)
  have hb1 : w1.heap[g]? = some (.cells #[v] T (0, 0)) := blk_grown h.bs hg (fun he => h.ne he.symm)
  refine ⟨rfl, v1, ⟨(blk_set hb1 0 _).trans (by simp), ?_, hne1⟩, ?_, hv1⟩
  · rw [List.length_append]
    exact q_move hq (fun k hk => Below.heap_setCell w1 ⟨g, 0, none⟩ v1 k (fun he => hne1 (by rw [hk]; exact congrArg some he)))
  · exact (Kp.of_grown hg (fun k hk => .inr hk)).set (p := ⟨g, 0, none⟩) (.inl (.inl rfl)) v1
theorem r_tell (room : Int) (hl : xs.length ≤ 1073741824) (h : RowW w g T v xs) :
    Calls Try.prog 28 #[.pointer (some ⟨g, 0, none⟩), .int .i64 room] w fun en w' => ∃ r v', en = .returned r ∧ RowW w' g T v' (xs.drop (min room.toNat xs.length)) ∧
      w'.ownsRow w.heap.size 49 1 r (xs.take (min room.toNat xs.length)).length (nums .u32 (xs.take (min room.toNat xs.length))) ∧ Stp w g v w' v' ∧ (xs.length ≤ room.toNat → v' = .slice none 0 0) := by
  refine (tell_any room h.c (blk_frozen h.bs 0) h.q hl).mono ?_
  rintro en w' ⟨r, v1, w1, rfl, rfl, ho, hb, hq, hat, hnil⟩
  have hgl := (blk_lt h.bs)
  have hv1 : ∀ k, v1.ownBlock = some k → v.ownBlock = some k := by
    intro k hk
    rcases hat with hat | hat
    · exact hat ▸ hk
    · rw [hat] at hk; cases hk
  have hne1 : v1.ownBlock ≠ some g := fun hk => h.ne (hv1 g hk)
  have hb1 : w1.heap[g]? = some (.cells #[v] T (0, 0)) := blk_below h.bs hb
  refine ⟨r, v1, rfl, ⟨(blk_set hb1 0 _).trans (by simp), ?_, hne1⟩, ?_, ⟨?_, fun k hk => .inl (hv1 k hk)⟩, fun hr => hnil (by omega)⟩
  · rw [List.length_drop]
    exact q_move hq (fun k hk => Below.heap_setCell w1 ⟨g, 0, none⟩ v1 k (fun he => hne1 (by rw [hk]; exact congrArg some he)))
  · exact own_setCell ho (fun he => by have := own_base ho g he.symm; omega) v1
  · exact (Kp.of_below hb).set (p := ⟨g, 0, none⟩) (.inl (.inl rfl)) v1
end
theorem c_idone_no {w : World} {g T : Nat} {s : St} {v : Value} {xs : List Int} {own : List Value} (hg : s.go = true) (h : Dec w g T s.a s.e s.f s.d v xs own) : Calls Try.prog 32 #[.pointer (some ⟨g, 0, none⟩)] w fun en w' => en = .returned (.bool false) ∧ w = w' := by
  obtain ⟨a, e, f, d⟩ := s
  obtain ⟨rfl, rfl⟩ := St.go_yes hg
  exact dec_done_going h
theorem c_idone_over {w : World} {g T : Nat} {s : St} {v : Value} {xs : List Int} {own : List Value} (hg : s.go = false) (h : Dec w g T s.a s.e s.f s.d v xs own) : Calls Try.prog 32 #[.pointer (some ⟨g, 0, none⟩)] w fun en w' => en = .returned (.bool (((xs.length : Nat) : Int) == 0)) ∧ w = w' := dec_done_over hg h
theorem cell_below {w w' : World} {a : Addr} {v : Value} (h : w.cell? a = some v) (hb : Below w.heap.size w w') : w'.cell? a = some v := (World.cell?_of_block (hb.block _ (World.block_lt_of_cell? w _ h))).trans h
theorem dec_of_ba {w w' : World} {g T : Nat} {s s' : St} {v : Value} {xs : List Int} {own : List Value} (h : Dec w g T s.a s.e s.f s.d v xs own) (hb : BA w' g T s' (v :: own)) (hk : Kp (fun k => k = g) w w') : Dec w' g T s'.a s'.e s'.f s'.d v xs own := h.of_bs hb hk
end Go.Proofs.Ytfknlgjfhdphjaa
