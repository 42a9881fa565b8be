/- A machine that eats bytes, and one that eats scalars, as predicates on worlds; what package step's functions do to them. -/
import Derived.Test.YthodifmfamflpaaStepb
namespace Go.Proofs.Ythodifmfamflpaa
open Go.RowKit Go.Proofs.YthodifmfamflpaaW.PrintWords Go.Proofs.YthodifmfamflpaaW.PrintMore
set_option linter.unusedVariables false
set_option linter.unusedSimpArgs false
/-- A machine that eats bytes at block g: its Base, the scalars xs that wait (in the slice v), its own cells. -/
structure Dec (w : World) (g T : Nat) (a e f : Int) (d : Bool) (v : Value) (xs : List Int) (own : List Value) : Prop where
  bs : BsAt w g T a e f d (v :: own)
  q : QRow w 0 34 1 v xs.length (nums .u32 xs)
  ne : v.ownBlock ≠ some g
/-- What a call on such a machine may turn: its block, its row's; where the row lies then. -/
structure Stp (w : World) (g : Nat) (v : Value) (w' : World) (v' : Value) : Prop where
  kp : Kp (fun k => k = g ∨ v.ownBlock = some k) w w'
  mv : ∀ k, v'.ownBlock = some k → v.ownBlock = some k ∨ w.heap.size ≤ k
theorem Stp.refl (w : World) (g : Nat) (v : Value) : Stp w g v w v := ⟨Kp.refl _ _, fun _ h => .inl h⟩
theorem Stp.trans {w w1 w2 : World} {g : Nat} {v v1 v2 : Value} (h : Stp w g v w1 v1) (k : Stp w1 g v1 w2 v2) : Stp w g v w2 v2 :=
  ⟨h.kp.trans k.kp (fun i hi => hi.elim (fun h1 => .inl (.inl h1)) (fun h1 => (h.mv i h1).elim (fun h2 => .inl (.inr h2)) .inr)),
   fun i hi => (k.mv i hi).elim (fun h1 => h.mv i h1) (fun h1 => .inr (Nat.le_trans h.kp.size h1))⟩
theorem Stp.below {w w1 : World} {g : Nat} {v v1 : Value} (h : Stp w g v w1 v1) {w2 : World} (hb : Below w1.heap.size w1 w2) : Stp w g v w2 v1 :=
  ⟨h.kp.trans (F1 := fun _ => False) (Kp.of_below hb) (fun _ hk => hk.elim), h.mv⟩
theorem Stp.mine {w w1 : World} {g : Nat} {v : Value} (h : Kp (fun k => k = g) w w1) : Stp w g v w1 v := ⟨h.mono (fun _ hk => .inl (.inl hk)), fun _ hk => .inl hk⟩
/-- What neither is the machine's nor new is as it was. -/
theorem Stp.keeps {w w1 : World} {g : Nat} {v v1 : Value} (h : Stp w g v w1 v1) {k : Nat} {o : Obj} (hb : w.heap[k]? = some o) (hg : k ≠ g) (hv : v.ownBlock ≠ some k) : w1.heap[k]? = some o :=
  h.kp.blk hb (fun hk => hk.elim hg (fun h2 => hv h2))
section
variable {w : World} {g T : Nat} {a e f : Int} {d : Bool} {v : Value} {xs : List Int} {own : List Value}
theorem Dec.lt (h : Dec w g T a e f d v xs own) : g < w.heap.size := h.bs.lt
theorem Dec.c4 (h : Dec w g T a e f d v xs own) : w.cell? ⟨g, 4, none⟩ = some v := h.bs.cr 0
theorem Dec.co (h : Dec w g T a e f d v xs own) (i : Nat) : w.cell? ⟨g, 5 + i, none⟩ = own[i]? := by
  have := h.bs.cr (1 + i)
  rw [show 5 + i = 4 + (1 + i) by omega, this, show 1 + i = i + 1 by omega]
  rfl
theorem Dec.fz (h : Dec w g T a e f d v xs own) (i : Nat) : w.frozen? ⟨g, i, none⟩ = false := h.bs.fz i
theorem Dec.below (h : Dec w g T a e f d v xs own) {w' : World} (hb : Below w.heap.size w w') : Dec w' g T a e f d v xs own :=
  ⟨blk_below h.bs hb, q_move h.q (fun k hk => hb.block k (q_lt h.q k hk)), h.ne⟩
theorem Dec.drew (h : Dec w g T a e f d v xs own) : Dec w.drew g T a e f d v xs own := ⟨h.bs, h.q, h.ne⟩
theorem Dec.drewN (h : Dec w g T a e f d v xs own) (n : Nat) : Dec (w.drewN n) g T a e f d v xs own := ⟨h.bs, h.q, h.ne⟩
/-- It stands behind whatever turns neither its block nor its row's. -/
theorem Dec.kept (h : Dec w g T a e f d v xs own) {w' : World} {F : Nat → Prop} (hk : Kp F w w') (hg : ¬ F g) (hv : ∀ k, v.ownBlock = some k → ¬ F k) : Dec w' g T a e f d v xs own :=
  ⟨hk.blk h.bs hg, hk.q h.q hv, h.ne⟩
theorem Dec.set (h : Dec w g T a e f d v xs own) (i : Nat) (u : Value) : Dec (w.setCell ⟨g, 5 + i, none⟩ u) g T a e f d v xs (own.set i u) :=
  ⟨by have := h.bs.setr (1 + i) u
      rw [show 5 + i = 4 + (1 + i) by omega, show 1 + i = i + 1 by omega] at *
      exact this, q_move h.q (fun k hk => Below.heap_setCell w ⟨g, 5 + i, none⟩ u k (fun hkg => h.ne (by rw [hk]; exact congrArg some hkg))), h.ne⟩
theorem Dec.stpset (w : World) (g : Nat) (v : Value) (i : Nat) (u : Value) : Stp w g v (w.setCell ⟨g, i, none⟩ u) v := Stp.mine ((Kp.refl _ _).setg _ _)
theorem dec_at (h : Dec w g T a e f d v xs own) : Calls Try.prog 25 #[.pointer (some ⟨g, 0, none⟩)] w fun en w' => en = .returned (.int .i64 a) ∧ w = w' := at_any h.bs
theorem dec_fail (h : Dec w g T a e f d v xs own) : Calls Try.prog 23 #[.pointer (some ⟨g, 0, none⟩)] w fun en w' => en = .returned (.agg #[.int .i64 e, .int .i64 f]) ∧ Below w.heap.size w w' := fail_any h.bs
theorem dec_held (h : Dec w g T a e f d v xs own) : Calls Try.prog 41 #[.pointer (some ⟨g, 4, none⟩)] w fun en w' => en = .returned (.int .i64 xs.length) ∧ w = w' := by
  obtain ⟨A, c, rfl, _⟩ := q_slice h.q
  exact held_any h.c4
theorem dec_done_going (h : Dec w g T a 0 f false v xs own) : Calls Try.prog 37 #[.pointer (some ⟨g, 0, none⟩)] w fun en w' => en = .returned (.bool false) ∧ w = w' := by
  obtain ⟨A, c, rfl, _⟩ := q_slice h.q
  exact idone_going h.bs
theorem dec_done_over (hn : (e == 0 && !d) = false) (h : Dec w g T a e f d v xs own) : Calls Try.prog 37 #[.pointer (some ⟨g, 0, none⟩)] w fun en w' => en = .returned (.bool (((xs.length : Nat) : Int) == 0)) ∧ w = w' := by
  obtain ⟨A, c, rfl, _⟩ := q_slice h.q
  exact idone_over hn h.bs
theorem Dec.of_bs {w' : World} {a' e' f' : Int} {d' : Bool} (h : Dec w g T a e f d v xs own) (hb : BsAt w' g T a' e' f' d' (v :: own)) (hk : Kp (fun k => k = g) w w') : Dec w' g T a' e' f' d' v xs own :=
  ⟨hb, hk.q h.q (fun k hk he => h.ne (by rw [hk, he])), h.ne⟩
theorem dec_eat (n : Int) (h0 : 0 ≤ a) (h1 : a ≤ 1152921504606846976) (hp : 0 ≤ n) (hn : n ≤ 1125899906842624) (h : Dec w g T a 0 f false v xs own) :
    Calls Try.prog 45 #[.pointer (some ⟨g, 0, none⟩), .int .i64 n] w fun en w' => en = .returned (.tuple #[]) ∧ Dec w' g T (a + n) 0 f false v xs own ∧ Stp w g v w' v :=
  (eat_pos n hp h0 h1 hn h.bs).mono fun en w' ⟨he, hb, hk⟩ => ⟨he, h.of_bs hb hk, Stp.mine hk⟩
theorem dec_eat_neg (n : Int) (h0 : 0 ≤ a) (h1 : a ≤ 1152921504606846976) (hp : n < 0) (h : Dec w g T a 0 f false v xs own) :
    Calls Try.prog 45 #[.pointer (some ⟨g, 0, none⟩), .int .i64 n] w fun en w' => en = .returned (.tuple #[]) ∧ Dec w' g T a 0 f false v xs own ∧ Stp w g v w' v :=
  (eat_neg n hp h0 h1 h.bs).mono fun en w' ⟨he, hb, hk⟩ => ⟨he, h.of_bs hb hk, Stp.mine hk⟩
theorem dec_stop (n : Int) (hn : (n == 0) = false) (h : Dec w g T a 0 f false v xs own) :
    Calls Try.prog 44 #[.pointer (some ⟨g, 0, none⟩), .int .i64 n] w fun en w' => en = .returned (.tuple #[]) ∧ Dec w' g T a n a false v xs own ∧ Stp w g v w' v :=
  (stop_yes n hn h.bs).mono fun en w' ⟨he, hb, hk⟩ => ⟨he, h.of_bs hb hk, Stp.mine hk⟩
theorem dec_end (h : Dec w g T a 0 f false v xs own) :
    Calls Try.prog 34 #[.pointer (some ⟨g, 0, none⟩)] w fun en w' => en = .returned (.tuple #[]) ∧ Dec w' g T a 0 f true v xs own ∧ Stp w g v w' v :=
  (end_yes h.bs).mono fun en w' ⟨he, hb, hk⟩ => ⟨he, h.of_bs hb hk, Stp.mine hk⟩
theorem dec_hold {A : Option Addr} {m c : Nat} {ys : List Int} (hr : ReadsInt w .u32 A m ys) (hl : xs.length + m ≤ 1073741824) (h : Dec w g T a e f d v xs own) :
    Calls Try.prog 55 #[.pointer (some ⟨g, 4, none⟩), .slice A m c] w fun en w' => en = .returned (.tuple #[]) ∧ ∃ v', Dec w' g T a e f d v' (xs ++ ys) own ∧ Stp w g v w' v' := by
  refine (hold_any h.c4 (h.fz 4) h.q h.ne hr hl).mono ?_
  rintro en w' ⟨rfl, v1, w1, rfl, hq, hg, hat⟩
  have hgl := h.lt
  have hv1 : ∀ k, v1.ownBlock = some k → v.ownBlock = some k ∨ w.heap.size ≤ k := by
    intro k hk
    rcases hat with hat | ⟨b, hb, hle⟩
    · exact .inl (hat ▸ hk)
    · rw [hb] at hk; injection hk with hk; exact .inr (hk ▸ hle)
  have hne1 : v1.ownBlock ≠ some g := fun hk => (hv1 g hk).elim h.ne (fun h2 => by omega)
  have hb1 : BsAt w1 g T a e f d (v :: own) := blk_grown h.bs hg (fun he => h.ne he.symm)
  refine ⟨rfl, v1, ⟨hb1.setr 0 v1, ?_, hne1⟩, ?_, hv1⟩
  · rw [List.length_append]
    exact q_move hq (fun k hk => Below.heap_setCell w1 ⟨g, 4, none⟩ v1 k (fun he => hne1 (by rw [hk]; exact congrArg some he)))
  · exact (Kp.of_grown hg (fun k hk => .inr hk)).set (p := ⟨g, 4, none⟩) (.inl (.inl rfl)) v1
theorem box_reads (W : World) (x : Int) : ReadsInt (W.alloc (.cells #[.int .u32 x] 34)) .u32 (some ⟨W.heap.size, 0, none⟩) 1 [x] :=
  ⟨rfl, by omega, fun _ => ⟨_, rfl, fun j hj => by
    obtain rfl : j = 0 := by omega
    rw [add_plain]
    exact (blk_cell (blk_new W _) 0).trans rfl⟩⟩
theorem dec_hold_one {n : Nat} (x : Int) (hn : w.heap.size = n) (hl : xs.length + 1 ≤ 1073741824) (h : Dec w g T a e f d v xs own) :
    Calls Try.prog 55 #[.pointer (some ⟨g, 4, none⟩), .slice (some ⟨n, 0, none⟩) 1 1] (w.alloc (.cells #[.int .u32 x] 34)) fun en w' => en = .returned (.tuple #[]) ∧ ∃ v', Dec w' g T a e f d v' (xs ++ [x]) own ∧ Stp w g v w' v' := by
  subst hn
  have hb : Below w.heap.size w (w.alloc (.cells #[.int .u32 x] 34)) := below_alloc (Below.refl _ _) _
  refine (dec_hold (box_reads w x) hl (h.below hb)).mono ?_
  rintro en w' ⟨he, v', hd, hs⟩
  exact ⟨he, v', hd, (Stp.refl w g v).below hb |>.trans hs⟩
theorem dec_tell (room : Int) (hl : xs.length ≤ 1073741824) (h : Dec w g T a e f d v xs own) :
    Calls Try.prog 46 #[.pointer (some ⟨g, 4, none⟩), .int .i64 room] w fun en w' => ∃ r v', en = .returned r ∧ Dec w' g T a e f d v' (xs.drop (min room.toNat xs.length)) own ∧
      w'.ownsRow w.heap.size 34 1 r (xs.take (min room.toNat xs.length)).length (nums .u32 (xs.take (min room.toNat xs.length))) ∧ Stp w g v w' v' ∧ (xs.length ≤ room.toNat → v' = .slice none 0 0) := by
  refine (tell_any room h.c4 (h.fz 4) h.q hl).mono ?_
  rintro en w' ⟨r, v1, w1, rfl, rfl, ho, hb, hq, hat, hnil⟩
  have hgl := h.lt
  have hv1 : ∀ k, v1.ownBlock = some k → v.ownBlock = some k := by
    intro k hk
    rcases hat with hat | hat
    · exact hat ▸ hk
    · rw [hat] at hk; cases hk
  have hne1 : v1.ownBlock ≠ some g := fun hk => h.ne (hv1 g hk)
  have hb1 : BsAt w1 g T a e f d (v :: own) := blk_below h.bs hb
  refine ⟨r, v1, rfl, ⟨hb1.setr 0 v1, ?_, hne1⟩, ?_, ⟨?_, fun k hk => .inl (hv1 k hk)⟩, fun hr => hnil (by omega)⟩
  · rw [List.length_drop]
    exact q_move hq (fun k hk => Below.heap_setCell w1 ⟨g, 4, none⟩ v1 k (fun he => hne1 (by rw [hk]; exact congrArg some he)))
  · exact own_setCell ho (fun he => by have := own_base ho g he.symm; omega) v1
  · exact (Kp.of_below hb).set (p := ⟨g, 4, none⟩) (.inl (.inl rfl)) v1
end
/-- A machine that eats scalars at block g: its Base, the bytes that wait, its own cells. -/
abbrev Enc (w : World) (g T : Nat) (a e f : Int) (d : Bool) (s : ByteArray) (own : List Value) : Prop := BsAt w g T a e f d (.string s :: own)
section
variable {w : World} {g T : Nat} {a e f : Int} {d : Bool} {s : ByteArray} {own : List Value}
theorem enc_c4 (h : Enc w g T a e f d s own) : w.cell? ⟨g, 4, none⟩ = some (.string s) := h.cr 0
theorem enc_co (h : Enc w g T a e f d s own) (i : Nat) : w.cell? ⟨g, 5 + i, none⟩ = own[i]? := by
  have := h.cr (1 + i)
  rw [show 5 + i = 4 + (1 + i) by omega, this, show 1 + i = i + 1 by omega]
  rfl
theorem enc_set (h : Enc w g T a e f d s own) (i : Nat) (u : Value) : Enc (w.setCell ⟨g, 5 + i, none⟩ u) g T a e f d s (own.set i u) := by
  have := h.setr (1 + i) u
  rw [show 5 + i = 4 + (1 + i) by omega, show 1 + i = i + 1 by omega] at *
  exact this
theorem enc_keep {u : ByteArray} (hl : s.size + u.size ≤ 1073741824) (h : Enc w g T a e f d s own) :
    Calls Try.prog 49 #[.pointer (some ⟨g, 4, none⟩), .string u] w fun en w' => en = .returned (.tuple #[]) ∧ Enc w' g T a e f d (s ++ u) own ∧ Kp (fun k => k = g) w w' := by
  refine (keep_any (enc_c4 h) (h.fz 4) hl).mono ?_
  rintro en w' ⟨rfl, rfl⟩
  exact ⟨rfl, h.setr 0 _, (Kp.refl _ _).setg _ _⟩
theorem enc_give (room : Int) (hl : s.size ≤ 1073741824) (h : Enc w g T a e f d s own) :
    Calls Try.prog 47 #[.pointer (some ⟨g, 4, none⟩), .int .i64 room] w fun en w' => ∃ x y, en = .returned (.string x) ∧ Enc w' g T a e f d y own ∧ Kp (fun k => k = g) w w' ∧ Given s room x y := by
  refine (give_any room (enc_c4 h) (h.fz 4) hl).mono ?_
  rintro en w' ⟨x, y, rfl, rfl, hg⟩
  exact ⟨x, y, rfl, h.setr 0 _, (Kp.refl _ _).setg _ _, hg⟩
theorem enc_kept (h : Enc w g T a e f d s own) : Calls Try.prog 27 #[.pointer (some ⟨g, 4, none⟩)] w fun en w' => en = .returned (.int .i64 s.size) ∧ w = w' := kept_any (enc_c4 h)
end
end Go.Proofs.Ythodifmfamflpaa
