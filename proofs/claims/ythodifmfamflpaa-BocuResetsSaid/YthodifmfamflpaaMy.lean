/- Words on worlds for this seat's proofs: what a call keeps but for some blocks; the cells of a machine. No program in it. -/
import Derived.Test.YthodifmfamflpaaWMore
namespace Go.Proofs.Ythodifmfamflpaa
open Go.RowKit Go.Proofs.YthodifmfamflpaaW.PrintWords
set_option linter.unusedVariables false

/-- All but the blocks of F, and what is new, is as it was. -/
structure Kp (F : Nat → Prop) (w w' : World) : Prop where
  os : w'.os = w.os
  tape : w'.tape = w.tape
  output : w'.output = w.output
  size : w.heap.size ≤ w'.heap.size
  block : ∀ k, k < w.heap.size → ¬ F k → w'.heap[k]? = w.heap[k]?
theorem Kp.refl (F : Nat → Prop) (w : World) : Kp F w w := ⟨rfl, rfl, rfl, Nat.le_refl _, fun _ _ _ => rfl⟩
theorem Kp.trans {F F1 : Nat → Prop} {w w1 w2 : World} (h : Kp F w w1) (k : Kp F1 w1 w2) (hs : ∀ k, F1 k → F k ∨ w.heap.size ≤ k) : Kp F w w2 :=
  ⟨k.os.trans h.os, k.tape.trans h.tape, k.output.trans h.output, Nat.le_trans h.size k.size, fun i hi hn => (k.block i (Nat.lt_of_lt_of_le hi h.size) (fun h1 => (hs i h1).elim hn (fun h2 => by omega))).trans (h.block i hi hn)⟩
theorem Kp.tr {F : Nat → Prop} {w w1 w2 : World} (h : Kp F w w1) (k : Kp F w1 w2) : Kp F w w2 := h.trans k (fun _ hk => .inl hk)
theorem Kp.mono {F F1 : Nat → Prop} {w w1 : World} (h : Kp F w w1) (hs : ∀ k, F k → F1 k ∨ w.heap.size ≤ k) : Kp F1 w w1 :=
  (Kp.refl F1 w).trans h hs
theorem Kp.below {F : Nat → Prop} {w w1 : World} (h : Kp F w w1) {B : Nat} (hB : B ≤ w.heap.size) (hF : ∀ k, F k → B ≤ k) : Below B w w1 :=
  ⟨h.os, h.tape, h.output, h.size, fun k hk => h.block k (by omega) (fun hf => by have := hF k hf; omega)⟩
theorem Kp.of_below {F : Nat → Prop} {w w1 : World} (h : Below w.heap.size w w1) : Kp F w w1 := ⟨h.os, h.tape, h.output, h.size, fun k hk _ => h.block k hk⟩
theorem Kp.of_grown {F : Nat → Prop} {w w1 : World} {row : Option Nat} (h : w.grownBy w1 row) (hr : ∀ k, row = some k → F k) : Kp F w w1 :=
  ⟨h.os, h.tape, h.output, h.size, fun k hk hn => h.block k hk (fun he => hn (hr k he.symm))⟩
theorem Kp.set {F : Nat → Prop} {w w1 : World} (h : Kp F w w1) {p : Addr} (hp : F p.block ∨ w.heap.size ≤ p.block) (u : Value) : Kp F w (w1.setCell p u) :=
  h.trans (F1 := fun k => k = p.block) ⟨rfl, rfl, rfl, by simp [World.setCell], fun i _ hn => Below.heap_setCell w1 p u i hn⟩ (fun k hk => by rw [hk]; exact hp)
theorem Kp.setg {g : Nat} {w w1 : World} (h : Kp (fun k => k = g) w w1) (j : Nat) (u : Value) : Kp (fun k => k = g) w (w1.setCell ⟨g, j, none⟩ u) := h.set (p := ⟨g, j, none⟩) (.inl rfl) u
theorem Kp.alloc {F : Nat → Prop} {w w1 : World} (h : Kp F w w1) (o : Obj) : Kp F w (w1.alloc o) :=
  h.trans (F1 := F) (Kp.of_below (below_alloc (Below.refl _ _) o)) (fun _ hk => .inl hk)
theorem Kp.drew {F : Nat → Prop} {w w1 : World} (h : Kp F w w1) : Kp F w w1.drew := ⟨h.os, h.tape, h.output, h.size, h.block⟩
theorem Kp.drewN {F : Nat → Prop} {w w1 : World} (h : Kp F w w1) (n : Nat) : Kp F w (w1.drewN n) := ⟨h.os, h.tape, h.output, h.size, h.block⟩
theorem Kp.blk {F : Nat → Prop} {w w1 : World} (h : Kp F w w1) {k : Nat} {o : Obj} (hb : w.heap[k]? = some o) (hn : ¬ F k) : w1.heap[k]? = some o := (h.block k (blk_lt hb) hn).trans hb
theorem Kp.q {F : Nat → Prop} {w w1 : World} (h : Kp F w w1) {base e size n : Nat} {v : Value} {xs : List Value} (hq : QRow w base e size v n xs) (hn : ∀ k, v.ownBlock = some k → ¬ F k) : QRow w1 base e size v n xs :=
  q_move hq (fun k hk => h.block k (q_lt hq k hk) (hn k hk))
theorem Kp.own {F : Nat → Prop} {w w1 : World} (h : Kp F w w1) {base e size n : Nat} {v : Value} {xs : List Value} (hq : w.ownsRow base e size v n xs) (hn : ∀ k, v.ownBlock = some k → ¬ F k) : w1.ownsRow base e size v n xs :=
  own_move hq (fun k hk => h.block k (own_lt hq k hk) (hn k hk))

theorem set_set (w : World) (g o : Nat) (v v' : Value) : (w.setCell ⟨g, o, none⟩ v).setCell ⟨g, o, none⟩ v' = w.setCell ⟨g, o, none⟩ v' := by
  have hh : ((w.setCell ⟨g, o, none⟩ v).setCell ⟨g, o, none⟩ v').heap = (w.setCell ⟨g, o, none⟩ v').heap := by
    apply Array.ext_getElem?
    intro i
    simp only [World.setCell, Array.getElem?_modify]
    by_cases h : g = i
    · subst h
      simp only [if_true]
      cases w.heap[g]? with
      | none => rfl
      | some ob => cases ob <;> simp
    · simp [h]
  unfold World.setCell at hh ⊢
  simp only at hh ⊢
  rw [hh]

/-- The cells of a Base, and what lies behind it. -/
def bs (a e f : Int) (d : Bool) (rest : List Value) : Array Value := (Value.int .i64 a :: Value.int .i64 e :: Value.int .i64 f :: Value.bool d :: rest).toArray
abbrev BsAt (w : World) (g T : Nat) (a e f : Int) (d : Bool) (rest : List Value) : Prop := w.heap[g]? = some (.cells (bs a e f d rest) T (0, 0))
section
variable {w : World} {g T : Nat} {a e f : Int} {d : Bool} {rest : List Value}
theorem BsAt.c0 (h : BsAt w g T a e f d rest) : w.cell? ⟨g, 0, none⟩ = some (.int .i64 a) := (blk_cell h 0).trans rfl
theorem BsAt.c1 (h : BsAt w g T a e f d rest) : w.cell? ⟨g, 1, none⟩ = some (.int .i64 e) := (blk_cell h 1).trans rfl
theorem BsAt.c2 (h : BsAt w g T a e f d rest) : w.cell? ⟨g, 2, none⟩ = some (.int .i64 f) := (blk_cell h 2).trans rfl
theorem BsAt.c3 (h : BsAt w g T a e f d rest) : w.cell? ⟨g, 3, none⟩ = some (.bool d) := (blk_cell h 3).trans rfl
theorem BsAt.cr (h : BsAt w g T a e f d rest) (i : Nat) : w.cell? ⟨g, 4 + i, none⟩ = rest[i]? := by
  rw [blk_cell h (4 + i), bs, show 4 + i = i + 4 by omega]
  simp
theorem BsAt.fz (h : BsAt w g T a e f d rest) (i : Nat) : w.frozen? ⟨g, i, none⟩ = false := blk_frozen h i
theorem BsAt.set0 (h : BsAt w g T a e f d rest) (x : Int) : BsAt (w.setCell ⟨g, 0, none⟩ (.int .i64 x)) g T x e f d rest := (blk_set h 0 _).trans (by simp [bs])
theorem BsAt.set1 (h : BsAt w g T a e f d rest) (x : Int) : BsAt (w.setCell ⟨g, 1, none⟩ (.int .i64 x)) g T a x f d rest := (blk_set h 1 _).trans (by simp [bs])
theorem BsAt.set2 (h : BsAt w g T a e f d rest) (x : Int) : BsAt (w.setCell ⟨g, 2, none⟩ (.int .i64 x)) g T a e x d rest := (blk_set h 2 _).trans (by simp [bs])
theorem BsAt.set3 (h : BsAt w g T a e f d rest) (x : Bool) : BsAt (w.setCell ⟨g, 3, none⟩ (.bool x)) g T a e f x rest := (blk_set h 3 _).trans (by simp [bs])
theorem BsAt.setr (h : BsAt w g T a e f d rest) (i : Nat) (u : Value) : BsAt (w.setCell ⟨g, 4 + i, none⟩ u) g T a e f d (rest.set i u) := (blk_set h (4 + i) _).trans (by
  rw [bs, bs, show 4 + i = i + 4 by omega]; simp)
theorem BsAt.lt (h : BsAt w g T a e f d rest) : g < w.heap.size := blk_lt h
end

/-! ### append(v, ys...): v a row that may begin inside its block, ys a slice that is read (nil and empty let in) -/
section
variable {P : Program}
theorem append_zero (t e ty : TypeId) (i0 : TypeInfo) (ht : P.underlying t = some (.slice e)) (hi : P.info? e = some i0) (B A : Option Addr) (n cap c : Nat) (hnc : n ≤ cap) (W : World) :
    (Builtin.append_ #[t, t] ty #[.slice B n cap, .slice A 0 c]).run P W = .ok (.slice B n cap) W := by
  cases A <;> cases B <;> simp [Builtin.append_, run_underlying ht, sizeOf, typeInfo, hi, Builtin.lenOf, Builtin.firstCells, hnc, storeCells, loadCells, loadCellsFrom]
theorem q_append_any (W : World) (base : Nat) (t ty e : TypeId) (k : IntKind) (bytes : Nat) (ht : P.underlying t = some (.slice e)) (hinfo : (P.info? e).map (fun i => (i.zero, i.size, i.bytes)) = some (some (.int k 0), 1, bytes))
    (v : Value) (xs ys : List Int) (A : Option Addr) (m c : Nat) (HO : QRow W base e 1 v xs.length (nums k xs)) (HR : ReadsInt W k A m ys) (hb0 : 0 < bytes) (hbase : base ≤ W.heap.size) (hl : (xs.length + m) * bytes ≤ 140737488355328) :
    ∃ v1 w1, (Builtin.append_ #[t, t] ty #[v, .slice A m c]).run P W = .ok v1 w1 ∧ QRow w1 base e 1 v1 (xs.length + ys.length) (nums k (xs ++ ys)) ∧ W.grownBy w1 v.ownBlock ∧ (v1.ownBlock = v.ownBlock ∨ ∃ b, v1.ownBlock = some b ∧ W.heap.size ≤ b) := by
  obtain ⟨i0, hi, hzz⟩ := Option.map_eq_some_iff.1 hinfo
  simp only [Prod.mk.injEq] at hzz
  obtain ⟨hz0, hz1, hz2⟩ := hzz
  have hm : ys.length = m := HR.1
  by_cases h0 : m = 0
  · subst h0
    obtain rfl : ys = [] := List.eq_nil_of_length_eq_zero hm
    obtain ⟨B, cap, rfl, hnc⟩ := q_slice HO
    exact ⟨_, W, append_zero t e ty i0 ht hi B A _ cap c hnc W, by simpa using HO, World.grownBy.refl W _, .inl rfl⟩
  · obtain ⟨ad, rfl, hc⟩ := HR.2.2 (by omega)
    have hlen : xs.length + m ≤ 140737488355328 := Nat.le_trans (Nat.le_mul_of_pos_right _ hb0) hl
    have hcells : ∀ j u, (nums k ys)[j]? = some u → W.cell? (ad.add j) = some u := by
      intro j u hu
      have hj : j < ys.length := by
        rcases Nat.lt_or_ge j ys.length with h | h
        · exact h
        · simp [nums, List.getElem?_eq_none h] at hu
      have := hc j (by omega)
      rw [this]
      simp only [nums, List.getElem?_map, List.getElem?_eq_getElem hj, Option.map_some, Option.some.injEq] at hu
      rw [← hu, List.getD_eq_getElem?_getD, List.getElem?_eq_getElem hj]
      rfl
    obtain ⟨v1, w1, hr, h2, h3, h4⟩ := q_append (P := P) W base t ty e i0 (.int k 0) 1 bytes ht hi hz0 hz1 hz2 rfl (by omega) v xs.length (nums k xs) HO ad m c (nums k ys) (by simp [nums, hm]) hcells
      (by intro u hu; simp only [nums, List.mem_map] at hu; obtain ⟨q, _, rfl⟩ := hu; rfl) (by omega) (by simp only [maxLen]; omega) hl hbase
    exact ⟨v1, w1, hr, by simpa [nums, hm] using h2, h3, h4⟩
theorem q_reads {w : World} {base e n c : Nat} {k : IntKind} {A : Option Addr} {xs : List Int} (h : QRow w base e 1 (.slice A n c) n (nums k xs)) : ReadsInt w k A n xs := by
  have hl : xs.length = n := by have := h.1; simpa [nums] using this
  refine ⟨hl, q_max h, fun hn => ?_⟩
  obtain ⟨ad, he, hc⟩ := q_cells h hn
  refine ⟨ad, he, fun j hj => hc j _ ?_⟩
  rw [nums, List.getElem?_map, List.getD_eq_getElem?_getD, List.getElem?_eq_getElem (by omega)]
  rfl
theorem nums_take (k : IntKind) (xs : List Int) (j : Nat) : (nums k xs).take (j * 1) = nums k (xs.take j) := by rw [Nat.mul_one, nums, nums, List.map_take]
theorem nums_drop (k : IntKind) (xs : List Int) (j : Nat) : (nums k xs).drop (j * 1) = nums k (xs.drop j) := by rw [Nat.mul_one, nums, nums, List.map_drop]
variable {ops : Array Oper} {rest : List Oper} {o : Oper} {a : Act} {Q : Exit → Act → World → Prop} {W : World}
theorem wp_qapp (base : Nat) (hgd : o.guard = none) (s x : Operand) (t e : TypeId) (k : IntKind) (bytes : Nat) (ho : o.op = .call { callee := .builtin .append, args := #[s, x], argTypes := #[t, t] })
    (ht : P.underlying t = some (.slice e)) (hinfo : (P.info? e).map (fun i => (i.zero, i.size, i.bytes)) = some (some (.int k 0), 1, bytes)) (hb0 : 0 < bytes)
    (v : Value) (xs ys : List Int) (A : Option Addr) (m c : Nat) (hs : a.eval s = v) (hx : a.eval x = .slice A m c) (HO : QRow W base e 1 v xs.length (nums k xs)) (HR : ReadsInt W k A m ys) (hbase : base ≤ W.heap.size) (hl : (xs.length + m) * bytes ≤ 140737488355328)
    (h : ∀ v1 w1, QRow w1 base e 1 v1 (xs.length + ys.length) (nums k (xs ++ ys)) → W.grownBy w1 v.ownBlock → (v1.ownBlock = v.ownBlock ∨ ∃ b, v1.ownBlock = some b ∧ W.heap.size ≤ b) → wpList P ops Q rest (a.put o.dst v1) w1) :
    wpList P ops Q (o :: rest) a W := by
  obtain ⟨v1, w1, hr, h1, h2, h3⟩ := q_append_any (P := P) W base t o.type e k bytes ht hinfo v xs ys A m c HO HR hb0 hbase hl
  refine wpList_plain hgd fun K hK => ?_
  unfold Oper.wp execOp
  simp only [ho, resolve, invoke, builtin, Sem.run_bind, Sem.run_pure, Result.andThen_ok, List.map_toArray, List.map_cons, List.map_nil, hs, hx, hr]
  exact hK _ _ (h v1 w1 h1 h2 h3)
end
theorem add_block (ad : Addr) (j : Nat) : (ad.add j).block = ad.block := by unfold Addr.add; split <;> rfl
/-- What is read stands behind a call that turns other blocks alone. -/
theorem reads_kp {w w' : World} {F : Nat → Prop} {k : IntKind} {A : Option Addr} {n : Nat} {xs : List Int} (h : ReadsInt w k A n xs) (hk : Kp F w w') (hn : ∀ ad, A = some ad → ¬ F ad.block) : ReadsInt w' k A n xs :=
  ⟨h.1, h.2.1, fun h0 => by
    obtain ⟨ad, he, hc⟩ := h.2.2 h0
    refine ⟨ad, he, fun j hj => ?_⟩
    have hcj := hc j hj
    have hlt := World.block_lt_of_cell? w _ hcj
    rw [add_block] at hlt
    rw [← hcj]
    exact World.cell?_of_block (by rw [add_block]; exact hk.block _ hlt (hn ad he))⟩
theorem extract_to (s : ByteArray) (n : Nat) (h : n ≤ s.size) : (s.extract 0 n).size = n ∧ bytesOf (s.extract 0 n) = (bytesOf s).take n ∧ ∀ k : Nat, k < n → bt (s.extract 0 n) k = bt s k := by
  have h1 : (s.extract 0 n).size = n := by rw [ByteArray.size_extract]; omega
  have h2 : bytesOf (s.extract 0 n) = (bytesOf s).take n := by
    rw [bytesOf, bytesOf, ByteArray.data_extract, Array.toList_extract, List.extract_eq_take_drop, List.drop_zero, Nat.sub_zero, List.map_take]
  refine ⟨h1, h2, fun k hk => ?_⟩
  rw [← rd_bytesOf, ← rd_bytesOf, h2, rd, rd, Int.toNat_natCast, List.getD_eq_getElem?_getD, List.getD_eq_getElem?_getD, List.getElem?_take, if_pos hk]
theorem extract_from (s : ByteArray) (n : Nat) (h : n ≤ s.size) : (s.extract n s.size).size = s.size - n ∧ bytesOf (s.extract n s.size) = (bytesOf s).drop n := by
  have h1 : (s.extract n s.size).size = s.size - n := by rw [ByteArray.size_extract]; omega
  refine ⟨h1, ?_⟩
  have hz := data_length s
  rw [bytesOf, bytesOf, ByteArray.data_extract, Array.toList_extract, List.extract_eq_take_drop, ← List.map_drop, List.take_of_length_le (by rw [List.length_drop]; omega)]
theorem isEmpty_size (s : ByteArray) : s.toList.isEmpty = decide (s.size = 0) := by
  have hz := data_length s
  rw [ByteArray.toList_eq, ← hz]
  cases s.data.toList <;> simp
end Go.Proofs.Ythodifmfamflpaa
