/- Texts of this claim, merged; without what the law does not lean on: Pm. -/
import Derived.Test.YtcgoofefiiihnaaGreatProg
import Derived.Test.YtcgoofefiiihnaaGreatOneZ2
import Derived.WalkKit
import Derived.WalkSpells
import Derived.KernelRfl
import Derived.Deep.QuietTactic
import Derived.BigQuiet
import Derived.Outline
import Derived.Lib.Hide
import Derived.Lib.ConvBytes
import Derived.Laws.BytesArg
import Derived.Deep.WholeRow
import Derived.Deep.MidRow
namespace Go.Proofs.YtcgoofefiiihnaaGreat
open Go.RowKit Go.Proofs.YtcgoofefiiihnaaGreatW.PrintWords Go.Proofs.YtcgoofefiiihnaaGreatW.PrintMore
set_option linter.unusedVariables false
set_option linter.unusedSimpArgs false
def TbAt (w : World) (g T : Nat) (A B : List Int) : Prop := w.heap[g]? = some (.cells (nums .u8 (A ++ B)).toArray T (0, 0)) ∧ A.length = 256 ∧ B.length = 256
theorem TbAt.ca {w : World} {g T : Nat} {A B : List Int} (h : TbAt w g T A B) (i : Nat) (hi : i < 256) : w.cell? ⟨g, i, none⟩ = some (.int .u8 (A.getD i 0)) := by
  rw [blk_cell h.1 i]
  have := h.2.1
  rw [nums, List.map_append]
  simp only [List.getElem?_toArray]
  rw [List.getElem?_append_left (by rw [List.length_map]; omega)]
  simp [List.getD_eq_getElem?_getD, List.getElem?_eq_getElem (show i < A.length by omega)]
theorem TbAt.cb {w : World} {g T : Nat} {A B : List Int} (h : TbAt w g T A B) (i : Nat) (hi : i < 256) : w.cell? ⟨g, 256 + i, none⟩ = some (.int .u8 (B.getD i 0)) := by
  rw [blk_cell h.1 (256 + i)]
  have h1 := h.2.1
  have h2 := h.2.2
  rw [nums, List.map_append]
  simp only [List.getElem?_toArray]
  rw [List.getElem?_append_right (by rw [List.length_map]; omega)]
  simp [List.getD_eq_getElem?_getD, h1, List.getElem?_eq_getElem (show i < B.length by omega)]
def Buf (w : World) (h : Nat) (xs : List Int) : Prop := ∃ C T a b, w.heap[h]? = some (.cells C T (a, b)) ∧ xs.length ≤ a ∧ ∀ j, j < xs.length → C[j]? = some (.int .u8 (xs.getD j 0))
section
variable {w : World} {h : Nat} {xs : List Int}
theorem Buf.cell (H : Buf w h xs) (j : Nat) (hj : j < xs.length) : w.cell? ⟨h, j, none⟩ = some (.int .u8 (xs.getD j 0)) := by
  obtain ⟨C, T, a, b, h1, h2, h3⟩ := H
  rw [cell_of_row w h j C T (a, b) h1]
  exact h3 j hj
theorem Buf.fz (H : Buf w h xs) (j : Nat) (hj : j < xs.length) : w.frozen? ⟨h, j, none⟩ = false := by
  obtain ⟨C, T, a, b, h1, h2, h3⟩ := H
  have : ¬ a ≤ j := by omega
  simp [World.frozen?, h1, this]
theorem Buf.lt (H : Buf w h xs) : h < w.heap.size := by
  obtain ⟨C, T, a, b, h1, h2, h3⟩ := H
  exact blk_lt h1
theorem Buf.set (H : Buf w h xs) (j : Nat) (v : Int) : Buf (w.setCell ⟨h, j, none⟩ (.int .u8 v)) h (xs.set j v) := by
  obtain ⟨C, T, a, b, h1, h2, h3⟩ := H
  refine ⟨C.setIfInBounds j (.int .u8 v), T, a, b, by simp [World.setCell, Array.getElem?_modify, h1], by rw [List.length_set]; exact h2, fun i hi => ?_⟩
  rw [List.length_set] at hi
  have h4 := h3 i hi
  have hC : i < C.size := (Array.getElem?_eq_some_iff.1 h4).1
  by_cases hij : j = i
  · subst hij
    rw [Array.getElem?_setIfInBounds_self_of_lt hC]
    simp [List.getD_eq_getElem?_getD, List.getElem?_set_self hi]
  · rw [Array.getElem?_setIfInBounds_ne hij, h4]
    simp [List.getD_eq_getElem?_getD, List.getElem?_set_ne hij]
theorem Buf.kp {w' : World} {F : Nat → Prop} (H : Buf w h xs) (k : Kp F w w') (hn : ¬ F h) : Buf w' h xs := by
  have hl := H.lt
  obtain ⟨C, T, a, b, h1, h2, h3⟩ := H
  exact ⟨C, T, a, b, by rw [k.block h hl hn]; exact h1, h2, h3⟩
end
theorem bytes_data (s : ByteArray) (j : Nat) : ((s.data.toList.getD j 0).toNat : Int) = (bytesOf s).getD j 0 := by
  rw [bytesOf, List.getD_eq_getElem?_getD, List.getD_eq_getElem?_getD, List.getElem?_map]
  cases s.data.toList[j]? <;> simp
theorem conv_buf (w : World) (s : ByteArray) : ∃ cap w1, (convert 9 82 (.string s)).run Tryz.prog w = .ok (.slice (some ⟨w.heap.size, 0, none⟩) s.size cap) w1 ∧ Buf w1 w.heap.size (bytesOf s) ∧ Below w.heap.size w w1 := by
  refine ⟨_, _, Lib.run_convert_string_bytes w 9 82 5 s Tryz.underlying9 Tryz.underlying82 Tryz.underlying5, ⟨_, _, _, _, Lib.bytesWorld_at_new w 5 s, ?_, fun j hj => ?_⟩, ?_⟩
  · simp [bytesOf_length, Lib.bytesCells]
  · rw [bytesOf_length] at hj
    rw [← bytes_data]
    have := Lib.bytesWorld_cell w 5 s j hj
    rw [cell_of_row _ _ j _ _ _ (Lib.bytesWorld_at_new w 5 s)] at this
    exact this
  · exact ⟨rfl, rfl, rfl, by rw [Lib.bytesWorld_size]; omega, fun k hk => Lib.bytesWorld_at_old w 5 s k hk⟩
def turnI (f : Int → Int) (xs : List Int) (i : Nat) : List Int := (xs.take i).map f ++ xs.drop i
theorem turnI_length (f : Int → Int) (xs : List Int) (i : Nat) : (turnI f xs i).length = xs.length := by
  simp only [turnI, List.length_append, List.length_map, List.length_take, List.length_drop]; omega
theorem turnI_zero (f : Int → Int) (xs : List Int) : turnI f xs 0 = xs := by simp [turnI]
theorem turnI_all (f : Int → Int) (xs : List Int) : turnI f xs xs.length = xs.map f := by simp [turnI]
theorem turnI_at (f : Int → Int) (xs : List Int) (i : Nat) (hi : i < xs.length) : (turnI f xs i).getD i 0 = xs.getD i 0 := by
  have hl : ((xs.take i).map f).length = i := by rw [List.length_map, List.length_take]; omega
  rw [turnI, List.getD_eq_getElem?_getD, List.getElem?_append_right (by omega), hl, Nat.sub_self, List.getElem?_drop, Nat.add_zero, List.getD_eq_getElem?_getD]
theorem turnI_set (f : Int → Int) (xs : List Int) (i : Nat) (hi : i < xs.length) : (turnI f xs i).set i (f (xs.getD i 0)) = turnI f xs (i + 1) := by
  have hl : ((xs.take i).map f).length = i := by rw [List.length_map, List.length_take]; omega
  rw [turnI, List.set_append_right _ _ (by omega), hl, Nat.sub_self, turnI, List.drop_eq_getElem_cons hi, List.set_cons_zero, List.take_add_one, List.getElem?_eq_getElem hi]
  simp only [List.getD_eq_getElem?_getD, List.getElem?_eq_getElem hi, Option.getD_some, Option.toList_some, List.map_append, List.map_cons, List.map_nil, List.append_assoc, List.singleton_append]
theorem getD_byte (s : ByteArray) (i : Nat) : 0 ≤ (bytesOf s).getD i 0 ∧ (bytesOf s).getD i 0 < 256 := by
  rw [← bytes_data]
  have := (s.data.toList.getD i 0).toNat_lt
  omega
def atB (A : List Int) (b : Int) : Int := A.getD b.toNat 0
set_option maxHeartbeats 4000000 in
theorem text_any {w : World} {g T : Nat} {A B : List Int} (s : ByteArray) (hs : s.size ≤ 100000) (h : TbAt w g T A B) : Calls Tryz.prog 236 #[.pointer (some ⟨g, 0, none⟩), .string s] w fun en w' => en = .returned (.string (strOfNums ((bytesOf s).map (atB A)))) ∧ Below w.heap.size w w' := by
  have HGL := Lib.hid (blk_lt h.1)
  obtain ⟨cap, w1, hcv, hbuf, hbel⟩ := conv_buf w s
  have HT : Hid (TbAt w1 g T A B) := Lib.hid ⟨by rw [hbel.block g (blk_lt h.1)]; exact h.1, h.2.1, h.2.2⟩
  have HB := Lib.hid hbel
  have HU : Hid (Buf w1 w.heap.size (turnI (atB A) (bytesOf s) 0)) := Lib.hid (by rw [turnI_zero]; exact hbuf)
  have hu9 := Tryz.underlying82
  clear h hbuf hbel
  go_enter Tryz.func236, Tryz.ntmps236
  go_wp2_with fail
  clear hcv
  generalize hh : w.heap.size = hb at *
  go_loopg [12] (s.size + 1) (fun q k wr => ∃ i : Nat, q + i = s.size + 1 ∧ i ≤ s.size ∧ k = .int .i64 i ∧ Hid (TbAt wr g T A B) ∧ Hid (Buf wr hb (turnI (atB A) (bytesOf s) i)) ∧ Hid (Below hb w wr))
  case atStart => exact ⟨0, rfl, Nat.zero_le _, rfl, HT, HU, HB⟩
  case round =>
    clear HT HU HB
    obtain ⟨i, hq, hle, rfl, HT, HU, HB⟩ := hrel
    have HQ := Lib.hid hq
    clear hq
    by_cases hi : i < s.size
    · have hi2 : (i : Int) < (s.size : Int) := by omega
      have hd : decide ((i : Int) < (s.size : Int)) = true := decide_eq_true hi2
      have h0i : (0 : Int) ≤ (i : Int) := by omega
      have c0 := HU.out.cell i (by rw [turnI_length, bytesOf_length]; exact hi)
      have f0 := HU.out.fz i (by rw [turnI_length, bytesOf_length]; exact hi)
      rw [turnI_at _ _ _ (by rw [bytesOf_length]; exact hi)] at c0
      have c1 := HT.out.ca ((bytesOf s).getD i 0).toNat (by have := getD_byte s i; omega)
      have hb0 := (getD_byte s i).1
      have hb1 := (getD_byte s i).2
      have HST : Hid (TbAt (wr.setCell ⟨hb, i, none⟩ (.int .u8 (A.getD ((bytesOf s).getD i 0).toNat 0))) g T A B) := Lib.hid ⟨by rw [blk_far HT.out.1 (by have := HGL.out; exact Nat.ne_of_lt this)], HT.out.2.1, HT.out.2.2⟩
      have HSU : Hid (Buf (wr.setCell ⟨hb, i, none⟩ (.int .u8 (A.getD ((bytesOf s).getD i 0).toNat 0))) hb (turnI (atB A) (bytesOf s) (i + 1))) := Lib.hid (by
        rw [← turnI_set _ _ _ (by rw [bytesOf_length]; exact hi)]
        exact HU.out.set i _)
      have HSB : Hid (Below hb w (wr.setCell ⟨hb, i, none⟩ (.int .u8 (A.getD ((bytesOf s).getD i 0).toNat 0)))) := Lib.hid (by have h9 := HB.out; rw [← hh] at h9 ⊢; exact below_set h9 (Nat.le_refl _))
      clear HT HU HB
      generalize hbb : (bytesOf s).getD i 0 = b at *
      go_wp2_with fail
      go_roundg (gk - 1)
      case measure => have := HQ.out; omega
      case rel => exact ⟨i + 1, by have := HQ.out; omega, by omega, by simp, HST, HSU, HSB⟩
    · obtain rfl : i = s.size := by omega
      have hd : decide ((s.size : Int) < (s.size : Int)) = false := by simp
      have hcv2 := run_convert_bytes_arg wr 82 5 Tryz.underlying82 Tryz.underlying5 hb 0 s.size cap ((bytesOf s).map (atB A)) (by rw [List.length_map, bytesOf_length]) (fun j hj => by
        have h9 := HU.out.cell j (by rw [turnI_length, bytesOf_length]; exact hj)
        have h8 := turnI_all (atB A) (bytesOf s)
        rw [bytesOf_length] at h8
        rw [h8] at h9
        rw [Nat.zero_add]
        exact h9) 9 Tryz.underlying9
      go_wp2_with fail
      go_ret
      exact ⟨rfl, by rw [hh]; exact HB.out⟩
section
variable {P : Program} {ops : Array Oper} {rest : List Oper} {o : Oper} {a : Act} {Q : Exit → Act → World → Prop}
theorem value_event {W w1 : World} {N : Tmp} {v : Value} (hgd : o.guard = none) (hN : o.dst = some N)
    (hrun : (execOp a.eval o).run P W = .ok (.value v) w1) (h : wpList P ops Q rest (a.put (some N) v) w1) : wpList P ops Q (o :: rest) a W := by
  refine wpList_plain hgd fun K hK => ?_
  unfold Oper.wp
  rw [hrun]
  show K (a.put o.dst v) w1
  rw [hN]
  exact hK _ _ h
theorem alloc_event {W : World} {N : Tmp} {ty : TypeId} {cs : Array Value} (hgd : o.guard = none) (hN : o.dst = some N) (ho : o.op = .alloc ty)
    (hz : (P.info? ty).map (fun i => (i.zero, i.size)) = some (some (.agg cs), cs.size)) (h : wpList P ops Q rest (a.put (some N) (.pointer (some ⟨W.heap.size, 0, none⟩))) (W.alloc (.cells cs ty))) : wpList P ops Q (o :: rest) a W := by
  refine value_event hgd hN (v := .pointer (some ⟨W.heap.size, 0, none⟩)) (w1 := W.alloc (.cells cs ty)) ?_ h
  have h1 := (zero_of_info (P := P) hz).1
  unfold execOp
  simp [ho, h1, Result.andThen, Instr.alloc, newVar, Value.cells, newRow]
theorem put_event {W : World} {x y : Operand} {ty t : TypeId} {g : Nat} {c c' : Array Value} (hgd : o.guard = none) (hN : o.dst = none) (ho : o.op = .store ty x y) (hx : a.eval x = .pointer (some ⟨g, 0, none⟩)) (hy : a.eval y = .agg c')
    (hg : W.heap[g]? = some (.cells c t (0, 0))) (hi : (P.info? ty).map (·.size) = some c'.size) (hoo : c'.size = c.size) (h1 : c'.all (·.oneCell') = true) (h : wpList P ops Q rest a (W.setRow g c')) : wpList P ops Q (o :: rest) a W := by
  refine wpList_plain hgd fun K hK => ?_
  unfold Oper.wp
  have hr : (execOp a.eval o).run P W = .ok .skip (W.setRow g c') := by
    unfold execOp
    simp [ho, hx, hy, Instr.storeAt, Instr.sureAddr, Result.andThen, run_storeVar_row W g t ty c c' hg hi hoo.symm h1]
  rw [hr]
  show K (a.put o.dst undef) (W.setRow g c')
  rw [hN]
  exact hK _ _ h
end
def knownL : List Int := [0, 1, 2, 3, 55, 45, 46, 47, 22, 5, 21, 11, 12, 13, 14, 15, 16, 17, 18, 19, 60, 61, 50, 38, 24, 25, 63, 39, 28, 29, 30, 31, 64, 90, 127, 123, 91, 108, 80, 125, 77, 93, 92, 78, 107, 96, 75, 97, 240, 241, 242, 243, 244, 245, 246, 247, 248, 249, 122, 94, 76, 126, 110, 111, 124, 193, 194, 195, 196, 197, 198, 199, 200, 201, 209, 210, 211, 212, 213, 214, 215, 216, 217, 226, 227, 228, 229, 230, 231, 232, 233, 173, 224, 189, 95, 109, 121, 129, 130, 131, 132, 133, 134, 135, 136, 137, 145, 146, 147, 148, 149, 150, 151, 152, 153, 162, 163, 164, 165, 166, 167, 168, 169, 192, 79, 208, 161, 7, 32, 33, 34, 35, 36, 37, 6, 23, 40, 41, 42, 43, 44, 9, 10, 27, 48, 49, 26, 51, 52, 53, 54, 8, 56, 57, 58, 59, 4, 20, 62, 255]
def knownC : Array Value := (nums .u8 knownL).toArray
theorem knownC_one : knownC.all (·.oneCell') = true := by decide +kernel
theorem zeroK : (Tryz.prog.info? 240).map (fun i => (i.zero, i.size)) = some (some (.agg (Array.replicate 160 (.int .u8 0))), (Array.replicate 160 (Value.int .u8 0)).size) := by kernel_rfl
set_option maxRecDepth 100000 in
theorem known_any {w : World} : Calls Tryz.prog 118 #[] w fun en w' => en = .returned (.agg knownC) ∧ Below w.heap.size w w' := by
  have HB := Lib.hid (Below.refl w.heap.size w)
  go_enter Tryz.func118, Tryz.ntmps118
  apply wp_seq_k; intro K1 h1
  apply wp_region_lit
  refine alloc_event rfl rfl rfl zeroK ?_
  apply wpList_nil
  refine h1 _ _ ?_
  clear h1 K1
  apply wp_seq_k; intro K1 h1
  apply wp_region_lit
  refine value_event (v := .agg knownC) (w1 := w.alloc (.cells (Array.replicate 160 (.int .u8 0)) 240)) rfl rfl (by kernel_rfl) ?_
  refine put_event (g := w.heap.size) (c' := knownC) rfl rfl rfl rfl rfl (heap_alloc_new w _) (by kernel_rfl) (by decide +kernel) knownC_one ?_
  rw [World.setRow_alloc_new]
  apply wpList_nil
  refine h1 _ _ ?_
  clear h1 K1
  apply wp_ret
  refine bodyPost_ret (v := .agg knownC) ?_ rfl ⟨rfl, ?_⟩
  · exact results_cell_row Tryz.results118 _ _ w.heap.size 240 knownC (0, 0) _ rfl (heap_alloc_new w _) Tryz.underlying240 rfl (by kernel_rfl)
  · exact (Below.refl _ _).alloc (Nat.le_refl _) _
theorem size5 (w : World) : (sizeOf 5).run Tryz.prog w = .ok 1 w := by kernel_rfl
theorem idx_run (w : World) (t : TypeId) (n : Nat) (ht : Tryz.prog.underlying t = some (.array n 5)) (xs : List Int) (hl : xs.length = n) (i : Nat) (hi : i < n) :
    (Instr.index t (.agg (nums .u8 xs).toArray) (.int .i64 (i : Int))).run Tryz.prog w = .ok (.int .u8 (xs.getD i 0)) w := by
  have h5 := size5 w
  have h6 := Tryz.underlying5
  have hc : (nums .u8 xs)[i]? = some (.int .u8 (xs.getD i 0)) := by
    rw [nums, List.getElem?_map, List.getD_eq_getElem?_getD, List.getElem?_eq_getElem (by omega)]; rfl
  simp only [Instr.index, asIntOf, Sem.run_bind, Sem.run_pure, Result.andThen_ok, run_underlying ht, h5]
  rw [if_pos ⟨by omega, by omega⟩]
  simp only [Sem.run_bind, h5, Result.andThen_ok]
  simp [part, isAgg, run_underlying h6, Result.andThen, hc]
def st1 : Nat → List Int × List Bool
  | 0 => (List.replicate 256 0, List.replicate 256 false)
  | i + 1 => ((st1 i).1.set i (knownL.getD i 0), (st1 i).2.set (knownL.getD i 0).toNat true)
def st2 : Nat → Nat × List Int
  | 0 => (160, (st1 160).1)
  | b + 1 => if (st1 160).2.getD b false = true then st2 b else ((st2 b).1 + 1, (st2 b).2.set (st2 b).1 (b : Int))
def toL : List Int := (st2 256).2
def st3 : Nat → List Int
  | 0 => List.replicate 256 0
  | i + 1 => (st3 i).set (toL.getD i 0).toNat (i : Int)
def fromL : List Int := st3 256
theorem known_range : ∀ i < 160, 0 ≤ knownL.getD i 0 ∧ knownL.getD i 0 < 256 := by decide +kernel
theorem knownL_length : knownL.length = 160 := by decide +kernel
theorem st1_len (i : Nat) : (st1 i).1.length = 256 ∧ (st1 i).2.length = 256 := by
  induction i with
  | zero => exact ⟨List.length_replicate, List.length_replicate⟩
  | succ i ih => simp [st1, ih.1, ih.2]
theorem st2_len (b : Nat) : (st2 b).2.length = 256 := by
  induction b with
  | zero => exact (st1_len 160).1
  | succ b ih =>
    rw [st2]
    split
    · exact ih
    · simp [ih]
theorem st2_mono (b d : Nat) : (st2 b).1 ≤ (st2 (b + d)).1 := by
  induction d with
  | zero => simp
  | succ d ih =>
    refine Nat.le_trans ih ?_
    rw [← Nat.add_assoc, st2]
    split <;> simp
theorem st2_end : (st2 256).1 = 256 := by decide +kernel
theorem st2_at (b : Nat) (hb : b < 256) (hn : (st1 160).2.getD b false = false) : (st2 b).1 < 256 := by
  have h := st2_mono (b + 1) (255 - b)
  rw [show b + 1 + (255 - b) = 256 by omega, st2_end, st2, hn] at h
  simp at h
  omega
theorem toL_range : ∀ i < 256, 0 ≤ toL.getD i 0 ∧ toL.getD i 0 < 256 := by decide +kernel
section
variable {P : Program} {ops : Array Oper} {rest : List Oper} {o : Oper} {a : Act} {Q : Exit → Act → World → Prop}
theorem box_event {W : World} {N : Tmp} {ty : TypeId} {x : Operand} {cs : Array Value} (hgd : o.guard = none) (hN : o.dst = some N) (ho : o.op = .box ty x) (hx : a.eval x = .agg cs)
    (h : wpList P ops Q rest (a.put (some N) (.pointer (some ⟨W.heap.size, 0, none⟩))) (W.alloc (.cells cs ty))) : wpList P ops Q (o :: rest) a W := by
  refine value_event hgd hN (v := .pointer (some ⟨W.heap.size, 0, none⟩)) (w1 := W.alloc (.cells cs ty)) ?_ h
  unfold execOp
  simp [ho, hx, Result.andThen, Instr.box, newVar, newRow, Value.cells]
end
def BlAt (w : World) (g T : Nat) (B : List Bool) : Prop := w.heap[g]? = some (.cells (B.map Value.bool).toArray T (0, 0)) ∧ B.length = 256
theorem BlAt.c {w : World} {g T : Nat} {B : List Bool} (h : BlAt w g T B) (i : Nat) (hi : i < 256) : w.cell? ⟨g, i, none⟩ = some (.bool (B.getD i false)) := by
  rw [blk_cell h.1 i]
  have := h.2
  simp [List.getD_eq_getElem?_getD, List.getElem?_eq_getElem (show i < B.length by omega)]
theorem BlAt.set {w : World} {g T : Nat} {B : List Bool} (h : BlAt w g T B) (i : Nat) (v : Bool) : BlAt (w.setCell ⟨g, i, none⟩ (.bool v)) g T (B.set i v) :=
  ⟨(blk_set h.1 i _).trans (by simp [List.map_set]), by rw [List.length_set]; exact h.2⟩
theorem BlAt.far {w : World} {g g' i T : Nat} {B : List Bool} (h : BlAt w g T B) (hn : g ≠ g') (v : Value) : BlAt (w.setCell ⟨g', i, none⟩ v) g T B := ⟨blk_far h.1 hn _, h.2⟩
section
variable {w : World} {g T : Nat} {A B : List Int}
theorem TbAt.seta (h : TbAt w g T A B) (i : Nat) (hi : i < 256) (v : Int) : TbAt (w.setCell ⟨g, i, none⟩ (.int .u8 v)) g T (A.set i v) B :=
  ⟨(blk_set h.1 i _).trans (by
    have := h.2.1
    simp only [nums, List.setIfInBounds_toArray]
    rw [← List.set_append_left _ _ (by omega), List.map_set]), by rw [List.length_set]; exact h.2.1, h.2.2⟩
theorem TbAt.setb (h : TbAt w g T A B) (i : Nat) (hi : i < 256) (v : Int) : TbAt (w.setCell ⟨g, 256 + i, none⟩ (.int .u8 v)) g T A (B.set i v) :=
  ⟨(blk_set h.1 (256 + i) _).trans (by
    have := h.2.1
    simp only [nums, List.setIfInBounds_toArray]
    rw [← List.map_set, List.set_append_right _ _ (by omega), this, Nat.add_sub_cancel_left]), h.2.1, by rw [List.length_set]; exact h.2.2⟩
theorem TbAt.far {g' i : Nat} (h : TbAt w g T A B) (hn : g ≠ g') (v : Value) : TbAt (w.setCell ⟨g', i, none⟩ v) g T A B := ⟨blk_far h.1 hn _, h.2⟩
theorem TbAt.fz (h : TbAt w g T A B) (i : Nat) : w.frozen? ⟨g, i, none⟩ = false := blk_frozen h.1 i
theorem TbAt.kp {w' : World} {F : Nat → Prop} (h : TbAt w g T A B) (k : Kp F w w') (hn : ¬ F g) : TbAt w' g T A B := ⟨k.blk h.1 hn, h.2⟩
end
theorem BlAt.kp {w w' : World} {g T : Nat} {B : List Bool} {F : Nat → Prop} (h : BlAt w g T B) (k : Kp F w w') (hn : ¬ F g) : BlAt w' g T B := ⟨k.blk h.1 hn, h.2⟩
def tabZ : Array Value := (nums .u8 (List.replicate 256 0 ++ List.replicate 256 0)).toArray
def flagZ : Array Value := ((List.replicate 256 false).map Value.bool).toArray
theorem zeroF : (Tryz.prog.info? 239).map (fun i => (i.zero, i.size)) = some (some (.agg flagZ), flagZ.size) := by kernel_rfl
set_option maxRecDepth 100000 in
set_option maxHeartbeats 4000000 in
theorem new_any {w : World} : Calls Tryz.prog 87 #[] w fun en w' => en = .returned (.pointer (some ⟨w.heap.size, 0, none⟩)) ∧ TbAt w' w.heap.size 238 toL fromL ∧ Below w.heap.size w w' := by
  have HB := Lib.hid (Below.refl w.heap.size w)
  go_enter Tryz.func87, Tryz.ntmps87
  go_wp2_with (first
    | ((with_reducible refine gate_dst (N := 10) rfl ?_); refine value_event (v := .agg tabZ) (w1 := w) rfl rfl (by kernel_rfl) ?_)
    | ((with_reducible refine gate_dst (N := 11) rfl ?_); refine box_event (cs := tabZ) rfl rfl rfl rfl ?_)
    | ((with_reducible refine gate_dst (N := 2) rfl ?_); refine alloc_event rfl rfl rfl zeroF ?_)
    | ((with_reducible refine gate_dst (N := 3) rfl ?_); refine alloc_event rfl rfl rfl zeroK ?_)
    | ((with_reducible refine gate_store (t := 240) (p := 3) rfl ?_); refine put_event (g := w1.heap.size) (c' := knownC) rfl rfl rfl rfl rfl (heap_alloc_new w1 _) (by kernel_rfl) (by decide +kernel) knownC_one ?_; rw [World.setRow_alloc_new])
    | ((with_reducible refine gate_dst (N := 13) rfl ?_); refine wpList_load_row rfl 240 _ rfl w1.heap.size rfl 240 knownC (0, 0) _ (heap_alloc_new w1 _) Tryz.underlying240 rfl (by kernel_rfl) ?_)
    | (go_at_call 118; refine known_any.mono ?_; rintro en w1 ⟨rfl, hb⟩))
  have hbt : ((w.alloc (.cells tabZ 238)).alloc (.cells flagZ 239)).heap[w.heap.size]? = some (.cells tabZ 238) := heap_alloc2_old w _ _
  have hbf : ((w.alloc (.cells tabZ 238)).alloc (.cells flagZ 239)).heap[w.heap.size + 1]? = some (.cells flagZ 239) := heap_alloc2_new w _ _
  have hs2 : ((w.alloc (.cells tabZ 238)).alloc (.cells flagZ 239)).heap.size = w.heap.size + 2 := by simp [World.alloc, -World.alloc_eq]
  have hb0 : Below w.heap.size w w1 := (((Below.refl _ _).alloc (Nat.le_refl _) _).alloc (by simp [World.alloc, -World.alloc_eq]) _).trans (hb.mono (by rw [hs2]; omega))
  rw [hs2] at hb
  have hk1 := hb.block w.heap.size (by omega)
  have hk2 := hb.block (w.heap.size + 1) (by omega)
  rw [hbt] at hk1
  rw [hbf] at hk2
  have hsz1 : w.heap.size + 2 ≤ w1.heap.size := by have := hb.size; rw [hs2] at this; exact this
  have hB2 : Below w.heap.size w (w1.alloc (.cells knownC 240)) := hb0.alloc (by omega) _
  have ht1 : (w1.alloc (.cells knownC 240)).heap[w.heap.size]? = some (.cells tabZ 238) := by rw [heap_alloc_old _ _ (by omega)]; exact hk1
  have ht2 : (w1.alloc (.cells knownC 240)).heap[w.heap.size + 1]? = some (.cells flagZ 239) := by rw [heap_alloc_old _ _ (by omega)]; exact hk2
  clear hb hb0 hk1 hk2 hbt hbf hs2 hsz1 HB
  generalize (w1.alloc (.cells knownC 240)) = w2 at *
  have HB := Lib.hid hB2
  have HT : Hid (TbAt w2 w.heap.size 238 (st1 0).1 (List.replicate 256 0)) := Lib.hid ⟨ht1, List.length_replicate, List.length_replicate⟩
  have HF : Hid (BlAt w2 (w.heap.size + 1) 239 (st1 0).2) := Lib.hid ⟨ht2, List.length_replicate⟩
  clear hB2 ht1 ht2
  generalize hg : w.heap.size = g at *
  go_loopg [14] 161 (fun q k wr => ∃ i : Nat, q + i = 161 ∧ i ≤ 160 ∧ k = .int .i64 i ∧ Hid (TbAt wr g 238 (st1 i).1 (List.replicate 256 0)) ∧ Hid (BlAt wr (g + 1) 239 (st1 i).2) ∧ Hid (Below g w wr))
  case atStart => exact ⟨0, rfl, Nat.zero_le _, rfl, HT, HF, HB⟩
  case round =>
    clear HT HF HB
    obtain ⟨i, hq, hle, rfl, HT, HF, HB⟩ := hrel
    have HQ := Lib.hid hq
    clear hq
    by_cases hi : i < 160
    · have hi2 : (i : Int) < 160 := by omega
      have h0i : (0 : Int) ≤ (i : Int) := by omega
      have hi3 : (i : Int) < 256 := by omega
      have hd : decide ((i : Int) < 160) = true := decide_eq_true hi2
      have hidx : ∀ w, (Instr.index 240 (.agg knownC) (.int .i64 (i : Int))).run Tryz.prog w = .ok (.int .u8 (knownL.getD i 0)) w := fun w => idx_run w 240 160 Tryz.underlying240 knownL knownL_length i hi
      have hk0 := (known_range i hi).1
      have hk1 := (known_range i hi).2
      have c0 := HT.out.ca i (by omega)
      have f0 := HT.out.fz i
      have HT1 : Hid (TbAt ((wr.setCell ⟨g, i, none⟩ (.int .u8 (knownL.getD i 0))).setCell ⟨g + 1, (knownL.getD i 0).toNat, none⟩ (.bool true)) g 238 (st1 (i + 1)).1 (List.replicate 256 0)) := Lib.hid ((HT.out.seta i (by omega) _).far (by omega) _)
      have hf1 := HF.out.far (g' := g) (i := i) (by omega) (.int .u8 (knownL.getD i 0))
      have c1 := hf1.c (knownL.getD i 0).toNat (by omega)
      have f1 := blk_frozen hf1.1 (knownL.getD i 0).toNat
      have HF1 : Hid (BlAt ((wr.setCell ⟨g, i, none⟩ (.int .u8 (knownL.getD i 0))).setCell ⟨g + 1, (knownL.getD i 0).toNat, none⟩ (.bool true)) (g + 1) 239 (st1 (i + 1)).2) := Lib.hid (hf1.set _ _)
      have HB1 : Hid (Below g w ((wr.setCell ⟨g, i, none⟩ (.int .u8 (knownL.getD i 0))).setCell ⟨g + 1, (knownL.getD i 0).toNat, none⟩ (.bool true))) := Lib.hid (by have h9 := HB.out; rw [← hg] at h9 ⊢; exact below_set (below_set h9 (Nat.le_refl _)) (by simp))
      clear HT HF HB hf1
      generalize hkk : knownL.getD i 0 = kk at *
      go_wp2_with fail
      go_roundg (gk - 1)
      case measure => have := HQ.out; omega
      case rel => exact ⟨i + 1, by have := HQ.out; omega, by omega, by simp, HT1, HF1, HB1⟩
    · obtain rfl : i = 160 := by omega
      have hd : decide ((160 : Int) < 160) = false := by simp
      go_wp2_with fail
      clear hd hi hle HQ
      have HT0 : Hid (TbAt wr g 238 (st2 0).2 (List.replicate 256 0)) := HT
      have HF0 := HF
      have HB0 := HB
      go_loopg [6, 27] 257 (fun q a k wr => ∃ b : Nat, q + b = 257 ∧ b ≤ 256 ∧ k = .int .i64 b ∧ a = .int .i64 ((st2 b).1 : Int) ∧ Hid (TbAt wr g 238 (st2 b).2 (List.replicate 256 0)) ∧ Hid (BlAt wr (g + 1) 239 (st1 160).2) ∧ Hid (Below g w wr))
      case atStart => exact ⟨0, rfl, Nat.zero_le _, rfl, rfl, HT0, HF0, HB0⟩
      case round =>
        clear HT0 HF0 HB0 HT HF HB
        obtain ⟨b, hq, hle, rfl, rfl, HT, HF, HB⟩ := hrel
        have HQ := Lib.hid hq
        clear hq
        by_cases hi : b < 256
        · have hi2 : (b : Int) < 256 := by omega
          have h0i : (0 : Int) ≤ (b : Int) := by omega
          have hd : decide ((b : Int) < 256) = true := decide_eq_true hi2
          have c1 := HF.out.c b hi
          by_cases ht : (st1 160).2.getD b false = true
          · have hst : st2 (b + 1) = st2 b := by rw [st2, if_pos ht]
            rw [ht] at c1
            clear ht
            have HST := Lib.hid hst
            clear hst
            generalize hat : ((st2 b).1 : Int) = at2 at *
            go_wp2_with fail
            go_roundg (gk - 1)
            case measure => have := HQ.out; omega
            case rel => exact ⟨b + 1, by have := HQ.out; omega, by omega, by simp, by rw [HST.out, hat], by rw [HST.out]; exact HT, HF, HB⟩
          · have ht0 : (st1 160).2.getD b false = false := by simpa using ht
            have hlt := st2_at b hi ht0
            have hst : st2 (b + 1) = ((st2 b).1 + 1, (st2 b).2.set (st2 b).1 (b : Int)) := by rw [st2, if_neg ht]
            have c0 := HT.out.ca (st2 b).1 hlt
            have f0 := HT.out.fz (st2 b).1
            rw [ht0] at c1
            clear ht ht0
            have HT1 : Hid (TbAt (wr.setCell ⟨g, (st2 b).1, none⟩ (.int .u8 (b : Int))) g 238 (st2 (b + 1)).2 (List.replicate 256 0)) := Lib.hid (by rw [hst]; exact HT.out.seta _ hlt _)
            have HF1 : Hid (BlAt (wr.setCell ⟨g, (st2 b).1, none⟩ (.int .u8 (b : Int))) (g + 1) 239 (st1 160).2) := Lib.hid (HF.out.far (by omega) _)
            have HB1 : Hid (Below g w (wr.setCell ⟨g, (st2 b).1, none⟩ (.int .u8 (b : Int)))) := Lib.hid (by have h9 := HB.out; rw [← hg] at h9 ⊢; exact below_set h9 (Nat.le_refl _))
            have HST : Hid ((st2 (b + 1)).1 = (st2 b).1 + 1) := Lib.hid (by rw [hst])
            clear HT HF HB hst
            generalize hat : (st2 b).1 = at2 at *
            have hlt2 : (at2 : Int) < 256 := by omega
            have hlt3 : (0 : Int) ≤ at2 := by omega
            have hmb : (b : Int) % 256 = b := by omega
            go_wp2_with fail
            go_roundg (gk - 1)
            case measure => have := HQ.out; omega
            case rel => exact ⟨b + 1, by have := HQ.out; omega, by omega, by simp, by rw [HST.out]; simp, HT1, HF1, HB1⟩
        · obtain rfl : b = 256 := by omega
          have hd : decide ((256 : Int) < 256) = false := by simp
          have hrange : wr.rangeAt g 0 (nums .u8 toL) := fun j v hj => by
            have hjl : j < 256 := by
              rcases Nat.lt_or_ge j 256 with h9 | h9
              · exact h9
              · rw [List.getElem?_eq_none (by rw [nums, List.length_map, toL, st2_len]; exact h9)] at hj; cases hj
            rw [Nat.zero_add, HT.out.ca j hjl, ← hj, nums, toL, List.getElem?_map, List.getElem?_eq_getElem (by rw [st2_len]; exact hjl), List.getD_eq_getElem?_getD, List.getElem?_eq_getElem (by rw [st2_len]; exact hjl)]
            rfl
          have HR := Lib.hid hrange
          clear hrange
          go_wp2_with ((with_reducible refine gate_dst (N := 47) rfl ?_); refine wpList_load_mid rfl 236 _ rfl g 0 rfl (nums .u8 toL) _ HR.out Tryz.underlying236 rfl (by kernel_rfl) ?_)
          clear hd hi hle HQ HR
          have HT0 : Hid (TbAt wr g 238 toL (st3 0)) := HT
          have HB0 := HB
          clear HF HT HB
          generalize hzz : (nums IntKind.u8 toL).toArray = arrT at *
          go_loopg [48] 257 (fun q k wr => ∃ b : Nat, q + b = 257 ∧ b ≤ 256 ∧ k = .int .i64 b ∧ Hid (TbAt wr g 238 toL (st3 b)) ∧ Hid (Below g w wr))
          case atStart => exact ⟨0, rfl, Nat.zero_le _, rfl, HT0, HB0⟩
          case round =>
            clear HT0 HB0
            obtain ⟨b, hq, hle, rfl, HT, HB⟩ := hrel
            have HQ := Lib.hid hq
            clear hq
            by_cases hi : b < 256
            · have hi2 : (b : Int) < 256 := by omega
              have h0i : (0 : Int) ≤ (b : Int) := by omega
              have hd : decide ((b : Int) < 256) = true := decide_eq_true hi2
              have hidx : ∀ w, (Instr.index 236 (.agg arrT) (.int .i64 (b : Int))).run Tryz.prog w = .ok (.int .u8 (toL.getD b 0)) w := fun w => by rw [← hzz]; exact idx_run w 236 256 Tryz.underlying236 toL HT.out.2.1 b hi
              have hk0 := (toL_range b hi).1
              have hk1 := (toL_range b hi).2
              have c0 := HT.out.cb (toL.getD b 0).toNat (by omega)
              have f0 := HT.out.fz (256 + (toL.getD b 0).toNat)
              have HT1 : Hid (TbAt (wr.setCell ⟨g, 256 + (toL.getD b 0).toNat, none⟩ (.int .u8 (b : Int))) g 238 toL (st3 (b + 1))) := Lib.hid (HT.out.setb _ (by omega) _)
              have HB1 : Hid (Below g w (wr.setCell ⟨g, 256 + (toL.getD b 0).toNat, none⟩ (.int .u8 (b : Int)))) := Lib.hid (by have h9 := HB.out; rw [← hg] at h9 ⊢; exact below_set h9 (Nat.le_refl _))
              have hmb : (b : Int) % 256 = b := by omega
              have HZ := Lib.hid hzz
              clear HT HB hzz
              generalize hkk : toL.getD b 0 = kk at *
              go_wp2_with fail
              go_roundg (gk - 1)
              case measure => have := HQ.out; omega
              case rel => exact ⟨b + 1, by have := HQ.out; omega, by omega, by simp, HT1, HB1⟩
            · obtain rfl : b = 256 := by omega
              have hd : decide ((256 : Int) < 256) = false := by simp
              have HZ := Lib.hid hzz
              clear hzz
              go_wp2_with fail
              go_ret
              rw [hg]
              exact ⟨rfl, HT.out, HB.out⟩
end Go.Proofs.YtcgoofefiiihnaaGreat
