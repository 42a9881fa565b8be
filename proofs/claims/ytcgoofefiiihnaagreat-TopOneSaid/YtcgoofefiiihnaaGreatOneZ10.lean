/- Texts of this claim, merged; without what the law does not lean on: Bl Nm Cr Nf. -/
import Derived.Shelf.Strings.Builder1
import Derived.Test.YtcgoofefiiihnaaGreatOneZ7
namespace Go.Proofs.YtcgoofefiiihnaaGreat
open Go.RowKit Go.Shelf Go.Proofs.YtcgoofefiiihnaaGreatW.PrintWords Go.Proofs.YtcgoofefiiihnaaGreatW.PrintMore
set_option linter.unusedVariables false
set_option linter.unusedSimpArgs false
def bren : Ren where
  f := fun | 169 => 39 | 170 => 37 | n => n
  t := fun | 70 => 81 | 9 => 9 | 0 => 0 | 72 => 84 | 37 => 82 | 127 => 147 | 3 => 3 | 5 => 5 | n => n
  g := fun n => n
theorem lays169 : Lays.n169 Tryz.prog bren where
  mixed := rfl
  f169 := Eq.trans Tryz.func39 (congrArg some rfl)
  t0 := Tryz.underlying0
  a0 := Tryz.isAgg0
  z0 := Tryz.sizeOf0
  v0 := Tryz.zeroValue0
  t3 := Tryz.underlying3
  a3 := Tryz.isAgg3
  z3 := Tryz.sizeOf3
  v3 := Tryz.zeroValue3
  t9 := Tryz.underlying9
  a9 := Tryz.isAgg9
  z9 := Tryz.sizeOf9
  v9 := Tryz.zeroValue9
  t37 := Tryz.underlying82
  a37 := Tryz.isAgg82
  z37 := Tryz.sizeOf82
  v37 := Tryz.zeroValue82
  t70 := Tryz.underlying81
  a70 := Tryz.isAgg81
  z70 := Tryz.sizeOf81
  v70 := Tryz.zeroValue81
  t72 := Tryz.underlying84
  a72 := Tryz.isAgg84
  z72 := Tryz.sizeOf84
  v72 := Tryz.zeroValue84
  t127 := Tryz.underlying147
  a127 := Tryz.isAgg147
  z127 := Tryz.sizeOf147
  v127 := Tryz.zeroValue147
theorem bextra : Builder.Extra Tryz.prog bren where
  sizeBuilder := by kernel_rfl
  liesBuilder := by kernel_rfl
  t5 := Tryz.underlying5
  a5 := Tryz.isAgg5
  z5 := Tryz.sizeOf5
  v5 := Tryz.zeroValue5
  infoByte := by kernel_rfl
  cellsByte := by kernel_rfl
  sizeByte := by kernel_rfl
  neB5 := by decide
abbrev IsBl (B b : Nat) (bs : List Value) (w : World) : Prop := Lib.IsBuilder 84 5 B b bs w
abbrev BlP (B b : Nat) (bs : List Value) (w : World) : Prop := Lib.BuilderAt 84 5 B b (.pointer (some ⟨b, 0, none⟩)) bs w
theorem bl_string (B b : Nat) (l : List UInt8) (w : World) (h : IsBl B b (Lib.byteCells l) w) (hBw : B ≤ w.heap.size) :
    Calls Tryz.prog 39 #[.pointer (some ⟨b, 0, none⟩)] w fun e w' => e = .returned (.string ⟨l.toArray⟩) ∧ Below B w w' := Any.Builder_String_any lays169 bextra B b l w h hBw
set_option maxRecDepth 100000 in
theorem bl_copy_used (b : Nat) (w : World) (h0 : w.cell? ⟨b, 0, none⟩ = some (.pointer (some ⟨b, 0, none⟩))) :
    Calls Tryz.prog 74 #[.pointer (some ⟨b, 0, none⟩)] w fun e w' => e = .returned (.tuple #[]) ∧ w' = w := by
  obtain ⟨j, hj, _⟩ := Option.map_eq_some_iff.1 bextra.sizeBuilder
  go_enter Tryz.func74, Tryz.ntmps74
  go_wp2
  rw [Lib.run_neq_ptr_same w _ Tryz.underlying81 hj]
  go_wp2
  go_end0
  exact ⟨rfl, rfl⟩
set_option maxHeartbeats 1000000 in
set_option maxRecDepth 100000 in
theorem bl_copy_fresh (b : Nat) (w : World) (h0 : w.cell? ⟨b, 0, none⟩ = some (.pointer none)) (hsh : w.shape? b = some (84, 2)) (hfz : w.frozen? ⟨b, 0, none⟩ = false) :
    Calls Tryz.prog 74 #[.pointer (some ⟨b, 0, none⟩)] w fun e w' => e = .returned (.tuple #[]) ∧ w' = w.setCell ⟨b, 0, none⟩ (.pointer (some ⟨b, 0, none⟩)) := by
  obtain ⟨j, hj, hjs⟩ := Option.map_eq_some_iff.1 bextra.sizeBuilder
  go_enter Tryz.func74, Tryz.ntmps74
  go_wp2
  rw [Lib.run_to_unsafe w ⟨b, 0, none⟩ Tryz.underlying81 Tryz.underlying224 hj (by rw [hjs]; decide) hsh (Nat.zero_lt_succ 1)]
  simp only [Result.andThen]
  rw [Oper.upon_value]
  go_wp2
  rw [run_callFunc_extern Tryz.func107 (by kernel_rfl) (by kernel_rfl) (by kernel_rfl) (e := Extern.AbiNoEscape.same) (by kernel_rfl)]
  rw [Lib.run_noEscape]
  simp only [Result.andThen]
  rw [Oper.upon_value]
  go_wp2
  rw [Lib.run_from_unsafe w ⟨b, 0, none⟩ Tryz.underlying224 Tryz.underlying81 hj hsh bextra.liesBuilder]
  simp only [Result.andThen]
  rw [Oper.upon_value]
  go_wp2
  go_end0
  exact ⟨rfl, rfl⟩
theorem bl_copy (B b : Nat) (bs : List Value) (w : World) (h : IsBl B b bs w) :
    Calls Tryz.prog 74 #[.pointer (some ⟨b, 0, none⟩)] w fun e w' => e = .returned (.tuple #[]) ∧ (BlP B b bs w' ∧ Below B w w') := by
  rcases h with h | h
  · refine (bl_copy_fresh b w h.cell0 h.shape h.frozen0).mono ?_
    rintro e w' ⟨rfl, rfl⟩
    exact ⟨rfl, h.used _, (Below.refl B w).setCell (p := ⟨b, 0, none⟩) h.1 _⟩
  · refine (bl_copy_used b w h.cell0).mono ?_
    rintro e w' ⟨rfl, rfl⟩
    exact ⟨rfl, h, Below.refl B _⟩
set_option maxHeartbeats 2000000 in
set_option maxRecDepth 100000 in
theorem bl_write (B b : Nat) (bs : List Value) (s : ByteArray) (w : World) (h : IsBl B b bs w) (hlen : bs.length + s.size ≤ 140737488355328) (hBw : B ≤ w.heap.size) :
    Calls Tryz.prog 38 #[.pointer (some ⟨b, 0, none⟩), .string s] w fun e w' => e = .returned (.tuple #[.int .i64 s.size, .nilIface]) ∧ (BlP B b (bs ++ Lib.strCells s) w' ∧ Below B w w') := by
  obtain ⟨i0, hi, hz0, hz1, hz2⟩ := info_parts bextra.infoByte
  go_enter Tryz.func38, Tryz.ntmps38
  go_wp2_with fail
  refine (bl_copy B b bs _ h).mono ?_
  rintro e w1 ⟨rfl, h1, hb1⟩
  obtain ⟨hB, v, hbk, hown, hne⟩ := h1
  have c0 : w1.cell? ⟨b, 0, none⟩ = some (.pointer (some ⟨b, 0, none⟩)) := by rw [Lib.cell_of_heap hbk]; rfl
  have c1 : w1.cell? ⟨b, 1, none⟩ = some v := by rw [Lib.cell_of_heap hbk]; rfl
  go_wp2_with (at_builtin; refine Lib.wpList_append_own_string _ rfl _ _ 82 9 rfl B 5 i0 Tryz.underlying82 Tryz.underlying9 hi hz0 hz1 hz2 _ _ _ rfl hown s rfl ?c3 ?c4 ?c5 ?_)
  case c3 => unfold maxLen; omega
  case c4 => omega
  case c5 => have := hb1.size; omega
  intro v' w2 hown' hgrow _
  have hlt : b < w1.heap.size := by
    rcases Nat.lt_or_ge b w1.heap.size with h' | h'
    · exact h'
    · simp [Array.getElem?_eq_none h'] at hbk
  have hb2 : w2.heap[b]? = some (.cells #[.pointer (some ⟨b, 0, none⟩), v] 84 (0, 0)) := by
    rw [hgrow.block b hlt (fun e => hne e.symm)]
    exact hbk
  have d0 : w2.cell? ⟨b, 0, none⟩ = some (.pointer (some ⟨b, 0, none⟩)) := by rw [Lib.cell_of_heap hb2]; rfl
  have d1 : w2.cell? ⟨b, 1, none⟩ = some v := by rw [Lib.cell_of_heap hb2]; rfl
  have f1 : w2.frozen? ⟨b, 1, none⟩ = false := Lib.frozen_of_heap hb2 1
  obtain ⟨ao, n', cap, rfl⟩ : ∃ ao n' cap, v' = .slice ao n' cap := by
    rcases hown'.2 with ⟨hv, _⟩ | ⟨g, cap, cur, hv, _⟩
    · exact ⟨_, _, _, hv⟩
    · exact ⟨_, _, _, hv⟩
  go_wp2
  go_ret2
  refine ⟨rfl, ?_, ?_⟩
  · exact Lib.BuilderAt.put (T := 84) (e := 5) hB hb2 (bs' := bs ++ Lib.strCells s) (by simpa [Lib.strCells_length] using hown') (by decide)
  · exact (hb1.grown hgrow (by have := hb1.size; omega) (fun k hk => (hown.lt k hk).1)).setCell (p := ⟨b, 1, none⟩) hB _
theorem bl_new (w : World) : IsBl w.heap.size w.heap.size [] (w.alloc (.cells #[.pointer none, .slice none 0 0] 84)) :=
  .inl ⟨Nat.le_refl _, .slice none 0 0, blk_new _ _, own_nil _ _ _ _, fun h => by cases h⟩
theorem bl_kp {B b : Nat} {bs : List Value} {w w' : World} {F : Nat → Prop} (h : IsBl B b bs w) (hk : Kp F w w') (hF : ∀ k, F k → k < B) : IsBl B b bs w' := by
  have key : ∀ {p : Value}, Lib.BuilderAt 84 5 B b p bs w → Lib.BuilderAt 84 5 B b p bs w' := by
    rintro p ⟨hB, v, hb, hown, hne⟩
    exact ⟨hB, v, hk.blk hb (fun hf => by have := hF b hf; omega), hk.own hown (fun k hk' hf => by have := own_base hown k hk'; have := hF k hf; omega), hne⟩
  exact h.elim (fun h => .inl (key h)) (fun h => .inr (key h))
theorem blk_under {w w' : World} {B k : Nat} {o : Obj} (h : w.heap[k]? = some o) (hb : Below B w w') (hk : k < B) : w'.heap[k]? = some o := (hb.block k hk).trans h
end Go.Proofs.YtcgoofefiiihnaaGreat
namespace Go.Proofs.YtcgoofefiiihnaaGreat
open Go.RowKit Go.Proofs.YtcgoofefiiihnaaGreatW.PrintWords Go.Proofs.YtcgoofefiiihnaaGreatW.PrintMore
set_option linter.unusedVariables false
set_option linter.unusedSimpArgs false
set_option maxRecDepth 20000
set_option maxHeartbeats 4000000 in
theorem name_any (c : Int) (w : World) (h0 : -4611686018427387904 ≤ c) (h1 : c ≤ 4611686018427387904) :
    Calls Tryz.prog 40 #[.int .i64 c] w fun en w' => ∃ t : ByteArray, en = .returned (.string t) ∧ (t.size = 0 ↔ ¬ (1 ≤ c ∧ c ≤ 10)) ∧ Below w.heap.size w w' := by
  go_enter Tryz.func40, Tryz.ntmps40
  by_cases hc : 1 ≤ c ∧ c ≤ 10
  · obtain ⟨a, b⟩ := hc
    have : c = 1 ∨ c = 2 ∨ c = 3 ∨ c = 4 ∨ c = 5 ∨ c = 6 ∨ c = 7 ∨ c = 8 ∨ c = 9 ∨ c = 10 := by omega
    clear h0 h1 a b
    rcases this with rfl | rfl | rfl | rfl | rfl | rfl | rfl | rfl | rfl | rfl
    all_goals
      go_wp2_with fail
      go_ret
      exact ⟨_, rfl, by decide, (Below.refl w.heap.size w).alloc (Nat.le_refl _) _⟩
  · by_cases h3 : c < 1
    · go_wp2_with fail
      go_ret
      exact ⟨_, rfl, ⟨fun _ => hc, fun _ => rfl⟩, (Below.refl w.heap.size w).alloc (Nat.le_refl _) _⟩
    · have h4 : 10 < c := by omega
      go_wp2_with fail
      go_ret
      exact ⟨_, rfl, by constructor <;> intro _ <;> first | exact hc | rfl, (Below.refl w.heap.size w).alloc (Nat.le_refl _) _⟩
end Go.Proofs.YtcgoofefiiihnaaGreat
namespace Go.Proofs.YtcgoofefiiihnaaGreat
open Go.RowKit Go.Proofs.YtcgoofefiiihnaaGreatW.PrintWords Go.Proofs.YtcgoofefiiihnaaGreatW.PrintMore
set_option linter.unusedVariables false
set_option linter.unusedSimpArgs false
set_option maxRecDepth 20000
def bitF (y : Int) : Int := bits .xor .u32 (y / 2) (bits .and .u32 3988292384 (-bits .and .u32 y 1 % 4294967296))
def itF : Nat → Int → Int
  | 0, y => y
  | n + 1, y => bitF (itF n y)
def roundF (y c : Int) : Int := itF 8 (bits .xor .u32 y (c % 4294967296))
def notF (y : Int) : Int := bits .xor .u32 IntKind.u32.max y
def addF (x : Int) (l : List Int) : Int := notF (l.foldl roundF (notF x))
theorem take_snoc (t : ByteArray) (k : Nat) (h : k < t.size) : (bytesOf t).take (k + 1) = (bytesOf t).take k ++ [((t[k]'h).toNat : Int)] := by
  have e : (bytesOf t)[k]? = some ((t[k]'h).toNat : Int) := by
    rw [bytesOf]
    simp [h]
    rfl
  rw [List.take_add_one, e]
  rfl
set_option maxHeartbeats 4000000 in
theorem add_any (b : Nat) (x0 : Int) (t : ByteArray) (w : World) (ht : t.size ≤ 1000000) (h : w.heap[b]? = some (.cells #[.int .u32 x0] 256 (0, 0))) :
    Calls Tryz.prog 131 #[.pointer (some ⟨b, 0, none⟩), .string t] w fun en w' => en = .returned (.tuple #[]) ∧ w' = w.setCell ⟨b, 0, none⟩ (.int .u32 (addF x0 (bytesOf t))) := by
  have c0 : w.cell? ⟨b, 0, none⟩ = some (.int .u32 x0) := by rw [Lib.cell_of_heap h]; rfl
  have f0 : w.frozen? ⟨b, 0, none⟩ = false := Lib.frozen_of_heap h 0
  clear h
  go_enter Tryz.func131, Tryz.ntmps131
  go_wp2_with fail
  go_loopw [4, 5, 23] (fun x i j wr => ∃ k : Nat, k ≤ t.size ∧ i = .int .i64 k ∧ x = .int .u32 (((bytesOf t).take k).foldl roundF (notF x0)) ∧ wr = w) (fun _ i _ _ => t.size - (intOf i).toNat)
  case atStart => exact ⟨0, Nat.zero_le _, rfl, rfl, rfl⟩
  case round =>
    obtain ⟨k, hk, rfl, rfl, rfl⟩ := hrel
    by_cases hlt : k < t.size
    · have hts := take_snoc t k hlt
      generalize hy : ((bytesOf t).take k).foldl roundF (notF x0) = y at *
      have HY := Lib.hid hy
      have HTS := Lib.hid hts
      clear hy hts
      go_wp2_with fail
      go_loopw [4, 23] (fun x j wr2 => ∃ k2 : Nat, k2 ≤ 8 ∧ j = .int .i64 k2 ∧ x = .int .u32 (itF k2 (bits .xor .u32 y (((t[k]'hlt).toNat : Int) % 4294967296))) ∧ wr2 = wr) (fun _ i _ => 8 - (intOf i).toNat)
      case atStart => exact ⟨0, by omega, rfl, rfl, rfl⟩
      case round =>
        obtain ⟨k2, hk2, rfl, rfl, rfl⟩ := hrel
        by_cases hlt2 : k2 < 8
        · go_wp2_with fail
          exact ⟨⟨k2 + 1, hlt2, rfl, rfl, trivial⟩, by simp only [intOf]; omega⟩
        · have e8 : k2 = 8 := by omega
          subst e8
          go_wp2_with fail
          refine ⟨⟨k + 1, hlt, rfl, ?_, trivial⟩, by simp only [intOf]; omega⟩
          rw [HTS.out, List.foldl_append, HY.out]
          rfl
    · have ek : k = t.size := by omega
      subst ek
      have el : (bytesOf t).take t.size = bytesOf t := List.take_of_length_le (by rw [bytesOf_length]; exact Nat.le_refl _)
      rw [el]
      generalize hy : (bytesOf t).foldl roundF (notF x0) = y at *
      go_wp2_with fail
      go_end0
      exact ⟨rfl, by rw [addF, hy]; rfl⟩
def ofF (t : ByteArray) : Int := addF 0 (bytesOf t)
theorem now_any (b : Nat) (x0 : Int) (w : World) (h : w.heap[b]? = some (.cells #[.int .u32 x0] 256 (0, 0))) :
    Calls Tryz.prog 132 #[.pointer (some ⟨b, 0, none⟩)] w fun en w' => en = .returned (.int .u32 x0) ∧ w' = w := by
  have c0 : w.cell? ⟨b, 0, none⟩ = some (.int .u32 x0) := by rw [Lib.cell_of_heap h]; rfl
  clear h
  go_enter Tryz.func132, Tryz.ntmps132
  go_wp2_with fail
  go_ret
  exact ⟨rfl, rfl⟩
set_option maxHeartbeats 4000000 in
theorem of_any (A : Addr) (c : Nat) (t : ByteArray) (w : World) (ht : t.size ≤ 1000000) (hc : w.cell? A = some (.string t)) :
    Calls Tryz.prog 112 #[.slice (some A) 1 c] w fun en w' => en = .returned (.int .u32 (ofF t)) ∧ Below w.heap.size w w' := by
  have HC := Lib.hid (show (w.alloc (Obj.cells #[Value.int IntKind.u32 0] 256)).cell? A = some (.string t) from pw_cell_below ((Below.refl w.heap.size w).alloc (Nat.le_refl _) _) hc)
  clear hc
  have HBK := Lib.hid (blk_new w (.cells #[.int .u32 0] 256))
  go_enter Tryz.func112, Tryz.ntmps112
  go_wp2_with fail
  go_loopw [8] (fun k wr => k = .int .i64 0 ∧ wr = w.alloc (Obj.cells #[Value.int IntKind.u32 0] 256) ∨ k = .int .i64 1 ∧ wr = w.alloc (Obj.cells #[Value.int IntKind.u32 (ofF t)] 256)) (fun k _ => 1 - (intOf k).toNat)
  case atStart => exact .inl ⟨rfl, rfl⟩
  case round =>
    rcases hrel with ⟨rfl, rfl⟩ | ⟨rfl, rfl⟩
    · have hcc := HC.out
      go_wp2_with fail
      refine (add_any w.heap.size 0 t _ ht HBK.out).mono ?_
      rintro en w1 ⟨rfl, rfl⟩
      go_wp2_with fail
      exact ⟨.inr ⟨rfl, rfl⟩, by decide⟩
    · go_wp2_with fail
      refine (now_any w.heap.size (ofF t) _ (blk_new w _)).mono ?_
      rintro en w1 ⟨rfl, rfl⟩
      go_wp2_with fail
      go_ret
      exact ⟨rfl, (Below.refl w.heap.size w).alloc (Nat.le_refl _) _⟩
end Go.Proofs.YtcgoofefiiihnaaGreat
namespace Go.Proofs.YtcgoofefiiihnaaGreat.F
open Go.RowKit Go.Proofs.YtcgoofefiiihnaaGreatW.PrintWords Go.Proofs.YtcgoofefiiihnaaGreatW.PrintMore
set_option linter.unusedVariables false
set_option linter.unusedSimpArgs false
set_option maxRecDepth 20000
abbrev es0 : ES := ⟨64⟩
theorem eok0 : eok es0 := ⟨by decide, by decide⟩
theorem newe_any (w : World) : Calls Tryz.prog 72 #[] w fun en w' => en = .returned (.pointer (some ⟨w.heap.size, 0, none⟩)) ∧ Enc w' w.heap.size 221 0 0 0 false ⟨#[]⟩ (eown es0) ∧ Below w.heap.size w w' := by
  go_enter Tryz.func72, Tryz.ntmps72
  go_wp2
  go_ret
  exact ⟨rfl, blk_new _ _, (Below.refl _ _).alloc (Nat.le_refl _) _⟩
theorem cnewe_any (w : World) : Calls Tryz.prog 36 #[.int .i64 8] w fun en w' => en = .returned (.tuple #[.iface 143 (.pointer (some ⟨w.heap.size, 0, none⟩)), .int .i64 0]) ∧ Enc w' w.heap.size 221 0 0 0 false ⟨#[]⟩ (eown es0) ∧ Below w.heap.size w w' := by
  go_enter Tryz.func36, Tryz.ntmps36
  go_wp2_with fail
  refine (newe_any _).mono ?_
  rintro en w1 ⟨rfl, he1, hb1⟩
  have HE := Lib.hid he1
  have HB := Lib.hid hb1
  clear he1 hb1
  go_wp2_with fail
  go_ret2
  exact ⟨rfl, HE.out, HB.out⟩
theorem erun_len : ∀ (l : List Int) (s : ES), (erun s l).1.length ≤ 5 * l.length
  | [], s => by simp [erun]
  | c :: l, s => by
    have h1 := eby_len s c
    have h2 := erun_len l (eby s c).2
    simp only [erun, List.length_append, List.length_cons]
    omega
theorem efeed_all {w w' : World} {g T : Nat} {ls : List Int} {s0 : ES} {en : Ending} (h : EFeedPost w g T 0 [] s0 ls 4096 en w') (hn : ls.length ≤ 800) (hsc : ∀ c ∈ ls, 0 ≤ c ∧ isB c = true) :
    ∃ x y, en = .returned (.tuple #[.int .i64 ls.length, .string x]) ∧ bytesOf x = (erun s0 ls).1 ∧ Kp (fun k => k = g) w w' ∧ y.size = 0 ∧ Enc w' g T ls.length 0 0 false y (eown (erun s0 ls).2) := by
  obtain ⟨m, x, y, rfl, hm, hs, hb, hkp, hx, hf, _, _, hcase⟩ := h
  have hz := congrArg List.length hb
  rw [List.length_append, bytesOf_length, bytesOf_length, List.nil_append] at hz
  have hl := erun_len (ls.take m) s0
  rw [List.length_take] at hl
  have hy : y.size = 0 := by
    rcases Nat.eq_zero_or_pos y.size with h9 | h9
    · exact h9
    · have := hf (by omega)
      have e : (4096 : Int).toNat = 4096 := rfl
      omega
  have hy0 : bytesOf y = [] := List.eq_nil_of_length_eq_zero (by rw [bytesOf_length]; exact hy)
  rw [hy0, List.append_nil, List.nil_append] at hb
  rcases hcase with ⟨he, h9⟩ | ⟨h9, h8, _⟩
  · have : m = ls.length := by rcases h9 with h9 | h9 <;> omega
    subst this
    rw [List.take_length] at hb he
    rw [Int.zero_add] at he
    exact ⟨x, y, rfl, hb, hkp, hy, he⟩
  · have := (hsc (ls.getD m 0) (by rw [List.getD_eq_getElem?_getD, List.getElem?_eq_getElem h9]; exact List.getElem_mem _)).2
    rw [this] at h8; cases h8
theorem m_feed (a : Addr) (w : World) : (method 446 143 (.pointer (some a)) "Feed").run Tryz.prog w = .ok (266, .pointer (some a)) w := by kernel_rfl
theorem m_fail (a : Addr) (w : World) : (method 446 143 (.pointer (some a)) "Fail").run Tryz.prog w = .ok (156, .pointer (some a)) w := by kernel_rfl
theorem m_end (a : Addr) (w : World) : (method 446 143 (.pointer (some a)) "End").run Tryz.prog w = .ok (161, .pointer (some a)) w := by kernel_rfl
theorem m_done (a : Addr) (w : World) : (method 446 143 (.pointer (some a)) "Done").run Tryz.prog w = .ok (222, .pointer (some a)) w := by kernel_rfl
theorem encode_any {w : World} (A0 : Option Addr) (n0 c0 : Nat) (ls : List Int) (hc0 : n0 ≤ c0) (h0 : ReadsInt w .u32 A0 n0 ls) (hn : n0 ≤ 800) (hsc : ∀ c ∈ ls, 0 ≤ c ∧ isB c = true) (hA : ∀ ad, A0 = some ad → ad.block < w.heap.size) :
    Calls Tryz.prog 23 #[.int .i64 8, .slice A0 n0 c0] w fun en w' => ∃ x, en = .returned (.tuple #[.string x, .agg #[.int .i64 0, .int .i64 0]]) ∧ bytesOf x = (erun es0 ls).1 ∧ Below w.heap.size w w' := by
  have hm1 := m_feed ⟨w.heap.size + 1, 0, none⟩
  have hm2 := m_fail ⟨w.heap.size + 1, 0, none⟩
  have hm3 := m_end ⟨w.heap.size + 1, 0, none⟩
  have hm4 := m_done ⟨w.heap.size + 1, 0, none⟩
  have H0 := Lib.hid h0
  have HSC := Lib.hid hsc
  have HA := Lib.hid hA
  have HWF : Hid (∀ k, 0 ≤ ls.getD k 0 ∧ ls.getD k 0 ≤ 4294967295) := Lib.hid (fun k => by
    rw [List.getD_eq_getElem?_getD]
    cases hk : ls[k]? with
    | none => simp
    | some x =>
      have h1 := hsc x (List.mem_of_getElem? hk)
      have h2 := isB_range h1.2
      simp; omega)
  have hlen : ls.length = n0 := h0.1
  have HLN := Lib.hid hlen
  clear h0 hsc hA hlen
  go_enter Tryz.func23, Tryz.ntmps23
  go_wp2_with fail
  refine (cnewe_any _).mono ?_
  rintro en w1 ⟨rfl, he1, hb1⟩
  have HE := Lib.hid he1
  have HB := Lib.hid hb1
  clear he1 hb1
  have hz0 : (w.alloc (.cells #[.int .i64 0, .int .i64 0] 27)).heap.size = w.heap.size + 1 := by simp
  rw [hz0] at HE HB
  have hz1 := HB.out.size
  rw [hz0] at hz1
  have HR : Hid (w1.heap[w.heap.size]? = some (.cells #[.int .i64 0, .int .i64 0] 27 (0, 0))) := Lib.hid ((HB.out.block _ (by omega)).trans (blk_new w _))
  have HBW : Hid (Below w.heap.size w w1) := Lib.hid ((below_alloc (Below.refl w.heap.size w) (.cells #[.int .i64 0, .int .i64 0] 27)).trans (HB.out.mono (by omega)))
  have HL1 : Hid (w.heap.size + 1 < w1.heap.size) := Lib.hid HE.out.lt
  go_wp2_with fail
  have HE2 : Hid (Enc (w1.alloc (.cells #[.pointer none, .slice none 0 0] 84)) (w.heap.size + 1) 221 0 0 0 false ⟨#[]⟩ (eown es0)) := Lib.hid (blk_alloc HE.out _)
  have HR2 := Lib.hid (blk_alloc HR.out (.cells #[.pointer none, .slice none 0 0] 84))
  have HBL := Lib.hid (bl_new w1)
  have HB2 : Hid (Below w.heap.size w (w1.alloc (.cells #[.pointer none, .slice none 0 0] 84))) := Lib.hid (HBW.out.trans ((below_alloc (Below.refl w1.heap.size w1) _).mono HBW.out.size))
  have HZ2 : Hid ((w1.alloc (.cells #[.pointer none, .slice none 0 0] 84)).heap.size = w1.heap.size + 1) := Lib.hid (by simp)
  have H02 : Hid (ReadsInt (w1.alloc (.cells #[.pointer none, .slice none 0 0] 84)) .u32 A0 n0 ls) := Lib.hid (H0.out.below HB2.out)
  generalize w1.alloc (.cells #[.pointer none, .slice none 0 0] 84) = w2 at *
  generalize hgb : w1.heap.size = gb at *
  have HL := Lib.hid HL1.out
  clear hz0 hz1 HE HR HBW HL1 hgb
  go_loopw [1] (fun l wr => l = .slice A0 n0 c0 ∧ wr = w2) (fun _ _ => 0)
  case atStart => exact ⟨rfl, rfl⟩
  case round =>
    obtain ⟨rfl, rfl⟩ := hrel
    go_wp2_with fail
    refine (efeed_any A0 n0 c0 ls 4096 es0 [] ⟨#[]⟩ rfl (by decide) eok0 H02.out (fun ad h => by have := HA.out ad h; omega) HWF.out (by omega) (by omega) (by omega) (by omega) (by omega) HE2.out).mono ?_
    rintro en w3 h3
    obtain ⟨x, y, rfl, hx, hk3, hy, he3⟩ := efeed_all h3 (by rw [HLN.out]; exact hn) HSC.out
    rw [HLN.out] at he3 ⊢
    have HX := Lib.hid hx
    have HY := Lib.hid hy
    have HE3 := Lib.hid he3
    have HBL3 := Lib.hid (bl_kp HBL.out hk3 (fun k hk => by rw [hk]; exact HL.out))
    have HR3 := Lib.hid (hk3.blk HR2.out (fun h => by omega))
    have hk3b := hk3.below (B := w.heap.size) HB2.out.size (fun k hk => by omega)
    have HB3 := Lib.hid (HB2.out.trans hk3b)
    have HZ3 : Hid (gb ≤ w3.heap.size) := Lib.hid (by have := hk3.size; have := HZ2.out; omega)
    have hxs : x.size ≤ 4000 := by
      have h9 := congrArg List.length hx
      rw [bytesOf_length] at h9
      have h8 := erun_len ls es0
      have := HLN.out
      omega
    have HXS := Lib.hid hxs
    clear h3 hx hk3 hy he3 hk3b hxs
    go_wp2_with fail
    refine (bl_write gb gb [] x w3 HBL3.out (by have := HXS.out; simp; omega) HZ3.out).mono ?_
    rintro en w4 ⟨rfl, hbl4, hb4⟩
    rw [List.nil_append, Lib.strCells_eq] at hbl4
    have HBL4 : Hid (IsBl gb gb (Lib.byteCells x.data.toList) w4) := Lib.hid (.inr hbl4)
    have HE4 := Lib.hid (blk_under HE3.out hb4 HL.out)
    have HR4 := Lib.hid (blk_under HR3.out hb4 (by have := HL.out; omega))
    have HB4 := Lib.hid (HB3.out.trans (hb4.mono (by have := HL.out; omega)))
    have HZ4 : Hid (gb ≤ w4.heap.size) := Lib.hid (Nat.le_trans HZ3.out hb4.size)
    clear hbl4 hb4
    obtain ⟨i0, hi, hz0', hz1', hz2'⟩ := info_parts infoU
    have hcut2 := cut_from (P := Tryz.prog) 24 56 .i64 Tryz.underlying24 hi 1 hz1' A0 n0 c0 (n0 : Int) (by omega) (by omega)
    rw [Int.toNat_natCast] at hcut2
    obtain ⟨A2, hA2⟩ : ∃ A2, (if c0 = n0 then A0 else A0.map (·.add (n0 * 1))) = A2 := ⟨_, rfl⟩
    simp only [hA2] at hcut2
    have hlz : ((((n0 - n0 : Nat)) : Int) == 0) = true := by simp
    clear hA2
    go_wp2_with fail
    refine (end_yes HE4.out).mono ?_
    rintro en w5 ⟨rfl, he5, hk5⟩
    have HE5 := Lib.hid he5
    have HBL5 := Lib.hid (bl_kp HBL4.out hk5 (fun k hk => by rw [hk]; exact HL.out))
    have HR5 := Lib.hid (hk5.blk HR4.out (fun h => by omega))
    have HB5 := Lib.hid (HB4.out.trans (hk5.below (B := w.heap.size) HB4.out.size (fun k hk => by omega)))
    have HZ5 : Hid (gb ≤ w5.heap.size) := Lib.hid (Nat.le_trans HZ4.out hk5.size)
    clear he5 hk5
    have hyz : ((y.size : Int) == 0) = true := by rw [HY.out]; rfl
    go_wp2_with fail
    go_loopw [11] (fun _ wr => wr = w5) (fun _ _ => 0)
    case atStart => rfl
    case round =>
      subst hrel
      go_wp2_with fail
      refine (odone_over rfl HE5.out).mono ?_
      rintro en w6 ⟨rfl, rfl⟩
      go_wp2_with fail
      refine (bl_string gb gb x.data.toList _ HBL5.out HZ5.out).mono ?_
      rintro en w7 ⟨rfl, hb7⟩
      have HE7 := Lib.hid (blk_under HE5.out hb7 HL.out)
      have HR7 := Lib.hid (blk_under HR5.out hb7 (by have := HL.out; omega))
      have HB7 := Lib.hid (HB5.out.trans (hb7.mono (by have := HL.out; omega)))
      clear hb7
      go_wp2_with fail
      refine (fail_any HE7.out).mono ?_
      rintro en w8 ⟨rfl, hb8⟩
      have HR8 := Lib.hid (blk_below HR7.out hb8)
      have HB8 := Lib.hid (HB7.out.trans (hb8.mono HB7.out.size))
      clear hb8
      have q0 : w8.cell? ⟨w.heap.size, 0, none⟩ = some (.int .i64 0) := blk_cell HR8.out 0
      have q1 : w8.cell? ⟨w.heap.size, 1, none⟩ = some (.int .i64 0) := blk_cell HR8.out 1
      have r0 : w8.frozen? ⟨w.heap.size, 0, none⟩ = false := blk_frozen HR8.out 0
      have r1 : w8.frozen? ⟨w.heap.size, 1, none⟩ = false := blk_frozen HR8.out 1
      go_wp2_with fail
      have HR8b : (w8.setCell ⟨w.heap.size, 0, none⟩ (.int .i64 0)).heap[w.heap.size]? = some (.cells #[.int .i64 0, .int .i64 0] 27 (0, 0)) := (blk_set HR8.out 0 _).trans rfl
      have HR9 : ((w8.setCell ⟨w.heap.size, 0, none⟩ (.int .i64 0)).setCell ⟨w.heap.size, 1, none⟩ (.int .i64 0)).heap[w.heap.size]? = some (.cells #[.int .i64 0, .int .i64 0] 27 (0, 0)) := (blk_set HR8b 1 _).trans rfl
      have HB9 : Below w.heap.size w ((w8.setCell ⟨w.heap.size, 0, none⟩ (.int .i64 0)).setCell ⟨w.heap.size, 1, none⟩ (.int .i64 0)) := (HB8.out.setCell (p := ⟨w.heap.size, 0, none⟩) (Nat.le_refl _) _).setCell (p := ⟨w.heap.size, 1, none⟩) (Nat.le_refl _) _
      (try simp only [Exit.inBlock, Exit.then])
      refine bodyPost_ret (results_tc rfl _ _ w.heap.size 27 #[.int .i64 0, .int .i64 0] (0, 0) _ rfl HR9 Tryz.underlying27 rfl (by kernel_rfl)) rfl ?_
      exact ⟨x, rfl, HX.out, HB9⟩
end Go.Proofs.YtcgoofefiiihnaaGreat.F
