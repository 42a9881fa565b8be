/- The law StepBytes, walked. -/
import Derived.Test.YtfknlgjfhdphjaaSo
namespace Go.Proofs.Ytfknlgjfhdphjaa
open Go.RowKit Go.Proofs.YtfknlgjfhdphjaaW.PrintWords Go.Proofs.YtfknlgjfhdphjaaW.PrintMore
set_option linter.unusedVariables false
set_option linter.unusedSimpArgs false
/-- Bytes that wait, alone in a block. -/
abbrev PdAt (w : World) (g T : Nat) (x : ByteArray) : Prop := w.heap[g]? = some (.cells #[.string x] T (0, 0))
theorem PdAt.c {w : World} {g T : Nat} {x : ByteArray} (h : PdAt w g T x) : w.cell? ⟨g, 0, none⟩ = some (.string x) := (blk_cell h 0).trans rfl
theorem c_keep {w : World} {g T : Nat} {x u : ByteArray} (hl : x.size + u.size ≤ 1073741824) (h : PdAt w g T x) : Calls Try.prog 23 #[.pointer (some ⟨g, 0, none⟩), .string u] w fun en w' => en = .returned (.tuple #[]) ∧ PdAt w' g T (x ++ u) ∧ Kp (fun k => k = g) w w' := by
  refine (keep_any h.c (blk_frozen h 0) hl).mono ?_
  rintro en w' ⟨rfl, rfl⟩
  exact ⟨rfl, (blk_set h 0 _).trans (by simp), (Kp.refl _ _).setg _ _⟩
theorem given_extract {s x y : ByteArray} {room : Int} (h : Given s room x y) : x = s.extract 0 (min room.toNat s.size) ∧ y = s.extract (min room.toNat s.size) s.size := by
  have hz : s.data.toList.length = s.size := data_length s
  constructor
  · apply ByteArray.ext
    apply Array.ext'
    rw [h.1, ByteArray.data_extract, Array.toList_extract, List.extract_eq_take_drop, List.drop_zero, Nat.sub_zero]
    rcases Nat.le_total room.toNat s.size with h1 | h1
    · rw [Nat.min_eq_left h1]
    · rw [Nat.min_eq_right h1, List.take_of_length_le (by omega), List.take_of_length_le (by omega)]
  · apply ByteArray.ext
    apply Array.ext'
    rw [h.2, ByteArray.data_extract, Array.toList_extract, List.extract_eq_take_drop, List.take_of_length_le (by rw [List.length_drop]; omega)]
    rcases Nat.le_total room.toNat s.size with h1 | h1
    · rw [Nat.min_eq_left h1]
    · rw [Nat.min_eq_right h1, List.drop_eq_nil_of_le (by omega), List.drop_eq_nil_of_le (by omega)]
theorem c_give {w : World} {g T : Nat} {x : ByteArray} (room : Int) (m : Nat) (hm : m = min room.toNat x.size) (hl : x.size ≤ 1073741824) (h : PdAt w g T x) : Calls Try.prog 25 #[.pointer (some ⟨g, 0, none⟩), .int .i64 room] w fun en w' => en = .returned (.string (x.extract 0 m)) ∧ PdAt w' g T (x.extract m x.size) ∧ Kp (fun k => k = g) w w' := by
  subst hm
  refine (give_any room h.c (blk_frozen h 0) hl).mono ?_
  rintro en w' ⟨a, b, rfl, rfl, hg⟩
  obtain ⟨rfl, rfl⟩ := given_extract hg
  exact ⟨rfl, (blk_set h 0 _).trans (by simp), (Kp.refl _ _).setg _ _⟩
theorem c_front (n : Int) (len m : Nat) (hm : m = min n.toNat len) (w : World) : Calls Try.prog 24 #[.int .i64 n, .int .i64 (len : Int)] w fun en w' => en = .returned (.int .i64 (m : Int)) ∧ Below w.heap.size w w' := by
  have hf : PStepBytes.pilcrowref02_Front.f n (len : Int) = some (m : Int) := by
    unfold PStepBytes.pilcrowref02_Front.f
    subst hm
    split
    · congr 1; omega
    · split
      · congr 1; omega
      · congr 1; omega
  refine (PStepBytes.pilcrowref02_Front.calls n (len : Int) _ w hf).mono ?_
  rintro en w' ⟨he, nd, rfl⟩
  exact ⟨he, ((Kp.refl (fun _ => False) w).drewN nd).below (Nat.le_refl _) (fun _ h => h.elim)⟩
set_option maxHeartbeats 8000000 in
theorem bytes_all (A : Option Addr) (c : Nat) (l : List PStepBase.S35) (hc : l.length ≤ c) {w : World} (h : Ops w A l) (hwide : ∀ o ∈ l, wideO o) : Calls Try.prog 4 #[.slice A l.length c] w fun en w' => en = .returned (.bool true) ∧ Below w.heap.size w w' := by
  have heq := eqF
  have hu35 := Try.underlying35
  have HOP := Lib.hid h
  have HC := Lib.hid hc
  have HWI := Lib.hid hwide
  clear h hc hwide
  go_enter Try.func4, Try.ntmps4
  go_wp2_with fail
  refine (sawake_any w).mono ?_
  rintro en w1 ⟨rfl, hb⟩
  have HB1 := Lib.hid hb
  have HOP1 := Lib.hid (Kd.C_below HOP.out hb)
  clear hb
  go_wp2_with fail
  obtain ⟨r, hr, hcall⟩ := great_any A c l HC.out w1 HOP1.out
  refine hcall.mono ?_
  clear hcall
  rintro en w2 ⟨rfl, hb⟩
  have HB2 := Lib.hid (HB1.out.trans (hb.mono (by have := HB1.out.size; omega)))
  clear hb
  cases r with
  | true =>
    go_wp2_with fail
    refine (sawake_any w2).mono ?_
    rintro en w3 ⟨rfl, hb⟩
    have HB3 := Lib.hid (HB2.out.trans (hb.mono (by have := HB2.out.size; omega)))
    clear hb
    go_wp2_with fail
    go_ret
    exact ⟨rfl, HB3.out⟩
  | false =>
    obtain ⟨hlen, hfine⟩ := hr rfl
    have HFN := Lib.hid hfine
    have HLN := Lib.hid hlen
    have HGB := Lib.hid (show w.heap.size ≤ w2.heap.size from HB2.out.size)
    clear hfine hr hlen
    have hp3 : PdAt (w2.alloc (.cells #[.string ⟨#[]⟩] 42)) w2.heap.size 42 ⟨#[]⟩ := heap_alloc_new w2 _
    have hl3 : Below w.heap.size w (w2.alloc (.cells #[.string ⟨#[]⟩] 42)) := below_alloc HB2.out _
    have HP3 := Lib.hid hp3
    have HL3 := Lib.hid hl3
    clear hp3 hl3
    go_wp2_with fail
    generalize (w2.alloc (.cells #[.string ⟨#[]⟩] 42)) = w3 at *
    generalize hgb : w2.heap.size = gb at *
    go_loopg [4, 17] (l.length + 1) (fun q u k wr => ∃ (i : Nat) (x : ByteArray), q + i = l.length + 1 ∧ i ≤ l.length ∧ k = .int .i64 i ∧ u = .string x ∧ Hid (PdAt wr gb 42 x) ∧ Hid (x.size ≤ i * 300) ∧ Hid (Below w.heap.size w wr))
    case atStart => exact ⟨0, ⟨#[]⟩, rfl, Nat.zero_le _, rfl, rfl, HP3, Lib.hid (by decide), HL3⟩
    case round =>
      clear HP3 HL3
      obtain ⟨i, x, hq, hle, rfl, rfl, HP, HXS, HB⟩ := hrel
      have HQ := Lib.hid hq
      clear hq
      by_cases hi : i < l.length
      · have hi2 : (i : Int) < (l.length : Int) := by omega
        have h0i : (0 : Int) ≤ (i : Int) := by omega
        have hd : decide ((i : Int) < (l.length : Int)) = true := decide_eq_true hi2
        obtain ⟨ad, A3, c3, o, ho, rfl, k0, k1, k2, k3, r1', r2'⟩ := ops_at (Kd.C_below HOP.out HB.out) i hi
        have hfo := HFN.out o (List.mem_of_getElem? ho)
        have hwo := HWI.out o (List.mem_of_getElem? ho)
        obtain ⟨k, n, tx, ls⟩ := o
        simp only at k0 k1 k2 k3 r1' r2'
        have HN : Hid (n ≤ 1099511627776) := Lib.hid hfo.2.2
        have HTX : Hid (tx.size ≤ 300) := Lib.hid hfo.1
        have HLS : Hid (ls.length ≤ 300) := Lib.hid hfo.2.1
        have HWO : Hid (wideO ⟨k, n, tx, ls⟩) := Lib.hid hwo
        have HLC := Lib.hid r1'
        have HLR := Lib.hid r2'
        clear hfo ho hwo r1' r2'
        have HOB : Hid ((wr.alloc (.cells #[.int .i64 k, .int .i64 n, .string tx, .slice A3 ls.length c3] 35)).heap[wr.heap.size]? = some (.cells #[.int .i64 k, .int .i64 n, .string tx, .slice A3 ls.length c3] 35)) := Lib.hid (heap_alloc_new wr _)
        have HLO := Lib.hid (below_alloc HB.out (.cells #[.int .i64 k, .int .i64 n, .string tx, .slice A3 ls.length c3] 35))
        have HPO := Lib.hid (show PdAt (wr.alloc (.cells #[.int .i64 k, .int .i64 n, .string tx, .slice A3 ls.length c3] 35)) gb 42 x from (heap_alloc_old wr _ (blk_lt HP.out)).trans HP.out)
        have HG1 := Lib.hid (blk_lt HP.out)
        have HXB : Hid (x.size ≤ 90000) := Lib.hid (by have := HXS.out; have := HLN.out; omega)
        obtain rfl | hk4 : k = 4 ∨ k ≠ 4 := by omega
        · go_wp2_with fail
          generalize (wr.alloc (.cells #[.int .i64 4, .int .i64 n, .string tx, .slice A3 ls.length c3] 35)) = wo at *
          clear k0 k1 k2 k3
          generalize hgo : wr.heap.size = go at *
          refine (c_keep (u := tx) (by have := HXB.out; have := HTX.out; omega) HPO.out).mono ?_
          rintro en w5 ⟨rfl, hp5, hk5⟩
          have HO5 := Lib.hid (hk5.blk HOB.out (by have := HG1.out; omega))
          have HL6 := Lib.hid (HLO.out.trans (hk5.below (B := w.heap.size) HLO.out.size (fun k hk => by have := HGB.out; omega)))
          have o2 : w5.cell? ⟨go, 2, none⟩ = some (.string tx) := (blk_cell HO5.out 2).trans rfl
          have hsum : ¬ (9223372036854775807 < x.size + tx.size) := by have := HXB.out; have := HTX.out; omega
          go_wp2_with fail
          obtain ⟨y, hy⟩ : ∃ y, y = x ++ tx := ⟨_, rfl⟩
          rw [← hy] at hp5 ⊢
          have HP6 := Lib.hid hp5
          have HY : Hid (y.size ≤ x.size + 300) := Lib.hid (by rw [hy, ByteArray.size_append]; have := HTX.out; omega)
          clear hp5 hk5 o2 hsum hy
          go_wp2_with fail
          refine (kept_any (PdAt.c HP6.out)).mono ?_
          rintro en w7 ⟨rfl, rfl⟩
          go_wp2_with fail
          go_roundg (gk - 1)
          case measure => have := HQ.out; omega
          case rel => exact ⟨i + 1, y, by have := HQ.out; omega, by omega, by rw [wrap64_in (by omega) (by have := HLN.out; omega)]; simp, rfl, HP6, Lib.hid (by have := HY.out; have := HXS.out; omega), HL6⟩
        obtain rfl | hk5 : k = 5 ∨ k ≠ 5 := by omega
        · clear hk4
          go_wp2_with fail
          generalize (wr.alloc (.cells #[.int .i64 5, .int .i64 n, .string tx, .slice A3 ls.length c3] 35)) = wo at *
          clear k0 k1 k2 k3
          generalize hgo : wr.heap.size = go at *
          obtain ⟨m, hm⟩ : ∃ m, m = min n.toNat x.size := ⟨_, rfl⟩
          refine (c_front n x.size m hm _).mono ?_
          rintro en w5 ⟨rfl, hb5⟩
          have HM := Lib.hid hm
          have hmx : (m : Int) ≤ (x.size : Int) := by omega
          have hm0 : (0 : Int) ≤ (m : Int) := by omega
          have hmn : m ≤ x.size := by omega
          have HP5 := Lib.hid ((Kp.of_below (F := fun _ => False) hb5).blk HPO.out (fun h => h))
          have HO5 := Lib.hid ((Kp.of_below (F := fun _ => False) hb5).blk HOB.out (fun h => h))
          have HL5 := Lib.hid (HLO.out.trans (hb5.mono HLO.out.size))
          clear hb5 hm
          go_wp2_with fail
          have o1 : w5.drew.cell? ⟨go, 1, none⟩ = some (.int .i64 n) := (blk_cell HO5.out 1).trans rfl
          go_region_held3 (fun w' => w'.cell? ⟨go, 1, none⟩ = some (.int .i64 n)) (first | assumption | go_keep) (first
            | (go_at_call 25; refine (c_give (w := w5.drew) n m HM.out (by have := HXB.out; omega) HP5.out).mono ?_; rintro e w6 ⟨rfl, hp6, hk6⟩; have HP6 := Lib.hid hp6; have HO6 := Lib.hid (hk6.blk HO5.out (by have := HG1.out; omega)); have HL6 : Hid (Below w.heap.size w w6) := Lib.hid (HL5.out.trans (((Kp.refl (fun k => k = gb) w5).drew.trans hk6 (fun k h => .inl h)).below (B := w.heap.size) HL5.out.size (fun k hk => by have := HGB.out; omega))); have o6 : w6.cell? ⟨go, 1, none⟩ = some (.int .i64 n) := (blk_cell HO6.out 1).trans rfl; clear hp6 hk6))
          go_wp2_with fail
          obtain ⟨y, hy⟩ : ∃ y, y = x.extract m x.size := ⟨_, rfl⟩
          rw [← hy] at HP6 ⊢
          have HY : Hid (y.size ≤ x.size + 300) := Lib.hid (by rw [hy, ByteArray.size_extract]; omega)
          clear hy
          go_wp2_with fail
          refine (kept_any (PdAt.c HP6.out)).mono ?_
          rintro en w7 ⟨rfl, rfl⟩
          go_wp2_with fail
          go_roundg (gk - 1)
          case measure => have := HQ.out; omega
          case rel => exact ⟨i + 1, y, by have := HQ.out; omega, by omega, by rw [wrap64_in (by omega) (by have := HLN.out; omega)]; simp, rfl, HP6, Lib.hid (by have := HY.out; have := HXS.out; omega), HL6⟩
        · have hn4 : (k == 4) = false := beq_eq_false_iff_ne.2 hk4
          have hn5 : (k == 5) = false := beq_eq_false_iff_ne.2 hk5
          go_wp2_with fail
          generalize (wr.alloc (.cells #[.int .i64 k, .int .i64 n, .string tx, .slice A3 ls.length c3] 35)) = w6 at *
          clear k0 k1 k2 k3
          generalize hgo : wr.heap.size = go at *
          obtain ⟨y, hy⟩ : ∃ y, y = x := ⟨_, rfl⟩
          have HP6 : Hid (PdAt w6 gb 42 y) := by rw [hy]; exact HPO
          have HL6 := HLO
          have HY : Hid (y.size ≤ x.size + 300) := Lib.hid (by rw [hy]; omega)
          rw [← hy]
          clear hy
          go_wp2_with fail
          refine (kept_any (PdAt.c HP6.out)).mono ?_
          rintro en w7 ⟨rfl, rfl⟩
          go_wp2_with fail
          go_roundg (gk - 1)
          case measure => have := HQ.out; omega
          case rel => exact ⟨i + 1, y, by have := HQ.out; omega, by omega, by rw [wrap64_in (by omega) (by have := HLN.out; omega)]; simp, rfl, HP6, Lib.hid (by have := HY.out; have := HXS.out; omega), HL6⟩
      · obtain rfl : i = l.length := by omega
        have hd : decide ((l.length : Int) < (l.length : Int)) = false := by simp
        go_wp2_with fail
        go_ret
        exact ⟨rfl, HB.out⟩
end Go.Proofs.Ytfknlgjfhdphjaa
