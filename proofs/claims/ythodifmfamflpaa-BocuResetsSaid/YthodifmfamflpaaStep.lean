/- The contracts of package step's functions: what each returns, and what it leaves of a machine's block. -/
import Derived.Test.YthodifmfamflpaaProg
import Derived.Test.YthodifmfamflpaaMy
import Derived.WalkKit
import Derived.WalkSpells
import Derived.KernelRfl
import Derived.Deep.QuietTactic
import Derived.BigQuiet
import Derived.Outline
import Derived.Lib.Hide
namespace Go.Proofs.Ythodifmfamflpaa
open Go.RowKit Go.Proofs.YthodifmfamflpaaW.PrintWords Go.Proofs.YthodifmfamflpaaW.PrintMore
set_option linter.unusedVariables false
set_option linter.unusedSimpArgs false
set_option maxRecDepth 20000
section
variable {w : World} {g T : Nat} {a e f : Int} {d : Bool} {rest : List Value}
theorem at_any (h : BsAt w g T a e f d rest) : Calls Try.prog 25 #[.pointer (some ⟨g, 0, none⟩)] w fun en w' => en = .returned (.int .i64 a) ∧ w = w' := by
  have c0 := h.c0
  clear h
  go_enter Try.func25, Try.ntmps25
  go_wp2
  go_ret
  exact ⟨rfl, rfl⟩
theorem going_yes (h : BsAt w g T a 0 f false rest) : Calls Try.prog 42 #[.pointer (some ⟨g, 0, none⟩)] w fun en w' => en = .returned (.bool true) ∧ w = w' := by
  have c1 := h.c1
  have c3 := h.c3
  clear h
  go_enter Try.func42, Try.ntmps42
  go_wp2
  go_ret
  exact ⟨rfl, rfl⟩
theorem going_err (he : (e == 0) = false) (h : BsAt w g T a e f d rest) : Calls Try.prog 42 #[.pointer (some ⟨g, 0, none⟩)] w fun en w' => en = .returned (.bool false) ∧ w = w' := by
  have c1 := h.c1
  have c3 := h.c3
  clear h
  go_enter Try.func42, Try.ntmps42
  go_wp2
  go_ret
  exact ⟨rfl, rfl⟩
theorem going_end (h : BsAt w g T a 0 f true rest) : Calls Try.prog 42 #[.pointer (some ⟨g, 0, none⟩)] w fun en w' => en = .returned (.bool false) ∧ w = w' := by
  have c1 := h.c1
  have c3 := h.c3
  clear h
  go_enter Try.func42, Try.ntmps42
  go_wp2
  go_ret
  exact ⟨rfl, rfl⟩
theorem going_no (hn : (e == 0 && !d) = false) (h : BsAt w g T a e f d rest) : Calls Try.prog 42 #[.pointer (some ⟨g, 0, none⟩)] w fun en w' => en = .returned (.bool false) ∧ w = w' := by
  cases he : (e == 0) with
  | false => exact going_err he h
  | true =>
    have h0 : e = 0 := by simpa using he
    subst h0
    cases d with
    | false => simp at hn
    | true => exact going_end h
theorem fail_any (h : BsAt w g T a e f d rest) : Calls Try.prog 23 #[.pointer (some ⟨g, 0, none⟩)] w fun en w' => en = .returned (.agg #[.int .i64 e, .int .i64 f]) ∧ Below w.heap.size w w' := by
  have hu := Try.underlying45
  have c1 := h.c1
  have c2 := h.c2
  have hl := h.lt
  clear h
  go_enter Try.func23, Try.ntmps23
  go_wp2
  exact bodyPost_ret (v := .agg #[.int .i64 e, .int .i64 f]) (by simp [results, Try.results23, go_sem]) rfl ⟨rfl, (Below.refl _ _).alloc (Nat.le_refl _) _⟩
theorem eat_neg (n : Int) (hneg : n < 0) (h0 : 0 ≤ a) (h1 : a ≤ 1152921504606846976) (h : BsAt w g T a 0 f false rest) : Calls Try.prog 45 #[.pointer (some ⟨g, 0, none⟩), .int .i64 n] w fun en w' => en = .returned (.tuple #[]) ∧ BsAt w' g T a 0 f false rest ∧ Kp (fun k => k = g) w w' := by
  have c0 := h.c0
  have c1 := h.c1
  have c3 := h.c3
  have f0 := h.fz 0
  have HG := Lib.hid (h.set0 a)
  clear h
  go_enter Try.func45, Try.ntmps45
  go_wp2
  go_end0
  exact ⟨rfl, HG.out, (Kp.refl _ _).setg _ _⟩
theorem eat_pos (n : Int) (hpos : 0 ≤ n) (h0 : 0 ≤ a) (h1 : a ≤ 1152921504606846976) (hn : n ≤ 1125899906842624) (h : BsAt w g T a 0 f false rest) : Calls Try.prog 45 #[.pointer (some ⟨g, 0, none⟩), .int .i64 n] w fun en w' => en = .returned (.tuple #[]) ∧ BsAt w' g T (a + n) 0 f false rest ∧ Kp (fun k => k = g) w w' := by
  have c0 := h.c0
  have c1 := h.c1
  have c3 := h.c3
  have f0 := h.fz 0
  have HG := Lib.hid (h.set0 (a + n))
  clear h
  go_enter Try.func45, Try.ntmps45
  go_wp2
  go_end0
  exact ⟨rfl, HG.out, (Kp.refl _ _).setg _ _⟩
theorem eat_no (n : Int) (hn : (e == 0 && !d) = false) (h : BsAt w g T a e f d rest) : Calls Try.prog 45 #[.pointer (some ⟨g, 0, none⟩), .int .i64 n] w fun en w' => en = .returned (.tuple #[]) ∧ w = w' := by
  go_enter Try.func45, Try.ntmps45
  go_wp2_with (go_at_call 42; refine (going_no hn h).mono ?_; rintro e w' ⟨rfl, rfl⟩)
  go_end0
  exact ⟨rfl, rfl⟩
theorem stop_yes (n : Int) (hn : (n == 0) = false) (h : BsAt w g T a 0 f false rest) : Calls Try.prog 44 #[.pointer (some ⟨g, 0, none⟩), .int .i64 n] w fun en w' => en = .returned (.tuple #[]) ∧ BsAt w' g T a n a false rest ∧ Kp (fun k => k = g) w w' := by
  have hu := Try.underlying45
  have c0 := h.c0
  have c1 := h.c1
  have c2 := h.c2
  have c3 := h.c3
  have f1 := h.fz 1
  have f2 := h.fz 2
  have hn2 : (n != 0) = true := by simpa using hn
  have HG := Lib.hid ((h.set1 n).set2 a)
  clear h
  go_enter Try.func44, Try.ntmps44
  go_wp2
  go_end0
  exact ⟨rfl, HG.out, ((Kp.refl _ _).setg _ _).setg _ _⟩
theorem stop_no (n : Int) (hn : (e == 0 && !d) = false) (h : BsAt w g T a e f d rest) : Calls Try.prog 44 #[.pointer (some ⟨g, 0, none⟩), .int .i64 n] w fun en w' => en = .returned (.tuple #[]) ∧ w = w' := by
  go_enter Try.func44, Try.ntmps44
  go_wp2_with (go_at_call 42; refine (going_no hn h).mono ?_; rintro e w' ⟨rfl, rfl⟩)
  go_end0
  exact ⟨rfl, rfl⟩
theorem end_yes (h : BsAt w g T a 0 f false rest) : Calls Try.prog 34 #[.pointer (some ⟨g, 0, none⟩)] w fun en w' => en = .returned (.tuple #[]) ∧ BsAt w' g T a 0 f true rest ∧ Kp (fun k => k = g) w w' := by
  have c1 := h.c1
  have c3 := h.c3
  have f3 := h.fz 3
  have HG := Lib.hid (h.set3 true)
  clear h
  go_enter Try.func34, Try.ntmps34
  go_wp2
  go_end0
  exact ⟨rfl, HG.out, (Kp.refl _ _).setg _ _⟩
theorem end_no (hn : (e == 0 && !d) = false) (h : BsAt w g T a e f d rest) : Calls Try.prog 34 #[.pointer (some ⟨g, 0, none⟩)] w fun en w' => en = .returned (.tuple #[]) ∧ w = w' := by
  go_enter Try.func34, Try.ntmps34
  go_wp2_with (go_at_call 42; refine (going_no hn h).mono ?_; rintro e w' ⟨rfl, rfl⟩)
  go_end0
  exact ⟨rfl, rfl⟩
theorem held_any {o n c : Nat} {A : Option Addr} (hc : w.cell? ⟨g, o, none⟩ = some (.slice A n c)) : Calls Try.prog 41 #[.pointer (some ⟨g, o, none⟩)] w fun en w' => en = .returned (.int .i64 n) ∧ w = w' := by
  go_enter Try.func41, Try.ntmps41
  go_wp2
  go_ret
  exact ⟨rfl, rfl⟩
theorem kept_any {o : Nat} {s : ByteArray} (hc : w.cell? ⟨g, o, none⟩ = some (.string s)) : Calls Try.prog 27 #[.pointer (some ⟨g, o, none⟩)] w fun en w' => en = .returned (.int .i64 s.size) ∧ w = w' := by
  go_enter Try.func27, Try.ntmps27
  go_wp2
  go_ret
  exact ⟨rfl, rfl⟩
theorem keep_any {o : Nat} {s u : ByteArray} (hc : w.cell? ⟨g, o, none⟩ = some (.string s)) (hf : w.frozen? ⟨g, o, none⟩ = false) (hl : s.size + u.size ≤ 1073741824) : Calls Try.prog 49 #[.pointer (some ⟨g, o, none⟩), .string u] w fun en w' => en = .returned (.tuple #[]) ∧ w' = w.setCell ⟨g, o, none⟩ (.string (s ++ u)) := by
  go_enter Try.func49, Try.ntmps49
  go_wp2
  go_end0
  exact ⟨rfl, rfl⟩
theorem give_neg {o : Nat} {s : ByteArray} (room : Int) (hr : room < 0) (hc : w.cell? ⟨g, o, none⟩ = some (.string s)) (hf : w.frozen? ⟨g, o, none⟩ = false) (hl : s.size ≤ 1073741824) : Calls Try.prog 47 #[.pointer (some ⟨g, o, none⟩), .int .i64 room] w fun en w' => en = .returned (.string ByteArray.empty) ∧ w' = w.setCell ⟨g, o, none⟩ (.string s) := by
  go_enter Try.func47, Try.ntmps47
  go_wp2
  go_ret
  exact ⟨rfl, rfl⟩
theorem give_in {o : Nat} {s : ByteArray} (room : Int) (h0 : 0 ≤ room) (hr : room ≤ s.size) (hc : w.cell? ⟨g, o, none⟩ = some (.string s)) (hf : w.frozen? ⟨g, o, none⟩ = false) (hl : s.size ≤ 1073741824) : Calls Try.prog 47 #[.pointer (some ⟨g, o, none⟩), .int .i64 room] w fun en w' => en = .returned (.string (s.extract 0 room.toNat)) ∧ w' = w.setCell ⟨g, o, none⟩ (.string (s.extract room.toNat s.size)) := by
  go_enter Try.func47, Try.ntmps47
  go_wp2
  go_ret
  exact ⟨rfl, rfl⟩
theorem give_out {o : Nat} {s : ByteArray} (room : Int) (hr : s.size < room) (hc : w.cell? ⟨g, o, none⟩ = some (.string s)) (hf : w.frozen? ⟨g, o, none⟩ = false) (hl : s.size ≤ 1073741824) : Calls Try.prog 47 #[.pointer (some ⟨g, o, none⟩), .int .i64 room] w fun en w' => en = .returned (.string s) ∧ w' = w.setCell ⟨g, o, none⟩ (.string ByteArray.empty) := by
  go_enter Try.func47, Try.ntmps47
  go_wp2
  go_ret
  exact ⟨rfl, rfl⟩
/-- What is given, and what still waits. -/
def Given (s : ByteArray) (room : Int) (a b : ByteArray) : Prop := a.data.toList = s.data.toList.take room.toNat ∧ b.data.toList = s.data.toList.drop room.toNat
theorem give_any {o : Nat} {s : ByteArray} (room : Int) (hc : w.cell? ⟨g, o, none⟩ = some (.string s)) (hf : w.frozen? ⟨g, o, none⟩ = false) (hl : s.size ≤ 1073741824) : Calls Try.prog 47 #[.pointer (some ⟨g, o, none⟩), .int .i64 room] w fun en w' => ∃ x y, en = .returned (.string x) ∧ w' = w.setCell ⟨g, o, none⟩ (.string y) ∧ Given s room x y := by
  have hz : s.data.toList.length = s.size := data_length s
  by_cases h0 : room < 0
  · refine (give_neg room h0 hc hf hl).mono fun en w' h => ⟨_, _, h.1, h.2, ?_, ?_⟩
    · rw [show room.toNat = 0 by omega]; rfl
    · rw [show room.toNat = 0 by omega]; rfl
  by_cases h1 : room ≤ s.size
  · refine (give_in room (by omega) h1 hc hf hl).mono fun en w' h => ⟨_, _, h.1, h.2, ?_, ?_⟩
    · rw [ByteArray.data_extract, Array.toList_extract, List.extract_eq_take_drop, List.drop_zero, Nat.sub_zero]
    · rw [ByteArray.data_extract, Array.toList_extract, List.extract_eq_take_drop, List.take_of_length_le (by rw [List.length_drop]; omega)]
  · refine (give_out room (by omega) hc hf hl).mono fun en w' h => ⟨_, _, h.1, h.2, ?_, ?_⟩
    · rw [List.take_of_length_le (by omega)]
    · rw [List.drop_eq_nil_of_le (by omega)]; rfl
theorem infoU : (Try.prog.info? 34).map (fun i => (i.zero, i.size, i.bytes)) = some (some (.int .u32 0), 1, 4) := by kernel_rfl
theorem hold_any {o m c : Nat} {v : Value} {xs ys : List Int} {A : Option Addr} (hc : w.cell? ⟨g, o, none⟩ = some v) (hf : w.frozen? ⟨g, o, none⟩ = false) (hq : QRow w 0 34 1 v xs.length (nums .u32 xs)) (hne : v.ownBlock ≠ some g) (hr : ReadsInt w .u32 A m ys) (hl : xs.length + m ≤ 1073741824) :
    Calls Try.prog 55 #[.pointer (some ⟨g, o, none⟩), .slice A m c] w fun en w' => en = .returned (.tuple #[]) ∧ ∃ v1 w1, w' = w1.setCell ⟨g, o, none⟩ v1 ∧ QRow w1 0 34 1 v1 (xs.length + ys.length) (nums .u32 (xs ++ ys)) ∧ w.grownBy w1 v.ownBlock ∧ (v1.ownBlock = v.ownBlock ∨ ∃ b, v1.ownBlock = some b ∧ w.heap.size ≤ b) := by
  obtain ⟨A0, c0, rfl, hnc⟩ := q_slice hq
  have hgl := World.block_lt_of_cell? w _ hc
  have HQ := Lib.hid hq
  have HR := Lib.hid hr
  have HN := Lib.hid hne
  have HL := Lib.hid hl
  clear hq hr hne hl
  go_enter Try.func55, Try.ntmps55
  go_wp2_with (at_builtin; go_must (refine wp_qapp 0 rfl (.tmp 8) (.tmp 9) 22 34 .u32 4 rfl Try.underlying22 infoU (by omega) (.slice A0 xs.length c0) xs ys A m c rfl rfl HQ.out HR.out (by omega) (by have := HL.out; omega) ?_); intro v1 w1 hq1 hg1 hat1; obtain ⟨A1, c1, rfl, hnc1⟩ := q_slice hq1; have HQ1 := Lib.hid hq1; have HG1 := Lib.hid hg1; have HA1 := Lib.hid hat1; have hc1 := (hg1.cell_far ⟨g, o, none⟩ hgl (fun he => HN.out he.symm)).trans hc; have hf1 := (hg1.frozen_far ⟨g, o, none⟩ hgl (fun he => HN.out he.symm)).trans hf; clear hq1 hg1 hat1 hc hf)
  go_end0
  exact ⟨rfl, _, _, rfl, HQ1.out, HG1.out, HA1.out⟩
/-- What Tell leaves: the told ones in a row of their own, the rest in the machine. -/
def Told (w : World) (g o : Nat) (v : Value) (xs : List Int) (j : Nat) (en : Ending) (w' : World) : Prop :=
  ∃ r v1 w1, en = .returned r ∧ w' = w1.setCell ⟨g, o, none⟩ v1 ∧ w1.ownsRow w.heap.size 34 1 r (xs.take j).length (nums .u32 (xs.take j)) ∧ Below w.heap.size w w1 ∧ QRow w1 0 34 1 v1 (xs.length - j) (nums .u32 (xs.drop j)) ∧ (v1.ownBlock = v.ownBlock ∨ v1.ownBlock = none) ∧ (xs.length - j = 0 → v1 = .slice none 0 0)
theorem q_none (w : World) (e : Nat) : QRow w 0 e 1 (.slice none 0 0) 0 (nums .u32 []) := ⟨rfl, .inl ⟨rfl, none, rfl, fun _ h => by cases h⟩⟩
theorem told_some {w w1 : World} {g o j c1 c2 : Nat} {v : Value} {xs : List Int} {A1 A2 : Option Addr} (hj : j ≤ xs.length) (hz : ¬ xs.length - j = 0)
    (HO : w1.ownsRow w.heap.size 34 1 (.slice A1 ([] ++ xs.take j).length c1) ([] ++ xs.take j).length (nums .u32 ([] ++ xs.take j))) (HB : Below w.heap.size w w1)
    (HD : QRow w 0 34 1 (.slice A2 (xs.length - j) c2) (xs.length - j) (nums .u32 (xs.drop j))) (hb : (Value.slice A2 (xs.length - j) c2).ownBlock = v.ownBlock) :
    Told w g o v xs j (.returned (.slice A1 j c1)) (w1.setCell ⟨g, o, none⟩ (.slice A2 (xs.length - j) c2)) := by
  have e : ([] ++ xs.take j).length = j := by rw [List.nil_append, List.length_take]; omega
  have e2 : (xs.take j).length = j := by rw [List.length_take]; omega
  rw [e, List.nil_append] at HO
  exact ⟨_, _, w1, rfl, rfl, by rw [e2]; exact HO, HB, q_move HD (fun k hk => HB.block k (q_lt HD k hk)), .inl hb, fun h0 => absurd h0 hz⟩
theorem told_all {w w1 : World} {g o j c1 : Nat} {v x : Value} {xs : List Int} {A1 : Option Addr} (hj : j ≤ xs.length) (hz : xs.length - j = 0)
    (HO : w1.ownsRow w.heap.size 34 1 (.slice A1 ([] ++ xs.take j).length c1) ([] ++ xs.take j).length (nums .u32 ([] ++ xs.take j))) (HB : Below w.heap.size w w1) :
    Told w g o v xs j (.returned (.slice A1 j c1)) ((w1.setCell ⟨g, o, none⟩ x).setCell ⟨g, o, none⟩ (.slice none 0 0)) := by
  have e : ([] ++ xs.take j).length = j := by rw [List.nil_append, List.length_take]; omega
  have e2 : (xs.take j).length = j := by rw [List.length_take]; omega
  rw [e, List.nil_append] at HO
  rw [set_set]
  refine ⟨_, _, w1, rfl, rfl, by rw [e2]; exact HO, HB, ?_, .inr rfl, fun _ => rfl⟩
  rw [hz, List.drop_eq_nil_of_le (by omega)]
  exact q_none w1 _
theorem tell_in {o : Nat} {v : Value} {xs : List Int} (room : Int) (h0 : 0 ≤ room) (hr : room ≤ xs.length) (hc : w.cell? ⟨g, o, none⟩ = some v) (hf : w.frozen? ⟨g, o, none⟩ = false) (hq : QRow w 0 34 1 v xs.length (nums .u32 xs)) (hl : xs.length ≤ 1073741824) :
    Calls Try.prog 46 #[.pointer (some ⟨g, o, none⟩), .int .i64 room] w (Told w g o v xs room.toNat) := by
  obtain ⟨A0, c0, rfl, hnc⟩ := q_slice hq
  have hgl := World.block_lt_of_cell? w _ hc
  obtain ⟨i0, hi, hz0, hz1, hz2⟩ := info_parts infoU
  have hcut1 := cut_to (P := Try.prog) 22 34 .i64 Try.underlying22 hi A0 xs.length c0 room (by omega) (by omega) hnc
  have hcut2 := cut_from (P := Try.prog) 22 34 .i64 Try.underlying22 hi 1 hz1 A0 xs.length c0 room (by omega) (by omega)
  have hj : room.toNat ≤ xs.length := by omega
  have ht := q_take hq (m := room.toNat) hj
  have hd := q_drop hq (k := room.toNat) hj
  rw [nums_take] at ht
  rw [nums_drop] at hd
  have HR := Lib.hid (q_reads ht)
  have HL := Lib.hid hl
  obtain ⟨A2, hA2⟩ : ∃ A2, (if c0 = room.toNat then A0 else A0.map (·.add (room.toNat * 1))) = A2 := ⟨_, rfl⟩
  rw [hA2] at hd
  simp only [hA2] at hcut2
  have HD := Lib.hid hd
  have HB := Lib.hid (show (Value.slice A2 (xs.length - room.toNat) (c0 - room.toNat)).ownBlock = (Value.slice A0 xs.length c0).ownBlock from by
    rw [← hA2]
    split
    · cases A0 <;> rfl
    · cases A0 with
      | none => rfl
      | some ad => simp [Value.ownBlock, Addr.add] <;> split <;> rfl)
  have HJ := Lib.hid hj
  clear hq ht hd hA2
  by_cases hz : xs.length - room.toNat = 0
  · go_enter Try.func46, Try.ntmps46
    go_wp2_with (at_builtin; go_must (refine print_append_row (w0 := w) w.heap.size rfl (.const (.slice none 0 0)) (.tmp 20) 22 34 .u32 4 rfl Try.underlying22 infoU (by omega) (.slice none 0 0) [] (xs.take room.toNat) A0 room.toNat c0 rfl rfl (own_nil _ _ _ _) HR.out (Below.refl _ _) (by omega) (by have := HL.out; have := HJ.out; simp only [List.length_nil]; omega) ?_); intro v1 w1 hown1 hb1 hg1 hat1; obtain ⟨A1, c1, rfl⟩ := own_slice hown1; have HO1 := Lib.hid hown1; have HB1 := Lib.hid hb1; have hc1 := (hb1.cell (p := ⟨g, o, none⟩) hgl).trans hc; have hf1 := (hb1.frozen (p := ⟨g, o, none⟩) hgl).trans hf; clear hown1 hb1 hg1 hat1 hc hf)
    go_ret
    exact told_all HJ.out hz HO1.out HB1.out
  · go_enter Try.func46, Try.ntmps46
    go_wp2_with (at_builtin; go_must (refine print_append_row (w0 := w) w.heap.size rfl (.const (.slice none 0 0)) (.tmp 20) 22 34 .u32 4 rfl Try.underlying22 infoU (by omega) (.slice none 0 0) [] (xs.take room.toNat) A0 room.toNat c0 rfl rfl (own_nil _ _ _ _) HR.out (Below.refl _ _) (by omega) (by have := HL.out; have := HJ.out; simp only [List.length_nil]; omega) ?_); intro v1 w1 hown1 hb1 hg1 hat1; obtain ⟨A1, c1, rfl⟩ := own_slice hown1; have HO1 := Lib.hid hown1; have HB1 := Lib.hid hb1; have hc1 := (hb1.cell (p := ⟨g, o, none⟩) hgl).trans hc; have hf1 := (hb1.frozen (p := ⟨g, o, none⟩) hgl).trans hf; clear hown1 hb1 hg1 hat1 hc hf)
    go_ret
    exact told_some HJ.out hz HO1.out HB1.out HD.out HB.out

theorem tell_neg {o : Nat} {v : Value} {xs : List Int} (room : Int) (h0 : room < 0) (hc : w.cell? ⟨g, o, none⟩ = some v) (hf : w.frozen? ⟨g, o, none⟩ = false) (hq : QRow w 0 34 1 v xs.length (nums .u32 xs)) (hl : xs.length ≤ 1073741824) :
    Calls Try.prog 46 #[.pointer (some ⟨g, o, none⟩), .int .i64 room] w (Told w g o v xs 0) := by
  obtain ⟨A0, c0, rfl, hnc⟩ := q_slice hq
  have hgl := World.block_lt_of_cell? w _ hc
  obtain ⟨i0, hi, hz0, hz1, hz2⟩ := info_parts infoU
  have hcut1 := cut_to (P := Try.prog) 22 34 .i64 Try.underlying22 hi A0 xs.length c0 0 (by omega) (by omega) hnc
  have hcut2 := cut_from (P := Try.prog) 22 34 .i64 Try.underlying22 hi 1 hz1 A0 xs.length c0 0 (by omega) (by omega)
  have hj : 0 ≤ xs.length := by omega
  have ht := q_take hq (m := 0) hj
  have hd := q_drop hq (k := 0) hj
  rw [nums_take] at ht
  rw [nums_drop] at hd
  have HR := Lib.hid (q_reads ht)
  have HL := Lib.hid hl
  have ez : (0 : Int).toNat = 0 := rfl
  rw [ez] at hcut1 hcut2
  obtain ⟨A2, hA2⟩ : ∃ A2, (if c0 = 0 then A0 else A0.map (·.add (0 * 1))) = A2 := ⟨_, rfl⟩
  rw [hA2] at hd
  simp only [hA2] at hcut2
  have HD := Lib.hid hd
  have HB := Lib.hid (show (Value.slice A2 (xs.length - 0) (c0 - 0)).ownBlock = (Value.slice A0 xs.length c0).ownBlock from by
    rw [← hA2]
    split
    · cases A0 <;> rfl
    · cases A0 with
      | none => rfl
      | some ad => simp [Value.ownBlock, Addr.add] <;> split <;> rfl)
  have HJ := Lib.hid hj
  clear hq ht hd hA2
  by_cases hz : xs.length - 0 = 0
  · go_enter Try.func46, Try.ntmps46
    go_wp2_with (at_builtin; go_must (refine print_append_row (w0 := w) w.heap.size rfl (.const (.slice none 0 0)) (.tmp 20) 22 34 .u32 4 rfl Try.underlying22 infoU (by omega) (.slice none 0 0) [] (xs.take 0) A0 0 c0 rfl rfl (own_nil _ _ _ _) HR.out (Below.refl _ _) (by omega) (by have := HL.out; have := HJ.out; simp only [List.length_nil]; omega) ?_); intro v1 w1 hown1 hb1 hg1 hat1; obtain ⟨A1, c1, rfl⟩ := own_slice hown1; have HO1 := Lib.hid hown1; have HB1 := Lib.hid hb1; have hc1 := (hb1.cell (p := ⟨g, o, none⟩) hgl).trans hc; have hf1 := (hb1.frozen (p := ⟨g, o, none⟩) hgl).trans hf; clear hown1 hb1 hg1 hat1 hc hf)
    go_ret
    exact told_all HJ.out hz HO1.out HB1.out
  · go_enter Try.func46, Try.ntmps46
    go_wp2_with (at_builtin; go_must (refine print_append_row (w0 := w) w.heap.size rfl (.const (.slice none 0 0)) (.tmp 20) 22 34 .u32 4 rfl Try.underlying22 infoU (by omega) (.slice none 0 0) [] (xs.take 0) A0 0 c0 rfl rfl (own_nil _ _ _ _) HR.out (Below.refl _ _) (by omega) (by have := HL.out; have := HJ.out; simp only [List.length_nil]; omega) ?_); intro v1 w1 hown1 hb1 hg1 hat1; obtain ⟨A1, c1, rfl⟩ := own_slice hown1; have HO1 := Lib.hid hown1; have HB1 := Lib.hid hb1; have hc1 := (hb1.cell (p := ⟨g, o, none⟩) hgl).trans hc; have hf1 := (hb1.frozen (p := ⟨g, o, none⟩) hgl).trans hf; clear hown1 hb1 hg1 hat1 hc hf)
    go_ret
    exact told_some HJ.out hz HO1.out HB1.out HD.out HB.out

theorem tell_out {o : Nat} {v : Value} {xs : List Int} (room : Int) (h0 : (xs.length : Int) < room) (hc : w.cell? ⟨g, o, none⟩ = some v) (hf : w.frozen? ⟨g, o, none⟩ = false) (hq : QRow w 0 34 1 v xs.length (nums .u32 xs)) (hl : xs.length ≤ 1073741824) :
    Calls Try.prog 46 #[.pointer (some ⟨g, o, none⟩), .int .i64 room] w (Told w g o v xs xs.length) := by
  obtain ⟨A0, c0, rfl, hnc⟩ := q_slice hq
  have hgl := World.block_lt_of_cell? w _ hc
  obtain ⟨i0, hi, hz0, hz1, hz2⟩ := info_parts infoU
  have hcut1 := cut_to (P := Try.prog) 22 34 .i64 Try.underlying22 hi A0 xs.length c0 (xs.length : Int) (by omega) (by omega) hnc
  have hcut2 := cut_from (P := Try.prog) 22 34 .i64 Try.underlying22 hi 1 hz1 A0 xs.length c0 (xs.length : Int) (by omega) (by omega)
  have hj : xs.length ≤ xs.length := by omega
  have ht := q_take hq (m := xs.length) hj
  have hd := q_drop hq (k := xs.length) hj
  rw [nums_take] at ht
  rw [nums_drop] at hd
  have HR := Lib.hid (q_reads ht)
  have HL := Lib.hid hl
  have ez : ((xs.length : Nat) : Int).toNat = xs.length := rfl
  rw [ez] at hcut1 hcut2
  obtain ⟨A2, hA2⟩ : ∃ A2, (if c0 = xs.length then A0 else A0.map (·.add (xs.length * 1))) = A2 := ⟨_, rfl⟩
  rw [hA2] at hd
  simp only [hA2] at hcut2
  have HD := Lib.hid hd
  have HB := Lib.hid (show (Value.slice A2 (xs.length - xs.length) (c0 - xs.length)).ownBlock = (Value.slice A0 xs.length c0).ownBlock from by
    rw [← hA2]
    split
    · cases A0 <;> rfl
    · cases A0 with
      | none => rfl
      | some ad => simp [Value.ownBlock, Addr.add] <;> split <;> rfl)
  have HJ := Lib.hid hj
  clear hq ht hd hA2
  have hz : xs.length - xs.length = 0 := by omega
  go_enter Try.func46, Try.ntmps46
  go_wp2_with (at_builtin; go_must (refine print_append_row (w0 := w) w.heap.size rfl (.const (.slice none 0 0)) (.tmp 20) 22 34 .u32 4 rfl Try.underlying22 infoU (by omega) (.slice none 0 0) [] (xs.take xs.length) A0 xs.length c0 rfl rfl (own_nil _ _ _ _) HR.out (Below.refl _ _) (by omega) (by have := HL.out; have := HJ.out; simp only [List.length_nil]; omega) ?_); intro v1 w1 hown1 hb1 hg1 hat1; obtain ⟨A1, c1, rfl⟩ := own_slice hown1; have HO1 := Lib.hid hown1; have HB1 := Lib.hid hb1; have hc1 := (hb1.cell (p := ⟨g, o, none⟩) hgl).trans hc; have hf1 := (hb1.frozen (p := ⟨g, o, none⟩) hgl).trans hf; clear hown1 hb1 hg1 hat1 hc hf)
  go_ret
  exact told_all HJ.out hz HO1.out HB1.out

theorem tell_any {o : Nat} {v : Value} {xs : List Int} (room : Int) (hc : w.cell? ⟨g, o, none⟩ = some v) (hf : w.frozen? ⟨g, o, none⟩ = false) (hq : QRow w 0 34 1 v xs.length (nums .u32 xs)) (hl : xs.length ≤ 1073741824) :
    Calls Try.prog 46 #[.pointer (some ⟨g, o, none⟩), .int .i64 room] w (Told w g o v xs (min room.toNat xs.length)) := by
  by_cases h0 : room < 0
  · rw [show min room.toNat xs.length = 0 by omega]; exact tell_neg room h0 hc hf hq hl
  by_cases h1 : room ≤ xs.length
  · rw [show min room.toNat xs.length = room.toNat by omega]; exact tell_in room (by omega) h1 hc hf hq hl
  · rw [show min room.toNat xs.length = xs.length by omega]; exact tell_out room (by omega) hc hf hq hl
end
end Go.Proofs.Ythodifmfamflpaa
