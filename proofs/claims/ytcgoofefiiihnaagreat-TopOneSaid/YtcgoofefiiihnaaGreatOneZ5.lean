/- Texts of this claim, merged; without what the law does not lean on: Step Stepb Dec. -/
import Derived.Test.YtcgoofefiiihnaaGreatProg
import Derived.Test.YtcgoofefiiihnaaGreatOneZ2
import Derived.WalkKit
import Derived.WalkSpells
import Derived.KernelRfl
import Derived.Deep.QuietTactic
import Derived.BigQuiet
import Derived.Outline
import Derived.Lib.Hide
namespace Go.Proofs.YtcgoofefiiihnaaGreat
open Go.RowKit Go.Proofs.YtcgoofefiiihnaaGreatW.PrintWords Go.Proofs.YtcgoofefiiihnaaGreatW.PrintMore
set_option linter.unusedVariables false
set_option linter.unusedSimpArgs false
set_option maxRecDepth 20000
section
variable {w : World} {g T : Nat} {a e f : Int} {d : Bool} {rest : List Value}
theorem going_yes (h : BsAt w g T a 0 f false rest) : Calls Tryz.prog 158 #[.pointer (some ⟨g, 0, none⟩)] w fun en w' => en = .returned (.bool true) ∧ w = w' := by
  have c1 := h.c1
  have c3 := h.c3
  clear h
  go_enter Tryz.func158, Tryz.ntmps158
  go_wp2
  go_ret
  exact ⟨rfl, rfl⟩
theorem going_err (he : (e == 0) = false) (h : BsAt w g T a e f d rest) : Calls Tryz.prog 158 #[.pointer (some ⟨g, 0, none⟩)] w fun en w' => en = .returned (.bool false) ∧ w = w' := by
  have c1 := h.c1
  have c3 := h.c3
  clear h
  go_enter Tryz.func158, Tryz.ntmps158
  go_wp2
  go_ret
  exact ⟨rfl, rfl⟩
theorem going_end (h : BsAt w g T a 0 f true rest) : Calls Tryz.prog 158 #[.pointer (some ⟨g, 0, none⟩)] w fun en w' => en = .returned (.bool false) ∧ w = w' := by
  have c1 := h.c1
  have c3 := h.c3
  clear h
  go_enter Tryz.func158, Tryz.ntmps158
  go_wp2
  go_ret
  exact ⟨rfl, rfl⟩
theorem going_no (hn : (e == 0 && !d) = false) (h : BsAt w g T a e f d rest) : Calls Tryz.prog 158 #[.pointer (some ⟨g, 0, none⟩)] w fun en w' => en = .returned (.bool false) ∧ w = w' := by
  cases he : (e == 0) with
  | false => exact going_err he h
  | true =>
    have h0 : e = 0 := by simpa using he
    subst h0
    cases d with
    | false => simp at hn
    | true => exact going_end h
theorem fail_any (h : BsAt w g T a e f d rest) : Calls Tryz.prog 156 #[.pointer (some ⟨g, 0, none⟩)] w fun en w' => en = .returned (.agg #[.int .i64 e, .int .i64 f]) ∧ Below w.heap.size w w' := by
  have hu := Tryz.underlying27
  have c1 := h.c1
  have c2 := h.c2
  have hl := h.lt
  clear h
  go_enter Tryz.func156, Tryz.ntmps156
  go_wp2
  exact bodyPost_ret (v := .agg #[.int .i64 e, .int .i64 f]) (by simp [results, Tryz.results156, go_sem]) rfl ⟨rfl, (Below.refl _ _).alloc (Nat.le_refl _) _⟩
theorem eat_pos (n : Int) (hpos : 0 ≤ n) (h0 : 0 ≤ a) (h1 : a ≤ 1152921504606846976) (hn : n ≤ 1125899906842624) (h : BsAt w g T a 0 f false rest) : Calls Tryz.prog 163 #[.pointer (some ⟨g, 0, none⟩), .int .i64 n] w fun en w' => en = .returned (.tuple #[]) ∧ BsAt w' g T (a + n) 0 f false rest ∧ Kp (fun k => k = g) w w' := by
  have c0 := h.c0
  have c1 := h.c1
  have c3 := h.c3
  have f0 := h.fz 0
  have HG := Lib.hid (h.set0 (a + n))
  clear h
  go_enter Tryz.func163, Tryz.ntmps163
  go_wp2
  go_end0
  exact ⟨rfl, HG.out, (Kp.refl _ _).setg _ _⟩
theorem stop_yes (n : Int) (hn : (n == 0) = false) (h : BsAt w g T a 0 f false rest) : Calls Tryz.prog 160 #[.pointer (some ⟨g, 0, none⟩), .int .i64 n] w fun en w' => en = .returned (.tuple #[]) ∧ BsAt w' g T a n a false rest ∧ Kp (fun k => k = g) w w' := by
  have hu := Tryz.underlying27
  have c0 := h.c0
  have c1 := h.c1
  have c2 := h.c2
  have c3 := h.c3
  have f1 := h.fz 1
  have f2 := h.fz 2
  have hn2 : (n != 0) = true := by simpa using hn
  have HG := Lib.hid ((h.set1 n).set2 a)
  clear h
  go_enter Tryz.func160, Tryz.ntmps160
  go_wp2
  go_end0
  exact ⟨rfl, HG.out, ((Kp.refl _ _).setg _ _).setg _ _⟩
theorem stop_no (n : Int) (hn : (e == 0 && !d) = false) (h : BsAt w g T a e f d rest) : Calls Tryz.prog 160 #[.pointer (some ⟨g, 0, none⟩), .int .i64 n] w fun en w' => en = .returned (.tuple #[]) ∧ w = w' := by
  go_enter Tryz.func160, Tryz.ntmps160
  go_wp2_with (go_at_call 158; refine (going_no hn h).mono ?_; rintro e w' ⟨rfl, rfl⟩)
  go_end0
  exact ⟨rfl, rfl⟩
theorem end_yes (h : BsAt w g T a 0 f false rest) : Calls Tryz.prog 161 #[.pointer (some ⟨g, 0, none⟩)] w fun en w' => en = .returned (.tuple #[]) ∧ BsAt w' g T a 0 f true rest ∧ Kp (fun k => k = g) w w' := by
  have c1 := h.c1
  have c3 := h.c3
  have f3 := h.fz 3
  have HG := Lib.hid (h.set3 true)
  clear h
  go_enter Tryz.func161, Tryz.ntmps161
  go_wp2
  go_end0
  exact ⟨rfl, HG.out, (Kp.refl _ _).setg _ _⟩
theorem end_no (hn : (e == 0 && !d) = false) (h : BsAt w g T a e f d rest) : Calls Tryz.prog 161 #[.pointer (some ⟨g, 0, none⟩)] w fun en w' => en = .returned (.tuple #[]) ∧ w = w' := by
  go_enter Tryz.func161, Tryz.ntmps161
  go_wp2_with (go_at_call 158; refine (going_no hn h).mono ?_; rintro e w' ⟨rfl, rfl⟩)
  go_end0
  exact ⟨rfl, rfl⟩
theorem held_any {o n c : Nat} {A : Option Addr} (hc : w.cell? ⟨g, o, none⟩ = some (.slice A n c)) : Calls Tryz.prog 159 #[.pointer (some ⟨g, o, none⟩)] w fun en w' => en = .returned (.int .i64 n) ∧ w = w' := by
  go_enter Tryz.func159, Tryz.ntmps159
  go_wp2
  go_ret
  exact ⟨rfl, rfl⟩
theorem kept_any {o : Nat} {s : ByteArray} (hc : w.cell? ⟨g, o, none⟩ = some (.string s)) : Calls Tryz.prog 224 #[.pointer (some ⟨g, o, none⟩)] w fun en w' => en = .returned (.int .i64 s.size) ∧ w = w' := by
  go_enter Tryz.func224, Tryz.ntmps224
  go_wp2
  go_ret
  exact ⟨rfl, rfl⟩
theorem keep_any {o : Nat} {s u : ByteArray} (hc : w.cell? ⟨g, o, none⟩ = some (.string s)) (hf : w.frozen? ⟨g, o, none⟩ = false) (hl : s.size + u.size ≤ 1073741824) : Calls Tryz.prog 226 #[.pointer (some ⟨g, o, none⟩), .string u] w fun en w' => en = .returned (.tuple #[]) ∧ w' = w.setCell ⟨g, o, none⟩ (.string (s ++ u)) := by
  go_enter Tryz.func226, Tryz.ntmps226
  go_wp2
  go_end0
  exact ⟨rfl, rfl⟩
theorem give_neg {o : Nat} {s : ByteArray} (room : Int) (hr : room < 0) (hc : w.cell? ⟨g, o, none⟩ = some (.string s)) (hf : w.frozen? ⟨g, o, none⟩ = false) (hl : s.size ≤ 1073741824) : Calls Tryz.prog 225 #[.pointer (some ⟨g, o, none⟩), .int .i64 room] w fun en w' => en = .returned (.string ByteArray.empty) ∧ w' = w.setCell ⟨g, o, none⟩ (.string s) := by
  go_enter Tryz.func225, Tryz.ntmps225
  go_wp2
  go_ret
  exact ⟨rfl, rfl⟩
theorem give_in {o : Nat} {s : ByteArray} (room : Int) (h0 : 0 ≤ room) (hr : room ≤ s.size) (hc : w.cell? ⟨g, o, none⟩ = some (.string s)) (hf : w.frozen? ⟨g, o, none⟩ = false) (hl : s.size ≤ 1073741824) : Calls Tryz.prog 225 #[.pointer (some ⟨g, o, none⟩), .int .i64 room] w fun en w' => en = .returned (.string (s.extract 0 room.toNat)) ∧ w' = w.setCell ⟨g, o, none⟩ (.string (s.extract room.toNat s.size)) := by
  go_enter Tryz.func225, Tryz.ntmps225
  go_wp2
  go_ret
  exact ⟨rfl, rfl⟩
theorem give_out {o : Nat} {s : ByteArray} (room : Int) (hr : s.size < room) (hc : w.cell? ⟨g, o, none⟩ = some (.string s)) (hf : w.frozen? ⟨g, o, none⟩ = false) (hl : s.size ≤ 1073741824) : Calls Tryz.prog 225 #[.pointer (some ⟨g, o, none⟩), .int .i64 room] w fun en w' => en = .returned (.string s) ∧ w' = w.setCell ⟨g, o, none⟩ (.string ByteArray.empty) := by
  go_enter Tryz.func225, Tryz.ntmps225
  go_wp2
  go_ret
  exact ⟨rfl, rfl⟩
def Given (s : ByteArray) (room : Int) (a b : ByteArray) : Prop := a.data.toList = s.data.toList.take room.toNat ∧ b.data.toList = s.data.toList.drop room.toNat
theorem give_any {o : Nat} {s : ByteArray} (room : Int) (hc : w.cell? ⟨g, o, none⟩ = some (.string s)) (hf : w.frozen? ⟨g, o, none⟩ = false) (hl : s.size ≤ 1073741824) : Calls Tryz.prog 225 #[.pointer (some ⟨g, o, none⟩), .int .i64 room] w fun en w' => ∃ x y, en = .returned (.string x) ∧ w' = w.setCell ⟨g, o, none⟩ (.string y) ∧ Given s room x y := by
  have hz : s.data.toList.length = s.size := data_length s
  by_cases h0 : room < 0
  · refine (give_neg room h0 hc hf hl).mono fun en w' h => ⟨_, _, h.1, h.2, ?_, ?_⟩
    · rw [show room.toNat = 0 by omega]; rfl
    · rw [show room.toNat = 0 by omega]; rfl
  by_cases h1 : room ≤ s.size
  · refine (give_in room (by omega) h1 hc hf hl).mono fun en w' h => ⟨_, _, h.1, h.2, ?_, ?_⟩
    · rw [ByteArray.data_extract, Array.toList_extract, List.extract_eq_take_drop, List.drop_zero, Nat.sub_zero]
    · rw [ByteArray.data_extract, Array.toList_extract, List.extract_eq_take_drop, List.take_of_length_le (by rw [List.length_drop]; omega)]
  · refine (give_out room (by omega) hc hf hl).mono fun en w' h => ⟨_, _, h.1, h.2, ?_, ?_⟩
    · rw [List.take_of_length_le (by omega)]
    · rw [List.drop_eq_nil_of_le (by omega)]; rfl
theorem infoU : (Tryz.prog.info? 56).map (fun i => (i.zero, i.size, i.bytes)) = some (some (.int .u32 0), 1, 4) := by kernel_rfl
theorem hold_any {o m c : Nat} {v : Value} {xs ys : List Int} {A : Option Addr} (hc : w.cell? ⟨g, o, none⟩ = some v) (hf : w.frozen? ⟨g, o, none⟩ = false) (hq : QRow w 0 56 1 v xs.length (nums .u32 xs)) (hne : v.ownBlock ≠ some g) (hr : ReadsInt w .u32 A m ys) (hl : xs.length + m ≤ 1073741824) :
    Calls Tryz.prog 165 #[.pointer (some ⟨g, o, none⟩), .slice A m c] w fun en w' => en = .returned (.tuple #[]) ∧ ∃ v1 w1, w' = w1.setCell ⟨g, o, none⟩ v1 ∧ QRow w1 0 56 1 v1 (xs.length + ys.length) (nums .u32 (xs ++ ys)) ∧ w.grownBy w1 v.ownBlock ∧ (v1.ownBlock = v.ownBlock ∨ ∃ b, v1.ownBlock = some b ∧ w.heap.size ≤ b) := by
  obtain ⟨A0, c0, rfl, hnc⟩ := q_slice hq
  have hgl := World.block_lt_of_cell? w _ hc
  have HQ := Lib.hid hq
  have HR := Lib.hid hr
  have HN := Lib.hid hne
  have HL := Lib.hid hl
  clear hq hr hne hl
  go_enter Tryz.func165, Tryz.ntmps165
  go_wp2_with (at_builtin; go_must (refine wp_qapp 0 rfl (.tmp 8) (.tmp 9) 24 56 .u32 4 rfl Tryz.underlying24 infoU (by omega) (.slice A0 xs.length c0) xs ys A m c rfl rfl HQ.out HR.out (by omega) (by have := HL.out; omega) ?_); intro v1 w1 hq1 hg1 hat1; obtain ⟨A1, c1, rfl, hnc1⟩ := q_slice hq1; have HQ1 := Lib.hid hq1; have HG1 := Lib.hid hg1; have HA1 := Lib.hid hat1; have hc1 := (hg1.cell_far ⟨g, o, none⟩ hgl (fun he => HN.out he.symm)).trans hc; have hf1 := (hg1.frozen_far ⟨g, o, none⟩ hgl (fun he => HN.out he.symm)).trans hf; clear hq1 hg1 hat1 hc hf)
  go_end0
  exact ⟨rfl, _, _, rfl, HQ1.out, HG1.out, HA1.out⟩
def Told (w : World) (g o : Nat) (v : Value) (xs : List Int) (j : Nat) (en : Ending) (w' : World) : Prop :=
  ∃ r v1 w1, en = .returned r ∧ w' = w1.setCell ⟨g, o, none⟩ v1 ∧ w1.ownsRow w.heap.size 56 1 r (xs.take j).length (nums .u32 (xs.take j)) ∧ Below w.heap.size w w1 ∧ QRow w1 0 56 1 v1 (xs.length - j) (nums .u32 (xs.drop j)) ∧ (v1.ownBlock = v.ownBlock ∨ v1.ownBlock = none) ∧ (xs.length - j = 0 → v1 = .slice none 0 0)
theorem q_none (w : World) (e : Nat) : QRow w 0 e 1 (.slice none 0 0) 0 (nums .u32 []) := ⟨rfl, .inl ⟨rfl, none, rfl, fun _ h => by cases h⟩⟩
theorem told_some {w w1 : World} {g o j c1 c2 : Nat} {v : Value} {xs : List Int} {A1 A2 : Option Addr} (hj : j ≤ xs.length) (hz : ¬ xs.length - j = 0)
    (HO : w1.ownsRow w.heap.size 56 1 (.slice A1 ([] ++ xs.take j).length c1) ([] ++ xs.take j).length (nums .u32 ([] ++ xs.take j))) (HB : Below w.heap.size w w1)
    (HD : QRow w 0 56 1 (.slice A2 (xs.length - j) c2) (xs.length - j) (nums .u32 (xs.drop j))) (hb : (Value.slice A2 (xs.length - j) c2).ownBlock = v.ownBlock) :
    Told w g o v xs j (.returned (.slice A1 j c1)) (w1.setCell ⟨g, o, none⟩ (.slice A2 (xs.length - j) c2)) := by
  have e : ([] ++ xs.take j).length = j := by rw [List.nil_append, List.length_take]; omega
  have e2 : (xs.take j).length = j := by rw [List.length_take]; omega
  rw [e, List.nil_append] at HO
  exact ⟨_, _, w1, rfl, rfl, by rw [e2]; exact HO, HB, q_move HD (fun k hk => HB.block k (q_lt HD k hk)), .inl hb, fun h0 => absurd h0 hz⟩
theorem told_all {w w1 : World} {g o j c1 : Nat} {v x : Value} {xs : List Int} {A1 : Option Addr} (hj : j ≤ xs.length) (hz : xs.length - j = 0)
    (HO : w1.ownsRow w.heap.size 56 1 (.slice A1 ([] ++ xs.take j).length c1) ([] ++ xs.take j).length (nums .u32 ([] ++ xs.take j))) (HB : Below w.heap.size w w1) :
    Told w g o v xs j (.returned (.slice A1 j c1)) ((w1.setCell ⟨g, o, none⟩ x).setCell ⟨g, o, none⟩ (.slice none 0 0)) := by
  have e : ([] ++ xs.take j).length = j := by rw [List.nil_append, List.length_take]; omega
  have e2 : (xs.take j).length = j := by rw [List.length_take]; omega
  rw [e, List.nil_append] at HO
  rw [set_set]
  refine ⟨_, _, w1, rfl, rfl, by rw [e2]; exact HO, HB, ?_, .inr rfl, fun _ => rfl⟩
  rw [hz, List.drop_eq_nil_of_le (by omega)]
  exact q_none w1 _
theorem tell_in {o : Nat} {v : Value} {xs : List Int} (room : Int) (h0 : 0 ≤ room) (hr : room ≤ xs.length) (hc : w.cell? ⟨g, o, none⟩ = some v) (hf : w.frozen? ⟨g, o, none⟩ = false) (hq : QRow w 0 56 1 v xs.length (nums .u32 xs)) (hl : xs.length ≤ 1073741824) :
    Calls Tryz.prog 164 #[.pointer (some ⟨g, o, none⟩), .int .i64 room] w (Told w g o v xs room.toNat) := by
  obtain ⟨A0, c0, rfl, hnc⟩ := q_slice hq
  have hgl := World.block_lt_of_cell? w _ hc
  obtain ⟨i0, hi, hz0, hz1, hz2⟩ := info_parts infoU
  have hcut1 := cut_to (P := Tryz.prog) 24 56 .i64 Tryz.underlying24 hi A0 xs.length c0 room (by omega) (by omega) hnc
  have hcut2 := cut_from (P := Tryz.prog) 24 56 .i64 Tryz.underlying24 hi 1 hz1 A0 xs.length c0 room (by omega) (by omega)
  have hj : room.toNat ≤ xs.length := by omega
  have ht := q_take hq (m := room.toNat) hj
  have hd := q_drop hq (k := room.toNat) hj
  rw [nums_take] at ht
  rw [nums_drop] at hd
  have HR := Lib.hid (q_reads ht)
  have HL := Lib.hid hl
  obtain ⟨A2, hA2⟩ : ∃ A2, (if c0 = room.toNat then A0 else A0.map (·.add (room.toNat * 1))) = A2 := ⟨_, rfl⟩
  rw [hA2] at hd
  simp only [hA2] at hcut2
  have HD := Lib.hid hd
  have HB := Lib.hid (show (Value.slice A2 (xs.length - room.toNat) (c0 - room.toNat)).ownBlock = (Value.slice A0 xs.length c0).ownBlock from by
    rw [← hA2]
    split
    · cases A0 <;> rfl
    · cases A0 with
      | none => rfl
      | some ad => simp [Value.ownBlock, Addr.add] <;> split <;> rfl)
  have HJ := Lib.hid hj
  clear hq ht hd hA2
  by_cases hz : xs.length - room.toNat = 0
  · go_enter Tryz.func164, Tryz.ntmps164
    go_wp2_with (at_builtin; go_must (refine print_append_row (w0 := w) w.heap.size rfl (.const (.slice none 0 0)) (.tmp 20) 24 56 .u32 4 rfl Tryz.underlying24 infoU (by omega) (.slice none 0 0) [] (xs.take room.toNat) A0 room.toNat c0 rfl rfl (own_nil _ _ _ _) HR.out (Below.refl _ _) (by omega) (by have := HL.out; have := HJ.out; simp only [List.length_nil]; omega) ?_); intro v1 w1 hown1 hb1 hg1 hat1; obtain ⟨A1, c1, rfl⟩ := own_slice hown1; have HO1 := Lib.hid hown1; have HB1 := Lib.hid hb1; have hc1 := (hb1.cell (p := ⟨g, o, none⟩) hgl).trans hc; have hf1 := (hb1.frozen (p := ⟨g, o, none⟩) hgl).trans hf; clear hown1 hb1 hg1 hat1 hc hf)
    go_ret
    exact told_all HJ.out hz HO1.out HB1.out
  · go_enter Tryz.func164, Tryz.ntmps164
    go_wp2_with (at_builtin; go_must (refine print_append_row (w0 := w) w.heap.size rfl (.const (.slice none 0 0)) (.tmp 20) 24 56 .u32 4 rfl Tryz.underlying24 infoU (by omega) (.slice none 0 0) [] (xs.take room.toNat) A0 room.toNat c0 rfl rfl (own_nil _ _ _ _) HR.out (Below.refl _ _) (by omega) (by have := HL.out; have := HJ.out; simp only [List.length_nil]; omega) ?_); intro v1 w1 hown1 hb1 hg1 hat1; obtain ⟨A1, c1, rfl⟩ := own_slice hown1; have HO1 := Lib.hid hown1; have HB1 := Lib.hid hb1; have hc1 := (hb1.cell (p := ⟨g, o, none⟩) hgl).trans hc; have hf1 := (hb1.frozen (p := ⟨g, o, none⟩) hgl).trans hf; clear hown1 hb1 hg1 hat1 hc hf)
    go_ret
    exact told_some HJ.out hz HO1.out HB1.out HD.out HB.out
theorem tell_neg {o : Nat} {v : Value} {xs : List Int} (room : Int) (h0 : room < 0) (hc : w.cell? ⟨g, o, none⟩ = some v) (hf : w.frozen? ⟨g, o, none⟩ = false) (hq : QRow w 0 56 1 v xs.length (nums .u32 xs)) (hl : xs.length ≤ 1073741824) :
    Calls Tryz.prog 164 #[.pointer (some ⟨g, o, none⟩), .int .i64 room] w (Told w g o v xs 0) := by
  obtain ⟨A0, c0, rfl, hnc⟩ := q_slice hq
  have hgl := World.block_lt_of_cell? w _ hc
  obtain ⟨i0, hi, hz0, hz1, hz2⟩ := info_parts infoU
  have hcut1 := cut_to (P := Tryz.prog) 24 56 .i64 Tryz.underlying24 hi A0 xs.length c0 0 (by omega) (by omega) hnc
  have hcut2 := cut_from (P := Tryz.prog) 24 56 .i64 Tryz.underlying24 hi 1 hz1 A0 xs.length c0 0 (by omega) (by omega)
  have hj : 0 ≤ xs.length := by omega
  have ht := q_take hq (m := 0) hj
  have hd := q_drop hq (k := 0) hj
  rw [nums_take] at ht
  rw [nums_drop] at hd
  have HR := Lib.hid (q_reads ht)
  have HL := Lib.hid hl
  have ez : (0 : Int).toNat = 0 := rfl
  rw [ez] at hcut1 hcut2
  obtain ⟨A2, hA2⟩ : ∃ A2, (if c0 = 0 then A0 else A0.map (·.add (0 * 1))) = A2 := ⟨_, rfl⟩
  rw [hA2] at hd
  simp only [hA2] at hcut2
  have HD := Lib.hid hd
  have HB := Lib.hid (show (Value.slice A2 (xs.length - 0) (c0 - 0)).ownBlock = (Value.slice A0 xs.length c0).ownBlock from by
    rw [← hA2]
    split
    · cases A0 <;> rfl
    · cases A0 with
      | none => rfl
      | some ad => simp [Value.ownBlock, Addr.add] <;> split <;> rfl)
  have HJ := Lib.hid hj
  clear hq ht hd hA2
  by_cases hz : xs.length - 0 = 0
  · go_enter Tryz.func164, Tryz.ntmps164
    go_wp2_with (at_builtin; go_must (refine print_append_row (w0 := w) w.heap.size rfl (.const (.slice none 0 0)) (.tmp 20) 24 56 .u32 4 rfl Tryz.underlying24 infoU (by omega) (.slice none 0 0) [] (xs.take 0) A0 0 c0 rfl rfl (own_nil _ _ _ _) HR.out (Below.refl _ _) (by omega) (by have := HL.out; have := HJ.out; simp only [List.length_nil]; omega) ?_); intro v1 w1 hown1 hb1 hg1 hat1; obtain ⟨A1, c1, rfl⟩ := own_slice hown1; have HO1 := Lib.hid hown1; have HB1 := Lib.hid hb1; have hc1 := (hb1.cell (p := ⟨g, o, none⟩) hgl).trans hc; have hf1 := (hb1.frozen (p := ⟨g, o, none⟩) hgl).trans hf; clear hown1 hb1 hg1 hat1 hc hf)
    go_ret
    exact told_all HJ.out hz HO1.out HB1.out
  · go_enter Tryz.func164, Tryz.ntmps164
    go_wp2_with (at_builtin; go_must (refine print_append_row (w0 := w) w.heap.size rfl (.const (.slice none 0 0)) (.tmp 20) 24 56 .u32 4 rfl Tryz.underlying24 infoU (by omega) (.slice none 0 0) [] (xs.take 0) A0 0 c0 rfl rfl (own_nil _ _ _ _) HR.out (Below.refl _ _) (by omega) (by have := HL.out; have := HJ.out; simp only [List.length_nil]; omega) ?_); intro v1 w1 hown1 hb1 hg1 hat1; obtain ⟨A1, c1, rfl⟩ := own_slice hown1; have HO1 := Lib.hid hown1; have HB1 := Lib.hid hb1; have hc1 := (hb1.cell (p := ⟨g, o, none⟩) hgl).trans hc; have hf1 := (hb1.frozen (p := ⟨g, o, none⟩) hgl).trans hf; clear hown1 hb1 hg1 hat1 hc hf)
    go_ret
    exact told_some HJ.out hz HO1.out HB1.out HD.out HB.out
theorem tell_out {o : Nat} {v : Value} {xs : List Int} (room : Int) (h0 : (xs.length : Int) < room) (hc : w.cell? ⟨g, o, none⟩ = some v) (hf : w.frozen? ⟨g, o, none⟩ = false) (hq : QRow w 0 56 1 v xs.length (nums .u32 xs)) (hl : xs.length ≤ 1073741824) :
    Calls Tryz.prog 164 #[.pointer (some ⟨g, o, none⟩), .int .i64 room] w (Told w g o v xs xs.length) := by
  obtain ⟨A0, c0, rfl, hnc⟩ := q_slice hq
  have hgl := World.block_lt_of_cell? w _ hc
  obtain ⟨i0, hi, hz0, hz1, hz2⟩ := info_parts infoU
  have hcut1 := cut_to (P := Tryz.prog) 24 56 .i64 Tryz.underlying24 hi A0 xs.length c0 (xs.length : Int) (by omega) (by omega) hnc
  have hcut2 := cut_from (P := Tryz.prog) 24 56 .i64 Tryz.underlying24 hi 1 hz1 A0 xs.length c0 (xs.length : Int) (by omega) (by omega)
  have hj : xs.length ≤ xs.length := by omega
  have ht := q_take hq (m := xs.length) hj
  have hd := q_drop hq (k := xs.length) hj
  rw [nums_take] at ht
  rw [nums_drop] at hd
  have HR := Lib.hid (q_reads ht)
  have HL := Lib.hid hl
  have ez : ((xs.length : Nat) : Int).toNat = xs.length := rfl
  rw [ez] at hcut1 hcut2
  obtain ⟨A2, hA2⟩ : ∃ A2, (if c0 = xs.length then A0 else A0.map (·.add (xs.length * 1))) = A2 := ⟨_, rfl⟩
  rw [hA2] at hd
  simp only [hA2] at hcut2
  have HD := Lib.hid hd
  have HB := Lib.hid (show (Value.slice A2 (xs.length - xs.length) (c0 - xs.length)).ownBlock = (Value.slice A0 xs.length c0).ownBlock from by
    rw [← hA2]
    split
    · cases A0 <;> rfl
    · cases A0 with
      | none => rfl
      | some ad => simp [Value.ownBlock, Addr.add] <;> split <;> rfl)
  have HJ := Lib.hid hj
  clear hq ht hd hA2
  have hz : xs.length - xs.length = 0 := by omega
  go_enter Tryz.func164, Tryz.ntmps164
  go_wp2_with (at_builtin; go_must (refine print_append_row (w0 := w) w.heap.size rfl (.const (.slice none 0 0)) (.tmp 20) 24 56 .u32 4 rfl Tryz.underlying24 infoU (by omega) (.slice none 0 0) [] (xs.take xs.length) A0 xs.length c0 rfl rfl (own_nil _ _ _ _) HR.out (Below.refl _ _) (by omega) (by have := HL.out; have := HJ.out; simp only [List.length_nil]; omega) ?_); intro v1 w1 hown1 hb1 hg1 hat1; obtain ⟨A1, c1, rfl⟩ := own_slice hown1; have HO1 := Lib.hid hown1; have HB1 := Lib.hid hb1; have hc1 := (hb1.cell (p := ⟨g, o, none⟩) hgl).trans hc; have hf1 := (hb1.frozen (p := ⟨g, o, none⟩) hgl).trans hf; clear hown1 hb1 hg1 hat1 hc hf)
  go_ret
  exact told_all HJ.out hz HO1.out HB1.out
theorem tell_any {o : Nat} {v : Value} {xs : List Int} (room : Int) (hc : w.cell? ⟨g, o, none⟩ = some v) (hf : w.frozen? ⟨g, o, none⟩ = false) (hq : QRow w 0 56 1 v xs.length (nums .u32 xs)) (hl : xs.length ≤ 1073741824) :
    Calls Tryz.prog 164 #[.pointer (some ⟨g, o, none⟩), .int .i64 room] w (Told w g o v xs (min room.toNat xs.length)) := by
  by_cases h0 : room < 0
  · rw [show min room.toNat xs.length = 0 by omega]; exact tell_neg room h0 hc hf hq hl
  by_cases h1 : room ≤ xs.length
  · rw [show min room.toNat xs.length = room.toNat by omega]; exact tell_in room (by omega) h1 hc hf hq hl
  · rw [show min room.toNat xs.length = xs.length by omega]; exact tell_out room (by omega) hc hf hq hl
end
end Go.Proofs.YtcgoofefiiihnaaGreat
namespace Go.Proofs.YtcgoofefiiihnaaGreat
open Go.RowKit Go.Proofs.YtcgoofefiiihnaaGreatW.PrintWords Go.Proofs.YtcgoofefiiihnaaGreatW.PrintMore
set_option linter.unusedVariables false
set_option linter.unusedSimpArgs false
section
variable {w : World} {g T : Nat} {a e f : Int} {d : Bool} {rest : List Value}
theorem cell4 {v : Value} (h : BsAt w g T a e f d (v :: rest)) : w.cell? ⟨g, 4, none⟩ = some v := h.cr 0
theorem idone_over {A : Option Addr} {n c : Nat} (hn : (e == 0 && !d) = false) (h : BsAt w g T a e f d (.slice A n c :: rest)) : Calls Tryz.prog 154 #[.pointer (some ⟨g, 0, none⟩)] w fun en w' => en = .returned (.bool (((n : Nat) : Int) == 0)) ∧ w = w' := by
  have h4 := cell4 h
  go_enter Tryz.func154, Tryz.ntmps154
  go_wp2_with (first | (go_at_call 158; refine (going_no hn h).mono ?_; rintro e w' ⟨rfl, rfl⟩) | (go_at_call 159; refine (held_any h4).mono ?_; rintro e w' ⟨rfl, rfl⟩))
  go_ret
  exact ⟨rfl, rfl⟩
theorem odone_over {s : ByteArray} (hn : (e == 0 && !d) = false) (h : BsAt w g T a e f d (.string s :: rest)) : Calls Tryz.prog 222 #[.pointer (some ⟨g, 0, none⟩)] w fun en w' => en = .returned (.bool (((s.size : Nat) : Int) == 0)) ∧ w = w' := by
  have h4 := cell4 h
  go_enter Tryz.func222, Tryz.ntmps222
  go_wp2_with (first | (go_at_call 158; refine (going_no hn h).mono ?_; rintro e w' ⟨rfl, rfl⟩) | (go_at_call 224; refine (kept_any h4).mono ?_; rintro e w' ⟨rfl, rfl⟩))
  go_ret
  exact ⟨rfl, rfl⟩
end
end Go.Proofs.YtcgoofefiiihnaaGreat
namespace Go.Proofs.YtcgoofefiiihnaaGreat
open Go.RowKit Go.Proofs.YtcgoofefiiihnaaGreatW.PrintWords Go.Proofs.YtcgoofefiiihnaaGreatW.PrintMore
set_option linter.unusedVariables false
set_option linter.unusedSimpArgs false
structure Dec (w : World) (g T : Nat) (a e f : Int) (d : Bool) (v : Value) (xs : List Int) (own : List Value) : Prop where
  bs : BsAt w g T a e f d (v :: own)
  q : QRow w 0 56 1 v xs.length (nums .u32 xs)
  ne : v.ownBlock ≠ some g
structure Stp (w : World) (g : Nat) (v : Value) (w' : World) (v' : Value) : Prop where
  kp : Kp (fun k => k = g ∨ v.ownBlock = some k) w w'
  mv : ∀ k, v'.ownBlock = some k → v.ownBlock = some k ∨ w.heap.size ≤ k
theorem Stp.refl (w : World) (g : Nat) (v : Value) : Stp w g v w v := ⟨Kp.refl _ _, fun _ h => .inl h⟩
theorem Stp.trans {w w1 w2 : World} {g : Nat} {v v1 v2 : Value} (h : Stp w g v w1 v1) (k : Stp w1 g v1 w2 v2) : Stp w g v w2 v2 :=
  ⟨h.kp.trans k.kp (fun i hi => hi.elim (fun h1 => .inl (.inl h1)) (fun h1 => (h.mv i h1).elim (fun h2 => .inl (.inr h2)) .inr)),
   fun i hi => (k.mv i hi).elim (fun h1 => h.mv i h1) (fun h1 => .inr (Nat.le_trans h.kp.size h1))⟩
theorem Stp.below {w w1 : World} {g : Nat} {v v1 : Value} (h : Stp w g v w1 v1) {w2 : World} (hb : Below w1.heap.size w1 w2) : Stp w g v w2 v1 :=
  ⟨h.kp.trans (F1 := fun _ => False) (Kp.of_below hb) (fun _ hk => hk.elim), h.mv⟩
theorem Stp.mine {w w1 : World} {g : Nat} {v : Value} (h : Kp (fun k => k = g) w w1) : Stp w g v w1 v := ⟨h.mono (fun _ hk => .inl (.inl hk)), fun _ hk => .inl hk⟩
theorem Stp.keeps {w w1 : World} {g : Nat} {v v1 : Value} (h : Stp w g v w1 v1) {k : Nat} {o : Obj} (hb : w.heap[k]? = some o) (hg : k ≠ g) (hv : v.ownBlock ≠ some k) : w1.heap[k]? = some o :=
  h.kp.blk hb (fun hk => hk.elim hg (fun h2 => hv h2))
section
variable {w : World} {g T : Nat} {a e f : Int} {d : Bool} {v : Value} {xs : List Int} {own : List Value}
theorem Dec.lt (h : Dec w g T a e f d v xs own) : g < w.heap.size := h.bs.lt
theorem Dec.c4 (h : Dec w g T a e f d v xs own) : w.cell? ⟨g, 4, none⟩ = some v := h.bs.cr 0
theorem Dec.co (h : Dec w g T a e f d v xs own) (i : Nat) : w.cell? ⟨g, 5 + i, none⟩ = own[i]? := by
  have := h.bs.cr (1 + i)
  rw [show 5 + i = 4 + (1 + i) by omega, this, show 1 + i = i + 1 by omega]
  rfl
theorem Dec.fz (h : Dec w g T a e f d v xs own) (i : Nat) : w.frozen? ⟨g, i, none⟩ = false := h.bs.fz i
theorem Dec.below (h : Dec w g T a e f d v xs own) {w' : World} (hb : Below w.heap.size w w') : Dec w' g T a e f d v xs own :=
  ⟨blk_below h.bs hb, q_move h.q (fun k hk => hb.block k (q_lt h.q k hk)), h.ne⟩
theorem Dec.drew (h : Dec w g T a e f d v xs own) : Dec w.drew g T a e f d v xs own := ⟨h.bs, h.q, h.ne⟩
theorem Dec.drewN (h : Dec w g T a e f d v xs own) (n : Nat) : Dec (w.drewN n) g T a e f d v xs own := ⟨h.bs, h.q, h.ne⟩
theorem Dec.kept (h : Dec w g T a e f d v xs own) {w' : World} {F : Nat → Prop} (hk : Kp F w w') (hg : ¬ F g) (hv : ∀ k, v.ownBlock = some k → ¬ F k) : Dec w' g T a e f d v xs own :=
  ⟨hk.blk h.bs hg, hk.q h.q hv, h.ne⟩
theorem Dec.set (h : Dec w g T a e f d v xs own) (i : Nat) (u : Value) : Dec (w.setCell ⟨g, 5 + i, none⟩ u) g T a e f d v xs (own.set i u) :=
  ⟨by have := h.bs.setr (1 + i) u
      rw [show 5 + i = 4 + (1 + i) by omega, show 1 + i = i + 1 by omega] at *
      exact this, q_move h.q (fun k hk => Below.heap_setCell w ⟨g, 5 + i, none⟩ u k (fun hkg => h.ne (by rw [hk]; exact congrArg some hkg))), h.ne⟩
theorem dec_fail (h : Dec w g T a e f d v xs own) : Calls Tryz.prog 156 #[.pointer (some ⟨g, 0, none⟩)] w fun en w' => en = .returned (.agg #[.int .i64 e, .int .i64 f]) ∧ Below w.heap.size w w' := fail_any h.bs
theorem dec_held (h : Dec w g T a e f d v xs own) : Calls Tryz.prog 159 #[.pointer (some ⟨g, 4, none⟩)] w fun en w' => en = .returned (.int .i64 xs.length) ∧ w = w' := by
  obtain ⟨A, c, rfl, _⟩ := q_slice h.q
  exact held_any h.c4
theorem dec_done_over (hn : (e == 0 && !d) = false) (h : Dec w g T a e f d v xs own) : Calls Tryz.prog 154 #[.pointer (some ⟨g, 0, none⟩)] w fun en w' => en = .returned (.bool (((xs.length : Nat) : Int) == 0)) ∧ w = w' := by
  obtain ⟨A, c, rfl, _⟩ := q_slice h.q
  exact idone_over hn h.bs
theorem Dec.of_bs {w' : World} {a' e' f' : Int} {d' : Bool} (h : Dec w g T a e f d v xs own) (hb : BsAt w' g T a' e' f' d' (v :: own)) (hk : Kp (fun k => k = g) w w') : Dec w' g T a' e' f' d' v xs own :=
  ⟨hb, hk.q h.q (fun k hk he => h.ne (by rw [hk, he])), h.ne⟩
theorem dec_eat (n : Int) (h0 : 0 ≤ a) (h1 : a ≤ 1152921504606846976) (hp : 0 ≤ n) (hn : n ≤ 1125899906842624) (h : Dec w g T a 0 f false v xs own) :
    Calls Tryz.prog 163 #[.pointer (some ⟨g, 0, none⟩), .int .i64 n] w fun en w' => en = .returned (.tuple #[]) ∧ Dec w' g T (a + n) 0 f false v xs own ∧ Stp w g v w' v :=
  (eat_pos n hp h0 h1 hn h.bs).mono fun en w' ⟨he, hb, hk⟩ => ⟨he, h.of_bs hb hk, Stp.mine hk⟩
theorem dec_stop (n : Int) (hn : (n == 0) = false) (h : Dec w g T a 0 f false v xs own) :
    Calls Tryz.prog 160 #[.pointer (some ⟨g, 0, none⟩), .int .i64 n] w fun en w' => en = .returned (.tuple #[]) ∧ Dec w' g T a n a false v xs own ∧ Stp w g v w' v :=
  (stop_yes n hn h.bs).mono fun en w' ⟨he, hb, hk⟩ => ⟨he, h.of_bs hb hk, Stp.mine hk⟩
theorem dec_end (h : Dec w g T a 0 f false v xs own) :
    Calls Tryz.prog 161 #[.pointer (some ⟨g, 0, none⟩)] w fun en w' => en = .returned (.tuple #[]) ∧ Dec w' g T a 0 f true v xs own ∧ Stp w g v w' v :=
  (end_yes h.bs).mono fun en w' ⟨he, hb, hk⟩ => ⟨he, h.of_bs hb hk, Stp.mine hk⟩
theorem dec_hold {A : Option Addr} {m c : Nat} {ys : List Int} (hr : ReadsInt w .u32 A m ys) (hl : xs.length + m ≤ 1073741824) (h : Dec w g T a e f d v xs own) :
    Calls Tryz.prog 165 #[.pointer (some ⟨g, 4, none⟩), .slice A m c] w fun en w' => en = .returned (.tuple #[]) ∧ ∃ v', Dec w' g T a e f d v' (xs ++ ys) own ∧ Stp w g v w' v' := by
  refine (hold_any h.c4 (h.fz 4) h.q h.ne hr hl).mono ?_
  rintro en w' ⟨rfl, v1, w1, rfl, hq, hg, hat⟩
  have hgl := h.lt
  have hv1 : ∀ k, v1.ownBlock = some k → v.ownBlock = some k ∨ w.heap.size ≤ k := by
    intro k hk
    rcases hat with hat | ⟨b, hb, hle⟩
    · exact .inl (hat ▸ hk)
    · rw [hb] at hk; injection hk with hk; exact .inr (hk ▸ hle)
  have hne1 : v1.ownBlock ≠ some g := fun hk => (hv1 g hk).elim h.ne (fun h2 => by omega)
  have hb1 : BsAt w1 g T a e f d (v :: own) := blk_grown h.bs hg (fun he => h.ne he.symm)
  refine ⟨rfl, v1, ⟨hb1.setr 0 v1, ?_, hne1⟩, ?_, hv1⟩
  · rw [List.length_append]
    exact q_move hq (fun k hk => Below.heap_setCell w1 ⟨g, 4, none⟩ v1 k (fun he => hne1 (by rw [hk]; exact congrArg some he)))
  · exact (Kp.of_grown hg (fun k hk => .inr hk)).set (p := ⟨g, 4, none⟩) (.inl (.inl rfl)) v1
theorem box_reads (W : World) (x : Int) : ReadsInt (W.alloc (.cells #[.int .u32 x] 56)) .u32 (some ⟨W.heap.size, 0, none⟩) 1 [x] :=
  ⟨rfl, by omega, fun _ => ⟨_, rfl, fun j hj => by
    obtain rfl : j = 0 := by omega
    rw [add_plain]
    exact (blk_cell (blk_new W _) 0).trans rfl⟩⟩
theorem dec_hold_one {n : Nat} (x : Int) (hn : w.heap.size = n) (hl : xs.length + 1 ≤ 1073741824) (h : Dec w g T a e f d v xs own) :
    Calls Tryz.prog 165 #[.pointer (some ⟨g, 4, none⟩), .slice (some ⟨n, 0, none⟩) 1 1] (w.alloc (.cells #[.int .u32 x] 56)) fun en w' => en = .returned (.tuple #[]) ∧ ∃ v', Dec w' g T a e f d v' (xs ++ [x]) own ∧ Stp w g v w' v' := by
  subst hn
  have hb : Below w.heap.size w (w.alloc (.cells #[.int .u32 x] 56)) := below_alloc (Below.refl _ _) _
  refine (dec_hold (box_reads w x) hl (h.below hb)).mono ?_
  rintro en w' ⟨he, v', hd, hs⟩
  exact ⟨he, v', hd, (Stp.refl w g v).below hb |>.trans hs⟩
theorem dec_tell (room : Int) (hl : xs.length ≤ 1073741824) (h : Dec w g T a e f d v xs own) :
    Calls Tryz.prog 164 #[.pointer (some ⟨g, 4, none⟩), .int .i64 room] w fun en w' => ∃ r v', en = .returned r ∧ Dec w' g T a e f d v' (xs.drop (min room.toNat xs.length)) own ∧
      w'.ownsRow w.heap.size 56 1 r (xs.take (min room.toNat xs.length)).length (nums .u32 (xs.take (min room.toNat xs.length))) ∧ Stp w g v w' v' ∧ (xs.length ≤ room.toNat → v' = .slice none 0 0) := by
  refine (tell_any room h.c4 (h.fz 4) h.q hl).mono ?_
  rintro en w' ⟨r, v1, w1, rfl, rfl, ho, hb, hq, hat, hnil⟩
  have hgl := h.lt
  have hv1 : ∀ k, v1.ownBlock = some k → v.ownBlock = some k := by
    intro k hk
    rcases hat with hat | hat
    · exact hat ▸ hk
    · rw [hat] at hk; cases hk
  have hne1 : v1.ownBlock ≠ some g := fun hk => h.ne (hv1 g hk)
  have hb1 : BsAt w1 g T a e f d (v :: own) := blk_below h.bs hb
  refine ⟨r, v1, rfl, ⟨hb1.setr 0 v1, ?_, hne1⟩, ?_, ⟨?_, fun k hk => .inl (hv1 k hk)⟩, fun hr => hnil (by omega)⟩
  · rw [List.length_drop]
    exact q_move hq (fun k hk => Below.heap_setCell w1 ⟨g, 4, none⟩ v1 k (fun he => hne1 (by rw [hk]; exact congrArg some he)))
  · exact own_setCell ho (fun he => by have := own_base ho g he.symm; omega) v1
  · exact (Kp.of_below hb).set (p := ⟨g, 4, none⟩) (.inl (.inl rfl)) v1
end
abbrev Enc (w : World) (g T : Nat) (a e f : Int) (d : Bool) (s : ByteArray) (own : List Value) : Prop := BsAt w g T a e f d (.string s :: own)
section
variable {w : World} {g T : Nat} {a e f : Int} {d : Bool} {s : ByteArray} {own : List Value}
theorem enc_c4 (h : Enc w g T a e f d s own) : w.cell? ⟨g, 4, none⟩ = some (.string s) := h.cr 0
theorem enc_co (h : Enc w g T a e f d s own) (i : Nat) : w.cell? ⟨g, 5 + i, none⟩ = own[i]? := by
  have := h.cr (1 + i)
  rw [show 5 + i = 4 + (1 + i) by omega, this, show 1 + i = i + 1 by omega]
  rfl
theorem enc_keep {u : ByteArray} (hl : s.size + u.size ≤ 1073741824) (h : Enc w g T a e f d s own) :
    Calls Tryz.prog 226 #[.pointer (some ⟨g, 4, none⟩), .string u] w fun en w' => en = .returned (.tuple #[]) ∧ Enc w' g T a e f d (s ++ u) own ∧ Kp (fun k => k = g) w w' := by
  refine (keep_any (enc_c4 h) (h.fz 4) hl).mono ?_
  rintro en w' ⟨rfl, rfl⟩
  exact ⟨rfl, h.setr 0 _, (Kp.refl _ _).setg _ _⟩
theorem enc_give (room : Int) (hl : s.size ≤ 1073741824) (h : Enc w g T a e f d s own) :
    Calls Tryz.prog 225 #[.pointer (some ⟨g, 4, none⟩), .int .i64 room] w fun en w' => ∃ x y, en = .returned (.string x) ∧ Enc w' g T a e f d y own ∧ Kp (fun k => k = g) w w' ∧ Given s room x y := by
  refine (give_any room (enc_c4 h) (h.fz 4) hl).mono ?_
  rintro en w' ⟨x, y, rfl, rfl, hg⟩
  exact ⟨x, y, rfl, h.setr 0 _, (Kp.refl _ _).setg _ _, hg⟩
theorem enc_kept (h : Enc w g T a e f d s own) : Calls Tryz.prog 224 #[.pointer (some ⟨g, 4, none⟩)] w fun en w' => en = .returned (.int .i64 s.size) ∧ w = w' := kept_any (enc_c4 h)
end
end Go.Proofs.YtcgoofefiiihnaaGreat
