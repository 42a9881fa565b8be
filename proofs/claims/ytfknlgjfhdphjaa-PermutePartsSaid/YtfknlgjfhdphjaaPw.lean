/- permute: the laws, walked. -/
import Derived.Test.YtfknlgjfhdphjaaPv
namespace Go.Proofs.Ytfknlgjfhdphjaa
open Go.RowKit Go.Proofs.YtfknlgjfhdphjaaW.PrintWords Go.Proofs.YtfknlgjfhdphjaaW.PrintMore PPermuteTexts
set_option linter.unusedVariables false
set_option linter.unusedSimpArgs false
theorem tells_nat (b : Nat) (hb : b < 256) (w : World) : Calls Try.prog 8 #[.int .u8 (b : Int)] w fun en w' => en = .returned (.bool true) ∧ Below w.heap.size w w' := by
  have h0 : (0 : Int) ≤ (b : Int) := by omega
  have h1 : (b : Int) < 256 := by omega
  go_enter Try.func8, Try.ntmps8
  go_wp2_with fail
  refine new_any.mono ?_
  rintro en w1 ⟨rfl, ht, hb⟩
  have HT := Lib.hid ht
  have HB := Lib.hid hb
  clear ht hb
  generalize hg : w.heap.size = g at *
  go_wp2_with fail
  refine (pawake_any w1).mono ?_
  rintro en w2 ⟨rfl, hb⟩
  have HT2 := Lib.hid (HT.out.below hb)
  have HB2 := Lib.hid (HB.out.trans (hb.mono (by have := HB.out.size; omega)))
  clear hb
  go_wp2_with fail
  refine (to_any HT2.out (b : Int) h0 h1).mono ?_
  rintro en w3 ⟨rfl, rfl⟩
  rw [Int.toNat_natCast]
  go_wp2_with fail
  refine (pilcrowref07_To.calls 41634 (b : Int) _ w2 (refTo b (by omega))).mono ?_
  rintro en w3 ⟨rfl, hb⟩
  have HT3 := Lib.hid (HT2.out.below hb)
  have HB3 := Lib.hid (HB2.out.trans (hb.mono (by have := HB2.out.size; omega)))
  clear hb
  go_wp2_with fail
  refine (from_any HT3.out (b : Int) h0 h1).mono ?_
  rintro en w4 ⟨rfl, rfl⟩
  rw [Int.toNat_natCast]
  go_wp2_with fail
  refine (pilcrowref07_From.calls 41634 (b : Int) _ w3 (refFrom b (by omega))).mono ?_
  rintro en w4 ⟨rfl, hb⟩
  have HB4 := Lib.hid (HB3.out.trans (hb.mono (by have := HB3.out.size; omega)))
  clear hb
  go_wp2_with fail
  go_ret
  rw [hg]
  exact ⟨by simp, HB4.out⟩
set_option maxHeartbeats 4000000 in
theorem texts_great (s : ByteArray) (w : World) (hg : 2000 < s.size) : Calls Try.prog 9 #[.string s] w fun en w' => en = .returned (.bool true) ∧ Below w.heap.size w w' := by
  have HB0 := Lib.hid (Below.refl w.heap.size w)
  have hd : decide ((2000 : Int) < (s.size : Int)) = true := decide_eq_true (by omega)
  go_enter Try.func9, Try.ntmps9
  go_wp2_with fail
  refine (pawake_any w).mono ?_
  rintro en wa1 ⟨rfl, hb⟩
  have HBa1 := Lib.hid (HB0.out.trans (hb.mono (by have := HB0.out.size; omega)))
  clear hb
  go_wp2_with fail
  refine (pawake_any wa1).mono ?_
  rintro en wa2 ⟨rfl, hb⟩
  have HBa2 := Lib.hid (HBa1.out.trans (hb.mono (by have := HBa1.out.size; omega)))
  clear hb
  go_wp2_with fail
  go_ret
  exact ⟨rfl, HBa2.out⟩
set_option maxHeartbeats 4000000 in
theorem texts_walk (s : ByteArray) (w : World) (hg : s.size ≤ 2000) : Calls Try.prog 9 #[.string s] w fun en w' => en = .returned (.bool true) ∧ Below w.heap.size w w' := by
  have HB0 := Lib.hid (Below.refl w.heap.size w)
  have hd : decide ((2000 : Int) < (s.size : Int)) = false := decide_eq_false (by omega)
  go_enter Try.func9, Try.ntmps9
  go_wp2_with fail
  refine (pawake_any w).mono ?_
  rintro en wa1 ⟨rfl, hb⟩
  have HBa1 := Lib.hid (HB0.out.trans (hb.mono (by have := HB0.out.size; omega)))
  clear hb
  go_wp2_with fail
  refine new_any.mono ?_
  rintro en w1 ⟨rfl, ht, hb⟩
  have HT1 := Lib.hid ht
  have HB1 := Lib.hid (HBa1.out.trans (hb.mono (by have := HBa1.out.size; omega)))
  clear ht hb
  generalize hg1 : wa1.heap.size = g1 at *
  go_wp2_with fail
  refine (text_at s (turned toL s) (by omega) HT1.out rfl).mono ?_
  rintro en w2 ⟨rfl, hb⟩
  have HT1_2 := Lib.hid (HT1.out.below hb)
  have HB2 := Lib.hid (HB1.out.trans (hb.mono (by have := HB1.out.size; omega)))
  clear hb
  go_wp2_with fail
  refine (pilcrowref07_Text.calls 100000 s _ w2 (refText s (by omega))).mono ?_
  rintro en w3 ⟨rfl, hb⟩
  have HT1_3 := Lib.hid (HT1_2.out.below hb)
  have HB3 := Lib.hid (HB2.out.trans (hb.mono (by have := HB2.out.size; omega)))
  clear hb
  go_wp2_with fail
  refine (back_at s (turned fromL s) (by omega) HT1_3.out rfl).mono ?_
  rintro en w4 ⟨rfl, hb⟩
  have HT1_4 := Lib.hid (HT1_3.out.below hb)
  have HB4 := Lib.hid (HB3.out.trans (hb.mono (by have := HB3.out.size; omega)))
  clear hb
  go_wp2_with fail
  refine (pilcrowref07_Back.calls 100000 s _ w4 (refBack s (by omega))).mono ?_
  rintro en w5 ⟨rfl, hb⟩
  have HT1_5 := Lib.hid (HT1_4.out.below hb)
  have HB5 := Lib.hid (HB4.out.trans (hb.mono (by have := HB4.out.size; omega)))
  clear hb
  go_wp2_with fail
  go_ret
  exact ⟨by simp [turned], HB5.out⟩
set_option maxHeartbeats 4000000 in
theorem parts_great0 (a b : ByteArray) (w : World) (hd1 : decide ((2000 : Int) < (a.size : Int)) = true) (hd2 : decide ((2000 : Int) < (b.size : Int)) = true) : Calls Try.prog 12 #[.string a, .string b] w fun en w' => en = .returned (.bool true) ∧ Below w.heap.size w w' := by
  have HB0 := Lib.hid (Below.refl w.heap.size w)
  go_enter Try.func12, Try.ntmps12
  go_wp2_with fail
  refine (pawake_any w).mono ?_
  rintro en wa1 ⟨rfl, hb⟩
  have HBa1 := Lib.hid (HB0.out.trans (hb.mono (by have := HB0.out.size; omega)))
  clear hb
  go_wp2_with fail
  refine (pawake_any wa1).mono ?_
  rintro en wa2 ⟨rfl, hb⟩
  have HBa2 := Lib.hid (HBa1.out.trans (hb.mono (by have := HBa1.out.size; omega)))
  clear hb
  go_wp2_with fail
  go_ret
  exact ⟨rfl, HBa2.out⟩
set_option maxHeartbeats 4000000 in
theorem parts_great1 (a b : ByteArray) (w : World) (hd1 : decide ((2000 : Int) < (a.size : Int)) = true) (hd2 : decide ((2000 : Int) < (b.size : Int)) = false) : Calls Try.prog 12 #[.string a, .string b] w fun en w' => en = .returned (.bool true) ∧ Below w.heap.size w w' := by
  have HB0 := Lib.hid (Below.refl w.heap.size w)
  go_enter Try.func12, Try.ntmps12
  go_wp2_with fail
  refine (pawake_any w).mono ?_
  rintro en wa1 ⟨rfl, hb⟩
  have HBa1 := Lib.hid (HB0.out.trans (hb.mono (by have := HB0.out.size; omega)))
  clear hb
  go_wp2_with fail
  refine (pawake_any wa1).mono ?_
  rintro en wa2 ⟨rfl, hb⟩
  have HBa2 := Lib.hid (HBa1.out.trans (hb.mono (by have := HBa1.out.size; omega)))
  clear hb
  go_wp2_with fail
  go_ret
  exact ⟨rfl, HBa2.out⟩
set_option maxHeartbeats 4000000 in
theorem parts_great2 (a b : ByteArray) (w : World) (hd1 : decide ((2000 : Int) < (a.size : Int)) = false) (hd2 : decide ((2000 : Int) < (b.size : Int)) = true) : Calls Try.prog 12 #[.string a, .string b] w fun en w' => en = .returned (.bool true) ∧ Below w.heap.size w w' := by
  have HB0 := Lib.hid (Below.refl w.heap.size w)
  go_enter Try.func12, Try.ntmps12
  go_wp2_with fail
  refine (pawake_any w).mono ?_
  rintro en wa1 ⟨rfl, hb⟩
  have HBa1 := Lib.hid (HB0.out.trans (hb.mono (by have := HB0.out.size; omega)))
  clear hb
  go_wp2_with fail
  refine (pawake_any wa1).mono ?_
  rintro en wa2 ⟨rfl, hb⟩
  have HBa2 := Lib.hid (HBa1.out.trans (hb.mono (by have := HBa1.out.size; omega)))
  clear hb
  go_wp2_with fail
  go_ret
  exact ⟨rfl, HBa2.out⟩
set_option maxRecDepth 100000 in
set_option maxHeartbeats 4000000 in
theorem parts_walk (a b : ByteArray) (w : World) (hg : ¬ (2000 < a.size ∨ 2000 < b.size)) : Calls Try.prog 12 #[.string a, .string b] w fun en w' => en = .returned (.bool true) ∧ Below w.heap.size w w' := by
  have HB0 := Lib.hid (Below.refl w.heap.size w)
  have hd1 : decide ((2000 : Int) < (a.size : Int)) = false := decide_eq_false (by omega)
  have hd2 : decide ((2000 : Int) < (b.size : Int)) = false := decide_eq_false (by omega)
  have hsz1 : (turned toL a).size = a.size := turned_size _ _
  have hsz2 : (turned toL b).size = b.size := turned_size _ _
  have hsz3 : (turned fromL a).size = a.size := turned_size _ _
  have hsz4 : (turned fromL b).size = b.size := turned_size _ _
  have hc1 : ¬ (9223372036854775807 < a.size + b.size) := by omega
  have hc2 : ¬ (9223372036854775807 < (turned toL a).size + (turned toL b).size) := by omega
  have hc3 : ¬ (9223372036854775807 < (turned fromL a).size + (turned fromL b).size) := by omega
  have hza : a.size ≤ 2000 := by omega
  have hzb : b.size ≤ 2000 := by omega
  go_enter Try.func12, Try.ntmps12
  go_wp2_with fail
  refine (pawake_any w).mono ?_
  rintro en wa1 ⟨rfl, hb⟩
  have HBa1 := Lib.hid (HB0.out.trans (hb.mono (by have := HB0.out.size; omega)))
  clear hb
  go_wp2_with fail
  refine new_any.mono ?_
  rintro en w1 ⟨rfl, ht, hb⟩
  have HT1 := Lib.hid ht
  have HB1 := Lib.hid (HBa1.out.trans (hb.mono (by have := HBa1.out.size; omega)))
  clear ht hb
  generalize hg1 : wa1.heap.size = g1 at *
  go_wp2_with fail
  refine (text_at (a ++ b) (turned toL a ++ turned toL b) (by rw [ByteArray.size_append]; omega) HT1.out (turned_append toL_range a b)).mono ?_
  rintro en w2 ⟨rfl, hb⟩
  have HT1_2 := Lib.hid (HT1.out.below hb)
  have HB2 := Lib.hid (HB1.out.trans (hb.mono (by have := HB1.out.size; omega)))
  clear hb
  go_wp2_with fail
  refine (text_at a (turned toL a) (by omega) HT1_2.out rfl).mono ?_
  rintro en w3 ⟨rfl, hb⟩
  have HT1_3 := Lib.hid (HT1_2.out.below hb)
  have HB3 := Lib.hid (HB2.out.trans (hb.mono (by have := HB2.out.size; omega)))
  clear hb
  go_wp2_with fail
  refine (text_at b (turned toL b) (by omega) HT1_3.out rfl).mono ?_
  rintro en w4 ⟨rfl, hb⟩
  have HT1_4 := Lib.hid (HT1_3.out.below hb)
  have HB4 := Lib.hid (HB3.out.trans (hb.mono (by have := HB3.out.size; omega)))
  clear hb
  go_wp2_with fail
  refine (back_at (a ++ b) (turned fromL a ++ turned fromL b) (by rw [ByteArray.size_append]; omega) HT1_4.out (turned_append fromL_range a b)).mono ?_
  rintro en w5 ⟨rfl, hb⟩
  have HT1_5 := Lib.hid (HT1_4.out.below hb)
  have HB5 := Lib.hid (HB4.out.trans (hb.mono (by have := HB4.out.size; omega)))
  clear hb
  go_wp2_with fail
  refine (back_at a (turned fromL a) (by omega) HT1_5.out rfl).mono ?_
  rintro en w6 ⟨rfl, hb⟩
  have HT1_6 := Lib.hid (HT1_5.out.below hb)
  have HB6 := Lib.hid (HB5.out.trans (hb.mono (by have := HB5.out.size; omega)))
  clear hb
  go_wp2_with fail
  refine (back_at b (turned fromL b) (by omega) HT1_6.out rfl).mono ?_
  rintro en w7 ⟨rfl, hb⟩
  have HT1_7 := Lib.hid (HT1_6.out.below hb)
  have HB7 := Lib.hid (HB6.out.trans (hb.mono (by have := HB6.out.size; omega)))
  clear hb
  go_wp2_with fail
  refine (text_at a (turned toL a) (by omega) HT1_7.out rfl).mono ?_
  rintro en w8 ⟨rfl, hb⟩
  have HT1_8 := Lib.hid (HT1_7.out.below hb)
  have HB8 := Lib.hid (HB7.out.trans (hb.mono (by have := HB7.out.size; omega)))
  clear hb
  go_wp2_with fail
  go_ret
  exact ⟨by simp [turned_append toL_range, turned_append fromL_range, turned_size], HB8.out⟩
theorem texts_all (s : ByteArray) {w : World} : Calls Try.prog 9 #[.string s] w fun en w' => en = .returned (.bool true) ∧ Below w.heap.size w w' := by
  rcases Nat.lt_or_ge 2000 s.size with h | h
  · exact texts_great s w h
  · exact texts_walk s w h
theorem parts_all (a b : ByteArray) {w : World} : Calls Try.prog 12 #[.string a, .string b] w fun en w' => en = .returned (.bool true) ∧ Below w.heap.size w w' := by
  cases h1 : decide ((2000 : Int) < (a.size : Int)) <;> cases h2 : decide ((2000 : Int) < (b.size : Int))
  · exact parts_walk a b w (by simp at h1 h2; omega)
  · exact parts_great2 a b w h1 h2
  · exact parts_great1 a b w h1 h2
  · exact parts_great0 a b w h1 h2
theorem u8_range {b : Int} (h : (Lit.int .u8 b).wf = true) : ∃ n : Nat, b = n ∧ n < 256 := by
  have h1 : (IntKind.u8.min : Int) ≤ b ∧ b ≤ IntKind.u8.max := by simpa [Lit.wf] using h
  have : (IntKind.u8.min : Int) = 0 := by decide
  have : (IntKind.u8.max : Int) = 255 := by decide
  exact ⟨b.toNat, by omega, by omega⟩
theorem tells_all (b : Int) (h : (Lit.int .u8 b).wf = true) {w : World} : Calls Try.prog 8 #[.int .u8 b] w fun en w' => en = .returned (.bool true) ∧ Below w.heap.size w w' := by
  obtain ⟨n, rfl, hn⟩ := u8_range h
  exact tells_nat n hn w
set_option maxHeartbeats 4000000 in
theorem apart_nat (a b : Nat) (ha : a < 256) (hb : b < 256) (w : World) : Calls Try.prog 11 #[.int .u8 (a : Int), .int .u8 (b : Int)] w fun en w' => en = .returned (.bool true) ∧ Below w.heap.size w w' := by
  have a0 : (0 : Int) ≤ (a : Int) := by omega
  have a1 : (a : Int) < 256 := by omega
  have b0 : (0 : Int) ≤ (b : Int) := by omega
  have b1 : (b : Int) < 256 := by omega
  have HAB := Lib.hid hb
  have HAA := Lib.hid ha
  clear ha hb
  obtain ⟨x, hx⟩ : ∃ x, x = toL.getD a 0 := ⟨_, rfl⟩
  obtain ⟨y, hy⟩ : ∃ y, y = toL.getD b 0 := ⟨_, rfl⟩
  obtain ⟨x2, hx2⟩ : ∃ x, x = fromL.getD a 0 := ⟨_, rfl⟩
  obtain ⟨y2, hy2⟩ : ∃ y, y = fromL.getD b 0 := ⟨_, rfl⟩
  have e1 : (x == y) = ((a : Int) == (b : Int)) := by
    by_cases h : a = b
    · subst h; rw [hx, hy]; simp
    · have h1 : ¬ x = y := fun he => h (to_inj a b HAA.out HAB.out (by rw [← hx, ← hy, he]))
      have h2 : ¬ (a : Int) = (b : Int) := by omega
      rw [beq_eq_false_iff_ne.2 h1, beq_eq_false_iff_ne.2 h2]
  have e2 : (x2 == y2) = ((a : Int) == (b : Int)) := by
    by_cases h : a = b
    · subst h; rw [hx2, hy2]; simp
    · have h1 : ¬ x2 = y2 := fun he => h (from_inj a b HAA.out HAB.out (by rw [← hx2, ← hy2, he]))
      have h2 : ¬ (a : Int) = (b : Int) := by omega
      rw [beq_eq_false_iff_ne.2 h1, beq_eq_false_iff_ne.2 h2]
  have HX := Lib.hid hx
  have HY := Lib.hid hy
  have HX2 := Lib.hid hx2
  have HY2 := Lib.hid hy2
  clear hx hy hx2 hy2
  go_enter Try.func11, Try.ntmps11
  go_wp2_with fail
  refine new_any.mono ?_
  rintro en w1 ⟨rfl, ht, hb⟩
  have HT := Lib.hid ht
  have HB := Lib.hid hb
  clear ht hb
  generalize hg : w.heap.size = g at *
  go_wp2_with fail
  refine (pawake_any w1).mono ?_
  rintro en w2 ⟨rfl, hb⟩
  have HT2 := Lib.hid (HT.out.below hb)
  have HB2 := Lib.hid (HB.out.trans (hb.mono (by have := HB.out.size; omega)))
  clear hb
  go_wp2_with fail
  refine (to_at HT2.out (a : Int) x a0 a1 (by rw [Int.toNat_natCast]; exact HX.out.symm)).mono ?_
  rintro en w3 ⟨rfl, rfl⟩
  go_wp2_with fail
  refine (to_at HT2.out (b : Int) y b0 b1 (by rw [Int.toNat_natCast]; exact HY.out.symm)).mono ?_
  rintro en w3 ⟨rfl, rfl⟩
  go_wp2_with fail
  refine (from_at HT2.out (a : Int) x2 a0 a1 (by rw [Int.toNat_natCast]; exact HX2.out.symm)).mono ?_
  rintro en w3 ⟨rfl, rfl⟩
  go_wp2_with fail
  refine (from_at HT2.out (b : Int) y2 b0 b1 (by rw [Int.toNat_natCast]; exact HY2.out.symm)).mono ?_
  rintro en w3 ⟨rfl, rfl⟩
  go_wp2_with fail
  go_ret
  rw [hg]
  exact ⟨by simp, HB2.out⟩
theorem apart_all (a : Int) (h : (Lit.int .u8 a).wf = true) (b : Int) (h2 : (Lit.int .u8 b).wf = true) {w : World} : Calls Try.prog 11 #[.int .u8 a, .int .u8 b] w fun en w' => en = .returned (.bool true) ∧ Below w.heap.size w w' := by
  obtain ⟨n, rfl, hn⟩ := u8_range h
  obtain ⟨m, rfl, hm⟩ := u8_range h2
  exact apart_nat n m hn hm w
set_option maxHeartbeats 4000000 in
theorem pall_great (s : ByteArray) (w : World) (hg : 2000 < s.size) : Calls Try.prog 10 #[.string s] w fun en w' => en = .returned (.bool true) ∧ Below w.heap.size w w' := by
  have HB0 := Lib.hid (Below.refl w.heap.size w)
  have hd : decide ((2000 : Int) < (s.size : Int)) = true := decide_eq_true (by omega)
  go_enter Try.func10, Try.ntmps10
  go_wp2_with fail
  refine (pawake_any w).mono ?_
  rintro en wa1 ⟨rfl, hb⟩
  have HBa1 := Lib.hid (HB0.out.trans (hb.mono (by have := HB0.out.size; omega)))
  clear hb
  go_wp2_with fail
  refine (pawake_any wa1).mono ?_
  rintro en wa2 ⟨rfl, hb⟩
  have HBa2 := Lib.hid (HBa1.out.trans (hb.mono (by have := HBa1.out.size; omega)))
  clear hb
  go_wp2_with fail
  go_ret
  exact ⟨rfl, HBa2.out⟩
set_option maxHeartbeats 4000000 in
theorem pall_walk (s : ByteArray) (w : World) (hg : s.size ≤ 2000) : Calls Try.prog 10 #[.string s] w fun en w' => en = .returned (.bool true) ∧ Below w.heap.size w w' := by
  have HB0 := Lib.hid (Below.refl w.heap.size w)
  have hd : decide ((2000 : Int) < (s.size : Int)) = false := decide_eq_false (by omega)
  go_enter Try.func10, Try.ntmps10
  go_wp2_with fail
  refine (pawake_any w).mono ?_
  rintro en wa1 ⟨rfl, hb⟩
  have HBa1 := Lib.hid (HB0.out.trans (hb.mono (by have := HB0.out.size; omega)))
  clear hb
  go_wp2_with fail
  refine new_any.mono ?_
  rintro en w1 ⟨rfl, ht, hb⟩
  have HT1 := Lib.hid ht
  have HB1 := Lib.hid (HBa1.out.trans (hb.mono (by have := HBa1.out.size; omega)))
  clear ht hb
  generalize hg1 : wa1.heap.size = g1 at *
  go_wp2_with fail
  refine new_any.mono ?_
  rintro en w2 ⟨rfl, ht, hb⟩
  have HT1_2 := Lib.hid (HT1.out.below hb)
  have HT2 := Lib.hid ht
  have HB2 := Lib.hid (HB1.out.trans (hb.mono (by have := HB1.out.size; omega)))
  clear ht hb
  generalize hg2 : w1.heap.size = g2 at *
  go_wp2_with fail
  refine (text_at s (turned toL s) (by omega) HT2.out rfl).mono ?_
  rintro en w3 ⟨rfl, hb⟩
  have HT1_3 := Lib.hid (HT1_2.out.below hb)
  have HT2_3 := Lib.hid (HT2.out.below hb)
  have HB3 := Lib.hid (HB2.out.trans (hb.mono (by have := HB2.out.size; omega)))
  clear hb
  go_wp2_with fail
  refine (back_at (turned toL s) s (by rw [turned_size]; omega) HT1_3.out (turned_all s)).mono ?_
  rintro en w4 ⟨rfl, hb⟩
  have HT1_4 := Lib.hid (HT1_3.out.below hb)
  have HT2_4 := Lib.hid (HT2_3.out.below hb)
  have HB4 := Lib.hid (HB3.out.trans (hb.mono (by have := HB3.out.size; omega)))
  clear hb
  go_wp2_with fail
  refine (back_at s (turned fromL s) (by omega) HT2_4.out rfl).mono ?_
  rintro en w5 ⟨rfl, hb⟩
  have HT1_5 := Lib.hid (HT1_4.out.below hb)
  have HB5 := Lib.hid (HB4.out.trans (hb.mono (by have := HB4.out.size; omega)))
  clear hb
  go_wp2_with fail
  refine (text_at (turned fromL s) s (by rw [turned_size]; omega) HT1_5.out (turned_all2 s)).mono ?_
  rintro en w6 ⟨rfl, hb⟩
  have HB6 := Lib.hid (HB5.out.trans (hb.mono (by have := HB5.out.size; omega)))
  clear hb
  go_wp2_with fail
  go_ret
  exact ⟨by simp, HB6.out⟩
theorem pall_all (s : ByteArray) {w : World} : Calls Try.prog 10 #[.string s] w fun en w' => en = .returned (.bool true) ∧ Below w.heap.size w w' := by
  rcases Nat.lt_or_ge 2000 s.size with h | h
  · exact pall_great s w h
  · exact pall_walk s w h
end Go.Proofs.Ytfknlgjfhdphjaa
