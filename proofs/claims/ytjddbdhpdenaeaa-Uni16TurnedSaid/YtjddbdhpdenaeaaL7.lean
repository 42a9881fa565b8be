/- UTF-16: the law Turned, walked. -/
import Derived.Test.YtjddbdhpdenaeaaLt
import Derived.Deep.RegionHeld3
import Derived.IntWalk
namespace Go.Proofs.Ytjddbdhpdenaeaa
open Go.RowKit Go.Proofs.YtjddbdhpdenaeaaW.PrintWords Go.Proofs.YtjddbdhpdenaeaaW.PrintMore
set_option linter.unusedVariables false
set_option linter.unusedSimpArgs false
theorem turned_great (t : ByteArray) (w : World) (hg : (decide (400 < (t.size : Int)) || (decide (200 < 0) || decide (200 < 0))) = true) :
    Calls Try.prog 7 #[.string t] w fun en w' => en = .returned (.bool true) ∧ Below w.heap.size w w' := by
  go_enter Try.func7, Try.ntmps7
  go_wp2_with fail
  refine (awake_any _).mono ?_
  rintro en w2 ⟨rfl, hb2⟩
  have HB2 := Lib.hid hb2
  clear hb2
  go_wp2_with fail
  refine (great_any _ _ _ _ _ _ _ _).mono ?_
  rw [hg]
  rintro en w3 ⟨rfl, rfl⟩
  go_wp2_with fail
  refine (awake_any _).mono ?_
  rintro en w4 ⟨rfl, hb4⟩
  have HB4 := Lib.hid (HB2.out.trans (hb4.mono HB2.out.size))
  clear hb4
  go_wp2_with fail
  go_ret
  exact ⟨rfl, HB4.out⟩
theorem turned_odd (t : ByteArray) (w : World) (hg : (decide (400 < (t.size : Int)) || (decide (200 < 0) || decide (200 < 0))) = false) (hr : ((t.size : Int) % 2 != 0) = true) :
    Calls Try.prog 7 #[.string t] w fun en w' => en = .returned (.bool true) ∧ Below w.heap.size w w' := by
  go_enter Try.func7, Try.ntmps7
  go_wp2_with fail
  refine (awake_any _).mono ?_
  rintro en w2 ⟨rfl, hb2⟩
  have HB2 := Lib.hid hb2
  clear hb2
  go_wp2_with fail
  refine (great_any _ _ _ _ _ _ _ _).mono ?_
  rw [hg]
  rintro en w3 ⟨rfl, rfl⟩
  go_wp2_with fail
  refine (awake_any _).mono ?_
  rintro en w4 ⟨rfl, hb4⟩
  have HB4 := Lib.hid (HB2.out.trans (hb4.mono HB2.out.size))
  clear hb4
  go_wp2_with fail
  go_ret
  exact ⟨rfl, HB4.out⟩
set_option maxHeartbeats 4000000 in
theorem turned_walk {w : World} (t : ByteArray) (hg : (decide (400 < (t.size : Int)) || (decide (200 < 0) || decide (200 < 0))) = false) (hr : ((t.size : Int) % 2 != 0) = false) :
    Calls Try.prog 7 #[.string t] w fun en w' => en = .returned (.bool true) ∧ Below w.heap.size w w' := by
  have huF := fld0
  have hz0 : t.size ≤ 400 := by simp at hg; omega
  have h2 : t.size % 2 = 0 := by
    have h9 : (t.size : Int) % 2 = 0 := by simpa using hr
    omega
  have H2 := Lib.hid h2
  clear h2
  go_enter Try.func7, Try.ntmps7
  go_wp2_with fail
  refine (awake_any _).mono ?_
  rintro en w2 ⟨rfl, hb2⟩
  have HB2 := Lib.hid hb2
  clear hb2
  go_wp2_with fail
  refine (great_any _ _ _ _ _ _ _ _).mono ?_
  rw [hg]
  rintro en w3 ⟨rfl, rfl⟩
  go_wp2_with fail
  refine (newd_any true _).mono ?_
  rintro en w3 ⟨rfl, hd3, hb3⟩
  have HS2 := Lib.hid HB2.out.size
  have HB3 := Lib.hid (HB2.out.trans (hb3.mono HS2.out))
  have HD3 := Lib.hid hd3
  clear hd3 hb3
  go_wp2_with fail
  refine (newd_any false _).mono ?_
  rintro en w4 ⟨rfl, hf4, hb4⟩
  have HGL := Lib.hid HD3.out.lt
  have HD4 := Lib.hid (HD3.out.below hb4)
  have HS3 := Lib.hid HB3.out.size
  have HB4 := Lib.hid (HB3.out.trans (hb4.mono HS3.out))
  have HF4 := Lib.hid hf4
  clear hf4 hb4
  generalize hg2 : w2.heap.size = g at *
  generalize hg3 : w3.heap.size = gf at *
  have HNE : Hid (g ≠ gf) := Lib.hid (Nat.ne_of_lt HGL.out)
  clear hg2 hg3
  obtain ⟨y, _, hy, hys⟩ : ∃ y, PUni16Turned.pilcrowref04_Turn.f (t.size + 1) t = some y ∧ bytesOf y = swp (bytesOf t) ∧ y.size = t.size := by
    obtain ⟨y, h1, h3⟩ := turn_at t (by omega) H2.out
    exact ⟨y, h1, h3, by rw [← bytesOf_length, h3, swp_len _ _ (Nat.le_refl _), bytesOf_length]⟩
  obtain ⟨m1, m2, s1, s2, os, l1, l2, l3, l4, l5, l6, l7, l8⟩ := turned_law t y H2.out hy hys
  have L1 := Lib.hid l1
  have L2 := Lib.hid l2
  have L3 := Lib.hid l3
  have L4 := Lib.hid l4
  have L5 := Lib.hid l5
  have L6 := Lib.hid l6
  have L7 := Lib.hid l7
  have HY := Lib.hid hy
  have HYS := Lib.hid hys
  generalize he1 : (if m1 < t.size then (3 : Int) else if ccut s1 = true then 4 else 0) = e at *
  have HE1 := Lib.hid he1
  have HE2 := Lib.hid l8.symm
  clear l1 l2 l3 l4 l5 l6 l7 l8 hy hys he1
  go_wp2_with fail
  refine (read_any t none none 0 0 0 0 [] [] (st0 true) (cok0 true) (by omega) (by omega) (by omega) (reads_nil _ _) (reads_nil _ _) none_ne none_ne HD4.out).mono ?_
  rintro en w5 h5
  obtain ⟨r5, f5, d5, o5, rfl, ho5, hk5, hl5, hd5⟩ := read_is h5 L1.out L4.out L6.out
  obtain ⟨A5, c5, rfl, hle5, _⟩ := own_reads_of_le (enc := fun x => Value.int .u32 x) (d := (0 : Int)) ho5
  rw [HE1.out] at hd5
  have HS4 := Lib.hid HB4.out.size
  have HLE5 := Lib.hid hle5
  have HO5 := Lib.hid ho5
  have HFL := Lib.hid HF4.out.lt
  have HD5 := Lib.hid hd5
  have HF5 := Lib.hid (HF4.out.by_ hk5 HNE.out.symm)
  have HB5 := Lib.hid (HB4.out.trans (hk5.below (B := w.heap.size) HB4.out.size (fun k hk => by rw [hk]; exact HS2.out)))
  have HOS : Hid (os.length ≤ 1000000) := Lib.hid (by have := L1.out; omega)
  have HOL := Lib.hid (reads_lt (own_reads' ho5))
  clear h5 ho5 hk5 hl5 hd5 hle5
  go_wp2_with fail
  refine (turn_any t (by omega) H2.out _).mono ?_
  rintro en w6 ⟨y2, rfl, hy2, hb6⟩
  obtain rfl : y2 = y := bytes_inj (hy2.trans HY.out.symm)
  have HD6 := Lib.hid (HD5.out.below hb6)
  have HF6 := Lib.hid (HF5.out.below hb6)
  have HO6 := Lib.hid ((Kp.of_below (F := fun _ => False) hb6).own HO5.out (fun _ _ h => h))
  have HS5 := Lib.hid HB5.out.size
  have HS56 := Lib.hid hb6.size
  have HB6 := Lib.hid (HB5.out.trans (hb6.mono HB5.out.size))
  clear hb6 hy2
  go_wp2_with fail
  refine (read_any y2 none none 0 0 0 0 [] [] (st0 false) (cok0 false) (by have := HYS.out; omega) (by omega) (by omega) (reads_nil _ _) (reads_nil _ _) none_ne none_ne HF6.out).mono ?_
  rintro en w7 h7
  obtain ⟨r7, f7, d7, o7, rfl, ho7, hk7, hl7, hf7⟩ := read_is h7 L2.out L5.out L7.out
  obtain ⟨A7, c7, rfl, hle7, _⟩ := own_reads_of_le (enc := fun x => Value.int .u32 x) (d := (0 : Int)) ho7
  rw [HE2.out] at hf7
  have HLE7 := Lib.hid hle7
  have HO7 := Lib.hid (own_reads' ho7)
  have HF7 := Lib.hid hf7
  have HD7 := Lib.hid (HD6.out.by_ hk7 HNE.out)
  have HO57 := Lib.hid (own_reads' (hk7.own HO6.out (fun k hk h => by have := (HO6.out.lt k hk).1; have := HFL.out; omega)))
  have HB7 := Lib.hid (HB6.out.trans (hk7.below (B := w.heap.size) HB6.out.size (fun k hk => by rw [hk]; exact HS3.out)))
  clear h7 ho7 hk7 hl7 hf7 hle7
  go_wp2_with fail
  have HK78 : Hid (Below w7.heap.size w7 w7.drew) := Lib.hid (((Kp.refl (fun _ => False) w7).drew).below (Nat.le_refl _) (fun _ h => h.elim))
  have hee : (e == e) = true := by simp
  have hd2 : ((m1 : Int) / 2) = ((m2 : Int) / 2) := by have := L3.out; omega
  have hq2 : (((m1 : Int) / 2) == ((m2 : Int) / 2)) = true := by rw [hd2]; simp
  go_region_held3 (fun _ => True) (first | exact trivial) (first
    | (go_at_call 14; refine (same_any (w := w7.drew) (HO57.out.below HK78.out) (HO7.out.below HK78.out) HLE5.out HLE7.out (by have := HOS.out; omega)).mono ?_; rintro e w8 ⟨rfl, n8, rfl⟩; rw [decide_eq_true rfl]; have hk8 := Lib.hid ((Kp.refl (fun _ => False) w7.drew).drewN n8); generalize w7.drew.drewN n8 = w8 at *; have HB78 := Lib.hid (HK78.out.trans ((hk8.out.below (Nat.le_refl _) (fun k h => h.elim)).mono HK78.out.size)); have HD8 := Lib.hid (HD7.out.below HB78.out); have HF8 := Lib.hid (HF7.out.below HB78.out); clear hk8)
    | (go_at_call 15; (with_reducible refine (dec_fail (w := w8) HD8.out).mono ?_); rintro e w9 ⟨rfl, hb9⟩; have HB9 := Lib.hid hb9; have HD9 := Lib.hid (HD8.out.below hb9); have HF9 := Lib.hid (HF8.out.below hb9); clear hb9)
    | (go_at_call 15; (with_reducible refine (dec_fail (w := w9) HF9.out).mono ?_); rintro e w10 ⟨rfl, hb10⟩; have HB10 := Lib.hid hb10; have HD10 := Lib.hid (HD9.out.below hb10); have HF10 := Lib.hid (HF9.out.below hb10); clear hb10)
    | (go_at_call 17; (with_reducible refine (dec_at (w := w10) HD10.out).mono ?_); rintro e w' ⟨rfl, rfl⟩)
    | (go_at_call 17; (with_reducible refine (dec_at (w := w10) HF10.out).mono ?_); rintro e w' ⟨rfl, rfl⟩)
    | (fail))
  go_wp2_with fail
  go_ret
  refine ⟨rfl, ?_⟩
  have b8 := HB7.out.trans (HB78.out.mono HB7.out.size)
  have b9 := b8.trans (HB9.out.mono b8.size)
  exact b9.trans (HB10.out.mono b9.size)
theorem turned_all {w : World} (t : ByteArray) :
    Calls Try.prog 7 #[.string t] w fun en w' => en = .returned (.bool true) ∧ Below w.heap.size w w' := by
  cases hg : (decide (400 < (t.size : Int)) || (decide (200 < 0) || decide (200 < 0)))
  · cases hr : ((t.size : Int) % 2 != 0)
    · exact turned_walk t hg hr
    · exact turned_odd t w hg hr
  · exact turned_great t w hg
end Go.Proofs.Ytjddbdhpdenaeaa
