/- Ebcdic: the law Extends, walked. -/
import Derived.Test.YtcfpbihkodjlkaaLc
import Derived.Test.YtcfpbihkodjlkaaL4
import Derived.Deep.RegionHeld3
import Derived.IntWalk
namespace Go.Proofs.Ytcfpbihkodjlkaa
open Go.RowKit Go.Proofs.YtcfpbihkodjlkaaW.PrintWords Go.Proofs.YtcfpbihkodjlkaaW.PrintMore
open M (bytesOf_range getD_bt bytes_mid)
open M (isB isB_range is_any)
set_option linter.unusedVariables false
set_option linter.unusedSimpArgs false
set_option maxRecDepth 20000
/-- A text that is wrong at a place is told so, whatever follows. -/
theorem read_fails {w w' : World} {g T : Nat} {t : ByteArray} {s0 s : CS} {os : List Int} {en : Ending} {m : Nat} (h : ReadPost w g T t s0 en w') (hm : m < t.size) (hr : run cnx s0 ((bytesOf t).take m) = some (s, os)) (hn : cnx s (bt t m) = none) :
    ∃ r s', en = .returned (.tuple #[r, .bool true]) ∧ w'.ownsRow w.heap.size 22 1 r os.length (nums .u32 os) ∧ Kp (fun k => k = g) w w' ∧ Dec w' g T m 3 m false nilv [] (cown s') := by
  obtain ⟨m3, os3, r, s3, rfl, hm3, hrun, ho, hkp, hol, hcs, hend⟩ := h
  have hbad : run cnx s0 ((bytesOf t).take (m + 1)) = none := by rw [take_bt t m hm, run_snoc, hr, Option.bind_some, hn]; rfl
  have hle : m3 ≤ m := by
    rcases Nat.lt_or_ge m m3 with h9 | h9
    · rw [run_none (k := m + 1) h9 hbad] at hrun
      cases hrun
    · exact h9
  rcases hend with ⟨h0, _, _⟩ | ⟨h0, _, _⟩ | ⟨h0, h1, s', h2⟩
  · omega
  · omega
  · have heq : m3 = m := by
      rcases Nat.lt_or_ge m3 m with h9 | h9
      · have h3 : run cnx s0 ((bytesOf t).take (m3 + 1)) = none := by rw [take_bt t m3 h0, run_snoc, hrun, Option.bind_some, h1]; rfl
        rw [run_none (k := m3 + 1) h9 h3] at hr
        cases hr
      · omega
    subst heq
    rw [hr] at hrun
    simp only [Option.some.injEq, Prod.mk.injEq] at hrun
    obtain ⟨rfl, rfl⟩ := hrun
    exact ⟨r, s', rfl, ho, hkp, h2⟩
theorem extends_great (t u : ByteArray) (w : World) (hg : (decide (400 < (t.size : Int)) || (decide (200 < 0) || decide (200 < 0))) = true) :
    Calls Try.prog 7 #[.string t, .string u] w fun en w' => en = .returned (.bool true) ∧ Below w.heap.size w w' := by
  go_enter Try.func7, Try.ntmps7
  go_wp2_with fail
  refine (awake_any _).mono ?_
  rintro en w2 ⟨rfl, hb2⟩
  have HB2 := Lib.hid hb2
  clear hb2
  go_wp2_with fail
  refine (great_any _ _ _ _ _ _ _ _).mono ?_
  rw [hg]
  rintro en w3 ⟨rfl, rfl⟩
  go_wp2_with fail
  refine (awake_any _).mono ?_
  rintro en w4 ⟨rfl, hb4⟩
  have HB4 := Lib.hid (HB2.out.trans (hb4.mono HB2.out.size))
  clear hb4
  go_wp2_with fail
  go_ret
  exact ⟨rfl, HB4.out⟩
theorem extends_more (t u : ByteArray) (w : World) (hg : (decide (400 < (t.size : Int)) || (decide (200 < 0) || decide (200 < 0))) = false) (hu : 100 < (u.size : Int)) :
    Calls Try.prog 7 #[.string t, .string u] w fun en w' => en = .returned (.bool true) ∧ Below w.heap.size w w' := by
  go_enter Try.func7, Try.ntmps7
  go_wp2_with fail
  refine (awake_any _).mono ?_
  rintro en w2 ⟨rfl, hb2⟩
  have HB2 := Lib.hid hb2
  clear hb2
  go_wp2_with fail
  refine (great_any _ _ _ _ _ _ _ _).mono ?_
  rw [hg]
  rintro en w3 ⟨rfl, rfl⟩
  go_wp2_with fail
  refine (awake_any _).mono ?_
  rintro en w4 ⟨rfl, hb4⟩
  have HB4 := Lib.hid (HB2.out.trans (hb4.mono HB2.out.size))
  clear hb4
  go_wp2_with fail
  go_ret
  exact ⟨rfl, HB4.out⟩
set_option maxHeartbeats 8000000 in
theorem extends_walk {w : World} (t u : ByteArray) (hg : (decide (400 < (t.size : Int)) || (decide (200 < 0) || decide (200 < 0))) = false) (hu : (u.size : Int) ≤ 100) :
    Calls Try.prog 7 #[.string t, .string u] w fun en w' => en = .returned (.bool true) ∧ Below w.heap.size w w' := by
  have heq := eqF
  have huF := fld0
  have hz0 : t.size ≤ 400 := by simp at hg; omega
  go_enter Try.func7, Try.ntmps7
  go_wp2_with fail
  refine (awake_any _).mono ?_
  rintro en w2 ⟨rfl, hb2⟩
  have HB2 := Lib.hid hb2
  clear hb2
  go_wp2_with fail
  refine (great_any _ _ _ _ _ _ _ _).mono ?_
  rw [hg]
  rintro en w3 ⟨rfl, rfl⟩
  go_wp2_with fail
  refine (newd_any _).mono ?_
  rintro en w3 ⟨g, tb3, rfl, hl3, hx3, ht3, hd3, hb3⟩
  have HS2 : Hid (w.heap.size ≤ g) := Lib.hid (by have := HB2.out.size; omega)
  have HB3 := Lib.hid (HB2.out.trans (hb3.mono HB2.out.size))
  have HD3 := Lib.hid hd3
  have HTa3 := Lib.hid ht3
  have HTn3 : Hid (tb3 ≠ g) := Lib.hid (Nat.ne_of_lt hx3)
  have HLt3 : Hid (w2.heap.size < g) := Lib.hid (by omega)
  clear hd3 hb3 ht3 hl3 hx3
  go_wp2_with fail
  refine (read_any t none none 0 0 0 0 [] [] (st0 tb3) cok0 (by omega) (by omega) (by omega) (reads_nil _ _) (reads_nil _ _) none_ne none_ne HTa3.out HTn3.out HD3.out).mono ?_
  rintro en w4 ⟨m, os, r, s, rfl, hm, hrun, ho, hkp, hol, hcs, hend⟩
  have HB4 := Lib.hid (HB3.out.trans (hkp.below (B := w.heap.size) HB3.out.size (fun k hk => by rw [hk]; exact HS2.out)))
  obtain ⟨A4, c4, rfl, hle4, _⟩ := own_reads_of_le (enc := fun x => Value.int .u32 x) (d := (0 : Int)) ho
  have HLE4 := Lib.hid hle4
  have HO4 := Lib.hid (own_reads' ho)
  have HOL := Lib.hid hol
  have HRUN := Lib.hid hrun
  obtain ⟨p1, p2, _⟩ := extract_to t m hm
  have HP1 := Lib.hid p1
  have HP2 := Lib.hid p2
  have hmi : ((m : Int) < 0) = False := by simp
  clear hle4 ho hkp hol hrun hcs p1 p2
  rcases hend with ⟨h0, h1, h2⟩ | ⟨h0, h1, h2⟩ | ⟨h0, h1, s', h2⟩
  · have HD4 := Lib.hid h2
    have H0 := Lib.hid h0
    have H1 := Lib.hid h1
    clear h0 h1 h2
    go_wp2_with fail
    refine (dec_at HD4.out).mono ?_
    rintro en w5 ⟨rfl, rfl⟩
    go_wp2_with fail
    refine (newd_any _).mono ?_
    rintro en w6 ⟨gf, tb6, rfl, hl6, hx6, ht6, hd6, hb6⟩
    have HS4 : Hid (w.heap.size ≤ gf) := Lib.hid (by have := HB4.out.size; omega)
    have HGF : Hid (g ≠ gf) := Lib.hid (by have := HD4.out.lt; omega)
    have HB6 := Lib.hid (HB4.out.trans (hb6.mono HB4.out.size))
    have HD6 := Lib.hid (HD4.out.below hb6)
    have HO6 := Lib.hid (HO4.out.below hb6)
    have HF6 := Lib.hid hd6
    have HTa6 := Lib.hid ht6
    have HTn6 : Hid (tb6 ≠ gf) := Lib.hid (Nat.ne_of_lt hx6)
    have HLt6 : Hid (w4.heap.size < gf) := Lib.hid (by omega)
    clear hd6 hb6 ht6 hl6 hx6
    go_wp2_with fail
    have HRR : Hid (run cnx (st0 tb3) (bytesOf (t.extract 0 m)) = some (s, os)) := Lib.hid (by rw [HP2.out]; exact HRUN.out)
    have HPZ : Hid ((t.extract 0 m).size ≤ 40000) := Lib.hid (by rw [HP1.out]; omega)
    have HDR : Hid (Below w6.heap.size w6 w6.drew) := Lib.hid (((Kp.refl (fun _ => False) w6).drew).below (Nat.le_refl _) (fun _ h => h.elim))
    go_region_held3 (fun _ => True) (first | exact trivial) (first
      | (go_at_call 27; refine (rest_any tb6 (t.extract 0 m) HPZ.out s os HRR.out w6.drew).mono ?_; rintro e w7 ⟨u7, os2, s7, rfl, hu7, hr7, hc7, hb7⟩; have HU7 := Lib.hid hu7; have hcat : (t.extract 0 m).size + u7.size ≤ 100004 := (by have := HPZ.out; omega); have hcat2 : (((t.extract 0 m).size + u7.size : Nat) : Int) ≤ 9223372036854775807 := (by omega); have hcat4 : ¬ (9223372036854775807 < (t.extract 0 m).size + u7.size) := (by omega); have hcat6 : ¬ (9223372036854775807 < m + u7.size) := (by have := HPZ.out; have := HP1.out; omega); have hcat5 : ¬ (9223372036854775807 < min m t.size + u7.size) := (by have := HPZ.out; have := HP1.out; omega); have HR7 := Lib.hid hr7; have HC7 := Lib.hid hc7; have HB67 := Lib.hid (HDR.out.trans hb7); clear hu7 hr7 hc7 hb7)
      | (go_at_call 17; refine (read_any (w := w7) (t.extract 0 m ++ u7) none none 0 0 0 0 [] [] (st0 tb6) cok0 (by rw [ByteArray.size_append]; have := HPZ.out; have := HP1.out; have := HU7.out; omega) (by omega) (by omega) (reads_nil _ _) (reads_nil _ _) none_ne none_ne (HTa6.out.kp (F := fun _ => False) (Kp.of_below HB67.out) (fun h => h)) HTn6.out (HF6.out.below HB67.out)).mono ?_; rintro e w8 h8; obtain ⟨r8, rfl, ho8, hk8, hl8, hd8⟩ := read_whole h8 (by rw [bytesOf_append]; exact HR7.out) HC7.out; have HL8 := Lib.hid hl8; have HO8 := Lib.hid ho8; have HK8 := Lib.hid hk8; have HF8 := Lib.hid hd8; clear h8 ho8 hk8 hl8 hd8))
    obtain ⟨n8, hn8⟩ : ∃ n8, (os ++ os2).length = n8 := ⟨_, rfl⟩
    have ho8 := HO8.out
    rw [hn8] at ho8
    obtain ⟨A8, c8, rfl, hle8, _⟩ := own_reads_of_le (enc := fun x => Value.int .u32 x) (d := (0 : Int)) ho8
    have hln : os.length ≤ n8 := by rw [← hn8, List.length_append]; omega
    have HO8R : Hid (ReadsInt w8 .u32 A8 os.length os) := Lib.hid (by
      have h9 := (own_reads' ho8).take_ os.length hln
      rw [List.take_left] at h9
      exact h9)
    have hk68 : Kp (fun k => k = gf) w6 w8 := (Kp.of_below HB67.out).trans HK8.out (fun k h => .inl h)
    have HD8 := Lib.hid (HD6.out.by_ hk68 HGF.out)
    have HB8 := Lib.hid (HB6.out.trans (hk68.below (B := w.heap.size) HB6.out.size (fun k h => by rw [h]; exact HS4.out)))
    have HO48 := Lib.hid (reads_kp0 HO6.out hk68 (fun ad h h0 => Nat.ne_of_lt (by have := reads_lt HO4.out ad h h0; exact Nat.lt_trans this HLt6.out)))
    obtain ⟨i0, hi, hz0', hz1', hz2'⟩ := info_parts infoU
    have HLE8 := Lib.hid hle8
    have hcut1 := cut_to (P := Try.prog) 29 22 .i64 Try.underlying29 hi A8 n8 c8 (os.length : Int) (by omega) (by omega) hle8
    rw [Int.toNat_natCast] at hcut1
    have hos : os.length ≤ 1000000000 := by have := HOL.out; omega
    have HOS := Lib.hid hos
    clear ho8 hk68 hle8 hos hn8
    go_wp2_with fail
    refine (dec_fail HF8.out).mono ?_
    rintro en w9 ⟨rfl, hb9⟩
    have HB9 := Lib.hid (HB8.out.trans (hb9.mono HB8.out.size))
    have HD9 := Lib.hid (HD8.out.below hb9)
    have HO9 := Lib.hid (HO8R.out.below hb9)
    have HO49 := Lib.hid (HO48.out.below hb9)
    clear hb9
    go_wp2_with fail
    refine (same_any HO9.out HO49.out (Nat.le_trans hln HLE8.out) HLE4.out HOS.out).mono ?_
    rintro en w10 ⟨rfl, n10, rfl⟩
    rw [decide_eq_true rfl]
    have hk10 : Kp (fun k => k = w9.heap.size) w9 (w9.drewN n10) := (Kp.refl _ _).drewN _
    generalize w9.drewN n10 = w10 at *
    have HD10 := Lib.hid (HD9.out.by_ hk10 (Nat.ne_of_lt HD9.out.lt))
    have HB10 := Lib.hid (HB9.out.trans ((hk10.below (Nat.le_refl _) (fun k h => Nat.le_of_eq h.symm)).mono HB9.out.size))
    clear hk10
    go_wp2_with fail
    refine (dec_fail HD10.out).mono ?_
    rintro en w11 ⟨rfl, hb11⟩
    have HD11 := Lib.hid (HD10.out.below hb11)
    have HB11 := Lib.hid (HB10.out.trans (hb11.mono HB10.out.size))
    clear hb11
    have hmt : ((m : Int) == (t.size : Int)) = true := by rw [H0.out]; simp
    go_wp2_with fail
    go_ret
    exact ⟨rfl, HB11.out⟩
  · have HD4 := Lib.hid h2
    have H0 := Lib.hid h0
    have H1 := Lib.hid h1
    clear h0 h1 h2
    go_wp2_with fail
    refine (dec_at HD4.out).mono ?_
    rintro en w5 ⟨rfl, rfl⟩
    go_wp2_with fail
    refine (newd_any _).mono ?_
    rintro en w6 ⟨gf, tb6, rfl, hl6, hx6, ht6, hd6, hb6⟩
    have HS4 : Hid (w.heap.size ≤ gf) := Lib.hid (by have := HB4.out.size; omega)
    have HGF : Hid (g ≠ gf) := Lib.hid (by have := HD4.out.lt; omega)
    have HB6 := Lib.hid (HB4.out.trans (hb6.mono HB4.out.size))
    have HD6 := Lib.hid (HD4.out.below hb6)
    have HO6 := Lib.hid (HO4.out.below hb6)
    have HF6 := Lib.hid hd6
    have HTa6 := Lib.hid ht6
    have HTn6 : Hid (tb6 ≠ gf) := Lib.hid (Nat.ne_of_lt hx6)
    have HLt6 : Hid (w4.heap.size < gf) := Lib.hid (by omega)
    clear hd6 hb6 ht6 hl6 hx6
    go_wp2_with fail
    have HRR : Hid (run cnx (st0 tb3) (bytesOf (t.extract 0 m)) = some (s, os)) := Lib.hid (by rw [HP2.out]; exact HRUN.out)
    have HPZ : Hid ((t.extract 0 m).size ≤ 40000) := Lib.hid (by rw [HP1.out]; omega)
    have HDR : Hid (Below w6.heap.size w6 w6.drew) := Lib.hid (((Kp.refl (fun _ => False) w6).drew).below (Nat.le_refl _) (fun _ h => h.elim))
    go_region_held3 (fun _ => True) (first | exact trivial) (first
      | (go_at_call 27; refine (rest_any tb6 (t.extract 0 m) HPZ.out s os HRR.out w6.drew).mono ?_; rintro e w7 ⟨u7, os2, s7, rfl, hu7, hr7, hc7, hb7⟩; have HU7 := Lib.hid hu7; have hcat : (t.extract 0 m).size + u7.size ≤ 100004 := (by have := HPZ.out; omega); have hcat2 : (((t.extract 0 m).size + u7.size : Nat) : Int) ≤ 9223372036854775807 := (by omega); have hcat4 : ¬ (9223372036854775807 < (t.extract 0 m).size + u7.size) := (by omega); have hcat6 : ¬ (9223372036854775807 < m + u7.size) := (by have := HPZ.out; have := HP1.out; omega); have hcat5 : ¬ (9223372036854775807 < min m t.size + u7.size) := (by have := HPZ.out; have := HP1.out; omega); have HR7 := Lib.hid hr7; have HC7 := Lib.hid hc7; have HB67 := Lib.hid (HDR.out.trans hb7); clear hu7 hr7 hc7 hb7)
      | (go_at_call 17; refine (read_any (w := w7) (t.extract 0 m ++ u7) none none 0 0 0 0 [] [] (st0 tb6) cok0 (by rw [ByteArray.size_append]; have := HPZ.out; have := HP1.out; have := HU7.out; omega) (by omega) (by omega) (reads_nil _ _) (reads_nil _ _) none_ne none_ne (HTa6.out.kp (F := fun _ => False) (Kp.of_below HB67.out) (fun h => h)) HTn6.out (HF6.out.below HB67.out)).mono ?_; rintro e w8 h8; obtain ⟨r8, rfl, ho8, hk8, hl8, hd8⟩ := read_whole h8 (by rw [bytesOf_append]; exact HR7.out) HC7.out; have HL8 := Lib.hid hl8; have HO8 := Lib.hid ho8; have HK8 := Lib.hid hk8; have HF8 := Lib.hid hd8; clear h8 ho8 hk8 hl8 hd8))
    obtain ⟨n8, hn8⟩ : ∃ n8, (os ++ os2).length = n8 := ⟨_, rfl⟩
    have ho8 := HO8.out
    rw [hn8] at ho8
    obtain ⟨A8, c8, rfl, hle8, _⟩ := own_reads_of_le (enc := fun x => Value.int .u32 x) (d := (0 : Int)) ho8
    have hln : os.length ≤ n8 := by rw [← hn8, List.length_append]; omega
    have HO8R : Hid (ReadsInt w8 .u32 A8 os.length os) := Lib.hid (by
      have h9 := (own_reads' ho8).take_ os.length hln
      rw [List.take_left] at h9
      exact h9)
    have hk68 : Kp (fun k => k = gf) w6 w8 := (Kp.of_below HB67.out).trans HK8.out (fun k h => .inl h)
    have HD8 := Lib.hid (HD6.out.by_ hk68 HGF.out)
    have HB8 := Lib.hid (HB6.out.trans (hk68.below (B := w.heap.size) HB6.out.size (fun k h => by rw [h]; exact HS4.out)))
    have HO48 := Lib.hid (reads_kp0 HO6.out hk68 (fun ad h h0 => Nat.ne_of_lt (by have := reads_lt HO4.out ad h h0; exact Nat.lt_trans this HLt6.out)))
    obtain ⟨i0, hi, hz0', hz1', hz2'⟩ := info_parts infoU
    have HLE8 := Lib.hid hle8
    have hcut1 := cut_to (P := Try.prog) 29 22 .i64 Try.underlying29 hi A8 n8 c8 (os.length : Int) (by omega) (by omega) hle8
    rw [Int.toNat_natCast] at hcut1
    have hos : os.length ≤ 1000000000 := by have := HOL.out; omega
    have HOS := Lib.hid hos
    clear ho8 hk68 hle8 hos hn8
    go_wp2_with fail
    refine (dec_fail HF8.out).mono ?_
    rintro en w9 ⟨rfl, hb9⟩
    have HB9 := Lib.hid (HB8.out.trans (hb9.mono HB8.out.size))
    have HD9 := Lib.hid (HD8.out.below hb9)
    have HO9 := Lib.hid (HO8R.out.below hb9)
    have HO49 := Lib.hid (HO48.out.below hb9)
    clear hb9
    go_wp2_with fail
    refine (same_any HO9.out HO49.out (Nat.le_trans hln HLE8.out) HLE4.out HOS.out).mono ?_
    rintro en w10 ⟨rfl, n10, rfl⟩
    rw [decide_eq_true rfl]
    have hk10 : Kp (fun k => k = w9.heap.size) w9 (w9.drewN n10) := (Kp.refl _ _).drewN _
    generalize w9.drewN n10 = w10 at *
    have HD10 := Lib.hid (HD9.out.by_ hk10 (Nat.ne_of_lt HD9.out.lt))
    have HB10 := Lib.hid (HB9.out.trans ((hk10.below (Nat.le_refl _) (fun k h => Nat.le_of_eq h.symm)).mono HB9.out.size))
    clear hk10
    go_wp2_with fail
    refine (dec_fail HD10.out).mono ?_
    rintro en w11 ⟨rfl, hb11⟩
    have HD11 := Lib.hid (HD10.out.below hb11)
    have HB11 := Lib.hid (HB10.out.trans (hb11.mono HB10.out.size))
    clear hb11
    have hmt : ((m : Int) == (t.size : Int)) = true := by rw [H0.out]; simp
    go_wp2_with fail
    go_ret
    exact ⟨rfl, HB11.out⟩
  · have HD4 := Lib.hid h2
    have H0 := Lib.hid h0
    have H1 := Lib.hid h1
    clear h0 h1 h2
    go_wp2_with fail
    refine (dec_at HD4.out).mono ?_
    rintro en w5 ⟨rfl, rfl⟩
    go_wp2_with fail
    refine (newd_any _).mono ?_
    rintro en w6 ⟨gf, tb6, rfl, hl6, hx6, ht6, hd6, hb6⟩
    have HS4 : Hid (w.heap.size ≤ gf) := Lib.hid (by have := HB4.out.size; omega)
    have HGF : Hid (g ≠ gf) := Lib.hid (by have := HD4.out.lt; omega)
    have HB6 := Lib.hid (HB4.out.trans (hb6.mono HB4.out.size))
    have HD6 := Lib.hid (HD4.out.below hb6)
    have HO6 := Lib.hid (HO4.out.below hb6)
    have HF6 := Lib.hid hd6
    have HTa6 := Lib.hid ht6
    have HTn6 : Hid (tb6 ≠ gf) := Lib.hid (Nat.ne_of_lt hx6)
    have HLt6 : Hid (w4.heap.size < gf) := Lib.hid (by omega)
    clear hd6 hb6 ht6 hl6 hx6
    go_wp2_with fail
    have HRR : Hid (run cnx (st0 tb3) (bytesOf (t.extract 0 m)) = some (s, os)) := Lib.hid (by rw [HP2.out]; exact HRUN.out)
    have HPZ : Hid ((t.extract 0 m).size ≤ 40000) := Lib.hid (by rw [HP1.out]; omega)
    have HDR : Hid (Below w6.heap.size w6 w6.drew) := Lib.hid (((Kp.refl (fun _ => False) w6).drew).below (Nat.le_refl _) (fun _ h => h.elim))
    go_region_held3 (fun _ => True) (first | exact trivial) (first
      | (go_at_call 27; refine (rest_any tb6 (t.extract 0 m) HPZ.out s os HRR.out w6.drew).mono ?_; rintro e w7 ⟨u7, os2, s7, rfl, hu7, hr7, hc7, hb7⟩; have HU7 := Lib.hid hu7; have hcat : (t.extract 0 m).size + u7.size ≤ 100004 := (by have := HPZ.out; omega); have hcat2 : (((t.extract 0 m).size + u7.size : Nat) : Int) ≤ 9223372036854775807 := (by omega); have hcat4 : ¬ (9223372036854775807 < (t.extract 0 m).size + u7.size) := (by omega); have hcat6 : ¬ (9223372036854775807 < m + u7.size) := (by have := HPZ.out; have := HP1.out; omega); have hcat5 : ¬ (9223372036854775807 < min m t.size + u7.size) := (by have := HPZ.out; have := HP1.out; omega); have HR7 := Lib.hid hr7; have HC7 := Lib.hid hc7; have HB67 := Lib.hid (HDR.out.trans hb7); clear hu7 hr7 hc7 hb7)
      | (go_at_call 17; refine (read_any (w := w7) (t.extract 0 m ++ u7) none none 0 0 0 0 [] [] (st0 tb6) cok0 (by rw [ByteArray.size_append]; have := HPZ.out; have := HP1.out; have := HU7.out; omega) (by omega) (by omega) (reads_nil _ _) (reads_nil _ _) none_ne none_ne (HTa6.out.kp (F := fun _ => False) (Kp.of_below HB67.out) (fun h => h)) HTn6.out (HF6.out.below HB67.out)).mono ?_; rintro e w8 h8; obtain ⟨r8, rfl, ho8, hk8, hl8, hd8⟩ := read_whole h8 (by rw [bytesOf_append]; exact HR7.out) HC7.out; have HL8 := Lib.hid hl8; have HO8 := Lib.hid ho8; have HK8 := Lib.hid hk8; have HF8 := Lib.hid hd8; clear h8 ho8 hk8 hl8 hd8))
    obtain ⟨n8, hn8⟩ : ∃ n8, (os ++ os2).length = n8 := ⟨_, rfl⟩
    have ho8 := HO8.out
    rw [hn8] at ho8
    obtain ⟨A8, c8, rfl, hle8, _⟩ := own_reads_of_le (enc := fun x => Value.int .u32 x) (d := (0 : Int)) ho8
    have hln : os.length ≤ n8 := by rw [← hn8, List.length_append]; omega
    have HO8R : Hid (ReadsInt w8 .u32 A8 os.length os) := Lib.hid (by
      have h9 := (own_reads' ho8).take_ os.length hln
      rw [List.take_left] at h9
      exact h9)
    have hk68 : Kp (fun k => k = gf) w6 w8 := (Kp.of_below HB67.out).trans HK8.out (fun k h => .inl h)
    have HD8 := Lib.hid (HD6.out.by_ hk68 HGF.out)
    have HB8 := Lib.hid (HB6.out.trans (hk68.below (B := w.heap.size) HB6.out.size (fun k h => by rw [h]; exact HS4.out)))
    have HO48 := Lib.hid (reads_kp0 HO6.out hk68 (fun ad h h0 => Nat.ne_of_lt (by have := reads_lt HO4.out ad h h0; exact Nat.lt_trans this HLt6.out)))
    obtain ⟨i0, hi, hz0', hz1', hz2'⟩ := info_parts infoU
    have HLE8 := Lib.hid hle8
    have hcut1 := cut_to (P := Try.prog) 29 22 .i64 Try.underlying29 hi A8 n8 c8 (os.length : Int) (by omega) (by omega) hle8
    rw [Int.toNat_natCast] at hcut1
    have hos : os.length ≤ 1000000000 := by have := HOL.out; omega
    have HOS := Lib.hid hos
    clear ho8 hk68 hle8 hos hn8
    go_wp2_with fail
    refine (dec_fail HF8.out).mono ?_
    rintro en w9 ⟨rfl, hb9⟩
    have HB9 := Lib.hid (HB8.out.trans (hb9.mono HB8.out.size))
    have HD9 := Lib.hid (HD8.out.below hb9)
    have HO9 := Lib.hid (HO8R.out.below hb9)
    have HO49 := Lib.hid (HO48.out.below hb9)
    clear hb9
    go_wp2_with fail
    refine (same_any HO9.out HO49.out (Nat.le_trans hln HLE8.out) HLE4.out HOS.out).mono ?_
    rintro en w10 ⟨rfl, n10, rfl⟩
    rw [decide_eq_true rfl]
    have hk10 : Kp (fun k => k = w9.heap.size) w9 (w9.drewN n10) := (Kp.refl _ _).drewN _
    generalize w9.drewN n10 = w10 at *
    have HD10 := Lib.hid (HD9.out.by_ hk10 (Nat.ne_of_lt HD9.out.lt))
    have HB10 := Lib.hid (HB9.out.trans ((hk10.below (Nat.le_refl _) (fun k h => Nat.le_of_eq h.symm)).mono HB9.out.size))
    clear hk10
    go_wp2_with fail
    refine (dec_fail HD10.out).mono ?_
    rintro en w11 ⟨rfl, hb11⟩
    have HD11 := Lib.hid (HD10.out.below hb11)
    have HB11 := Lib.hid (HB10.out.trans (hb11.mono HB10.out.size))
    clear hb11
    have hm1 : m + 1 ≤ t.size := H0.out
    obtain ⟨q1, q2, q3⟩ := extract_to t (m + 1) hm1
    have HQ1 := Lib.hid q1
    have HQ2 := Lib.hid q2
    clear q1 q2 q3
    go_wp2_with fail
    refine (newd_any _).mono ?_
    rintro en w12 ⟨gg, tb12, rfl, hl12, hx12, ht12, hd12, hb12⟩
    have HS11 : Hid (w.heap.size ≤ gg) := Lib.hid (by have := HB11.out.size; omega)
    have HGG : Hid (g ≠ gg) := Lib.hid (by have := HD11.out.lt; omega)
    have HB12 := Lib.hid (HB11.out.trans (hb12.mono HB11.out.size))
    have HD12 := Lib.hid (HD11.out.below hb12)
    have HG12 := Lib.hid hd12
    have HTa12 := Lib.hid ht12
    have HTn12 : Hid (tb12 ≠ gg) := Lib.hid (Nat.ne_of_lt hx12)
    have HLt12 : Hid (w11.heap.size < gg) := Lib.hid (by omega)
    clear hd12 hb12 ht12 hl12 hx12
    go_wp2_with fail
    have hbt3 : bytesOf (t.extract 0 (m + 1) ++ u) = (bytesOf t).take (m + 1) ++ bytesOf u := by rw [bytesOf_append, HQ2.out]
    have htl : ((bytesOf t).take (m + 1)).length = m + 1 := by rw [List.length_take, bytesOf_length]; omega
    have ht3 : (bytesOf (t.extract 0 (m + 1) ++ u)).take m = (bytesOf t).take m := by
      rw [hbt3, List.take_append_of_le_length (by omega), List.take_take, Nat.min_eq_left (by omega)]
    have hb3 : bt (t.extract 0 (m + 1) ++ u) m = bt t m := by
      rw [← getD_bt, hbt3, List.getD_eq_getElem?_getD, List.getElem?_append_left (by omega), List.getElem?_take_of_lt (by omega), ← List.getD_eq_getElem?_getD, getD_bt]
    have hsz3 : (t.extract 0 (m + 1) ++ u).size = m + 1 + u.size := by rw [ByteArray.size_append, HQ1.out]
    have HT3 := Lib.hid ht3
    have HBT3 := Lib.hid hb3
    have HSZ3 := Lib.hid hsz3
    clear hbt3 htl ht3 hb3 hsz3
    refine (read_any (w := w12) (t.extract 0 (m + 1) ++ u) none none 0 0 0 0 [] [] (st0 tb12) cok0 (by have := HSZ3.out; omega) (by omega) (by omega) (reads_nil _ _) (reads_nil _ _) none_ne none_ne HTa12.out HTn12.out HG12.out).mono ?_
    rintro en w13 h13
    obtain ⟨r13, s13, rfl, _, hk13, hg13⟩ := read_fails h13 (m := m) (s := ⟨s.m, tb12⟩) (os := os) (by have := HSZ3.out; omega) (by rw [HT3.out]; exact run_turn tb12 HRUN.out) (by rw [HBT3.out]; exact cnx_turn tb12 H1.out)
    have HD13 := Lib.hid (HD12.out.by_ hk13 HGG.out)
    have HG13 := Lib.hid hg13
    have HB13 := Lib.hid (HB12.out.trans (hk13.below (B := w.heap.size) HB12.out.size (fun k h => by rw [h]; exact HS11.out)))
    clear h13 hk13 hg13
    have hee : ((3 : Int) == 3 && (m : Int) == (m : Int)) = true := by simp
    go_wp2_with fail
    have HDR13 : Hid (Below w13.heap.size w13 w13.drew) := Lib.hid (((Kp.refl (fun _ => False) w13).drew).below (Nat.le_refl _) (fun _ h => h.elim))
    go_region_held3 (fun _ => True) (first | exact trivial) (first
      | (go_at_call 20; refine (dec_fail (w := w13.drew) (HG13.out.below HDR13.out)).mono ?_; rintro e w14 ⟨rfl, hb14⟩; have HB14 := Lib.hid (HDR13.out.trans hb14); clear hb14)
      | (go_at_call 20; refine (dec_fail (w := w14) (HD13.out.below HB14.out)).mono ?_; rintro e w15 ⟨rfl, hb15⟩; have HB15 := Lib.hid hb15; clear hb15))
    go_wp2_with fail
    go_ret
    have b14 := HB13.out.trans (HB14.out.mono HB13.out.size)
    exact ⟨rfl, b14.trans (HB15.out.mono b14.size)⟩
theorem extends_all {w : World} (t u : ByteArray) :
    Calls Try.prog 7 #[.string t, .string u] w fun en w' => en = .returned (.bool true) ∧ Below w.heap.size w w' := by
  cases hg : (decide (400 < (t.size : Int)) || (decide (200 < 0) || decide (200 < 0)))
  · rcases Int.lt_or_le 100 (u.size : Int) with hu | hu
    · exact extends_more t u w hg hu
    · exact extends_walk t u hg hu
  · exact extends_great t u w hg
end Go.Proofs.Ytcfpbihkodjlkaa
