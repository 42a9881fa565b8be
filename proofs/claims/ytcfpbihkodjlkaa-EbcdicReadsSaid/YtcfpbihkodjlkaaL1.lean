/- Ebcdic: the law Reads, walked. -/
import Derived.Test.YtcfpbihkodjlkaaLc
namespace Go.Proofs.Ytcfpbihkodjlkaa
open Go.RowKit Go.Proofs.YtcfpbihkodjlkaaW.PrintWords Go.Proofs.YtcfpbihkodjlkaaW.PrintMore
open M (bytesOf_range getD_bt bytes_mid)
open M (isB isB_range is_any)
set_option linter.unusedVariables false
set_option linter.unusedSimpArgs false
set_option maxRecDepth 20000
theorem reads_great (t : ByteArray) (A1 A2 : Option Addr) (n1 c1 n2 c2 : Nat) (w : World) (hg : (decide (400 < (t.size : Int)) || (decide (200 < n1) || decide (200 < n2))) = true) :
    Calls Try.prog 4 #[.string t, .slice A1 n1 c1, .slice A2 n2 c2] w fun en w' => en = .returned (.bool true) ∧ Below w.heap.size w w' := by
  go_enter Try.func4, Try.ntmps4
  go_wp2_with fail
  refine (awake_any _).mono ?_
  rintro en w2 ⟨rfl, hb2⟩
  have HB2 := Lib.hid hb2
  clear hb2
  go_wp2_with fail
  refine (great_any _ _ _ _ _ _ _ _).mono ?_
  rw [hg]
  rintro en w3 ⟨rfl, rfl⟩
  go_wp2_with fail
  refine (awake_any _).mono ?_
  rintro en w4 ⟨rfl, hb4⟩
  have HB4 := Lib.hid (HB2.out.trans (hb4.mono HB2.out.size))
  clear hb4
  go_wp2_with fail
  go_ret
  exact ⟨rfl, HB4.out⟩
theorem reads_walk (t : ByteArray) (A1 A2 : Option Addr) (n1 c1 n2 c2 : Nat) (ps rs : List Int) (w : World) (hp : ReadsInt w .i64 A1 n1 ps) (hr : ReadsInt w .i64 A2 n2 rs)
    (hg : (decide (400 < (t.size : Int)) || (decide (200 < n1) || decide (200 < n2))) = false) :
    Calls Try.prog 4 #[.string t, .slice A1 n1 c1, .slice A2 n2 c2] w fun en w' => en = .returned (.bool true) ∧ Below w.heap.size w w' := by
  have heq := eqF
  obtain ⟨hz0, hz1, hz2⟩ : t.size ≤ 400 ∧ n1 ≤ 200 ∧ n2 ≤ 200 := by simp at hg; omega
  have HP := Lib.hid hp
  have HR := Lib.hid hr
  have HPL := Lib.hid (reads_lt hp)
  have HRL := Lib.hid (reads_lt hr)
  clear hp hr
  go_enter Try.func4, Try.ntmps4
  go_wp2_with fail
  refine (awake_any _).mono ?_
  rintro en w2 ⟨rfl, hb2⟩
  have HB2 := Lib.hid hb2
  clear hb2
  go_wp2_with fail
  refine (great_any _ _ _ _ _ _ _ _).mono ?_
  rw [hg]
  rintro en w3 ⟨rfl, rfl⟩
  go_wp2_with fail
  refine (newd_any _).mono ?_
  rintro en w3 ⟨g, tb3, rfl, hl3, hx3, ht3, hd3, hb3⟩
  have HS2 : Hid (w.heap.size ≤ g) := Lib.hid (by have := HB2.out.size; omega)
  have HB3 := Lib.hid (HB2.out.trans (hb3.mono HB2.out.size))
  have HD3 := Lib.hid hd3
  have HTa3 := Lib.hid ht3
  have HTn3 : Hid (tb3 ≠ g) := Lib.hid (Nat.ne_of_lt hx3)
  have HLt3 : Hid (w2.heap.size < g) := Lib.hid (by omega)
  clear hd3 hb3 ht3 hl3 hx3
  go_wp2_with fail
  refine (read_any t A1 A2 n1 c1 n2 c2 ps rs (st0 tb3) cok0 (by omega) (by omega) (by omega) (HP.out.below HB3.out) (HR.out.below HB3.out) (fun ad h h0 => by have := HPL.out ad h h0; have := HS2.out; omega) (fun ad h h0 => by have := HRL.out ad h h0; have := HS2.out; omega) HTa3.out HTn3.out HD3.out).mono ?_
  rintro en w4 ⟨m, os, r, s, rfl, hm, hrun, ho, hkp, hol, hcs, hend⟩
  have HGL := Lib.hid HD3.out.lt
  obtain ⟨e, f, d, s', hd4, hef, hcase, hnone⟩ : ∃ (e f : Int) (d : Bool) (s' : CS), Dec w4 g 54 m e f d nilv [] (cown s') ∧ e = (if m < t.size then 3 else if ccut s = true then 4 else 0) ∧ f = (if e = 0 then 0 else (m : Int)) ∧ (m = t.size ∨ (m < t.size ∧ cnx s (bt t m) = none)) := by
    rcases hend with ⟨h0, h1, h2⟩ | ⟨h0, h1, h2⟩ | ⟨h0, h1, s', h2⟩
    · exact ⟨_, _, _, _, h2, by rw [if_neg (by omega), if_neg (by rw [h1]; decide)], rfl, .inl h0⟩
    · exact ⟨_, _, _, _, h2, by rw [if_neg (by omega), if_pos h1], rfl, .inl h0⟩
    · exact ⟨_, _, _, _, h2, by rw [if_pos h0], rfl, .inr ⟨h0, h1⟩⟩
  have HO4 := Lib.hid ho
  obtain ⟨A4, c4, rfl, hle4, _⟩ := own_reads_of_le (enc := fun x => Value.int .u32 x) (d := (0 : Int)) ho
  have HLE4 := Lib.hid hle4
  have HK4 := Lib.hid hkp
  have HD4 := Lib.hid hd4
  have HN := Lib.hid hnone
  have HRUN := Lib.hid hrun
  have HOL := Lib.hid hol
  have HM := Lib.hid hm
  have HCE := Lib.hid hef
  have HEF := Lib.hid hcase
  clear ho hle4 hkp hd4 hnone hrun hend hol hcs hef hcase
  go_wp2_with fail
  refine (refread_any t (by omega) m s os HM.out HRUN.out HN.out _).mono ?_
  rintro en w5 ⟨v5, rfl, ho5, hb5⟩
  obtain ⟨A5, c5, rfl, hle5, _⟩ := own_reads_of_le (enc := fun x => Value.int .u32 x) (d := (0 : Int)) ho5
  rw [← HCE.out]
  have HLE5 := Lib.hid hle5
  have HO5 := Lib.hid ho5
  have HO45 := Lib.hid ((Kp.of_below (F := fun _ => False) hb5).own HO4.out (fun _ _ h => h))
  have HD5 := Lib.hid (HD4.out.below hb5)
  have HB5 := Lib.hid hb5
  clear hle5 ho5 hb5
  go_wp2_with fail
  refine (same_any (own_reads' HO45.out) (own_reads' HO5.out) HLE4.out HLE5.out (by have := HOL.out; have := HM.out; omega)).mono ?_
  rintro en w6 ⟨rfl, n6, rfl⟩
  rw [decide_eq_true rfl]
  have hk6 : Kp (fun k => k = w5.heap.size) w5 (w5.drewN n6) := (Kp.refl _ _).drewN _
  generalize w5.drewN n6 = w6 at *
  have HD6 := Lib.hid (HD5.out.by_ hk6 (by have := HD5.out.lt; omega))
  have HB6 := Lib.hid (hk6.below (Nat.le_refl _) (fun k h => Nat.le_of_eq h.symm))
  clear hk6
  go_wp2_with fail
  refine (dec_fail HD6.out).mono ?_
  rintro en w7 ⟨rfl, hb7⟩
  have HD7 := Lib.hid (HD6.out.below hb7)
  have HB7 := Lib.hid hb7
  clear hb7
  go_wp2_with fail
  refine (failed_any _ _ _).mono ?_
  rintro en w8 ⟨rfl, hb8⟩
  rw [← HEF.out]
  have HD8 := Lib.hid (HD7.out.below hb8)
  have HB8 := Lib.hid hb8
  clear hb8
  have hee : (e == e && f == f) = true := by simp
  go_wp2_with fail
  refine (dec_at HD8.out).mono ?_
  rintro en w9 ⟨rfl, rfl⟩
  go_wp2_with fail
  go_ret
  refine ⟨rfl, ?_⟩
  have z2 := HS2.out
  have b4 := HK4.out.below (B := w.heap.size) (by have := HGL.out; omega) (fun k hk => by omega)
  have b34 := HB3.out.trans b4
  have b5 := b34.trans (HB5.out.mono b34.size)
  have b6 := b5.trans (HB6.out.mono b5.size)
  have b7 := b6.trans (HB7.out.mono b6.size)
  exact b7.trans (HB8.out.mono b7.size)
theorem reads_all {w : World} (t : ByteArray) (A1 : Option Addr) (n1 c1 : Nat) (ps : List Int) (hc1 : n1 ≤ c1) (hp : ReadsInt w .i64 A1 n1 ps) (_ : ∀ z ∈ ps, (Lit.int .i64 z).wf = true) (A2 : Option Addr) (n2 c2 : Nat) (rs : List Int) (hc2 : n2 ≤ c2) (hr : ReadsInt w .i64 A2 n2 rs) (_ : ∀ z ∈ rs, (Lit.int .i64 z).wf = true) :
    Calls Try.prog 4 #[.string t, .slice A1 n1 c1, .slice A2 n2 c2] w fun en w' => en = .returned (.bool true) ∧ Below w.heap.size w w' := by
  cases hg : (decide (400 < (t.size : Int)) || (decide (200 < n1) || decide (200 < n2)))
  · exact reads_walk t A1 A2 n1 c1 n2 c2 ps rs w hp hr hg
  · exact reads_great t A1 A2 n1 c1 n2 c2 w hg
end Go.Proofs.Ytcfpbihkodjlkaa
