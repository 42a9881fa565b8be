/- Ebcdic: the law Back, walked. -/
import Derived.Test.YtcfpbihkodjlkaaL3
namespace Go.Proofs.Ytcfpbihkodjlkaa
open Go.RowKit Go.Proofs.YtcfpbihkodjlkaaW.PrintWords Go.Proofs.YtcfpbihkodjlkaaW.PrintMore
open M (bytesOf_range getD_bt bytes_mid)
open M (isB isB_range is_any)
set_option linter.unusedVariables false
set_option linter.unusedSimpArgs false
set_option maxRecDepth 20000
theorem first_ex (ls : List Int) : ∃ m, m ≤ ls.length ∧ (∀ c ∈ ls.take m, isB c = true) ∧ (m = ls.length ∨ isB (ls.getD m 0) = false) := by
  induction ls with
  | nil => exact ⟨0, Nat.le_refl _, by simp, .inl rfl⟩
  | cons c l ih =>
    obtain ⟨m, h1, h2, h3⟩ := ih
    cases hb : isB c with
    | false => exact ⟨0, Nat.zero_le _, by simp, .inr (by simpa using hb)⟩
    | true =>
      refine ⟨m + 1, by simpa using h1, ?_, ?_⟩
      · intro d hd
        rw [List.take_succ_cons] at hd
        rcases List.mem_cons.1 hd with rfl | h9
        · exact hb
        · exact h2 d h9
      · rcases h3 with h3 | h3
        · exact .inl (by simp [h3])
        · exact .inr (by simpa using h3)
/-- All is read, where all denotes something. -/
theorem read_whole {w w' : World} {g T : Nat} {t : ByteArray} {s0 s : CS} {os : List Int} {en : Ending} (h : ReadPost w g T t s0 en w') (hr : run cnx s0 (bytesOf t) = some (s, os)) (hc : ccut s = false) :
    ∃ r, en = .returned (.tuple #[r, .bool true]) ∧ w'.ownsRow w.heap.size 22 1 r os.length (nums .u32 os) ∧ Kp (fun k => k = g) w w' ∧ os.length ≤ t.size ∧ Dec w' g T t.size 0 0 true nilv [] (cown s) := by
  obtain ⟨m, os2, r, s2, rfl, hm, hrun, ho, hkp, hol, hcs, hend⟩ := h
  have hl := bytesOf_length t
  have hw : m = t.size → s2 = s ∧ os2 = os := by
    intro h0
    rw [h0, List.take_of_length_le (by omega), hr] at hrun
    simp only [Option.some.injEq, Prod.mk.injEq] at hrun
    exact ⟨hrun.1.symm, hrun.2.symm⟩
  rcases hend with ⟨h0, h1, h2⟩ | ⟨h0, h1, h2⟩ | ⟨h0, h1, s', h2⟩
  · obtain ⟨rfl, rfl⟩ := hw h0
    rw [h0] at h2 hol
    exact ⟨r, rfl, ho, hkp, hol, h2⟩
  · obtain ⟨rfl, rfl⟩ := hw h0
    rw [hc] at h1
    cases h1
  · have h3 : run cnx s0 ((bytesOf t).take (m + 1)) = none := by
      rw [take_bt t m h0, run_snoc, hrun, Option.bind_some, h1]; rfl
    have h4 := run_none (m := t.size) (by omega) h3
    rw [List.take_of_length_le (by omega), hr] at h4
    cases h4
theorem back_great (A0 : Option Addr) (n0 c0 : Nat) (A1 A2 : Option Addr) (n1 c1 n2 c2 : Nat) (w : World) (hg : (decide (400 < (n0 : Int)) || (decide (200 < n1) || decide (200 < n2))) = true) :
    Calls Try.prog 8 #[.slice A0 n0 c0, .slice A1 n1 c1, .slice A2 n2 c2] w fun en w' => en = .returned (.bool true) ∧ Below w.heap.size w w' := by
  go_enter Try.func8, Try.ntmps8
  go_wp2_with fail
  refine (awake_any _).mono ?_
  rintro en w2 ⟨rfl, hb2⟩
  have HB2 := Lib.hid hb2
  clear hb2
  go_wp2_with fail
  refine (great_any _ _ _ _ _ _ _ _).mono ?_
  rw [hg]
  rintro en w3 ⟨rfl, rfl⟩
  go_wp2_with fail
  refine (awake_any _).mono ?_
  rintro en w4 ⟨rfl, hb4⟩
  have HB4 := Lib.hid (HB2.out.trans (hb4.mono HB2.out.size))
  clear hb4
  go_wp2_with fail
  go_ret
  exact ⟨rfl, HB4.out⟩
set_option maxHeartbeats 8000000 in
theorem back_walk {w : World} (A0 : Option Addr) (n0 c0 : Nat) (ls : List Int) (hc0 : n0 ≤ c0) (h0 : ReadsInt w .u32 A0 n0 ls) (hwf : ∀ k, 0 ≤ ls.getD k 0 ∧ ls.getD k 0 ≤ 4294967295) (A1 A2 : Option Addr) (n1 c1 n2 c2 : Nat) (ps rs : List Int) (hp : ReadsInt w .i64 A1 n1 ps) (hr : ReadsInt w .i64 A2 n2 rs)
    (hg : (decide (400 < (n0 : Int)) || (decide (200 < n1) || decide (200 < n2))) = false) :
    Calls Try.prog 8 #[.slice A0 n0 c0, .slice A1 n1 c1, .slice A2 n2 c2] w fun en w' => en = .returned (.bool true) ∧ Below w.heap.size w w' := by
  have heq := eqF
  obtain ⟨hz0, hz1, hz2⟩ : n0 ≤ 400 ∧ n1 ≤ 200 ∧ n2 ≤ 200 := by simp at hg; omega
  obtain ⟨m, hm, hsc, hends⟩ := first_ex ls
  have HM := Lib.hid hm
  have HSC := Lib.hid hsc
  have HEND := Lib.hid hends
  have H0 := Lib.hid h0
  have HWF := Lib.hid hwf
  have HP := Lib.hid hp
  have HR := Lib.hid hr
  have H0L := Lib.hid (reads_lt h0)
  have HPL := Lib.hid (reads_lt hp)
  have HRL := Lib.hid (reads_lt hr)
  clear hp hr h0 hwf hm hsc hends
  go_enter Try.func8, Try.ntmps8
  go_wp2_with fail
  refine (awake_any _).mono ?_
  rintro en w2 ⟨rfl, hb2⟩
  have HB2 := Lib.hid hb2
  clear hb2
  go_wp2_with fail
  refine (great_any _ _ _ _ _ _ _ _).mono ?_
  rw [hg]
  rintro en w3 ⟨rfl, rfl⟩
  go_wp2_with fail
  have hf5 := first_any (H0.out.below HB2.out) hc0 (by omega) m HM.out HSC.out HEND.out
  rcases Nat.lt_or_ge m ls.length with h1 | h1
  · rw [if_pos h1] at hf5
    refine hf5.mono ?_
    rintro en w5 ⟨rfl, n5, rfl⟩
    have HB5 := Lib.hid (HB2.out.trans (((Kp.refl (fun _ => False) w2).drewN n5).below (B := w.heap.size) HB2.out.size (fun _ h => h.elim)))
    generalize w2.drewN n5 = w5 at *
    clear hf5 h1
    go_wp2_with fail
    refine (awake_any _).mono ?_
    rintro en w4 ⟨rfl, hb4⟩
    have HB4 := Lib.hid (HB5.out.trans (hb4.mono HB5.out.size))
    clear hb4
    go_wp2_with fail
    go_ret
    exact ⟨rfl, HB4.out⟩
  · rw [if_neg (by omega)] at hf5
    refine hf5.mono ?_
    rintro en w5 ⟨rfl, n5, rfl⟩
    have HB5 := Lib.hid (HB2.out.trans (((Kp.refl (fun _ => False) w2).drewN n5).below (B := w.heap.size) HB2.out.size (fun _ h => h.elim)))
    have HALL : Hid (∀ c ∈ ls, 0 ≤ c ∧ isB c = true) := Lib.hid (fun c hc => ⟨by obtain ⟨k, hk, rfl⟩ := List.mem_iff_getElem.1 hc; have := HWF.out k; rw [List.getD_eq_getElem?_getD, List.getElem?_eq_getElem hk] at this; exact this.1, HSC.out c (by rw [List.take_of_length_le h1]; exact hc)⟩)
    generalize w2.drewN n5 = w5 at *
    clear hf5 h1
    go_wp2_with fail
    refine (newe_any _).mono ?_
    rintro en w6 ⟨g, tb6, rfl, hl6, hx6, ht6, he6, hb6⟩
    have HS5 : Hid (w.heap.size ≤ g) := Lib.hid (by have := HB5.out.size; omega)
    have HB6 := Lib.hid (HB5.out.trans (hb6.mono HB5.out.size))
    have HE6 := Lib.hid he6
    have HTa6 := Lib.hid ht6
    have HTn6 : Hid (tb6 ≠ g) := Lib.hid (Nat.ne_of_lt hx6)
    have HLt6 : Hid (w5.heap.size < g) := Lib.hid (by omega)
    clear he6 hb6 ht6 hl6 hx6
    go_wp2_with fail
    refine (write_any A0 n0 c0 ls A1 A2 n1 c1 n2 c2 ps rs (es0 tb6) trivial (by omega) hc0 (by omega) (by omega) (H0.out.below HB6.out) HWF.out (HP.out.below HB6.out) (HR.out.below HB6.out) (fun ad h h0 => by have := H0L.out ad h h0; have := HS5.out; omega) (fun ad h h0 => by have := HPL.out ad h h0; have := HS5.out; omega) (fun ad h h0 => by have := HRL.out ad h h0; have := HS5.out; omega) ⟨#[]⟩ rfl HTa6.out HTn6.out HE6.out).mono ?_
    rintro en w7 h7
    obtain ⟨x, y, rfl, hx, hk7, _⟩ := write_whole h7 HALL.out
    rw [erun_txt _ HALL.out] at hx
    have hxs : x.size ≤ 100000 := by
      have h8 := bytesOf_length x
      have h9 := txt_len ls HALL.out
      rw [hx] at h8
      rw [H0.out.1] at h9
      omega
    have HX := Lib.hid hx
    have HXS := Lib.hid hxs
    have HB7 := Lib.hid (HB6.out.trans (hk7.below (B := w.heap.size) HB6.out.size (fun k hk => by rw [hk]; exact HS5.out)))
    clear h7 hx hk7 hxs
    go_wp2_with fail
    refine (newd_any _).mono ?_
    rintro en w8 ⟨g2, tb8, rfl, hl8, hx8, ht8, hd8, hb8⟩
    have HS7 : Hid (w.heap.size ≤ g2) := Lib.hid (by have := HB7.out.size; omega)
    have HB8 := Lib.hid (HB7.out.trans (hb8.mono HB7.out.size))
    have HD8 := Lib.hid hd8
    have HTa8 := Lib.hid ht8
    have HTn8 : Hid (tb8 ≠ g2) := Lib.hid (Nat.ne_of_lt hx8)
    have HLt8 : Hid (w7.heap.size < g2) := Lib.hid (by omega)
    clear hd8 hb8 ht8 hl8 hx8
    go_wp2_with fail
    refine (read_any x A2 A1 n2 c2 n1 c1 rs ps (st0 tb8) cok0 HXS.out (by omega) (by omega) (HR.out.below HB8.out) (HP.out.below HB8.out) (fun ad h h0 => by have := HRL.out ad h h0; have := HS7.out; omega) (fun ad h h0 => by have := HPL.out ad h h0; have := HS7.out; omega) HTa8.out HTn8.out HD8.out).mono ?_
    rintro en w9 h9
    obtain ⟨sb, hb1, hb2⟩ := back_law (tb := tb8) ls HALL.out
    obtain ⟨r, rfl, ho9, hk9, _, hd9⟩ := read_whole h9 (by rw [HX.out]; exact hb1) hb2
    clear hb1 hb2
    have HB9 := Lib.hid (HB8.out.trans (hk9.below (B := w.heap.size) HB8.out.size (fun k hk => by rw [hk]; exact HS7.out)))
    obtain ⟨A9, c9, rfl, hle9, _⟩ := own_reads_of_le (enc := fun x => Value.int .u32 x) (d := (0 : Int)) ho9
    have HLE9 := Lib.hid hle9
    have HO9 := Lib.hid (own_reads' ho9)
    have H09 := Lib.hid (H0.out.below HB9.out)
    have HD9 := Lib.hid hd9
    have HLZ : Hid (ls.length ≤ 1000000000) := Lib.hid (by have := H0.out.1; omega)
    clear h9 ho9 hk9 hle9 hd9
    go_wp2_with fail
    refine (same_any HO9.out H09.out HLE9.out hc0 HLZ.out).mono ?_
    rintro en w10 ⟨rfl, n10, rfl⟩
    rw [decide_eq_true rfl]
    have hk10 : Kp (fun k => k = w9.heap.size) w9 (w9.drewN n10) := (Kp.refl _ _).drewN _
    generalize w9.drewN n10 = w10 at *
    have HD10 := Lib.hid (HD9.out.by_ hk10 (Nat.ne_of_lt HD9.out.lt))
    have HB10 := Lib.hid (HB9.out.trans ((hk10.below (Nat.le_refl _) (fun k h => Nat.le_of_eq h.symm)).mono HB9.out.size))
    clear hk10
    go_wp2_with fail
    refine (dec_fail HD10.out).mono ?_
    rintro en w11 ⟨rfl, hb11⟩
    have HD11 := Lib.hid (HD10.out.below hb11)
    have HB11 := Lib.hid (HB10.out.trans (hb11.mono HB10.out.size))
    clear hb11
    go_wp2_with fail
    refine (dec_at HD11.out).mono ?_
    rintro en w12 ⟨rfl, rfl⟩
    go_wp2_with fail
    go_ret
    exact ⟨rfl, HB11.out⟩
theorem back_all {w : World} (A0 : Option Addr) (n0 c0 : Nat) (ls : List Int) (hc0 : n0 ≤ c0) (h0 : ReadsInt w .u32 A0 n0 ls) (hwf : ∀ z ∈ ls, (Lit.int .u32 z).wf = true) (A1 : Option Addr) (n1 c1 : Nat) (ps : List Int) (hc1 : n1 ≤ c1) (hp : ReadsInt w .i64 A1 n1 ps) (_ : ∀ z ∈ ps, (Lit.int .i64 z).wf = true) (A2 : Option Addr) (n2 c2 : Nat) (rs : List Int) (hc2 : n2 ≤ c2) (hr : ReadsInt w .i64 A2 n2 rs) (_ : ∀ z ∈ rs, (Lit.int .i64 z).wf = true) :
    Calls Try.prog 8 #[.slice A0 n0 c0, .slice A1 n1 c1, .slice A2 n2 c2] w fun en w' => en = .returned (.bool true) ∧ Below w.heap.size w w' := by
  have hr32 := fun k => range_u32 hwf k
  cases hg : (decide (400 < (n0 : Int)) || (decide (200 < n1) || decide (200 < n2)))
  · exact back_walk A0 n0 c0 ls hc0 h0 (fun k => by rw [List.getD_eq_getElem?_getD]; exact hr32 k) A1 A2 n1 c1 n2 c2 ps rs hp hr hg
  · exact back_great A0 n0 c0 A1 A2 n1 c1 n2 c2 w hg
end Go.Proofs.Ytcfpbihkodjlkaa
