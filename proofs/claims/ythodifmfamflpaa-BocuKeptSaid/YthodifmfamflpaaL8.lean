/- The law Kept, plain and walked. -/
import Derived.Test.YthodifmfamflpaaL3
namespace Go.Proofs.Ythodifmfamflpaa
open Go.RowKit Go.Proofs.YthodifmfamflpaaW.PrintWords Go.Proofs.YthodifmfamflpaaW.PrintMore
set_option linter.unusedVariables false
set_option linter.unusedSimpArgs false
set_option maxRecDepth 20000
theorem first_ex (ls : List Int) : ∃ m, m ≤ ls.length ∧ (∀ c ∈ ls.take m, isB c = true) ∧ (m = ls.length ∨ isB (ls.getD m 0) = false) := by
  induction ls with
  | nil => exact ⟨0, Nat.le_refl _, by simp, .inl rfl⟩
  | cons c l ih =>
    obtain ⟨m, h1, h2, h3⟩ := ih
    cases hb : isB c with
    | false => exact ⟨0, Nat.zero_le _, by simp, .inr (by simpa using hb)⟩
    | true =>
      refine ⟨m + 1, by simpa using h1, ?_, ?_⟩
      · intro d hd
        rw [List.take_succ_cons] at hd
        rcases List.mem_cons.1 hd with rfl | h9
        · exact hb
        · exact h2 d h9
      · rcases h3 with h3 | h3
        · exact .inl (by simp [h3])
        · exact .inr (by simpa using h3)
/-- All is read, where all denotes something. -/
theorem read_whole {w w' : World} {g T : Nat} {t : ByteArray} {s0 s : CS} {os : List Int} {en : Ending} (h : ReadPost w g T t s0 en w') (hr : run cnx s0 (bytesOf t) = some (s, os)) (hc : ccut s = false) :
    ∃ r, en = .returned (.tuple #[r, .bool true]) ∧ w'.ownsRow w.heap.size 34 1 r os.length (nums .u32 os) ∧ Kp (fun k => k = g) w w' ∧ os.length ≤ t.size ∧ Dec w' g T t.size 0 0 true nilv [] (cown s) := by
  obtain ⟨m, os2, r, s2, rfl, hm, hrun, ho, hkp, hol, hcs, hend⟩ := h
  have hl := bytesOf_length t
  have hw : m = t.size → s2 = s ∧ os2 = os := by
    intro h0
    rw [h0, List.take_of_length_le (by omega), hr] at hrun
    simp only [Option.some.injEq, Prod.mk.injEq] at hrun
    exact ⟨hrun.1.symm, hrun.2.symm⟩
  rcases hend with ⟨h0, h1, h2⟩ | ⟨h0, h1, h2⟩ | ⟨h0, h1, s', h2⟩
  · obtain ⟨rfl, rfl⟩ := hw h0
    rw [h0] at h2 hol
    exact ⟨r, rfl, ho, hkp, hol, h2⟩
  · obtain ⟨rfl, rfl⟩ := hw h0
    rw [hc] at h1
    cases h1
  · have h3 : run cnx s0 ((bytesOf t).take (m + 1)) = none := by
      rw [take_bt t m h0, run_snoc, hrun, Option.bind_some, h1]; rfl
    have h4 := run_none (m := t.size) (by omega) h3
    rw [List.take_of_length_le (by omega), hr] at h4
    cases h4
/-- Is it one of the bytes that stand for nothing but themselves? -/
def keptF (b : Int) : Bool := decide (b ≤ 32) && decide (D.worthF b < 0)
theorem kept_at (k : Nat) (b : Int) (h0 : 0 ≤ b) (h1 : b ≤ 255) : PBocuExtends.pilcrowref11_Kept.f (k + 256) b = some (keptF b) := by
  rw [PBocuExtends.pilcrowref11_Kept.f]
  unfold keptF
  by_cases h : b ≤ 32
  · rw [if_pos h, D.worth_at k b h0 h1, decide_eq_true h]; rfl
  · rw [if_neg h, decide_eq_false h]; rfl
theorem iskept_any (b : Int) (h0 : 0 ≤ b) (h1 : b ≤ 255) (w : World) : Calls Try.prog 17 #[.int .u8 b] w fun en w' => en = .returned (.bool (keptF b)) ∧ Below w.heap.size w w' :=
  PBocuExtends.pilcrowref11_Kept.calls 256 b _ w (kept_at 0 b h0 h1)
theorem count_loop (ls : List Int) (hz : ls.length ≤ 1000000) (c : Int) (d : Nat) : ∀ (i k n : Nat), ls.length - i = d → i ≤ ls.length → d + 1 ≤ k → n ≤ i → PBocuExtends.pilcrowref12_Count.l0 k ls c (n : Int) (i : Int) = some (((n + (ls.drop i).count c : Nat)) : Int) := by
  induction d with
  | zero =>
    intro i k n hd hi hk hn
    obtain ⟨k, rfl⟩ : ∃ q, k = q + 1 := ⟨k - 1, by omega⟩
    rw [PBocuExtends.pilcrowref12_Count.l0, if_neg (by omega), List.drop_eq_nil_of_le (by omega)]
    simp
  | succ d ih =>
    intro i k n hd hi hk hn
    obtain ⟨k, rfl⟩ : ∃ q, k = q + 1 := ⟨k - 1, by omega⟩
    have hdr : ls.drop i = ls.getD i 0 :: ls.drop (i + 1) := by
      rw [List.drop_eq_getElem_cons (by omega), List.getD_eq_getElem?_getD, List.getElem?_eq_getElem (by omega)]; rfl
    rw [PBocuExtends.pilcrowref12_Count.l0, if_pos (by omega), if_pos (by omega), rd_nat, hdr, List.count_cons]
    by_cases h : ls.getD i 0 = c
    · rw [if_pos h, wrap64_nat' i (by omega), wrap64_nat' n (by omega), ih (i + 1) k (n + 1) (by omega) (by omega) (by omega) (by omega), h]
      simp
      omega
    · rw [if_neg h, wrap64_nat' i (by omega), ih (i + 1) k n (by omega) (by omega) (by omega) (by omega), if_neg (by simpa using h)]
      simp
theorem count_any {w : World} {A0 : Option Addr} {n0 c0 : Nat} {ls : List Int} (h0 : ReadsInt w .u32 A0 n0 ls) (hc0 : n0 ≤ c0) (hz : n0 ≤ 1000000) (c : Int) :
    Calls Try.prog 18 #[.slice A0 n0 c0, .int .u32 c] w fun en w' => en = .returned (.int .i64 (ls.count c : Nat)) ∧ ∃ n, w' = w.drewN n := by
  obtain rfl : ls.length = n0 := h0.1
  have h := count_loop ls hz c ls.length 0 (ls.length + 1) 0 rfl (Nat.zero_le _) (by omega) (Nat.le_refl _)
  rw [List.drop_zero, Nat.zero_add] at h
  exact (PBocuExtends.pilcrowref12_Count.calls _ A0 c0 ls c _ w (Kd.C_of_reads (d := 0) h0) hc0 h).mono fun e w' ⟨he, hd⟩ => ⟨he, hd.out⟩
theorem eby_count {s : ES} (hs : eok s) {c b : Int} (h0 : 0 ≤ c) (hc : isB c = true) (hb0 : 0 ≤ b) (hb : keptF b = true) : (eby s c).1.count b = if c = b then 1 else 0 := by
  have rc := isB_range hc
  have hpv := hs
  unfold eok at hpv
  unfold keptF at hb
  simp only [Bool.and_eq_true, decide_eq_true_eq] at hb
  unfold eby
  by_cases h : c ≤ 32
  · rw [if_pos h]
    by_cases e : c = b
    · subst e; simp
    · rw [if_neg e]; simp [e]
  · rw [if_neg h, if_neg (by omega)]
    refine List.count_eq_zero.2 fun h9 => ?_
    rcases D.pack_mem (by omega) (by omega) h9 with h8 | ⟨v, v0, v1, h8⟩
    · omega
    · have h7 := D.tW_wB v0 v1
      rw [← h8] at h7
      have h6 := hb.2
      unfold D.worthF at h6
      rw [h7] at h6
      simp at h6
      omega
theorem erun_count {b : Int} (hb0 : 0 ≤ b) (hb : keptF b = true) : ∀ (l : List Int) {s : ES}, eok s → (∀ c ∈ l, 0 ≤ c ∧ isB c = true) → (erun s l).1.count b = l.count b
  | [], _, _, _ => rfl
  | c :: l, s, hs, h => by
    have hc := h c (by simp)
    simp only [erun]
    rw [List.count_append, eby_count hs hc.1 hc.2 hb0 hb, erun_count hb0 hb l (eby_ok hs hc.1 hc.2) (fun x hx => h x (by simp [hx])), List.count_cons]
    by_cases e : c = b
    · subst e; simp; omega
    · simp [e]
theorem kept_great (A0 : Option Addr) (n0 c0 : Nat) (w : World) (hg : (decide (400 < (n0 : Int)) || (decide (200 < 0) || decide (200 < 0))) = true) :
    Calls Try.prog 4 #[.slice A0 n0 c0] w fun en w' => en = .returned (.bool true) ∧ Below w.heap.size w w' := by
  go_enter Try.func4, Try.ntmps4
  go_wp2_with fail
  refine (awake_any _).mono ?_
  rintro en w2 ⟨rfl, hb2⟩
  have HB2 := Lib.hid hb2
  clear hb2
  go_wp2_with fail
  refine (great_any _ _ _ _ _ _ _ _).mono ?_
  rw [hg]
  rintro en w3 ⟨rfl, rfl⟩
  go_wp2_with fail
  refine (awake_any _).mono ?_
  rintro en w4 ⟨rfl, hb4⟩
  have HB4 := Lib.hid (HB2.out.trans (hb4.mono HB2.out.size))
  clear hb4
  go_wp2_with fail
  go_ret
  exact ⟨rfl, HB4.out⟩
set_option maxHeartbeats 8000000 in
theorem kept_walk {w : World} (A0 : Option Addr) (n0 c0 : Nat) (ls : List Int) (hc0 : n0 ≤ c0) (h0 : ReadsInt w .u32 A0 n0 ls) (hwf : ∀ k, 0 ≤ ls.getD k 0 ∧ ls.getD k 0 ≤ 4294967295)
    (hg : (decide (400 < (n0 : Int)) || (decide (200 < 0) || decide (200 < 0))) = false) :
    Calls Try.prog 4 #[.slice A0 n0 c0] w fun en w' => en = .returned (.bool true) ∧ Below w.heap.size w w' := by
  have hz0 : n0 ≤ 400 := by simp at hg; omega
  obtain ⟨m, hm, hsc, hends⟩ := first_ex ls
  have HM := Lib.hid hm
  have HSC := Lib.hid hsc
  have HEND := Lib.hid hends
  have H0 := Lib.hid h0
  have HWF := Lib.hid hwf
  have H0L := Lib.hid (reads_lt h0)
  clear h0 hwf hm hsc hends
  go_enter Try.func4, Try.ntmps4
  go_wp2_with fail
  refine (awake_any _).mono ?_
  rintro en w2 ⟨rfl, hb2⟩
  have HB2 := Lib.hid hb2
  clear hb2
  go_wp2_with fail
  refine (great_any _ _ _ _ _ _ _ _).mono ?_
  rw [hg]
  rintro en w3 ⟨rfl, rfl⟩
  go_wp2_with fail
  have hf5 := first_any (H0.out.below HB2.out) hc0 (by omega) m HM.out HSC.out HEND.out
  rcases Nat.lt_or_ge m ls.length with h1 | h1
  · rw [if_pos h1] at hf5
    refine hf5.mono ?_
    rintro en w5 ⟨rfl, n5, rfl⟩
    have HB5 := Lib.hid (HB2.out.trans (((Kp.refl (fun _ => False) w2).drewN n5).below (B := w.heap.size) HB2.out.size (fun _ h => h.elim)))
    generalize w2.drewN n5 = w5 at *
    clear hf5 h1
    go_wp2_with fail
    refine (awake_any _).mono ?_
    rintro en w4 ⟨rfl, hb4⟩
    have HB4 := Lib.hid (HB5.out.trans (hb4.mono HB5.out.size))
    clear hb4
    go_wp2_with fail
    go_ret
    exact ⟨rfl, HB4.out⟩
  · rw [if_neg (by omega)] at hf5
    refine hf5.mono ?_
    rintro en w5 ⟨rfl, n5, rfl⟩
    have HB5 := Lib.hid (HB2.out.trans (((Kp.refl (fun _ => False) w2).drewN n5).below (B := w.heap.size) HB2.out.size (fun _ h => h.elim)))
    have HALL : Hid (∀ c ∈ ls, 0 ≤ c ∧ isB c = true) := Lib.hid (fun c hc => ⟨by obtain ⟨k, hk, rfl⟩ := List.mem_iff_getElem.1 hc; have := HWF.out k; rw [List.getD_eq_getElem?_getD, List.getElem?_eq_getElem hk] at this; exact this.1, HSC.out c (by rw [List.take_of_length_le h1]; exact hc)⟩)
    generalize w2.drewN n5 = w5 at *
    clear hf5 h1
    go_wp2_with fail
    refine (newe_any _).mono ?_
    rintro en w6 ⟨rfl, he6, hb6⟩
    have HS5 := Lib.hid HB5.out.size
    generalize hg5 : w5.heap.size = g at *
    have HB6 := Lib.hid (HB5.out.trans (hb6.mono HS5.out))
    have HE6 := Lib.hid he6
    clear he6 hb6 hg5
    go_wp2_with fail
    refine (write_any A0 n0 c0 ls none none 0 0 0 0 [] [] es0 eok0 (by omega) hc0 (by omega) (by omega) (H0.out.below HB6.out) HWF.out (reads_nil _ _) (reads_nil _ _) (fun ad h h0 => by have := H0L.out ad h h0; have := HS5.out; omega) none_ne none_ne ⟨#[]⟩ rfl HE6.out).mono ?_
    rintro en w7 h7
    obtain ⟨x, y, rfl, hx, hk7, _⟩ := write_whole h7 HALL.out
    rw [erun_txt _ HALL.out] at hx
    have hxs : x.size ≤ 100000 := by
      have h8 := bytesOf_length x
      have h9 := txt_len ls HALL.out
      rw [hx] at h8
      rw [H0.out.1] at h9
      omega
    have HX := Lib.hid hx
    have HXS := Lib.hid hxs
    have HB7 := Lib.hid (HB6.out.trans (hk7.below (B := w.heap.size) HB6.out.size (fun k hk => by rw [hk]; exact HS5.out)))
    clear h7 hx hk7 hxs
    have hsz : n0 ≤ x.size ∧ x.size ≤ 4 * n0 := by
      have h8 := bytesOf_length x
      obtain ⟨_, g1, g2⟩ := erun_bytes ls eok0 HALL.out
      have g3 : ls.length ≤ (txt ls).length := g1
      have g4 : (txt ls).length ≤ 4 * ls.length := g2
      rw [HX.out] at h8
      have g5 := H0.out.1
      omega
    have HSZ := Lib.hid hsz
    have hxz := HXS.out
    clear hsz
    go_wp2_with fail
    go_loopw [27] (fun n wr => ∃ b : Nat, n = .int .i64 b ∧ b ≤ 33 ∧ Below w.heap.size w wr) (fun n _ => 33 - (intOf n).toNat)
    case atStart => exact ⟨0, rfl, by omega, HB7.out⟩
    case round =>
      obtain ⟨b, rfl, hb33, hbw⟩ := hrel
      have HBW := Lib.hid hbw
      clear hbw
      by_cases hlt : b < 33
      · have hd1 : decide ((b : Int) < 33) = true := by simp; omega
        have hw8 : IntKind.u8.wrap (b : Int) = b := wrap8 (by omega) (by omega)
        have hw32 : IntKind.u32.wrap (b : Int) = b := wrap_u32 (by omega) (by omega)
        go_wp2_with fail
        refine (iskept_any (b : Int) (by omega) (by omega) _).mono ?_
        rintro en w9 ⟨rfl, hb9⟩
        have HB9 := Lib.hid (HBW.out.trans (hb9.mono HBW.out.size))
        clear hb9
        cases hk : keptF (b : Int) with
        | false =>
          clear hk
          go_wp2_with fail
          go_roundw
          case rel => exact ⟨b + 1, rfl, by omega, HB9.out⟩
          case measure => simp [intOf]; omega
        | true =>
          have HK := Lib.hid hk
          clear hk
          go_wp2_with fail
          go_loopw [6, 7] (fun n i wr => ∃ j : Nat, i = .int .i64 j ∧ n = .int .i64 (((bytesOf x).take j).count (b : Int) : Nat) ∧ j ≤ x.size ∧ Below w.heap.size w wr) (fun _ i _ => x.size - (intOf i).toNat)
          case atStart => exact ⟨0, rfl, rfl, Nat.zero_le _, HB9.out⟩
          case round =>
            obtain ⟨j, rfl, rfl, hj, hbi⟩ := hrel
            have HBI := Lib.hid hbi
            clear hbi
            have hcl : ((bytesOf x).take j).count (b : Int) ≤ j := by
              have := @List.count_le_length _ _ (b : Int) ((bytesOf x).take j)
              rw [List.length_take] at this
              omega
            by_cases hjl : j < x.size
            · have he : ((x[j]'hjl).toNat : Int) = bt x j := bt_at x j hjl
              have htk : ((bytesOf x).take (j + 1)).count (b : Int) = ((bytesOf x).take j).count (b : Int) + if bt x j = b then 1 else 0 := by
                rw [take_bt x j hjl, List.count_append]
                by_cases h9 : bt x j = b
                · rw [if_pos h9, h9]; simp
                · rw [if_neg h9]; simp [h9]
              have HTK := Lib.hid htk
              clear htk
              by_cases hbb : bt x j = b
              · have hq : (((x[j]'hjl).toNat : Int) == (b : Int)) = true := by rw [he, hbb]; simp
                have HBB := Lib.hid hbb
                clear hbb he
                go_wp2_with fail
                go_roundw
                case rel => exact ⟨j + 1, rfl, by rw [HTK.out, if_pos HBB.out]; rfl, by omega, HBI.out⟩
                case measure => simp [intOf]; omega
              · have hq : (((x[j]'hjl).toNat : Int) == (b : Int)) = false := by rw [he]; simp [hbb]
                have HBB : Hid (¬ bt x j = b) := hbb
                clear hbb he
                go_wp2_with fail
                go_roundw
                case rel => exact ⟨j + 1, rfl, by rw [HTK.out, if_neg HBB.out]; rfl, by omega, HBI.out⟩
                case measure => simp [intOf]; omega
            · have hall : ((bytesOf x).take j).count (b : Int) = ls.count (b : Int) := by
                rw [List.take_of_length_le (by rw [bytesOf_length]; omega), HX.out]
                exact erun_count (by omega) HK.out ls eok0 HALL.out
              rw [hall]
              clear hall hcl
              go_wp2_with fail
              refine (count_any (H0.out.below HBI.out) hc0 (by omega) (b : Int)).mono ?_
              rintro en w10 ⟨rfl, n10, rfl⟩
              have HB10 := Lib.hid (HBI.out.trans (((Kp.refl (fun _ => False) wr).drewN n10).below (B := w.heap.size) HBI.out.size (fun _ h => h.elim)))
              generalize wr.drewN n10 = w10 at *
              have hneq : (((ls.count (b : Int) : Nat) : Int) != ((ls.count (b : Int) : Nat) : Int)) = false := by simp
              go_wp2_with fail
              go_roundw
              case rel => exact ⟨b + 1, rfl, by omega, HB10.out⟩
              case measure => simp [intOf]; omega
      · have hd1 : decide ((b : Int) < 33) = false := by simp; omega
        have hsz := HSZ.out
        have hd2 : decide ((n0 : Int) ≤ (x.size : Int)) = true := by simp; omega
        have hd3 : decide ((x.size : Int) ≤ 4 * (n0 : Int)) = true := by simp; omega
        go_wp2_with fail
        go_ret
        exact ⟨rfl, HBW.out⟩
theorem kept_all {w : World} (A0 : Option Addr) (n0 c0 : Nat) (ls : List Int) (hc0 : n0 ≤ c0) (h0 : ReadsInt w .u32 A0 n0 ls) (hz : ∀ z ∈ ls, (Lit.int .u32 z).wf = true) :
    Calls Try.prog 4 #[.slice A0 n0 c0] w fun en w' => en = .returned (.bool true) ∧ Below w.heap.size w w' := by
  cases hg : (decide (400 < (n0 : Int)) || (decide (200 < 0) || decide (200 < 0)))
  · exact kept_walk A0 n0 c0 ls hc0 h0 (fun k => by rw [List.getD_eq_getElem?_getD]; exact range_u32 hz k) hg
  · exact kept_great A0 n0 c0 w hg
end Go.Proofs.Ythodifmfamflpaa
