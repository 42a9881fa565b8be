/- The law StepIn, walked. -/
import Derived.Test.YtfknlgjfhdphjaaSf
namespace Go.Proofs.Ytfknlgjfhdphjaa
open Go.RowKit Go.Proofs.YtfknlgjfhdphjaaW.PrintWords Go.Proofs.YtfknlgjfhdphjaaW.PrintMore
set_option linter.unusedVariables false
set_option linter.unusedSimpArgs false
set_option maxRecDepth 100000 in
set_option maxHeartbeats 8000000 in
theorem in_all (A : Option Addr) (c : Nat) (l : List PStepBase.S35) (hc : l.length ≤ c) {w : World} (h : Ops w A l) (hwide : ∀ o ∈ l, wideO o) : Calls Try.prog 7 #[.slice A l.length c] w fun en w' => en = .returned (.bool true) ∧ Below w.heap.size w w' := by
  have heq := eqF
  have hu35 := Try.underlying35
  have HOP := Lib.hid h
  have HC := Lib.hid hc
  have HWI := Lib.hid hwide
  clear h hc hwide
  go_enter Try.func7, Try.ntmps7
  go_wp2_with fail
  refine (sawake_any w).mono ?_
  rintro en w1 ⟨rfl, hb⟩
  have HB1 := Lib.hid hb
  have HOP1 := Lib.hid (Kd.C_below HOP.out hb)
  clear hb
  go_wp2_with fail
  obtain ⟨r, hr, hcall⟩ := great_any A c l HC.out w1 HOP1.out
  refine hcall.mono ?_
  clear hcall
  rintro en w2 ⟨rfl, hb⟩
  have HB2 := Lib.hid (HB1.out.trans (hb.mono (by have := HB1.out.size; omega)))
  clear hb
  cases r with
  | true =>
    go_wp2_with fail
    refine (sawake_any w2).mono ?_
    rintro en w3 ⟨rfl, hb⟩
    have HB3 := Lib.hid (HB2.out.trans (hb.mono (by have := HB2.out.size; omega)))
    clear hb
    go_wp2_with fail
    go_ret
    exact ⟨rfl, HB3.out⟩
  | false =>
    obtain ⟨hlen, hfine⟩ := hr rfl
    have HFN := Lib.hid hfine
    have HLN := Lib.hid hlen
    have HGB := Lib.hid (show w.heap.size ≤ w2.heap.size from HB2.out.size)
    clear hfine hr hlen
    have h3 := three_new w2 (.cells #[.int .i64 0, .int .i64 0, .int .i64 0, .bool false, .slice none 0 0] 55) (.cells #[.int .i64 0, .int .i64 0, .int .i64 0, .bool false] 29) (.cells #[.slice none 0 0] 47)
    have ht3 : Tri w (((w2.alloc (.cells #[.int .i64 0, .int .i64 0, .int .i64 0, .bool false, .slice none 0 0] 55)).alloc (.cells #[.int .i64 0, .int .i64 0, .int .i64 0, .bool false] 29)).alloc (.cells #[.slice none 0 0] 47)) w2.heap.size ⟨0, 0, 0, false⟩ ⟨0, 0, 0, false⟩ (.slice none 0 0) (.slice none 0 0) [] [] :=
      ⟨⟨h3.1, q_none _ _, by simp [Value.ownBlock]⟩, h3.2.1, ⟨h3.2.2, q_none _ _, by simp [Value.ownBlock]⟩, fun k hk => by simp [Value.ownBlock] at hk, fun k hk => by simp [Value.ownBlock] at hk, below_alloc (below_alloc (below_alloc HB2.out _) _) _, HGB.out⟩
    have HT3 := Lib.hid ht3
    clear h3 ht3
    go_wp2_with fail
    generalize (((w2.alloc (.cells #[.int .i64 0, .int .i64 0, .int .i64 0, .bool false, .slice none 0 0] 55)).alloc (.cells #[.int .i64 0, .int .i64 0, .int .i64 0, .bool false] 29)).alloc (.cells #[.slice none 0 0] 47)) = w3 at *
    generalize hgb : w2.heap.size = gb at *
    go_loopg [17] (l.length + 1) (fun q k wr => ∃ (i : Nat) (s : St) (v v2 : Value) (xs : List Int), q + i = l.length + 1 ∧ i ≤ l.length ∧ k = .int .i64 i ∧ Hid (Tri w wr gb s s v v2 xs xs) ∧ Hid (0 ≤ s.a ∧ s.a ≤ (i : Int) * 1099511627776) ∧ Hid (xs.length ≤ i * 300))
    case atStart => exact ⟨0, ⟨0, 0, 0, false⟩, _, _, [], rfl, Nat.zero_le _, rfl, HT3, Lib.hid (by simp), Lib.hid (by decide)⟩
    case round =>
      clear HT3
      obtain ⟨i, s, v, v2, xs, hq, hle, rfl, HTR, HSA, HXS⟩ := hrel
      have HQ := Lib.hid hq
      clear hq
      by_cases hi : i < l.length
      · have hi2 : (i : Int) < (l.length : Int) := by omega
        have h0i : (0 : Int) ≤ (i : Int) := by omega
        have hd : decide ((i : Int) < (l.length : Int)) = true := decide_eq_true hi2
        obtain ⟨ad, A3, c3, o, ho, rfl, k0', k1', k2', k3', r1', r2'⟩ := ops_at HOP.out i hi
        have k0 := cell_below k0' HTR.out.bel
        have k1 := cell_below k1' HTR.out.bel
        have k2 := cell_below k2' HTR.out.bel
        have k3 := cell_below k3' HTR.out.bel
        clear k0' k1' k2' k3'
        have hfo := HFN.out o (List.mem_of_getElem? ho)
        obtain ⟨k, n, tx, ls⟩ := o
        simp only at k0 k1 k2 k3 r1' r2'
        have HN : Hid (n ≤ 1099511627776) := Lib.hid hfo.2.2
        have HLS : Hid (ls.length ≤ 300) := Lib.hid hfo.2.1
        have HLC := Lib.hid r1'
        have HLR := Lib.hid (reads_of_C r2')
        clear hfo ho r1' r2'
        have HOB : Hid ((wr.alloc (.cells #[.int .i64 k, .int .i64 n, .string tx, .slice A3 ls.length c3] 35)).heap[wr.heap.size]? = some (.cells #[.int .i64 k, .int .i64 n, .string tx, .slice A3 ls.length c3] 35)) := Lib.hid (heap_alloc_new wr _)
        have hnew : Below wr.heap.size wr (wr.alloc (.cells #[.int .i64 k, .int .i64 n, .string tx, .slice A3 ls.length c3] 35)) := (Below.refl _ _).alloc (Nat.le_refl _) _
        have HTO := Lib.hid (HTR.out.below hnew)
        have HG1 := Lib.hid HTR.out.lt
        have HVL := Lib.hid HTR.out.v_lt
        have HVM := Lib.hid HTR.out.v2_lt
        clear hnew
        have HA1 : Hid (s.a ≤ 1000000000000000) := Lib.hid (by have := HSA.out.2; have := HLN.out; omega)
        have HXB : Hid (xs.length ≤ 90000) := Lib.hid (by have := HXS.out; have := HLN.out; omega)
        obtain rfl | hk1 : k = 1 ∨ k ≠ 1 := by omega
        · skip
          go_wp2_with fail
          generalize (wr.alloc (.cells #[.int .i64 1, .int .i64 n, .string tx, .slice A3 ls.length c3] 35)) = wo at *
          clear k0 k1 k2 k3
          generalize hgo : wr.heap.size = go at *
          have HT0 := HTO
          refine (c_eat (s := s) n HN.out HSA.out.1 HA1.out HT0.out.d.bs).mono ?_
          rintro en w4 ⟨rfl, hc9, hk9⟩
          have HT4 := Lib.hid (HT0.out.base1 hc9 hk9)
          have HO4 := Lib.hid (hk9.blk HOB.out (by have := HG1.out; omega))
          clear hc9 hk9
          have o1 : w4.cell? ⟨go, 1, none⟩ = some (.int .i64 n) := (blk_cell HO4.out 1).trans rfl
          go_wp2_with fail
          refine (c_eat n HN.out HSA.out.1 HA1.out HT4.out.b).mono ?_
          rintro en w6 ⟨rfl, hc9, hk9⟩
          have HT5 := Lib.hid (HT4.out.base2 hc9 hk9)
          clear hc9 hk9
          clear HO4 HT4 o1
          obtain ⟨s6, hs6⟩ : ∃ s6, s6 = s.eat n := ⟨_, rfl⟩
          obtain ⟨ys, hy⟩ : ∃ y, y = xs := ⟨_, rfl⟩
          obtain ⟨v6, hv6⟩ : ∃ y, y = v := ⟨_, rfl⟩
          obtain ⟨u6', hu6⟩ : ∃ y, y = v2 := ⟨_, rfl⟩
          have HSA6 : Hid (0 ≤ s6.a ∧ s6.a ≤ s.a + 1099511627776) := Lib.hid (by rw [hs6]; have := s.eat_a n HN.out HSA.out.1; omega)
          have HY : Hid (ys.length ≤ xs.length + 300) := Lib.hid (by rw [hy]; omega)
          have HT6 : Hid (Tri w w6 gb s6 s6 v6 u6' ys ys) := by rw [hs6, hy, hv6, hu6]; exact HT5
          clear hs6 hy hv6 hu6 HT5
          clear HOB
          cases hgo6 : s6.go with
          | false =>
            go_wp2_with fail
            refine (c_at (s := s6) HT6.out.d.bs).mono ?_
            rintro en w9 ⟨rfl, rfl⟩
            go_wp2_with fail
            refine (c_at HT6.out.b).mono ?_
            rintro en w9 ⟨rfl, rfl⟩
            go_wp2_with fail
            refine (c_fail (s := s6) HT6.out.d.bs).mono ?_
            rintro en w7 ⟨rfl, hb9⟩
            have HT7 := Lib.hid (HT6.out.below hb9)
            clear hb9
            go_wp2_with fail
            refine (c_fail HT7.out.b).mono ?_
            rintro en w8 ⟨rfl, hb9⟩
            have HT8 := Lib.hid (HT7.out.below hb9)
            clear hb9
            go_wp2_with fail
            refine (c_going (s := s6) HT8.out.d.bs).mono ?_
            rintro en w9 ⟨rfl, rfl⟩
            rw [hgo6]
            go_wp2_with fail
            refine (c_going HT8.out.b).mono ?_
            rintro en w9 ⟨rfl, rfl⟩
            rw [hgo6]
            go_wp2_with fail
            refine (dec_held HT8.out.d).mono ?_
            rintro en w9 ⟨rfl, rfl⟩
            go_wp2_with fail
            refine (r_held HT8.out.r).mono ?_
            rintro en w9 ⟨rfl, rfl⟩
            go_wp2_with fail
            refine (c_idone_over hgo6 HT8.out.d).mono ?_
            rintro en w9 ⟨rfl, rfl⟩
            go_wp2_with fail
            refine (c_going HT8.out.b).mono ?_
            rintro en w9 ⟨rfl, rfl⟩
            rw [hgo6]
            go_wp2_with fail
            refine (r_held HT8.out.r).mono ?_
            rintro en w9 ⟨rfl, rfl⟩
            go_wp2_with fail
            go_roundg (gk - 1)
            case measure => have := HQ.out; omega
            case rel => exact ⟨i + 1, s6, v6, u6', ys, by have := HQ.out; omega, by omega, by rw [wrap64_in (by omega) (by have := HLN.out; omega)]; simp, HT8, Lib.hid (by have := HSA6.out; have := HSA.out; omega), Lib.hid (by have := HY.out; have := HXS.out; omega)⟩
          | true =>
            go_wp2_with fail
            refine (c_at (s := s6) HT6.out.d.bs).mono ?_
            rintro en w9 ⟨rfl, rfl⟩
            go_wp2_with fail
            refine (c_at HT6.out.b).mono ?_
            rintro en w9 ⟨rfl, rfl⟩
            go_wp2_with fail
            refine (c_fail (s := s6) HT6.out.d.bs).mono ?_
            rintro en w7 ⟨rfl, hb9⟩
            have HT7 := Lib.hid (HT6.out.below hb9)
            clear hb9
            go_wp2_with fail
            refine (c_fail HT7.out.b).mono ?_
            rintro en w8 ⟨rfl, hb9⟩
            have HT8 := Lib.hid (HT7.out.below hb9)
            clear hb9
            go_wp2_with fail
            refine (c_going (s := s6) HT8.out.d.bs).mono ?_
            rintro en w9 ⟨rfl, rfl⟩
            rw [hgo6]
            go_wp2_with fail
            refine (c_going HT8.out.b).mono ?_
            rintro en w9 ⟨rfl, rfl⟩
            rw [hgo6]
            go_wp2_with fail
            refine (dec_held HT8.out.d).mono ?_
            rintro en w9 ⟨rfl, rfl⟩
            go_wp2_with fail
            refine (r_held HT8.out.r).mono ?_
            rintro en w9 ⟨rfl, rfl⟩
            go_wp2_with fail
            refine (c_idone_no hgo6 HT8.out.d).mono ?_
            rintro en w9 ⟨rfl, rfl⟩
            go_wp2_with fail
            refine (c_going HT8.out.b).mono ?_
            rintro en w9 ⟨rfl, rfl⟩
            rw [hgo6]
            go_wp2_with fail
            go_roundg (gk - 1)
            case measure => have := HQ.out; omega
            case rel => exact ⟨i + 1, s6, v6, u6', ys, by have := HQ.out; omega, by omega, by rw [wrap64_in (by omega) (by have := HLN.out; omega)]; simp, HT8, Lib.hid (by have := HSA6.out; have := HSA.out; omega), Lib.hid (by have := HY.out; have := HXS.out; omega)⟩
        obtain rfl | hk2 : k = 2 ∨ k ≠ 2 := by omega
        · clear hk1
          go_wp2_with fail
          generalize (wr.alloc (.cells #[.int .i64 2, .int .i64 n, .string tx, .slice A3 ls.length c3] 35)) = wo at *
          clear k0 k1 k2 k3
          generalize hgo : wr.heap.size = go at *
          have HT0 := HTO
          refine (c_stop (s := s) n HT0.out.d.bs).mono ?_
          rintro en w4 ⟨rfl, hc9, hk9⟩
          have HT4 := Lib.hid (HT0.out.base1 hc9 hk9)
          have HO4 := Lib.hid (hk9.blk HOB.out (by have := HG1.out; omega))
          clear hc9 hk9
          have o1 : w4.cell? ⟨go, 1, none⟩ = some (.int .i64 n) := (blk_cell HO4.out 1).trans rfl
          go_wp2_with fail
          refine (c_stop n HT4.out.b).mono ?_
          rintro en w6 ⟨rfl, hc9, hk9⟩
          have HT5 := Lib.hid (HT4.out.base2 hc9 hk9)
          clear hc9 hk9
          clear HO4 HT4 o1
          obtain ⟨s6, hs6⟩ : ∃ s6, s6 = s.stop n := ⟨_, rfl⟩
          obtain ⟨ys, hy⟩ : ∃ y, y = xs := ⟨_, rfl⟩
          obtain ⟨v6, hv6⟩ : ∃ y, y = v := ⟨_, rfl⟩
          obtain ⟨u6', hu6⟩ : ∃ y, y = v2 := ⟨_, rfl⟩
          have HSA6 : Hid (0 ≤ s6.a ∧ s6.a ≤ s.a + 1099511627776) := Lib.hid (by rw [hs6]; rw [St.stop_a]; have := HSA.out; omega)
          have HY : Hid (ys.length ≤ xs.length + 300) := Lib.hid (by rw [hy]; omega)
          have HT6 : Hid (Tri w w6 gb s6 s6 v6 u6' ys ys) := by rw [hs6, hy, hv6, hu6]; exact HT5
          clear hs6 hy hv6 hu6 HT5
          clear HOB
          cases hgo6 : s6.go with
          | false =>
            go_wp2_with fail
            refine (c_at (s := s6) HT6.out.d.bs).mono ?_
            rintro en w9 ⟨rfl, rfl⟩
            go_wp2_with fail
            refine (c_at HT6.out.b).mono ?_
            rintro en w9 ⟨rfl, rfl⟩
            go_wp2_with fail
            refine (c_fail (s := s6) HT6.out.d.bs).mono ?_
            rintro en w7 ⟨rfl, hb9⟩
            have HT7 := Lib.hid (HT6.out.below hb9)
            clear hb9
            go_wp2_with fail
            refine (c_fail HT7.out.b).mono ?_
            rintro en w8 ⟨rfl, hb9⟩
            have HT8 := Lib.hid (HT7.out.below hb9)
            clear hb9
            go_wp2_with fail
            refine (c_going (s := s6) HT8.out.d.bs).mono ?_
            rintro en w9 ⟨rfl, rfl⟩
            rw [hgo6]
            go_wp2_with fail
            refine (c_going HT8.out.b).mono ?_
            rintro en w9 ⟨rfl, rfl⟩
            rw [hgo6]
            go_wp2_with fail
            refine (dec_held HT8.out.d).mono ?_
            rintro en w9 ⟨rfl, rfl⟩
            go_wp2_with fail
            refine (r_held HT8.out.r).mono ?_
            rintro en w9 ⟨rfl, rfl⟩
            go_wp2_with fail
            refine (c_idone_over hgo6 HT8.out.d).mono ?_
            rintro en w9 ⟨rfl, rfl⟩
            go_wp2_with fail
            refine (c_going HT8.out.b).mono ?_
            rintro en w9 ⟨rfl, rfl⟩
            rw [hgo6]
            go_wp2_with fail
            refine (r_held HT8.out.r).mono ?_
            rintro en w9 ⟨rfl, rfl⟩
            go_wp2_with fail
            go_roundg (gk - 1)
            case measure => have := HQ.out; omega
            case rel => exact ⟨i + 1, s6, v6, u6', ys, by have := HQ.out; omega, by omega, by rw [wrap64_in (by omega) (by have := HLN.out; omega)]; simp, HT8, Lib.hid (by have := HSA6.out; have := HSA.out; omega), Lib.hid (by have := HY.out; have := HXS.out; omega)⟩
          | true =>
            go_wp2_with fail
            refine (c_at (s := s6) HT6.out.d.bs).mono ?_
            rintro en w9 ⟨rfl, rfl⟩
            go_wp2_with fail
            refine (c_at HT6.out.b).mono ?_
            rintro en w9 ⟨rfl, rfl⟩
            go_wp2_with fail
            refine (c_fail (s := s6) HT6.out.d.bs).mono ?_
            rintro en w7 ⟨rfl, hb9⟩
            have HT7 := Lib.hid (HT6.out.below hb9)
            clear hb9
            go_wp2_with fail
            refine (c_fail HT7.out.b).mono ?_
            rintro en w8 ⟨rfl, hb9⟩
            have HT8 := Lib.hid (HT7.out.below hb9)
            clear hb9
            go_wp2_with fail
            refine (c_going (s := s6) HT8.out.d.bs).mono ?_
            rintro en w9 ⟨rfl, rfl⟩
            rw [hgo6]
            go_wp2_with fail
            refine (c_going HT8.out.b).mono ?_
            rintro en w9 ⟨rfl, rfl⟩
            rw [hgo6]
            go_wp2_with fail
            refine (dec_held HT8.out.d).mono ?_
            rintro en w9 ⟨rfl, rfl⟩
            go_wp2_with fail
            refine (r_held HT8.out.r).mono ?_
            rintro en w9 ⟨rfl, rfl⟩
            go_wp2_with fail
            refine (c_idone_no hgo6 HT8.out.d).mono ?_
            rintro en w9 ⟨rfl, rfl⟩
            go_wp2_with fail
            refine (c_going HT8.out.b).mono ?_
            rintro en w9 ⟨rfl, rfl⟩
            rw [hgo6]
            go_wp2_with fail
            go_roundg (gk - 1)
            case measure => have := HQ.out; omega
            case rel => exact ⟨i + 1, s6, v6, u6', ys, by have := HQ.out; omega, by omega, by rw [wrap64_in (by omega) (by have := HLN.out; omega)]; simp, HT8, Lib.hid (by have := HSA6.out; have := HSA.out; omega), Lib.hid (by have := HY.out; have := HXS.out; omega)⟩
        obtain rfl | hk3 : k = 3 ∨ k ≠ 3 := by omega
        · clear hk1 hk2
          go_wp2_with fail
          generalize (wr.alloc (.cells #[.int .i64 3, .int .i64 n, .string tx, .slice A3 ls.length c3] 35)) = wo at *
          clear k0 k1 k2 k3
          generalize hgo : wr.heap.size = go at *
          have HT0 := HTO
          refine (c_end (s := s) HT0.out.d.bs).mono ?_
          rintro en w4 ⟨rfl, hc9, hk9⟩
          have HT4 := Lib.hid (HT0.out.base1 hc9 hk9)
          have HO4 := Lib.hid (hk9.blk HOB.out (by have := HG1.out; omega))
          clear hc9 hk9
          go_wp2_with fail
          refine (c_end HT4.out.b).mono ?_
          rintro en w6 ⟨rfl, hc9, hk9⟩
          have HT5 := Lib.hid (HT4.out.base2 hc9 hk9)
          clear hc9 hk9
          clear HO4 HT4 
          obtain ⟨s6, hs6⟩ : ∃ s6, s6 = s.fin := ⟨_, rfl⟩
          obtain ⟨ys, hy⟩ : ∃ y, y = xs := ⟨_, rfl⟩
          obtain ⟨v6, hv6⟩ : ∃ y, y = v := ⟨_, rfl⟩
          obtain ⟨u6', hu6⟩ : ∃ y, y = v2 := ⟨_, rfl⟩
          have HSA6 : Hid (0 ≤ s6.a ∧ s6.a ≤ s.a + 1099511627776) := Lib.hid (by rw [hs6]; rw [St.fin_a]; have := HSA.out; omega)
          have HY : Hid (ys.length ≤ xs.length + 300) := Lib.hid (by rw [hy]; omega)
          have HT6 : Hid (Tri w w6 gb s6 s6 v6 u6' ys ys) := by rw [hs6, hy, hv6, hu6]; exact HT5
          clear hs6 hy hv6 hu6 HT5
          clear HOB
          cases hgo6 : s6.go with
          | false =>
            go_wp2_with fail
            refine (c_at (s := s6) HT6.out.d.bs).mono ?_
            rintro en w9 ⟨rfl, rfl⟩
            go_wp2_with fail
            refine (c_at HT6.out.b).mono ?_
            rintro en w9 ⟨rfl, rfl⟩
            go_wp2_with fail
            refine (c_fail (s := s6) HT6.out.d.bs).mono ?_
            rintro en w7 ⟨rfl, hb9⟩
            have HT7 := Lib.hid (HT6.out.below hb9)
            clear hb9
            go_wp2_with fail
            refine (c_fail HT7.out.b).mono ?_
            rintro en w8 ⟨rfl, hb9⟩
            have HT8 := Lib.hid (HT7.out.below hb9)
            clear hb9
            go_wp2_with fail
            refine (c_going (s := s6) HT8.out.d.bs).mono ?_
            rintro en w9 ⟨rfl, rfl⟩
            rw [hgo6]
            go_wp2_with fail
            refine (c_going HT8.out.b).mono ?_
            rintro en w9 ⟨rfl, rfl⟩
            rw [hgo6]
            go_wp2_with fail
            refine (dec_held HT8.out.d).mono ?_
            rintro en w9 ⟨rfl, rfl⟩
            go_wp2_with fail
            refine (r_held HT8.out.r).mono ?_
            rintro en w9 ⟨rfl, rfl⟩
            go_wp2_with fail
            refine (c_idone_over hgo6 HT8.out.d).mono ?_
            rintro en w9 ⟨rfl, rfl⟩
            go_wp2_with fail
            refine (c_going HT8.out.b).mono ?_
            rintro en w9 ⟨rfl, rfl⟩
            rw [hgo6]
            go_wp2_with fail
            refine (r_held HT8.out.r).mono ?_
            rintro en w9 ⟨rfl, rfl⟩
            go_wp2_with fail
            go_roundg (gk - 1)
            case measure => have := HQ.out; omega
            case rel => exact ⟨i + 1, s6, v6, u6', ys, by have := HQ.out; omega, by omega, by rw [wrap64_in (by omega) (by have := HLN.out; omega)]; simp, HT8, Lib.hid (by have := HSA6.out; have := HSA.out; omega), Lib.hid (by have := HY.out; have := HXS.out; omega)⟩
          | true =>
            go_wp2_with fail
            refine (c_at (s := s6) HT6.out.d.bs).mono ?_
            rintro en w9 ⟨rfl, rfl⟩
            go_wp2_with fail
            refine (c_at HT6.out.b).mono ?_
            rintro en w9 ⟨rfl, rfl⟩
            go_wp2_with fail
            refine (c_fail (s := s6) HT6.out.d.bs).mono ?_
            rintro en w7 ⟨rfl, hb9⟩
            have HT7 := Lib.hid (HT6.out.below hb9)
            clear hb9
            go_wp2_with fail
            refine (c_fail HT7.out.b).mono ?_
            rintro en w8 ⟨rfl, hb9⟩
            have HT8 := Lib.hid (HT7.out.below hb9)
            clear hb9
            go_wp2_with fail
            refine (c_going (s := s6) HT8.out.d.bs).mono ?_
            rintro en w9 ⟨rfl, rfl⟩
            rw [hgo6]
            go_wp2_with fail
            refine (c_going HT8.out.b).mono ?_
            rintro en w9 ⟨rfl, rfl⟩
            rw [hgo6]
            go_wp2_with fail
            refine (dec_held HT8.out.d).mono ?_
            rintro en w9 ⟨rfl, rfl⟩
            go_wp2_with fail
            refine (r_held HT8.out.r).mono ?_
            rintro en w9 ⟨rfl, rfl⟩
            go_wp2_with fail
            refine (c_idone_no hgo6 HT8.out.d).mono ?_
            rintro en w9 ⟨rfl, rfl⟩
            go_wp2_with fail
            refine (c_going HT8.out.b).mono ?_
            rintro en w9 ⟨rfl, rfl⟩
            rw [hgo6]
            go_wp2_with fail
            go_roundg (gk - 1)
            case measure => have := HQ.out; omega
            case rel => exact ⟨i + 1, s6, v6, u6', ys, by have := HQ.out; omega, by omega, by rw [wrap64_in (by omega) (by have := HLN.out; omega)]; simp, HT8, Lib.hid (by have := HSA6.out; have := HSA.out; omega), Lib.hid (by have := HY.out; have := HXS.out; omega)⟩
        obtain rfl | hk4 : k = 4 ∨ k ≠ 4 := by omega
        · clear hk1 hk2 hk3
          go_wp2_with fail
          generalize (wr.alloc (.cells #[.int .i64 4, .int .i64 n, .string tx, .slice A3 ls.length c3] 35)) = wo at *
          clear k0 k1 k2 k3
          generalize hgo : wr.heap.size = go at *
          refine (dec_hold (HLR.out.below HTO.out.bel) (by have := HXB.out; have := HLS.out; omega) HTO.out.d).mono ?_
          rintro en w4 ⟨rfl, v', hd9, hs9⟩
          have HT4 := Lib.hid (HTO.out.row1 hd9 hs9)
          have HO4 := Lib.hid (hs9.keeps HOB.out (by have := HG1.out; omega) (fun h => by have := HVL.out _ h; omega))
          clear hd9 hs9
          have o3 : w4.cell? ⟨go, 3, none⟩ = some (.slice A3 ls.length c3) := (blk_cell HO4.out 3).trans rfl
          go_wp2_with fail
          refine (r_hold (HLR.out.below HT4.out.bel) (by have := HXB.out; have := HLS.out; omega) HT4.out.r).mono ?_
          rintro en w6 ⟨rfl, v2', hd9, hs9⟩
          have HT5 := Lib.hid (HT4.out.row2 hd9 hs9)
          clear hd9 hs9 o3 HO4 HT4
          obtain ⟨s6, hs6⟩ : ∃ s6, s6 = s := ⟨_, rfl⟩
          obtain ⟨ys, hy⟩ : ∃ y, y = xs ++ ls := ⟨_, rfl⟩
          obtain ⟨v6, hv6⟩ : ∃ y, y = v' := ⟨_, rfl⟩
          obtain ⟨u6', hu6⟩ : ∃ y, y = v2' := ⟨_, rfl⟩
          have HSA6 : Hid (0 ≤ s6.a ∧ s6.a ≤ s.a + 1099511627776) := Lib.hid (by rw [hs6]; have := HSA.out; omega)
          have HY : Hid (ys.length ≤ xs.length + 300) := Lib.hid (by rw [hy]; rw [List.length_append]; have := HLS.out; omega)
          have HT6 : Hid (Tri w w6 gb s6 s6 v6 u6' ys ys) := by rw [hs6, hy, hv6, hu6]; exact HT5
          clear hs6 hy hv6 hu6 HT5
          clear HOB
          cases hgo6 : s6.go with
          | false =>
            go_wp2_with fail
            refine (c_at (s := s6) HT6.out.d.bs).mono ?_
            rintro en w9 ⟨rfl, rfl⟩
            go_wp2_with fail
            refine (c_at HT6.out.b).mono ?_
            rintro en w9 ⟨rfl, rfl⟩
            go_wp2_with fail
            refine (c_fail (s := s6) HT6.out.d.bs).mono ?_
            rintro en w7 ⟨rfl, hb9⟩
            have HT7 := Lib.hid (HT6.out.below hb9)
            clear hb9
            go_wp2_with fail
            refine (c_fail HT7.out.b).mono ?_
            rintro en w8 ⟨rfl, hb9⟩
            have HT8 := Lib.hid (HT7.out.below hb9)
            clear hb9
            go_wp2_with fail
            refine (c_going (s := s6) HT8.out.d.bs).mono ?_
            rintro en w9 ⟨rfl, rfl⟩
            rw [hgo6]
            go_wp2_with fail
            refine (c_going HT8.out.b).mono ?_
            rintro en w9 ⟨rfl, rfl⟩
            rw [hgo6]
            go_wp2_with fail
            refine (dec_held HT8.out.d).mono ?_
            rintro en w9 ⟨rfl, rfl⟩
            go_wp2_with fail
            refine (r_held HT8.out.r).mono ?_
            rintro en w9 ⟨rfl, rfl⟩
            go_wp2_with fail
            refine (c_idone_over hgo6 HT8.out.d).mono ?_
            rintro en w9 ⟨rfl, rfl⟩
            go_wp2_with fail
            refine (c_going HT8.out.b).mono ?_
            rintro en w9 ⟨rfl, rfl⟩
            rw [hgo6]
            go_wp2_with fail
            refine (r_held HT8.out.r).mono ?_
            rintro en w9 ⟨rfl, rfl⟩
            go_wp2_with fail
            go_roundg (gk - 1)
            case measure => have := HQ.out; omega
            case rel => exact ⟨i + 1, s6, v6, u6', ys, by have := HQ.out; omega, by omega, by rw [wrap64_in (by omega) (by have := HLN.out; omega)]; simp, HT8, Lib.hid (by have := HSA6.out; have := HSA.out; omega), Lib.hid (by have := HY.out; have := HXS.out; omega)⟩
          | true =>
            go_wp2_with fail
            refine (c_at (s := s6) HT6.out.d.bs).mono ?_
            rintro en w9 ⟨rfl, rfl⟩
            go_wp2_with fail
            refine (c_at HT6.out.b).mono ?_
            rintro en w9 ⟨rfl, rfl⟩
            go_wp2_with fail
            refine (c_fail (s := s6) HT6.out.d.bs).mono ?_
            rintro en w7 ⟨rfl, hb9⟩
            have HT7 := Lib.hid (HT6.out.below hb9)
            clear hb9
            go_wp2_with fail
            refine (c_fail HT7.out.b).mono ?_
            rintro en w8 ⟨rfl, hb9⟩
            have HT8 := Lib.hid (HT7.out.below hb9)
            clear hb9
            go_wp2_with fail
            refine (c_going (s := s6) HT8.out.d.bs).mono ?_
            rintro en w9 ⟨rfl, rfl⟩
            rw [hgo6]
            go_wp2_with fail
            refine (c_going HT8.out.b).mono ?_
            rintro en w9 ⟨rfl, rfl⟩
            rw [hgo6]
            go_wp2_with fail
            refine (dec_held HT8.out.d).mono ?_
            rintro en w9 ⟨rfl, rfl⟩
            go_wp2_with fail
            refine (r_held HT8.out.r).mono ?_
            rintro en w9 ⟨rfl, rfl⟩
            go_wp2_with fail
            refine (c_idone_no hgo6 HT8.out.d).mono ?_
            rintro en w9 ⟨rfl, rfl⟩
            go_wp2_with fail
            refine (c_going HT8.out.b).mono ?_
            rintro en w9 ⟨rfl, rfl⟩
            rw [hgo6]
            go_wp2_with fail
            go_roundg (gk - 1)
            case measure => have := HQ.out; omega
            case rel => exact ⟨i + 1, s6, v6, u6', ys, by have := HQ.out; omega, by omega, by rw [wrap64_in (by omega) (by have := HLN.out; omega)]; simp, HT8, Lib.hid (by have := HSA6.out; have := HSA.out; omega), Lib.hid (by have := HY.out; have := HXS.out; omega)⟩
        obtain rfl | hk5 : k = 5 ∨ k ≠ 5 := by omega
        · clear hk1 hk2 hk3 hk4
          go_wp2_with fail
          generalize (wr.alloc (.cells #[.int .i64 5, .int .i64 n, .string tx, .slice A3 ls.length c3] 35)) = wo at *
          clear k0 k1 k2 k3
          generalize hgo : wr.heap.size = go at *
          obtain ⟨m, hm⟩ : ∃ m, m = min n.toNat xs.length := ⟨_, rfl⟩
          have HM := Lib.hid hm
          have HMN : Hid (m ≤ xs.length) := Lib.hid (by omega)
          clear hm
          have HTD : Hid (Tri w wo.drew gb s s v v2 xs xs) := Lib.hid (HTO.out.below (below_drew (Below.refl _ _)))
          have o1 : wo.drew.cell? ⟨go, 1, none⟩ = some (.int .i64 n) := (blk_cell HOB.out 1).trans rfl
          go_region_held3 (fun w' => w'.cell? ⟨go, 1, none⟩ = some (.int .i64 n)) (first | assumption | go_keep) (first
            | (go_at_call 28; (with_reducible refine (dec_tell (w := wo.drew) (g := gb) n (by have := HXB.out; omega) HTD.out.d).mono ?_); rintro e w4 ⟨r4, v', rfl, hd9, ho9, hs9, _⟩; rw [← HM.out] at hd9 ho9; rw [List.length_take, Nat.min_eq_left HMN.out] at ho9; obtain ⟨A4, c4, rfl, hle4, _⟩ := own_reads_of_le (enc := fun x => Value.int .u32 x) (d := (0 : Int)) ho9; have HT4 := Lib.hid (HTD.out.row1 hd9 hs9); have HO4 := Lib.hid (hs9.keeps (show wo.drew.heap[go]? = _ from HOB.out) (by have := HG1.out; omega) (fun h => by have := HVL.out _ h; omega)); have HR4 := Lib.hid ho9; have HLE4 := Lib.hid hle4; have o4 : w4.cell? ⟨go, 1, none⟩ = some (.int .i64 n) := (blk_cell HO4.out 1).trans rfl; clear hd9 hs9 ho9 hle4)
            | (go_at_call 28; (with_reducible refine (r_tell (w := w4) (g := gb + 1 + 1) n (by have := HXB.out; omega) HT4.out.r).mono ?_); rintro e w5 ⟨r5, v2', rfl, hd9, ho9, hs9, _⟩; rw [← HM.out] at hd9 ho9; rw [List.length_take, Nat.min_eq_left HMN.out] at ho9; obtain ⟨A5, c5, rfl, hle5, _⟩ := own_reads_of_le (enc := fun x => Value.int .u32 x) (d := (0 : Int)) ho9; have HT5 := Lib.hid (HT4.out.row2 hd9 hs9); have HO5 := Lib.hid (hs9.keeps HO4.out (by have := HG1.out; omega) (fun h => by have := HVM.out _ h; omega)); have HR45 := Lib.hid (own_reads' (hs9.kp.own HR4.out (fun k hk hh => by have h1 := own_base HR4.out k hk; have h2 : wo.drew.heap.size = wo.heap.size := rfl; have h3 := HTO.out.lt; have h4 := HTO.out.v2_lt k; exact hh.elim (fun h => by omega) (fun h => by have := h4 h; omega)))); have HR5 := Lib.hid (own_reads' ho9); have HLE5 := Lib.hid hle5; have o5 : w5.cell? ⟨go, 1, none⟩ = some (.int .i64 n) := (blk_cell HO5.out 1).trans rfl; clear hd9 hs9 ho9 hle5)
            | (go_at_call 29; refine (same_any (w := w5) HR45.out HR5.out HLE4.out HLE5.out (by have := HXB.out; have := HMN.out; omega)).mono ?_; rintro e w6 ⟨rfl, n6, h6⟩; rw [decide_eq_true rfl]; have hb6 : Below w5.heap.size w5 w6 := (by rw [h6]; exact ((Kp.refl (fun _ => False) w5).drewN n6).below (Nat.le_refl _) (fun _ h => h.elim)); have HT6' := Lib.hid (HT5.out.below hb6); have o6 : w6.cell? ⟨go, 1, none⟩ = some (.int .i64 n) := (by rw [h6]; exact o5); clear h6 hb6)
            | (fail))
          clear o1 o4 o5 o6 HO4 HO5
          obtain ⟨s6, hs6⟩ : ∃ s6, s6 = s := ⟨_, rfl⟩
          obtain ⟨ys, hy⟩ : ∃ y, y = xs.drop m := ⟨_, rfl⟩
          obtain ⟨v6, hv6⟩ : ∃ y, y = v' := ⟨_, rfl⟩
          obtain ⟨u6', hu6⟩ : ∃ y, y = v2' := ⟨_, rfl⟩
          have HSA6 : Hid (0 ≤ s6.a ∧ s6.a ≤ s.a + 1099511627776) := Lib.hid (by rw [hs6]; have := HSA.out; omega)
          have HY : Hid (ys.length ≤ xs.length + 300) := Lib.hid (by rw [hy]; rw [List.length_drop]; omega)
          have HT6 : Hid (Tri w w6 gb s6 s6 v6 u6' ys ys) := by rw [hs6, hy, hv6, hu6]; exact HT6'
          clear hs6 hy hv6 hu6 HT6'
          clear HOB
          cases hgo6 : s6.go with
          | false =>
            go_wp2_with fail
            refine (c_at (s := s6) HT6.out.d.bs).mono ?_
            rintro en w9 ⟨rfl, rfl⟩
            go_wp2_with fail
            refine (c_at HT6.out.b).mono ?_
            rintro en w9 ⟨rfl, rfl⟩
            go_wp2_with fail
            refine (c_fail (s := s6) HT6.out.d.bs).mono ?_
            rintro en w7 ⟨rfl, hb9⟩
            have HT7 := Lib.hid (HT6.out.below hb9)
            clear hb9
            go_wp2_with fail
            refine (c_fail HT7.out.b).mono ?_
            rintro en w8 ⟨rfl, hb9⟩
            have HT8 := Lib.hid (HT7.out.below hb9)
            clear hb9
            go_wp2_with fail
            refine (c_going (s := s6) HT8.out.d.bs).mono ?_
            rintro en w9 ⟨rfl, rfl⟩
            rw [hgo6]
            go_wp2_with fail
            refine (c_going HT8.out.b).mono ?_
            rintro en w9 ⟨rfl, rfl⟩
            rw [hgo6]
            go_wp2_with fail
            refine (dec_held HT8.out.d).mono ?_
            rintro en w9 ⟨rfl, rfl⟩
            go_wp2_with fail
            refine (r_held HT8.out.r).mono ?_
            rintro en w9 ⟨rfl, rfl⟩
            go_wp2_with fail
            refine (c_idone_over hgo6 HT8.out.d).mono ?_
            rintro en w9 ⟨rfl, rfl⟩
            go_wp2_with fail
            refine (c_going HT8.out.b).mono ?_
            rintro en w9 ⟨rfl, rfl⟩
            rw [hgo6]
            go_wp2_with fail
            refine (r_held HT8.out.r).mono ?_
            rintro en w9 ⟨rfl, rfl⟩
            go_wp2_with fail
            go_roundg (gk - 1)
            case measure => have := HQ.out; omega
            case rel => exact ⟨i + 1, s6, v6, u6', ys, by have := HQ.out; omega, by omega, by rw [wrap64_in (by omega) (by have := HLN.out; omega)]; simp, HT8, Lib.hid (by have := HSA6.out; have := HSA.out; omega), Lib.hid (by have := HY.out; have := HXS.out; omega)⟩
          | true =>
            go_wp2_with fail
            refine (c_at (s := s6) HT6.out.d.bs).mono ?_
            rintro en w9 ⟨rfl, rfl⟩
            go_wp2_with fail
            refine (c_at HT6.out.b).mono ?_
            rintro en w9 ⟨rfl, rfl⟩
            go_wp2_with fail
            refine (c_fail (s := s6) HT6.out.d.bs).mono ?_
            rintro en w7 ⟨rfl, hb9⟩
            have HT7 := Lib.hid (HT6.out.below hb9)
            clear hb9
            go_wp2_with fail
            refine (c_fail HT7.out.b).mono ?_
            rintro en w8 ⟨rfl, hb9⟩
            have HT8 := Lib.hid (HT7.out.below hb9)
            clear hb9
            go_wp2_with fail
            refine (c_going (s := s6) HT8.out.d.bs).mono ?_
            rintro en w9 ⟨rfl, rfl⟩
            rw [hgo6]
            go_wp2_with fail
            refine (c_going HT8.out.b).mono ?_
            rintro en w9 ⟨rfl, rfl⟩
            rw [hgo6]
            go_wp2_with fail
            refine (dec_held HT8.out.d).mono ?_
            rintro en w9 ⟨rfl, rfl⟩
            go_wp2_with fail
            refine (r_held HT8.out.r).mono ?_
            rintro en w9 ⟨rfl, rfl⟩
            go_wp2_with fail
            refine (c_idone_no hgo6 HT8.out.d).mono ?_
            rintro en w9 ⟨rfl, rfl⟩
            go_wp2_with fail
            refine (c_going HT8.out.b).mono ?_
            rintro en w9 ⟨rfl, rfl⟩
            rw [hgo6]
            go_wp2_with fail
            go_roundg (gk - 1)
            case measure => have := HQ.out; omega
            case rel => exact ⟨i + 1, s6, v6, u6', ys, by have := HQ.out; omega, by omega, by rw [wrap64_in (by omega) (by have := HLN.out; omega)]; simp, HT8, Lib.hid (by have := HSA6.out; have := HSA.out; omega), Lib.hid (by have := HY.out; have := HXS.out; omega)⟩
        · skip
          have hn1 : (k == 1) = false := beq_eq_false_iff_ne.2 hk1
          have hn2 : (k == 2) = false := beq_eq_false_iff_ne.2 hk2
          have hn3 : (k == 3) = false := beq_eq_false_iff_ne.2 hk3
          have hn4 : (k == 4) = false := beq_eq_false_iff_ne.2 hk4
          have hn5 : (k == 5) = false := beq_eq_false_iff_ne.2 hk5
          go_wp2_with fail
          generalize (wr.alloc (.cells #[.int .i64 k, .int .i64 n, .string tx, .slice A3 ls.length c3] 35)) = w6 at *
          clear k0 k1 k2 k3
          generalize hgo : wr.heap.size = go at *
          have HT5 := HTO
          obtain ⟨s6, hs6⟩ : ∃ s6, s6 = s := ⟨_, rfl⟩
          obtain ⟨ys, hy⟩ : ∃ y, y = xs := ⟨_, rfl⟩
          obtain ⟨v6, hv6⟩ : ∃ y, y = v := ⟨_, rfl⟩
          obtain ⟨u6', hu6⟩ : ∃ y, y = v2 := ⟨_, rfl⟩
          have HSA6 : Hid (0 ≤ s6.a ∧ s6.a ≤ s.a + 1099511627776) := Lib.hid (by rw [hs6]; have := HSA.out; omega)
          have HY : Hid (ys.length ≤ xs.length + 300) := Lib.hid (by rw [hy]; omega)
          have HT6 : Hid (Tri w w6 gb s6 s6 v6 u6' ys ys) := by rw [hs6, hy, hv6, hu6]; exact HT5
          clear hs6 hy hv6 hu6 HT5
          clear HOB
          cases hgo6 : s6.go with
          | false =>
            go_wp2_with fail
            refine (c_at (s := s6) HT6.out.d.bs).mono ?_
            rintro en w9 ⟨rfl, rfl⟩
            go_wp2_with fail
            refine (c_at HT6.out.b).mono ?_
            rintro en w9 ⟨rfl, rfl⟩
            go_wp2_with fail
            refine (c_fail (s := s6) HT6.out.d.bs).mono ?_
            rintro en w7 ⟨rfl, hb9⟩
            have HT7 := Lib.hid (HT6.out.below hb9)
            clear hb9
            go_wp2_with fail
            refine (c_fail HT7.out.b).mono ?_
            rintro en w8 ⟨rfl, hb9⟩
            have HT8 := Lib.hid (HT7.out.below hb9)
            clear hb9
            go_wp2_with fail
            refine (c_going (s := s6) HT8.out.d.bs).mono ?_
            rintro en w9 ⟨rfl, rfl⟩
            rw [hgo6]
            go_wp2_with fail
            refine (c_going HT8.out.b).mono ?_
            rintro en w9 ⟨rfl, rfl⟩
            rw [hgo6]
            go_wp2_with fail
            refine (dec_held HT8.out.d).mono ?_
            rintro en w9 ⟨rfl, rfl⟩
            go_wp2_with fail
            refine (r_held HT8.out.r).mono ?_
            rintro en w9 ⟨rfl, rfl⟩
            go_wp2_with fail
            refine (c_idone_over hgo6 HT8.out.d).mono ?_
            rintro en w9 ⟨rfl, rfl⟩
            go_wp2_with fail
            refine (c_going HT8.out.b).mono ?_
            rintro en w9 ⟨rfl, rfl⟩
            rw [hgo6]
            go_wp2_with fail
            refine (r_held HT8.out.r).mono ?_
            rintro en w9 ⟨rfl, rfl⟩
            go_wp2_with fail
            go_roundg (gk - 1)
            case measure => have := HQ.out; omega
            case rel => exact ⟨i + 1, s6, v6, u6', ys, by have := HQ.out; omega, by omega, by rw [wrap64_in (by omega) (by have := HLN.out; omega)]; simp, HT8, Lib.hid (by have := HSA6.out; have := HSA.out; omega), Lib.hid (by have := HY.out; have := HXS.out; omega)⟩
          | true =>
            go_wp2_with fail
            refine (c_at (s := s6) HT6.out.d.bs).mono ?_
            rintro en w9 ⟨rfl, rfl⟩
            go_wp2_with fail
            refine (c_at HT6.out.b).mono ?_
            rintro en w9 ⟨rfl, rfl⟩
            go_wp2_with fail
            refine (c_fail (s := s6) HT6.out.d.bs).mono ?_
            rintro en w7 ⟨rfl, hb9⟩
            have HT7 := Lib.hid (HT6.out.below hb9)
            clear hb9
            go_wp2_with fail
            refine (c_fail HT7.out.b).mono ?_
            rintro en w8 ⟨rfl, hb9⟩
            have HT8 := Lib.hid (HT7.out.below hb9)
            clear hb9
            go_wp2_with fail
            refine (c_going (s := s6) HT8.out.d.bs).mono ?_
            rintro en w9 ⟨rfl, rfl⟩
            rw [hgo6]
            go_wp2_with fail
            refine (c_going HT8.out.b).mono ?_
            rintro en w9 ⟨rfl, rfl⟩
            rw [hgo6]
            go_wp2_with fail
            refine (dec_held HT8.out.d).mono ?_
            rintro en w9 ⟨rfl, rfl⟩
            go_wp2_with fail
            refine (r_held HT8.out.r).mono ?_
            rintro en w9 ⟨rfl, rfl⟩
            go_wp2_with fail
            refine (c_idone_no hgo6 HT8.out.d).mono ?_
            rintro en w9 ⟨rfl, rfl⟩
            go_wp2_with fail
            refine (c_going HT8.out.b).mono ?_
            rintro en w9 ⟨rfl, rfl⟩
            rw [hgo6]
            go_wp2_with fail
            go_roundg (gk - 1)
            case measure => have := HQ.out; omega
            case rel => exact ⟨i + 1, s6, v6, u6', ys, by have := HQ.out; omega, by omega, by rw [wrap64_in (by omega) (by have := HLN.out; omega)]; simp, HT8, Lib.hid (by have := HSA6.out; have := HSA.out; omega), Lib.hid (by have := HY.out; have := HXS.out; omega)⟩
      · obtain rfl : i = l.length := by omega
        have hd : decide ((l.length : Int) < (l.length : Int)) = false := by simp
        go_wp2_with fail
        go_ret
        exact ⟨rfl, HTR.out.bel⟩
end Go.Proofs.Ytfknlgjfhdphjaa
