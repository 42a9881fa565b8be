/- The law StepOut, walked. -/
import Derived.Test.YtfknlgjfhdphjaaSc
namespace Go.Proofs.Ytfknlgjfhdphjaa
open Go.RowKit Go.Proofs.YtfknlgjfhdphjaaW.PrintWords Go.Proofs.YtfknlgjfhdphjaaW.PrintMore
set_option linter.unusedVariables false
set_option linter.unusedSimpArgs false
theorem three_allocs (w : World) (a b c : Obj) : (((w.alloc a).alloc b).alloc c).heap[w.heap.size]? = some a ∧ (((w.alloc a).alloc b).alloc c).heap[w.heap.size + 1]? = some b ∧ (((w.alloc a).alloc b).alloc c).heap[w.heap.size + 2]? = some c := by
  have s1 : (w.alloc a).heap.size = w.heap.size + 1 := by simp [World.alloc, -World.alloc_eq]
  have s2 : ((w.alloc a).alloc b).heap.size = w.heap.size + 2 := by simp [World.alloc, -World.alloc_eq]
  refine ⟨?_, ?_, ?_⟩
  · rw [heap_alloc_old _ _ (by omega)]; exact heap_alloc2_old w a b
  · rw [heap_alloc_old _ _ (by omega)]; exact heap_alloc2_new w a b
  · have := heap_alloc_new ((w.alloc a).alloc b) c
    rw [s2] at this
    exact this
theorem c_odone_no {w : World} {g T : Nat} {s : St} {x : ByteArray} {own : List Value} (hg : s.go = true) (h : BA w g T s (.string x :: own)) : Calls Try.prog 31 #[.pointer (some ⟨g, 0, none⟩)] w fun en w' => en = .returned (.bool false) ∧ w = w' := by
  obtain ⟨a, e, f, d⟩ := s
  obtain ⟨rfl, rfl⟩ := St.go_yes hg
  exact odone_going h
theorem c_odone_over {w : World} {g T : Nat} {s : St} {x : ByteArray} {own : List Value} (hg : s.go = false) (h : BA w g T s (.string x :: own)) : Calls Try.prog 31 #[.pointer (some ⟨g, 0, none⟩)] w fun en w' => en = .returned (.bool (((x.size : Nat) : Int) == 0)) ∧ w = w' := odone_over hg h
theorem c_okept {w : World} {g T : Nat} {s : St} {x : ByteArray} {own : List Value} (h : BA w g T s (.string x :: own)) : Calls Try.prog 26 #[.pointer (some ⟨g, 4, none⟩)] w fun en w' => en = .returned (.int .i64 x.size) ∧ w = w' := enc_kept h
theorem c_okeep {w : World} {g T : Nat} {s : St} {x u : ByteArray} {own : List Value} (hl : x.size + u.size ≤ 1073741824) (h : BA w g T s (.string x :: own)) : Calls Try.prog 23 #[.pointer (some ⟨g, 4, none⟩), .string u] w fun en w' => en = .returned (.tuple #[]) ∧ BA w' g T s (.string (x ++ u) :: own) ∧ Kp (fun k => k = g) w w' := enc_keep hl h
theorem c_ogive {w : World} {g T : Nat} {s : St} {x : ByteArray} {own : List Value} (room : Int) (m : Nat) (hm : m = min room.toNat x.size) (hl : x.size ≤ 1073741824) (h : BA w g T s (.string x :: own)) : Calls Try.prog 25 #[.pointer (some ⟨g, 4, none⟩), .int .i64 room] w fun en w' => en = .returned (.string (x.extract 0 m)) ∧ BA w' g T s (.string (x.extract m x.size) :: own) ∧ Kp (fun k => k = g) w w' := by
  subst hm
  refine (enc_give room hl h).mono ?_
  rintro en w' ⟨a, b, rfl, he, hk, hg⟩
  obtain ⟨rfl, rfl⟩ := given_extract hg
  exact ⟨rfl, he, hk⟩
set_option maxRecDepth 100000 in
set_option maxHeartbeats 8000000 in
theorem out_all (A : Option Addr) (c : Nat) (l : List PStepBase.S35) (hc : l.length ≤ c) {w : World} (h : Ops w A l) (hwide : ∀ o ∈ l, wideO o) : Calls Try.prog 6 #[.slice A l.length c] w fun en w' => en = .returned (.bool true) ∧ Below w.heap.size w w' := by
  have heq := eqF
  have hu35 := Try.underlying35
  have HOP := Lib.hid h
  have HC := Lib.hid hc
  have HWI := Lib.hid hwide
  clear h hc hwide
  go_enter Try.func6, Try.ntmps6
  go_wp2_with fail
  refine (sawake_any w).mono ?_
  rintro en w1 ⟨rfl, hb⟩
  have HB1 := Lib.hid hb
  have HOP1 := Lib.hid (Kd.C_below HOP.out hb)
  clear hb
  go_wp2_with fail
  obtain ⟨r, hr, hcall⟩ := great_any A c l HC.out w1 HOP1.out
  refine hcall.mono ?_
  clear hcall
  rintro en w2 ⟨rfl, hb⟩
  have HB2 := Lib.hid (HB1.out.trans (hb.mono (by have := HB1.out.size; omega)))
  clear hb
  cases r with
  | true =>
    go_wp2_with fail
    refine (sawake_any w2).mono ?_
    rintro en w3 ⟨rfl, hb⟩
    have HB3 := Lib.hid (HB2.out.trans (hb.mono (by have := HB2.out.size; omega)))
    clear hb
    go_wp2_with fail
    go_ret
    exact ⟨rfl, HB3.out⟩
  | false =>
    obtain ⟨hlen, hfine⟩ := hr rfl
    have HFN := Lib.hid hfine
    have HLN := Lib.hid hlen
    have HGB := Lib.hid (show w.heap.size ≤ w2.heap.size from HB2.out.size)
    clear hfine hr hlen
    have h3 := three_allocs w2 (.cells #[.int .i64 0, .int .i64 0, .int .i64 0, .bool false, .string ⟨#[]⟩] 53) (.cells #[.int .i64 0, .int .i64 0, .int .i64 0, .bool false] 29) (.cells #[.string ⟨#[]⟩] 42)
    have hx3 : BA (((w2.alloc (.cells #[.int .i64 0, .int .i64 0, .int .i64 0, .bool false, .string ⟨#[]⟩] 53)).alloc (.cells #[.int .i64 0, .int .i64 0, .int .i64 0, .bool false] 29)).alloc (.cells #[.string ⟨#[]⟩] 42)) w2.heap.size 53 ⟨0, 0, 0, false⟩ [.string ⟨#[]⟩] := h3.1
    have hb3 : BA (((w2.alloc (.cells #[.int .i64 0, .int .i64 0, .int .i64 0, .bool false, .string ⟨#[]⟩] 53)).alloc (.cells #[.int .i64 0, .int .i64 0, .int .i64 0, .bool false] 29)).alloc (.cells #[.string ⟨#[]⟩] 42)) (w2.heap.size + 1) 29 ⟨0, 0, 0, false⟩ [] := h3.2.1
    have hp3 : PdAt (((w2.alloc (.cells #[.int .i64 0, .int .i64 0, .int .i64 0, .bool false, .string ⟨#[]⟩] 53)).alloc (.cells #[.int .i64 0, .int .i64 0, .int .i64 0, .bool false] 29)).alloc (.cells #[.string ⟨#[]⟩] 42)) (w2.heap.size + 1 + 1) 42 ⟨#[]⟩ := h3.2.2
    have hl3 : Below w.heap.size w (((w2.alloc (.cells #[.int .i64 0, .int .i64 0, .int .i64 0, .bool false, .string ⟨#[]⟩] 53)).alloc (.cells #[.int .i64 0, .int .i64 0, .int .i64 0, .bool false] 29)).alloc (.cells #[.string ⟨#[]⟩] 42)) := below_alloc (below_alloc (below_alloc HB2.out _) _) _
    have HX3 := Lib.hid hx3
    have HB3 := Lib.hid hb3
    have HP3 := Lib.hid hp3
    have HL3 := Lib.hid hl3
    clear h3 hx3 hb3 hp3 hl3
    go_wp2_with fail
    generalize (((w2.alloc (.cells #[.int .i64 0, .int .i64 0, .int .i64 0, .bool false, .string ⟨#[]⟩] 53)).alloc (.cells #[.int .i64 0, .int .i64 0, .int .i64 0, .bool false] 29)).alloc (.cells #[.string ⟨#[]⟩] 42)) = w3 at *
    generalize hgb : w2.heap.size = gb at *
    go_loopg [17] (l.length + 1) (fun q k wr => ∃ (i : Nat) (s : St) (x : ByteArray), q + i = l.length + 1 ∧ i ≤ l.length ∧ k = .int .i64 i ∧ Hid (BA wr gb 53 s [.string x]) ∧ Hid (BA wr (gb + 1) 29 s []) ∧ Hid (PdAt wr (gb + 1 + 1) 42 x) ∧ Hid (0 ≤ s.a ∧ s.a ≤ (i : Int) * 1099511627776) ∧ Hid (x.size ≤ i * 300) ∧ Hid (Below w.heap.size w wr))
    case atStart => exact ⟨0, ⟨0, 0, 0, false⟩, ⟨#[]⟩, rfl, Nat.zero_le _, rfl, HX3, HB3, HP3, Lib.hid (by simp), Lib.hid (by decide), HL3⟩
    case round =>
      clear HX3 HB3 HP3 HL3
      obtain ⟨i, s, x, hq, hle, rfl, HX, HBB, HP, HSA, HXS, HB⟩ := hrel
      have HQ := Lib.hid hq
      clear hq
      by_cases hi : i < l.length
      · have hi2 : (i : Int) < (l.length : Int) := by omega
        have h0i : (0 : Int) ≤ (i : Int) := by omega
        have hd : decide ((i : Int) < (l.length : Int)) = true := decide_eq_true hi2
        obtain ⟨ad, A3, c3, o, ho, rfl, k0, k1, k2, k3, r1', r2'⟩ := ops_at (Kd.C_below HOP.out HB.out) i hi
        have hfo := HFN.out o (List.mem_of_getElem? ho)
        have hwo := HWI.out o (List.mem_of_getElem? ho)
        obtain ⟨k, n, tx, ls⟩ := o
        simp only at k0 k1 k2 k3 r1' r2'
        have HN : Hid (n ≤ 1099511627776) := Lib.hid hfo.2.2
        have HTX : Hid (tx.size ≤ 300) := Lib.hid hfo.1
        have HLS : Hid (ls.length ≤ 300) := Lib.hid hfo.2.1
        have HWO : Hid (wideO ⟨k, n, tx, ls⟩) := Lib.hid hwo
        have HLC := Lib.hid r1'
        have HLR := Lib.hid r2'
        clear hfo ho hwo r1' r2'
        have HOB : Hid ((wr.alloc (.cells #[.int .i64 k, .int .i64 n, .string tx, .slice A3 ls.length c3] 35)).heap[wr.heap.size]? = some (.cells #[.int .i64 k, .int .i64 n, .string tx, .slice A3 ls.length c3] 35)) := Lib.hid (heap_alloc_new wr _)
        have HLO := Lib.hid (below_alloc HB.out (.cells #[.int .i64 k, .int .i64 n, .string tx, .slice A3 ls.length c3] 35))
        have HXO := Lib.hid (BsAt.alloc' HX.out (.cells #[.int .i64 k, .int .i64 n, .string tx, .slice A3 ls.length c3] 35))
        have HBO := Lib.hid (BsAt.alloc' HBB.out (.cells #[.int .i64 k, .int .i64 n, .string tx, .slice A3 ls.length c3] 35))
        have HPO := Lib.hid (show PdAt (wr.alloc (.cells #[.int .i64 k, .int .i64 n, .string tx, .slice A3 ls.length c3] 35)) (gb + 1 + 1) 42 x from (heap_alloc_old wr _ (blk_lt HP.out)).trans HP.out)
        have HG1 : Hid (gb + 1 + 1 < wr.heap.size) := Lib.hid (blk_lt HP.out)
        have HA1 : Hid (s.a ≤ 1000000000000000) := Lib.hid (by have := HSA.out.2; have := HLN.out; omega)
        have HXB : Hid (x.size ≤ 90000) := Lib.hid (by have := HXS.out; have := HLN.out; omega)
        obtain rfl | hk1 : k = 1 ∨ k ≠ 1 := by omega
        · skip
          go_wp2_with fail
          generalize (wr.alloc (.cells #[.int .i64 1, .int .i64 n, .string tx, .slice A3 ls.length c3] 35)) = wo at *
          clear k0 k1 k2 k3
          generalize hgo : wr.heap.size = go at *
          have HX0 := HXO
          have HB0 := HBO
          have HP0 := HPO
          have HO0 := HOB
          have HL0 := HLO
          refine (c_eat n HN.out HSA.out.1 HA1.out HX0.out).mono ?_
          rintro en w4 ⟨rfl, hc9, hk9⟩
          have HX4 := Lib.hid hc9
          have HB4 := Lib.hid (hk9.blk HB0.out (by omega))
          have HP4 := Lib.hid (hk9.blk HP0.out (by omega))
          have HO4 := Lib.hid (hk9.blk HO0.out (by have := HG1.out; omega))
          have HL4 := Lib.hid (HL0.out.trans (hk9.below (B := w.heap.size) HL0.out.size (fun k hk => by have := HGB.out; omega)))
          clear hc9 hk9
          have o1 : w4.cell? ⟨go, 1, none⟩ = some (.int .i64 n) := (blk_cell HO4.out 1).trans rfl
          go_wp2_with fail
          refine (c_eat n HN.out HSA.out.1 HA1.out HB4.out).mono ?_
          rintro en w6 ⟨rfl, hc9, hk9⟩
          have HB5 := Lib.hid hc9
          have HX5 := Lib.hid (hk9.blk HX4.out (by omega))
          have HP5 := Lib.hid (hk9.blk HP4.out (by omega))
          have HL5 := Lib.hid (HL4.out.trans (hk9.below (B := w.heap.size) HL4.out.size (fun k hk => by have := HGB.out; omega)))
          clear hc9 hk9
          clear HO0 HO4 o1
          have HL6 := HL5
          obtain ⟨s6, hs6⟩ : ∃ s6, s6 = s.eat n := ⟨_, rfl⟩
          obtain ⟨y, hy⟩ : ∃ y, y = x := ⟨_, rfl⟩
          have HSA6 : Hid (0 ≤ s6.a ∧ s6.a ≤ s.a + 1099511627776) := Lib.hid (by rw [hs6]; have := s.eat_a n HN.out HSA.out.1; omega)
          have HY : Hid (y.size ≤ x.size + 300) := Lib.hid (by rw [hy]; omega)
          have HX6 : Hid (BA w6 gb 53 s6 [.string y]) := by rw [hs6, hy]; exact HX5
          have HB6 : Hid (BA w6 (gb + 1) 29 s6 []) := by rw [hs6]; exact HB5
          have HP6 : Hid (PdAt w6 (gb + 1 + 1) 42 y) := by rw [hy]; exact HP5
          clear hs6 hy HX5 HB5 HP5
          clear HOB
          cases hgo6 : s6.go with
          | false =>
            go_wp2_with fail
            refine (c_at HX6.out).mono ?_
            rintro en w9 ⟨rfl, rfl⟩
            go_wp2_with fail
            refine (c_at HB6.out).mono ?_
            rintro en w9 ⟨rfl, rfl⟩
            go_wp2_with fail
            refine (c_fail HX6.out).mono ?_
            rintro en w7 ⟨rfl, hb9⟩
            have HX7 := Lib.hid ((Kp.of_below (F := fun _ => False) hb9).blk HX6.out (fun h => h))
            have HB7 := Lib.hid ((Kp.of_below (F := fun _ => False) hb9).blk HB6.out (fun h => h))
            have HP7 := Lib.hid ((Kp.of_below (F := fun _ => False) hb9).blk HP6.out (fun h => h))
            have HL7 := Lib.hid (HL6.out.trans (hb9.mono HL6.out.size))
            clear hb9
            go_wp2_with fail
            refine (c_fail HB7.out).mono ?_
            rintro en w8 ⟨rfl, hb9⟩
            have HX8 := Lib.hid ((Kp.of_below (F := fun _ => False) hb9).blk HX7.out (fun h => h))
            have HB8 := Lib.hid ((Kp.of_below (F := fun _ => False) hb9).blk HB7.out (fun h => h))
            have HP8 := Lib.hid ((Kp.of_below (F := fun _ => False) hb9).blk HP7.out (fun h => h))
            have HL8 := Lib.hid (HL7.out.trans (hb9.mono HL7.out.size))
            clear hb9
            go_wp2_with fail
            refine (c_going HX8.out).mono ?_
            rintro en w9 ⟨rfl, rfl⟩
            rw [hgo6]
            go_wp2_with fail
            refine (c_going HB8.out).mono ?_
            rintro en w9 ⟨rfl, rfl⟩
            rw [hgo6]
            go_wp2_with fail
            refine (c_okept HX8.out).mono ?_
            rintro en w9 ⟨rfl, rfl⟩
            go_wp2_with fail
            refine (kept_any (PdAt.c HP8.out)).mono ?_
            rintro en w9 ⟨rfl, rfl⟩
            go_wp2_with fail
            refine (c_odone_over hgo6 HX8.out).mono ?_
            rintro en w9 ⟨rfl, rfl⟩
            go_wp2_with fail
            refine (c_going HB8.out).mono ?_
            rintro en w9 ⟨rfl, rfl⟩
            rw [hgo6]
            go_wp2_with fail
            refine (kept_any (PdAt.c HP8.out)).mono ?_
            rintro en w9 ⟨rfl, rfl⟩
            go_wp2_with fail
            go_roundg (gk - 1)
            case measure => have := HQ.out; omega
            case rel => exact ⟨i + 1, s6, y, by have := HQ.out; omega, by omega, by rw [wrap64_in (by omega) (by have := HLN.out; omega)]; simp, HX8, HB8, HP8, Lib.hid (by have := HSA6.out; have := HSA.out; omega), Lib.hid (by have := HY.out; have := HXS.out; omega), HL8⟩
          | true =>
            go_wp2_with fail
            refine (c_at HX6.out).mono ?_
            rintro en w9 ⟨rfl, rfl⟩
            go_wp2_with fail
            refine (c_at HB6.out).mono ?_
            rintro en w9 ⟨rfl, rfl⟩
            go_wp2_with fail
            refine (c_fail HX6.out).mono ?_
            rintro en w7 ⟨rfl, hb9⟩
            have HX7 := Lib.hid ((Kp.of_below (F := fun _ => False) hb9).blk HX6.out (fun h => h))
            have HB7 := Lib.hid ((Kp.of_below (F := fun _ => False) hb9).blk HB6.out (fun h => h))
            have HP7 := Lib.hid ((Kp.of_below (F := fun _ => False) hb9).blk HP6.out (fun h => h))
            have HL7 := Lib.hid (HL6.out.trans (hb9.mono HL6.out.size))
            clear hb9
            go_wp2_with fail
            refine (c_fail HB7.out).mono ?_
            rintro en w8 ⟨rfl, hb9⟩
            have HX8 := Lib.hid ((Kp.of_below (F := fun _ => False) hb9).blk HX7.out (fun h => h))
            have HB8 := Lib.hid ((Kp.of_below (F := fun _ => False) hb9).blk HB7.out (fun h => h))
            have HP8 := Lib.hid ((Kp.of_below (F := fun _ => False) hb9).blk HP7.out (fun h => h))
            have HL8 := Lib.hid (HL7.out.trans (hb9.mono HL7.out.size))
            clear hb9
            go_wp2_with fail
            refine (c_going HX8.out).mono ?_
            rintro en w9 ⟨rfl, rfl⟩
            rw [hgo6]
            go_wp2_with fail
            refine (c_going HB8.out).mono ?_
            rintro en w9 ⟨rfl, rfl⟩
            rw [hgo6]
            go_wp2_with fail
            refine (c_okept HX8.out).mono ?_
            rintro en w9 ⟨rfl, rfl⟩
            go_wp2_with fail
            refine (kept_any (PdAt.c HP8.out)).mono ?_
            rintro en w9 ⟨rfl, rfl⟩
            go_wp2_with fail
            refine (c_odone_no hgo6 HX8.out).mono ?_
            rintro en w9 ⟨rfl, rfl⟩
            go_wp2_with fail
            refine (c_going HB8.out).mono ?_
            rintro en w9 ⟨rfl, rfl⟩
            rw [hgo6]
            go_wp2_with fail
            go_roundg (gk - 1)
            case measure => have := HQ.out; omega
            case rel => exact ⟨i + 1, s6, y, by have := HQ.out; omega, by omega, by rw [wrap64_in (by omega) (by have := HLN.out; omega)]; simp, HX8, HB8, HP8, Lib.hid (by have := HSA6.out; have := HSA.out; omega), Lib.hid (by have := HY.out; have := HXS.out; omega), HL8⟩
        obtain rfl | hk2 : k = 2 ∨ k ≠ 2 := by omega
        · clear hk1
          go_wp2_with fail
          generalize (wr.alloc (.cells #[.int .i64 2, .int .i64 n, .string tx, .slice A3 ls.length c3] 35)) = wo at *
          clear k0 k1 k2 k3
          generalize hgo : wr.heap.size = go at *
          have HX0 := HXO
          have HB0 := HBO
          have HP0 := HPO
          have HO0 := HOB
          have HL0 := HLO
          refine (c_stop n HX0.out).mono ?_
          rintro en w4 ⟨rfl, hc9, hk9⟩
          have HX4 := Lib.hid hc9
          have HB4 := Lib.hid (hk9.blk HB0.out (by omega))
          have HP4 := Lib.hid (hk9.blk HP0.out (by omega))
          have HO4 := Lib.hid (hk9.blk HO0.out (by have := HG1.out; omega))
          have HL4 := Lib.hid (HL0.out.trans (hk9.below (B := w.heap.size) HL0.out.size (fun k hk => by have := HGB.out; omega)))
          clear hc9 hk9
          have o1 : w4.cell? ⟨go, 1, none⟩ = some (.int .i64 n) := (blk_cell HO4.out 1).trans rfl
          go_wp2_with fail
          refine (c_stop n HB4.out).mono ?_
          rintro en w6 ⟨rfl, hc9, hk9⟩
          have HB5 := Lib.hid hc9
          have HX5 := Lib.hid (hk9.blk HX4.out (by omega))
          have HP5 := Lib.hid (hk9.blk HP4.out (by omega))
          have HL5 := Lib.hid (HL4.out.trans (hk9.below (B := w.heap.size) HL4.out.size (fun k hk => by have := HGB.out; omega)))
          clear hc9 hk9
          clear HO0 HO4 o1
          have HL6 := HL5
          obtain ⟨s6, hs6⟩ : ∃ s6, s6 = s.stop n := ⟨_, rfl⟩
          obtain ⟨y, hy⟩ : ∃ y, y = x := ⟨_, rfl⟩
          have HSA6 : Hid (0 ≤ s6.a ∧ s6.a ≤ s.a + 1099511627776) := Lib.hid (by rw [hs6]; rw [St.stop_a]; have := HSA.out; omega)
          have HY : Hid (y.size ≤ x.size + 300) := Lib.hid (by rw [hy]; omega)
          have HX6 : Hid (BA w6 gb 53 s6 [.string y]) := by rw [hs6, hy]; exact HX5
          have HB6 : Hid (BA w6 (gb + 1) 29 s6 []) := by rw [hs6]; exact HB5
          have HP6 : Hid (PdAt w6 (gb + 1 + 1) 42 y) := by rw [hy]; exact HP5
          clear hs6 hy HX5 HB5 HP5
          clear HOB
          cases hgo6 : s6.go with
          | false =>
            go_wp2_with fail
            refine (c_at HX6.out).mono ?_
            rintro en w9 ⟨rfl, rfl⟩
            go_wp2_with fail
            refine (c_at HB6.out).mono ?_
            rintro en w9 ⟨rfl, rfl⟩
            go_wp2_with fail
            refine (c_fail HX6.out).mono ?_
            rintro en w7 ⟨rfl, hb9⟩
            have HX7 := Lib.hid ((Kp.of_below (F := fun _ => False) hb9).blk HX6.out (fun h => h))
            have HB7 := Lib.hid ((Kp.of_below (F := fun _ => False) hb9).blk HB6.out (fun h => h))
            have HP7 := Lib.hid ((Kp.of_below (F := fun _ => False) hb9).blk HP6.out (fun h => h))
            have HL7 := Lib.hid (HL6.out.trans (hb9.mono HL6.out.size))
            clear hb9
            go_wp2_with fail
            refine (c_fail HB7.out).mono ?_
            rintro en w8 ⟨rfl, hb9⟩
            have HX8 := Lib.hid ((Kp.of_below (F := fun _ => False) hb9).blk HX7.out (fun h => h))
            have HB8 := Lib.hid ((Kp.of_below (F := fun _ => False) hb9).blk HB7.out (fun h => h))
            have HP8 := Lib.hid ((Kp.of_below (F := fun _ => False) hb9).blk HP7.out (fun h => h))
            have HL8 := Lib.hid (HL7.out.trans (hb9.mono HL7.out.size))
            clear hb9
            go_wp2_with fail
            refine (c_going HX8.out).mono ?_
            rintro en w9 ⟨rfl, rfl⟩
            rw [hgo6]
            go_wp2_with fail
            refine (c_going HB8.out).mono ?_
            rintro en w9 ⟨rfl, rfl⟩
            rw [hgo6]
            go_wp2_with fail
            refine (c_okept HX8.out).mono ?_
            rintro en w9 ⟨rfl, rfl⟩
            go_wp2_with fail
            refine (kept_any (PdAt.c HP8.out)).mono ?_
            rintro en w9 ⟨rfl, rfl⟩
            go_wp2_with fail
            refine (c_odone_over hgo6 HX8.out).mono ?_
            rintro en w9 ⟨rfl, rfl⟩
            go_wp2_with fail
            refine (c_going HB8.out).mono ?_
            rintro en w9 ⟨rfl, rfl⟩
            rw [hgo6]
            go_wp2_with fail
            refine (kept_any (PdAt.c HP8.out)).mono ?_
            rintro en w9 ⟨rfl, rfl⟩
            go_wp2_with fail
            go_roundg (gk - 1)
            case measure => have := HQ.out; omega
            case rel => exact ⟨i + 1, s6, y, by have := HQ.out; omega, by omega, by rw [wrap64_in (by omega) (by have := HLN.out; omega)]; simp, HX8, HB8, HP8, Lib.hid (by have := HSA6.out; have := HSA.out; omega), Lib.hid (by have := HY.out; have := HXS.out; omega), HL8⟩
          | true =>
            go_wp2_with fail
            refine (c_at HX6.out).mono ?_
            rintro en w9 ⟨rfl, rfl⟩
            go_wp2_with fail
            refine (c_at HB6.out).mono ?_
            rintro en w9 ⟨rfl, rfl⟩
            go_wp2_with fail
            refine (c_fail HX6.out).mono ?_
            rintro en w7 ⟨rfl, hb9⟩
            have HX7 := Lib.hid ((Kp.of_below (F := fun _ => False) hb9).blk HX6.out (fun h => h))
            have HB7 := Lib.hid ((Kp.of_below (F := fun _ => False) hb9).blk HB6.out (fun h => h))
            have HP7 := Lib.hid ((Kp.of_below (F := fun _ => False) hb9).blk HP6.out (fun h => h))
            have HL7 := Lib.hid (HL6.out.trans (hb9.mono HL6.out.size))
            clear hb9
            go_wp2_with fail
            refine (c_fail HB7.out).mono ?_
            rintro en w8 ⟨rfl, hb9⟩
            have HX8 := Lib.hid ((Kp.of_below (F := fun _ => False) hb9).blk HX7.out (fun h => h))
            have HB8 := Lib.hid ((Kp.of_below (F := fun _ => False) hb9).blk HB7.out (fun h => h))
            have HP8 := Lib.hid ((Kp.of_below (F := fun _ => False) hb9).blk HP7.out (fun h => h))
            have HL8 := Lib.hid (HL7.out.trans (hb9.mono HL7.out.size))
            clear hb9
            go_wp2_with fail
            refine (c_going HX8.out).mono ?_
            rintro en w9 ⟨rfl, rfl⟩
            rw [hgo6]
            go_wp2_with fail
            refine (c_going HB8.out).mono ?_
            rintro en w9 ⟨rfl, rfl⟩
            rw [hgo6]
            go_wp2_with fail
            refine (c_okept HX8.out).mono ?_
            rintro en w9 ⟨rfl, rfl⟩
            go_wp2_with fail
            refine (kept_any (PdAt.c HP8.out)).mono ?_
            rintro en w9 ⟨rfl, rfl⟩
            go_wp2_with fail
            refine (c_odone_no hgo6 HX8.out).mono ?_
            rintro en w9 ⟨rfl, rfl⟩
            go_wp2_with fail
            refine (c_going HB8.out).mono ?_
            rintro en w9 ⟨rfl, rfl⟩
            rw [hgo6]
            go_wp2_with fail
            go_roundg (gk - 1)
            case measure => have := HQ.out; omega
            case rel => exact ⟨i + 1, s6, y, by have := HQ.out; omega, by omega, by rw [wrap64_in (by omega) (by have := HLN.out; omega)]; simp, HX8, HB8, HP8, Lib.hid (by have := HSA6.out; have := HSA.out; omega), Lib.hid (by have := HY.out; have := HXS.out; omega), HL8⟩
        obtain rfl | hk3 : k = 3 ∨ k ≠ 3 := by omega
        · clear hk1 hk2
          go_wp2_with fail
          generalize (wr.alloc (.cells #[.int .i64 3, .int .i64 n, .string tx, .slice A3 ls.length c3] 35)) = wo at *
          clear k0 k1 k2 k3
          generalize hgo : wr.heap.size = go at *
          have HX0 := HXO
          have HB0 := HBO
          have HP0 := HPO
          have HO0 := HOB
          have HL0 := HLO
          refine (c_end HX0.out).mono ?_
          rintro en w4 ⟨rfl, hc9, hk9⟩
          have HX4 := Lib.hid hc9
          have HB4 := Lib.hid (hk9.blk HB0.out (by omega))
          have HP4 := Lib.hid (hk9.blk HP0.out (by omega))
          have HO4 := Lib.hid (hk9.blk HO0.out (by have := HG1.out; omega))
          have HL4 := Lib.hid (HL0.out.trans (hk9.below (B := w.heap.size) HL0.out.size (fun k hk => by have := HGB.out; omega)))
          clear hc9 hk9
          go_wp2_with fail
          refine (c_end HB4.out).mono ?_
          rintro en w6 ⟨rfl, hc9, hk9⟩
          have HB5 := Lib.hid hc9
          have HX5 := Lib.hid (hk9.blk HX4.out (by omega))
          have HP5 := Lib.hid (hk9.blk HP4.out (by omega))
          have HL5 := Lib.hid (HL4.out.trans (hk9.below (B := w.heap.size) HL4.out.size (fun k hk => by have := HGB.out; omega)))
          clear hc9 hk9
          clear HO0 HO4 
          have HL6 := HL5
          obtain ⟨s6, hs6⟩ : ∃ s6, s6 = s.fin := ⟨_, rfl⟩
          obtain ⟨y, hy⟩ : ∃ y, y = x := ⟨_, rfl⟩
          have HSA6 : Hid (0 ≤ s6.a ∧ s6.a ≤ s.a + 1099511627776) := Lib.hid (by rw [hs6]; rw [St.fin_a]; have := HSA.out; omega)
          have HY : Hid (y.size ≤ x.size + 300) := Lib.hid (by rw [hy]; omega)
          have HX6 : Hid (BA w6 gb 53 s6 [.string y]) := by rw [hs6, hy]; exact HX5
          have HB6 : Hid (BA w6 (gb + 1) 29 s6 []) := by rw [hs6]; exact HB5
          have HP6 : Hid (PdAt w6 (gb + 1 + 1) 42 y) := by rw [hy]; exact HP5
          clear hs6 hy HX5 HB5 HP5
          clear HOB
          cases hgo6 : s6.go with
          | false =>
            go_wp2_with fail
            refine (c_at HX6.out).mono ?_
            rintro en w9 ⟨rfl, rfl⟩
            go_wp2_with fail
            refine (c_at HB6.out).mono ?_
            rintro en w9 ⟨rfl, rfl⟩
            go_wp2_with fail
            refine (c_fail HX6.out).mono ?_
            rintro en w7 ⟨rfl, hb9⟩
            have HX7 := Lib.hid ((Kp.of_below (F := fun _ => False) hb9).blk HX6.out (fun h => h))
            have HB7 := Lib.hid ((Kp.of_below (F := fun _ => False) hb9).blk HB6.out (fun h => h))
            have HP7 := Lib.hid ((Kp.of_below (F := fun _ => False) hb9).blk HP6.out (fun h => h))
            have HL7 := Lib.hid (HL6.out.trans (hb9.mono HL6.out.size))
            clear hb9
            go_wp2_with fail
            refine (c_fail HB7.out).mono ?_
            rintro en w8 ⟨rfl, hb9⟩
            have HX8 := Lib.hid ((Kp.of_below (F := fun _ => False) hb9).blk HX7.out (fun h => h))
            have HB8 := Lib.hid ((Kp.of_below (F := fun _ => False) hb9).blk HB7.out (fun h => h))
            have HP8 := Lib.hid ((Kp.of_below (F := fun _ => False) hb9).blk HP7.out (fun h => h))
            have HL8 := Lib.hid (HL7.out.trans (hb9.mono HL7.out.size))
            clear hb9
            go_wp2_with fail
            refine (c_going HX8.out).mono ?_
            rintro en w9 ⟨rfl, rfl⟩
            rw [hgo6]
            go_wp2_with fail
            refine (c_going HB8.out).mono ?_
            rintro en w9 ⟨rfl, rfl⟩
            rw [hgo6]
            go_wp2_with fail
            refine (c_okept HX8.out).mono ?_
            rintro en w9 ⟨rfl, rfl⟩
            go_wp2_with fail
            refine (kept_any (PdAt.c HP8.out)).mono ?_
            rintro en w9 ⟨rfl, rfl⟩
            go_wp2_with fail
            refine (c_odone_over hgo6 HX8.out).mono ?_
            rintro en w9 ⟨rfl, rfl⟩
            go_wp2_with fail
            refine (c_going HB8.out).mono ?_
            rintro en w9 ⟨rfl, rfl⟩
            rw [hgo6]
            go_wp2_with fail
            refine (kept_any (PdAt.c HP8.out)).mono ?_
            rintro en w9 ⟨rfl, rfl⟩
            go_wp2_with fail
            go_roundg (gk - 1)
            case measure => have := HQ.out; omega
            case rel => exact ⟨i + 1, s6, y, by have := HQ.out; omega, by omega, by rw [wrap64_in (by omega) (by have := HLN.out; omega)]; simp, HX8, HB8, HP8, Lib.hid (by have := HSA6.out; have := HSA.out; omega), Lib.hid (by have := HY.out; have := HXS.out; omega), HL8⟩
          | true =>
            go_wp2_with fail
            refine (c_at HX6.out).mono ?_
            rintro en w9 ⟨rfl, rfl⟩
            go_wp2_with fail
            refine (c_at HB6.out).mono ?_
            rintro en w9 ⟨rfl, rfl⟩
            go_wp2_with fail
            refine (c_fail HX6.out).mono ?_
            rintro en w7 ⟨rfl, hb9⟩
            have HX7 := Lib.hid ((Kp.of_below (F := fun _ => False) hb9).blk HX6.out (fun h => h))
            have HB7 := Lib.hid ((Kp.of_below (F := fun _ => False) hb9).blk HB6.out (fun h => h))
            have HP7 := Lib.hid ((Kp.of_below (F := fun _ => False) hb9).blk HP6.out (fun h => h))
            have HL7 := Lib.hid (HL6.out.trans (hb9.mono HL6.out.size))
            clear hb9
            go_wp2_with fail
            refine (c_fail HB7.out).mono ?_
            rintro en w8 ⟨rfl, hb9⟩
            have HX8 := Lib.hid ((Kp.of_below (F := fun _ => False) hb9).blk HX7.out (fun h => h))
            have HB8 := Lib.hid ((Kp.of_below (F := fun _ => False) hb9).blk HB7.out (fun h => h))
            have HP8 := Lib.hid ((Kp.of_below (F := fun _ => False) hb9).blk HP7.out (fun h => h))
            have HL8 := Lib.hid (HL7.out.trans (hb9.mono HL7.out.size))
            clear hb9
            go_wp2_with fail
            refine (c_going HX8.out).mono ?_
            rintro en w9 ⟨rfl, rfl⟩
            rw [hgo6]
            go_wp2_with fail
            refine (c_going HB8.out).mono ?_
            rintro en w9 ⟨rfl, rfl⟩
            rw [hgo6]
            go_wp2_with fail
            refine (c_okept HX8.out).mono ?_
            rintro en w9 ⟨rfl, rfl⟩
            go_wp2_with fail
            refine (kept_any (PdAt.c HP8.out)).mono ?_
            rintro en w9 ⟨rfl, rfl⟩
            go_wp2_with fail
            refine (c_odone_no hgo6 HX8.out).mono ?_
            rintro en w9 ⟨rfl, rfl⟩
            go_wp2_with fail
            refine (c_going HB8.out).mono ?_
            rintro en w9 ⟨rfl, rfl⟩
            rw [hgo6]
            go_wp2_with fail
            go_roundg (gk - 1)
            case measure => have := HQ.out; omega
            case rel => exact ⟨i + 1, s6, y, by have := HQ.out; omega, by omega, by rw [wrap64_in (by omega) (by have := HLN.out; omega)]; simp, HX8, HB8, HP8, Lib.hid (by have := HSA6.out; have := HSA.out; omega), Lib.hid (by have := HY.out; have := HXS.out; omega), HL8⟩
        obtain rfl | hk4 : k = 4 ∨ k ≠ 4 := by omega
        · clear hk1 hk2 hk3
          go_wp2_with fail
          generalize (wr.alloc (.cells #[.int .i64 4, .int .i64 n, .string tx, .slice A3 ls.length c3] 35)) = wo at *
          clear k0 k1 k2 k3
          generalize hgo : wr.heap.size = go at *
          have HX0 := HXO
          have HB0 := HBO
          have HP0 := HPO
          have HO0 := HOB
          have HL0 := HLO
          refine (c_okeep (u := tx) (by have := HXB.out; have := HTX.out; omega) HX0.out).mono ?_
          rintro en w4 ⟨rfl, hc9, hk9⟩
          have HX4 := Lib.hid hc9
          have HB4 := Lib.hid (hk9.blk HB0.out (by omega))
          have HP4 := Lib.hid (hk9.blk HP0.out (by omega))
          have HO4 := Lib.hid (hk9.blk HO0.out (by have := HG1.out; omega))
          have HL4 := Lib.hid (HL0.out.trans (hk9.below (B := w.heap.size) HL0.out.size (fun k hk => by have := HGB.out; omega)))
          clear hc9 hk9
          have o2 : w4.cell? ⟨go, 2, none⟩ = some (.string tx) := (blk_cell HO4.out 2).trans rfl
          go_wp2_with fail
          refine (c_keep (u := tx) (by have := HXB.out; have := HTX.out; omega) HP4.out).mono ?_
          rintro en w6 ⟨rfl, hc9, hk9⟩
          have HP5 := Lib.hid hc9
          have HX5 := Lib.hid (hk9.blk HX4.out (by omega))
          have HB5 := Lib.hid (hk9.blk HB4.out (by omega))
          have HL5 := Lib.hid (HL4.out.trans (hk9.below (B := w.heap.size) HL4.out.size (fun k hk => by have := HGB.out; omega)))
          clear hc9 hk9
          clear HO0 HO4 o2
          have HL6 := HL5
          obtain ⟨s6, hs6⟩ : ∃ s6, s6 = s := ⟨_, rfl⟩
          obtain ⟨y, hy⟩ : ∃ y, y = x ++ tx := ⟨_, rfl⟩
          have HSA6 : Hid (0 ≤ s6.a ∧ s6.a ≤ s.a + 1099511627776) := Lib.hid (by rw [hs6]; have := HSA.out; omega)
          have HY : Hid (y.size ≤ x.size + 300) := Lib.hid (by rw [hy]; rw [ByteArray.size_append]; have := HTX.out; omega)
          have HX6 : Hid (BA w6 gb 53 s6 [.string y]) := by rw [hs6, hy]; exact HX5
          have HB6 : Hid (BA w6 (gb + 1) 29 s6 []) := by rw [hs6]; exact HB5
          have HP6 : Hid (PdAt w6 (gb + 1 + 1) 42 y) := by rw [hy]; exact HP5
          clear hs6 hy HX5 HB5 HP5
          clear HOB
          cases hgo6 : s6.go with
          | false =>
            go_wp2_with fail
            refine (c_at HX6.out).mono ?_
            rintro en w9 ⟨rfl, rfl⟩
            go_wp2_with fail
            refine (c_at HB6.out).mono ?_
            rintro en w9 ⟨rfl, rfl⟩
            go_wp2_with fail
            refine (c_fail HX6.out).mono ?_
            rintro en w7 ⟨rfl, hb9⟩
            have HX7 := Lib.hid ((Kp.of_below (F := fun _ => False) hb9).blk HX6.out (fun h => h))
            have HB7 := Lib.hid ((Kp.of_below (F := fun _ => False) hb9).blk HB6.out (fun h => h))
            have HP7 := Lib.hid ((Kp.of_below (F := fun _ => False) hb9).blk HP6.out (fun h => h))
            have HL7 := Lib.hid (HL6.out.trans (hb9.mono HL6.out.size))
            clear hb9
            go_wp2_with fail
            refine (c_fail HB7.out).mono ?_
            rintro en w8 ⟨rfl, hb9⟩
            have HX8 := Lib.hid ((Kp.of_below (F := fun _ => False) hb9).blk HX7.out (fun h => h))
            have HB8 := Lib.hid ((Kp.of_below (F := fun _ => False) hb9).blk HB7.out (fun h => h))
            have HP8 := Lib.hid ((Kp.of_below (F := fun _ => False) hb9).blk HP7.out (fun h => h))
            have HL8 := Lib.hid (HL7.out.trans (hb9.mono HL7.out.size))
            clear hb9
            go_wp2_with fail
            refine (c_going HX8.out).mono ?_
            rintro en w9 ⟨rfl, rfl⟩
            rw [hgo6]
            go_wp2_with fail
            refine (c_going HB8.out).mono ?_
            rintro en w9 ⟨rfl, rfl⟩
            rw [hgo6]
            go_wp2_with fail
            refine (c_okept HX8.out).mono ?_
            rintro en w9 ⟨rfl, rfl⟩
            go_wp2_with fail
            refine (kept_any (PdAt.c HP8.out)).mono ?_
            rintro en w9 ⟨rfl, rfl⟩
            go_wp2_with fail
            refine (c_odone_over hgo6 HX8.out).mono ?_
            rintro en w9 ⟨rfl, rfl⟩
            go_wp2_with fail
            refine (c_going HB8.out).mono ?_
            rintro en w9 ⟨rfl, rfl⟩
            rw [hgo6]
            go_wp2_with fail
            refine (kept_any (PdAt.c HP8.out)).mono ?_
            rintro en w9 ⟨rfl, rfl⟩
            go_wp2_with fail
            go_roundg (gk - 1)
            case measure => have := HQ.out; omega
            case rel => exact ⟨i + 1, s6, y, by have := HQ.out; omega, by omega, by rw [wrap64_in (by omega) (by have := HLN.out; omega)]; simp, HX8, HB8, HP8, Lib.hid (by have := HSA6.out; have := HSA.out; omega), Lib.hid (by have := HY.out; have := HXS.out; omega), HL8⟩
          | true =>
            go_wp2_with fail
            refine (c_at HX6.out).mono ?_
            rintro en w9 ⟨rfl, rfl⟩
            go_wp2_with fail
            refine (c_at HB6.out).mono ?_
            rintro en w9 ⟨rfl, rfl⟩
            go_wp2_with fail
            refine (c_fail HX6.out).mono ?_
            rintro en w7 ⟨rfl, hb9⟩
            have HX7 := Lib.hid ((Kp.of_below (F := fun _ => False) hb9).blk HX6.out (fun h => h))
            have HB7 := Lib.hid ((Kp.of_below (F := fun _ => False) hb9).blk HB6.out (fun h => h))
            have HP7 := Lib.hid ((Kp.of_below (F := fun _ => False) hb9).blk HP6.out (fun h => h))
            have HL7 := Lib.hid (HL6.out.trans (hb9.mono HL6.out.size))
            clear hb9
            go_wp2_with fail
            refine (c_fail HB7.out).mono ?_
            rintro en w8 ⟨rfl, hb9⟩
            have HX8 := Lib.hid ((Kp.of_below (F := fun _ => False) hb9).blk HX7.out (fun h => h))
            have HB8 := Lib.hid ((Kp.of_below (F := fun _ => False) hb9).blk HB7.out (fun h => h))
            have HP8 := Lib.hid ((Kp.of_below (F := fun _ => False) hb9).blk HP7.out (fun h => h))
            have HL8 := Lib.hid (HL7.out.trans (hb9.mono HL7.out.size))
            clear hb9
            go_wp2_with fail
            refine (c_going HX8.out).mono ?_
            rintro en w9 ⟨rfl, rfl⟩
            rw [hgo6]
            go_wp2_with fail
            refine (c_going HB8.out).mono ?_
            rintro en w9 ⟨rfl, rfl⟩
            rw [hgo6]
            go_wp2_with fail
            refine (c_okept HX8.out).mono ?_
            rintro en w9 ⟨rfl, rfl⟩
            go_wp2_with fail
            refine (kept_any (PdAt.c HP8.out)).mono ?_
            rintro en w9 ⟨rfl, rfl⟩
            go_wp2_with fail
            refine (c_odone_no hgo6 HX8.out).mono ?_
            rintro en w9 ⟨rfl, rfl⟩
            go_wp2_with fail
            refine (c_going HB8.out).mono ?_
            rintro en w9 ⟨rfl, rfl⟩
            rw [hgo6]
            go_wp2_with fail
            go_roundg (gk - 1)
            case measure => have := HQ.out; omega
            case rel => exact ⟨i + 1, s6, y, by have := HQ.out; omega, by omega, by rw [wrap64_in (by omega) (by have := HLN.out; omega)]; simp, HX8, HB8, HP8, Lib.hid (by have := HSA6.out; have := HSA.out; omega), Lib.hid (by have := HY.out; have := HXS.out; omega), HL8⟩
        obtain rfl | hk5 : k = 5 ∨ k ≠ 5 := by omega
        · clear hk1 hk2 hk3 hk4
          go_wp2_with fail
          generalize (wr.alloc (.cells #[.int .i64 5, .int .i64 n, .string tx, .slice A3 ls.length c3] 35)) = wo at *
          clear k0 k1 k2 k3
          generalize hgo : wr.heap.size = go at *
          obtain ⟨m, hm⟩ : ∃ m, m = min n.toNat x.size := ⟨_, rfl⟩
          have HM := Lib.hid hm
          have hmn : m ≤ x.size := by omega
          clear hm
          have o1 : wo.drew.cell? ⟨go, 1, none⟩ = some (.int .i64 n) := (blk_cell HOB.out 1).trans rfl
          have HXD : Hid (BA wo.drew gb 53 s [.string x]) := HXO
          go_region_held3 (fun w' => w'.cell? ⟨go, 1, none⟩ = some (.int .i64 n)) (first | assumption | go_keep) (first
            | (go_at_call 25; with_reducible refine (c_ogive (w := wo.drew) (g := gb) (s := s) n m HM.out (by have := HXB.out; omega) HXD.out).mono ?_; rintro e w4 ⟨rfl, hc9, hk9⟩; have HX4 := Lib.hid hc9; have HB4 := Lib.hid (hk9.blk HBO.out (by omega)); have HP4 := Lib.hid (hk9.blk HPO.out (by omega)); have HO4 := Lib.hid (hk9.blk HOB.out (by have := HG1.out; omega)); have HL4 : Hid (Below w.heap.size w w4) := Lib.hid (HLO.out.trans (((Kp.refl (fun k => k = gb) wo).drew.trans hk9 (fun k h => .inl h)).below (B := w.heap.size) HLO.out.size (fun k hk => by have := HGB.out; omega))); have o4 : w4.cell? ⟨go, 1, none⟩ = some (.int .i64 n) := (blk_cell HO4.out 1).trans rfl; clear hc9 hk9)
            | (go_at_call 25; with_reducible refine (c_give (w := w4) (g := gb + 1 + 1) n m HM.out (by have := HXB.out; omega) HP4.out).mono ?_; rintro e w6 ⟨rfl, hc9, hk9⟩; have HP5 := Lib.hid hc9; have HB5 := Lib.hid (hk9.blk HB4.out (by omega)); have HX5 := Lib.hid (hk9.blk HX4.out (by omega)); have HO5 := Lib.hid (hk9.blk HO4.out (by have := HG1.out; omega)); have HL5 := Lib.hid (HL4.out.trans (hk9.below (B := w.heap.size) HL4.out.size (fun k hk => by have := HGB.out; omega))); have o5 : w6.cell? ⟨go, 1, none⟩ = some (.int .i64 n) := (blk_cell HO5.out 1).trans rfl; clear hc9 hk9)
            | (fail))
          clear o1 o4 o5 HO4 HO5
          have HL6 := HL5
          obtain ⟨s6, hs6⟩ : ∃ s6, s6 = s := ⟨_, rfl⟩
          obtain ⟨y, hy⟩ : ∃ y, y = x.extract m x.size := ⟨_, rfl⟩
          have HSA6 : Hid (0 ≤ s6.a ∧ s6.a ≤ s.a + 1099511627776) := Lib.hid (by rw [hs6]; have := HSA.out; omega)
          have HY : Hid (y.size ≤ x.size + 300) := Lib.hid (by rw [hy]; rw [ByteArray.size_extract]; omega)
          have HX6 : Hid (BA w6 gb 53 s6 [.string y]) := by rw [hs6, hy]; exact HX5
          have HB6 : Hid (BA w6 (gb + 1) 29 s6 []) := by rw [hs6]; exact HB5
          have HP6 : Hid (PdAt w6 (gb + 1 + 1) 42 y) := by rw [hy]; exact HP5
          clear hs6 hy HX5 HB5 HP5
          clear HOB
          cases hgo6 : s6.go with
          | false =>
            go_wp2_with fail
            refine (c_at HX6.out).mono ?_
            rintro en w9 ⟨rfl, rfl⟩
            go_wp2_with fail
            refine (c_at HB6.out).mono ?_
            rintro en w9 ⟨rfl, rfl⟩
            go_wp2_with fail
            refine (c_fail HX6.out).mono ?_
            rintro en w7 ⟨rfl, hb9⟩
            have HX7 := Lib.hid ((Kp.of_below (F := fun _ => False) hb9).blk HX6.out (fun h => h))
            have HB7 := Lib.hid ((Kp.of_below (F := fun _ => False) hb9).blk HB6.out (fun h => h))
            have HP7 := Lib.hid ((Kp.of_below (F := fun _ => False) hb9).blk HP6.out (fun h => h))
            have HL7 := Lib.hid (HL6.out.trans (hb9.mono HL6.out.size))
            clear hb9
            go_wp2_with fail
            refine (c_fail HB7.out).mono ?_
            rintro en w8 ⟨rfl, hb9⟩
            have HX8 := Lib.hid ((Kp.of_below (F := fun _ => False) hb9).blk HX7.out (fun h => h))
            have HB8 := Lib.hid ((Kp.of_below (F := fun _ => False) hb9).blk HB7.out (fun h => h))
            have HP8 := Lib.hid ((Kp.of_below (F := fun _ => False) hb9).blk HP7.out (fun h => h))
            have HL8 := Lib.hid (HL7.out.trans (hb9.mono HL7.out.size))
            clear hb9
            go_wp2_with fail
            refine (c_going HX8.out).mono ?_
            rintro en w9 ⟨rfl, rfl⟩
            rw [hgo6]
            go_wp2_with fail
            refine (c_going HB8.out).mono ?_
            rintro en w9 ⟨rfl, rfl⟩
            rw [hgo6]
            go_wp2_with fail
            refine (c_okept HX8.out).mono ?_
            rintro en w9 ⟨rfl, rfl⟩
            go_wp2_with fail
            refine (kept_any (PdAt.c HP8.out)).mono ?_
            rintro en w9 ⟨rfl, rfl⟩
            go_wp2_with fail
            refine (c_odone_over hgo6 HX8.out).mono ?_
            rintro en w9 ⟨rfl, rfl⟩
            go_wp2_with fail
            refine (c_going HB8.out).mono ?_
            rintro en w9 ⟨rfl, rfl⟩
            rw [hgo6]
            go_wp2_with fail
            refine (kept_any (PdAt.c HP8.out)).mono ?_
            rintro en w9 ⟨rfl, rfl⟩
            go_wp2_with fail
            go_roundg (gk - 1)
            case measure => have := HQ.out; omega
            case rel => exact ⟨i + 1, s6, y, by have := HQ.out; omega, by omega, by rw [wrap64_in (by omega) (by have := HLN.out; omega)]; simp, HX8, HB8, HP8, Lib.hid (by have := HSA6.out; have := HSA.out; omega), Lib.hid (by have := HY.out; have := HXS.out; omega), HL8⟩
          | true =>
            go_wp2_with fail
            refine (c_at HX6.out).mono ?_
            rintro en w9 ⟨rfl, rfl⟩
            go_wp2_with fail
            refine (c_at HB6.out).mono ?_
            rintro en w9 ⟨rfl, rfl⟩
            go_wp2_with fail
            refine (c_fail HX6.out).mono ?_
            rintro en w7 ⟨rfl, hb9⟩
            have HX7 := Lib.hid ((Kp.of_below (F := fun _ => False) hb9).blk HX6.out (fun h => h))
            have HB7 := Lib.hid ((Kp.of_below (F := fun _ => False) hb9).blk HB6.out (fun h => h))
            have HP7 := Lib.hid ((Kp.of_below (F := fun _ => False) hb9).blk HP6.out (fun h => h))
            have HL7 := Lib.hid (HL6.out.trans (hb9.mono HL6.out.size))
            clear hb9
            go_wp2_with fail
            refine (c_fail HB7.out).mono ?_
            rintro en w8 ⟨rfl, hb9⟩
            have HX8 := Lib.hid ((Kp.of_below (F := fun _ => False) hb9).blk HX7.out (fun h => h))
            have HB8 := Lib.hid ((Kp.of_below (F := fun _ => False) hb9).blk HB7.out (fun h => h))
            have HP8 := Lib.hid ((Kp.of_below (F := fun _ => False) hb9).blk HP7.out (fun h => h))
            have HL8 := Lib.hid (HL7.out.trans (hb9.mono HL7.out.size))
            clear hb9
            go_wp2_with fail
            refine (c_going HX8.out).mono ?_
            rintro en w9 ⟨rfl, rfl⟩
            rw [hgo6]
            go_wp2_with fail
            refine (c_going HB8.out).mono ?_
            rintro en w9 ⟨rfl, rfl⟩
            rw [hgo6]
            go_wp2_with fail
            refine (c_okept HX8.out).mono ?_
            rintro en w9 ⟨rfl, rfl⟩
            go_wp2_with fail
            refine (kept_any (PdAt.c HP8.out)).mono ?_
            rintro en w9 ⟨rfl, rfl⟩
            go_wp2_with fail
            refine (c_odone_no hgo6 HX8.out).mono ?_
            rintro en w9 ⟨rfl, rfl⟩
            go_wp2_with fail
            refine (c_going HB8.out).mono ?_
            rintro en w9 ⟨rfl, rfl⟩
            rw [hgo6]
            go_wp2_with fail
            go_roundg (gk - 1)
            case measure => have := HQ.out; omega
            case rel => exact ⟨i + 1, s6, y, by have := HQ.out; omega, by omega, by rw [wrap64_in (by omega) (by have := HLN.out; omega)]; simp, HX8, HB8, HP8, Lib.hid (by have := HSA6.out; have := HSA.out; omega), Lib.hid (by have := HY.out; have := HXS.out; omega), HL8⟩
        · skip
          have hn1 : (k == 1) = false := beq_eq_false_iff_ne.2 hk1
          have hn2 : (k == 2) = false := beq_eq_false_iff_ne.2 hk2
          have hn3 : (k == 3) = false := beq_eq_false_iff_ne.2 hk3
          have hn4 : (k == 4) = false := beq_eq_false_iff_ne.2 hk4
          have hn5 : (k == 5) = false := beq_eq_false_iff_ne.2 hk5
          go_wp2_with fail
          generalize (wr.alloc (.cells #[.int .i64 k, .int .i64 n, .string tx, .slice A3 ls.length c3] 35)) = w6 at *
          clear k0 k1 k2 k3
          generalize hgo : wr.heap.size = go at *
          have HX5 := HXO
          have HB5 := HBO
          have HP5 := HPO
          have HL5 := HLO
          have HL6 := HL5
          obtain ⟨s6, hs6⟩ : ∃ s6, s6 = s := ⟨_, rfl⟩
          obtain ⟨y, hy⟩ : ∃ y, y = x := ⟨_, rfl⟩
          have HSA6 : Hid (0 ≤ s6.a ∧ s6.a ≤ s.a + 1099511627776) := Lib.hid (by rw [hs6]; have := HSA.out; omega)
          have HY : Hid (y.size ≤ x.size + 300) := Lib.hid (by rw [hy]; omega)
          have HX6 : Hid (BA w6 gb 53 s6 [.string y]) := by rw [hs6, hy]; exact HX5
          have HB6 : Hid (BA w6 (gb + 1) 29 s6 []) := by rw [hs6]; exact HB5
          have HP6 : Hid (PdAt w6 (gb + 1 + 1) 42 y) := by rw [hy]; exact HP5
          clear hs6 hy HX5 HB5 HP5
          clear HOB
          cases hgo6 : s6.go with
          | false =>
            go_wp2_with fail
            refine (c_at HX6.out).mono ?_
            rintro en w9 ⟨rfl, rfl⟩
            go_wp2_with fail
            refine (c_at HB6.out).mono ?_
            rintro en w9 ⟨rfl, rfl⟩
            go_wp2_with fail
            refine (c_fail HX6.out).mono ?_
            rintro en w7 ⟨rfl, hb9⟩
            have HX7 := Lib.hid ((Kp.of_below (F := fun _ => False) hb9).blk HX6.out (fun h => h))
            have HB7 := Lib.hid ((Kp.of_below (F := fun _ => False) hb9).blk HB6.out (fun h => h))
            have HP7 := Lib.hid ((Kp.of_below (F := fun _ => False) hb9).blk HP6.out (fun h => h))
            have HL7 := Lib.hid (HL6.out.trans (hb9.mono HL6.out.size))
            clear hb9
            go_wp2_with fail
            refine (c_fail HB7.out).mono ?_
            rintro en w8 ⟨rfl, hb9⟩
            have HX8 := Lib.hid ((Kp.of_below (F := fun _ => False) hb9).blk HX7.out (fun h => h))
            have HB8 := Lib.hid ((Kp.of_below (F := fun _ => False) hb9).blk HB7.out (fun h => h))
            have HP8 := Lib.hid ((Kp.of_below (F := fun _ => False) hb9).blk HP7.out (fun h => h))
            have HL8 := Lib.hid (HL7.out.trans (hb9.mono HL7.out.size))
            clear hb9
            go_wp2_with fail
            refine (c_going HX8.out).mono ?_
            rintro en w9 ⟨rfl, rfl⟩
            rw [hgo6]
            go_wp2_with fail
            refine (c_going HB8.out).mono ?_
            rintro en w9 ⟨rfl, rfl⟩
            rw [hgo6]
            go_wp2_with fail
            refine (c_okept HX8.out).mono ?_
            rintro en w9 ⟨rfl, rfl⟩
            go_wp2_with fail
            refine (kept_any (PdAt.c HP8.out)).mono ?_
            rintro en w9 ⟨rfl, rfl⟩
            go_wp2_with fail
            refine (c_odone_over hgo6 HX8.out).mono ?_
            rintro en w9 ⟨rfl, rfl⟩
            go_wp2_with fail
            refine (c_going HB8.out).mono ?_
            rintro en w9 ⟨rfl, rfl⟩
            rw [hgo6]
            go_wp2_with fail
            refine (kept_any (PdAt.c HP8.out)).mono ?_
            rintro en w9 ⟨rfl, rfl⟩
            go_wp2_with fail
            go_roundg (gk - 1)
            case measure => have := HQ.out; omega
            case rel => exact ⟨i + 1, s6, y, by have := HQ.out; omega, by omega, by rw [wrap64_in (by omega) (by have := HLN.out; omega)]; simp, HX8, HB8, HP8, Lib.hid (by have := HSA6.out; have := HSA.out; omega), Lib.hid (by have := HY.out; have := HXS.out; omega), HL8⟩
          | true =>
            go_wp2_with fail
            refine (c_at HX6.out).mono ?_
            rintro en w9 ⟨rfl, rfl⟩
            go_wp2_with fail
            refine (c_at HB6.out).mono ?_
            rintro en w9 ⟨rfl, rfl⟩
            go_wp2_with fail
            refine (c_fail HX6.out).mono ?_
            rintro en w7 ⟨rfl, hb9⟩
            have HX7 := Lib.hid ((Kp.of_below (F := fun _ => False) hb9).blk HX6.out (fun h => h))
            have HB7 := Lib.hid ((Kp.of_below (F := fun _ => False) hb9).blk HB6.out (fun h => h))
            have HP7 := Lib.hid ((Kp.of_below (F := fun _ => False) hb9).blk HP6.out (fun h => h))
            have HL7 := Lib.hid (HL6.out.trans (hb9.mono HL6.out.size))
            clear hb9
            go_wp2_with fail
            refine (c_fail HB7.out).mono ?_
            rintro en w8 ⟨rfl, hb9⟩
            have HX8 := Lib.hid ((Kp.of_below (F := fun _ => False) hb9).blk HX7.out (fun h => h))
            have HB8 := Lib.hid ((Kp.of_below (F := fun _ => False) hb9).blk HB7.out (fun h => h))
            have HP8 := Lib.hid ((Kp.of_below (F := fun _ => False) hb9).blk HP7.out (fun h => h))
            have HL8 := Lib.hid (HL7.out.trans (hb9.mono HL7.out.size))
            clear hb9
            go_wp2_with fail
            refine (c_going HX8.out).mono ?_
            rintro en w9 ⟨rfl, rfl⟩
            rw [hgo6]
            go_wp2_with fail
            refine (c_going HB8.out).mono ?_
            rintro en w9 ⟨rfl, rfl⟩
            rw [hgo6]
            go_wp2_with fail
            refine (c_okept HX8.out).mono ?_
            rintro en w9 ⟨rfl, rfl⟩
            go_wp2_with fail
            refine (kept_any (PdAt.c HP8.out)).mono ?_
            rintro en w9 ⟨rfl, rfl⟩
            go_wp2_with fail
            refine (c_odone_no hgo6 HX8.out).mono ?_
            rintro en w9 ⟨rfl, rfl⟩
            go_wp2_with fail
            refine (c_going HB8.out).mono ?_
            rintro en w9 ⟨rfl, rfl⟩
            rw [hgo6]
            go_wp2_with fail
            go_roundg (gk - 1)
            case measure => have := HQ.out; omega
            case rel => exact ⟨i + 1, s6, y, by have := HQ.out; omega, by omega, by rw [wrap64_in (by omega) (by have := HLN.out; omega)]; simp, HX8, HB8, HP8, Lib.hid (by have := HSA6.out; have := HSA.out; omega), Lib.hid (by have := HY.out; have := HXS.out; omega), HL8⟩
      · obtain rfl : i = l.length := by omega
        have hd : decide ((l.length : Int) < (l.length : Int)) = false := by simp
        go_wp2_with fail
        go_ret
        exact ⟨rfl, HB.out⟩
end Go.Proofs.Ytfknlgjfhdphjaa
