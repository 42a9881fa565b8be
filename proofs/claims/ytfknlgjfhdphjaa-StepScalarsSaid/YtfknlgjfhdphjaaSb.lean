/- The law StepBase, walked. -/
import Derived.Test.YtfknlgjfhdphjaaSv
namespace Go.Proofs.Ytfknlgjfhdphjaa
open Go.RowKit Go.Proofs.YtfknlgjfhdphjaaW.PrintWords Go.Proofs.YtfknlgjfhdphjaaW.PrintMore
set_option linter.unusedVariables false
set_option linter.unusedSimpArgs false
abbrev Ops (w : World) (A : Option Addr) (l : List PStepBase.S35) : Prop := Kd.C PStepBase.k35 w A l.length l
/-- The op at a place: its cells, and its list. -/
theorem ops_at {w : World} {A : Option Addr} {l : List PStepBase.S35} (h : Ops w A l) (i : Nat) (hi : i < l.length) : ∃ (ad : Addr) (A3 : Option Addr) (c3 : Nat) (o : PStepBase.S35), l[i]? = some o ∧ A = some ad ∧ w.cell? (ad.add (i * 4)) = some (.int .i64 o.f0) ∧ w.cell? ⟨(ad.add (i * 4)).block, (ad.add (i * 4)).off + 1, none⟩ = some (.int .i64 o.f1) ∧ w.cell? ⟨(ad.add (i * 4)).block, (ad.add (i * 4)).off + 2, none⟩ = some (.string o.f2) ∧ w.cell? ⟨(ad.add (i * 4)).block, (ad.add (i * 4)).off + 3, none⟩ = some (.slice A3 o.f3.length c3) ∧ o.f3.length ≤ c3 ∧ (Kd.int .u32).C w A3 o.f3.length o.f3 := by
  obtain ⟨ad, A3, c3, h1, h2, h3, h4, h5, h6, h7⟩ := PStepBase.at_T35 h (i : Int) (by omega) (by omega)
  have hrd : PStepBase.rd_T35 l (i : Int) = l[i] := by
    rw [PStepBase.rd_T35, Int.toNat_natCast, List.getD_eq_getElem?_getD, List.getElem?_eq_getElem hi]; rfl
  rw [hrd] at h2 h3 h4 h5 h6 h7
  rw [Int.toNat_natCast] at h2 h3 h4 h5
  exact ⟨ad, A3, c3, l[i], List.getElem?_eq_getElem hi, h1, h2, h3, h4, h5, h6, h7⟩
theorem great_any (A : Option Addr) (c : Nat) (l : List PStepBase.S35) (hc : l.length ≤ c) (w : World) (h : Ops w A l) : ∃ r, (r = false → l.length ≤ 300 ∧ ∀ o ∈ l, fine o) ∧ Calls Try.prog 14 #[.slice A l.length c] w fun e w' => e = .returned (.bool r) ∧ Below w.heap.size w w' := by
  obtain ⟨k, r, h1, h2⟩ := great_f l
  exact ⟨r, h2, PStepBase.pilcrowlaw02_great.calls k A c l r w h hc h1⟩
theorem rgoing_yes {w : World} {g T : Nat} {a f : Int} (h : BsAt w g T a 0 f false []) : Calls Try.prog 22 #[.pointer (some ⟨g, 0, none⟩)] w fun en w' => en = .returned (.bool true) ∧ w = w' := by
  have c1 := h.c1
  have c3 := h.c3
  clear h
  go_enter Try.func22, Try.ntmps22
  go_wp2
  go_ret
  exact ⟨rfl, rfl⟩
theorem rgoing_err {w : World} {g T : Nat} {a e f : Int} {d : Bool} (he : (e == 0) = false) (h : BsAt w g T a e f d []) : Calls Try.prog 22 #[.pointer (some ⟨g, 0, none⟩)] w fun en w' => en = .returned (.bool false) ∧ w = w' := by
  have c1 := h.c1
  have c3 := h.c3
  clear h
  go_enter Try.func22, Try.ntmps22
  go_wp2
  go_ret
  exact ⟨rfl, rfl⟩
theorem rgoing_end {w : World} {g T : Nat} {a f : Int} (h : BsAt w g T a 0 f true []) : Calls Try.prog 22 #[.pointer (some ⟨g, 0, none⟩)] w fun en w' => en = .returned (.bool false) ∧ w = w' := by
  have c1 := h.c1
  have c3 := h.c3
  clear h
  go_enter Try.func22, Try.ntmps22
  go_wp2
  go_ret
  exact ⟨rfl, rfl⟩
theorem c_rgoing {w : World} {g T : Nat} {s : St} (h : BA w g T s []) : Calls Try.prog 22 #[.pointer (some ⟨g, 0, none⟩)] w fun en w' => en = .returned (.bool s.go) ∧ w = w' := by
  obtain ⟨a, e, f, d⟩ := s
  by_cases he : e = 0
  · subst he
    cases d
    · exact rgoing_yes h
    · exact rgoing_end h
  · have h0 : (e == 0) = false := beq_eq_false_iff_ne.2 he
    have hg : St.go ⟨a, e, f, d⟩ = false := by simp only [St.go, h0, Bool.false_and]
    rw [hg]
    exact rgoing_err h0 h
theorem BsAt.alloc' {w : World} {g T : Nat} {a e f : Int} {d : Bool} {rest : List Value} (h : BsAt w g T a e f d rest) (o : Obj) : BsAt (w.alloc o) g T a e f d rest := by
  have h1 := heap_alloc_old w o h.lt
  exact h1.trans h
theorem c_do {w0 W : World} {g : Nat} {s : St} (h : BA W g 32 s []) (hB : Below w0.heap.size w0 W) (hg : w0.heap.size ≤ g) (k n : Int) (hk : 1 ≤ k ∧ k ≤ 3) (hn : n ≤ 1099511627776) (h0 : 0 ≤ s.a) (h1 : s.a ≤ 1000000000000000) :
    Calls Try.prog 18 #[.pointer (some ⟨g, 0, none⟩), .int .i64 k, .int .i64 n] W fun en w' => en = .returned (.tuple #[]) ∧ BA w' g 32 (s.act k n) [] ∧ Kp (fun i => i = g) W w' := by
  refine (PStepBase.pilcrowref02_Base_Do.calls g s.a s.e s.f s.d k n _ _ _ _ w0 W ⟨h, hg⟩ hB (do_f s k n hn h0 h1 hk)).mono ?_
  rintro en w' ⟨he, hI, hb, hk⟩
  exact ⟨he, hI.1, hb.os.trans hB.os.symm, hb.tape.trans hB.tape.symm, hb.output.trans hB.output.symm, hk.1, fun i hi hn => hk.2 i hi hn (by simp)⟩
set_option maxHeartbeats 8000000 in
theorem base_all (A : Option Addr) (c : Nat) (l : List PStepBase.S35) (hc : l.length ≤ c) {w : World} (h : Ops w A l) : Calls Try.prog 3 #[.slice A l.length c] w fun en w' => en = .returned (.bool true) ∧ Below w.heap.size w w' := by
  have heq := eqF
  have hu35 := Try.underlying35
  have HOP := Lib.hid h
  have HC := Lib.hid hc
  clear h hc
  go_enter Try.func3, Try.ntmps3
  go_wp2_with fail
  refine (sawake_any w).mono ?_
  rintro en w1 ⟨rfl, hb⟩
  have HB1 := Lib.hid hb
  have HOP1 := Lib.hid (Kd.C_below HOP.out hb)
  clear hb
  go_wp2_with fail
  obtain ⟨r, hr, hcall⟩ := great_any A c l HC.out w1 HOP1.out
  refine hcall.mono ?_
  clear hcall
  rintro en w2 ⟨rfl, hb⟩
  have HB2 := Lib.hid (HB1.out.trans (hb.mono (by have := HB1.out.size; omega)))
  clear hb
  cases r with
  | true =>
    go_wp2_with fail
    refine (sawake_any w2).mono ?_
    rintro en w3 ⟨rfl, hb⟩
    have HB3 := Lib.hid (HB2.out.trans (hb.mono (by have := HB2.out.size; omega)))
    clear hb
    go_wp2_with fail
    go_ret
    exact ⟨rfl, HB3.out⟩
  | false =>
    obtain ⟨hlen, hfine⟩ := hr rfl
    have HFN := Lib.hid hfine
    have HLN := Lib.hid hlen
    clear hfine hr hlen
    go_wp2_with fail
    have hb3 : BA ((w2.alloc (.cells #[.int .i64 0, .int .i64 0, .int .i64 0, .bool false] 29)).alloc (.cells #[.int .i64 0, .int .i64 0, .int .i64 0, .bool false] 32)) w2.heap.size 29 ⟨0, 0, 0, false⟩ [] := heap_alloc2_old w2 _ _
    have hm3 : BA ((w2.alloc (.cells #[.int .i64 0, .int .i64 0, .int .i64 0, .bool false] 29)).alloc (.cells #[.int .i64 0, .int .i64 0, .int .i64 0, .bool false] 32)) (w2.heap.size + 1) 32 ⟨0, 0, 0, false⟩ [] := heap_alloc2_new w2 _ _
    have hl3 : Below w.heap.size w ((w2.alloc (.cells #[.int .i64 0, .int .i64 0, .int .i64 0, .bool false] 29)).alloc (.cells #[.int .i64 0, .int .i64 0, .int .i64 0, .bool false] 32)) := below_alloc (below_alloc HB2.out _) _
    have HGB := Lib.hid (show w.heap.size ≤ w2.heap.size from HB2.out.size)
    have HB3 := Lib.hid hb3
    have HM3 := Lib.hid hm3
    have HL3 := Lib.hid hl3
    clear hb3 hm3 hl3
    generalize ((w2.alloc (.cells #[.int .i64 0, .int .i64 0, .int .i64 0, .bool false] 29)).alloc (.cells #[.int .i64 0, .int .i64 0, .int .i64 0, .bool false] 32)) = w3 at *
    generalize hgb : w2.heap.size = gb at *
    go_loopg [18] (l.length + 1) (fun q k wr => ∃ (i : Nat) (s : St), q + i = l.length + 1 ∧ i ≤ l.length ∧ k = .int .i64 i ∧ Hid (BA wr gb 29 s []) ∧ Hid (BA wr (gb + 1) 32 s []) ∧ Hid (0 ≤ s.a ∧ s.a ≤ (i : Int) * 1099511627776) ∧ Hid (Below w.heap.size w wr))
    case atStart => exact ⟨0, ⟨0, 0, 0, false⟩, rfl, Nat.zero_le _, rfl, HB3, HM3, Lib.hid (by simp), HL3⟩
    case round =>
      clear HB3 HM3 HL3
      obtain ⟨i, s, hq, hle, rfl, HBB, HMM, HSA, HB⟩ := hrel
      have HQ := Lib.hid hq
      clear hq
      by_cases hi : i < l.length
      · have hi2 : (i : Int) < (l.length : Int) := by omega
        have h0i : (0 : Int) ≤ (i : Int) := by omega
        have hd : decide ((i : Int) < (l.length : Int)) = true := decide_eq_true hi2
        obtain ⟨ad, A3, c3, o, ho, rfl, k0, k1, k2, k3, r1', r2'⟩ := ops_at (Kd.C_below HOP.out HB.out) i hi
        have hfo := HFN.out o (List.mem_of_getElem? ho)
        obtain ⟨k, n, tx, ls⟩ := o
        simp only at k0 k1 k2 k3
        have HN : Hid (n ≤ 1099511627776) := Lib.hid hfo.2.2
        have HA1 : Hid (s.a ≤ 1000000000000000) := Lib.hid (by have := HSA.out.2; have := HLN.out; omega)
        clear hfo ho
        clear r1' r2'
        have HOB : Hid ((wr.alloc (.cells #[.int .i64 k, .int .i64 n, .string tx, .slice A3 ls.length c3] 35)).heap[wr.heap.size]? = some (.cells #[.int .i64 k, .int .i64 n, .string tx, .slice A3 ls.length c3] 35)) := Lib.hid (heap_alloc_new wr _)
        have HBO := Lib.hid (BsAt.alloc' HBB.out (.cells #[.int .i64 k, .int .i64 n, .string tx, .slice A3 ls.length c3] 35))
        have HMO := Lib.hid (BsAt.alloc' HMM.out (.cells #[.int .i64 k, .int .i64 n, .string tx, .slice A3 ls.length c3] 35))
        have HLO := Lib.hid (below_alloc HB.out (.cells #[.int .i64 k, .int .i64 n, .string tx, .slice A3 ls.length c3] 35))
        have HG1 := Lib.hid (BsAt.lt HBB.out)
        have HG2 := Lib.hid (BsAt.lt HMM.out)
        obtain rfl | hk1 : k = 1 ∨ k ≠ 1 := by omega
        · skip
          go_wp2_with fail
          generalize (wr.alloc (.cells #[.int .i64 1, .int .i64 n, .string tx, .slice A3 ls.length c3] 35)) = wo at *
          clear k0 k1 k2 k3
          generalize hgo : wr.heap.size = go at *
          refine (c_eat n HN.out HSA.out.1 HA1.out HBO.out).mono ?_
          rintro en w5 ⟨rfl, hb5, hk5⟩
          have HB5 := Lib.hid hb5
          have HM5 := Lib.hid (hk5.blk HMO.out (by omega))
          have HO5 := Lib.hid (hk5.blk HOB.out (by have := HG1.out; omega))
          have HL5 := Lib.hid (HLO.out.trans (hk5.below (B := w.heap.size) HLO.out.size (fun k hk => by have := HGB.out; omega)))
          clear hb5 hk5
          have o0 : w5.cell? ⟨go, 0, none⟩ = some (.int .i64 1) := (blk_cell HO5.out 0).trans rfl
          have o1 : w5.cell? ⟨go, 1, none⟩ = some (.int .i64 n) := (blk_cell HO5.out 1).trans rfl
          go_wp2_with fail
          clear o0 o1
          refine (c_do (w0 := w) HM5.out HL5.out (by have := HGB.out; omega) 1 n (by omega) HN.out HSA.out.1 HA1.out).mono ?_
          rintro en w6 ⟨rfl, hm6, hk6⟩
          have HM6 : Hid (BA w6 (gb + 1) 32 (s.eat n) []) := Lib.hid hm6
          have HB6 := Lib.hid (hk6.blk HB5.out (by omega))
          have HL6 := Lib.hid (HL5.out.trans (hk6.below (B := w.heap.size) HL5.out.size (fun k hk => by have := HGB.out; omega)))
          clear hm6 hk6
          have HSA6 : Hid (0 ≤ (s.eat n).a ∧ (s.eat n).a ≤ s.a + 1099511627776) := Lib.hid (s.act_a 1 n HN.out HSA.out.1)
          generalize hs6 : (s.eat n) = s6 at *
          have huF := Try.underlying27
          have HDR : Hid (Below w6.heap.size w6 w6.drew) := Lib.hid (((Kp.refl (fun _ => False) w6).drew).below (Nat.le_refl _) (fun _ h => h.elim))
          have HB7 : Hid (BA w6.drew gb 29 s6 []) := HB6
          have HM7 : Hid (BA w6.drew (gb + 1) 32 s6 []) := HM6
          have HL7 := Lib.hid (HL6.out.trans (HDR.out.mono HL6.out.size))
          have hS7 : w6.drew.cell? ⟨gb + 1, 0, none⟩ = some (.int .i64 s6.a) ∧ w6.drew.cell? ⟨gb + 1, 1, none⟩ = some (.int .i64 s6.e) ∧ w6.drew.cell? ⟨gb + 1, 2, none⟩ = some (.int .i64 s6.f) := ⟨HM7.out.c0, HM7.out.c1, HM7.out.c2⟩
          go_wp2_with fail
          go_region_held3 (fun w' => w'.cell? ⟨gb + 1, 0, none⟩ = some (.int .i64 s6.a) ∧ w'.cell? ⟨gb + 1, 1, none⟩ = some (.int .i64 s6.e) ∧ w'.cell? ⟨gb + 1, 2, none⟩ = some (.int .i64 s6.f)) (first | assumption | go_keep) (first
            | (go_at_call 19; refine (c_at (w := w6.drew) HB7.out).mono ?_; rintro e w7 ⟨rfl, rfl⟩)
            | (go_at_call 20; refine (c_fail (w := w6.drew) HB7.out).mono ?_; rintro e w8 ⟨rfl, hb8⟩; have HB8 : Hid (BA w8 gb 29 s6 []) := Lib.hid ((Kp.of_below (F := fun _ => False) hb8).blk HB7.out (fun h => h)); have HM8 : Hid (BA w8 (gb + 1) 32 s6 []) := Lib.hid ((Kp.of_below (F := fun _ => False) hb8).blk HM7.out (fun h => h)); have HL8 := Lib.hid (HL7.out.trans (hb8.mono HL7.out.size)); have hS8 : w8.cell? ⟨gb + 1, 0, none⟩ = some (.int .i64 s6.a) ∧ w8.cell? ⟨gb + 1, 1, none⟩ = some (.int .i64 s6.e) ∧ w8.cell? ⟨gb + 1, 2, none⟩ = some (.int .i64 s6.f) := ⟨HM8.out.c0, HM8.out.c1, HM8.out.c2⟩; clear hb8)
            | (go_at_call 21; refine (c_going (w := w8) HB8.out).mono ?_; rintro e w9 ⟨rfl, rfl⟩)
            | (go_at_call 22; refine (c_rgoing (w := w8) HM8.out).mono ?_; rintro e w9 ⟨rfl, rfl⟩))
          go_wp2_with fail
          go_roundg (gk - 1)
          case measure => have := HQ.out; omega
          case rel => exact ⟨i + 1, s6, by have := HQ.out; omega, by omega, by rw [wrap64_in (by omega) (by have := HLN.out; omega)]; simp, HB8, HM8, Lib.hid (by have := HSA6.out; have := HSA.out; omega), HL8⟩
        obtain rfl | hk2 : k = 2 ∨ k ≠ 2 := by omega
        · clear hk1
          go_wp2_with fail
          generalize (wr.alloc (.cells #[.int .i64 2, .int .i64 n, .string tx, .slice A3 ls.length c3] 35)) = wo at *
          clear k0 k1 k2 k3
          generalize hgo : wr.heap.size = go at *
          refine (c_stop n HBO.out).mono ?_
          rintro en w5 ⟨rfl, hb5, hk5⟩
          have HB5 := Lib.hid hb5
          have HM5 := Lib.hid (hk5.blk HMO.out (by omega))
          have HO5 := Lib.hid (hk5.blk HOB.out (by have := HG1.out; omega))
          have HL5 := Lib.hid (HLO.out.trans (hk5.below (B := w.heap.size) HLO.out.size (fun k hk => by have := HGB.out; omega)))
          clear hb5 hk5
          have o0 : w5.cell? ⟨go, 0, none⟩ = some (.int .i64 2) := (blk_cell HO5.out 0).trans rfl
          have o1 : w5.cell? ⟨go, 1, none⟩ = some (.int .i64 n) := (blk_cell HO5.out 1).trans rfl
          go_wp2_with fail
          clear o0 o1
          refine (c_do (w0 := w) HM5.out HL5.out (by have := HGB.out; omega) 2 n (by omega) HN.out HSA.out.1 HA1.out).mono ?_
          rintro en w6 ⟨rfl, hm6, hk6⟩
          have HM6 : Hid (BA w6 (gb + 1) 32 (s.stop n) []) := Lib.hid hm6
          have HB6 := Lib.hid (hk6.blk HB5.out (by omega))
          have HL6 := Lib.hid (HL5.out.trans (hk6.below (B := w.heap.size) HL5.out.size (fun k hk => by have := HGB.out; omega)))
          clear hm6 hk6
          have HSA6 : Hid (0 ≤ (s.stop n).a ∧ (s.stop n).a ≤ s.a + 1099511627776) := Lib.hid (s.act_a 2 n HN.out HSA.out.1)
          generalize hs6 : (s.stop n) = s6 at *
          have huF := Try.underlying27
          have HDR : Hid (Below w6.heap.size w6 w6.drew) := Lib.hid (((Kp.refl (fun _ => False) w6).drew).below (Nat.le_refl _) (fun _ h => h.elim))
          have HB7 : Hid (BA w6.drew gb 29 s6 []) := HB6
          have HM7 : Hid (BA w6.drew (gb + 1) 32 s6 []) := HM6
          have HL7 := Lib.hid (HL6.out.trans (HDR.out.mono HL6.out.size))
          have hS7 : w6.drew.cell? ⟨gb + 1, 0, none⟩ = some (.int .i64 s6.a) ∧ w6.drew.cell? ⟨gb + 1, 1, none⟩ = some (.int .i64 s6.e) ∧ w6.drew.cell? ⟨gb + 1, 2, none⟩ = some (.int .i64 s6.f) := ⟨HM7.out.c0, HM7.out.c1, HM7.out.c2⟩
          go_wp2_with fail
          go_region_held3 (fun w' => w'.cell? ⟨gb + 1, 0, none⟩ = some (.int .i64 s6.a) ∧ w'.cell? ⟨gb + 1, 1, none⟩ = some (.int .i64 s6.e) ∧ w'.cell? ⟨gb + 1, 2, none⟩ = some (.int .i64 s6.f)) (first | assumption | go_keep) (first
            | (go_at_call 19; refine (c_at (w := w6.drew) HB7.out).mono ?_; rintro e w7 ⟨rfl, rfl⟩)
            | (go_at_call 20; refine (c_fail (w := w6.drew) HB7.out).mono ?_; rintro e w8 ⟨rfl, hb8⟩; have HB8 : Hid (BA w8 gb 29 s6 []) := Lib.hid ((Kp.of_below (F := fun _ => False) hb8).blk HB7.out (fun h => h)); have HM8 : Hid (BA w8 (gb + 1) 32 s6 []) := Lib.hid ((Kp.of_below (F := fun _ => False) hb8).blk HM7.out (fun h => h)); have HL8 := Lib.hid (HL7.out.trans (hb8.mono HL7.out.size)); have hS8 : w8.cell? ⟨gb + 1, 0, none⟩ = some (.int .i64 s6.a) ∧ w8.cell? ⟨gb + 1, 1, none⟩ = some (.int .i64 s6.e) ∧ w8.cell? ⟨gb + 1, 2, none⟩ = some (.int .i64 s6.f) := ⟨HM8.out.c0, HM8.out.c1, HM8.out.c2⟩; clear hb8)
            | (go_at_call 21; refine (c_going (w := w8) HB8.out).mono ?_; rintro e w9 ⟨rfl, rfl⟩)
            | (go_at_call 22; refine (c_rgoing (w := w8) HM8.out).mono ?_; rintro e w9 ⟨rfl, rfl⟩))
          go_wp2_with fail
          go_roundg (gk - 1)
          case measure => have := HQ.out; omega
          case rel => exact ⟨i + 1, s6, by have := HQ.out; omega, by omega, by rw [wrap64_in (by omega) (by have := HLN.out; omega)]; simp, HB8, HM8, Lib.hid (by have := HSA6.out; have := HSA.out; omega), HL8⟩
        obtain rfl | hk3 : k = 3 ∨ k ≠ 3 := by omega
        · clear hk1 hk2
          go_wp2_with fail
          generalize (wr.alloc (.cells #[.int .i64 3, .int .i64 n, .string tx, .slice A3 ls.length c3] 35)) = wo at *
          clear k0 k1 k2 k3
          generalize hgo : wr.heap.size = go at *
          refine (c_end HBO.out).mono ?_
          rintro en w5 ⟨rfl, hb5, hk5⟩
          have HB5 := Lib.hid hb5
          have HM5 := Lib.hid (hk5.blk HMO.out (by omega))
          have HO5 := Lib.hid (hk5.blk HOB.out (by have := HG1.out; omega))
          have HL5 := Lib.hid (HLO.out.trans (hk5.below (B := w.heap.size) HLO.out.size (fun k hk => by have := HGB.out; omega)))
          clear hb5 hk5
          have o0 : w5.cell? ⟨go, 0, none⟩ = some (.int .i64 3) := (blk_cell HO5.out 0).trans rfl
          have o1 : w5.cell? ⟨go, 1, none⟩ = some (.int .i64 n) := (blk_cell HO5.out 1).trans rfl
          go_wp2_with fail
          clear o0 o1
          refine (c_do (w0 := w) HM5.out HL5.out (by have := HGB.out; omega) 3 n (by omega) HN.out HSA.out.1 HA1.out).mono ?_
          rintro en w6 ⟨rfl, hm6, hk6⟩
          have HM6 : Hid (BA w6 (gb + 1) 32 (s.fin) []) := Lib.hid hm6
          have HB6 := Lib.hid (hk6.blk HB5.out (by omega))
          have HL6 := Lib.hid (HL5.out.trans (hk6.below (B := w.heap.size) HL5.out.size (fun k hk => by have := HGB.out; omega)))
          clear hm6 hk6
          have HSA6 : Hid (0 ≤ (s.fin).a ∧ (s.fin).a ≤ s.a + 1099511627776) := Lib.hid (s.act_a 3 n HN.out HSA.out.1)
          generalize hs6 : (s.fin) = s6 at *
          have huF := Try.underlying27
          have HDR : Hid (Below w6.heap.size w6 w6.drew) := Lib.hid (((Kp.refl (fun _ => False) w6).drew).below (Nat.le_refl _) (fun _ h => h.elim))
          have HB7 : Hid (BA w6.drew gb 29 s6 []) := HB6
          have HM7 : Hid (BA w6.drew (gb + 1) 32 s6 []) := HM6
          have HL7 := Lib.hid (HL6.out.trans (HDR.out.mono HL6.out.size))
          have hS7 : w6.drew.cell? ⟨gb + 1, 0, none⟩ = some (.int .i64 s6.a) ∧ w6.drew.cell? ⟨gb + 1, 1, none⟩ = some (.int .i64 s6.e) ∧ w6.drew.cell? ⟨gb + 1, 2, none⟩ = some (.int .i64 s6.f) := ⟨HM7.out.c0, HM7.out.c1, HM7.out.c2⟩
          go_wp2_with fail
          go_region_held3 (fun w' => w'.cell? ⟨gb + 1, 0, none⟩ = some (.int .i64 s6.a) ∧ w'.cell? ⟨gb + 1, 1, none⟩ = some (.int .i64 s6.e) ∧ w'.cell? ⟨gb + 1, 2, none⟩ = some (.int .i64 s6.f)) (first | assumption | go_keep) (first
            | (go_at_call 19; refine (c_at (w := w6.drew) HB7.out).mono ?_; rintro e w7 ⟨rfl, rfl⟩)
            | (go_at_call 20; refine (c_fail (w := w6.drew) HB7.out).mono ?_; rintro e w8 ⟨rfl, hb8⟩; have HB8 : Hid (BA w8 gb 29 s6 []) := Lib.hid ((Kp.of_below (F := fun _ => False) hb8).blk HB7.out (fun h => h)); have HM8 : Hid (BA w8 (gb + 1) 32 s6 []) := Lib.hid ((Kp.of_below (F := fun _ => False) hb8).blk HM7.out (fun h => h)); have HL8 := Lib.hid (HL7.out.trans (hb8.mono HL7.out.size)); have hS8 : w8.cell? ⟨gb + 1, 0, none⟩ = some (.int .i64 s6.a) ∧ w8.cell? ⟨gb + 1, 1, none⟩ = some (.int .i64 s6.e) ∧ w8.cell? ⟨gb + 1, 2, none⟩ = some (.int .i64 s6.f) := ⟨HM8.out.c0, HM8.out.c1, HM8.out.c2⟩; clear hb8)
            | (go_at_call 21; refine (c_going (w := w8) HB8.out).mono ?_; rintro e w9 ⟨rfl, rfl⟩)
            | (go_at_call 22; refine (c_rgoing (w := w8) HM8.out).mono ?_; rintro e w9 ⟨rfl, rfl⟩))
          go_wp2_with fail
          go_roundg (gk - 1)
          case measure => have := HQ.out; omega
          case rel => exact ⟨i + 1, s6, by have := HQ.out; omega, by omega, by rw [wrap64_in (by omega) (by have := HLN.out; omega)]; simp, HB8, HM8, Lib.hid (by have := HSA6.out; have := HSA.out; omega), HL8⟩
        obtain hlt | hgt : k < 1 ∨ 3 < k := by omega
        · skip
          have hn1 : (k == 1) = false := beq_eq_false_iff_ne.2 hk1
          have hn2 : (k == 2) = false := beq_eq_false_iff_ne.2 hk2
          have hn3 : (k == 3) = false := beq_eq_false_iff_ne.2 hk3
          have hlo : decide ((1 : Int) ≤ k) = false := decide_eq_false (by omega)
          go_wp2_with fail
          generalize (wr.alloc (.cells #[.int .i64 k, .int .i64 n, .string tx, .slice A3 ls.length c3] 35)) = w6 at *
          clear k0 k1 k2 k3
          generalize hgo : wr.heap.size = go at *
          obtain ⟨s6, hs6⟩ : ∃ s6, s6 = s := ⟨_, rfl⟩
          have HB6 : Hid (BA w6 gb 29 s6 []) := by rw [hs6]; exact HBO
          have HM6 : Hid (BA w6 (gb + 1) 32 s6 []) := by rw [hs6]; exact HMO
          have HL6 := HLO
          have HSA6 : Hid (0 ≤ s6.a ∧ s6.a ≤ s.a + 1099511627776) := Lib.hid (by rw [hs6]; have := HSA.out; omega)
          clear hs6
          have huF := Try.underlying27
          have HDR : Hid (Below w6.heap.size w6 w6.drew) := Lib.hid (((Kp.refl (fun _ => False) w6).drew).below (Nat.le_refl _) (fun _ h => h.elim))
          have HB7 : Hid (BA w6.drew gb 29 s6 []) := HB6
          have HM7 : Hid (BA w6.drew (gb + 1) 32 s6 []) := HM6
          have HL7 := Lib.hid (HL6.out.trans (HDR.out.mono HL6.out.size))
          have hS7 : w6.drew.cell? ⟨gb + 1, 0, none⟩ = some (.int .i64 s6.a) ∧ w6.drew.cell? ⟨gb + 1, 1, none⟩ = some (.int .i64 s6.e) ∧ w6.drew.cell? ⟨gb + 1, 2, none⟩ = some (.int .i64 s6.f) := ⟨HM7.out.c0, HM7.out.c1, HM7.out.c2⟩
          go_wp2_with fail
          go_region_held3 (fun w' => w'.cell? ⟨gb + 1, 0, none⟩ = some (.int .i64 s6.a) ∧ w'.cell? ⟨gb + 1, 1, none⟩ = some (.int .i64 s6.e) ∧ w'.cell? ⟨gb + 1, 2, none⟩ = some (.int .i64 s6.f)) (first | assumption | go_keep) (first
            | (go_at_call 19; refine (c_at (w := w6.drew) HB7.out).mono ?_; rintro e w7 ⟨rfl, rfl⟩)
            | (go_at_call 20; refine (c_fail (w := w6.drew) HB7.out).mono ?_; rintro e w8 ⟨rfl, hb8⟩; have HB8 : Hid (BA w8 gb 29 s6 []) := Lib.hid ((Kp.of_below (F := fun _ => False) hb8).blk HB7.out (fun h => h)); have HM8 : Hid (BA w8 (gb + 1) 32 s6 []) := Lib.hid ((Kp.of_below (F := fun _ => False) hb8).blk HM7.out (fun h => h)); have HL8 := Lib.hid (HL7.out.trans (hb8.mono HL7.out.size)); have hS8 : w8.cell? ⟨gb + 1, 0, none⟩ = some (.int .i64 s6.a) ∧ w8.cell? ⟨gb + 1, 1, none⟩ = some (.int .i64 s6.e) ∧ w8.cell? ⟨gb + 1, 2, none⟩ = some (.int .i64 s6.f) := ⟨HM8.out.c0, HM8.out.c1, HM8.out.c2⟩; clear hb8)
            | (go_at_call 21; refine (c_going (w := w8) HB8.out).mono ?_; rintro e w9 ⟨rfl, rfl⟩)
            | (go_at_call 22; refine (c_rgoing (w := w8) HM8.out).mono ?_; rintro e w9 ⟨rfl, rfl⟩))
          go_wp2_with fail
          go_roundg (gk - 1)
          case measure => have := HQ.out; omega
          case rel => exact ⟨i + 1, s6, by have := HQ.out; omega, by omega, by rw [wrap64_in (by omega) (by have := HLN.out; omega)]; simp, HB8, HM8, Lib.hid (by have := HSA6.out; have := HSA.out; omega), HL8⟩
        · skip
          have hn1 : (k == 1) = false := beq_eq_false_iff_ne.2 hk1
          have hn2 : (k == 2) = false := beq_eq_false_iff_ne.2 hk2
          have hn3 : (k == 3) = false := beq_eq_false_iff_ne.2 hk3
          have hlo : decide ((1 : Int) ≤ k) = true := decide_eq_true (by omega)
          have hhi : decide (k ≤ (3 : Int)) = false := decide_eq_false (by omega)
          go_wp2_with fail
          generalize (wr.alloc (.cells #[.int .i64 k, .int .i64 n, .string tx, .slice A3 ls.length c3] 35)) = w6 at *
          clear k0 k1 k2 k3
          generalize hgo : wr.heap.size = go at *
          obtain ⟨s6, hs6⟩ : ∃ s6, s6 = s := ⟨_, rfl⟩
          have HB6 : Hid (BA w6 gb 29 s6 []) := by rw [hs6]; exact HBO
          have HM6 : Hid (BA w6 (gb + 1) 32 s6 []) := by rw [hs6]; exact HMO
          have HL6 := HLO
          have HSA6 : Hid (0 ≤ s6.a ∧ s6.a ≤ s.a + 1099511627776) := Lib.hid (by rw [hs6]; have := HSA.out; omega)
          clear hs6
          have huF := Try.underlying27
          have HDR : Hid (Below w6.heap.size w6 w6.drew) := Lib.hid (((Kp.refl (fun _ => False) w6).drew).below (Nat.le_refl _) (fun _ h => h.elim))
          have HB7 : Hid (BA w6.drew gb 29 s6 []) := HB6
          have HM7 : Hid (BA w6.drew (gb + 1) 32 s6 []) := HM6
          have HL7 := Lib.hid (HL6.out.trans (HDR.out.mono HL6.out.size))
          have hS7 : w6.drew.cell? ⟨gb + 1, 0, none⟩ = some (.int .i64 s6.a) ∧ w6.drew.cell? ⟨gb + 1, 1, none⟩ = some (.int .i64 s6.e) ∧ w6.drew.cell? ⟨gb + 1, 2, none⟩ = some (.int .i64 s6.f) := ⟨HM7.out.c0, HM7.out.c1, HM7.out.c2⟩
          go_wp2_with fail
          go_region_held3 (fun w' => w'.cell? ⟨gb + 1, 0, none⟩ = some (.int .i64 s6.a) ∧ w'.cell? ⟨gb + 1, 1, none⟩ = some (.int .i64 s6.e) ∧ w'.cell? ⟨gb + 1, 2, none⟩ = some (.int .i64 s6.f)) (first | assumption | go_keep) (first
            | (go_at_call 19; refine (c_at (w := w6.drew) HB7.out).mono ?_; rintro e w7 ⟨rfl, rfl⟩)
            | (go_at_call 20; refine (c_fail (w := w6.drew) HB7.out).mono ?_; rintro e w8 ⟨rfl, hb8⟩; have HB8 : Hid (BA w8 gb 29 s6 []) := Lib.hid ((Kp.of_below (F := fun _ => False) hb8).blk HB7.out (fun h => h)); have HM8 : Hid (BA w8 (gb + 1) 32 s6 []) := Lib.hid ((Kp.of_below (F := fun _ => False) hb8).blk HM7.out (fun h => h)); have HL8 := Lib.hid (HL7.out.trans (hb8.mono HL7.out.size)); have hS8 : w8.cell? ⟨gb + 1, 0, none⟩ = some (.int .i64 s6.a) ∧ w8.cell? ⟨gb + 1, 1, none⟩ = some (.int .i64 s6.e) ∧ w8.cell? ⟨gb + 1, 2, none⟩ = some (.int .i64 s6.f) := ⟨HM8.out.c0, HM8.out.c1, HM8.out.c2⟩; clear hb8)
            | (go_at_call 21; refine (c_going (w := w8) HB8.out).mono ?_; rintro e w9 ⟨rfl, rfl⟩)
            | (go_at_call 22; refine (c_rgoing (w := w8) HM8.out).mono ?_; rintro e w9 ⟨rfl, rfl⟩))
          go_wp2_with fail
          go_roundg (gk - 1)
          case measure => have := HQ.out; omega
          case rel => exact ⟨i + 1, s6, by have := HQ.out; omega, by omega, by rw [wrap64_in (by omega) (by have := HLN.out; omega)]; simp, HB8, HM8, Lib.hid (by have := HSA6.out; have := HSA.out; omega), HL8⟩
      · obtain rfl : i = l.length := by omega
        have hd : decide ((l.length : Int) < (l.length : Int)) = false := by simp
        go_wp2_with fail
        go_ret
        exact ⟨rfl, HB.out⟩
end Go.Proofs.Ytfknlgjfhdphjaa
