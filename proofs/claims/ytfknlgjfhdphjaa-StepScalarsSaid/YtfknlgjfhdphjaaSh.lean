/- The law StepScalars, walked. -/
import Derived.Test.YtfknlgjfhdphjaaSf
namespace Go.Proofs.Ytfknlgjfhdphjaa
open Go.RowKit Go.Proofs.YtfknlgjfhdphjaaW.PrintWords Go.Proofs.YtfknlgjfhdphjaaW.PrintMore
set_option linter.unusedVariables false
set_option linter.unusedSimpArgs false
section
variable {w : World} {g T : Nat} {v : Value} {xs : List Int}
theorem r_tell2 (room : Int) (hl : xs.length ≤ 1073741824) (h : RowW w g T v xs) :
    Calls Try.prog 28 #[.pointer (some ⟨g, 0, none⟩), .int .i64 room] w fun en w' => ∃ r v', en = .returned r ∧ RowW w' g T v' (xs.drop (min room.toNat xs.length)) ∧
      w'.ownsRow w.heap.size 49 1 r (xs.take (min room.toNat xs.length)).length (nums .u32 (xs.take (min room.toNat xs.length))) ∧ Stp w g v w' v' ∧ (∀ k, v'.ownBlock = some k → v.ownBlock = some k) := by
  refine (tell_any room h.c (blk_frozen h.bs 0) h.q hl).mono ?_
  rintro en w' ⟨r, v1, w1, rfl, rfl, ho, hb, hq, hat, hnil⟩
  have hgl := (blk_lt h.bs)
  have hv1 : ∀ k, v1.ownBlock = some k → v.ownBlock = some k := by
    intro k hk
    rcases hat with hat | hat
    · exact hat ▸ hk
    · rw [hat] at hk; cases hk
  have hne1 : v1.ownBlock ≠ some g := fun hk => h.ne (hv1 g hk)
  have hb1 : w1.heap[g]? = some (.cells #[v] T (0, 0)) := blk_below h.bs hb
  refine ⟨r, v1, rfl, ⟨(blk_set hb1 0 _).trans (by simp), ?_, hne1⟩, ?_, ⟨?_, fun k hk => .inl (hv1 k hk)⟩, hv1⟩
  · rw [List.length_drop]
    exact q_move hq (fun k hk => Below.heap_setCell w1 ⟨g, 0, none⟩ v1 k (fun he => hne1 (by rw [hk]; exact congrArg some he)))
  · exact own_setCell ho (fun he => by have := own_base ho g he.symm; omega) v1
  · exact (Kp.of_below hb).set (p := ⟨g, 0, none⟩) (.inl (.inl rfl)) v1
end
/-- A Row at gb, and a slice with scalars that wait; apart from each other. -/
structure Duo (w0 w : World) (gb : Nat) (v v2 : Value) (xs xs2 : List Int) : Prop where
  r : RowW w gb TR v xs
  q : QRow w 0 49 1 v2 xs2.length (nums .u32 xs2)
  n1 : ∀ k, v.ownBlock = some k → w0.heap.size ≤ k ∧ v2.ownBlock ≠ some k
  n2 : ∀ k, v2.ownBlock = some k → w0.heap.size ≤ k ∧ k ≠ gb
  bel : Below w0.heap.size w0 w
  lo : w0.heap.size ≤ gb
section
variable {w0 w w' : World} {gb : Nat} {v v2 : Value} {xs xs2 : List Int}
theorem Duo.lt (h : Duo w0 w gb v v2 xs xs2) : gb < w.heap.size := blk_lt h.r.bs
theorem Duo.v_lt (h : Duo w0 w gb v v2 xs xs2) (k : Nat) (hk : v.ownBlock = some k) : k < w.heap.size := q_lt h.r.q k hk
theorem Duo.v2_lt (h : Duo w0 w gb v v2 xs xs2) (k : Nat) (hk : v2.ownBlock = some k) : k < w.heap.size := q_lt h.q k hk
theorem Duo.row {v' : Value} {ys : List Int} (h : Duo w0 w gb v v2 xs xs2) (hd : RowW w' gb TR v' ys) (hs : Stp w gb v w' v') : Duo w0 w' gb v' v2 ys xs2 := by
  refine ⟨hd, hs.kp.q h.q (fun k hk hh => hh.elim (h.n2 k hk).2 (fun h3 => (h.n1 k h3).2 hk)), fun k hv => ?_, h.n2,
    h.bel.trans (hs.kp.below h.bel.size (fun k hk => hk.elim (fun h1 => by rw [h1]; exact h.lo) (fun h1 => (h.n1 k h1).1))), h.lo⟩
  rcases hs.mv k hv with h1 | h1
  · exact h.n1 k h1
  · have := h.bel.size
    exact ⟨by omega, fun h2 => by have := h.v2_lt k h2; omega⟩
/-- What turns other blocks alone. -/
theorem Duo.kept {F : Nat → Prop} (h : Duo w0 w gb v v2 xs xs2) (hk : Kp F w w') (hg : ¬ F gb) (hv : ∀ k, v.ownBlock = some k → ¬ F k) (hv2 : ∀ k, v2.ownBlock = some k → ¬ F k) (hF : ∀ k, F k → w0.heap.size ≤ k) : Duo w0 w' gb v v2 xs xs2 :=
  ⟨h.r.kept hk hg hv, hk.q h.q hv2, h.n1, h.n2, h.bel.trans (hk.below h.bel.size hF), h.lo⟩
theorem Duo.below (h : Duo w0 w gb v v2 xs xs2) (hb : Below w.heap.size w w') : Duo w0 w' gb v v2 xs xs2 :=
  h.kept (F := fun _ => False) (Kp.of_below hb) (fun h => h) (fun _ _ h => h) (fun _ _ h => h) (fun _ h => h.elim)
/-- The waiting ones are more. -/
theorem Duo.wait {v' : Value} {ys : List Int} (h : Duo w0 w gb v v2 xs xs2) (hq : QRow w' 0 49 1 v' ys.length (nums .u32 ys)) (hg : w.grownBy w' v2.ownBlock) (hat : v'.ownBlock = v2.ownBlock ∨ ∃ b, v'.ownBlock = some b ∧ w.heap.size ≤ b) : Duo w0 w' gb v v' xs ys := by
  have hk : Kp (fun k => v2.ownBlock = some k) w w' := Kp.of_grown hg (fun k hk => hk)
  refine ⟨h.r.kept hk (fun hh => (h.n2 gb hh).2 rfl) (fun k hv hh => (h.n1 k hv).2 hh), hq, fun k hv => ⟨(h.n1 k hv).1, fun h2 => ?_⟩, fun k hv => ?_, h.bel.trans (hk.below h.bel.size (fun k hk => (h.n2 k hk).1)), h.lo⟩
  · rcases hat with h3 | ⟨b, h3, h4⟩
    · rw [h3] at h2; exact (h.n1 k hv).2 h2
    · rw [h3] at h2; injection h2 with h2; have := h.v_lt k hv; omega
  · rcases hat with h3 | ⟨b, h3, h4⟩
    · rw [h3] at hv; exact h.n2 k hv
    · rw [h3] at hv; injection hv with hv
      have := h.bel.size
      have := h.lt
      exact ⟨by omega, by omega⟩
theorem Duo.cut {v' : Value} {ys : List Int} (h : Duo w0 w gb v v2 xs xs2) (hq : QRow w 0 49 1 v' ys.length (nums .u32 ys)) (hat : v'.ownBlock = v2.ownBlock) : Duo w0 w gb v v' xs ys :=
  ⟨h.r, hq, fun k hv => ⟨(h.n1 k hv).1, by rw [hat]; exact (h.n1 k hv).2⟩, fun k hv => h.n2 k (by rw [← hat]; exact hv), h.bel, h.lo⟩
end
set_option maxRecDepth 100000 in
set_option maxHeartbeats 8000000 in
theorem scalars_all (A : Option Addr) (c : Nat) (l : List PStepBase.S35) (hc : l.length ≤ c) {w : World} (h : Ops w A l) (hwide : ∀ o ∈ l, wideO o) : Calls Try.prog 5 #[.slice A l.length c] w fun en w' => en = .returned (.bool true) ∧ Below w.heap.size w w' := by
  have heq := eqF
  have hu35 := Try.underlying35
  have HOP := Lib.hid h
  have HC := Lib.hid hc
  have HWI := Lib.hid hwide
  clear h hc hwide
  go_enter Try.func5, Try.ntmps5
  go_wp2_with fail
  refine (sawake_any w).mono ?_
  rintro en w1 ⟨rfl, hb⟩
  have HB1 := Lib.hid hb
  have HOP1 := Lib.hid (Kd.C_below HOP.out hb)
  clear hb
  go_wp2_with fail
  obtain ⟨r, hr, hcall⟩ := great_any A c l HC.out w1 HOP1.out
  refine hcall.mono ?_
  clear hcall
  rintro en w2 ⟨rfl, hb⟩
  have HB2 := Lib.hid (HB1.out.trans (hb.mono (by have := HB1.out.size; omega)))
  clear hb
  cases r with
  | true =>
    go_wp2_with fail
    refine (sawake_any w2).mono ?_
    rintro en w3 ⟨rfl, hb⟩
    have HB3 := Lib.hid (HB2.out.trans (hb.mono (by have := HB2.out.size; omega)))
    clear hb
    go_wp2_with fail
    go_ret
    exact ⟨rfl, HB3.out⟩
  | false =>
    obtain ⟨hlen, hfine⟩ := hr rfl
    have HFN := Lib.hid hfine
    have HLN := Lib.hid hlen
    have HGB := Lib.hid (show w.heap.size ≤ w2.heap.size from HB2.out.size)
    clear hfine hr hlen
    have hd3 : Duo w ((w2.alloc (.cells #[.slice none 0 0] 47)).alloc (.cells #[] 49)) w2.heap.size (.slice none 0 0) (.slice (some ⟨w2.heap.size + 1, 0, none⟩) 0 0) [] [] := by
      have hq := own_lit (w2.alloc (.cells #[.slice none 0 0] 47)) 0 49 .u32 [] (by omega) (by decide)
      have hsz : (w2.alloc (.cells #[.slice none 0 0] 47)).heap.size = w2.heap.size + 1 := by simp [World.alloc, -World.alloc_eq]
      rw [hsz] at hq
      refine ⟨⟨heap_alloc2_old w2 _ _, q_none _ _, by simp [Value.ownBlock]⟩, q_of_own hq, fun k hk => by simp [Value.ownBlock] at hk, fun k hk => ?_, below_alloc (below_alloc HB2.out _) _, HGB.out⟩
      have hk2 : w2.heap.size + 1 = k := by simpa [Value.ownBlock] using hk
      have := HGB.out
      omega
    have HD3 := Lib.hid hd3
    clear hd3
    go_wp2_with fail
    generalize ((w2.alloc (.cells #[.slice none 0 0] 47)).alloc (.cells #[] 49)) = w3 at *
    generalize hgb : w2.heap.size = gb at *
    go_loopg [4, 22] (l.length + 1) (fun q u k wr => ∃ (i : Nat) (v v2 : Value) (xs : List Int), q + i = l.length + 1 ∧ i ≤ l.length ∧ k = .int .i64 i ∧ u = v2 ∧ Hid (Duo w wr gb v v2 xs xs) ∧ Hid (xs.length ≤ i * 300))
    case atStart => exact ⟨0, _, _, [], rfl, Nat.zero_le _, rfl, rfl, HD3, Lib.hid (by decide)⟩
    case round =>
      clear HD3
      obtain ⟨i, v, v2, xs, hq, hle, rfl, rfl, HDU, HXS⟩ := hrel
      have HQ := Lib.hid hq
      clear hq
      obtain ⟨A2, c2, rfl, hle2⟩ := q_slice HDU.out.q
      have HL2 := Lib.hid hle2
      clear hle2
      have hgk0 : ∃ x, x = gk := ⟨_, rfl⟩
      obtain ⟨gk0, hgk0⟩ := hgk0
      rw [← hgk0] at HQ
      by_cases hi : i < l.length
      · have hi2 : (i : Int) < (l.length : Int) := by omega
        have h0i : (0 : Int) ≤ (i : Int) := by omega
        have hd : decide ((i : Int) < (l.length : Int)) = true := decide_eq_true hi2
        obtain ⟨ad, A3, c3, o, ho, rfl, k0', k1', k2', k3', r1', r2'⟩ := ops_at HOP.out i hi
        have k0 := cell_below k0' HDU.out.bel
        have k1 := cell_below k1' HDU.out.bel
        have k2 := cell_below k2' HDU.out.bel
        have k3 := cell_below k3' HDU.out.bel
        clear k0' k1' k2' k3'
        have hfo := HFN.out o (List.mem_of_getElem? ho)
        obtain ⟨k, n, tx, ls⟩ := o
        simp only at k0 k1 k2 k3 r1' r2'
        have HN : Hid (n ≤ 1099511627776) := Lib.hid hfo.2.2
        have HLS : Hid (ls.length ≤ 300) := Lib.hid hfo.2.1
        have HLC := Lib.hid r1'
        have HLR := Lib.hid (reads_of_C r2')
        clear hfo ho r1' r2'
        have HOB : Hid ((wr.alloc (.cells #[.int .i64 k, .int .i64 n, .string tx, .slice A3 ls.length c3] 35)).heap[wr.heap.size]? = some (.cells #[.int .i64 k, .int .i64 n, .string tx, .slice A3 ls.length c3] 35)) := Lib.hid (heap_alloc_new wr _)
        have hnew : Below wr.heap.size wr (wr.alloc (.cells #[.int .i64 k, .int .i64 n, .string tx, .slice A3 ls.length c3] 35)) := (Below.refl _ _).alloc (Nat.le_refl _) _
        have HDO := Lib.hid (HDU.out.below hnew)
        have HG1 := Lib.hid HDU.out.lt
        have HVL := Lib.hid HDU.out.v_lt
        have HVM := Lib.hid HDU.out.v2_lt
        clear hnew
        have HXB : Hid (xs.length ≤ 90000) := Lib.hid (by have := HXS.out; have := HLN.out; omega)
        obtain rfl | hk4 : k = 4 ∨ k ≠ 4 := by omega
        · have hown0 := own_lit (wr.alloc (.cells #[.int .i64 4, .int .i64 n, .string tx, .slice A3 ls.length c3] 35)) (wr.alloc (.cells #[.int .i64 4, .int .i64 n, .string tx, .slice A3 ls.length c3] 35)).heap.size 49 .u32 [] (Nat.le_refl _) (by decide)
          have hsz0 : (wr.alloc (.cells #[.int .i64 4, .int .i64 n, .string tx, .slice A3 ls.length c3] 35)).heap.size = wr.heap.size + 1 := by simp [World.alloc, -World.alloc_eq]
          rw [hsz0] at hown0
          have HOW0 := Lib.hid hown0
          have HSZ0 := Lib.hid hsz0
          clear hown0 hsz0
          go_wp2_with ((with_reducible refine gate_builtin (b := .append) (xs := #[.tmp 30, .tmp 32]) rfl ?_); at_builtin; go_must (refine print_append_row (w0 := (wr.alloc (.cells #[.int .i64 4, .int .i64 n, .string tx, .slice A3 ls.length c3] 35))) (wr.heap.size + 1) rfl (.tmp 30) (.tmp 32) 33 49 .u32 4 rfl Try.underlying33 infoU (by omega) (.slice (some ⟨wr.heap.size + 1, 0, none⟩) 0 0) [] ls A3 ls.length c3 rfl rfl HOW0.out (HLR.out.below (HDO.out.bel.trans ((below_alloc (Below.refl _ _) _).mono HDO.out.bel.size))) ((below_alloc (Below.refl _ _) _).mono (Nat.le_of_eq HSZ0.out.symm)) (by have := HSZ0.out; simp [World.alloc, -World.alloc_eq]) (by have := HLS.out; simp only [List.length_nil]; omega) ?_); intro vl w4 hown4 hb4 _ _)
          rw [List.nil_append] at hown4
          obtain ⟨AL, cL, rfl, hleL, _⟩ := own_reads_of_le (enc := fun x => Value.int .u32 x) (d := (0 : Int)) hown4
          have hb4' := hb4
          rw [← HSZ0.out] at hb4'
          have HD4 := Lib.hid (HDO.out.below hb4')
          have HO4 := Lib.hid ((Kp.of_below (F := fun _ => False) hb4').blk HOB.out (fun h => h))
          have HOW4 := Lib.hid hown4
          clear hown4 hb4 hb4' HOW0 HSZ0
          generalize (wr.alloc (.cells #[.int .i64 4, .int .i64 n, .string tx, .slice A3 ls.length c3] 35)) = wo at *
          clear k0 k1 k2 k3
          generalize hgo : wr.heap.size = go at *
          refine (r_hold (own_reads' HOW4.out) (by have := HXB.out; have := HLS.out; omega) HD4.out.r).mono ?_
          rintro en w5 ⟨rfl, v', hd9, hs9⟩
          have HD5 := Lib.hid (HD4.out.row hd9 hs9)
          have HO5 := Lib.hid (hs9.keeps HO4.out (by have := HG1.out; omega) (fun h => by have := HVL.out _ h; omega))
          have HOW5 := Lib.hid (hs9.kp.own HOW4.out (fun k hk hh => by have h1 := own_base HOW4.out k hk; have h2 := HG1.out; exact hh.elim (fun h => by omega) (fun h => by have := HVL.out k h; omega)))
          have HNV : Hid (∀ k, (Value.slice AL ls.length cL).ownBlock = some k → go + 1 ≤ k ∧ k < w4.heap.size ∧ v'.ownBlock ≠ some k) := Lib.hid (fun k hk => by
            have h1 := own_base HOW4.out k hk
            have h2 := own_lt HOW4.out k hk
            exact ⟨h1, h2, fun h3 => (hs9.mv k h3).elim (fun h4 => by have := HVL.out k h4; omega) (fun h4 => by omega)⟩)
          have HS45 := Lib.hid hs9.kp.size
          clear hd9 hs9
          have o3 : w5.cell? ⟨go, 3, none⟩ = some (.slice A3 ls.length c3) := (blk_cell HO5.out 3).trans rfl
          go_wp2_with ((with_reducible refine gate_builtin (b := .append) (xs := #[.tmp 36, .tmp 38]) rfl ?_); at_builtin; go_must (refine wp_qapp 0 rfl (.tmp 36) (.tmp 38) 33 49 .u32 4 rfl Try.underlying33 infoU (by omega) (.slice A2 xs.length c2) xs ls A3 ls.length c3 rfl rfl HD5.out.q (HLR.out.below HD5.out.bel) (Nat.zero_le _) (by have := HXB.out; have := HLS.out; omega) ?_); intro v2' w6 hq6 hg6 hat6)
          rw [← List.length_append] at hq6
          obtain ⟨ys, hys⟩ : ∃ ys, ys = xs ++ ls := ⟨_, rfl⟩
          have HY : Hid (ys.length ≤ xs.length + 300) := Lib.hid (by rw [hys, List.length_append]; have := HLS.out; omega)
          have hd6 := HD5.out.wait hq6 hg6 hat6
          rw [← hys] at hd6 hq6
          have HOL := Lib.hid ((Kp.of_grown (F := fun k => (Value.slice A2 xs.length c2).ownBlock = some k) hg6 (fun k hk => hk)).own HOW5.out (fun k hk hh => by have h1 := own_base HOW5.out k hk; have := HVM.out k hh; omega))
          have HSL : Hid (∀ k, (Value.slice AL ls.length cL).ownBlock = some k → w.heap.size ≤ k ∧ k ≠ gb ∧ v'.ownBlock ≠ some k ∧ v2'.ownBlock ≠ some k) := Lib.hid (fun k hk => by
            have h1 := HNV.out k hk
            have h2 := HG1.out
            have h3 := HGB.out
            have h4 := HS45.out
            refine ⟨by omega, by omega, h1.2.2, fun h5 => ?_⟩
            rcases hat6 with h6 | ⟨b, h6, h7⟩
            · rw [h6] at h5; have := HVM.out k h5; omega
            · rw [h6] at h5; injection h5 with h5; omega)
          obtain ⟨A6, c6, rfl, _⟩ := q_slice hq6
          have HIN := Lib.hid hd6
          have HLZ : Hid (ls.length = ls.length) := Lib.hid rfl
          clear hd6 hq6 hg6 hat6 hys o3
          go_loopg [42] (ls.length + 1) (fun q k wr => ∃ (j : Nat) (zs : List Int), q + j = ls.length + 1 ∧ j ≤ ls.length ∧ k = .int .i64 j ∧ zs.length = ls.length ∧ Hid (wr.ownsRow (go + 1) 49 1 (.slice AL ls.length cL) ls.length (nums .u32 zs)) ∧ Hid (Duo w wr gb v' (.slice A6 ys.length c6) ys ys))
          case atStart => exact ⟨0, _, rfl, Nat.zero_le _, rfl, HLZ.out, HOL, HIN⟩
          case round =>
            clear HOL HIN HLZ
            obtain ⟨j, zs, hq, hjl, rfl, hzl, HOL, HIN⟩ := hrel
            have HQ2 := Lib.hid hq
            have HZL := Lib.hid hzl
            clear hq hzl
            by_cases hj : j < ls.length
            · have hj2 : (j : Int) < ((ls.length : Nat) : Int) := by omega
              have h0j : (0 : Int) ≤ (j : Int) := by omega
              have hdj : decide ((j : Int) < ((ls.length : Nat) : Int)) = true := decide_eq_true hj2
              obtain ⟨g5, cap5, he5, _, _⟩ := HOL.out.form (by omega)
              injection he5 with he6 _ he7
              subst he6 he7
              obtain ⟨hc5, hf5⟩ := own_at HOL.out (j : Int) h0j hj2
              have hst := own_store HOL.out (j : Int) ((rd zs (j : Int) + 1) % 4294967296)
              rw [Int.toNat_natCast] at hc5 hf5 hst
              have HST := Lib.hid hst.1
              have HIN2 : Hid (Duo w (wr.setCell ⟨g5, j, none⟩ (.int .u32 ((rd zs (j : Int) + 1) % 4294967296))) gb v' (.slice A6 ys.length c6) ys ys) := Lib.hid (HIN.out.kept (F := fun k => k = g5) ((Kp.refl _ _).setg _ _) (HSL.out g5 rfl).2.1.symm (fun k hk hh => (HSL.out g5 rfl).2.2.1 (hh ▸ hk)) (fun k hk hh => (HSL.out g5 rfl).2.2.2 (hh ▸ hk)) (fun k hk => hk ▸ (HSL.out g5 rfl).1))
              clear hst HOL HIN
              generalize hrd : rd zs (j : Int) = x5 at *
              go_wp2_with fail
              go_roundg (gk - 1)
              case measure => have := HQ2.out; omega
              case rel => exact ⟨j + 1, zs.set j ((x5 + 1) % 4294967296), by have := HQ2.out; omega, by omega, by rw [wrap64_in (by omega) (by have := HLS.out; omega)]; simp, by rw [List.length_set]; exact HZL.out, HST, HIN2⟩
            · obtain rfl : ls.length = j := by omega
              have hdj : decide (((ls.length : Nat) : Int) < ((ls.length : Nat) : Int)) = false := by simp
              have HD6 := HIN
              clear HIN HOL HOB
              go_wp2_with fail
              refine (r_held HD6.out.r).mono ?_
              rintro en w9 ⟨rfl, rfl⟩
              go_wp2_with fail
              go_roundg (gk0 - 1)
              case measure => have := HQ.out; omega
              case rel => exact ⟨i + 1, v', _, ys, by have := HQ.out; omega, by omega, by rw [wrap64_in (by omega) (by have := HLN.out; omega)]; simp, rfl, HD6, Lib.hid (by have := HY.out; have := HXS.out; omega)⟩
        obtain rfl | hk5 : k = 5 ∨ k ≠ 5 := by omega
        · clear hk4
          go_wp2_with fail
          generalize (wr.alloc (.cells #[.int .i64 5, .int .i64 n, .string tx, .slice A3 ls.length c3] 35)) = wo at *
          clear k0 k1 k2 k3
          generalize hgo : wr.heap.size = go at *
          obtain ⟨m, hm⟩ : ∃ m, m = min n.toNat xs.length := ⟨_, rfl⟩
          refine (c_front n xs.length m hm _).mono ?_
          rintro en w4 ⟨rfl, hb4⟩
          have HM := Lib.hid hm
          have HMN : Hid (m ≤ xs.length) := Lib.hid (by omega)
          have HD4 := Lib.hid (HDO.out.below hb4)
          have HO4 := Lib.hid ((Kp.of_below (F := fun _ => False) hb4).blk HOB.out (fun h => h))
          have HS4 := Lib.hid (show go < w4.heap.size from blk_lt ((Kp.of_below (F := fun _ => False) hb4).blk HOB.out (fun h => h)))
          clear hb4 hm HDO HOB
          have o1 : w4.cell? ⟨go, 1, none⟩ = some (.int .i64 n) := (blk_cell HO4.out 1).trans rfl
          go_wp2_with fail
          clear o1
          refine (r_tell2 n (by have := HXB.out; omega) HD4.out.r).mono ?_
          rintro en w5 ⟨r5, v', rfl, hd9, ho9, hs9, hv9⟩
          rw [← HM.out] at hd9 ho9
          rw [List.length_take, Nat.min_eq_left HMN.out] at ho9
          obtain ⟨A5, c5, rfl, hle5, _⟩ := own_reads_of_le (enc := fun x => Value.int .u32 x) (d := (0 : Int)) ho9
          have HD5 := Lib.hid (HD4.out.row hd9 hs9)
          have HR5 := Lib.hid (own_reads' ho9)
          have HLE5 := Lib.hid hle5
          have HOW5 := Lib.hid ho9
          have HSL : Hid (∀ k, (Value.slice A5 m c5).ownBlock = some k → w.heap.size ≤ k ∧ k ≠ gb ∧ v'.ownBlock ≠ some k ∧ (Value.slice A2 xs.length c2).ownBlock ≠ some k) := Lib.hid (fun k hk => by
            have h1 := own_base ho9 k hk
            have h2 := HG1.out
            have h3 := HGB.out
            have h4 := HS4.out
            exact ⟨by omega, by omega, fun h5 => by have := HVL.out k (hv9 k h5); omega, fun h5 => by have := HVM.out k h5; omega⟩)
          clear hd9 hs9 hv9 ho9 hle5
          obtain ⟨i0, hi0, hz0', hz1', hz2'⟩ := info_parts infoU
          have hcut1 := cut_to (P := Try.prog) 33 49 .i64 Try.underlying33 hi0 A2 xs.length c2 (m : Int) (by omega) (by have := HMN.out; omega) HL2.out
          rw [Int.toNat_natCast] at hcut1
          have HRW : Hid (ReadsInt w5 .u32 A2 m (xs.take m)) := Lib.hid (by
            have h1 := q_take HD5.out.q (m := m) HMN.out
            rw [nums_take] at h1
            exact q_reads h1)
          go_wp2_with fail
          refine (same_any HR5.out HRW.out HLE5.out (Nat.le_trans HMN.out HL2.out) (by have := HMN.out; have := HXB.out; omega)).mono ?_
          rintro en w6 ⟨rfl, n6, h6⟩
          rw [decide_eq_true rfl]
          have hb6 : Below w5.heap.size w5 w6 := by rw [h6]; exact ((Kp.refl (fun _ => False) w5).drewN n6).below (Nat.le_refl _) (fun _ h => h.elim)
          have HIN := Lib.hid (HD5.out.below hb6)
          have HOL := Lib.hid ((Kp.of_below (F := fun _ => False) hb6).own HOW5.out (fun _ _ h => h))
          have HLZ : Hid ((xs.take m).length = m) := Lib.hid (by rw [List.length_take]; exact Nat.min_eq_left HMN.out)
          clear h6 hb6 hcut1
          go_wp2_with fail
          go_loopg [70] (m + 1) (fun q k wr => ∃ (j : Nat) (zs : List Int), q + j = m + 1 ∧ j ≤ m ∧ k = .int .i64 j ∧ zs.length = m ∧ Hid (wr.ownsRow w4.heap.size 49 1 (.slice A5 m c5) m (nums .u32 zs)) ∧ Hid (Duo w wr gb v' (.slice A2 xs.length c2) (xs.drop m) xs))
          case atStart => exact ⟨0, _, rfl, Nat.zero_le _, rfl, HLZ.out, HOL, HIN⟩
          case round =>
            clear HOL HIN HLZ
            obtain ⟨j, zs, hq, hjl, rfl, hzl, HOL, HIN⟩ := hrel
            have HQ2 := Lib.hid hq
            have HZL := Lib.hid hzl
            clear hq hzl
            by_cases hj : j < m
            · have hj2 : (j : Int) < ((m : Nat) : Int) := by omega
              have h0j : (0 : Int) ≤ (j : Int) := by omega
              have hdj : decide ((j : Int) < ((m : Nat) : Int)) = true := decide_eq_true hj2
              obtain ⟨g5, cap5, he5, _, _⟩ := HOL.out.form (by omega)
              injection he5 with he6 _ he7
              subst he6 he7
              obtain ⟨hc5, hf5⟩ := own_at HOL.out (j : Int) h0j hj2
              have hst := own_store HOL.out (j : Int) ((rd zs (j : Int) + 1) % 4294967296)
              rw [Int.toNat_natCast] at hc5 hf5 hst
              have HST := Lib.hid hst.1
              have HIN2 : Hid (Duo w (wr.setCell ⟨g5, j, none⟩ (.int .u32 ((rd zs (j : Int) + 1) % 4294967296))) gb v' (.slice A2 xs.length c2) (xs.drop m) xs) := Lib.hid (HIN.out.kept (F := fun k => k = g5) ((Kp.refl _ _).setg _ _) (HSL.out g5 rfl).2.1.symm (fun k hk hh => (HSL.out g5 rfl).2.2.1 (hh ▸ hk)) (fun k hk hh => (HSL.out g5 rfl).2.2.2 (hh ▸ hk)) (fun k hk => hk ▸ (HSL.out g5 rfl).1))
              clear hst HOL HIN
              generalize hrd : rd zs (j : Int) = x5 at *
              go_wp2_with fail
              go_roundg (gk - 1)
              case measure => have := HQ2.out; omega
              case rel => exact ⟨j + 1, zs.set j ((x5 + 1) % 4294967296), by have := HQ2.out; omega, by omega, by rw [wrap64_in (by omega) (by have := HMN.out; have := HXB.out; omega)]; simp, by rw [List.length_set]; exact HZL.out, HST, HIN2⟩
            · obtain rfl : m = j := by omega
              have hdj : decide (((m : Nat) : Int) < ((m : Nat) : Int)) = false := by simp
              obtain ⟨ys, hys⟩ : ∃ ys, ys = xs.drop m := ⟨_, rfl⟩
              have hyl : ys.length = xs.length - m := by rw [hys, List.length_drop]
              have hdq := q_drop HIN.out.q (k := m) HMN.out
              rw [nums_drop, ← hys, ← hyl] at hdq
              have hcut2 := cut_from (P := Try.prog) 33 49 .i64 Try.underlying33 hi0 1 hz1' A2 xs.length c2 (m : Int) (by omega) (by have := HMN.out; omega)
              rw [Int.toNat_natCast, ← hyl] at hcut2
              obtain ⟨A7, hA7⟩ : ∃ A7, (if c2 = m then A2 else A2.map (·.add (m * 1))) = A7 := ⟨_, rfl⟩
              have hown7 : (Value.slice A7 ys.length (c2 - m)).ownBlock = (Value.slice A2 xs.length c2).ownBlock := by
                rw [← hA7]
                split
                · cases A2 <;> rfl
                · cases A2 with
                  | none => rfl
                  | some ad => simp [Value.ownBlock, Addr.add] <;> split <;> rfl
              simp only [hA7] at hcut2
              rw [hA7] at hdq
              have HD6 : Hid (Duo w wr gb v' (.slice A7 ys.length (c2 - m)) ys ys) := Lib.hid (by
                have h1 := HIN.out.cut hdq hown7
                rw [← hys] at h1
                exact h1)
              have HY : Hid (ys.length ≤ xs.length + 300) := Lib.hid (by omega)
              clear HIN HOL hys hyl hdq hown7 hA7
              go_wp2_with fail
              refine (r_held HD6.out.r).mono ?_
              rintro en w9 ⟨rfl, rfl⟩
              go_wp2_with fail
              go_roundg (gk0 - 1)
              case measure => have := HQ.out; omega
              case rel => exact ⟨i + 1, v', _, ys, by have := HQ.out; omega, by omega, by rw [wrap64_in (by omega) (by have := HLN.out; omega)]; simp, rfl, HD6, Lib.hid (by have := HY.out; have := HXS.out; omega)⟩
        · have hn4 : (k == 4) = false := beq_eq_false_iff_ne.2 hk4
          have hn5 : (k == 5) = false := beq_eq_false_iff_ne.2 hk5
          go_wp2_with fail
          generalize (wr.alloc (.cells #[.int .i64 k, .int .i64 n, .string tx, .slice A3 ls.length c3] 35)) = w6 at *
          clear k0 k1 k2 k3
          generalize hgo : wr.heap.size = go at *
          obtain ⟨ys, hys⟩ : ∃ ys, ys = xs := ⟨_, rfl⟩
          have HY : Hid (ys.length ≤ xs.length + 300) := Lib.hid (by rw [hys]; omega)
          have HD6 : Hid (Duo w w6 gb v (.slice A2 ys.length c2) ys ys) := by rw [hys]; exact HDO
          rw [← hys]
          clear hys HOB
          go_wp2_with fail
          refine (r_held HD6.out.r).mono ?_
          rintro en w9 ⟨rfl, rfl⟩
          go_wp2_with fail
          go_roundg (gk0 - 1)
          case measure => have := HQ.out; omega
          case rel => exact ⟨i + 1, v, _, ys, by have := HQ.out; omega, by omega, by rw [wrap64_in (by omega) (by have := HLN.out; omega)]; simp, rfl, HD6, Lib.hid (by have := HY.out; have := HXS.out; omega)⟩
      · obtain rfl : i = l.length := by omega
        have hd : decide ((l.length : Int) < (l.length : Int)) = false := by simp
        go_wp2_with fail
        go_ret
        exact ⟨rfl, HDU.out.bel⟩
end Go.Proofs.Ytfknlgjfhdphjaa
