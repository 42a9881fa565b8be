/- The step laws: awake. -/
import Derived.Test.YtfknlgjfhdphjaaSa
import Derived.Deep.RegionHeld3
namespace Go.Proofs.Ytfknlgjfhdphjaa
open Go.RowKit Go.Proofs.YtfknlgjfhdphjaaW.PrintWords Go.Proofs.YtfknlgjfhdphjaaW.PrintMore
set_option linter.unusedVariables false
set_option linter.unusedSimpArgs false
theorem stp_below {w w1 : World} {g B : Nat} {v v1 : Value} (h : Stp w g v w1 v1) (hB : B ≤ w.heap.size) (hg : B ≤ g) (hv : ∀ k, v.ownBlock = some k → B ≤ k) : Below B w w1 ∧ ∀ k, v1.ownBlock = some k → B ≤ k :=
  ⟨h.kp.below hB (fun k hk => by
    rcases hk with rfl | hk
    · exact hg
    · exact hv k hk), fun k hk => by
    rcases h.mv k hk with h1 | h1
    · exact hv k h1
    · omega⟩
theorem two_reads (W : World) (x y : Int) {n : Nat} (hn : W.heap.size = n) : ReadsInt (W.alloc (.cells #[.int .u32 x, .int .u32 y] 49)) .u32 (some ⟨n, 0, none⟩) 2 [x, y] := by
  subst hn
  exact   ⟨rfl, by omega, fun _ => ⟨_, rfl, fun j hj => by
    rw [add_plain]
    match j, hj with
    | 0, _ => exact (blk_cell (blk_new W _) 0).trans rfl
    | 1, _ => exact (blk_cell (blk_new W _) 1).trans rfl⟩⟩
theorem eqF (x y x2 y2 : Int) (W : World) : (Op.equalIn 10000 27 (.agg #[.int .i64 x, .int .i64 y]) (.agg #[.int .i64 x2, .int .i64 y2])).run Try.prog W = .ok (x == x2 && y == y2) W := by
  refine eqA_of (d := 9999) Try.underlying27 (by kernel_rfl) ?_
  refine eqf_cons (a := .int .i64 x) (b := .int .i64 x2) rfl (by kernel_rfl) (by kernel_rfl) (run_equalIn_int W 9998 _ .i64 .i64 x x2 Try.underlying25) ?_
  exact eqf_last (a := .int .i64 y) (b := .int .i64 y2) rfl (by kernel_rfl) (by kernel_rfl) (run_equalIn_int W 9998 _ .i64 .i64 y y2 Try.underlying3)
set_option maxHeartbeats 4000000 in
theorem sawake_any (w : World) : Calls Try.prog 13 #[] w fun en w' => en = .returned (.bool true) ∧ Below w.heap.size w w' := by
  have heq := eqF
  go_enter Try.func13, Try.ntmps13
  have hb0 : BA (w.alloc (.cells #[.int .i64 0, .int .i64 0, .int .i64 0, .bool false] 29)) w.heap.size 29 ⟨0, 0, 0, false⟩ [] := heap_alloc_new w _
  have hbl0 : Below w.heap.size w (w.alloc (.cells #[.int .i64 0, .int .i64 0, .int .i64 0, .bool false] 29)) := (Below.refl _ _).alloc (Nat.le_refl _) _
  have HB0 := Lib.hid hb0
  have HL0 := Lib.hid hbl0
  clear hb0 hbl0
  go_wp2_with fail
  generalize hg : w.heap.size = g at *
  generalize (w.alloc (.cells #[.int .i64 0, .int .i64 0, .int .i64 0, .bool false] 29)) = w0 at *
  refine (c_eat 3 (by omega) (by decide) (by decide) HB0.out).mono ?_
  rintro en w1 ⟨rfl, hb, hk⟩
  have HB1 : Hid (BA w1 g 29 ⟨3, 0, 0, false⟩ []) := Lib.hid hb
  have HL1 := Lib.hid (HL0.out.trans (hk.below (B := g) (by have := HL0.out.size; omega) (fun k hk => by omega)))
  clear hb hk
  go_wp2_with fail
  refine (c_stop 3 HB1.out).mono ?_
  rintro en w2 ⟨rfl, hb, hk⟩
  have HB2 : Hid (BA w2 g 29 ⟨3, 3, 3, false⟩ []) := Lib.hid hb
  have HL2 := Lib.hid (HL1.out.trans (hk.below (B := g) (by have := HL1.out.size; omega) (fun k hk => by omega)))
  clear hb hk
  go_wp2_with fail
  refine (c_eat 2 (by omega) (by decide) (by decide) HB2.out).mono ?_
  rintro en w3 ⟨rfl, hb, hk⟩
  have HB3 : Hid (BA w3 g 29 ⟨3, 3, 3, false⟩ []) := Lib.hid hb
  have HL3 := Lib.hid (HL2.out.trans (hk.below (B := g) (by have := HL2.out.size; omega) (fun k hk => by omega)))
  clear hb hk
  go_wp2_with fail
  refine (c_end HB3.out).mono ?_
  rintro en w4 ⟨rfl, hb, hk⟩
  have HB4 : Hid (BA w4 g 29 ⟨3, 3, 3, false⟩ []) := Lib.hid hb
  have HL4 := Lib.hid (HL3.out.trans (hk.below (B := g) (by have := HL3.out.size; omega) (fun k hk => by omega)))
  have HG := Lib.hid (BsAt.lt hb)
  clear hb hk
  have hb5 : Enc (w4.alloc (.cells #[.int .i64 0, .int .i64 0, .int .i64 0, .bool false, .string ⟨#[]⟩] 53)) w4.heap.size 53 0 0 0 false ⟨#[]⟩ [] := heap_alloc_new w4 _
  have hl5 : Below w4.heap.size w4 (w4.alloc (.cells #[.int .i64 0, .int .i64 0, .int .i64 0, .bool false, .string ⟨#[]⟩] 53)) := (Below.refl _ _).alloc (Nat.le_refl _) _
  have HE5 := Lib.hid hb5
  have HL5 := Lib.hid (HL4.out.trans (hl5.mono (by have := HL4.out.size; omega)))
  have HB5 := Lib.hid ((Kp.of_below (F := fun _ => False) hl5).blk HB4.out (fun h => h))
  clear hb5 hl5
  go_wp2_with fail
  have HG4 := Lib.hid (show g ≤ w4.heap.size by have := HG.out; omega)
  have HNE := Lib.hid (show g ≠ w4.heap.size by have := HG.out; omega)
  generalize hg4 : w4.heap.size = g2 at *
  generalize (w4.alloc (.cells #[.int .i64 0, .int .i64 0, .int .i64 0, .bool false, .string ⟨#[]⟩] 53)) = w5 at *
  refine (enc_keep (u := ⟨#[97, 98, 99]⟩) (by decide) HE5.out).mono ?_
  rintro en w6 ⟨rfl, he, hk⟩
  have HE6 : Hid (Enc w6 g2 53 0 0 0 false ⟨#[97, 98, 99]⟩ []) := Lib.hid he
  have HL6 := Lib.hid (HL5.out.trans (hk.below (B := g) (by have := HL5.out.size; omega) (fun k hk => by have := HG4.out; omega)))
  have HB6 := Lib.hid (hk.blk HB5.out HNE.out)
  clear he hk
  go_wp2_with fail
  refine (enc_give 2 (by decide) HE6.out).mono ?_
  rintro en w7 ⟨x, y, rfl, he, hk, hgv⟩
  have hx : x = ⟨#[97, 98]⟩ := by
    obtain ⟨⟨l⟩⟩ := x
    have h1 : l = [97, 98] := hgv.1
    rw [h1]
  have hy : y = ⟨#[99]⟩ := by
    obtain ⟨⟨l⟩⟩ := y
    have h1 : l = [99] := hgv.2
    rw [h1]
  subst hx
  subst hy
  have HE7 := Lib.hid he
  have HL7 := Lib.hid (HL6.out.trans (hk.below (B := g) (by have := HL6.out.size; omega) (fun k hk => by have := HG4.out; omega)))
  have HB7 := Lib.hid (hk.blk HB6.out HNE.out)
  clear he hk hgv
  go_wp2_with fail
  refine (c_end (s := ⟨0, 0, 0, false⟩) HE7.out).mono ?_
  rintro en w8 ⟨rfl, he, hk⟩
  have HE8 : Hid (Enc w8 g2 53 0 0 0 true ⟨#[99]⟩ []) := Lib.hid he
  have HL8 := Lib.hid (HL7.out.trans (hk.below (B := g) (by have := HL7.out.size; omega) (fun k hk => by have := HG4.out; omega)))
  have HB8 := Lib.hid (hk.blk HB7.out HNE.out)
  have HG8 := Lib.hid (BsAt.lt he)
  clear he hk
  have hd9 : Dec (w8.alloc (.cells #[.int .i64 0, .int .i64 0, .int .i64 0, .bool false, .slice none 0 0] 55)) w8.heap.size 55 0 0 0 false (.slice none 0 0) [] [] := ⟨heap_alloc_new w8 _, q_none _ _, by simp [Value.ownBlock]⟩
  have hl9 : Below w8.heap.size w8 (w8.alloc (.cells #[.int .i64 0, .int .i64 0, .int .i64 0, .bool false, .slice none 0 0] 55)) := (Below.refl _ _).alloc (Nat.le_refl _) _
  have HD9 := Lib.hid hd9
  have HL9 := Lib.hid (HL8.out.trans (hl9.mono (by have := HL8.out.size; omega)))
  have HB9 := Lib.hid ((Kp.of_below (F := fun _ => False) hl9).blk HB8.out (fun h => h))
  have HE9 := Lib.hid ((Kp.of_below (F := fun _ => False) hl9).blk HE8.out (fun h => h))
  clear hd9 hl9
  go_wp2_with fail
  have HG9 := Lib.hid (show g ≤ w8.heap.size by have := HG.out; have := HG8.out; omega)
  have HN1 := Lib.hid (show g ≠ w8.heap.size by have := HG.out; have := HG8.out; omega)
  have HN2 := Lib.hid (show g2 ≠ w8.heap.size by have := HG8.out; omega)
  have HSZ := Lib.hid (show (w8.alloc (.cells #[.int .i64 0, .int .i64 0, .int .i64 0, .bool false, .slice none 0 0] 55)).heap.size = w8.heap.size + 1 by simp [World.alloc, -World.alloc_eq])
  have HLT := Lib.hid (show w8.heap.size < (w8.alloc (.cells #[.int .i64 0, .int .i64 0, .int .i64 0, .bool false, .slice none 0 0] 55)).heap.size by simp [World.alloc, -World.alloc_eq])
  generalize hg8 : w8.heap.size = g3 at *
  generalize (w8.alloc (.cells #[.int .i64 0, .int .i64 0, .int .i64 0, .bool false, .slice none 0 0] 55)) = w9 at *
  have hr10 := two_reads w9 7 8 HSZ.out
  have hl10 : Below w9.heap.size w9 (w9.alloc (.cells #[.int .u32 7, .int .u32 8] 49)) := (Below.refl _ _).alloc (Nat.le_refl _) _
  have HR10 := Lib.hid hr10
  have HD10 := Lib.hid (HD9.out.below hl10)
  have HL10 := Lib.hid (HL9.out.trans (hl10.mono (by have := HL9.out.size; omega)))
  have HB10 := Lib.hid ((Kp.of_below (F := fun _ => False) hl10).blk HB9.out (fun h => h))
  have HE10 := Lib.hid ((Kp.of_below (F := fun _ => False) hl10).blk HE9.out (fun h => h))
  clear hr10 hl10
  generalize (w9.alloc (.cells #[.int .u32 7, .int .u32 8] 49)) = w10 at *
  refine (dec_hold HR10.out (by decide) HD10.out).mono ?_
  rintro en w11 ⟨rfl, v1, hd, hs⟩
  have HD11 : Hid (Dec w11 g3 55 0 0 0 false v1 [7, 8] []) := Lib.hid hd
  have h11 := stp_below (B := g) hs (by have := HL10.out.size; omega) HG9.out (fun k hk => by cases hk)
  have HL11 := Lib.hid (HL10.out.trans h11.1)
  have HV11 := Lib.hid h11.2
  have HB11 := Lib.hid (hs.keeps HB10.out HN1.out (by simp [Value.ownBlock]))
  have HE11 := Lib.hid (hs.keeps HE10.out HN2.out (by simp [Value.ownBlock]))
  have HV1 := Lib.hid (show ∀ k, v1.ownBlock = some k → w10.heap.size ≤ k from fun k hk => (hs.mv k hk).elim (fun h => by cases h) id)
  have HB1L := Lib.hid (show g < w10.heap.size from BsAt.lt HB10.out)
  have HE1L := Lib.hid (show g2 < w10.heap.size from BsAt.lt HE10.out)
  clear hd hs h11
  go_wp2_with fail
  refine (dec_tell 1 (by decide) HD11.out).mono ?_
  rintro en w12 ⟨r, v2, rfl, hd, ho, hs, _⟩
  have HD12 : Hid (Dec w12 g3 55 0 0 0 false v2 [8] []) := Lib.hid hd
  have h12 := stp_below (B := g) hs (by have := HL11.out.size; omega) HG9.out HV11.out
  have HL12 := Lib.hid (HL11.out.trans h12.1)
  have HB12 : Hid (BA w12 g 29 ⟨3, 3, 3, false⟩ []) := Lib.hid (hs.keeps HB11.out HN1.out (fun h => by have := HV1.out g h; have := HB1L.out; omega))
  have HE12 : Hid (Enc w12 g2 53 0 0 0 true ⟨#[99]⟩ []) := Lib.hid (hs.keeps HE11.out HN2.out (fun h => by have := HV1.out g2 h; have := HE1L.out; omega))
  have ho2 : w12.ownsRow w11.heap.size 49 1 r 1 (nums .u32 [7]) := ho
  obtain ⟨A4, c4, rfl, hle4, hrd⟩ := own_reads_of_le (enc := fun x => Value.int .u32 x) (d := (0 : Int)) ho2
  have HO := Lib.hid (own_reads' ho2)
  clear hd hs h12 ho ho2
  clear hrd
  go_wp2_with fail
  refine (at_any HB12.out).mono ?_
  rintro en w13 ⟨rfl, rfl⟩
  go_wp2_with fail
  refine (fail_any HB12.out).mono ?_
  rintro en w13 ⟨rfl, hb⟩
  have HL13 := Lib.hid (HL12.out.trans (hb.mono (by have := HL12.out.size; omega)))
  have HB13 : Hid (BA w13 g 29 ⟨3, 3, 3, false⟩ []) := Lib.hid ((Kp.of_below (F := fun _ => False) hb).blk HB12.out (fun h => h))
  have HE13 : Hid (Enc w13 g2 53 0 0 0 true ⟨#[99]⟩ []) := Lib.hid ((Kp.of_below (F := fun _ => False) hb).blk HE12.out (fun h => h))
  have HD13 := Lib.hid (HD12.out.below hb)
  have HO13 := Lib.hid (HO.out.below hb)
  clear hb
  go_wp2_with fail
  refine (going_no (by decide) HB13.out).mono ?_
  rintro en w14 ⟨rfl, rfl⟩
  go_wp2_with fail
  refine (enc_kept HE13.out).mono ?_
  rintro en w14 ⟨rfl, rfl⟩
  go_wp2_with fail
  refine (odone_over (by decide) HE13.out).mono ?_
  rintro en w14 ⟨rfl, rfl⟩
  go_wp2_with fail
  refine (going_no (by decide) HE13.out).mono ?_
  rintro en w14 ⟨rfl, rfl⟩
  obtain ⟨ad, rfl, hc⟩ := HO13.out.2.2 (by omega)
  have hc0 : w13.cell? ad = some (.int .u32 7) := by have h9 := hc 0 (by omega); rw [Addr.add_zero'] at h9; exact h9
  clear hc
  go_wp2_with fail
  refine (dec_held HD13.out).mono ?_
  rintro en w14 ⟨rfl, rfl⟩
  go_wp2_with fail
  go_ret
  rw [hg]
  exact ⟨rfl, HL13.out⟩
end Go.Proofs.Ytfknlgjfhdphjaa
