-- PRINTED BY print.sh 35421559b90ae4d0a3588c463048766b98c2df88dd9212a6774a882060cdf62d: not written by this session
import Derived.Test.YthfilfklhdpbeaaPUni32Readsx0
import Derived.Test.YthfilfklhdpbeaaPUni32Readsx1
namespace Go.Proofs.Ythfilfklhdpbeaa.PUni32Reads
open Go.RowKit Go.Proofs.YthfilfklhdpbeaaW.PrintWords Go.Proofs.YthfilfklhdpbeaaW.PrintLast Go.Proofs.YthfilfklhdpbeaaW.PrintMore
attribute [local go_sem] max2_int min2_int max_two min_two max_three min_three max_four min_four   -- for this text's walks alone
set_option linter.unusedVariables false
set_option linter.unusedSimpArgs false

/-! ### uni32_Decoder_fits: function 43 -/
mutual
def uni32_Decoder_fits.j0 : Nat → Int → Bool → Int → Int → Int → Bool → List Int → Bool → Int → Int → Option (Bool × Int × Int × Int × Bool × Bool × Int × Int)
  | 0, _, _, _, _, _, _, _, _, _, _ => none
  | k + 1, x1, x13, x1000, x1001, x1002, x1003, x1004, x1005, x1006, x1007 => if x13 = true then (some ((x1 == 0), x1000, x1001, x1002, x1003, x1005, x1006, x1007)) else (if x1005 = true then (uni32_Decoder_fits.j1 k x1 (x1006 == 1) x1000 x1001 x1002 x1003 x1004 x1005 x1006 x1007) else (uni32_Decoder_fits.j1 k x1 false x1000 x1001 x1002 x1003 x1004 x1005 x1006 x1007))
def uni32_Decoder_fits.j1 : Nat → Int → Bool → Int → Int → Int → Bool → List Int → Bool → Int → Int → Option (Bool × Int × Int × Int × Bool × Bool × Int × Int)
  | 0, _, _, _, _, _, _, _, _, _, _ => none
  | k + 1, x1, x27, x1000, x1001, x1002, x1003, x1004, x1005, x1006, x1007 => if x27 = true then (some (decide (x1 ≤ 16), x1000, x1001, x1002, x1003, x1005, x1006, x1007)) else (if x1005 = true then ((scalar_Is.f ((x1 * 256) % 4294967296)).bind fun t109 => (some (t109, x1000, x1001, x1002, x1003, x1005, x1006, x1007))) else (if x1006 = 2 then ((scalar_Is.f x1).bind fun t110 => (some (t110, x1000, x1001, x1002, x1003, x1005, x1006, x1007))) else (some (true, x1000, x1001, x1002, x1003, x1005, x1006, x1007))))
end
def uni32_Decoder_fits.f (k : Nat) (s0_0 : Int) (s0_1 : Int) (s0_2 : Int) (s0_3 : Bool) (s0_4 : List Int) (s0_5 : Bool) (s0_6 : Int) (s0_7 : Int) (a1 : Int) : Option (Bool × Int × Int × Int × Bool × Bool × Int × Int) := if s0_6 = 3 then ((scalar_Is.f a1).bind fun t108 => (some (t108, s0_0, s0_1, s0_2, s0_3, s0_5, s0_6, s0_7))) else (if s0_5 = true then (uni32_Decoder_fits.j0 k a1 (s0_6 == 0) s0_0 s0_1 s0_2 s0_3 s0_4 s0_5 s0_6 s0_7) else (uni32_Decoder_fits.j0 k a1 false s0_0 s0_1 s0_2 s0_3 s0_4 s0_5 s0_6 s0_7))
theorem uni32_Decoder_fits.mono_l : ∀ k, (∀ y0 y1 y2 y3 y4 y5 y6 y7 y8 y9, LeO (uni32_Decoder_fits.j0 k y0 y1 y2 y3 y4 y5 y6 y7 y8 y9) (uni32_Decoder_fits.j0 (k + 1) y0 y1 y2 y3 y4 y5 y6 y7 y8 y9)) ∧ (∀ y0 y1 y2 y3 y4 y5 y6 y7 y8 y9, LeO (uni32_Decoder_fits.j1 k y0 y1 y2 y3 y4 y5 y6 y7 y8 y9) (uni32_Decoder_fits.j1 (k + 1) y0 y1 y2 y3 y4 y5 y6 y7 y8 y9))
  | 0 => ⟨fun _ _ _ _ _ _ _ _ _ _ r h => by simp [uni32_Decoder_fits.j0] at h, fun _ _ _ _ _ _ _ _ _ _ r h => by simp [uni32_Decoder_fits.j1] at h⟩
  | k + 1 => by
    obtain ⟨ih0, ih1⟩ := uni32_Decoder_fits.mono_l k
    refine ⟨?_, ?_⟩
    · intro y0 y1 y2 y3 y4 y5 y6 y7 y8 y9
      unfold uni32_Decoder_fits.j0
      repeat' first
      | (with_reducible exact ih0 _ _ _ _ _ _ _ _ _ _)
      | (with_reducible exact ih1 _ _ _ _ _ _ _ _ _ _)
      | (with_reducible exact LeO.refl _)
      | (with_reducible exact LeO.none _)
      | (with_reducible refine LeO.ite ?_ ?_)
      | (with_reducible refine LeO.bind ?_ (fun _ => ?_))
      | exact ih0 _ _ _ _ _ _ _ _ _ _
      | exact ih1 _ _ _ _ _ _ _ _ _ _
      | exact LeO.none _
      | refine LeO.ite ?_ ?_
      | refine LeO.bind ?_ (fun _ => ?_)
    · intro y0 y1 y2 y3 y4 y5 y6 y7 y8 y9
      unfold uni32_Decoder_fits.j1
      repeat' first
      | (with_reducible exact ih0 _ _ _ _ _ _ _ _ _ _)
      | (with_reducible exact ih1 _ _ _ _ _ _ _ _ _ _)
      | (with_reducible exact LeO.refl _)
      | (with_reducible exact LeO.none _)
      | (with_reducible refine LeO.ite ?_ ?_)
      | (with_reducible refine LeO.bind ?_ (fun _ => ?_))
      | exact ih0 _ _ _ _ _ _ _ _ _ _
      | exact ih1 _ _ _ _ _ _ _ _ _ _
      | exact LeO.none _
      | refine LeO.ite ?_ ?_
      | refine LeO.bind ?_ (fun _ => ?_)
theorem uni32_Decoder_fits.mono : ∀ a0 a1 a2 a3 a4 a5 a6 a7 a8 k, LeO (uni32_Decoder_fits.f k a0 a1 a2 a3 a4 a5 a6 a7 a8) (uni32_Decoder_fits.f (k + 1) a0 a1 a2 a3 a4 a5 a6 a7 a8) := by
  intro a0 a1 a2 a3 a4 a5 a6 a7 a8 k
  obtain ⟨ih0, ih1⟩ := uni32_Decoder_fits.mono_l k
  unfold uni32_Decoder_fits.f
  repeat' first
      | (with_reducible exact ih0 _ _ _ _ _ _ _ _ _ _)
      | (with_reducible exact ih1 _ _ _ _ _ _ _ _ _ _)
      | (with_reducible exact LeO.refl _)
      | (with_reducible exact LeO.none _)
      | (with_reducible refine LeO.ite ?_ ?_)
      | (with_reducible refine LeO.bind ?_ (fun _ => ?_))
      | exact ih0 _ _ _ _ _ _ _ _ _ _
      | exact ih1 _ _ _ _ _ _ _ _ _ _
      | exact LeO.none _
      | refine LeO.ite ?_ ?_
      | refine LeO.bind ?_ (fun _ => ?_)
set_option maxHeartbeats 8000000 in
set_option maxRecDepth 100000 in
theorem uni32_Decoder_fits.calls (k : Nat) (g : Nat) (s0_0 : Int) (s0_1 : Int) (s0_2 : Int) (s0_3 : Bool) (s0_4 : List Int) (s0_5 : Bool) (s0_6 : Int) (s0_7 : Int) (a1 : Int) (r1 : Bool) (r2 : Int) (r3 : Int) (r4 : Int) (r5 : Bool) (r6 : Bool) (r7 : Int) (r8 : Int) (w0 w : World) (hI : IsS42 w0 w g s0_0 s0_1 s0_2 s0_3 s0_4 s0_5 s0_6 s0_7) (hB : Below w0.heap.size w0 w) (h : uni32_Decoder_fits.f k s0_0 s0_1 s0_2 s0_3 s0_4 s0_5 s0_6 s0_7 a1 = some (r1, r2, r3, r4, r5, r6, r7, r8)) :
    Calls Try.prog 43 #[.pointer (some ⟨g, 0, none⟩), .int .u32 a1] w fun e w' => e = .returned (.bool r1) ∧ IsS42 w0 w' g r2 r3 r4 r5 s0_4 r6 r7 r8 ∧ Below w0.heap.size w0 w' ∧ KeepBut w w' g none := by
  have HI0 := Aside0.mk hI
  have HK := Aside0.mk (KeepBut.refl w g none)
  have HL := Aside0.mk hB.size
  clear hI
  have HW0 := Aside0.mk hB.size
  have HB := Aside0.mk hB
  clear hB
  have H : (if s0_6 = 3 then ((scalar_Is.f a1).bind fun t108 => (some (t108, s0_0, s0_1, s0_2, s0_3, s0_5, s0_6, s0_7))) else (if s0_5 = true then (uni32_Decoder_fits.j0 k a1 (s0_6 == 0) s0_0 s0_1 s0_2 s0_3 s0_4 s0_5 s0_6 s0_7) else (uni32_Decoder_fits.j0 k a1 false s0_0 s0_1 s0_2 s0_3 s0_4 s0_5 s0_6 s0_7))) = some (r1, r2, r3, r4, r5, r6, r7, r8) := h
  clear h
  by_cases c3 : s0_6 = 3
  · rw [if_pos c3] at H
    have c3b0 : (s0_6 == 3) = true := beq_iff_eq.mpr c3
    have c3b1 : (s0_6 != 3) = false := bne_eq_false_iff_eq.mpr c3
    clear c3
    replace H := Option.bind_eq_some_iff.mp H
    obtain ⟨t108, A40, H⟩ := H
    replace H : (some (t108, s0_0, s0_1, s0_2, s0_3, s0_5, s0_6, s0_7)) = some (r1, r2, r3, r4, r5, r6, r7, r8) := H
    have A4 := Aside0.mk A40
    clear A40
    simp only [Option.some.injEq, Prod.mk.injEq] at H
    obtain ⟨rfl, rfl, rfl, rfl, rfl, rfl, rfl, rfl⟩ := H
    obtain ⟨ASz5_4, cSz5_4, HGz5, hgz5, HSz5_4⟩ := HI0.out
    have hcz5_0 := cellS42_0 HGz5
    have hcz5_1 := cellS42_1 HGz5
    have hcz5_2 := cellS42_2 HGz5
    have hcz5_3 := cellS42_3 HGz5
    have hcz5_4 := cellS42_4 HGz5
    have hcz5_5 := cellS42_5 HGz5
    have hcz5_6 := cellS42_6 HGz5
    have hcz5_7 := cellS42_7 HGz5
    have hfz5_0 := blk_frozen HGz5 0
    have hfz5_1 := blk_frozen HGz5 1
    have hfz5_2 := blk_frozen HGz5 2
    have hfz5_3 := blk_frozen HGz5 3
    have hfz5_5 := blk_frozen HGz5 5
    have hfz5_6 := blk_frozen HGz5 6
    have hfz5_7 := blk_frozen HGz5 7
    clear HGz5 hgz5
    go_enter Try.func43, Try.ntmps43
    go_wp2_with (first | ((with_reducible refine gate_callee (f := 40) rfl ?_); refine goesL_ (some 12) rfl rfl Try.func40 (by kernel_rfl) rfl #[.int .u32 a1] rfl (by (try simp only [List.map_toArray, List.map_cons, List.map_nil]); first | done | rfl | (simp only [List.length_drop, List.length_take]; rfl)) ?_; (with_reducible refine (scalar_Is.calls a1 t108 _ A4.out).mono ?_); rintro e w' ⟨rfl, ⟨nd, rfl⟩⟩; refine ⟨_, rfl, ?_⟩))
    go_ret
    exact ⟨by first | rfl | (simp [errW_none, errW_some] <;> rfl) | (simp [*, errW_none, errW_some] <;> rfl), by repeat (first | (with_reducible first | exact HI0.out | apply IsS42.alloc | apply IsS42.drewN | apply IsS42.drew | apply IsS42.set_0 | apply IsS42.set_1 | apply IsS42.set_2 | apply IsS42.set_3 | apply IsS42.set_5 | apply IsS42.set_6 | apply IsS42.set_7) | exact HI0.out), by repeat (first | (with_reducible first | exact HB.out | apply below_alloc | apply pw_below_drewN | apply below_drew1 | refine below_set ?_ (IsS42.ge HI0.out)) | exact HB.out), by repeat (first | (with_reducible first | exact HK.out | apply KeepBut.set_ | apply keep_drewN | apply keep_drew | apply keep_alloc) | exact HK.out)⟩
  · rw [if_neg c3] at H
    have c3b0 : (s0_6 == 3) = false := beq_eq_false_iff_ne.mpr c3
    have c3b1 : (s0_6 != 3) = true := bne_iff_ne.mpr c3
    have HC6 := Aside0.mk H
    clear H
    obtain ⟨ASz7_4, cSz7_4, HGz7, hgz7, HSz7_4⟩ := HI0.out
    have hcz7_0 := cellS42_0 HGz7
    have hcz7_1 := cellS42_1 HGz7
    have hcz7_2 := cellS42_2 HGz7
    have hcz7_3 := cellS42_3 HGz7
    have hcz7_4 := cellS42_4 HGz7
    have hcz7_5 := cellS42_5 HGz7
    have hcz7_6 := cellS42_6 HGz7
    have hcz7_7 := cellS42_7 HGz7
    have hfz7_0 := blk_frozen HGz7 0
    have hfz7_1 := blk_frozen HGz7 1
    have hfz7_2 := blk_frozen HGz7 2
    have hfz7_3 := blk_frozen HGz7 3
    have hfz7_5 := blk_frozen HGz7 5
    have hfz7_6 := blk_frozen HGz7 6
    have hfz7_7 := blk_frozen HGz7 7
    clear HGz7 hgz7
    go_enter Try.func43, Try.ntmps43
    go_upto_region 3 with (fail)
    go_cut [13] (fun v13 wc => ∃ (kq : Nat) (x13_5 : Bool), v13 = .bool x13_5 ∧ Aside0 (uni32_Decoder_fits.j0 kq a1 x13_5 s0_0 s0_1 s0_2 s0_3 s0_4 s0_5 s0_6 s0_7 = some (r1, r2, r3, r4, r5, r6, r7, r8)) ∧ Aside0 (kq ≤ k) ∧ Aside0 (IsS42 w0 wc g s0_0 s0_1 s0_2 s0_3 s0_4 s0_5 s0_6 s0_7) ∧ Aside0 (KeepBut w wc g none) ∧ Aside0 (Below w0.heap.size w0 wc))
    case first =>
      have H := HC6.out
      clear HC6
      by_cases c8 : s0_5 = true
      · subst c8
        have H1 : (uni32_Decoder_fits.j0 k a1 (s0_6 == 0) s0_0 s0_1 s0_2 s0_3 s0_4 true s0_6 s0_7) = some (r1, r2, r3, r4, r5, r6, r7, r8) := by rw [if_pos rfl] at H; exact H
        clear H
        have H := H1
        clear H1
        have H' := Aside0.mk H
        clear H
        obtain ⟨ASz9_4, cSz9_4, HGz9, hgz9, HSz9_4⟩ := HI0.out
        have hcz9_0 := cellS42_0 HGz9
        have hcz9_1 := cellS42_1 HGz9
        have hcz9_2 := cellS42_2 HGz9
        have hcz9_3 := cellS42_3 HGz9
        have hcz9_4 := cellS42_4 HGz9
        have hcz9_5 := cellS42_5 HGz9
        have hcz9_6 := cellS42_6 HGz9
        have hcz9_7 := cellS42_7 HGz9
        have hfz9_0 := blk_frozen HGz9 0
        have hfz9_1 := blk_frozen HGz9 1
        have hfz9_2 := blk_frozen HGz9 2
        have hfz9_3 := blk_frozen HGz9 3
        have hfz9_5 := blk_frozen HGz9 5
        have hfz9_6 := blk_frozen HGz9 6
        have hfz9_7 := blk_frozen HGz9 7
        clear HGz9 hgz9
        go_wp2
        go_meet
        case rel => exact ⟨_, ((s0_6 == 0)), (by first | rfl | (simp; done) | (simp [*]; done)), H', ⟨by first | omega | exact Nat.le_refl _⟩, ⟨by repeat (first | (with_reducible first | exact HI0.out | apply IsS42.alloc | apply IsS42.drewN | apply IsS42.drew | apply IsS42.set_0 | apply IsS42.set_1 | apply IsS42.set_2 | apply IsS42.set_3 | apply IsS42.set_5 | apply IsS42.set_6 | apply IsS42.set_7) | exact HI0.out)⟩, ⟨by repeat (first | (with_reducible first | exact HK.out | apply KeepBut.set_ | apply keep_drewN | apply keep_drew | apply keep_alloc) | exact HK.out)⟩, ⟨by repeat (first | (with_reducible first | exact HB.out | apply below_alloc | apply pw_below_drewN | apply below_drew1 | refine below_set ?_ (IsS42.ge HI0.out)) | exact HB.out)⟩⟩
      · replace c8 := Bool.eq_false_iff.mpr c8
        subst c8
        have H1 : (uni32_Decoder_fits.j0 k a1 false s0_0 s0_1 s0_2 s0_3 s0_4 false s0_6 s0_7) = some (r1, r2, r3, r4, r5, r6, r7, r8) := by rw [if_neg (show ¬ (false = true) by decide)] at H; exact H
        clear H
        have H := H1
        clear H1
        have H' := Aside0.mk H
        clear H
        obtain ⟨ASz10_4, cSz10_4, HGz10, hgz10, HSz10_4⟩ := HI0.out
        have hcz10_0 := cellS42_0 HGz10
        have hcz10_1 := cellS42_1 HGz10
        have hcz10_2 := cellS42_2 HGz10
        have hcz10_3 := cellS42_3 HGz10
        have hcz10_4 := cellS42_4 HGz10
        have hcz10_5 := cellS42_5 HGz10
        have hcz10_6 := cellS42_6 HGz10
        have hcz10_7 := cellS42_7 HGz10
        have hfz10_0 := blk_frozen HGz10 0
        have hfz10_1 := blk_frozen HGz10 1
        have hfz10_2 := blk_frozen HGz10 2
        have hfz10_3 := blk_frozen HGz10 3
        have hfz10_5 := blk_frozen HGz10 5
        have hfz10_6 := blk_frozen HGz10 6
        have hfz10_7 := blk_frozen HGz10 7
        clear HGz10 hgz10
        go_wp2
        go_meet
        case rel => exact ⟨_, (false), (by first | rfl | (simp; done) | (simp [*]; done)), H', ⟨by first | omega | exact Nat.le_refl _⟩, ⟨by repeat (first | (with_reducible first | exact HI0.out | apply IsS42.alloc | apply IsS42.drewN | apply IsS42.drew | apply IsS42.set_0 | apply IsS42.set_1 | apply IsS42.set_2 | apply IsS42.set_3 | apply IsS42.set_5 | apply IsS42.set_6 | apply IsS42.set_7) | exact HI0.out)⟩, ⟨by repeat (first | (with_reducible first | exact HK.out | apply KeepBut.set_ | apply keep_drewN | apply keep_drew | apply keep_alloc) | exact HK.out)⟩, ⟨by repeat (first | (with_reducible first | exact HB.out | apply below_alloc | apply pw_below_drewN | apply below_drew1 | refine below_set ?_ (IsS42.ge HI0.out)) | exact HB.out)⟩⟩
    case rest =>
      clear HC6
      try clear p2
      try clear c3
      try clear c3b0
      try clear c3b1
      try clear c4
      try clear c8
      try clear hcz10_0
      try clear hcz10_1
      try clear hcz10_2
      try clear hcz10_3
      try clear hcz10_4
      try clear hcz10_5
      try clear hcz10_6
      try clear hcz10_7
      try clear hcz5_0
      try clear hcz5_1
      try clear hcz5_2
      try clear hcz5_3
      try clear hcz5_4
      try clear hcz5_5
      try clear hcz5_6
      try clear hcz5_7
      try clear hcz7_0
      try clear hcz7_1
      try clear hcz7_2
      try clear hcz7_3
      try clear hcz7_4
      try clear hcz7_5
      try clear hcz7_6
      try clear hcz7_7
      try clear hcz9_0
      try clear hcz9_1
      try clear hcz9_2
      try clear hcz9_3
      try clear hcz9_4
      try clear hcz9_5
      try clear hcz9_6
      try clear hcz9_7
      try clear hfz10_0
      try clear hfz10_1
      try clear hfz10_2
      try clear hfz10_3
      try clear hfz10_5
      try clear hfz10_6
      try clear hfz10_7
      try clear hfz5_0
      try clear hfz5_1
      try clear hfz5_2
      try clear hfz5_3
      try clear hfz5_5
      try clear hfz5_6
      try clear hfz5_7
      try clear hfz7_0
      try clear hfz7_1
      try clear hfz7_2
      try clear hfz7_3
      try clear hfz7_5
      try clear hfz7_6
      try clear hfz7_7
      try clear hfz9_0
      try clear hfz9_1
      try clear hfz9_2
      try clear hfz9_3
      try clear hfz9_5
      try clear hfz9_6
      try clear hfz9_7
      obtain ⟨kq, x13_5, rfl, HA, HJ5, HI0, HK, HB⟩ := hcut
      cases kq with
      | zero => exact absurd HA.out (by simp [uni32_Decoder_fits.j0])
      | succ kj5 =>
        have H := HA.out
        clear HA
        simp only [uni32_Decoder_fits.j0] at H
        by_cases c11 : x13_5 = true
        · subst c11
          have H1 : (some ((a1 == 0), s0_0, s0_1, s0_2, s0_3, s0_5, s0_6, s0_7)) = some (r1, r2, r3, r4, r5, r6, r7, r8) := by rw [if_pos rfl] at H; exact H
          clear H
          have H := H1
          clear H1
          simp only [Option.some.injEq, Prod.mk.injEq] at H
          obtain ⟨rfl, rfl, rfl, rfl, rfl, rfl, rfl, rfl⟩ := H
          go_wp2
          go_ret
          exact ⟨by first | rfl | (simp [errW_none, errW_some] <;> rfl) | (simp [*, errW_none, errW_some] <;> rfl), by repeat (first | (with_reducible first | exact HI0.out | apply IsS42.alloc | apply IsS42.drewN | apply IsS42.drew | apply IsS42.set_0 | apply IsS42.set_1 | apply IsS42.set_2 | apply IsS42.set_3 | apply IsS42.set_5 | apply IsS42.set_6 | apply IsS42.set_7) | exact HI0.out), by repeat (first | (with_reducible first | exact HB.out | apply below_alloc | apply pw_below_drewN | apply below_drew1 | refine below_set ?_ (IsS42.ge HI0.out)) | exact HB.out), by repeat (first | (with_reducible first | exact HK.out | apply KeepBut.set_ | apply keep_drewN | apply keep_drew | apply keep_alloc) | exact HK.out)⟩
        · replace c11 := Bool.eq_false_iff.mpr c11
          subst c11
          have H1 : (if s0_5 = true then (uni32_Decoder_fits.j1 kj5 a1 (s0_6 == 1) s0_0 s0_1 s0_2 s0_3 s0_4 s0_5 s0_6 s0_7) else (uni32_Decoder_fits.j1 kj5 a1 false s0_0 s0_1 s0_2 s0_3 s0_4 s0_5 s0_6 s0_7)) = some (r1, r2, r3, r4, r5, r6, r7, r8) := by rw [if_neg (show ¬ (false = true) by decide)] at H; exact H
          clear H
          have H := H1
          clear H1
          have HC12 := Aside0.mk H
          clear H
          go_upto_region 5 with (fail)
          go_cut [27] (fun v27 wc => ∃ (kq : Nat) (x27_11 : Bool), v27 = .bool x27_11 ∧ Aside0 (uni32_Decoder_fits.j1 kq a1 x27_11 s0_0 s0_1 s0_2 s0_3 s0_4 s0_5 s0_6 s0_7 = some (r1, r2, r3, r4, r5, r6, r7, r8)) ∧ Aside0 (kq ≤ kj5) ∧ Aside0 (IsS42 w0 wc g s0_0 s0_1 s0_2 s0_3 s0_4 s0_5 s0_6 s0_7) ∧ Aside0 (KeepBut w wc g none) ∧ Aside0 (Below w0.heap.size w0 wc))
          case first =>
            have H := HC12.out
            clear HC12
            by_cases c13 : s0_5 = true
            · subst c13
              have H1 : (uni32_Decoder_fits.j1 kj5 a1 (s0_6 == 1) s0_0 s0_1 s0_2 s0_3 s0_4 true s0_6 s0_7) = some (r1, r2, r3, r4, r5, r6, r7, r8) := by rw [if_pos rfl] at H; exact H
              clear H
              have H := H1
              clear H1
              have H' := Aside0.mk H
              clear H
              obtain ⟨ASz14_4, cSz14_4, HGz14, hgz14, HSz14_4⟩ := HI0.out
              have hcz14_0 := cellS42_0 HGz14
              have hcz14_1 := cellS42_1 HGz14
              have hcz14_2 := cellS42_2 HGz14
              have hcz14_3 := cellS42_3 HGz14
              have hcz14_4 := cellS42_4 HGz14
              have hcz14_5 := cellS42_5 HGz14
              have hcz14_6 := cellS42_6 HGz14
              have hcz14_7 := cellS42_7 HGz14
              have hfz14_0 := blk_frozen HGz14 0
              have hfz14_1 := blk_frozen HGz14 1
              have hfz14_2 := blk_frozen HGz14 2
              have hfz14_3 := blk_frozen HGz14 3
              have hfz14_5 := blk_frozen HGz14 5
              have hfz14_6 := blk_frozen HGz14 6
              have hfz14_7 := blk_frozen HGz14 7
              clear HGz14 hgz14
              go_wp2
              go_meet
              case rel => exact ⟨_, ((s0_6 == 1)), (by first | rfl | (simp; done) | (simp [*]; done)), H', ⟨by have := HJ5.out; first | omega | exact Nat.le_refl _⟩, ⟨by repeat (first | (with_reducible first | exact HI0.out | apply IsS42.alloc | apply IsS42.drewN | apply IsS42.drew | apply IsS42.set_0 | apply IsS42.set_1 | apply IsS42.set_2 | apply IsS42.set_3 | apply IsS42.set_5 | apply IsS42.set_6 | apply IsS42.set_7) | exact HI0.out)⟩, ⟨by repeat (first | (with_reducible first | exact HK.out | apply KeepBut.set_ | apply keep_drewN | apply keep_drew | apply keep_alloc) | exact HK.out)⟩, ⟨by repeat (first | (with_reducible first | exact HB.out | apply below_alloc | apply pw_below_drewN | apply below_drew1 | refine below_set ?_ (IsS42.ge HI0.out)) | exact HB.out)⟩⟩
            · replace c13 := Bool.eq_false_iff.mpr c13
              subst c13
              have H1 : (uni32_Decoder_fits.j1 kj5 a1 false s0_0 s0_1 s0_2 s0_3 s0_4 false s0_6 s0_7) = some (r1, r2, r3, r4, r5, r6, r7, r8) := by rw [if_neg (show ¬ (false = true) by decide)] at H; exact H
              clear H
              have H := H1
              clear H1
              have H' := Aside0.mk H
              clear H
              obtain ⟨ASz15_4, cSz15_4, HGz15, hgz15, HSz15_4⟩ := HI0.out
              have hcz15_0 := cellS42_0 HGz15
              have hcz15_1 := cellS42_1 HGz15
              have hcz15_2 := cellS42_2 HGz15
              have hcz15_3 := cellS42_3 HGz15
              have hcz15_4 := cellS42_4 HGz15
              have hcz15_5 := cellS42_5 HGz15
              have hcz15_6 := cellS42_6 HGz15
              have hcz15_7 := cellS42_7 HGz15
              have hfz15_0 := blk_frozen HGz15 0
              have hfz15_1 := blk_frozen HGz15 1
              have hfz15_2 := blk_frozen HGz15 2
              have hfz15_3 := blk_frozen HGz15 3
              have hfz15_5 := blk_frozen HGz15 5
              have hfz15_6 := blk_frozen HGz15 6
              have hfz15_7 := blk_frozen HGz15 7
              clear HGz15 hgz15
              go_wp2
              go_meet
              case rel => exact ⟨_, (false), (by first | rfl | (simp; done) | (simp [*]; done)), H', ⟨by have := HJ5.out; first | omega | exact Nat.le_refl _⟩, ⟨by repeat (first | (with_reducible first | exact HI0.out | apply IsS42.alloc | apply IsS42.drewN | apply IsS42.drew | apply IsS42.set_0 | apply IsS42.set_1 | apply IsS42.set_2 | apply IsS42.set_3 | apply IsS42.set_5 | apply IsS42.set_6 | apply IsS42.set_7) | exact HI0.out)⟩, ⟨by repeat (first | (with_reducible first | exact HK.out | apply KeepBut.set_ | apply keep_drewN | apply keep_drew | apply keep_alloc) | exact HK.out)⟩, ⟨by repeat (first | (with_reducible first | exact HB.out | apply below_alloc | apply pw_below_drewN | apply below_drew1 | refine below_set ?_ (IsS42.ge HI0.out)) | exact HB.out)⟩⟩
          case rest =>
            clear HC12
            try clear c1
            try clear p2
            try clear c3
            try clear c3b0
            try clear c3b1
            try clear c4
            try clear c8
            try clear c11
            try clear c13
            try clear hcz10_0
            try clear hcz10_1
            try clear hcz10_2
            try clear hcz10_3
            try clear hcz10_4
            try clear hcz10_5
            try clear hcz10_6
            try clear hcz10_7
            try clear hcz14_0
            try clear hcz14_1
            try clear hcz14_2
            try clear hcz14_3
            try clear hcz14_4
            try clear hcz14_5
            try clear hcz14_6
            try clear hcz14_7
            try clear hcz15_0
            try clear hcz15_1
            try clear hcz15_2
            try clear hcz15_3
            try clear hcz15_4
            try clear hcz15_5
            try clear hcz15_6
            try clear hcz15_7
            try clear hcz5_0
            try clear hcz5_1
            try clear hcz5_2
            try clear hcz5_3
            try clear hcz5_4
            try clear hcz5_5
            try clear hcz5_6
            try clear hcz5_7
            try clear hcz7_0
            try clear hcz7_1
            try clear hcz7_2
            try clear hcz7_3
            try clear hcz7_4
            try clear hcz7_5
            try clear hcz7_6
            try clear hcz7_7
            try clear hcz9_0
            try clear hcz9_1
            try clear hcz9_2
            try clear hcz9_3
            try clear hcz9_4
            try clear hcz9_5
            try clear hcz9_6
            try clear hcz9_7
            try clear hfz10_0
            try clear hfz10_1
            try clear hfz10_2
            try clear hfz10_3
            try clear hfz10_5
            try clear hfz10_6
            try clear hfz10_7
            try clear hfz14_0
            try clear hfz14_1
            try clear hfz14_2
            try clear hfz14_3
            try clear hfz14_5
            try clear hfz14_6
            try clear hfz14_7
            try clear hfz15_0
            try clear hfz15_1
            try clear hfz15_2
            try clear hfz15_3
            try clear hfz15_5
            try clear hfz15_6
            try clear hfz15_7
            try clear hfz5_0
            try clear hfz5_1
            try clear hfz5_2
            try clear hfz5_3
            try clear hfz5_5
            try clear hfz5_6
            try clear hfz5_7
            try clear hfz7_0
            try clear hfz7_1
            try clear hfz7_2
            try clear hfz7_3
            try clear hfz7_5
            try clear hfz7_6
            try clear hfz7_7
            try clear hfz9_0
            try clear hfz9_1
            try clear hfz9_2
            try clear hfz9_3
            try clear hfz9_5
            try clear hfz9_6
            try clear hfz9_7
            try clear p2
            obtain ⟨kq, x27_11, rfl, HA, HJ11, HI0, HK, HB⟩ := hcut
            cases kq with
            | zero => exact absurd HA.out (by simp [uni32_Decoder_fits.j1])
            | succ kj11 =>
              have H := HA.out
              clear HA
              simp only [uni32_Decoder_fits.j1] at H
              by_cases c16 : x27_11 = true
              · subst c16
                have H1 : (some (decide (a1 ≤ 16), s0_0, s0_1, s0_2, s0_3, s0_5, s0_6, s0_7)) = some (r1, r2, r3, r4, r5, r6, r7, r8) := by rw [if_pos rfl] at H; exact H
                clear H
                have H := H1
                clear H1
                simp only [Option.some.injEq, Prod.mk.injEq] at H
                obtain ⟨rfl, rfl, rfl, rfl, rfl, rfl, rfl, rfl⟩ := H
                go_wp2
                go_ret
                exact ⟨by first | rfl | (simp [errW_none, errW_some] <;> rfl) | (simp [*, errW_none, errW_some] <;> rfl), by repeat (first | (with_reducible first | exact HI0.out | apply IsS42.alloc | apply IsS42.drewN | apply IsS42.drew | apply IsS42.set_0 | apply IsS42.set_1 | apply IsS42.set_2 | apply IsS42.set_3 | apply IsS42.set_5 | apply IsS42.set_6 | apply IsS42.set_7) | exact HI0.out), by repeat (first | (with_reducible first | exact HB.out | apply below_alloc | apply pw_below_drewN | apply below_drew1 | refine below_set ?_ (IsS42.ge HI0.out)) | exact HB.out), by repeat (first | (with_reducible first | exact HK.out | apply KeepBut.set_ | apply keep_drewN | apply keep_drew | apply keep_alloc) | exact HK.out)⟩
              · replace c16 := Bool.eq_false_iff.mpr c16
                subst c16
                have H1 : (if s0_5 = true then ((scalar_Is.f ((a1 * 256) % 4294967296)).bind fun t109 => (some (t109, s0_0, s0_1, s0_2, s0_3, s0_5, s0_6, s0_7))) else (if s0_6 = 2 then ((scalar_Is.f a1).bind fun t110 => (some (t110, s0_0, s0_1, s0_2, s0_3, s0_5, s0_6, s0_7))) else (some (true, s0_0, s0_1, s0_2, s0_3, s0_5, s0_6, s0_7)))) = some (r1, r2, r3, r4, r5, r6, r7, r8) := by rw [if_neg (show ¬ (false = true) by decide)] at H; exact H
                clear H
                have H := H1
                clear H1
                by_cases c17 : s0_5 = true
                · subst c17
                  have H1 : ((scalar_Is.f ((a1 * 256) % 4294967296)).bind fun t109 => (some (t109, s0_0, s0_1, s0_2, s0_3, true, s0_6, s0_7))) = some (r1, r2, r3, r4, r5, r6, r7, r8) := by rw [if_pos rfl] at H; exact H
                  clear H
                  have H := H1
                  clear H1
                  replace H := Option.bind_eq_some_iff.mp H
                  obtain ⟨t109, A180, H⟩ := H
                  replace H : (some (t109, s0_0, s0_1, s0_2, s0_3, true, s0_6, s0_7)) = some (r1, r2, r3, r4, r5, r6, r7, r8) := H
                  have A18 := Aside0.mk A180
                  clear A180
                  simp only [Option.some.injEq, Prod.mk.injEq] at H
                  obtain ⟨rfl, rfl, rfl, rfl, rfl, rfl, rfl, rfl⟩ := H
                  obtain ⟨ASz19_4, cSz19_4, HGz19, hgz19, HSz19_4⟩ := HI0.out
                  have hcz19_0 := cellS42_0 HGz19
                  have hcz19_1 := cellS42_1 HGz19
                  have hcz19_2 := cellS42_2 HGz19
                  have hcz19_3 := cellS42_3 HGz19
                  have hcz19_4 := cellS42_4 HGz19
                  have hcz19_5 := cellS42_5 HGz19
                  have hcz19_6 := cellS42_6 HGz19
                  have hcz19_7 := cellS42_7 HGz19
                  have hfz19_0 := blk_frozen HGz19 0
                  have hfz19_1 := blk_frozen HGz19 1
                  have hfz19_2 := blk_frozen HGz19 2
                  have hfz19_3 := blk_frozen HGz19 3
                  have hfz19_5 := blk_frozen HGz19 5
                  have hfz19_6 := blk_frozen HGz19 6
                  have hfz19_7 := blk_frozen HGz19 7
                  clear HGz19 hgz19
                  go_wp2_with (first | ((with_reducible refine gate_callee (f := 40) rfl ?_); refine goesL_ (some 48) rfl rfl Try.func40 (by kernel_rfl) rfl #[.int .u32 ((a1 * 256) % 4294967296)] rfl (by (try simp only [List.map_toArray, List.map_cons, List.map_nil]); first | done | rfl | (simp only [List.length_drop, List.length_take]; rfl)) ?_; (with_reducible refine (scalar_Is.calls ((a1 * 256) % 4294967296) t109 _ A18.out).mono ?_); rintro e w' ⟨rfl, ⟨nd, rfl⟩⟩; refine ⟨_, rfl, ?_⟩))
                  go_ret
                  exact ⟨by first | rfl | (simp [errW_none, errW_some] <;> rfl) | (simp [*, errW_none, errW_some] <;> rfl), by repeat (first | (with_reducible first | exact HI0.out | apply IsS42.alloc | apply IsS42.drewN | apply IsS42.drew | apply IsS42.set_0 | apply IsS42.set_1 | apply IsS42.set_2 | apply IsS42.set_3 | apply IsS42.set_5 | apply IsS42.set_6 | apply IsS42.set_7) | exact HI0.out), by repeat (first | (with_reducible first | exact HB.out | apply below_alloc | apply pw_below_drewN | apply below_drew1 | refine below_set ?_ (IsS42.ge HI0.out)) | exact HB.out), by repeat (first | (with_reducible first | exact HK.out | apply KeepBut.set_ | apply keep_drewN | apply keep_drew | apply keep_alloc) | exact HK.out)⟩
                · replace c17 := Bool.eq_false_iff.mpr c17
                  subst c17
                  have H1 : (if s0_6 = 2 then ((scalar_Is.f a1).bind fun t110 => (some (t110, s0_0, s0_1, s0_2, s0_3, false, s0_6, s0_7))) else (some (true, s0_0, s0_1, s0_2, s0_3, false, s0_6, s0_7))) = some (r1, r2, r3, r4, r5, r6, r7, r8) := by rw [if_neg (show ¬ (false = true) by decide)] at H; exact H
                  clear H
                  have H := H1
                  clear H1
                  by_cases c20 : s0_6 = 2
                  · rw [if_pos c20] at H
                    have c20b0 : (s0_6 == 2) = true := beq_iff_eq.mpr c20
                    have c20b1 : (s0_6 != 2) = false := bne_eq_false_iff_eq.mpr c20
                    clear c20
                    replace H := Option.bind_eq_some_iff.mp H
                    obtain ⟨t110, A210, H⟩ := H
                    replace H : (some (t110, s0_0, s0_1, s0_2, s0_3, false, s0_6, s0_7)) = some (r1, r2, r3, r4, r5, r6, r7, r8) := H
                    have A21 := Aside0.mk A210
                    clear A210
                    simp only [Option.some.injEq, Prod.mk.injEq] at H
                    obtain ⟨rfl, rfl, rfl, rfl, rfl, rfl, rfl, rfl⟩ := H
                    obtain ⟨ASz22_4, cSz22_4, HGz22, hgz22, HSz22_4⟩ := HI0.out
                    have hcz22_0 := cellS42_0 HGz22
                    have hcz22_1 := cellS42_1 HGz22
                    have hcz22_2 := cellS42_2 HGz22
                    have hcz22_3 := cellS42_3 HGz22
                    have hcz22_4 := cellS42_4 HGz22
                    have hcz22_5 := cellS42_5 HGz22
                    have hcz22_6 := cellS42_6 HGz22
                    have hcz22_7 := cellS42_7 HGz22
                    have hfz22_0 := blk_frozen HGz22 0
                    have hfz22_1 := blk_frozen HGz22 1
                    have hfz22_2 := blk_frozen HGz22 2
                    have hfz22_3 := blk_frozen HGz22 3
                    have hfz22_5 := blk_frozen HGz22 5
                    have hfz22_6 := blk_frozen HGz22 6
                    have hfz22_7 := blk_frozen HGz22 7
                    clear HGz22 hgz22
                    go_wp2_with (first | ((with_reducible refine gate_callee (f := 40) rfl ?_); refine goesL_ (some 56) rfl rfl Try.func40 (by kernel_rfl) rfl #[.int .u32 a1] rfl (by (try simp only [List.map_toArray, List.map_cons, List.map_nil]); first | done | rfl | (simp only [List.length_drop, List.length_take]; rfl)) ?_; (with_reducible refine (scalar_Is.calls a1 t110 _ A21.out).mono ?_); rintro e w' ⟨rfl, ⟨nd, rfl⟩⟩; refine ⟨_, rfl, ?_⟩))
                    go_ret
                    exact ⟨by first | rfl | (simp [errW_none, errW_some] <;> rfl) | (simp [*, errW_none, errW_some] <;> rfl), by repeat (first | (with_reducible first | exact HI0.out | apply IsS42.alloc | apply IsS42.drewN | apply IsS42.drew | apply IsS42.set_0 | apply IsS42.set_1 | apply IsS42.set_2 | apply IsS42.set_3 | apply IsS42.set_5 | apply IsS42.set_6 | apply IsS42.set_7) | exact HI0.out), by repeat (first | (with_reducible first | exact HB.out | apply below_alloc | apply pw_below_drewN | apply below_drew1 | refine below_set ?_ (IsS42.ge HI0.out)) | exact HB.out), by repeat (first | (with_reducible first | exact HK.out | apply KeepBut.set_ | apply keep_drewN | apply keep_drew | apply keep_alloc) | exact HK.out)⟩
                  · rw [if_neg c20] at H
                    have c20b0 : (s0_6 == 2) = false := beq_eq_false_iff_ne.mpr c20
                    have c20b1 : (s0_6 != 2) = true := bne_iff_ne.mpr c20
                    simp only [Option.some.injEq, Prod.mk.injEq] at H
                    obtain ⟨rfl, rfl, rfl, rfl, rfl, rfl, rfl, rfl⟩ := H
                    obtain ⟨ASz23_4, cSz23_4, HGz23, hgz23, HSz23_4⟩ := HI0.out
                    have hcz23_0 := cellS42_0 HGz23
                    have hcz23_1 := cellS42_1 HGz23
                    have hcz23_2 := cellS42_2 HGz23
                    have hcz23_3 := cellS42_3 HGz23
                    have hcz23_4 := cellS42_4 HGz23
                    have hcz23_5 := cellS42_5 HGz23
                    have hcz23_6 := cellS42_6 HGz23
                    have hcz23_7 := cellS42_7 HGz23
                    have hfz23_0 := blk_frozen HGz23 0
                    have hfz23_1 := blk_frozen HGz23 1
                    have hfz23_2 := blk_frozen HGz23 2
                    have hfz23_3 := blk_frozen HGz23 3
                    have hfz23_5 := blk_frozen HGz23 5
                    have hfz23_6 := blk_frozen HGz23 6
                    have hfz23_7 := blk_frozen HGz23 7
                    clear HGz23 hgz23
                    go_wp2
                    go_ret
                    exact ⟨by first | rfl | (simp [errW_none, errW_some] <;> rfl) | (simp [*, errW_none, errW_some] <;> rfl), by repeat (first | (with_reducible first | exact HI0.out | apply IsS42.alloc | apply IsS42.drewN | apply IsS42.drew | apply IsS42.set_0 | apply IsS42.set_1 | apply IsS42.set_2 | apply IsS42.set_3 | apply IsS42.set_5 | apply IsS42.set_6 | apply IsS42.set_7) | exact HI0.out), by repeat (first | (with_reducible first | exact HB.out | apply below_alloc | apply pw_below_drewN | apply below_drew1 | refine below_set ?_ (IsS42.ge HI0.out)) | exact HB.out), by repeat (first | (with_reducible first | exact HK.out | apply KeepBut.set_ | apply keep_drewN | apply keep_drew | apply keep_alloc) | exact HK.out)⟩

-- NOT PRINTED: function 35 (uni32_Decoder_next)

-- NOT PRINTED: function 25 (uni32_Decoder_Feed)

-- NOT PRINTED: function 26 (uni32_Decoder_End)

/-! ### uni32_Encoder_bytes: function 42 -/
def uni32_Encoder_bytes.f (s0_0 : Int) (s0_1 : Int) (s0_2 : Int) (s0_3 : Bool) (s0_4 : ByteArray) (s0_5 : Bool) (a1 : Int) : Option (ByteArray × Int × Int × Int × Bool × ByteArray × Bool) := if s0_5 = true then (some (strOfNums (([(a1 / 16777216) % 256, (a1 / 65536) % 256, (a1 / 256) % 256, (a1) % 256] : List Int)), s0_0, s0_1, s0_2, s0_3, s0_4, s0_5)) else (some (strOfNums (([(a1) % 256, (a1 / 256) % 256, (a1 / 65536) % 256, (a1 / 16777216) % 256] : List Int)), s0_0, s0_1, s0_2, s0_3, s0_4, s0_5))
set_option maxHeartbeats 8000000 in
set_option maxRecDepth 100000 in
theorem uni32_Encoder_bytes.calls (g : Nat) (s0_0 : Int) (s0_1 : Int) (s0_2 : Int) (s0_3 : Bool) (s0_4 : ByteArray) (s0_5 : Bool) (a1 : Int) (r1 : ByteArray) (r2 : Int) (r3 : Int) (r4 : Int) (r5 : Bool) (r6 : ByteArray) (r7 : Bool) (w0 w : World) (hI : IsS63 w0 w g s0_0 s0_1 s0_2 s0_3 s0_4 s0_5) (hB : Below w0.heap.size w0 w) (h : uni32_Encoder_bytes.f s0_0 s0_1 s0_2 s0_3 s0_4 s0_5 a1 = some (r1, r2, r3, r4, r5, r6, r7)) :
    Calls Try.prog 42 #[.pointer (some ⟨g, 0, none⟩), .int .u32 a1] w fun e w' => e = .returned (.string r1) ∧ IsS63 w0 w' g r2 r3 r4 r5 r6 r7 ∧ Below w0.heap.size w0 w' ∧ KeepBut w w' g none := by
  have HI0 := Aside0.mk hI
  have HK := Aside0.mk (KeepBut.refl w g none)
  have HL := Aside0.mk hB.size
  clear hI
  have HW0 := Aside0.mk hB.size
  have HB := Aside0.mk hB
  clear hB
  have H : (if s0_5 = true then (some (strOfNums (([(a1 / 16777216) % 256, (a1 / 65536) % 256, (a1 / 256) % 256, (a1) % 256] : List Int)), s0_0, s0_1, s0_2, s0_3, s0_4, s0_5)) else (some (strOfNums (([(a1) % 256, (a1 / 256) % 256, (a1 / 65536) % 256, (a1 / 16777216) % 256] : List Int)), s0_0, s0_1, s0_2, s0_3, s0_4, s0_5))) = some (r1, r2, r3, r4, r5, r6, r7) := h
  clear h
  by_cases c3 : s0_5 = true
  · subst c3
    have H1 : (some (strOfNums (([(a1 / 16777216) % 256, (a1 / 65536) % 256, (a1 / 256) % 256, (a1) % 256] : List Int)), s0_0, s0_1, s0_2, s0_3, s0_4, true)) = some (r1, r2, r3, r4, r5, r6, r7) := by rw [if_pos rfl] at H; exact H
    clear H
    have H := H1
    clear H1
    obtain ⟨y122, hy122⟩ : ∃ y_ : List Int, y_ = (([(a1 / 16777216) % 256, (a1 / 65536) % 256, (a1 / 256) % 256, (a1) % 256] : List Int)) := ⟨_, rfl⟩
    replace H : (some (strOfNums y122, s0_0, s0_1, s0_2, s0_3, s0_4, true)) = some (r1, r2, r3, r4, r5, r6, r7) := by first | (rw [hy122]; with_reducible exact H) | (have H2_ := (Option.bind_some _ _).symm.trans H; rw [hy122]; with_reducible exact H2_) | (have H2_ := (Option.bind_some _ _).symm.trans H; with_reducible exact H2_) | with_reducible exact H | (rw [hy122]; exact H) | exact H
    have Ny122 := Aside0.mk hy122
    clear hy122
    simp only [Option.some.injEq, Prod.mk.injEq] at H
    obtain ⟨rfl, rfl, rfl, rfl, rfl, rfl, rfl⟩ := H
    obtain ⟨HGz4, hgz4⟩ := HI0.out
    have hcz4_0 := cellS63_0 HGz4
    have hcz4_1 := cellS63_1 HGz4
    have hcz4_2 := cellS63_2 HGz4
    have hcz4_3 := cellS63_3 HGz4
    have hcz4_4 := cellS63_4 HGz4
    have hcz4_5 := cellS63_5 HGz4
    have hfz4_0 := blk_frozen HGz4 0
    have hfz4_1 := blk_frozen HGz4 1
    have hfz4_2 := blk_frozen HGz4 2
    have hfz4_3 := blk_frozen HGz4 3
    have hfz4_4 := blk_frozen HGz4 4
    have hfz4_5 := blk_frozen HGz4 5
    clear HGz4 hgz4
    go_enter Try.func42, Try.ntmps42
    go_wp2_with (first | ((with_reducible refine gate_dst (N := 20) rfl ?_); refine Kd.R_lit (Kd.int .u8) _ 5 ?hg (N := 20) ?hd (xs := ([(a1 / 16777216) % 256, (a1 / 65536) % 256, (a1 / 256) % 256, (a1) % 256] : List Int)) (inner := [.int .u8 ((a1 / 16777216) % 256), .int .u8 ((a1 / 65536) % 256), .int .u8 ((a1 / 256) % 256), .int .u8 ((a1) % 256)]) (ok := fun _ => True) (okp := fun _ => True) ?hr ?hp (fun _ hk => hk) trivial (Below.refl _ _) (Nat.le_refl _) (by simp) ?_; (case hd => rfl); (case hg => rfl); (case hr => first | (go_simp; done) | (go_simp; rfl)); (case hp => exact (Reps.one (show Kd.M (Kd.int .u8) _ _ _ ((a1 / 16777216) % 256) [.int .u8 ((a1 / 16777216) % 256)] from rfl) (Reps.one (show Kd.M (Kd.int .u8) _ _ _ ((a1 / 65536) % 256) [.int .u8 ((a1 / 65536) % 256)] from rfl) (Reps.one (show Kd.M (Kd.int .u8) _ _ _ ((a1 / 256) % 256) [.int .u8 ((a1 / 256) % 256)] from rfl) (Reps.one (show Kd.M (Kd.int .u8) _ _ _ ((a1) % 256) [.int .u8 ((a1) % 256)] from rfl) (Reps.none _ _)))))); intro v123 w5 ho6 hb hg_ hnew_; clear hg_ hnew_; (first | rw [← Ny122.out] at ho6 | (simp only [Int.reduceToNat] at ho6; rw [← Ny122.out] at ho6)); have n0_ := Aside0.mk (Kd.R_lower ho6 (keep_size (w := w) (g := g) (row := none) (by repeat (first | (with_reducible first | exact HK.out | apply KeepBut.set_ | apply keep_drewN | apply keep_drew | apply keep_alloc) | exact HK.out)))); have n1_ := Aside0.mk (IsS63.below (by repeat (first | (with_reducible first | exact HI0.out | apply IsS63.alloc | apply IsS63.drewN | apply IsS63.drew | apply IsS63.set_0 | apply IsS63.set_1 | apply IsS63.set_2 | apply IsS63.set_3 | apply IsS63.set_4 | apply IsS63.set_5) | exact HI0.out)) hb); have n2_ := Aside0.mk (KeepBut.trans (by repeat (first | (with_reducible first | exact HK.out | apply KeepBut.set_ | apply keep_drewN | apply keep_drew | apply keep_alloc) | exact HK.out)) (KeepBut.of_below hb g none) (.inl rfl)); have n3_ := Aside0.mk (below_step (by repeat (first | (with_reducible first | exact HB.out | apply below_alloc | apply pw_below_drewN | apply below_drew1 | refine below_set ?_ (IsS63.ge HI0.out)) | exact HB.out)) hb); clear HI0; clear HK; clear HB; have HO124 := n0_; have HI0 := n1_; have HK := n2_; have HB := n3_; clear n0_ n1_ n2_ n3_; clear hb ho6; have hcv7 := own_string (P := Try.prog) Try.underlying72 Try.underlying5 Try.underlying9 (Kd.own_of_R HO124.out)))
    go_ret
    exact ⟨by first | rfl | (simp [errW_none, errW_some] <;> rfl) | (simp [*, errW_none, errW_some] <;> rfl), by repeat (first | (with_reducible first | exact HI0.out | apply IsS63.alloc | apply IsS63.drewN | apply IsS63.drew | apply IsS63.set_0 | apply IsS63.set_1 | apply IsS63.set_2 | apply IsS63.set_3 | apply IsS63.set_4 | apply IsS63.set_5) | exact HI0.out), by repeat (first | (with_reducible first | exact HB.out | apply below_alloc | apply pw_below_drewN | apply below_drew1 | refine below_set ?_ (IsS63.ge HI0.out)) | exact HB.out), by repeat (first | (with_reducible first | exact HK.out | apply KeepBut.set_ | apply keep_drewN | apply keep_drew | apply keep_alloc) | exact HK.out)⟩
  · replace c3 := Bool.eq_false_iff.mpr c3
    subst c3
    have H1 : (some (strOfNums (([(a1) % 256, (a1 / 256) % 256, (a1 / 65536) % 256, (a1 / 16777216) % 256] : List Int)), s0_0, s0_1, s0_2, s0_3, s0_4, false)) = some (r1, r2, r3, r4, r5, r6, r7) := by rw [if_neg (show ¬ (false = true) by decide)] at H; exact H
    clear H
    have H := H1
    clear H1
    obtain ⟨y125, hy125⟩ : ∃ y_ : List Int, y_ = (([(a1) % 256, (a1 / 256) % 256, (a1 / 65536) % 256, (a1 / 16777216) % 256] : List Int)) := ⟨_, rfl⟩
    replace H : (some (strOfNums y125, s0_0, s0_1, s0_2, s0_3, s0_4, false)) = some (r1, r2, r3, r4, r5, r6, r7) := by first | (rw [hy125]; with_reducible exact H) | (have H2_ := (Option.bind_some _ _).symm.trans H; rw [hy125]; with_reducible exact H2_) | (have H2_ := (Option.bind_some _ _).symm.trans H; with_reducible exact H2_) | with_reducible exact H | (rw [hy125]; exact H) | exact H
    have Ny125 := Aside0.mk hy125
    clear hy125
    simp only [Option.some.injEq, Prod.mk.injEq] at H
    obtain ⟨rfl, rfl, rfl, rfl, rfl, rfl, rfl⟩ := H
    obtain ⟨HGz8, hgz8⟩ := HI0.out
    have hcz8_0 := cellS63_0 HGz8
    have hcz8_1 := cellS63_1 HGz8
    have hcz8_2 := cellS63_2 HGz8
    have hcz8_3 := cellS63_3 HGz8
    have hcz8_4 := cellS63_4 HGz8
    have hcz8_5 := cellS63_5 HGz8
    have hfz8_0 := blk_frozen HGz8 0
    have hfz8_1 := blk_frozen HGz8 1
    have hfz8_2 := blk_frozen HGz8 2
    have hfz8_3 := blk_frozen HGz8 3
    have hfz8_4 := blk_frozen HGz8 4
    have hfz8_5 := blk_frozen HGz8 5
    clear HGz8 hgz8
    go_enter Try.func42, Try.ntmps42
    go_wp2_with (first | ((with_reducible refine gate_dst (N := 33) rfl ?_); refine Kd.R_lit (Kd.int .u8) _ 5 ?hg (N := 33) ?hd (xs := ([(a1) % 256, (a1 / 256) % 256, (a1 / 65536) % 256, (a1 / 16777216) % 256] : List Int)) (inner := [.int .u8 ((a1) % 256), .int .u8 ((a1 / 256) % 256), .int .u8 ((a1 / 65536) % 256), .int .u8 ((a1 / 16777216) % 256)]) (ok := fun _ => True) (okp := fun _ => True) ?hr ?hp (fun _ hk => hk) trivial (Below.refl _ _) (Nat.le_refl _) (by simp) ?_; (case hd => rfl); (case hg => rfl); (case hr => first | (go_simp; done) | (go_simp; rfl)); (case hp => exact (Reps.one (show Kd.M (Kd.int .u8) _ _ _ ((a1) % 256) [.int .u8 ((a1) % 256)] from rfl) (Reps.one (show Kd.M (Kd.int .u8) _ _ _ ((a1 / 256) % 256) [.int .u8 ((a1 / 256) % 256)] from rfl) (Reps.one (show Kd.M (Kd.int .u8) _ _ _ ((a1 / 65536) % 256) [.int .u8 ((a1 / 65536) % 256)] from rfl) (Reps.one (show Kd.M (Kd.int .u8) _ _ _ ((a1 / 16777216) % 256) [.int .u8 ((a1 / 16777216) % 256)] from rfl) (Reps.none _ _)))))); intro v126 w9 ho10 hb hg_ hnew_; clear hg_ hnew_; (first | rw [← Ny125.out] at ho10 | (simp only [Int.reduceToNat] at ho10; rw [← Ny125.out] at ho10)); have n0_ := Aside0.mk (Kd.R_lower ho10 (keep_size (w := w) (g := g) (row := none) (by repeat (first | (with_reducible first | exact HK.out | apply KeepBut.set_ | apply keep_drewN | apply keep_drew | apply keep_alloc) | exact HK.out)))); have n1_ := Aside0.mk (IsS63.below (by repeat (first | (with_reducible first | exact HI0.out | apply IsS63.alloc | apply IsS63.drewN | apply IsS63.drew | apply IsS63.set_0 | apply IsS63.set_1 | apply IsS63.set_2 | apply IsS63.set_3 | apply IsS63.set_4 | apply IsS63.set_5) | exact HI0.out)) hb); have n2_ := Aside0.mk (KeepBut.trans (by repeat (first | (with_reducible first | exact HK.out | apply KeepBut.set_ | apply keep_drewN | apply keep_drew | apply keep_alloc) | exact HK.out)) (KeepBut.of_below hb g none) (.inl rfl)); have n3_ := Aside0.mk (below_step (by repeat (first | (with_reducible first | exact HB.out | apply below_alloc | apply pw_below_drewN | apply below_drew1 | refine below_set ?_ (IsS63.ge HI0.out)) | exact HB.out)) hb); clear HI0; clear HK; clear HB; have HO127 := n0_; have HI0 := n1_; have HK := n2_; have HB := n3_; clear n0_ n1_ n2_ n3_; clear hb ho10; have hcv11 := own_string (P := Try.prog) Try.underlying72 Try.underlying5 Try.underlying9 (Kd.own_of_R HO127.out)))
    go_ret
    exact ⟨by first | rfl | (simp [errW_none, errW_some] <;> rfl) | (simp [*, errW_none, errW_some] <;> rfl), by repeat (first | (with_reducible first | exact HI0.out | apply IsS63.alloc | apply IsS63.drewN | apply IsS63.drew | apply IsS63.set_0 | apply IsS63.set_1 | apply IsS63.set_2 | apply IsS63.set_3 | apply IsS63.set_4 | apply IsS63.set_5) | exact HI0.out), by repeat (first | (with_reducible first | exact HB.out | apply below_alloc | apply pw_below_drewN | apply below_drew1 | refine below_set ?_ (IsS63.ge HI0.out)) | exact HB.out), by repeat (first | (with_reducible first | exact HK.out | apply KeepBut.set_ | apply keep_drewN | apply keep_drew | apply keep_alloc) | exact HK.out)⟩

-- NOT PRINTED: function 27 (uni32_Encoder_Feed)

-- NOT PRINTED: function 9 (pilcrowlaw05_awake)

-- NOT PRINTED: function 11 (pilcrowlaw05_read)

/-! ### pilcrowlaw05_great: function 16 -/
def pilcrowlaw05_great.f (a0 : Int) (l1 : List Int) (l2 : List Int) : Option (Bool) := if a0 > 400 then (some true) else (if (l1.length : Int) > 200 then (some true) else (some (decide ((l2.length : Int) > 200))))
set_option maxHeartbeats 8000000 in
set_option maxRecDepth 100000 in
theorem pilcrowlaw05_great.calls (a0 : Int) (A1 : Option Addr) (c1 : Nat) (l1 : List Int) (A2 : Option Addr) (c2 : Nat) (l2 : List Int) (r : Bool) (w : World) (hr1 : Kd.C (Kd.int .i64) w A1 l1.length l1) (hc1 : l1.length ≤ c1) (hr2 : Kd.C (Kd.int .i64) w A2 l2.length l2) (hc2 : l2.length ≤ c2) (h : pilcrowlaw05_great.f a0 l1 l2 = some r) :
    Calls Try.prog 16 #[.int .i64 a0, .slice A1 l1.length c1, .slice A2 l2.length c2] w fun e w' => e = .returned (.bool r) ∧ Drawn0 w w' := by
  have HR1 := Aside0.mk hr1
  have HC1 := Aside0.mk hc1
  clear hr1 hc1
  have HR2 := Aside0.mk hr2
  have HC2 := Aside0.mk hc2
  clear hr2 hc2
  have H : (if a0 > 400 then (some true) else (if (l1.length : Int) > 200 then (some true) else (some (decide ((l2.length : Int) > 200))))) = some r := h
  clear h
  by_cases c4 : a0 > 400
  · rw [if_pos c4] at H
    have c4b0 : decide (400 < a0) = true := decide_eq_true c4
    clear c4
    obtain rfl := Option.some.inj H
    go_enter Try.func16, Try.ntmps16
    go_wp2
    go_ret
    exact ⟨by first | rfl | (simp; done) | (simp [*]; done), by repeat (first | exact Drawn0.refl _ | apply Drawn0.step)⟩
  · rw [if_neg c4] at H
    have c4b0 : decide (400 < a0) = false := decide_eq_false c4
    clear c4
    by_cases c5 : (l1.length : Int) > 200
    · rw [if_pos c5] at H
      have c5b0 : decide (200 < (l1.length : Int)) = true := decide_eq_true c5
      have c5b1 : decide (200 < l1.length) = true := decide_eq_true (by omega)
      clear c5
      obtain rfl := Option.some.inj H
      go_enter Try.func16, Try.ntmps16
      go_wp2
      go_ret
      exact ⟨by first | rfl | (simp; done) | (simp [*]; done), by repeat (first | exact Drawn0.refl _ | apply Drawn0.step)⟩
    · rw [if_neg c5] at H
      have c5b0 : decide (200 < (l1.length : Int)) = false := decide_eq_false c5
      have c5b1 : decide (200 < l1.length) = false := decide_eq_false (by omega)
      clear c5
      obtain rfl := Option.some.inj H
      go_enter Try.func16, Try.ntmps16
      go_wp2
      go_ret
      exact ⟨by first | rfl | (simp; done) | (simp [*]; done), by repeat (first | exact Drawn0.refl _ | apply Drawn0.step)⟩

/-! ### pilcrowref01_Is: function 13 -/
def pilcrowref01_Is.f (a0 : Int) : Option (Bool) := if a0 ≥ 55296 then (if a0 ≤ 57343 then (some false) else (some (decide (a0 ≤ 1114111)))) else (some (decide (a0 ≤ 1114111)))
set_option maxHeartbeats 8000000 in
set_option maxRecDepth 100000 in
theorem pilcrowref01_Is.calls (a0 : Int) (r : Bool) (w : World) (h : pilcrowref01_Is.f a0 = some r) :
    Calls Try.prog 13 #[.int .u32 a0] w fun e w' => e = .returned (.bool r) ∧ Drawn0 w w' := by
  have H : (if a0 ≥ 55296 then (if a0 ≤ 57343 then (some false) else (some (decide (a0 ≤ 1114111)))) else (some (decide (a0 ≤ 1114111)))) = some r := h
  clear h
  by_cases c2 : a0 ≥ 55296
  · rw [if_pos c2] at H
    have c2b0 : decide (55296 ≤ a0) = true := decide_eq_true c2
    clear c2
    by_cases c3 : a0 ≤ 57343
    · rw [if_pos c3] at H
      have c3b0 : decide (a0 ≤ 57343) = true := decide_eq_true c3
      clear c3
      obtain rfl := Option.some.inj H
      go_enter Try.func13, Try.ntmps13
      go_wp2
      go_ret
      exact ⟨by first | rfl | (simp; done) | (simp [*]; done), by repeat (first | exact Drawn0.refl _ | apply Drawn0.step)⟩
    · rw [if_neg c3] at H
      have c3b0 : decide (a0 ≤ 57343) = false := decide_eq_false c3
      clear c3
      obtain rfl := Option.some.inj H
      go_enter Try.func13, Try.ntmps13
      go_wp2
      go_ret
      exact ⟨by first | rfl | (simp; done) | (simp [*]; done), by repeat (first | exact Drawn0.refl _ | apply Drawn0.step)⟩
  · rw [if_neg c2] at H
    have c2b0 : decide (55296 ≤ a0) = false := decide_eq_false c2
    clear c2
    obtain rfl := Option.some.inj H
    go_enter Try.func13, Try.ntmps13
    go_wp2
    go_ret
    exact ⟨by first | rfl | (simp; done) | (simp [*]; done), by repeat (first | exact Drawn0.refl _ | apply Drawn0.step)⟩

end Go.Proofs.Ythfilfklhdpbeaa.PUni32Reads
