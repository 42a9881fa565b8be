/- The law's awake: answers that the document fixes. -/
import Derived.Test.YtcfpbihkodjlkaaLg
namespace Go.Proofs.Ytcfpbihkodjlkaa
open Go.RowKit Go.Proofs.YtcfpbihkodjlkaaW.PrintWords Go.Proofs.YtcfpbihkodjlkaaW.PrintMore
open M (isB isB_range is_any)
set_option linter.unusedVariables false
set_option linter.unusedSimpArgs false
theorem lit_reads (W : World) (x y z : Int) : ReadsInt (W.alloc (.cells #[.int .u32 x, .int .u32 y, .int .u32 z] 22)) .u32 (some ⟨W.heap.size, 0, none⟩) 3 [x, y, z] :=
  ⟨rfl, by omega, fun _ => ⟨_, rfl, fun j hj => by
    rw [add_plain]
    match j, hj with
    | 0, _ => exact (blk_cell (blk_new W _) 0).trans rfl
    | 1, _ => exact (blk_cell (blk_new W _) 1).trans rfl
    | 2, _ => exact (blk_cell (blk_new W _) 2).trans rfl⟩⟩
set_option maxHeartbeats 4000000 in
theorem awake_any (w : World) : Calls Try.prog 10 #[] w fun en w' => en = .returned (.bool true) ∧ Below w.heap.size w w' := by
  have heq := eqF
  go_enter Try.func10, Try.ntmps10
  go_wp2_with fail
  refine (newd_any _).mono ?_
  rintro en w1 ⟨g1, tb1, rfl, hx1, hg1, ht1, hd1, hb1⟩
  have HL1 := Lib.hid hd1.lt
  have HD1 := Lib.hid hd1
  have HB1 := Lib.hid hb1
  clear hd1 hb1
  go_wp2_with fail
  refine (newd_any _).mono ?_
  rintro en w2 ⟨g2, tb2, rfl, hx2, hg2, ht2, hd2, hb2⟩
  have HL2 := Lib.hid hd2.lt
  have HD2 := Lib.hid hd2
  have HD12 := Lib.hid (HD1.out.below hb2)
  have ht12 := ht1.kp (F := fun _ => False) (Kp.of_below hb2) (fun h => h)
  have HB2 := Lib.hid hb2
  clear hd2 hb2
  go_wp2_with fail
  refine (newe_any _).mono ?_
  rintro en w3 ⟨g3, tb3, rfl, hx3, hg3, ht3, he3, hb3⟩
  have HE3 := Lib.hid he3
  have HD13 := Lib.hid (HD12.out.below hb3)
  have HT13 := Lib.hid (ht12.kp (F := fun _ => False) (Kp.of_below hb3) (fun h => h))
  have HT23 := Lib.hid (ht2.kp (F := fun _ => False) (Kp.of_below hb3) (fun h => h))
  have HT33 := Lib.hid ht3
  have HD23 := Lib.hid (HD2.out.below hb3)
  have HB3 := Lib.hid hb3
  clear he3 hb3 ht1 ht2 ht3 ht12
  have hz1 := HB1.out.size
  have hz2 := HB2.out.size
  have hz3 := HB3.out.size
  have hl1 := HL1.out
  have hl2 := HL2.out
  have HBW3 : Hid (Below w.heap.size w w3) := (HB1.out.trans (HB2.out.mono hz1)).trans (HB3.out.mono (by omega))
  go_wp2_with fail
  refine (feed_any _ 9 _ cok0 (by decide) (by omega) (by omega) HT13.out HD13.out).mono ?_
  rintro en w4 h4
  obtain ⟨r4, s4, rfl, ho4, hk4, _, hf4⟩ := feed_is 4 [65, 133, 160] true false h4 (by decide +kernel)
  have HF4 := Lib.hid (hf4 rfl)
  obtain ⟨A4, c4, rfl, hle4, _⟩ := own_reads_of_le (enc := fun x => Value.int .u32 x) (d := (0 : Int)) ho4
  have HLE4 := Lib.hid hle4
  have HO4 := Lib.hid ho4
  have HK4 := Lib.hid hk4
  have HT24 := Lib.hid (HT23.out.kp hk4 (by omega))
  have HT34 := Lib.hid (HT33.out.kp hk4 (by omega))
  have HD24 := Lib.hid (HD23.out.by_ hk4 (by omega))
  have HE4 := Lib.hid (Enc.by_ HE3.out hk4 (by have := HE3.out.lt; omega))
  clear h4 ho4 hk4 hf4 hle4
  go_wp2_with fail
  refine (feed_any _ 9 _ cok0 (by decide) (by omega) (by omega) HT24.out HD24.out).mono ?_
  rintro en w5 h5
  obtain ⟨r5, s5, rfl, ho5, hk5, hf5, _⟩ := feed_is 2 [] false true h5 (by decide +kernel)
  obtain ⟨hcut5, hd5⟩ := hf5 rfl
  have HC5 := Lib.hid hcut5
  have HF5 := Lib.hid (HF4.out.by_ hk5 (by omega))
  have HT35 := Lib.hid (HT34.out.kp hk5 (by omega))
  have HD25 := Lib.hid hd5
  have HE5 := Lib.hid (Enc.by_ HE4.out hk5 (by have := HE4.out.lt; omega))
  have HO5 := Lib.hid (hk5.own HO4.out (fun k hk h0 => by have := own_base HO4.out k hk; omega))
  have HK5 := Lib.hid hk5
  clear h5 ho5 hk5 hf5 hcut5 hd5
  go_wp2_with fail
  refine (dend_cut _ HC5.out HD25.out).mono ?_
  rintro en w6 ⟨rfl, hd6, hs6⟩
  have hk6 := hs6.nil
  have HF6 := Lib.hid (HF5.out.by_ hk6 (by omega))
  have HT36 := Lib.hid (HT35.out.kp hk6 (by omega))
  have HD26 := Lib.hid hd6
  have HE6 := Lib.hid (Enc.by_ HE5.out hk6 (by have := HE5.out.lt; omega))
  have HO6 := Lib.hid (hk6.own HO5.out (fun k hk h0 => by have := own_base HO5.out k hk; omega))
  have HK6 := Lib.hid hk6
  clear hd6 hs6 hk6
  go_wp2_with fail
  refine (efeed_any _ _ _ [65279] 9 _ [] ⟨#[]⟩ rfl (by decide) trivial (box_reads _ _) (fun ad had => ?_) (fun k => ?_) (by decide) (by omega) (by omega) (by omega) (by omega) (HT36.out.kp ((Kp.refl (fun _ => False) _).alloc _) (fun h => h)) (by show tb3 ≠ g3; omega) ((een_zero rfl).2 (((Kp.refl (fun _ => False) _).alloc _).blk HE6.out (fun h => h)))).mono ?_
  · cases had; exact Nat.ne_of_gt HE6.out.lt
  · rcases k with _ | k <;> simp
  rintro en w7 h7
  obtain ⟨x7, rfl, hx7, hk7⟩ := efeed_is h7 (by decide) (by decide +kernel)
  have hk7' : Kp (fun k => k = g3) w6 w7 := ((Kp.refl _ _).alloc _).tr hk7
  have HF7 := Lib.hid (HF6.out.by_ hk7' (by have := HB3.out.size; have := HD2.out.lt; omega))
  have HD27 := Lib.hid (HD26.out.by_ hk7' (by have := HD2.out.lt; omega))
  have HO7 := Lib.hid (hk7'.own HO6.out (fun k hk h0 => by have := own_base HO6.out k hk; have := HE3.out.lt; omega))
  have HK7 := Lib.hid hk7'
  have HX7 := Lib.hid hx7
  clear h7 hx7 hk7 hk7'
  go_wp2_with fail
  refine (same_any (l0 := [65, 133, 160]) (l1 := [65, 133, 160]) (reads_kp (own_reads' HO7.out) ((Kp.refl (fun _ => False) _).alloc _) (fun _ _ h => h)) (lit_reads _ _ _ _ ) HLE4.out (Nat.le_refl _) (by decide)).mono ?_
  rintro en w8 ⟨rfl, n8, rfl⟩
  have hk8 : Kp (fun _ => False) w7 ((w7.alloc (.cells #[.int .u32 65, .int .u32 133, .int .u32 160] 22)).drewN n8) := ((Kp.refl _ _).alloc _).drewN _
  generalize hg8 : (w7.alloc (.cells #[.int .u32 65, .int .u32 133, .int .u32 160] 22)).drewN n8 = w8 at *
  have HF8 := Lib.hid (HF7.out.by_ (g' := w7.heap.size) (hk8.mono (fun _ h => h.elim)) (by have := HF7.out.lt; omega))
  have HD28 := Lib.hid (HD27.out.by_ (g' := w7.heap.size) (hk8.mono (fun _ h => h.elim)) (by have := HD27.out.lt; omega))
  have HK8 := Lib.hid hk8
  clear hk8 hg8
  go_wp2_with fail
  refine (dec_fail HF8.out).mono ?_
  rintro en w9 ⟨rfl, hb9⟩
  have hk9 : Kp (fun k => k = w8.heap.size) w8 w9 := Kp.of_below hb9
  have HD29 := Lib.hid (HD28.out.by_ hk9 (by have := HD28.out.lt; omega))
  have HK9 := Lib.hid hk9
  clear hb9 hk9
  go_wp2_with fail
  refine (dec_fail HD29.out).mono ?_
  rintro en w10 ⟨rfl, hb10⟩
  have HB10 := Lib.hid hb10
  clear hb10
  have hx : x7.toList = [221, 115, 102, 115] := (toList_of_bytes HX7.out).trans (by decide +kernel)
  go_wp2_with fail
  go_ret
  refine ⟨rfl, ?_⟩
  have k3 := HBW3.out.size
  refine HBW3.out.trans ?_
  have b4 := HK4.out.below (B := w.heap.size) k3 (fun k hk => by omega)
  have b5 := HK5.out.below (B := w.heap.size) (Nat.le_trans k3 b4.size) (fun k hk => by omega)
  have b6 := HK6.out.below (B := w.heap.size) (Nat.le_trans (Nat.le_trans k3 b4.size) b5.size) (fun k hk => by omega)
  have b7 := HK7.out.below (B := w.heap.size) (Nat.le_trans (Nat.le_trans (Nat.le_trans k3 b4.size) b5.size) b6.size) (fun k hk => by have := HL2.out; omega)
  have z7 := Nat.le_trans (Nat.le_trans (Nat.le_trans (Nat.le_trans k3 b4.size) b5.size) b6.size) b7.size
  have b8 := HK8.out.below (B := w.heap.size) z7 (fun k hk => hk.elim)
  have b9 := HK9.out.below (B := w.heap.size) (Nat.le_trans z7 b8.size) (fun k hk => by have := b8.size; omega)
  exact ((((((b4.trans b5).trans b6).trans b7).trans b8).trans b9)).trans (HB10.out.mono (Nat.le_trans (Nat.le_trans z7 b8.size) b9.size))
end Go.Proofs.Ytcfpbihkodjlkaa
