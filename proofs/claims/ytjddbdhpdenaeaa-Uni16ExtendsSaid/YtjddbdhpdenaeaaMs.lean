/- The reference of layer 4, Rest, turned from a print. -/
import Derived.Test.YtjddbdhpdenaeaaPUni16Extendsx0
import Derived.Test.YtjddbdhpdenaeaaMr
import Derived.Test.YtjddbdhpdenaeaaMb
namespace Go.Proofs.Ytjddbdhpdenaeaa.PUni16Extends
open Go.RowKit Go.Proofs.YtjddbdhpdenaeaaW.PrintWords Go.Proofs.YtjddbdhpdenaeaaW.PrintLast Go.Proofs.YtjddbdhpdenaeaaW.PrintMore
attribute [local go_sem] max2_int min2_int max_two min_two max_three min_three max_four min_four   -- for this text's walks alone
set_option linter.unusedVariables false
set_option linter.unusedSimpArgs false

/-! ### pilcrowref04_Rest: function 23 -/
mutual
def pilcrowref04_Rest.l0 : Nat → Bool → ByteArray → Int → Option (ByteArray)
  | 0, _, _, _ => none
  | k + 1, x1, x8, x9 => if x9 < 4 then ((some (([(⟨#[]⟩ : ByteArray), (⟨#[0]⟩ : ByteArray), (⟨#[220]⟩ : ByteArray), (⟨#[0, 220]⟩ : ByteArray), (⟨#[220, 0]⟩ : ByteArray), (⟨#[0, 220, 0]⟩ : ByteArray), (⟨#[0, 0, 220]⟩ : ByteArray)] : List ByteArray) : List ByteArray)).bind fun y243 => (pilcrowref04_Rest.l1 k x1 x8 x9 y243 (y243.length : Int) 0)) else (some (⟨#[]⟩ : ByteArray))
def pilcrowref04_Rest.l1 : Nat → Bool → ByteArray → Int → List ByteArray → Int → Int → Option (ByteArray)
  | 0, _, _, _, _, _, _ => none
  | k + 1, x1, x8, x9, x35, x36, x37 => if x37 < x36 then (if 0 ≤ x37 then (if x37 < (x35.length : Int) then (if x8.size + (rdOf ByteArray.empty x35 x37).size ≤ 9223372036854775807 then ((PUni16Reads.pilcrowref04_Read.f k (x8 ++ (rdOf ByteArray.empty x35 x37)) x1).bind fun bt247 => (if bt247.2.1 = 0 then (some (rdOf ByteArray.empty x35 x37)) else (pilcrowref04_Rest.l1 k x1 x8 x9 x35 x36 (wrap64 (x37 + 1))))) else (none)) else (none)) else (none)) else (pilcrowref04_Rest.l0 k x1 x8 (wrap64 (x9 + 1)))
end
def pilcrowref04_Rest.f (k : Nat) (a0 : ByteArray) (a1 : Bool) : Option (ByteArray) := (PUni16Reads.pilcrowref04_Read.f k a0 a1).bind fun bt237 => ((PUni16Writes.pilcrowref04_Bytes.f k bt237.1 a1).bind fun t242 => (if 0 ≤ (t242.size : Int) then (if (t242.size : Int) ≤ (a0.size : Int) then (if ((a0.extract ((t242.size : Int) : Int).toNat a0.size).size : Int) = 0 then (some (⟨#[]⟩ : ByteArray)) else (pilcrowref04_Rest.l0 k a1 (a0.extract ((t242.size : Int) : Int).toNat a0.size) 0)) else (none)) else (none)))
theorem pilcrowref04_Rest.mono_l : ∀ k, (∀ y0 y1 y2, LeO (pilcrowref04_Rest.l0 k y0 y1 y2) (pilcrowref04_Rest.l0 (k + 1) y0 y1 y2)) ∧ (∀ y0 y1 y2 y3 y4 y5, LeO (pilcrowref04_Rest.l1 k y0 y1 y2 y3 y4 y5) (pilcrowref04_Rest.l1 (k + 1) y0 y1 y2 y3 y4 y5))
  | 0 => ⟨fun _ _ _ r h => by simp [pilcrowref04_Rest.l0] at h, fun _ _ _ _ _ _ r h => by simp [pilcrowref04_Rest.l1] at h⟩
  | k + 1 => by
    obtain ⟨ih0, ih1⟩ := pilcrowref04_Rest.mono_l k
    refine ⟨?_, ?_⟩
    · intro y0 y1 y2
      unfold pilcrowref04_Rest.l0
      repeat' first
      | (with_reducible exact ih0 _ _ _)
      | (with_reducible exact ih1 _ _ _ _ _ _)
      | (with_reducible exact PUni16Writes.pilcrowref04_Bytes.mono _ _ _)
      | (with_reducible exact PUni16Reads.pilcrowref04_Read.mono _ _ _)
      | (with_reducible exact LeO.refl _)
      | (with_reducible exact LeO.none _)
      | (with_reducible refine LeO.ite ?_ ?_)
      | (with_reducible refine LeO.bind ?_ (fun _ => ?_))
      | exact ih0 _ _ _
      | exact ih1 _ _ _ _ _ _
      | exact PUni16Writes.pilcrowref04_Bytes.mono _ _ _
      | exact PUni16Reads.pilcrowref04_Read.mono _ _ _
      | exact LeO.none _
      | refine LeO.ite ?_ ?_
      | refine LeO.bind ?_ (fun _ => ?_)
    · intro y0 y1 y2 y3 y4 y5
      unfold pilcrowref04_Rest.l1
      repeat' first
      | (with_reducible exact ih0 _ _ _)
      | (with_reducible exact ih1 _ _ _ _ _ _)
      | (with_reducible exact PUni16Writes.pilcrowref04_Bytes.mono _ _ _)
      | (with_reducible exact PUni16Reads.pilcrowref04_Read.mono _ _ _)
      | (with_reducible exact LeO.refl _)
      | (with_reducible exact LeO.none _)
      | (with_reducible refine LeO.ite ?_ ?_)
      | (with_reducible refine LeO.bind ?_ (fun _ => ?_))
      | exact ih0 _ _ _
      | exact ih1 _ _ _ _ _ _
      | exact PUni16Writes.pilcrowref04_Bytes.mono _ _ _
      | exact PUni16Reads.pilcrowref04_Read.mono _ _ _
      | exact LeO.none _
      | refine LeO.ite ?_ ?_
      | refine LeO.bind ?_ (fun _ => ?_)
theorem pilcrowref04_Rest.mono : ∀ a0 a1 k, LeO (pilcrowref04_Rest.f k a0 a1) (pilcrowref04_Rest.f (k + 1) a0 a1) := by
  intro a0 a1 k
  obtain ⟨ih0, ih1⟩ := pilcrowref04_Rest.mono_l k
  unfold pilcrowref04_Rest.f
  repeat' first
      | (with_reducible exact ih0 _ _ _)
      | (with_reducible exact ih1 _ _ _ _ _ _)
      | (with_reducible exact PUni16Writes.pilcrowref04_Bytes.mono _ _ _)
      | (with_reducible exact PUni16Reads.pilcrowref04_Read.mono _ _ _)
      | (with_reducible exact LeO.refl _)
      | (with_reducible exact LeO.none _)
      | (with_reducible refine LeO.ite ?_ ?_)
      | (with_reducible refine LeO.bind ?_ (fun _ => ?_))
      | exact ih0 _ _ _
      | exact ih1 _ _ _ _ _ _
      | exact PUni16Writes.pilcrowref04_Bytes.mono _ _ _
      | exact PUni16Reads.pilcrowref04_Read.mono _ _ _
      | exact LeO.none _
      | refine LeO.ite ?_ ?_
      | refine LeO.bind ?_ (fun _ => ?_)
set_option maxHeartbeats 8000000 in
set_option maxRecDepth 100000 in
theorem pilcrowref04_Rest.calls (k : Nat) (a0 : ByteArray) (a1 : Bool) (r : ByteArray) (w : World) (h : pilcrowref04_Rest.f k a0 a1 = some r) :
    Calls Try.prog 23 #[.string a0, .bool a1] w fun e w' => e = .returned (.string r) ∧ Below w.heap.size w w' := by
  have HB := Aside0.mk (Below.refl w.heap.size w)
  have H : ((PUni16Reads.pilcrowref04_Read.f k a0 a1).bind fun bt237 => ((PUni16Writes.pilcrowref04_Bytes.f k bt237.1 a1).bind fun t242 => (if 0 ≤ (t242.size : Int) then (if (t242.size : Int) ≤ (a0.size : Int) then (if ((a0.extract ((t242.size : Int) : Int).toNat a0.size).size : Int) = 0 then (some (⟨#[]⟩ : ByteArray)) else (pilcrowref04_Rest.l0 k a1 (a0.extract ((t242.size : Int) : Int).toNat a0.size) 0)) else (none)) else (none)))) = some r := h
  clear h
  replace H := Option.bind_eq_some_iff.mp H
  obtain ⟨⟨t237, t238, t239⟩, A30, H⟩ := H
  replace H : ((PUni16Writes.pilcrowref04_Bytes.f k t237 a1).bind fun t242 => (if 0 ≤ (t242.size : Int) then (if (t242.size : Int) ≤ (a0.size : Int) then (if ((a0.extract ((t242.size : Int) : Int).toNat a0.size).size : Int) = 0 then (some (⟨#[]⟩ : ByteArray)) else (pilcrowref04_Rest.l0 k a1 (a0.extract ((t242.size : Int) : Int).toNat a0.size) 0)) else (none)) else (none))) = some r := H
  have A3 := Aside0.mk A30
  clear A30
  replace H := Option.bind_eq_some_iff.mp H
  obtain ⟨t242, A40, H⟩ := H
  replace H : (if 0 ≤ (t242.size : Int) then (if (t242.size : Int) ≤ (a0.size : Int) then (if ((a0.extract ((t242.size : Int) : Int).toNat a0.size).size : Int) = 0 then (some (⟨#[]⟩ : ByteArray)) else (pilcrowref04_Rest.l0 k a1 (a0.extract ((t242.size : Int) : Int).toNat a0.size) 0)) else (none)) else (none)) = some r := H
  have A4 := Aside0.mk A40
  clear A40
  by_cases c5 : 0 ≤ (t242.size : Int)
  · rw [if_pos c5] at H
    have c5b0 := eq_true c5
    have c5b1 : decide (0 ≤ (t242.size : Int)) = true := decide_eq_true c5
    clear c5
    by_cases c6 : (t242.size : Int) ≤ (a0.size : Int)
    · rw [if_pos c6] at H
      have c6b0 := eq_true c6
      have c6b1 : decide ((t242.size : Int) ≤ (a0.size : Int)) = true := decide_eq_true c6
      clear c6
      by_cases c7 : ((a0.extract ((t242.size : Int) : Int).toNat a0.size).size : Int) = 0
      · rw [if_pos c7] at H
        have c7b0 : (((a0.extract ((t242.size : Int) : Int).toNat a0.size).size : Int) == 0) = true := beq_iff_eq.mpr c7
        have c7b1 : (((a0.extract ((t242.size : Int) : Int).toNat a0.size).size : Int) != 0) = false := bne_eq_false_iff_eq.mpr c7
        clear c7
        have hsz_ : (a0.extract ((t242.size : Int) : Int).toNat a0.size).size = a0.size - t242.size := by simp [ByteArray.size_extract]
        rw [hsz_] at c7b0 c7b1
        obtain rfl := Option.some.inj H
        go_enter Try.func23, Try.ntmps23
        go_wp2_with (first | ((with_reducible refine gate_callee (f := 13) rfl ?_); refine goesL_ (some 18) rfl rfl Try.func13 (by kernel_rfl) rfl #[.string a0, .bool a1] rfl (by (try simp only [List.map_toArray, List.map_cons, List.map_nil]); first | done | rfl | (simp only [List.length_drop, List.length_take]; rfl)) ?_; (with_reducible refine (PUni16Reads.pilcrowref04_Read.calls k a0 a1 t237 t238 t239 _ A3.out).mono ?_); rintro e w8 ⟨v240, rfl, ho0, hb⟩; refine ⟨_, rfl, ?_⟩; have n0_ := Aside0.mk (Kd.R_lower ho0 (below_size (by repeat (first | (with_reducible first | exact HB.out | apply below_alloc | apply pw_below_drewN | apply below_drew1) | exact HB.out)))); have n1_ := Aside0.mk (below_step (by repeat (first | (with_reducible first | exact HB.out | apply below_alloc | apply pw_below_drewN | apply below_drew1) | exact HB.out)) hb); clear HB; have HO241 := n0_; have HB := n1_; clear n0_ n1_; (try clear hb); (try clear hb2); (try clear hk); (try clear hi); (try clear ho0); obtain ⟨Ao9, co9, eo9⟩ := Kd.R_slice HO241.out; subst eo9) | ((with_reducible refine gate_callee (f := 21) rfl ?_); refine goesL_ (some 25) rfl rfl Try.func21 (by kernel_rfl) rfl #[.slice Ao9 t237.length co9, .bool a1] rfl (by (try simp only [List.map_toArray, List.map_cons, List.map_nil]); first | done | rfl | (simp only [List.length_drop, List.length_take]; rfl)) ?_; (with_reducible refine (PUni16Writes.pilcrowref04_Bytes.calls k _ _ t237 a1 t242 _ ?side1 ?side2 A4.out).mono ?_); (case side1 => repeat (first | exact (Kd.R_reads' HO241.out).2.2 | (with_reducible refine Kd.C_alloc ?_ _) | (with_reducible refine Kd.C_drewN ?_ _) | (with_reducible refine Kd.C_drew ?_))); (case side2 => exact (Kd.R_reads' HO241.out).2.1); rintro e w10 ⟨rfl, hb⟩; refine ⟨_, rfl, ?_⟩; have n0_ := Aside0.mk (Kd.R_below (by (with_reducible repeat (first | apply Kd.R_alloc | apply Kd.R_drewN | apply Kd.R_drew)); exact HO241.out) hb); have n1_ := Aside0.mk (below_step (by repeat (first | (with_reducible first | exact HB.out | apply below_alloc | apply pw_below_drewN | apply below_drew1) | exact HB.out)) hb); clear HO241; clear HB; have HO241 := n0_; have HB := n1_; clear n0_ n1_; (try clear hb); (try clear hb2); (try clear hk); (try clear hi)))
        go_ret
        exact ⟨by first | rfl | (simp [errW_none, errW_some] <;> rfl) | (simp [*, errW_none, errW_some] <;> rfl), by repeat (first | (with_reducible first | exact HB.out | apply below_alloc | apply pw_below_drewN | apply below_drew1) | exact HB.out)⟩
      · rw [if_neg c7] at H
        have c7b0 : (((a0.extract ((t242.size : Int) : Int).toNat a0.size).size : Int) == 0) = false := beq_eq_false_iff_ne.mpr c7
        have c7b1 : (((a0.extract ((t242.size : Int) : Int).toNat a0.size).size : Int) != 0) = true := bne_iff_ne.mpr c7
        have hsz_ : (a0.extract ((t242.size : Int) : Int).toNat a0.size).size = a0.size - t242.size := by simp [ByteArray.size_extract]
        rw [hsz_] at c7b0 c7b1
        have H' := Aside0.mk H
        clear H
        go_enter Try.func23, Try.ntmps23
        go_wp2_with (first | ((with_reducible refine gate_callee (f := 13) rfl ?_); refine goesL_ (some 18) rfl rfl Try.func13 (by kernel_rfl) rfl #[.string a0, .bool a1] rfl (by (try simp only [List.map_toArray, List.map_cons, List.map_nil]); first | done | rfl | (simp only [List.length_drop, List.length_take]; rfl)) ?_; (with_reducible refine (PUni16Reads.pilcrowref04_Read.calls k a0 a1 t237 t238 t239 _ A3.out).mono ?_); rintro e w11 ⟨v240, rfl, ho0, hb⟩; refine ⟨_, rfl, ?_⟩; have n0_ := Aside0.mk (Kd.R_lower ho0 (below_size (by repeat (first | (with_reducible first | exact HB.out | apply below_alloc | apply pw_below_drewN | apply below_drew1) | exact HB.out)))); have n1_ := Aside0.mk (below_step (by repeat (first | (with_reducible first | exact HB.out | apply below_alloc | apply pw_below_drewN | apply below_drew1) | exact HB.out)) hb); clear HB; have HO241 := n0_; have HB := n1_; clear n0_ n1_; (try clear hb); (try clear hb2); (try clear hk); (try clear hi); (try clear ho0); obtain ⟨Ao12, co12, eo12⟩ := Kd.R_slice HO241.out; subst eo12) | ((with_reducible refine gate_callee (f := 21) rfl ?_); refine goesL_ (some 25) rfl rfl Try.func21 (by kernel_rfl) rfl #[.slice Ao12 t237.length co12, .bool a1] rfl (by (try simp only [List.map_toArray, List.map_cons, List.map_nil]); first | done | rfl | (simp only [List.length_drop, List.length_take]; rfl)) ?_; (with_reducible refine (PUni16Writes.pilcrowref04_Bytes.calls k _ _ t237 a1 t242 _ ?side1 ?side2 A4.out).mono ?_); (case side1 => repeat (first | exact (Kd.R_reads' HO241.out).2.2 | (with_reducible refine Kd.C_alloc ?_ _) | (with_reducible refine Kd.C_drewN ?_ _) | (with_reducible refine Kd.C_drew ?_))); (case side2 => exact (Kd.R_reads' HO241.out).2.1); rintro e w13 ⟨rfl, hb⟩; refine ⟨_, rfl, ?_⟩; have n0_ := Aside0.mk (Kd.R_below (by (with_reducible repeat (first | apply Kd.R_alloc | apply Kd.R_drewN | apply Kd.R_drew)); exact HO241.out) hb); have n1_ := Aside0.mk (below_step (by repeat (first | (with_reducible first | exact HB.out | apply below_alloc | apply pw_below_drewN | apply below_drew1) | exact HB.out)) hb); clear HO241; clear HB; have HO241 := n0_; have HB := n1_; clear n0_ n1_; (try clear hb); (try clear hb2); (try clear hk); (try clear hi)))
        go_loopg [9] k (fun kq v9 w' => ∃ (x9_1 : Int), v9 = .int .i64 x9_1 ∧ Aside0 (pilcrowref04_Rest.l0 kq a1 (a0.extract ((t242.size : Int) : Int).toNat a0.size) x9_1 = some r) ∧ Aside0 (kq ≤ k) ∧ Aside0 (Below w.heap.size w w'))
        case atStart => exact ⟨(0), (by first | rfl | (simp; done) | (simp [*]; done)), H', ⟨Nat.le_refl _⟩, ⟨by repeat (first | (with_reducible first | exact HB.out | apply below_alloc | apply pw_below_drewN | apply below_drew1) | exact HB.out)⟩⟩
        case round =>
          clear H'
          try clear c1
          try clear c2
          try clear p2
          try clear c5
          try clear c5b0
          try clear c5b1
          try clear c6
          try clear c6b0
          try clear c6b1
          try clear c7
          try clear c7b0
          try clear c7b1
          try clear c13
          obtain ⟨x9_1, rfl, HA, HK1, HB⟩ := hrel
          cases gk with
          | zero => exact absurd HA.out (by simp [pilcrowref04_Rest.l0])
          | succ k1 =>
            have H := HA.out
            clear HA
            simp only [pilcrowref04_Rest.l0] at H
            by_cases c14 : x9_1 < 4
            · rw [if_pos c14] at H
              have c14b0 : decide (x9_1 < 4) = true := decide_eq_true c14
              clear c14
              obtain ⟨y243, hy243⟩ : ∃ y_ : List ByteArray, y_ = (([(⟨#[]⟩ : ByteArray), (⟨#[0]⟩ : ByteArray), (⟨#[220]⟩ : ByteArray), (⟨#[0, 220]⟩ : ByteArray), (⟨#[220, 0]⟩ : ByteArray), (⟨#[0, 220, 0]⟩ : ByteArray), (⟨#[0, 0, 220]⟩ : ByteArray)] : List ByteArray)) := ⟨_, rfl⟩
              replace H : (pilcrowref04_Rest.l1 k1 a1 (a0.extract ((t242.size : Int) : Int).toNat a0.size) x9_1 y243 (y243.length : Int) 0) = some r := by first | (rw [hy243]; with_reducible exact H) | (have H2_ := (Option.bind_some _ _).symm.trans H; rw [hy243]; with_reducible exact H2_) | (have H2_ := (Option.bind_some _ _).symm.trans H; with_reducible exact H2_) | with_reducible exact H | (rw [hy243]; exact H) | exact H
              have Ny243 := Aside0.mk hy243
              clear hy243
              have H' := Aside0.mk H
              clear H
              go_wp2_with (first | ((with_reducible refine gate_dst (N := 35) rfl ?_); refine Kd.R_lit Kd.string _ 9 ?hg (N := 35) ?hd (xs := ([(⟨#[]⟩ : ByteArray), (⟨#[0]⟩ : ByteArray), (⟨#[220]⟩ : ByteArray), (⟨#[0, 220]⟩ : ByteArray), (⟨#[220, 0]⟩ : ByteArray), (⟨#[0, 220, 0]⟩ : ByteArray), (⟨#[0, 0, 220]⟩ : ByteArray)] : List ByteArray)) (inner := [.string (⟨#[]⟩ : ByteArray), .string (⟨#[0]⟩ : ByteArray), .string (⟨#[220]⟩ : ByteArray), .string (⟨#[0, 220]⟩ : ByteArray), .string (⟨#[220, 0]⟩ : ByteArray), .string (⟨#[0, 220, 0]⟩ : ByteArray), .string (⟨#[0, 0, 220]⟩ : ByteArray)]) (ok := fun _ => True) (okp := fun _ => True) ?hr ?hp (fun _ hk => hk) trivial (Below.refl _ _) (Nat.le_refl _) (by simp) ?_; (case hd => rfl); (case hg => rfl); (case hr => first | (go_simp; done) | (go_simp; rfl)); (case hp => exact (Reps.one (show Kd.M Kd.string _ _ _ (⟨#[]⟩ : ByteArray) [.string (⟨#[]⟩ : ByteArray)] from rfl) (Reps.one (show Kd.M Kd.string _ _ _ (⟨#[0]⟩ : ByteArray) [.string (⟨#[0]⟩ : ByteArray)] from rfl) (Reps.one (show Kd.M Kd.string _ _ _ (⟨#[220]⟩ : ByteArray) [.string (⟨#[220]⟩ : ByteArray)] from rfl) (Reps.one (show Kd.M Kd.string _ _ _ (⟨#[0, 220]⟩ : ByteArray) [.string (⟨#[0, 220]⟩ : ByteArray)] from rfl) (Reps.one (show Kd.M Kd.string _ _ _ (⟨#[220, 0]⟩ : ByteArray) [.string (⟨#[220, 0]⟩ : ByteArray)] from rfl) (Reps.one (show Kd.M Kd.string _ _ _ (⟨#[0, 220, 0]⟩ : ByteArray) [.string (⟨#[0, 220, 0]⟩ : ByteArray)] from rfl) (Reps.one (show Kd.M Kd.string _ _ _ (⟨#[0, 0, 220]⟩ : ByteArray) [.string (⟨#[0, 0, 220]⟩ : ByteArray)] from rfl) (Reps.none _ _))))))))); intro v244 w15 ho16 hb hg_ hnew_; clear hg_ hnew_; (first | rw [← Ny243.out] at ho16 | (simp only [Int.reduceToNat] at ho16; rw [← Ny243.out] at ho16)); have n0_ := Aside0.mk (Kd.R_lower ho16 (below_size (by repeat (first | (with_reducible first | exact HB.out | apply below_alloc | apply pw_below_drewN | apply below_drew1) | exact HB.out)))); have n1_ := Aside0.mk (below_step (by repeat (first | (with_reducible first | exact HB.out | apply below_alloc | apply pw_below_drewN | apply below_drew1) | exact HB.out)) hb); clear HB; have HO245 := n0_; have HB := n1_; clear n0_ n1_; clear hb ho16; obtain ⟨Ao17, co17, eo17⟩ := Kd.R_slice HO245.out; subst eo17))
              go_loopg [37] k1 (fun kq v37 w' => ∃ (x37_2 : Int), v37 = .int .i64 x37_2 ∧ Aside0 (pilcrowref04_Rest.l1 kq a1 (a0.extract ((t242.size : Int) : Int).toNat a0.size) x9_1 y243 (y243.length : Int) x37_2 = some r) ∧ Aside0 (kq ≤ k1) ∧ Aside0 (Kd.R Kd.string 9 w' w.heap.size (fun _ => True) (.slice Ao17 y243.length co17) y243) ∧ Aside0 (Below w.heap.size w w'))
              case atStart => exact ⟨(0), (by first | rfl | (simp; done) | (simp [*]; done)), H', ⟨Nat.le_refl _⟩, ⟨by (with_reducible repeat (first | apply Kd.R_alloc | apply Kd.R_drewN | apply Kd.R_drew)); exact HO245.out⟩, ⟨by repeat (first | (with_reducible first | exact HB.out | apply below_alloc | apply pw_below_drewN | apply below_drew1) | exact HB.out)⟩⟩
              case round =>
                clear H'
                try clear c1
                try clear c2
                try clear p2
                try clear c5
                try clear c5b0
                try clear c5b1
                try clear c6
                try clear c6b0
                try clear c6b1
                try clear c7
                try clear c7b0
                try clear c7b1
                try clear c13
                try clear c14
                try clear c14b0
                try clear p2
                obtain ⟨x37_2, rfl, HA, HK2, HO_35, HB⟩ := hrel
                cases gk with
                | zero => exact absurd HA.out (by simp [pilcrowref04_Rest.l1])
                | succ k2 =>
                  have H := HA.out
                  clear HA
                  simp only [pilcrowref04_Rest.l1] at H
                  by_cases c18 : x37_2 < (y243.length : Int)
                  · rw [if_pos c18] at H
                    have c18b0 : decide (x37_2 < (y243.length : Int)) = true := decide_eq_true c18
                    clear c18
                    by_cases c19 : 0 ≤ x37_2
                    · rw [if_pos c19] at H
                      have c19b0 : decide (0 ≤ x37_2) = true := decide_eq_true c19
                      clear c19
                      by_cases c20 : x37_2 < (y243.length : Int)
                      · rw [if_pos c20] at H
                        have c20b0 : decide (x37_2 < (y243.length : Int)) = true := decide_eq_true c20
                        clear c20
                        by_cases c21 : (a0.extract ((t242.size : Int) : Int).toNat a0.size).size + (rdOf ByteArray.empty y243 x37_2).size ≤ 9223372036854775807
                        · rw [if_pos c21] at H
                          have c21b0 := eq_true c21
                          have c21b1 : decide ((a0.extract ((t242.size : Int) : Int).toNat a0.size).size + (rdOf ByteArray.empty y243 x37_2).size ≤ 9223372036854775807) = true := decide_eq_true c21
                          try have c21b2 : (9223372036854775807 < (a0.extract ((t242.size : Int) : Int).toNat a0.size).size + (rdOf ByteArray.empty y243 x37_2).size) = False := eq_false (Nat.not_lt.2 c21)
                          replace H := Option.bind_eq_some_iff.mp H
                          obtain ⟨⟨t247, t248, t249⟩, A220, H⟩ := H
                          replace H : (if t248 = 0 then (some (rdOf ByteArray.empty y243 x37_2)) else (pilcrowref04_Rest.l1 k2 a1 (a0.extract ((t242.size : Int) : Int).toNat a0.size) x9_1 y243 (y243.length : Int) (wrap64 (x37_2 + 1)))) = some r := H
                          have A22 := Aside0.mk A220
                          clear A220
                          by_cases c23 : t248 = 0
                          · rw [if_pos c23] at H
                            have c23b0 : (t248 == 0) = true := beq_iff_eq.mpr c23
                            have c23b1 : (t248 != 0) = false := bne_eq_false_iff_eq.mpr c23
                            clear c23
                            obtain rfl := Option.some.inj H
                            have p246 : 0 ≤ (x37_2 : Int) := of_decide_eq_true (by first | (with_reducible assumption) | assumption)
                            have q246 : x37_2 < (y243.length : Int) := of_decide_eq_true (by first | (with_reducible assumption) | assumption)
                            obtain ⟨ad246, e246, hx246_0⟩ := Kd.at_string (Kd.R_reads' HO_35.out).2.2 x37_2 p246 q246
                            cases e246
                            replace p246 := eq_true p246
                            replace q246 := eq_true q246
                            go_wp2_with (first | ((with_reducible refine gate_callee (f := 13) rfl ?_); refine goesL_ (some 46) rfl rfl Try.func13 (by kernel_rfl) rfl #[.string ((a0.extract ((t242.size : Int) : Int).toNat a0.size) ++ (rdOf ByteArray.empty y243 x37_2)), .bool a1] rfl (by (try simp only [List.map_toArray, List.map_cons, List.map_nil]); first | done | rfl | (simp only [List.length_drop, List.length_take]; rfl)) ?_; (with_reducible refine (PUni16Reads.pilcrowref04_Read.calls k2 ((a0.extract ((t242.size : Int) : Int).toNat a0.size) ++ (rdOf ByteArray.empty y243 x37_2)) a1 t247 t248 t249 _ A22.out).mono ?_); rintro e w24 ⟨v250, rfl, ho0, hb⟩; refine ⟨_, rfl, ?_⟩; have n0_ := Aside0.mk (Kd.R_below (by (with_reducible repeat (first | apply Kd.R_alloc | apply Kd.R_drewN | apply Kd.R_drew)); exact HO_35.out) hb); have n1_ := Aside0.mk (Kd.R_lower ho0 (below_size (by repeat (first | (with_reducible first | exact HB.out | apply below_alloc | apply pw_below_drewN | apply below_drew1) | exact HB.out)))); have n2_ := Aside0.mk (below_step (by repeat (first | (with_reducible first | exact HB.out | apply below_alloc | apply pw_below_drewN | apply below_drew1) | exact HB.out)) hb); clear HO_35; clear HB; have HO_35 := n0_; have HO251 := n1_; have HB := n2_; clear n0_ n1_ n2_; (try clear hb); (try clear hb2); (try clear hk); (try clear hi); (try clear ho0)))
                            go_ret
                            exact ⟨by first | rfl | (simp [errW_none, errW_some] <;> rfl) | (simp [*, errW_none, errW_some] <;> rfl), by repeat (first | (with_reducible first | exact HB.out | apply below_alloc | apply pw_below_drewN | apply below_drew1) | exact HB.out)⟩
                          · rw [if_neg c23] at H
                            have c23b0 : (t248 == 0) = false := beq_eq_false_iff_ne.mpr c23
                            have c23b1 : (t248 != 0) = true := bne_iff_ne.mpr c23
                            have H' := Aside0.mk H
                            clear H
                            have p246 : 0 ≤ (x37_2 : Int) := of_decide_eq_true (by first | (with_reducible assumption) | assumption)
                            have q246 : x37_2 < (y243.length : Int) := of_decide_eq_true (by first | (with_reducible assumption) | assumption)
                            obtain ⟨ad246, e246, hx246_0⟩ := Kd.at_string (Kd.R_reads' HO_35.out).2.2 x37_2 p246 q246
                            cases e246
                            replace p246 := eq_true p246
                            replace q246 := eq_true q246
                            go_wp2_with (first | ((with_reducible refine gate_callee (f := 13) rfl ?_); refine goesL_ (some 46) rfl rfl Try.func13 (by kernel_rfl) rfl #[.string ((a0.extract ((t242.size : Int) : Int).toNat a0.size) ++ (rdOf ByteArray.empty y243 x37_2)), .bool a1] rfl (by (try simp only [List.map_toArray, List.map_cons, List.map_nil]); first | done | rfl | (simp only [List.length_drop, List.length_take]; rfl)) ?_; (with_reducible refine (PUni16Reads.pilcrowref04_Read.calls k2 ((a0.extract ((t242.size : Int) : Int).toNat a0.size) ++ (rdOf ByteArray.empty y243 x37_2)) a1 t247 t248 t249 _ A22.out).mono ?_); rintro e w25 ⟨v250, rfl, ho0, hb⟩; refine ⟨_, rfl, ?_⟩; have n0_ := Aside0.mk (Kd.R_below (by (with_reducible repeat (first | apply Kd.R_alloc | apply Kd.R_drewN | apply Kd.R_drew)); exact HO_35.out) hb); have n1_ := Aside0.mk (Kd.R_lower ho0 (below_size (by repeat (first | (with_reducible first | exact HB.out | apply below_alloc | apply pw_below_drewN | apply below_drew1) | exact HB.out)))); have n2_ := Aside0.mk (below_step (by repeat (first | (with_reducible first | exact HB.out | apply below_alloc | apply pw_below_drewN | apply below_drew1) | exact HB.out)) hb); clear HO_35; clear HB; have HO_35 := n0_; have HO251 := n1_; have HB := n2_; clear n0_ n1_ n2_; (try clear hb); (try clear hb2); (try clear hk); (try clear hi); (try clear ho0)))
                            go_roundg k2
                            case measure => have := HK1.out; have := HK2.out; omega
                            case rel => exact ⟨(wrap64 (x37_2 + 1)), (by first | rfl | (simp; done) | (simp [*]; done)), H', ⟨by have := HK1.out; have := HK2.out; omega⟩, ⟨by (with_reducible repeat (first | apply Kd.R_alloc | apply Kd.R_drewN | apply Kd.R_drew)); exact HO_35.out⟩, ⟨by repeat (first | (with_reducible first | exact HB.out | apply below_alloc | apply pw_below_drewN | apply below_drew1) | exact HB.out)⟩⟩
                        · rw [if_neg c21] at H
                          exact absurd H (by simp)
                      · rw [if_neg c20] at H
                        exact absurd H (by simp)
                    · rw [if_neg c19] at H
                      exact absurd H (by simp)
                  · rw [if_neg c18] at H
                    have c18b0 : decide (x37_2 < (y243.length : Int)) = false := decide_eq_false c18
                    clear c18
                    have H' := Aside0.mk H
                    clear H
                    go_wp2
                    go_roundg k2
                    case measure => have := HK1.out; have := HK2.out; omega
                    case rel => exact ⟨(wrap64 (x9_1 + 1)), (by first | rfl | (simp; done) | (simp [*]; done)), H', ⟨by have := HK1.out; have := HK2.out; omega⟩, ⟨by repeat (first | (with_reducible first | exact HB.out | apply below_alloc | apply pw_below_drewN | apply below_drew1) | exact HB.out)⟩⟩
            · rw [if_neg c14] at H
              have c14b0 : decide (x9_1 < 4) = false := decide_eq_false c14
              clear c14
              obtain rfl := Option.some.inj H
              go_wp2
              go_ret
              exact ⟨by first | rfl | (simp [errW_none, errW_some] <;> rfl) | (simp [*, errW_none, errW_some] <;> rfl), by repeat (first | (with_reducible first | exact HB.out | apply below_alloc | apply pw_below_drewN | apply below_drew1) | exact HB.out)⟩
    · rw [if_neg c6] at H
      exact absurd H (by simp)
  · rw [if_neg c5] at H
    exact absurd H (by simp)

end Go.Proofs.Ytjddbdhpdenaeaa.PUni16Extends
