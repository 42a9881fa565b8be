/- The reference of layer 3: One, Bytes, Rest; began as a print over slices in the place of arrays. -/
import Derived.Test.YtmegkiipeckkaaaMr
namespace Go.Proofs.Ytmegkiipeckkaaa.PUni8Extends
open Go.RowKit Go.Proofs.YtmegkiipeckkaaaW.PrintWords Go.Proofs.YtmegkiipeckkaaaW.PrintLast Go.Proofs.YtmegkiipeckkaaaW.PrintMore
attribute [local go_sem] max2_int min2_int max_two min_two max_three min_three max_four min_four   -- for this text's walks alone
set_option linter.unusedVariables false
set_option linter.unusedSimpArgs false

/-! ### pilcrowref03_One: function 34 -/
def pilcrowref03_One.l0 : Nat → Int → Int → List Int → Int → Option (ByteArray)
  | 0, _, _, _, _ => none
  | k + 1, x0, x3, x4, x5 => if x5 > 0 then (if 0 ≤ x5 then (if x5 < (x4.length : Int) then (pilcrowref03_One.l0 k ((Int.tdiv x0 64) % 4294967296) x3 (x4.set (x5 : Int).toNat (((128 + (Int.tmod x0 64)) % 4294967296) % 256)) (wrap64 (x5 - 1))) else (none)) else (none)) else (if x3 = 2 then (if 0 < (x4.length : Int) then (some (strOfNums (x4.set (0 : Int).toNat (((192 + x0) % 4294967296) % 256)))) else (none)) else (if x3 = 3 then (if 0 < (x4.length : Int) then (some (strOfNums (x4.set (0 : Int).toNat (((224 + x0) % 4294967296) % 256)))) else (none)) else (if x3 = 4 then (if 0 < (x4.length : Int) then (some (strOfNums (x4.set (0 : Int).toNat (((240 + x0) % 4294967296) % 256)))) else (none)) else (some (strOfNums x4)))))
def pilcrowref03_One.f (k : Nat) (a0 : Int) : Option (ByteArray) := (pilcrowref03_Size.f a0).bind fun t160 => (if t160 = 1 then (some (strOfNums (([(a0) % 256] : List Int)))) else (if 0 ≤ t160 then (if (t160 : Int).toNat ≤ 281474976710656 then (pilcrowref03_One.l0 k a0 t160 (List.replicate (t160 : Int).toNat 0) (wrap64 (t160 - 1))) else (none)) else (none)))
theorem pilcrowref03_One.mono_l : ∀ k, (∀ y0 y1 y2 y3, LeO (pilcrowref03_One.l0 k y0 y1 y2 y3) (pilcrowref03_One.l0 (k + 1) y0 y1 y2 y3))
  | 0 => fun _ _ _ _ r h => by simp [pilcrowref03_One.l0] at h
  | k + 1 => by
    have ih0 := pilcrowref03_One.mono_l k
    · intro y0 y1 y2 y3
      unfold pilcrowref03_One.l0
      repeat' first
      | (with_reducible exact ih0 _ _ _ _)
      | (with_reducible exact LeO.refl _)
      | (with_reducible exact LeO.none _)
      | (with_reducible refine LeO.ite ?_ ?_)
      | (with_reducible refine LeO.bind ?_ (fun _ => ?_))
      | exact ih0 _ _ _ _
      | exact LeO.none _
      | refine LeO.ite ?_ ?_
      | refine LeO.bind ?_ (fun _ => ?_)
theorem pilcrowref03_One.mono : ∀ a0 k, LeO (pilcrowref03_One.f k a0) (pilcrowref03_One.f (k + 1) a0) := by
  intro a0 k
  have ih0 := pilcrowref03_One.mono_l k
  unfold pilcrowref03_One.f
  repeat' first
      | (with_reducible exact ih0 _ _ _ _)
      | (with_reducible exact LeO.refl _)
      | (with_reducible exact LeO.none _)
      | (with_reducible refine LeO.ite ?_ ?_)
      | (with_reducible refine LeO.bind ?_ (fun _ => ?_))
      | exact ih0 _ _ _ _
      | exact LeO.none _
      | refine LeO.ite ?_ ?_
      | refine LeO.bind ?_ (fun _ => ?_)
set_option maxHeartbeats 8000000 in
set_option maxRecDepth 100000 in
theorem pilcrowref03_One.calls (k : Nat) (a0 : Int) (r : ByteArray) (w : World) (h : pilcrowref03_One.f k a0 = some r) :
    Calls Try.prog 34 #[.int .u32 a0] w fun e w' => e = .returned (.string r) ∧ Below w.heap.size w w' := by
  have HB := Aside0.mk (Below.refl w.heap.size w)
  have H : ((pilcrowref03_Size.f a0).bind fun t160 => (if t160 = 1 then (some (strOfNums (([(a0) % 256] : List Int)))) else (if 0 ≤ t160 then (if (t160 : Int).toNat ≤ 281474976710656 then (pilcrowref03_One.l0 k a0 t160 (List.replicate (t160 : Int).toNat 0) (wrap64 (t160 - 1))) else (none)) else (none)))) = some r := h
  clear h
  replace H := Option.bind_eq_some_iff.mp H
  obtain ⟨t160, A20, H⟩ := H
  replace H : (if t160 = 1 then (some (strOfNums (([(a0) % 256] : List Int)))) else (if 0 ≤ t160 then (if (t160 : Int).toNat ≤ 281474976710656 then (pilcrowref03_One.l0 k a0 t160 (List.replicate (t160 : Int).toNat 0) (wrap64 (t160 - 1))) else (none)) else (none))) = some r := H
  have A2 := Aside0.mk A20
  clear A20
  by_cases c3 : t160 = 1
  · rw [if_pos c3] at H
    have c3b0 : (t160 == 1) = true := beq_iff_eq.mpr c3
    have c3b1 : (t160 != 1) = false := bne_eq_false_iff_eq.mpr c3
    clear c3
    obtain ⟨y161, hy161⟩ : ∃ y_ : List Int, y_ = (([(a0) % 256] : List Int)) := ⟨_, rfl⟩
    replace H : (some (strOfNums y161)) = some r := by first | (rw [hy161]; with_reducible exact H) | (have H2_ := (Option.bind_some _ _).symm.trans H; rw [hy161]; with_reducible exact H2_) | (have H2_ := (Option.bind_some _ _).symm.trans H; with_reducible exact H2_) | with_reducible exact H | (rw [hy161]; exact H) | exact H
    have Ny161 := Aside0.mk hy161
    clear hy161
    obtain rfl := Option.some.inj H
    go_enter Try.func34, Try.ntmps34
    go_wp2_with (first | ((with_reducible refine gate_callee (f := 33) rfl ?_); refine goesL_ (some 7) rfl rfl Try.func33 (by kernel_rfl) rfl #[.int .u32 a0] rfl (by (try simp only [List.map_toArray, List.map_cons, List.map_nil]); first | done | rfl | (simp only [List.length_drop, List.length_take]; rfl)) ?_; (with_reducible refine (pilcrowref03_Size.calls a0 t160 _ A2.out).mono ?_); rintro e w' ⟨rfl, ⟨nd, rfl⟩⟩; refine ⟨_, rfl, ?_⟩) | ((with_reducible refine gate_dst (N := 12) rfl ?_); refine Kd.R_lit (Kd.int .u8) _ 5 ?hg (N := 12) ?hd (xs := ([(a0) % 256] : List Int)) (inner := [.int .u8 ((a0) % 256)]) (ok := fun _ => True) (okp := fun _ => True) ?hr ?hp (fun _ hk => hk) trivial (Below.refl _ _) (Nat.le_refl _) (by simp) ?_; (case hd => rfl); (case hg => rfl); (case hr => first | (go_simp; done) | (go_simp; rfl)); (case hp => exact (Reps.one (show Kd.M (Kd.int .u8) _ _ _ ((a0) % 256) [.int .u8 ((a0) % 256)] from rfl) (Reps.none _ _))); intro v162 w4 ho5 hb hg_ hnew_; clear hg_ hnew_; (first | rw [← Ny161.out] at ho5 | (simp only [Int.reduceToNat] at ho5; rw [← Ny161.out] at ho5)); have n0_ := Aside0.mk (Kd.R_lower ho5 (below_size (by repeat (first | (with_reducible first | exact HB.out | apply below_alloc | apply pw_below_drewN | apply below_drew1) | exact HB.out)))); have n1_ := Aside0.mk (below_step (by repeat (first | (with_reducible first | exact HB.out | apply below_alloc | apply pw_below_drewN | apply below_drew1) | exact HB.out)) hb); clear HB; have HO163 := n0_; have HB := n1_; clear n0_ n1_; clear hb ho5; have hcv6 := own_string (P := Try.prog) Try.underlying86 Try.underlying5 Try.underlying9 (Kd.own_of_R HO163.out)))
    go_ret
    exact ⟨by first | rfl | (simp [errW_none, errW_some] <;> rfl) | (simp [*, errW_none, errW_some] <;> rfl), by repeat (first | (with_reducible first | exact HB.out | apply below_alloc | apply pw_below_drewN | apply below_drew1) | exact HB.out)⟩
  · rw [if_neg c3] at H
    have c3b0 : (t160 == 1) = false := beq_eq_false_iff_ne.mpr c3
    have c3b1 : (t160 != 1) = true := bne_iff_ne.mpr c3
    by_cases c7 : 0 ≤ t160
    · rw [if_pos c7] at H
      have c7b0 := eq_true c7
      have c7b1 : decide (0 ≤ t160) = true := decide_eq_true c7
      clear c7
      by_cases c8 : (t160 : Int).toNat ≤ 281474976710656
      · rw [if_pos c8] at H
        have c8b0 := eq_true c8
        have c8b1 : decide ((t160 : Int).toNat ≤ 281474976710656) = true := decide_eq_true c8
        clear c8
        obtain ⟨y164, hy164⟩ : ∃ y_ : List Int, y_ = (List.replicate (t160 : Int).toNat 0) := ⟨_, rfl⟩
        replace H : (pilcrowref03_One.l0 k a0 t160 y164 (wrap64 (t160 - 1))) = some r := by first | (rw [hy164]; with_reducible exact H) | (have H2_ := (Option.bind_some _ _).symm.trans H; rw [hy164]; with_reducible exact H2_) | (have H2_ := (Option.bind_some _ _).symm.trans H; with_reducible exact H2_) | with_reducible exact H | (rw [hy164]; exact H) | exact H
        have Ny164 := Aside0.mk hy164
        clear hy164
        have H' := Aside0.mk H
        clear H
        go_enter Try.func34, Try.ntmps34
        go_wp2_with (first | ((with_reducible refine gate_callee (f := 33) rfl ?_); refine goesL_ (some 7) rfl rfl Try.func33 (by kernel_rfl) rfl #[.int .u32 a0] rfl (by (try simp only [List.map_toArray, List.map_cons, List.map_nil]); first | done | rfl | (simp only [List.length_drop, List.length_take]; rfl)) ?_; (with_reducible refine (pilcrowref03_Size.calls a0 t160 _ A2.out).mono ?_); rintro e w' ⟨rfl, ⟨nd, rfl⟩⟩; refine ⟨_, rfl, ?_⟩) | ((with_reducible refine gate_dst (N := 15) rfl ?_); refine Kd.R_make (Kd.int .u8) _ 5 rfl (N := 15) rfl 86 _ _ rfl t160 rfl rfl Try.underlying86 (.int .u8 0) 1 info5 rfl (by decide) (by omega) 0 (ok := fun _ => True) (okp := fun _ => True) rfl (fun _ hk => hk) trivial (of_decide_eq_true (by first | (with_reducible assumption) | assumption)) (Nat.le_trans (Nat.mul_le_mul_right _ (of_decide_eq_true (by first | (with_reducible assumption) | assumption) : t160.toNat ≤ 281474976710656)) (by omega)) (Below.refl _ _) (Nat.le_refl _) ?_; intro v165 w9 ho10 hb hg_ hnew_; clear hg_ hnew_; (first | rw [← Ny164.out] at ho10 | (simp only [Int.reduceToNat] at ho10; rw [← Ny164.out] at ho10)); have n0_ := Aside0.mk (Kd.R_lower ho10 (below_size (by repeat (first | (with_reducible first | exact HB.out | apply below_alloc | apply pw_below_drewN | apply below_drew1) | exact HB.out)))); have n1_ := Aside0.mk (below_step (by repeat (first | (with_reducible first | exact HB.out | apply below_alloc | apply pw_below_drewN | apply below_drew1) | exact HB.out)) hb); clear HB; have HO166 := n0_; have HB := n1_; clear n0_ n1_; clear hb ho10))
        go_loopg [0, 5] k (fun kq v0 v5 w' => ∃ (x0_1 : Int) (x4_1 : List Int) (x5_1 : Int), v0 = .int .u32 x0_1 ∧ v5 = .int .i64 x5_1 ∧ Aside0 (pilcrowref03_One.l0 kq x0_1 t160 x4_1 x5_1 = some r) ∧ Aside0 (kq ≤ k) ∧ Aside0 (Kd.R (Kd.int .u8) 5 w' w.heap.size (fun _ => True) v165 x4_1) ∧ Aside0 (Below w.heap.size w w'))
        case atStart => exact ⟨(a0), (y164), (wrap64 (t160 - 1)), (by first | rfl | (simp; done) | (simp [*]; done)), (by first | rfl | (simp; done) | (simp [*]; done)), H', ⟨Nat.le_refl _⟩, ⟨by (with_reducible repeat (first | apply Kd.R_alloc | apply Kd.R_drewN | apply Kd.R_drew)); exact HO166.out⟩, ⟨by repeat (first | (with_reducible first | exact HB.out | apply below_alloc | apply pw_below_drewN | apply below_drew1) | exact HB.out)⟩⟩
        case round =>
          clear H'
          try clear p2
          try clear c3
          try clear c3b0
          try clear c3b1
          try clear p6
          try clear hcv6
          try clear c7
          try clear c7b0
          try clear c7b1
          try clear c8
          try clear c8b0
          try clear c8b1
          obtain ⟨x0_1, x4_1, x5_1, rfl, rfl, HA, HK1, HO_4, HB⟩ := hrel
          cases gk with
          | zero => exact absurd HA.out (by simp [pilcrowref03_One.l0])
          | succ k1 =>
            have H := HA.out
            clear HA
            simp only [pilcrowref03_One.l0] at H
            by_cases c11 : x5_1 > 0
            · rw [if_pos c11] at H
              have c11b0 : decide (0 < x5_1) = true := decide_eq_true c11
              clear c11
              by_cases c12 : 0 ≤ x5_1
              · rw [if_pos c12] at H
                have c12b0 : decide (0 ≤ x5_1) = true := decide_eq_true c12
                clear c12
                by_cases c13 : x5_1 < (x4_1.length : Int)
                · rw [if_pos c13] at H
                  have c13b0 : decide (x5_1 < (x4_1.length : Int)) = true := decide_eq_true c13
                  clear c13
                  obtain ⟨y167, hy167⟩ : ∃ y_ : List Int, y_ = (x4_1.set (x5_1 : Int).toNat (((128 + (Int.tmod x0_1 64)) % 4294967296) % 256)) := ⟨_, rfl⟩
                  replace H : (pilcrowref03_One.l0 k1 ((Int.tdiv x0_1 64) % 4294967296) t160 y167 (wrap64 (x5_1 - 1))) = some r := by first | (rw [hy167]; with_reducible exact H) | (have H2_ := (Option.bind_some _ _).symm.trans H; rw [hy167]; with_reducible exact H2_) | (have H2_ := (Option.bind_some _ _).symm.trans H; with_reducible exact H2_) | with_reducible exact H | (rw [hy167]; exact H) | exact H
                  have Ny167 := Aside0.mk hy167
                  clear hy167
                  have H' := Aside0.mk H
                  clear H
                  have p14 : 0 ≤ (x5_1 : Int) := of_decide_eq_true (by first | (with_reducible assumption) | assumption)
                  have q14 : (x5_1 : Int) < ((x4_1.length : Int) : Int) := of_decide_eq_true (by first | (with_reducible assumption) | assumption)
                  obtain ⟨go14, co14, eo14, gb14, gl14, cl14, HG14⟩ := Kd.R_form HO_4.out (by omega)
                  (first | cases eo14 | (injection eo14 with ea_ en_ ec_; (first | subst ea_ | (injection ea_ with ea_; subst ea_)); subst ec_; clear en_))
                  have GB14 := Aside0.mk gb14
                  have GG14 := Aside0.mk HG14
                  clear gb14 gl14 HG14
                  obtain ⟨hx14_0, hf14_0⟩ := Kd.R_celln 0 HO_4.out (x5_1 : Int) p14 q14
                  replace p14 := eq_true p14
                  replace q14 := eq_true q14
                  have HP15 := Kd.R_putg HO_4.out (x5_1 : Int) (((128 + (Int.tmod x0_1 64)) % 4294967296) % 256)
                  go_wp2_with (first | ((with_reducible refine gate_store (t := 5) (p := 28) rfl ?_); refine store_event (t := 5) (p := 28) (v := ?vo_w16) (w1 := (wr.setCell ⟨go14, (x5_1 : Int).toNat, none⟩ (.int .u8 (((128 + (Int.tmod x0_1 64)) % 4294967296) % 256)))) ?hg ?ho ?hn ?hr ?_; (case ho => rfl); (case hg => rfl); (case hn => rfl); (case hr => first | (go_simp; done) | (go_simp; rfl)); intro w16 hw; have hg : wr.grownBy w16 (some go14) := (by rw [hw]; exact HP15.2); have hp_ : Kd.R (Kd.int .u8) 5 w16 w.heap.size (fun _ => True) (.slice (some ⟨go14, 0, none⟩) x4_1.length co14) y167 := (by rw [hw, Ny167.out]; exact HP15.1); clear HP15; have n0_ := Aside0.mk (hp_); have n1_ := Aside0.mk ((by rw [hw]; exact below_set (HB.out) GB14.out : Below w.heap.size w w16)); clear HO_4; clear HB; have HO_4 := n0_; have HB := n1_; clear n0_ n1_; clear hg hw hp_))
                  go_roundg k1
                  case measure => have := HK1.out; omega
                  case rel => exact ⟨((Int.tdiv x0_1 64) % 4294967296), (y167), (wrap64 (x5_1 - 1)), (by first | rfl | (simp; done) | (simp [*]; done)), (by first | rfl | (simp; done) | (simp [*]; done)), H', ⟨by have := HK1.out; omega⟩, ⟨by (with_reducible repeat (first | apply Kd.R_alloc | apply Kd.R_drewN | apply Kd.R_drew)); exact HO_4.out⟩, ⟨by repeat (first | (with_reducible first | exact HB.out | apply below_alloc | apply pw_below_drewN | apply below_drew1) | exact HB.out)⟩⟩
                · rw [if_neg c13] at H
                  exact absurd H (by simp)
              · rw [if_neg c12] at H
                exact absurd H (by simp)
            · rw [if_neg c11] at H
              have c11b0 : decide (0 < x5_1) = false := decide_eq_false c11
              clear c11
              by_cases c17 : t160 = 2
              · rw [if_pos c17] at H
                have c17b0 : (t160 == 2) = true := beq_iff_eq.mpr c17
                have c17b1 : (t160 != 2) = false := bne_eq_false_iff_eq.mpr c17
                clear c17
                by_cases c18 : 0 < (x4_1.length : Int)
                · rw [if_pos c18] at H
                  have c18b0 : decide (0 < (x4_1.length : Int)) = true := decide_eq_true c18
                  have c18b1 : decide (0 < x4_1.length) = true := decide_eq_true (by omega)
                  clear c18
                  obtain ⟨y168, hy168⟩ : ∃ y_ : List Int, y_ = (x4_1.set (0 : Int).toNat (((192 + x0_1) % 4294967296) % 256)) := ⟨_, rfl⟩
                  replace H : (some (strOfNums y168)) = some r := by first | (rw [hy168]; with_reducible exact H) | (have H2_ := (Option.bind_some _ _).symm.trans H; rw [hy168]; with_reducible exact H2_) | (have H2_ := (Option.bind_some _ _).symm.trans H; with_reducible exact H2_) | with_reducible exact H | (rw [hy168]; exact H) | exact H
                  have Ny168 := Aside0.mk hy168
                  clear hy168
                  obtain rfl := Option.some.inj H
                  have p19 : 0 ≤ (0 : Int) := (by omega)
                  have q19 : (0 : Int) < ((x4_1.length : Int) : Int) := of_decide_eq_true (by first | (with_reducible assumption) | assumption)
                  have qi19 : (0 < x4_1.length) = True := eq_true (by omega)
                  obtain ⟨go19, co19, eo19, gb19, gl19, cl19, HG19⟩ := Kd.R_form HO_4.out (by omega)
                  (first | cases eo19 | (injection eo19 with ea_ en_ ec_; (first | subst ea_ | (injection ea_ with ea_; subst ea_)); subst ec_; clear en_))
                  have GB19 := Aside0.mk gb19
                  have GG19 := Aside0.mk HG19
                  clear gb19 gl19 HG19
                  obtain ⟨hx19_0, hf19_0⟩ := Kd.R_celln 0 HO_4.out (0 : Int) p19 q19
                  (try rw [show ((0 : Int)).toNat = 0 from rfl] at hx19_0)
                  (try simp only [Nat.reduceMul, Nat.zero_mul, Nat.zero_add, Nat.reduceAdd] at hx19_0)
                  (try rw [show ((0 : Int)).toNat = 0 from rfl] at hf19_0)
                  (try simp only [Nat.reduceMul, Nat.zero_mul, Nat.zero_add, Nat.reduceAdd] at hf19_0)
                  replace p19 := eq_true p19
                  replace q19 := eq_true q19
                  have HP20 := Kd.R_putg HO_4.out (0 : Int) (((192 + x0_1) % 4294967296) % 256)
                  go_wp2_with (first | ((with_reducible refine gate_store (t := 5) (p := 38) rfl ?_); refine store_event (t := 5) (p := 38) (v := ?vo_w21) (w1 := (wr.setCell ⟨go19, (0 : Int).toNat, none⟩ (.int .u8 (((192 + x0_1) % 4294967296) % 256)))) ?hg ?ho ?hn ?hr ?_; (case ho => rfl); (case hg => rfl); (case hn => rfl); (case hr => first | (go_simp; done) | (go_simp; rfl)); intro w21 hw; have hg : wr.grownBy w21 (some go19) := (by rw [hw]; exact HP20.2); have hp_ : Kd.R (Kd.int .u8) 5 w21 w.heap.size (fun _ => True) (.slice (some ⟨go19, 0, none⟩) x4_1.length co19) y168 := (by rw [hw, Ny168.out]; exact HP20.1); clear HP20; have n0_ := Aside0.mk (hp_); have n1_ := Aside0.mk ((by rw [hw]; exact below_set (HB.out) GB19.out : Below w.heap.size w w21)); clear HO_4; clear HB; have HO_4 := n0_; have HB := n1_; clear n0_ n1_; clear hg hw hp_; have hcv22 := own_string (P := Try.prog) Try.underlying86 Try.underlying5 Try.underlying9 (Kd.own_of_R HO_4.out)))
                  go_ret
                  exact ⟨by first | rfl | (simp [errW_none, errW_some] <;> rfl) | (simp [*, errW_none, errW_some] <;> rfl), by repeat (first | (with_reducible first | exact HB.out | apply below_alloc | apply pw_below_drewN | apply below_drew1) | exact HB.out)⟩
                · rw [if_neg c18] at H
                  exact absurd H (by simp)
              · rw [if_neg c17] at H
                have c17b0 : (t160 == 2) = false := beq_eq_false_iff_ne.mpr c17
                have c17b1 : (t160 != 2) = true := bne_iff_ne.mpr c17
                by_cases c23 : t160 = 3
                · rw [if_pos c23] at H
                  have c23b0 : (t160 == 3) = true := beq_iff_eq.mpr c23
                  have c23b1 : (t160 != 3) = false := bne_eq_false_iff_eq.mpr c23
                  clear c23
                  by_cases c24 : 0 < (x4_1.length : Int)
                  · rw [if_pos c24] at H
                    have c24b0 : decide (0 < (x4_1.length : Int)) = true := decide_eq_true c24
                    have c24b1 : decide (0 < x4_1.length) = true := decide_eq_true (by omega)
                    clear c24
                    obtain ⟨y169, hy169⟩ : ∃ y_ : List Int, y_ = (x4_1.set (0 : Int).toNat (((224 + x0_1) % 4294967296) % 256)) := ⟨_, rfl⟩
                    replace H : (some (strOfNums y169)) = some r := by first | (rw [hy169]; with_reducible exact H) | (have H2_ := (Option.bind_some _ _).symm.trans H; rw [hy169]; with_reducible exact H2_) | (have H2_ := (Option.bind_some _ _).symm.trans H; with_reducible exact H2_) | with_reducible exact H | (rw [hy169]; exact H) | exact H
                    have Ny169 := Aside0.mk hy169
                    clear hy169
                    obtain rfl := Option.some.inj H
                    have p25 : 0 ≤ (0 : Int) := (by omega)
                    have q25 : (0 : Int) < ((x4_1.length : Int) : Int) := of_decide_eq_true (by first | (with_reducible assumption) | assumption)
                    have qi25 : (0 < x4_1.length) = True := eq_true (by omega)
                    obtain ⟨go25, co25, eo25, gb25, gl25, cl25, HG25⟩ := Kd.R_form HO_4.out (by omega)
                    (first | cases eo25 | (injection eo25 with ea_ en_ ec_; (first | subst ea_ | (injection ea_ with ea_; subst ea_)); subst ec_; clear en_))
                    have GB25 := Aside0.mk gb25
                    have GG25 := Aside0.mk HG25
                    clear gb25 gl25 HG25
                    obtain ⟨hx25_0, hf25_0⟩ := Kd.R_celln 0 HO_4.out (0 : Int) p25 q25
                    (try rw [show ((0 : Int)).toNat = 0 from rfl] at hx25_0)
                    (try simp only [Nat.reduceMul, Nat.zero_mul, Nat.zero_add, Nat.reduceAdd] at hx25_0)
                    (try rw [show ((0 : Int)).toNat = 0 from rfl] at hf25_0)
                    (try simp only [Nat.reduceMul, Nat.zero_mul, Nat.zero_add, Nat.reduceAdd] at hf25_0)
                    replace p25 := eq_true p25
                    replace q25 := eq_true q25
                    have HP26 := Kd.R_putg HO_4.out (0 : Int) (((224 + x0_1) % 4294967296) % 256)
                    go_wp2_with (first | ((with_reducible refine gate_store (t := 5) (p := 45) rfl ?_); refine store_event (t := 5) (p := 45) (v := ?vo_w27) (w1 := (wr.setCell ⟨go25, (0 : Int).toNat, none⟩ (.int .u8 (((224 + x0_1) % 4294967296) % 256)))) ?hg ?ho ?hn ?hr ?_; (case ho => rfl); (case hg => rfl); (case hn => rfl); (case hr => first | (go_simp; done) | (go_simp; rfl)); intro w27 hw; have hg : wr.grownBy w27 (some go25) := (by rw [hw]; exact HP26.2); have hp_ : Kd.R (Kd.int .u8) 5 w27 w.heap.size (fun _ => True) (.slice (some ⟨go25, 0, none⟩) x4_1.length co25) y169 := (by rw [hw, Ny169.out]; exact HP26.1); clear HP26; have n0_ := Aside0.mk (hp_); have n1_ := Aside0.mk ((by rw [hw]; exact below_set (HB.out) GB25.out : Below w.heap.size w w27)); clear HO_4; clear HB; have HO_4 := n0_; have HB := n1_; clear n0_ n1_; clear hg hw hp_; have hcv28 := own_string (P := Try.prog) Try.underlying86 Try.underlying5 Try.underlying9 (Kd.own_of_R HO_4.out)))
                    go_ret
                    exact ⟨by first | rfl | (simp [errW_none, errW_some] <;> rfl) | (simp [*, errW_none, errW_some] <;> rfl), by repeat (first | (with_reducible first | exact HB.out | apply below_alloc | apply pw_below_drewN | apply below_drew1) | exact HB.out)⟩
                  · rw [if_neg c24] at H
                    exact absurd H (by simp)
                · rw [if_neg c23] at H
                  have c23b0 : (t160 == 3) = false := beq_eq_false_iff_ne.mpr c23
                  have c23b1 : (t160 != 3) = true := bne_iff_ne.mpr c23
                  by_cases c29 : t160 = 4
                  · rw [if_pos c29] at H
                    have c29b0 : (t160 == 4) = true := beq_iff_eq.mpr c29
                    have c29b1 : (t160 != 4) = false := bne_eq_false_iff_eq.mpr c29
                    clear c29
                    by_cases c30 : 0 < (x4_1.length : Int)
                    · rw [if_pos c30] at H
                      have c30b0 : decide (0 < (x4_1.length : Int)) = true := decide_eq_true c30
                      have c30b1 : decide (0 < x4_1.length) = true := decide_eq_true (by omega)
                      clear c30
                      obtain ⟨y170, hy170⟩ : ∃ y_ : List Int, y_ = (x4_1.set (0 : Int).toNat (((240 + x0_1) % 4294967296) % 256)) := ⟨_, rfl⟩
                      replace H : (some (strOfNums y170)) = some r := by first | (rw [hy170]; with_reducible exact H) | (have H2_ := (Option.bind_some _ _).symm.trans H; rw [hy170]; with_reducible exact H2_) | (have H2_ := (Option.bind_some _ _).symm.trans H; with_reducible exact H2_) | with_reducible exact H | (rw [hy170]; exact H) | exact H
                      have Ny170 := Aside0.mk hy170
                      clear hy170
                      obtain rfl := Option.some.inj H
                      have p31 : 0 ≤ (0 : Int) := (by omega)
                      have q31 : (0 : Int) < ((x4_1.length : Int) : Int) := of_decide_eq_true (by first | (with_reducible assumption) | assumption)
                      have qi31 : (0 < x4_1.length) = True := eq_true (by omega)
                      obtain ⟨go31, co31, eo31, gb31, gl31, cl31, HG31⟩ := Kd.R_form HO_4.out (by omega)
                      (first | cases eo31 | (injection eo31 with ea_ en_ ec_; (first | subst ea_ | (injection ea_ with ea_; subst ea_)); subst ec_; clear en_))
                      have GB31 := Aside0.mk gb31
                      have GG31 := Aside0.mk HG31
                      clear gb31 gl31 HG31
                      obtain ⟨hx31_0, hf31_0⟩ := Kd.R_celln 0 HO_4.out (0 : Int) p31 q31
                      (try rw [show ((0 : Int)).toNat = 0 from rfl] at hx31_0)
                      (try simp only [Nat.reduceMul, Nat.zero_mul, Nat.zero_add, Nat.reduceAdd] at hx31_0)
                      (try rw [show ((0 : Int)).toNat = 0 from rfl] at hf31_0)
                      (try simp only [Nat.reduceMul, Nat.zero_mul, Nat.zero_add, Nat.reduceAdd] at hf31_0)
                      replace p31 := eq_true p31
                      replace q31 := eq_true q31
                      have HP32 := Kd.R_putg HO_4.out (0 : Int) (((240 + x0_1) % 4294967296) % 256)
                      go_wp2_with (first | ((with_reducible refine gate_store (t := 5) (p := 52) rfl ?_); refine store_event (t := 5) (p := 52) (v := ?vo_w33) (w1 := (wr.setCell ⟨go31, (0 : Int).toNat, none⟩ (.int .u8 (((240 + x0_1) % 4294967296) % 256)))) ?hg ?ho ?hn ?hr ?_; (case ho => rfl); (case hg => rfl); (case hn => rfl); (case hr => first | (go_simp; done) | (go_simp; rfl)); intro w33 hw; have hg : wr.grownBy w33 (some go31) := (by rw [hw]; exact HP32.2); have hp_ : Kd.R (Kd.int .u8) 5 w33 w.heap.size (fun _ => True) (.slice (some ⟨go31, 0, none⟩) x4_1.length co31) y170 := (by rw [hw, Ny170.out]; exact HP32.1); clear HP32; have n0_ := Aside0.mk (hp_); have n1_ := Aside0.mk ((by rw [hw]; exact below_set (HB.out) GB31.out : Below w.heap.size w w33)); clear HO_4; clear HB; have HO_4 := n0_; have HB := n1_; clear n0_ n1_; clear hg hw hp_; have hcv34 := own_string (P := Try.prog) Try.underlying86 Try.underlying5 Try.underlying9 (Kd.own_of_R HO_4.out)))
                      go_ret
                      exact ⟨by first | rfl | (simp [errW_none, errW_some] <;> rfl) | (simp [*, errW_none, errW_some] <;> rfl), by repeat (first | (with_reducible first | exact HB.out | apply below_alloc | apply pw_below_drewN | apply below_drew1) | exact HB.out)⟩
                    · rw [if_neg c30] at H
                      exact absurd H (by simp)
                  · rw [if_neg c29] at H
                    have c29b0 : (t160 == 4) = false := beq_eq_false_iff_ne.mpr c29
                    have c29b1 : (t160 != 4) = true := bne_iff_ne.mpr c29
                    obtain rfl := Option.some.inj H
                    have hcv35 := own_string (P := Try.prog) Try.underlying86 Try.underlying5 Try.underlying9 (Kd.own_of_R HO_4.out)
                    go_wp2
                    go_ret
                    exact ⟨by first | rfl | (simp [errW_none, errW_some] <;> rfl) | (simp [*, errW_none, errW_some] <;> rfl), by repeat (first | (with_reducible first | exact HB.out | apply below_alloc | apply pw_below_drewN | apply below_drew1) | exact HB.out)⟩
      · rw [if_neg c8] at H
        exact absurd H (by simp)
    · rw [if_neg c7] at H
      exact absurd H (by simp)
/-! ### pilcrowref03_Bytes: function 22 -/
def pilcrowref03_Bytes.l0 : Nat → List Int → ByteArray → Int → Option (ByteArray)
  | 0, _, _, _ => none
  | k + 1, x0, x3, x4 => if x4 < (x0.length : Int) then (if 0 ≤ x4 then ((pilcrowref03_One.f k (rd x0 x4)).bind fun t172 => (if x3.size + t172.size ≤ 9223372036854775807 then (pilcrowref03_Bytes.l0 k x0 (x3 ++ t172) (wrap64 (x4 + 1))) else (none))) else (none)) else (some x3)
def pilcrowref03_Bytes.f (k : Nat) (l0 : List Int) : Option (ByteArray) := pilcrowref03_Bytes.l0 k l0 (⟨#[]⟩ : ByteArray) 0
theorem pilcrowref03_Bytes.mono_l : ∀ k, (∀ y0 y1 y2, LeO (pilcrowref03_Bytes.l0 k y0 y1 y2) (pilcrowref03_Bytes.l0 (k + 1) y0 y1 y2))
  | 0 => fun _ _ _ r h => by simp [pilcrowref03_Bytes.l0] at h
  | k + 1 => by
    have ih0 := pilcrowref03_Bytes.mono_l k
    · intro y0 y1 y2
      unfold pilcrowref03_Bytes.l0
      repeat' first
      | (with_reducible exact ih0 _ _ _)
      | (with_reducible exact pilcrowref03_One.mono _ _)
      | (with_reducible exact LeO.refl _)
      | (with_reducible exact LeO.none _)
      | (with_reducible refine LeO.ite ?_ ?_)
      | (with_reducible refine LeO.bind ?_ (fun _ => ?_))
      | exact ih0 _ _ _
      | exact pilcrowref03_One.mono _ _
      | exact LeO.none _
      | refine LeO.ite ?_ ?_
      | refine LeO.bind ?_ (fun _ => ?_)
theorem pilcrowref03_Bytes.mono : ∀ a0 k, LeO (pilcrowref03_Bytes.f k a0) (pilcrowref03_Bytes.f (k + 1) a0) := by
  intro a0 k
  have ih0 := pilcrowref03_Bytes.mono_l k
  unfold pilcrowref03_Bytes.f
  repeat' first
      | (with_reducible exact ih0 _ _ _)
      | (with_reducible exact pilcrowref03_One.mono _ _)
      | (with_reducible exact LeO.refl _)
      | (with_reducible exact LeO.none _)
      | (with_reducible refine LeO.ite ?_ ?_)
      | (with_reducible refine LeO.bind ?_ (fun _ => ?_))
      | exact ih0 _ _ _
      | exact pilcrowref03_One.mono _ _
      | exact LeO.none _
      | refine LeO.ite ?_ ?_
      | refine LeO.bind ?_ (fun _ => ?_)
set_option maxHeartbeats 8000000 in
set_option maxRecDepth 100000 in
theorem pilcrowref03_Bytes.calls (k : Nat) (A0 : Option Addr) (c0 : Nat) (l0 : List Int) (r : ByteArray) (w : World) (hr0 : Kd.C (Kd.int .u32) w A0 l0.length l0) (hc0 : l0.length ≤ c0) (h : pilcrowref03_Bytes.f k l0 = some r) :
    Calls Try.prog 22 #[.slice A0 l0.length c0] w fun e w' => e = .returned (.string r) ∧ Below w.heap.size w w' := by
  have HR0 := Aside0.mk hr0
  have HC0 := Aside0.mk hc0
  clear hr0 hc0
  have HB := Aside0.mk (Below.refl w.heap.size w)
  have H : (pilcrowref03_Bytes.l0 k l0 (⟨#[]⟩ : ByteArray) 0) = some r := h
  clear h
  have H' := Aside0.mk H
  clear H
  go_enter Try.func22, Try.ntmps22
  go_wp2
  go_loopg [3, 4] k (fun kq v3 v4 w' => ∃ (x3_1 : ByteArray) (x4_1 : Int), v3 = .string x3_1 ∧ v4 = .int .i64 x4_1 ∧ Aside0 (pilcrowref03_Bytes.l0 kq l0 x3_1 x4_1 = some r) ∧ Aside0 (kq ≤ k) ∧ Aside0 (Below w.heap.size w w'))
  case atStart => exact ⟨((⟨#[]⟩ : ByteArray)), (0), (by first | rfl | (simp; done) | (simp [*]; done)), (by first | rfl | (simp; done) | (simp [*]; done)), H', ⟨Nat.le_refl _⟩, ⟨by repeat (first | (with_reducible first | exact HB.out | apply below_alloc | apply pw_below_drewN | apply below_drew1) | exact HB.out)⟩⟩
  case round =>
    clear H'
    obtain ⟨x3_1, x4_1, rfl, rfl, HA, HK1, HB⟩ := hrel
    cases gk with
    | zero => exact absurd HA.out (by simp [pilcrowref03_Bytes.l0])
    | succ k1 =>
      have H := HA.out
      clear HA
      simp only [pilcrowref03_Bytes.l0] at H
      by_cases c2 : x4_1 < (l0.length : Int)
      · rw [if_pos c2] at H
        have c2b0 : decide (x4_1 < (l0.length : Int)) = true := decide_eq_true c2
        clear c2
        by_cases c3 : 0 ≤ x4_1
        · rw [if_pos c3] at H
          have c3b0 : decide (0 ≤ x4_1) = true := decide_eq_true c3
          clear c3
          replace H := Option.bind_eq_some_iff.mp H
          obtain ⟨t172, A40, H⟩ := H
          replace H : (if x3_1.size + t172.size ≤ 9223372036854775807 then (pilcrowref03_Bytes.l0 k1 l0 (x3_1 ++ t172) (wrap64 (x4_1 + 1))) else (none)) = some r := H
          have A4 := Aside0.mk A40
          clear A40
          by_cases c5 : x3_1.size + t172.size ≤ 9223372036854775807
          · rw [if_pos c5] at H
            have c5b0 := eq_true c5
            have c5b1 : decide (x3_1.size + t172.size ≤ 9223372036854775807) = true := decide_eq_true c5
            try have c5b2 : (9223372036854775807 < x3_1.size + t172.size) = False := eq_false (Nat.not_lt.2 c5)
            have H' := Aside0.mk H
            clear H
            have p171 : 0 ≤ (x4_1 : Int) := of_decide_eq_true (by first | (with_reducible assumption) | assumption)
            have q171 : x4_1 < (l0.length : Int) := of_decide_eq_true (by first | (with_reducible assumption) | assumption)
            obtain ⟨ad171, e171, hx171_0⟩ := Kd.at_int HR0.out x4_1 p171 q171
            cases e171
            replace hx171_0 := (HB.out.cell (World.block_lt_of_cell? w _ hx171_0)).trans hx171_0
            replace p171 := eq_true p171
            replace q171 := eq_true q171
            go_wp2_with (first | ((with_reducible refine gate_callee (f := 34) rfl ?_); refine goesL_ (some 16) rfl rfl Try.func34 (by kernel_rfl) rfl #[.int .u32 (rd l0 x4_1)] rfl (by (try simp only [List.map_toArray, List.map_cons, List.map_nil]); first | done | rfl | (simp only [List.length_drop, List.length_take]; rfl)) ?_; (with_reducible refine (pilcrowref03_One.calls k1 (rd l0 x4_1) t172 _ A4.out).mono ?_); rintro e w6 ⟨rfl, hb⟩; refine ⟨_, rfl, ?_⟩; have n0_ := Aside0.mk (below_step (by repeat (first | (with_reducible first | exact HB.out | apply below_alloc | apply pw_below_drewN | apply below_drew1) | exact HB.out)) hb); clear HB; have HB := n0_; clear n0_; (try clear hb); (try clear hb2); (try clear hk); (try clear hi)))
            go_roundg k1
            case measure => have := HK1.out; omega
            case rel => exact ⟨(x3_1 ++ t172), (wrap64 (x4_1 + 1)), (by first | rfl | (simp; done) | (simp [*]; done)), (by first | rfl | (simp; done) | (simp [*]; done)), H', ⟨by have := HK1.out; omega⟩, ⟨by repeat (first | (with_reducible first | exact HB.out | apply below_alloc | apply pw_below_drewN | apply below_drew1) | exact HB.out)⟩⟩
          · rw [if_neg c5] at H
            exact absurd H (by simp)
        · rw [if_neg c3] at H
          exact absurd H (by simp)
      · rw [if_neg c2] at H
        have c2b0 : decide (x4_1 < (l0.length : Int)) = false := decide_eq_false c2
        clear c2
        obtain rfl := Option.some.inj H
        go_wp2
        go_ret
        exact ⟨by first | rfl | (simp [errW_none, errW_some] <;> rfl) | (simp [*, errW_none, errW_some] <;> rfl), by repeat (first | (with_reducible first | exact HB.out | apply below_alloc | apply pw_below_drewN | apply below_drew1) | exact HB.out)⟩
/-! ### pilcrowref03_Rest: function 24 -/
def pilcrowref03_Rest.f (k : Nat) (a0 : ByteArray) : Option (ByteArray) := (pilcrowref03_Read.f k a0).bind fun bt173 => ((pilcrowref03_Bytes.f k bt173.1).bind fun t178 => (if (t178.size : Int) = (a0.size : Int) then (some (⟨#[]⟩ : ByteArray)) else (if 0 ≤ (t178.size : Int) then (if (t178.size : Int) ≤ (a0.size : Int) then ((pilcrowref03_Begins.f k (a0.extract ((t178.size : Int) : Int).toNat a0.size)).bind fun bt179 => (if bt179.2 = true then ((pilcrowref03_One.f k bt179.1).bind fun t181 => (if 0 ≤ (wrap64 ((a0.size : Int) - (t178.size : Int))) then (if (wrap64 ((a0.size : Int) - (t178.size : Int))) ≤ (t181.size : Int) then (some (t181.extract ((wrap64 ((a0.size : Int) - (t178.size : Int))) : Int).toNat t181.size)) else (none)) else (none))) else (some (⟨#[]⟩ : ByteArray)))) else (none)) else (none))))
theorem pilcrowref03_Rest.mono : ∀ a0 k, LeO (pilcrowref03_Rest.f k a0) (pilcrowref03_Rest.f (k + 1) a0) := by
  intro a0 k
  unfold pilcrowref03_Rest.f
  repeat' first
      | (with_reducible exact pilcrowref03_Begins.mono _ _)
      | (with_reducible exact pilcrowref03_Bytes.mono _ _)
      | (with_reducible exact pilcrowref03_One.mono _ _)
      | (with_reducible exact pilcrowref03_Read.mono _ _)
      | (with_reducible exact LeO.refl _)
      | (with_reducible exact LeO.none _)
      | (with_reducible refine LeO.ite ?_ ?_)
      | (with_reducible refine LeO.bind ?_ (fun _ => ?_))
      | exact pilcrowref03_Begins.mono _ _
      | exact pilcrowref03_Bytes.mono _ _
      | exact pilcrowref03_One.mono _ _
      | exact pilcrowref03_Read.mono _ _
      | exact LeO.none _
      | refine LeO.ite ?_ ?_
      | refine LeO.bind ?_ (fun _ => ?_)
set_option maxHeartbeats 8000000 in
set_option maxRecDepth 100000 in
theorem pilcrowref03_Rest.calls (k : Nat) (a0 : ByteArray) (r : ByteArray) (w : World) (h : pilcrowref03_Rest.f k a0 = some r) :
    Calls Try.prog 24 #[.string a0] w fun e w' => e = .returned (.string r) ∧ Below w.heap.size w w' := by
  have HB := Aside0.mk (Below.refl w.heap.size w)
  have H : ((pilcrowref03_Read.f k a0).bind fun bt173 => ((pilcrowref03_Bytes.f k bt173.1).bind fun t178 => (if (t178.size : Int) = (a0.size : Int) then (some (⟨#[]⟩ : ByteArray)) else (if 0 ≤ (t178.size : Int) then (if (t178.size : Int) ≤ (a0.size : Int) then ((pilcrowref03_Begins.f k (a0.extract ((t178.size : Int) : Int).toNat a0.size)).bind fun bt179 => (if bt179.2 = true then ((pilcrowref03_One.f k bt179.1).bind fun t181 => (if 0 ≤ (wrap64 ((a0.size : Int) - (t178.size : Int))) then (if (wrap64 ((a0.size : Int) - (t178.size : Int))) ≤ (t181.size : Int) then (some (t181.extract ((wrap64 ((a0.size : Int) - (t178.size : Int))) : Int).toNat t181.size)) else (none)) else (none))) else (some (⟨#[]⟩ : ByteArray)))) else (none)) else (none))))) = some r := h
  clear h
  replace H := Option.bind_eq_some_iff.mp H
  obtain ⟨⟨t173, t174, t175⟩, A20, H⟩ := H
  replace H : ((pilcrowref03_Bytes.f k t173).bind fun t178 => (if (t178.size : Int) = (a0.size : Int) then (some (⟨#[]⟩ : ByteArray)) else (if 0 ≤ (t178.size : Int) then (if (t178.size : Int) ≤ (a0.size : Int) then ((pilcrowref03_Begins.f k (a0.extract ((t178.size : Int) : Int).toNat a0.size)).bind fun bt179 => (if bt179.2 = true then ((pilcrowref03_One.f k bt179.1).bind fun t181 => (if 0 ≤ (wrap64 ((a0.size : Int) - (t178.size : Int))) then (if (wrap64 ((a0.size : Int) - (t178.size : Int))) ≤ (t181.size : Int) then (some (t181.extract ((wrap64 ((a0.size : Int) - (t178.size : Int))) : Int).toNat t181.size)) else (none)) else (none))) else (some (⟨#[]⟩ : ByteArray)))) else (none)) else (none)))) = some r := H
  have A2 := Aside0.mk A20
  clear A20
  replace H := Option.bind_eq_some_iff.mp H
  obtain ⟨t178, A30, H⟩ := H
  replace H : (if (t178.size : Int) = (a0.size : Int) then (some (⟨#[]⟩ : ByteArray)) else (if 0 ≤ (t178.size : Int) then (if (t178.size : Int) ≤ (a0.size : Int) then ((pilcrowref03_Begins.f k (a0.extract ((t178.size : Int) : Int).toNat a0.size)).bind fun bt179 => (if bt179.2 = true then ((pilcrowref03_One.f k bt179.1).bind fun t181 => (if 0 ≤ (wrap64 ((a0.size : Int) - (t178.size : Int))) then (if (wrap64 ((a0.size : Int) - (t178.size : Int))) ≤ (t181.size : Int) then (some (t181.extract ((wrap64 ((a0.size : Int) - (t178.size : Int))) : Int).toNat t181.size)) else (none)) else (none))) else (some (⟨#[]⟩ : ByteArray)))) else (none)) else (none))) = some r := H
  have A3 := Aside0.mk A30
  clear A30
  by_cases c4 : (t178.size : Int) = (a0.size : Int)
  · rw [if_pos c4] at H
    have c4b0 : ((t178.size : Int) == (a0.size : Int)) = true := beq_iff_eq.mpr c4
    have c4b1 : ((t178.size : Int) != (a0.size : Int)) = false := bne_eq_false_iff_eq.mpr c4
    have c4b2 : (t178.size == a0.size) = true := by first | simpa using c4 | (simp at c4 ⊢; omega)
    clear c4
    obtain rfl := Option.some.inj H
    go_enter Try.func24, Try.ntmps24
    go_wp2_with (first | ((with_reducible refine gate_callee (f := 17) rfl ?_); refine goesL_ (some 11) rfl rfl Try.func17 (by kernel_rfl) rfl #[.string a0] rfl (by (try simp only [List.map_toArray, List.map_cons, List.map_nil]); first | done | rfl | (simp only [List.length_drop, List.length_take]; rfl)) ?_; (with_reducible refine (pilcrowref03_Read.calls k a0 t173 t174 t175 _ A2.out).mono ?_); rintro e w5 ⟨v176, rfl, ho0, hb⟩; refine ⟨_, rfl, ?_⟩; have n0_ := Aside0.mk (Kd.R_lower ho0 (below_size (by repeat (first | (with_reducible first | exact HB.out | apply below_alloc | apply pw_below_drewN | apply below_drew1) | exact HB.out)))); have n1_ := Aside0.mk (below_step (by repeat (first | (with_reducible first | exact HB.out | apply below_alloc | apply pw_below_drewN | apply below_drew1) | exact HB.out)) hb); clear HB; have HO177 := n0_; have HB := n1_; clear n0_ n1_; (try clear hb); (try clear hb2); (try clear hk); (try clear hi); (try clear ho0); obtain ⟨Ao6, co6, eo6⟩ := Kd.R_slice HO177.out; subst eo6) | ((with_reducible refine gate_callee (f := 22) rfl ?_); refine goesL_ (some 16) rfl rfl Try.func22 (by kernel_rfl) rfl #[.slice Ao6 t173.length co6] rfl (by (try simp only [List.map_toArray, List.map_cons, List.map_nil]); first | done | rfl | (simp only [List.length_drop, List.length_take]; rfl)) ?_; (with_reducible refine (pilcrowref03_Bytes.calls k _ _ t173 t178 _ ?side1 ?side2 A3.out).mono ?_); (case side1 => repeat (first | exact (Kd.R_reads' HO177.out).2.2 | (with_reducible refine Kd.C_alloc ?_ _) | (with_reducible refine Kd.C_drewN ?_ _) | (with_reducible refine Kd.C_drew ?_))); (case side2 => exact (Kd.R_reads' HO177.out).2.1); rintro e w7 ⟨rfl, hb⟩; refine ⟨_, rfl, ?_⟩; have n0_ := Aside0.mk (Kd.R_below (by (with_reducible repeat (first | apply Kd.R_alloc | apply Kd.R_drewN | apply Kd.R_drew)); exact HO177.out) hb); have n1_ := Aside0.mk (below_step (by repeat (first | (with_reducible first | exact HB.out | apply below_alloc | apply pw_below_drewN | apply below_drew1) | exact HB.out)) hb); clear HO177; clear HB; have HO177 := n0_; have HB := n1_; clear n0_ n1_; (try clear hb); (try clear hb2); (try clear hk); (try clear hi)))
    go_ret
    exact ⟨by first | rfl | (simp [errW_none, errW_some] <;> rfl) | (simp [*, errW_none, errW_some] <;> rfl), by repeat (first | (with_reducible first | exact HB.out | apply below_alloc | apply pw_below_drewN | apply below_drew1) | exact HB.out)⟩
  · rw [if_neg c4] at H
    have c4b0 : ((t178.size : Int) == (a0.size : Int)) = false := beq_eq_false_iff_ne.mpr c4
    have c4b1 : ((t178.size : Int) != (a0.size : Int)) = true := bne_iff_ne.mpr c4
    have c4b2 : (t178.size == a0.size) = false := by first | simpa using c4 | (simp at c4 ⊢; omega)
    by_cases c8 : 0 ≤ (t178.size : Int)
    · rw [if_pos c8] at H
      have c8b0 := eq_true c8
      have c8b1 : decide (0 ≤ (t178.size : Int)) = true := decide_eq_true c8
      clear c8
      by_cases c9 : (t178.size : Int) ≤ (a0.size : Int)
      · rw [if_pos c9] at H
        have c9b0 := eq_true c9
        have c9b1 : decide ((t178.size : Int) ≤ (a0.size : Int)) = true := decide_eq_true c9
        clear c9
        replace H := Option.bind_eq_some_iff.mp H
        obtain ⟨⟨t179, t180⟩, A100, H⟩ := H
        replace H : (if t180 = true then ((pilcrowref03_One.f k t179).bind fun t181 => (if 0 ≤ (wrap64 ((a0.size : Int) - (t178.size : Int))) then (if (wrap64 ((a0.size : Int) - (t178.size : Int))) ≤ (t181.size : Int) then (some (t181.extract ((wrap64 ((a0.size : Int) - (t178.size : Int))) : Int).toNat t181.size)) else (none)) else (none))) else (some (⟨#[]⟩ : ByteArray))) = some r := H
        have A10 := Aside0.mk A100
        clear A100
        by_cases c11 : t180 = true
        · subst c11
          have H1 : ((pilcrowref03_One.f k t179).bind fun t181 => (if 0 ≤ (wrap64 ((a0.size : Int) - (t178.size : Int))) then (if (wrap64 ((a0.size : Int) - (t178.size : Int))) ≤ (t181.size : Int) then (some (t181.extract ((wrap64 ((a0.size : Int) - (t178.size : Int))) : Int).toNat t181.size)) else (none)) else (none))) = some r := by rw [if_pos rfl] at H; exact H
          clear H
          have H := H1
          clear H1
          replace H := Option.bind_eq_some_iff.mp H
          obtain ⟨t181, A120, H⟩ := H
          replace H : (if 0 ≤ (wrap64 ((a0.size : Int) - (t178.size : Int))) then (if (wrap64 ((a0.size : Int) - (t178.size : Int))) ≤ (t181.size : Int) then (some (t181.extract ((wrap64 ((a0.size : Int) - (t178.size : Int))) : Int).toNat t181.size)) else (none)) else (none)) = some r := H
          have A12 := Aside0.mk A120
          clear A120
          obtain ⟨ji13, hji13⟩ : ∃ j_ : Int, (wrap64 ((a0.size : Int) - (t178.size : Int))) = j_ := ⟨_, rfl⟩
          replace H : (if 0 ≤ (ji13) then (if (ji13) ≤ (t181.size : Int) then (some (t181.extract ((ji13) : Int).toNat t181.size)) else (none)) else (none)) = some r := by first | (rw [hji13] at H; exact H) | (simp only [hji13] at H ⊢; exact H)
          (try rw [hji13] at A2)
          (try rw [hji13] at A3)
          (try rw [hji13] at A10)
          (try rw [hji13] at A12)
          have hji13w : (IntKind.i64.wrap ((a0.size : Int) - (t178.size : Int))) = ji13 := (i64_w _).trans hji13
          by_cases c14 : 0 ≤ (ji13)
          · rw [if_pos c14] at H
            have c14b0 := eq_true c14
            have c14b1 : decide (0 ≤ (ji13)) = true := decide_eq_true c14
            clear c14
            by_cases c15 : (ji13) ≤ (t181.size : Int)
            · rw [if_pos c15] at H
              have c15b0 := eq_true c15
              have c15b1 : decide ((ji13) ≤ (t181.size : Int)) = true := decide_eq_true c15
              clear c15
              obtain rfl := Option.some.inj H
              go_enter Try.func24, Try.ntmps24
              go_wp2_with (first | ((with_reducible refine gate_callee (f := 17) rfl ?_); refine goesL_ (some 11) rfl rfl Try.func17 (by kernel_rfl) rfl #[.string a0] rfl (by (try simp only [List.map_toArray, List.map_cons, List.map_nil]); first | done | rfl | (simp only [List.length_drop, List.length_take]; rfl)) ?_; (with_reducible refine (pilcrowref03_Read.calls k a0 t173 t174 t175 _ A2.out).mono ?_); rintro e w16 ⟨v176, rfl, ho0, hb⟩; refine ⟨_, rfl, ?_⟩; have n0_ := Aside0.mk (Kd.R_lower ho0 (below_size (by repeat (first | (with_reducible first | exact HB.out | apply below_alloc | apply pw_below_drewN | apply below_drew1) | exact HB.out)))); have n1_ := Aside0.mk (below_step (by repeat (first | (with_reducible first | exact HB.out | apply below_alloc | apply pw_below_drewN | apply below_drew1) | exact HB.out)) hb); clear HB; have HO177 := n0_; have HB := n1_; clear n0_ n1_; (try clear hb); (try clear hb2); (try clear hk); (try clear hi); (try clear ho0); obtain ⟨Ao17, co17, eo17⟩ := Kd.R_slice HO177.out; subst eo17) | ((with_reducible refine gate_callee (f := 22) rfl ?_); refine goesL_ (some 16) rfl rfl Try.func22 (by kernel_rfl) rfl #[.slice Ao17 t173.length co17] rfl (by (try simp only [List.map_toArray, List.map_cons, List.map_nil]); first | done | rfl | (simp only [List.length_drop, List.length_take]; rfl)) ?_; (with_reducible refine (pilcrowref03_Bytes.calls k _ _ t173 t178 _ ?side1 ?side2 A3.out).mono ?_); (case side1 => repeat (first | exact (Kd.R_reads' HO177.out).2.2 | (with_reducible refine Kd.C_alloc ?_ _) | (with_reducible refine Kd.C_drewN ?_ _) | (with_reducible refine Kd.C_drew ?_))); (case side2 => exact (Kd.R_reads' HO177.out).2.1); rintro e w18 ⟨rfl, hb⟩; refine ⟨_, rfl, ?_⟩; have n0_ := Aside0.mk (Kd.R_below (by (with_reducible repeat (first | apply Kd.R_alloc | apply Kd.R_drewN | apply Kd.R_drew)); exact HO177.out) hb); have n1_ := Aside0.mk (below_step (by repeat (first | (with_reducible first | exact HB.out | apply below_alloc | apply pw_below_drewN | apply below_drew1) | exact HB.out)) hb); clear HO177; clear HB; have HO177 := n0_; have HB := n1_; clear n0_ n1_; (try clear hb); (try clear hb2); (try clear hk); (try clear hi)) | ((with_reducible refine gate_callee (f := 32) rfl ?_); refine goesL_ (some 26) rfl rfl Try.func32 (by kernel_rfl) rfl #[.string (a0.extract ((t178.size : Int) : Int).toNat a0.size)] rfl (by (try simp only [List.map_toArray, List.map_cons, List.map_nil]); first | done | rfl | (simp only [List.length_drop, List.length_take]; rfl)) ?_; (with_reducible refine (pilcrowref03_Begins.calls k (a0.extract ((t178.size : Int) : Int).toNat a0.size) t179 true _ A10.out).mono ?_); rintro e w19 ⟨rfl, hb⟩; refine ⟨_, rfl, ?_⟩; have n0_ := Aside0.mk (Kd.R_below (by (with_reducible repeat (first | apply Kd.R_alloc | apply Kd.R_drewN | apply Kd.R_drew)); exact HO177.out) hb); have n1_ := Aside0.mk (below_step (by repeat (first | (with_reducible first | exact HB.out | apply below_alloc | apply pw_below_drewN | apply below_drew1) | exact HB.out)) hb); clear HO177; clear HB; have HO177 := n0_; have HB := n1_; clear n0_ n1_; (try clear hb); (try clear hb2); (try clear hk); (try clear hi)) | ((with_reducible refine gate_callee (f := 34) rfl ?_); refine goesL_ (some 32) rfl rfl Try.func34 (by kernel_rfl) rfl #[.int .u32 t179] rfl (by (try simp only [List.map_toArray, List.map_cons, List.map_nil]); first | done | rfl | (simp only [List.length_drop, List.length_take]; rfl)) ?_; (with_reducible refine (pilcrowref03_One.calls k t179 t181 _ A12.out).mono ?_); rintro e w20 ⟨rfl, hb⟩; refine ⟨_, rfl, ?_⟩; have n0_ := Aside0.mk (Kd.R_below (by (with_reducible repeat (first | apply Kd.R_alloc | apply Kd.R_drewN | apply Kd.R_drew)); exact HO177.out) hb); have n1_ := Aside0.mk (below_step (by repeat (first | (with_reducible first | exact HB.out | apply below_alloc | apply pw_below_drewN | apply below_drew1) | exact HB.out)) hb); clear HO177; clear HB; have HO177 := n0_; have HB := n1_; clear n0_ n1_; (try clear hb); (try clear hb2); (try clear hk); (try clear hi)))
              go_ret
              exact ⟨by first | rfl | (simp [errW_none, errW_some] <;> rfl) | (simp only [← hji13]; first | rfl | (simp [errW_none, errW_some] <;> rfl)) | (simp [*, errW_none, errW_some] <;> rfl), by repeat (first | (with_reducible first | exact HB.out | apply below_alloc | apply pw_below_drewN | apply below_drew1) | exact HB.out)⟩
            · rw [if_neg c15] at H
              exact absurd H (by simp)
          · rw [if_neg c14] at H
            exact absurd H (by simp)
        · replace c11 := Bool.eq_false_iff.mpr c11
          subst c11
          have H1 : (some (⟨#[]⟩ : ByteArray)) = some r := by rw [if_neg (show ¬ (false = true) by decide)] at H; exact H
          clear H
          have H := H1
          clear H1
          obtain rfl := Option.some.inj H
          go_enter Try.func24, Try.ntmps24
          go_wp2_with (first | ((with_reducible refine gate_callee (f := 17) rfl ?_); refine goesL_ (some 11) rfl rfl Try.func17 (by kernel_rfl) rfl #[.string a0] rfl (by (try simp only [List.map_toArray, List.map_cons, List.map_nil]); first | done | rfl | (simp only [List.length_drop, List.length_take]; rfl)) ?_; (with_reducible refine (pilcrowref03_Read.calls k a0 t173 t174 t175 _ A2.out).mono ?_); rintro e w21 ⟨v176, rfl, ho0, hb⟩; refine ⟨_, rfl, ?_⟩; have n0_ := Aside0.mk (Kd.R_lower ho0 (below_size (by repeat (first | (with_reducible first | exact HB.out | apply below_alloc | apply pw_below_drewN | apply below_drew1) | exact HB.out)))); have n1_ := Aside0.mk (below_step (by repeat (first | (with_reducible first | exact HB.out | apply below_alloc | apply pw_below_drewN | apply below_drew1) | exact HB.out)) hb); clear HB; have HO177 := n0_; have HB := n1_; clear n0_ n1_; (try clear hb); (try clear hb2); (try clear hk); (try clear hi); (try clear ho0); obtain ⟨Ao22, co22, eo22⟩ := Kd.R_slice HO177.out; subst eo22) | ((with_reducible refine gate_callee (f := 22) rfl ?_); refine goesL_ (some 16) rfl rfl Try.func22 (by kernel_rfl) rfl #[.slice Ao22 t173.length co22] rfl (by (try simp only [List.map_toArray, List.map_cons, List.map_nil]); first | done | rfl | (simp only [List.length_drop, List.length_take]; rfl)) ?_; (with_reducible refine (pilcrowref03_Bytes.calls k _ _ t173 t178 _ ?side1 ?side2 A3.out).mono ?_); (case side1 => repeat (first | exact (Kd.R_reads' HO177.out).2.2 | (with_reducible refine Kd.C_alloc ?_ _) | (with_reducible refine Kd.C_drewN ?_ _) | (with_reducible refine Kd.C_drew ?_))); (case side2 => exact (Kd.R_reads' HO177.out).2.1); rintro e w23 ⟨rfl, hb⟩; refine ⟨_, rfl, ?_⟩; have n0_ := Aside0.mk (Kd.R_below (by (with_reducible repeat (first | apply Kd.R_alloc | apply Kd.R_drewN | apply Kd.R_drew)); exact HO177.out) hb); have n1_ := Aside0.mk (below_step (by repeat (first | (with_reducible first | exact HB.out | apply below_alloc | apply pw_below_drewN | apply below_drew1) | exact HB.out)) hb); clear HO177; clear HB; have HO177 := n0_; have HB := n1_; clear n0_ n1_; (try clear hb); (try clear hb2); (try clear hk); (try clear hi)) | ((with_reducible refine gate_callee (f := 32) rfl ?_); refine goesL_ (some 26) rfl rfl Try.func32 (by kernel_rfl) rfl #[.string (a0.extract ((t178.size : Int) : Int).toNat a0.size)] rfl (by (try simp only [List.map_toArray, List.map_cons, List.map_nil]); first | done | rfl | (simp only [List.length_drop, List.length_take]; rfl)) ?_; (with_reducible refine (pilcrowref03_Begins.calls k (a0.extract ((t178.size : Int) : Int).toNat a0.size) t179 false _ A10.out).mono ?_); rintro e w24 ⟨rfl, hb⟩; refine ⟨_, rfl, ?_⟩; have n0_ := Aside0.mk (Kd.R_below (by (with_reducible repeat (first | apply Kd.R_alloc | apply Kd.R_drewN | apply Kd.R_drew)); exact HO177.out) hb); have n1_ := Aside0.mk (below_step (by repeat (first | (with_reducible first | exact HB.out | apply below_alloc | apply pw_below_drewN | apply below_drew1) | exact HB.out)) hb); clear HO177; clear HB; have HO177 := n0_; have HB := n1_; clear n0_ n1_; (try clear hb); (try clear hb2); (try clear hk); (try clear hi)))
          go_ret
          exact ⟨by first | rfl | (simp [errW_none, errW_some] <;> rfl) | (simp [*, errW_none, errW_some] <;> rfl), by repeat (first | (with_reducible first | exact HB.out | apply below_alloc | apply pw_below_drewN | apply below_drew1) | exact HB.out)⟩
      · rw [if_neg c9] at H
        exact absurd H (by simp)
    · rw [if_neg c8] at H
      exact absurd H (by simp)
end Go.Proofs.Ytmegkiipeckkaaa.PUni8Extends
