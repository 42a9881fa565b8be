-- PRINTED BY print.sh 35421559b90ae4d0a3588c463048766b98c2df88dd9212a6774a882060cdf62d: not written by this session
import Derived.Test.YtceplnpponepkaaPDiffRangesx0
import Derived.Test.YtceplnpponepkaaPDiffRangesx2
import Derived.Test.YtceplnpponepkaaPDiffRangesx4
namespace Go.Proofs.Ytceplnpponepkaa.PDiffRanges
open Go.RowKit Go.Proofs.YtceplnpponepkaaW.PrintWords Go.Proofs.YtceplnpponepkaaW.PrintLast Go.Proofs.YtceplnpponepkaaW.PrintMore
attribute [local go_sem] max2_int min2_int max_two min_two max_three min_three max_four min_four   -- for this text's walks alone
set_option linter.unusedVariables false
set_option linter.unusedSimpArgs false

/-! ### pilcrowlaw11_DiffRanges: function 4 -/
def pilcrowlaw11_DiffRanges.j0 : Nat → ByteArray → Bool → Option (Bool)
  | 0, _, _ => none
  | k + 1, x0, x16 => if x16 = true then ((pilcrowlaw11_awake.f k).bind fun t167 => (some t167)) else ((diff_Range.f k x0).bind fun bt168 => ((pilcrowref11_Range.f k x0).bind fun bt172 => (if bt168.1 = bt172.1 then (if bt168.2.1 = bt172.2.1 then (if bt168.2.2.1 = bt172.2.2 then (some (bt168.2.2.2 == (decide (bt172.2.2 > 0)))) else (some false)) else (some false)) else (some false))))
def pilcrowlaw11_DiffRanges.f (k : Nat) (a0 : ByteArray) : Option (Bool) := (pilcrowlaw11_awake.f k).bind fun t166 => (if t166 = true then (pilcrowlaw11_DiffRanges.j0 k a0 (decide ((a0.size : Int) > 100))) else (pilcrowlaw11_DiffRanges.j0 k a0 true))
theorem pilcrowlaw11_DiffRanges.mono_l : ∀ k, (∀ y0 y1, LeO (pilcrowlaw11_DiffRanges.j0 k y0 y1) (pilcrowlaw11_DiffRanges.j0 (k + 1) y0 y1))
  | 0 => fun _ _ r h => by simp [pilcrowlaw11_DiffRanges.j0] at h
  | k + 1 => by
    have ih0 := pilcrowlaw11_DiffRanges.mono_l k
    · intro y0 y1
      unfold pilcrowlaw11_DiffRanges.j0
      repeat' first
      | (with_reducible exact ih0 _ _)
      | (with_reducible exact diff_Range.mono _ _)
      | (with_reducible exact pilcrowlaw11_awake.mono _)
      | (with_reducible exact pilcrowref11_Range.mono _ _)
      | (with_reducible exact LeO.refl _)
      | (with_reducible exact LeO.none _)
      | (with_reducible refine LeO.ite ?_ ?_)
      | (with_reducible refine LeO.bind ?_ (fun _ => ?_))
      | exact ih0 _ _
      | exact diff_Range.mono _ _
      | exact pilcrowlaw11_awake.mono _
      | exact pilcrowref11_Range.mono _ _
      | exact LeO.none _
      | refine LeO.ite ?_ ?_
      | refine LeO.bind ?_ (fun _ => ?_)
theorem pilcrowlaw11_DiffRanges.mono : ∀ a0 k, LeO (pilcrowlaw11_DiffRanges.f k a0) (pilcrowlaw11_DiffRanges.f (k + 1) a0) := by
  intro a0 k
  have ih0 := pilcrowlaw11_DiffRanges.mono_l k
  unfold pilcrowlaw11_DiffRanges.f
  repeat' first
      | (with_reducible exact ih0 _ _)
      | (with_reducible exact diff_Range.mono _ _)
      | (with_reducible exact pilcrowlaw11_awake.mono _)
      | (with_reducible exact pilcrowref11_Range.mono _ _)
      | (with_reducible exact LeO.refl _)
      | (with_reducible exact LeO.none _)
      | (with_reducible refine LeO.ite ?_ ?_)
      | (with_reducible refine LeO.bind ?_ (fun _ => ?_))
      | exact ih0 _ _
      | exact diff_Range.mono _ _
      | exact pilcrowlaw11_awake.mono _
      | exact pilcrowref11_Range.mono _ _
      | exact LeO.none _
      | refine LeO.ite ?_ ?_
      | refine LeO.bind ?_ (fun _ => ?_)
set_option maxHeartbeats 8000000 in
set_option maxRecDepth 100000 in
theorem pilcrowlaw11_DiffRanges.calls (k : Nat) (a0 : ByteArray) (r : Bool) (w : World) (h : pilcrowlaw11_DiffRanges.f k a0 = some r) :
    Calls Try.prog 4 #[.string a0] w fun e w' => e = .returned (.bool r) ∧ Below w.heap.size w w' := by
  have HB := Aside0.mk (Below.refl w.heap.size w)
  have H : ((pilcrowlaw11_awake.f k).bind fun t166 => (if t166 = true then (pilcrowlaw11_DiffRanges.j0 k a0 (decide ((a0.size : Int) > 100))) else (pilcrowlaw11_DiffRanges.j0 k a0 true))) = some r := h
  clear h
  have HC2 := Aside0.mk H
  clear H
  go_enter Try.func4, Try.ntmps4
  go_upto_region 1 with (fail)
  go_cut [16] (fun v16 wc => ∃ (kq : Nat) (x16_1 : Bool), v16 = .bool x16_1 ∧ Aside0 (pilcrowlaw11_DiffRanges.j0 kq a0 x16_1 = some r) ∧ Aside0 (kq ≤ k) ∧ Aside0 (Below w.heap.size w wc))
  case first =>
    have H := HC2.out
    clear HC2
    replace H := Option.bind_eq_some_iff.mp H
    obtain ⟨t166, A30, H⟩ := H
    replace H : (if t166 = true then (pilcrowlaw11_DiffRanges.j0 k a0 (decide ((a0.size : Int) > 100))) else (pilcrowlaw11_DiffRanges.j0 k a0 true)) = some r := H
    have A3 := Aside0.mk A30
    clear A30
    by_cases c4 : t166 = true
    · subst c4
      have H1 : (pilcrowlaw11_DiffRanges.j0 k a0 (decide ((a0.size : Int) > 100))) = some r := by rw [if_pos rfl] at H; exact H
      clear H
      have H := H1
      clear H1
      have H' := Aside0.mk H
      clear H
      go_wp2_with (first | ((with_reducible refine gate_callee (f := 10) rfl ?_); refine goesL_ (some 10) rfl rfl Try.func10 (by kernel_rfl) rfl #[] rfl (by (try simp only [List.map_toArray, List.map_cons, List.map_nil]); first | done | rfl | (simp only [List.length_drop, List.length_take]; rfl)) ?_; (with_reducible refine (pilcrowlaw11_awake.calls k  true _ A3.out).mono ?_); rintro e w5 ⟨rfl, hb⟩; refine ⟨_, rfl, ?_⟩; have n0_ := Aside0.mk (below_step (by repeat (first | (with_reducible first | exact HB.out | apply below_alloc | apply pw_below_drewN | apply below_drew1) | exact HB.out)) hb); clear HB; have HB := n0_; clear n0_; (try clear hb); (try clear hb2); (try clear hk); (try clear hi)))
      go_meet
      case rel => exact ⟨_, (decide ((a0.size : Int) > 100)), (by first | rfl | (simp; done) | (simp [*]; done)), H', ⟨by first | omega | exact Nat.le_refl _⟩, ⟨by repeat (first | (with_reducible first | exact HB.out | apply below_alloc | apply pw_below_drewN | apply below_drew1) | exact HB.out)⟩⟩
    · replace c4 := Bool.eq_false_iff.mpr c4
      subst c4
      have H1 : (pilcrowlaw11_DiffRanges.j0 k a0 true) = some r := by rw [if_neg (show ¬ (false = true) by decide)] at H; exact H
      clear H
      have H := H1
      clear H1
      have H' := Aside0.mk H
      clear H
      go_wp2_with (first | ((with_reducible refine gate_callee (f := 10) rfl ?_); refine goesL_ (some 10) rfl rfl Try.func10 (by kernel_rfl) rfl #[] rfl (by (try simp only [List.map_toArray, List.map_cons, List.map_nil]); first | done | rfl | (simp only [List.length_drop, List.length_take]; rfl)) ?_; (with_reducible refine (pilcrowlaw11_awake.calls k  false _ A3.out).mono ?_); rintro e w6 ⟨rfl, hb⟩; refine ⟨_, rfl, ?_⟩; have n0_ := Aside0.mk (below_step (by repeat (first | (with_reducible first | exact HB.out | apply below_alloc | apply pw_below_drewN | apply below_drew1) | exact HB.out)) hb); clear HB; have HB := n0_; clear n0_; (try clear hb); (try clear hb2); (try clear hk); (try clear hi)))
      go_meet
      case rel => exact ⟨_, (true), (by first | rfl | (simp; done) | (simp [*]; done)), H', ⟨by first | omega | exact Nat.le_refl _⟩, ⟨by repeat (first | (with_reducible first | exact HB.out | apply below_alloc | apply pw_below_drewN | apply below_drew1) | exact HB.out)⟩⟩
  case rest =>
    clear HC2
    try clear c1
    try clear p2
    try clear c4
    obtain ⟨kq, x16_1, rfl, HA, HJ1, HB⟩ := hcut
    cases kq with
    | zero => exact absurd HA.out (by simp [pilcrowlaw11_DiffRanges.j0])
    | succ kj1 =>
      have H := HA.out
      clear HA
      simp only [pilcrowlaw11_DiffRanges.j0] at H
      by_cases c7 : x16_1 = true
      · subst c7
        have H1 : ((pilcrowlaw11_awake.f kj1).bind fun t167 => (some t167)) = some r := by rw [if_pos rfl] at H; exact H
        clear H
        have H := H1
        clear H1
        replace H := Option.bind_eq_some_iff.mp H
        obtain ⟨t167, A80, H⟩ := H
        replace H : (some t167) = some r := H
        have A8 := Aside0.mk A80
        clear A80
        obtain rfl := Option.some.inj H
        go_wp2_with (first | ((with_reducible refine gate_callee (f := 10) rfl ?_); refine goesL_ (some 17) rfl rfl Try.func10 (by kernel_rfl) rfl #[] rfl (by (try simp only [List.map_toArray, List.map_cons, List.map_nil]); first | done | rfl | (simp only [List.length_drop, List.length_take]; rfl)) ?_; (with_reducible refine (pilcrowlaw11_awake.calls kj1  t167 _ A8.out).mono ?_); rintro e w9 ⟨rfl, hb⟩; refine ⟨_, rfl, ?_⟩; have n0_ := Aside0.mk (below_step (by repeat (first | (with_reducible first | exact HB.out | apply below_alloc | apply pw_below_drewN | apply below_drew1) | exact HB.out)) hb); clear HB; have HB := n0_; clear n0_; (try clear hb); (try clear hb2); (try clear hk); (try clear hi)))
        go_ret
        exact ⟨by first | rfl | (simp [errW_none, errW_some] <;> rfl) | (simp [*, errW_none, errW_some] <;> rfl), by repeat (first | (with_reducible first | exact HB.out | apply below_alloc | apply pw_below_drewN | apply below_drew1) | exact HB.out)⟩
      · replace c7 := Bool.eq_false_iff.mpr c7
        subst c7
        have H1 : ((diff_Range.f kj1 a0).bind fun bt168 => ((pilcrowref11_Range.f kj1 a0).bind fun bt172 => (if bt168.1 = bt172.1 then (if bt168.2.1 = bt172.2.1 then (if bt168.2.2.1 = bt172.2.2 then (some (bt168.2.2.2 == (decide (bt172.2.2 > 0)))) else (some false)) else (some false)) else (some false)))) = some r := by rw [if_neg (show ¬ (false = true) by decide)] at H; exact H
        clear H
        have H := H1
        clear H1
        replace H := Option.bind_eq_some_iff.mp H
        obtain ⟨⟨t168, t169, t170, t171⟩, A100, H⟩ := H
        replace H : ((pilcrowref11_Range.f kj1 a0).bind fun bt172 => (if t168 = bt172.1 then (if t169 = bt172.2.1 then (if t170 = bt172.2.2 then (some (t171 == (decide (bt172.2.2 > 0)))) else (some false)) else (some false)) else (some false))) = some r := H
        have A10 := Aside0.mk A100
        clear A100
        replace H := Option.bind_eq_some_iff.mp H
        obtain ⟨⟨t172, t173, t174⟩, A110, H⟩ := H
        replace H : (if t168 = t172 then (if t169 = t173 then (if t170 = t174 then (some (t171 == (decide (t174 > 0)))) else (some false)) else (some false)) else (some false)) = some r := H
        have A11 := Aside0.mk A110
        clear A110
        by_cases c12 : t168 = t172
        · rw [if_pos c12] at H
          have c12b0 : (t168 == t172) = true := beq_iff_eq.mpr c12
          have c12b1 : (t168 != t172) = false := bne_eq_false_iff_eq.mpr c12
          clear c12
          by_cases c13 : t169 = t173
          · rw [if_pos c13] at H
            have c13b0 : (t169 == t173) = true := beq_iff_eq.mpr c13
            have c13b1 : (t169 != t173) = false := bne_eq_false_iff_eq.mpr c13
            clear c13
            by_cases c14 : t170 = t174
            · rw [if_pos c14] at H
              have c14b0 : (t170 == t174) = true := beq_iff_eq.mpr c14
              have c14b1 : (t170 != t174) = false := bne_eq_false_iff_eq.mpr c14
              clear c14
              obtain rfl := Option.some.inj H
              go_wp2_with (first | ((with_reducible refine gate_callee (f := 12) rfl ?_); refine goesL_ (some 20) rfl rfl Try.func12 (by kernel_rfl) rfl #[.string a0] rfl (by (try simp only [List.map_toArray, List.map_cons, List.map_nil]); first | done | rfl | (simp only [List.length_drop, List.length_take]; rfl)) ?_; (with_reducible refine (diff_Range.calls kj1 a0 t168 t169 t170 t171 _ A10.out).mono ?_); rintro e w' ⟨rfl, ⟨nd, rfl⟩⟩; refine ⟨_, rfl, ?_⟩) | ((with_reducible refine gate_callee (f := 13) rfl ?_); refine goesL_ (some 27) rfl rfl Try.func13 (by kernel_rfl) rfl #[.string a0] rfl (by (try simp only [List.map_toArray, List.map_cons, List.map_nil]); first | done | rfl | (simp only [List.length_drop, List.length_take]; rfl)) ?_; (with_reducible refine (pilcrowref11_Range.calls kj1 a0 t172 t173 t174 _ A11.out).mono ?_); rintro e w15 ⟨rfl, hb⟩; refine ⟨_, rfl, ?_⟩; have n0_ := Aside0.mk (below_step (by repeat (first | (with_reducible first | exact HB.out | apply below_alloc | apply pw_below_drewN | apply below_drew1) | exact HB.out)) hb); clear HB; have HB := n0_; clear n0_; (try clear hb); (try clear hb2); (try clear hk); (try clear hi)))
              go_ret
              exact ⟨by first | rfl | (simp [errW_none, errW_some] <;> rfl) | (simp [*, errW_none, errW_some] <;> rfl), by repeat (first | (with_reducible first | exact HB.out | apply below_alloc | apply pw_below_drewN | apply below_drew1) | exact HB.out)⟩
            · rw [if_neg c14] at H
              have c14b0 : (t170 == t174) = false := beq_eq_false_iff_ne.mpr c14
              have c14b1 : (t170 != t174) = true := bne_iff_ne.mpr c14
              obtain rfl := Option.some.inj H
              go_wp2_with (first | ((with_reducible refine gate_callee (f := 12) rfl ?_); refine goesL_ (some 20) rfl rfl Try.func12 (by kernel_rfl) rfl #[.string a0] rfl (by (try simp only [List.map_toArray, List.map_cons, List.map_nil]); first | done | rfl | (simp only [List.length_drop, List.length_take]; rfl)) ?_; (with_reducible refine (diff_Range.calls kj1 a0 t168 t169 t170 t171 _ A10.out).mono ?_); rintro e w' ⟨rfl, ⟨nd, rfl⟩⟩; refine ⟨_, rfl, ?_⟩) | ((with_reducible refine gate_callee (f := 13) rfl ?_); refine goesL_ (some 27) rfl rfl Try.func13 (by kernel_rfl) rfl #[.string a0] rfl (by (try simp only [List.map_toArray, List.map_cons, List.map_nil]); first | done | rfl | (simp only [List.length_drop, List.length_take]; rfl)) ?_; (with_reducible refine (pilcrowref11_Range.calls kj1 a0 t172 t173 t174 _ A11.out).mono ?_); rintro e w16 ⟨rfl, hb⟩; refine ⟨_, rfl, ?_⟩; have n0_ := Aside0.mk (below_step (by repeat (first | (with_reducible first | exact HB.out | apply below_alloc | apply pw_below_drewN | apply below_drew1) | exact HB.out)) hb); clear HB; have HB := n0_; clear n0_; (try clear hb); (try clear hb2); (try clear hk); (try clear hi)))
              go_ret
              exact ⟨by first | rfl | (simp [errW_none, errW_some] <;> rfl) | (simp [*, errW_none, errW_some] <;> rfl), by repeat (first | (with_reducible first | exact HB.out | apply below_alloc | apply pw_below_drewN | apply below_drew1) | exact HB.out)⟩
          · rw [if_neg c13] at H
            have c13b0 : (t169 == t173) = false := beq_eq_false_iff_ne.mpr c13
            have c13b1 : (t169 != t173) = true := bne_iff_ne.mpr c13
            obtain rfl := Option.some.inj H
            go_wp2_with (first | ((with_reducible refine gate_callee (f := 12) rfl ?_); refine goesL_ (some 20) rfl rfl Try.func12 (by kernel_rfl) rfl #[.string a0] rfl (by (try simp only [List.map_toArray, List.map_cons, List.map_nil]); first | done | rfl | (simp only [List.length_drop, List.length_take]; rfl)) ?_; (with_reducible refine (diff_Range.calls kj1 a0 t168 t169 t170 t171 _ A10.out).mono ?_); rintro e w' ⟨rfl, ⟨nd, rfl⟩⟩; refine ⟨_, rfl, ?_⟩) | ((with_reducible refine gate_callee (f := 13) rfl ?_); refine goesL_ (some 27) rfl rfl Try.func13 (by kernel_rfl) rfl #[.string a0] rfl (by (try simp only [List.map_toArray, List.map_cons, List.map_nil]); first | done | rfl | (simp only [List.length_drop, List.length_take]; rfl)) ?_; (with_reducible refine (pilcrowref11_Range.calls kj1 a0 t172 t173 t174 _ A11.out).mono ?_); rintro e w17 ⟨rfl, hb⟩; refine ⟨_, rfl, ?_⟩; have n0_ := Aside0.mk (below_step (by repeat (first | (with_reducible first | exact HB.out | apply below_alloc | apply pw_below_drewN | apply below_drew1) | exact HB.out)) hb); clear HB; have HB := n0_; clear n0_; (try clear hb); (try clear hb2); (try clear hk); (try clear hi)))
            go_ret
            exact ⟨by first | rfl | (simp [errW_none, errW_some] <;> rfl) | (simp [*, errW_none, errW_some] <;> rfl), by repeat (first | (with_reducible first | exact HB.out | apply below_alloc | apply pw_below_drewN | apply below_drew1) | exact HB.out)⟩
        · rw [if_neg c12] at H
          have c12b0 : (t168 == t172) = false := beq_eq_false_iff_ne.mpr c12
          have c12b1 : (t168 != t172) = true := bne_iff_ne.mpr c12
          obtain rfl := Option.some.inj H
          go_wp2_with (first | ((with_reducible refine gate_callee (f := 12) rfl ?_); refine goesL_ (some 20) rfl rfl Try.func12 (by kernel_rfl) rfl #[.string a0] rfl (by (try simp only [List.map_toArray, List.map_cons, List.map_nil]); first | done | rfl | (simp only [List.length_drop, List.length_take]; rfl)) ?_; (with_reducible refine (diff_Range.calls kj1 a0 t168 t169 t170 t171 _ A10.out).mono ?_); rintro e w' ⟨rfl, ⟨nd, rfl⟩⟩; refine ⟨_, rfl, ?_⟩) | ((with_reducible refine gate_callee (f := 13) rfl ?_); refine goesL_ (some 27) rfl rfl Try.func13 (by kernel_rfl) rfl #[.string a0] rfl (by (try simp only [List.map_toArray, List.map_cons, List.map_nil]); first | done | rfl | (simp only [List.length_drop, List.length_take]; rfl)) ?_; (with_reducible refine (pilcrowref11_Range.calls kj1 a0 t172 t173 t174 _ A11.out).mono ?_); rintro e w18 ⟨rfl, hb⟩; refine ⟨_, rfl, ?_⟩; have n0_ := Aside0.mk (below_step (by repeat (first | (with_reducible first | exact HB.out | apply below_alloc | apply pw_below_drewN | apply below_drew1) | exact HB.out)) hb); clear HB; have HB := n0_; clear n0_; (try clear hb); (try clear hb2); (try clear hk); (try clear hi)))
          go_ret
          exact ⟨by first | rfl | (simp [errW_none, errW_some] <;> rfl) | (simp [*, errW_none, errW_some] <;> rfl), by repeat (first | (with_reducible first | exact HB.out | apply below_alloc | apply pw_below_drewN | apply below_drew1) | exact HB.out)⟩

/-- THE ONE PURE STATEMENT of pilcrowlaw11_DiffRanges: yours. -/
def pilcrowlaw11_DiffRanges.Pure : Prop := ∀ (a0 : ByteArray), a0.size ≤ 140737488351232 → ∃ k, pilcrowlaw11_DiffRanges.f k a0 = some true
theorem pilcrowlaw11_DiffRanges.walk (P : pilcrowlaw11_DiffRanges.Pure) (a0 : ByteArray) (w : World) (w0 : a0.size ≤ 140737488351232) :
    Calls Try.prog 4 #[.string a0] w fun e w' => e = .returned (.bool true) ∧ Below w.heap.size w w' := by
  obtain ⟨k, h⟩ := P a0 w0
  refine (pilcrowlaw11_DiffRanges.calls k a0 true w h).mono ?_
  rintro e w' ⟨rfl, hd⟩
  exact ⟨rfl, hd⟩

end Go.Proofs.Ytceplnpponepkaa.PDiffRanges
