/- The functions of DiffPrev, turned from a print whose proof of Prev fell. -/
import Derived.Test.YtceplnpponepkaaPDiffPrevx0
import Derived.Test.YtceplnpponepkaaPDiffPrevx2
namespace Go.Proofs.Ytceplnpponepkaa.PDiffPrev
open Go.RowKit Go.Proofs.YtceplnpponepkaaW.PrintWords Go.Proofs.YtceplnpponepkaaW.PrintLast Go.Proofs.YtceplnpponepkaaW.PrintMore
attribute [local go_sem] max2_int min2_int max_two min_two max_three min_three max_four min_four   -- for this text's walks alone
set_option linter.unusedVariables false
set_option linter.unusedSimpArgs false

/-! ### pilcrowref11_Prev: function 19 -/
mutual
def pilcrowref11_Prev.j0 : Nat → Int → Bool → Option (Int)
  | 0, _, _ => none
  | k + 1, x0, x8 => if x8 = true then (some 12400) else (if x0 ≥ 19968 then (pilcrowref11_Prev.j1 k x0 (decide (x0 ≤ 40869))) else (pilcrowref11_Prev.j1 k x0 false))
def pilcrowref11_Prev.j1 : Nat → Int → Bool → Option (Int)
  | 0, _, _ => none
  | k + 1, x0, x14 => if x14 = true then (some 30481) else (if x0 ≥ 44032 then (if x0 ≤ 55203 then (some 49617) else (some ((((((Int.tdiv x0 128) % 4294967296) * 128) % 4294967296) + 64) % 4294967296))) else (some ((((((Int.tdiv x0 128) % 4294967296) * 128) % 4294967296) + 64) % 4294967296)))
end
def pilcrowref11_Prev.f (k : Nat) (a0 : Int) : Option (Int) := if a0 ≥ 12352 then (pilcrowref11_Prev.j0 k a0 (decide (a0 ≤ 12447))) else (pilcrowref11_Prev.j0 k a0 false)
theorem pilcrowref11_Prev.mono_l : ∀ k, (∀ y0 y1, LeO (pilcrowref11_Prev.j0 k y0 y1) (pilcrowref11_Prev.j0 (k + 1) y0 y1)) ∧ (∀ y0 y1, LeO (pilcrowref11_Prev.j1 k y0 y1) (pilcrowref11_Prev.j1 (k + 1) y0 y1))
  | 0 => ⟨fun _ _ r h => by simp [pilcrowref11_Prev.j0] at h, fun _ _ r h => by simp [pilcrowref11_Prev.j1] at h⟩
  | k + 1 => by
    obtain ⟨ih0, ih1⟩ := pilcrowref11_Prev.mono_l k
    refine ⟨?_, ?_⟩
    · intro y0 y1
      unfold pilcrowref11_Prev.j0
      repeat' first
      | (with_reducible exact ih0 _ _)
      | (with_reducible exact ih1 _ _)
      | (with_reducible exact LeO.refl _)
      | (with_reducible exact LeO.none _)
      | (with_reducible refine LeO.ite ?_ ?_)
      | (with_reducible refine LeO.bind ?_ (fun _ => ?_))
      | exact ih0 _ _
      | exact ih1 _ _
      | exact LeO.none _
      | refine LeO.ite ?_ ?_
      | refine LeO.bind ?_ (fun _ => ?_)
    · intro y0 y1
      unfold pilcrowref11_Prev.j1
      repeat' first
      | (with_reducible exact ih0 _ _)
      | (with_reducible exact ih1 _ _)
      | (with_reducible exact LeO.refl _)
      | (with_reducible exact LeO.none _)
      | (with_reducible refine LeO.ite ?_ ?_)
      | (with_reducible refine LeO.bind ?_ (fun _ => ?_))
      | exact ih0 _ _
      | exact ih1 _ _
      | exact LeO.none _
      | refine LeO.ite ?_ ?_
      | refine LeO.bind ?_ (fun _ => ?_)
theorem pilcrowref11_Prev.mono : ∀ a0 k, LeO (pilcrowref11_Prev.f k a0) (pilcrowref11_Prev.f (k + 1) a0) := by
  intro a0 k
  obtain ⟨ih0, ih1⟩ := pilcrowref11_Prev.mono_l k
  unfold pilcrowref11_Prev.f
  repeat' first
      | (with_reducible exact ih0 _ _)
      | (with_reducible exact ih1 _ _)
      | (with_reducible exact LeO.refl _)
      | (with_reducible exact LeO.none _)
      | (with_reducible refine LeO.ite ?_ ?_)
      | (with_reducible refine LeO.bind ?_ (fun _ => ?_))
      | exact ih0 _ _
      | exact ih1 _ _
      | exact LeO.none _
      | refine LeO.ite ?_ ?_
      | refine LeO.bind ?_ (fun _ => ?_)
set_option maxHeartbeats 8000000 in
set_option maxRecDepth 100000 in
theorem pilcrowref11_Prev.calls (k : Nat) (a0 : Int) (r : Int) (w : World) (h : pilcrowref11_Prev.f k a0 = some r) :
    Calls Try.prog 19 #[.int .u32 a0] w fun e w' => e = .returned (.int .u32 r) ∧ Drawn0 w w' := by
  have H : (if a0 ≥ 12352 then (pilcrowref11_Prev.j0 k a0 (decide (a0 ≤ 12447))) else (pilcrowref11_Prev.j0 k a0 false)) = some r := h
  clear h
  have HC2 := Aside0.mk H
  clear H
  go_enter Try.func19, Try.ntmps19
  go_upto_region 1 with (fail)
  go_cut [8] (fun v8 wc => ∃ (kq : Nat) (x8_1 : Bool), v8 = .bool x8_1 ∧ Aside0 (pilcrowref11_Prev.j0 kq a0 x8_1 = some r) ∧ Aside0 (kq ≤ k) ∧ Drawn0 w wc)
  case first =>
    have H := HC2.out
    clear HC2
    by_cases c3 : a0 ≥ 12352
    · rw [if_pos c3] at H
      have c3b0 : decide (12352 ≤ a0) = true := decide_eq_true c3
      clear c3
      (first | rw [c3b0] | (simp only [i64_w, i32_w]; rw [c3b0]) | skip)
      have H' := Aside0.mk H
      clear H
      go_wp2
      go_meet
      case rel => exact ⟨_, (decide (a0 ≤ 12447)), (by first | rfl | (simp; done) | (simp [*]; done)), H', ⟨by first | omega | exact Nat.le_refl _⟩, by repeat (first | exact Drawn0.refl _ | apply Drawn0.step)⟩
    · rw [if_neg c3] at H
      have c3b0 : decide (12352 ≤ a0) = false := decide_eq_false c3
      clear c3
      (first | rw [c3b0] | (simp only [i64_w, i32_w]; rw [c3b0]) | skip)
      have H' := Aside0.mk H
      clear H
      go_wp2
      go_meet
      case rel => exact ⟨_, (false), (by first | rfl | (simp; done) | (simp [*]; done)), H', ⟨by first | omega | exact Nat.le_refl _⟩, by repeat (first | exact Drawn0.refl _ | apply Drawn0.step)⟩
  case rest =>
    clear HC2
    try clear c1
    try clear p2
    try clear c3
    try clear c3b0
    obtain ⟨kq, x8_1, rfl, HA, HJ1, ⟨mc1, rfl⟩⟩ := hcut
    cases kq with
    | zero => exact absurd HA.out (by simp [pilcrowref11_Prev.j0])
    | succ kj1 =>
      have H := HA.out
      clear HA
      simp only [pilcrowref11_Prev.j0] at H
      by_cases c4 : x8_1 = true
      · subst c4
        have H1 : (some 12400) = some r := by rw [if_pos rfl] at H; exact H
        clear H
        have H := H1
        clear H1
        obtain rfl := Option.some.inj H
        go_wp2
        go_ret
        exact ⟨by first | rfl | (simp; done) | (simp [*]; done) | (simp; generalize Int.tdiv _ 128 = y; omega) | (simp; omega), by repeat (first | exact Drawn0.refl _ | apply Drawn0.step)⟩
      · replace c4 := Bool.eq_false_iff.mpr c4
        subst c4
        have H1 : (if a0 ≥ 19968 then (pilcrowref11_Prev.j1 kj1 a0 (decide (a0 ≤ 40869))) else (pilcrowref11_Prev.j1 kj1 a0 false)) = some r := by rw [if_neg (show ¬ (false = true) by decide)] at H; exact H
        clear H
        have H := H1
        clear H1
        have HC5 := Aside0.mk H
        clear H
        go_upto_region 3 with (fail)
        go_cut [14] (fun v14 wc => ∃ (kq : Nat) (x14_4 : Bool), v14 = .bool x14_4 ∧ Aside0 (pilcrowref11_Prev.j1 kq a0 x14_4 = some r) ∧ Aside0 (kq ≤ kj1) ∧ Drawn0 w wc)
        case first =>
          have H := HC5.out
          clear HC5
          by_cases c6 : a0 ≥ 19968
          · rw [if_pos c6] at H
            have c6b0 : decide (19968 ≤ a0) = true := decide_eq_true c6
            clear c6
            (first | rw [c6b0] | (simp only [i64_w, i32_w]; rw [c6b0]) | skip)
            have H' := Aside0.mk H
            clear H
            go_wp2
            go_meet
            case rel => exact ⟨_, (decide (a0 ≤ 40869)), (by first | rfl | (simp; done) | (simp [*]; done)), H', ⟨by have := HJ1.out; first | omega | exact Nat.le_refl _⟩, by repeat (first | exact Drawn0.refl _ | apply Drawn0.step)⟩
          · rw [if_neg c6] at H
            have c6b0 : decide (19968 ≤ a0) = false := decide_eq_false c6
            clear c6
            (first | rw [c6b0] | (simp only [i64_w, i32_w]; rw [c6b0]) | skip)
            have H' := Aside0.mk H
            clear H
            go_wp2
            go_meet
            case rel => exact ⟨_, (false), (by first | rfl | (simp; done) | (simp [*]; done)), H', ⟨by have := HJ1.out; first | omega | exact Nat.le_refl _⟩, by repeat (first | exact Drawn0.refl _ | apply Drawn0.step)⟩
        case rest =>
          clear HC5
          try clear c1
          try clear p2
          try clear c3
          try clear c3b0
          try clear c4
          try clear c6
          try clear c6b0
          try clear p2
          obtain ⟨kq, x14_4, rfl, HA, HJ4, ⟨mc4, rfl⟩⟩ := hcut
          cases kq with
          | zero => exact absurd HA.out (by simp [pilcrowref11_Prev.j1])
          | succ kj4 =>
            have H := HA.out
            clear HA
            simp only [pilcrowref11_Prev.j1] at H
            by_cases c7 : x14_4 = true
            · subst c7
              have H1 : (some 30481) = some r := by rw [if_pos rfl] at H; exact H
              clear H
              have H := H1
              clear H1
              obtain rfl := Option.some.inj H
              go_wp2
              go_ret
              exact ⟨by first | rfl | (simp; done) | (simp [*]; done) | (simp; generalize Int.tdiv _ 128 = y; omega) | (simp; omega), by repeat (first | exact Drawn0.refl _ | apply Drawn0.step)⟩
            · replace c7 := Bool.eq_false_iff.mpr c7
              subst c7
              have H1 : (if a0 ≥ 44032 then (if a0 ≤ 55203 then (some 49617) else (some ((((((Int.tdiv a0 128) % 4294967296) * 128) % 4294967296) + 64) % 4294967296))) else (some ((((((Int.tdiv a0 128) % 4294967296) * 128) % 4294967296) + 64) % 4294967296))) = some r := by rw [if_neg (show ¬ (false = true) by decide)] at H; exact H
              clear H
              have H := H1
              clear H1
              by_cases c8 : a0 ≥ 44032
              · rw [if_pos c8] at H
                have c8b0 : decide (44032 ≤ a0) = true := decide_eq_true c8
                clear c8
                by_cases c9 : a0 ≤ 55203
                · rw [if_pos c9] at H
                  have c9b0 : decide (a0 ≤ 55203) = true := decide_eq_true c9
                  clear c9
                  obtain rfl := Option.some.inj H
                  go_wp2
                  go_ret
                  exact ⟨by first | rfl | (simp; done) | (simp [*]; done) | (simp; generalize Int.tdiv _ 128 = y; omega) | (simp; omega), by repeat (first | exact Drawn0.refl _ | apply Drawn0.step)⟩
                · rw [if_neg c9] at H
                  have c9b0 : decide (a0 ≤ 55203) = false := decide_eq_false c9
                  clear c9
                  obtain rfl := Option.some.inj H
                  go_wp2
                  go_ret
                  exact ⟨by first | rfl | (simp; done) | (simp [*]; done) | (simp; generalize Int.tdiv _ 128 = y; omega) | (simp; omega), by repeat (first | exact Drawn0.refl _ | apply Drawn0.step)⟩
              · rw [if_neg c8] at H
                have c8b0 : decide (44032 ≤ a0) = false := decide_eq_false c8
                clear c8
                obtain rfl := Option.some.inj H
                go_wp2
                go_ret
                exact ⟨by first | rfl | (simp; done) | (simp [*]; done) | (simp; generalize Int.tdiv _ 128 = y; omega) | (simp; omega), by repeat (first | exact Drawn0.refl _ | apply Drawn0.step)⟩

/-! ### pilcrowlaw11_DiffPrev: function 6 -/
def pilcrowlaw11_DiffPrev.f (k : Nat) (a0 : Int) : Option (Bool) := (diff_Prev.f k a0).bind fun t132 => ((pilcrowlaw11_awake.f k).bind fun t133 => (if t133 = true then ((pilcrowref11_Prev.f k a0).bind fun t134 => (if t132 = t134 then (if a0 > 1114111 then (some true) else (if (wrap64 ((wrap64 (t132)) - (wrap64 (a0)))) ≤ 187660 then (some (decide ((wrap64 ((wrap64 (a0)) - (wrap64 (t132)))) ≤ 187660))) else (some false))) else (some false))) else (some false)))
theorem pilcrowlaw11_DiffPrev.mono : ∀ a0 k, LeO (pilcrowlaw11_DiffPrev.f k a0) (pilcrowlaw11_DiffPrev.f (k + 1) a0) := by
  intro a0 k
  unfold pilcrowlaw11_DiffPrev.f
  repeat' first
      | (with_reducible exact diff_Prev.mono _ _)
      | (with_reducible exact pilcrowlaw11_awake.mono _)
      | (with_reducible exact pilcrowref11_Prev.mono _ _)
      | (with_reducible exact LeO.refl _)
      | (with_reducible exact LeO.none _)
      | (with_reducible refine LeO.ite ?_ ?_)
      | (with_reducible refine LeO.bind ?_ (fun _ => ?_))
      | exact diff_Prev.mono _ _
      | exact pilcrowlaw11_awake.mono _
      | exact pilcrowref11_Prev.mono _ _
      | exact LeO.none _
      | refine LeO.ite ?_ ?_
      | refine LeO.bind ?_ (fun _ => ?_)
set_option maxHeartbeats 8000000 in
set_option maxRecDepth 100000 in
theorem pilcrowlaw11_DiffPrev.calls (k : Nat) (a0 : Int) (r : Bool) (w : World) (h : pilcrowlaw11_DiffPrev.f k a0 = some r) :
    Calls Try.prog 6 #[.int .u32 a0] w fun e w' => e = .returned (.bool r) ∧ Below w.heap.size w w' := by
  have HB := Aside0.mk (Below.refl w.heap.size w)
  have H : ((diff_Prev.f k a0).bind fun t132 => ((pilcrowlaw11_awake.f k).bind fun t133 => (if t133 = true then ((pilcrowref11_Prev.f k a0).bind fun t134 => (if t132 = t134 then (if a0 > 1114111 then (some true) else (if (wrap64 ((wrap64 (t132)) - (wrap64 (a0)))) ≤ 187660 then (some (decide ((wrap64 ((wrap64 (a0)) - (wrap64 (t132)))) ≤ 187660))) else (some false))) else (some false))) else (some false)))) = some r := h
  clear h
  replace H := Option.bind_eq_some_iff.mp H
  obtain ⟨t132, A20, H⟩ := H
  replace H : ((pilcrowlaw11_awake.f k).bind fun t133 => (if t133 = true then ((pilcrowref11_Prev.f k a0).bind fun t134 => (if t132 = t134 then (if a0 > 1114111 then (some true) else (if (wrap64 ((wrap64 (t132)) - (wrap64 (a0)))) ≤ 187660 then (some (decide ((wrap64 ((wrap64 (a0)) - (wrap64 (t132)))) ≤ 187660))) else (some false))) else (some false))) else (some false))) = some r := H
  have A2 := Aside0.mk A20
  clear A20
  replace H := Option.bind_eq_some_iff.mp H
  obtain ⟨t133, A30, H⟩ := H
  replace H : (if t133 = true then ((pilcrowref11_Prev.f k a0).bind fun t134 => (if t132 = t134 then (if a0 > 1114111 then (some true) else (if (wrap64 ((wrap64 (t132)) - (wrap64 (a0)))) ≤ 187660 then (some (decide ((wrap64 ((wrap64 (a0)) - (wrap64 (t132)))) ≤ 187660))) else (some false))) else (some false))) else (some false)) = some r := H
  have A3 := Aside0.mk A30
  clear A30
  by_cases c4 : t133 = true
  · subst c4
    have H1 : ((pilcrowref11_Prev.f k a0).bind fun t134 => (if t132 = t134 then (if a0 > 1114111 then (some true) else (if (wrap64 ((wrap64 (t132)) - (wrap64 (a0)))) ≤ 187660 then (some (decide ((wrap64 ((wrap64 (a0)) - (wrap64 (t132)))) ≤ 187660))) else (some false))) else (some false))) = some r := by rw [if_pos rfl] at H; exact H
    clear H
    have H := H1
    clear H1
    replace H := Option.bind_eq_some_iff.mp H
    obtain ⟨t134, A50, H⟩ := H
    replace H : (if t132 = t134 then (if a0 > 1114111 then (some true) else (if (wrap64 ((wrap64 (t132)) - (wrap64 (a0)))) ≤ 187660 then (some (decide ((wrap64 ((wrap64 (a0)) - (wrap64 (t132)))) ≤ 187660))) else (some false))) else (some false)) = some r := H
    have A5 := Aside0.mk A50
    clear A50
    by_cases c6 : t132 = t134
    · rw [if_pos c6] at H
      have c6b0 : (t132 == t134) = true := beq_iff_eq.mpr c6
      have c6b1 : (t132 != t134) = false := bne_eq_false_iff_eq.mpr c6
      clear c6
      by_cases c7 : a0 > 1114111
      · rw [if_pos c7] at H
        have c7b0 : decide (1114111 < a0) = true := decide_eq_true c7
        clear c7
        obtain rfl := Option.some.inj H
        go_enter Try.func6, Try.ntmps6
        go_wp2_with (first | ((with_reducible refine gate_callee (f := 18) rfl ?_); refine goesL_ (some 5) rfl rfl Try.func18 (by kernel_rfl) rfl #[.int .u32 a0] rfl (by (try simp only [List.map_toArray, List.map_cons, List.map_nil]); first | done | rfl | (simp only [List.length_drop, List.length_take]; rfl)) ?_; (with_reducible refine (diff_Prev.calls k a0 t132 _ A2.out).mono ?_); rintro e w' ⟨rfl, ⟨nd, rfl⟩⟩; refine ⟨_, rfl, ?_⟩) | ((with_reducible refine gate_callee (f := 10) rfl ?_); refine goesL_ (some 6) rfl rfl Try.func10 (by kernel_rfl) rfl #[] rfl (by (try simp only [List.map_toArray, List.map_cons, List.map_nil]); first | done | rfl | (simp only [List.length_drop, List.length_take]; rfl)) ?_; (with_reducible refine (pilcrowlaw11_awake.calls k  true _ A3.out).mono ?_); rintro e w8 ⟨rfl, hb⟩; refine ⟨_, rfl, ?_⟩; have n0_ := Aside0.mk (below_step (by repeat (first | (with_reducible first | exact HB.out | apply below_alloc | apply pw_below_drewN | apply below_drew1) | exact HB.out)) hb); clear HB; have HB := n0_; clear n0_; (try clear hb); (try clear hb2); (try clear hk); (try clear hi)) | (go_at_call 19; (with_reducible refine (pilcrowref11_Prev.calls k a0 t134 _ A5.out).mono ?_); rintro e w' ⟨rfl, ⟨nd, rfl⟩⟩))
        go_ret
        exact ⟨by first | rfl | (simp [errW_none, errW_some] <;> rfl) | (simp [*, errW_none, errW_some] <;> rfl), by repeat (first | (with_reducible first | exact HB.out | apply below_alloc | apply pw_below_drewN | apply below_drew1) | exact HB.out)⟩
      · rw [if_neg c7] at H
        have c7b0 : decide (1114111 < a0) = false := decide_eq_false c7
        clear c7
        by_cases c9 : (wrap64 ((wrap64 (t132)) - (wrap64 (a0)))) ≤ 187660
        · rw [if_pos c9] at H
          have c9b0 : decide ((wrap64 ((wrap64 (t132)) - (wrap64 (a0)))) ≤ 187660) = true := decide_eq_true c9
          clear c9
          obtain rfl := Option.some.inj H
          go_enter Try.func6, Try.ntmps6
          go_wp2_with (first | ((with_reducible refine gate_callee (f := 18) rfl ?_); refine goesL_ (some 5) rfl rfl Try.func18 (by kernel_rfl) rfl #[.int .u32 a0] rfl (by (try simp only [List.map_toArray, List.map_cons, List.map_nil]); first | done | rfl | (simp only [List.length_drop, List.length_take]; rfl)) ?_; (with_reducible refine (diff_Prev.calls k a0 t132 _ A2.out).mono ?_); rintro e w' ⟨rfl, ⟨nd, rfl⟩⟩; refine ⟨_, rfl, ?_⟩) | ((with_reducible refine gate_callee (f := 10) rfl ?_); refine goesL_ (some 6) rfl rfl Try.func10 (by kernel_rfl) rfl #[] rfl (by (try simp only [List.map_toArray, List.map_cons, List.map_nil]); first | done | rfl | (simp only [List.length_drop, List.length_take]; rfl)) ?_; (with_reducible refine (pilcrowlaw11_awake.calls k  true _ A3.out).mono ?_); rintro e w10 ⟨rfl, hb⟩; refine ⟨_, rfl, ?_⟩; have n0_ := Aside0.mk (below_step (by repeat (first | (with_reducible first | exact HB.out | apply below_alloc | apply pw_below_drewN | apply below_drew1) | exact HB.out)) hb); clear HB; have HB := n0_; clear n0_; (try clear hb); (try clear hb2); (try clear hk); (try clear hi)) | (go_at_call 19; (with_reducible refine (pilcrowref11_Prev.calls k a0 t134 _ A5.out).mono ?_); rintro e w' ⟨rfl, ⟨nd, rfl⟩⟩))
          go_ret
          exact ⟨by first | rfl | (simp [errW_none, errW_some] <;> rfl) | (simp [*, errW_none, errW_some] <;> rfl), by repeat (first | (with_reducible first | exact HB.out | apply below_alloc | apply pw_below_drewN | apply below_drew1) | exact HB.out)⟩
        · rw [if_neg c9] at H
          have c9b0 : decide ((wrap64 ((wrap64 (t132)) - (wrap64 (a0)))) ≤ 187660) = false := decide_eq_false c9
          clear c9
          obtain rfl := Option.some.inj H
          go_enter Try.func6, Try.ntmps6
          go_wp2_with (first | ((with_reducible refine gate_callee (f := 18) rfl ?_); refine goesL_ (some 5) rfl rfl Try.func18 (by kernel_rfl) rfl #[.int .u32 a0] rfl (by (try simp only [List.map_toArray, List.map_cons, List.map_nil]); first | done | rfl | (simp only [List.length_drop, List.length_take]; rfl)) ?_; (with_reducible refine (diff_Prev.calls k a0 t132 _ A2.out).mono ?_); rintro e w' ⟨rfl, ⟨nd, rfl⟩⟩; refine ⟨_, rfl, ?_⟩) | ((with_reducible refine gate_callee (f := 10) rfl ?_); refine goesL_ (some 6) rfl rfl Try.func10 (by kernel_rfl) rfl #[] rfl (by (try simp only [List.map_toArray, List.map_cons, List.map_nil]); first | done | rfl | (simp only [List.length_drop, List.length_take]; rfl)) ?_; (with_reducible refine (pilcrowlaw11_awake.calls k  true _ A3.out).mono ?_); rintro e w11 ⟨rfl, hb⟩; refine ⟨_, rfl, ?_⟩; have n0_ := Aside0.mk (below_step (by repeat (first | (with_reducible first | exact HB.out | apply below_alloc | apply pw_below_drewN | apply below_drew1) | exact HB.out)) hb); clear HB; have HB := n0_; clear n0_; (try clear hb); (try clear hb2); (try clear hk); (try clear hi)) | (go_at_call 19; (with_reducible refine (pilcrowref11_Prev.calls k a0 t134 _ A5.out).mono ?_); rintro e w' ⟨rfl, ⟨nd, rfl⟩⟩))
          go_ret
          exact ⟨by first | rfl | (simp [errW_none, errW_some] <;> rfl) | (simp [*, errW_none, errW_some] <;> rfl), by repeat (first | (with_reducible first | exact HB.out | apply below_alloc | apply pw_below_drewN | apply below_drew1) | exact HB.out)⟩
    · rw [if_neg c6] at H
      have c6b0 : (t132 == t134) = false := beq_eq_false_iff_ne.mpr c6
      have c6b1 : (t132 != t134) = true := bne_iff_ne.mpr c6
      obtain rfl := Option.some.inj H
      go_enter Try.func6, Try.ntmps6
      go_wp2_with (first | ((with_reducible refine gate_callee (f := 18) rfl ?_); refine goesL_ (some 5) rfl rfl Try.func18 (by kernel_rfl) rfl #[.int .u32 a0] rfl (by (try simp only [List.map_toArray, List.map_cons, List.map_nil]); first | done | rfl | (simp only [List.length_drop, List.length_take]; rfl)) ?_; (with_reducible refine (diff_Prev.calls k a0 t132 _ A2.out).mono ?_); rintro e w' ⟨rfl, ⟨nd, rfl⟩⟩; refine ⟨_, rfl, ?_⟩) | ((with_reducible refine gate_callee (f := 10) rfl ?_); refine goesL_ (some 6) rfl rfl Try.func10 (by kernel_rfl) rfl #[] rfl (by (try simp only [List.map_toArray, List.map_cons, List.map_nil]); first | done | rfl | (simp only [List.length_drop, List.length_take]; rfl)) ?_; (with_reducible refine (pilcrowlaw11_awake.calls k  true _ A3.out).mono ?_); rintro e w12 ⟨rfl, hb⟩; refine ⟨_, rfl, ?_⟩; have n0_ := Aside0.mk (below_step (by repeat (first | (with_reducible first | exact HB.out | apply below_alloc | apply pw_below_drewN | apply below_drew1) | exact HB.out)) hb); clear HB; have HB := n0_; clear n0_; (try clear hb); (try clear hb2); (try clear hk); (try clear hi)) | (go_at_call 19; (with_reducible refine (pilcrowref11_Prev.calls k a0 t134 _ A5.out).mono ?_); rintro e w' ⟨rfl, ⟨nd, rfl⟩⟩))
      go_ret
      exact ⟨by first | rfl | (simp [errW_none, errW_some] <;> rfl) | (simp [*, errW_none, errW_some] <;> rfl), by repeat (first | (with_reducible first | exact HB.out | apply below_alloc | apply pw_below_drewN | apply below_drew1) | exact HB.out)⟩
  · replace c4 := Bool.eq_false_iff.mpr c4
    subst c4
    have H1 : (some false) = some r := by rw [if_neg (show ¬ (false = true) by decide)] at H; exact H
    clear H
    have H := H1
    clear H1
    obtain rfl := Option.some.inj H
    go_enter Try.func6, Try.ntmps6
    go_wp2_with (first | ((with_reducible refine gate_callee (f := 18) rfl ?_); refine goesL_ (some 5) rfl rfl Try.func18 (by kernel_rfl) rfl #[.int .u32 a0] rfl (by (try simp only [List.map_toArray, List.map_cons, List.map_nil]); first | done | rfl | (simp only [List.length_drop, List.length_take]; rfl)) ?_; (with_reducible refine (diff_Prev.calls k a0 t132 _ A2.out).mono ?_); rintro e w' ⟨rfl, ⟨nd, rfl⟩⟩; refine ⟨_, rfl, ?_⟩) | ((with_reducible refine gate_callee (f := 10) rfl ?_); refine goesL_ (some 6) rfl rfl Try.func10 (by kernel_rfl) rfl #[] rfl (by (try simp only [List.map_toArray, List.map_cons, List.map_nil]); first | done | rfl | (simp only [List.length_drop, List.length_take]; rfl)) ?_; (with_reducible refine (pilcrowlaw11_awake.calls k  false _ A3.out).mono ?_); rintro e w13 ⟨rfl, hb⟩; refine ⟨_, rfl, ?_⟩; have n0_ := Aside0.mk (below_step (by repeat (first | (with_reducible first | exact HB.out | apply below_alloc | apply pw_below_drewN | apply below_drew1) | exact HB.out)) hb); clear HB; have HB := n0_; clear n0_; (try clear hb); (try clear hb2); (try clear hk); (try clear hi)))
    go_ret
    exact ⟨by first | rfl | (simp [errW_none, errW_some] <;> rfl) | (simp [*, errW_none, errW_some] <;> rfl), by repeat (first | (with_reducible first | exact HB.out | apply below_alloc | apply pw_below_drewN | apply below_drew1) | exact HB.out)⟩

/-- THE ONE PURE STATEMENT of pilcrowlaw11_DiffPrev: yours. -/
def pilcrowlaw11_DiffPrev.Pure : Prop := ∀ (a0 : Int), (Lit.int .u32 a0).wf = true → ∃ k, pilcrowlaw11_DiffPrev.f k a0 = some true
theorem pilcrowlaw11_DiffPrev.walk (P : pilcrowlaw11_DiffPrev.Pure) (a0 : Int) (w : World) (w0 : (Lit.int .u32 a0).wf = true) :
    Calls Try.prog 6 #[.int .u32 a0] w fun e w' => e = .returned (.bool true) ∧ Below w.heap.size w w' := by
  obtain ⟨k, h⟩ := P a0 w0
  refine (pilcrowlaw11_DiffPrev.calls k a0 true w h).mono ?_
  rintro e w' ⟨rfl, hd⟩
  exact ⟨rfl, hd⟩

end Go.Proofs.Ytceplnpponepkaa.PDiffPrev
