/- The reference's functions of layers 11, 12, turned from a print whose proofs of Prev and Least fell. -/
import Derived.Test.YthodifmfamflpaaPBocuExtendsx0
import Derived.Test.YthodifmfamflpaaPBocuExtendsx3
import Derived.Test.YthodifmfamflpaaPBocuExtendsx4
namespace Go.Proofs.Ythodifmfamflpaa.PBocuExtends
open Go.RowKit Go.Proofs.YthodifmfamflpaaW.PrintWords Go.Proofs.YthodifmfamflpaaW.PrintLast Go.Proofs.YthodifmfamflpaaW.PrintMore
attribute [local go_sem] max2_int min2_int max_two min_two max_three min_three max_four min_four   -- for this text's walks alone
set_option linter.unusedVariables false
set_option linter.unusedSimpArgs false

/-! ### pilcrowref11_Prev: function 40 -/
mutual
def pilcrowref11_Prev.j0 : Nat → Int → Bool → Option (Int)
  | 0, _, _ => none
  | k + 1, x0, x8 => if x8 = true then (some 12400) else (if x0 ≥ 19968 then (pilcrowref11_Prev.j1 k x0 (decide (x0 ≤ 40869))) else (pilcrowref11_Prev.j1 k x0 false))
def pilcrowref11_Prev.j1 : Nat → Int → Bool → Option (Int)
  | 0, _, _ => none
  | k + 1, x0, x14 => if x14 = true then (some 30481) else (if x0 ≥ 44032 then (if x0 ≤ 55203 then (some 49617) else (some ((((((Int.tdiv x0 128) % 4294967296) * 128) % 4294967296) + 64) % 4294967296))) else (some ((((((Int.tdiv x0 128) % 4294967296) * 128) % 4294967296) + 64) % 4294967296)))
end
def pilcrowref11_Prev.f (k : Nat) (a0 : Int) : Option (Int) := if a0 ≥ 12352 then (pilcrowref11_Prev.j0 k a0 (decide (a0 ≤ 12447))) else (pilcrowref11_Prev.j0 k a0 false)
theorem pilcrowref11_Prev.mono_l : ∀ k, (∀ y0 y1, LeO (pilcrowref11_Prev.j0 k y0 y1) (pilcrowref11_Prev.j0 (k + 1) y0 y1)) ∧ (∀ y0 y1, LeO (pilcrowref11_Prev.j1 k y0 y1) (pilcrowref11_Prev.j1 (k + 1) y0 y1))
  | 0 => ⟨fun _ _ r h => by simp [pilcrowref11_Prev.j0] at h, fun _ _ r h => by simp [pilcrowref11_Prev.j1] at h⟩
  | k + 1 => by
    obtain ⟨ih0, ih1⟩ := pilcrowref11_Prev.mono_l k
    refine ⟨?_, ?_⟩
    · intro y0 y1
      unfold pilcrowref11_Prev.j0
      repeat' first
      | (with_reducible exact ih0 _ _)
      | (with_reducible exact ih1 _ _)
      | (with_reducible exact LeO.refl _)
      | (with_reducible exact LeO.none _)
      | (with_reducible refine LeO.ite ?_ ?_)
      | (with_reducible refine LeO.bind ?_ (fun _ => ?_))
      | exact ih0 _ _
      | exact ih1 _ _
      | exact LeO.none _
      | refine LeO.ite ?_ ?_
      | refine LeO.bind ?_ (fun _ => ?_)
    · intro y0 y1
      unfold pilcrowref11_Prev.j1
      repeat' first
      | (with_reducible exact ih0 _ _)
      | (with_reducible exact ih1 _ _)
      | (with_reducible exact LeO.refl _)
      | (with_reducible exact LeO.none _)
      | (with_reducible refine LeO.ite ?_ ?_)
      | (with_reducible refine LeO.bind ?_ (fun _ => ?_))
      | exact ih0 _ _
      | exact ih1 _ _
      | exact LeO.none _
      | refine LeO.ite ?_ ?_
      | refine LeO.bind ?_ (fun _ => ?_)
theorem pilcrowref11_Prev.mono : ∀ a0 k, LeO (pilcrowref11_Prev.f k a0) (pilcrowref11_Prev.f (k + 1) a0) := by
  intro a0 k
  obtain ⟨ih0, ih1⟩ := pilcrowref11_Prev.mono_l k
  unfold pilcrowref11_Prev.f
  repeat' first
      | (with_reducible exact ih0 _ _)
      | (with_reducible exact ih1 _ _)
      | (with_reducible exact LeO.refl _)
      | (with_reducible exact LeO.none _)
      | (with_reducible refine LeO.ite ?_ ?_)
      | (with_reducible refine LeO.bind ?_ (fun _ => ?_))
      | exact ih0 _ _
      | exact ih1 _ _
      | exact LeO.none _
      | refine LeO.ite ?_ ?_
      | refine LeO.bind ?_ (fun _ => ?_)
set_option maxHeartbeats 8000000 in
set_option maxRecDepth 100000 in
theorem pilcrowref11_Prev.calls (k : Nat) (a0 : Int) (r : Int) (w : World) (h : pilcrowref11_Prev.f k a0 = some r) :
    Calls Try.prog 40 #[.int .u32 a0] w fun e w' => e = .returned (.int .u32 r) ∧ Drawn0 w w' := by
  have H : (if a0 ≥ 12352 then (pilcrowref11_Prev.j0 k a0 (decide (a0 ≤ 12447))) else (pilcrowref11_Prev.j0 k a0 false)) = some r := h
  clear h
  have HC2 := Aside0.mk H
  clear H
  go_enter Try.func40, Try.ntmps40
  go_upto_region 1 with (fail)
  go_cut [8] (fun v8 wc => ∃ (kq : Nat) (x8_1 : Bool), v8 = .bool x8_1 ∧ Aside0 (pilcrowref11_Prev.j0 kq a0 x8_1 = some r) ∧ Aside0 (kq ≤ k) ∧ Drawn0 w wc)
  case first =>
    have H := HC2.out
    clear HC2
    by_cases c3 : a0 ≥ 12352
    · rw [if_pos c3] at H
      have c3b0 : decide (12352 ≤ a0) = true := decide_eq_true c3
      clear c3
      (first | rw [c3b0] | (simp only [i64_w, i32_w]; rw [c3b0]) | skip)
      have H' := Aside0.mk H
      clear H
      go_wp2
      go_meet
      case rel => exact ⟨_, (decide (a0 ≤ 12447)), (by first | rfl | (simp; done) | (simp [*]; done)), H', ⟨by first | omega | exact Nat.le_refl _⟩, by repeat (first | exact Drawn0.refl _ | apply Drawn0.step)⟩
    · rw [if_neg c3] at H
      have c3b0 : decide (12352 ≤ a0) = false := decide_eq_false c3
      clear c3
      (first | rw [c3b0] | (simp only [i64_w, i32_w]; rw [c3b0]) | skip)
      have H' := Aside0.mk H
      clear H
      go_wp2
      go_meet
      case rel => exact ⟨_, (false), (by first | rfl | (simp; done) | (simp [*]; done)), H', ⟨by first | omega | exact Nat.le_refl _⟩, by repeat (first | exact Drawn0.refl _ | apply Drawn0.step)⟩
  case rest =>
    clear HC2
    try clear p2
    try clear c3
    try clear c3b0
    obtain ⟨kq, x8_1, rfl, HA, HJ1, ⟨mc1, rfl⟩⟩ := hcut
    cases kq with
    | zero => exact absurd HA.out (by simp [pilcrowref11_Prev.j0])
    | succ kj1 =>
      have H := HA.out
      clear HA
      simp only [pilcrowref11_Prev.j0] at H
      by_cases c4 : x8_1 = true
      · subst c4
        have H1 : (some 12400) = some r := by rw [if_pos rfl] at H; exact H
        clear H
        have H := H1
        clear H1
        obtain rfl := Option.some.inj H
        go_wp2
        go_ret
        exact ⟨by first | rfl | (simp; done) | (simp [*]; done) | (simp; generalize Int.tdiv _ 128 = y; omega) | (simp; omega) | (simp at * <;> omega), by repeat (first | exact Drawn0.refl _ | apply Drawn0.step)⟩
      · replace c4 := Bool.eq_false_iff.mpr c4
        subst c4
        have H1 : (if a0 ≥ 19968 then (pilcrowref11_Prev.j1 kj1 a0 (decide (a0 ≤ 40869))) else (pilcrowref11_Prev.j1 kj1 a0 false)) = some r := by rw [if_neg (show ¬ (false = true) by decide)] at H; exact H
        clear H
        have H := H1
        clear H1
        have HC5 := Aside0.mk H
        clear H
        go_upto_region 3 with (fail)
        go_cut [14] (fun v14 wc => ∃ (kq : Nat) (x14_4 : Bool), v14 = .bool x14_4 ∧ Aside0 (pilcrowref11_Prev.j1 kq a0 x14_4 = some r) ∧ Aside0 (kq ≤ kj1) ∧ Drawn0 w wc)
        case first =>
          have H := HC5.out
          clear HC5
          by_cases c6 : a0 ≥ 19968
          · rw [if_pos c6] at H
            have c6b0 : decide (19968 ≤ a0) = true := decide_eq_true c6
            clear c6
            (first | rw [c6b0] | (simp only [i64_w, i32_w]; rw [c6b0]) | skip)
            have H' := Aside0.mk H
            clear H
            go_wp2
            go_meet
            case rel => exact ⟨_, (decide (a0 ≤ 40869)), (by first | rfl | (simp; done) | (simp [*]; done)), H', ⟨by have := HJ1.out; first | omega | exact Nat.le_refl _⟩, by repeat (first | exact Drawn0.refl _ | apply Drawn0.step)⟩
          · rw [if_neg c6] at H
            have c6b0 : decide (19968 ≤ a0) = false := decide_eq_false c6
            clear c6
            (first | rw [c6b0] | (simp only [i64_w, i32_w]; rw [c6b0]) | skip)
            have H' := Aside0.mk H
            clear H
            go_wp2
            go_meet
            case rel => exact ⟨_, (false), (by first | rfl | (simp; done) | (simp [*]; done)), H', ⟨by have := HJ1.out; first | omega | exact Nat.le_refl _⟩, by repeat (first | exact Drawn0.refl _ | apply Drawn0.step)⟩
        case rest =>
          clear HC5
          try clear c1
          try clear p2
          try clear c3
          try clear c3b0
          try clear c4
          try clear c6
          try clear c6b0
          try clear p2
          obtain ⟨kq, x14_4, rfl, HA, HJ4, ⟨mc4, rfl⟩⟩ := hcut
          cases kq with
          | zero => exact absurd HA.out (by simp [pilcrowref11_Prev.j1])
          | succ kj4 =>
            have H := HA.out
            clear HA
            simp only [pilcrowref11_Prev.j1] at H
            by_cases c7 : x14_4 = true
            · subst c7
              have H1 : (some 30481) = some r := by rw [if_pos rfl] at H; exact H
              clear H
              have H := H1
              clear H1
              obtain rfl := Option.some.inj H
              go_wp2
              go_ret
              exact ⟨by first | rfl | (simp; done) | (simp [*]; done) | (simp; generalize Int.tdiv _ 128 = y; omega) | (simp; omega) | (simp at * <;> omega), by repeat (first | exact Drawn0.refl _ | apply Drawn0.step)⟩
            · replace c7 := Bool.eq_false_iff.mpr c7
              subst c7
              have H1 : (if a0 ≥ 44032 then (if a0 ≤ 55203 then (some 49617) else (some ((((((Int.tdiv a0 128) % 4294967296) * 128) % 4294967296) + 64) % 4294967296))) else (some ((((((Int.tdiv a0 128) % 4294967296) * 128) % 4294967296) + 64) % 4294967296))) = some r := by rw [if_neg (show ¬ (false = true) by decide)] at H; exact H
              clear H
              have H := H1
              clear H1
              by_cases c8 : a0 ≥ 44032
              · rw [if_pos c8] at H
                have c8b0 : decide (44032 ≤ a0) = true := decide_eq_true c8
                clear c8
                by_cases c9 : a0 ≤ 55203
                · rw [if_pos c9] at H
                  have c9b0 : decide (a0 ≤ 55203) = true := decide_eq_true c9
                  clear c9
                  obtain rfl := Option.some.inj H
                  go_wp2
                  go_ret
                  exact ⟨by first | rfl | (simp; done) | (simp [*]; done) | (simp; generalize Int.tdiv _ 128 = y; omega) | (simp; omega) | (simp at * <;> omega), by repeat (first | exact Drawn0.refl _ | apply Drawn0.step)⟩
                · rw [if_neg c9] at H
                  have c9b0 : decide (a0 ≤ 55203) = false := decide_eq_false c9
                  clear c9
                  obtain rfl := Option.some.inj H
                  go_wp2
                  go_ret
                  exact ⟨by first | rfl | (simp; done) | (simp [*]; done) | (simp; generalize Int.tdiv _ 128 = y; omega) | (simp; omega) | (simp at * <;> omega), by repeat (first | exact Drawn0.refl _ | apply Drawn0.step)⟩
              · rw [if_neg c8] at H
                have c8b0 : decide (44032 ≤ a0) = false := decide_eq_false c8
                clear c8
                obtain rfl := Option.some.inj H
                go_wp2
                go_ret
                exact ⟨by first | rfl | (simp; done) | (simp [*]; done) | (simp; generalize Int.tdiv _ 128 = y; omega) | (simp; omega) | (simp at * <;> omega), by repeat (first | exact Drawn0.refl _ | apply Drawn0.step)⟩

/-! ### pilcrowref11_Worth: function 36 -/
def pilcrowref11_Worth.l0 : Nat → Int → List Int → Int → Option (Int)
  | 0, _, _, _ => none
  | k + 1, x0, x3, x4 => if x4 < (x3.length : Int) then (if 0 ≤ x4 then (if (rd x3 x4) = x0 then (some x4) else (pilcrowref11_Worth.l0 k x0 x3 (wrap64 (x4 + 1)))) else (none)) else (some (-1))
def pilcrowref11_Worth.f (k : Nat) (a0 : Int) : Option (Int) := (pilcrowref11_Trails.f k).bind fun t212 => (pilcrowref11_Worth.l0 k a0 t212 0)
theorem pilcrowref11_Worth.mono_l : ∀ k, (∀ y0 y1 y2, LeO (pilcrowref11_Worth.l0 k y0 y1 y2) (pilcrowref11_Worth.l0 (k + 1) y0 y1 y2))
  | 0 => fun _ _ _ r h => by simp [pilcrowref11_Worth.l0] at h
  | k + 1 => by
    have ih0 := pilcrowref11_Worth.mono_l k
    · intro y0 y1 y2
      unfold pilcrowref11_Worth.l0
      repeat' first
      | (with_reducible exact ih0 _ _ _)
      | (with_reducible exact pilcrowref11_Trails.mono _)
      | (with_reducible exact LeO.refl _)
      | (with_reducible exact LeO.none _)
      | (with_reducible refine LeO.ite ?_ ?_)
      | (with_reducible refine LeO.bind ?_ (fun _ => ?_))
      | exact ih0 _ _ _
      | exact pilcrowref11_Trails.mono _
      | exact LeO.none _
      | refine LeO.ite ?_ ?_
      | refine LeO.bind ?_ (fun _ => ?_)
theorem pilcrowref11_Worth.mono : ∀ a0 k, LeO (pilcrowref11_Worth.f k a0) (pilcrowref11_Worth.f (k + 1) a0) := by
  intro a0 k
  have ih0 := pilcrowref11_Worth.mono_l k
  unfold pilcrowref11_Worth.f
  repeat' first
      | (with_reducible exact ih0 _ _ _)
      | (with_reducible exact pilcrowref11_Trails.mono _)
      | (with_reducible exact LeO.refl _)
      | (with_reducible exact LeO.none _)
      | (with_reducible refine LeO.ite ?_ ?_)
      | (with_reducible refine LeO.bind ?_ (fun _ => ?_))
      | exact ih0 _ _ _
      | exact pilcrowref11_Trails.mono _
      | exact LeO.none _
      | refine LeO.ite ?_ ?_
      | refine LeO.bind ?_ (fun _ => ?_)
set_option maxHeartbeats 8000000 in
set_option maxRecDepth 100000 in
theorem pilcrowref11_Worth.calls (k : Nat) (a0 : Int) (r : Int) (w : World) (h : pilcrowref11_Worth.f k a0 = some r) :
    Calls Try.prog 36 #[.int .u8 a0] w fun e w' => e = .returned (.int .i64 r) ∧ Below w.heap.size w w' := by
  have HB := Aside0.mk (Below.refl w.heap.size w)
  have H : ((pilcrowref11_Trails.f k).bind fun t212 => (pilcrowref11_Worth.l0 k a0 t212 0)) = some r := h
  clear h
  replace H := Option.bind_eq_some_iff.mp H
  obtain ⟨t212, A20, H⟩ := H
  replace H : (pilcrowref11_Worth.l0 k a0 t212 0) = some r := H
  have A2 := Aside0.mk A20
  clear A20
  have H' := Aside0.mk H
  clear H
  go_enter Try.func36, Try.ntmps36
  go_wp2_with (first | ((with_reducible refine gate_callee (f := 51) rfl ?_); refine goesL_ (some 5) rfl rfl Try.func51 (by kernel_rfl) rfl #[] rfl (by (try simp only [List.map_toArray, List.map_cons, List.map_nil]); first | done | rfl | (simp only [List.length_drop, List.length_take]; rfl)) ?_; (with_reducible refine (pilcrowref11_Trails.calls k  t212 _ A2.out).mono ?_); rintro e w3 ⟨v213, rfl, ho0, hb⟩; refine ⟨_, rfl, ?_⟩; have n0_ := Aside0.mk (Kd.R_lower ho0 (below_size (by repeat (first | (with_reducible first | exact HB.out | apply below_alloc | apply pw_below_drewN | apply below_drew1) | exact HB.out)))); have n1_ := Aside0.mk (below_step (by repeat (first | (with_reducible first | exact HB.out | apply below_alloc | apply pw_below_drewN | apply below_drew1) | exact HB.out)) hb); clear HB; have HO214 := n0_; have HB := n1_; clear n0_ n1_; (try clear hb); (try clear hb2); (try clear hk); (try clear hi); (try clear ho0)))
  go_loopg [4] k (fun kq v4 w' => ∃ (x4_1 : Int), v4 = .int .i64 x4_1 ∧ Aside0 (pilcrowref11_Worth.l0 kq a0 t212 x4_1 = some r) ∧ Aside0 (kq ≤ k) ∧ Aside0 (Kd.R (Kd.int .u8) 5 w' w.heap.size (fun _ => True) v213 t212) ∧ Aside0 (Below w.heap.size w w'))
  case atStart => exact ⟨(0), (by first | rfl | (simp; done) | (simp [*]; done)), H', ⟨Nat.le_refl _⟩, ⟨by (with_reducible repeat (first | apply Kd.R_alloc | apply Kd.R_drewN | apply Kd.R_drew)); exact HO214.out⟩, ⟨by repeat (first | (with_reducible first | exact HB.out | apply below_alloc | apply pw_below_drewN | apply below_drew1) | exact HB.out)⟩⟩
  case round =>
    clear H'
    try clear p2
    try clear c3
    obtain ⟨x4_1, rfl, HA, HK1, HO_3, HB⟩ := hrel
    cases gk with
    | zero => exact absurd HA.out (by simp [pilcrowref11_Worth.l0])
    | succ k1 =>
      have H := HA.out
      clear HA
      simp only [pilcrowref11_Worth.l0] at H
      by_cases c4 : x4_1 < (t212.length : Int)
      · rw [if_pos c4] at H
        have c4b0 : decide (x4_1 < (t212.length : Int)) = true := decide_eq_true c4
        clear c4
        by_cases c5 : 0 ≤ x4_1
        · rw [if_pos c5] at H
          have c5b0 : decide (0 ≤ x4_1) = true := decide_eq_true c5
          clear c5
          by_cases c6 : (rd t212 x4_1) = a0
          · rw [if_pos c6] at H
            have c6b0 : ((rd t212 x4_1) == a0) = true := beq_iff_eq.mpr c6
            have c6b1 : ((rd t212 x4_1) != a0) = false := bne_eq_false_iff_eq.mpr c6
            clear c6
            obtain rfl := Option.some.inj H
            obtain ⟨Ao7, co7, eo7⟩ := Kd.R_slice HO_3.out
            subst eo7
            have p215 : 0 ≤ (x4_1 : Int) := of_decide_eq_true (by first | (with_reducible assumption) | assumption)
            have q215 : x4_1 < (t212.length : Int) := of_decide_eq_true (by first | (with_reducible assumption) | assumption)
            obtain ⟨ad215, e215, hx215_0⟩ := Kd.at_int (Kd.R_reads' HO_3.out).2.2 x4_1 p215 q215
            cases e215
            replace p215 := eq_true p215
            replace q215 := eq_true q215
            go_wp2
            go_ret
            exact ⟨by first | rfl | (simp [errW_none, errW_some] <;> rfl) | (simp [*, errW_none, errW_some] <;> rfl), by repeat (first | (with_reducible first | exact HB.out | apply below_alloc | apply pw_below_drewN | apply below_drew1) | exact HB.out)⟩
          · rw [if_neg c6] at H
            have c6b0 : ((rd t212 x4_1) == a0) = false := beq_eq_false_iff_ne.mpr c6
            have c6b1 : ((rd t212 x4_1) != a0) = true := bne_iff_ne.mpr c6
            have H' := Aside0.mk H
            clear H
            obtain ⟨Ao8, co8, eo8⟩ := Kd.R_slice HO_3.out
            subst eo8
            have p215 : 0 ≤ (x4_1 : Int) := of_decide_eq_true (by first | (with_reducible assumption) | assumption)
            have q215 : x4_1 < (t212.length : Int) := of_decide_eq_true (by first | (with_reducible assumption) | assumption)
            obtain ⟨ad215, e215, hx215_0⟩ := Kd.at_int (Kd.R_reads' HO_3.out).2.2 x4_1 p215 q215
            cases e215
            replace p215 := eq_true p215
            replace q215 := eq_true q215
            go_wp2
            go_roundg k1
            case measure => have := HK1.out; omega
            case rel => exact ⟨(wrap64 (x4_1 + 1)), (by first | rfl | (simp; done) | (simp [*]; done)), H', ⟨by have := HK1.out; omega⟩, ⟨by (with_reducible repeat (first | apply Kd.R_alloc | apply Kd.R_drewN | apply Kd.R_drew)); exact HO_3.out⟩, ⟨by repeat (first | (with_reducible first | exact HB.out | apply below_alloc | apply pw_below_drewN | apply below_drew1) | exact HB.out)⟩⟩
        · rw [if_neg c5] at H
          exact absurd H (by simp)
      · rw [if_neg c4] at H
        have c4b0 : decide (x4_1 < (t212.length : Int)) = false := decide_eq_false c4
        clear c4
        obtain rfl := Option.some.inj H
        obtain ⟨Ao9, co9, eo9⟩ := Kd.R_slice HO_3.out
        subst eo9
        go_wp2
        go_ret
        exact ⟨by first | rfl | (simp [errW_none, errW_some] <;> rfl) | (simp [*, errW_none, errW_some] <;> rfl), by repeat (first | (with_reducible first | exact HB.out | apply below_alloc | apply pw_below_drewN | apply below_drew1) | exact HB.out)⟩

/-! ### pilcrowref11_Range: function 52 -/
mutual
def pilcrowref11_Range.j0 : Nat → ByteArray → Int → Int → Bool → Option (Int × Int × Int)
  | 0, _, _, _, _ => none
  | k + 1, x0, x5, x6, x29 => if x29 = true then (some (0, 0, 0)) else (pilcrowref11_Range.l0 k x0 x5 x6 0 0 1)
def pilcrowref11_Range.l0 : Nat → ByteArray → Int → Int → Int → Int → Int → Option (Int × Int × Int)
  | 0, _, _, _, _, _, _ => none
  | k + 1, x0, x5, x6, x7, x8, x9 => if x9 ≤ x6 then (if x9 < (x0.size : Int) then (if 0 ≤ x9 then ((pilcrowref11_Worth.f k (bt x0 x9)).bind fun t218 => (if t218 < 0 then (some (0, 0, 0)) else (pilcrowref11_Range.l0 k x0 x5 x6 (wrap64 ((wrap64 (243 * x7)) + t218)) (wrap64 ((wrap64 (243 * x8)) + t218)) (wrap64 (x9 + 1))))) else (none)) else (pilcrowref11_Range.l0 k x0 x5 x6 (wrap64 ((wrap64 (243 * x7)) + 0)) (wrap64 ((wrap64 (243 * x8)) + 242)) (wrap64 (x9 + 1)))) else (some (wrap64 (x5 + x7), wrap64 (x5 + x8), wrap64 (x6 + 1)))
end
def pilcrowref11_Range.f (k : Nat) (a0 : ByteArray) : Option (Int × Int × Int) := if (a0.size : Int) = 0 then (some (0, 0, 0)) else (if 0 < (a0.size : Int) then ((pilcrowref11_Least.f k (bt a0 0)).bind fun bt216 => (if bt216.2 < 0 then (pilcrowref11_Range.j0 k a0 bt216.1 bt216.2 true) else (pilcrowref11_Range.j0 k a0 bt216.1 bt216.2 (decide ((a0.size : Int) > (wrap64 (bt216.2 + 1))))))) else (none))
theorem pilcrowref11_Range.mono_l : ∀ k, (∀ y0 y1 y2 y3, LeO (pilcrowref11_Range.j0 k y0 y1 y2 y3) (pilcrowref11_Range.j0 (k + 1) y0 y1 y2 y3)) ∧ (∀ y0 y1 y2 y3 y4 y5, LeO (pilcrowref11_Range.l0 k y0 y1 y2 y3 y4 y5) (pilcrowref11_Range.l0 (k + 1) y0 y1 y2 y3 y4 y5))
  | 0 => ⟨fun _ _ _ _ r h => by simp [pilcrowref11_Range.j0] at h, fun _ _ _ _ _ _ r h => by simp [pilcrowref11_Range.l0] at h⟩
  | k + 1 => by
    obtain ⟨ih0, ih1⟩ := pilcrowref11_Range.mono_l k
    refine ⟨?_, ?_⟩
    · intro y0 y1 y2 y3
      unfold pilcrowref11_Range.j0
      repeat' first
      | (with_reducible exact ih0 _ _ _ _)
      | (with_reducible exact ih1 _ _ _ _ _ _)
      | (with_reducible exact pilcrowref11_Least.mono _ _)
      | (with_reducible exact pilcrowref11_Worth.mono _ _)
      | (with_reducible exact LeO.refl _)
      | (with_reducible exact LeO.none _)
      | (with_reducible refine LeO.ite ?_ ?_)
      | (with_reducible refine LeO.bind ?_ (fun _ => ?_))
      | exact ih0 _ _ _ _
      | exact ih1 _ _ _ _ _ _
      | exact pilcrowref11_Least.mono _ _
      | exact pilcrowref11_Worth.mono _ _
      | exact LeO.none _
      | refine LeO.ite ?_ ?_
      | refine LeO.bind ?_ (fun _ => ?_)
    · intro y0 y1 y2 y3 y4 y5
      unfold pilcrowref11_Range.l0
      repeat' first
      | (with_reducible exact ih0 _ _ _ _)
      | (with_reducible exact ih1 _ _ _ _ _ _)
      | (with_reducible exact pilcrowref11_Least.mono _ _)
      | (with_reducible exact pilcrowref11_Worth.mono _ _)
      | (with_reducible exact LeO.refl _)
      | (with_reducible exact LeO.none _)
      | (with_reducible refine LeO.ite ?_ ?_)
      | (with_reducible refine LeO.bind ?_ (fun _ => ?_))
      | exact ih0 _ _ _ _
      | exact ih1 _ _ _ _ _ _
      | exact pilcrowref11_Least.mono _ _
      | exact pilcrowref11_Worth.mono _ _
      | exact LeO.none _
      | refine LeO.ite ?_ ?_
      | refine LeO.bind ?_ (fun _ => ?_)
theorem pilcrowref11_Range.mono : ∀ a0 k, LeO (pilcrowref11_Range.f k a0) (pilcrowref11_Range.f (k + 1) a0) := by
  intro a0 k
  obtain ⟨ih0, ih1⟩ := pilcrowref11_Range.mono_l k
  unfold pilcrowref11_Range.f
  repeat' first
      | (with_reducible exact ih0 _ _ _ _)
      | (with_reducible exact ih1 _ _ _ _ _ _)
      | (with_reducible exact pilcrowref11_Least.mono _ _)
      | (with_reducible exact pilcrowref11_Worth.mono _ _)
      | (with_reducible exact LeO.refl _)
      | (with_reducible exact LeO.none _)
      | (with_reducible refine LeO.ite ?_ ?_)
      | (with_reducible refine LeO.bind ?_ (fun _ => ?_))
      | exact ih0 _ _ _ _
      | exact ih1 _ _ _ _ _ _
      | exact pilcrowref11_Least.mono _ _
      | exact pilcrowref11_Worth.mono _ _
      | exact LeO.none _
      | refine LeO.ite ?_ ?_
      | refine LeO.bind ?_ (fun _ => ?_)
set_option maxHeartbeats 8000000 in
set_option maxRecDepth 100000 in
theorem pilcrowref11_Range.calls (k : Nat) (a0 : ByteArray) (r1 : Int) (r2 : Int) (r3 : Int) (w : World) (h : pilcrowref11_Range.f k a0 = some (r1, r2, r3)) :
    Calls Try.prog 52 #[.string a0] w fun e w' => e = .returned (.tuple #[.int .i64 r1, .int .i64 r2, .int .i64 r3]) ∧ Below w.heap.size w w' := by
  have HB := Aside0.mk (Below.refl w.heap.size w)
  have H : (if (a0.size : Int) = 0 then (some (0, 0, 0)) else (if 0 < (a0.size : Int) then ((pilcrowref11_Least.f k (bt a0 0)).bind fun bt216 => (if bt216.2 < 0 then (pilcrowref11_Range.j0 k a0 bt216.1 bt216.2 true) else (pilcrowref11_Range.j0 k a0 bt216.1 bt216.2 (decide ((a0.size : Int) > (wrap64 (bt216.2 + 1))))))) else (none))) = some (r1, r2, r3) := h
  clear h
  by_cases c2 : (a0.size : Int) = 0
  · rw [if_pos c2] at H
    have c2b0 : ((a0.size : Int) == 0) = true := beq_iff_eq.mpr c2
    have c2b1 : ((a0.size : Int) != 0) = false := bne_eq_false_iff_eq.mpr c2
    clear c2
    simp only [Option.some.injEq, Prod.mk.injEq] at H
    obtain ⟨rfl, rfl, rfl⟩ := H
    go_enter Try.func52, Try.ntmps52
    go_wp2
    go_ret3
    exact ⟨by first | rfl | (simp [errW_none, errW_some] <;> rfl) | (simp [*, errW_none, errW_some] <;> rfl), by repeat (first | (with_reducible first | exact HB.out | apply below_alloc | apply pw_below_drewN | apply below_drew1) | exact HB.out)⟩
  · rw [if_neg c2] at H
    have c2b0 : ((a0.size : Int) == 0) = false := beq_eq_false_iff_ne.mpr c2
    have c2b1 : ((a0.size : Int) != 0) = true := bne_iff_ne.mpr c2
    by_cases c3 : 0 < (a0.size : Int)
    · rw [if_pos c3] at H
      have c3b0 : decide (0 < (a0.size : Int)) = true := decide_eq_true c3
      have c3b1 : decide (0 < a0.size) = true := decide_eq_true (by omega)
      clear c3
      replace H := Option.bind_eq_some_iff.mp H
      obtain ⟨⟨t216, t217⟩, A50, H⟩ := H
      replace H : (if t217 < 0 then (pilcrowref11_Range.j0 k a0 t216 t217 true) else (pilcrowref11_Range.j0 k a0 t216 t217 (decide ((a0.size : Int) > (wrap64 (t217 + 1)))))) = some (r1, r2, r3) := H
      have A5 := Aside0.mk A50
      clear A50
      have HC6 := Aside0.mk H
      clear H
      have p4 : 0 ≤ (0 : Int) := (by omega)
      have q4 : 0 < a0.size := (by have : (0 : Int) < (a0.size : Int) := of_decide_eq_true (by first | (with_reducible assumption) | assumption); omega)
      have hx4 : ∀ h : 0 < a0.size, ((a0[0]'h).toNat : Int) = bt a0 0 := bt_at a0 0
      clear p4
      have qi4 : (0 < (a0.size : Int)) = True := eq_true (of_decide_eq_true (by first | (with_reducible assumption) | assumption))
      replace q4 := eq_true q4
      go_enter Try.func52, Try.ntmps52
      go_upto_region 4 with (first | ((with_reducible refine gate_callee (f := 54) rfl ?_); refine goesL_ (some 18) rfl rfl Try.func54 (by kernel_rfl) rfl #[.int .u8 (bt a0 0)] rfl (by (try simp only [List.map_toArray, List.map_cons, List.map_nil]); first | done | rfl | (simp only [List.length_drop, List.length_take]; rfl)) ?_; (with_reducible refine (pilcrowref11_Least.calls k (bt a0 0) t216 t217 _ A5.out).mono ?_); rintro e w' ⟨rfl, ⟨nd, rfl⟩⟩; refine ⟨_, rfl, ?_⟩))
      (try simp only [Act.put, List.setIfInBounds_toArray, List.set_cons_zero, List.set_cons_succ])
      go_cut [29] (fun v29 wc => ∃ (kq : Nat) (x29_5 : Bool), v29 = .bool x29_5 ∧ Aside0 (pilcrowref11_Range.j0 kq a0 t216 t217 x29_5 = some (r1, r2, r3)) ∧ Aside0 (kq ≤ k) ∧ Aside0 (Below w.heap.size w wc))
      case first =>
        have H := HC6.out
        clear HC6
        by_cases c7 : t217 < 0
        · rw [if_pos c7] at H
          have c7b0 : decide (t217 < 0) = true := decide_eq_true c7
          clear c7
          (first | rw [c7b0] | (simp only [i64_w, i32_w]; rw [c7b0]) | skip)
          have H' := Aside0.mk H
          clear H
          go_wp2
          go_meet
          case rel => exact ⟨_, (true), (by first | rfl | (simp; done) | (simp [*]; done)), H', ⟨by first | omega | exact Nat.le_refl _⟩, ⟨by repeat (first | (with_reducible first | exact HB.out | apply below_alloc | apply pw_below_drewN | apply below_drew1) | exact HB.out)⟩⟩
        · rw [if_neg c7] at H
          have c7b0 : decide (t217 < 0) = false := decide_eq_false c7
          clear c7
          (first | rw [c7b0] | (simp only [i64_w, i32_w]; rw [c7b0]) | skip)
          have H' := Aside0.mk H
          clear H
          go_wp2
          go_meet
          case rel => exact ⟨_, (decide ((a0.size : Int) > (wrap64 (t217 + 1)))), (by first | rfl | (simp; done) | (simp [*]; done)), H', ⟨by first | omega | exact Nat.le_refl _⟩, ⟨by repeat (first | (with_reducible first | exact HB.out | apply below_alloc | apply pw_below_drewN | apply below_drew1) | exact HB.out)⟩⟩
      case rest =>
        clear HC6
        try clear c2
        try clear c2b0
        try clear c2b1
        try clear p2
        try clear c3
        try clear c3b0
        try clear c3b1
        try clear p4
        try clear q4
        try clear hx4
        try clear qi4
        try clear c5
        try clear p6
        try clear c7
        try clear c7b0
        try clear p4
        try clear q4
        obtain ⟨kq, x29_5, rfl, HA, HJ5, HB⟩ := hcut
        cases kq with
        | zero => exact absurd HA.out (by simp [pilcrowref11_Range.j0])
        | succ kj5 =>
          have H := HA.out
          clear HA
          simp only [pilcrowref11_Range.j0] at H
          by_cases c8 : x29_5 = true
          · subst c8
            have H1 : (some (0, 0, 0)) = some (r1, r2, r3) := by rw [if_pos rfl] at H; exact H
            clear H
            have H := H1
            clear H1
            simp only [Option.some.injEq, Prod.mk.injEq] at H
            obtain ⟨rfl, rfl, rfl⟩ := H
            go_wp2
            go_ret3
            exact ⟨by first | rfl | (simp [errW_none, errW_some] <;> rfl) | (simp [*, errW_none, errW_some] <;> rfl), by repeat (first | (with_reducible first | exact HB.out | apply below_alloc | apply pw_below_drewN | apply below_drew1) | exact HB.out)⟩
          · replace c8 := Bool.eq_false_iff.mpr c8
            subst c8
            have H1 : (pilcrowref11_Range.l0 kj5 a0 t216 t217 0 0 1) = some (r1, r2, r3) := by rw [if_neg (show ¬ (false = true) by decide)] at H; exact H
            clear H
            have H := H1
            clear H1
            have H' := Aside0.mk H
            clear H
            go_wp2
            go_loopg [7, 8, 9] kj5 (fun kq v7 v8 v9 w' => ∃ (x7_2 : Int) (x8_2 : Int) (x9_2 : Int), v7 = .int .i64 x7_2 ∧ v8 = .int .i64 x8_2 ∧ v9 = .int .i64 x9_2 ∧ Aside0 (pilcrowref11_Range.l0 kq a0 t216 t217 x7_2 x8_2 x9_2 = some (r1, r2, r3)) ∧ Aside0 (kq ≤ kj5) ∧ Aside0 (Below w.heap.size w w'))
            case atStart => exact ⟨(0), (0), (1), (by first | rfl | (simp; done) | (simp [*]; done)), (by first | rfl | (simp; done) | (simp [*]; done)), (by first | rfl | (simp; done) | (simp [*]; done)), H', ⟨Nat.le_refl _⟩, ⟨by repeat (first | (with_reducible first | exact HB.out | apply below_alloc | apply pw_below_drewN | apply below_drew1) | exact HB.out)⟩⟩
            case round =>
              clear H'
              try clear c2
              try clear c2b0
              try clear c2b1
              try clear p2
              try clear c3
              try clear c3b0
              try clear c3b1
              try clear p4
              try clear q4
              try clear hx4
              try clear qi4
              try clear c5
              try clear p6
              try clear c7
              try clear c7b0
              try clear c8
              try clear p2
              try clear p4
              try clear p6
              try clear q4
              obtain ⟨x7_2, x8_2, x9_2, rfl, rfl, rfl, HA, HK2, HB⟩ := hrel
              cases gk with
              | zero => exact absurd HA.out (by simp [pilcrowref11_Range.l0])
              | succ k2 =>
                have H := HA.out
                clear HA
                simp only [pilcrowref11_Range.l0] at H
                by_cases c9 : x9_2 ≤ t217
                · rw [if_pos c9] at H
                  have c9b0 : decide (x9_2 ≤ t217) = true := decide_eq_true c9
                  clear c9
                  by_cases c10 : x9_2 < (a0.size : Int)
                  · rw [if_pos c10] at H
                    have c10b0 : decide (x9_2 < (a0.size : Int)) = true := decide_eq_true c10
                    clear c10
                    by_cases c11 : 0 ≤ x9_2
                    · rw [if_pos c11] at H
                      have c11b0 : decide (0 ≤ x9_2) = true := decide_eq_true c11
                      clear c11
                      replace H := Option.bind_eq_some_iff.mp H
                      obtain ⟨t218, A130, H⟩ := H
                      replace H : (if t218 < 0 then (some (0, 0, 0)) else (pilcrowref11_Range.l0 k2 a0 t216 t217 (wrap64 ((wrap64 (243 * x7_2)) + t218)) (wrap64 ((wrap64 (243 * x8_2)) + t218)) (wrap64 (x9_2 + 1)))) = some (r1, r2, r3) := H
                      have A13 := Aside0.mk A130
                      clear A130
                      by_cases c14 : t218 < 0
                      · rw [if_pos c14] at H
                        have c14b0 : decide (t218 < 0) = true := decide_eq_true c14
                        clear c14
                        simp only [Option.some.injEq, Prod.mk.injEq] at H
                        obtain ⟨rfl, rfl, rfl⟩ := H
                        have p12 : 0 ≤ (x9_2 : Int) := of_decide_eq_true (by first | (with_reducible assumption) | assumption)
                        have q12 : x9_2 < (a0.size : Int) := of_decide_eq_true (by first | (with_reducible assumption) | assumption)
                        have hx12 := bt_at a0 x9_2
                        replace p12 := eq_true p12
                        replace q12 := eq_true q12
                        go_wp2_with (first | ((with_reducible refine gate_callee (f := 36) rfl ?_); refine goesL_ (some 42) rfl rfl Try.func36 (by kernel_rfl) rfl #[.int .u8 (bt a0 x9_2)] rfl (by (try simp only [List.map_toArray, List.map_cons, List.map_nil]); first | done | rfl | (simp only [List.length_drop, List.length_take]; rfl)) ?_; (with_reducible refine (pilcrowref11_Worth.calls k2 (bt a0 x9_2) t218 _ A13.out).mono ?_); rintro e w15 ⟨rfl, hb⟩; refine ⟨_, rfl, ?_⟩; have n0_ := Aside0.mk (below_step (by repeat (first | (with_reducible first | exact HB.out | apply below_alloc | apply pw_below_drewN | apply below_drew1) | exact HB.out)) hb); clear HB; have HB := n0_; clear n0_; (try clear hb); (try clear hb2); (try clear hk); (try clear hi)))
                        go_ret3
                        exact ⟨by first | rfl | (simp [errW_none, errW_some] <;> rfl) | (simp [*, errW_none, errW_some] <;> rfl), by repeat (first | (with_reducible first | exact HB.out | apply below_alloc | apply pw_below_drewN | apply below_drew1) | exact HB.out)⟩
                      · rw [if_neg c14] at H
                        have c14b0 : decide (t218 < 0) = false := decide_eq_false c14
                        clear c14
                        have H' := Aside0.mk H
                        clear H
                        have p12 : 0 ≤ (x9_2 : Int) := of_decide_eq_true (by first | (with_reducible assumption) | assumption)
                        have q12 : x9_2 < (a0.size : Int) := of_decide_eq_true (by first | (with_reducible assumption) | assumption)
                        have hx12 := bt_at a0 x9_2
                        replace p12 := eq_true p12
                        replace q12 := eq_true q12
                        go_wp2_with (first | ((with_reducible refine gate_callee (f := 36) rfl ?_); refine goesL_ (some 42) rfl rfl Try.func36 (by kernel_rfl) rfl #[.int .u8 (bt a0 x9_2)] rfl (by (try simp only [List.map_toArray, List.map_cons, List.map_nil]); first | done | rfl | (simp only [List.length_drop, List.length_take]; rfl)) ?_; (with_reducible refine (pilcrowref11_Worth.calls k2 (bt a0 x9_2) t218 _ A13.out).mono ?_); rintro e w16 ⟨rfl, hb⟩; refine ⟨_, rfl, ?_⟩; have n0_ := Aside0.mk (below_step (by repeat (first | (with_reducible first | exact HB.out | apply below_alloc | apply pw_below_drewN | apply below_drew1) | exact HB.out)) hb); clear HB; have HB := n0_; clear n0_; (try clear hb); (try clear hb2); (try clear hk); (try clear hi)))
                        go_roundg k2
                        case measure => have := HJ5.out; have := HK2.out; omega
                        case rel => exact ⟨(wrap64 ((wrap64 (243 * x7_2)) + t218)), (wrap64 ((wrap64 (243 * x8_2)) + t218)), (wrap64 (x9_2 + 1)), (by first | rfl | (simp; done) | (simp [*]; done)), (by first | rfl | (simp; done) | (simp [*]; done)), (by first | rfl | (simp; done) | (simp [*]; done)), H', ⟨by have := HJ5.out; have := HK2.out; omega⟩, ⟨by repeat (first | (with_reducible first | exact HB.out | apply below_alloc | apply pw_below_drewN | apply below_drew1) | exact HB.out)⟩⟩
                    · rw [if_neg c11] at H
                      exact absurd H (by simp)
                  · rw [if_neg c10] at H
                    have c10b0 : decide (x9_2 < (a0.size : Int)) = false := decide_eq_false c10
                    clear c10
                    have H' := Aside0.mk H
                    clear H
                    go_wp2
                    go_roundg k2
                    case measure => have := HJ5.out; have := HK2.out; omega
                    case rel => exact ⟨(wrap64 ((wrap64 (243 * x7_2)) + 0)), (wrap64 ((wrap64 (243 * x8_2)) + 242)), (wrap64 (x9_2 + 1)), (by first | rfl | (simp; done) | (simp [*]; done)), (by first | rfl | (simp; done) | (simp [*]; done)), (by first | rfl | (simp; done) | (simp [*]; done)), H', ⟨by have := HJ5.out; have := HK2.out; omega⟩, ⟨by repeat (first | (with_reducible first | exact HB.out | apply below_alloc | apply pw_below_drewN | apply below_drew1) | exact HB.out)⟩⟩
                · rw [if_neg c9] at H
                  have c9b0 : decide (x9_2 ≤ t217) = false := decide_eq_false c9
                  clear c9
                  simp only [Option.some.injEq, Prod.mk.injEq] at H
                  obtain ⟨rfl, rfl, rfl⟩ := H
                  go_wp2
                  go_ret3
                  exact ⟨by first | rfl | (simp [errW_none, errW_some] <;> rfl) | (simp [*, errW_none, errW_some] <;> rfl), by repeat (first | (with_reducible first | exact HB.out | apply below_alloc | apply pw_below_drewN | apply below_drew1) | exact HB.out)⟩
    · rw [if_neg c3] at H
      exact absurd H (by simp)

/-! ### pilcrowref12_Least: function 53 -/
mutual
def pilcrowref12_Least.j0 : Nat → Int → Int → Option (Int)
  | 0, _, _ => none
  | k + 1, x0, x1 => if x0 ≥ 55296 then (pilcrowref12_Least.j1 k x0 x1 (decide (x0 ≤ 57343))) else (pilcrowref12_Least.j1 k x0 x1 false)
def pilcrowref12_Least.j1 : Nat → Int → Int → Bool → Option (Int)
  | 0, _, _, _ => none
  | k + 1, x0, x1, x12 => if x12 = true then (if 57344 > x1 then (some (-1)) else (if 57344 > 1114111 then (some (-1)) else (some 57344))) else (if x0 > x1 then (some (-1)) else (if x0 > 1114111 then (some (-1)) else (some x0)))
end
def pilcrowref12_Least.f (k : Nat) (a0 : Int) (a1 : Int) : Option (Int) := if a0 < 33 then (pilcrowref12_Least.j0 k 33 a1) else (pilcrowref12_Least.j0 k a0 a1)
theorem pilcrowref12_Least.mono_l : ∀ k, (∀ y0 y1, LeO (pilcrowref12_Least.j0 k y0 y1) (pilcrowref12_Least.j0 (k + 1) y0 y1)) ∧ (∀ y0 y1 y2, LeO (pilcrowref12_Least.j1 k y0 y1 y2) (pilcrowref12_Least.j1 (k + 1) y0 y1 y2))
  | 0 => ⟨fun _ _ r h => by simp [pilcrowref12_Least.j0] at h, fun _ _ _ r h => by simp [pilcrowref12_Least.j1] at h⟩
  | k + 1 => by
    obtain ⟨ih0, ih1⟩ := pilcrowref12_Least.mono_l k
    refine ⟨?_, ?_⟩
    · intro y0 y1
      unfold pilcrowref12_Least.j0
      repeat' first
      | (with_reducible exact ih0 _ _)
      | (with_reducible exact ih1 _ _ _)
      | (with_reducible exact LeO.refl _)
      | (with_reducible exact LeO.none _)
      | (with_reducible refine LeO.ite ?_ ?_)
      | (with_reducible refine LeO.bind ?_ (fun _ => ?_))
      | exact ih0 _ _
      | exact ih1 _ _ _
      | exact LeO.none _
      | refine LeO.ite ?_ ?_
      | refine LeO.bind ?_ (fun _ => ?_)
    · intro y0 y1 y2
      unfold pilcrowref12_Least.j1
      repeat' first
      | (with_reducible exact ih0 _ _)
      | (with_reducible exact ih1 _ _ _)
      | (with_reducible exact LeO.refl _)
      | (with_reducible exact LeO.none _)
      | (with_reducible refine LeO.ite ?_ ?_)
      | (with_reducible refine LeO.bind ?_ (fun _ => ?_))
      | exact ih0 _ _
      | exact ih1 _ _ _
      | exact LeO.none _
      | refine LeO.ite ?_ ?_
      | refine LeO.bind ?_ (fun _ => ?_)
theorem pilcrowref12_Least.mono : ∀ a0 a1 k, LeO (pilcrowref12_Least.f k a0 a1) (pilcrowref12_Least.f (k + 1) a0 a1) := by
  intro a0 a1 k
  obtain ⟨ih0, ih1⟩ := pilcrowref12_Least.mono_l k
  unfold pilcrowref12_Least.f
  repeat' first
      | (with_reducible exact ih0 _ _)
      | (with_reducible exact ih1 _ _ _)
      | (with_reducible exact LeO.refl _)
      | (with_reducible exact LeO.none _)
      | (with_reducible refine LeO.ite ?_ ?_)
      | (with_reducible refine LeO.bind ?_ (fun _ => ?_))
      | exact ih0 _ _
      | exact ih1 _ _ _
      | exact LeO.none _
      | refine LeO.ite ?_ ?_
      | refine LeO.bind ?_ (fun _ => ?_)
set_option maxHeartbeats 8000000 in
set_option maxRecDepth 100000 in
theorem pilcrowref12_Least.calls (k : Nat) (a0 : Int) (a1 : Int) (r : Int) (w : World) (h : pilcrowref12_Least.f k a0 a1 = some r) :
    Calls Try.prog 53 #[.int .i64 a0, .int .i64 a1] w fun e w' => e = .returned (.int .i64 r) ∧ Drawn0 w w' := by
  have H : (if a0 < 33 then (pilcrowref12_Least.j0 k 33 a1) else (pilcrowref12_Least.j0 k a0 a1)) = some r := h
  clear h
  have HC3 := Aside0.mk H
  clear H
  go_enter Try.func53, Try.ntmps53
  go_upto_if 6 with (fail)
  go_cut [0] (fun v0 wc => ∃ (kq : Nat) (x0_2 : Int), v0 = .int .i64 x0_2 ∧ Aside0 (pilcrowref12_Least.j0 kq x0_2 a1 = some r) ∧ Aside0 (kq ≤ k) ∧ Drawn0 w wc)
  case first =>
    have H := HC3.out
    clear HC3
    by_cases c4 : a0 < 33
    · rw [if_pos c4] at H
      have c4b0 : decide (a0 < 33) = true := decide_eq_true c4
      clear c4
      (first | rw [c4b0] | (simp only [i64_w, i32_w]; rw [c4b0]) | skip)
      have H' := Aside0.mk H
      clear H
      go_wp2
      go_meet
      case rel => exact ⟨_, (33), (by first | rfl | (simp; done) | (simp [*]; done)), H', ⟨by first | omega | exact Nat.le_refl _⟩, by repeat (first | exact Drawn0.refl _ | apply Drawn0.step)⟩
    · rw [if_neg c4] at H
      have c4b0 : decide (a0 < 33) = false := decide_eq_false c4
      clear c4
      (first | rw [c4b0] | (simp only [i64_w, i32_w]; rw [c4b0]) | skip)
      have H' := Aside0.mk H
      clear H
      go_wp2
      go_meet
      case rel => exact ⟨_, (a0), (by first | rfl | (simp; done) | (simp [*]; done)), H', ⟨by first | omega | exact Nat.le_refl _⟩, by repeat (first | exact Drawn0.refl _ | apply Drawn0.step)⟩
  case rest =>
    clear HC3
    try clear p2
    try clear c4
    try clear c4b0
    obtain ⟨kq, x0_2, rfl, HA, HJ2, ⟨mc2, rfl⟩⟩ := hcut
    cases kq with
    | zero => exact absurd HA.out (by simp [pilcrowref12_Least.j0])
    | succ kj2 =>
      have H := HA.out
      clear HA
      simp only [pilcrowref12_Least.j0] at H
      have HC5 := Aside0.mk H
      clear H
      go_upto_region 3 with (fail)
      go_cut [12] (fun v12 wc => ∃ (kq : Nat) (x12_4 : Bool), v12 = .bool x12_4 ∧ Aside0 (pilcrowref12_Least.j1 kq x0_2 a1 x12_4 = some r) ∧ Aside0 (kq ≤ kj2) ∧ Drawn0 w wc)
      case first =>
        have H := HC5.out
        clear HC5
        by_cases c6 : x0_2 ≥ 55296
        · rw [if_pos c6] at H
          have c6b0 : decide (55296 ≤ x0_2) = true := decide_eq_true c6
          clear c6
          (first | rw [c6b0] | (simp only [i64_w, i32_w]; rw [c6b0]) | skip)
          have H' := Aside0.mk H
          clear H
          go_wp2
          go_meet
          case rel => exact ⟨_, (decide (x0_2 ≤ 57343)), (by first | rfl | (simp; done) | (simp [*]; done)), H', ⟨by have := HJ2.out; first | omega | exact Nat.le_refl _⟩, by repeat (first | exact Drawn0.refl _ | apply Drawn0.step)⟩
        · rw [if_neg c6] at H
          have c6b0 : decide (55296 ≤ x0_2) = false := decide_eq_false c6
          clear c6
          (first | rw [c6b0] | (simp only [i64_w, i32_w]; rw [c6b0]) | skip)
          have H' := Aside0.mk H
          clear H
          go_wp2
          go_meet
          case rel => exact ⟨_, (false), (by first | rfl | (simp; done) | (simp [*]; done)), H', ⟨by have := HJ2.out; first | omega | exact Nat.le_refl _⟩, by repeat (first | exact Drawn0.refl _ | apply Drawn0.step)⟩
      case rest =>
        clear HC5
        try clear c2
        try clear p2
        try clear c4
        try clear c4b0
        try clear c5
        try clear c6
        try clear c6b0
        try clear p2
        obtain ⟨kq, x12_4, rfl, HA, HJ4, ⟨mc4, rfl⟩⟩ := hcut
        cases kq with
        | zero => exact absurd HA.out (by simp [pilcrowref12_Least.j1])
        | succ kj4 =>
          have H := HA.out
          clear HA
          simp only [pilcrowref12_Least.j1] at H
          by_cases c7 : x12_4 = true
          · subst c7
            have H1 : (if 57344 > a1 then (some (-1)) else (if 57344 > 1114111 then (some (-1)) else (some 57344))) = some r := by rw [if_pos rfl] at H; exact H
            clear H
            have H := H1
            clear H1
            by_cases c8 : 57344 > a1
            · rw [if_pos c8] at H
              have c8b0 : decide (a1 < 57344) = true := decide_eq_true c8
              clear c8
              obtain rfl := Option.some.inj H
              go_wp2
              go_ret
              exact ⟨by first | rfl | (simp; done) | (simp [*]; done) | (simp; generalize Int.tdiv _ 128 = y; omega) | (simp; omega) | (simp at * <;> omega), by repeat (first | exact Drawn0.refl _ | apply Drawn0.step)⟩
            · rw [if_neg c8] at H
              have c8b0 : decide (a1 < 57344) = false := decide_eq_false c8
              clear c8
              by_cases c9 : 57344 > 1114111
              · rw [if_pos c9] at H
                have c9b0 : decide (1114111 < 57344) = true := decide_eq_true c9
                clear c9
                obtain rfl := Option.some.inj H
                go_wp2
                go_ret
                exact ⟨by first | rfl | (simp; done) | (simp [*]; done) | (simp; generalize Int.tdiv _ 128 = y; omega) | (simp; omega) | (simp at * <;> omega), by repeat (first | exact Drawn0.refl _ | apply Drawn0.step)⟩
              · rw [if_neg c9] at H
                have c9b0 : decide (1114111 < 57344) = false := decide_eq_false c9
                clear c9
                obtain rfl := Option.some.inj H
                go_wp2
                go_ret
                exact ⟨by first | rfl | (simp; done) | (simp [*]; done) | (simp; generalize Int.tdiv _ 128 = y; omega) | (simp; omega) | (simp at * <;> omega), by repeat (first | exact Drawn0.refl _ | apply Drawn0.step)⟩
          · replace c7 := Bool.eq_false_iff.mpr c7
            subst c7
            have H1 : (if x0_2 > a1 then (some (-1)) else (if x0_2 > 1114111 then (some (-1)) else (some x0_2))) = some r := by rw [if_neg (show ¬ (false = true) by decide)] at H; exact H
            clear H
            have H := H1
            clear H1
            by_cases c10 : x0_2 > a1
            · rw [if_pos c10] at H
              have c10b0 : decide (a1 < x0_2) = true := decide_eq_true c10
              clear c10
              obtain rfl := Option.some.inj H
              go_wp2
              go_ret
              exact ⟨by first | rfl | (simp; done) | (simp [*]; done) | (simp; generalize Int.tdiv _ 128 = y; omega) | (simp; omega) | (simp at * <;> omega), by repeat (first | exact Drawn0.refl _ | apply Drawn0.step)⟩
            · rw [if_neg c10] at H
              have c10b0 : decide (a1 < x0_2) = false := decide_eq_false c10
              clear c10
              by_cases c11 : x0_2 > 1114111
              · rw [if_pos c11] at H
                have c11b0 : decide (1114111 < x0_2) = true := decide_eq_true c11
                clear c11
                obtain rfl := Option.some.inj H
                go_wp2
                go_ret
                exact ⟨by first | rfl | (simp; done) | (simp [*]; done) | (simp; generalize Int.tdiv _ 128 = y; omega) | (simp; omega) | (simp at * <;> omega), by repeat (first | exact Drawn0.refl _ | apply Drawn0.step)⟩
              · rw [if_neg c11] at H
                have c11b0 : decide (1114111 < x0_2) = false := decide_eq_false c11
                clear c11
                obtain rfl := Option.some.inj H
                go_wp2
                go_ret
                exact ⟨by first | rfl | (simp; done) | (simp [*]; done) | (simp; generalize Int.tdiv _ 128 = y; omega) | (simp; omega) | (simp at * <;> omega), by repeat (first | exact Drawn0.refl _ | apply Drawn0.step)⟩

/-! ### pilcrowref12_Run: function 38 -/
mutual
def pilcrowref12_Run.l0 : Nat → ByteArray → List Int → Int → ByteArray → Int → Int → Option (List Int × Int × Int × ByteArray)
  | 0, _, _, _, _, _, _ => none
  | k + 1, x0, x6, x7, x8, x9, x10 => if x10 < (x0.size : Int) then (if 0 ≤ x10 then (if x9 = x10 then (pilcrowref12_Run.j1 k x0 x6 x7 x8 x9 x10 (bt x0 x10) ((bt x0 x10) == 255)) else (pilcrowref12_Run.j1 k x0 x6 x7 x8 x9 x10 (bt x0 x10) false)) else (none)) else (if x9 < (x0.size : Int) then (some (x6, 4, (x0.size : Int), x8)) else (some (x6, 0, (x0.size : Int), (⟨#[]⟩ : ByteArray))))
def pilcrowref12_Run.j1 : Nat → ByteArray → List Int → Int → ByteArray → Int → Int → Int → Bool → Option (List Int × Int × Int × ByteArray)
  | 0, _, _, _, _, _, _, _, _ => none
  | k + 1, x0, x6, x7, x8, x9, x10, x11, x32 => if x32 = true then (pilcrowref12_Run.l0 k x0 x6 64 x8 (wrap64 (x10 + 1)) (wrap64 (x10 + 1))) else (if x9 = x10 then (pilcrowref12_Run.j2 k x0 x6 x7 x8 x9 x10 x11 (decide (x11 ≤ 32))) else (pilcrowref12_Run.j2 k x0 x6 x7 x8 x9 x10 x11 false))
def pilcrowref12_Run.j2 : Nat → ByteArray → List Int → Int → ByteArray → Int → Int → Int → Bool → Option (List Int × Int × Int × ByteArray)
  | 0, _, _, _, _, _, _, _, _ => none
  | k + 1, x0, x6, x7, x8, x9, x10, x11, x41 => if x41 = true then (if x6.length < 35184372088832 then ((some (x6 ++ [(x11) % 4294967296] : List Int)).bind fun y222 => (if x11 = 32 then (pilcrowref12_Run.l0 k x0 y222 x7 x8 (wrap64 (x10 + 1)) (wrap64 (x10 + 1))) else (pilcrowref12_Run.l0 k x0 y222 64 x8 (wrap64 (x10 + 1)) (wrap64 (x10 + 1))))) else (none)) else (if 0 ≤ x9 then (if x9 ≤ (wrap64 (x10 + 1)) then (if (wrap64 (x10 + 1)) ≤ (x0.size : Int) then ((pilcrowref11_Range.f k (x0.extract (x9 : Int).toNat ((wrap64 (x10 + 1)) : Int).toNat)).bind fun bt225 => (if bt225.2.2 > 0 then ((pilcrowref12_Least.f k (wrap64 (x7 + bt225.1)) (wrap64 (x7 + bt225.2.1))).bind fun t228 => (pilcrowref12_Run.j3 k x0 x6 x7 x8 x9 x10 bt225.2.2 t228)) else (pilcrowref12_Run.j3 k x0 x6 x7 x8 x9 x10 bt225.2.2 (-1)))) else (none)) else (none)) else (none))
def pilcrowref12_Run.j3 : Nat → ByteArray → List Int → Int → ByteArray → Int → Int → Int → Int → Option (List Int × Int × Int × ByteArray)
  | 0, _, _, _, _, _, _, _, _ => none
  | k + 1, x0, x6, x7, x8, x9, x10, x14, x15 => if x15 < 0 then (some (x6, 3, x10, x8)) else ((pilcrowref11_Pack.f k (wrap64 (x15 - x7))).bind fun t229 => (if 0 ≤ (wrap64 ((wrap64 (x10 + 1)) - x9)) then (if (wrap64 ((wrap64 (x10 + 1)) - x9)) ≤ (t229.size : Int) then (if (wrap64 ((wrap64 (x10 + 1)) - x9)) = x14 then (if x6.length < 35184372088832 then ((pilcrowref11_Prev.f k ((x15) % 4294967296)).bind fun t233 => (pilcrowref12_Run.l0 k x0 (x6 ++ [(x15) % 4294967296]) (wrap64 (t233)) (t229.extract ((wrap64 ((wrap64 (x10 + 1)) - x9)) : Int).toNat t229.size) (wrap64 (x10 + 1)) (wrap64 (x10 + 1)))) else (none)) else (pilcrowref12_Run.l0 k x0 x6 x7 (t229.extract ((wrap64 ((wrap64 (x10 + 1)) - x9)) : Int).toNat t229.size) x9 (wrap64 (x10 + 1)))) else (none)) else (none)))
end
def pilcrowref12_Run.f (k : Nat) (a0 : ByteArray) : Option (List Int × Int × Int × ByteArray) := pilcrowref12_Run.l0 k a0 (([] : List Int)) 64 (⟨#[]⟩ : ByteArray) 0 0
theorem pilcrowref12_Run.mono_l : ∀ k, (∀ y0 y1 y2 y3 y4 y5, LeO (pilcrowref12_Run.l0 k y0 y1 y2 y3 y4 y5) (pilcrowref12_Run.l0 (k + 1) y0 y1 y2 y3 y4 y5)) ∧ (∀ y0 y1 y2 y3 y4 y5 y6 y7, LeO (pilcrowref12_Run.j1 k y0 y1 y2 y3 y4 y5 y6 y7) (pilcrowref12_Run.j1 (k + 1) y0 y1 y2 y3 y4 y5 y6 y7)) ∧ (∀ y0 y1 y2 y3 y4 y5 y6 y7, LeO (pilcrowref12_Run.j2 k y0 y1 y2 y3 y4 y5 y6 y7) (pilcrowref12_Run.j2 (k + 1) y0 y1 y2 y3 y4 y5 y6 y7)) ∧ (∀ y0 y1 y2 y3 y4 y5 y6 y7, LeO (pilcrowref12_Run.j3 k y0 y1 y2 y3 y4 y5 y6 y7) (pilcrowref12_Run.j3 (k + 1) y0 y1 y2 y3 y4 y5 y6 y7))
  | 0 => ⟨fun _ _ _ _ _ _ r h => by simp [pilcrowref12_Run.l0] at h, fun _ _ _ _ _ _ _ _ r h => by simp [pilcrowref12_Run.j1] at h, fun _ _ _ _ _ _ _ _ r h => by simp [pilcrowref12_Run.j2] at h, fun _ _ _ _ _ _ _ _ r h => by simp [pilcrowref12_Run.j3] at h⟩
  | k + 1 => by
    obtain ⟨ih0, ih1, ih2, ih3⟩ := pilcrowref12_Run.mono_l k
    refine ⟨?_, ?_, ?_, ?_⟩
    · intro y0 y1 y2 y3 y4 y5
      unfold pilcrowref12_Run.l0
      repeat' first
      | (with_reducible exact ih0 _ _ _ _ _ _)
      | (with_reducible exact ih1 _ _ _ _ _ _ _ _)
      | (with_reducible exact ih2 _ _ _ _ _ _ _ _)
      | (with_reducible exact ih3 _ _ _ _ _ _ _ _)
      | (with_reducible exact pilcrowref11_Pack.mono _ _)
      | (with_reducible exact pilcrowref11_Prev.mono _ _)
      | (with_reducible exact pilcrowref11_Range.mono _ _)
      | (with_reducible exact pilcrowref12_Least.mono _ _ _)
      | (with_reducible exact LeO.refl _)
      | (with_reducible exact LeO.none _)
      | (with_reducible refine LeO.ite ?_ ?_)
      | (with_reducible refine LeO.bind ?_ (fun _ => ?_))
      | exact ih0 _ _ _ _ _ _
      | exact ih1 _ _ _ _ _ _ _ _
      | exact ih2 _ _ _ _ _ _ _ _
      | exact ih3 _ _ _ _ _ _ _ _
      | exact pilcrowref11_Pack.mono _ _
      | exact pilcrowref11_Prev.mono _ _
      | exact pilcrowref11_Range.mono _ _
      | exact pilcrowref12_Least.mono _ _ _
      | exact LeO.none _
      | refine LeO.ite ?_ ?_
      | refine LeO.bind ?_ (fun _ => ?_)
    · intro y0 y1 y2 y3 y4 y5 y6 y7
      unfold pilcrowref12_Run.j1
      repeat' first
      | (with_reducible exact ih0 _ _ _ _ _ _)
      | (with_reducible exact ih1 _ _ _ _ _ _ _ _)
      | (with_reducible exact ih2 _ _ _ _ _ _ _ _)
      | (with_reducible exact ih3 _ _ _ _ _ _ _ _)
      | (with_reducible exact pilcrowref11_Pack.mono _ _)
      | (with_reducible exact pilcrowref11_Prev.mono _ _)
      | (with_reducible exact pilcrowref11_Range.mono _ _)
      | (with_reducible exact pilcrowref12_Least.mono _ _ _)
      | (with_reducible exact LeO.refl _)
      | (with_reducible exact LeO.none _)
      | (with_reducible refine LeO.ite ?_ ?_)
      | (with_reducible refine LeO.bind ?_ (fun _ => ?_))
      | exact ih0 _ _ _ _ _ _
      | exact ih1 _ _ _ _ _ _ _ _
      | exact ih2 _ _ _ _ _ _ _ _
      | exact ih3 _ _ _ _ _ _ _ _
      | exact pilcrowref11_Pack.mono _ _
      | exact pilcrowref11_Prev.mono _ _
      | exact pilcrowref11_Range.mono _ _
      | exact pilcrowref12_Least.mono _ _ _
      | exact LeO.none _
      | refine LeO.ite ?_ ?_
      | refine LeO.bind ?_ (fun _ => ?_)
    · intro y0 y1 y2 y3 y4 y5 y6 y7
      unfold pilcrowref12_Run.j2
      repeat' first
      | (with_reducible exact ih0 _ _ _ _ _ _)
      | (with_reducible exact ih1 _ _ _ _ _ _ _ _)
      | (with_reducible exact ih2 _ _ _ _ _ _ _ _)
      | (with_reducible exact ih3 _ _ _ _ _ _ _ _)
      | (with_reducible exact pilcrowref11_Pack.mono _ _)
      | (with_reducible exact pilcrowref11_Prev.mono _ _)
      | (with_reducible exact pilcrowref11_Range.mono _ _)
      | (with_reducible exact pilcrowref12_Least.mono _ _ _)
      | (with_reducible exact LeO.refl _)
      | (with_reducible exact LeO.none _)
      | (with_reducible refine LeO.ite ?_ ?_)
      | (with_reducible refine LeO.bind ?_ (fun _ => ?_))
      | exact ih0 _ _ _ _ _ _
      | exact ih1 _ _ _ _ _ _ _ _
      | exact ih2 _ _ _ _ _ _ _ _
      | exact ih3 _ _ _ _ _ _ _ _
      | exact pilcrowref11_Pack.mono _ _
      | exact pilcrowref11_Prev.mono _ _
      | exact pilcrowref11_Range.mono _ _
      | exact pilcrowref12_Least.mono _ _ _
      | exact LeO.none _
      | refine LeO.ite ?_ ?_
      | refine LeO.bind ?_ (fun _ => ?_)
    · intro y0 y1 y2 y3 y4 y5 y6 y7
      unfold pilcrowref12_Run.j3
      repeat' first
      | (with_reducible exact ih0 _ _ _ _ _ _)
      | (with_reducible exact ih1 _ _ _ _ _ _ _ _)
      | (with_reducible exact ih2 _ _ _ _ _ _ _ _)
      | (with_reducible exact ih3 _ _ _ _ _ _ _ _)
      | (with_reducible exact pilcrowref11_Pack.mono _ _)
      | (with_reducible exact pilcrowref11_Prev.mono _ _)
      | (with_reducible exact pilcrowref11_Range.mono _ _)
      | (with_reducible exact pilcrowref12_Least.mono _ _ _)
      | (with_reducible exact LeO.refl _)
      | (with_reducible exact LeO.none _)
      | (with_reducible refine LeO.ite ?_ ?_)
      | (with_reducible refine LeO.bind ?_ (fun _ => ?_))
      | exact ih0 _ _ _ _ _ _
      | exact ih1 _ _ _ _ _ _ _ _
      | exact ih2 _ _ _ _ _ _ _ _
      | exact ih3 _ _ _ _ _ _ _ _
      | exact pilcrowref11_Pack.mono _ _
      | exact pilcrowref11_Prev.mono _ _
      | exact pilcrowref11_Range.mono _ _
      | exact pilcrowref12_Least.mono _ _ _
      | exact LeO.none _
      | refine LeO.ite ?_ ?_
      | refine LeO.bind ?_ (fun _ => ?_)
theorem pilcrowref12_Run.mono : ∀ a0 k, LeO (pilcrowref12_Run.f k a0) (pilcrowref12_Run.f (k + 1) a0) := by
  intro a0 k
  obtain ⟨ih0, ih1, ih2, ih3⟩ := pilcrowref12_Run.mono_l k
  unfold pilcrowref12_Run.f
  repeat' first
      | (with_reducible exact ih0 _ _ _ _ _ _)
      | (with_reducible exact ih1 _ _ _ _ _ _ _ _)
      | (with_reducible exact ih2 _ _ _ _ _ _ _ _)
      | (with_reducible exact ih3 _ _ _ _ _ _ _ _)
      | (with_reducible exact pilcrowref11_Pack.mono _ _)
      | (with_reducible exact pilcrowref11_Prev.mono _ _)
      | (with_reducible exact pilcrowref11_Range.mono _ _)
      | (with_reducible exact pilcrowref12_Least.mono _ _ _)
      | (with_reducible exact LeO.refl _)
      | (with_reducible exact LeO.none _)
      | (with_reducible refine LeO.ite ?_ ?_)
      | (with_reducible refine LeO.bind ?_ (fun _ => ?_))
      | exact ih0 _ _ _ _ _ _
      | exact ih1 _ _ _ _ _ _ _ _
      | exact ih2 _ _ _ _ _ _ _ _
      | exact ih3 _ _ _ _ _ _ _ _
      | exact pilcrowref11_Pack.mono _ _
      | exact pilcrowref11_Prev.mono _ _
      | exact pilcrowref11_Range.mono _ _
      | exact pilcrowref12_Least.mono _ _ _
      | exact LeO.none _
      | refine LeO.ite ?_ ?_
      | refine LeO.bind ?_ (fun _ => ?_)
set_option maxHeartbeats 8000000 in
set_option maxRecDepth 100000 in
theorem pilcrowref12_Run.calls (k : Nat) (a0 : ByteArray) (r1 : List Int) (r2 : Int) (r3 : Int) (r4 : ByteArray) (w : World) (h : pilcrowref12_Run.f k a0 = some (r1, r2, r3, r4)) :
    Calls Try.prog 38 #[.string a0] w fun e w' => ∃ v0_ : Value, e = .returned (.tuple #[v0_, .int .i64 r2, .int .i64 r3, .string r4]) ∧ Kd.R (Kd.int .u32) 34 w' w.heap.size (fun _ => True) v0_ r1 ∧ Below w.heap.size w w' := by
  have HB := Aside0.mk (Below.refl w.heap.size w)
  have H : (pilcrowref12_Run.l0 k a0 (([] : List Int)) 64 (⟨#[]⟩ : ByteArray) 0 0) = some (r1, r2, r3, r4) := h
  clear h
  obtain ⟨y219, hy219⟩ : ∃ y_ : List Int, y_ = (([] : List Int)) := ⟨_, rfl⟩
  replace H : (pilcrowref12_Run.l0 k a0 y219 64 (⟨#[]⟩ : ByteArray) 0 0) = some (r1, r2, r3, r4) := by first | (rw [hy219]; with_reducible exact H) | (have H2_ := (Option.bind_some _ _).symm.trans H; rw [hy219]; with_reducible exact H2_) | (have H2_ := (Option.bind_some _ _).symm.trans H; with_reducible exact H2_) | with_reducible exact H | (rw [hy219]; exact H) | exact H
  have Ny219 := Aside0.mk hy219
  clear hy219
  have H' := Aside0.mk H
  clear H
  go_enter Try.func38, Try.ntmps38
  go_wp2_with (first | ((with_reducible refine gate_dst (N := 16) rfl ?_); refine Kd.R_lit (Kd.int .u32) _ 34 ?hg (N := 16) ?hd (xs := ([] : List Int)) (inner := []) (ok := fun _ => True) (okp := fun _ => True) ?hr ?hp (fun _ hk => hk) trivial (Below.refl _ _) (Nat.le_refl _) (by simp) ?_; (case hd => rfl); (case hg => rfl); (case hr => first | (go_simp; done) | (go_simp; rfl)); (case hp => exact (Reps.none _ _)); intro v220 w2 ho3 hb hg_ hnew_; clear hg_ hnew_; (first | rw [← Ny219.out] at ho3 | (simp only [Int.reduceToNat] at ho3; rw [← Ny219.out] at ho3)); have n0_ := Aside0.mk (Kd.R_lower ho3 (below_size (by repeat (first | (with_reducible first | exact HB.out | apply below_alloc | apply pw_below_drewN | apply below_drew1) | exact HB.out)))); have n1_ := Aside0.mk (below_step (by repeat (first | (with_reducible first | exact HB.out | apply below_alloc | apply pw_below_drewN | apply below_drew1) | exact HB.out)) hb); clear HB; have HO221 := n0_; have HB := n1_; clear n0_ n1_; clear hb ho3))
  go_loopg [6, 7, 8, 9, 10] k (fun kq v6 v7 v8 v9 v10 w' => ∃ (x6_1 : List Int) (x7_1 : Int) (x8_1 : ByteArray) (x9_1 : Int) (x10_1 : Int), v7 = .int .i64 x7_1 ∧ v8 = .string x8_1 ∧ v9 = .int .i64 x9_1 ∧ v10 = .int .i64 x10_1 ∧ Aside0 (pilcrowref12_Run.l0 kq a0 x6_1 x7_1 x8_1 x9_1 x10_1 = some (r1, r2, r3, r4)) ∧ Aside0 (kq ≤ k) ∧ Aside0 (Kd.R (Kd.int .u32) 34 w' w.heap.size (fun _ => True) v6 x6_1) ∧ Aside0 (Below w.heap.size w w'))
  case atStart => exact ⟨(y219), (64), ((⟨#[]⟩ : ByteArray)), (0), (0), (by first | rfl | (simp; done) | (simp [*]; done)), (by first | rfl | (simp; done) | (simp [*]; done)), (by first | rfl | (simp; done) | (simp [*]; done)), (by first | rfl | (simp; done) | (simp [*]; done)), H', ⟨Nat.le_refl _⟩, ⟨by (with_reducible repeat (first | apply Kd.R_alloc | apply Kd.R_drewN | apply Kd.R_drew)); exact HO221.out⟩, ⟨by repeat (first | (with_reducible first | exact HB.out | apply below_alloc | apply pw_below_drewN | apply below_drew1) | exact HB.out)⟩⟩
  case round =>
    clear H'
    try clear p2
    try clear c3
    obtain ⟨x6_1, x7_1, x8_1, x9_1, x10_1, rfl, rfl, rfl, rfl, HA, HK1, HO_6, HB⟩ := hrel
    cases gk with
    | zero => exact absurd HA.out (by simp [pilcrowref12_Run.l0])
    | succ k1 =>
      have H := HA.out
      clear HA
      simp only [pilcrowref12_Run.l0] at H
      by_cases c4 : x10_1 < (a0.size : Int)
      · rw [if_pos c4] at H
        have c4b0 : decide (x10_1 < (a0.size : Int)) = true := decide_eq_true c4
        clear c4
        by_cases c5 : 0 ≤ x10_1
        · rw [if_pos c5] at H
          have c5b0 : decide (0 ≤ x10_1) = true := decide_eq_true c5
          clear c5
          have HC7 := Aside0.mk H
          clear H
          have p6 : 0 ≤ (x10_1 : Int) := of_decide_eq_true (by first | (with_reducible assumption) | assumption)
          have q6 : x10_1 < (a0.size : Int) := of_decide_eq_true (by first | (with_reducible assumption) | assumption)
          have hx6 := bt_at a0 x10_1
          replace p6 := eq_true p6
          replace q6 := eq_true q6
          go_upto_region 9 with (fail)
          go_cut [32] (fun v32 wc => ∃ (kq : Nat) (x32_6 : Bool), v32 = .bool x32_6 ∧ Aside0 (pilcrowref12_Run.j1 kq a0 x6_1 x7_1 x8_1 x9_1 x10_1 (bt a0 x10_1) x32_6 = some (r1, r2, r3, r4)) ∧ Aside0 (kq ≤ k1) ∧ Aside0 (Kd.R (Kd.int .u32) 34 wc w.heap.size (fun _ => True) u6 x6_1) ∧ Aside0 (Below w.heap.size w wc))
          case first =>
            have H := HC7.out
            clear HC7
            by_cases c8 : x9_1 = x10_1
            · rw [if_pos c8] at H
              have c8b0 : (x9_1 == x10_1) = true := beq_iff_eq.mpr c8
              have c8b1 : (x9_1 != x10_1) = false := bne_eq_false_iff_eq.mpr c8
              clear c8
              (first | rw [c8b0] | (simp only [i64_w, i32_w]; rw [c8b0]) | skip)
              have H' := Aside0.mk H
              clear H
              go_wp2
              go_meet
              case rel => exact ⟨_, (((bt a0 x10_1) == 255)), (by first | rfl | (simp; done) | (simp [*]; done)), H', ⟨by have := HK1.out; first | omega | exact Nat.le_refl _⟩, ⟨by (with_reducible repeat (first | apply Kd.R_alloc | apply Kd.R_drewN | apply Kd.R_drew)); exact HO_6.out⟩, ⟨by repeat (first | (with_reducible first | exact HB.out | apply below_alloc | apply pw_below_drewN | apply below_drew1) | exact HB.out)⟩⟩
            · rw [if_neg c8] at H
              have c8b0 : (x9_1 == x10_1) = false := beq_eq_false_iff_ne.mpr c8
              have c8b1 : (x9_1 != x10_1) = true := bne_iff_ne.mpr c8
              (first | rw [c8b0] | (simp only [i64_w, i32_w]; rw [c8b0]) | skip)
              have H' := Aside0.mk H
              clear H
              go_wp2
              go_meet
              case rel => exact ⟨_, (false), (by first | rfl | (simp; done) | (simp [*]; done)), H', ⟨by have := HK1.out; first | omega | exact Nat.le_refl _⟩, ⟨by (with_reducible repeat (first | apply Kd.R_alloc | apply Kd.R_drewN | apply Kd.R_drew)); exact HO_6.out⟩, ⟨by repeat (first | (with_reducible first | exact HB.out | apply below_alloc | apply pw_below_drewN | apply below_drew1) | exact HB.out)⟩⟩
          case rest =>
            clear HC7
            try clear p2
            try clear c3
            try clear c4
            try clear c4b0
            try clear c5
            try clear c5b0
            try clear p6
            try clear q6
            try clear hx6
            try clear c8
            try clear c8b0
            try clear c8b1
            try clear p2
            try clear p6
            try clear q6
            obtain ⟨kq, x32_6, rfl, HA, HJ6, HO_6, HB⟩ := hcut
            cases kq with
            | zero => exact absurd HA.out (by simp [pilcrowref12_Run.j1])
            | succ kj6 =>
              have H := HA.out
              clear HA
              simp only [pilcrowref12_Run.j1] at H
              by_cases c9 : x32_6 = true
              · subst c9
                have H1 : (pilcrowref12_Run.l0 kj6 a0 x6_1 64 x8_1 (wrap64 (x10_1 + 1)) (wrap64 (x10_1 + 1))) = some (r1, r2, r3, r4) := by rw [if_pos rfl] at H; exact H
                clear H
                have H := H1
                clear H1
                have H' := Aside0.mk H
                clear H
                go_wp2
                go_roundg kj6
                case measure => have := HK1.out; have := HJ6.out; omega
                case rel => exact ⟨(x6_1), (64), (x8_1), (wrap64 (x10_1 + 1)), (wrap64 (x10_1 + 1)), (by first | rfl | (simp; done) | (simp [*]; done)), (by first | rfl | (simp; done) | (simp [*]; done)), (by first | rfl | (simp; done) | (simp [*]; done)), (by first | rfl | (simp; done) | (simp [*]; done)), H', ⟨by have := HK1.out; have := HJ6.out; omega⟩, ⟨by (with_reducible repeat (first | apply Kd.R_alloc | apply Kd.R_drewN | apply Kd.R_drew)); exact HO_6.out⟩, ⟨by repeat (first | (with_reducible first | exact HB.out | apply below_alloc | apply pw_below_drewN | apply below_drew1) | exact HB.out)⟩⟩
              · replace c9 := Bool.eq_false_iff.mpr c9
                subst c9
                have H1 : (if x9_1 = x10_1 then (pilcrowref12_Run.j2 kj6 a0 x6_1 x7_1 x8_1 x9_1 x10_1 (bt a0 x10_1) (decide ((bt a0 x10_1) ≤ 32))) else (pilcrowref12_Run.j2 kj6 a0 x6_1 x7_1 x8_1 x9_1 x10_1 (bt a0 x10_1) false)) = some (r1, r2, r3, r4) := by rw [if_neg (show ¬ (false = true) by decide)] at H; exact H
                clear H
                have H := H1
                clear H1
                have HC10 := Aside0.mk H
                clear H
                go_upto_region 12 with (fail)
                go_cut [41] (fun v41 wc => ∃ (kq : Nat) (x41_9 : Bool), v41 = .bool x41_9 ∧ Aside0 (pilcrowref12_Run.j2 kq a0 x6_1 x7_1 x8_1 x9_1 x10_1 (bt a0 x10_1) x41_9 = some (r1, r2, r3, r4)) ∧ Aside0 (kq ≤ kj6) ∧ Aside0 (Kd.R (Kd.int .u32) 34 wc w.heap.size (fun _ => True) u6 x6_1) ∧ Aside0 (Below w.heap.size w wc))
                case first =>
                  have H := HC10.out
                  clear HC10
                  by_cases c11 : x9_1 = x10_1
                  · rw [if_pos c11] at H
                    have c11b0 : (x9_1 == x10_1) = true := beq_iff_eq.mpr c11
                    have c11b1 : (x9_1 != x10_1) = false := bne_eq_false_iff_eq.mpr c11
                    clear c11
                    (first | rw [c11b0] | (simp only [i64_w, i32_w]; rw [c11b0]) | skip)
                    have H' := Aside0.mk H
                    clear H
                    go_wp2
                    go_meet
                    case rel => exact ⟨_, (decide ((bt a0 x10_1) ≤ 32)), (by first | rfl | (simp; done) | (simp [*]; done)), H', ⟨by have := HK1.out; have := HJ6.out; first | omega | exact Nat.le_refl _⟩, ⟨by (with_reducible repeat (first | apply Kd.R_alloc | apply Kd.R_drewN | apply Kd.R_drew)); exact HO_6.out⟩, ⟨by repeat (first | (with_reducible first | exact HB.out | apply below_alloc | apply pw_below_drewN | apply below_drew1) | exact HB.out)⟩⟩
                  · rw [if_neg c11] at H
                    have c11b0 : (x9_1 == x10_1) = false := beq_eq_false_iff_ne.mpr c11
                    have c11b1 : (x9_1 != x10_1) = true := bne_iff_ne.mpr c11
                    (first | rw [c11b0] | (simp only [i64_w, i32_w]; rw [c11b0]) | skip)
                    have H' := Aside0.mk H
                    clear H
                    go_wp2
                    go_meet
                    case rel => exact ⟨_, (false), (by first | rfl | (simp; done) | (simp [*]; done)), H', ⟨by have := HK1.out; have := HJ6.out; first | omega | exact Nat.le_refl _⟩, ⟨by (with_reducible repeat (first | apply Kd.R_alloc | apply Kd.R_drewN | apply Kd.R_drew)); exact HO_6.out⟩, ⟨by repeat (first | (with_reducible first | exact HB.out | apply below_alloc | apply pw_below_drewN | apply below_drew1) | exact HB.out)⟩⟩
                case rest =>
                  clear HC10
                  try clear c1
                  try clear p2
                  try clear c3
                  try clear c4
                  try clear c4b0
                  try clear c5
                  try clear c5b0
                  try clear p6
                  try clear q6
                  try clear hx6
                  try clear c8
                  try clear c8b0
                  try clear c8b1
                  try clear c9
                  try clear c11
                  try clear c11b0
                  try clear c11b1
                  try clear p2
                  try clear p6
                  try clear q6
                  obtain ⟨kq, x41_9, rfl, HA, HJ9, HO_6, HB⟩ := hcut
                  cases kq with
                  | zero => exact absurd HA.out (by simp [pilcrowref12_Run.j2])
                  | succ kj9 =>
                    have H := HA.out
                    clear HA
                    simp only [pilcrowref12_Run.j2] at H
                    by_cases c12 : x41_9 = true
                    · subst c12
                      have H1 : (if x6_1.length < 35184372088832 then ((some (x6_1 ++ [((bt a0 x10_1)) % 4294967296] : List Int)).bind fun y222 => (if (bt a0 x10_1) = 32 then (pilcrowref12_Run.l0 kj9 a0 y222 x7_1 x8_1 (wrap64 (x10_1 + 1)) (wrap64 (x10_1 + 1))) else (pilcrowref12_Run.l0 kj9 a0 y222 64 x8_1 (wrap64 (x10_1 + 1)) (wrap64 (x10_1 + 1))))) else (none)) = some (r1, r2, r3, r4) := by rw [if_pos rfl] at H; exact H
                      clear H
                      have H := H1
                      clear H1
                      by_cases c13 : x6_1.length < 35184372088832
                      · rw [if_pos c13] at H
                        have LMc13 := Aside0.mk c13
                        clear c13
                        obtain ⟨y222, hy222⟩ : ∃ y_ : List Int, y_ = (x6_1 ++ [((bt a0 x10_1)) % 4294967296]) := ⟨_, rfl⟩
                        replace H : (if (bt a0 x10_1) = 32 then (pilcrowref12_Run.l0 kj9 a0 y222 x7_1 x8_1 (wrap64 (x10_1 + 1)) (wrap64 (x10_1 + 1))) else (pilcrowref12_Run.l0 kj9 a0 y222 64 x8_1 (wrap64 (x10_1 + 1)) (wrap64 (x10_1 + 1)))) = some (r1, r2, r3, r4) := by first | (rw [hy222]; with_reducible exact H) | (have H2_ := (Option.bind_some _ _).symm.trans H; rw [hy222]; with_reducible exact H2_) | (have H2_ := (Option.bind_some _ _).symm.trans H; with_reducible exact H2_) | with_reducible exact H | (rw [hy222]; exact H) | exact H
                        have Ny222 := Aside0.mk hy222
                        clear hy222
                        by_cases c14 : (bt a0 x10_1) = 32
                        · rw [if_pos c14] at H
                          have c14b0 : ((bt a0 x10_1) == 32) = true := beq_iff_eq.mpr c14
                          have c14b1 : ((bt a0 x10_1) != 32) = false := bne_eq_false_iff_eq.mpr c14
                          clear c14
                          have H' := Aside0.mk H
                          clear H
                          go_wp2_with (first | ((with_reducible refine gate_builtin (b := .append) (xs := #[.tmp 42, .tmp 45]) rfl ?_); at_builtin; refine Kd.R_append (Kd.int .u32) (w0 := w) w.heap.size rfl (.tmp 42) (.tmp 45) 22 34 (.int .u32 0) 4 rfl Try.underlying22 info34 rfl (by decide) (by omega) u6 x6_1 (((bt a0 x10_1)) % 4294967296) [.int .u32 (((bt a0 x10_1)) % 4294967296)] (fun _ => True) (fun _ => False) rfl rfl ?aP (fun _ hk => hk.elim) ?aF ?aO ?aB ?aS ?aL ?_; (case aP => exact rfl); (case aB => exact (by repeat (first | (with_reducible first | exact HB.out | apply below_alloc | apply pw_below_drewN | apply below_drew1) | exact HB.out))); (case aF => exact (fun _ _ => trivial)); (case aO => exact (by (with_reducible repeat (first | apply Kd.R_alloc | apply Kd.R_drewN | apply Kd.R_drew)); exact HO_6.out)); (case aS => exact (below_size (by repeat (first | (with_reducible first | exact HB.out | apply below_alloc | apply pw_below_drewN | apply below_drew1) | exact HB.out)))); (case aL => have := LMc13.out; omega); intro v223 w15 ho hb hg hat; rw [← Ny222.out] at ho; have n0_ := Aside0.mk (hb); have n1_ := Aside0.mk (ho); clear HB; clear HO_6; have HB := n0_; have HO224 := n1_; clear n0_ n1_; clear ho hb hg hat))
                          go_roundg kj9
                          case measure => have := HK1.out; have := HJ6.out; have := HJ9.out; omega
                          case rel => exact ⟨(y222), (x7_1), (x8_1), (wrap64 (x10_1 + 1)), (wrap64 (x10_1 + 1)), (by first | rfl | (simp; done) | (simp [*]; done)), (by first | rfl | (simp; done) | (simp [*]; done)), (by first | rfl | (simp; done) | (simp [*]; done)), (by first | rfl | (simp; done) | (simp [*]; done)), H', ⟨by have := HK1.out; have := HJ6.out; have := HJ9.out; omega⟩, ⟨by (with_reducible repeat (first | apply Kd.R_alloc | apply Kd.R_drewN | apply Kd.R_drew)); exact HO224.out⟩, ⟨by repeat (first | (with_reducible first | exact HB.out | apply below_alloc | apply pw_below_drewN | apply below_drew1) | exact HB.out)⟩⟩
                        · rw [if_neg c14] at H
                          have c14b0 : ((bt a0 x10_1) == 32) = false := beq_eq_false_iff_ne.mpr c14
                          have c14b1 : ((bt a0 x10_1) != 32) = true := bne_iff_ne.mpr c14
                          have H' := Aside0.mk H
                          clear H
                          go_wp2_with (first | ((with_reducible refine gate_builtin (b := .append) (xs := #[.tmp 42, .tmp 45]) rfl ?_); at_builtin; refine Kd.R_append (Kd.int .u32) (w0 := w) w.heap.size rfl (.tmp 42) (.tmp 45) 22 34 (.int .u32 0) 4 rfl Try.underlying22 info34 rfl (by decide) (by omega) u6 x6_1 (((bt a0 x10_1)) % 4294967296) [.int .u32 (((bt a0 x10_1)) % 4294967296)] (fun _ => True) (fun _ => False) rfl rfl ?aP (fun _ hk => hk.elim) ?aF ?aO ?aB ?aS ?aL ?_; (case aP => exact rfl); (case aB => exact (by repeat (first | (with_reducible first | exact HB.out | apply below_alloc | apply pw_below_drewN | apply below_drew1) | exact HB.out))); (case aF => exact (fun _ _ => trivial)); (case aO => exact (by (with_reducible repeat (first | apply Kd.R_alloc | apply Kd.R_drewN | apply Kd.R_drew)); exact HO_6.out)); (case aS => exact (below_size (by repeat (first | (with_reducible first | exact HB.out | apply below_alloc | apply pw_below_drewN | apply below_drew1) | exact HB.out)))); (case aL => have := LMc13.out; omega); intro v223 w16 ho hb hg hat; rw [← Ny222.out] at ho; have n0_ := Aside0.mk (hb); have n1_ := Aside0.mk (ho); clear HB; clear HO_6; have HB := n0_; have HO224 := n1_; clear n0_ n1_; clear ho hb hg hat))
                          go_roundg kj9
                          case measure => have := HK1.out; have := HJ6.out; have := HJ9.out; omega
                          case rel => exact ⟨(y222), (64), (x8_1), (wrap64 (x10_1 + 1)), (wrap64 (x10_1 + 1)), (by first | rfl | (simp; done) | (simp [*]; done)), (by first | rfl | (simp; done) | (simp [*]; done)), (by first | rfl | (simp; done) | (simp [*]; done)), (by first | rfl | (simp; done) | (simp [*]; done)), H', ⟨by have := HK1.out; have := HJ6.out; have := HJ9.out; omega⟩, ⟨by (with_reducible repeat (first | apply Kd.R_alloc | apply Kd.R_drewN | apply Kd.R_drew)); exact HO224.out⟩, ⟨by repeat (first | (with_reducible first | exact HB.out | apply below_alloc | apply pw_below_drewN | apply below_drew1) | exact HB.out)⟩⟩
                      · rw [if_neg c13] at H
                        exact absurd H (by simp)
                    · replace c12 := Bool.eq_false_iff.mpr c12
                      subst c12
                      have H1 : (if 0 ≤ x9_1 then (if x9_1 ≤ (wrap64 (x10_1 + 1)) then (if (wrap64 (x10_1 + 1)) ≤ (a0.size : Int) then ((pilcrowref11_Range.f kj9 (a0.extract (x9_1 : Int).toNat ((wrap64 (x10_1 + 1)) : Int).toNat)).bind fun bt225 => (if bt225.2.2 > 0 then ((pilcrowref12_Least.f kj9 (wrap64 (x7_1 + bt225.1)) (wrap64 (x7_1 + bt225.2.1))).bind fun t228 => (pilcrowref12_Run.j3 kj9 a0 x6_1 x7_1 x8_1 x9_1 x10_1 bt225.2.2 t228)) else (pilcrowref12_Run.j3 kj9 a0 x6_1 x7_1 x8_1 x9_1 x10_1 bt225.2.2 (-1)))) else (none)) else (none)) else (none)) = some (r1, r2, r3, r4) := by rw [if_neg (show ¬ (false = true) by decide)] at H; exact H
                      clear H
                      have H := H1
                      clear H1
                      by_cases c17 : 0 ≤ x9_1
                      · rw [if_pos c17] at H
                        have c17b0 := eq_true c17
                        have c17b1 : decide (0 ≤ x9_1) = true := decide_eq_true c17
                        clear c17
                        by_cases c18 : x9_1 ≤ (wrap64 (x10_1 + 1))
                        · rw [if_pos c18] at H
                          have c18b0 := eq_true c18
                          have c18b1 : decide (x9_1 ≤ (wrap64 (x10_1 + 1))) = true := decide_eq_true c18
                          by_cases c19 : (wrap64 (x10_1 + 1)) ≤ (a0.size : Int)
                          · rw [if_pos c19] at H
                            have c19b0 := eq_true c19
                            have c19b1 : decide ((wrap64 (x10_1 + 1)) ≤ (a0.size : Int)) = true := decide_eq_true c19
                            replace H := Option.bind_eq_some_iff.mp H
                            obtain ⟨⟨t225, t226, t227⟩, A200, H⟩ := H
                            replace H : (if t227 > 0 then ((pilcrowref12_Least.f kj9 (wrap64 (x7_1 + t225)) (wrap64 (x7_1 + t226))).bind fun t228 => (pilcrowref12_Run.j3 kj9 a0 x6_1 x7_1 x8_1 x9_1 x10_1 t227 t228)) else (pilcrowref12_Run.j3 kj9 a0 x6_1 x7_1 x8_1 x9_1 x10_1 t227 (-1))) = some (r1, r2, r3, r4) := H
                            have A20 := Aside0.mk A200
                            clear A200
                            have HC21 := Aside0.mk H
                            clear H
                            go_upto_if 62 with (first | ((with_reducible refine gate_callee (f := 52) rfl ?_); refine goesL_ (some 57) rfl rfl Try.func52 (by kernel_rfl) rfl #[.string (a0.extract (x9_1 : Int).toNat ((wrap64 (x10_1 + 1)) : Int).toNat)] rfl (by (try simp only [List.map_toArray, List.map_cons, List.map_nil]); first | done | rfl | (simp only [List.length_drop, List.length_take]; rfl)) ?_; (with_reducible refine (pilcrowref11_Range.calls kj9 (a0.extract (x9_1 : Int).toNat ((wrap64 (x10_1 + 1)) : Int).toNat) t225 t226 t227 _ A20.out).mono ?_); rintro e w22 ⟨rfl, hb⟩; refine ⟨_, rfl, ?_⟩; have n0_ := Aside0.mk (Kd.R_below (by (with_reducible repeat (first | apply Kd.R_alloc | apply Kd.R_drewN | apply Kd.R_drew)); exact HO_6.out) hb); have n1_ := Aside0.mk (below_step (by repeat (first | (with_reducible first | exact HB.out | apply below_alloc | apply pw_below_drewN | apply below_drew1) | exact HB.out)) hb); clear HO_6; clear HB; have HO_6 := n0_; have HB := n1_; clear n0_ n1_; (try clear hb); (try clear hb2); (try clear hk); (try clear hi)))
                            (try simp only [Act.put, List.setIfInBounds_toArray, List.set_cons_zero, List.set_cons_succ])
                            go_cut [15] (fun v15 wc => ∃ (kq : Nat) (x15_20 : Int), v15 = .int .i64 x15_20 ∧ Aside0 (pilcrowref12_Run.j3 kq a0 x6_1 x7_1 x8_1 x9_1 x10_1 t227 x15_20 = some (r1, r2, r3, r4)) ∧ Aside0 (kq ≤ kj9) ∧ Aside0 (Kd.R (Kd.int .u32) 34 wc w.heap.size (fun _ => True) u6 x6_1) ∧ Aside0 (Below w.heap.size w wc))
                            case first =>
                              have H := HC21.out
                              clear HC21
                              by_cases c23 : t227 > 0
                              · rw [if_pos c23] at H
                                have c23b0 : decide (0 < t227) = true := decide_eq_true c23
                                clear c23
                                (first | rw [c23b0] | (simp only [i64_w, i32_w]; rw [c23b0]) | skip)
                                replace H := Option.bind_eq_some_iff.mp H
                                obtain ⟨t228, A240, H⟩ := H
                                replace H : (pilcrowref12_Run.j3 kj9 a0 x6_1 x7_1 x8_1 x9_1 x10_1 t227 t228) = some (r1, r2, r3, r4) := H
                                have A24 := Aside0.mk A240
                                clear A240
                                have H' := Aside0.mk H
                                clear H
                                go_wp2_with (first | ((with_reducible refine gate_callee (f := 53) rfl ?_); refine goesL_ (some 69) rfl rfl Try.func53 (by kernel_rfl) rfl #[.int .i64 (wrap64 (x7_1 + t225)), .int .i64 (wrap64 (x7_1 + t226))] rfl (by (try simp only [List.map_toArray, List.map_cons, List.map_nil]); first | done | rfl | (simp only [List.length_drop, List.length_take]; rfl)) ?_; (with_reducible refine (pilcrowref12_Least.calls kj9 (wrap64 (x7_1 + t225)) (wrap64 (x7_1 + t226)) t228 _ A24.out).mono ?_); rintro e w' ⟨rfl, ⟨nd, rfl⟩⟩; refine ⟨_, rfl, ?_⟩))
                                go_meet
                                case rel => exact ⟨_, (t228), (by first | rfl | (simp; done) | (simp [*]; done)), H', ⟨by have := HK1.out; have := HJ6.out; have := HJ9.out; first | omega | exact Nat.le_refl _⟩, ⟨by (with_reducible repeat (first | apply Kd.R_alloc | apply Kd.R_drewN | apply Kd.R_drew)); exact HO_6.out⟩, ⟨by repeat (first | (with_reducible first | exact HB.out | apply below_alloc | apply pw_below_drewN | apply below_drew1) | exact HB.out)⟩⟩
                              · rw [if_neg c23] at H
                                have c23b0 : decide (0 < t227) = false := decide_eq_false c23
                                clear c23
                                (first | rw [c23b0] | (simp only [i64_w, i32_w]; rw [c23b0]) | skip)
                                have H' := Aside0.mk H
                                clear H
                                go_wp2
                                go_meet
                                case rel => exact ⟨_, ((-1)), (by first | rfl | (simp; done) | (simp [*]; done)), H', ⟨by have := HK1.out; have := HJ6.out; have := HJ9.out; first | omega | exact Nat.le_refl _⟩, ⟨by (with_reducible repeat (first | apply Kd.R_alloc | apply Kd.R_drewN | apply Kd.R_drew)); exact HO_6.out⟩, ⟨by repeat (first | (with_reducible first | exact HB.out | apply below_alloc | apply pw_below_drewN | apply below_drew1) | exact HB.out)⟩⟩
                            case rest =>
                              clear HC21
                              try clear c1
                              try clear c2
                              try clear p2
                              try clear c3
                              try clear c4
                              try clear c4b0
                              try clear c5
                              try clear c5b0
                              try clear p6
                              try clear q6
                              try clear hx6
                              try clear c8
                              try clear c8b0
                              try clear c8b1
                              try clear c9
                              try clear c11
                              try clear c11b0
                              try clear c11b1
                              try clear c12
                              try clear c13
                              try clear c14
                              try clear c14b0
                              try clear c14b1
                              try clear c17
                              try clear c17b0
                              try clear c17b1
                              try clear c18
                              try clear c18b0
                              try clear c18b1
                              try clear c19
                              try clear c19b0
                              try clear c19b1
                              try clear c23
                              try clear c23b0
                              try clear p2
                              try clear p6
                              try clear q6
                              obtain ⟨kq, x15_20, rfl, HA, HJ20, HO_6, HB⟩ := hcut
                              cases kq with
                              | zero => exact absurd HA.out (by simp [pilcrowref12_Run.j3])
                              | succ kj20 =>
                                have H := HA.out
                                clear HA
                                simp only [pilcrowref12_Run.j3] at H
                                by_cases c25 : x15_20 < 0
                                · rw [if_pos c25] at H
                                  have c25b0 : decide (x15_20 < 0) = true := decide_eq_true c25
                                  clear c25
                                  simp only [Option.some.injEq, Prod.mk.injEq] at H
                                  obtain ⟨rfl, rfl, rfl, rfl⟩ := H
                                  go_wp2
                                  refine bodyPost_ret (results_list (rs := [.tmp 2, .tmp 3, .tmp 4, .tmp 5]) rfl (by simp) (.tmp (.tmp (.tmp (.tmp .nil))))) rfl ?_
                                  exact ⟨_, by first | rfl | (simp [errW_none, errW_some] <;> rfl) | (simp [*, errW_none, errW_some] <;> rfl), by (with_reducible repeat (first | apply Kd.R_alloc | apply Kd.R_drewN | apply Kd.R_drew)); exact HO_6.out, by repeat (first | (with_reducible first | exact HB.out | apply below_alloc | apply pw_below_drewN | apply below_drew1) | exact HB.out)⟩
                                · rw [if_neg c25] at H
                                  have c25b0 : decide (x15_20 < 0) = false := decide_eq_false c25
                                  clear c25
                                  replace H := Option.bind_eq_some_iff.mp H
                                  obtain ⟨t229, A260, H⟩ := H
                                  replace H : (if 0 ≤ (wrap64 ((wrap64 (x10_1 + 1)) - x9_1)) then (if (wrap64 ((wrap64 (x10_1 + 1)) - x9_1)) ≤ (t229.size : Int) then (if (wrap64 ((wrap64 (x10_1 + 1)) - x9_1)) = t227 then (if x6_1.length < 35184372088832 then ((pilcrowref11_Prev.f kj20 ((x15_20) % 4294967296)).bind fun t233 => (pilcrowref12_Run.l0 kj20 a0 (x6_1 ++ [(x15_20) % 4294967296]) (wrap64 (t233)) (t229.extract ((wrap64 ((wrap64 (x10_1 + 1)) - x9_1)) : Int).toNat t229.size) (wrap64 (x10_1 + 1)) (wrap64 (x10_1 + 1)))) else (none)) else (pilcrowref12_Run.l0 kj20 a0 x6_1 x7_1 (t229.extract ((wrap64 ((wrap64 (x10_1 + 1)) - x9_1)) : Int).toNat t229.size) x9_1 (wrap64 (x10_1 + 1)))) else (none)) else (none)) = some (r1, r2, r3, r4) := H
                                  have A26 := Aside0.mk A260
                                  clear A260
                                  obtain ⟨ji27, hji27⟩ : ∃ j_ : Int, (wrap64 ((wrap64 (x10_1 + 1)) - x9_1)) = j_ := ⟨_, rfl⟩
                                  replace H : (if 0 ≤ (ji27) then (if (ji27) ≤ (t229.size : Int) then (if (ji27) = t227 then (if x6_1.length < 35184372088832 then ((pilcrowref11_Prev.f kj20 ((x15_20) % 4294967296)).bind fun t233 => (pilcrowref12_Run.l0 kj20 a0 (x6_1 ++ [(x15_20) % 4294967296]) (wrap64 (t233)) (t229.extract ((ji27) : Int).toNat t229.size) (wrap64 (x10_1 + 1)) (wrap64 (x10_1 + 1)))) else (none)) else (pilcrowref12_Run.l0 kj20 a0 x6_1 x7_1 (t229.extract ((ji27) : Int).toNat t229.size) x9_1 (wrap64 (x10_1 + 1)))) else (none)) else (none)) = some (r1, r2, r3, r4) := by first | (rw [hji27] at H; exact H) | (simp only [hji27] at H ⊢; exact H)
                                  (try rw [hji27] at A26)
                                  have hji27w : (IntKind.i64.wrap ((wrap64 (x10_1 + 1)) - x9_1)) = ji27 := (i64_w _).trans hji27
                                  by_cases c28 : 0 ≤ (ji27)
                                  · rw [if_pos c28] at H
                                    have c28b0 := eq_true c28
                                    have c28b1 : decide (0 ≤ (ji27)) = true := decide_eq_true c28
                                    clear c28
                                    by_cases c29 : (ji27) ≤ (t229.size : Int)
                                    · rw [if_pos c29] at H
                                      have c29b0 := eq_true c29
                                      have c29b1 : decide ((ji27) ≤ (t229.size : Int)) = true := decide_eq_true c29
                                      clear c29
                                      by_cases c30 : (ji27) = t227
                                      · rw [if_pos c30] at H
                                        have c30b0 : ((ji27) == t227) = true := beq_iff_eq.mpr c30
                                        have c30b1 : ((ji27) != t227) = false := bne_eq_false_iff_eq.mpr c30
                                        clear c30
                                        by_cases c31 : x6_1.length < 35184372088832
                                        · rw [if_pos c31] at H
                                          have LMc31 := Aside0.mk c31
                                          clear c31
                                          obtain ⟨y230, hy230⟩ : ∃ y_ : List Int, y_ = (x6_1 ++ [(x15_20) % 4294967296]) := ⟨_, rfl⟩
                                          replace H : ((pilcrowref11_Prev.f kj20 ((x15_20) % 4294967296)).bind fun t233 => (pilcrowref12_Run.l0 kj20 a0 y230 (wrap64 (t233)) (t229.extract ((ji27) : Int).toNat t229.size) (wrap64 (x10_1 + 1)) (wrap64 (x10_1 + 1)))) = some (r1, r2, r3, r4) := by first | (rw [hy230]; with_reducible exact H) | (have H2_ := (Option.bind_some _ _).symm.trans H; rw [hy230]; with_reducible exact H2_) | (have H2_ := (Option.bind_some _ _).symm.trans H; with_reducible exact H2_) | with_reducible exact H | (rw [hy230]; exact H) | exact H
                                          have Ny230 := Aside0.mk hy230
                                          clear hy230
                                          replace H := Option.bind_eq_some_iff.mp H
                                          obtain ⟨t233, A320, H⟩ := H
                                          replace H : (pilcrowref12_Run.l0 kj20 a0 y230 (wrap64 (t233)) (t229.extract ((ji27) : Int).toNat t229.size) (wrap64 (x10_1 + 1)) (wrap64 (x10_1 + 1))) = some (r1, r2, r3, r4) := H
                                          have A32 := Aside0.mk A320
                                          clear A320
                                          have H' := Aside0.mk H
                                          clear H
                                          go_wp2_with (first | ((with_reducible refine gate_callee (f := 39) rfl ?_); refine goesL_ (some 78) rfl rfl Try.func39 (by kernel_rfl) rfl #[.int .i64 (wrap64 (x15_20 - x7_1))] rfl (by (try simp only [List.map_toArray, List.map_cons, List.map_nil]); first | done | rfl | (simp only [List.length_drop, List.length_take]; rfl)) ?_; (with_reducible refine (pilcrowref11_Pack.calls kj20 (wrap64 (x15_20 - x7_1)) t229 _ A26.out).mono ?_); rintro e w33 ⟨rfl, hb⟩; refine ⟨_, rfl, ?_⟩; have n0_ := Aside0.mk (Kd.R_below (by (with_reducible repeat (first | apply Kd.R_alloc | apply Kd.R_drewN | apply Kd.R_drew)); exact HO_6.out) hb); have n1_ := Aside0.mk (below_step (by repeat (first | (with_reducible first | exact HB.out | apply below_alloc | apply pw_below_drewN | apply below_drew1) | exact HB.out)) hb); clear HO_6; clear HB; have HO_6 := n0_; have HB := n1_; clear n0_ n1_; (try clear hb); (try clear hb2); (try clear hk); (try clear hi)) | ((with_reducible refine gate_builtin (b := .append) (xs := #[.tmp 90, .tmp 93]) rfl ?_); at_builtin; refine Kd.R_append (Kd.int .u32) (w0 := w) w.heap.size rfl (.tmp 90) (.tmp 93) 22 34 (.int .u32 0) 4 rfl Try.underlying22 info34 rfl (by decide) (by omega) u6 x6_1 ((x15_20) % 4294967296) [.int .u32 ((x15_20) % 4294967296)] (fun _ => True) (fun _ => False) rfl rfl ?aP (fun _ hk => hk.elim) ?aF ?aO ?aB ?aS ?aL ?_; (case aP => exact rfl); (case aB => exact (by repeat (first | (with_reducible first | exact HB.out | apply below_alloc | apply pw_below_drewN | apply below_drew1) | exact HB.out))); (case aF => exact (fun _ _ => trivial)); (case aO => exact (by (with_reducible repeat (first | apply Kd.R_alloc | apply Kd.R_drewN | apply Kd.R_drew)); exact HO_6.out)); (case aS => exact (below_size (by repeat (first | (with_reducible first | exact HB.out | apply below_alloc | apply pw_below_drewN | apply below_drew1) | exact HB.out)))); (case aL => have := LMc31.out; omega); intro v231 w34 ho hb hg hat; rw [← Ny230.out] at ho; have n0_ := Aside0.mk (hb); have n1_ := Aside0.mk (ho); clear HB; clear HO_6; have HB := n0_; have HO232 := n1_; clear n0_ n1_; clear ho hb hg hat) | ((with_reducible refine gate_callee (f := 40) rfl ?_); refine goesL_ (some 97) rfl rfl Try.func40 (by kernel_rfl) rfl #[.int .u32 ((x15_20) % 4294967296)] rfl (by (try simp only [List.map_toArray, List.map_cons, List.map_nil]); first | done | rfl | (simp only [List.length_drop, List.length_take]; rfl)) ?_; (with_reducible refine (pilcrowref11_Prev.calls kj20 ((x15_20) % 4294967296) t233 _ A32.out).mono ?_); rintro e w' ⟨rfl, ⟨nd, rfl⟩⟩; refine ⟨_, rfl, ?_⟩))
                                          go_roundg kj20
                                          case measure => have := HK1.out; have := HJ6.out; have := HJ9.out; have := HJ20.out; omega
                                          case rel => exact ⟨(y230), (wrap64 (t233)), (t229.extract ((ji27) : Int).toNat t229.size), (wrap64 (x10_1 + 1)), (wrap64 (x10_1 + 1)), (by first | rfl | (simp; done) | (simp [*]; done)), (by first | rfl | (simp; done) | (simp only [← hji27] <;> (first | rfl | simp)) | (simp [*]; done)), (by first | rfl | (simp; done) | (simp [*]; done)), (by first | rfl | (simp; done) | (simp [*]; done)), H', ⟨by have := HK1.out; have := HJ6.out; have := HJ9.out; have := HJ20.out; omega⟩, ⟨by (with_reducible repeat (first | apply Kd.R_alloc | apply Kd.R_drewN | apply Kd.R_drew)); exact HO232.out⟩, ⟨by repeat (first | (with_reducible first | exact HB.out | apply below_alloc | apply pw_below_drewN | apply below_drew1) | exact HB.out)⟩⟩
                                        · rw [if_neg c31] at H
                                          exact absurd H (by simp)
                                      · rw [if_neg c30] at H
                                        have c30b0 : ((ji27) == t227) = false := beq_eq_false_iff_ne.mpr c30
                                        have c30b1 : ((ji27) != t227) = true := bne_iff_ne.mpr c30
                                        have H' := Aside0.mk H
                                        clear H
                                        go_wp2_with (first | ((with_reducible refine gate_callee (f := 39) rfl ?_); refine goesL_ (some 78) rfl rfl Try.func39 (by kernel_rfl) rfl #[.int .i64 (wrap64 (x15_20 - x7_1))] rfl (by (try simp only [List.map_toArray, List.map_cons, List.map_nil]); first | done | rfl | (simp only [List.length_drop, List.length_take]; rfl)) ?_; (with_reducible refine (pilcrowref11_Pack.calls kj20 (wrap64 (x15_20 - x7_1)) t229 _ A26.out).mono ?_); rintro e w35 ⟨rfl, hb⟩; refine ⟨_, rfl, ?_⟩; have n0_ := Aside0.mk (Kd.R_below (by (with_reducible repeat (first | apply Kd.R_alloc | apply Kd.R_drewN | apply Kd.R_drew)); exact HO_6.out) hb); have n1_ := Aside0.mk (below_step (by repeat (first | (with_reducible first | exact HB.out | apply below_alloc | apply pw_below_drewN | apply below_drew1) | exact HB.out)) hb); clear HO_6; clear HB; have HO_6 := n0_; have HB := n1_; clear n0_ n1_; (try clear hb); (try clear hb2); (try clear hk); (try clear hi)))
                                        go_roundg kj20
                                        case measure => have := HK1.out; have := HJ6.out; have := HJ9.out; have := HJ20.out; omega
                                        case rel => exact ⟨(x6_1), (x7_1), (t229.extract ((ji27) : Int).toNat t229.size), (x9_1), (wrap64 (x10_1 + 1)), (by first | rfl | (simp; done) | (simp [*]; done)), (by first | rfl | (simp; done) | (simp only [← hji27] <;> (first | rfl | simp)) | (simp [*]; done)), (by first | rfl | (simp; done) | (simp [*]; done)), (by first | rfl | (simp; done) | (simp [*]; done)), H', ⟨by have := HK1.out; have := HJ6.out; have := HJ9.out; have := HJ20.out; omega⟩, ⟨by (with_reducible repeat (first | apply Kd.R_alloc | apply Kd.R_drewN | apply Kd.R_drew)); exact HO_6.out⟩, ⟨by repeat (first | (with_reducible first | exact HB.out | apply below_alloc | apply pw_below_drewN | apply below_drew1) | exact HB.out)⟩⟩
                                    · rw [if_neg c29] at H
                                      exact absurd H (by simp)
                                  · rw [if_neg c28] at H
                                    exact absurd H (by simp)
                          · rw [if_neg c19] at H
                            exact absurd H (by simp)
                        · rw [if_neg c18] at H
                          exact absurd H (by simp)
                      · rw [if_neg c17] at H
                        exact absurd H (by simp)
        · rw [if_neg c5] at H
          exact absurd H (by simp)
      · rw [if_neg c4] at H
        have c4b0 : decide (x10_1 < (a0.size : Int)) = false := decide_eq_false c4
        clear c4
        by_cases c36 : x9_1 < (a0.size : Int)
        · rw [if_pos c36] at H
          have c36b0 : decide (x9_1 < (a0.size : Int)) = true := decide_eq_true c36
          clear c36
          simp only [Option.some.injEq, Prod.mk.injEq] at H
          obtain ⟨rfl, rfl, rfl, rfl⟩ := H
          go_wp2
          refine bodyPost_ret (results_list (rs := [.tmp 2, .tmp 3, .tmp 4, .tmp 5]) rfl (by simp) (.tmp (.tmp (.tmp (.tmp .nil))))) rfl ?_
          exact ⟨_, by first | rfl | (simp [errW_none, errW_some] <;> rfl) | (simp [*, errW_none, errW_some] <;> rfl), by (with_reducible repeat (first | apply Kd.R_alloc | apply Kd.R_drewN | apply Kd.R_drew)); exact HO_6.out, by repeat (first | (with_reducible first | exact HB.out | apply below_alloc | apply pw_below_drewN | apply below_drew1) | exact HB.out)⟩
        · rw [if_neg c36] at H
          have c36b0 : decide (x9_1 < (a0.size : Int)) = false := decide_eq_false c36
          clear c36
          simp only [Option.some.injEq, Prod.mk.injEq] at H
          obtain ⟨rfl, rfl, rfl, rfl⟩ := H
          go_wp2
          refine bodyPost_ret (results_list (rs := [.tmp 2, .tmp 3, .tmp 4, .tmp 5]) rfl (by simp) (.tmp (.tmp (.tmp (.tmp .nil))))) rfl ?_
          exact ⟨_, by first | rfl | (simp [errW_none, errW_some] <;> rfl) | (simp [*, errW_none, errW_some] <;> rfl), by (with_reducible repeat (first | apply Kd.R_alloc | apply Kd.R_drewN | apply Kd.R_drew)); exact HO_6.out, by repeat (first | (with_reducible first | exact HB.out | apply below_alloc | apply pw_below_drewN | apply below_drew1) | exact HB.out)⟩

/-! ### pilcrowref12_Rest: function 29 -/
def pilcrowref12_Rest.f (k : Nat) (a0 : ByteArray) : Option (ByteArray) := (pilcrowref12_Run.f k a0).bind fun bt234 => (some bt234.2.2.2)
theorem pilcrowref12_Rest.mono : ∀ a0 k, LeO (pilcrowref12_Rest.f k a0) (pilcrowref12_Rest.f (k + 1) a0) := by
  intro a0 k
  unfold pilcrowref12_Rest.f
  repeat' first
      | (with_reducible exact pilcrowref12_Run.mono _ _)
      | (with_reducible exact LeO.refl _)
      | (with_reducible exact LeO.none _)
      | (with_reducible refine LeO.ite ?_ ?_)
      | (with_reducible refine LeO.bind ?_ (fun _ => ?_))
      | exact pilcrowref12_Run.mono _ _
      | exact LeO.none _
      | refine LeO.ite ?_ ?_
      | refine LeO.bind ?_ (fun _ => ?_)
set_option maxHeartbeats 8000000 in
set_option maxRecDepth 100000 in
theorem pilcrowref12_Rest.calls (k : Nat) (a0 : ByteArray) (r : ByteArray) (w : World) (h : pilcrowref12_Rest.f k a0 = some r) :
    Calls Try.prog 29 #[.string a0] w fun e w' => e = .returned (.string r) ∧ Below w.heap.size w w' := by
  have HB := Aside0.mk (Below.refl w.heap.size w)
  have H : ((pilcrowref12_Run.f k a0).bind fun bt234 => (some bt234.2.2.2)) = some r := h
  clear h
  replace H := Option.bind_eq_some_iff.mp H
  obtain ⟨⟨t234, t235, t236, t237⟩, A20, H⟩ := H
  replace H : (some t237) = some r := H
  have A2 := Aside0.mk A20
  clear A20
  obtain rfl := Option.some.inj H
  go_enter Try.func29, Try.ntmps29
  go_wp2_with (first | ((with_reducible refine gate_callee (f := 38) rfl ?_); refine goesL_ (some 9) rfl rfl Try.func38 (by kernel_rfl) rfl #[.string a0] rfl (by (try simp only [List.map_toArray, List.map_cons, List.map_nil]); first | done | rfl | (simp only [List.length_drop, List.length_take]; rfl)) ?_; (with_reducible refine (pilcrowref12_Run.calls k a0 t234 t235 t236 t237 _ A2.out).mono ?_); rintro e w3 ⟨v238, rfl, ho0, hb⟩; refine ⟨_, rfl, ?_⟩; have n0_ := Aside0.mk (Kd.R_lower ho0 (below_size (by repeat (first | (with_reducible first | exact HB.out | apply below_alloc | apply pw_below_drewN | apply below_drew1) | exact HB.out)))); have n1_ := Aside0.mk (below_step (by repeat (first | (with_reducible first | exact HB.out | apply below_alloc | apply pw_below_drewN | apply below_drew1) | exact HB.out)) hb); clear HB; have HO239 := n0_; have HB := n1_; clear n0_ n1_; (try clear hb); (try clear hb2); (try clear hk); (try clear hi); (try clear ho0)))
  go_ret
  exact ⟨by first | rfl | (simp [errW_none, errW_some] <;> rfl) | (simp [*, errW_none, errW_some] <;> rfl), by repeat (first | (with_reducible first | exact HB.out | apply below_alloc | apply pw_below_drewN | apply below_drew1) | exact HB.out)⟩

-- NOT PRINTED: function 8 (pilcrowlaw12_BocuExtends)

end Go.Proofs.Ythodifmfamflpaa.PBocuExtends
