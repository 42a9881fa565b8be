/- The encoder of layer 6: a scalar's bytes, for whatever struct it is part of; began as a print. -/
import Derived.Test.YtcfpbihkodjlkaaProg
import Derived.Below
import Derived.Deep.Draws
import Derived.Deep.AppendLies
import Derived.Maps.AppendAt
import Derived.OwnWalk
import Derived.Laws.BytesArg
import Derived.Laws.MakeOwn
import Derived.Laws.OwnMore
import Derived.Deep.OwnRows
import Derived.Tactics
import Derived.Lib.ConvBytes
import Derived.Laws.Slices
import Derived.WalkKit
import Derived.KernelRfl
import Derived.RowKit3
import Derived.Deep.LoopGhost
import Derived.Deep.QuietTactic
import Derived.BigQuiet
import Derived.WideLaws
import Derived.Deep.DeepCutAuto
import Derived.Deep.CutBlock
import Derived.Deep.RegionHeld3
import Derived.Laws.Rows
import Derived.Lib.AppendStr
import Derived.ArgAppend
import Derived.Laws.IdiomCopy
import Derived.OrdersHeld
import Derived.Laws.BitsLemmas
import Derived.RowKit
import Derived.Test.YtcfpbihkodjlkaaWWords
import Derived.Test.YtcfpbihkodjlkaaWLast
import Derived.Test.YtcfpbihkodjlkaaWTab
import Derived.Test.YtcfpbihkodjlkaaWFour
import Derived.Test.YtcfpbihkodjlkaaWQPut
import Derived.Test.YtcfpbihkodjlkaaWApart
import Derived.Test.YtcfpbihkodjlkaaWArr
import Derived.Test.YtcfpbihkodjlkaaWZeros
import Derived.Test.YtcfpbihkodjlkaaWFoot
import Derived.Test.YtcfpbihkodjlkaaWKept
import Derived.Test.YtcfpbihkodjlkaaWShare
import Derived.Test.YtcfpbihkodjlkaaWN
import Derived.Test.YtcfpbihkodjlkaaWFootNe
import Derived.Test.YtcfpbihkodjlkaaWAt
import Derived.Test.YtcfpbihkodjlkaaWEqStruct
import Derived.Test.YtcfpbihkodjlkaaWRepsOne
import Derived.Test.YtcfpbihkodjlkaaWInv
import Derived.Test.YtcfpbihkodjlkaaWInvWords
import Derived.Test.YtcfpbihkodjlkaaWGuard
import Derived.Test.YtcfpbihkodjlkaaWNEv
import Derived.Test.YtcfpbihkodjlkaaWMore
namespace Go.Proofs.Ytcfpbihkodjlkaa.PMod8Bytes
open Go.RowKit Go.Proofs.YtcfpbihkodjlkaaW.PrintWords Go.Proofs.YtcfpbihkodjlkaaW.PrintLast Go.Proofs.YtcfpbihkodjlkaaW.PrintMore
attribute [local go_sem] max2_int min2_int max_two min_two max_three min_three max_four min_four   -- for this text's walks alone
set_option linter.unusedVariables false
set_option linter.unusedSimpArgs false



def errW : Option Int → Value
  | none => .nilIface
  | some c => .iface 0 (.int .i64 c)
theorem errW_none : errW none = .nilIface := rfl
theorem errW_some (c : Int) : errW (some c) = .iface 0 (.int .i64 c) := rfl

theorem info5 : (Try.prog.info? 5).map (fun i => (i.zero, i.size, i.bytes)) = some (some (.int .u8 0), 1, 1) := by kernel_rfl
theorem info22 : (Try.prog.info? 22).map (fun i => (i.zero, i.size, i.bytes)) = some (some (.int .u32 0), 1, 4) := by kernel_rfl
-- the values' own types

/-! ### A block of whatever struct: it is elder than the call, and untouched -/
def IsG (w0 W : World) (g : Nat) (f0 : Int) (f1 : Int) (f2 : Int) (f3 : Bool) (f4 : ByteArray) : Prop := g < w0.heap.size
section
variable {w0 W : World} {g : Nat} {f0 : Int} {f1 : Int} {f2 : Int} {f3 : Bool} {f4 : ByteArray}
theorem IsG.grown {W1 : World} {row : Option Nat} (h : IsG w0 W g f0 f1 f2 f3 f4) (hw : W.grownBy W1 row) (hne : some g ≠ row) : IsG w0 W1 g f0 f1 f2 f3 f4 := h
theorem IsG.below {W1 : World} (h : IsG w0 W g f0 f1 f2 f3 f4) (hw : Below W.heap.size W W1) : IsG w0 W1 g f0 f1 f2 f3 f4 := h
theorem IsG.alloc (h : IsG w0 W g f0 f1 f2 f3 f4) (o : Obj) : IsG w0 (W.alloc o) g f0 f1 f2 f3 f4 := h
theorem IsG.drewN (h : IsG w0 W g f0 f1 f2 f3 f4) (m : Nat) : IsG w0 (W.drewN m) g f0 f1 f2 f3 f4 := h
theorem IsG.drew (h : IsG w0 W g f0 f1 f2 f3 f4) : IsG w0 W.drew g f0 f1 f2 f3 f4 := h
theorem IsG.own_ne {ok : Nat → Prop} {v : Value} {xs : List Int} (h : IsG w0 W g f0 f1 f2 f3 f4) (ho : (Kd.int .u8).R 5 W w0.heap.size ok v xs) (ht : 5 ≠ 67) : some g ≠ v.ownBlock := fun h9 => by
  have h8 := ((Kd.own_of_R ho).lt g h9.symm).1
  have h7 : g < w0.heap.size := h
  omega
end
/-! ### mod8_Encoder_bytes: function 58 -/
mutual
def mod8_Encoder_bytes.j0 : Nat → Int → Int → Int → Int → Int → Int → Bool → ByteArray → Option (ByteArray × Int × Int × Int × Bool × ByteArray)
  | 0, _, _, _, _, _, _, _, _ => none
  | k + 1, x1, x5, x6, x1000, x1001, x1002, x1003, x1004 => if 0 ≤ x5 then (if (x5 : Int).toNat ≤ 281474976710656 then (mod8_Encoder_bytes.l0 k x1 x6 (List.replicate (x5 : Int).toNat 0) (wrap64 (x5 - 1)) x1000 x1001 x1002 x1003 x1004) else (none)) else (none)
def mod8_Encoder_bytes.l0 : Nat → Int → Int → List Int → Int → Int → Int → Int → Bool → ByteArray → Option (ByteArray × Int × Int × Int × Bool × ByteArray)
  | 0, _, _, _, _, _, _, _, _, _ => none
  | k + 1, x1, x6, x7, x8, x1000, x1001, x1002, x1003, x1004 => if x8 > 0 then (if 0 ≤ x8 then (if x8 < (x7.length : Int) then (mod8_Encoder_bytes.l0 k (x1 / 32) x6 (x7.set (x8 : Int).toNat (Go.bits .or .u8 160 ((Go.bits .and .u32 x1 31) % 256))) (wrap64 (x8 - 1)) x1000 x1001 x1002 x1003 x1004) else (none)) else (none)) else (if 0 < (x7.length : Int) then (some (strOfNums (x7.set (0 : Int).toNat (Go.bits .or .u8 x6 ((x1) % 256))), x1000, x1001, x1002, x1003, x1004)) else (none))
end
def mod8_Encoder_bytes.f (k : Nat) (s0_0 : Int) (s0_1 : Int) (s0_2 : Int) (s0_3 : Bool) (s0_4 : ByteArray) (a1 : Int) : Option (ByteArray × Int × Int × Int × Bool × ByteArray) := if a1 < 160 then (some (strOfNums (([(a1) % 256] : List Int)), s0_0, s0_1, s0_2, s0_3, s0_4)) else (if a1 < 1024 then (mod8_Encoder_bytes.j0 k a1 2 192 s0_0 s0_1 s0_2 s0_3 s0_4) else (if a1 < 16384 then (mod8_Encoder_bytes.j0 k a1 3 224 s0_0 s0_1 s0_2 s0_3 s0_4) else (if a1 < 262144 then (mod8_Encoder_bytes.j0 k a1 4 240 s0_0 s0_1 s0_2 s0_3 s0_4) else (mod8_Encoder_bytes.j0 k a1 5 248 s0_0 s0_1 s0_2 s0_3 s0_4))))
theorem mod8_Encoder_bytes.mono_l : ∀ k, (∀ y0 y1 y2 y3 y4 y5 y6 y7, LeO (mod8_Encoder_bytes.j0 k y0 y1 y2 y3 y4 y5 y6 y7) (mod8_Encoder_bytes.j0 (k + 1) y0 y1 y2 y3 y4 y5 y6 y7)) ∧ (∀ y0 y1 y2 y3 y4 y5 y6 y7 y8, LeO (mod8_Encoder_bytes.l0 k y0 y1 y2 y3 y4 y5 y6 y7 y8) (mod8_Encoder_bytes.l0 (k + 1) y0 y1 y2 y3 y4 y5 y6 y7 y8))
  | 0 => ⟨fun _ _ _ _ _ _ _ _ r h => by simp [mod8_Encoder_bytes.j0] at h, fun _ _ _ _ _ _ _ _ _ r h => by simp [mod8_Encoder_bytes.l0] at h⟩
  | k + 1 => by
    obtain ⟨ih0, ih1⟩ := mod8_Encoder_bytes.mono_l k
    refine ⟨?_, ?_⟩
    · intro y0 y1 y2 y3 y4 y5 y6 y7
      unfold mod8_Encoder_bytes.j0
      repeat' first
      | (with_reducible exact ih0 _ _ _ _ _ _ _ _)
      | (with_reducible exact ih1 _ _ _ _ _ _ _ _ _)
      | (with_reducible exact LeO.refl _)
      | (with_reducible exact LeO.none _)
      | (with_reducible refine LeO.ite ?_ ?_)
      | (with_reducible refine LeO.bind ?_ (fun _ => ?_))
      | exact ih0 _ _ _ _ _ _ _ _
      | exact ih1 _ _ _ _ _ _ _ _ _
      | exact LeO.none _
      | refine LeO.ite ?_ ?_
      | refine LeO.bind ?_ (fun _ => ?_)
    · intro y0 y1 y2 y3 y4 y5 y6 y7 y8
      unfold mod8_Encoder_bytes.l0
      repeat' first
      | (with_reducible exact ih0 _ _ _ _ _ _ _ _)
      | (with_reducible exact ih1 _ _ _ _ _ _ _ _ _)
      | (with_reducible exact LeO.refl _)
      | (with_reducible exact LeO.none _)
      | (with_reducible refine LeO.ite ?_ ?_)
      | (with_reducible refine LeO.bind ?_ (fun _ => ?_))
      | exact ih0 _ _ _ _ _ _ _ _
      | exact ih1 _ _ _ _ _ _ _ _ _
      | exact LeO.none _
      | refine LeO.ite ?_ ?_
      | refine LeO.bind ?_ (fun _ => ?_)
theorem mod8_Encoder_bytes.mono : ∀ a0 a1 a2 a3 a4 a5 k, LeO (mod8_Encoder_bytes.f k a0 a1 a2 a3 a4 a5) (mod8_Encoder_bytes.f (k + 1) a0 a1 a2 a3 a4 a5) := by
  intro a0 a1 a2 a3 a4 a5 k
  obtain ⟨ih0, ih1⟩ := mod8_Encoder_bytes.mono_l k
  unfold mod8_Encoder_bytes.f
  repeat' first
      | (with_reducible exact ih0 _ _ _ _ _ _ _ _)
      | (with_reducible exact ih1 _ _ _ _ _ _ _ _ _)
      | (with_reducible exact LeO.refl _)
      | (with_reducible exact LeO.none _)
      | (with_reducible refine LeO.ite ?_ ?_)
      | (with_reducible refine LeO.bind ?_ (fun _ => ?_))
      | exact ih0 _ _ _ _ _ _ _ _
      | exact ih1 _ _ _ _ _ _ _ _ _
      | exact LeO.none _
      | refine LeO.ite ?_ ?_
      | refine LeO.bind ?_ (fun _ => ?_)
set_option maxHeartbeats 8000000 in
set_option maxRecDepth 100000 in
theorem mod8_Encoder_bytes.calls (k : Nat) (g : Nat) (s0_0 : Int) (s0_1 : Int) (s0_2 : Int) (s0_3 : Bool) (s0_4 : ByteArray) (a1 : Int) (r1 : ByteArray) (r2 : Int) (r3 : Int) (r4 : Int) (r5 : Bool) (r6 : ByteArray) (w0 w : World) (hI : IsG w w g s0_0 s0_1 s0_2 s0_3 s0_4) (hB : Below w0.heap.size w0 w) (h : mod8_Encoder_bytes.f k s0_0 s0_1 s0_2 s0_3 s0_4 a1 = some (r1, r2, r3, r4, r5, r6)) :
    Calls Try.prog 58 #[.pointer (some ⟨g, 0, none⟩), .int .u32 a1] w fun e w' => e = .returned (.string r1) ∧ IsG w w' g r2 r3 r4 r5 r6 ∧ Below w0.heap.size w0 w' ∧ KeepBut w w' g none := by
  have HI0 := Aside0.mk hI
  have HK := Aside0.mk (KeepBut.refl w g none)
  have HL := Aside0.mk hB.size
  clear hI
  have HW0 := Aside0.mk hB.size
  have HB := Aside0.mk hB
  clear hB
  have H : (if a1 < 160 then (some (strOfNums (([(a1) % 256] : List Int)), s0_0, s0_1, s0_2, s0_3, s0_4)) else (if a1 < 1024 then (mod8_Encoder_bytes.j0 k a1 2 192 s0_0 s0_1 s0_2 s0_3 s0_4) else (if a1 < 16384 then (mod8_Encoder_bytes.j0 k a1 3 224 s0_0 s0_1 s0_2 s0_3 s0_4) else (if a1 < 262144 then (mod8_Encoder_bytes.j0 k a1 4 240 s0_0 s0_1 s0_2 s0_3 s0_4) else (mod8_Encoder_bytes.j0 k a1 5 248 s0_0 s0_1 s0_2 s0_3 s0_4))))) = some (r1, r2, r3, r4, r5, r6) := h
  clear h
  have HC3 := Aside0.mk H
  clear H
  go_enter Try.func58, Try.ntmps58
  go_upto_block 0 with (fail)
  go_cut [5, 6] (fun v5 v6 wc => ∃ (kq : Nat) (x5_2 : Int) (x6_2 : Int), v5 = .int .i64 x5_2 ∧ v6 = .int .u8 x6_2 ∧ Aside0 (mod8_Encoder_bytes.j0 kq a1 x5_2 x6_2 s0_0 s0_1 s0_2 s0_3 s0_4 = some (r1, r2, r3, r4, r5, r6)) ∧ Aside0 (kq ≤ k) ∧ Aside0 (IsG w wc g s0_0 s0_1 s0_2 s0_3 s0_4) ∧ Aside0 (KeepBut w wc g none) ∧ Aside0 (Below w0.heap.size w0 wc))
  case first =>
    have H := HC3.out
    clear HC3
    by_cases c4 : a1 < 160
    · rw [if_pos c4] at H
      have c4b0 : decide (a1 < 160) = true := decide_eq_true c4
      clear c4
      (first | rw [c4b0] | (simp only [i64_w, i32_w]; rw [c4b0]) | skip)
      obtain ⟨y101, hy101⟩ : ∃ y_ : List Int, y_ = (([(a1) % 256] : List Int)) := ⟨_, rfl⟩
      replace H : (some (strOfNums y101, s0_0, s0_1, s0_2, s0_3, s0_4)) = some (r1, r2, r3, r4, r5, r6) := by first | (rw [hy101]; with_reducible exact H) | (have H2_ := (Option.bind_some _ _).symm.trans H; rw [hy101]; with_reducible exact H2_) | (have H2_ := (Option.bind_some _ _).symm.trans H; with_reducible exact H2_) | with_reducible exact H | (rw [hy101]; exact H) | exact H
      have Ny101 := Aside0.mk hy101
      clear hy101
      simp only [Option.some.injEq, Prod.mk.injEq] at H
      obtain ⟨rfl, rfl, rfl, rfl, rfl, rfl⟩ := H
      go_wp2_with (first | ((with_reducible refine gate_dst (N := 14) rfl ?_); refine Kd.R_lit (Kd.int .u8) _ 5 ?hg (N := 14) ?hd (xs := ([(a1) % 256] : List Int)) (inner := [.int .u8 ((a1) % 256)]) (ok := fun _ => True) (okp := fun _ => True) ?hr ?hp (fun _ hk => hk) trivial (Below.refl _ _) (Nat.le_refl _) (by simp) ?_; (case hd => rfl); (case hg => rfl); (case hr => first | (go_simp; done) | (go_simp; rfl)); (case hp => exact (Reps.one (show Kd.M (Kd.int .u8) _ _ _ ((a1) % 256) [.int .u8 ((a1) % 256)] from rfl) (Reps.none _ _))); intro v102 w5 ho6 hb hg_ hnew_; clear hg_ hnew_; (first | rw [← Ny101.out] at ho6 | (simp only [Int.reduceToNat] at ho6; rw [← Ny101.out] at ho6)); have n0_ := Aside0.mk (Kd.R_lower ho6 (keep_size (w := w) (g := g) (row := none) (by repeat (first | (with_reducible first | exact HK.out | apply KeepBut.set_ | apply keep_drewN | apply keep_drew | apply keep_alloc) | exact HK.out)))); have n1_ := Aside0.mk (IsG.below (by repeat (first | (with_reducible first | exact HI0.out | apply IsG.alloc | apply IsG.drewN | apply IsG.drew | apply IsG.set_0 | apply IsG.set_1 | apply IsG.set_2 | apply IsG.set_3 | apply IsG.set_4) | exact HI0.out)) hb); have n2_ := Aside0.mk (KeepBut.trans (by repeat (first | (with_reducible first | exact HK.out | apply KeepBut.set_ | apply keep_drewN | apply keep_drew | apply keep_alloc) | exact HK.out)) (KeepBut.of_below hb g none) (.inl rfl)); have n3_ := Aside0.mk (below_step (by repeat (first | (with_reducible first | exact HB.out | apply below_alloc | apply pw_below_drewN | apply below_drew1 | refine below_set ?_ (IsG.ge HI0.out)) | exact HB.out)) hb); clear HI0; clear HK; clear HB; have HO103 := n0_; have HI0 := n1_; have HK := n2_; have HB := n3_; clear n0_ n1_ n2_ n3_; clear hb ho6; have hcv7 := own_string (P := Try.prog) Try.underlying88 Try.underlying5 Try.underlying9 (Kd.own_of_R HO103.out)))
      go_ret
      exact ⟨by first | rfl | (simp [errW_none, errW_some] <;> rfl) | (simp [*, errW_none, errW_some] <;> rfl), by repeat (first | (with_reducible first | exact HI0.out | apply IsG.alloc | apply IsG.drewN | apply IsG.drew | apply IsG.set_0 | apply IsG.set_1 | apply IsG.set_2 | apply IsG.set_3 | apply IsG.set_4) | exact HI0.out), by repeat (first | (with_reducible first | exact HB.out | apply below_alloc | apply pw_below_drewN | apply below_drew1 | refine below_set ?_ (IsG.ge HI0.out)) | exact HB.out), by repeat (first | (with_reducible first | exact HK.out | apply KeepBut.set_ | apply keep_drewN | apply keep_drew | apply keep_alloc) | exact HK.out)⟩
    · rw [if_neg c4] at H
      have c4b0 : decide (a1 < 160) = false := decide_eq_false c4
      clear c4
      (first | rw [c4b0] | (simp only [i64_w, i32_w]; rw [c4b0]) | skip)
      by_cases c8 : a1 < 1024
      · rw [if_pos c8] at H
        have c8b0 : decide (a1 < 1024) = true := decide_eq_true c8
        clear c8
        have H' := Aside0.mk H
        clear H
        go_wp2
        go_meet
        case rel => exact ⟨_, (2), (192), (by first | rfl | (simp; done) | (simp [*]; done)), (by first | rfl | (simp; done) | (simp [*]; done)), H', ⟨by first | omega | exact Nat.le_refl _⟩, ⟨by repeat (first | (with_reducible first | exact HI0.out | apply IsG.alloc | apply IsG.drewN | apply IsG.drew | apply IsG.set_0 | apply IsG.set_1 | apply IsG.set_2 | apply IsG.set_3 | apply IsG.set_4) | exact HI0.out)⟩, ⟨by repeat (first | (with_reducible first | exact HK.out | apply KeepBut.set_ | apply keep_drewN | apply keep_drew | apply keep_alloc) | exact HK.out)⟩, ⟨by repeat (first | (with_reducible first | exact HB.out | apply below_alloc | apply pw_below_drewN | apply below_drew1 | refine below_set ?_ (IsG.ge HI0.out)) | exact HB.out)⟩⟩
      · rw [if_neg c8] at H
        have c8b0 : decide (a1 < 1024) = false := decide_eq_false c8
        clear c8
        by_cases c9 : a1 < 16384
        · rw [if_pos c9] at H
          have c9b0 : decide (a1 < 16384) = true := decide_eq_true c9
          clear c9
          have H' := Aside0.mk H
          clear H
          go_wp2
          go_meet
          case rel => exact ⟨_, (3), (224), (by first | rfl | (simp; done) | (simp [*]; done)), (by first | rfl | (simp; done) | (simp [*]; done)), H', ⟨by first | omega | exact Nat.le_refl _⟩, ⟨by repeat (first | (with_reducible first | exact HI0.out | apply IsG.alloc | apply IsG.drewN | apply IsG.drew | apply IsG.set_0 | apply IsG.set_1 | apply IsG.set_2 | apply IsG.set_3 | apply IsG.set_4) | exact HI0.out)⟩, ⟨by repeat (first | (with_reducible first | exact HK.out | apply KeepBut.set_ | apply keep_drewN | apply keep_drew | apply keep_alloc) | exact HK.out)⟩, ⟨by repeat (first | (with_reducible first | exact HB.out | apply below_alloc | apply pw_below_drewN | apply below_drew1 | refine below_set ?_ (IsG.ge HI0.out)) | exact HB.out)⟩⟩
        · rw [if_neg c9] at H
          have c9b0 : decide (a1 < 16384) = false := decide_eq_false c9
          clear c9
          by_cases c10 : a1 < 262144
          · rw [if_pos c10] at H
            have c10b0 : decide (a1 < 262144) = true := decide_eq_true c10
            clear c10
            have H' := Aside0.mk H
            clear H
            go_wp2
            go_meet
            case rel => exact ⟨_, (4), (240), (by first | rfl | (simp; done) | (simp [*]; done)), (by first | rfl | (simp; done) | (simp [*]; done)), H', ⟨by first | omega | exact Nat.le_refl _⟩, ⟨by repeat (first | (with_reducible first | exact HI0.out | apply IsG.alloc | apply IsG.drewN | apply IsG.drew | apply IsG.set_0 | apply IsG.set_1 | apply IsG.set_2 | apply IsG.set_3 | apply IsG.set_4) | exact HI0.out)⟩, ⟨by repeat (first | (with_reducible first | exact HK.out | apply KeepBut.set_ | apply keep_drewN | apply keep_drew | apply keep_alloc) | exact HK.out)⟩, ⟨by repeat (first | (with_reducible first | exact HB.out | apply below_alloc | apply pw_below_drewN | apply below_drew1 | refine below_set ?_ (IsG.ge HI0.out)) | exact HB.out)⟩⟩
          · rw [if_neg c10] at H
            have c10b0 : decide (a1 < 262144) = false := decide_eq_false c10
            clear c10
            have H' := Aside0.mk H
            clear H
            go_wp2
            go_meet
            case rel => exact ⟨_, (5), (248), (by first | rfl | (simp; done) | (simp [*]; done)), (by first | rfl | (simp; done) | (simp [*]; done)), H', ⟨by first | omega | exact Nat.le_refl _⟩, ⟨by repeat (first | (with_reducible first | exact HI0.out | apply IsG.alloc | apply IsG.drewN | apply IsG.drew | apply IsG.set_0 | apply IsG.set_1 | apply IsG.set_2 | apply IsG.set_3 | apply IsG.set_4) | exact HI0.out)⟩, ⟨by repeat (first | (with_reducible first | exact HK.out | apply KeepBut.set_ | apply keep_drewN | apply keep_drew | apply keep_alloc) | exact HK.out)⟩, ⟨by repeat (first | (with_reducible first | exact HB.out | apply below_alloc | apply pw_below_drewN | apply below_drew1 | refine below_set ?_ (IsG.ge HI0.out)) | exact HB.out)⟩⟩
  case rest =>
    clear HC3
    try clear c1
    try clear p2
    try clear c4
    try clear c4b0
    try clear c5
    try clear hcv7
    try clear c8
    try clear c8b0
    try clear c9
    try clear c9b0
    try clear c10
    try clear c10b0
    obtain ⟨kq, x5_2, x6_2, rfl, rfl, HA, HJ2, HI0, HK, HB⟩ := hcut
    cases kq with
    | zero => exact absurd HA.out (by simp [mod8_Encoder_bytes.j0])
    | succ kj2 =>
      have H := HA.out
      clear HA
      simp only [mod8_Encoder_bytes.j0] at H
      by_cases c11 : 0 ≤ x5_2
      · rw [if_pos c11] at H
        have c11b0 := eq_true c11
        have c11b1 : decide (0 ≤ x5_2) = true := decide_eq_true c11
        clear c11
        by_cases c12 : (x5_2 : Int).toNat ≤ 281474976710656
        · rw [if_pos c12] at H
          have c12b0 := eq_true c12
          have c12b1 : decide ((x5_2 : Int).toNat ≤ 281474976710656) = true := decide_eq_true c12
          clear c12
          obtain ⟨y104, hy104⟩ : ∃ y_ : List Int, y_ = (List.replicate (x5_2 : Int).toNat 0) := ⟨_, rfl⟩
          replace H : (mod8_Encoder_bytes.l0 kj2 a1 x6_2 y104 (wrap64 (x5_2 - 1)) s0_0 s0_1 s0_2 s0_3 s0_4) = some (r1, r2, r3, r4, r5, r6) := by first | (rw [hy104]; with_reducible exact H) | (have H2_ := (Option.bind_some _ _).symm.trans H; rw [hy104]; with_reducible exact H2_) | (have H2_ := (Option.bind_some _ _).symm.trans H; with_reducible exact H2_) | with_reducible exact H | (rw [hy104]; exact H) | exact H
          have Ny104 := Aside0.mk hy104
          clear hy104
          have H' := Aside0.mk H
          clear H
          go_wp2_with (first | ((with_reducible refine gate_dst (N := 26) rfl ?_); refine Kd.R_make (Kd.int .u8) _ 5 rfl (N := 26) rfl 88 _ _ rfl x5_2 rfl rfl Try.underlying88 (.int .u8 0) 1 info5 rfl (by decide) (by omega) 0 (ok := fun _ => True) (okp := fun _ => True) rfl (fun _ hk => hk) trivial (of_decide_eq_true (by first | (with_reducible assumption) | assumption)) (Nat.le_trans (Nat.mul_le_mul_right _ (of_decide_eq_true (by first | (with_reducible assumption) | assumption) : x5_2.toNat ≤ 281474976710656)) (by omega)) (Below.refl _ _) (Nat.le_refl _) ?_; intro v105 w13 ho14 hb hg_ hnew_; clear hg_ hnew_; (first | rw [← Ny104.out] at ho14 | (simp only [Int.reduceToNat] at ho14; rw [← Ny104.out] at ho14)); have n0_ := Aside0.mk (Kd.R_lower ho14 (keep_size (w := w) (g := g) (row := none) (by repeat (first | (with_reducible first | exact HK.out | apply KeepBut.set_ | apply keep_drewN | apply keep_drew | apply keep_alloc) | exact HK.out)))); have n1_ := Aside0.mk (IsG.below (by repeat (first | (with_reducible first | exact HI0.out | apply IsG.alloc | apply IsG.drewN | apply IsG.drew | apply IsG.set_0 | apply IsG.set_1 | apply IsG.set_2 | apply IsG.set_3 | apply IsG.set_4) | exact HI0.out)) hb); have n2_ := Aside0.mk (KeepBut.trans (by repeat (first | (with_reducible first | exact HK.out | apply KeepBut.set_ | apply keep_drewN | apply keep_drew | apply keep_alloc) | exact HK.out)) (KeepBut.of_below hb g none) (.inl rfl)); have n3_ := Aside0.mk (below_step (by repeat (first | (with_reducible first | exact HB.out | apply below_alloc | apply pw_below_drewN | apply below_drew1 | refine below_set ?_ (IsG.ge HI0.out)) | exact HB.out)) hb); clear HI0; clear HK; clear HB; have HO106 := n0_; have HI0 := n1_; have HK := n2_; have HB := n3_; clear n0_ n1_ n2_ n3_; clear hb ho14))
          go_loopg [1, 8] kj2 (fun kq v1 v8 w' => ∃ (x1_2 : Int) (x7_2 : List Int) (x8_2 : Int), v1 = .int .u32 x1_2 ∧ v8 = .int .i64 x8_2 ∧ Aside0 (mod8_Encoder_bytes.l0 kq x1_2 x6_2 x7_2 x8_2 s0_0 s0_1 s0_2 s0_3 s0_4 = some (r1, r2, r3, r4, r5, r6)) ∧ Aside0 (kq ≤ kj2) ∧ Aside0 (Kd.R (Kd.int .u8) 5 w' w.heap.size (fun _ => True) v105 x7_2) ∧ Aside0 (IsG w w' g s0_0 s0_1 s0_2 s0_3 s0_4) ∧ Aside0 (KeepBut w w' g none) ∧ Aside0 (Below w0.heap.size w0 w'))
          case atStart => exact ⟨(a1), (y104), (wrap64 (x5_2 - 1)), (by first | rfl | (simp; done) | (simp [*]; done)), (by first | rfl | (simp; done) | (simp [*]; done)), H', ⟨Nat.le_refl _⟩, ⟨by (with_reducible repeat (first | apply Kd.R_alloc | apply Kd.R_drewN | apply Kd.R_drew)); exact HO106.out⟩, ⟨by repeat (first | (with_reducible first | exact HI0.out | apply IsG.alloc | apply IsG.drewN | apply IsG.drew | apply IsG.set_0 | apply IsG.set_1 | apply IsG.set_2 | apply IsG.set_3 | apply IsG.set_4) | exact HI0.out)⟩, ⟨by repeat (first | (with_reducible first | exact HK.out | apply KeepBut.set_ | apply keep_drewN | apply keep_drew | apply keep_alloc) | exact HK.out)⟩, ⟨by repeat (first | (with_reducible first | exact HB.out | apply below_alloc | apply pw_below_drewN | apply below_drew1 | refine below_set ?_ (IsG.ge HI0.out)) | exact HB.out)⟩⟩
          case round =>
            clear H'
            try clear c1
            try clear p2
            try clear c4
            try clear c4b0
            try clear c5
            try clear p6
            try clear hcv7
            try clear c8
            try clear c8b0
            try clear c9
            try clear c9b0
            try clear c10
            try clear c10b0
            try clear c11
            try clear c11b0
            try clear c11b1
            try clear c12
            try clear c12b0
            try clear c12b1
            try clear p2
            obtain ⟨x1_2, x7_2, x8_2, rfl, rfl, HA, HK2, HO_7, HI0, HK, HB⟩ := hrel
            cases gk with
            | zero => exact absurd HA.out (by simp [mod8_Encoder_bytes.l0])
            | succ k2 =>
              have H := HA.out
              clear HA
              simp only [mod8_Encoder_bytes.l0] at H
              by_cases c15 : x8_2 > 0
              · rw [if_pos c15] at H
                have c15b0 : decide (0 < x8_2) = true := decide_eq_true c15
                clear c15
                by_cases c16 : 0 ≤ x8_2
                · rw [if_pos c16] at H
                  have c16b0 : decide (0 ≤ x8_2) = true := decide_eq_true c16
                  clear c16
                  by_cases c17 : x8_2 < (x7_2.length : Int)
                  · rw [if_pos c17] at H
                    have c17b0 : decide (x8_2 < (x7_2.length : Int)) = true := decide_eq_true c17
                    clear c17
                    obtain ⟨y107, hy107⟩ : ∃ y_ : List Int, y_ = (x7_2.set (x8_2 : Int).toNat (Go.bits .or .u8 160 ((Go.bits .and .u32 x1_2 31) % 256))) := ⟨_, rfl⟩
                    replace H : (mod8_Encoder_bytes.l0 k2 (x1_2 / 32) x6_2 y107 (wrap64 (x8_2 - 1)) s0_0 s0_1 s0_2 s0_3 s0_4) = some (r1, r2, r3, r4, r5, r6) := by first | (rw [hy107]; with_reducible exact H) | (have H2_ := (Option.bind_some _ _).symm.trans H; rw [hy107]; with_reducible exact H2_) | (have H2_ := (Option.bind_some _ _).symm.trans H; with_reducible exact H2_) | with_reducible exact H | (rw [hy107]; exact H) | exact H
                    have Ny107 := Aside0.mk hy107
                    clear hy107
                    have H' := Aside0.mk H
                    clear H
                    have p18 : 0 ≤ (x8_2 : Int) := of_decide_eq_true (by first | (with_reducible assumption) | assumption)
                    have q18 : (x8_2 : Int) < ((x7_2.length : Int) : Int) := of_decide_eq_true (by first | (with_reducible assumption) | assumption)
                    obtain ⟨go18, co18, eo18, gb18, gl18, cl18, HG18⟩ := Kd.R_form HO_7.out (by omega)
                    (first | cases eo18 | (injection eo18 with ea_ en_ ec_; (first | subst ea_ | (injection ea_ with ea_; subst ea_)); subst ec_; clear en_))
                    have GB18 := Aside0.mk gb18
                    have GG18 := Aside0.mk HG18
                    clear gb18 gl18 HG18
                    obtain ⟨hx18_0, hf18_0⟩ := Kd.R_celln 0 HO_7.out (x8_2 : Int) p18 q18
                    replace p18 := eq_true p18
                    replace q18 := eq_true q18
                    have HP19 := Kd.R_putg HO_7.out (x8_2 : Int) (Go.bits .or .u8 160 ((Go.bits .and .u32 x1_2 31) % 256))
                    go_wp2_with (first | ((with_reducible refine gate_store (t := 5) (p := 39) rfl ?_); refine store_event (t := 5) (p := 39) (v := ?vo_w20) (w1 := (wr.setCell ⟨go18, (x8_2 : Int).toNat, none⟩ (.int .u8 (Go.bits .or .u8 160 ((Go.bits .and .u32 x1_2 31) % 256))))) ?hg ?ho ?hn ?hr ?_; (case ho => rfl); (case hg => rfl); (case hn => rfl); (case hr => first | (go_simp; done) | (go_simp; rfl)); intro w20 hw; have hg : wr.grownBy w20 (some go18) := (by rw [hw]; exact HP19.2); have hp_ : Kd.R (Kd.int .u8) 5 w20 w.heap.size (fun _ => True) (.slice (some ⟨go18, 0, none⟩) x7_2.length co18) y107 := (by rw [hw, Ny107.out]; exact HP19.1); clear HP19; have n0_ := Aside0.mk (hp_); have n1_ := Aside0.mk (IsG.grown (by repeat (first | (with_reducible first | exact HI0.out | apply IsG.alloc | apply IsG.drewN | apply IsG.drew | apply IsG.set_0 | apply IsG.set_1 | apply IsG.set_2 | apply IsG.set_3 | apply IsG.set_4) | exact HI0.out)) hg (IsG.own_ne HI0.out HO_7.out (by decide))); have n2_ := Aside0.mk ((by rw [hw]; exact below_set (HB.out) (Nat.le_trans HL.out GB18.out) : Below w0.heap.size w0 w20)); have n3_ := Aside0.mk (KeepBut.trans (by repeat (first | (with_reducible first | exact HK.out | apply KeepBut.set_ | apply keep_drewN | apply keep_drew | apply keep_alloc) | exact HK.out)) (KeepBut.of_grown hg g) (Kd.R_base2 HO_7.out)); clear HO_7; clear HI0; clear HB; clear HK; have HO_7 := n0_; have HI0 := n1_; have HB := n2_; have HK := n3_; clear n0_ n1_ n2_ n3_; clear hg hw hp_))
                    go_roundg k2
                    case measure => have := HJ2.out; have := HK2.out; omega
                    case rel => exact ⟨(x1_2 / 32), (y107), (wrap64 (x8_2 - 1)), (by first | rfl | (simp; done) | (simp [*]; done)), (by first | rfl | (simp; done) | (simp [*]; done)), H', ⟨by have := HJ2.out; have := HK2.out; omega⟩, ⟨by (with_reducible repeat (first | apply Kd.R_alloc | apply Kd.R_drewN | apply Kd.R_drew)); exact HO_7.out⟩, ⟨by repeat (first | (with_reducible first | exact HI0.out | apply IsG.alloc | apply IsG.drewN | apply IsG.drew | apply IsG.set_0 | apply IsG.set_1 | apply IsG.set_2 | apply IsG.set_3 | apply IsG.set_4) | exact HI0.out)⟩, ⟨by repeat (first | (with_reducible first | exact HK.out | apply KeepBut.set_ | apply keep_drewN | apply keep_drew | apply keep_alloc) | exact HK.out)⟩, ⟨by repeat (first | (with_reducible first | exact HB.out | apply below_alloc | apply pw_below_drewN | apply below_drew1 | refine below_set ?_ (IsG.ge HI0.out)) | exact HB.out)⟩⟩
                  · rw [if_neg c17] at H
                    exact absurd H (by simp)
                · rw [if_neg c16] at H
                  exact absurd H (by simp)
              · rw [if_neg c15] at H
                have c15b0 : decide (0 < x8_2) = false := decide_eq_false c15
                clear c15
                by_cases c21 : 0 < (x7_2.length : Int)
                · rw [if_pos c21] at H
                  have c21b0 : decide (0 < (x7_2.length : Int)) = true := decide_eq_true c21
                  have c21b1 : decide (0 < x7_2.length) = true := decide_eq_true (by omega)
                  clear c21
                  obtain ⟨y108, hy108⟩ : ∃ y_ : List Int, y_ = (x7_2.set (0 : Int).toNat (Go.bits .or .u8 x6_2 ((x1_2) % 256))) := ⟨_, rfl⟩
                  replace H : (some (strOfNums y108, s0_0, s0_1, s0_2, s0_3, s0_4)) = some (r1, r2, r3, r4, r5, r6) := by first | (rw [hy108]; with_reducible exact H) | (have H2_ := (Option.bind_some _ _).symm.trans H; rw [hy108]; with_reducible exact H2_) | (have H2_ := (Option.bind_some _ _).symm.trans H; with_reducible exact H2_) | with_reducible exact H | (rw [hy108]; exact H) | exact H
                  have Ny108 := Aside0.mk hy108
                  clear hy108
                  simp only [Option.some.injEq, Prod.mk.injEq] at H
                  obtain ⟨rfl, rfl, rfl, rfl, rfl, rfl⟩ := H
                  have p22 : 0 ≤ (0 : Int) := (by omega)
                  have q22 : (0 : Int) < ((x7_2.length : Int) : Int) := of_decide_eq_true (by first | (with_reducible assumption) | assumption)
                  have qi22 : (0 < x7_2.length) = True := eq_true (by omega)
                  obtain ⟨go22, co22, eo22, gb22, gl22, cl22, HG22⟩ := Kd.R_form HO_7.out (by omega)
                  (first | cases eo22 | (injection eo22 with ea_ en_ ec_; (first | subst ea_ | (injection ea_ with ea_; subst ea_)); subst ec_; clear en_))
                  have GB22 := Aside0.mk gb22
                  have GG22 := Aside0.mk HG22
                  clear gb22 gl22 HG22
                  obtain ⟨hx22_0, hf22_0⟩ := Kd.R_celln 0 HO_7.out (0 : Int) p22 q22
                  (try rw [show ((0 : Int)).toNat = 0 from rfl] at hx22_0)
                  (try simp only [Nat.reduceMul, Nat.zero_mul, Nat.zero_add, Nat.reduceAdd] at hx22_0)
                  (try rw [show ((0 : Int)).toNat = 0 from rfl] at hf22_0)
                  (try simp only [Nat.reduceMul, Nat.zero_mul, Nat.zero_add, Nat.reduceAdd] at hf22_0)
                  replace p22 := eq_true p22
                  replace q22 := eq_true q22
                  have HP23 := Kd.R_putg HO_7.out (0 : Int) (Go.bits .or .u8 x6_2 ((x1_2) % 256))
                  go_wp2_with (first | ((with_reducible refine gate_store (t := 5) (p := 47) rfl ?_); refine store_event (t := 5) (p := 47) (v := ?vo_w24) (w1 := (wr.setCell ⟨go22, (0 : Int).toNat, none⟩ (.int .u8 (Go.bits .or .u8 x6_2 ((x1_2) % 256))))) ?hg ?ho ?hn ?hr ?_; (case ho => rfl); (case hg => rfl); (case hn => rfl); (case hr => first | (go_simp; done) | (go_simp; rfl)); intro w24 hw; have hg : wr.grownBy w24 (some go22) := (by rw [hw]; exact HP23.2); have hp_ : Kd.R (Kd.int .u8) 5 w24 w.heap.size (fun _ => True) (.slice (some ⟨go22, 0, none⟩) x7_2.length co22) y108 := (by rw [hw, Ny108.out]; exact HP23.1); clear HP23; have n0_ := Aside0.mk (hp_); have n1_ := Aside0.mk (IsG.grown (by repeat (first | (with_reducible first | exact HI0.out | apply IsG.alloc | apply IsG.drewN | apply IsG.drew | apply IsG.set_0 | apply IsG.set_1 | apply IsG.set_2 | apply IsG.set_3 | apply IsG.set_4) | exact HI0.out)) hg (IsG.own_ne HI0.out HO_7.out (by decide))); have n2_ := Aside0.mk ((by rw [hw]; exact below_set (HB.out) (Nat.le_trans HL.out GB22.out) : Below w0.heap.size w0 w24)); have n3_ := Aside0.mk (KeepBut.trans (by repeat (first | (with_reducible first | exact HK.out | apply KeepBut.set_ | apply keep_drewN | apply keep_drew | apply keep_alloc) | exact HK.out)) (KeepBut.of_grown hg g) (Kd.R_base2 HO_7.out)); clear HO_7; clear HI0; clear HB; clear HK; have HO_7 := n0_; have HI0 := n1_; have HB := n2_; have HK := n3_; clear n0_ n1_ n2_ n3_; clear hg hw hp_; have hcv25 := own_string (P := Try.prog) Try.underlying88 Try.underlying5 Try.underlying9 (Kd.own_of_R HO_7.out)))
                  go_ret
                  exact ⟨by first | rfl | (simp [errW_none, errW_some] <;> rfl) | (simp [*, errW_none, errW_some] <;> rfl), by repeat (first | (with_reducible first | exact HI0.out | apply IsG.alloc | apply IsG.drewN | apply IsG.drew | apply IsG.set_0 | apply IsG.set_1 | apply IsG.set_2 | apply IsG.set_3 | apply IsG.set_4) | exact HI0.out), by repeat (first | (with_reducible first | exact HB.out | apply below_alloc | apply pw_below_drewN | apply below_drew1 | refine below_set ?_ (IsG.ge HI0.out)) | exact HB.out), by repeat (first | (with_reducible first | exact HK.out | apply KeepBut.set_ | apply keep_drewN | apply keep_drew | apply keep_alloc) | exact HK.out)⟩
                · rw [if_neg c21] at H
                  exact absurd H (by simp)
        · rw [if_neg c12] at H
          exact absurd H (by simp)
      · rw [if_neg c11] at H
        exact absurd H (by simp)
end Go.Proofs.Ytcfpbihkodjlkaa.PMod8Bytes
