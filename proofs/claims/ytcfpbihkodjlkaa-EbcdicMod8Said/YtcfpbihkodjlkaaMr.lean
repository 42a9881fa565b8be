/- The reference of layer 6: Some (by hand), Begins, Size, Read; began as a print over slices in the place of arrays. -/
import Derived.Test.YtcfpbihkodjlkaaProg
import Derived.Below
import Derived.Deep.Draws
import Derived.Deep.AppendLies
import Derived.Maps.AppendAt
import Derived.OwnWalk
import Derived.Laws.BytesArg
import Derived.Laws.MakeOwn
import Derived.Laws.OwnMore
import Derived.Deep.OwnRows
import Derived.Tactics
import Derived.Lib.ConvBytes
import Derived.Laws.Slices
import Derived.WalkKit
import Derived.KernelRfl
import Derived.RowKit3
import Derived.Deep.LoopGhost
import Derived.Deep.QuietTactic
import Derived.BigQuiet
import Derived.WideLaws
import Derived.Deep.DeepCutAuto
import Derived.Deep.CutBlock
import Derived.Deep.RegionHeld3
import Derived.Laws.Rows
import Derived.Lib.AppendStr
import Derived.ArgAppend
import Derived.Laws.IdiomCopy
import Derived.OrdersHeld
import Derived.Laws.BitsLemmas
import Derived.RowKit
import Derived.Test.YtcfpbihkodjlkaaWWords
import Derived.Test.YtcfpbihkodjlkaaWLast
import Derived.Test.YtcfpbihkodjlkaaWTab
import Derived.Test.YtcfpbihkodjlkaaWFour
import Derived.Test.YtcfpbihkodjlkaaWQPut
import Derived.Test.YtcfpbihkodjlkaaWApart
import Derived.Test.YtcfpbihkodjlkaaWArr
import Derived.Test.YtcfpbihkodjlkaaWZeros
import Derived.Test.YtcfpbihkodjlkaaWFoot
import Derived.Test.YtcfpbihkodjlkaaWKept
import Derived.Test.YtcfpbihkodjlkaaWShare
import Derived.Test.YtcfpbihkodjlkaaWN
import Derived.Test.YtcfpbihkodjlkaaWFootNe
import Derived.Test.YtcfpbihkodjlkaaWAt
import Derived.Test.YtcfpbihkodjlkaaWEqStruct
import Derived.Test.YtcfpbihkodjlkaaWRepsOne
import Derived.Test.YtcfpbihkodjlkaaWInv
import Derived.Test.YtcfpbihkodjlkaaWInvWords
import Derived.Test.YtcfpbihkodjlkaaWGuard
import Derived.Test.YtcfpbihkodjlkaaWNEv
import Derived.Test.YtcfpbihkodjlkaaWMore
namespace Go.Proofs.Ytcfpbihkodjlkaa.PMod8Extends
open Go.RowKit Go.Proofs.YtcfpbihkodjlkaaW.PrintWords Go.Proofs.YtcfpbihkodjlkaaW.PrintLast Go.Proofs.YtcfpbihkodjlkaaW.PrintMore
attribute [local go_sem] max2_int min2_int max_two min_two max_three min_three max_four min_four   -- for this text's walks alone
set_option linter.unusedVariables false
set_option linter.unusedSimpArgs false



def errW : Option Int → Value
  | none => .nilIface
  | some c => .iface 0 (.int .i64 c)
theorem errW_none : errW none = .nilIface := rfl
theorem errW_some (c : Int) : errW (some c) = .iface 0 (.int .i64 c) := rfl

theorem info5 : (Try.prog.info? 5).map (fun i => (i.zero, i.size, i.bytes)) = some (some (.int .u8 0), 1, 1) := by kernel_rfl
theorem info22 : (Try.prog.info? 22).map (fun i => (i.zero, i.size, i.bytes)) = some (some (.int .u32 0), 1, 4) := by kernel_rfl
-- the values' own types

/-! ### Some: its tables are arrays: walked by hand -/
/-- The least scalar from lo to hi, of those from least to most. -/
def someT (least most lo hi : Int) : Int × Bool :=
  let l := if lo < least then least else lo
  let h := if hi > most then most else hi
  let l := if 55296 ≤ l ∧ l ≤ 57343 then 57344 else l
  (l, decide (l ≤ h))
theorem some_1 (a0 a1 : Int) (w : World) :
    Calls Try.prog 66 #[.int .u32 a0, .int .u32 a1, .int .i64 1] w fun e w' => e = .returned (.tuple #[.int .u32 (someT 0 159 a0 a1).1, .bool (someT 0 159 a0 a1).2]) ∧ Below w.heap.size w w' := by
  go_enter Try.func66, Try.ntmps66
  go_wp2_with fail
  all_goals go_ret2
  all_goals refine ⟨?_, below_alloc (below_alloc (Below.refl _ _) _) _⟩
  all_goals simp only [someT]
  all_goals (repeat' split)
  all_goals first | rfl | (exfalso; omega) | (simp; omega)
theorem some_2 (a0 a1 : Int) (w : World) :
    Calls Try.prog 66 #[.int .u32 a0, .int .u32 a1, .int .i64 2] w fun e w' => e = .returned (.tuple #[.int .u32 (someT 160 1023 a0 a1).1, .bool (someT 160 1023 a0 a1).2]) ∧ Below w.heap.size w w' := by
  go_enter Try.func66, Try.ntmps66
  go_wp2_with fail
  all_goals go_ret2
  all_goals refine ⟨?_, below_alloc (below_alloc (Below.refl _ _) _) _⟩
  all_goals simp only [someT]
  all_goals (repeat' split)
  all_goals first | rfl | (exfalso; omega) | (simp; omega)
theorem some_3 (a0 a1 : Int) (w : World) :
    Calls Try.prog 66 #[.int .u32 a0, .int .u32 a1, .int .i64 3] w fun e w' => e = .returned (.tuple #[.int .u32 (someT 1024 16383 a0 a1).1, .bool (someT 1024 16383 a0 a1).2]) ∧ Below w.heap.size w w' := by
  go_enter Try.func66, Try.ntmps66
  go_wp2_with fail
  all_goals go_ret2
  all_goals refine ⟨?_, below_alloc (below_alloc (Below.refl _ _) _) _⟩
  all_goals simp only [someT]
  all_goals (repeat' split)
  all_goals first | rfl | (exfalso; omega) | (simp; omega)
theorem some_4 (a0 a1 : Int) (w : World) :
    Calls Try.prog 66 #[.int .u32 a0, .int .u32 a1, .int .i64 4] w fun e w' => e = .returned (.tuple #[.int .u32 (someT 16384 262143 a0 a1).1, .bool (someT 16384 262143 a0 a1).2]) ∧ Below w.heap.size w w' := by
  go_enter Try.func66, Try.ntmps66
  go_wp2_with fail
  all_goals go_ret2
  all_goals refine ⟨?_, below_alloc (below_alloc (Below.refl _ _) _) _⟩
  all_goals simp only [someT]
  all_goals (repeat' split)
  all_goals first | rfl | (exfalso; omega) | (simp; omega)
theorem some_5 (a0 a1 : Int) (w : World) :
    Calls Try.prog 66 #[.int .u32 a0, .int .u32 a1, .int .i64 5] w fun e w' => e = .returned (.tuple #[.int .u32 (someT 262144 1114111 a0 a1).1, .bool (someT 262144 1114111 a0 a1).2]) ∧ Below w.heap.size w w' := by
  go_enter Try.func66, Try.ntmps66
  go_wp2_with fail
  all_goals go_ret2
  all_goals refine ⟨?_, below_alloc (below_alloc (Below.refl _ _) _) _⟩
  all_goals simp only [someT]
  all_goals (repeat' split)
  all_goals first | rfl | (exfalso; omega) | (simp; omega)
def pilcrowref06_Some.f (k : Nat) (a0 : Int) (a1 : Int) (a2 : Int) : Option (Int × Bool) := if a2 = 1 then some (someT 0 159 a0 a1) else if a2 = 2 then some (someT 160 1023 a0 a1) else if a2 = 3 then some (someT 1024 16383 a0 a1) else if a2 = 4 then some (someT 16384 262143 a0 a1) else if a2 = 5 then some (someT 262144 1114111 a0 a1) else none
theorem pilcrowref06_Some.mono : ∀ a0 a1 a2 k, LeO (pilcrowref06_Some.f k a0 a1 a2) (pilcrowref06_Some.f (k + 1) a0 a1 a2) := fun _ _ _ _ => LeO.refl _
theorem pilcrowref06_Some.calls (k : Nat) (a0 : Int) (a1 : Int) (a2 : Int) (r1 : Int) (r2 : Bool) (w : World) (h : pilcrowref06_Some.f k a0 a1 a2 = some (r1, r2)) :
    Calls Try.prog 66 #[.int .u32 a0, .int .u32 a1, .int .i64 a2] w fun e w' => e = .returned (.tuple #[.int .u32 r1, .bool r2]) ∧ Below w.heap.size w w' := by
  unfold pilcrowref06_Some.f at h
  split at h
  · rename_i e
    subst e
    simp only [Option.some.injEq] at h
    have h1 : (someT 0 159 a0 a1).1 = r1 := by rw [h]
    have h2 : (someT 0 159 a0 a1).2 = r2 := by rw [h]
    rw [← h1, ← h2]
    exact some_1 a0 a1 w
  split at h
  · rename_i e
    subst e
    simp only [Option.some.injEq] at h
    have h1 : (someT 160 1023 a0 a1).1 = r1 := by rw [h]
    have h2 : (someT 160 1023 a0 a1).2 = r2 := by rw [h]
    rw [← h1, ← h2]
    exact some_2 a0 a1 w
  split at h
  · rename_i e
    subst e
    simp only [Option.some.injEq] at h
    have h1 : (someT 1024 16383 a0 a1).1 = r1 := by rw [h]
    have h2 : (someT 1024 16383 a0 a1).2 = r2 := by rw [h]
    rw [← h1, ← h2]
    exact some_3 a0 a1 w
  split at h
  · rename_i e
    subst e
    simp only [Option.some.injEq] at h
    have h1 : (someT 16384 262143 a0 a1).1 = r1 := by rw [h]
    have h2 : (someT 16384 262143 a0 a1).2 = r2 := by rw [h]
    rw [← h1, ← h2]
    exact some_4 a0 a1 w
  split at h
  · rename_i e
    subst e
    simp only [Option.some.injEq] at h
    have h1 : (someT 262144 1114111 a0 a1).1 = r1 := by rw [h]
    have h2 : (someT 262144 1114111 a0 a1).2 = r2 := by rw [h]
    rw [← h1, ← h2]
    exact some_5 a0 a1 w
  cases h
/-! ### pilcrowref06_Begins: function 59 -/
mutual
def pilcrowref06_Begins.j4 : Nat → ByteArray → Int → Int → Option (Int × Bool)
  | 0, _, _, _ => none
  | k + 1, x0, x4, x5 => if (x0.size : Int) > x5 then (some (0, false)) else (pilcrowref06_Begins.l0 k x0 x5 x4 x4 1)
def pilcrowref06_Begins.l0 : Nat → ByteArray → Int → Int → Int → Int → Option (Int × Bool)
  | 0, _, _, _, _, _ => none
  | k + 1, x0, x5, x6, x7, x8 => if x8 < x5 then (if x8 < (x0.size : Int) then (if 0 ≤ x8 then (if (bt x0 x8) < 160 then (some (0, false)) else (if (bt x0 x8) > 191 then (some (0, false)) else (pilcrowref06_Begins.l0 k x0 x5 ((((((x6 * 32) % 4294967296) + ((bt x0 x8) % 4294967296)) % 4294967296) - 160) % 4294967296) ((((((((((x7 * 32) % 4294967296) + 31) % 4294967296) - 31) % 4294967296) + ((bt x0 x8) % 4294967296)) % 4294967296) - 160) % 4294967296) (wrap64 (x8 + 1))))) else (none)) else (pilcrowref06_Begins.l0 k x0 x5 ((x6 * 32) % 4294967296) ((((x7 * 32) % 4294967296) + 31) % 4294967296) (wrap64 (x8 + 1)))) else ((pilcrowref06_Some.f k x6 x7 x5).bind fun bt156 => (some (bt156.1, bt156.2)))
def pilcrowref06_Begins.j0 : Nat → ByteArray → Int → Int → Bool → Option (Int × Bool)
  | 0, _, _, _, _ => none
  | k + 1, x0, x4, x5, x12 => if x12 = true then (pilcrowref06_Begins.j4 k x0 ((x4 - 192) % 4294967296) 2) else (if x4 ≥ 224 then (pilcrowref06_Begins.j1 k x0 x4 x5 (decide (x4 < 240))) else (pilcrowref06_Begins.j1 k x0 x4 x5 false))
def pilcrowref06_Begins.j1 : Nat → ByteArray → Int → Int → Bool → Option (Int × Bool)
  | 0, _, _, _, _ => none
  | k + 1, x0, x4, x5, x21 => if x21 = true then (pilcrowref06_Begins.j4 k x0 ((x4 - 224) % 4294967296) 3) else (if x4 ≥ 240 then (pilcrowref06_Begins.j2 k x0 x4 x5 (decide (x4 < 248))) else (pilcrowref06_Begins.j2 k x0 x4 x5 false))
def pilcrowref06_Begins.j2 : Nat → ByteArray → Int → Int → Bool → Option (Int × Bool)
  | 0, _, _, _, _ => none
  | k + 1, x0, x4, x5, x30 => if x30 = true then (pilcrowref06_Begins.j4 k x0 ((x4 - 240) % 4294967296) 4) else (if x4 ≥ 248 then (pilcrowref06_Begins.j3 k x0 x4 x5 (decide (x4 < 252))) else (pilcrowref06_Begins.j3 k x0 x4 x5 false))
def pilcrowref06_Begins.j3 : Nat → ByteArray → Int → Int → Bool → Option (Int × Bool)
  | 0, _, _, _, _ => none
  | k + 1, x0, x4, x5, x39 => if x39 = true then (pilcrowref06_Begins.j4 k x0 ((x4 - 248) % 4294967296) 5) else (if x4 ≥ 160 then (some (0, false)) else (pilcrowref06_Begins.j4 k x0 x4 x5))
end
def pilcrowref06_Begins.f (k : Nat) (a0 : ByteArray) : Option (Int × Bool) := if 0 < (a0.size : Int) then (if ((bt a0 0) % 4294967296) ≥ 192 then (pilcrowref06_Begins.j0 k a0 ((bt a0 0) % 4294967296) 1 (decide (((bt a0 0) % 4294967296) < 224))) else (pilcrowref06_Begins.j0 k a0 ((bt a0 0) % 4294967296) 1 false)) else (none)
theorem pilcrowref06_Begins.mono_l : ∀ k, (∀ y0 y1 y2, LeO (pilcrowref06_Begins.j4 k y0 y1 y2) (pilcrowref06_Begins.j4 (k + 1) y0 y1 y2)) ∧ (∀ y0 y1 y2 y3 y4, LeO (pilcrowref06_Begins.l0 k y0 y1 y2 y3 y4) (pilcrowref06_Begins.l0 (k + 1) y0 y1 y2 y3 y4)) ∧ (∀ y0 y1 y2 y3, LeO (pilcrowref06_Begins.j0 k y0 y1 y2 y3) (pilcrowref06_Begins.j0 (k + 1) y0 y1 y2 y3)) ∧ (∀ y0 y1 y2 y3, LeO (pilcrowref06_Begins.j1 k y0 y1 y2 y3) (pilcrowref06_Begins.j1 (k + 1) y0 y1 y2 y3)) ∧ (∀ y0 y1 y2 y3, LeO (pilcrowref06_Begins.j2 k y0 y1 y2 y3) (pilcrowref06_Begins.j2 (k + 1) y0 y1 y2 y3)) ∧ (∀ y0 y1 y2 y3, LeO (pilcrowref06_Begins.j3 k y0 y1 y2 y3) (pilcrowref06_Begins.j3 (k + 1) y0 y1 y2 y3))
  | 0 => ⟨fun _ _ _ r h => by simp [pilcrowref06_Begins.j4] at h, fun _ _ _ _ _ r h => by simp [pilcrowref06_Begins.l0] at h, fun _ _ _ _ r h => by simp [pilcrowref06_Begins.j0] at h, fun _ _ _ _ r h => by simp [pilcrowref06_Begins.j1] at h, fun _ _ _ _ r h => by simp [pilcrowref06_Begins.j2] at h, fun _ _ _ _ r h => by simp [pilcrowref06_Begins.j3] at h⟩
  | k + 1 => by
    obtain ⟨ih0, ih1, ih2, ih3, ih4, ih5⟩ := pilcrowref06_Begins.mono_l k
    refine ⟨?_, ?_, ?_, ?_, ?_, ?_⟩
    · intro y0 y1 y2
      unfold pilcrowref06_Begins.j4
      repeat' first
      | (with_reducible exact ih0 _ _ _)
      | (with_reducible exact ih1 _ _ _ _ _)
      | (with_reducible exact ih2 _ _ _ _)
      | (with_reducible exact ih3 _ _ _ _)
      | (with_reducible exact ih4 _ _ _ _)
      | (with_reducible exact ih5 _ _ _ _)
      | (with_reducible exact pilcrowref06_Some.mono _ _ _ _)
      | (with_reducible exact LeO.refl _)
      | (with_reducible exact LeO.none _)
      | (with_reducible refine LeO.ite ?_ ?_)
      | (with_reducible refine LeO.bind ?_ (fun _ => ?_))
      | exact ih0 _ _ _
      | exact ih1 _ _ _ _ _
      | exact ih2 _ _ _ _
      | exact ih3 _ _ _ _
      | exact ih4 _ _ _ _
      | exact ih5 _ _ _ _
      | exact pilcrowref06_Some.mono _ _ _ _
      | exact LeO.none _
      | refine LeO.ite ?_ ?_
      | refine LeO.bind ?_ (fun _ => ?_)
    · intro y0 y1 y2 y3 y4
      unfold pilcrowref06_Begins.l0
      repeat' first
      | (with_reducible exact ih0 _ _ _)
      | (with_reducible exact ih1 _ _ _ _ _)
      | (with_reducible exact ih2 _ _ _ _)
      | (with_reducible exact ih3 _ _ _ _)
      | (with_reducible exact ih4 _ _ _ _)
      | (with_reducible exact ih5 _ _ _ _)
      | (with_reducible exact pilcrowref06_Some.mono _ _ _ _)
      | (with_reducible exact LeO.refl _)
      | (with_reducible exact LeO.none _)
      | (with_reducible refine LeO.ite ?_ ?_)
      | (with_reducible refine LeO.bind ?_ (fun _ => ?_))
      | exact ih0 _ _ _
      | exact ih1 _ _ _ _ _
      | exact ih2 _ _ _ _
      | exact ih3 _ _ _ _
      | exact ih4 _ _ _ _
      | exact ih5 _ _ _ _
      | exact pilcrowref06_Some.mono _ _ _ _
      | exact LeO.none _
      | refine LeO.ite ?_ ?_
      | refine LeO.bind ?_ (fun _ => ?_)
    · intro y0 y1 y2 y3
      unfold pilcrowref06_Begins.j0
      repeat' first
      | (with_reducible exact ih0 _ _ _)
      | (with_reducible exact ih1 _ _ _ _ _)
      | (with_reducible exact ih2 _ _ _ _)
      | (with_reducible exact ih3 _ _ _ _)
      | (with_reducible exact ih4 _ _ _ _)
      | (with_reducible exact ih5 _ _ _ _)
      | (with_reducible exact pilcrowref06_Some.mono _ _ _ _)
      | (with_reducible exact LeO.refl _)
      | (with_reducible exact LeO.none _)
      | (with_reducible refine LeO.ite ?_ ?_)
      | (with_reducible refine LeO.bind ?_ (fun _ => ?_))
      | exact ih0 _ _ _
      | exact ih1 _ _ _ _ _
      | exact ih2 _ _ _ _
      | exact ih3 _ _ _ _
      | exact ih4 _ _ _ _
      | exact ih5 _ _ _ _
      | exact pilcrowref06_Some.mono _ _ _ _
      | exact LeO.none _
      | refine LeO.ite ?_ ?_
      | refine LeO.bind ?_ (fun _ => ?_)
    · intro y0 y1 y2 y3
      unfold pilcrowref06_Begins.j1
      repeat' first
      | (with_reducible exact ih0 _ _ _)
      | (with_reducible exact ih1 _ _ _ _ _)
      | (with_reducible exact ih2 _ _ _ _)
      | (with_reducible exact ih3 _ _ _ _)
      | (with_reducible exact ih4 _ _ _ _)
      | (with_reducible exact ih5 _ _ _ _)
      | (with_reducible exact pilcrowref06_Some.mono _ _ _ _)
      | (with_reducible exact LeO.refl _)
      | (with_reducible exact LeO.none _)
      | (with_reducible refine LeO.ite ?_ ?_)
      | (with_reducible refine LeO.bind ?_ (fun _ => ?_))
      | exact ih0 _ _ _
      | exact ih1 _ _ _ _ _
      | exact ih2 _ _ _ _
      | exact ih3 _ _ _ _
      | exact ih4 _ _ _ _
      | exact ih5 _ _ _ _
      | exact pilcrowref06_Some.mono _ _ _ _
      | exact LeO.none _
      | refine LeO.ite ?_ ?_
      | refine LeO.bind ?_ (fun _ => ?_)
    · intro y0 y1 y2 y3
      unfold pilcrowref06_Begins.j2
      repeat' first
      | (with_reducible exact ih0 _ _ _)
      | (with_reducible exact ih1 _ _ _ _ _)
      | (with_reducible exact ih2 _ _ _ _)
      | (with_reducible exact ih3 _ _ _ _)
      | (with_reducible exact ih4 _ _ _ _)
      | (with_reducible exact ih5 _ _ _ _)
      | (with_reducible exact pilcrowref06_Some.mono _ _ _ _)
      | (with_reducible exact LeO.refl _)
      | (with_reducible exact LeO.none _)
      | (with_reducible refine LeO.ite ?_ ?_)
      | (with_reducible refine LeO.bind ?_ (fun _ => ?_))
      | exact ih0 _ _ _
      | exact ih1 _ _ _ _ _
      | exact ih2 _ _ _ _
      | exact ih3 _ _ _ _
      | exact ih4 _ _ _ _
      | exact ih5 _ _ _ _
      | exact pilcrowref06_Some.mono _ _ _ _
      | exact LeO.none _
      | refine LeO.ite ?_ ?_
      | refine LeO.bind ?_ (fun _ => ?_)
    · intro y0 y1 y2 y3
      unfold pilcrowref06_Begins.j3
      repeat' first
      | (with_reducible exact ih0 _ _ _)
      | (with_reducible exact ih1 _ _ _ _ _)
      | (with_reducible exact ih2 _ _ _ _)
      | (with_reducible exact ih3 _ _ _ _)
      | (with_reducible exact ih4 _ _ _ _)
      | (with_reducible exact ih5 _ _ _ _)
      | (with_reducible exact pilcrowref06_Some.mono _ _ _ _)
      | (with_reducible exact LeO.refl _)
      | (with_reducible exact LeO.none _)
      | (with_reducible refine LeO.ite ?_ ?_)
      | (with_reducible refine LeO.bind ?_ (fun _ => ?_))
      | exact ih0 _ _ _
      | exact ih1 _ _ _ _ _
      | exact ih2 _ _ _ _
      | exact ih3 _ _ _ _
      | exact ih4 _ _ _ _
      | exact ih5 _ _ _ _
      | exact pilcrowref06_Some.mono _ _ _ _
      | exact LeO.none _
      | refine LeO.ite ?_ ?_
      | refine LeO.bind ?_ (fun _ => ?_)
theorem pilcrowref06_Begins.mono : ∀ a0 k, LeO (pilcrowref06_Begins.f k a0) (pilcrowref06_Begins.f (k + 1) a0) := by
  intro a0 k
  obtain ⟨ih0, ih1, ih2, ih3, ih4, ih5⟩ := pilcrowref06_Begins.mono_l k
  unfold pilcrowref06_Begins.f
  repeat' first
      | (with_reducible exact ih0 _ _ _)
      | (with_reducible exact ih1 _ _ _ _ _)
      | (with_reducible exact ih2 _ _ _ _)
      | (with_reducible exact ih3 _ _ _ _)
      | (with_reducible exact ih4 _ _ _ _)
      | (with_reducible exact ih5 _ _ _ _)
      | (with_reducible exact pilcrowref06_Some.mono _ _ _ _)
      | (with_reducible exact LeO.refl _)
      | (with_reducible exact LeO.none _)
      | (with_reducible refine LeO.ite ?_ ?_)
      | (with_reducible refine LeO.bind ?_ (fun _ => ?_))
      | exact ih0 _ _ _
      | exact ih1 _ _ _ _ _
      | exact ih2 _ _ _ _
      | exact ih3 _ _ _ _
      | exact ih4 _ _ _ _
      | exact ih5 _ _ _ _
      | exact pilcrowref06_Some.mono _ _ _ _
      | exact LeO.none _
      | refine LeO.ite ?_ ?_
      | refine LeO.bind ?_ (fun _ => ?_)
set_option maxHeartbeats 8000000 in
set_option maxRecDepth 100000 in
theorem pilcrowref06_Begins.calls (k : Nat) (a0 : ByteArray) (r1 : Int) (r2 : Bool) (w : World) (h : pilcrowref06_Begins.f k a0 = some (r1, r2)) :
    Calls Try.prog 59 #[.string a0] w fun e w' => e = .returned (.tuple #[.int .u32 r1, .bool r2]) ∧ Below w.heap.size w w' := by
  have HB := Aside0.mk (Below.refl w.heap.size w)
  have H : (if 0 < (a0.size : Int) then (if ((bt a0 0) % 4294967296) ≥ 192 then (pilcrowref06_Begins.j0 k a0 ((bt a0 0) % 4294967296) 1 (decide (((bt a0 0) % 4294967296) < 224))) else (pilcrowref06_Begins.j0 k a0 ((bt a0 0) % 4294967296) 1 false)) else (none)) = some (r1, r2) := h
  clear h
  by_cases c2 : 0 < (a0.size : Int)
  · rw [if_pos c2] at H
    have c2b0 : decide (0 < (a0.size : Int)) = true := decide_eq_true c2
    have c2b1 : decide (0 < a0.size) = true := decide_eq_true (by omega)
    clear c2
    have HC4 := Aside0.mk H
    clear H
    have p3 : 0 ≤ (0 : Int) := (by omega)
    have q3 : 0 < a0.size := (by have : (0 : Int) < (a0.size : Int) := of_decide_eq_true (by first | (with_reducible assumption) | assumption); omega)
    have hx3 : ∀ h : 0 < a0.size, ((a0[0]'h).toNat : Int) = bt a0 0 := bt_at a0 0
    clear p3
    have qi3 : (0 < (a0.size : Int)) = True := eq_true (of_decide_eq_true (by first | (with_reducible assumption) | assumption))
    replace q3 := eq_true q3
    go_enter Try.func59, Try.ntmps59
    go_upto_block 0 with (fail)
    go_cut [4, 5] (fun v4 v5 wc => ∃ (kq : Nat) (x4_3 : Int) (x5_3 : Int), v4 = .int .u32 x4_3 ∧ v5 = .int .i64 x5_3 ∧ Aside0 (pilcrowref06_Begins.j4 kq a0 x4_3 x5_3 = some (r1, r2)) ∧ Aside0 (kq ≤ k) ∧ Aside0 (Below w.heap.size w wc))
    case first =>
      have H := HC4.out
      clear HC4
      have HC5 := Aside0.mk H
      clear H
      go_upto_region 3 with (fail)
      go_cut [12] (fun v12 wc => ∃ (kq : Nat) (x12_4 : Bool), v12 = .bool x12_4 ∧ Aside0 (pilcrowref06_Begins.j0 kq a0 ((bt a0 0) % 4294967296) 1 x12_4 = some (r1, r2)) ∧ Aside0 (kq ≤ k) ∧ Aside0 (Below w.heap.size w wc))
      case first =>
        have H := HC5.out
        clear HC5
        by_cases c6 : ((bt a0 0) % 4294967296) ≥ 192
        · rw [if_pos c6] at H
          have c6b0 : decide (192 ≤ ((bt a0 0) % 4294967296)) = true := decide_eq_true c6
          clear c6
          (first | rw [c6b0] | (simp only [i64_w, i32_w]; rw [c6b0]) | skip)
          have H' := Aside0.mk H
          clear H
          go_wp2
          go_meet
          case rel => exact ⟨_, (decide (((bt a0 0) % 4294967296) < 224)), (by first | rfl | (simp; done) | (simp [*]; done) | (simp; omega)), H', ⟨by first | omega | exact Nat.le_refl _⟩, ⟨by repeat (first | (with_reducible first | exact HB.out | apply below_alloc | apply pw_below_drewN | apply below_drew1) | exact HB.out)⟩⟩
        · rw [if_neg c6] at H
          have c6b0 : decide (192 ≤ ((bt a0 0) % 4294967296)) = false := decide_eq_false c6
          clear c6
          (first | rw [c6b0] | (simp only [i64_w, i32_w]; rw [c6b0]) | skip)
          have H' := Aside0.mk H
          clear H
          go_wp2
          go_meet
          case rel => exact ⟨_, (false), (by first | rfl | (simp; done) | (simp [*]; done) | (simp; omega)), H', ⟨by first | omega | exact Nat.le_refl _⟩, ⟨by repeat (first | (with_reducible first | exact HB.out | apply below_alloc | apply pw_below_drewN | apply below_drew1) | exact HB.out)⟩⟩
      case rest =>
        clear HC5
        try clear c2
        try clear c2b0
        try clear c2b1
        try clear p2
        try clear p3
        try clear q3
        try clear hx3
        try clear qi3
        try clear c5
        try clear c6
        try clear c6b0
        try clear p3
        try clear q3
        obtain ⟨kq, x12_4, rfl, HA, HJ4, HB⟩ := hcut
        cases kq with
        | zero => exact absurd HA.out (by simp [pilcrowref06_Begins.j0])
        | succ kj4 =>
          have H := HA.out
          clear HA
          simp only [pilcrowref06_Begins.j0] at H
          by_cases c7 : x12_4 = true
          · subst c7
            have H1 : (pilcrowref06_Begins.j4 kj4 a0 ((((bt a0 0) % 4294967296) - 192) % 4294967296) 2) = some (r1, r2) := by rw [if_pos rfl] at H; exact H
            clear H
            have H := H1
            clear H1
            have H' := Aside0.mk H
            clear H
            go_wp2
            go_meet
            case rel => exact ⟨_, ((((bt a0 0) % 4294967296) - 192) % 4294967296), (2), (by first | rfl | (simp; done) | (simp [*]; done) | (simp; omega)), (by first | rfl | (simp; done) | (simp [*]; done) | (simp; omega)), H', ⟨by have := HJ4.out; first | omega | exact Nat.le_refl _⟩, ⟨by repeat (first | (with_reducible first | exact HB.out | apply below_alloc | apply pw_below_drewN | apply below_drew1) | exact HB.out)⟩⟩
          · replace c7 := Bool.eq_false_iff.mpr c7
            subst c7
            have H1 : (if ((bt a0 0) % 4294967296) ≥ 224 then (pilcrowref06_Begins.j1 kj4 a0 ((bt a0 0) % 4294967296) 1 (decide (((bt a0 0) % 4294967296) < 240))) else (pilcrowref06_Begins.j1 kj4 a0 ((bt a0 0) % 4294967296) 1 false)) = some (r1, r2) := by rw [if_neg (show ¬ (false = true) by decide)] at H; exact H
            clear H
            have H := H1
            clear H1
            have HC8 := Aside0.mk H
            clear H
            go_upto_region 6 with (fail)
            go_cut [21] (fun v21 wc => ∃ (kq : Nat) (x21_7 : Bool), v21 = .bool x21_7 ∧ Aside0 (pilcrowref06_Begins.j1 kq a0 ((bt a0 0) % 4294967296) 1 x21_7 = some (r1, r2)) ∧ Aside0 (kq ≤ kj4) ∧ Aside0 (Below w.heap.size w wc))
            case first =>
              have H := HC8.out
              clear HC8
              by_cases c9 : ((bt a0 0) % 4294967296) ≥ 224
              · rw [if_pos c9] at H
                have c9b0 : decide (224 ≤ ((bt a0 0) % 4294967296)) = true := decide_eq_true c9
                clear c9
                (first | rw [c9b0] | (simp only [i64_w, i32_w]; rw [c9b0]) | skip)
                have H' := Aside0.mk H
                clear H
                go_wp2
                go_meet
                case rel => exact ⟨_, (decide (((bt a0 0) % 4294967296) < 240)), (by first | rfl | (simp; done) | (simp [*]; done) | (simp; omega)), H', ⟨by have := HJ4.out; first | omega | exact Nat.le_refl _⟩, ⟨by repeat (first | (with_reducible first | exact HB.out | apply below_alloc | apply pw_below_drewN | apply below_drew1) | exact HB.out)⟩⟩
              · rw [if_neg c9] at H
                have c9b0 : decide (224 ≤ ((bt a0 0) % 4294967296)) = false := decide_eq_false c9
                clear c9
                (first | rw [c9b0] | (simp only [i64_w, i32_w]; rw [c9b0]) | skip)
                have H' := Aside0.mk H
                clear H
                go_wp2
                go_meet
                case rel => exact ⟨_, (false), (by first | rfl | (simp; done) | (simp [*]; done) | (simp; omega)), H', ⟨by have := HJ4.out; first | omega | exact Nat.le_refl _⟩, ⟨by repeat (first | (with_reducible first | exact HB.out | apply below_alloc | apply pw_below_drewN | apply below_drew1) | exact HB.out)⟩⟩
            case rest =>
              clear HC8
              try clear c2
              try clear c2b0
              try clear c2b1
              try clear p2
              try clear p3
              try clear q3
              try clear hx3
              try clear qi3
              try clear c5
              try clear c6
              try clear c6b0
              try clear c7
              try clear c9
              try clear c9b0
              try clear p2
              try clear p3
              try clear q3
              obtain ⟨kq, x21_7, rfl, HA, HJ7, HB⟩ := hcut
              cases kq with
              | zero => exact absurd HA.out (by simp [pilcrowref06_Begins.j1])
              | succ kj7 =>
                have H := HA.out
                clear HA
                simp only [pilcrowref06_Begins.j1] at H
                by_cases c10 : x21_7 = true
                · subst c10
                  have H1 : (pilcrowref06_Begins.j4 kj7 a0 ((((bt a0 0) % 4294967296) - 224) % 4294967296) 3) = some (r1, r2) := by rw [if_pos rfl] at H; exact H
                  clear H
                  have H := H1
                  clear H1
                  have H' := Aside0.mk H
                  clear H
                  go_wp2
                  go_meet
                  case rel => exact ⟨_, ((((bt a0 0) % 4294967296) - 224) % 4294967296), (3), (by first | rfl | (simp; done) | (simp [*]; done) | (simp; omega)), (by first | rfl | (simp; done) | (simp [*]; done) | (simp; omega)), H', ⟨by have := HJ4.out; have := HJ7.out; first | omega | exact Nat.le_refl _⟩, ⟨by repeat (first | (with_reducible first | exact HB.out | apply below_alloc | apply pw_below_drewN | apply below_drew1) | exact HB.out)⟩⟩
                · replace c10 := Bool.eq_false_iff.mpr c10
                  subst c10
                  have H1 : (if ((bt a0 0) % 4294967296) ≥ 240 then (pilcrowref06_Begins.j2 kj7 a0 ((bt a0 0) % 4294967296) 1 (decide (((bt a0 0) % 4294967296) < 248))) else (pilcrowref06_Begins.j2 kj7 a0 ((bt a0 0) % 4294967296) 1 false)) = some (r1, r2) := by rw [if_neg (show ¬ (false = true) by decide)] at H; exact H
                  clear H
                  have H := H1
                  clear H1
                  have HC11 := Aside0.mk H
                  clear H
                  go_upto_region 9 with (fail)
                  go_cut [30] (fun v30 wc => ∃ (kq : Nat) (x30_10 : Bool), v30 = .bool x30_10 ∧ Aside0 (pilcrowref06_Begins.j2 kq a0 ((bt a0 0) % 4294967296) 1 x30_10 = some (r1, r2)) ∧ Aside0 (kq ≤ kj7) ∧ Aside0 (Below w.heap.size w wc))
                  case first =>
                    have H := HC11.out
                    clear HC11
                    by_cases c12 : ((bt a0 0) % 4294967296) ≥ 240
                    · rw [if_pos c12] at H
                      have c12b0 : decide (240 ≤ ((bt a0 0) % 4294967296)) = true := decide_eq_true c12
                      clear c12
                      (first | rw [c12b0] | (simp only [i64_w, i32_w]; rw [c12b0]) | skip)
                      have H' := Aside0.mk H
                      clear H
                      go_wp2
                      go_meet
                      case rel => exact ⟨_, (decide (((bt a0 0) % 4294967296) < 248)), (by first | rfl | (simp; done) | (simp [*]; done) | (simp; omega)), H', ⟨by have := HJ4.out; have := HJ7.out; first | omega | exact Nat.le_refl _⟩, ⟨by repeat (first | (with_reducible first | exact HB.out | apply below_alloc | apply pw_below_drewN | apply below_drew1) | exact HB.out)⟩⟩
                    · rw [if_neg c12] at H
                      have c12b0 : decide (240 ≤ ((bt a0 0) % 4294967296)) = false := decide_eq_false c12
                      clear c12
                      (first | rw [c12b0] | (simp only [i64_w, i32_w]; rw [c12b0]) | skip)
                      have H' := Aside0.mk H
                      clear H
                      go_wp2
                      go_meet
                      case rel => exact ⟨_, (false), (by first | rfl | (simp; done) | (simp [*]; done) | (simp; omega)), H', ⟨by have := HJ4.out; have := HJ7.out; first | omega | exact Nat.le_refl _⟩, ⟨by repeat (first | (with_reducible first | exact HB.out | apply below_alloc | apply pw_below_drewN | apply below_drew1) | exact HB.out)⟩⟩
                  case rest =>
                    clear HC11
                    try clear c1
                    try clear c2
                    try clear c2b0
                    try clear c2b1
                    try clear p2
                    try clear p3
                    try clear q3
                    try clear hx3
                    try clear qi3
                    try clear c5
                    try clear c6
                    try clear c6b0
                    try clear c7
                    try clear c9
                    try clear c9b0
                    try clear c10
                    try clear c12
                    try clear c12b0
                    try clear p2
                    try clear p3
                    try clear q3
                    obtain ⟨kq, x30_10, rfl, HA, HJ10, HB⟩ := hcut
                    cases kq with
                    | zero => exact absurd HA.out (by simp [pilcrowref06_Begins.j2])
                    | succ kj10 =>
                      have H := HA.out
                      clear HA
                      simp only [pilcrowref06_Begins.j2] at H
                      by_cases c13 : x30_10 = true
                      · subst c13
                        have H1 : (pilcrowref06_Begins.j4 kj10 a0 ((((bt a0 0) % 4294967296) - 240) % 4294967296) 4) = some (r1, r2) := by rw [if_pos rfl] at H; exact H
                        clear H
                        have H := H1
                        clear H1
                        have H' := Aside0.mk H
                        clear H
                        go_wp2
                        go_meet
                        case rel => exact ⟨_, ((((bt a0 0) % 4294967296) - 240) % 4294967296), (4), (by first | rfl | (simp; done) | (simp [*]; done) | (simp; omega)), (by first | rfl | (simp; done) | (simp [*]; done) | (simp; omega)), H', ⟨by have := HJ4.out; have := HJ7.out; have := HJ10.out; first | omega | exact Nat.le_refl _⟩, ⟨by repeat (first | (with_reducible first | exact HB.out | apply below_alloc | apply pw_below_drewN | apply below_drew1) | exact HB.out)⟩⟩
                      · replace c13 := Bool.eq_false_iff.mpr c13
                        subst c13
                        have H1 : (if ((bt a0 0) % 4294967296) ≥ 248 then (pilcrowref06_Begins.j3 kj10 a0 ((bt a0 0) % 4294967296) 1 (decide (((bt a0 0) % 4294967296) < 252))) else (pilcrowref06_Begins.j3 kj10 a0 ((bt a0 0) % 4294967296) 1 false)) = some (r1, r2) := by rw [if_neg (show ¬ (false = true) by decide)] at H; exact H
                        clear H
                        have H := H1
                        clear H1
                        have HC14 := Aside0.mk H
                        clear H
                        go_upto_region 12 with (fail)
                        go_cut [39] (fun v39 wc => ∃ (kq : Nat) (x39_13 : Bool), v39 = .bool x39_13 ∧ Aside0 (pilcrowref06_Begins.j3 kq a0 ((bt a0 0) % 4294967296) 1 x39_13 = some (r1, r2)) ∧ Aside0 (kq ≤ kj10) ∧ Aside0 (Below w.heap.size w wc))
                        case first =>
                          have H := HC14.out
                          clear HC14
                          by_cases c15 : ((bt a0 0) % 4294967296) ≥ 248
                          · rw [if_pos c15] at H
                            have c15b0 : decide (248 ≤ ((bt a0 0) % 4294967296)) = true := decide_eq_true c15
                            clear c15
                            (first | rw [c15b0] | (simp only [i64_w, i32_w]; rw [c15b0]) | skip)
                            have H' := Aside0.mk H
                            clear H
                            go_wp2
                            go_meet
                            case rel => exact ⟨_, (decide (((bt a0 0) % 4294967296) < 252)), (by first | rfl | (simp; done) | (simp [*]; done) | (simp; omega)), H', ⟨by have := HJ4.out; have := HJ7.out; have := HJ10.out; first | omega | exact Nat.le_refl _⟩, ⟨by repeat (first | (with_reducible first | exact HB.out | apply below_alloc | apply pw_below_drewN | apply below_drew1) | exact HB.out)⟩⟩
                          · rw [if_neg c15] at H
                            have c15b0 : decide (248 ≤ ((bt a0 0) % 4294967296)) = false := decide_eq_false c15
                            clear c15
                            (first | rw [c15b0] | (simp only [i64_w, i32_w]; rw [c15b0]) | skip)
                            have H' := Aside0.mk H
                            clear H
                            go_wp2
                            go_meet
                            case rel => exact ⟨_, (false), (by first | rfl | (simp; done) | (simp [*]; done) | (simp; omega)), H', ⟨by have := HJ4.out; have := HJ7.out; have := HJ10.out; first | omega | exact Nat.le_refl _⟩, ⟨by repeat (first | (with_reducible first | exact HB.out | apply below_alloc | apply pw_below_drewN | apply below_drew1) | exact HB.out)⟩⟩
                        case rest =>
                          clear HC14
                          try clear c1
                          try clear c2
                          try clear c2b0
                          try clear c2b1
                          try clear p2
                          try clear p3
                          try clear q3
                          try clear hx3
                          try clear qi3
                          try clear c5
                          try clear c6
                          try clear c6b0
                          try clear c7
                          try clear c9
                          try clear c9b0
                          try clear c10
                          try clear c12
                          try clear c12b0
                          try clear c13
                          try clear c15
                          try clear c15b0
                          try clear p2
                          try clear p3
                          try clear q3
                          obtain ⟨kq, x39_13, rfl, HA, HJ13, HB⟩ := hcut
                          cases kq with
                          | zero => exact absurd HA.out (by simp [pilcrowref06_Begins.j3])
                          | succ kj13 =>
                            have H := HA.out
                            clear HA
                            simp only [pilcrowref06_Begins.j3] at H
                            by_cases c16 : x39_13 = true
                            · subst c16
                              have H1 : (pilcrowref06_Begins.j4 kj13 a0 ((((bt a0 0) % 4294967296) - 248) % 4294967296) 5) = some (r1, r2) := by rw [if_pos rfl] at H; exact H
                              clear H
                              have H := H1
                              clear H1
                              have H' := Aside0.mk H
                              clear H
                              go_wp2
                              go_meet
                              case rel => exact ⟨_, ((((bt a0 0) % 4294967296) - 248) % 4294967296), (5), (by first | rfl | (simp; done) | (simp [*]; done) | (simp; omega)), (by first | rfl | (simp; done) | (simp [*]; done) | (simp; omega)), H', ⟨by have := HJ4.out; have := HJ7.out; have := HJ10.out; have := HJ13.out; first | omega | exact Nat.le_refl _⟩, ⟨by repeat (first | (with_reducible first | exact HB.out | apply below_alloc | apply pw_below_drewN | apply below_drew1) | exact HB.out)⟩⟩
                            · replace c16 := Bool.eq_false_iff.mpr c16
                              subst c16
                              have H1 : (if ((bt a0 0) % 4294967296) ≥ 160 then (some (0, false)) else (pilcrowref06_Begins.j4 kj13 a0 ((bt a0 0) % 4294967296) 1)) = some (r1, r2) := by rw [if_neg (show ¬ (false = true) by decide)] at H; exact H
                              clear H
                              have H := H1
                              clear H1
                              by_cases c17 : ((bt a0 0) % 4294967296) ≥ 160
                              · rw [if_pos c17] at H
                                have c17b0 : decide (160 ≤ ((bt a0 0) % 4294967296)) = true := decide_eq_true c17
                                clear c17
                                simp only [Option.some.injEq, Prod.mk.injEq] at H
                                obtain ⟨rfl, rfl⟩ := H
                                go_wp2
                                go_ret2
                                exact ⟨by first | rfl | (simp [errW_none, errW_some] <;> rfl) | (simp [*, errW_none, errW_some] <;> rfl), by repeat (first | (with_reducible first | exact HB.out | apply below_alloc | apply pw_below_drewN | apply below_drew1) | exact HB.out)⟩
                              · rw [if_neg c17] at H
                                have c17b0 : decide (160 ≤ ((bt a0 0) % 4294967296)) = false := decide_eq_false c17
                                clear c17
                                have H' := Aside0.mk H
                                clear H
                                go_wp2
                                go_meet
                                case rel => exact ⟨_, (((bt a0 0) % 4294967296)), (1), (by first | rfl | (simp; done) | (simp [*]; done) | (simp; omega)), (by first | rfl | (simp; done) | (simp [*]; done) | (simp; omega)), H', ⟨by have := HJ4.out; have := HJ7.out; have := HJ10.out; have := HJ13.out; first | omega | exact Nat.le_refl _⟩, ⟨by repeat (first | (with_reducible first | exact HB.out | apply below_alloc | apply pw_below_drewN | apply below_drew1) | exact HB.out)⟩⟩
    case rest =>
      clear HC4
      try clear c1
      try clear c2
      try clear c2b0
      try clear c2b1
      try clear p2
      try clear p3
      try clear q3
      try clear hx3
      try clear qi3
      try clear c5
      try clear c6
      try clear c6b0
      try clear c7
      try clear c9
      try clear c9b0
      try clear c10
      try clear c12
      try clear c12b0
      try clear c13
      try clear c15
      try clear c15b0
      try clear c16
      try clear c17
      try clear c17b0
      try clear p2
      try clear p3
      try clear q3
      obtain ⟨kq, x4_3, x5_3, rfl, rfl, HA, HJ3, HB⟩ := hcut
      cases kq with
      | zero => exact absurd HA.out (by simp [pilcrowref06_Begins.j4])
      | succ kj3 =>
        have H := HA.out
        clear HA
        simp only [pilcrowref06_Begins.j4] at H
        by_cases c18 : (a0.size : Int) > x5_3
        · rw [if_pos c18] at H
          have c18b0 : decide (x5_3 < (a0.size : Int)) = true := decide_eq_true c18
          clear c18
          simp only [Option.some.injEq, Prod.mk.injEq] at H
          obtain ⟨rfl, rfl⟩ := H
          go_wp2
          go_ret2
          exact ⟨by first | rfl | (simp [errW_none, errW_some] <;> rfl) | (simp [*, errW_none, errW_some] <;> rfl), by repeat (first | (with_reducible first | exact HB.out | apply below_alloc | apply pw_below_drewN | apply below_drew1) | exact HB.out)⟩
        · rw [if_neg c18] at H
          have c18b0 : decide (x5_3 < (a0.size : Int)) = false := decide_eq_false c18
          clear c18
          have H' := Aside0.mk H
          clear H
          go_wp2
          go_loopg [6, 7, 8] kj3 (fun kq v6 v7 v8 w' => ∃ (x6_2 : Int) (x7_2 : Int) (x8_2 : Int), v6 = .int .u32 x6_2 ∧ v7 = .int .u32 x7_2 ∧ v8 = .int .i64 x8_2 ∧ Aside0 (pilcrowref06_Begins.l0 kq a0 x5_3 x6_2 x7_2 x8_2 = some (r1, r2)) ∧ Aside0 (kq ≤ kj3) ∧ Aside0 (Below w.heap.size w w'))
          case atStart => exact ⟨(x4_3), (x4_3), (1), (by first | rfl | (simp; done) | (simp [*]; done) | (simp; omega)), (by first | rfl | (simp; done) | (simp [*]; done) | (simp; omega)), (by first | rfl | (simp; done) | (simp [*]; done) | (simp; omega)), H', ⟨Nat.le_refl _⟩, ⟨by repeat (first | (with_reducible first | exact HB.out | apply below_alloc | apply pw_below_drewN | apply below_drew1) | exact HB.out)⟩⟩
          case round =>
            clear H'
            try clear c1
            try clear c2
            try clear c2b0
            try clear c2b1
            try clear p2
            try clear p3
            try clear q3
            try clear hx3
            try clear qi3
            try clear c5
            try clear c6
            try clear c6b0
            try clear c7
            try clear c9
            try clear c9b0
            try clear c10
            try clear c12
            try clear c12b0
            try clear c13
            try clear c15
            try clear c15b0
            try clear c16
            try clear c17
            try clear c17b0
            try clear c18
            try clear c18b0
            try clear p2
            try clear p3
            try clear q3
            obtain ⟨x6_2, x7_2, x8_2, rfl, rfl, rfl, HA, HK2, HB⟩ := hrel
            cases gk with
            | zero => exact absurd HA.out (by simp [pilcrowref06_Begins.l0])
            | succ k2 =>
              have H := HA.out
              clear HA
              simp only [pilcrowref06_Begins.l0] at H
              by_cases c19 : x8_2 < x5_3
              · rw [if_pos c19] at H
                have c19b0 : decide (x8_2 < x5_3) = true := decide_eq_true c19
                clear c19
                by_cases c20 : x8_2 < (a0.size : Int)
                · rw [if_pos c20] at H
                  have c20b0 : decide (x8_2 < (a0.size : Int)) = true := decide_eq_true c20
                  clear c20
                  by_cases c21 : 0 ≤ x8_2
                  · rw [if_pos c21] at H
                    have c21b0 : decide (0 ≤ x8_2) = true := decide_eq_true c21
                    clear c21
                    by_cases c23 : (bt a0 x8_2) < 160
                    · rw [if_pos c23] at H
                      have c23b0 : decide ((bt a0 x8_2) < 160) = true := decide_eq_true c23
                      clear c23
                      simp only [Option.some.injEq, Prod.mk.injEq] at H
                      obtain ⟨rfl, rfl⟩ := H
                      have p22 : 0 ≤ (x8_2 : Int) := of_decide_eq_true (by first | (with_reducible assumption) | assumption)
                      have q22 : x8_2 < (a0.size : Int) := of_decide_eq_true (by first | (with_reducible assumption) | assumption)
                      have hx22 := bt_at a0 x8_2
                      replace p22 := eq_true p22
                      replace q22 := eq_true q22
                      go_wp2
                      go_ret2
                      exact ⟨by first | rfl | (simp [errW_none, errW_some] <;> rfl) | (simp [*, errW_none, errW_some] <;> rfl), by repeat (first | (with_reducible first | exact HB.out | apply below_alloc | apply pw_below_drewN | apply below_drew1) | exact HB.out)⟩
                    · rw [if_neg c23] at H
                      have c23b0 : decide ((bt a0 x8_2) < 160) = false := decide_eq_false c23
                      clear c23
                      by_cases c25 : (bt a0 x8_2) > 191
                      · rw [if_pos c25] at H
                        have c25b0 : decide (191 < (bt a0 x8_2)) = true := decide_eq_true c25
                        clear c25
                        simp only [Option.some.injEq, Prod.mk.injEq] at H
                        obtain ⟨rfl, rfl⟩ := H
                        have p22 : 0 ≤ (x8_2 : Int) := of_decide_eq_true (by first | (with_reducible assumption) | assumption)
                        have q22 : x8_2 < (a0.size : Int) := of_decide_eq_true (by first | (with_reducible assumption) | assumption)
                        have hx22 := bt_at a0 x8_2
                        replace p22 := eq_true p22
                        replace q22 := eq_true q22
                        have p24 : 0 ≤ (x8_2 : Int) := of_decide_eq_true (by first | (with_reducible assumption) | assumption)
                        have q24 : x8_2 < (a0.size : Int) := of_decide_eq_true (by first | (with_reducible assumption) | assumption)
                        have hx24 := bt_at a0 x8_2
                        replace p24 := eq_true p24
                        replace q24 := eq_true q24
                        go_wp2
                        go_ret2
                        exact ⟨by first | rfl | (simp [errW_none, errW_some] <;> rfl) | (simp [*, errW_none, errW_some] <;> rfl), by repeat (first | (with_reducible first | exact HB.out | apply below_alloc | apply pw_below_drewN | apply below_drew1) | exact HB.out)⟩
                      · rw [if_neg c25] at H
                        have c25b0 : decide (191 < (bt a0 x8_2)) = false := decide_eq_false c25
                        clear c25
                        have H' := Aside0.mk H
                        clear H
                        have p22 : 0 ≤ (x8_2 : Int) := of_decide_eq_true (by first | (with_reducible assumption) | assumption)
                        have q22 : x8_2 < (a0.size : Int) := of_decide_eq_true (by first | (with_reducible assumption) | assumption)
                        have hx22 := bt_at a0 x8_2
                        replace p22 := eq_true p22
                        replace q22 := eq_true q22
                        have p24 : 0 ≤ (x8_2 : Int) := of_decide_eq_true (by first | (with_reducible assumption) | assumption)
                        have q24 : x8_2 < (a0.size : Int) := of_decide_eq_true (by first | (with_reducible assumption) | assumption)
                        have hx24 := bt_at a0 x8_2
                        replace p24 := eq_true p24
                        replace q24 := eq_true q24
                        have p26 : 0 ≤ (x8_2 : Int) := of_decide_eq_true (by first | (with_reducible assumption) | assumption)
                        have q26 : x8_2 < (a0.size : Int) := of_decide_eq_true (by first | (with_reducible assumption) | assumption)
                        have hx26 := bt_at a0 x8_2
                        replace p26 := eq_true p26
                        replace q26 := eq_true q26
                        have p27 : 0 ≤ (x8_2 : Int) := of_decide_eq_true (by first | (with_reducible assumption) | assumption)
                        have q27 : x8_2 < (a0.size : Int) := of_decide_eq_true (by first | (with_reducible assumption) | assumption)
                        have hx27 := bt_at a0 x8_2
                        replace p27 := eq_true p27
                        replace q27 := eq_true q27
                        go_wp2
                        go_roundg k2
                        case measure => have := HJ3.out; have := HK2.out; omega
                        case rel => exact ⟨((((((x6_2 * 32) % 4294967296) + ((bt a0 x8_2) % 4294967296)) % 4294967296) - 160) % 4294967296), ((((((((((x7_2 * 32) % 4294967296) + 31) % 4294967296) - 31) % 4294967296) + ((bt a0 x8_2) % 4294967296)) % 4294967296) - 160) % 4294967296), (wrap64 (x8_2 + 1)), (by first | rfl | (simp; done) | (simp [*]; done) | (simp; omega)), (by first | rfl | (simp; done) | (simp [*]; done) | (simp; omega)), (by first | rfl | (simp; done) | (simp [*]; done) | (simp; omega)), H', ⟨by have := HJ3.out; have := HK2.out; omega⟩, ⟨by repeat (first | (with_reducible first | exact HB.out | apply below_alloc | apply pw_below_drewN | apply below_drew1) | exact HB.out)⟩⟩
                  · rw [if_neg c21] at H
                    exact absurd H (by simp)
                · rw [if_neg c20] at H
                  have c20b0 : decide (x8_2 < (a0.size : Int)) = false := decide_eq_false c20
                  clear c20
                  have H' := Aside0.mk H
                  clear H
                  go_wp2
                  go_roundg k2
                  case measure => have := HJ3.out; have := HK2.out; omega
                  case rel => exact ⟨((x6_2 * 32) % 4294967296), ((((x7_2 * 32) % 4294967296) + 31) % 4294967296), (wrap64 (x8_2 + 1)), (by first | rfl | (simp; done) | (simp [*]; done) | (simp; omega)), (by first | rfl | (simp; done) | (simp [*]; done) | (simp; omega)), (by first | rfl | (simp; done) | (simp [*]; done) | (simp; omega)), H', ⟨by have := HJ3.out; have := HK2.out; omega⟩, ⟨by repeat (first | (with_reducible first | exact HB.out | apply below_alloc | apply pw_below_drewN | apply below_drew1) | exact HB.out)⟩⟩
              · rw [if_neg c19] at H
                have c19b0 : decide (x8_2 < x5_3) = false := decide_eq_false c19
                clear c19
                replace H := Option.bind_eq_some_iff.mp H
                obtain ⟨⟨t156, t157⟩, A280, H⟩ := H
                replace H : (some (t156, t157)) = some (r1, r2) := H
                have A28 := Aside0.mk A280
                clear A280
                simp only [Option.some.injEq, Prod.mk.injEq] at H
                obtain ⟨rfl, rfl⟩ := H
                go_wp2_with (first | ((with_reducible refine gate_callee (f := 66) rfl ?_); refine goesL_ (some 99) rfl rfl Try.func66 (by kernel_rfl) rfl #[.int .u32 x6_2, .int .u32 x7_2, .int .i64 x5_3] rfl (by (try simp only [List.map_toArray, List.map_cons, List.map_nil]); first | done | rfl | (simp only [List.length_drop, List.length_take]; rfl)) ?_; (with_reducible refine (pilcrowref06_Some.calls k2 x6_2 x7_2 x5_3 t156 t157 _ A28.out).mono ?_); rintro e w29 ⟨rfl, hb⟩; refine ⟨_, rfl, ?_⟩; have n0_ := Aside0.mk (below_step (by repeat (first | (with_reducible first | exact HB.out | apply below_alloc | apply pw_below_drewN | apply below_drew1) | exact HB.out)) hb); clear HB; have HB := n0_; clear n0_; (try clear hb); (try clear hb2); (try clear hk); (try clear hi)))
                go_ret2
                exact ⟨by first | rfl | (simp [errW_none, errW_some] <;> rfl) | (simp [*, errW_none, errW_some] <;> rfl), by repeat (first | (with_reducible first | exact HB.out | apply below_alloc | apply pw_below_drewN | apply below_drew1) | exact HB.out)⟩
  · rw [if_neg c2] at H
    exact absurd H (by simp)
/-! ### pilcrowref06_Size: function 60 -/
def pilcrowref06_Size.f (a0 : Int) : Option (Int) := if a0 < 160 then (some 1) else (if a0 < 1024 then (some 2) else (if a0 < 16384 then (some 3) else (if a0 < 262144 then (some 4) else (some 5))))
set_option maxHeartbeats 8000000 in
set_option maxRecDepth 100000 in
theorem pilcrowref06_Size.calls (a0 : Int) (r : Int) (w : World) (h : pilcrowref06_Size.f a0 = some r) :
    Calls Try.prog 60 #[.int .u32 a0] w fun e w' => e = .returned (.int .i64 r) ∧ Drawn0 w w' := by
  have H : (if a0 < 160 then (some 1) else (if a0 < 1024 then (some 2) else (if a0 < 16384 then (some 3) else (if a0 < 262144 then (some 4) else (some 5))))) = some r := h
  clear h
  by_cases c2 : a0 < 160
  · rw [if_pos c2] at H
    have c2b0 : decide (a0 < 160) = true := decide_eq_true c2
    clear c2
    obtain rfl := Option.some.inj H
    go_enter Try.func60, Try.ntmps60
    go_wp2
    go_ret
    exact ⟨by first | rfl | (simp; done) | (simp [*]; done), by repeat (first | exact Drawn0.refl _ | apply Drawn0.step)⟩
  · rw [if_neg c2] at H
    have c2b0 : decide (a0 < 160) = false := decide_eq_false c2
    clear c2
    by_cases c3 : a0 < 1024
    · rw [if_pos c3] at H
      have c3b0 : decide (a0 < 1024) = true := decide_eq_true c3
      clear c3
      obtain rfl := Option.some.inj H
      go_enter Try.func60, Try.ntmps60
      go_wp2
      go_ret
      exact ⟨by first | rfl | (simp; done) | (simp [*]; done), by repeat (first | exact Drawn0.refl _ | apply Drawn0.step)⟩
    · rw [if_neg c3] at H
      have c3b0 : decide (a0 < 1024) = false := decide_eq_false c3
      clear c3
      by_cases c4 : a0 < 16384
      · rw [if_pos c4] at H
        have c4b0 : decide (a0 < 16384) = true := decide_eq_true c4
        clear c4
        obtain rfl := Option.some.inj H
        go_enter Try.func60, Try.ntmps60
        go_wp2
        go_ret
        exact ⟨by first | rfl | (simp; done) | (simp [*]; done), by repeat (first | exact Drawn0.refl _ | apply Drawn0.step)⟩
      · rw [if_neg c4] at H
        have c4b0 : decide (a0 < 16384) = false := decide_eq_false c4
        clear c4
        by_cases c5 : a0 < 262144
        · rw [if_pos c5] at H
          have c5b0 : decide (a0 < 262144) = true := decide_eq_true c5
          clear c5
          obtain rfl := Option.some.inj H
          go_enter Try.func60, Try.ntmps60
          go_wp2
          go_ret
          exact ⟨by first | rfl | (simp; done) | (simp [*]; done), by repeat (first | exact Drawn0.refl _ | apply Drawn0.step)⟩
        · rw [if_neg c5] at H
          have c5b0 : decide (a0 < 262144) = false := decide_eq_false c5
          clear c5
          obtain rfl := Option.some.inj H
          go_enter Try.func60, Try.ntmps60
          go_wp2
          go_ret
          exact ⟨by first | rfl | (simp; done) | (simp [*]; done), by repeat (first | exact Drawn0.refl _ | apply Drawn0.step)⟩
/-! ### pilcrowref06_Read: function 38 -/
def pilcrowref06_Read.l0 : Nat → ByteArray → List Int → Int → Int → Option (List Int × Int × Int)
  | 0, _, _, _, _ => none
  | k + 1, x0, x5, x6, x7 => if x7 < (x0.size : Int) then (if 0 ≤ x6 then (if x6 ≤ (wrap64 (x7 + 1)) then (if (wrap64 (x7 + 1)) ≤ (x0.size : Int) then ((pilcrowref06_Begins.f k (x0.extract (x6 : Int).toNat ((wrap64 (x7 + 1)) : Int).toNat)).bind fun bt161 => (if bt161.2 = true then ((pilcrowref06_Size.f bt161.1).bind fun t163 => (if t163 = (wrap64 ((wrap64 (x7 + 1)) - x6)) then (if x5.length < 35184372088832 then (pilcrowref06_Read.l0 k x0 (x5 ++ [bt161.1]) (wrap64 (x7 + 1)) (wrap64 (x7 + 1))) else (none)) else (pilcrowref06_Read.l0 k x0 x5 x6 (wrap64 (x7 + 1))))) else (some (x5, 3, x7)))) else (none)) else (none)) else (none)) else (if x6 < (x0.size : Int) then (some (x5, 4, (x0.size : Int))) else (some (x5, 0, (x0.size : Int))))
def pilcrowref06_Read.f (k : Nat) (a0 : ByteArray) : Option (List Int × Int × Int) := pilcrowref06_Read.l0 k a0 (([] : List Int)) 0 0
theorem pilcrowref06_Read.mono_l : ∀ k, (∀ y0 y1 y2 y3, LeO (pilcrowref06_Read.l0 k y0 y1 y2 y3) (pilcrowref06_Read.l0 (k + 1) y0 y1 y2 y3))
  | 0 => fun _ _ _ _ r h => by simp [pilcrowref06_Read.l0] at h
  | k + 1 => by
    have ih0 := pilcrowref06_Read.mono_l k
    · intro y0 y1 y2 y3
      unfold pilcrowref06_Read.l0
      repeat' first
      | (with_reducible exact ih0 _ _ _ _)
      | (with_reducible exact pilcrowref06_Begins.mono _ _)
      | (with_reducible exact LeO.refl _)
      | (with_reducible exact LeO.none _)
      | (with_reducible refine LeO.ite ?_ ?_)
      | (with_reducible refine LeO.bind ?_ (fun _ => ?_))
      | exact ih0 _ _ _ _
      | exact pilcrowref06_Begins.mono _ _
      | exact LeO.none _
      | refine LeO.ite ?_ ?_
      | refine LeO.bind ?_ (fun _ => ?_)
theorem pilcrowref06_Read.mono : ∀ a0 k, LeO (pilcrowref06_Read.f k a0) (pilcrowref06_Read.f (k + 1) a0) := by
  intro a0 k
  have ih0 := pilcrowref06_Read.mono_l k
  unfold pilcrowref06_Read.f
  repeat' first
      | (with_reducible exact ih0 _ _ _ _)
      | (with_reducible exact pilcrowref06_Begins.mono _ _)
      | (with_reducible exact LeO.refl _)
      | (with_reducible exact LeO.none _)
      | (with_reducible refine LeO.ite ?_ ?_)
      | (with_reducible refine LeO.bind ?_ (fun _ => ?_))
      | exact ih0 _ _ _ _
      | exact pilcrowref06_Begins.mono _ _
      | exact LeO.none _
      | refine LeO.ite ?_ ?_
      | refine LeO.bind ?_ (fun _ => ?_)
set_option maxHeartbeats 8000000 in
set_option maxRecDepth 100000 in
theorem pilcrowref06_Read.calls (k : Nat) (a0 : ByteArray) (r1 : List Int) (r2 : Int) (r3 : Int) (w : World) (h : pilcrowref06_Read.f k a0 = some (r1, r2, r3)) :
    Calls Try.prog 38 #[.string a0] w fun e w' => ∃ v0_ : Value, e = .returned (.tuple #[v0_, .int .i64 r2, .int .i64 r3]) ∧ Kd.R (Kd.int .u32) 22 w' w.heap.size (fun _ => True) v0_ r1 ∧ Below w.heap.size w w' := by
  have HB := Aside0.mk (Below.refl w.heap.size w)
  have H : (pilcrowref06_Read.l0 k a0 (([] : List Int)) 0 0) = some (r1, r2, r3) := h
  clear h
  obtain ⟨y158, hy158⟩ : ∃ y_ : List Int, y_ = (([] : List Int)) := ⟨_, rfl⟩
  replace H : (pilcrowref06_Read.l0 k a0 y158 0 0) = some (r1, r2, r3) := by first | (rw [hy158]; with_reducible exact H) | (have H2_ := (Option.bind_some _ _).symm.trans H; rw [hy158]; with_reducible exact H2_) | (have H2_ := (Option.bind_some _ _).symm.trans H; with_reducible exact H2_) | with_reducible exact H | (rw [hy158]; exact H) | exact H
  have Ny158 := Aside0.mk hy158
  clear hy158
  have H' := Aside0.mk H
  clear H
  go_enter Try.func38, Try.ntmps38
  go_wp2_with (first | ((with_reducible refine gate_dst (N := 10) rfl ?_); refine Kd.R_lit (Kd.int .u32) _ 22 ?hg (N := 10) ?hd (xs := ([] : List Int)) (inner := []) (ok := fun _ => True) (okp := fun _ => True) ?hr ?hp (fun _ hk => hk) trivial (Below.refl _ _) (Nat.le_refl _) (by simp) ?_; (case hd => rfl); (case hg => rfl); (case hr => first | (go_simp; done) | (go_simp; rfl)); (case hp => exact (Reps.none _ _)); intro v159 w2 ho3 hb hg_ hnew_; clear hg_ hnew_; (first | rw [← Ny158.out] at ho3 | (simp only [Int.reduceToNat] at ho3; rw [← Ny158.out] at ho3)); have n0_ := Aside0.mk (Kd.R_lower ho3 (below_size (by repeat (first | (with_reducible first | exact HB.out | apply below_alloc | apply pw_below_drewN | apply below_drew1) | exact HB.out)))); have n1_ := Aside0.mk (below_step (by repeat (first | (with_reducible first | exact HB.out | apply below_alloc | apply pw_below_drewN | apply below_drew1) | exact HB.out)) hb); clear HB; have HO160 := n0_; have HB := n1_; clear n0_ n1_; clear hb ho3))
  go_loopg [5, 6, 7] k (fun kq v5 v6 v7 w' => ∃ (x5_1 : List Int) (x6_1 : Int) (x7_1 : Int), v6 = .int .i64 x6_1 ∧ v7 = .int .i64 x7_1 ∧ Aside0 (pilcrowref06_Read.l0 kq a0 x5_1 x6_1 x7_1 = some (r1, r2, r3)) ∧ Aside0 (kq ≤ k) ∧ Aside0 (Kd.R (Kd.int .u32) 22 w' w.heap.size (fun _ => True) v5 x5_1) ∧ Aside0 (Below w.heap.size w w'))
  case atStart => exact ⟨(y158), (0), (0), (by first | rfl | (simp; done) | (simp [*]; done) | (simp; omega)), (by first | rfl | (simp; done) | (simp [*]; done) | (simp; omega)), H', ⟨Nat.le_refl _⟩, ⟨by (with_reducible repeat (first | apply Kd.R_alloc | apply Kd.R_drewN | apply Kd.R_drew)); exact HO160.out⟩, ⟨by repeat (first | (with_reducible first | exact HB.out | apply below_alloc | apply pw_below_drewN | apply below_drew1) | exact HB.out)⟩⟩
  case round =>
    clear H'
    try clear p2
    try clear c3
    obtain ⟨x5_1, x6_1, x7_1, rfl, rfl, HA, HK1, HO_5, HB⟩ := hrel
    cases gk with
    | zero => exact absurd HA.out (by simp [pilcrowref06_Read.l0])
    | succ k1 =>
      have H := HA.out
      clear HA
      simp only [pilcrowref06_Read.l0] at H
      by_cases c4 : x7_1 < (a0.size : Int)
      · rw [if_pos c4] at H
        have c4b0 : decide (x7_1 < (a0.size : Int)) = true := decide_eq_true c4
        clear c4
        by_cases c5 : 0 ≤ x6_1
        · rw [if_pos c5] at H
          have c5b0 := eq_true c5
          have c5b1 : decide (0 ≤ x6_1) = true := decide_eq_true c5
          clear c5
          by_cases c6 : x6_1 ≤ (wrap64 (x7_1 + 1))
          · rw [if_pos c6] at H
            have c6b0 := eq_true c6
            have c6b1 : decide (x6_1 ≤ (wrap64 (x7_1 + 1))) = true := decide_eq_true c6
            by_cases c7 : (wrap64 (x7_1 + 1)) ≤ (a0.size : Int)
            · rw [if_pos c7] at H
              have c7b0 := eq_true c7
              have c7b1 : decide ((wrap64 (x7_1 + 1)) ≤ (a0.size : Int)) = true := decide_eq_true c7
              replace H := Option.bind_eq_some_iff.mp H
              obtain ⟨⟨t161, t162⟩, A80, H⟩ := H
              replace H : (if t162 = true then ((pilcrowref06_Size.f t161).bind fun t163 => (if t163 = (wrap64 ((wrap64 (x7_1 + 1)) - x6_1)) then (if x5_1.length < 35184372088832 then (pilcrowref06_Read.l0 k1 a0 (x5_1 ++ [t161]) (wrap64 (x7_1 + 1)) (wrap64 (x7_1 + 1))) else (none)) else (pilcrowref06_Read.l0 k1 a0 x5_1 x6_1 (wrap64 (x7_1 + 1))))) else (some (x5_1, 3, x7_1))) = some (r1, r2, r3) := H
              have A8 := Aside0.mk A80
              clear A80
              by_cases c9 : t162 = true
              · subst c9
                have H1 : ((pilcrowref06_Size.f t161).bind fun t163 => (if t163 = (wrap64 ((wrap64 (x7_1 + 1)) - x6_1)) then (if x5_1.length < 35184372088832 then (pilcrowref06_Read.l0 k1 a0 (x5_1 ++ [t161]) (wrap64 (x7_1 + 1)) (wrap64 (x7_1 + 1))) else (none)) else (pilcrowref06_Read.l0 k1 a0 x5_1 x6_1 (wrap64 (x7_1 + 1))))) = some (r1, r2, r3) := by rw [if_pos rfl] at H; exact H
                clear H
                have H := H1
                clear H1
                replace H := Option.bind_eq_some_iff.mp H
                obtain ⟨t163, A100, H⟩ := H
                replace H : (if t163 = (wrap64 ((wrap64 (x7_1 + 1)) - x6_1)) then (if x5_1.length < 35184372088832 then (pilcrowref06_Read.l0 k1 a0 (x5_1 ++ [t161]) (wrap64 (x7_1 + 1)) (wrap64 (x7_1 + 1))) else (none)) else (pilcrowref06_Read.l0 k1 a0 x5_1 x6_1 (wrap64 (x7_1 + 1)))) = some (r1, r2, r3) := H
                have A10 := Aside0.mk A100
                clear A100
                by_cases c11 : t163 = (wrap64 ((wrap64 (x7_1 + 1)) - x6_1))
                · rw [if_pos c11] at H
                  have c11b0 : (t163 == (wrap64 ((wrap64 (x7_1 + 1)) - x6_1))) = true := beq_iff_eq.mpr c11
                  have c11b1 : (t163 != (wrap64 ((wrap64 (x7_1 + 1)) - x6_1))) = false := bne_eq_false_iff_eq.mpr c11
                  clear c11
                  by_cases c12 : x5_1.length < 35184372088832
                  · rw [if_pos c12] at H
                    have LMc12 := Aside0.mk c12
                    clear c12
                    obtain ⟨y164, hy164⟩ : ∃ y_ : List Int, y_ = (x5_1 ++ [t161]) := ⟨_, rfl⟩
                    replace H : (pilcrowref06_Read.l0 k1 a0 y164 (wrap64 (x7_1 + 1)) (wrap64 (x7_1 + 1))) = some (r1, r2, r3) := by first | (rw [hy164]; with_reducible exact H) | (have H2_ := (Option.bind_some _ _).symm.trans H; rw [hy164]; with_reducible exact H2_) | (have H2_ := (Option.bind_some _ _).symm.trans H; with_reducible exact H2_) | with_reducible exact H | (rw [hy164]; exact H) | exact H
                    have Ny164 := Aside0.mk hy164
                    clear hy164
                    have H' := Aside0.mk H
                    clear H
                    go_wp2_with (first | ((with_reducible refine gate_callee (f := 59) rfl ?_); refine goesL_ (some 23) rfl rfl Try.func59 (by kernel_rfl) rfl #[.string (a0.extract (x6_1 : Int).toNat ((wrap64 (x7_1 + 1)) : Int).toNat)] rfl (by (try simp only [List.map_toArray, List.map_cons, List.map_nil]); first | done | rfl | (simp only [List.length_drop, List.length_take]; rfl)) ?_; (with_reducible refine (pilcrowref06_Begins.calls k1 (a0.extract (x6_1 : Int).toNat ((wrap64 (x7_1 + 1)) : Int).toNat) t161 true _ A8.out).mono ?_); rintro e w13 ⟨rfl, hb⟩; refine ⟨_, rfl, ?_⟩; have n0_ := Aside0.mk (Kd.R_below (by (with_reducible repeat (first | apply Kd.R_alloc | apply Kd.R_drewN | apply Kd.R_drew)); exact HO_5.out) hb); have n1_ := Aside0.mk (below_step (by repeat (first | (with_reducible first | exact HB.out | apply below_alloc | apply pw_below_drewN | apply below_drew1) | exact HB.out)) hb); clear HO_5; clear HB; have HO_5 := n0_; have HB := n1_; clear n0_ n1_; (try clear hb); (try clear hb2); (try clear hk); (try clear hi)) | ((with_reducible refine gate_callee (f := 60) rfl ?_); refine goesL_ (some 31) rfl rfl Try.func60 (by kernel_rfl) rfl #[.int .u32 t161] rfl (by (try simp only [List.map_toArray, List.map_cons, List.map_nil]); first | done | rfl | (simp only [List.length_drop, List.length_take]; rfl)) ?_; (with_reducible refine (pilcrowref06_Size.calls t161 t163 _ A10.out).mono ?_); rintro e w' ⟨rfl, ⟨nd, rfl⟩⟩; refine ⟨_, rfl, ?_⟩) | ((with_reducible refine gate_builtin (b := .append) (xs := #[.tmp 37, .tmp 39]) rfl ?_); at_builtin; refine Kd.R_append (Kd.int .u32) (w0 := w) w.heap.size rfl (.tmp 37) (.tmp 39) 29 22 (.int .u32 0) 4 rfl Try.underlying29 info22 rfl (by decide) (by omega) u5 x5_1 t161 [.int .u32 t161] (fun _ => True) (fun _ => False) rfl rfl ?aP (fun _ hk => hk.elim) ?aF ?aO ?aB ?aS ?aL ?_; (case aP => exact rfl); (case aB => exact (by repeat (first | (with_reducible first | exact HB.out | apply below_alloc | apply pw_below_drewN | apply below_drew1) | exact HB.out))); (case aF => exact (fun _ _ => trivial)); (case aO => exact (by (with_reducible repeat (first | apply Kd.R_alloc | apply Kd.R_drewN | apply Kd.R_drew)); exact HO_5.out)); (case aS => exact (below_size (by repeat (first | (with_reducible first | exact HB.out | apply below_alloc | apply pw_below_drewN | apply below_drew1) | exact HB.out)))); (case aL => have := LMc12.out; omega); intro v165 w14 ho hb hg hat; rw [← Ny164.out] at ho; have n0_ := Aside0.mk (hb); have n1_ := Aside0.mk (ho); clear HB; clear HO_5; have HB := n0_; have HO166 := n1_; clear n0_ n1_; clear ho hb hg hat))
                    go_roundg k1
                    case measure => have := HK1.out; omega
                    case rel => exact ⟨(y164), (wrap64 (x7_1 + 1)), (wrap64 (x7_1 + 1)), (by first | rfl | (simp; done) | (simp [*]; done) | (simp; omega)), (by first | rfl | (simp; done) | (simp [*]; done) | (simp; omega)), H', ⟨by have := HK1.out; omega⟩, ⟨by (with_reducible repeat (first | apply Kd.R_alloc | apply Kd.R_drewN | apply Kd.R_drew)); exact HO166.out⟩, ⟨by repeat (first | (with_reducible first | exact HB.out | apply below_alloc | apply pw_below_drewN | apply below_drew1) | exact HB.out)⟩⟩
                  · rw [if_neg c12] at H
                    exact absurd H (by simp)
                · rw [if_neg c11] at H
                  have c11b0 : (t163 == (wrap64 ((wrap64 (x7_1 + 1)) - x6_1))) = false := beq_eq_false_iff_ne.mpr c11
                  have c11b1 : (t163 != (wrap64 ((wrap64 (x7_1 + 1)) - x6_1))) = true := bne_iff_ne.mpr c11
                  have H' := Aside0.mk H
                  clear H
                  go_wp2_with (first | ((with_reducible refine gate_callee (f := 59) rfl ?_); refine goesL_ (some 23) rfl rfl Try.func59 (by kernel_rfl) rfl #[.string (a0.extract (x6_1 : Int).toNat ((wrap64 (x7_1 + 1)) : Int).toNat)] rfl (by (try simp only [List.map_toArray, List.map_cons, List.map_nil]); first | done | rfl | (simp only [List.length_drop, List.length_take]; rfl)) ?_; (with_reducible refine (pilcrowref06_Begins.calls k1 (a0.extract (x6_1 : Int).toNat ((wrap64 (x7_1 + 1)) : Int).toNat) t161 true _ A8.out).mono ?_); rintro e w15 ⟨rfl, hb⟩; refine ⟨_, rfl, ?_⟩; have n0_ := Aside0.mk (Kd.R_below (by (with_reducible repeat (first | apply Kd.R_alloc | apply Kd.R_drewN | apply Kd.R_drew)); exact HO_5.out) hb); have n1_ := Aside0.mk (below_step (by repeat (first | (with_reducible first | exact HB.out | apply below_alloc | apply pw_below_drewN | apply below_drew1) | exact HB.out)) hb); clear HO_5; clear HB; have HO_5 := n0_; have HB := n1_; clear n0_ n1_; (try clear hb); (try clear hb2); (try clear hk); (try clear hi)) | ((with_reducible refine gate_callee (f := 60) rfl ?_); refine goesL_ (some 31) rfl rfl Try.func60 (by kernel_rfl) rfl #[.int .u32 t161] rfl (by (try simp only [List.map_toArray, List.map_cons, List.map_nil]); first | done | rfl | (simp only [List.length_drop, List.length_take]; rfl)) ?_; (with_reducible refine (pilcrowref06_Size.calls t161 t163 _ A10.out).mono ?_); rintro e w' ⟨rfl, ⟨nd, rfl⟩⟩; refine ⟨_, rfl, ?_⟩))
                  go_roundg k1
                  case measure => have := HK1.out; omega
                  case rel => exact ⟨(x5_1), (x6_1), (wrap64 (x7_1 + 1)), (by first | rfl | (simp; done) | (simp [*]; done) | (simp; omega)), (by first | rfl | (simp; done) | (simp [*]; done) | (simp; omega)), H', ⟨by have := HK1.out; omega⟩, ⟨by (with_reducible repeat (first | apply Kd.R_alloc | apply Kd.R_drewN | apply Kd.R_drew)); exact HO_5.out⟩, ⟨by repeat (first | (with_reducible first | exact HB.out | apply below_alloc | apply pw_below_drewN | apply below_drew1) | exact HB.out)⟩⟩
              · replace c9 := Bool.eq_false_iff.mpr c9
                subst c9
                have H1 : (some (x5_1, 3, x7_1)) = some (r1, r2, r3) := by rw [if_neg (show ¬ (false = true) by decide)] at H; exact H
                clear H
                have H := H1
                clear H1
                simp only [Option.some.injEq, Prod.mk.injEq] at H
                obtain ⟨rfl, rfl, rfl⟩ := H
                go_wp2_with (first | ((with_reducible refine gate_callee (f := 59) rfl ?_); refine goesL_ (some 23) rfl rfl Try.func59 (by kernel_rfl) rfl #[.string (a0.extract (x6_1 : Int).toNat ((wrap64 (x7_1 + 1)) : Int).toNat)] rfl (by (try simp only [List.map_toArray, List.map_cons, List.map_nil]); first | done | rfl | (simp only [List.length_drop, List.length_take]; rfl)) ?_; (with_reducible refine (pilcrowref06_Begins.calls k1 (a0.extract (x6_1 : Int).toNat ((wrap64 (x7_1 + 1)) : Int).toNat) t161 false _ A8.out).mono ?_); rintro e w16 ⟨rfl, hb⟩; refine ⟨_, rfl, ?_⟩; have n0_ := Aside0.mk (Kd.R_below (by (with_reducible repeat (first | apply Kd.R_alloc | apply Kd.R_drewN | apply Kd.R_drew)); exact HO_5.out) hb); have n1_ := Aside0.mk (below_step (by repeat (first | (with_reducible first | exact HB.out | apply below_alloc | apply pw_below_drewN | apply below_drew1) | exact HB.out)) hb); clear HO_5; clear HB; have HO_5 := n0_; have HB := n1_; clear n0_ n1_; (try clear hb); (try clear hb2); (try clear hk); (try clear hi)))
                go_ret3
                exact ⟨_, by first | rfl | (simp [errW_none, errW_some] <;> rfl) | (simp [*, errW_none, errW_some] <;> rfl), by (with_reducible repeat (first | apply Kd.R_alloc | apply Kd.R_drewN | apply Kd.R_drew)); exact HO_5.out, by repeat (first | (with_reducible first | exact HB.out | apply below_alloc | apply pw_below_drewN | apply below_drew1) | exact HB.out)⟩
            · rw [if_neg c7] at H
              exact absurd H (by simp)
          · rw [if_neg c6] at H
            exact absurd H (by simp)
        · rw [if_neg c5] at H
          exact absurd H (by simp)
      · rw [if_neg c4] at H
        have c4b0 : decide (x7_1 < (a0.size : Int)) = false := decide_eq_false c4
        clear c4
        by_cases c17 : x6_1 < (a0.size : Int)
        · rw [if_pos c17] at H
          have c17b0 : decide (x6_1 < (a0.size : Int)) = true := decide_eq_true c17
          clear c17
          simp only [Option.some.injEq, Prod.mk.injEq] at H
          obtain ⟨rfl, rfl, rfl⟩ := H
          go_wp2
          go_ret3
          exact ⟨_, by first | rfl | (simp [errW_none, errW_some] <;> rfl) | (simp [*, errW_none, errW_some] <;> rfl), by (with_reducible repeat (first | apply Kd.R_alloc | apply Kd.R_drewN | apply Kd.R_drew)); exact HO_5.out, by repeat (first | (with_reducible first | exact HB.out | apply below_alloc | apply pw_below_drewN | apply below_drew1) | exact HB.out)⟩
        · rw [if_neg c17] at H
          have c17b0 : decide (x6_1 < (a0.size : Int)) = false := decide_eq_false c17
          clear c17
          simp only [Option.some.injEq, Prod.mk.injEq] at H
          obtain ⟨rfl, rfl, rfl⟩ := H
          go_wp2
          go_ret3
          exact ⟨_, by first | rfl | (simp [errW_none, errW_some] <;> rfl) | (simp [*, errW_none, errW_some] <;> rfl), by (with_reducible repeat (first | apply Kd.R_alloc | apply Kd.R_drewN | apply Kd.R_drew)); exact HO_5.out, by repeat (first | (with_reducible first | exact HB.out | apply below_alloc | apply pw_below_drewN | apply below_drew1) | exact HB.out)⟩
end Go.Proofs.Ytcfpbihkodjlkaa.PMod8Extends
