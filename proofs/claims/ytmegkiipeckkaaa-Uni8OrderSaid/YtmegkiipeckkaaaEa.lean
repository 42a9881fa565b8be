/- UTF-8's scalars as bytes: the contract of the encoder's bytes. -/
import Derived.Test.YtmegkiipeckkaaaCa
import Derived.Lib.ConvBytes
import Derived.Deep.RegionHeld3
namespace Go.Proofs.Ytmegkiipeckkaaa
open Go.RowKit Go.Proofs.YtmegkiipeckkaaaW.PrintWords Go.Proofs.YtmegkiipeckkaaaW.PrintMore
set_option linter.unusedVariables false
set_option linter.unusedSimpArgs false
theorem conv_lit (W : World) (xs : List Int) (hm : xs.length ≤ 9223372036854775807) :
    Sem.run Try.prog (convert 86 9 (.slice (some ⟨W.heap.size, 0, none⟩) xs.length xs.length)) (W.alloc (.cells (nums .u8 xs).toArray 5)) = .ok (.string (strOfNums xs)) (W.alloc (.cells (nums .u8 xs).toArray 5)) :=
  own_string Try.underlying86 Try.underlying5 Try.underlying9 (own_lit W W.heap.size 5 .u8 xs (Nat.le_refl _) hm)
theorem conv1 (W : World) (x0 : Int) :
    Sem.run Try.prog (convert 86 9 (.slice (some ⟨W.heap.size, 0, none⟩) 1 1)) (W.alloc (.cells #[.int .u8 x0] 5)) = .ok (.string (strOfNums [x0])) (W.alloc (.cells #[.int .u8 x0] 5)) := by
  have := conv_lit W [x0] (by simp)
  simpa [nums] using this
theorem conv2 (W : World) (x0 x1 : Int) :
    Sem.run Try.prog (convert 86 9 (.slice (some ⟨W.heap.size, 0, none⟩) 2 2)) (W.alloc (.cells #[.int .u8 x0, .int .u8 x1] 5)) = .ok (.string (strOfNums [x0, x1])) (W.alloc (.cells #[.int .u8 x0, .int .u8 x1] 5)) := by
  have := conv_lit W [x0, x1] (by simp)
  simpa [nums] using this
theorem conv3 (W : World) (x0 x1 x2 : Int) :
    Sem.run Try.prog (convert 86 9 (.slice (some ⟨W.heap.size, 0, none⟩) 3 3)) (W.alloc (.cells #[.int .u8 x0, .int .u8 x1, .int .u8 x2] 5)) = .ok (.string (strOfNums [x0, x1, x2])) (W.alloc (.cells #[.int .u8 x0, .int .u8 x1, .int .u8 x2] 5)) := by
  have := conv_lit W [x0, x1, x2] (by simp)
  simpa [nums] using this
theorem conv4 (W : World) (x0 x1 x2 x3 : Int) :
    Sem.run Try.prog (convert 86 9 (.slice (some ⟨W.heap.size, 0, none⟩) 4 4)) (W.alloc (.cells #[.int .u8 x0, .int .u8 x1, .int .u8 x2, .int .u8 x3] 5)) = .ok (.string (strOfNums [x0, x1, x2, x3])) (W.alloc (.cells #[.int .u8 x0, .int .u8 x1, .int .u8 x2, .int .u8 x3] 5)) := by
  have := conv_lit W [x0, x1, x2, x3] (by simp)
  simpa [nums] using this
/-- The encoder's own state; a scalar's bytes, and the state behind it. -/
structure ES where
def eown (_s : ES) : List Value := []
def eok (_s : ES) : Prop := True
/-- A scalar's bytes. -/
def rby (c : Int) : List Int :=
  if c < 128 then [c] else if c < 2048 then [192 + c / 64, 128 + c % 64] else if c < 65536 then [224 + c / 4096, 128 + c / 64 % 64, 128 + c % 64]
  else [240 + c / 262144, 128 + c / 4096 % 64, 128 + c / 64 % 64, 128 + c % 64]
def eby (s : ES) (c : Int) : List Int × ES := (rby c, s)
theorem isB_range {c : Int} (h : isB c = true) : c ≤ 1114111 := by
  simp only [isB, Bool.and_eq_true, decide_eq_true_eq] at h
  exact h.1
theorem eby_ok {s : ES} {c : Int} (hs : eok s) (h0 : 0 ≤ c) (hc : isB c = true) : eok (eby s c).2 := trivial
theorem rby_len (c : Int) : (rby c).length ≤ 4 := by
  unfold rby
  (repeat' split) <;> simp
theorem rby_pos (c : Int) : 0 < (rby c).length := by
  unfold rby
  (repeat' split) <;> simp
theorem eby_len (s : ES) (c : Int) : (eby s c).1.length ≤ 5 := Nat.le_trans (rby_len c) (by decide)
theorem eby_pos (s : ES) (c : Int) (hs : eok s) (h0 : 0 ≤ c) (hc : isB c = true) : 0 < (eby s c).1.length := rby_pos c
theorem rby_range (c : Int) (h0 : 0 ≤ c) (hc : isB c = true) : ∀ x ∈ rby c, 0 ≤ x ∧ x ≤ 255 := by
  have := isB_range hc
  unfold rby
  intro x hx
  split at hx
  · simp only [List.mem_cons, List.not_mem_nil, or_false] at hx; omega
  · split at hx
    · simp only [List.mem_cons, List.not_mem_nil, or_false] at hx; omega
    · split at hx
      · simp only [List.mem_cons, List.not_mem_nil, or_false] at hx; omega
      · simp only [List.mem_cons, List.not_mem_nil, or_false] at hx; omega
theorem eby_bytes (s : ES) (c : Int) (hs : eok s) (h0 : 0 ≤ c) (hc : isB c = true) : ∀ x ∈ (eby s c).1, 0 ≤ x ∧ x ≤ 255 := rby_range c h0 hc
section
variable {w : World} {g T : Nat} {a e f : Int} {d : Bool} {s : ByteArray}
theorem tail_0 {B : Nat} {c : Int} {W : World} (h0 : 0 ≤ c) (hc : W.cell? ⟨B, 0, none⟩ = some (.int .u32 c)) :
    Calls Try.prog 48 #[.int .i64 0, .pointer (some ⟨B, 0, none⟩)] W fun en w' => en = .returned (.int .u8 (128 + c % 64)) ∧ W = w' := by
  go_enter Try.func48, Try.ntmps48
  go_wp2_with fail
  go_ret
  exact ⟨rfl, rfl⟩
theorem tail_1 {B : Nat} {c : Int} {W : World} (h0 : 0 ≤ c) (hc : W.cell? ⟨B, 0, none⟩ = some (.int .u32 c)) :
    Calls Try.prog 48 #[.int .i64 1, .pointer (some ⟨B, 0, none⟩)] W fun en w' => en = .returned (.int .u8 (128 + c / 64 % 64)) ∧ W = w' := by
  go_enter Try.func48, Try.ntmps48
  go_wp2_with fail
  go_ret
  exact ⟨rfl, rfl⟩
theorem tail_2 {B : Nat} {c : Int} {W : World} (h0 : 0 ≤ c) (hc : W.cell? ⟨B, 0, none⟩ = some (.int .u32 c)) :
    Calls Try.prog 48 #[.int .i64 2, .pointer (some ⟨B, 0, none⟩)] W fun en w' => en = .returned (.int .u8 (128 + c / 4096 % 64)) ∧ W = w' := by
  go_enter Try.func48, Try.ntmps48
  go_wp2_with fail
  go_ret
  exact ⟨rfl, rfl⟩
/-- The variable that the closure holds. -/
theorem boxed (W : World) (c : Int) : (W.alloc (.cells #[.int .u32 c] 49)).cell? ⟨W.heap.size, 0, none⟩ = some (.int .u32 c) := World.cell?_alloc_at _ _ _ _ rfl
theorem wrap8 {x : Int} (h0 : 0 ≤ x) (h1 : x ≤ 255) : IntKind.u8.wrap x = x := by
  simp only [IntKind.wrap, IntKind.bits, IntKind.signed]
  have : x % 2 ^ 8 = x := Int.emod_eq_of_lt h0 (by omega)
  simp only [this]
  simp
set_option maxHeartbeats 1000000 in
theorem ebytes_any (q : ES) (c : Int) (hq : eok q) (hc0 : 0 ≤ c) (hc1 : isB c = true) (h : Enc w g T a e f d s (eown q)) :
    Calls Try.prog 44 #[.pointer (some ⟨g, 0, none⟩), .int .u32 c] w fun en w' => en = .returned (.string (strOfNums (eby q c).1)) ∧ Enc w' g T a e f d s (eown (eby q c).2) ∧ Kp (fun k => k = g) w w' := by
  have hcc := isB_range hc1
  have HC := Lib.hid (boxed w c)
  have HD := Lib.hid (blk_alloc h (.cells #[.int .u32 c] 49))
  have HK := Lib.hid ((Kp.refl (fun k => k = g) w).alloc (.cells #[.int .u32 c] 49))
  have hmf : ∀ (fn : Fn) (first cap : Array Value) (w : World), (Instr.makeFunc fn first cap).run Try.prog w = .ok (.func fn first cap) w := fun _ _ _ _ => rfl
  clear h hc1 hq
  show Calls Try.prog 44 #[.pointer (some ⟨g, 0, none⟩), .int .u32 c] w fun en w' => en = .returned (.string (strOfNums (rby c))) ∧ Enc w' g T a e f d s [] ∧ Kp (fun k => k = g) w w'
  by_cases h1 : c < 128
  · have e1 : rby c = [c] := if_pos h1
    rw [e1]
    have hd1 : decide (c < (128 : Int)) = true := decide_eq_true h1
    have hcm : c % 256 = c := by omega
    have hc := HC.out
    have hsz : (w.alloc (.cells #[.int .u32 c] 49)).heap.size = w.heap.size + 1 := by simp
    have hconv := conv1 (w.alloc (.cells #[.int .u32 c] 49)) c
    rw [hsz] at hconv
    clear hsz
    clear e1
    go_enter Try.func44, Try.ntmps44
    go_wp2_with fail
    go_ret
    exact ⟨rfl, blk_alloc HD.out _, HK.out.alloc _⟩
  by_cases h2 : c < 2048
  · have e1 : rby c = [192 + c / 64, 128 + c % 64] := by unfold rby; rw [if_neg h1, if_pos h2]
    rw [e1]
    have hd1 : decide (c < (128 : Int)) = false := decide_eq_false (by omega)
    have hd2 : decide (c < (2048 : Int)) = true := decide_eq_true (by omega)
    have hc := HC.out
    have ho : Go.bits .or .u8 192 (c / 64) = 192 + c / 64 := u8_or192 _ (by omega) (by omega)
    have hm : IntKind.u8.wrap (c / 64) = c / 64 := wrap8 (by omega) (by omega)
    clear e1
    go_enter Try.func44, Try.ntmps44
    go_wp2_with fail
    clear hc
    generalize w.alloc (.cells #[.int .u32 c] 49) = W0 at *
    generalize w.heap.size = B at *
    have hcs : W0.drew.cell? ⟨B, 0, none⟩ = some (.int .u32 c) := HC.out
    have hcs0 := HC.out
    have hBW : B < W0.heap.size := World.block_lt_of_cell? _ _ HC.out
    have hcs2 : (W0.alloc (.cells #[.int .u8 (192 + c / 64), .int .u8 (128 + c % 64)] 5)).drew.cell? ⟨B, 0, none⟩ = some (.int .u32 c) := (World.cell?_alloc_past (w := W0) _ _ _ hBW).trans HC.out
    have hconv : Sem.run Try.prog (convert 86 9 (.slice (some ⟨W0.heap.size, 0, none⟩) 2 2)) (W0.alloc (.cells #[.int .u8 (192 + c / 64), .int .u8 (128 + c % 64)] 5)).drew = .ok (.string (strOfNums [192 + c / 64, 128 + c % 64])) (W0.alloc (.cells #[.int .u8 (192 + c / 64), .int .u8 (128 + c % 64)] 5)).drew := conv2 W0.drew (192 + c / 64) (128 + c % 64)
    go_region_with (first
      | (go_at_call 48; (with_reducible refine (tail_0 (B := B) (c := c) hc0 (by assumption)).mono ?_); rintro e w' ⟨rfl, rfl⟩)
      | (fail))
    all_goals (go_wp2_with fail)
    all_goals go_ret
    all_goals exact ⟨rfl, blk_alloc HD.out _, (HK.out.alloc _).drew⟩
  by_cases h3 : c < 65536
  · have e1 : rby c = [224 + c / 4096, 128 + c / 64 % 64, 128 + c % 64] := by unfold rby; rw [if_neg h1, if_neg h2, if_pos h3]
    rw [e1]
    have hd1 : decide (c < (128 : Int)) = false := decide_eq_false (by omega)
    have hd2 : decide (c < (2048 : Int)) = false := decide_eq_false (by omega)
    have hd3 : decide (c < (65536 : Int)) = true := decide_eq_true (by omega)
    have hc := HC.out
    have ho : Go.bits .or .u8 224 (c / 4096) = 224 + c / 4096 := u8_or224 _ (by omega) (by omega)
    have hm : IntKind.u8.wrap (c / 4096) = c / 4096 := wrap8 (by omega) (by omega)
    clear e1
    go_enter Try.func44, Try.ntmps44
    go_wp2_with fail
    clear hc
    generalize w.alloc (.cells #[.int .u32 c] 49) = W0 at *
    generalize w.heap.size = B at *
    have hcs : W0.drew.cell? ⟨B, 0, none⟩ = some (.int .u32 c) := HC.out
    have hcs0 := HC.out
    have hBW : B < W0.heap.size := World.block_lt_of_cell? _ _ HC.out
    have hcs2 : (W0.alloc (.cells #[.int .u8 (224 + c / 4096), .int .u8 (128 + c / 64 % 64), .int .u8 (128 + c % 64)] 5)).drew.cell? ⟨B, 0, none⟩ = some (.int .u32 c) := (World.cell?_alloc_past (w := W0) _ _ _ hBW).trans HC.out
    have hconv : Sem.run Try.prog (convert 86 9 (.slice (some ⟨W0.heap.size, 0, none⟩) 3 3)) (W0.alloc (.cells #[.int .u8 (224 + c / 4096), .int .u8 (128 + c / 64 % 64), .int .u8 (128 + c % 64)] 5)).drew = .ok (.string (strOfNums [224 + c / 4096, 128 + c / 64 % 64, 128 + c % 64])) (W0.alloc (.cells #[.int .u8 (224 + c / 4096), .int .u8 (128 + c / 64 % 64), .int .u8 (128 + c % 64)] 5)).drew := conv3 W0.drew (224 + c / 4096) (128 + c / 64 % 64) (128 + c % 64)
    go_region_with (first
      | (go_at_call 48; (with_reducible refine (tail_0 (B := B) (c := c) hc0 (by assumption)).mono ?_); rintro e w' ⟨rfl, rfl⟩)
      | (go_at_call 48; (with_reducible refine (tail_1 (B := B) (c := c) hc0 (by assumption)).mono ?_); rintro e w' ⟨rfl, rfl⟩)
      | (fail))
    all_goals (go_wp2_with fail)
    all_goals go_ret
    all_goals exact ⟨rfl, blk_alloc HD.out _, (HK.out.alloc _).drew⟩
  · have e1 : rby c = [240 + c / 262144, 128 + c / 4096 % 64, 128 + c / 64 % 64, 128 + c % 64] := by unfold rby; rw [if_neg h1, if_neg h2, if_neg h3]
    rw [e1]
    have hd1 : decide (c < (128 : Int)) = false := decide_eq_false (by omega)
    have hd2 : decide (c < (2048 : Int)) = false := decide_eq_false (by omega)
    have hd3 : decide (c < (65536 : Int)) = false := decide_eq_false (by omega)
    have hc := HC.out
    have ho : Go.bits .or .u8 240 (c / 262144) = 240 + c / 262144 := u8_or240 _ (by omega) (by omega)
    have hm : IntKind.u8.wrap (c / 262144) = c / 262144 := wrap8 (by omega) (by omega)
    clear e1
    go_enter Try.func44, Try.ntmps44
    go_wp2_with fail
    clear hc
    generalize w.alloc (.cells #[.int .u32 c] 49) = W0 at *
    generalize w.heap.size = B at *
    have hcs : W0.drew.cell? ⟨B, 0, none⟩ = some (.int .u32 c) := HC.out
    have hcs0 := HC.out
    have hBW : B < W0.heap.size := World.block_lt_of_cell? _ _ HC.out
    have hcs2 : (W0.alloc (.cells #[.int .u8 (240 + c / 262144), .int .u8 (128 + c / 4096 % 64), .int .u8 (128 + c / 64 % 64), .int .u8 (128 + c % 64)] 5)).drew.cell? ⟨B, 0, none⟩ = some (.int .u32 c) := (World.cell?_alloc_past (w := W0) _ _ _ hBW).trans HC.out
    have hconv : Sem.run Try.prog (convert 86 9 (.slice (some ⟨W0.heap.size, 0, none⟩) 4 4)) (W0.alloc (.cells #[.int .u8 (240 + c / 262144), .int .u8 (128 + c / 4096 % 64), .int .u8 (128 + c / 64 % 64), .int .u8 (128 + c % 64)] 5)).drew = .ok (.string (strOfNums [240 + c / 262144, 128 + c / 4096 % 64, 128 + c / 64 % 64, 128 + c % 64])) (W0.alloc (.cells #[.int .u8 (240 + c / 262144), .int .u8 (128 + c / 4096 % 64), .int .u8 (128 + c / 64 % 64), .int .u8 (128 + c % 64)] 5)).drew := conv4 W0.drew (240 + c / 262144) (128 + c / 4096 % 64) (128 + c / 64 % 64) (128 + c % 64)
    go_region_with (first
      | (go_at_call 48; (with_reducible refine (tail_0 (B := B) (c := c) hc0 (by assumption)).mono ?_); rintro e w' ⟨rfl, rfl⟩)
      | (go_at_call 48; (with_reducible refine (tail_1 (B := B) (c := c) hc0 (by assumption)).mono ?_); rintro e w' ⟨rfl, rfl⟩)
      | (go_at_call 48; (with_reducible refine (tail_2 (B := B) (c := c) hc0 (by assumption)).mono ?_); rintro e w' ⟨rfl, rfl⟩)
      | (fail))
    all_goals (go_wp2_with fail)
    all_goals go_ret
    all_goals exact ⟨rfl, blk_alloc HD.out _, (HK.out.alloc _).drew⟩
end
end Go.Proofs.Ytmegkiipeckkaaa
