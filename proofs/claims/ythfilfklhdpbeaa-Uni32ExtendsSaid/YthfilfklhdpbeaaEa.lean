/- UTF-32's scalars as bytes: the contract of the encoder's bytes. -/
import Derived.Test.YthfilfklhdpbeaaCa
import Derived.Lib.ConvBytes
namespace Go.Proofs.Ythfilfklhdpbeaa
open Go.RowKit Go.Proofs.YthfilfklhdpbeaaW.PrintWords Go.Proofs.YthfilfklhdpbeaaW.PrintMore
set_option linter.unusedVariables false
set_option linter.unusedSimpArgs false
theorem conv_lit (W : World) (xs : List Int) (hm : xs.length ≤ 9223372036854775807) :
    Sem.run Try.prog (convert 72 9 (.slice (some ⟨W.heap.size, 0, none⟩) xs.length xs.length)) (W.alloc (.cells (nums .u8 xs).toArray 5)) = .ok (.string (strOfNums xs)) (W.alloc (.cells (nums .u8 xs).toArray 5)) :=
  own_string Try.underlying72 Try.underlying5 Try.underlying9 (own_lit W W.heap.size 5 .u8 xs (Nat.le_refl _) hm)
theorem conv4 (W : World) (x0 x1 x2 x3 : Int) :
    Sem.run Try.prog (convert 72 9 (.slice (some ⟨W.heap.size, 0, none⟩) 4 4)) (W.alloc (.cells #[.int .u8 x0, .int .u8 x1, .int .u8 x2, .int .u8 x3] 5)) = .ok (.string (strOfNums [x0, x1, x2, x3])) (W.alloc (.cells #[.int .u8 x0, .int .u8 x1, .int .u8 x2, .int .u8 x3] 5)) := by
  have := conv_lit W [x0, x1, x2, x3] (by simp)
  simpa [nums] using this
/-- The encoder's own state; a scalar's bytes, and the state behind it. -/
structure ES where
  big : Bool
def eown (s : ES) : List Value := [.bool s.big]
def eok (_s : ES) : Prop := True
def eby (s : ES) (c : Int) : List Int × ES := (if s.big then [c / 16777216, c / 65536, c / 256 % 256, c % 256] else [c % 256, c / 256 % 256, c / 65536, c / 16777216], s)
theorem isB_range {c : Int} (h : isB c = true) : c ≤ 1114111 := by
  simp only [isB, Bool.and_eq_true, decide_eq_true_eq] at h
  exact h.1
theorem eby_ok {s : ES} {c : Int} (hs : eok s) (h0 : 0 ≤ c) (hc : isB c = true) : eok (eby s c).2 := trivial
theorem eby_len (s : ES) (c : Int) : (eby s c).1.length ≤ 5 := by unfold eby; cases s.big <;> simp
theorem eby_pos (s : ES) (c : Int) (hs : eok s) (h0 : 0 ≤ c) (hc : isB c = true) : 0 < (eby s c).1.length := by unfold eby; cases s.big <;> simp
theorem eby_bytes (s : ES) (c : Int) (hs : eok s) (h0 : 0 ≤ c) (hc : isB c = true) : ∀ x ∈ (eby s c).1, 0 ≤ x ∧ x ≤ 255 := by
  have := isB_range hc
  unfold eby
  cases s.big <;> simp <;> omega
section
variable {w : World} {g T : Nat} {a e f : Int} {d : Bool} {s : ByteArray}
theorem ebytes_any (q : ES) (c : Int) (hq : eok q) (hc0 : 0 ≤ c) (hc1 : isB c = true) (h : Enc w g T a e f d s (eown q)) :
    Calls Try.prog 42 #[.pointer (some ⟨g, 0, none⟩), .int .u32 c] w fun en w' => en = .returned (.string (strOfNums (eby q c).1)) ∧ Enc w' g T a e f d s (eown (eby q c).2) ∧ Kp (fun k => k = g) w w' := by
  obtain ⟨big⟩ := q
  have c5 : w.cell? ⟨g, 5, none⟩ = some (.bool big) := enc_co h 0
  have hcc := isB_range hc1
  have HD := Lib.hid h
  clear h hc1 hq
  have hconv := conv4 w
  cases big with
  | true =>
    go_enter Try.func42, Try.ntmps42
    go_wp2_with fail
    go_ret
    exact ⟨rfl, blk_alloc HD.out _, (Kp.refl _ _).alloc _⟩
  | false =>
    go_enter Try.func42, Try.ntmps42
    go_wp2_with fail
    go_ret
    exact ⟨rfl, blk_alloc HD.out _, (Kp.refl _ _).alloc _⟩
end
end Go.Proofs.Ythfilfklhdpbeaa
