/- UTF-16's scalars as bytes: the contract of the encoder's bytes. -/
import Derived.Test.YtjddbdhpdenaeaaCa
import Derived.Lib.ConvBytes
namespace Go.Proofs.Ytjddbdhpdenaeaa
open Go.RowKit Go.Proofs.YtjddbdhpdenaeaaW.PrintWords Go.Proofs.YtjddbdhpdenaeaaW.PrintMore
set_option linter.unusedVariables false
set_option linter.unusedSimpArgs false
theorem conv_lit (W : World) (xs : List Int) (hm : xs.length ≤ 9223372036854775807) :
    Sem.run Try.prog (convert 78 9 (.slice (some ⟨W.heap.size, 0, none⟩) xs.length xs.length)) (W.alloc (.cells (nums .u8 xs).toArray 5)) = .ok (.string (strOfNums xs)) (W.alloc (.cells (nums .u8 xs).toArray 5)) :=
  own_string Try.underlying78 Try.underlying5 Try.underlying9 (own_lit W W.heap.size 5 .u8 xs (Nat.le_refl _) hm)
theorem conv2 (W : World) (x0 x1 : Int) :
    Sem.run Try.prog (convert 78 9 (.slice (some ⟨W.heap.size, 0, none⟩) 2 2)) (W.alloc (.cells #[.int .u8 x0, .int .u8 x1] 5)) = .ok (.string (strOfNums [x0, x1])) (W.alloc (.cells #[.int .u8 x0, .int .u8 x1] 5)) := by
  have := conv_lit W [x0, x1] (by simp)
  simpa [nums] using this
/-- The encoder's own state; a scalar's bytes, and the state behind it. -/
structure ES where
  big : Bool
def eown (s : ES) : List Value := [.bool s.big]
def eok (_s : ES) : Prop := True
/-- A unit's bytes. -/
def ubyF (big : Bool) (u : Int) : List Int := if big then [u / 256, u % 256] else [u % 256, u / 256]
def eby (s : ES) (c : Int) : List Int × ES := (if c < 65536 then ubyF s.big c else ubyF s.big (55296 + (c - 65536) / 1024) ++ ubyF s.big (56320 + (c - 65536) % 1024), s)
theorem isB_range {c : Int} (h : isB c = true) : c ≤ 1114111 := by
  simp only [isB, Bool.and_eq_true, decide_eq_true_eq] at h
  exact h.1
theorem eby_ok {s : ES} {c : Int} (hs : eok s) (h0 : 0 ≤ c) (hc : isB c = true) : eok (eby s c).2 := trivial
theorem uby_len (big : Bool) (u : Int) : (ubyF big u).length = 2 := by unfold ubyF; cases big <;> rfl
theorem eby_len (s : ES) (c : Int) : (eby s c).1.length ≤ 5 := by unfold eby; simp only; split <;> simp [uby_len]
theorem eby_pos (s : ES) (c : Int) (hs : eok s) (h0 : 0 ≤ c) (hc : isB c = true) : 0 < (eby s c).1.length := by unfold eby; simp only; split <;> simp [uby_len]
theorem uby_bytes (big : Bool) (u : Int) (h0 : 0 ≤ u) (h1 : u ≤ 65535) : ∀ x ∈ ubyF big u, 0 ≤ x ∧ x ≤ 255 := by unfold ubyF; cases big <;> simp <;> omega
theorem eby_bytes (s : ES) (c : Int) (hs : eok s) (h0 : 0 ≤ c) (hc : isB c = true) : ∀ x ∈ (eby s c).1, 0 ≤ x ∧ x ≤ 255 := by
  have := isB_range hc
  unfold eby
  intro x hx
  simp only at hx
  split at hx
  · exact uby_bytes _ _ h0 (by omega) x hx
  · rw [List.mem_append] at hx
    rcases hx with hx | hx
    · exact uby_bytes _ _ (by omega) (by omega) x hx
    · exact uby_bytes _ _ (by omega) (by omega) x hx
section
variable {w : World} {g T : Nat} {a e f : Int} {d : Bool} {s : ByteArray}
theorem ofNums_append (xs ys : List Int) : strOfNums (xs ++ ys) = strOfNums xs ++ strOfNums ys := by
  apply ByteArray.ext
  simp [strOfNums, ByteArray.data_append]
theorem or_join0 (i : Nat) (x y : Int) (hx0 : 0 ≤ x) (hx1 : x < 4294967296) (hxm : x.toNat % 2 ^ i = 0) (hy0 : 0 ≤ y) (hy1 : y.toNat < 2 ^ i) (hy2 : y < 4294967296) : Go.bits .or .u32 x y = x + y := by
  rw [u32_or x y hx0 hx1 hy0 hy2, nat_join i _ _ hxm hy1]; omega
theorem or_hi (x : Int) (h0 : 0 ≤ x) (h1 : x < 1024) : Go.bits .or .u32 55296 x = 55296 + x := or_join0 10 _ _ (by omega) (by omega) rfl h0 (by omega) (by omega)
theorem or_lo (x : Int) (h0 : 0 ≤ x) (h1 : x < 1024) : Go.bits .or .u32 56320 x = 56320 + x := or_join0 10 _ _ (by omega) (by omega) rfl h0 (by omega) (by omega)
theorem and_lo (x : Int) (h0 : 0 ≤ x) (h1 : x < 4294967296) : Go.bits .and .u32 x 1023 = x % 1024 := by
  rw [u32_and x 1023 h0 h1 (by omega) (by omega), show (1023 : Int).toNat = 2 ^ 10 - 1 from rfl, Nat.and_two_pow_sub_one_eq_mod]
  omega
theorem unit_any (big : Bool) (u : Int) (h0 : 0 ≤ u) (h1 : u ≤ 65535) (h : Enc w g T a e f d s [.bool big]) :
    Calls Try.prog 50 #[.pointer (some ⟨g, 0, none⟩), .int .u32 u] w fun en w' => en = .returned (.string (strOfNums (ubyF big u))) ∧ Enc w' g T a e f d s [.bool big] ∧ Kp (fun k => k = g) w w' := by
  have c5 : w.cell? ⟨g, 5, none⟩ = some (.bool big) := enc_co h 0
  have HD := Lib.hid h
  clear h
  have hconv := conv2 w
  cases big with
  | true =>
    go_enter Try.func50, Try.ntmps50
    go_wp2_with fail
    go_ret
    exact ⟨rfl, blk_alloc HD.out _, (Kp.refl _ _).alloc _⟩
  | false =>
    go_enter Try.func50, Try.ntmps50
    go_wp2_with fail
    go_ret
    exact ⟨rfl, blk_alloc HD.out _, (Kp.refl _ _).alloc _⟩
theorem ebytes_any (q : ES) (c : Int) (hq : eok q) (hc0 : 0 ≤ c) (hc1 : isB c = true) (h : Enc w g T a e f d s (eown q)) :
    Calls Try.prog 45 #[.pointer (some ⟨g, 0, none⟩), .int .u32 c] w fun en w' => en = .returned (.string (strOfNums (eby q c).1)) ∧ Enc w' g T a e f d s (eown (eby q c).2) ∧ Kp (fun k => k = g) w w' := by
  obtain ⟨big⟩ := q
  have hcc := isB_range hc1
  have HD := Lib.hid h
  clear h hc1 hq
  by_cases hs : c < 65536
  · have e1 : (eby ⟨big⟩ c).1 = ubyF big c := if_pos hs
    rw [e1]
    have hd1 : decide (c < (65536 : Int)) = true := decide_eq_true hs
    clear e1
    go_enter Try.func45, Try.ntmps45
    go_wp2_with fail
    refine (unit_any big c hc0 (by omega) HD.out).mono ?_
    rintro en w1 ⟨rfl, he, hk⟩
    have HE := Lib.hid he
    have HK := Lib.hid hk
    clear he hk
    go_wp2_with fail
    go_ret
    exact ⟨rfl, HE.out, HK.out⟩
  · have e1 : (eby ⟨big⟩ c).1 = ubyF big (55296 + (c - 65536) / 1024) ++ ubyF big (56320 + (c - 65536) % 1024) := if_neg hs
    rw [e1]
    have hd1 : decide (c < (65536 : Int)) = false := decide_eq_false hs
    clear e1
    go_enter Try.func45, Try.ntmps45
    go_wp2_with fail
    rw [or_hi ((c - 65536) / 1024) (by omega) (by omega)]
    refine (unit_any big _ (by omega) (by omega) HD.out).mono ?_
    rintro en w1 ⟨rfl, he, hk⟩
    have HE := Lib.hid he
    have HK := Lib.hid hk
    clear he hk
    go_wp2_with fail
    rw [and_lo (c - 65536) (by omega) (by omega), or_lo ((c - 65536) % 1024) (by omega) (by omega)]
    refine (unit_any big _ (by omega) (by omega) HE.out).mono ?_
    rintro en w2 ⟨rfl, he, hk⟩
    have HE2 := Lib.hid he
    have HK2 := Lib.hid (HK.out.tr hk)
    clear he hk
    have hz1 : (strOfNums (ubyF big (55296 + (c - 65536) / 1024))).size = 2 := by rw [strOfNums_size, uby_len]
    have hz2 : (strOfNums (ubyF big (56320 + (c - 65536) % 1024))).size = 2 := by rw [strOfNums_size, uby_len]
    go_wp2_with fail
    go_ret
    exact ⟨by rw [ofNums_append]; rfl, HE2.out, HK2.out⟩
end
end Go.Proofs.Ytjddbdhpdenaeaa
