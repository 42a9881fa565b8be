/- The scalars as bytes of layer 6: the contract of the encoder's bytes, over the print's. -/
import Derived.Test.YtolhfpboieimcaaCa
import Derived.Test.YtolhfpboieimcaaMc
import Derived.Lib.ConvBytes
namespace Go.Proofs.Ytolhfpboieimcaa
open Go.RowKit Go.Proofs.YtolhfpboieimcaaW.PrintWords Go.Proofs.YtolhfpboieimcaaW.PrintMore
set_option linter.unusedVariables false
set_option linter.unusedSimpArgs false
/-- The encoder's own state; a scalar's bytes, and the state behind it. -/
structure ES where
def eown (_s : ES) : List Value := []
def eok (_s : ES) : Prop := True
/-- A scalar's bytes. -/
def rby (c : Int) : List Int :=
  if c < 160 then [c] else if c < 1024 then [192 + c / 32, 160 + c % 32] else if c < 16384 then [224 + c / 1024, 160 + c / 32 % 32, 160 + c % 32]
  else if c < 262144 then [240 + c / 32768, 160 + c / 1024 % 32, 160 + c / 32 % 32, 160 + c % 32]
  else [248 + c / 1048576, 160 + c / 32768 % 32, 160 + c / 1024 % 32, 160 + c / 32 % 32, 160 + c % 32]
def eby (s : ES) (c : Int) : List Int × ES := (rby c, s)
theorem isB_range {c : Int} (h : isB c = true) : c ≤ 1114111 := by
  simp only [isB, Bool.and_eq_true, decide_eq_true_eq] at h
  exact h.1
theorem eby_ok {s : ES} {c : Int} (hs : eok s) (h0 : 0 ≤ c) (hc : isB c = true) : eok (eby s c).2 := trivial
theorem rby_len (c : Int) : (rby c).length ≤ 5 := by
  unfold rby
  (repeat' split) <;> simp
theorem rby_pos (c : Int) : 0 < (rby c).length := by
  unfold rby
  (repeat' split) <;> simp
theorem eby_len (s : ES) (c : Int) : (eby s c).1.length ≤ 5 := rby_len c
theorem eby_pos (s : ES) (c : Int) (hs : eok s) (h0 : 0 ≤ c) (hc : isB c = true) : 0 < (eby s c).1.length := rby_pos c
theorem rby_range (c : Int) (h0 : 0 ≤ c) (hc : isB c = true) : ∀ x ∈ rby c, 0 ≤ x ∧ x ≤ 255 := by
  have := isB_range hc
  unfold rby
  intro x hx
  split at hx
  · simp only [List.mem_cons, List.not_mem_nil, or_false] at hx; omega
  · split at hx
    · simp only [List.mem_cons, List.not_mem_nil, or_false] at hx; omega
    · split at hx
      · simp only [List.mem_cons, List.not_mem_nil, or_false] at hx; omega
      · split at hx
        · simp only [List.mem_cons, List.not_mem_nil, or_false] at hx; omega
        · simp only [List.mem_cons, List.not_mem_nil, or_false] at hx; omega
theorem eby_bytes (s : ES) (c : Int) (hs : eok s) (h0 : 0 ≤ c) (hc : isB c = true) : ∀ x ∈ (eby s c).1, 0 ≤ x ∧ x ≤ 255 := rby_range c h0 hc
theorem and31_at (x : Int) (h0 : 0 ≤ x) (h1 : x < 4294967296) : Go.bits .and .u32 x 31 = x % 32 := by
  rw [u32_and x 31 h0 h1 (by omega) (by omega), show (31 : Int).toNat = 2 ^ 5 - 1 from rfl, Nat.and_two_pow_sub_one_eq_mod]
  omega
theorem or_at (i : Nat) (x y : Int) (hx0 : 0 ≤ x) (hx1 : x < 256) (hxm : x.toNat % 2 ^ i = 0) (hy0 : 0 ≤ y) (hy1 : y.toNat < 2 ^ i) (hy2 : y < 256) : Go.bits .or .u8 x y = x + y := by
  rw [u8_or x y hx0 hx1 hy0 hy2, nat_join i _ _ hxm hy1]; omega
theorem w8_1 {x : Int} (h0 : 0 ≤ x) (h1 : x ≤ 100) : wrap64 (x - 1) = x - 1 := by unfold wrap64; omega
theorem ebl_step (k : Nat) (c ld i : Int) (l : List Int) (s0 s1 s2 : Int) (s3 : Bool) (s4 : ByteArray) (hc0 : 0 ≤ c) (hc1 : c ≤ 1114111) (hi : 0 < i) (hil : i < l.length) (hi2 : i ≤ 100) :
    PMod8Bytes.mod8_Encoder_bytes.l0 (k + 1) c ld l i s0 s1 s2 s3 s4 = PMod8Bytes.mod8_Encoder_bytes.l0 k (c / 32) ld (l.set i.toNat (160 + c % 32)) (i - 1) s0 s1 s2 s3 s4 := by
  rw [PMod8Bytes.mod8_Encoder_bytes.l0, if_pos hi, if_pos (by omega), if_pos hil, and31_at c hc0 (by omega), show c % 32 % 256 = c % 32 by omega, or_at 5 160 (c % 32) (by omega) (by omega) rfl (by omega) (by omega) (by omega), w8_1 (by omega) hi2]
theorem ebl_end (k : Nat) (c ld : Int) (x : Int) (l : List Int) (s0 s1 s2 : Int) (s3 : Bool) (s4 : ByteArray) (n : Nat) (hl0 : 0 ≤ ld) (hl1 : ld < 256) (hlm : ld.toNat % 2 ^ n = 0) (hc0 : 0 ≤ c) (hc1 : c.toNat < 2 ^ n) (hc2 : c < 256) :
    PMod8Bytes.mod8_Encoder_bytes.l0 (k + 1) c ld (x :: l) 0 s0 s1 s2 s3 s4 = some (strOfNums ((ld + c) :: l), s0, s1, s2, s3, s4) := by
  rw [PMod8Bytes.mod8_Encoder_bytes.l0, if_neg (by decide), if_pos (by simp; try omega), show c % 256 = c by omega, or_at n ld c hl0 hl1 hlm hc0 hc1 hc2]
  rfl
theorem ebytesF_at (k : Nat) (c : Int) (h0 : 0 ≤ c) (hc : c ≤ 1114111) (s0 s1 s2 : Int) (s3 : Bool) (s4 : ByteArray) : PMod8Bytes.mod8_Encoder_bytes.f (k + 9) s0 s1 s2 s3 s4 c = some (strOfNums (rby c), s0, s1, s2, s3, s4) := by
  unfold PMod8Bytes.mod8_Encoder_bytes.f rby
  by_cases c1 : c < 160
  · rw [if_pos c1, if_pos c1, show c % 256 = c by omega]
  rw [if_neg c1, if_neg c1]
  by_cases c2 : c < 1024
  · rw [if_pos c2, if_pos c2, PMod8Bytes.mod8_Encoder_bytes.j0, if_pos (by decide), if_pos (by decide), w8_1 (by decide) (by decide)]
    show PMod8Bytes.mod8_Encoder_bytes.l0 (k + 8) c 192 [0, 0] 1 s0 s1 s2 s3 s4 = _
    rw [ebl_step _ _ _ _ _ _ _ _ _ _ h0 hc (by decide) (by decide) (by decide)]
    exact ebl_end _ _ _ _ _ _ _ _ _ _ 5 (by decide) (by decide) rfl (by omega) (by omega) (by omega)
  rw [if_neg c2, if_neg c2]
  by_cases c3 : c < 16384
  · rw [if_pos c3, if_pos c3, PMod8Bytes.mod8_Encoder_bytes.j0, if_pos (by decide), if_pos (by decide), w8_1 (by decide) (by decide)]
    show PMod8Bytes.mod8_Encoder_bytes.l0 (k + 8) c 224 [0, 0, 0] 2 s0 s1 s2 s3 s4 = _
    rw [ebl_step _ _ _ _ _ _ _ _ _ _ h0 hc (by decide) (by decide) (by decide)]
    show PMod8Bytes.mod8_Encoder_bytes.l0 (k + 7) (c / 32) 224 [0, 0, 160 + c % 32] 1 s0 s1 s2 s3 s4 = _
    rw [ebl_step _ _ _ _ _ _ _ _ _ _ (by omega) (by omega) (by decide) (by simp; try decide) (by decide)]
    refine (ebl_end _ _ _ _ _ _ _ _ _ _ 4 (by decide) (by decide) rfl (by omega) (by omega) (by omega)).trans ?_
    rw [show c / 32 / 32 = c / 1024 by omega]
    rfl
  rw [if_neg c3, if_neg c3]
  by_cases c4 : c < 262144
  · rw [if_pos c4, if_pos c4, PMod8Bytes.mod8_Encoder_bytes.j0, if_pos (by decide), if_pos (by decide), w8_1 (by decide) (by decide)]
    show PMod8Bytes.mod8_Encoder_bytes.l0 (k + 8) c 240 [0, 0, 0, 0] 3 s0 s1 s2 s3 s4 = _
    rw [ebl_step _ _ _ _ _ _ _ _ _ _ h0 hc (by decide) (by decide) (by decide)]
    show PMod8Bytes.mod8_Encoder_bytes.l0 (k + 7) (c / 32) 240 [0, 0, 0, 160 + c % 32] 2 s0 s1 s2 s3 s4 = _
    rw [ebl_step _ _ _ _ _ _ _ _ _ _ (by omega) (by omega) (by decide) (by simp; try decide) (by decide)]
    show PMod8Bytes.mod8_Encoder_bytes.l0 (k + 6) (c / 32 / 32) 240 [0, 0, 160 + c / 32 % 32, 160 + c % 32] 1 s0 s1 s2 s3 s4 = _
    rw [ebl_step _ _ _ _ _ _ _ _ _ _ (by omega) (by omega) (by decide) (by simp; try decide) (by decide)]
    refine (ebl_end _ _ _ _ _ _ _ _ _ _ 3 (by decide) (by decide) rfl (by omega) (by omega) (by omega)).trans ?_
    rw [show c / 32 / 32 / 32 = c / 32768 by omega, show c / 32 / 32 = c / 1024 by omega]
    rfl
  · rw [if_neg c4, if_neg c4, PMod8Bytes.mod8_Encoder_bytes.j0, if_pos (by decide), if_pos (by decide), w8_1 (by decide) (by decide)]
    show PMod8Bytes.mod8_Encoder_bytes.l0 (k + 8) c 248 [0, 0, 0, 0, 0] 4 s0 s1 s2 s3 s4 = _
    rw [ebl_step _ _ _ _ _ _ _ _ _ _ h0 hc (by decide) (by decide) (by decide)]
    show PMod8Bytes.mod8_Encoder_bytes.l0 (k + 7) (c / 32) 248 [0, 0, 0, 0, 160 + c % 32] 3 s0 s1 s2 s3 s4 = _
    rw [ebl_step _ _ _ _ _ _ _ _ _ _ (by omega) (by omega) (by decide) (by simp; try decide) (by decide)]
    show PMod8Bytes.mod8_Encoder_bytes.l0 (k + 6) (c / 32 / 32) 248 [0, 0, 0, 160 + c / 32 % 32, 160 + c % 32] 2 s0 s1 s2 s3 s4 = _
    rw [ebl_step _ _ _ _ _ _ _ _ _ _ (by omega) (by omega) (by decide) (by simp; try decide) (by decide)]
    show PMod8Bytes.mod8_Encoder_bytes.l0 (k + 5) (c / 32 / 32 / 32) 248 [0, 0, 160 + c / 32 / 32 % 32, 160 + c / 32 % 32, 160 + c % 32] 1 s0 s1 s2 s3 s4 = _
    rw [ebl_step _ _ _ _ _ _ _ _ _ _ (by omega) (by omega) (by decide) (by simp; try decide) (by decide)]
    refine (ebl_end _ _ _ _ _ _ _ _ _ _ 2 (by decide) (by decide) rfl (by omega) (by omega) (by omega)).trans ?_
    rw [show c / 32 / 32 / 32 / 32 = c / 1048576 by omega, show c / 32 / 32 / 32 = c / 32768 by omega, show c / 32 / 32 = c / 1024 by omega]
    rfl
section
variable {w : World} {g : Nat} {a e f : Int} {d : Bool} {s : ByteArray}
theorem ebytes_any {T : Nat} (q : ES) (c : Int) (hq : eok q) (hc0 : 0 ≤ c) (hc1 : isB c = true) (h : Enc w g T a e f d s (eown q)) :
    Calls Try.prog 44 #[.pointer (some ⟨g, 0, none⟩), .int .u32 c] w fun en w' => en = .returned (.string (strOfNums (eby q c).1)) ∧ Enc w' g T a e f d s (eown (eby q c).2) ∧ Kp (fun k => k = g) w w' := by
  have hi : PMod8Bytes.IsG w w g 0 0 0 false ⟨#[]⟩ := blk_lt h
  refine (PMod8Bytes.mod8_Encoder_bytes.calls 9 g 0 0 0 false ⟨#[]⟩ c (strOfNums (rby c)) 0 0 0 false ⟨#[]⟩ w w hi (Below.refl _ _) (ebytesF_at 0 c hc0 (isB_range hc1) 0 0 0 false ⟨#[]⟩)).mono ?_
  rintro en w' ⟨rfl, _, h2, _⟩
  exact ⟨rfl, blk_below h h2, Kp.of_below h2⟩
end
end Go.Proofs.Ytolhfpboieimcaa
