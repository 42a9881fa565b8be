/- UTF-32's machine, byte by byte: the contracts of scalar.Is, fits, next. -/
import Derived.Test.YthfilfklhdpbeaaDec
import Derived.OpenShut
namespace Go.Proofs.Ythfilfklhdpbeaa
open Go.RowKit Go.Proofs.YthfilfklhdpbeaaW.PrintWords Go.Proofs.YthfilfklhdpbeaaW.PrintMore
set_option linter.unusedVariables false
set_option linter.unusedSimpArgs false
def isB (c : Int) : Bool := decide (c ≤ 1114111) && (decide (c < 55296) || decide (57343 < c))
theorem is_any (c : Int) (w : World) : Calls Try.prog 40 #[.int .u32 c] w fun en w' => en = .returned (.bool (isB c)) ∧ w = w' := by
  by_cases h1 : c ≤ 1114111
  · by_cases h2 : c < 55296
    · have e : isB c = true := by simp [isB, h1, h2]
      rw [e]
      go_enter Try.func40, Try.ntmps40
      go_wp2
      go_ret
      exact ⟨rfl, rfl⟩
    · by_cases h3 : 57343 < c
      · have e : isB c = true := by simp [isB, h1, h3]
        rw [e]
        go_enter Try.func40, Try.ntmps40
        go_wp2
        go_ret
        exact ⟨rfl, rfl⟩
      · have e : isB c = false := by simp [isB, h2, h3]
        rw [e]
        go_enter Try.func40, Try.ntmps40
        go_wp2
        go_ret
        exact ⟨rfl, rfl⟩
  · have e : isB c = false := by simp [isB, h1]
    rw [e]
    go_enter Try.func40, Try.ntmps40
    go_wp2
    go_ret
    exact ⟨rfl, rfl⟩
section
variable {w : World} {g T : Nat} {a e f : Int} {d : Bool} {v : Value} {xs : List Int} {big : Bool} {hv c : Int}
abbrev own32 (big : Bool) (hv c : Int) : List Value := [.bool big, .int .i64 hv, .int .u32 c]
/-- May a number's bytes be those that were eaten, with one more? -/
def fitsB (big : Bool) (hv x : Int) : Bool := if hv = 3 then isB x else if big then (if hv = 0 then x == 0 else if hv = 1 then decide (x ≤ 16) else isB (x * 256 % 4294967296)) else if hv = 2 then isB x else true
theorem fits_any (x : Int) (hx0 : 0 ≤ x) (hx1 : x ≤ 4294967295) (hv0 : 0 ≤ hv) (hv1 : hv ≤ 3) (h : Dec w g T a e f d v xs (own32 big hv c)) :
    Calls Try.prog 43 #[.pointer (some ⟨g, 0, none⟩), .int .u32 x] w fun en w' => en = .returned (.bool (fitsB big hv x)) ∧ w = w' := by
  have c5 : w.cell? ⟨g, 5, none⟩ = some (.bool big) := h.co 0
  have c6 : w.cell? ⟨g, 6, none⟩ = some (.int .i64 hv) := h.co 1
  clear h
  by_cases h3 : hv = 3
  · subst h3
    have e : fitsB big 3 x = isB x := rfl
    rw [e]
    go_enter Try.func43, Try.ntmps43
    go_wp2_with (go_at_call 40; refine (is_any _ _).mono ?_; rintro e w' ⟨rfl, rfl⟩)
    go_ret
    exact ⟨rfl, rfl⟩
  have b3 : (hv == 3) = false := by simpa using h3
  cases big with
  | true =>
    by_cases h0 : hv = 0
    · subst h0
      have e : fitsB true 0 x = (x == 0) := rfl
      rw [e]
      go_enter Try.func43, Try.ntmps43
      go_wp2_with (go_at_call 40; refine (is_any _ _).mono ?_; rintro e w' ⟨rfl, rfl⟩)
      go_ret
      exact ⟨rfl, rfl⟩
    have b0 : (hv == 0) = false := by simpa using h0
    by_cases h1 : hv = 1
    · subst h1
      have e : fitsB true 1 x = decide (x ≤ 16) := rfl
      rw [e]
      go_enter Try.func43, Try.ntmps43
      go_wp2_with (go_at_call 40; refine (is_any _ _).mono ?_; rintro e w' ⟨rfl, rfl⟩)
      go_ret
      exact ⟨rfl, rfl⟩
    have b1 : (hv == 1) = false := by simpa using h1
    have e : fitsB true hv x = isB (x * 256 % 4294967296) := by simp [fitsB, h3, h0, h1]
    rw [e]
    have H3 := Lib.hid h3
    have H0 := Lib.hid h0
    have H1 := Lib.hid h1
    clear h3 h0 h1 e
    go_enter Try.func43, Try.ntmps43
    go_wp2_with (go_at_call 40; refine (is_any _ _).mono ?_; rintro e w' ⟨rfl, rfl⟩)
    go_ret
    exact ⟨rfl, rfl⟩
  | false =>
    by_cases h2 : hv = 2
    · subst h2
      have e : fitsB false 2 x = isB x := rfl
      rw [e]
      go_enter Try.func43, Try.ntmps43
      go_wp2_with (go_at_call 40; refine (is_any _ _).mono ?_; rintro e w' ⟨rfl, rfl⟩)
      go_ret
      exact ⟨rfl, rfl⟩
    have b2 : (hv == 2) = false := by simpa using h2
    have e : fitsB false hv x = true := by simp [fitsB, h3, h2]
    rw [e]
    have H3 := Lib.hid h3
    have H2 := Lib.hid h2
    clear h3 h2 e
    go_enter Try.func43, Try.ntmps43
    go_wp2_with (go_at_call 40; refine (is_any _ _).mono ?_; rintro e w' ⟨rfl, rfl⟩)
    go_ret
    exact ⟨rfl, rfl⟩
theorem bits_range (op : BinOp) (x y : Int) : 0 ≤ Go.bits op .u32 x y ∧ Go.bits op .u32 x y ≤ 4294967295 := by
  have := bounds_u32 (wf_bits op .u32 x y)
  exact this
/-- The number that the bytes are, with one more. -/
def cat32 (big : Bool) (hv c b : Int) : Int := if big then Go.bits .or .u32 (c * 256 % 4294967296) b else Go.bits .or .u32 c (b * 2 ^ (8 * hv).toNat % 4294967296)
theorem cat_range (big : Bool) (hv c b : Int) : 0 ≤ cat32 big hv c b ∧ cat32 big hv c b ≤ 4294967295 := by unfold cat32; split <;> exact bits_range _ _ _
theorem next_no_be (b : Int) (hb0 : 0 ≤ b) (hb1 : b ≤ 255) (hv0 : 0 ≤ hv) (hv1 : hv ≤ 3) (hc0 : 0 ≤ c) (hc1 : c ≤ 4294967295) (hl : xs.length + 1 ≤ 1073741824) (hf : fitsB true hv (cat32 true hv c b) = false) (h : Dec w g T a e f d v xs (own32 true hv c)) :
    Calls Try.prog 35 #[.pointer (some ⟨g, 0, none⟩), .int .u8 b] w fun en w' => en = .returned (.bool false) ∧ Dec w' g T a e f d v xs (own32 true hv c) ∧ Stp w g v w' v := by
  have c5 : w.cell? ⟨g, 5, none⟩ = some (.bool true) := h.co 0
  have c6 : w.cell? ⟨g, 6, none⟩ = some (.int .i64 hv) := h.co 1
  have c7 : w.cell? ⟨g, 7, none⟩ = some (.int .u32 c) := h.co 2
  have f6 := h.fz 6
  have f7 := h.fz 7
  obtain ⟨hx0, hx1⟩ := cat_range true hv c b
  have hX : Go.bits .or .u32 (c * 256 % 4294967296) b = cat32 true hv c b := rfl
  generalize cat32 true hv c b = X at *
  have HX := Lib.hid hX
  have HF := Lib.hid hf
  clear hX hf
  have H := Lib.hid h
  clear h
  go_enter Try.func35, Try.ntmps35
  go_wp2_with fail
  rw [HX.out]
  have hfx := HF.out
  refine (fits_any X hx0 hx1 hv0 hv1 H.out).mono ?_
  rw [hfx]
  rintro en w' ⟨rfl, rfl⟩
  clear hfx
  go_wp2_with fail
  go_ret
  exact ⟨rfl, H.out, Stp.refl _ _ _⟩
theorem next_on_be (b : Int) (hb0 : 0 ≤ b) (hb1 : b ≤ 255) (hv0 : 0 ≤ hv) (hv1 : hv ≤ 3) (hc0 : 0 ≤ c) (hc1 : c ≤ 4294967295) (hl : xs.length + 1 ≤ 1073741824) (hf : fitsB true hv (cat32 true hv c b) = true) (h3 : hv < 3) (h : Dec w g T a e f d v xs (own32 true hv c)) :
    Calls Try.prog 35 #[.pointer (some ⟨g, 0, none⟩), .int .u8 b] w fun en w' => en = .returned (.bool true) ∧ Dec w' g T a e f d v xs (own32 true (hv + 1) (cat32 true hv c b)) ∧ Stp w g v w' v := by
  have b4 : (hv + 1 == 4) = false := by simp; omega
  have c5 : w.cell? ⟨g, 5, none⟩ = some (.bool true) := h.co 0
  have c6 : w.cell? ⟨g, 6, none⟩ = some (.int .i64 hv) := h.co 1
  have c7 : w.cell? ⟨g, 7, none⟩ = some (.int .u32 c) := h.co 2
  have f6 := h.fz 6
  have f7 := h.fz 7
  obtain ⟨hx0, hx1⟩ := cat_range true hv c b
  have hX : Go.bits .or .u32 (c * 256 % 4294967296) b = cat32 true hv c b := rfl
  generalize cat32 true hv c b = X at *
  have HX := Lib.hid hX
  have HF := Lib.hid hf
  clear hX hf
  have H := Lib.hid h
  clear h
  go_enter Try.func35, Try.ntmps35
  go_wp2_with fail
  rw [HX.out]
  have hfx := HF.out
  refine (fits_any X hx0 hx1 hv0 hv1 H.out).mono ?_
  rw [hfx]
  rintro en w' ⟨rfl, rfl⟩
  clear hfx
  go_wp2_with fail
  go_ret
  exact ⟨rfl, (H.out.set 2 _).set 1 _, Stp.mine (((Kp.refl _ _).setg _ _).setg _ _)⟩
theorem next_all_be (b : Int) (hb0 : 0 ≤ b) (hb1 : b ≤ 255) (hv0 : 0 ≤ hv) (hv1 : hv ≤ 3) (hc0 : 0 ≤ c) (hc1 : c ≤ 4294967295) (hl : xs.length + 1 ≤ 1073741824) (hf : fitsB true hv (cat32 true hv c b) = true) (h3 : hv = 3) (h : Dec w g T a e f d v xs (own32 true hv c)) :
    Calls Try.prog 35 #[.pointer (some ⟨g, 0, none⟩), .int .u8 b] w fun en w' => en = .returned (.bool true) ∧ ∃ v', Dec w' g T a e f d v' (xs ++ [cat32 true hv c b]) (own32 true 0 0) ∧ Stp w g v w' v' := by
  have c5 : w.cell? ⟨g, 5, none⟩ = some (.bool true) := h.co 0
  have c6 : w.cell? ⟨g, 6, none⟩ = some (.int .i64 hv) := h.co 1
  have c7 : w.cell? ⟨g, 7, none⟩ = some (.int .u32 c) := h.co 2
  have f6 := h.fz 6
  have f7 := h.fz 7
  obtain ⟨hx0, hx1⟩ := cat_range true hv c b
  have hX : Go.bits .or .u32 (c * 256 % 4294967296) b = cat32 true hv c b := rfl
  generalize cat32 true hv c b = X at *
  have HX := Lib.hid hX
  have HF := Lib.hid hf
  clear hX hf
  subst h3
  have H := Lib.hid h
  clear h
  go_enter Try.func35, Try.ntmps35
  go_wp2_with fail
  rw [HX.out]
  have hfx := HF.out
  refine (fits_any X hx0 hx1 hv0 hv1 H.out).mono ?_
  rw [hfx]
  rintro en w' ⟨rfl, rfl⟩
  clear hfx
  go_wp2_with fail
  refine (dec_hold_one X (by simp [World.setCell]) hl ((H.out.set 2 _).set 1 _)).mono ?_
  rintro en w1 ⟨rfl, v1, hd1, hs1⟩
  have c61 : w1.cell? ⟨g, 6, none⟩ = some (.int .i64 4) := hd1.co 1
  have c71 : w1.cell? ⟨g, 7, none⟩ = some (.int .u32 X) := hd1.co 2
  have f61 := hd1.fz 6
  have f71 := hd1.fz 7
  have HD1 := Lib.hid hd1
  have HS1 := Lib.hid hs1
  clear hd1 hs1 c5 c6 c7 f6 f7
  go_wp2_with fail
  go_ret
  exact ⟨rfl, _, (HD1.out.set 1 _).set 2 _, ((Stp.mine (((Kp.refl _ _).setg _ _).setg _ _)).trans HS1.out).trans (Stp.mine (((Kp.refl _ _).setg _ _).setg _ _))⟩
theorem next_no_le (b : Int) (hb0 : 0 ≤ b) (hb1 : b ≤ 255) (hv0 : 0 ≤ hv) (hv1 : hv ≤ 3) (hc0 : 0 ≤ c) (hc1 : c ≤ 4294967295) (hl : xs.length + 1 ≤ 1073741824) (hf : fitsB false hv (cat32 false hv c b) = false) (h : Dec w g T a e f d v xs (own32 false hv c)) :
    Calls Try.prog 35 #[.pointer (some ⟨g, 0, none⟩), .int .u8 b] w fun en w' => en = .returned (.bool false) ∧ Dec w' g T a e f d v xs (own32 false hv c) ∧ Stp w g v w' v := by
  have c5 : w.cell? ⟨g, 5, none⟩ = some (.bool false) := h.co 0
  have c6 : w.cell? ⟨g, 6, none⟩ = some (.int .i64 hv) := h.co 1
  have c7 : w.cell? ⟨g, 7, none⟩ = some (.int .u32 c) := h.co 2
  have f6 := h.fz 6
  have f7 := h.fz 7
  obtain ⟨hx0, hx1⟩ := cat_range false hv c b
  have hX : Go.bits .or .u32 c (b * 2 ^ (8 * hv).toNat % 4294967296) = cat32 false hv c b := rfl
  generalize cat32 false hv c b = X at *
  have HX := Lib.hid hX
  have HF := Lib.hid hf
  clear hX hf
  have H := Lib.hid h
  clear h
  go_enter Try.func35, Try.ntmps35
  go_wp2_with fail
  go_quiet (fail)
  go_wp2_with fail
  rw [HX.out]
  have hfx := HF.out
  refine (fits_any X hx0 hx1 hv0 hv1 (H.out.drewN _)).mono ?_
  rw [hfx]
  rintro en w' ⟨rfl, rfl⟩
  clear hfx
  go_wp2_with fail
  go_ret
  exact ⟨rfl, H.out.drewN _, ⟨(Kp.refl _ _).drewN _, fun k hk => .inl hk⟩⟩
theorem next_on_le (b : Int) (hb0 : 0 ≤ b) (hb1 : b ≤ 255) (hv0 : 0 ≤ hv) (hv1 : hv ≤ 3) (hc0 : 0 ≤ c) (hc1 : c ≤ 4294967295) (hl : xs.length + 1 ≤ 1073741824) (hf : fitsB false hv (cat32 false hv c b) = true) (h3 : hv < 3) (h : Dec w g T a e f d v xs (own32 false hv c)) :
    Calls Try.prog 35 #[.pointer (some ⟨g, 0, none⟩), .int .u8 b] w fun en w' => en = .returned (.bool true) ∧ Dec w' g T a e f d v xs (own32 false (hv + 1) (cat32 false hv c b)) ∧ Stp w g v w' v := by
  have b4 : (hv + 1 == 4) = false := by simp; omega
  have c5 : w.cell? ⟨g, 5, none⟩ = some (.bool false) := h.co 0
  have c6 : w.cell? ⟨g, 6, none⟩ = some (.int .i64 hv) := h.co 1
  have c7 : w.cell? ⟨g, 7, none⟩ = some (.int .u32 c) := h.co 2
  have f6 := h.fz 6
  have f7 := h.fz 7
  obtain ⟨hx0, hx1⟩ := cat_range false hv c b
  have hX : Go.bits .or .u32 c (b * 2 ^ (8 * hv).toNat % 4294967296) = cat32 false hv c b := rfl
  generalize cat32 false hv c b = X at *
  have HX := Lib.hid hX
  have HF := Lib.hid hf
  clear hX hf
  have H := Lib.hid h
  clear h
  go_enter Try.func35, Try.ntmps35
  go_wp2_with fail
  go_quiet (fail)
  go_wp2_with fail
  rw [HX.out]
  have hfx := HF.out
  refine (fits_any X hx0 hx1 hv0 hv1 (H.out.drewN _)).mono ?_
  rw [hfx]
  rintro en w' ⟨rfl, rfl⟩
  clear hfx
  go_wp2_with fail
  go_ret
  exact ⟨rfl, ((H.out.drewN _).set 2 _).set 1 _, ⟨(Stp.mine ((((Kp.refl (fun k => k = g) w).drewN _).setg _ _).setg _ _)).kp, fun k hk => .inl hk⟩⟩
theorem next_all_le (b : Int) (hb0 : 0 ≤ b) (hb1 : b ≤ 255) (hv0 : 0 ≤ hv) (hv1 : hv ≤ 3) (hc0 : 0 ≤ c) (hc1 : c ≤ 4294967295) (hl : xs.length + 1 ≤ 1073741824) (hf : fitsB false hv (cat32 false hv c b) = true) (h3 : hv = 3) (h : Dec w g T a e f d v xs (own32 false hv c)) :
    Calls Try.prog 35 #[.pointer (some ⟨g, 0, none⟩), .int .u8 b] w fun en w' => en = .returned (.bool true) ∧ ∃ v', Dec w' g T a e f d v' (xs ++ [cat32 false hv c b]) (own32 false 0 0) ∧ Stp w g v w' v' := by
  have c5 : w.cell? ⟨g, 5, none⟩ = some (.bool false) := h.co 0
  have c6 : w.cell? ⟨g, 6, none⟩ = some (.int .i64 hv) := h.co 1
  have c7 : w.cell? ⟨g, 7, none⟩ = some (.int .u32 c) := h.co 2
  have f6 := h.fz 6
  have f7 := h.fz 7
  obtain ⟨hx0, hx1⟩ := cat_range false hv c b
  have hX : Go.bits .or .u32 c (b * 2 ^ (8 * hv).toNat % 4294967296) = cat32 false hv c b := rfl
  generalize cat32 false hv c b = X at *
  have HX := Lib.hid hX
  have HF := Lib.hid hf
  clear hX hf
  subst h3
  have e24 : b * 2 ^ ((8 * 3 : Int).toNat) % 4294967296 = b * 16777216 := by
    have : (2 : Int) ^ ((8 * 3 : Int).toNat) = 16777216 := by decide
    rw [this]; omega
  have HX := Lib.hid (e24 ▸ HX.out)
  clear e24
  have H := Lib.hid h
  clear h
  go_enter Try.func35, Try.ntmps35
  go_wp2_with fail
  go_quiet (fail)
  go_wp2_with fail
  rw [HX.out]
  have hfx := HF.out
  refine (fits_any X hx0 hx1 hv0 hv1 (H.out.drewN _)).mono ?_
  rw [hfx]
  rintro en w' ⟨rfl, rfl⟩
  clear hfx
  go_wp2_with fail
  refine (dec_hold_one X (by simp [World.setCell]) hl (((H.out.drewN _).set 2 _).set 1 _)).mono ?_
  rintro en w1 ⟨rfl, v1, hd1, hs1⟩
  have c61 : w1.cell? ⟨g, 6, none⟩ = some (.int .i64 4) := hd1.co 1
  have c71 : w1.cell? ⟨g, 7, none⟩ = some (.int .u32 X) := hd1.co 2
  have f61 := hd1.fz 6
  have f71 := hd1.fz 7
  have HD1 := Lib.hid hd1
  have HS1 := Lib.hid hs1
  clear hd1 hs1 c5 c6 c7 f6 f7
  go_wp2_with fail
  go_ret
  exact ⟨rfl, _, (HD1.out.set 1 _).set 2 _, ((Stp.mine ((((Kp.refl _ _).drewN _).setg _ _).setg _ _)).trans HS1.out).trans (Stp.mine (((Kp.refl _ _).setg _ _).setg _ _))⟩
/-! ### The machine's own state, and one byte -/
structure CS where
  big : Bool
  hv : Int
  c : Int
def cown (s : CS) : List Value := own32 s.big s.hv s.c
def cok (s : CS) : Prop := 0 ≤ s.hv ∧ s.hv ≤ 3 ∧ 0 ≤ s.c ∧ s.c ≤ 4294967295
def cnx (s : CS) (b : Int) : Option (CS × Option Int) :=
  if fitsB s.big s.hv (cat32 s.big s.hv s.c b) = true then some (if s.hv = 3 then (⟨s.big, 0, 0⟩, some (cat32 s.big s.hv s.c b)) else (⟨s.big, s.hv + 1, cat32 s.big s.hv s.c b⟩, none)) else none
/-- Does something wait, so that an end cuts it? -/
def ccut (s : CS) : Bool := decide (s.hv > 0)
theorem cnx_ok {s s' : CS} {b : Int} {r : Option Int} (hs : cok s) (h : cnx s b = some (s', r)) : cok s' := by
  obtain ⟨h1, h2, h3, h4⟩ := hs
  have hc := cat_range s.big s.hv s.c b
  unfold cnx at h
  split at h
  · split at h
    · simp only [Option.some.injEq, Prod.mk.injEq] at h
      obtain ⟨rfl, _⟩ := h
      exact ⟨by simp, by simp, by simp, by simp⟩
    · simp only [Option.some.injEq, Prod.mk.injEq] at h
      obtain ⟨rfl, _⟩ := h
      exact ⟨by simp; omega, by simp; omega, hc.1, hc.2⟩
  · cases h
theorem next_none (s : CS) (b : Int) (hs : cok s) (hb0 : 0 ≤ b) (hb1 : b ≤ 255) (hl : xs.length + 1 ≤ 1073741824) (hn : cnx s b = none) (h : Dec w g T a e f d v xs (cown s)) :
    Calls Try.prog 35 #[.pointer (some ⟨g, 0, none⟩), .int .u8 b] w fun en w' => en = .returned (.bool false) ∧ ∃ s' v', Dec w' g T a e f d v' xs (cown s') ∧ Stp w g v w' v' := by
  obtain ⟨big, hv, c⟩ := s
  obtain ⟨h1, h2, h3, h4⟩ := hs
  have hf : fitsB big hv (cat32 big hv c b) = false := by
    unfold cnx at hn
    split at hn
    · cases hn
    · rename_i hh; exact Bool.eq_false_iff.2 hh
  cases big with
  | true => exact (next_no_be b hb0 hb1 h1 h2 h3 h4 hl hf h).mono fun en w' ⟨he, hd, hst⟩ => ⟨he, ⟨true, hv, c⟩, _, hd, hst⟩
  | false => exact (next_no_le b hb0 hb1 h1 h2 h3 h4 hl hf h).mono fun en w' ⟨he, hd, hst⟩ => ⟨he, ⟨false, hv, c⟩, _, hd, hst⟩
theorem next_some (s s' : CS) (r : Option Int) (b : Int) (hs : cok s) (hb0 : 0 ≤ b) (hb1 : b ≤ 255) (hl : xs.length + 1 ≤ 1073741824) (hn : cnx s b = some (s', r)) (h : Dec w g T a e f d v xs (cown s)) :
    Calls Try.prog 35 #[.pointer (some ⟨g, 0, none⟩), .int .u8 b] w fun en w' => en = .returned (.bool true) ∧ ∃ v', Dec w' g T a e f d v' (xs ++ r.toList) (cown s') ∧ Stp w g v w' v' := by
  obtain ⟨big, hv, c⟩ := s
  obtain ⟨h1, h2, h3, h4⟩ := hs
  unfold cnx at hn
  split at hn
  · rename_i hf
    split at hn
    · rename_i h33
      simp only [Option.some.injEq, Prod.mk.injEq] at hn
      obtain ⟨rfl, rfl⟩ := hn
      cases big with
      | true => exact next_all_be b hb0 hb1 h1 h2 h3 h4 hl hf h33 h
      | false => exact next_all_le b hb0 hb1 h1 h2 h3 h4 hl hf h33 h
    · rename_i h33
      simp only [Option.some.injEq, Prod.mk.injEq] at hn
      obtain ⟨rfl, rfl⟩ := hn
      have hlt : hv < 3 := by simp only at h2 h33; omega
      simp only [Option.toList, List.append_nil]
      cases big with
      | true => exact (next_on_be b hb0 hb1 h1 h2 h3 h4 hl hf hlt h).mono fun en w' ⟨he, hd, hst⟩ => ⟨he, _, hd, hst⟩
      | false => exact (next_on_le b hb0 hb1 h1 h2 h3 h4 hl hf hlt h).mono fun en w' ⟨he, hd, hst⟩ => ⟨he, _, hd, hst⟩
  · cases hn
end
end Go.Proofs.Ythfilfklhdpbeaa
