/- UTF-16's machine, byte by byte: the contracts of scalar.Is, fits, next. -/
import Derived.Test.YtjddbdhpdenaeaaDec
import Derived.OpenShut
import Derived.Lib.EndianBits
import Derived.Deep.RegionHeld3
namespace Go.Proofs.Ytjddbdhpdenaeaa
open Go.RowKit Go.Proofs.YtjddbdhpdenaeaaW.PrintWords Go.Proofs.YtjddbdhpdenaeaaW.PrintMore
set_option linter.unusedVariables false
set_option linter.unusedSimpArgs false
def isB (c : Int) : Bool := decide (c ≤ 1114111) && (decide (c < 55296) || decide (57343 < c))
theorem is_any (c : Int) (w : World) : Calls Try.prog 43 #[.int .u32 c] w fun en w' => en = .returned (.bool (isB c)) ∧ w = w' := by
  by_cases h1 : c ≤ 1114111
  · by_cases h2 : c < 55296
    · have e : isB c = true := by simp [isB, h1, h2]
      rw [e]
      go_enter Try.func43, Try.ntmps43
      go_wp2
      go_ret
      exact ⟨rfl, rfl⟩
    · by_cases h3 : 57343 < c
      · have e : isB c = true := by simp [isB, h1, h3]
        rw [e]
        go_enter Try.func43, Try.ntmps43
        go_wp2
        go_ret
        exact ⟨rfl, rfl⟩
      · have e : isB c = false := by simp [isB, h2, h3]
        rw [e]
        go_enter Try.func43, Try.ntmps43
        go_wp2
        go_ret
        exact ⟨rfl, rfl⟩
  · have e : isB c = false := by simp [isB, h1]
    rw [e]
    go_enter Try.func43, Try.ntmps43
    go_wp2
    go_ret
    exact ⟨rfl, rfl⟩
section
variable {w : World} {g T : Nat} {a e f : Int} {d : Bool} {v : Value} {xs : List Int} {big half : Bool} {b0 up : Int}
abbrev own16 (big half : Bool) (b0 up : Int) : List Value := [.bool big, .bool half, .int .u8 b0, .int .u32 up]
/-- Is it the second unit of two? -/
def isLow (u : Int) : Bool := decide (56320 ≤ u) && decide (u < 57344)
/-- May a unit come now? -/
def fitsU (up u : Int) : Bool := isLow u == (up != 0)
theorem fits_any (u : Int) (hx0 : 0 ≤ u) (hx1 : u ≤ 4294967295) (h : Dec w g T a e f d v xs (own16 big half b0 up)) :
    Calls Try.prog 48 #[.pointer (some ⟨g, 0, none⟩), .int .u32 u] w fun en w' => en = .returned (.bool (fitsU up u)) ∧ w = w' := by
  have c8 : w.cell? ⟨g, 8, none⟩ = some (.int .u32 up) := h.co 3
  clear h
  by_cases h1 : 56320 ≤ u
  · by_cases h2 : u < 57344
    · have e : isLow u = true := by simp [isLow, h1, h2]
      rw [fitsU, e]
      go_enter Try.func48, Try.ntmps48
      go_wp2
      go_ret
      exact ⟨by cases hup : (up != 0) <;> simp [hup], rfl⟩
    · have e : isLow u = false := by simp [isLow, h2]
      rw [fitsU, e]
      go_enter Try.func48, Try.ntmps48
      go_wp2
      go_ret
      exact ⟨by cases hup : (up != 0) <;> simp [hup], rfl⟩
  · have e : isLow u = false := by simp [isLow, h1]
    rw [fitsU, e]
    go_enter Try.func48, Try.ntmps48
    go_wp2
    go_ret
    exact ⟨by cases hup : (up != 0) <;> simp [hup], rfl⟩
/-- The unit that two bytes are. -/
def unitB (big : Bool) (x y : Int) : Int := if big then x * 256 + y else x + y * 256
theorem unit_range (big : Bool) (x y : Int) (hx0 : 0 ≤ x) (hx1 : x ≤ 255) (hy0 : 0 ≤ y) (hy1 : y ≤ 255) : 0 ≤ unitB big x y ∧ unitB big x y ≤ 65535 := by unfold unitB; split <;> omega
theorem or_le (x y : Int) (hx0 : 0 ≤ x) (hx1 : x ≤ 255) (hy0 : 0 ≤ y) (hy1 : y ≤ 255) : Go.bits .or .u32 x (y * 256) = unitB false x y :=
  ((u32_or8 _ _ hx0 (by omega) (by omega) (by omega) (by omega)).trans rfl)
theorem or_be (x y : Int) (hx0 : 0 ≤ x) (hx1 : x ≤ 255) (hy0 : 0 ≤ y) (hy1 : y ≤ 255) : Go.bits .or .u32 (x * 256) y = unitB true x y := by
  have h := u32_or (x * 256) y (by omega) (by omega) hy0 (by omega)
  have h2 := u32_or y (x * 256) hy0 (by omega) (by omega) (by omega)
  rw [h, Nat.or_comm, ← h2, u32_or8 _ _ hy0 (by omega) (by omega) (by omega) (by omega)]
  show y + x * 256 = x * 256 + y
  omega
/-- The first byte of a unit is eaten. -/
theorem next_first_no (b : Int) (hb0 : 0 ≤ b) (hb1 : b ≤ 255) (hf : fitsU up (b * 256) = false) (h : Dec w g T a e f d v xs (own16 true false b0 up)) :
    Calls Try.prog 38 #[.pointer (some ⟨g, 0, none⟩), .int .u8 b] w fun en w' => en = .returned (.bool false) ∧ Dec w' g T a e f d v xs (own16 true false b up) ∧ Stp w g v w' v := by
  have c5 : w.cell? ⟨g, 5, none⟩ = some (.bool true) := h.co 0
  have c6 : w.cell? ⟨g, 6, none⟩ = some (.bool false) := h.co 1
  have c7 : w.cell? ⟨g, 7, none⟩ = some (.int .u8 b0) := h.co 2
  have f6 := h.fz 6
  have f7 := h.fz 7
  have H := Lib.hid h
  have HF := Lib.hid hf
  clear h hf
  go_enter Try.func38, Try.ntmps38
  go_wp2_with fail
  have hfx := HF.out
  refine (fits_any (b * 256) (by omega) (by omega) ((H.out.set 2 _).set 1 _)).mono ?_
  rw [hfx]
  rintro en w' ⟨rfl, rfl⟩
  clear hfx
  go_wp2_with fail
  go_ret
  exact ⟨rfl, ((H.out.set 2 _).set 1 _).set 1 _, Stp.mine ((((Kp.refl _ _).setg _ _).setg _ _).setg _ _)⟩
theorem next_first_be (b : Int) (hb0 : 0 ≤ b) (hb1 : b ≤ 255) (hf : fitsU up (b * 256) = true) (h : Dec w g T a e f d v xs (own16 true false b0 up)) :
    Calls Try.prog 38 #[.pointer (some ⟨g, 0, none⟩), .int .u8 b] w fun en w' => en = .returned (.bool true) ∧ Dec w' g T a e f d v xs (own16 true true b up) ∧ Stp w g v w' v := by
  have c5 : w.cell? ⟨g, 5, none⟩ = some (.bool true) := h.co 0
  have c6 : w.cell? ⟨g, 6, none⟩ = some (.bool false) := h.co 1
  have c7 : w.cell? ⟨g, 7, none⟩ = some (.int .u8 b0) := h.co 2
  have f6 := h.fz 6
  have f7 := h.fz 7
  have H := Lib.hid h
  have HF := Lib.hid hf
  clear h hf
  go_enter Try.func38, Try.ntmps38
  go_wp2_with fail
  have hfx := HF.out
  refine (fits_any (b * 256) (by omega) (by omega) ((H.out.set 2 _).set 1 _)).mono ?_
  rw [hfx]
  rintro en w' ⟨rfl, rfl⟩
  clear hfx
  go_wp2_with fail
  go_ret
  exact ⟨rfl, (H.out.set 2 _).set 1 _, Stp.mine (((Kp.refl _ _).setg _ _).setg _ _)⟩
theorem next_first_le (b : Int) (hb0 : 0 ≤ b) (hb1 : b ≤ 255) (h : Dec w g T a e f d v xs (own16 false false b0 up)) :
    Calls Try.prog 38 #[.pointer (some ⟨g, 0, none⟩), .int .u8 b] w fun en w' => en = .returned (.bool true) ∧ Dec w' g T a e f d v xs (own16 false true b up) ∧ Stp w g v w' v := by
  have c5 : w.cell? ⟨g, 5, none⟩ = some (.bool false) := h.co 0
  have c6 : w.cell? ⟨g, 6, none⟩ = some (.bool false) := h.co 1
  have c7 : w.cell? ⟨g, 7, none⟩ = some (.int .u8 b0) := h.co 2
  have f6 := h.fz 6
  have f7 := h.fz 7
  have H := Lib.hid h
  clear h
  go_enter Try.func38, Try.ntmps38
  go_wp2_with fail
  go_ret
  exact ⟨rfl, (H.out.set 2 _).set 1 _, Stp.mine (((Kp.refl _ _).setg _ _).setg _ _)⟩
/-! ### The second byte of a unit -/
/-- The scalar that two units are. -/
def pairB (up u : Int) : Int := 65536 + (up - 55296) * 1024 + (u - 56320)
theorem wrapU {x : Int} (h0 : 0 ≤ x) (h1 : x ≤ 4294967295) : IntKind.u32.wrap x = x := by
  simp only [IntKind.wrap, IntKind.bits, IntKind.signed]
  have : x % 2 ^ 32 = x := Int.emod_eq_of_lt h0 (by omega)
  simp only [this]
  simp
theorem next2_no_be (b : Int) (h00 : 0 ≤ b0) (h01 : b0 ≤ 255) (hb0 : 0 ≤ b) (hb1 : b ≤ 255) (hl : xs.length + 1 ≤ 1073741824) (hf : fitsU up (unitB true b0 b) = false) (h : Dec w g T a e f d v xs (own16 true true b0 up)) :
    Calls Try.prog 38 #[.pointer (some ⟨g, 0, none⟩), .int .u8 b] w fun en w' => en = .returned (.bool false) ∧ Dec w' g T a e f d v xs (own16 true true b0 up) ∧ Stp w g v w' v := by
  have c5 : w.cell? ⟨g, 5, none⟩ = some (.bool true) := h.co 0
  have c6 : w.cell? ⟨g, 6, none⟩ = some (.bool true) := h.co 1
  have c7 : w.cell? ⟨g, 7, none⟩ = some (.int .u8 b0) := h.co 2
  have c8 : w.cell? ⟨g, 8, none⟩ = some (.int .u32 up) := h.co 3
  have f6 := h.fz 6
  have f7 := h.fz 7
  have f8 := h.fz 8
  obtain ⟨hx0, hx1⟩ := unit_range true b0 b h00 h01 hb0 hb1
  have hor := or_be b0 b h00 h01 hb0 hb1
  generalize hU : unitB true b0 b = u at *
  have HF := Lib.hid hf
  clear hf hU
  have H := Lib.hid h
  clear h
  go_enter Try.func38, Try.ntmps38
  go_wp2_with fail
  have hfx := HF.out
  refine (fits_any u (by omega) (by omega) H.out).mono ?_
  rw [hfx]
  rintro en w' ⟨rfl, rfl⟩
  clear hfx
  go_wp2_with fail
  go_ret
  exact ⟨rfl, H.out, Stp.refl _ _ _⟩
theorem next2_up_be (b : Int) (h00 : 0 ≤ b0) (h01 : b0 ≤ 255) (hb0 : 0 ≤ b) (hb1 : b ≤ 255) (hl : xs.length + 1 ≤ 1073741824) (hf : fitsU up (unitB true b0 b) = true) (hup : up = 0) (hu : 55296 ≤ unitB true b0 b ∧ unitB true b0 b < 56320) (h : Dec w g T a e f d v xs (own16 true true b0 up)) :
    Calls Try.prog 38 #[.pointer (some ⟨g, 0, none⟩), .int .u8 b] w fun en w' => en = .returned (.bool true) ∧ Dec w' g T a e f d v xs (own16 true false b0 (unitB true b0 b)) ∧ Stp w g v w' v := by
  subst hup
  obtain ⟨hu0, hu1⟩ := hu
  have c5 : w.cell? ⟨g, 5, none⟩ = some (.bool true) := h.co 0
  have c6 : w.cell? ⟨g, 6, none⟩ = some (.bool true) := h.co 1
  have c7 : w.cell? ⟨g, 7, none⟩ = some (.int .u8 b0) := h.co 2
  have c8 : w.cell? ⟨g, 8, none⟩ = some (.int .u32 0) := h.co 3
  have f6 := h.fz 6
  have f7 := h.fz 7
  have f8 := h.fz 8
  obtain ⟨hx0, hx1⟩ := unit_range true b0 b h00 h01 hb0 hb1
  have hor := or_be b0 b h00 h01 hb0 hb1
  generalize hU : unitB true b0 b = u at *
  have HF := Lib.hid hf
  clear hf hU
  have H := Lib.hid h
  clear h
  go_enter Try.func38, Try.ntmps38
  go_wp2_with fail
  have hfx := HF.out
  refine (fits_any u (by omega) (by omega) H.out).mono ?_
  rw [hfx]
  rintro en w' ⟨rfl, rfl⟩
  clear hfx
  go_wp2_with fail
  go_ret
  exact ⟨rfl, (H.out.set 1 _).set 3 _, Stp.mine (((Kp.refl _ _).setg _ _).setg _ _)⟩
theorem next2_one_be (b : Int) (h00 : 0 ≤ b0) (h01 : b0 ≤ 255) (hb0 : 0 ≤ b) (hb1 : b ≤ 255) (hl : xs.length + 1 ≤ 1073741824) (hf : fitsU up (unitB true b0 b) = true) (hup : up = 0) (hu : unitB true b0 b < 55296 ∨ 56320 ≤ unitB true b0 b) (h : Dec w g T a e f d v xs (own16 true true b0 up)) :
    Calls Try.prog 38 #[.pointer (some ⟨g, 0, none⟩), .int .u8 b] w fun en w' => en = .returned (.bool true) ∧ ∃ v', Dec w' g T a e f d v' (xs ++ [unitB true b0 b]) (own16 true false b0 0) ∧ Stp w g v w' v' := by
  subst hup
  have c5 : w.cell? ⟨g, 5, none⟩ = some (.bool true) := h.co 0
  have c6 : w.cell? ⟨g, 6, none⟩ = some (.bool true) := h.co 1
  have c7 : w.cell? ⟨g, 7, none⟩ = some (.int .u8 b0) := h.co 2
  have c8 : w.cell? ⟨g, 8, none⟩ = some (.int .u32 0) := h.co 3
  have f6 := h.fz 6
  have f7 := h.fz 7
  have f8 := h.fz 8
  obtain ⟨hx0, hx1⟩ := unit_range true b0 b h00 h01 hb0 hb1
  have hor := or_be b0 b h00 h01 hb0 hb1
  generalize hU : unitB true b0 b = u at *
  have HF := Lib.hid hf
  clear hf hU
  have H := Lib.hid h
  clear h
  have HUD := Lib.hid hu
  clear hu
  go_enter Try.func38, Try.ntmps38
  go_wp2_with fail
  have hfx := HF.out
  refine (fits_any u (by omega) (by omega) H.out).mono ?_
  rw [hfx]
  rintro en w' ⟨rfl, rfl⟩
  clear hfx
  rcases HUD.out with hlt | hge
  · have hd1 : decide ((55296 : Int) ≤ u) = false := decide_eq_false (by omega)
    have HLT := Lib.hid hlt
    clear hlt
    go_wp2_with fail
    refine (dec_hold_one u (by simp [World.setCell]) hl (H.out.set 1 _)).mono ?_
    rintro en w1 ⟨rfl, v1, hd1', hs1⟩
    have HD1 := Lib.hid hd1'
    have HS1 := Lib.hid hs1
    clear hd1' hs1
    go_wp2_with fail
    go_ret
    exact ⟨rfl, _, HD1.out, (Stp.mine ((Kp.refl _ _).setg _ _)).trans HS1.out⟩
  · have hd1 : decide ((55296 : Int) ≤ u) = true := decide_eq_true (by omega)
    have hd2 : decide (u < (56320 : Int)) = false := decide_eq_false (by omega)
    have HGE := Lib.hid hge
    clear hge
    go_wp2_with fail
    refine (dec_hold_one u (by simp [World.setCell]) hl (H.out.set 1 _)).mono ?_
    rintro en w1 ⟨rfl, v1, hd1', hs1⟩
    have HD1 := Lib.hid hd1'
    have HS1 := Lib.hid hs1
    clear hd1' hs1
    go_wp2_with fail
    go_ret
    exact ⟨rfl, _, HD1.out, (Stp.mine ((Kp.refl _ _).setg _ _)).trans HS1.out⟩
theorem next2_pair_be (b : Int) (h00 : 0 ≤ b0) (h01 : b0 ≤ 255) (hb0 : 0 ≤ b) (hb1 : b ≤ 255) (hl : xs.length + 1 ≤ 1073741824) (hf : fitsU up (unitB true b0 b) = true) (hup : 55296 ≤ up ∧ up < 56320) (hu : 56320 ≤ unitB true b0 b ∧ unitB true b0 b < 57344) (h : Dec w g T a e f d v xs (own16 true true b0 up)) :
    Calls Try.prog 38 #[.pointer (some ⟨g, 0, none⟩), .int .u8 b] w fun en w' => en = .returned (.bool true) ∧ ∃ v', Dec w' g T a e f d v' (xs ++ [pairB up (unitB true b0 b)]) (own16 true false b0 0) ∧ Stp w g v w' v' := by
  have c5 : w.cell? ⟨g, 5, none⟩ = some (.bool true) := h.co 0
  have c6 : w.cell? ⟨g, 6, none⟩ = some (.bool true) := h.co 1
  have c7 : w.cell? ⟨g, 7, none⟩ = some (.int .u8 b0) := h.co 2
  have c8 : w.cell? ⟨g, 8, none⟩ = some (.int .u32 up) := h.co 3
  have f6 := h.fz 6
  have f7 := h.fz 7
  have f8 := h.fz 8
  obtain ⟨hx0, hx1⟩ := unit_range true b0 b h00 h01 hb0 hb1
  have hor := or_be b0 b h00 h01 hb0 hb1
  generalize hU : unitB true b0 b = u at *
  have HF := Lib.hid hf
  clear hf hU
  have H := Lib.hid h
  clear h
  have hn0 : (up != 0) = true := by simp; omega
  obtain ⟨hup0, hup1⟩ := hup
  obtain ⟨hu0, hu1⟩ := hu
  go_enter Try.func38, Try.ntmps38
  go_wp2_with fail
  have hfx := HF.out
  refine (fits_any u (by omega) (by omega) H.out).mono ?_
  rw [hfx]
  rintro en w' ⟨rfl, rfl⟩
  clear hfx
  go_wp2_with fail
  have c88 : (w.setCell ⟨g, 6, none⟩ (.bool false)).drew.cell? ⟨g, 8, none⟩ = some (.int .u32 up) := (H.out.set 1 _).co 3
  have HDD := Lib.hid ((H.out.set 1 (.bool false)).drew)
  have hgl := H.out.lt
  have HWO := Lib.hid ((H.out.set 1 (.bool false)))
  have hw1 : IntKind.u32.wrap (up - 55296) = up - 55296 := wrapU (by omega) (by omega)
  have hw2 : IntKind.u32.wrap ((up - 55296) * 1024) = (up - 55296) * 1024 := wrapU (by omega) (by omega)
  have hw3 : IntKind.u32.wrap (65536 + (up - 55296) * 1024) = 65536 + (up - 55296) * 1024 := wrapU (by omega) (by omega)
  have hw4 : IntKind.u32.wrap (u - 56320) = u - 56320 := wrapU (by omega) (by omega)
  have hw5 : IntKind.u32.wrap (65536 + (up - 55296) * 1024 + (u - 56320)) = pairB up u := (wrapU (by omega) (by omega)).trans rfl
  have cA : ((w.setCell ⟨g, 6, none⟩ (.bool false)).alloc (.cells #[.int .u32 (pairB up u)] 44)).drew.cell? ⟨g, 8, none⟩ = some (.int .u32 up) := ((HWO.out.below (below_alloc (Below.refl _ _) (.cells #[.int .u32 (pairB up u)] 44))).drew).co 3
  have HDA : Hid (Dec ((w.setCell ⟨g, 6, none⟩ (.bool false)).alloc (.cells #[.int .u32 (pairB up u)] 44)).drew g T a e f d v xs ((own16 true true b0 up).set 1 (.bool false))) := Lib.hid ((HWO.out.below (below_alloc (Below.refl _ _) (.cells #[.int .u32 (pairB up u)] 44))).drew)
  have hsz : (w.setCell ⟨g, 6, none⟩ (.bool false)).heap.size = w.heap.size := by simp [World.setCell]
  have hrd : ReadsInt ((w.setCell ⟨g, 6, none⟩ (.bool false)).alloc (.cells #[.int .u32 (pairB up u)] 44)).drew .u32 (some ⟨w.heap.size, 0, none⟩) 1 [pairB up u] := by
    have h9 := box_reads (w.setCell ⟨g, 6, none⟩ (.bool false)) (pairB up u)
    rw [hsz] at h9
    exact h9
  have HRD := Lib.hid hrd
  clear hrd hsz
  go_region_held3 (fun w' => w'.cell? ⟨g, 8, none⟩ = some (.int .u32 up)) (first | assumption | go_keep) (first
    | (go_at_call 49; refine (dec_hold (m := 1) (ys := [pairB up u]) HRD.out hl HDA.out).mono ?_; rintro e w3 ⟨rfl, v1, hd3, hs3⟩; have HD3 := Lib.hid hd3; have HS3 := Lib.hid hs3; have c83 : w3.cell? ⟨g, 8, none⟩ = some (.int .u32 up) := hd3.co 3; have f83 := hd3.fz 8; clear hd3 hs3)
    | (fail))
  clear c5 c6 c7 c8 f6 f7 f8 c88 cA
  go_wp2_with fail
  go_ret
  have h1 : Stp w g v (w.setCell ⟨g, 6, none⟩ (.bool false)) v := Stp.mine ((Kp.refl _ _).setg _ _)
  have h2 : Stp w g v ((w.setCell ⟨g, 6, none⟩ (.bool false)).alloc (.cells #[.int .u32 (pairB up u)] 44)).drew v := h1.below ((((Kp.refl (fun _ => False) _).alloc _).drew).below (Nat.le_refl _) (fun _ h => h.elim))
  exact ⟨rfl, _, HD3.out.set 3 _, (h2.trans HS3.out).trans (Stp.mine ((Kp.refl _ _).setg _ _))⟩
theorem next2_no_le (b : Int) (h00 : 0 ≤ b0) (h01 : b0 ≤ 255) (hb0 : 0 ≤ b) (hb1 : b ≤ 255) (hl : xs.length + 1 ≤ 1073741824) (hf : fitsU up (unitB false b0 b) = false) (h : Dec w g T a e f d v xs (own16 false true b0 up)) :
    Calls Try.prog 38 #[.pointer (some ⟨g, 0, none⟩), .int .u8 b] w fun en w' => en = .returned (.bool false) ∧ Dec w' g T a e f d v xs (own16 false true b0 up) ∧ Stp w g v w' v := by
  have c5 : w.cell? ⟨g, 5, none⟩ = some (.bool false) := h.co 0
  have c6 : w.cell? ⟨g, 6, none⟩ = some (.bool true) := h.co 1
  have c7 : w.cell? ⟨g, 7, none⟩ = some (.int .u8 b0) := h.co 2
  have c8 : w.cell? ⟨g, 8, none⟩ = some (.int .u32 up) := h.co 3
  have f6 := h.fz 6
  have f7 := h.fz 7
  have f8 := h.fz 8
  obtain ⟨hx0, hx1⟩ := unit_range false b0 b h00 h01 hb0 hb1
  have hor := or_le b0 b h00 h01 hb0 hb1
  generalize hU : unitB false b0 b = u at *
  have HF := Lib.hid hf
  clear hf hU
  have H := Lib.hid h
  clear h
  go_enter Try.func38, Try.ntmps38
  go_wp2_with fail
  have hfx := HF.out
  refine (fits_any u (by omega) (by omega) H.out).mono ?_
  rw [hfx]
  rintro en w' ⟨rfl, rfl⟩
  clear hfx
  go_wp2_with fail
  go_ret
  exact ⟨rfl, H.out, Stp.refl _ _ _⟩
theorem next2_up_le (b : Int) (h00 : 0 ≤ b0) (h01 : b0 ≤ 255) (hb0 : 0 ≤ b) (hb1 : b ≤ 255) (hl : xs.length + 1 ≤ 1073741824) (hf : fitsU up (unitB false b0 b) = true) (hup : up = 0) (hu : 55296 ≤ unitB false b0 b ∧ unitB false b0 b < 56320) (h : Dec w g T a e f d v xs (own16 false true b0 up)) :
    Calls Try.prog 38 #[.pointer (some ⟨g, 0, none⟩), .int .u8 b] w fun en w' => en = .returned (.bool true) ∧ Dec w' g T a e f d v xs (own16 false false b0 (unitB false b0 b)) ∧ Stp w g v w' v := by
  subst hup
  obtain ⟨hu0, hu1⟩ := hu
  have c5 : w.cell? ⟨g, 5, none⟩ = some (.bool false) := h.co 0
  have c6 : w.cell? ⟨g, 6, none⟩ = some (.bool true) := h.co 1
  have c7 : w.cell? ⟨g, 7, none⟩ = some (.int .u8 b0) := h.co 2
  have c8 : w.cell? ⟨g, 8, none⟩ = some (.int .u32 0) := h.co 3
  have f6 := h.fz 6
  have f7 := h.fz 7
  have f8 := h.fz 8
  obtain ⟨hx0, hx1⟩ := unit_range false b0 b h00 h01 hb0 hb1
  have hor := or_le b0 b h00 h01 hb0 hb1
  generalize hU : unitB false b0 b = u at *
  have HF := Lib.hid hf
  clear hf hU
  have H := Lib.hid h
  clear h
  go_enter Try.func38, Try.ntmps38
  go_wp2_with fail
  have hfx := HF.out
  refine (fits_any u (by omega) (by omega) H.out).mono ?_
  rw [hfx]
  rintro en w' ⟨rfl, rfl⟩
  clear hfx
  go_wp2_with fail
  go_ret
  exact ⟨rfl, (H.out.set 1 _).set 3 _, Stp.mine (((Kp.refl _ _).setg _ _).setg _ _)⟩
theorem next2_one_le (b : Int) (h00 : 0 ≤ b0) (h01 : b0 ≤ 255) (hb0 : 0 ≤ b) (hb1 : b ≤ 255) (hl : xs.length + 1 ≤ 1073741824) (hf : fitsU up (unitB false b0 b) = true) (hup : up = 0) (hu : unitB false b0 b < 55296 ∨ 56320 ≤ unitB false b0 b) (h : Dec w g T a e f d v xs (own16 false true b0 up)) :
    Calls Try.prog 38 #[.pointer (some ⟨g, 0, none⟩), .int .u8 b] w fun en w' => en = .returned (.bool true) ∧ ∃ v', Dec w' g T a e f d v' (xs ++ [unitB false b0 b]) (own16 false false b0 0) ∧ Stp w g v w' v' := by
  subst hup
  have c5 : w.cell? ⟨g, 5, none⟩ = some (.bool false) := h.co 0
  have c6 : w.cell? ⟨g, 6, none⟩ = some (.bool true) := h.co 1
  have c7 : w.cell? ⟨g, 7, none⟩ = some (.int .u8 b0) := h.co 2
  have c8 : w.cell? ⟨g, 8, none⟩ = some (.int .u32 0) := h.co 3
  have f6 := h.fz 6
  have f7 := h.fz 7
  have f8 := h.fz 8
  obtain ⟨hx0, hx1⟩ := unit_range false b0 b h00 h01 hb0 hb1
  have hor := or_le b0 b h00 h01 hb0 hb1
  generalize hU : unitB false b0 b = u at *
  have HF := Lib.hid hf
  clear hf hU
  have H := Lib.hid h
  clear h
  have HUD := Lib.hid hu
  clear hu
  go_enter Try.func38, Try.ntmps38
  go_wp2_with fail
  have hfx := HF.out
  refine (fits_any u (by omega) (by omega) H.out).mono ?_
  rw [hfx]
  rintro en w' ⟨rfl, rfl⟩
  clear hfx
  rcases HUD.out with hlt | hge
  · have hd1 : decide ((55296 : Int) ≤ u) = false := decide_eq_false (by omega)
    have HLT := Lib.hid hlt
    clear hlt
    go_wp2_with fail
    refine (dec_hold_one u (by simp [World.setCell]) hl (H.out.set 1 _)).mono ?_
    rintro en w1 ⟨rfl, v1, hd1', hs1⟩
    have HD1 := Lib.hid hd1'
    have HS1 := Lib.hid hs1
    clear hd1' hs1
    go_wp2_with fail
    go_ret
    exact ⟨rfl, _, HD1.out, (Stp.mine ((Kp.refl _ _).setg _ _)).trans HS1.out⟩
  · have hd1 : decide ((55296 : Int) ≤ u) = true := decide_eq_true (by omega)
    have hd2 : decide (u < (56320 : Int)) = false := decide_eq_false (by omega)
    have HGE := Lib.hid hge
    clear hge
    go_wp2_with fail
    refine (dec_hold_one u (by simp [World.setCell]) hl (H.out.set 1 _)).mono ?_
    rintro en w1 ⟨rfl, v1, hd1', hs1⟩
    have HD1 := Lib.hid hd1'
    have HS1 := Lib.hid hs1
    clear hd1' hs1
    go_wp2_with fail
    go_ret
    exact ⟨rfl, _, HD1.out, (Stp.mine ((Kp.refl _ _).setg _ _)).trans HS1.out⟩
theorem next2_pair_le (b : Int) (h00 : 0 ≤ b0) (h01 : b0 ≤ 255) (hb0 : 0 ≤ b) (hb1 : b ≤ 255) (hl : xs.length + 1 ≤ 1073741824) (hf : fitsU up (unitB false b0 b) = true) (hup : 55296 ≤ up ∧ up < 56320) (hu : 56320 ≤ unitB false b0 b ∧ unitB false b0 b < 57344) (h : Dec w g T a e f d v xs (own16 false true b0 up)) :
    Calls Try.prog 38 #[.pointer (some ⟨g, 0, none⟩), .int .u8 b] w fun en w' => en = .returned (.bool true) ∧ ∃ v', Dec w' g T a e f d v' (xs ++ [pairB up (unitB false b0 b)]) (own16 false false b0 0) ∧ Stp w g v w' v' := by
  have c5 : w.cell? ⟨g, 5, none⟩ = some (.bool false) := h.co 0
  have c6 : w.cell? ⟨g, 6, none⟩ = some (.bool true) := h.co 1
  have c7 : w.cell? ⟨g, 7, none⟩ = some (.int .u8 b0) := h.co 2
  have c8 : w.cell? ⟨g, 8, none⟩ = some (.int .u32 up) := h.co 3
  have f6 := h.fz 6
  have f7 := h.fz 7
  have f8 := h.fz 8
  obtain ⟨hx0, hx1⟩ := unit_range false b0 b h00 h01 hb0 hb1
  have hor := or_le b0 b h00 h01 hb0 hb1
  generalize hU : unitB false b0 b = u at *
  have HF := Lib.hid hf
  clear hf hU
  have H := Lib.hid h
  clear h
  have hn0 : (up != 0) = true := by simp; omega
  obtain ⟨hup0, hup1⟩ := hup
  obtain ⟨hu0, hu1⟩ := hu
  go_enter Try.func38, Try.ntmps38
  go_wp2_with fail
  have hfx := HF.out
  refine (fits_any u (by omega) (by omega) H.out).mono ?_
  rw [hfx]
  rintro en w' ⟨rfl, rfl⟩
  clear hfx
  go_wp2_with fail
  have c88 : (w.setCell ⟨g, 6, none⟩ (.bool false)).drew.cell? ⟨g, 8, none⟩ = some (.int .u32 up) := (H.out.set 1 _).co 3
  have HDD := Lib.hid ((H.out.set 1 (.bool false)).drew)
  have hgl := H.out.lt
  have HWO := Lib.hid ((H.out.set 1 (.bool false)))
  have hw1 : IntKind.u32.wrap (up - 55296) = up - 55296 := wrapU (by omega) (by omega)
  have hw2 : IntKind.u32.wrap ((up - 55296) * 1024) = (up - 55296) * 1024 := wrapU (by omega) (by omega)
  have hw3 : IntKind.u32.wrap (65536 + (up - 55296) * 1024) = 65536 + (up - 55296) * 1024 := wrapU (by omega) (by omega)
  have hw4 : IntKind.u32.wrap (u - 56320) = u - 56320 := wrapU (by omega) (by omega)
  have hw5 : IntKind.u32.wrap (65536 + (up - 55296) * 1024 + (u - 56320)) = pairB up u := (wrapU (by omega) (by omega)).trans rfl
  have cA : ((w.setCell ⟨g, 6, none⟩ (.bool false)).alloc (.cells #[.int .u32 (pairB up u)] 44)).drew.cell? ⟨g, 8, none⟩ = some (.int .u32 up) := ((HWO.out.below (below_alloc (Below.refl _ _) (.cells #[.int .u32 (pairB up u)] 44))).drew).co 3
  have HDA : Hid (Dec ((w.setCell ⟨g, 6, none⟩ (.bool false)).alloc (.cells #[.int .u32 (pairB up u)] 44)).drew g T a e f d v xs ((own16 false true b0 up).set 1 (.bool false))) := Lib.hid ((HWO.out.below (below_alloc (Below.refl _ _) (.cells #[.int .u32 (pairB up u)] 44))).drew)
  have hsz : (w.setCell ⟨g, 6, none⟩ (.bool false)).heap.size = w.heap.size := by simp [World.setCell]
  have hrd : ReadsInt ((w.setCell ⟨g, 6, none⟩ (.bool false)).alloc (.cells #[.int .u32 (pairB up u)] 44)).drew .u32 (some ⟨w.heap.size, 0, none⟩) 1 [pairB up u] := by
    have h9 := box_reads (w.setCell ⟨g, 6, none⟩ (.bool false)) (pairB up u)
    rw [hsz] at h9
    exact h9
  have HRD := Lib.hid hrd
  clear hrd hsz
  go_region_held3 (fun w' => w'.cell? ⟨g, 8, none⟩ = some (.int .u32 up)) (first | assumption | go_keep) (first
    | (go_at_call 49; refine (dec_hold (m := 1) (ys := [pairB up u]) HRD.out hl HDA.out).mono ?_; rintro e w3 ⟨rfl, v1, hd3, hs3⟩; have HD3 := Lib.hid hd3; have HS3 := Lib.hid hs3; have c83 : w3.cell? ⟨g, 8, none⟩ = some (.int .u32 up) := hd3.co 3; have f83 := hd3.fz 8; clear hd3 hs3)
    | (fail))
  clear c5 c6 c7 c8 f6 f7 f8 c88 cA
  go_wp2_with fail
  go_ret
  have h1 : Stp w g v (w.setCell ⟨g, 6, none⟩ (.bool false)) v := Stp.mine ((Kp.refl _ _).setg _ _)
  have h2 : Stp w g v ((w.setCell ⟨g, 6, none⟩ (.bool false)).alloc (.cells #[.int .u32 (pairB up u)] 44)).drew v := h1.below ((((Kp.refl (fun _ => False) _).alloc _).drew).below (Nat.le_refl _) (fun _ h => h.elim))
  exact ⟨rfl, _, HD3.out.set 3 _, (h2.trans HS3.out).trans (Stp.mine ((Kp.refl _ _).setg _ _))⟩
/-! ### The machine's own state, and one byte -/
structure CS where
  big : Bool
  half : Bool
  b0 : Int
  up : Int
def cown (s : CS) : List Value := own16 s.big s.half s.b0 s.up
def cok (s : CS) : Prop := (0 ≤ s.b0 ∧ s.b0 ≤ 255) ∧ (s.up = 0 ∨ (55296 ≤ s.up ∧ s.up < 56320))
def cnx (s : CS) (b : Int) : Option (CS × Option Int) :=
  if s.half = false then (if (s.big && !fitsU s.up (b * 256)) = true then none else some (⟨s.big, true, b % 256, s.up⟩, none))
  else if fitsU s.up (unitB s.big s.b0 b) = false then none
  else if s.up ≠ 0 then some (⟨s.big, false, s.b0, 0⟩, some (pairB s.up (unitB s.big s.b0 b)))
  else if 55296 ≤ unitB s.big s.b0 b ∧ unitB s.big s.b0 b < 56320 then some (⟨s.big, false, s.b0, unitB s.big s.b0 b⟩, none)
  else some (⟨s.big, false, s.b0, 0⟩, some (unitB s.big s.b0 b))
/-- Does something wait, so that an end cuts it? -/
def ccut (s : CS) : Bool := s.half || s.up != 0
theorem cnx_ok {s s' : CS} {b : Int} {r : Option Int} (hs : cok s) (h : cnx s b = some (s', r)) : cok s' := by
  obtain ⟨big, half, b0, up⟩ := s
  obtain ⟨h1, h2⟩ := hs
  simp only at h1 h2
  unfold cnx at h
  simp only at h
  have fin : ∀ {x : CS} {y : Option Int}, cok x → (some (x, y) : Option (CS × Option Int)) = some (s', r) → cok s' := by
    intro x y hx he
    simp only [Option.some.injEq, Prod.mk.injEq] at he
    exact he.1 ▸ hx
  split at h
  · split at h
    · cases h
    · exact fin ⟨by simp only; omega, h2⟩ h
  · split at h
    · cases h
    · split at h
      · exact fin ⟨h1, .inl rfl⟩ h
      · split at h
        · rename_i hr
          exact fin ⟨h1, .inr hr⟩ h
        · exact fin ⟨h1, .inl rfl⟩ h
theorem next_none (s : CS) (b : Int) (hs : cok s) (hb0 : 0 ≤ b) (hb1 : b ≤ 255) (hl : xs.length + 1 ≤ 1073741824) (hn : cnx s b = none) (h : Dec w g T a e f d v xs (cown s)) :
    Calls Try.prog 38 #[.pointer (some ⟨g, 0, none⟩), .int .u8 b] w fun en w' => en = .returned (.bool false) ∧ ∃ s' v', Dec w' g T a e f d v' xs (cown s') ∧ Stp w g v w' v' := by
  obtain ⟨big, half, b0, up⟩ := s
  obtain ⟨⟨h00, h01⟩, hup⟩ := hs
  simp only at h00 h01 hup
  unfold cnx at hn
  simp only at hn
  cases half with
  | false =>
    rw [if_pos rfl] at hn
    split at hn
    · rename_i hc
      simp only [Bool.and_eq_true, Bool.not_eq_true'] at hc
      obtain ⟨rfl, hf⟩ := hc
      exact (next_first_no b hb0 hb1 hf h).mono fun en w' ⟨he, hd, hst⟩ => ⟨he, ⟨true, false, b, up⟩, _, hd, hst⟩
    · cases hn
  | true =>
    rw [if_neg (by decide)] at hn
    split at hn
    · rename_i hf
      cases big with
      | true => exact (next2_no_be b h00 h01 hb0 hb1 hl hf h).mono fun en w' ⟨he, hd, hst⟩ => ⟨he, ⟨true, true, b0, up⟩, _, hd, hst⟩
      | false => exact (next2_no_le b h00 h01 hb0 hb1 hl hf h).mono fun en w' ⟨he, hd, hst⟩ => ⟨he, ⟨false, true, b0, up⟩, _, hd, hst⟩
    · split at hn
      · cases hn
      · split at hn <;> cases hn
theorem next_some (s s' : CS) (r : Option Int) (b : Int) (hs : cok s) (hb0 : 0 ≤ b) (hb1 : b ≤ 255) (hl : xs.length + 1 ≤ 1073741824) (hn : cnx s b = some (s', r)) (h : Dec w g T a e f d v xs (cown s)) :
    Calls Try.prog 38 #[.pointer (some ⟨g, 0, none⟩), .int .u8 b] w fun en w' => en = .returned (.bool true) ∧ ∃ v', Dec w' g T a e f d v' (xs ++ r.toList) (cown s') ∧ Stp w g v w' v' := by
  obtain ⟨big, half, b0, up⟩ := s
  obtain ⟨⟨h00, h01⟩, hup⟩ := hs
  simp only at h00 h01 hup
  unfold cnx at hn
  simp only at hn
  have hbm : b % 256 = b := by omega
  cases half with
  | false =>
    rw [if_pos rfl] at hn
    split at hn
    · cases hn
    · rename_i hc
      simp only [Option.some.injEq, Prod.mk.injEq] at hn
      obtain ⟨rfl, rfl⟩ := hn
      simp only [Option.toList, List.append_nil, hbm]
      cases big with
      | true =>
        have hf : fitsU up (b * 256) = true := by simpa using hc
        exact (next_first_be b hb0 hb1 hf h).mono fun en w' ⟨he, hd, hst⟩ => ⟨he, _, hd, hst⟩
      | false => exact (next_first_le b hb0 hb1 h).mono fun en w' ⟨he, hd, hst⟩ => ⟨he, _, hd, hst⟩
  | true =>
    rw [if_neg (by decide)] at hn
    split at hn
    · cases hn
    · rename_i hf
      have hf1 : fitsU up (unitB big b0 b) = true := by simpa using hf
      split at hn
      · rename_i hu
        simp only [Option.some.injEq, Prod.mk.injEq] at hn
        obtain ⟨rfl, rfl⟩ := hn
        have hu2 : 55296 ≤ up ∧ up < 56320 := hup.resolve_left hu
        have hlow : 56320 ≤ unitB big b0 b ∧ unitB big b0 b < 57344 := by
          have h9 := hf1
          unfold fitsU at h9
          have hne : (up != 0) = true := by simpa using hu
          rw [hne] at h9
          simpa [isLow] using h9
        simp only [Option.toList]
        cases big with
        | true => exact next2_pair_be b h00 h01 hb0 hb1 hl hf1 hu2 hlow h
        | false => exact next2_pair_le b h00 h01 hb0 hb1 hl hf1 hu2 hlow h
      · rename_i hu
        have hu0 : up = 0 := Decidable.not_not.1 hu
        split at hn
        · rename_i hr
          simp only [Option.some.injEq, Prod.mk.injEq] at hn
          obtain ⟨rfl, rfl⟩ := hn
          simp only [Option.toList, List.append_nil]
          cases big with
          | true => exact (next2_up_be b h00 h01 hb0 hb1 hl hf1 hu0 hr h).mono fun en w' ⟨he, hd, hst⟩ => ⟨he, _, hd, hst⟩
          | false => exact (next2_up_le b h00 h01 hb0 hb1 hl hf1 hu0 hr h).mono fun en w' ⟨he, hd, hst⟩ => ⟨he, _, hd, hst⟩
        · rename_i hr
          simp only [Option.some.injEq, Prod.mk.injEq] at hn
          obtain ⟨rfl, rfl⟩ := hn
          simp only [Option.toList]
          cases big with
          | true => exact next2_one_be b h00 h01 hb0 hb1 hl hf1 hu0 (by omega) h
          | false => exact next2_one_le b h00 h01 hb0 hb1 hl hf1 hu0 (by omega) h
end
end Go.Proofs.Ytjddbdhpdenaeaa
