/- Layer 6: what the bytes since the last scalar say of the machine. -/
import Derived.Test.YtcfpbihkodjlkaaMA
import Derived.Test.YtcfpbihkodjlkaaMA
import Derived.Test.YtcfpbihkodjlkaaRun
import Derived.Test.YtcfpbihkodjlkaaSm
import Derived.Test.YtcfpbihkodjlkaaMr
import Derived.Test.YtcfpbihkodjlkaaMA
import Derived.Test.YtcfpbihkodjlkaaMb
namespace Go.Proofs.Ytcfpbihkodjlkaa.M
open Go.RowKit Go.Proofs.YtcfpbihkodjlkaaW.PrintWords Go.Proofs.YtcfpbihkodjlkaaW.PrintMore
set_option linter.unusedVariables false
set_option linter.unusedSimpArgs false
def sizeF (c : Int) : Int := if c < 160 then 1 else if c < 1024 then 2 else if c < 16384 then 3 else if c < 262144 then 4 else 5
/-- The least scalar from lo to hi, of those that take n bytes. -/
def someG (least most lo hi : Int) : Int × Bool :=
  let l := if lo < least then least else lo
  let h := if hi > most then most else hi
  let l := if 55296 ≤ l ∧ l ≤ 57343 then 57344 else l
  (l, decide (l ≤ h))
def someF (lo hi n : Int) : Int × Bool :=
  if n = 1 then someG 0 159 lo hi else if n = 2 then someG 160 1023 lo hi else if n = 3 then someG 1024 16383 lo hi else if n = 4 then someG 16384 262143 lo hi else someG 262144 1114111 lo hi
/-- Do these bytes begin a scalar's? The least such scalar. -/
def begF : List Int → Int × Bool
  | [b] => if b < 160 then someF b b 1 else if b < 192 then (0, false) else if b < 224 then someF ((b - 192) * 32) ((b - 192) * 32 + 31) 2 else if b < 240 then someF ((b - 224) * 1024) ((b - 224) * 1024 + 1023) 3 else if b < 248 then someF ((b - 240) * 32768) ((b - 240) * 32768 + 32767) 4 else if b < 252 then someF ((b - 248) * 1048576) ((b - 248) * 1048576 + 1048575) 5 else (0, false)
  | [b, x] => if x < 160 ∨ 191 < x then (0, false) else if b < 224 then someF ((b - 192) * 32 + x - 160) ((b - 192) * 32 + x - 160) 2 else if b < 240 then someF (((b - 224) * 32 + x - 160) * 32) (((b - 224) * 32 + x - 160) * 32 + 31) 3 else if b < 248 then someF (((b - 240) * 32 + x - 160) * 1024) (((b - 240) * 32 + x - 160) * 1024 + 1023) 4 else someF (((b - 248) * 32 + x - 160) * 32768) (((b - 248) * 32 + x - 160) * 32768 + 32767) 5
  | [b, x, y] => if y < 160 ∨ 191 < y then (0, false) else if b < 240 then someF (((b - 224) * 32 + x - 160) * 32 + y - 160) (((b - 224) * 32 + x - 160) * 32 + y - 160) 3 else if b < 248 then someF ((((b - 240) * 32 + x - 160) * 32 + y - 160) * 32) ((((b - 240) * 32 + x - 160) * 32 + y - 160) * 32 + 31) 4 else someF ((((b - 248) * 32 + x - 160) * 32 + y - 160) * 1024) ((((b - 248) * 32 + x - 160) * 32 + y - 160) * 1024 + 1023) 5
  | [b, x, y, z] => if z < 160 ∨ 191 < z then (0, false) else if b < 248 then someF ((((b - 240) * 32 + x - 160) * 32 + y - 160) * 32 + z - 160) ((((b - 240) * 32 + x - 160) * 32 + y - 160) * 32 + z - 160) 4 else someF (((((b - 248) * 32 + x - 160) * 32 + y - 160) * 32 + z - 160) * 32) (((((b - 248) * 32 + x - 160) * 32 + y - 160) * 32 + z - 160) * 32 + 31) 5
  | [b, x, y, z, t] => if t < 160 ∨ 191 < t then (0, false) else someF (((((b - 248) * 32 + x - 160) * 32 + y - 160) * 32 + z - 160) * 32 + t - 160) (((((b - 248) * 32 + x - 160) * 32 + y - 160) * 32 + z - 160) * 32 + t - 160) 5
  | _ => (0, false)
/-- The machine at its beginning. -/
abbrev st0 : CS := ⟨0, 0, 0, false⟩
theorem cok0 : cok st0 := by unfold cok; simp
/-- The encoder at its beginning. -/
abbrev es0 : ES := ⟨⟩
/-- The bytes of some scalars. -/
abbrev txt (l : List Int) : List Int := l.flatMap rby
/-- The machine, after these bytes of a scalar. -/
def Sim (s : CS) : List Int → Prop
  | [] => s.nd = 0
  | [b] => isLead b ∧ s = leadF b
  | [b, x] => (isLead b ∧ 224 ≤ b) ∧ (160 ≤ x ∧ x ≤ 191) ∧ secondF b x = true ∧ s = ⟨(leadF b).nd - 1, b, (leadF b).c * 32 + x % 32, true⟩
  | [b, x, y] => (isLead b ∧ 240 ≤ b) ∧ (160 ≤ x ∧ x ≤ 191) ∧ secondF b x = true ∧ (160 ≤ y ∧ y ≤ 191) ∧ s = ⟨(leadF b).nd - 2, b, ((leadF b).c * 32 + x % 32) * 32 + y % 32, true⟩
  | [b, x, y, z] => (isLead b ∧ 248 ≤ b) ∧ (160 ≤ x ∧ x ≤ 191) ∧ secondF b x = true ∧ (160 ≤ y ∧ y ≤ 191) ∧ (160 ≤ z ∧ z ≤ 191) ∧ s = ⟨1, b, (((leadF b).c * 32 + x % 32) * 32 + y % 32) * 32 + z % 32, true⟩
  | _ => False
theorem sim0 : Sim st0 [] := rfl
theorem sim_free {s : CS} (h : Sim s []) : ccut s = false := by
  have h : s.nd = 0 := h
  simp [ccut, h]
theorem isB_iff (x : Int) : isB x = true ↔ x ≤ 1114111 ∧ (x < 55296 ∨ 57343 < x) := by simp [isB]
/-- What a step may be: wrong; a beginning still; a scalar. -/
def Fit (q : List Int) (s : CS) (b : Int) : Prop :=
  ((begF (q ++ [b])).2 = false ∧ cnx s b = none) ∨
  ((begF (q ++ [b])).2 = true ∧ sizeF (begF (q ++ [b])).1 ≠ ((q ++ [b]).length : Int) ∧ ∃ s', cnx s b = some (s', none) ∧ Sim s' (q ++ [b])) ∨
  ((begF (q ++ [b])).2 = true ∧ sizeF (begF (q ++ [b])).1 = ((q ++ [b]).length : Int) ∧ ∃ s', cnx s b = some (s', some (begF (q ++ [b])).1) ∧ Sim s' [])
/-- A scalar that bytes begin. -/
def Goes (q : List Int) : Prop := (begF q).2 = true → 0 ≤ (begF q).1 ∧ isB (begF q).1 = true ∧ (rby (begF q).1).take q.length = q
theorem someG_is (least most lo hi : Int) : ∃ l ok, someG least most lo hi = (l, ok) ∧ (∀ c, lo ≤ c → c ≤ hi → least ≤ c → c ≤ most → (c < 55296 ∨ 57343 < c) → ok = true) ∧ (ok = true → lo ≤ l ∧ l ≤ hi ∧ least ≤ l ∧ l ≤ most ∧ (l < 55296 ∨ 57343 < l)) := by
  refine ⟨_, _, rfl, ?_, ?_⟩
  · intro c h1 h2 h3 h4 h5
    rw [decide_eq_true_eq]
    split <;> split <;> split <;> omega
  · intro h
    rw [decide_eq_true_eq] at h
    revert h
    split <;> split <;> split <;> omega
theorem size1 {c : Int} (h : c < 160) : sizeF c = 1 := by unfold sizeF; rw [if_pos (by omega)]
theorem size2 {c : Int} (h0 : 160 ≤ c) (h1 : c ≤ 1023) : sizeF c = 2 := by unfold sizeF; rw [if_neg (by omega), if_pos (by omega)]
theorem size3 {c : Int} (h0 : 1024 ≤ c) (h1 : c ≤ 16383) : sizeF c = 3 := by unfold sizeF; rw [if_neg (by omega), if_neg (by omega), if_pos (by omega)]
theorem size4 {c : Int} (h0 : 16384 ≤ c) (h1 : c ≤ 262143) : sizeF c = 4 := by unfold sizeF; rw [if_neg (by omega), if_neg (by omega), if_neg (by omega), if_pos (by omega)]
theorem size5 {c : Int} (h0 : 262144 ≤ c) : sizeF c = 5 := by unfold sizeF; rw [if_neg (by omega), if_neg (by omega), if_neg (by omega), if_neg (by omega)]
theorem rby1 {c : Int} (h : c < 160) : rby c = [c] := by unfold rby; rw [if_pos (by omega)]
theorem rby2 {c : Int} (h0 : 160 ≤ c) (h1 : c ≤ 1023) : rby c = [192 + c / 32, 160 + c % 32] := by unfold rby; rw [if_neg (by omega), if_pos (by omega)]
theorem rby3 {c : Int} (h0 : 1024 ≤ c) (h1 : c ≤ 16383) : rby c = [224 + c / 1024, 160 + c / 32 % 32, 160 + c % 32] := by unfold rby; rw [if_neg (by omega), if_neg (by omega), if_pos (by omega)]
theorem rby4 {c : Int} (h0 : 16384 ≤ c) (h1 : c ≤ 262143) : rby c = [240 + c / 32768, 160 + c / 1024 % 32, 160 + c / 32 % 32, 160 + c % 32] := by unfold rby; rw [if_neg (by omega), if_neg (by omega), if_neg (by omega), if_pos (by omega)]
theorem rby5 {c : Int} (h0 : 262144 ≤ c) : rby c = [248 + c / 1048576, 160 + c / 32768 % 32, 160 + c / 1024 % 32, 160 + c / 32 % 32, 160 + c % 32] := by unfold rby; rw [if_neg (by omega), if_neg (by omega), if_neg (by omega), if_neg (by omega)]
/-- What Fit and Goes are shown by: the span of a beginning. -/
theorem by_no {q : List Int} {s : CS} {b least most lo hi : Int} (he : begF (q ++ [b]) = someG least most lo hi) (hc : cnx s b = none) (h : ∀ l, lo ≤ l → l ≤ hi → least ≤ l → l ≤ most → ¬ (l < 55296 ∨ 57343 < l)) : Fit q s b ∧ Goes (q ++ [b]) := by
  obtain ⟨l, ok, e, h1, h2⟩ := someG_is least most lo hi
  have hok : ok = false := by
    cases ok with
    | false => rfl
    | true =>
      obtain ⟨k1, k2, k3, k4, k5⟩ := h2 rfl
      exact absurd k5 (h l k1 k2 k3 k4)
  refine ⟨.inl ⟨by rw [he, e]; exact hok, hc⟩, fun h9 => ?_⟩
  rw [he, e] at h9
  rw [hok] at h9
  cases h9
theorem by_on {q : List Int} {s s' : CS} {b least most lo hi c n : Int} (he : begF (q ++ [b]) = someG least most lo hi) (hc : cnx s b = some (s', none)) (hs : Sim s' (q ++ [b])) (w1 : lo ≤ c) (w2 : c ≤ hi) (w3 : least ≤ c) (w4 : c ≤ most) (w5 : c < 55296 ∨ 57343 < c) (hm : most ≤ 1114111) (hl : 0 ≤ least)
    (hn : ∀ l, least ≤ l → l ≤ most → sizeF l = n) (hln : n ≠ ((q ++ [b]).length : Int)) (hp : ∀ l, lo ≤ l → l ≤ hi → least ≤ l → l ≤ most → (rby l).take (q ++ [b]).length = q ++ [b]) : Fit q s b ∧ Goes (q ++ [b]) := by
  obtain ⟨l, ok, e, h1, h2⟩ := someG_is least most lo hi
  have hok := h1 c w1 w2 w3 w4 w5
  obtain ⟨k1, k2, k3, k4, k5⟩ := h2 hok
  refine ⟨.inr (.inl ⟨by rw [he, e]; exact hok, ?_, s', hc, hs⟩), fun _ => ?_⟩
  · rw [he, e]
    show sizeF l ≠ _
    rw [hn l k3 k4]
    exact hln
  · rw [he, e]
    exact ⟨by show 0 ≤ l; omega, (isB_iff l).2 ⟨by omega, k5⟩, hp l k1 k2 k3 k4⟩
theorem by_all {q : List Int} {s s' : CS} {b least most c n : Int} (he : begF (q ++ [b]) = someG least most c c) (hc : cnx s b = some (s', some c)) (hs : Sim s' []) (w3 : least ≤ c) (w4 : c ≤ most) (w5 : c < 55296 ∨ 57343 < c) (hm : most ≤ 1114111) (hl : 0 ≤ least)
    (hn : sizeF c = ((q ++ [b]).length : Int)) (hp : (rby c).take (q ++ [b]).length = q ++ [b]) : Fit q s b ∧ Goes (q ++ [b]) := by
  obtain ⟨l, ok, e, h1, h2⟩ := someG_is least most c c
  have hok := h1 c (Int.le_refl _) (Int.le_refl _) w3 w4 w5
  obtain ⟨k1, k2, k3, k4, k5⟩ := h2 hok
  obtain rfl : l = c := by omega
  refine ⟨.inr (.inr ⟨by rw [he, e]; exact hok, by rw [he, e]; exact hn, s', by rw [he, e]; exact hc, hs⟩), fun _ => ?_⟩
  rw [he, e]
  exact ⟨by show 0 ≤ l; omega, (isB_iff l).2 ⟨by omega, k5⟩, hp⟩
theorem by_bad {q : List Int} {s : CS} {b : Int} (he : begF (q ++ [b]) = (0, false)) (hc : cnx s b = none) : Fit q s b ∧ Goes (q ++ [b]) :=
  ⟨.inl ⟨by rw [he], hc⟩, fun h9 => by rw [he] at h9; cases h9⟩
theorem sF1 (lo hi : Int) : someF lo hi 1 = someG 0 159 lo hi := rfl
theorem sF2 (lo hi : Int) : someF lo hi 2 = someG 160 1023 lo hi := rfl
theorem sF3 (lo hi : Int) : someF lo hi 3 = someG 1024 16383 lo hi := rfl
theorem sF4 (lo hi : Int) : someF lo hi 4 = someG 16384 262143 lo hi := rfl
theorem sF5 (lo hi : Int) : someF lo hi 5 = someG 262144 1114111 lo hi := rfl
theorem lead2 {b : Int} (h : b < 224) : leadF b = ⟨1, b, b % 32, false⟩ := if_pos h
theorem lead3 {b : Int} (h0 : 224 ≤ b) (h1 : b < 240) : leadF b = ⟨2, b, b % 16, false⟩ := by unfold leadF; rw [if_neg (by omega), if_pos h1]
theorem lead4 {b : Int} (h0 : 240 ≤ b) (h1 : b < 248) : leadF b = ⟨3, b, b % 8, false⟩ := by unfold leadF; rw [if_neg (by omega), if_neg (by omega), if_pos h1]
theorem lead5 {b : Int} (h0 : 248 ≤ b) : leadF b = ⟨4, b, b % 4, false⟩ := by unfold leadF; rw [if_neg (by omega), if_neg (by omega), if_neg (by omega)]
theorem lead_nd {b : Int} : 1 ≤ (leadF b).nd ∧ (224 ≤ b → 2 ≤ (leadF b).nd) ∧ (240 ≤ b → 3 ≤ (leadF b).nd) ∧ (248 ≤ b → (leadF b).nd = 4) := by
  unfold leadF
  (repeat' split) <;> simp <;> omega
theorem lead_fb {b : Int} : (leadF b).fb = b ∧ (leadF b).gone = false := by
  unfold leadF
  (repeat' split) <;> exact ⟨rfl, rfl⟩
theorem cnx_in {s : CS} {b : Int} (hn : s.nd ≠ 0) (h0 : 160 ≤ b) (h1 : b ≤ 191) (hs : s.gone = true ∨ secondF s.fb b = true) : cnx s b = if s.nd = 1 then some (⟨0, s.fb, s.c * 32 + b % 32, true⟩, some (s.c * 32 + b % 32)) else some (⟨s.nd - 1, s.fb, s.c * 32 + b % 32, true⟩, none) := by
  unfold cnx
  rw [if_neg hn, if_neg]
  rintro (h | h | ⟨h2, h3⟩)
  · omega
  · omega
  · rcases hs with h4 | h4
    · rw [h2] at h4; cases h4
    · rw [h3] at h4; cases h4
theorem cnx_out {s : CS} {b : Int} (hn : s.nd ≠ 0) (h : b < 160 ∨ 191 < b) : cnx s b = none := by
  unfold cnx
  rw [if_neg hn, if_pos (by rcases h with h | h <;> simp [h])]
theorem cnx_se {s : CS} {b : Int} (hn : s.nd ≠ 0) (hg : s.gone = false) (h : secondF s.fb b = false) : cnx s b = none := by
  unfold cnx
  rw [if_neg hn, if_pos (.inr (.inr ⟨hg, h⟩))]
/-- What the second byte may be, in numbers. -/
theorem second_iff {b x : Int} : secondF b x = true ↔ (b = 240 → 176 ≤ x) ∧ (b = 241 → x ≠ 182 ∧ x ≠ 183) ∧ (b = 248 → 168 ≤ x) ∧ (b = 249 → x ≤ 161) := by
  unfold secondF
  by_cases h1 : b = 240
  · subst h1; simp
  rw [if_neg h1]
  by_cases h2 : b = 241
  · subst h2; simp
  rw [if_neg h2]
  by_cases h3 : b = 248
  · subst h3; simp
  rw [if_neg h3]
  by_cases h4 : b = 249
  · subst h4; simp
  rw [if_neg h4]
  simp [h1, h2, h3, h4]
theorem step0 {s : CS} (h : s.nd = 0) (b : Int) (h0 : 0 ≤ b) (h1 : b ≤ 255) : Fit [] s b ∧ Goes ([] ++ [b]) := by
  have hno : ¬ b < 160 → ¬ isLead b → cnx s b = none := fun k1 k2 => by unfold cnx; rw [if_pos h, if_neg k1, if_neg k2]
  have hon : ¬ b < 160 → isLead b → cnx s b = some (leadF b, none) := fun k1 k2 => by unfold cnx; rw [if_pos h, if_neg k1, if_pos k2]
  unfold isLead at hno hon
  by_cases c1 : b < 160
  · refine by_all (s' := s) (least := 0) (most := 159) (c := b) (n := 1) ?_ ?_ h (by omega) (by omega) (by omega) (by omega) (by omega) (size1 c1) (by rw [rby1 c1]; rfl)
    · show begF [b] = _
      simp only [begF, if_pos c1, sF1]
    · unfold cnx; rw [if_pos h, if_pos c1]
  by_cases c2 : b < 192
  · refine by_bad ?_ (hno c1 (by omega))
    show begF [b] = _
    simp only [begF, if_neg c1, if_pos c2]
  by_cases c3 : b < 224
  · have he : begF ([] ++ [b]) = someG 160 1023 ((b - 192) * 32) ((b - 192) * 32 + 31) := by
      show begF [b] = _
      simp only [begF, if_neg c1, if_neg c2, if_pos c3, sF2]
    by_cases d1 : b < 197
    · exact by_no he (hno c1 (by omega)) (by intro l; omega)
    · exact by_on (c := (b - 192) * 32) (n := 2) he (hon c1 (by omega)) ⟨by unfold isLead; omega, rfl⟩ (by omega) (by omega) (by omega) (by omega) (by omega) (by omega) (by omega) (fun l k1 k2 => size2 k1 k2) (by simp) (fun l k1 k2 k3 k4 => by
      rw [rby2 k3 k4]; simp only [List.nil_append, List.length_singleton, List.take_succ_cons, List.take_zero, List.cons.injEq, and_true]; omega)
  by_cases c4 : b < 240
  · have he : begF ([] ++ [b]) = someG 1024 16383 ((b - 224) * 1024) ((b - 224) * 1024 + 1023) := by
      show begF [b] = _
      simp only [begF, if_neg c1, if_neg c2, if_neg c3, if_pos c4, sF3]
    by_cases d1 : b = 224
    · exact by_no he (hno c1 (by omega)) (by intro l; omega)
    · exact by_on (c := (b - 224) * 1024) (n := 3) he (hon c1 (by omega)) ⟨by unfold isLead; omega, rfl⟩ (by omega) (by omega) (by omega) (by omega) (by omega) (by omega) (by omega) (fun l k1 k2 => size3 k1 k2) (by simp) (fun l k1 k2 k3 k4 => by
      rw [rby3 k3 k4]; simp only [List.nil_append, List.length_singleton, List.take_succ_cons, List.take_zero, List.cons.injEq, and_true]; omega)
  by_cases c5 : b < 248
  · have he : begF ([] ++ [b]) = someG 16384 262143 ((b - 240) * 32768) ((b - 240) * 32768 + 32767) := by
      show begF [b] = _
      simp only [begF, if_neg c1, if_neg c2, if_neg c3, if_neg c4, if_pos c5, sF4]
    by_cases d2 : b = 240
    · exact by_on (c := 16384) (n := 4) he (hon c1 (by omega)) ⟨by unfold isLead; omega, rfl⟩ (by omega) (by omega) (by omega) (by omega) (by omega) (by omega) (by omega) (fun l k1 k2 => size4 k1 k2) (by simp) (fun l k1 k2 k3 k4 => by
      rw [rby4 k3 k4]; simp only [List.nil_append, List.length_singleton, List.take_succ_cons, List.take_zero, List.cons.injEq, and_true]; omega)
    · exact by_on (c := (b - 240) * 32768) (n := 4) he (hon c1 (by omega)) ⟨by unfold isLead; omega, rfl⟩ (by omega) (by omega) (by omega) (by omega) (by omega) (by omega) (by omega) (fun l k1 k2 => size4 k1 k2) (by simp) (fun l k1 k2 k3 k4 => by
      rw [rby4 k3 k4]; simp only [List.nil_append, List.length_singleton, List.take_succ_cons, List.take_zero, List.cons.injEq, and_true]; omega)
  by_cases c6 : b < 252
  · have he : begF ([] ++ [b]) = someG 262144 1114111 ((b - 248) * 1048576) ((b - 248) * 1048576 + 1048575) := by
      show begF [b] = _
      simp only [begF, if_neg c1, if_neg c2, if_neg c3, if_neg c4, if_neg c5, if_pos c6, sF5]
    by_cases d1 : 249 < b
    · exact by_no he (hno c1 (by omega)) (by intro l; omega)
    by_cases d2 : b = 248
    · exact by_on (c := 262144) (n := 5) he (hon c1 (by omega)) ⟨by unfold isLead; omega, rfl⟩ (by omega) (by omega) (by omega) (by omega) (by omega) (by omega) (by omega) (fun l k1 k2 => size5 k1) (by simp) (fun l k1 k2 k3 k4 => by
      rw [rby5 k3]; simp only [List.nil_append, List.length_singleton, List.take_succ_cons, List.take_zero, List.cons.injEq, and_true]; omega)
    · exact by_on (c := (b - 248) * 1048576) (n := 5) he (hon c1 (by omega)) ⟨by unfold isLead; omega, rfl⟩ (by omega) (by omega) (by omega) (by omega) (by omega) (by omega) (by omega) (fun l k1 k2 => size5 k1) (by simp) (fun l k1 k2 k3 k4 => by
      rw [rby5 k3]; simp only [List.nil_append, List.length_singleton, List.take_succ_cons, List.take_zero, List.cons.injEq, and_true]; omega)
  · refine by_bad ?_ (hno c1 (by omega))
    show begF [b] = _
    simp only [begF, if_neg c1, if_neg c2, if_neg c3, if_neg c4, if_neg c5, if_neg c6]
theorem take2 (a b x y : Int) (l : List Int) : (a :: b :: l).take ([x] ++ [y]).length = [a, b] := rfl
theorem take3 (a b c x y z : Int) (l : List Int) : (a :: b :: c :: l).take ([x, y] ++ [z]).length = [a, b, c] := rfl
theorem take4 (a b c d x y z v : Int) (l : List Int) : (a :: b :: c :: d :: l).take ([x, y, z] ++ [v]).length = [a, b, c, d] := rfl
theorem take5 (a b c d e x y z v u : Int) (l : List Int) : (a :: b :: c :: d :: e :: l).take ([x, y, z, v] ++ [u]).length = [a, b, c, d, e] := rfl
theorem step1 (b x : Int) (hb : isLead b) (h0 : 0 ≤ x) (h1 : x ≤ 255) : Fit [b] (leadF b) x ∧ Goes ([b] ++ [x]) := by
  have hnd := lead_nd (b := b)
  have hbl := hb
  unfold isLead at hb
  have hne : (leadF b).nd ≠ 0 := by omega
  by_cases hr : x < 160 ∨ 191 < x
  · refine by_bad ?_ (cnx_out hne hr)
    show begF [b, x] = _
    simp only [begF, if_pos hr]
  by_cases d2 : b < 224
  · have hl := lead2 (b := b) d2
    have he : begF ([b] ++ [x]) = someG 160 1023 ((b - 192) * 32 + x - 160) ((b - 192) * 32 + x - 160) := by
      show begF [b, x] = _
      simp only [begF, if_neg hr, if_pos d2, sF2]
    by_cases hs : secondF b x = true
    · have hse2 := second_iff.1 hs
      have hv : (b % 32) * 32 + x % 32 = (b - 192) * 32 + x - 160 := by omega
      refine by_all (s' := ⟨0, b, (b - 192) * 32 + x - 160, true⟩) (n := 2) he ?_ rfl (by omega) (by omega) (by omega) (by omega) (by omega) (size2 (by omega) (by omega)) ?_
      · rw [cnx_in hne (by omega) (by omega) (.inr (by rw [lead_fb.1]; exact hs)), hl, if_pos (by simp)]
        simp only [hv]
      · rw [rby2 (by omega) (by omega), take2]
        simp only [List.cons_append, List.nil_append, List.cons.injEq, and_true]
        omega
    · have hs0 : secondF b x = false := by simpa using hs
      rw [second_iff] at hs
      exact by_no he (cnx_se hne lead_fb.2 (by rw [lead_fb.1]; exact hs0)) (fun l k1 k2 k3 k4 => by omega)
  by_cases d3 : b < 240
  · have hl := lead3 (b := b) (by omega) d3
    have he : begF ([b] ++ [x]) = someG 1024 16383 (((b - 224) * 32 + x - 160) * 32) (((b - 224) * 32 + x - 160) * 32 + 31) := by
      show begF [b, x] = _
      simp only [begF, if_neg hr, if_neg d2, if_pos d3, sF3]
    by_cases hs : secondF b x = true
    · have hse2 := second_iff.1 hs
      refine by_on (s' := ⟨(leadF b).nd - 1, b, (leadF b).c * 32 + x % 32, true⟩) (c := ((b - 224) * 32 + x - 160) * 32) (n := 3) he ?_ ⟨⟨hbl, by omega⟩, by omega, hs, rfl⟩ (by omega) (by omega) (by omega) (by omega) (by omega) (by omega) (by omega) (fun l k1 k2 => size3 k1 k2) (by simp) (fun l k1 k2 k3 k4 => ?_)
      · rw [cnx_in hne (by omega) (by omega) (.inr (by rw [lead_fb.1]; exact hs)), hl, if_neg (by simp)]
        try rfl
      · rw [rby3 k3 k4, take2]
        simp only [List.cons_append, List.nil_append, List.cons.injEq, and_true]
        omega
    · have hs0 : secondF b x = false := by simpa using hs
      rw [second_iff] at hs
      exact by_no he (cnx_se hne lead_fb.2 (by rw [lead_fb.1]; exact hs0)) (fun l k1 k2 k3 k4 => by omega)
  by_cases d4 : b < 248
  · have hl := lead4 (b := b) (by omega) d4
    have he : begF ([b] ++ [x]) = someG 16384 262143 (((b - 240) * 32 + x - 160) * 1024) (((b - 240) * 32 + x - 160) * 1024 + 1023) := by
      show begF [b, x] = _
      simp only [begF, if_neg hr, if_neg d2, if_neg d3, if_pos d4, sF4]
    by_cases hs : secondF b x = true
    · have hse2 := second_iff.1 hs
      refine by_on (s' := ⟨(leadF b).nd - 1, b, (leadF b).c * 32 + x % 32, true⟩) (c := ((b - 240) * 32 + x - 160) * 1024) (n := 4) he ?_ ⟨⟨hbl, by omega⟩, by omega, hs, rfl⟩ (by omega) (by omega) (by omega) (by omega) (by omega) (by omega) (by omega) (fun l k1 k2 => size4 k1 k2) (by simp) (fun l k1 k2 k3 k4 => ?_)
      · rw [cnx_in hne (by omega) (by omega) (.inr (by rw [lead_fb.1]; exact hs)), hl, if_neg (by simp)]
        try rfl
      · rw [rby4 k3 k4, take2]
        simp only [List.cons_append, List.nil_append, List.cons.injEq, and_true]
        omega
    · have hs0 : secondF b x = false := by simpa using hs
      rw [second_iff] at hs
      exact by_no he (cnx_se hne lead_fb.2 (by rw [lead_fb.1]; exact hs0)) (fun l k1 k2 k3 k4 => by omega)
  have hl := lead5 (b := b) (by omega)
  have he : begF ([b] ++ [x]) = someG 262144 1114111 (((b - 248) * 32 + x - 160) * 32768) (((b - 248) * 32 + x - 160) * 32768 + 32767) := by
    show begF [b, x] = _
    simp only [begF, if_neg hr, if_neg d2, if_neg d3, if_neg d4, sF5]
  by_cases hs : secondF b x = true
  · have hse2 := second_iff.1 hs
    refine by_on (s' := ⟨(leadF b).nd - 1, b, (leadF b).c * 32 + x % 32, true⟩) (c := ((b - 248) * 32 + x - 160) * 32768) (n := 5) he ?_ ⟨⟨hbl, by omega⟩, by omega, hs, rfl⟩ (by omega) (by omega) (by omega) (by omega) (by omega) (by omega) (by omega) (fun l k1 k2 => size5 k1) (by simp) (fun l k1 k2 k3 k4 => ?_)
    · rw [cnx_in hne (by omega) (by omega) (.inr (by rw [lead_fb.1]; exact hs)), hl, if_neg (by simp)]
      try rfl
    · rw [rby5 k3, take2]
      simp only [List.cons_append, List.nil_append, List.cons.injEq, and_true]
      omega
  · have hs0 : secondF b x = false := by simpa using hs
    rw [second_iff] at hs
    exact by_no he (cnx_se hne lead_fb.2 (by rw [lead_fb.1]; exact hs0)) (fun l k1 k2 k3 k4 => by omega)
theorem step2 (b x y : Int) (hb : isLead b) (hb2 : 224 ≤ b) (hx : 160 ≤ x ∧ x ≤ 191) (hse : secondF b x = true) (h0 : 0 ≤ y) (h1 : y ≤ 255) : Fit [b, x] ⟨(leadF b).nd - 1, b, (leadF b).c * 32 + x % 32, true⟩ y ∧ Goes ([b, x] ++ [y]) := by
  have hnd := lead_nd (b := b)
  have hbl := hb
  unfold isLead at hb
  have hse2 := second_iff.1 hse
  have hne : (leadF b).nd - 1 ≠ 0 := by omega
  by_cases hr : y < 160 ∨ 191 < y
  · refine by_bad ?_ (cnx_out hne hr)
    show begF [b, x, y] = _
    simp only [begF, if_pos hr]
  by_cases d3 : b < 240
  · have hl := lead3 (b := b) (by omega) d3
    have he : begF ([b, x] ++ [y]) = someG 1024 16383 (((b - 224) * 32 + x - 160) * 32 + y - 160) (((b - 224) * 32 + x - 160) * 32 + y - 160) := by
      show begF [b, x, y] = _
      simp only [begF, if_neg hr, if_pos d3, sF3]
    have hv : (b % 16 * 32 + x % 32) * 32 + y % 32 = ((b - 224) * 32 + x - 160) * 32 + y - 160 := by omega
    refine by_all (s' := ⟨0, b, ((b - 224) * 32 + x - 160) * 32 + y - 160, true⟩) (n := 3) he ?_ rfl (by omega) (by omega) (by omega) (by omega) (by omega) (size3 (by omega) (by omega)) ?_
    · rw [cnx_in hne (by omega) (by omega) (.inl rfl), hl, if_pos (by simp)]
      simp only [hv]
    · rw [rby3 (by omega) (by omega), take3]
      simp only [List.cons_append, List.nil_append, List.cons.injEq, and_true]
      omega
  by_cases d4 : b < 248
  · have hl := lead4 (b := b) (by omega) d4
    have he : begF ([b, x] ++ [y]) = someG 16384 262143 ((((b - 240) * 32 + x - 160) * 32 + y - 160) * 32) ((((b - 240) * 32 + x - 160) * 32 + y - 160) * 32 + 31) := by
      show begF [b, x, y] = _
      simp only [begF, if_neg hr, if_neg d3, if_pos d4, sF4]
    refine by_on (s' := ⟨(leadF b).nd - 2, b, ((leadF b).c * 32 + x % 32) * 32 + y % 32, true⟩) (c := (((b - 240) * 32 + x - 160) * 32 + y - 160) * 32) (n := 4) he ?_ ⟨⟨hbl, by omega⟩, hx, hse, by omega, rfl⟩ (by omega) (by omega) (by omega) (by omega) (by omega) (by omega) (by omega) (fun l k1 k2 => size4 k1 k2) (by simp) (fun l k1 k2 k3 k4 => ?_)
    · rw [cnx_in hne (by omega) (by omega) (.inl rfl), hl, if_neg (by simp)]
      try rfl
    · rw [rby4 k3 k4, take3]
      simp only [List.cons_append, List.nil_append, List.cons.injEq, and_true]
      omega
  have hl := lead5 (b := b) (by omega)
  have he : begF ([b, x] ++ [y]) = someG 262144 1114111 ((((b - 248) * 32 + x - 160) * 32 + y - 160) * 1024) ((((b - 248) * 32 + x - 160) * 32 + y - 160) * 1024 + 1023) := by
    show begF [b, x, y] = _
    simp only [begF, if_neg hr, if_neg d3, if_neg d4, sF5]
  refine by_on (s' := ⟨(leadF b).nd - 2, b, ((leadF b).c * 32 + x % 32) * 32 + y % 32, true⟩) (c := (((b - 248) * 32 + x - 160) * 32 + y - 160) * 1024) (n := 5) he ?_ ⟨⟨hbl, by omega⟩, hx, hse, by omega, rfl⟩ (by omega) (by omega) (by omega) (by omega) (by omega) (by omega) (by omega) (fun l k1 k2 => size5 k1) (by simp) (fun l k1 k2 k3 k4 => ?_)
  · rw [cnx_in hne (by omega) (by omega) (.inl rfl), hl, if_neg (by simp)]
    try rfl
  · rw [rby5 k3, take3]
    simp only [List.cons_append, List.nil_append, List.cons.injEq, and_true]
    omega
theorem step3 (b x y z : Int) (hb : isLead b) (hb2 : 240 ≤ b) (hx : 160 ≤ x ∧ x ≤ 191) (hse : secondF b x = true) (hy : 160 ≤ y ∧ y ≤ 191) (h0 : 0 ≤ z) (h1 : z ≤ 255) : Fit [b, x, y] ⟨(leadF b).nd - 2, b, ((leadF b).c * 32 + x % 32) * 32 + y % 32, true⟩ z ∧ Goes ([b, x, y] ++ [z]) := by
  have hnd := lead_nd (b := b)
  have hbl := hb
  unfold isLead at hb
  have hse2 := second_iff.1 hse
  have hne : (leadF b).nd - 2 ≠ 0 := by omega
  by_cases hr : z < 160 ∨ 191 < z
  · refine by_bad ?_ (cnx_out hne hr)
    show begF [b, x, y, z] = _
    simp only [begF, if_pos hr]
  by_cases d4 : b < 248
  · have hl := lead4 (b := b) (by omega) d4
    have he : begF ([b, x, y] ++ [z]) = someG 16384 262143 ((((b - 240) * 32 + x - 160) * 32 + y - 160) * 32 + z - 160) ((((b - 240) * 32 + x - 160) * 32 + y - 160) * 32 + z - 160) := by
      show begF [b, x, y, z] = _
      simp only [begF, if_neg hr, if_pos d4, sF4]
    have hv : ((b % 8 * 32 + x % 32) * 32 + y % 32) * 32 + z % 32 = (((b - 240) * 32 + x - 160) * 32 + y - 160) * 32 + z - 160 := by omega
    refine by_all (s' := ⟨0, b, (((b - 240) * 32 + x - 160) * 32 + y - 160) * 32 + z - 160, true⟩) (n := 4) he ?_ rfl (by omega) (by omega) (by omega) (by omega) (by omega) (size4 (by omega) (by omega)) ?_
    · rw [cnx_in hne (by omega) (by omega) (.inl rfl), hl, if_pos (by simp)]
      simp only [hv]
    · rw [rby4 (by omega) (by omega), take4]
      simp only [List.cons_append, List.nil_append, List.cons.injEq, and_true]
      omega
  have hl := lead5 (b := b) (by omega)
  have he : begF ([b, x, y] ++ [z]) = someG 262144 1114111 (((((b - 248) * 32 + x - 160) * 32 + y - 160) * 32 + z - 160) * 32) (((((b - 248) * 32 + x - 160) * 32 + y - 160) * 32 + z - 160) * 32 + 31) := by
    show begF [b, x, y, z] = _
    simp only [begF, if_neg hr, if_neg d4, sF5]
  refine by_on (s' := ⟨1, b, (((leadF b).c * 32 + x % 32) * 32 + y % 32) * 32 + z % 32, true⟩) (c := ((((b - 248) * 32 + x - 160) * 32 + y - 160) * 32 + z - 160) * 32) (n := 5) he ?_ ⟨⟨hbl, by omega⟩, hx, hse, hy, by omega, rfl⟩ (by omega) (by omega) (by omega) (by omega) (by omega) (by omega) (by omega) (fun l k1 k2 => size5 k1) (by simp) (fun l k1 k2 k3 k4 => ?_)
  · rw [cnx_in hne (by omega) (by omega) (.inl rfl), hl, if_neg (by simp)]
    try rfl
  · rw [rby5 k3, take4]
    simp only [List.cons_append, List.nil_append, List.cons.injEq, and_true]
    omega
theorem step4 (b x y z t : Int) (hb : isLead b) (hb2 : 248 ≤ b) (hx : 160 ≤ x ∧ x ≤ 191) (hse : secondF b x = true) (hy : 160 ≤ y ∧ y ≤ 191) (hz : 160 ≤ z ∧ z ≤ 191) (h0 : 0 ≤ t) (h1 : t ≤ 255) : Fit [b, x, y, z] ⟨1, b, (((leadF b).c * 32 + x % 32) * 32 + y % 32) * 32 + z % 32, true⟩ t ∧ Goes ([b, x, y, z] ++ [t]) := by
  have hnd := lead_nd (b := b)
  have hbl := hb
  unfold isLead at hb
  have hse2 := second_iff.1 hse
  have hne : (1 : Int) ≠ 0 := by omega
  by_cases hr : t < 160 ∨ 191 < t
  · refine by_bad ?_ (cnx_out hne hr)
    show begF [b, x, y, z, t] = _
    simp only [begF, if_pos hr]
  have hl := lead5 (b := b) (by omega)
  have he : begF ([b, x, y, z] ++ [t]) = someG 262144 1114111 (((((b - 248) * 32 + x - 160) * 32 + y - 160) * 32 + z - 160) * 32 + t - 160) (((((b - 248) * 32 + x - 160) * 32 + y - 160) * 32 + z - 160) * 32 + t - 160) := by
    show begF [b, x, y, z, t] = _
    simp only [begF, if_neg hr, sF5]
  have hv : (((b % 4 * 32 + x % 32) * 32 + y % 32) * 32 + z % 32) * 32 + t % 32 = ((((b - 248) * 32 + x - 160) * 32 + y - 160) * 32 + z - 160) * 32 + t - 160 := by omega
  refine by_all (s' := ⟨0, b, ((((b - 248) * 32 + x - 160) * 32 + y - 160) * 32 + z - 160) * 32 + t - 160, true⟩) (n := 5) he ?_ rfl (by omega) (by omega) (by omega) (by omega) (by omega) (size5 (by omega)) ?_
  · rw [cnx_in hne (by omega) (by omega) (.inl rfl), hl, if_pos (by simp)]
    simp only [hv]
  · rw [rby5 (by omega), take5]
    simp only [List.cons_append, List.nil_append, List.cons.injEq, and_true]
    omega
/-- One byte more. -/
theorem sim_step {s : CS} {q : List Int} {b : Int} (h : Sim s q) (h0 : 0 ≤ b) (h1 : b ≤ 255) : Fit q s b ∧ Goes (q ++ [b]) := by
  match q, h with
  | [], h => exact step0 h b h0 h1
  | [x], h =>
    obtain ⟨k1, rfl⟩ := h
    exact step1 x b k1 h0 h1
  | [x, y], h =>
    obtain ⟨⟨k1, k2⟩, k3, k4, rfl⟩ := h
    exact step2 x y b k1 k2 k3 k4 h0 h1
  | [x, y, z], h =>
    obtain ⟨⟨k1, k2⟩, k3, k4, k5, rfl⟩ := h
    exact step3 x y z b k1 k2 k3 k4 k5 h0 h1
  | [x, y, z, t], h =>
    obtain ⟨⟨k1, k2⟩, k3, k4, k5, k6, rfl⟩ := h
    exact step4 x y z t b k1 k2 k3 k4 k5 k6 h0 h1
end Go.Proofs.Ytcfpbihkodjlkaa.M
namespace Go.Proofs.Ytcfpbihkodjlkaa.M
open Go.RowKit Go.Proofs.YtcfpbihkodjlkaaW.PrintWords Go.Proofs.YtcfpbihkodjlkaaW.PrintMore
set_option linter.unusedVariables false
set_option linter.unusedSimpArgs false
theorem w64' {x : Int} (h1 : -9223372036854775808 ≤ x) (h2 : x < 9223372036854775808) : wrap64 x = x := by unfold wrap64; omega
theorem bytesOf_range (t : ByteArray) : ∀ x ∈ bytesOf t, 0 ≤ x ∧ x ≤ 255 := by
  intro x hx
  simp only [bytesOf, List.mem_map] at hx
  obtain ⟨b, _, rfl⟩ := hx
  have := b.toNat_lt
  omega
theorem bytesOf_bt (q : ByteArray) : bytesOf q = (List.range q.size).map fun (i : Nat) => bt q i := by
  apply List.ext_getElem
  · rw [bytesOf_length]; simp
  · intro i h1 h2
    have := rd_bytesOf q (i : Int)
    rw [rd, Int.toNat_natCast, List.getD_eq_getElem?_getD, List.getElem?_eq_getElem h1] at this
    simpa using this
theorem getD_bt (t : ByteArray) (k : Nat) : (bytesOf t).getD k 0 = bt t k := by
  have := rd_bytesOf t (k : Int)
  rw [rd, Int.toNat_natCast] at this
  exact this
theorem bytes_mid (t : ByteArray) (i j : Nat) (h : i ≤ j) (hj : j ≤ t.size) : bytesOf (t.extract i j) = ((bytesOf t).take j).drop i ∧ (t.extract i j).size = j - i := by
  constructor
  · rw [bytesOf, bytesOf, ByteArray.data_extract, Array.toList_extract, List.extract_eq_take_drop, ← List.map_take, ← List.map_drop, List.drop_take]
  · rw [ByteArray.size_extract]; omega
theorem run_none {s : CS} {L : List Int} {k m : Nat} (hk : k ≤ m) (h : run cnx s (L.take k) = none) : run cnx s (L.take m) = none := by
  obtain ⟨d, rfl⟩ : ∃ d, m = k + d := ⟨m - k, by omega⟩
  rw [List.take_add, run_append, h]; rfl
theorem wrap64_nat' (n : Nat) (h : n ≤ 1000000) : wrap64 ((n : Int) + 1) = ((n + 1 : Nat) : Int) := by rw [w64' (by omega) (by omega)]; omega
theorem mono_le {α : Type} {f : Nat → Option α} (h : ∀ k, LeO (f k) (f (k + 1))) {a b : Nat} (hab : a ≤ b) {r : α} (hr : f a = some r) : f b = some r := by
  induction hab with
  | refl => exact hr
  | step _ ih => exact h _ _ ih
/-- A text is read to its end, or to a byte that doesn't fit. -/
theorem run_stop (s0 : CS) (t : ByteArray) : ∃ m fin out, m ≤ t.size ∧ run cnx s0 ((bytesOf t).take m) = some (fin, out) ∧ (m = t.size ∨ (m < t.size ∧ cnx fin (bt t m) = none)) := by
  have key : ∀ n, n ≤ t.size → (∃ fin out, run cnx s0 ((bytesOf t).take n) = some (fin, out)) ∨ ∃ m fin out, m < t.size ∧ run cnx s0 ((bytesOf t).take m) = some (fin, out) ∧ cnx fin (bt t m) = none := by
    intro n
    induction n with
    | zero => exact fun _ => .inl ⟨s0, [], rfl⟩
    | succ n ih =>
      intro hn
      rcases ih (by omega) with ⟨fin, out, h1⟩ | h1
      · cases hc : cnx fin (bt t n) with
        | none => exact .inr ⟨n, fin, out, by omega, h1, hc⟩
        | some p => exact .inl ⟨p.1, out ++ p.2.toList, by rw [take_bt t n (by omega), run_snoc, h1, Option.bind_some, hc]; rfl⟩
      · exact .inr h1
  rcases key t.size (Nat.le_refl _) with ⟨fin, out, h⟩ | ⟨m, fin, out, h1, h2, h3⟩
  · exact ⟨t.size, fin, out, Nat.le_refl _, h, .inl rfl⟩
  · exact ⟨m, fin, out, by omega, h2, .inr ⟨h1, h3⟩⟩
end Go.Proofs.Ytcfpbihkodjlkaa.M
namespace Go.Proofs.Ytcfpbihkodjlkaa.M
open Go.RowKit Go.Proofs.YtcfpbihkodjlkaaW.PrintWords Go.Proofs.YtcfpbihkodjlkaaW.PrintMore
set_option linter.unusedVariables false
set_option linter.unusedSimpArgs false
theorem some_at (k : Nat) (lo hi n : Int) (h0 : 1 ≤ n) (h1 : n ≤ 5) : PMod8Extends.pilcrowref06_Some.f k lo hi n = some (someF lo hi n) := by
  unfold PMod8Extends.pilcrowref06_Some.f someF
  by_cases e1 : n = 1
  · rw [if_pos e1, if_pos e1]; rfl
  by_cases e2 : n = 2
  · rw [if_neg e1, if_neg e1, if_pos e2, if_pos e2]; rfl
  by_cases e3 : n = 3
  · rw [if_neg e1, if_neg e1, if_neg e2, if_neg e2, if_pos e3, if_pos e3]; rfl
  by_cases e4 : n = 4
  · rw [if_neg e1, if_neg e1, if_neg e2, if_neg e2, if_neg e3, if_neg e3, if_pos e4, if_pos e4]; rfl
  · rw [if_neg e1, if_neg e1, if_neg e2, if_neg e2, if_neg e3, if_neg e3, if_neg e4, if_neg e4, if_pos (by omega)]; rfl
/-- One byte more of those that are there. -/
theorem l_in (k : Nat) (q : ByteArray) (n lo hi i x : Int) (hx : bt q i = x) (h0 : 0 ≤ i) (h1 : i < n) (hn : n ≤ 5) (h2 : i < q.size) (hb : 160 ≤ x ∧ x ≤ 191) (hl : 0 ≤ lo ∧ lo ≤ 33000000) (hh : 0 ≤ hi ∧ hi ≤ 33000000) :
    PMod8Extends.pilcrowref06_Begins.l0 (k + 1) q n lo hi i = PMod8Extends.pilcrowref06_Begins.l0 k q n (lo * 32 + x - 160) (hi * 32 + x - 160) (i + 1) := by
  rw [PMod8Extends.pilcrowref06_Begins.l0, if_pos h1, if_pos h2, if_pos h0, hx, if_neg (by omega), if_neg (by omega), w64' (by omega) (by omega)]
  congr 1 <;> omega
theorem l_bad (k : Nat) (q : ByteArray) (n lo hi i x : Int) (hx : bt q i = x) (h0 : 0 ≤ i) (h1 : i < n) (h2 : i < q.size) (hb : x < 160 ∨ 191 < x) :
    PMod8Extends.pilcrowref06_Begins.l0 (k + 1) q n lo hi i = some (0, false) := by
  rw [PMod8Extends.pilcrowref06_Begins.l0, if_pos h1, if_pos h2, if_pos h0, hx]
  by_cases h : x < 160
  · rw [if_pos h]
  · rw [if_neg h, if_pos (by omega)]
/-- One byte of those that are to come. -/
theorem l_out (k : Nat) (q : ByteArray) (n lo hi i : Int) (h0 : 0 ≤ i) (h1 : i < n) (hn : n ≤ 5) (h2 : q.size ≤ i) (hl : 0 ≤ lo ∧ lo ≤ 33000000) (hh : 0 ≤ hi ∧ hi ≤ 33000000) :
    PMod8Extends.pilcrowref06_Begins.l0 (k + 1) q n lo hi i = PMod8Extends.pilcrowref06_Begins.l0 k q n (lo * 32) (hi * 32 + 31) (i + 1) := by
  rw [PMod8Extends.pilcrowref06_Begins.l0, if_pos h1, if_neg (by omega), w64' (by omega) (by omega)]
  congr 1 <;> omega
theorem l_end (k : Nat) (q : ByteArray) (n lo hi i : Int) (h0 : 1 ≤ n) (h1 : n ≤ 5) (hi' : i = n) : PMod8Extends.pilcrowref06_Begins.l0 (k + 1) q n lo hi i = some (someF lo hi n) := by
  rw [PMod8Extends.pilcrowref06_Begins.l0, if_neg (by omega), some_at k lo hi n h0 h1, Option.bind_some]
theorem j4_at (k : Nat) (q : ByteArray) (v n : Int) (h : (q.size : Int) ≤ n) : PMod8Extends.pilcrowref06_Begins.j4 (k + 1) q v n = PMod8Extends.pilcrowref06_Begins.l0 k q n v v 1 := by
  rw [PMod8Extends.pilcrowref06_Begins.j4, if_neg (by omega)]
theorem head_1 (k : Nat) (q : ByteArray) (b : Int) (hb : bt q 0 = b) (hs : 1 ≤ q.size) (h0 : 0 ≤ b) (h1 : b < 160) : PMod8Extends.pilcrowref06_Begins.f (k + 5) q = PMod8Extends.pilcrowref06_Begins.j4 (k + 1) q b 1 := by
  rw [PMod8Extends.pilcrowref06_Begins.f, if_pos (by omega), hb, show b % 4294967296 = b by omega, if_neg (by omega), PMod8Extends.pilcrowref06_Begins.j0, if_neg (by decide), if_neg (by omega), PMod8Extends.pilcrowref06_Begins.j1, if_neg (by decide), if_neg (by omega), PMod8Extends.pilcrowref06_Begins.j2, if_neg (by decide), if_neg (by omega), PMod8Extends.pilcrowref06_Begins.j3, if_neg (by decide), if_neg (by omega)]
theorem head_bad (k : Nat) (q : ByteArray) (b : Int) (hb : bt q 0 = b) (hs : 1 ≤ q.size) (h0 : 160 ≤ b) (h1 : b < 192) : PMod8Extends.pilcrowref06_Begins.f (k + 5) q = some (0, false) := by
  rw [PMod8Extends.pilcrowref06_Begins.f, if_pos (by omega), hb, show b % 4294967296 = b by omega, if_neg (by omega), PMod8Extends.pilcrowref06_Begins.j0, if_neg (by decide), if_neg (by omega), PMod8Extends.pilcrowref06_Begins.j1, if_neg (by decide), if_neg (by omega), PMod8Extends.pilcrowref06_Begins.j2, if_neg (by decide), if_neg (by omega), PMod8Extends.pilcrowref06_Begins.j3, if_neg (by decide), if_pos (by omega)]
theorem head_2 (k : Nat) (q : ByteArray) (b : Int) (hb : bt q 0 = b) (hs : 1 ≤ q.size) (h0 : 192 ≤ b) (h1 : b < 224) : PMod8Extends.pilcrowref06_Begins.f (k + 5) q = PMod8Extends.pilcrowref06_Begins.j4 (k + 4) q (b - 192) 2 := by
  rw [PMod8Extends.pilcrowref06_Begins.f, if_pos (by omega), hb, show b % 4294967296 = b by omega, if_pos (by omega), decide_eq_true (by omega), PMod8Extends.pilcrowref06_Begins.j0, if_pos rfl, show (b - 192) % 4294967296 = b - 192 by omega]
theorem head_3 (k : Nat) (q : ByteArray) (b : Int) (hb : bt q 0 = b) (hs : 1 ≤ q.size) (h0 : 224 ≤ b) (h1 : b < 240) : PMod8Extends.pilcrowref06_Begins.f (k + 5) q = PMod8Extends.pilcrowref06_Begins.j4 (k + 3) q (b - 224) 3 := by
  rw [PMod8Extends.pilcrowref06_Begins.f, if_pos (by omega), hb, show b % 4294967296 = b by omega, if_pos (by omega), decide_eq_false (by omega), PMod8Extends.pilcrowref06_Begins.j0, if_neg (by decide), if_pos (by omega), decide_eq_true (by omega), PMod8Extends.pilcrowref06_Begins.j1, if_pos rfl, show (b - 224) % 4294967296 = b - 224 by omega]
theorem head_4 (k : Nat) (q : ByteArray) (b : Int) (hb : bt q 0 = b) (hs : 1 ≤ q.size) (h0 : 240 ≤ b) (h1 : b < 248) : PMod8Extends.pilcrowref06_Begins.f (k + 5) q = PMod8Extends.pilcrowref06_Begins.j4 (k + 2) q (b - 240) 4 := by
  rw [PMod8Extends.pilcrowref06_Begins.f, if_pos (by omega), hb, show b % 4294967296 = b by omega, if_pos (by omega), decide_eq_false (by omega), PMod8Extends.pilcrowref06_Begins.j0, if_neg (by decide), if_pos (by omega), decide_eq_false (by omega), PMod8Extends.pilcrowref06_Begins.j1, if_neg (by decide), if_pos (by omega), decide_eq_true (by omega), PMod8Extends.pilcrowref06_Begins.j2, if_pos rfl, show (b - 240) % 4294967296 = b - 240 by omega]
theorem head_5 (k : Nat) (q : ByteArray) (b : Int) (hb : bt q 0 = b) (hs : 1 ≤ q.size) (h0 : 248 ≤ b) (h1 : b < 252) : PMod8Extends.pilcrowref06_Begins.f (k + 5) q = PMod8Extends.pilcrowref06_Begins.j4 (k + 1) q (b - 248) 5 := by
  rw [PMod8Extends.pilcrowref06_Begins.f, if_pos (by omega), hb, show b % 4294967296 = b by omega, if_pos (by omega), decide_eq_false (by omega), PMod8Extends.pilcrowref06_Begins.j0, if_neg (by decide), if_pos (by omega), decide_eq_false (by omega), PMod8Extends.pilcrowref06_Begins.j1, if_neg (by decide), if_pos (by omega), decide_eq_false (by omega), PMod8Extends.pilcrowref06_Begins.j2, if_neg (by decide), if_pos (by omega), decide_eq_true (by omega), PMod8Extends.pilcrowref06_Begins.j3, if_pos rfl, show (b - 248) % 4294967296 = b - 248 by omega]
theorem head_no (k : Nat) (q : ByteArray) (b : Int) (hb : bt q 0 = b) (hs : 1 ≤ q.size) (h0 : 252 ≤ b) (h1 : b ≤ 255) : PMod8Extends.pilcrowref06_Begins.f (k + 5) q = some (0, false) := by
  rw [PMod8Extends.pilcrowref06_Begins.f, if_pos (by omega), hb, show b % 4294967296 = b by omega, if_pos (by omega), decide_eq_false (by omega), PMod8Extends.pilcrowref06_Begins.j0, if_neg (by decide), if_pos (by omega), decide_eq_false (by omega), PMod8Extends.pilcrowref06_Begins.j1, if_neg (by decide), if_pos (by omega), decide_eq_false (by omega), PMod8Extends.pilcrowref06_Begins.j2, if_neg (by decide), if_pos (by omega), decide_eq_false (by omega), PMod8Extends.pilcrowref06_Begins.j3, if_neg (by decide), if_pos (by omega)]
/-- What a beginning was, where it was one. -/
def Pre : List Int → Prop
  | [b] => 0 ≤ b ∧ b ≤ 255
  | [b, x] => (197 ≤ b ∧ b ≤ 249) ∧ 0 ≤ x ∧ x ≤ 255
  | [b, x, y] => (224 ≤ b ∧ b ≤ 249) ∧ (160 ≤ x ∧ x ≤ 191) ∧ 0 ≤ y ∧ y ≤ 255
  | [b, x, y, z] => (240 ≤ b ∧ b ≤ 249) ∧ (160 ≤ x ∧ x ≤ 191) ∧ (160 ≤ y ∧ y ≤ 191) ∧ 0 ≤ z ∧ z ≤ 255
  | [b, x, y, z, t] => (248 ≤ b ∧ b ≤ 249) ∧ (160 ≤ x ∧ x ≤ 191) ∧ (160 ≤ y ∧ y ≤ 191) ∧ (160 ≤ z ∧ z ≤ 191) ∧ 0 ≤ t ∧ t ≤ 255
  | _ => False
theorem lead_rng {b : Int} (h : isLead b) : 197 ≤ b ∧ b ≤ 249 := by unfold isLead at h; omega
theorem sim_pre {s : CS} {q : List Int} {b : Int} (h : Sim s q) (h0 : 0 ≤ b) (h1 : b ≤ 255) : Pre (q ++ [b]) := by
  match q, h with
  | [], _ => exact ⟨h0, h1⟩
  | [x], h => exact ⟨lead_rng h.1, h0, h1⟩
  | [x, y], h => exact ⟨⟨h.1.2, (lead_rng h.1.1).2⟩, h.2.1, h0, h1⟩
  | [x, y, z], h => exact ⟨⟨h.1.2, (lead_rng h.1.1).2⟩, h.2.1, h.2.2.2.1, h0, h1⟩
  | [x, y, z, t], h => exact ⟨⟨h.1.2, (lead_rng h.1.1).2⟩, h.2.1, h.2.2.2.1, h.2.2.2.2.1, h0, h1⟩
theorem sim_pre0 {s : CS} {q : List Int} (h : Sim s q) (hq : q ≠ []) : Pre q := by
  match q, h, hq with
  | [b], h, _ => have := lead_rng h.1; exact ⟨by omega, by omega⟩
  | [b, x], h, _ => have := h.2.1; exact ⟨lead_rng h.1.1, by omega, by omega⟩
  | [b, x, y], h, _ => have := h.2.2.2.1; exact ⟨⟨by have := h.1.2; omega, (lead_rng h.1.1).2⟩, h.2.1, by omega, by omega⟩
  | [b, x, y, z], h, _ => have := h.2.2.2.2.1; exact ⟨⟨by have := h.1.2; omega, (lead_rng h.1.1).2⟩, h.2.1, h.2.2.2.1, by omega, by omega⟩
theorem begins_at (k : Nat) (q : ByteArray) (h : Pre (bytesOf q)) : PMod8Extends.pilcrowref06_Begins.f (k + 15) q = some (begF (bytesOf q)) := by
  have hq := bytesOf_bt q
  have hlen := bytesOf_length q
  generalize hl : bytesOf q = l at *
  match l, h with
  | [b], h =>
    obtain ⟨h0, h1⟩ := h
    have hs : q.size = 1 := hlen.symm
    rw [hs] at hq
    have e0 : bt q 0 = b := by
      have : [b] = [bt q 0] := hq
      simpa using this.symm
    by_cases c1 : b < 160
    · rw [head_1 (k + 10) q b e0 (by omega) h0 c1, j4_at _ _ _ _ (by omega), l_end _ _ _ _ _ _ (by omega) (by omega) rfl]
      simp only [begF, if_pos c1]
    by_cases c2 : b < 192
    · rw [head_bad (k + 10) q b e0 (by omega) (by omega) c2]
      simp only [begF, if_neg c1, if_pos c2]
    by_cases c3 : b < 224
    · rw [head_2 (k + 10) q b e0 (by omega) (by omega) c3, j4_at _ _ _ _ (by omega), l_out _ _ _ _ _ _ (by omega) (by omega) (by omega) (by omega) (by omega) (by omega), l_end _ _ _ _ _ _ (by omega) (by omega) (by omega)]
      simp only [begF, if_neg c1, if_neg c2, if_pos c3]
      try (congr 2 <;> omega)
    by_cases c4 : b < 240
    · rw [head_3 (k + 10) q b e0 (by omega) (by omega) c4, j4_at _ _ _ _ (by omega), l_out _ _ _ _ _ _ (by omega) (by omega) (by omega) (by omega) (by omega) (by omega), l_out _ _ _ _ _ _ (by omega) (by omega) (by omega) (by omega) (by omega) (by omega), l_end _ _ _ _ _ _ (by omega) (by omega) (by omega)]
      simp only [begF, if_neg c1, if_neg c2, if_neg c3, if_pos c4]
      try (congr 2 <;> omega)
    by_cases c5 : b < 248
    · rw [head_4 (k + 10) q b e0 (by omega) (by omega) c5, j4_at _ _ _ _ (by omega), l_out _ _ _ _ _ _ (by omega) (by omega) (by omega) (by omega) (by omega) (by omega), l_out _ _ _ _ _ _ (by omega) (by omega) (by omega) (by omega) (by omega) (by omega), l_out _ _ _ _ _ _ (by omega) (by omega) (by omega) (by omega) (by omega) (by omega), l_end _ _ _ _ _ _ (by omega) (by omega) (by omega)]
      simp only [begF, if_neg c1, if_neg c2, if_neg c3, if_neg c4, if_pos c5]
      try (congr 2 <;> omega)
    by_cases c6 : b < 252
    · rw [head_5 (k + 10) q b e0 (by omega) (by omega) c6, j4_at _ _ _ _ (by omega), l_out _ _ _ _ _ _ (by omega) (by omega) (by omega) (by omega) (by omega) (by omega), l_out _ _ _ _ _ _ (by omega) (by omega) (by omega) (by omega) (by omega) (by omega), l_out _ _ _ _ _ _ (by omega) (by omega) (by omega) (by omega) (by omega) (by omega), l_out _ _ _ _ _ _ (by omega) (by omega) (by omega) (by omega) (by omega) (by omega), l_end _ _ _ _ _ _ (by omega) (by omega) (by omega)]
      simp only [begF, if_neg c1, if_neg c2, if_neg c3, if_neg c4, if_neg c5, if_pos c6]
      try (congr 2 <;> omega)
    · rw [head_no (k + 10) q b e0 (by omega) (by omega) h1]
      simp only [begF, if_neg c1, if_neg c2, if_neg c3, if_neg c4, if_neg c5, if_neg c6]
  | [b, x], h =>
    obtain ⟨⟨h0, h1⟩, hx0, hx1⟩ := h
    have hs : q.size = 2 := hlen.symm
    rw [hs] at hq
    have e : [b, x] = [bt q 0, bt q 1] := hq
    simp only [List.cons.injEq, and_true] at e
    obtain ⟨e0, e1⟩ := e
    have f1 : bt q (1) = x := e1.symm
    by_cases hr : x < 160 ∨ 191 < x
    · simp only [begF, if_pos hr]
      by_cases c3 : b < 224
      · rw [head_2 (k + 10) q b e0.symm (by omega) (by omega) c3, j4_at _ _ _ _ (by omega), l_bad _ _ _ _ _ _ x f1 (by omega) (by omega) (by omega) hr]
      by_cases c4 : b < 240
      · rw [head_3 (k + 10) q b e0.symm (by omega) (by omega) c4, j4_at _ _ _ _ (by omega), l_bad _ _ _ _ _ _ x f1 (by omega) (by omega) (by omega) hr]
      by_cases c5 : b < 248
      · rw [head_4 (k + 10) q b e0.symm (by omega) (by omega) c5, j4_at _ _ _ _ (by omega), l_bad _ _ _ _ _ _ x f1 (by omega) (by omega) (by omega) hr]
      rw [head_5 (k + 10) q b e0.symm (by omega) (by omega) (by omega), j4_at _ _ _ _ (by omega), l_bad _ _ _ _ _ _ x f1 (by omega) (by omega) (by omega) hr]
    · simp only [begF, if_neg hr]
      by_cases c3 : b < 224
      · rw [head_2 (k + 10) q b e0.symm (by omega) (by omega) c3, j4_at _ _ _ _ (by omega), l_in _ _ _ _ _ _ x f1 (by omega) (by omega) (by omega) (by omega) (by omega) (by omega) (by omega), l_end _ _ _ _ _ _ (by omega) (by omega) (by omega), if_pos c3]
        try (congr 2 <;> omega)
      by_cases c4 : b < 240
      · rw [head_3 (k + 10) q b e0.symm (by omega) (by omega) c4, j4_at _ _ _ _ (by omega), l_in _ _ _ _ _ _ x f1 (by omega) (by omega) (by omega) (by omega) (by omega) (by omega) (by omega), l_out _ _ _ _ _ _ (by omega) (by omega) (by omega) (by omega) (by omega) (by omega), l_end _ _ _ _ _ _ (by omega) (by omega) (by omega), if_neg c3, if_pos c4]
        try (congr 2 <;> omega)
      by_cases c5 : b < 248
      · rw [head_4 (k + 10) q b e0.symm (by omega) (by omega) c5, j4_at _ _ _ _ (by omega), l_in _ _ _ _ _ _ x f1 (by omega) (by omega) (by omega) (by omega) (by omega) (by omega) (by omega), l_out _ _ _ _ _ _ (by omega) (by omega) (by omega) (by omega) (by omega) (by omega), l_out _ _ _ _ _ _ (by omega) (by omega) (by omega) (by omega) (by omega) (by omega), l_end _ _ _ _ _ _ (by omega) (by omega) (by omega), if_neg c3, if_neg c4, if_pos c5]
        try (congr 2 <;> omega)
      rw [head_5 (k + 10) q b e0.symm (by omega) (by omega) (by omega), j4_at _ _ _ _ (by omega), l_in _ _ _ _ _ _ x f1 (by omega) (by omega) (by omega) (by omega) (by omega) (by omega) (by omega), l_out _ _ _ _ _ _ (by omega) (by omega) (by omega) (by omega) (by omega) (by omega), l_out _ _ _ _ _ _ (by omega) (by omega) (by omega) (by omega) (by omega) (by omega), l_out _ _ _ _ _ _ (by omega) (by omega) (by omega) (by omega) (by omega) (by omega), l_end _ _ _ _ _ _ (by omega) (by omega) (by omega), if_neg c3, if_neg c4, if_neg c5]
      try (congr 2 <;> omega)
  | [b, x, y], h =>
    obtain ⟨⟨h0, h1⟩, ⟨hx0, hx1⟩, hy0, hy1⟩ := h
    have hs : q.size = 3 := hlen.symm
    rw [hs] at hq
    have e : [b, x, y] = [bt q 0, bt q 1, bt q 2] := hq
    simp only [List.cons.injEq, and_true] at e
    obtain ⟨e0, e1, e2⟩ := e
    have f1 : bt q (1) = x := e1.symm
    have f2 : bt q (1 + 1) = y := e2.symm
    by_cases hr : y < 160 ∨ 191 < y
    · simp only [begF, if_pos hr]
      by_cases c4 : b < 240
      · rw [head_3 (k + 10) q b e0.symm (by omega) (by omega) c4, j4_at _ _ _ _ (by omega), l_in _ _ _ _ _ _ x f1 (by omega) (by omega) (by omega) (by omega) (by omega) (by omega) (by omega), l_bad _ _ _ _ _ _ y f2 (by omega) (by omega) (by omega) hr]
      by_cases c5 : b < 248
      · rw [head_4 (k + 10) q b e0.symm (by omega) (by omega) c5, j4_at _ _ _ _ (by omega), l_in _ _ _ _ _ _ x f1 (by omega) (by omega) (by omega) (by omega) (by omega) (by omega) (by omega), l_bad _ _ _ _ _ _ y f2 (by omega) (by omega) (by omega) hr]
      rw [head_5 (k + 10) q b e0.symm (by omega) (by omega) (by omega), j4_at _ _ _ _ (by omega), l_in _ _ _ _ _ _ x f1 (by omega) (by omega) (by omega) (by omega) (by omega) (by omega) (by omega), l_bad _ _ _ _ _ _ y f2 (by omega) (by omega) (by omega) hr]
    · simp only [begF, if_neg hr]
      by_cases c4 : b < 240
      · rw [head_3 (k + 10) q b e0.symm (by omega) (by omega) c4, j4_at _ _ _ _ (by omega), l_in _ _ _ _ _ _ x f1 (by omega) (by omega) (by omega) (by omega) (by omega) (by omega) (by omega), l_in _ _ _ _ _ _ y f2 (by omega) (by omega) (by omega) (by omega) (by omega) (by omega) (by omega), l_end _ _ _ _ _ _ (by omega) (by omega) (by omega), if_pos c4]
        try (congr 2 <;> omega)
      by_cases c5 : b < 248
      · rw [head_4 (k + 10) q b e0.symm (by omega) (by omega) c5, j4_at _ _ _ _ (by omega), l_in _ _ _ _ _ _ x f1 (by omega) (by omega) (by omega) (by omega) (by omega) (by omega) (by omega), l_in _ _ _ _ _ _ y f2 (by omega) (by omega) (by omega) (by omega) (by omega) (by omega) (by omega), l_out _ _ _ _ _ _ (by omega) (by omega) (by omega) (by omega) (by omega) (by omega), l_end _ _ _ _ _ _ (by omega) (by omega) (by omega), if_neg c4, if_pos c5]
        try (congr 2 <;> omega)
      rw [head_5 (k + 10) q b e0.symm (by omega) (by omega) (by omega), j4_at _ _ _ _ (by omega), l_in _ _ _ _ _ _ x f1 (by omega) (by omega) (by omega) (by omega) (by omega) (by omega) (by omega), l_in _ _ _ _ _ _ y f2 (by omega) (by omega) (by omega) (by omega) (by omega) (by omega) (by omega), l_out _ _ _ _ _ _ (by omega) (by omega) (by omega) (by omega) (by omega) (by omega), l_out _ _ _ _ _ _ (by omega) (by omega) (by omega) (by omega) (by omega) (by omega), l_end _ _ _ _ _ _ (by omega) (by omega) (by omega), if_neg c4, if_neg c5]
      try (congr 2 <;> omega)
  | [b, x, y, z], h =>
    obtain ⟨⟨h0, h1⟩, ⟨hx0, hx1⟩, ⟨hy0, hy1⟩, hz0, hz1⟩ := h
    have hs : q.size = 4 := hlen.symm
    rw [hs] at hq
    have e : [b, x, y, z] = [bt q 0, bt q 1, bt q 2, bt q 3] := hq
    simp only [List.cons.injEq, and_true] at e
    obtain ⟨e0, e1, e2, e3⟩ := e
    have f1 : bt q (1) = x := e1.symm
    have f2 : bt q (1 + 1) = y := e2.symm
    have f3 : bt q (1 + 1 + 1) = z := e3.symm
    by_cases hr : z < 160 ∨ 191 < z
    · simp only [begF, if_pos hr]
      by_cases c5 : b < 248
      · rw [head_4 (k + 10) q b e0.symm (by omega) (by omega) c5, j4_at _ _ _ _ (by omega), l_in _ _ _ _ _ _ x f1 (by omega) (by omega) (by omega) (by omega) (by omega) (by omega) (by omega), l_in _ _ _ _ _ _ y f2 (by omega) (by omega) (by omega) (by omega) (by omega) (by omega) (by omega), l_bad _ _ _ _ _ _ z f3 (by omega) (by omega) (by omega) hr]
      rw [head_5 (k + 10) q b e0.symm (by omega) (by omega) (by omega), j4_at _ _ _ _ (by omega), l_in _ _ _ _ _ _ x f1 (by omega) (by omega) (by omega) (by omega) (by omega) (by omega) (by omega), l_in _ _ _ _ _ _ y f2 (by omega) (by omega) (by omega) (by omega) (by omega) (by omega) (by omega), l_bad _ _ _ _ _ _ z f3 (by omega) (by omega) (by omega) hr]
    · simp only [begF, if_neg hr]
      by_cases c5 : b < 248
      · rw [head_4 (k + 10) q b e0.symm (by omega) (by omega) c5, j4_at _ _ _ _ (by omega), l_in _ _ _ _ _ _ x f1 (by omega) (by omega) (by omega) (by omega) (by omega) (by omega) (by omega), l_in _ _ _ _ _ _ y f2 (by omega) (by omega) (by omega) (by omega) (by omega) (by omega) (by omega), l_in _ _ _ _ _ _ z f3 (by omega) (by omega) (by omega) (by omega) (by omega) (by omega) (by omega), l_end _ _ _ _ _ _ (by omega) (by omega) (by omega), if_pos c5]
        try (congr 2 <;> omega)
      rw [head_5 (k + 10) q b e0.symm (by omega) (by omega) (by omega), j4_at _ _ _ _ (by omega), l_in _ _ _ _ _ _ x f1 (by omega) (by omega) (by omega) (by omega) (by omega) (by omega) (by omega), l_in _ _ _ _ _ _ y f2 (by omega) (by omega) (by omega) (by omega) (by omega) (by omega) (by omega), l_in _ _ _ _ _ _ z f3 (by omega) (by omega) (by omega) (by omega) (by omega) (by omega) (by omega), l_out _ _ _ _ _ _ (by omega) (by omega) (by omega) (by omega) (by omega) (by omega), l_end _ _ _ _ _ _ (by omega) (by omega) (by omega), if_neg c5]
      try (congr 2 <;> omega)
  | [b, x, y, z, t], h =>
    obtain ⟨⟨h0, h1⟩, ⟨hx0, hx1⟩, ⟨hy0, hy1⟩, ⟨hz0, hz1⟩, ht0, ht1⟩ := h
    have hs : q.size = 5 := hlen.symm
    rw [hs] at hq
    have e : [b, x, y, z, t] = [bt q 0, bt q 1, bt q 2, bt q 3, bt q 4] := hq
    simp only [List.cons.injEq, and_true] at e
    obtain ⟨e0, e1, e2, e3, e4⟩ := e
    have f1 : bt q (1) = x := e1.symm
    have f2 : bt q (1 + 1) = y := e2.symm
    have f3 : bt q (1 + 1 + 1) = z := e3.symm
    have f4 : bt q (1 + 1 + 1 + 1) = t := e4.symm
    by_cases hr : t < 160 ∨ 191 < t
    · simp only [begF, if_pos hr]
      rw [head_5 (k + 10) q b e0.symm (by omega) (by omega) (by omega), j4_at _ _ _ _ (by omega), l_in _ _ _ _ _ _ x f1 (by omega) (by omega) (by omega) (by omega) (by omega) (by omega) (by omega), l_in _ _ _ _ _ _ y f2 (by omega) (by omega) (by omega) (by omega) (by omega) (by omega) (by omega), l_in _ _ _ _ _ _ z f3 (by omega) (by omega) (by omega) (by omega) (by omega) (by omega) (by omega), l_bad _ _ _ _ _ _ t f4 (by omega) (by omega) (by omega) hr]
    · simp only [begF, if_neg hr]
      rw [head_5 (k + 10) q b e0.symm (by omega) (by omega) (by omega), j4_at _ _ _ _ (by omega), l_in _ _ _ _ _ _ x f1 (by omega) (by omega) (by omega) (by omega) (by omega) (by omega) (by omega), l_in _ _ _ _ _ _ y f2 (by omega) (by omega) (by omega) (by omega) (by omega) (by omega) (by omega), l_in _ _ _ _ _ _ z f3 (by omega) (by omega) (by omega) (by omega) (by omega) (by omega) (by omega), l_in _ _ _ _ _ _ t f4 (by omega) (by omega) (by omega) (by omega) (by omega) (by omega) (by omega), l_end _ _ _ _ _ _ (by omega) (by omega) (by omega)]
      try (congr 2 <;> omega)
theorem size_at (c : Int) : PMod8Extends.pilcrowref06_Size.f c = some (sizeF c) := by
  unfold PMod8Extends.pilcrowref06_Size.f sizeF
  (repeat' split) <;> rfl
/-- The bytes since the last scalar are at most four. -/
theorem sim_len {s : CS} {q : List Int} (h : Sim s q) : q.length ≤ 4 := by
  match q, h with
  | [], _ => simp
  | [x], _ => simp
  | [x, y], _ => simp
  | [x, y, z], _ => simp
  | [x, y, z, t], _ => simp
theorem sim_cut {s : CS} {q : List Int} (h : Sim s q) : ccut s = decide (0 < q.length) := by
  unfold ccut
  match q, h with
  | [], h =>
    have h : s.nd = 0 := h
    rw [h]; rfl
  | [x], h =>
    obtain ⟨k1, rfl⟩ := h
    have := (lead_nd (b := x)).1
    simp; omega
  | [x, y], h =>
    obtain ⟨⟨k1, k2⟩, k3, k4, rfl⟩ := h
    have := (lead_nd (b := x)).2.1 k2
    simp; omega
  | [x, y, z], h =>
    obtain ⟨⟨k1, k2⟩, k3, k4, k5, rfl⟩ := h
    have := (lead_nd (b := x)).2.2.1 k2
    simp; omega
  | [x, y, z, t], h =>
    obtain ⟨⟨k1, k2⟩, k3, k4, k5, k6, rfl⟩ := h
    simp
/-- One round of the reference's Read. -/
theorem read_round (t : ByteArray) (hz : t.size ≤ 1000000) (k fr fuel : Nat) (os : List Int) (hk : k < t.size) (hf : fr ≤ k) (hfl : k - fr ≤ 10) (hos : os.length ≤ 1000000) (hp : Pre (bytesOf (t.extract fr (k + 1)))) :
    PMod8Extends.pilcrowref06_Read.l0 (fuel + 16) t os (fr : Int) (k : Int) = if (begF (bytesOf (t.extract fr (k + 1)))).2 = true then
      (if sizeF (begF (bytesOf (t.extract fr (k + 1)))).1 = ((k + 1 - fr : Nat) : Int) then PMod8Extends.pilcrowref06_Read.l0 (fuel + 15) t (os ++ [(begF (bytesOf (t.extract fr (k + 1)))).1]) ((k + 1 : Nat) : Int) ((k + 1 : Nat) : Int) else PMod8Extends.pilcrowref06_Read.l0 (fuel + 15) t os (fr : Int) ((k + 1 : Nat) : Int)) else some (os, 3, (k : Int)) := by
  have hw : wrap64 (((k + 1 : Nat) : Int) - (fr : Int)) = ((k + 1 - fr : Nat) : Int) := by rw [w64' (by omega) (by omega)]; omega
  rw [PMod8Extends.pilcrowref06_Read.l0, if_pos (by omega), if_pos (by omega), wrap64_nat' k (by omega), if_pos (by omega), if_pos (by omega), Int.toNat_natCast, Int.toNat_natCast, begins_at fuel _ hp, Option.bind_some]
  by_cases h1 : (begF (bytesOf (t.extract fr (k + 1)))).2 = true
  · rw [if_pos h1, if_pos h1, size_at, Option.bind_some, hw]
    by_cases h2 : sizeF (begF (bytesOf (t.extract fr (k + 1)))).1 = ((k + 1 - fr : Nat) : Int)
    · rw [if_pos h2, if_pos h2, if_pos (by omega)]
    · rw [if_neg h2, if_neg h2]
  · rw [if_neg h1, if_neg h1]
theorem read_loop (t : ByteArray) (hz : t.size ≤ 1000000) (s0 : CS) (m : Nat) (fin : CS) (out : List Int) (hm : m ≤ t.size) (hrun : run cnx s0 ((bytesOf t).take m) = some (fin, out)) (hend : m = t.size ∨ (m < t.size ∧ cnx fin (bt t m) = none)) (d : Nat) :
    ∀ (k fr fuel : Nat) (s : CS) (os : List Int), t.size - k = d → k ≤ m → fr ≤ k → run cnx s0 ((bytesOf t).take k) = some (s, os) → Sim s (((bytesOf t).take k).drop fr) → os.length ≤ k → d + 16 ≤ fuel →
    PMod8Extends.pilcrowref06_Read.l0 fuel t os (fr : Int) (k : Int) = some (out, if m < t.size then 3 else if ccut fin = true then 4 else 0, (m : Int)) := by
  have hL := bytesOf_length t
  induction d with
  | zero =>
    intro k fr fuel s os hd hk hfr hr hsim hos hf
    obtain ⟨fuel, rfl⟩ : ∃ q, fuel = q + 1 := ⟨fuel - 1, by omega⟩
    obtain rfl : k = m := by omega
    rw [hr] at hrun
    simp only [Option.some.injEq, Prod.mk.injEq] at hrun
    obtain ⟨rfl, rfl⟩ := hrun
    have hc := sim_cut hsim
    rw [List.length_drop, List.length_take] at hc
    rw [PMod8Extends.pilcrowref06_Read.l0, if_neg (by omega), if_neg (by omega : ¬ k < t.size), show (t.size : Int) = k by omega]
    by_cases h4 : fr < k
    · rw [if_pos (by omega), hc, decide_eq_true (by omega), if_pos rfl]
    · rw [if_neg (by omega), hc, decide_eq_false (by omega), if_neg (by decide)]
  | succ d ih =>
    intro k fr fuel s os hd hk hfr hr hsim hos hf
    obtain ⟨fuel, rfl⟩ : ∃ q, fuel = q + 16 := ⟨fuel - 16, by omega⟩
    have hks : k < t.size := by omega
    have hb := bt_range t k
    have hlen := sim_len hsim
    have hql : (((bytesOf t).take k).drop fr).length = k - fr := by rw [List.length_drop, List.length_take]; omega
    obtain ⟨hq, hqs⟩ := bytes_mid t fr (k + 1) (by omega) (by omega)
    have hq2 : bytesOf (t.extract fr (k + 1)) = ((bytesOf t).take k).drop fr ++ [bt t k] := by
      rw [hq, take_bt t k hks, List.drop_append_of_le_length (by rw [List.length_take]; omega)]
    have hq3 : ((((bytesOf t).take k).drop fr ++ [bt t k]).length : Int) = ((k + 1 - fr : Nat) : Int) := by rw [List.length_append, hql, List.length_singleton]; omega
    have hsn : run cnx s0 ((bytesOf t).take (k + 1)) = (cnx s (bt t k)).map fun p => (p.1, os ++ p.2.toList) := by
      rw [take_bt t k hks, run_snoc, hr]; rfl
    have hd1 : ((bytesOf t).take (k + 1)).drop fr = ((bytesOf t).take k).drop fr ++ [bt t k] := hq.symm.trans hq2
    have hkm : ∀ p, cnx s (bt t k) = some p → k < m := by
      intro p hp
      rcases Nat.lt_or_ge k m with h9 | h9
      · exact h9
      · obtain rfl : k = m := by omega
        rw [hr] at hrun
        simp only [Option.some.injEq, Prod.mk.injEq] at hrun
        obtain ⟨rfl, rfl⟩ := hrun
        rcases hend with h8 | ⟨_, h8⟩
        · omega
        · rw [hp] at h8; cases h8
    have hpre := sim_pre hsim hb.1 hb.2
    rw [read_round t hz k fr fuel os hks hfr (by omega) (by omega) (by rw [hq2]; exact hpre), hq2]
    rcases (sim_step hsim hb.1 hb.2).1 with ⟨h1, hc⟩ | ⟨h1, h2, s', hc, hs'⟩ | ⟨h1, h2, s', hc, hs'⟩
    · rw [hc] at hsn
      have hkm2 : k = m := by
        rcases Nat.lt_or_ge k m with h9 | h9
        · rw [run_none (k := k + 1) h9 (by rw [hsn]; rfl)] at hrun; cases hrun
        · omega
      subst hkm2
      rw [hr] at hrun
      simp only [Option.some.injEq, Prod.mk.injEq] at hrun
      obtain ⟨rfl, rfl⟩ := hrun
      rw [h1, if_neg (by decide), if_pos hks]
    · rw [hc] at hsn
      rw [hq3] at h2
      rw [h1, if_pos rfl, if_neg h2]
      refine ih (k + 1) fr (fuel + 15) s' os (by omega) (hkm _ hc) (by omega) ?_ (by rw [hd1]; exact hs') (by omega) (by omega)
      rw [hsn]
      simp
    · rw [hc] at hsn
      rw [hq3] at h2
      rw [h1, if_pos rfl, if_pos h2]
      refine ih (k + 1) (k + 1) (fuel + 15) s' _ (by omega) (hkm _ hc) (by omega) (by rw [hsn]; rfl) ?_ (by rw [List.length_append, List.length_singleton]; omega) (by omega)
      rw [List.drop_eq_nil_of_le (by rw [List.length_take]; omega)]
      exact hs'
theorem readF_at (t : ByteArray) (hz : t.size ≤ 1000000) (m : Nat) (fin : CS) (out : List Int) (hm : m ≤ t.size) (hrun : run cnx st0 ((bytesOf t).take m) = some (fin, out)) (hend : m = t.size ∨ (m < t.size ∧ cnx fin (bt t m) = none)) :
    PMod8Extends.pilcrowref06_Read.f (t.size + 16) t = some (out, if m < t.size then 3 else if ccut fin = true then 4 else 0, (m : Int)) := by
  rw [PMod8Extends.pilcrowref06_Read.f]
  exact read_loop t hz st0 m fin out hm hrun hend t.size 0 0 _ st0 [] (by omega) (by omega) (by omega) rfl (by simpa using sim0) (by simp) (by omega)
end Go.Proofs.Ytcfpbihkodjlkaa.M
namespace Go.Proofs.Ytcfpbihkodjlkaa.M
open Go.RowKit Go.Proofs.YtcfpbihkodjlkaaW.PrintWords Go.Proofs.YtcfpbihkodjlkaaW.PrintMore
set_option linter.unusedVariables false
set_option linter.unusedSimpArgs false
theorem isF2_at (c : Int) : PEbcdicWrites.pilcrowref01_Is.f c = some (isB c) := by
  unfold PEbcdicWrites.pilcrowref01_Is.f isB
  (repeat' split) <;> congr 1 <;> (rw [Bool.eq_iff_iff]; simp; omega)
theorem first_loop (ls : List Int) (hz : ls.length ≤ 1000000) (m : Nat) (hm : m ≤ ls.length) (hall : ∀ c ∈ ls.take m, isB c = true) (hend : m = ls.length ∨ isB (ls.getD m 0) = false) (d : Nat) :
    ∀ (i fuel : Nat), m - i = d → i ≤ m → d + 1 ≤ fuel → PEbcdicWrites.pilcrowref01_First.l0 fuel ls (i : Int) = some (if m < ls.length then (m : Int) else -1) := by
  induction d with
  | zero =>
    intro i fuel hd hi hf
    obtain ⟨fuel, rfl⟩ : ∃ q, fuel = q + 1 := ⟨fuel - 1, by omega⟩
    obtain rfl : i = m := by omega
    rw [PEbcdicWrites.pilcrowref01_First.l0]
    by_cases h1 : i < ls.length
    · rw [if_pos (by omega), if_pos (by omega), if_pos h1, isF2_at, rd_nat, Option.bind_some]
      rcases hend with h2 | h2
      · omega
      · rw [h2]; rfl
    · rw [if_neg (by omega), if_neg h1]
  | succ d ih =>
    intro i fuel hd hi hf
    obtain ⟨fuel, rfl⟩ : ∃ q, fuel = q + 1 := ⟨fuel - 1, by omega⟩
    have h1 : isB (ls.getD i 0) = true := by
      refine hall _ ?_
      rw [List.getD_eq_getElem?_getD, List.getElem?_eq_getElem (by omega)]
      exact List.mem_take_iff_getElem.2 ⟨i, by omega, rfl⟩
    rw [PEbcdicWrites.pilcrowref01_First.l0, if_pos (by omega), if_pos (by omega), isF2_at, rd_nat, Option.bind_some, h1, if_pos rfl, w64 (by omega) (by omega), show (i : Int) + 1 = ((i + 1 : Nat) : Int) by omega]
    exact ih (i + 1) fuel (by omega) (by omega) (by omega)
theorem first_any {w : World} {A0 : Option Addr} {n0 c0 : Nat} {ls : List Int} (h0 : ReadsInt w .u32 A0 n0 ls) (hc0 : n0 ≤ c0) (hz : n0 ≤ 1000000) (m : Nat) (hm : m ≤ ls.length) (hall : ∀ c ∈ ls.take m, isB c = true) (hend : m = ls.length ∨ isB (ls.getD m 0) = false) :
    Calls Try.prog 24 #[.slice A0 n0 c0] w fun e w' => e = .returned (.int .i64 (if m < ls.length then (m : Int) else -1)) ∧ ∃ n, w' = w.drewN n := by
  obtain rfl : ls.length = n0 := h0.1
  exact (PEbcdicWrites.pilcrowref01_First.calls _ A0 c0 ls _ w (Kd.C_of_reads (d := 0) h0) hc0 (first_loop ls hz m hm hall hend _ 0 _ rfl (Nat.zero_le _) (Nat.le_refl _))).mono fun e w' ⟨he, hd⟩ => ⟨he, hd.out⟩
/-- A scalar's bytes, by the reference. -/
theorem one_at (k : Nat) (c : Int) (h0 : 0 ≤ c) (hc : isB c = true) : PMod8Extends.pilcrowref06_One.f (k + 9) c = some (strOfNums (rby c)) := by
  have hr := isB_range hc
  have hm : ∀ a : Int, 0 ≤ a → Int.tmod a 32 = a % 32 := fun a ha => Int.tmod_eq_emod_of_nonneg ha
  have hd : ∀ a : Int, 0 ≤ a → Int.tdiv a 32 = a / 32 := fun a ha => Int.tdiv_eq_ediv_of_nonneg ha
  have step : ∀ (q : Nat) (a n i : Int) (l : List Int), 0 ≤ a → a ≤ 1114111 → 0 ≤ i → i < n → n ≤ 5 → l.length ≤ 5 → PMod8Extends.pilcrowref06_One.l0 (q + 1) a n l i = PMod8Extends.pilcrowref06_One.l0 q (a / 32) n ((160 + a % 32) :: l) (i + 1) := by
    intro q a n i l ha0 ha1 hi hin hn hl
    rw [PMod8Extends.pilcrowref06_One.l0, if_pos hin, Option.bind_some, if_pos (by simp; omega), hm a ha0, hd a ha0, w64 (x := i + 1) (by omega) (by omega), show a / 32 % 4294967296 = a / 32 by omega, show (160 + a % 32) % 4294967296 % 256 = 160 + a % 32 by omega]
    rfl
  have fin : ∀ (q : Nat) (a n v : Int) (l : List Int), rd ([0, 0, 192, 224, 240, 248] : List Int) n = v → 0 ≤ n → n < 6 → 0 ≤ a → 0 ≤ v → v + a ≤ 255 → l.length ≤ 5 → PMod8Extends.pilcrowref06_One.l0 (q + 1) a n l n = some (strOfNums ((v + a) :: l)) := by
    intro q a n v l hv h0 h1 ha hv0 hva hl
    rw [PMod8Extends.pilcrowref06_One.l0, if_neg (by omega), Option.bind_some, if_pos h0, if_pos (by show n < 6; exact h1), Option.bind_some, if_pos (by simp; omega), hv, show (v + a) % 4294967296 % 256 = v + a by omega]
    rfl
  rw [PMod8Extends.pilcrowref06_One.f, size_at, Option.bind_some]
  by_cases c1 : c < 160
  · rw [size1 c1, if_pos rfl, rby1 c1, show c % 256 = c by omega]
  by_cases c2 : c < 1024
  · rw [size2 (by omega) (by omega), if_neg (by decide), rby2 (by omega) (by omega)]
    rw [step _ _ _ _ _ (by omega) (by omega) (by decide) (by decide) (by decide) (by simp)]
    refine (fin _ _ 2 192 _ rfl (by decide) (by decide) (by omega) (by decide) (by omega) (by simp)).trans ?_
    rfl
  by_cases c3 : c < 16384
  · rw [size3 (by omega) (by omega), if_neg (by decide), rby3 (by omega) (by omega)]
    rw [step _ _ _ _ _ (by omega) (by omega) (by decide) (by decide) (by decide) (by simp)]
    rw [step _ _ _ _ _ (by omega) (by omega) (by decide) (by decide) (by decide) (by simp)]
    refine (fin _ _ 3 224 _ rfl (by decide) (by decide) (by omega) (by decide) (by omega) (by simp)).trans ?_
    rw [show c / 32 / 32 = c / 1024 by omega]
  by_cases c4 : c < 262144
  · rw [size4 (by omega) (by omega), if_neg (by decide), rby4 (by omega) (by omega)]
    rw [step _ _ _ _ _ (by omega) (by omega) (by decide) (by decide) (by decide) (by simp)]
    rw [step _ _ _ _ _ (by omega) (by omega) (by decide) (by decide) (by decide) (by simp)]
    rw [step _ _ _ _ _ (by omega) (by omega) (by decide) (by decide) (by decide) (by simp)]
    refine (fin _ _ 4 240 _ rfl (by decide) (by decide) (by omega) (by decide) (by omega) (by simp)).trans ?_
    rw [show c / 32 / 32 / 32 = c / 32768 by omega, show c / 32 / 32 = c / 1024 by omega]
  · rw [size5 (by omega), if_neg (by decide), rby5 (by omega)]
    rw [step _ _ _ _ _ (by omega) (by omega) (by decide) (by decide) (by decide) (by simp)]
    rw [step _ _ _ _ _ (by omega) (by omega) (by decide) (by decide) (by decide) (by simp)]
    rw [step _ _ _ _ _ (by omega) (by omega) (by decide) (by decide) (by decide) (by simp)]
    rw [step _ _ _ _ _ (by omega) (by omega) (by decide) (by decide) (by decide) (by simp)]
    refine (fin _ _ 5 248 _ rfl (by decide) (by decide) (by omega) (by decide) (by omega) (by simp)).trans ?_
    rw [show c / 32 / 32 / 32 / 32 = c / 1048576 by omega, show c / 32 / 32 / 32 = c / 32768 by omega, show c / 32 / 32 = c / 1024 by omega]
theorem rby_size (c : Int) : (strOfNums (rby c)).size = (rby c).length := by rw [strOfNums_size]
theorem ofNums_append' (xs ys : List Int) : strOfNums (xs ++ ys) = strOfNums xs ++ strOfNums ys := by
  apply ByteArray.ext
  simp [strOfNums, ByteArray.data_append]
theorem bytes_loop (ls : List Int) (hz : ls.length ≤ 1000000) (hwf : ∀ k, 0 ≤ ls.getD k 0 ∧ ls.getD k 0 ≤ 4294967295) (hsc : ∀ c ∈ ls, isB c = true) (d : Nat) :
    ∀ (i fuel : Nat) (acc : List Int), ls.length - i = d → i ≤ ls.length → d + 10 ≤ fuel → acc.length ≤ 5 * i → PMod8Extends.pilcrowref06_Bytes.l0 fuel ls (strOfNums acc) (i : Int) = some (strOfNums (acc ++ (ls.drop i).flatMap rby)) := by
  induction d with
  | zero =>
    intro i fuel acc hd hi hf ha
    obtain ⟨fuel, rfl⟩ : ∃ q, fuel = q + 1 := ⟨fuel - 1, by omega⟩
    obtain rfl : i = ls.length := by omega
    rw [PMod8Extends.pilcrowref06_Bytes.l0, if_neg (by omega), List.drop_length]
    simp
  | succ d ih =>
    intro i fuel acc hd hi hf ha
    have hw := hwf i
    have hs : isB (ls.getD i 0) = true := by
      refine hsc _ ?_
      rw [List.getD_eq_getElem?_getD, List.getElem?_eq_getElem (by omega)]
      exact List.getElem_mem _
    have hdr : ls.drop i = ls.getD i 0 :: ls.drop (i + 1) := by
      rw [List.drop_eq_getElem_cons (by omega), List.getD_eq_getElem?_getD, List.getElem?_eq_getElem (by omega)]; rfl
    obtain ⟨fuel, rfl⟩ : ∃ q, fuel = q + 10 := ⟨fuel - 10, by omega⟩
    have hi1 : wrap64 ((i : Int) + 1) = ((i + 1 : Nat) : Int) := by rw [w64 (by omega) (by omega)]; omega
    have hb := rby_len (ls.getD i 0)
    rw [hdr, List.flatMap_cons, ← List.append_assoc]
    rw [PMod8Extends.pilcrowref06_Bytes.l0, if_pos (by omega), if_pos (by omega), rd_nat, one_at fuel _ hw.1 hs, Option.bind_some, if_pos (by rw [strOfNums_size, strOfNums_size]; omega), ← ofNums_append', hi1]
    exact ih (i + 1) (fuel + 9) _ (by omega) (by omega) (by omega) (by rw [List.length_append]; omega)
theorem refbytes_any {w : World} {A0 : Option Addr} {n0 c0 : Nat} {ls : List Int} (h0 : ReadsInt w .u32 A0 n0 ls) (hc0 : n0 ≤ c0) (hz : n0 ≤ 1000000) (hwf : ∀ k, 0 ≤ ls.getD k 0 ∧ ls.getD k 0 ≤ 4294967295) (hsc : ∀ c ∈ ls, isB c = true) :
    Calls Try.prog 43 #[.slice A0 n0 c0] w fun e w' => ∃ x, e = .returned (.string x) ∧ bytesOf x = txt ls ∧ Below w.heap.size w w' := by
  obtain rfl : ls.length = n0 := h0.1
  have hl := bytes_loop ls hz hwf hsc _ 0 _ [] rfl (Nat.zero_le _) (Nat.le_refl _) (by simp)
  refine (PMod8Extends.pilcrowref06_Bytes.calls _ A0 c0 ls _ w (Kd.C_of_reads (d := 0) h0) hc0 hl).mono fun e w' ⟨he, hd⟩ => ⟨_, he, ?_, hd⟩
  rw [List.nil_append, List.drop_zero, bytesOf_ofNums]
  intro x hx
  obtain ⟨c, hc, hx2⟩ := List.mem_flatMap.1 hx
  refine rby_range c ?_ (hsc c hc) x hx2
  obtain ⟨k, hk, rfl⟩ := List.mem_iff_getElem.1 hc
  have := hwf k
  rw [List.getD_eq_getElem?_getD, List.getElem?_eq_getElem hk] at this
  exact this.1
theorem erun_txt : ∀ (l : List Int), (∀ c ∈ l, 0 ≤ c ∧ isB c = true) → (erun es0 l).1 = txt l
  | [], _ => rfl
  | c :: l, h => by
    rw [erun]
    show rby c ++ (erun es0 l).1 = (c :: l).flatMap rby
    rw [erun_txt l (fun c hc => h c (by simp [hc])), List.flatMap_cons]
end Go.Proofs.Ytcfpbihkodjlkaa.M
namespace Go.Proofs.Ytcfpbihkodjlkaa.M
open Go.RowKit Go.Proofs.YtcfpbihkodjlkaaW.PrintWords Go.Proofs.YtcfpbihkodjlkaaW.PrintMore
set_option linter.unusedVariables false
set_option linter.unusedSimpArgs false
theorem txt_len (l : List Int) (_ : ∀ c ∈ l, 0 ≤ c ∧ isB c = true) : (txt l).length ≤ 5 * l.length := by
  induction l with
  | nil => simp
  | cons c l ih =>
    have h1 := ih (fun x hx => by rename_i h; exact h x (List.mem_cons_of_mem _ hx))
    have h2 := rby_len c
    show ((c :: l).flatMap rby).length ≤ _
    rw [List.flatMap_cons, List.length_append, List.length_cons]
    show (rby c).length + (txt l).length ≤ _
    omega
/-- A scalar's bytes are read. -/
theorem run_rby {s : CS} (h : Sim s []) (c : Int) (h0 : 0 ≤ c) (hc : isB c = true) : ∃ s', run cnx s (rby c) = some (s', [c]) ∧ Sim s' [] := by
  have h1 := (isB_iff c).1 hc
  have h : s.nd = 0 := h
  by_cases c1 : c < 160
  · refine ⟨s, ?_, h⟩
    have : cnx s c = some (s, some c) := by unfold cnx; rw [if_pos h, if_pos c1]
    rw [rby1 c1]
    simp [run, this]
  by_cases c2 : c < 1024
  · rw [rby2 (by omega) (by omega)]
    have hl := lead2 (b := 192 + c / 32) (by omega)
    have e1 : cnx s (192 + c / 32) = some (leadF (192 + c / 32), none) := by
      unfold cnx; rw [if_pos h, if_neg (by omega), if_pos (by unfold isLead; omega)]
    have e2 : cnx (leadF (192 + c / 32)) (160 + c % 32) = some (⟨0, 192 + c / 32, c, true⟩, some (c)) := by
      rw [cnx_in (by rw [hl]; simp) (by omega) (by omega) (.inr (by rw [lead_fb.1]; exact second_iff.2 (by omega))), hl, if_pos (by simp)]
      have : (192 + c / 32) % 32 * 32 + (160 + c % 32) % 32 = c := by omega
      simp only [this]
      try rfl
    exact ⟨⟨0, 192 + c / 32, c, true⟩, by simp [run, e1, e2], rfl⟩
  by_cases c3 : c < 16384
  · rw [rby3 (by omega) (by omega)]
    have hl := lead3 (b := 224 + c / 1024) (by omega) (by omega)
    have e1 : cnx s (224 + c / 1024) = some (leadF (224 + c / 1024), none) := by
      unfold cnx; rw [if_pos h, if_neg (by omega), if_pos (by unfold isLead; omega)]
    have e2 : cnx (leadF (224 + c / 1024)) (160 + c / 32 % 32) = some (⟨1, 224 + c / 1024, c / 32, true⟩, none) := by
      rw [cnx_in (by rw [hl]; simp) (by omega) (by omega) (.inr (by rw [lead_fb.1]; exact second_iff.2 (by omega))), hl, if_neg (by simp)]
      have : (224 + c / 1024) % 16 * 32 + (160 + c / 32 % 32) % 32 = c / 32 := by omega
      simp only [this]
      try rfl
    have e3 : cnx (⟨1, 224 + c / 1024, c / 32, true⟩) (160 + c % 32) = some (⟨0, 224 + c / 1024, c, true⟩, some (c)) := by
      rw [cnx_in (by simp) (by omega) (by omega) (.inl rfl), if_pos (by simp)]
      have : c / 32 * 32 + (160 + c % 32) % 32 = c := by omega
      simp only [this]
      try rfl
    exact ⟨⟨0, 224 + c / 1024, c, true⟩, by simp [run, e1, e2, e3], rfl⟩
  by_cases c4 : c < 262144
  · rw [rby4 (by omega) (by omega)]
    have hl := lead4 (b := 240 + c / 32768) (by omega) (by omega)
    have e1 : cnx s (240 + c / 32768) = some (leadF (240 + c / 32768), none) := by
      unfold cnx; rw [if_pos h, if_neg (by omega), if_pos (by unfold isLead; omega)]
    have e2 : cnx (leadF (240 + c / 32768)) (160 + c / 1024 % 32) = some (⟨2, 240 + c / 32768, c / 1024, true⟩, none) := by
      rw [cnx_in (by rw [hl]; simp) (by omega) (by omega) (.inr (by rw [lead_fb.1]; exact second_iff.2 (by omega))), hl, if_neg (by simp)]
      have : (240 + c / 32768) % 8 * 32 + (160 + c / 1024 % 32) % 32 = c / 1024 := by omega
      simp only [this]
      try rfl
    have e3 : cnx (⟨2, 240 + c / 32768, c / 1024, true⟩) (160 + c / 32 % 32) = some (⟨1, 240 + c / 32768, c / 32, true⟩, none) := by
      rw [cnx_in (by simp) (by omega) (by omega) (.inl rfl), if_neg (by simp)]
      have : c / 1024 * 32 + (160 + c / 32 % 32) % 32 = c / 32 := by omega
      simp only [this]
      try rfl
    have e4 : cnx (⟨1, 240 + c / 32768, c / 32, true⟩) (160 + c % 32) = some (⟨0, 240 + c / 32768, c, true⟩, some (c)) := by
      rw [cnx_in (by simp) (by omega) (by omega) (.inl rfl), if_pos (by simp)]
      have : c / 32 * 32 + (160 + c % 32) % 32 = c := by omega
      simp only [this]
      try rfl
    exact ⟨⟨0, 240 + c / 32768, c, true⟩, by simp [run, e1, e2, e3, e4], rfl⟩
  · rw [rby5 (by omega)]
    have hl := lead5 (b := 248 + c / 1048576) (by omega)
    have e1 : cnx s (248 + c / 1048576) = some (leadF (248 + c / 1048576), none) := by
      unfold cnx; rw [if_pos h, if_neg (by omega), if_pos (by unfold isLead; omega)]
    have e2 : cnx (leadF (248 + c / 1048576)) (160 + c / 32768 % 32) = some (⟨3, 248 + c / 1048576, c / 32768, true⟩, none) := by
      rw [cnx_in (by rw [hl]; simp) (by omega) (by omega) (.inr (by rw [lead_fb.1]; exact second_iff.2 (by omega))), hl, if_neg (by simp)]
      have : (248 + c / 1048576) % 4 * 32 + (160 + c / 32768 % 32) % 32 = c / 32768 := by omega
      simp only [this]
      try rfl
    have e3 : cnx (⟨3, 248 + c / 1048576, c / 32768, true⟩) (160 + c / 1024 % 32) = some (⟨2, 248 + c / 1048576, c / 1024, true⟩, none) := by
      rw [cnx_in (by simp) (by omega) (by omega) (.inl rfl), if_neg (by simp)]
      have : c / 32768 * 32 + (160 + c / 1024 % 32) % 32 = c / 1024 := by omega
      simp only [this]
      try rfl
    have e4 : cnx (⟨2, 248 + c / 1048576, c / 1024, true⟩) (160 + c / 32 % 32) = some (⟨1, 248 + c / 1048576, c / 32, true⟩, none) := by
      rw [cnx_in (by simp) (by omega) (by omega) (.inl rfl), if_neg (by simp)]
      have : c / 1024 * 32 + (160 + c / 32 % 32) % 32 = c / 32 := by omega
      simp only [this]
      try rfl
    have e5 : cnx (⟨1, 248 + c / 1048576, c / 32, true⟩) (160 + c % 32) = some (⟨0, 248 + c / 1048576, c, true⟩, some (c)) := by
      rw [cnx_in (by simp) (by omega) (by omega) (.inl rfl), if_pos (by simp)]
      have : c / 32 * 32 + (160 + c % 32) % 32 = c := by omega
      simp only [this]
      try rfl
    exact ⟨⟨0, 248 + c / 1048576, c, true⟩, by simp [run, e1, e2, e3, e4, e5], rfl⟩
theorem size_len {c : Int} (h0 : 0 ≤ c) : ((rby c).length : Int) = sizeF c := by
  unfold rby sizeF
  (repeat' split) <;> first | rfl | (exfalso; omega)
theorem back_gen : ∀ (l : List Int) {s : CS}, Sim s [] → (∀ c ∈ l, 0 ≤ c ∧ isB c = true) → ∃ s', run cnx s (txt l) = some (s', l) ∧ Sim s' []
  | [], s, hs, _ => ⟨s, rfl, hs⟩
  | c :: l, s, hs, h => by
    have h1 := h c (by simp)
    obtain ⟨s1, k1, k2⟩ := run_rby hs c h1.1 h1.2
    obtain ⟨s2, k3, k4⟩ := back_gen l k2 (fun c hc => h c (by simp [hc]))
    refine ⟨s2, ?_, k4⟩
    show run cnx s ((c :: l).flatMap rby) = _
    rw [List.flatMap_cons, run_append, k1, Option.bind_some, k3]
    rfl
/-- What is written is read as it was. -/
theorem back_law (l : List Int) (h : ∀ c ∈ l, 0 ≤ c ∧ isB c = true) : ∃ s', run cnx st0 (txt l) = some (s', l) ∧ ccut s' = false := by
  obtain ⟨s', h1, h2⟩ := back_gen l sim0 h
  exact ⟨s', h1, sim_free h2⟩
/-- A beginning that may go on. -/
def Open (q : List Int) : Prop := q = [] ∨ ((begF q).2 = true ∧ Goes q)
/-- What is read parts into whole scalars and a beginning. -/
theorem fit_gen : ∀ (l : List Int) {s : CS} {q : List Int} {s' : CS} {os : List Int}, Sim s q → Open q → (∀ x ∈ q ++ l, 0 ≤ x ∧ x ≤ 255) → run cnx s l = some (s', os) → ∃ q', Sim s' q' ∧ Open q' ∧ txt os ++ q' = q ++ l ∧ ∀ c ∈ os, 0 ≤ c ∧ isB c = true
  | [], s, q, s', os, hs, hf, hx, hr => by
    simp only [run, Option.some.injEq, Prod.mk.injEq] at hr
    obtain ⟨rfl, rfl⟩ := hr
    exact ⟨q, hs, hf, by simp, by simp⟩
  | b :: l, s, q, s', os, hs, hf, hx, hr => by
    have hb := hx b (by simp)
    obtain ⟨hfit, hgo⟩ := sim_step hs hb.1 hb.2
    rcases hfit with ⟨_, g1⟩ | ⟨f1, f2, s1, g2, g3⟩ | ⟨f1, f2, s1, g2, g3⟩
    · simp [run, g1] at hr
    · simp only [run, g2, Option.bind_some] at hr
      cases hq : run cnx s1 l with
      | none => simp [hq] at hr
      | some p =>
        simp only [hq, Option.map_some, Option.toList, List.nil_append, Option.some.injEq, Prod.mk.injEq] at hr
        obtain ⟨rfl, rfl⟩ := hr
        obtain ⟨q', i1, i0, i2, i3⟩ := fit_gen l g3 (.inr ⟨f1, hgo⟩) (by simpa using hx) hq
        exact ⟨q', i1, i0, by rw [i2]; simp, i3⟩
    · simp only [run, g2, Option.bind_some] at hr
      cases hq : run cnx s1 l with
      | none => simp [hq] at hr
      | some p =>
        simp only [hq, Option.map_some, Option.toList, Option.some.injEq, Prod.mk.injEq] at hr
        obtain ⟨rfl, rfl⟩ := hr
        obtain ⟨q', i1, i0, i2, i3⟩ := fit_gen l g3 (.inl rfl) (fun x h => hx x (by simp at h; simp [h])) hq
        obtain ⟨v2, v3, v1⟩ := hgo f1
        have v4 : rby (begF (q ++ [b])).1 = q ++ [b] := by
          rw [← size_len v2] at f2
          rw [List.take_of_length_le (by omega)] at v1
          exact v1
        refine ⟨q', i1, i0, ?_, ?_⟩
        · show ([(begF (q ++ [b])).1] ++ p.2).flatMap rby ++ q' = _
          rw [List.cons_append, List.nil_append, List.flatMap_cons, List.append_assoc, v4]
          show q ++ [b] ++ (txt p.2 ++ q') = _
          rw [i2]
          simp
        · intro c hc
          rcases List.mem_cons.1 hc with rfl | hc
          · exact ⟨v2, v3⟩
          · exact i3 c hc
theorem one_law (l : List Int) (s : CS) (os : List Int) (hx : ∀ x ∈ l, 0 ≤ x ∧ x ≤ 255) (hr : run cnx st0 l = some (s, os)) (hc : ccut s = false) : txt os = l ∧ ∀ c ∈ os, 0 ≤ c ∧ isB c = true := by
  obtain ⟨q', i1, _, i2, i3⟩ := fit_gen l (s := st0) (q := []) sim0 (.inl rfl) hx hr
  have h9 := sim_cut i1
  rw [hc] at h9
  have h8 : ¬ (0 < q'.length) := by simpa using h9.symm
  obtain rfl : q' = [] := List.eq_nil_of_length_eq_zero (by omega)
  exact ⟨by simpa using i2, i3⟩
end Go.Proofs.Ytcfpbihkodjlkaa.M
namespace Go.Proofs.Ytcfpbihkodjlkaa.M
open Go.RowKit Go.Proofs.YtcfpbihkodjlkaaW.PrintWords Go.Proofs.YtcfpbihkodjlkaaW.PrintMore
set_option linter.unusedVariables false
set_option linter.unusedSimpArgs false
theorem txt_range (l : List Int) (h : ∀ c ∈ l, 0 ≤ c ∧ isB c = true) : ∀ x ∈ txt l, 0 ≤ x ∧ x ≤ 255 := by
  intro x hx
  obtain ⟨c, hc, hx2⟩ := List.mem_flatMap.1 hx
  exact rby_range c (h c hc).1 (h c hc).2 x hx2
theorem txt_ge (l : List Int) : l.length ≤ (txt l).length := by
  induction l with
  | nil => simp
  | cons c l ih =>
    have := rby_pos c
    show _ ≤ ((c :: l).flatMap rby).length
    rw [List.flatMap_cons, List.length_append, List.length_cons]
    show l.length + 1 ≤ (rby c).length + (txt l).length
    omega
theorem rest_any (p : ByteArray) (hz : p.size ≤ 100000) (s : CS) (os : List Int) (hrun : run cnx st0 (bytesOf p) = some (s, os)) (w : World) :
    Calls Try.prog 44 #[.string p] w fun en w' => ∃ u os2 s2, en = .returned (.string u) ∧ u.size ≤ 5 ∧ run cnx st0 (bytesOf p ++ bytesOf u) = some (s2, os ++ os2) ∧ ccut s2 = false ∧ Below w.heap.size w w' := by
  obtain ⟨q, hq1, hq2, hq3, hq4⟩ := fit_gen (bytesOf p) (s := st0) (q := []) sim0 (.inl rfl) (by simpa using bytesOf_range p) hrun
  rw [List.nil_append] at hq3
  have hls : (txt os).length + q.length = p.size := by rw [← bytesOf_length p, ← hq3, List.length_append]
  have hol := txt_ge os
  obtain ⟨K, hK⟩ : ∃ K, K = p.size + 100 := ⟨_, rfl⟩
  have hrd : PMod8Extends.pilcrowref06_Read.f K p = some (os, if p.size < p.size then 3 else if ccut s = true then 4 else 0, (p.size : Int)) := mono_le (f := fun k => PMod8Extends.pilcrowref06_Read.f k p) (PMod8Extends.pilcrowref06_Read.mono _) (by omega) (readF_at p (by omega) p.size s os (Nat.le_refl _) (by rw [List.take_of_length_le (by rw [bytesOf_length]; omega)]; exact hrun) (.inl rfl))
  have hby : PMod8Extends.pilcrowref06_Bytes.f K os = some (strOfNums (txt os)) := by
    have h1 := bytes_loop os (by omega) (fun k => by
      rcases Nat.lt_or_ge k os.length with h | h
      · have h2 := hq4 (os.getD k 0) (by rw [List.getD_eq_getElem?_getD, List.getElem?_eq_getElem h]; exact List.getElem_mem _)
        have := isB_range h2.2
        omega
      · rw [List.getD_eq_getElem?_getD, List.getElem?_eq_none h]; simp) (fun c hc => (hq4 c hc).2) _ 0 (os.length + 10) [] rfl (Nat.zero_le _) (by omega) (by simp)
    rw [List.nil_append, List.drop_zero] at h1
    exact mono_le (f := fun k => PMod8Extends.pilcrowref06_Bytes.f k os) (PMod8Extends.pilcrowref06_Bytes.mono _) (by omega) h1
  have hss : (strOfNums (txt os)).size = (txt os).length := by rw [strOfNums_size]
  generalize hB : strOfNums (txt os) = B at *
  obtain ⟨x1, x2⟩ := bytes_mid p B.size p.size (by omega) (Nat.le_refl _)
  rw [List.take_of_length_le (by rw [bytesOf_length]; omega)] at x1
  have hqb : bytesOf (p.extract B.size p.size) = q := by rw [x1, ← hq3, hss, List.drop_left]
  have hf : ∃ u, PMod8Extends.pilcrowref06_Rest.f K p = some u ∧ u.size ≤ 5 ∧ ∃ os2, bytesOf p ++ bytesOf u = txt (os ++ os2) ∧ ∀ c ∈ os2, 0 ≤ c ∧ isB c = true := by
    rw [PMod8Extends.pilcrowref06_Rest.f, hrd, Option.bind_some, hby, Option.bind_some]
    rcases hq2 with rfl | ⟨hok, hgo⟩
    · rw [if_pos (by rw [List.length_nil] at hls; omega)]
      refine ⟨_, rfl, by decide, [], ?_, by simp⟩
      have e : bytesOf (⟨#[]⟩ : ByteArray) = [] := rfl
      rw [e, List.append_nil, List.append_nil, ← hq3, List.append_nil]
    · obtain ⟨hc0, hc, htk⟩ := hgo hok
      have hqn : q ≠ [] := by rintro rfl; simp [begF] at hok
      have hql : 0 < q.length := List.length_pos_iff.2 hqn
      obtain ⟨K2, hK2⟩ : ∃ K2, K = K2 + 15 := ⟨K - 15, by omega⟩
      have hbg := begins_at K2 (p.extract B.size p.size) (by rw [hqb]; exact sim_pre0 hq1 hqn)
      rw [hqb] at hbg
      rw [if_neg (by omega), if_pos (by omega), if_pos (by omega), Int.toNat_natCast, hK2, hbg, Option.bind_some, if_pos hok, one_at (K2 + 6) _ hc0 hc, Option.bind_some]
      generalize (begF q).1 = c at *
      have hsz : (strOfNums (rby c)).size = (rby c).length := by rw [strOfNums_size]
      have hlq : q.length ≤ (rby c).length := by have := congrArg List.length htk; rw [List.length_take] at this; omega
      have hw : wrap64 ((p.size : Int) - (B.size : Int)) = ((q.length : Nat) : Int) := by rw [w64' (by omega) (by omega)]; omega
      have hl4 := rby_len c
      rw [hw, if_pos (by omega), if_pos (by omega), Int.toNat_natCast]
      obtain ⟨y1, y2⟩ := bytes_mid (strOfNums (rby c)) q.length (strOfNums (rby c)).size (by omega) (Nat.le_refl _)
      rw [List.take_of_length_le (by rw [bytesOf_length]; omega), bytesOf_ofNums (rby_range c hc0 hc)] at y1
      refine ⟨_, rfl, by rw [y2]; omega, [c], ?_, by simp [hc0, hc]⟩
      rw [y1, ← hq3, List.append_assoc]
      have h9 : q ++ (rby c).drop q.length = rby c := by
        conv => lhs; lhs; rw [← htk]
        exact List.take_append_drop _ _
      rw [h9]
      show _ = (os ++ [c]).flatMap rby
      rw [List.flatMap_append]
      show txt os ++ rby c = txt os ++ (rby c ++ [])
      rw [List.append_nil]
  obtain ⟨u, hu, hu4, os2, h1, h2⟩ := hf
  refine (PMod8Extends.pilcrowref06_Rest.calls K p u w hu).mono ?_
  rintro en w' ⟨rfl, hb⟩
  obtain ⟨s3, b1, b2⟩ := back_law (os ++ os2) (fun c hc => by
    rcases List.mem_append.1 hc with h | h
    · exact hq4 c h
    · exact h2 c h)
  exact ⟨u, os2, s3, rfl, hu4, by rw [h1]; exact b1, b2, hb⟩
end Go.Proofs.Ytcfpbihkodjlkaa.M
