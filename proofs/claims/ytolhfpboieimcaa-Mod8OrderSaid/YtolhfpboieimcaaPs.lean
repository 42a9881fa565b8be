/- Layer 6: what the bytes since the last scalar say of the machine. -/
import Derived.Test.YtolhfpboieimcaaEa
namespace Go.Proofs.Ytolhfpboieimcaa
open Go.RowKit Go.Proofs.YtolhfpboieimcaaW.PrintWords Go.Proofs.YtolhfpboieimcaaW.PrintMore
set_option linter.unusedVariables false
set_option linter.unusedSimpArgs false
def sizeF (c : Int) : Int := if c < 160 then 1 else if c < 1024 then 2 else if c < 16384 then 3 else if c < 262144 then 4 else 5
/-- The least scalar from lo to hi, of those that take n bytes. -/
def someG (least most lo hi : Int) : Int × Bool :=
  let l := if lo < least then least else lo
  let h := if hi > most then most else hi
  let l := if 55296 ≤ l ∧ l ≤ 57343 then 57344 else l
  (l, decide (l ≤ h))
def someF (lo hi n : Int) : Int × Bool :=
  if n = 1 then someG 0 159 lo hi else if n = 2 then someG 160 1023 lo hi else if n = 3 then someG 1024 16383 lo hi else if n = 4 then someG 16384 262143 lo hi else someG 262144 1114111 lo hi
/-- Do these bytes begin a scalar's? The least such scalar. -/
def begF : List Int → Int × Bool
  | [b] => if b < 160 then someF b b 1 else if b < 192 then (0, false) else if b < 224 then someF ((b - 192) * 32) ((b - 192) * 32 + 31) 2 else if b < 240 then someF ((b - 224) * 1024) ((b - 224) * 1024 + 1023) 3 else if b < 248 then someF ((b - 240) * 32768) ((b - 240) * 32768 + 32767) 4 else if b < 252 then someF ((b - 248) * 1048576) ((b - 248) * 1048576 + 1048575) 5 else (0, false)
  | [b, x] => if x < 160 ∨ 191 < x then (0, false) else if b < 224 then someF ((b - 192) * 32 + x - 160) ((b - 192) * 32 + x - 160) 2 else if b < 240 then someF (((b - 224) * 32 + x - 160) * 32) (((b - 224) * 32 + x - 160) * 32 + 31) 3 else if b < 248 then someF (((b - 240) * 32 + x - 160) * 1024) (((b - 240) * 32 + x - 160) * 1024 + 1023) 4 else someF (((b - 248) * 32 + x - 160) * 32768) (((b - 248) * 32 + x - 160) * 32768 + 32767) 5
  | [b, x, y] => if y < 160 ∨ 191 < y then (0, false) else if b < 240 then someF (((b - 224) * 32 + x - 160) * 32 + y - 160) (((b - 224) * 32 + x - 160) * 32 + y - 160) 3 else if b < 248 then someF ((((b - 240) * 32 + x - 160) * 32 + y - 160) * 32) ((((b - 240) * 32 + x - 160) * 32 + y - 160) * 32 + 31) 4 else someF ((((b - 248) * 32 + x - 160) * 32 + y - 160) * 1024) ((((b - 248) * 32 + x - 160) * 32 + y - 160) * 1024 + 1023) 5
  | [b, x, y, z] => if z < 160 ∨ 191 < z then (0, false) else if b < 248 then someF ((((b - 240) * 32 + x - 160) * 32 + y - 160) * 32 + z - 160) ((((b - 240) * 32 + x - 160) * 32 + y - 160) * 32 + z - 160) 4 else someF (((((b - 248) * 32 + x - 160) * 32 + y - 160) * 32 + z - 160) * 32) (((((b - 248) * 32 + x - 160) * 32 + y - 160) * 32 + z - 160) * 32 + 31) 5
  | [b, x, y, z, t] => if t < 160 ∨ 191 < t then (0, false) else someF (((((b - 248) * 32 + x - 160) * 32 + y - 160) * 32 + z - 160) * 32 + t - 160) (((((b - 248) * 32 + x - 160) * 32 + y - 160) * 32 + z - 160) * 32 + t - 160) 5
  | _ => (0, false)
/-- The machine at its beginning. -/
abbrev st0 : CS := ⟨0, 0, 0, false⟩
theorem cok0 : cok st0 := by unfold cok; simp
/-- The encoder at its beginning. -/
abbrev es0 : ES := ⟨⟩
/-- The bytes of some scalars. -/
abbrev txt (l : List Int) : List Int := l.flatMap rby
/-- The machine, after these bytes of a scalar. -/
def Sim (s : CS) : List Int → Prop
  | [] => s.nd = 0
  | [b] => isLead b ∧ s = leadF b
  | [b, x] => (isLead b ∧ 224 ≤ b) ∧ (160 ≤ x ∧ x ≤ 191) ∧ secondF b x = true ∧ s = ⟨(leadF b).nd - 1, b, (leadF b).c * 32 + x % 32, true⟩
  | [b, x, y] => (isLead b ∧ 240 ≤ b) ∧ (160 ≤ x ∧ x ≤ 191) ∧ secondF b x = true ∧ (160 ≤ y ∧ y ≤ 191) ∧ s = ⟨(leadF b).nd - 2, b, ((leadF b).c * 32 + x % 32) * 32 + y % 32, true⟩
  | [b, x, y, z] => (isLead b ∧ 248 ≤ b) ∧ (160 ≤ x ∧ x ≤ 191) ∧ secondF b x = true ∧ (160 ≤ y ∧ y ≤ 191) ∧ (160 ≤ z ∧ z ≤ 191) ∧ s = ⟨1, b, (((leadF b).c * 32 + x % 32) * 32 + y % 32) * 32 + z % 32, true⟩
  | _ => False
theorem sim0 : Sim st0 [] := rfl
theorem sim_free {s : CS} (h : Sim s []) : ccut s = false := by
  have h : s.nd = 0 := h
  simp [ccut, h]
theorem isB_iff (x : Int) : isB x = true ↔ x ≤ 1114111 ∧ (x < 55296 ∨ 57343 < x) := by simp [isB]
/-- What a step may be: wrong; a beginning still; a scalar. -/
def Fit (q : List Int) (s : CS) (b : Int) : Prop :=
  ((begF (q ++ [b])).2 = false ∧ cnx s b = none) ∨
  ((begF (q ++ [b])).2 = true ∧ sizeF (begF (q ++ [b])).1 ≠ ((q ++ [b]).length : Int) ∧ ∃ s', cnx s b = some (s', none) ∧ Sim s' (q ++ [b])) ∨
  ((begF (q ++ [b])).2 = true ∧ sizeF (begF (q ++ [b])).1 = ((q ++ [b]).length : Int) ∧ ∃ s', cnx s b = some (s', some (begF (q ++ [b])).1) ∧ Sim s' [])
/-- A scalar that bytes begin. -/
def Goes (q : List Int) : Prop := (begF q).2 = true → 0 ≤ (begF q).1 ∧ isB (begF q).1 = true ∧ (rby (begF q).1).take q.length = q
theorem someG_is (least most lo hi : Int) : ∃ l ok, someG least most lo hi = (l, ok) ∧ (∀ c, lo ≤ c → c ≤ hi → least ≤ c → c ≤ most → (c < 55296 ∨ 57343 < c) → ok = true) ∧ (ok = true → lo ≤ l ∧ l ≤ hi ∧ least ≤ l ∧ l ≤ most ∧ (l < 55296 ∨ 57343 < l)) := by
  refine ⟨_, _, rfl, ?_, ?_⟩
  · intro c h1 h2 h3 h4 h5
    rw [decide_eq_true_eq]
    split <;> split <;> split <;> omega
  · intro h
    rw [decide_eq_true_eq] at h
    revert h
    split <;> split <;> split <;> omega
theorem size1 {c : Int} (h : c < 160) : sizeF c = 1 := by unfold sizeF; rw [if_pos (by omega)]
theorem size2 {c : Int} (h0 : 160 ≤ c) (h1 : c ≤ 1023) : sizeF c = 2 := by unfold sizeF; rw [if_neg (by omega), if_pos (by omega)]
theorem size3 {c : Int} (h0 : 1024 ≤ c) (h1 : c ≤ 16383) : sizeF c = 3 := by unfold sizeF; rw [if_neg (by omega), if_neg (by omega), if_pos (by omega)]
theorem size4 {c : Int} (h0 : 16384 ≤ c) (h1 : c ≤ 262143) : sizeF c = 4 := by unfold sizeF; rw [if_neg (by omega), if_neg (by omega), if_neg (by omega), if_pos (by omega)]
theorem size5 {c : Int} (h0 : 262144 ≤ c) : sizeF c = 5 := by unfold sizeF; rw [if_neg (by omega), if_neg (by omega), if_neg (by omega), if_neg (by omega)]
theorem rby1 {c : Int} (h : c < 160) : rby c = [c] := by unfold rby; rw [if_pos (by omega)]
theorem rby2 {c : Int} (h0 : 160 ≤ c) (h1 : c ≤ 1023) : rby c = [192 + c / 32, 160 + c % 32] := by unfold rby; rw [if_neg (by omega), if_pos (by omega)]
theorem rby3 {c : Int} (h0 : 1024 ≤ c) (h1 : c ≤ 16383) : rby c = [224 + c / 1024, 160 + c / 32 % 32, 160 + c % 32] := by unfold rby; rw [if_neg (by omega), if_neg (by omega), if_pos (by omega)]
theorem rby4 {c : Int} (h0 : 16384 ≤ c) (h1 : c ≤ 262143) : rby c = [240 + c / 32768, 160 + c / 1024 % 32, 160 + c / 32 % 32, 160 + c % 32] := by unfold rby; rw [if_neg (by omega), if_neg (by omega), if_neg (by omega), if_pos (by omega)]
theorem rby5 {c : Int} (h0 : 262144 ≤ c) : rby c = [248 + c / 1048576, 160 + c / 32768 % 32, 160 + c / 1024 % 32, 160 + c / 32 % 32, 160 + c % 32] := by unfold rby; rw [if_neg (by omega), if_neg (by omega), if_neg (by omega), if_neg (by omega)]
/-- What Fit and Goes are shown by: the span of a beginning. -/
theorem by_no {q : List Int} {s : CS} {b least most lo hi : Int} (he : begF (q ++ [b]) = someG least most lo hi) (hc : cnx s b = none) (h : ∀ l, lo ≤ l → l ≤ hi → least ≤ l → l ≤ most → ¬ (l < 55296 ∨ 57343 < l)) : Fit q s b ∧ Goes (q ++ [b]) := by
  obtain ⟨l, ok, e, h1, h2⟩ := someG_is least most lo hi
  have hok : ok = false := by
    cases ok with
    | false => rfl
    | true =>
      obtain ⟨k1, k2, k3, k4, k5⟩ := h2 rfl
      exact absurd k5 (h l k1 k2 k3 k4)
  refine ⟨.inl ⟨by rw [he, e]; exact hok, hc⟩, fun h9 => ?_⟩
  rw [he, e] at h9
  rw [hok] at h9
  cases h9
theorem by_on {q : List Int} {s s' : CS} {b least most lo hi c n : Int} (he : begF (q ++ [b]) = someG least most lo hi) (hc : cnx s b = some (s', none)) (hs : Sim s' (q ++ [b])) (w1 : lo ≤ c) (w2 : c ≤ hi) (w3 : least ≤ c) (w4 : c ≤ most) (w5 : c < 55296 ∨ 57343 < c) (hm : most ≤ 1114111) (hl : 0 ≤ least)
    (hn : ∀ l, least ≤ l → l ≤ most → sizeF l = n) (hln : n ≠ ((q ++ [b]).length : Int)) (hp : ∀ l, lo ≤ l → l ≤ hi → least ≤ l → l ≤ most → (rby l).take (q ++ [b]).length = q ++ [b]) : Fit q s b ∧ Goes (q ++ [b]) := by
  obtain ⟨l, ok, e, h1, h2⟩ := someG_is least most lo hi
  have hok := h1 c w1 w2 w3 w4 w5
  obtain ⟨k1, k2, k3, k4, k5⟩ := h2 hok
  refine ⟨.inr (.inl ⟨by rw [he, e]; exact hok, ?_, s', hc, hs⟩), fun _ => ?_⟩
  · rw [he, e]
    show sizeF l ≠ _
    rw [hn l k3 k4]
    exact hln
  · rw [he, e]
    exact ⟨by show 0 ≤ l; omega, (isB_iff l).2 ⟨by omega, k5⟩, hp l k1 k2 k3 k4⟩
theorem by_all {q : List Int} {s s' : CS} {b least most c n : Int} (he : begF (q ++ [b]) = someG least most c c) (hc : cnx s b = some (s', some c)) (hs : Sim s' []) (w3 : least ≤ c) (w4 : c ≤ most) (w5 : c < 55296 ∨ 57343 < c) (hm : most ≤ 1114111) (hl : 0 ≤ least)
    (hn : sizeF c = ((q ++ [b]).length : Int)) (hp : (rby c).take (q ++ [b]).length = q ++ [b]) : Fit q s b ∧ Goes (q ++ [b]) := by
  obtain ⟨l, ok, e, h1, h2⟩ := someG_is least most c c
  have hok := h1 c (Int.le_refl _) (Int.le_refl _) w3 w4 w5
  obtain ⟨k1, k2, k3, k4, k5⟩ := h2 hok
  obtain rfl : l = c := by omega
  refine ⟨.inr (.inr ⟨by rw [he, e]; exact hok, by rw [he, e]; exact hn, s', by rw [he, e]; exact hc, hs⟩), fun _ => ?_⟩
  rw [he, e]
  exact ⟨by show 0 ≤ l; omega, (isB_iff l).2 ⟨by omega, k5⟩, hp⟩
theorem by_bad {q : List Int} {s : CS} {b : Int} (he : begF (q ++ [b]) = (0, false)) (hc : cnx s b = none) : Fit q s b ∧ Goes (q ++ [b]) :=
  ⟨.inl ⟨by rw [he], hc⟩, fun h9 => by rw [he] at h9; cases h9⟩
theorem sF1 (lo hi : Int) : someF lo hi 1 = someG 0 159 lo hi := rfl
theorem sF2 (lo hi : Int) : someF lo hi 2 = someG 160 1023 lo hi := rfl
theorem sF3 (lo hi : Int) : someF lo hi 3 = someG 1024 16383 lo hi := rfl
theorem sF4 (lo hi : Int) : someF lo hi 4 = someG 16384 262143 lo hi := rfl
theorem sF5 (lo hi : Int) : someF lo hi 5 = someG 262144 1114111 lo hi := rfl
theorem lead2 {b : Int} (h : b < 224) : leadF b = ⟨1, b, b % 32, false⟩ := if_pos h
theorem lead3 {b : Int} (h0 : 224 ≤ b) (h1 : b < 240) : leadF b = ⟨2, b, b % 16, false⟩ := by unfold leadF; rw [if_neg (by omega), if_pos h1]
theorem lead4 {b : Int} (h0 : 240 ≤ b) (h1 : b < 248) : leadF b = ⟨3, b, b % 8, false⟩ := by unfold leadF; rw [if_neg (by omega), if_neg (by omega), if_pos h1]
theorem lead5 {b : Int} (h0 : 248 ≤ b) : leadF b = ⟨4, b, b % 4, false⟩ := by unfold leadF; rw [if_neg (by omega), if_neg (by omega), if_neg (by omega)]
theorem lead_nd {b : Int} : 1 ≤ (leadF b).nd ∧ (224 ≤ b → 2 ≤ (leadF b).nd) ∧ (240 ≤ b → 3 ≤ (leadF b).nd) ∧ (248 ≤ b → (leadF b).nd = 4) := by
  unfold leadF
  (repeat' split) <;> simp <;> omega
theorem lead_fb {b : Int} : (leadF b).fb = b ∧ (leadF b).gone = false := by
  unfold leadF
  (repeat' split) <;> exact ⟨rfl, rfl⟩
theorem cnx_in {s : CS} {b : Int} (hn : s.nd ≠ 0) (h0 : 160 ≤ b) (h1 : b ≤ 191) (hs : s.gone = true ∨ secondF s.fb b = true) : cnx s b = if s.nd = 1 then some (⟨0, s.fb, s.c * 32 + b % 32, true⟩, some (s.c * 32 + b % 32)) else some (⟨s.nd - 1, s.fb, s.c * 32 + b % 32, true⟩, none) := by
  unfold cnx
  rw [if_neg hn, if_neg]
  rintro (h | h | ⟨h2, h3⟩)
  · omega
  · omega
  · rcases hs with h4 | h4
    · rw [h2] at h4; cases h4
    · rw [h3] at h4; cases h4
theorem cnx_out {s : CS} {b : Int} (hn : s.nd ≠ 0) (h : b < 160 ∨ 191 < b) : cnx s b = none := by
  unfold cnx
  rw [if_neg hn, if_pos (by rcases h with h | h <;> simp [h])]
theorem cnx_se {s : CS} {b : Int} (hn : s.nd ≠ 0) (hg : s.gone = false) (h : secondF s.fb b = false) : cnx s b = none := by
  unfold cnx
  rw [if_neg hn, if_pos (.inr (.inr ⟨hg, h⟩))]
/-- What the second byte may be, in numbers. -/
theorem second_iff {b x : Int} : secondF b x = true ↔ (b = 240 → 176 ≤ x) ∧ (b = 241 → x ≠ 182 ∧ x ≠ 183) ∧ (b = 248 → 168 ≤ x) ∧ (b = 249 → x ≤ 161) := by
  unfold secondF
  by_cases h1 : b = 240
  · subst h1; simp
  rw [if_neg h1]
  by_cases h2 : b = 241
  · subst h2; simp
  rw [if_neg h2]
  by_cases h3 : b = 248
  · subst h3; simp
  rw [if_neg h3]
  by_cases h4 : b = 249
  · subst h4; simp
  rw [if_neg h4]
  simp [h1, h2, h3, h4]
theorem step0 {s : CS} (h : s.nd = 0) (b : Int) (h0 : 0 ≤ b) (h1 : b ≤ 255) : Fit [] s b ∧ Goes ([] ++ [b]) := by
  have hno : ¬ b < 160 → ¬ isLead b → cnx s b = none := fun k1 k2 => by unfold cnx; rw [if_pos h, if_neg k1, if_neg k2]
  have hon : ¬ b < 160 → isLead b → cnx s b = some (leadF b, none) := fun k1 k2 => by unfold cnx; rw [if_pos h, if_neg k1, if_pos k2]
  unfold isLead at hno hon
  by_cases c1 : b < 160
  · refine by_all (s' := s) (least := 0) (most := 159) (c := b) (n := 1) ?_ ?_ h (by omega) (by omega) (by omega) (by omega) (by omega) (size1 c1) (by rw [rby1 c1]; rfl)
    · show begF [b] = _
      simp only [begF, if_pos c1, sF1]
    · unfold cnx; rw [if_pos h, if_pos c1]
  by_cases c2 : b < 192
  · refine by_bad ?_ (hno c1 (by omega))
    show begF [b] = _
    simp only [begF, if_neg c1, if_pos c2]
  by_cases c3 : b < 224
  · have he : begF ([] ++ [b]) = someG 160 1023 ((b - 192) * 32) ((b - 192) * 32 + 31) := by
      show begF [b] = _
      simp only [begF, if_neg c1, if_neg c2, if_pos c3, sF2]
    by_cases d1 : b < 197
    · exact by_no he (hno c1 (by omega)) (by intro l; omega)
    · exact by_on (c := (b - 192) * 32) (n := 2) he (hon c1 (by omega)) ⟨by unfold isLead; omega, rfl⟩ (by omega) (by omega) (by omega) (by omega) (by omega) (by omega) (by omega) (fun l k1 k2 => size2 k1 k2) (by simp) (fun l k1 k2 k3 k4 => by
      rw [rby2 k3 k4]; simp only [List.nil_append, List.length_singleton, List.take_succ_cons, List.take_zero, List.cons.injEq, and_true]; omega)
  by_cases c4 : b < 240
  · have he : begF ([] ++ [b]) = someG 1024 16383 ((b - 224) * 1024) ((b - 224) * 1024 + 1023) := by
      show begF [b] = _
      simp only [begF, if_neg c1, if_neg c2, if_neg c3, if_pos c4, sF3]
    by_cases d1 : b = 224
    · exact by_no he (hno c1 (by omega)) (by intro l; omega)
    · exact by_on (c := (b - 224) * 1024) (n := 3) he (hon c1 (by omega)) ⟨by unfold isLead; omega, rfl⟩ (by omega) (by omega) (by omega) (by omega) (by omega) (by omega) (by omega) (fun l k1 k2 => size3 k1 k2) (by simp) (fun l k1 k2 k3 k4 => by
      rw [rby3 k3 k4]; simp only [List.nil_append, List.length_singleton, List.take_succ_cons, List.take_zero, List.cons.injEq, and_true]; omega)
  by_cases c5 : b < 248
  · have he : begF ([] ++ [b]) = someG 16384 262143 ((b - 240) * 32768) ((b - 240) * 32768 + 32767) := by
      show begF [b] = _
      simp only [begF, if_neg c1, if_neg c2, if_neg c3, if_neg c4, if_pos c5, sF4]
    by_cases d2 : b = 240
    · exact by_on (c := 16384) (n := 4) he (hon c1 (by omega)) ⟨by unfold isLead; omega, rfl⟩ (by omega) (by omega) (by omega) (by omega) (by omega) (by omega) (by omega) (fun l k1 k2 => size4 k1 k2) (by simp) (fun l k1 k2 k3 k4 => by
      rw [rby4 k3 k4]; simp only [List.nil_append, List.length_singleton, List.take_succ_cons, List.take_zero, List.cons.injEq, and_true]; omega)
    · exact by_on (c := (b - 240) * 32768) (n := 4) he (hon c1 (by omega)) ⟨by unfold isLead; omega, rfl⟩ (by omega) (by omega) (by omega) (by omega) (by omega) (by omega) (by omega) (fun l k1 k2 => size4 k1 k2) (by simp) (fun l k1 k2 k3 k4 => by
      rw [rby4 k3 k4]; simp only [List.nil_append, List.length_singleton, List.take_succ_cons, List.take_zero, List.cons.injEq, and_true]; omega)
  by_cases c6 : b < 252
  · have he : begF ([] ++ [b]) = someG 262144 1114111 ((b - 248) * 1048576) ((b - 248) * 1048576 + 1048575) := by
      show begF [b] = _
      simp only [begF, if_neg c1, if_neg c2, if_neg c3, if_neg c4, if_neg c5, if_pos c6, sF5]
    by_cases d1 : 249 < b
    · exact by_no he (hno c1 (by omega)) (by intro l; omega)
    by_cases d2 : b = 248
    · exact by_on (c := 262144) (n := 5) he (hon c1 (by omega)) ⟨by unfold isLead; omega, rfl⟩ (by omega) (by omega) (by omega) (by omega) (by omega) (by omega) (by omega) (fun l k1 k2 => size5 k1) (by simp) (fun l k1 k2 k3 k4 => by
      rw [rby5 k3]; simp only [List.nil_append, List.length_singleton, List.take_succ_cons, List.take_zero, List.cons.injEq, and_true]; omega)
    · exact by_on (c := (b - 248) * 1048576) (n := 5) he (hon c1 (by omega)) ⟨by unfold isLead; omega, rfl⟩ (by omega) (by omega) (by omega) (by omega) (by omega) (by omega) (by omega) (fun l k1 k2 => size5 k1) (by simp) (fun l k1 k2 k3 k4 => by
      rw [rby5 k3]; simp only [List.nil_append, List.length_singleton, List.take_succ_cons, List.take_zero, List.cons.injEq, and_true]; omega)
  · refine by_bad ?_ (hno c1 (by omega))
    show begF [b] = _
    simp only [begF, if_neg c1, if_neg c2, if_neg c3, if_neg c4, if_neg c5, if_neg c6]
theorem take2 (a b x y : Int) (l : List Int) : (a :: b :: l).take ([x] ++ [y]).length = [a, b] := rfl
theorem take3 (a b c x y z : Int) (l : List Int) : (a :: b :: c :: l).take ([x, y] ++ [z]).length = [a, b, c] := rfl
theorem take4 (a b c d x y z v : Int) (l : List Int) : (a :: b :: c :: d :: l).take ([x, y, z] ++ [v]).length = [a, b, c, d] := rfl
theorem take5 (a b c d e x y z v u : Int) (l : List Int) : (a :: b :: c :: d :: e :: l).take ([x, y, z, v] ++ [u]).length = [a, b, c, d, e] := rfl
theorem step1 (b x : Int) (hb : isLead b) (h0 : 0 ≤ x) (h1 : x ≤ 255) : Fit [b] (leadF b) x ∧ Goes ([b] ++ [x]) := by
  have hnd := lead_nd (b := b)
  have hbl := hb
  unfold isLead at hb
  have hne : (leadF b).nd ≠ 0 := by omega
  by_cases hr : x < 160 ∨ 191 < x
  · refine by_bad ?_ (cnx_out hne hr)
    show begF [b, x] = _
    simp only [begF, if_pos hr]
  by_cases d2 : b < 224
  · have hl := lead2 (b := b) d2
    have he : begF ([b] ++ [x]) = someG 160 1023 ((b - 192) * 32 + x - 160) ((b - 192) * 32 + x - 160) := by
      show begF [b, x] = _
      simp only [begF, if_neg hr, if_pos d2, sF2]
    by_cases hs : secondF b x = true
    · have hse2 := second_iff.1 hs
      have hv : (b % 32) * 32 + x % 32 = (b - 192) * 32 + x - 160 := by omega
      refine by_all (s' := ⟨0, b, (b - 192) * 32 + x - 160, true⟩) (n := 2) he ?_ rfl (by omega) (by omega) (by omega) (by omega) (by omega) (size2 (by omega) (by omega)) ?_
      · rw [cnx_in hne (by omega) (by omega) (.inr (by rw [lead_fb.1]; exact hs)), hl, if_pos (by simp)]
        simp only [hv]
      · rw [rby2 (by omega) (by omega), take2]
        simp only [List.cons_append, List.nil_append, List.cons.injEq, and_true]
        omega
    · have hs0 : secondF b x = false := by simpa using hs
      rw [second_iff] at hs
      exact by_no he (cnx_se hne lead_fb.2 (by rw [lead_fb.1]; exact hs0)) (fun l k1 k2 k3 k4 => by omega)
  by_cases d3 : b < 240
  · have hl := lead3 (b := b) (by omega) d3
    have he : begF ([b] ++ [x]) = someG 1024 16383 (((b - 224) * 32 + x - 160) * 32) (((b - 224) * 32 + x - 160) * 32 + 31) := by
      show begF [b, x] = _
      simp only [begF, if_neg hr, if_neg d2, if_pos d3, sF3]
    by_cases hs : secondF b x = true
    · have hse2 := second_iff.1 hs
      refine by_on (s' := ⟨(leadF b).nd - 1, b, (leadF b).c * 32 + x % 32, true⟩) (c := ((b - 224) * 32 + x - 160) * 32) (n := 3) he ?_ ⟨⟨hbl, by omega⟩, by omega, hs, rfl⟩ (by omega) (by omega) (by omega) (by omega) (by omega) (by omega) (by omega) (fun l k1 k2 => size3 k1 k2) (by simp) (fun l k1 k2 k3 k4 => ?_)
      · rw [cnx_in hne (by omega) (by omega) (.inr (by rw [lead_fb.1]; exact hs)), hl, if_neg (by simp)]
        try rfl
      · rw [rby3 k3 k4, take2]
        simp only [List.cons_append, List.nil_append, List.cons.injEq, and_true]
        omega
    · have hs0 : secondF b x = false := by simpa using hs
      rw [second_iff] at hs
      exact by_no he (cnx_se hne lead_fb.2 (by rw [lead_fb.1]; exact hs0)) (fun l k1 k2 k3 k4 => by omega)
  by_cases d4 : b < 248
  · have hl := lead4 (b := b) (by omega) d4
    have he : begF ([b] ++ [x]) = someG 16384 262143 (((b - 240) * 32 + x - 160) * 1024) (((b - 240) * 32 + x - 160) * 1024 + 1023) := by
      show begF [b, x] = _
      simp only [begF, if_neg hr, if_neg d2, if_neg d3, if_pos d4, sF4]
    by_cases hs : secondF b x = true
    · have hse2 := second_iff.1 hs
      refine by_on (s' := ⟨(leadF b).nd - 1, b, (leadF b).c * 32 + x % 32, true⟩) (c := ((b - 240) * 32 + x - 160) * 1024) (n := 4) he ?_ ⟨⟨hbl, by omega⟩, by omega, hs, rfl⟩ (by omega) (by omega) (by omega) (by omega) (by omega) (by omega) (by omega) (fun l k1 k2 => size4 k1 k2) (by simp) (fun l k1 k2 k3 k4 => ?_)
      · rw [cnx_in hne (by omega) (by omega) (.inr (by rw [lead_fb.1]; exact hs)), hl, if_neg (by simp)]
        try rfl
      · rw [rby4 k3 k4, take2]
        simp only [List.cons_append, List.nil_append, List.cons.injEq, and_true]
        omega
    · have hs0 : secondF b x = false := by simpa using hs
      rw [second_iff] at hs
      exact by_no he (cnx_se hne lead_fb.2 (by rw [lead_fb.1]; exact hs0)) (fun l k1 k2 k3 k4 => by omega)
  have hl := lead5 (b := b) (by omega)
  have he : begF ([b] ++ [x]) = someG 262144 1114111 (((b - 248) * 32 + x - 160) * 32768) (((b - 248) * 32 + x - 160) * 32768 + 32767) := by
    show begF [b, x] = _
    simp only [begF, if_neg hr, if_neg d2, if_neg d3, if_neg d4, sF5]
  by_cases hs : secondF b x = true
  · have hse2 := second_iff.1 hs
    refine by_on (s' := ⟨(leadF b).nd - 1, b, (leadF b).c * 32 + x % 32, true⟩) (c := ((b - 248) * 32 + x - 160) * 32768) (n := 5) he ?_ ⟨⟨hbl, by omega⟩, by omega, hs, rfl⟩ (by omega) (by omega) (by omega) (by omega) (by omega) (by omega) (by omega) (fun l k1 k2 => size5 k1) (by simp) (fun l k1 k2 k3 k4 => ?_)
    · rw [cnx_in hne (by omega) (by omega) (.inr (by rw [lead_fb.1]; exact hs)), hl, if_neg (by simp)]
      try rfl
    · rw [rby5 k3, take2]
      simp only [List.cons_append, List.nil_append, List.cons.injEq, and_true]
      omega
  · have hs0 : secondF b x = false := by simpa using hs
    rw [second_iff] at hs
    exact by_no he (cnx_se hne lead_fb.2 (by rw [lead_fb.1]; exact hs0)) (fun l k1 k2 k3 k4 => by omega)
theorem step2 (b x y : Int) (hb : isLead b) (hb2 : 224 ≤ b) (hx : 160 ≤ x ∧ x ≤ 191) (hse : secondF b x = true) (h0 : 0 ≤ y) (h1 : y ≤ 255) : Fit [b, x] ⟨(leadF b).nd - 1, b, (leadF b).c * 32 + x % 32, true⟩ y ∧ Goes ([b, x] ++ [y]) := by
  have hnd := lead_nd (b := b)
  have hbl := hb
  unfold isLead at hb
  have hse2 := second_iff.1 hse
  have hne : (leadF b).nd - 1 ≠ 0 := by omega
  by_cases hr : y < 160 ∨ 191 < y
  · refine by_bad ?_ (cnx_out hne hr)
    show begF [b, x, y] = _
    simp only [begF, if_pos hr]
  by_cases d3 : b < 240
  · have hl := lead3 (b := b) (by omega) d3
    have he : begF ([b, x] ++ [y]) = someG 1024 16383 (((b - 224) * 32 + x - 160) * 32 + y - 160) (((b - 224) * 32 + x - 160) * 32 + y - 160) := by
      show begF [b, x, y] = _
      simp only [begF, if_neg hr, if_pos d3, sF3]
    have hv : (b % 16 * 32 + x % 32) * 32 + y % 32 = ((b - 224) * 32 + x - 160) * 32 + y - 160 := by omega
    refine by_all (s' := ⟨0, b, ((b - 224) * 32 + x - 160) * 32 + y - 160, true⟩) (n := 3) he ?_ rfl (by omega) (by omega) (by omega) (by omega) (by omega) (size3 (by omega) (by omega)) ?_
    · rw [cnx_in hne (by omega) (by omega) (.inl rfl), hl, if_pos (by simp)]
      simp only [hv]
    · rw [rby3 (by omega) (by omega), take3]
      simp only [List.cons_append, List.nil_append, List.cons.injEq, and_true]
      omega
  by_cases d4 : b < 248
  · have hl := lead4 (b := b) (by omega) d4
    have he : begF ([b, x] ++ [y]) = someG 16384 262143 ((((b - 240) * 32 + x - 160) * 32 + y - 160) * 32) ((((b - 240) * 32 + x - 160) * 32 + y - 160) * 32 + 31) := by
      show begF [b, x, y] = _
      simp only [begF, if_neg hr, if_neg d3, if_pos d4, sF4]
    refine by_on (s' := ⟨(leadF b).nd - 2, b, ((leadF b).c * 32 + x % 32) * 32 + y % 32, true⟩) (c := (((b - 240) * 32 + x - 160) * 32 + y - 160) * 32) (n := 4) he ?_ ⟨⟨hbl, by omega⟩, hx, hse, by omega, rfl⟩ (by omega) (by omega) (by omega) (by omega) (by omega) (by omega) (by omega) (fun l k1 k2 => size4 k1 k2) (by simp) (fun l k1 k2 k3 k4 => ?_)
    · rw [cnx_in hne (by omega) (by omega) (.inl rfl), hl, if_neg (by simp)]
      try rfl
    · rw [rby4 k3 k4, take3]
      simp only [List.cons_append, List.nil_append, List.cons.injEq, and_true]
      omega
  have hl := lead5 (b := b) (by omega)
  have he : begF ([b, x] ++ [y]) = someG 262144 1114111 ((((b - 248) * 32 + x - 160) * 32 + y - 160) * 1024) ((((b - 248) * 32 + x - 160) * 32 + y - 160) * 1024 + 1023) := by
    show begF [b, x, y] = _
    simp only [begF, if_neg hr, if_neg d3, if_neg d4, sF5]
  refine by_on (s' := ⟨(leadF b).nd - 2, b, ((leadF b).c * 32 + x % 32) * 32 + y % 32, true⟩) (c := (((b - 248) * 32 + x - 160) * 32 + y - 160) * 1024) (n := 5) he ?_ ⟨⟨hbl, by omega⟩, hx, hse, by omega, rfl⟩ (by omega) (by omega) (by omega) (by omega) (by omega) (by omega) (by omega) (fun l k1 k2 => size5 k1) (by simp) (fun l k1 k2 k3 k4 => ?_)
  · rw [cnx_in hne (by omega) (by omega) (.inl rfl), hl, if_neg (by simp)]
    try rfl
  · rw [rby5 k3, take3]
    simp only [List.cons_append, List.nil_append, List.cons.injEq, and_true]
    omega
theorem step3 (b x y z : Int) (hb : isLead b) (hb2 : 240 ≤ b) (hx : 160 ≤ x ∧ x ≤ 191) (hse : secondF b x = true) (hy : 160 ≤ y ∧ y ≤ 191) (h0 : 0 ≤ z) (h1 : z ≤ 255) : Fit [b, x, y] ⟨(leadF b).nd - 2, b, ((leadF b).c * 32 + x % 32) * 32 + y % 32, true⟩ z ∧ Goes ([b, x, y] ++ [z]) := by
  have hnd := lead_nd (b := b)
  have hbl := hb
  unfold isLead at hb
  have hse2 := second_iff.1 hse
  have hne : (leadF b).nd - 2 ≠ 0 := by omega
  by_cases hr : z < 160 ∨ 191 < z
  · refine by_bad ?_ (cnx_out hne hr)
    show begF [b, x, y, z] = _
    simp only [begF, if_pos hr]
  by_cases d4 : b < 248
  · have hl := lead4 (b := b) (by omega) d4
    have he : begF ([b, x, y] ++ [z]) = someG 16384 262143 ((((b - 240) * 32 + x - 160) * 32 + y - 160) * 32 + z - 160) ((((b - 240) * 32 + x - 160) * 32 + y - 160) * 32 + z - 160) := by
      show begF [b, x, y, z] = _
      simp only [begF, if_neg hr, if_pos d4, sF4]
    have hv : ((b % 8 * 32 + x % 32) * 32 + y % 32) * 32 + z % 32 = (((b - 240) * 32 + x - 160) * 32 + y - 160) * 32 + z - 160 := by omega
    refine by_all (s' := ⟨0, b, (((b - 240) * 32 + x - 160) * 32 + y - 160) * 32 + z - 160, true⟩) (n := 4) he ?_ rfl (by omega) (by omega) (by omega) (by omega) (by omega) (size4 (by omega) (by omega)) ?_
    · rw [cnx_in hne (by omega) (by omega) (.inl rfl), hl, if_pos (by simp)]
      simp only [hv]
    · rw [rby4 (by omega) (by omega), take4]
      simp only [List.cons_append, List.nil_append, List.cons.injEq, and_true]
      omega
  have hl := lead5 (b := b) (by omega)
  have he : begF ([b, x, y] ++ [z]) = someG 262144 1114111 (((((b - 248) * 32 + x - 160) * 32 + y - 160) * 32 + z - 160) * 32) (((((b - 248) * 32 + x - 160) * 32 + y - 160) * 32 + z - 160) * 32 + 31) := by
    show begF [b, x, y, z] = _
    simp only [begF, if_neg hr, if_neg d4, sF5]
  refine by_on (s' := ⟨1, b, (((leadF b).c * 32 + x % 32) * 32 + y % 32) * 32 + z % 32, true⟩) (c := ((((b - 248) * 32 + x - 160) * 32 + y - 160) * 32 + z - 160) * 32) (n := 5) he ?_ ⟨⟨hbl, by omega⟩, hx, hse, hy, by omega, rfl⟩ (by omega) (by omega) (by omega) (by omega) (by omega) (by omega) (by omega) (fun l k1 k2 => size5 k1) (by simp) (fun l k1 k2 k3 k4 => ?_)
  · rw [cnx_in hne (by omega) (by omega) (.inl rfl), hl, if_neg (by simp)]
    try rfl
  · rw [rby5 k3, take4]
    simp only [List.cons_append, List.nil_append, List.cons.injEq, and_true]
    omega
theorem step4 (b x y z t : Int) (hb : isLead b) (hb2 : 248 ≤ b) (hx : 160 ≤ x ∧ x ≤ 191) (hse : secondF b x = true) (hy : 160 ≤ y ∧ y ≤ 191) (hz : 160 ≤ z ∧ z ≤ 191) (h0 : 0 ≤ t) (h1 : t ≤ 255) : Fit [b, x, y, z] ⟨1, b, (((leadF b).c * 32 + x % 32) * 32 + y % 32) * 32 + z % 32, true⟩ t ∧ Goes ([b, x, y, z] ++ [t]) := by
  have hnd := lead_nd (b := b)
  have hbl := hb
  unfold isLead at hb
  have hse2 := second_iff.1 hse
  have hne : (1 : Int) ≠ 0 := by omega
  by_cases hr : t < 160 ∨ 191 < t
  · refine by_bad ?_ (cnx_out hne hr)
    show begF [b, x, y, z, t] = _
    simp only [begF, if_pos hr]
  have hl := lead5 (b := b) (by omega)
  have he : begF ([b, x, y, z] ++ [t]) = someG 262144 1114111 (((((b - 248) * 32 + x - 160) * 32 + y - 160) * 32 + z - 160) * 32 + t - 160) (((((b - 248) * 32 + x - 160) * 32 + y - 160) * 32 + z - 160) * 32 + t - 160) := by
    show begF [b, x, y, z, t] = _
    simp only [begF, if_neg hr, sF5]
  have hv : (((b % 4 * 32 + x % 32) * 32 + y % 32) * 32 + z % 32) * 32 + t % 32 = ((((b - 248) * 32 + x - 160) * 32 + y - 160) * 32 + z - 160) * 32 + t - 160 := by omega
  refine by_all (s' := ⟨0, b, ((((b - 248) * 32 + x - 160) * 32 + y - 160) * 32 + z - 160) * 32 + t - 160, true⟩) (n := 5) he ?_ rfl (by omega) (by omega) (by omega) (by omega) (by omega) (size5 (by omega)) ?_
  · rw [cnx_in hne (by omega) (by omega) (.inl rfl), hl, if_pos (by simp)]
    simp only [hv]
  · rw [rby5 (by omega), take5]
    simp only [List.cons_append, List.nil_append, List.cons.injEq, and_true]
    omega
/-- One byte more. -/
theorem sim_step {s : CS} {q : List Int} {b : Int} (h : Sim s q) (h0 : 0 ≤ b) (h1 : b ≤ 255) : Fit q s b ∧ Goes (q ++ [b]) := by
  match q, h with
  | [], h => exact step0 h b h0 h1
  | [x], h =>
    obtain ⟨k1, rfl⟩ := h
    exact step1 x b k1 h0 h1
  | [x, y], h =>
    obtain ⟨⟨k1, k2⟩, k3, k4, rfl⟩ := h
    exact step2 x y b k1 k2 k3 k4 h0 h1
  | [x, y, z], h =>
    obtain ⟨⟨k1, k2⟩, k3, k4, k5, rfl⟩ := h
    exact step3 x y z b k1 k2 k3 k4 k5 h0 h1
  | [x, y, z, t], h =>
    obtain ⟨⟨k1, k2⟩, k3, k4, k5, k6, rfl⟩ := h
    exact step4 x y z t b k1 k2 k3 k4 k5 k6 h0 h1
end Go.Proofs.Ytolhfpboieimcaa
