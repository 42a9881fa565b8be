/- UTF-8: what the bytes since the last scalar say of the machine. -/
import Derived.Test.YtmegkiipeckkaaaEa
namespace Go.Proofs.Ytmegkiipeckkaaa
open Go.RowKit Go.Proofs.YtmegkiipeckkaaaW.PrintWords Go.Proofs.YtmegkiipeckkaaaW.PrintMore
set_option linter.unusedVariables false
set_option linter.unusedSimpArgs false
def sizeF (c : Int) : Int := if c < 128 then 1 else if c < 2048 then 2 else if c < 65536 then 3 else 4
/-- The least scalar from lo to hi, of those that take n bytes. -/
def someG (least most lo hi : Int) : Int × Bool :=
  let l := if lo < least then least else lo
  let h := if hi > most then most else hi
  let l := if 55296 ≤ l ∧ l ≤ 57343 then 57344 else l
  (l, decide (l ≤ h))
def someF (lo hi n : Int) : Int × Bool :=
  if n = 1 then someG 0 127 lo hi else if n = 2 then someG 128 2047 lo hi else if n = 3 then someG 2048 65535 lo hi else someG 65536 1114111 lo hi
/-- Do these bytes begin a scalar's? The least such scalar. -/
def begF : List Int → Int × Bool
  | [b] => if b < 128 then someF b b 1 else if b < 192 then (0, false) else if b < 224 then someF ((b - 192) * 64) ((b - 192) * 64 + 63) 2 else if b < 240 then someF ((b - 224) * 4096) ((b - 224) * 4096 + 4095) 3 else if b < 248 then someF ((b - 240) * 262144) ((b - 240) * 262144 + 262143) 4 else (0, false)
  | [b, x] => if x < 128 ∨ 191 < x then (0, false) else if b < 224 then someF ((b - 192) * 64 + x - 128) ((b - 192) * 64 + x - 128) 2 else if b < 240 then someF (((b - 224) * 64 + x - 128) * 64) (((b - 224) * 64 + x - 128) * 64 + 63) 3 else someF (((b - 240) * 64 + x - 128) * 4096) (((b - 240) * 64 + x - 128) * 4096 + 4095) 4
  | [b, x, y] => if y < 128 ∨ 191 < y then (0, false) else if b < 240 then someF (((b - 224) * 64 + x - 128) * 64 + y - 128) (((b - 224) * 64 + x - 128) * 64 + y - 128) 3 else someF ((((b - 240) * 64 + x - 128) * 64 + y - 128) * 64) ((((b - 240) * 64 + x - 128) * 64 + y - 128) * 64 + 63) 4
  | [b, x, y, z] => if z < 128 ∨ 191 < z then (0, false) else someF ((((b - 240) * 64 + x - 128) * 64 + y - 128) * 64 + z - 128) ((((b - 240) * 64 + x - 128) * 64 + y - 128) * 64 + z - 128) 4
  | _ => (0, false)
/-- The machine at its beginning. -/
abbrev st0 : CS := ⟨0, 0, 0, 0⟩
theorem cok0 : cok st0 := by unfold cok; simp
/-- The encoder at its beginning. -/
abbrev es0 : ES := ⟨⟩
/-- The bytes of some scalars. -/
abbrev txt (l : List Int) : List Int := l.flatMap rby
/-- The machine, after these bytes of a scalar. -/
def Sim (s : CS) : List Int → Prop
  | [] => s.nd = 0
  | [b] => (194 ≤ b ∧ b ≤ 244) ∧ s = leadF b
  | [b, x] => (224 ≤ b ∧ b ≤ 244) ∧ ((leadF b).lo ≤ x ∧ x ≤ (leadF b).hi) ∧ s = ⟨(leadF b).nd - 1, 128, 191, (leadF b).c * 64 + x % 64⟩
  | [b, x, y] => (240 ≤ b ∧ b ≤ 244) ∧ ((leadF b).lo ≤ x ∧ x ≤ (leadF b).hi) ∧ (128 ≤ y ∧ y ≤ 191) ∧ s = ⟨1, 128, 191, ((leadF b).c * 64 + x % 64) * 64 + y % 64⟩
  | _ => False
theorem sim0 : Sim st0 [] := rfl
theorem sim_free {s : CS} (h : Sim s []) : ccut s = false := by
  have h : s.nd = 0 := h
  simp [ccut, h]
theorem isB_iff (x : Int) : isB x = true ↔ x ≤ 1114111 ∧ (x < 55296 ∨ 57343 < x) := by simp [isB]
/-- What a step may be: wrong; a beginning still; a scalar. -/
def Fit (q : List Int) (s : CS) (b : Int) : Prop :=
  ((begF (q ++ [b])).2 = false ∧ cnx s b = none) ∨
  ((begF (q ++ [b])).2 = true ∧ sizeF (begF (q ++ [b])).1 ≠ ((q ++ [b]).length : Int) ∧ ∃ s', cnx s b = some (s', none) ∧ Sim s' (q ++ [b])) ∨
  ((begF (q ++ [b])).2 = true ∧ sizeF (begF (q ++ [b])).1 = ((q ++ [b]).length : Int) ∧ ∃ s', cnx s b = some (s', some (begF (q ++ [b])).1) ∧ Sim s' [])
/-- A scalar that bytes begin. -/
def Goes (q : List Int) : Prop := (begF q).2 = true → 0 ≤ (begF q).1 ∧ isB (begF q).1 = true ∧ (rby (begF q).1).take q.length = q
theorem someG_is (least most lo hi : Int) : ∃ l ok, someG least most lo hi = (l, ok) ∧ (∀ c, lo ≤ c → c ≤ hi → least ≤ c → c ≤ most → (c < 55296 ∨ 57343 < c) → ok = true) ∧ (ok = true → lo ≤ l ∧ l ≤ hi ∧ least ≤ l ∧ l ≤ most ∧ (l < 55296 ∨ 57343 < l)) := by
  refine ⟨_, _, rfl, ?_, ?_⟩
  · intro c h1 h2 h3 h4 h5
    rw [decide_eq_true_eq]
    split <;> split <;> split <;> omega
  · intro h
    rw [decide_eq_true_eq] at h
    revert h
    split <;> split <;> split <;> omega
theorem size1 {c : Int} (h : c < 128) : sizeF c = 1 := if_pos h
theorem size2 {c : Int} (h0 : 128 ≤ c) (h1 : c ≤ 2047) : sizeF c = 2 := by unfold sizeF; rw [if_neg (by omega), if_pos (by omega)]
theorem size3 {c : Int} (h0 : 2048 ≤ c) (h1 : c ≤ 65535) : sizeF c = 3 := by unfold sizeF; rw [if_neg (by omega), if_neg (by omega), if_pos (by omega)]
theorem size4 {c : Int} (h0 : 65536 ≤ c) : sizeF c = 4 := by unfold sizeF; rw [if_neg (by omega), if_neg (by omega), if_neg (by omega)]
theorem rby1 {c : Int} (h : c < 128) : rby c = [c] := if_pos h
theorem rby2 {c : Int} (h0 : 128 ≤ c) (h1 : c ≤ 2047) : rby c = [192 + c / 64, 128 + c % 64] := by unfold rby; rw [if_neg (by omega), if_pos (by omega)]
theorem rby3 {c : Int} (h0 : 2048 ≤ c) (h1 : c ≤ 65535) : rby c = [224 + c / 4096, 128 + c / 64 % 64, 128 + c % 64] := by unfold rby; rw [if_neg (by omega), if_neg (by omega), if_pos (by omega)]
theorem rby4 {c : Int} (h0 : 65536 ≤ c) : rby c = [240 + c / 262144, 128 + c / 4096 % 64, 128 + c / 64 % 64, 128 + c % 64] := by unfold rby; rw [if_neg (by omega), if_neg (by omega), if_neg (by omega)]
/-- What Fit and Goes are shown by: the span of a beginning. -/
theorem by_no {q : List Int} {s : CS} {b least most lo hi : Int} (he : begF (q ++ [b]) = someG least most lo hi) (hc : cnx s b = none) (h : ∀ l, lo ≤ l → l ≤ hi → least ≤ l → l ≤ most → ¬ (l < 55296 ∨ 57343 < l)) : Fit q s b ∧ Goes (q ++ [b]) := by
  obtain ⟨l, ok, e, h1, h2⟩ := someG_is least most lo hi
  have hok : ok = false := by
    cases ok with
    | false => rfl
    | true =>
      obtain ⟨k1, k2, k3, k4, k5⟩ := h2 rfl
      exact absurd k5 (h l k1 k2 k3 k4)
  refine ⟨.inl ⟨by rw [he, e]; exact hok, hc⟩, fun h9 => ?_⟩
  rw [he, e] at h9
  rw [hok] at h9
  cases h9
theorem by_on {q : List Int} {s s' : CS} {b least most lo hi c n : Int} (he : begF (q ++ [b]) = someG least most lo hi) (hc : cnx s b = some (s', none)) (hs : Sim s' (q ++ [b])) (w1 : lo ≤ c) (w2 : c ≤ hi) (w3 : least ≤ c) (w4 : c ≤ most) (w5 : c < 55296 ∨ 57343 < c) (hm : most ≤ 1114111) (hl : 0 ≤ least)
    (hn : ∀ l, least ≤ l → l ≤ most → sizeF l = n) (hln : n ≠ ((q ++ [b]).length : Int)) (hp : ∀ l, lo ≤ l → l ≤ hi → least ≤ l → l ≤ most → (rby l).take (q ++ [b]).length = q ++ [b]) : Fit q s b ∧ Goes (q ++ [b]) := by
  obtain ⟨l, ok, e, h1, h2⟩ := someG_is least most lo hi
  have hok := h1 c w1 w2 w3 w4 w5
  obtain ⟨k1, k2, k3, k4, k5⟩ := h2 hok
  refine ⟨.inr (.inl ⟨by rw [he, e]; exact hok, ?_, s', hc, hs⟩), fun _ => ?_⟩
  · rw [he, e]
    show sizeF l ≠ _
    rw [hn l k3 k4]
    exact hln
  · rw [he, e]
    exact ⟨by show 0 ≤ l; omega, (isB_iff l).2 ⟨by omega, k5⟩, hp l k1 k2 k3 k4⟩
theorem by_all {q : List Int} {s s' : CS} {b least most c n : Int} (he : begF (q ++ [b]) = someG least most c c) (hc : cnx s b = some (s', some c)) (hs : Sim s' []) (w3 : least ≤ c) (w4 : c ≤ most) (w5 : c < 55296 ∨ 57343 < c) (hm : most ≤ 1114111) (hl : 0 ≤ least)
    (hn : sizeF c = ((q ++ [b]).length : Int)) (hp : (rby c).take (q ++ [b]).length = q ++ [b]) : Fit q s b ∧ Goes (q ++ [b]) := by
  obtain ⟨l, ok, e, h1, h2⟩ := someG_is least most c c
  have hok := h1 c (Int.le_refl _) (Int.le_refl _) w3 w4 w5
  obtain ⟨k1, k2, k3, k4, k5⟩ := h2 hok
  obtain rfl : l = c := by omega
  refine ⟨.inr (.inr ⟨by rw [he, e]; exact hok, by rw [he, e]; exact hn, s', by rw [he, e]; exact hc, hs⟩), fun _ => ?_⟩
  rw [he, e]
  exact ⟨by show 0 ≤ l; omega, (isB_iff l).2 ⟨by omega, k5⟩, hp⟩
theorem by_bad {q : List Int} {s : CS} {b : Int} (he : begF (q ++ [b]) = (0, false)) (hc : cnx s b = none) : Fit q s b ∧ Goes (q ++ [b]) :=
  ⟨.inl ⟨by rw [he], hc⟩, fun h9 => by rw [he] at h9; cases h9⟩
theorem sF1 (lo hi : Int) : someF lo hi 1 = someG 0 127 lo hi := rfl
theorem sF2 (lo hi : Int) : someF lo hi 2 = someG 128 2047 lo hi := rfl
theorem sF3 (lo hi : Int) : someF lo hi 3 = someG 2048 65535 lo hi := rfl
theorem sF4 (lo hi : Int) : someF lo hi 4 = someG 65536 1114111 lo hi := rfl
theorem lead2 {b : Int} (h : b < 224) : leadF b = ⟨1, 128, 191, b % 32⟩ := if_pos h
theorem lead3 {b : Int} (h0 : 224 ≤ b) (h1 : b < 240) : leadF b = ⟨2, if b = 224 then 160 else 128, if b = 237 then 159 else 191, b % 16⟩ := by unfold leadF; rw [if_neg (by omega), if_pos h1]
theorem lead4 {b : Int} (h0 : 240 ≤ b) : leadF b = ⟨3, if b = 240 then 144 else 128, if b = 244 then 143 else 191, b % 8⟩ := by unfold leadF; rw [if_neg (by omega), if_neg (by omega)]
theorem ite_eq_iff' {p : Prop} [Decidable p] {a b c : Int} : (if p then a else b) = c ↔ (p ∧ a = c) ∨ (¬ p ∧ b = c) := by split <;> simp [*]
theorem step0 {s : CS} (h : s.nd = 0) (b : Int) (h0 : 0 ≤ b) (h1 : b ≤ 255) : Fit [] s b ∧ Goes ([] ++ [b]) := by
  by_cases c1 : b < 128
  · refine by_all (s' := s) (least := 0) (most := 127) (c := b) (n := 1) ?_ ?_ h (by omega) (by omega) (by omega) (by omega) (by omega) (size1 c1) (by rw [rby1 c1]; rfl)
    · show begF [b] = _
      simp only [begF, if_pos c1, sF1]
    · unfold cnx; rw [if_pos h, if_pos c1]
  by_cases c2 : b < 192
  · refine by_bad ?_ ?_
    · show begF [b] = _
      simp only [begF, if_neg c1, if_pos c2]
    · unfold cnx; rw [if_pos h, if_neg c1, if_pos (by omega)]
  by_cases c3 : b < 224
  · have he : begF ([] ++ [b]) = someG 128 2047 ((b - 192) * 64) ((b - 192) * 64 + 63) := by
      show begF [b] = _
      simp only [begF, if_neg c1, if_neg c2, if_pos c3, sF2]
    by_cases c4 : b < 194
    · exact by_no he (by unfold cnx; rw [if_pos h, if_neg c1, if_pos (by omega)]) (by intro l; omega)
    · exact by_on (s' := leadF b) (c := (b - 192) * 64) (n := 2) he (by unfold cnx; rw [if_pos h, if_neg c1, if_neg (by omega)]) ⟨by omega, rfl⟩ (by omega) (by omega) (by omega) (by omega) (by omega) (by omega) (by omega) (fun l k1 k2 => size2 k1 k2) (by simp) (fun l k1 k2 k3 k4 => by
        rw [rby2 k3 k4]; simp only [List.nil_append, List.length_singleton, List.take_succ_cons, List.take_zero, List.cons.injEq, and_true]; omega)
  by_cases c4 : b < 240
  · have he : begF ([] ++ [b]) = someG 2048 65535 ((b - 224) * 4096) ((b - 224) * 4096 + 4095) := by
      show begF [b] = _
      simp only [begF, if_neg c1, if_neg c2, if_neg c3, if_pos c4, sF3]
    have hc : cnx s b = some (leadF b, none) := by unfold cnx; rw [if_pos h, if_neg c1, if_neg (by omega)]
    have hp : ∀ l, (b - 224) * 4096 ≤ l → l ≤ (b - 224) * 4096 + 4095 → 2048 ≤ l → l ≤ 65535 → (rby l).take ([] ++ [b]).length = [] ++ [b] := fun l k1 k2 k3 k4 => by
      rw [rby3 k3 k4]; simp only [List.nil_append, List.length_singleton, List.take_succ_cons, List.take_zero, List.cons.injEq, and_true]; omega
    by_cases c5 : b = 224
    · exact by_on (c := 2048) (n := 3) he hc ⟨by omega, rfl⟩ (by omega) (by omega) (by omega) (by omega) (by omega) (by omega) (by omega) (fun l k1 k2 => size3 k1 k2) (by simp) hp
    · exact by_on (c := (b - 224) * 4096) (n := 3) he hc ⟨by omega, rfl⟩ (by omega) (by omega) (by omega) (by omega) (by omega) (by omega) (by omega) (fun l k1 k2 => size3 k1 k2) (by simp) hp
  by_cases c5 : b < 248
  · have he : begF ([] ++ [b]) = someG 65536 1114111 ((b - 240) * 262144) ((b - 240) * 262144 + 262143) := by
      show begF [b] = _
      simp only [begF, if_neg c1, if_neg c2, if_neg c3, if_neg c4, if_pos c5, sF4]
    by_cases c6 : 244 < b
    · exact by_no he (by unfold cnx; rw [if_pos h, if_neg c1, if_pos (by omega)]) (by intro l; omega)
    have hc : cnx s b = some (leadF b, none) := by unfold cnx; rw [if_pos h, if_neg c1, if_neg (by omega)]
    have hp : ∀ l, (b - 240) * 262144 ≤ l → l ≤ (b - 240) * 262144 + 262143 → 65536 ≤ l → l ≤ 1114111 → (rby l).take ([] ++ [b]).length = [] ++ [b] := fun l k1 k2 k3 k4 => by
      rw [rby4 k3]; simp only [List.nil_append, List.length_singleton, List.take_succ_cons, List.take_zero, List.cons.injEq, and_true]; omega
    by_cases c7 : b = 240
    · exact by_on (c := 65536) (n := 4) he hc ⟨by omega, rfl⟩ (by omega) (by omega) (by omega) (by omega) (by omega) (by omega) (by omega) (fun l k1 k2 => size4 k1) (by simp) hp
    · exact by_on (c := (b - 240) * 262144) (n := 4) he hc ⟨by omega, rfl⟩ (by omega) (by omega) (by omega) (by omega) (by omega) (by omega) (by omega) (fun l k1 k2 => size4 k1) (by simp) hp
  · refine by_bad ?_ ?_
    · show begF [b] = _
      simp only [begF, if_neg c1, if_neg c2, if_neg c3, if_neg c4, if_neg c5]
    · unfold cnx; rw [if_pos h, if_neg c1, if_pos (by omega)]
theorem cnx_in {s : CS} {b : Int} (hn : s.nd ≠ 0) (h0 : s.lo ≤ b) (h1 : b ≤ s.hi) : cnx s b = if s.nd = 1 then some (⟨0, 128, 191, s.c * 64 + b % 64⟩, some (s.c * 64 + b % 64)) else some (⟨s.nd - 1, 128, 191, s.c * 64 + b % 64⟩, none) := by
  unfold cnx; rw [if_neg hn, if_neg (by omega)]
theorem cnx_out {s : CS} {b : Int} (hn : s.nd ≠ 0) (h : b < s.lo ∨ s.hi < b) : cnx s b = none := by
  unfold cnx; rw [if_neg hn, if_pos h]
theorem take2 (a b x y : Int) (l : List Int) : (a :: b :: l).take ([x] ++ [y]).length = [a, b] := rfl
theorem step1 (b x : Int) (h0 : 194 ≤ b) (h1 : b ≤ 244) (hx0 : 0 ≤ x) (hx1 : x ≤ 255) : Fit [b] (leadF b) x ∧ Goes ([b] ++ [x]) := by
  have hne : (leadF b).nd ≠ 0 := by unfold leadF; split; · simp
                                    split <;> simp
  by_cases hx : x < 128 ∨ 191 < x
  · refine by_bad ?_ (cnx_out hne ?_)
    · show begF [b, x] = _
      simp only [begF, if_pos hx]
    · unfold leadF
      split
      · exact hx
      · split
        · simp only; split <;> split <;> omega
        · simp only; split <;> split <;> omega
  by_cases c3 : b < 224
  · have hl := lead2 c3
    have he : begF ([b] ++ [x]) = someG 128 2047 ((b - 192) * 64 + x - 128) ((b - 192) * 64 + x - 128) := by
      show begF [b, x] = _
      simp only [begF, if_neg hx, if_pos c3, sF2]
    have hv : b % 32 * 64 + x % 64 = (b - 192) * 64 + x - 128 := by omega
    refine by_all (s' := ⟨0, 128, 191, (b - 192) * 64 + x - 128⟩) (n := 2) he ?_ rfl (by omega) (by omega) (by omega) (by omega) (by omega) (size2 (by omega) (by omega)) ?_
    · rw [hl, cnx_in (by simp) (by simp only; omega) (by simp only; omega), if_pos rfl]
      simp only [hv]
    · rw [rby2 (by omega) (by omega), take2]
      simp only [List.cons_append, List.nil_append, List.cons.injEq, and_true]
      omega
  by_cases c4 : b < 240
  · have hl := lead3 (by omega) c4
    have he : begF ([b] ++ [x]) = someG 2048 65535 (((b - 224) * 64 + x - 128) * 64) (((b - 224) * 64 + x - 128) * 64 + 63) := by
      show begF [b, x] = _
      simp only [begF, if_neg hx, if_neg c3, if_pos c4, sF3]
    by_cases hr : (leadF b).lo ≤ x ∧ x ≤ (leadF b).hi
    · have hr2 := hr
      rw [hl] at hr2
      simp only at hr2
      have hr3 : (b = 224 → 160 ≤ x) ∧ (b = 237 → x ≤ 159) := by
        refine ⟨fun h9 => ?_, fun h9 => ?_⟩
        · rw [if_pos h9] at hr2; omega
        · rw [if_pos h9] at hr2; omega
      refine by_on (s' := ⟨(leadF b).nd - 1, 128, 191, (leadF b).c * 64 + x % 64⟩) (c := ((b - 224) * 64 + x - 128) * 64) (n := 3) he ?_ ⟨by omega, hr, rfl⟩ (by omega) (by omega) (by omega) (by omega) (by omega) (by omega) (by omega) (fun l k1 k2 => size3 k1 k2) (by simp) (fun l k1 k2 k3 k4 => ?_)
      · rw [cnx_in hne hr.1 hr.2, if_neg (by rw [hl]; simp)]
      · rw [rby3 k3 k4, take2]
        simp only [List.cons_append, List.nil_append, List.cons.injEq, and_true]
        omega
    · refine by_no he (cnx_out hne (by omega)) (fun l k1 k2 k3 k4 => ?_)
      rw [hl] at hr
      simp only at hr
      by_cases e1 : b = 224
      · rw [if_pos e1, if_neg (by omega)] at hr; omega
      · rw [if_neg e1] at hr
        by_cases e2 : b = 237
        · rw [if_pos e2] at hr; omega
        · rw [if_neg e2] at hr; omega
  · have hl := lead4 (b := b) (by omega)
    have he : begF ([b] ++ [x]) = someG 65536 1114111 (((b - 240) * 64 + x - 128) * 4096) (((b - 240) * 64 + x - 128) * 4096 + 4095) := by
      show begF [b, x] = _
      simp only [begF, if_neg hx, if_neg c3, if_neg c4, sF4]
    by_cases hr : (leadF b).lo ≤ x ∧ x ≤ (leadF b).hi
    · have hr2 := hr
      rw [hl] at hr2
      simp only at hr2
      have hr3 : (b = 240 → 144 ≤ x) ∧ (b = 244 → x ≤ 143) := by
        refine ⟨fun h9 => ?_, fun h9 => ?_⟩
        · rw [if_pos h9] at hr2; omega
        · rw [if_pos h9] at hr2; omega
      refine by_on (s' := ⟨(leadF b).nd - 1, 128, 191, (leadF b).c * 64 + x % 64⟩) (c := ((b - 240) * 64 + x - 128) * 4096) (n := 4) he ?_ ⟨by omega, hr, rfl⟩ (by omega) (by omega) (by omega) (by omega) (by omega) (by omega) (by omega) (fun l k1 k2 => size4 k1) (by simp) (fun l k1 k2 k3 k4 => ?_)
      · rw [cnx_in hne hr.1 hr.2, if_neg (by rw [hl]; simp)]
      · rw [rby4 k3, take2]
        simp only [List.cons_append, List.nil_append, List.cons.injEq, and_true]
        omega
    · refine by_no he (cnx_out hne (by omega)) (fun l k1 k2 k3 k4 => ?_)
      rw [hl] at hr
      simp only at hr
      by_cases e1 : b = 240
      · rw [if_pos e1, if_neg (by omega)] at hr; omega
      · rw [if_neg e1] at hr
        by_cases e2 : b = 244
        · rw [if_pos e2] at hr; omega
        · rw [if_neg e2] at hr; omega
theorem take3 (a b c x y z : Int) (l : List Int) : (a :: b :: c :: l).take ([x, y] ++ [z]).length = [a, b, c] := rfl
theorem step2 (b x y : Int) (h0 : 224 ≤ b) (h1 : b ≤ 244) (hr : (leadF b).lo ≤ x ∧ x ≤ (leadF b).hi) (hy0 : 0 ≤ y) (hy1 : y ≤ 255) : Fit [b, x] ⟨(leadF b).nd - 1, 128, 191, (leadF b).c * 64 + x % 64⟩ y ∧ Goes ([b, x] ++ [y]) := by
  have hne : (leadF b).nd - 1 ≠ 0 := by
    unfold leadF
    rw [if_neg (by omega)]
    split <;> simp
  by_cases hy : y < 128 ∨ 191 < y
  · refine by_bad ?_ (cnx_out hne hy)
    show begF [b, x, y] = _
    simp only [begF, if_pos hy]
  by_cases c4 : b < 240
  · have hl := lead3 h0 c4
    have hr2 := hr
    rw [hl] at hr2
    simp only at hr2
    have hr3 : 128 ≤ x ∧ x ≤ 191 ∧ (b = 224 → 160 ≤ x) ∧ (b = 237 → x ≤ 159) := by
      by_cases e1 : b = 224
      · rw [if_pos e1, if_neg (by omega)] at hr2; omega
      · rw [if_neg e1] at hr2
        by_cases e2 : b = 237
        · rw [if_pos e2] at hr2; omega
        · rw [if_neg e2] at hr2; omega
    have he : begF ([b, x] ++ [y]) = someG 2048 65535 (((b - 224) * 64 + x - 128) * 64 + y - 128) (((b - 224) * 64 + x - 128) * 64 + y - 128) := by
      show begF [b, x, y] = _
      simp only [begF, if_neg hy, if_pos c4, sF3]
    have hv : (b % 16 * 64 + x % 64) * 64 + y % 64 = ((b - 224) * 64 + x - 128) * 64 + y - 128 := by omega
    refine by_all (s' := ⟨0, 128, 191, ((b - 224) * 64 + x - 128) * 64 + y - 128⟩) (n := 3) he ?_ rfl (by omega) (by omega) (by omega) (by omega) (by omega) (size3 (by omega) (by omega)) ?_
    · rw [cnx_in hne (by simp only; omega) (by simp only; omega), hl, if_pos (by simp)]
      simp only [hv]
    · rw [rby3 (by omega) (by omega), take3]
      simp only [List.cons_append, List.nil_append, List.cons.injEq, and_true]
      omega
  · have hl := lead4 (b := b) (by omega)
    have hr2 := hr
    rw [hl] at hr2
    simp only at hr2
    have hr3 : 128 ≤ x ∧ x ≤ 191 ∧ (b = 240 → 144 ≤ x) ∧ (b = 244 → x ≤ 143) := by
      by_cases e1 : b = 240
      · rw [if_pos e1, if_neg (by omega)] at hr2; omega
      · rw [if_neg e1] at hr2
        by_cases e2 : b = 244
        · rw [if_pos e2] at hr2; omega
        · rw [if_neg e2] at hr2; omega
    have he : begF ([b, x] ++ [y]) = someG 65536 1114111 ((((b - 240) * 64 + x - 128) * 64 + y - 128) * 64) ((((b - 240) * 64 + x - 128) * 64 + y - 128) * 64 + 63) := by
      show begF [b, x, y] = _
      simp only [begF, if_neg hy, if_neg c4, sF4]
    refine by_on (s' := ⟨1, 128, 191, ((leadF b).c * 64 + x % 64) * 64 + y % 64⟩) (c := (((b - 240) * 64 + x - 128) * 64 + y - 128) * 64) (n := 4) he ?_ ⟨by omega, hr, by omega, rfl⟩ (by omega) (by omega) (by omega) (by omega) (by omega) (by omega) (by omega) (fun l k1 k2 => size4 k1) (by simp) (fun l k1 k2 k3 k4 => ?_)
    · rw [cnx_in hne (by simp only; omega) (by simp only; omega), hl, if_neg (by simp)]
      rfl
    · rw [rby4 k3, take3]
      simp only [List.cons_append, List.nil_append, List.cons.injEq, and_true]
      omega
theorem take4 (a b c d x y z v : Int) (l : List Int) : (a :: b :: c :: d :: l).take ([x, y, z] ++ [v]).length = [a, b, c, d] := rfl
theorem step3 (b x y z : Int) (h0 : 240 ≤ b) (h1 : b ≤ 244) (hr : (leadF b).lo ≤ x ∧ x ≤ (leadF b).hi) (hy : 128 ≤ y ∧ y ≤ 191) (hz0 : 0 ≤ z) (hz1 : z ≤ 255) : Fit [b, x, y] ⟨1, 128, 191, ((leadF b).c * 64 + x % 64) * 64 + y % 64⟩ z ∧ Goes ([b, x, y] ++ [z]) := by
  by_cases hz : z < 128 ∨ 191 < z
  · refine by_bad ?_ (cnx_out (by simp) hz)
    show begF [b, x, y, z] = _
    simp only [begF, if_pos hz]
  · have hl := lead4 (b := b) (by omega)
    have hr2 := hr
    rw [hl] at hr2
    simp only at hr2
    have hr3 : 128 ≤ x ∧ x ≤ 191 ∧ (b = 240 → 144 ≤ x) ∧ (b = 244 → x ≤ 143) := by
      by_cases e1 : b = 240
      · rw [if_pos e1, if_neg (by omega)] at hr2; omega
      · rw [if_neg e1] at hr2
        by_cases e2 : b = 244
        · rw [if_pos e2] at hr2; omega
        · rw [if_neg e2] at hr2; omega
    have he : begF ([b, x, y] ++ [z]) = someG 65536 1114111 ((((b - 240) * 64 + x - 128) * 64 + y - 128) * 64 + z - 128) ((((b - 240) * 64 + x - 128) * 64 + y - 128) * 64 + z - 128) := by
      show begF [b, x, y, z] = _
      simp only [begF, if_neg hz, sF4]
    have hv : ((b % 8 * 64 + x % 64) * 64 + y % 64) * 64 + z % 64 = (((b - 240) * 64 + x - 128) * 64 + y - 128) * 64 + z - 128 := by omega
    refine by_all (s' := ⟨0, 128, 191, (((b - 240) * 64 + x - 128) * 64 + y - 128) * 64 + z - 128⟩) (n := 4) he ?_ rfl (by omega) (by omega) (by omega) (by omega) (by omega) (size4 (by omega)) ?_
    · rw [cnx_in (by simp) (by simp only; omega) (by simp only; omega), hl, if_pos rfl]
      simp only [hv]
    · rw [rby4 (by omega), take4]
      simp only [List.cons_append, List.nil_append, List.cons.injEq, and_true]
      omega
/-- One byte more. -/
theorem sim_step {s : CS} {q : List Int} {b : Int} (h : Sim s q) (h0 : 0 ≤ b) (h1 : b ≤ 255) : Fit q s b ∧ Goes (q ++ [b]) := by
  match q, h with
  | [], h => exact step0 h b h0 h1
  | [x], h =>
    obtain ⟨⟨k1, k2⟩, rfl⟩ := h
    exact step1 x b k1 k2 h0 h1
  | [x, y], h =>
    obtain ⟨⟨k1, k2⟩, k3, rfl⟩ := h
    exact step2 x y b k1 k2 k3 h0 h1
  | [x, y, z], h =>
    obtain ⟨⟨k1, k2⟩, k3, k4, rfl⟩ := h
    exact step3 x y z b k1 k2 k3 k4 h0 h1
end Go.Proofs.Ytmegkiipeckkaaa
