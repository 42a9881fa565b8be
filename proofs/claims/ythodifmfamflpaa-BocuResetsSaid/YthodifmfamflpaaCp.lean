/- The machine of layer 12, plain: what a part begins, what a byte does, what a scalar becomes. -/
import Derived.Test.YthodifmfamflpaaPd
namespace Go.Proofs.Ythodifmfamflpaa
open Go.RowKit Go.Proofs.YthodifmfamflpaaW.PrintWords Go.Proofs.YthodifmfamflpaaW.PrintLast Go.Proofs.YthodifmfamflpaaW.PrintMore PBocuExtends
set_option linter.unusedVariables false
set_option linter.unusedSimpArgs false
def isB (c : Int) : Bool := decide (c ≤ 1114111) && (decide (c < 55296) || decide (57343 < c))
/-- The digits of a part: what they are worth, and how wide the span is. -/
def rngL : Nat → List Int → Int → Int → Option (Int × Int)
  | 0, _, v, sp => some (v, sp)
  | t + 1, [], v, sp => rngL t [] (v * 243) (sp * 243)
  | t + 1, d :: ds, v, sp => if (D.tW d).2 = true then rngL t ds (v * 243 + (D.tW d).1) sp else none
/-- The differences that a part begins, and how many bytes each has. -/
def rngF : List Int → Option (Int × Int × Int)
  | [] => none
  | b :: ds => if (33 ≤ b ∧ b ≤ 254) ∧ (ds.length : Int) ≤ D.trF b then (rngL (D.trF b).toNat ds 0 1).map fun p => (D.leastF b + p.1, D.leastF b + p.1 + p.2 - 1, D.trF b + 1) else none
/-- The least scalar above 32 that isn't below a number, if the surrogates are leapt over. -/
def leapF (lo : Int) : Int := if 55296 ≤ (if lo < 33 then 33 else lo) ∧ (if lo < 33 then 33 else lo) < 57344 then 57344 else if lo < 33 then 33 else lo
def someF (lo hi : Int) : Bool := decide (leapF lo ≤ hi) && decide (leapF lo ≤ 1114111)
def prevF (c : Int) : Int := if 12352 ≤ c ∧ c ≤ 12447 then 12400 else if 19968 ≤ c ∧ c ≤ 40869 then 30481 else if 44032 ≤ c ∧ c ≤ 55203 then 49617 else c / 128 * 128 + 64
theorem prevF_range {c : Int} (h0 : 0 ≤ c) (h1 : c ≤ 1114111) : 64 ≤ prevF c ∧ prevF c ≤ 1114111 := by unfold prevF; (repeat' split) <;> omega
theorem some_at (lo hi : Int) : bocu_some.f lo hi = some (someF lo hi) := by
  unfold bocu_some.f someF leapF mx mn
  (repeat' split) <;> simp <;> omega
structure CS where
  pv : Int
  pt : List Int
def cown (s : CS) : List Value := [.int .u32 s.pv, .string (strOfNums s.pt)]
/-- A state: against what the next scalar is held; a part begins some difference to a scalar. -/
def cok (s : CS) : Prop := (64 ≤ s.pv ∧ s.pv ≤ 1114111) ∧ (s.pt = [] ∨ ∃ lo hi n, rngF s.pt = some (lo, hi, n) ∧ (s.pt.length : Int) < n ∧ someF (s.pv + lo) (s.pv + hi) = true) ∧ ∀ x ∈ s.pt, 0 ≤ x ∧ x ≤ 255
def cnx (s : CS) (b : Int) : Option (CS × Option Int) :=
  if s.pt = [] ∧ b = 255 then some (⟨64, []⟩, none)
  else if s.pt = [] ∧ b ≤ 32 then some (⟨if b < 32 then 64 else s.pv, []⟩, some b)
  else if b < 0 ∨ 255 < b then none
  else match rngF (s.pt ++ [b]) with
    | none => none
    | some (lo, hi, n) => if someF (s.pv + lo) (s.pv + hi) = true then (if (s.pt.length : Int) + 1 = n then some (⟨prevF (s.pv + lo), []⟩, some (s.pv + lo)) else some (⟨s.pv, s.pt ++ [b]⟩, none)) else none
def ccut (s : CS) : Bool := !s.pt.isEmpty
/-- The digits' value lies where it may. -/
theorem rngL_range : ∀ (t : Nat) (ds : List Int) (v sp : Int), 0 ≤ v → 1 ≤ sp → (∀ x ∈ ds, 0 ≤ x ∧ x ≤ 255) → ∀ p, rngL t ds v sp = some p → v * 243 ^ t ≤ p.1 ∧ p.1 + p.2 ≤ (v + sp) * 243 ^ t ∧ 1 ≤ p.2 ∧ (ds.length = t → p.2 = sp)
  | 0, ds, v, sp, hv, hs, _, p, h => by
    simp only [rngL, Option.some.injEq] at h
    subst h
    simp [hs]
  | t + 1, [], v, sp, hv, hs, hx, p, h => by
    rw [rngL] at h
    obtain ⟨h1, h2, h3, _⟩ := rngL_range t [] (v * 243) (sp * 243) (by omega) (by omega) hx p h
    refine ⟨?_, ?_, h3, fun h => by simp at h⟩
    · rw [Int.pow_succ', ← Int.mul_assoc]; exact h1
    · rw [Int.pow_succ', ← Int.mul_assoc, Int.add_mul]; exact h2
  | t + 1, d :: ds, v, sp, hv, hs, hx, p, h => by
    rw [rngL] at h
    by_cases hd : (D.tW d).2 = true
    · rw [if_pos hd] at h
      have hr := hx d (by simp)
      obtain ⟨g0, g1, _⟩ := D.tW_some hr.1 hr.2 hd
      obtain ⟨h1, h2, h3, h4⟩ := rngL_range t ds (v * 243 + (D.tW d).1) sp (by omega) hs (fun x hx' => hx x (by simp [hx'])) p h
      have hp : (0 : Int) < 243 ^ t := Int.pow_pos (by decide)
      refine ⟨?_, ?_, h3, fun h => h4 (by simpa using h)⟩
      · rw [Int.pow_succ', ← Int.mul_assoc]
        refine Int.le_trans (Int.mul_le_mul_of_nonneg_right ?_ (Int.le_of_lt hp)) h1
        omega
      · rw [Int.pow_succ', ← Int.mul_assoc]
        refine Int.le_trans h2 (Int.mul_le_mul_of_nonneg_right ?_ (Int.le_of_lt hp))
        rw [Int.add_mul]
        omega
    · rw [if_neg hd] at h
      cases h
/-- What Range tells, as the machine asks it. -/
def rngT (l : List Int) : Int × Int × Int × Bool :=
  match rngF l with
  | some p => (p.1, p.2.1, p.2.2, true)
  | none => (0, 0, 0, false)
theorem bt_drop1 (s : ByteArray) (i : Nat) (d : Int) (ds : List Int) (h : d :: ds = (bytesOf s).drop i) : i < s.size ∧ bt s i = d ∧ ds = (bytesOf s).drop (i + 1) := by
  have hl := congrArg List.length h
  rw [List.length_cons, List.length_drop, bytesOf_length] at hl
  have hi : i < (bytesOf s).length := by rw [bytesOf_length]; omega
  rw [List.drop_eq_getElem_cons hi] at h
  obtain ⟨h1, h2⟩ := List.cons.inj h
  refine ⟨by omega, ?_, h2⟩
  have := rd_bytesOf s (i : Int)
  rw [rd, Int.toNat_natCast, List.getD_eq_getElem?_getD, List.getElem?_eq_getElem hi] at this
  rw [← this, h1]; rfl
theorem rl_at (s : ByteArray) (from_ tr : Int) (h0 : 0 ≤ tr) (h3 : tr ≤ 3) (f0 : -100000000 ≤ from_) (f1 : from_ ≤ 100000000) (k : Nat) : ∀ (t : Nat) (ds : List Int) (v sp : Int) (i : Nat), (t : Int) = tr + 1 - i → 1 ≤ i → ds = (bytesOf s).drop i → 0 ≤ v → 1 ≤ sp → (v + sp) * 243 ^ t ≤ 14348907 →
    diff_Range.l0 (t + k + 3) s from_ tr v sp i = match rngL t ds v sp with | some p => some (from_ + p.1, from_ + p.1 + p.2 - 1, tr + 1, true) | none => some (0, 0, 0, false)
  | 0, ds, v, sp, i, ht, hi, hd, hv, hs, hc => by
    rw [show 0 + k + 3 = (k + 2) + 1 by omega, rngL]
    simp only [Int.pow_zero, Int.mul_one] at hc
    exact D.rng_done (k + 2) s from_ tr v sp i (by omega) h0 h3 f0 f1 hv (by omega) (by omega) (by omega)
  | t + 1, [], v, sp, i, ht, hi, hd, hv, hs, hc => by
    have hsz : s.size ≤ i := by
      have := congrArg List.length hd
      rw [List.length_drop, bytesOf_length, List.length_nil] at this
      omega
    have hp : (1 : Int) ≤ 243 ^ t := Int.pow_pos (by decide)
    have hc2 : (v * 243 + sp * 243) * 243 ^ t ≤ 14348907 := by
      rw [Int.pow_succ', ← Int.mul_assoc, Int.add_mul] at hc; exact hc
    have hv2 : v * 243 + sp * 243 ≤ 14348907 := Int.le_trans (by
      have := Int.mul_le_mul_of_nonneg_left hp (show 0 ≤ v * 243 + sp * 243 by omega)
      rw [Int.mul_one] at this; exact this) hc2
    rw [show t + 1 + k + 3 = (t + k + 3) + 1 by omega, D.rng_miss (t + k + 3) s from_ tr v sp i (by omega) (by omega) h3 (by omega) hv (by omega) (by omega) (by omega), rngL]
    exact rl_at s from_ tr h0 h3 f0 f1 k t [] (v * 243) (sp * 243) (i + 1) (by omega) (by omega) (by rw [List.drop_eq_nil_of_le (by rw [bytesOf_length]; omega)]) (by omega) (by omega) hc2
  | t + 1, d :: ds, v, sp, i, ht, hi, hd, hv, hs, hc => by
    obtain ⟨h1, h2, h4⟩ := bt_drop1 s i d ds hd
    have hb := bt_range s i
    have hp : (1 : Int) ≤ 243 ^ t := Int.pow_pos (by decide)
    have hc1 : (v * 243 + sp * 243) * 243 ^ t ≤ 14348907 := by
      rw [Int.pow_succ', ← Int.mul_assoc, Int.add_mul] at hc; exact hc
    have hv2 : v * 243 + sp * 243 ≤ 14348907 := Int.le_trans (by
      have := Int.mul_le_mul_of_nonneg_left hp (show 0 ≤ v * 243 + sp * 243 by omega)
      rw [Int.mul_one] at this; exact this) hc1
    rw [show t + 1 + k + 3 = (t + 1 + k) + 3 by omega, D.rng_hit (t + 1 + k) s from_ tr v sp i (by omega) (by omega) h3 (by omega) hb.1 hb.2 hv (by omega), h2, rngL]
    by_cases hw : (D.tW d).2 = true
    · rw [if_pos hw, if_pos hw]
      rw [h2] at hb
      obtain ⟨g0, g1, _⟩ := D.tW_some hb.1 hb.2 hw
      rw [show t + 1 + k + 2 = t + k + 3 by omega]
      refine rl_at s from_ tr h0 h3 f0 f1 k t ds (v * 243 + (D.tW d).1) sp (i + 1) (by omega) (by omega) h4 (by omega) hs ?_
      refine Int.le_trans (Int.mul_le_mul_of_nonneg_right ?_ (by omega)) hc1
      omega
    · rw [if_neg hw, if_neg hw]
theorem rngT_no {b : Int} {ds : List Int} (h : ¬ ((33 ≤ b ∧ b ≤ 254) ∧ (ds.length : Int) ≤ D.trF b)) : rngT (b :: ds) = (0, 0, 0, false) := by
  have e : rngF (b :: ds) = none := if_neg h
  rw [rngT, e]
theorem rngT_yes {b : Int} {ds : List Int} (h : (33 ≤ b ∧ b ≤ 254) ∧ (ds.length : Int) ≤ D.trF b) : rngT (b :: ds) = match rngL (D.trF b).toNat ds 0 1 with | some p => (D.leastF b + p.1, D.leastF b + p.1 + p.2 - 1, D.trF b + 1, true) | none => (0, 0, 0, false) := by
  have e : rngF (b :: ds) = (rngL (D.trF b).toNat ds 0 1).map fun p => (D.leastF b + p.1, D.leastF b + p.1 + p.2 - 1, D.trF b + 1) := if_pos h
  rw [rngT, e]
  cases rngL (D.trF b).toNat ds 0 1 <;> rfl
theorem range_at (k : Nat) (s : ByteArray) : diff_Range.f (k + 10) s = some (rngT (bytesOf s)) := by
  cases hl : bytesOf s with
  | nil =>
    have hz : s.size = 0 := by rw [← bytesOf_length, hl]; rfl
    rw [show k + 10 = (k + 9) + 1 from rfl, D.range_empty (k + 9) s hz]
    rfl
  | cons b ds =>
    obtain ⟨h1, h2, h3⟩ := bt_drop1 s 0 b ds (by rw [List.drop_zero, hl])
    have hlen : s.size = ds.length + 1 := by rw [← bytesOf_length, hl]; rfl
    have h2' : bt s 0 = b := h2
    by_cases hb : 33 ≤ b ∧ b ≤ 254
    · have ht := @D.tr_range b
      have hlr := D.least_range hb.1 hb.2
      rw [show k + 10 = (k + 9) + 1 from rfl, D.range_open (k + 9) s b h2' hb.1 hb.2 h1]
      by_cases hc : (s.size : Int) > D.trF b + 1
      · rw [if_pos hc, rngT_no (by omega)]
      · rw [if_neg hc, rngT_yes ⟨hb, by omega⟩]
        obtain ⟨t, hT⟩ : ∃ t : Nat, (t : Int) = D.trF b := ⟨(D.trF b).toNat, by omega⟩
        have ht3 : t ≤ 3 := by omega
        have := rl_at s (D.leastF b) (D.trF b) ht.1 ht.2 (by omega) (by omega) (6 - t + k) t ds 0 1 1 (by omega) (Nat.le_refl _) h3 (by omega) (by omega) (by
          rcases t with _ | _ | _ | _ | t
          · decide
          · decide
          · decide
          · decide
          · omega)
        rw [show t + (6 - t + k) + 3 = k + 9 by omega] at this
        rw [show ((1 : Nat) : Int) = 1 from rfl] at this
        rw [this, ← hT, Int.toNat_natCast]
        cases rngL t ds 0 1 <;> rfl
    · rw [show k + 10 = (k + 9) + 1 from rfl, D.range_nolead (k + 9) s h1 (by omega)]
      rw [rngT_no (by omega)]
/-- What Range tells lies where it may. -/
theorem rngF_range {l : List Int} {lo hi n : Int} (hx : ∀ x ∈ l, 0 ≤ x ∧ x ≤ 255) (h : rngF l = some (lo, hi, n)) : (-20000000 ≤ lo ∧ lo ≤ 20000000) ∧ (-20000000 ≤ hi ∧ hi ≤ 20000000) ∧ lo ≤ hi ∧ (l.length : Int) ≤ n ∧ n ≤ 4 ∧ ((l.length : Int) = n → lo = hi) ∧ 0 < l.length := by
  cases l with
  | nil => cases h
  | cons b ds =>
    unfold rngF at h
    simp only at h
    by_cases hc : (33 ≤ b ∧ b ≤ 254) ∧ (ds.length : Int) ≤ D.trF b
    · rw [if_pos hc] at h
      cases hp : rngL (D.trF b).toNat ds 0 1 with
      | none => rw [hp] at h; cases h
      | some p =>
        rw [hp] at h
        simp only [Option.map_some, Option.some.injEq, Prod.mk.injEq] at h
        obtain ⟨h1, h2, h3⟩ := h
        have ht := @D.tr_range b
        have hl := D.least_range hc.1.1 hc.1.2
        obtain ⟨t, hT⟩ : ∃ t : Nat, (t : Int) = D.trF b := ⟨(D.trF b).toNat, by omega⟩
        obtain ⟨g1, g2, g3, g4⟩ := rngL_range _ ds 0 1 (Int.le_refl _) (Int.le_refl _) (fun x hx' => hx x (by simp [hx'])) p hp
        rw [← hT, Int.toNat_natCast] at g1 g2 g4
        have hcap : (0 + 1) * 243 ^ t ≤ (14348907 : Int) := by
          have ht3 : t ≤ 3 := by omega
          rcases t with _ | _ | _ | _ | t
          · decide
          · decide
          · decide
          · decide
          · omega
        rw [Int.zero_mul] at g1
        rw [List.length_cons]
        refine ⟨by omega, by omega, by omega, by omega, by omega, fun he => ?_, by omega⟩
        have := g4 (by omega)
        omega
    · rw [if_neg hc] at h; cases h
theorem some_one {x : Int} (h : someF x x = true) : 33 ≤ x ∧ x ≤ 1114111 ∧ isB x = true := by
  unfold someF leapF at h
  unfold isB
  simp only [Bool.and_eq_true, decide_eq_true_eq, Bool.or_eq_true] at h ⊢
  (repeat' split at h) <;> omega
theorem cnx_ok {s s' : CS} {b : Int} {r : Option Int} (hs : cok s) (h : cnx s b = some (s', r)) : cok s' := by
  obtain ⟨pv, pt⟩ := s
  obtain ⟨h1, h2, h3⟩ := hs
  simp only at h1 h2 h3
  unfold cnx at h
  simp only at h
  split at h
  · simp only [Option.some.injEq, Prod.mk.injEq] at h
    obtain ⟨rfl, _⟩ := h
    exact ⟨by simp, .inl rfl, by simp⟩
  · split at h
    · simp only [Option.some.injEq, Prod.mk.injEq] at h
      obtain ⟨rfl, _⟩ := h
      refine ⟨?_, .inl rfl, by simp⟩
      simp only
      split <;> omega
    · split at h
      · cases h
      · rename_i hb
        have hx : ∀ x ∈ pt ++ [b], 0 ≤ x ∧ x ≤ 255 := by
          intro x hx
          rcases List.mem_append.1 hx with h9 | h9
          · exact h3 x h9
          · rw [List.mem_singleton.1 h9]; omega
        cases hr : rngF (pt ++ [b]) with
        | none => rw [hr] at h; cases h
        | some p =>
          obtain ⟨lo, hi, n⟩ := p
          rw [hr] at h
          simp only at h
          have hrr := rngF_range hx hr
          rw [List.length_append, List.length_singleton] at hrr
          by_cases hsm : someF (pv + lo) (pv + hi) = true
          · rw [if_pos hsm] at h
            by_cases hn : (pt.length : Int) + 1 = n
            · rw [if_pos hn] at h
              simp only [Option.some.injEq, Prod.mk.injEq] at h
              obtain ⟨rfl, _⟩ := h
              have := hrr.2.2.2.2.2.1 (by omega)
              subst this
              have hc := some_one hsm
              exact ⟨prevF_range (by omega) hc.2.1, .inl rfl, by simp⟩
            · rw [if_neg hn] at h
              simp only [Option.some.injEq, Prod.mk.injEq] at h
              obtain ⟨rfl, _⟩ := h
              exact ⟨h1, .inr ⟨lo, hi, n, hr, by rw [List.length_append, List.length_singleton]; omega, hsm⟩, hx⟩
          · rw [if_neg hsm] at h; cases h
theorem cok_len {s : CS} (hs : cok s) : s.pt.length ≤ 3 := by
  obtain ⟨h1, h2, h3⟩ := hs
  rcases h2 with h | ⟨lo, hi, n, h, hl, _⟩
  · rw [h]; simp
  · have := rngF_range h3 h
    omega
end Go.Proofs.Ythodifmfamflpaa
