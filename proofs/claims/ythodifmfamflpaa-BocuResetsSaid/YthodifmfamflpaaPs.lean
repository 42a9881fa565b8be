/- BOCU-1, plain: what a part begins, what a difference's bytes are; there and back. -/
import Derived.Test.YthodifmfamflpaaBs
import Derived.Test.YthodifmfamflpaaEb
namespace Go.Proofs.Ythodifmfamflpaa
open Go.RowKit Go.Proofs.YthodifmfamflpaaW.PrintWords Go.Proofs.YthodifmfamflpaaW.PrintLast Go.Proofs.YthodifmfamflpaaW.PrintMore PBocuExtends
set_option linter.unusedVariables false
set_option linter.unusedSimpArgs false
abbrev st0 : CS := ⟨64, []⟩
theorem cok0 : cok st0 := ⟨by decide, .inl rfl, by simp⟩
abbrev es0 : ES := ⟨64⟩
theorem eok0 : eok es0 := ⟨by decide, by decide⟩
abbrev txt (l : List Int) : List Int := (erun es0 l).1
theorem isB_iff (x : Int) : isB x = true ↔ x ≤ 1114111 ∧ (x < 55296 ∨ 57343 < x) := by simp [isB]
/-- How many differences have so many trail bytes and one first byte. -/
def pw (t : Int) : Int := if t = 0 then 1 else if t = 1 then 243 else if t = 2 then 59049 else 14348907
theorem least_next_fin : ∀ i : Fin 221, D.leastF (33 + ((i.val : Nat) : Int)) + pw (D.trF (33 + ((i.val : Nat) : Int))) = D.leastF (34 + ((i.val : Nat) : Int)) := by decide +kernel
theorem least_next {b : Int} (h0 : 33 ≤ b) (h1 : b ≤ 253) : D.leastF b + pw (D.trF b) = D.leastF (b + 1) := by
  have := least_next_fin ⟨(b - 33).toNat, by omega⟩
  have e : (((b - 33).toNat : Nat) : Int) = b - 33 := by omega
  simp only [e] at this
  rw [show 33 + (b - 33) = b by omega, show 34 + (b - 33) = b + 1 by omega] at this
  exact this
theorem pw_nat (t : Nat) (h : t ≤ 3) : (243 : Int) ^ t = pw (t : Int) := by
  rcases t with _ | _ | _ | _ | t
  · decide
  · decide
  · decide
  · decide
  · omega
theorem lead_of {b d : Int} (h0 : 33 ≤ b) (h1 : b ≤ 254) (d0 : -1114111 ≤ d) (d1 : d ≤ 1114111) (hl : D.leastF b ≤ d) (hu : d ≤ D.leastF b + pw (D.trF b) - 1) : D.leadF d = b := by
  have hr := D.lead_range d0 d1
  by_cases e33 : b = 33
  · subst e33
    have h9 : D.leastF 33 + pw (D.trF 33) = -187660 := by decide
    unfold D.leadF
    rw [if_pos (by omega)]
  · have h2 := (D.least_le d0 d1 (by omega) h1).1 hl
    by_cases e254 : b = 254
    · omega
    · have h3 := least_next (b := b) (by omega) (by omega)
      have h4 : ¬ b + 1 ≤ D.leadF d := fun h => by
        have := (D.least_le (b := b + 1) d0 d1 (by omega) (by omega)).2 h
        omega
      omega
theorem digs1 (x : Int) : D.digs 1 x = [D.wB (x % 243)] := rfl
theorem digs2 (x : Int) : D.digs 2 x = [D.wB (x / 243 % 243), D.wB (x % 243)] := rfl
theorem digs3 (x : Int) : D.digs 3 x = [D.wB (x / 243 / 243 % 243), D.wB (x / 243 % 243), D.wB (x % 243)] := rfl
theorem rng_ok {t : Nat} {a : Int} {ds : List Int} {v sp : Int} {p : Int × Int} (h : rngL (t + 1) (a :: ds) v sp = some p) (ha : 0 ≤ a ∧ a ≤ 255) : ∃ A, 0 ≤ A ∧ A ≤ 242 ∧ D.wB A = a ∧ rngL t ds (v * 243 + A) sp = some p := by
  rw [rngL] at h
  by_cases hw : (D.tW a).2 = true
  · rw [if_pos hw] at h
    obtain ⟨g0, g1, g2⟩ := D.tW_some ha.1 ha.2 hw
    exact ⟨_, g0, g1, g2, h⟩
  · rw [if_neg hw] at h; cases h
theorem rng_nil0 (v sp : Int) : rngL 0 [] v sp = some (v, sp) := rfl
theorem rng_nil1 (v sp : Int) : rngL 1 [] v sp = some (v * 243, sp * 243) := rfl
theorem rng_nil2 (v sp : Int) : rngL 2 [] v sp = some (v * 243 * 243, sp * 243 * 243) := rfl
theorem rng_nil3 (v sp : Int) : rngL 3 [] v sp = some (v * 243 * 243 * 243, sp * 243 * 243 * 243) := rfl
theorem range_digs (t : Nat) (ds : List Int) (p : Int × Int) (x : Int) (ht : t ≤ 3) (hl : ds.length ≤ t) (hx : ∀ z ∈ ds, 0 ≤ z ∧ z ≤ 255) (h : rngL t ds 0 1 = some p) (h0 : p.1 ≤ x) (h1 : x ≤ p.1 + p.2 - 1) : (D.digs (t : Int) x).take ds.length = ds := by
  match ds, hl, hx, h with
  | [], _, _, _ => simp
  | [a], hl, hx, h =>
    obtain ⟨t, rfl⟩ : ∃ q, t = q + 1 := ⟨t - 1, by simp at hl; omega⟩
    obtain ⟨A, a0, a1, ea, h⟩ := rng_ok h (hx a (by simp))
    rw [Int.zero_mul, Int.zero_add] at h
    rcases t with _ | _ | _ | t
    · rw [rng_nil0] at h; obtain rfl := Option.some.inj h
      simp only at h0 h1
      show [D.wB (x % 243)].take 1 = [a]
      rw [show x % 243 = A by omega, ea]; rfl
    · rw [rng_nil1] at h; obtain rfl := Option.some.inj h
      simp only at h0 h1
      show [D.wB (x / 243 % 243), D.wB (x % 243)].take 1 = [a]
      rw [show x / 243 % 243 = A by omega, ea]; rfl
    · rw [rng_nil2] at h; obtain rfl := Option.some.inj h
      simp only at h0 h1
      show [D.wB (x / 243 / 243 % 243), D.wB (x / 243 % 243), D.wB (x % 243)].take 1 = [a]
      rw [show x / 243 / 243 % 243 = A by omega, ea]; rfl
    · omega
  | [a, b], hl, hx, h =>
    obtain ⟨t, rfl⟩ : ∃ q, t = q + 2 := ⟨t - 2, by simp at hl; omega⟩
    obtain ⟨A, a0, a1, ea, h⟩ := rng_ok h (hx a (by simp))
    rw [Int.zero_mul, Int.zero_add] at h
    obtain ⟨B, b0, b1, eb, h⟩ := rng_ok h (hx b (by simp))
    rcases t with _ | _ | t
    · rw [rng_nil0] at h; obtain rfl := Option.some.inj h
      simp only at h0 h1
      show [D.wB (x / 243 % 243), D.wB (x % 243)].take 2 = [a, b]
      rw [show x % 243 = B by omega, show x / 243 % 243 = A by omega, ea, eb]; rfl
    · rw [rng_nil1] at h; obtain rfl := Option.some.inj h
      simp only at h0 h1
      show [D.wB (x / 243 / 243 % 243), D.wB (x / 243 % 243), D.wB (x % 243)].take 2 = [a, b]
      rw [show x / 243 / 243 % 243 = A by omega, show x / 243 % 243 = B by omega, ea, eb]; rfl
    · omega
  | [a, b, c], hl, hx, h =>
    obtain rfl : t = 3 := by simp at hl; omega
    obtain ⟨A, a0, a1, ea, h⟩ := rng_ok h (hx a (by simp))
    rw [Int.zero_mul, Int.zero_add] at h
    obtain ⟨B, b0, b1, eb, h⟩ := rng_ok h (hx b (by simp))
    obtain ⟨C, c0, c1, ec, h⟩ := rng_ok h (hx c (by simp))
    rw [rng_nil0] at h; obtain rfl := Option.some.inj h
    simp only at h0 h1
    show [D.wB (x / 243 / 243 % 243), D.wB (x / 243 % 243), D.wB (x % 243)].take 3 = [a, b, c]
    rw [show x / 243 / 243 % 243 = A by omega, show x % 243 = C by omega, show x / 243 % 243 = B by omega, ea, eb, ec]; rfl
  | _ :: _ :: _ :: _ :: _, hl, _, _ => simp at hl; omega
/-- What a part begins has that part's bytes first. -/
theorem range_conv {q : List Int} {lo hi n d : Int} (hx : ∀ x ∈ q, 0 ≤ x ∧ x ≤ 255) (h : rngF q = some (lo, hi, n)) (d0 : -1114111 ≤ d) (d1 : d ≤ 1114111) (h0 : lo ≤ d) (h1 : d ≤ hi) : (D.packF d).take q.length = q ∧ ((D.packF d).length : Int) = n := by
  cases q with
  | nil => cases h
  | cons b ds =>
    unfold rngF at h
    simp only at h
    by_cases hc : (33 ≤ b ∧ b ≤ 254) ∧ (ds.length : Int) ≤ D.trF b
    · rw [if_pos hc] at h
      cases hp : rngL (D.trF b).toNat ds 0 1 with
      | none => rw [hp] at h; cases h
      | some p =>
        rw [hp] at h
        simp only [Option.map_some, Option.some.injEq, Prod.mk.injEq] at h
        obtain ⟨e1, e2, e3⟩ := h
        have ht := @D.tr_range b
        obtain ⟨t, hT⟩ : ∃ t : Nat, (t : Int) = D.trF b := ⟨(D.trF b).toNat, by omega⟩
        rw [← hT, Int.toNat_natCast] at hp
        have hds : ∀ x ∈ ds, 0 ≤ x ∧ x ≤ 255 := fun x hx' => hx x (by simp [hx'])
        obtain ⟨g1, g2, g3, g4⟩ := rngL_range _ ds 0 1 (Int.le_refl _) (Int.le_refl _) hds p hp
        rw [pw_nat t (by omega), hT] at g1 g2
        rw [Int.zero_mul] at g1
        rw [show (0 : Int) + 1 = 1 by decide, Int.one_mul] at g2
        have hlead := lead_of (b := b) (d := d) hc.1.1 hc.1.2 d0 d1 (by omega) (by omega)
        have hdig := range_digs t ds p (d - D.leastF b) (by omega) (by omega) hds hp (by omega) (by omega)
        have hlen := @D.packF_len d
        rw [hlead] at hlen
        refine ⟨?_, by omega⟩
        rw [D.packF, hlead, ← hT, List.length_cons, List.take_succ_cons, hdig]
    · rw [if_neg hc] at h; cases h
theorem rngF_pre (d : Int) (c : Nat) (h0 : -1114111 ≤ d) (h1 : d ≤ 1114111) (hc0 : 0 < c) (hc : c ≤ (D.packF d).length) : ∃ lo hi, rngF ((D.packF d).take c) = some (lo, hi, ((D.packF d).length : Int)) ∧ lo ≤ d ∧ d ≤ hi ∧ (c = (D.packF d).length → lo = d ∧ hi = d) := by
  have hlen := @D.packF_len d
  obtain ⟨lo, hi, hq, hlo, hhi, hf⟩ := D.range_pre 80 d c h0 h1 hc0 (by omega)
  have hb : ∀ x ∈ (D.packF d).take c, 0 ≤ x ∧ x ≤ 255 := fun x hx => D.pack_inB h0 h1 x (List.mem_of_mem_take hx)
  have hr := range_at 91 (strOfNums ((D.packF d).take c))
  rw [bytes_ofn hb] at hr
  rw [show 91 + 10 = 80 + 21 by rfl] at hr
  rw [hq] at hr
  have hr := Option.some.inj hr
  unfold rngT at hr
  cases hF : rngF ((D.packF d).take c) with
  | none => rw [hF] at hr; simp at hr
  | some p =>
    rw [hF] at hr
    simp only [Prod.mk.injEq] at hr
    obtain ⟨e1, e2, e3, _⟩ := hr
    obtain ⟨p1, p2, p3⟩ := p
    simp only at e1 e2 e3
    subst e1 e2 e3
    refine ⟨_, _, by rw [hlen], hlo, hhi, fun h => ?_⟩
    have := hf (by omega)
    omega
theorem some_of {c lo hi : Int} (h0 : lo ≤ c) (h1 : c ≤ hi) (h2 : 33 ≤ c) (h3 : isB c = true) : someF lo hi = true := by
  rw [isB_iff] at h3
  unfold someF leapF
  simp only [Bool.and_eq_true, decide_eq_true_eq]
  (repeat' split) <;> omega
theorem leap_ok {lo hi : Int} (h : someF lo hi = true) : lo ≤ leapF lo ∧ leapF lo ≤ hi ∧ 33 ≤ leapF lo ∧ isB (leapF lo) = true := by
  rw [isB_iff]
  unfold someF leapF at h
  unfold leapF
  simp only [Bool.and_eq_true, decide_eq_true_eq] at h
  (repeat' split at h) <;> (repeat' split) <;> omega
/-- The ways of one byte. -/
theorem cnx_cases {s s' : CS} {b : Int} {r : Option Int} (hs : cok s) (h : cnx s b = some (s', r)) :
    (s.pt = [] ∧ b = 255 ∧ s' = ⟨64, []⟩ ∧ r = none) ∨ (s.pt = [] ∧ b ≤ 32 ∧ s' = ⟨if b < 32 then 64 else s.pv, []⟩ ∧ r = some b) ∨
    ((0 ≤ b ∧ b ≤ 255) ∧ ∃ lo hi n, rngF (s.pt ++ [b]) = some (lo, hi, n) ∧ someF (s.pv + lo) (s.pv + hi) = true ∧ (s.pt.length : Int) + 1 ≠ n ∧ s' = ⟨s.pv, s.pt ++ [b]⟩ ∧ r = none) ∨
    ((0 ≤ b ∧ b ≤ 255) ∧ ∃ lo n, rngF (s.pt ++ [b]) = some (lo, lo, n) ∧ (s.pt.length : Int) + 1 = n ∧ 33 ≤ s.pv + lo ∧ isB (s.pv + lo) = true ∧ s' = ⟨prevF (s.pv + lo), []⟩ ∧ r = some (s.pv + lo)) := by
  obtain ⟨pv, pt⟩ := s
  obtain ⟨h1, h2, h3⟩ := hs
  simp only at h1 h2 h3
  unfold cnx at h
  simp only at h ⊢
  split at h
  · rename_i k
    simp only [Option.some.injEq, Prod.mk.injEq] at h
    exact .inl ⟨k.1, k.2, h.1.symm, h.2.symm⟩
  · split at h
    · rename_i k
      simp only [Option.some.injEq, Prod.mk.injEq] at h
      exact .inr (.inl ⟨k.1, k.2, h.1.symm, h.2.symm⟩)
    · split at h
      · cases h
      · rename_i hb
        have hx : ∀ x ∈ pt ++ [b], 0 ≤ x ∧ x ≤ 255 := by
          intro x hx
          rcases List.mem_append.1 hx with h9 | h9
          · exact h3 x h9
          · rw [List.mem_singleton.1 h9]; omega
        cases hr : rngF (pt ++ [b]) with
        | none => rw [hr] at h; cases h
        | some p =>
          obtain ⟨lo, hi, n⟩ := p
          rw [hr] at h
          simp only at h
          have hrr := rngF_range hx hr
          rw [List.length_append, List.length_singleton] at hrr
          by_cases hsm : someF (pv + lo) (pv + hi) = true
          · rw [if_pos hsm] at h
            by_cases hn : (pt.length : Int) + 1 = n
            · rw [if_pos hn] at h
              simp only [Option.some.injEq, Prod.mk.injEq] at h
              have := hrr.2.2.2.2.2.1 (by omega)
              subst this
              have hc := some_one hsm
              exact .inr (.inr (.inr ⟨by omega, lo, n, rfl, hn, hc.1, hc.2.2, h.1.symm, h.2.symm⟩))
            · rw [if_neg hn] at h
              simp only [Option.some.injEq, Prod.mk.injEq] at h
              exact .inr (.inr (.inl ⟨by omega, lo, hi, n, rfl, hsm, hn, h.1.symm, h.2.symm⟩))
          · rw [if_neg hsm] at h; cases h
/-- A difference's bytes, one by one. -/
theorem cnx_pack {pv c : Int} (hp : 64 ≤ pv ∧ pv ≤ 1114111) (h0 : 33 ≤ c) (hc : isB c = true) (j : Nat) (hj : j < (D.packF (c - pv)).length) :
    cnx ⟨pv, (D.packF (c - pv)).take j⟩ ((D.packF (c - pv)).getD j 0) = if j + 1 = (D.packF (c - pv)).length then some (⟨prevF c, []⟩, some c) else some (⟨pv, (D.packF (c - pv)).take (j + 1)⟩, none) := by
  have hcr := isB_range hc
  have d0 : -1114111 ≤ c - pv := by omega
  have d1 : c - pv ≤ 1114111 := by omega
  have hbs := D.pack_inB d0 d1
  obtain ⟨lo, hi, hr, hlo, hhi, hfull⟩ := rngF_pre (c - pv) (j + 1) d0 d1 (by omega) (by omega)
  have hlead := D.lead_range d0 d1
  have hhd : ∃ ds, D.packF (c - pv) = D.leadF (c - pv) :: ds := ⟨_, rfl⟩
  generalize D.packF (c - pv) = p at *
  obtain ⟨ds, hds⟩ := hhd
  have hsn : p.take j ++ [p.getD j 0] = p.take (j + 1) := by
    rw [List.take_succ_eq_append_getElem hj, List.getD_eq_getElem?_getD, List.getElem?_eq_getElem hj]; rfl
  have hb : 0 ≤ p.getD j 0 ∧ p.getD j 0 ≤ 255 := hbs _ (by rw [List.getD_eq_getElem?_getD, List.getElem?_eq_getElem hj]; exact List.getElem_mem _)
  have hpe : p.take j = [] → 33 ≤ p.getD j 0 ∧ p.getD j 0 ≤ 254 := by
    intro h
    have : j = 0 := by
      rcases j with _ | j
      · rfl
      · rw [hds] at h; simp at h
    subst this
    rw [hds]
    exact hlead
  have hl : ((p.take j).length : Int) = j := by rw [List.length_take]; omega
  unfold cnx
  simp only
  rw [if_neg (fun h => by have := hpe h.1; omega), if_neg (fun h => by have := hpe h.1; omega), if_neg (by omega), hsn, hr]
  simp only
  rw [if_pos (some_of (c := c) (by omega) (by omega) h0 hc), hl]
  by_cases he : j + 1 = p.length
  · obtain ⟨e1, e2⟩ := hfull he
    rw [if_pos (by omega), if_pos he, e1, show pv + (c - pv) = c by omega]
  · rw [if_neg (by omega), if_neg he]
theorem run_tail {pv c : Int} (hp : 64 ≤ pv ∧ pv ≤ 1114111) (h0 : 33 ≤ c) (hc : isB c = true) : ∀ (n j : Nat), (D.packF (c - pv)).length - j = n + 1 → run cnx ⟨pv, (D.packF (c - pv)).take j⟩ ((D.packF (c - pv)).drop j) = some (⟨prevF c, []⟩, [c])
  | n, j, hn => by
    have hj : j < (D.packF (c - pv)).length := by omega
    rw [List.drop_eq_getElem_cons hj, run]
    have hg : (D.packF (c - pv))[j] = (D.packF (c - pv)).getD j 0 := by rw [List.getD_eq_getElem?_getD, List.getElem?_eq_getElem hj]; rfl
    rw [hg, cnx_pack hp h0 hc j hj]
    rcases n with _ | n
    · rw [if_pos (by omega), Option.bind_some, List.drop_eq_nil_of_le (by omega)]
      rfl
    · rw [if_neg (by omega), Option.bind_some, run_tail hp h0 hc n (j + 1) (by omega)]
      rfl
theorem run_by {s : ES} (hs : eok s) (c : Int) (h0 : 0 ≤ c) (hc : isB c = true) : run cnx ⟨s.pv, []⟩ (eby s c).1 = some (⟨(eby s c).2.pv, []⟩, [c]) := by
  unfold eby
  by_cases h : c ≤ 32
  · rw [if_pos h]
    have e : cnx ⟨s.pv, []⟩ c = some (⟨if c < 32 then 64 else s.pv, []⟩, some c) := by
      unfold cnx
      simp only
      rw [if_neg (by omega), if_pos ⟨trivial, h⟩]
    simp only [run, e, Option.bind_some, Option.map_some]
    rfl
  · rw [if_neg h]
    have hl : 0 < (D.packF (c - s.pv)).length := by simp [D.packF]
    exact run_tail hs (by omega) hc ((D.packF (c - s.pv)).length - 1) 0 (by omega)
theorem back_gen : ∀ (l : List Int) (s : ES), eok s → (∀ c ∈ l, 0 ≤ c ∧ isB c = true) → run cnx ⟨s.pv, []⟩ (erun s l).1 = some (⟨(erun s l).2.pv, []⟩, l)
  | [], s, _, _ => rfl
  | c :: l, s, hs, h => by
    have hc := h c (by simp)
    simp only [erun]
    rw [run_append, run_by hs c hc.1 hc.2, Option.bind_some, back_gen l _ (eby_ok hs hc.1 hc.2) (fun x hx => h x (by simp [hx]))]
    rfl
theorem back_law (l : List Int) (h : ∀ c ∈ l, 0 ≤ c ∧ isB c = true) : ∃ s', run cnx st0 (txt l) = some (s', l) ∧ ccut s' = false :=
  ⟨_, back_gen l es0 eok0 h, rfl⟩
theorem cnx_sc {s s' : CS} {b : Int} {r : Option Int} (hs : cok s) (hb : 0 ≤ b ∧ b ≤ 255) (h : cnx s b = some (s', r)) : ∀ c ∈ r.toList, 0 ≤ c ∧ isB c = true := by
  intro c hc
  rcases cnx_cases hs h with ⟨_, _, _, rfl⟩ | ⟨_, h2, _, rfl⟩ | ⟨_, _, _, _, _, _, _, _, rfl⟩ | ⟨_, _, _, _, _, h1, h2, _, rfl⟩
  · simp at hc
  · simp only [Option.toList, List.mem_singleton] at hc
    subst hc
    exact ⟨hb.1, by rw [isB_iff]; omega⟩
  · simp at hc
  · simp only [Option.toList, List.mem_singleton] at hc
    subst hc
    exact ⟨by omega, h2⟩
theorem run_sc : ∀ (l : List Int) {s s' : CS} {os : List Int}, cok s → (∀ x ∈ l, 0 ≤ x ∧ x ≤ 255) → run cnx s l = some (s', os) → ∀ c ∈ os, 0 ≤ c ∧ isB c = true
  | [], s, s', os, _, _, h => by
    simp only [run, Option.some.injEq, Prod.mk.injEq] at h
    rw [← h.2]; simp
  | b :: l, s, s', os, hs, hx, h => by
    rw [run] at h
    cases hb : cnx s b with
    | none => rw [hb] at h; cases h
    | some p =>
      rw [hb, Option.bind_some] at h
      obtain ⟨q, hq, he⟩ := Option.map_eq_some_iff.1 h
      simp only [Prod.mk.injEq] at he
      rw [← he.2]
      intro c hc
      rcases List.mem_append.1 hc with h9 | h9
      · exact cnx_sc hs (hx b (by simp)) hb c h9
      · exact run_sc l (cnx_ok hs hb) (fun x hx' => hx x (by simp [hx'])) (s' := q.1) (os := q.2) (by rw [hq]) c h9
/-- What was read without a reset is written again as it was. -/
theorem fit_gen : ∀ (l : List Int) {s s' : CS} {os : List Int}, cok s → (∀ x ∈ l, 0 ≤ x ∧ x < 255) → run cnx s l = some (s', os) → (erun ⟨s.pv⟩ os).1 ++ s'.pt = s.pt ++ l ∧ (erun ⟨s.pv⟩ os).2.pv = s'.pv
  | [], s, s', os, _, _, h => by
    simp only [run, Option.some.injEq, Prod.mk.injEq] at h
    obtain ⟨rfl, rfl⟩ := h
    simp [erun]
  | b :: l, s, s', os, hs, hx, h => by
    rw [run] at h
    cases hb : cnx s b with
    | none => rw [hb] at h; cases h
    | some p =>
      obtain ⟨s1, r⟩ := p
      rw [hb, Option.bind_some] at h
      obtain ⟨q, hq, he⟩ := Option.map_eq_some_iff.1 h
      obtain ⟨q1, q2⟩ := q
      simp only [Prod.mk.injEq] at he
      obtain ⟨rfl, rfl⟩ := he
      have hb9 := hx b (by simp)
      have hs1 := cnx_ok hs hb
      obtain ⟨ih1, ih2⟩ := fit_gen l hs1 (fun x hx' => hx x (by simp [hx'])) hq
      rcases cnx_cases hs hb with ⟨_, h2, _, _⟩ | ⟨h1, h2, rfl, rfl⟩ | ⟨_, lo, hi, n, h3, h4, h5, rfl, rfl⟩ | ⟨_, lo, n, h3, h4, h5, h6, rfl, rfl⟩
      · omega
      · have e : eby ⟨s.pv⟩ b = ([b], ⟨if b < 32 then 64 else s.pv⟩) := if_pos h2
        simp only [Option.toList, List.cons_append, List.nil_append, erun, e]
        rw [h1, List.nil_append, ← ih2]
        simp only [List.nil_append] at ih1
        exact ⟨congrArg (b :: ·) ih1, rfl⟩
      · simp only [Option.toList, List.nil_append]
        rw [ih1]
        exact ⟨by simp, ih2⟩
      · have hx2 : ∀ x ∈ s.pt ++ [b], 0 ≤ x ∧ x ≤ 255 := by
          intro x hx3
          rcases List.mem_append.1 hx3 with h9 | h9
          · exact hs.2.2 x h9
          · rw [List.mem_singleton.1 h9]; omega
        have hcr := isB_range h6
        have hpv := hs.1
        obtain ⟨c1, c2⟩ := range_conv (d := lo) hx2 h3 (by omega) (by omega) (Int.le_refl _) (Int.le_refl _)
        rw [List.take_of_length_le (by rw [List.length_append, List.length_singleton]; omega)] at c1
        have e : eby ⟨s.pv⟩ (s.pv + lo) = (s.pt ++ [b], ⟨prevF (s.pv + lo)⟩) := by
          unfold eby
          rw [if_neg (by omega), show s.pv + lo - s.pv = lo by omega, c1]
        simp only [Option.toList, List.cons_append, List.nil_append, erun, e]
        rw [List.append_assoc]
        simp only [List.nil_append] at ih1
        rw [ih1]
        exact ⟨by simp, ih2⟩
theorem one_law (l : List Int) (s : CS) (os : List Int) (hx : ∀ x ∈ l, 0 ≤ x ∧ x < 255) (hr : run cnx st0 l = some (s, os)) (hc : ccut s = false) : txt os = l ∧ ∀ c ∈ os, 0 ≤ c ∧ isB c = true := by
  have h1 := (fit_gen l cok0 hx hr).1
  have hp : s.pt = [] := by simpa [ccut] using hc
  rw [hp, List.append_nil, List.nil_append] at h1
  exact ⟨h1, run_sc l cok0 (fun x h => by have := hx x h; omega) hr⟩
end Go.Proofs.Ythodifmfamflpaa
