/- UTF-16: what is written is read, what is read is written: plain laws. -/
import Derived.Test.YtjddbdhpdenaeaaLe
import Derived.Test.YtjddbdhpdenaeaaPs
namespace Go.Proofs.Ytjddbdhpdenaeaa
open Go.RowKit Go.Proofs.YtjddbdhpdenaeaaW.PrintWords Go.Proofs.YtjddbdhpdenaeaaW.PrintMore
set_option linter.unusedVariables false
set_option linter.unusedSimpArgs false
theorem bytes_inj {x y : ByteArray} (h : bytesOf x = bytesOf y) : x = y := by
  have h1 := (toList_of_bytes h).trans (toList_of_bytes (rfl : bytesOf y = bytesOf y)).symm
  rw [ByteArray.toList_eq, ByteArray.toList_eq] at h1
  obtain ⟨⟨a⟩⟩ := x
  obtain ⟨⟨b⟩⟩ := y
  simp at h1
  rw [h1]
theorem unit_bytes (big : Bool) (u : Int) (h0 : 0 ≤ u) (h1 : u ≤ 65535) : ∃ x y, ubyF big u = [x, y] ∧ unitB big x y = u ∧ (0 ≤ x ∧ x ≤ 255) ∧ (0 ≤ y ∧ y ≤ 255) ∧ (big = true → x * 256 = u - u % 256) := by
  cases big with
  | true => exact ⟨u / 256, u % 256, rfl, by simp [unitB]; omega, by omega, by omega, fun _ => by omega⟩
  | false => exact ⟨u % 256, u / 256, rfl, by simp [unitB]; omega, by omega, by omega, fun h => by cases h⟩
theorem isLow_hi (u : Int) : isLow (u - u % 256) = isLow u := by
  unfold isLow
  rw [Bool.eq_iff_iff]
  simp
  omega
/-- Two bytes of a unit that isn't the second of two. -/
theorem run_first {big : Bool} {s : CS} (h : Sim big s []) (u : Int) (h0 : 0 ≤ u) (h1 : u ≤ 65535) (hl : isLow u = false) :
    ∃ x y s', ubyF big u = [x, y] ∧ unitB big x y = u ∧ (isHigh u = true → run cnx s [x, y] = some (s', []) ∧ Sim big s' [x, y]) ∧ (isHigh u = false → run cnx s [x, y] = some (s', [u]) ∧ Sim big s' []) := by
  obtain ⟨x, y, e, hu, hx, hy, hb⟩ := unit_bytes big u h0 h1
  rcases sim_step h hx.1 hx.2 with ⟨g1, _⟩ | ⟨_, _, s1, g2, g3⟩ | ⟨_, g1, _⟩
  · exfalso
    simp only [List.nil_append, begF, Bool.not_eq_false', Bool.and_eq_true] at g1
    rw [hb g1.1, isLow_hi, hl] at g1
    cases g1.2
  · rcases sim_step g3 hy.1 hy.2 with ⟨k1, _⟩ | ⟨_, k1, s2, k2, k3⟩ | ⟨_, k1, s2, k2, k3⟩
    · exfalso
      simp [begF, hu, hl] at k1
    · have hh : isHigh u = true := by simpa [begF, hu, hl] using k1
      refine ⟨x, y, s2, e, hu, fun _ => ⟨?_, k3⟩, fun h9 => by rw [hh] at h9; cases h9⟩
      simp [run, g2, k2]
    · have hh : isHigh u = false := by simpa [begF, hu, hl] using k1
      refine ⟨x, y, s2, e, hu, fun h9 => (by rw [hh] at h9; cases h9), fun _ => ⟨?_, k3⟩⟩
      simp [run, g2, k2, valF, hu]
  · exfalso
    simp [begF] at g1
/-- Two bytes of a second unit. -/
theorem run_second {big : Bool} {s : CS} {a b : Int} (h : Sim big s [a, b]) (u : Int) (h0 : 0 ≤ u) (h1 : u ≤ 65535) (hl : isLow u = true) :
    ∃ x y s', ubyF big u = [x, y] ∧ run cnx s [x, y] = some (s', [pairB (unitB big a b) u]) ∧ Sim big s' [] := by
  obtain ⟨x, y, e, hu, hx, hy, hb⟩ := unit_bytes big u h0 h1
  rcases sim_step h hx.1 hx.2 with ⟨g1, _⟩ | ⟨_, _, s1, g2, g3⟩ | ⟨_, g1, _⟩
  · exfalso
    simp only [List.cons_append, List.nil_append, begF, Bool.or_eq_false_iff, Bool.not_eq_false'] at g1
    rw [hb g1.1, isLow_hi, hl] at g1
    cases g1.2
  · rcases sim_step g3 hy.1 hy.2 with ⟨k1, _⟩ | ⟨_, k1, s2, k2, k3⟩ | ⟨_, k1, s2, k2, k3⟩
    · exfalso
      simp [begF, hu, hl] at k1
    · exfalso
      simp [begF, hu, hl] at k1
    · refine ⟨x, y, s2, e, ?_, k3⟩
      simp [run, g2, k2, valF, hu]
  · exfalso
    simp [begF] at g1
/-- A scalar's bytes are read. -/
theorem run_rby {big : Bool} {s : CS} (h : Sim big s []) (c : Int) (h0 : 0 ≤ c) (hc : isB c = true) : ∃ s', run cnx s (rby big c) = some (s', [c]) ∧ Sim big s' [] := by
  have h1 := isB_range hc
  have h2 : c < 55296 ∨ 57343 < c := by
    simp only [isB, Bool.and_eq_true, Bool.or_eq_true, decide_eq_true_eq] at hc
    exact hc.2
  unfold rby
  by_cases hs : c < 65536
  · rw [if_pos hs]
    obtain ⟨x, y, s', e, hu, _, g⟩ := run_first h c h0 (by omega) (by simp only [isLow, Bool.and_eq_false_iff, decide_eq_false_iff_not]; omega)
    rw [e]
    exact ⟨s', g (by simp only [isHigh, Bool.and_eq_false_iff, decide_eq_false_iff_not]; omega)⟩
  · rw [if_neg hs]
    obtain ⟨x, y, s1, e1, hu1, g1, _⟩ := run_first h (55296 + (c - 65536) / 1024) (by omega) (by omega) (by simp only [isLow, Bool.and_eq_false_iff, decide_eq_false_iff_not]; omega)
    obtain ⟨k1, k2⟩ := g1 (by simp only [isHigh, Bool.and_eq_true, decide_eq_true_eq]; omega)
    obtain ⟨z, v, s2, e2, k3, k4⟩ := run_second k2 (56320 + (c - 65536) % 1024) (by omega) (by omega) (by simp only [isLow, Bool.and_eq_true, decide_eq_true_eq]; omega)
    rw [e1, e2, run_append, k1, Option.bind_some, k3]
    refine ⟨s2, ?_, k4⟩
    have : pairB (unitB big x y) (56320 + (c - 65536) % 1024) = c := by rw [hu1]; unfold pairB; omega
    simp [this]
theorem sim_free {big : Bool} {s : CS} (h : Sim big s []) : ccut s = false := by
  obtain ⟨_, h1, h2⟩ := h
  simp [ccut, h1, h2]
/-- What is written is read as it was. -/
theorem back_law {big : Bool} : ∀ (l : List Int) {s : CS}, Sim big s [] → (∀ c ∈ l, 0 ≤ c ∧ isB c = true) → ∃ s', run cnx s (l.flatMap (rby big)) = some (s', l) ∧ Sim big s' []
  | [], s, hs, _ => ⟨s, rfl, hs⟩
  | c :: l, s, hs, h => by
    have h1 := h c (by simp)
    obtain ⟨s1, k1, k2⟩ := run_rby hs c h1.1 h1.2
    obtain ⟨s2, k3, k4⟩ := back_law l k2 (fun c hc => h c (by simp [hc]))
    refine ⟨s2, ?_, k4⟩
    rw [List.flatMap_cons, run_append, k1, Option.bind_some, k3]
    rfl
theorem uby_unit (big : Bool) (x y : Int) (hx : 0 ≤ x ∧ x ≤ 255) (hy : 0 ≤ y ∧ y ≤ 255) : ubyF big (unitB big x y) = [x, y] ∧ 0 ≤ unitB big x y ∧ unitB big x y ≤ 65535 := by
  cases big <;> simp [ubyF, unitB] <;> omega
/-- A scalar that is read has these bytes. -/
theorem val_law {big : Bool} {s : CS} {q : List Int} {b : Int} (h : Sim big s q) (hx : ∀ x ∈ q ++ [b], 0 ≤ x ∧ x ≤ 255) (hw : (begF big (q ++ [b])).2 = true) : rby big (valF big (q ++ [b])) = q ++ [b] ∧ 0 ≤ valF big (q ++ [b]) ∧ isB (valF big (q ++ [b])) = true := by
  match q, h, hx, hw with
  | [], _, _, hw => simp [begF] at hw
  | [x], h, hx, hw =>
    obtain ⟨u1, u2, u3⟩ := uby_unit big x b (hx x (by simp)) (hx b (by simp))
    show rby big (unitB big x b) = [x, b] ∧ 0 ≤ unitB big x b ∧ isB (unitB big x b) = true
    simp only [List.cons_append, List.nil_append, begF, Bool.and_eq_true, Bool.not_eq_true', isLow, isHigh, Bool.and_eq_false_iff, decide_eq_false_iff_not] at hw
    refine ⟨by unfold rby; rw [if_pos (by omega)]; exact u1, u2, ?_⟩
    simp only [isB, Bool.and_eq_true, Bool.or_eq_true, decide_eq_true_eq]
    omega
  | [x, y], _, _, hw => simp [begF] at hw
  | [x, y, z], h, hx, hw =>
    obtain ⟨u1, u2, u3⟩ := uby_unit big x y (hx x (by simp)) (hx y (by simp))
    obtain ⟨v1, v2, v3⟩ := uby_unit big z b (hx z (by simp)) (hx b (by simp))
    obtain ⟨_, _, _, hu, hu0, hu1⟩ : s.big = big ∧ s.half = true ∧ s.b0 = z ∧ s.up = unitB big x y ∧ 55296 ≤ s.up ∧ s.up < 56320 := h
    rw [hu] at hu0 hu1
    show rby big (pairB (unitB big x y) (unitB big z b)) = [x, y, z, b] ∧ 0 ≤ pairB (unitB big x y) (unitB big z b) ∧ isB (pairB (unitB big x y) (unitB big z b)) = true
    simp only [List.cons_append, List.nil_append, begF, isLow, Bool.and_eq_true, decide_eq_true_eq] at hw
    generalize unitB big x y = p at *
    generalize unitB big z b = r at *
    have hp : pairB p r = 65536 + (p - 55296) * 1024 + (r - 56320) := by unfold pairB; omega
    rw [hp]
    refine ⟨?_, by omega, ?_⟩
    · unfold rby
      rw [if_neg (by omega), show 55296 + (65536 + (p - 55296) * 1024 + (r - 56320) - 65536) / 1024 = p by omega, show 56320 + (65536 + (p - 55296) * 1024 + (r - 56320) - 65536) % 1024 = r by omega, u1, v1]
      rfl
    · simp only [isB, Bool.and_eq_true, Bool.or_eq_true, decide_eq_true_eq]
      omega
/-- What is read to its end is written as it was. -/
theorem one_gen {big : Bool} : ∀ (l : List Int) {s : CS} {q : List Int} {s' : CS} {os : List Int}, Sim big s q → (∀ x ∈ q ++ l, 0 ≤ x ∧ x ≤ 255) → run cnx s l = some (s', os) → ∃ q', Sim big s' q' ∧ os.flatMap (rby big) ++ q' = q ++ l ∧ ∀ c ∈ os, 0 ≤ c ∧ isB c = true
  | [], s, q, s', os, hs, hx, hr => by
    simp only [run, Option.some.injEq, Prod.mk.injEq] at hr
    obtain ⟨rfl, rfl⟩ := hr
    exact ⟨q, hs, by simp, by simp⟩
  | b :: l, s, q, s', os, hs, hx, hr => by
    have hb := hx b (by simp)
    rcases sim_step hs hb.1 hb.2 with ⟨_, g1⟩ | ⟨_, _, s1, g2, g3⟩ | ⟨_, g1, s1, g2, g3⟩
    · simp [run, g1] at hr
    · simp only [run, g2, Option.bind_some] at hr
      cases hq : run cnx s1 l with
      | none => simp [hq] at hr
      | some p =>
        simp only [hq, Option.map_some, Option.toList, List.nil_append, Option.some.injEq, Prod.mk.injEq] at hr
        obtain ⟨rfl, rfl⟩ := hr
        obtain ⟨q', i1, i2, i3⟩ := one_gen l g3 (by simpa using hx) hq
        exact ⟨q', i1, by rw [i2]; simp, i3⟩
    · simp only [run, g2, Option.bind_some] at hr
      cases hq : run cnx s1 l with
      | none => simp [hq] at hr
      | some p =>
        simp only [hq, Option.map_some, Option.toList, Option.some.injEq, Prod.mk.injEq] at hr
        obtain ⟨rfl, rfl⟩ := hr
        obtain ⟨q', i1, i2, i3⟩ := one_gen l g3 (fun x h => hx x (by simp at h; simp [h])) hq
        obtain ⟨v1, v2, v3⟩ := val_law hs (b := b) (fun x h => hx x (by simp only [List.mem_append, List.mem_cons, List.not_mem_nil, or_false] at h ⊢; rcases h with h | h <;> simp [h])) g1
        refine ⟨q', i1, ?_, ?_⟩
        · rw [List.cons_append, List.nil_append, List.flatMap_cons, List.append_assoc, i2, v1]
          simp
        · intro c hc
          rcases List.mem_cons.1 hc with rfl | hc
          · exact ⟨v2, v3⟩
          · exact i3 c hc
theorem sim_cut' {big : Bool} {s : CS} {q : List Int} (h : Sim big s q) (hc : ccut s = false) : q = [] := by
  simp only [ccut, Bool.or_eq_false_iff, bne_eq_false_iff_eq] at hc
  match q, h with
  | [], _ => rfl
  | [_], h => rw [h.2.1] at hc; cases hc.1
  | [_, _], h => have := h.2.2.2.1; rw [hc.2] at this; omega
  | [_, _, _], h => rw [h.2.1] at hc; cases hc.1
theorem one_law (big : Bool) (l : List Int) (s : CS) (os : List Int) (hx : ∀ x ∈ l, 0 ≤ x ∧ x ≤ 255) (hr : run cnx (st0 big) l = some (s, os)) (hc : ccut s = false) : os.flatMap (rby big) = l ∧ ∀ c ∈ os, 0 ≤ c ∧ isB c = true := by
  obtain ⟨q', i1, i2, i3⟩ := one_gen (big := big) l (s := st0 big) (q := []) ⟨rfl, rfl, rfl⟩ hx hr
  obtain rfl := sim_cut' i1 hc
  exact ⟨by simpa using i2, i3⟩
end Go.Proofs.Ytjddbdhpdenaeaa
