/- What is written is read, what is read is written: plain laws. -/
import Derived.Test.YtolhfpboieimcaaLe
namespace Go.Proofs.Ytolhfpboieimcaa
open Go.RowKit Go.Proofs.YtolhfpboieimcaaW.PrintWords Go.Proofs.YtolhfpboieimcaaW.PrintMore
set_option linter.unusedVariables false
set_option linter.unusedSimpArgs false
theorem txt_len (l : List Int) (_ : ∀ c ∈ l, 0 ≤ c ∧ isB c = true) : (txt l).length ≤ 5 * l.length := by
  induction l with
  | nil => simp
  | cons c l ih =>
    have h1 := ih (fun x hx => by rename_i h; exact h x (List.mem_cons_of_mem _ hx))
    have h2 := rby_len c
    show ((c :: l).flatMap rby).length ≤ _
    rw [List.flatMap_cons, List.length_append, List.length_cons]
    show (rby c).length + (txt l).length ≤ _
    omega
/-- A scalar's bytes are read. -/
theorem run_rby {s : CS} (h : Sim s []) (c : Int) (h0 : 0 ≤ c) (hc : isB c = true) : ∃ s', run cnx s (rby c) = some (s', [c]) ∧ Sim s' [] := by
  have h1 := (isB_iff c).1 hc
  have h : s.nd = 0 := h
  by_cases c1 : c < 160
  · refine ⟨s, ?_, h⟩
    have : cnx s c = some (s, some c) := by unfold cnx; rw [if_pos h, if_pos c1]
    rw [rby1 c1]
    simp [run, this]
  by_cases c2 : c < 1024
  · rw [rby2 (by omega) (by omega)]
    have hl := lead2 (b := 192 + c / 32) (by omega)
    have e1 : cnx s (192 + c / 32) = some (leadF (192 + c / 32), none) := by
      unfold cnx; rw [if_pos h, if_neg (by omega), if_pos (by unfold isLead; omega)]
    have e2 : cnx (leadF (192 + c / 32)) (160 + c % 32) = some (⟨0, 192 + c / 32, c, true⟩, some (c)) := by
      rw [cnx_in (by rw [hl]; simp) (by omega) (by omega) (.inr (by rw [lead_fb.1]; exact second_iff.2 (by omega))), hl, if_pos (by simp)]
      have : (192 + c / 32) % 32 * 32 + (160 + c % 32) % 32 = c := by omega
      simp only [this]
      try rfl
    exact ⟨⟨0, 192 + c / 32, c, true⟩, by simp [run, e1, e2], rfl⟩
  by_cases c3 : c < 16384
  · rw [rby3 (by omega) (by omega)]
    have hl := lead3 (b := 224 + c / 1024) (by omega) (by omega)
    have e1 : cnx s (224 + c / 1024) = some (leadF (224 + c / 1024), none) := by
      unfold cnx; rw [if_pos h, if_neg (by omega), if_pos (by unfold isLead; omega)]
    have e2 : cnx (leadF (224 + c / 1024)) (160 + c / 32 % 32) = some (⟨1, 224 + c / 1024, c / 32, true⟩, none) := by
      rw [cnx_in (by rw [hl]; simp) (by omega) (by omega) (.inr (by rw [lead_fb.1]; exact second_iff.2 (by omega))), hl, if_neg (by simp)]
      have : (224 + c / 1024) % 16 * 32 + (160 + c / 32 % 32) % 32 = c / 32 := by omega
      simp only [this]
      try rfl
    have e3 : cnx (⟨1, 224 + c / 1024, c / 32, true⟩) (160 + c % 32) = some (⟨0, 224 + c / 1024, c, true⟩, some (c)) := by
      rw [cnx_in (by simp) (by omega) (by omega) (.inl rfl), if_pos (by simp)]
      have : c / 32 * 32 + (160 + c % 32) % 32 = c := by omega
      simp only [this]
      try rfl
    exact ⟨⟨0, 224 + c / 1024, c, true⟩, by simp [run, e1, e2, e3], rfl⟩
  by_cases c4 : c < 262144
  · rw [rby4 (by omega) (by omega)]
    have hl := lead4 (b := 240 + c / 32768) (by omega) (by omega)
    have e1 : cnx s (240 + c / 32768) = some (leadF (240 + c / 32768), none) := by
      unfold cnx; rw [if_pos h, if_neg (by omega), if_pos (by unfold isLead; omega)]
    have e2 : cnx (leadF (240 + c / 32768)) (160 + c / 1024 % 32) = some (⟨2, 240 + c / 32768, c / 1024, true⟩, none) := by
      rw [cnx_in (by rw [hl]; simp) (by omega) (by omega) (.inr (by rw [lead_fb.1]; exact second_iff.2 (by omega))), hl, if_neg (by simp)]
      have : (240 + c / 32768) % 8 * 32 + (160 + c / 1024 % 32) % 32 = c / 1024 := by omega
      simp only [this]
      try rfl
    have e3 : cnx (⟨2, 240 + c / 32768, c / 1024, true⟩) (160 + c / 32 % 32) = some (⟨1, 240 + c / 32768, c / 32, true⟩, none) := by
      rw [cnx_in (by simp) (by omega) (by omega) (.inl rfl), if_neg (by simp)]
      have : c / 1024 * 32 + (160 + c / 32 % 32) % 32 = c / 32 := by omega
      simp only [this]
      try rfl
    have e4 : cnx (⟨1, 240 + c / 32768, c / 32, true⟩) (160 + c % 32) = some (⟨0, 240 + c / 32768, c, true⟩, some (c)) := by
      rw [cnx_in (by simp) (by omega) (by omega) (.inl rfl), if_pos (by simp)]
      have : c / 32 * 32 + (160 + c % 32) % 32 = c := by omega
      simp only [this]
      try rfl
    exact ⟨⟨0, 240 + c / 32768, c, true⟩, by simp [run, e1, e2, e3, e4], rfl⟩
  · rw [rby5 (by omega)]
    have hl := lead5 (b := 248 + c / 1048576) (by omega)
    have e1 : cnx s (248 + c / 1048576) = some (leadF (248 + c / 1048576), none) := by
      unfold cnx; rw [if_pos h, if_neg (by omega), if_pos (by unfold isLead; omega)]
    have e2 : cnx (leadF (248 + c / 1048576)) (160 + c / 32768 % 32) = some (⟨3, 248 + c / 1048576, c / 32768, true⟩, none) := by
      rw [cnx_in (by rw [hl]; simp) (by omega) (by omega) (.inr (by rw [lead_fb.1]; exact second_iff.2 (by omega))), hl, if_neg (by simp)]
      have : (248 + c / 1048576) % 4 * 32 + (160 + c / 32768 % 32) % 32 = c / 32768 := by omega
      simp only [this]
      try rfl
    have e3 : cnx (⟨3, 248 + c / 1048576, c / 32768, true⟩) (160 + c / 1024 % 32) = some (⟨2, 248 + c / 1048576, c / 1024, true⟩, none) := by
      rw [cnx_in (by simp) (by omega) (by omega) (.inl rfl), if_neg (by simp)]
      have : c / 32768 * 32 + (160 + c / 1024 % 32) % 32 = c / 1024 := by omega
      simp only [this]
      try rfl
    have e4 : cnx (⟨2, 248 + c / 1048576, c / 1024, true⟩) (160 + c / 32 % 32) = some (⟨1, 248 + c / 1048576, c / 32, true⟩, none) := by
      rw [cnx_in (by simp) (by omega) (by omega) (.inl rfl), if_neg (by simp)]
      have : c / 1024 * 32 + (160 + c / 32 % 32) % 32 = c / 32 := by omega
      simp only [this]
      try rfl
    have e5 : cnx (⟨1, 248 + c / 1048576, c / 32, true⟩) (160 + c % 32) = some (⟨0, 248 + c / 1048576, c, true⟩, some (c)) := by
      rw [cnx_in (by simp) (by omega) (by omega) (.inl rfl), if_pos (by simp)]
      have : c / 32 * 32 + (160 + c % 32) % 32 = c := by omega
      simp only [this]
      try rfl
    exact ⟨⟨0, 248 + c / 1048576, c, true⟩, by simp [run, e1, e2, e3, e4, e5], rfl⟩
theorem size_len {c : Int} (h0 : 0 ≤ c) : ((rby c).length : Int) = sizeF c := by
  unfold rby sizeF
  (repeat' split) <;> first | rfl | (exfalso; omega)
theorem back_gen : ∀ (l : List Int) {s : CS}, Sim s [] → (∀ c ∈ l, 0 ≤ c ∧ isB c = true) → ∃ s', run cnx s (txt l) = some (s', l) ∧ Sim s' []
  | [], s, hs, _ => ⟨s, rfl, hs⟩
  | c :: l, s, hs, h => by
    have h1 := h c (by simp)
    obtain ⟨s1, k1, k2⟩ := run_rby hs c h1.1 h1.2
    obtain ⟨s2, k3, k4⟩ := back_gen l k2 (fun c hc => h c (by simp [hc]))
    refine ⟨s2, ?_, k4⟩
    show run cnx s ((c :: l).flatMap rby) = _
    rw [List.flatMap_cons, run_append, k1, Option.bind_some, k3]
    rfl
/-- What is written is read as it was. -/
theorem back_law (l : List Int) (h : ∀ c ∈ l, 0 ≤ c ∧ isB c = true) : ∃ s', run cnx st0 (txt l) = some (s', l) ∧ ccut s' = false := by
  obtain ⟨s', h1, h2⟩ := back_gen l sim0 h
  exact ⟨s', h1, sim_free h2⟩
/-- A beginning that may go on. -/
def Open (q : List Int) : Prop := q = [] ∨ ((begF q).2 = true ∧ Goes q)
/-- What is read parts into whole scalars and a beginning. -/
theorem fit_gen : ∀ (l : List Int) {s : CS} {q : List Int} {s' : CS} {os : List Int}, Sim s q → Open q → (∀ x ∈ q ++ l, 0 ≤ x ∧ x ≤ 255) → run cnx s l = some (s', os) → ∃ q', Sim s' q' ∧ Open q' ∧ txt os ++ q' = q ++ l ∧ ∀ c ∈ os, 0 ≤ c ∧ isB c = true
  | [], s, q, s', os, hs, hf, hx, hr => by
    simp only [run, Option.some.injEq, Prod.mk.injEq] at hr
    obtain ⟨rfl, rfl⟩ := hr
    exact ⟨q, hs, hf, by simp, by simp⟩
  | b :: l, s, q, s', os, hs, hf, hx, hr => by
    have hb := hx b (by simp)
    obtain ⟨hfit, hgo⟩ := sim_step hs hb.1 hb.2
    rcases hfit with ⟨_, g1⟩ | ⟨f1, f2, s1, g2, g3⟩ | ⟨f1, f2, s1, g2, g3⟩
    · simp [run, g1] at hr
    · simp only [run, g2, Option.bind_some] at hr
      cases hq : run cnx s1 l with
      | none => simp [hq] at hr
      | some p =>
        simp only [hq, Option.map_some, Option.toList, List.nil_append, Option.some.injEq, Prod.mk.injEq] at hr
        obtain ⟨rfl, rfl⟩ := hr
        obtain ⟨q', i1, i0, i2, i3⟩ := fit_gen l g3 (.inr ⟨f1, hgo⟩) (by simpa using hx) hq
        exact ⟨q', i1, i0, by rw [i2]; simp, i3⟩
    · simp only [run, g2, Option.bind_some] at hr
      cases hq : run cnx s1 l with
      | none => simp [hq] at hr
      | some p =>
        simp only [hq, Option.map_some, Option.toList, Option.some.injEq, Prod.mk.injEq] at hr
        obtain ⟨rfl, rfl⟩ := hr
        obtain ⟨q', i1, i0, i2, i3⟩ := fit_gen l g3 (.inl rfl) (fun x h => hx x (by simp at h; simp [h])) hq
        obtain ⟨v2, v3, v1⟩ := hgo f1
        have v4 : rby (begF (q ++ [b])).1 = q ++ [b] := by
          rw [← size_len v2] at f2
          rw [List.take_of_length_le (by omega)] at v1
          exact v1
        refine ⟨q', i1, i0, ?_, ?_⟩
        · show ([(begF (q ++ [b])).1] ++ p.2).flatMap rby ++ q' = _
          rw [List.cons_append, List.nil_append, List.flatMap_cons, List.append_assoc, v4]
          show q ++ [b] ++ (txt p.2 ++ q') = _
          rw [i2]
          simp
        · intro c hc
          rcases List.mem_cons.1 hc with rfl | hc
          · exact ⟨v2, v3⟩
          · exact i3 c hc
theorem one_law (l : List Int) (s : CS) (os : List Int) (hx : ∀ x ∈ l, 0 ≤ x ∧ x ≤ 255) (hr : run cnx st0 l = some (s, os)) (hc : ccut s = false) : txt os = l ∧ ∀ c ∈ os, 0 ≤ c ∧ isB c = true := by
  obtain ⟨q', i1, _, i2, i3⟩ := fit_gen l (s := st0) (q := []) sim0 (.inl rfl) hx hr
  have h9 := sim_cut i1
  rw [hc] at h9
  have h8 : ¬ (0 < q'.length) := by simpa using h9.symm
  obtain rfl : q' = [] := List.eq_nil_of_length_eq_zero (by omega)
  exact ⟨by simpa using i2, i3⟩
end Go.Proofs.Ytolhfpboieimcaa
