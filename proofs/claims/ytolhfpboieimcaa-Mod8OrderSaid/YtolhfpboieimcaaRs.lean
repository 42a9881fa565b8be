/- Rest, walked. -/
import Derived.Test.YtolhfpboieimcaaBk
namespace Go.Proofs.Ytolhfpboieimcaa
open Go.RowKit Go.Proofs.YtolhfpboieimcaaW.PrintWords Go.Proofs.YtolhfpboieimcaaW.PrintMore
set_option linter.unusedVariables false
set_option linter.unusedSimpArgs false
theorem txt_range (l : List Int) (h : ∀ c ∈ l, 0 ≤ c ∧ isB c = true) : ∀ x ∈ txt l, 0 ≤ x ∧ x ≤ 255 := by
  intro x hx
  obtain ⟨c, hc, hx2⟩ := List.mem_flatMap.1 hx
  exact rby_range c (h c hc).1 (h c hc).2 x hx2
theorem txt_ge (l : List Int) : l.length ≤ (txt l).length := by
  induction l with
  | nil => simp
  | cons c l ih =>
    have := rby_pos c
    show _ ≤ ((c :: l).flatMap rby).length
    rw [List.flatMap_cons, List.length_append, List.length_cons]
    show l.length + 1 ≤ (rby c).length + (txt l).length
    omega
theorem rest_any (p : ByteArray) (hz : p.size ≤ 100000) (s : CS) (os : List Int) (hrun : run cnx st0 (bytesOf p) = some (s, os)) (w : World) :
    Calls Try.prog 24 #[.string p] w fun en w' => ∃ u os2 s2, en = .returned (.string u) ∧ u.size ≤ 5 ∧ run cnx st0 (bytesOf p ++ bytesOf u) = some (s2, os ++ os2) ∧ ccut s2 = false ∧ Below w.heap.size w w' := by
  obtain ⟨q, hq1, hq2, hq3, hq4⟩ := fit_gen (bytesOf p) (s := st0) (q := []) sim0 (.inl rfl) (by simpa using bytesOf_range p) hrun
  rw [List.nil_append] at hq3
  have hls : (txt os).length + q.length = p.size := by rw [← bytesOf_length p, ← hq3, List.length_append]
  have hol := txt_ge os
  obtain ⟨K, hK⟩ : ∃ K, K = p.size + 100 := ⟨_, rfl⟩
  have hrd : PMod8Extends.pilcrowref06_Read.f K p = some (os, if p.size < p.size then 3 else if ccut s = true then 4 else 0, (p.size : Int)) := mono_le (f := fun k => PMod8Extends.pilcrowref06_Read.f k p) (PMod8Extends.pilcrowref06_Read.mono _) (by omega) (readF_at p (by omega) p.size s os (Nat.le_refl _) (by rw [List.take_of_length_le (by rw [bytesOf_length]; omega)]; exact hrun) (.inl rfl))
  have hby : PMod8Extends.pilcrowref06_Bytes.f K os = some (strOfNums (txt os)) := by
    have h1 := bytes_loop os (by omega) (fun k => by
      rcases Nat.lt_or_ge k os.length with h | h
      · have h2 := hq4 (os.getD k 0) (by rw [List.getD_eq_getElem?_getD, List.getElem?_eq_getElem h]; exact List.getElem_mem _)
        have := isB_range h2.2
        omega
      · rw [List.getD_eq_getElem?_getD, List.getElem?_eq_none h]; simp) (fun c hc => (hq4 c hc).2) _ 0 (os.length + 10) [] rfl (Nat.zero_le _) (by omega) (by simp)
    rw [List.nil_append, List.drop_zero] at h1
    exact mono_le (f := fun k => PMod8Extends.pilcrowref06_Bytes.f k os) (PMod8Extends.pilcrowref06_Bytes.mono _) (by omega) h1
  have hss : (strOfNums (txt os)).size = (txt os).length := by rw [strOfNums_size]
  generalize hB : strOfNums (txt os) = B at *
  obtain ⟨x1, x2⟩ := bytes_mid p B.size p.size (by omega) (Nat.le_refl _)
  rw [List.take_of_length_le (by rw [bytesOf_length]; omega)] at x1
  have hqb : bytesOf (p.extract B.size p.size) = q := by rw [x1, ← hq3, hss, List.drop_left]
  have hf : ∃ u, PMod8Extends.pilcrowref06_Rest.f K p = some u ∧ u.size ≤ 5 ∧ ∃ os2, bytesOf p ++ bytesOf u = txt (os ++ os2) ∧ ∀ c ∈ os2, 0 ≤ c ∧ isB c = true := by
    rw [PMod8Extends.pilcrowref06_Rest.f, hrd, Option.bind_some, hby, Option.bind_some]
    rcases hq2 with rfl | ⟨hok, hgo⟩
    · rw [if_pos (by rw [List.length_nil] at hls; omega)]
      refine ⟨_, rfl, by decide, [], ?_, by simp⟩
      have e : bytesOf (⟨#[]⟩ : ByteArray) = [] := rfl
      rw [e, List.append_nil, List.append_nil, ← hq3, List.append_nil]
    · obtain ⟨hc0, hc, htk⟩ := hgo hok
      have hqn : q ≠ [] := by rintro rfl; simp [begF] at hok
      have hql : 0 < q.length := List.length_pos_iff.2 hqn
      obtain ⟨K2, hK2⟩ : ∃ K2, K = K2 + 15 := ⟨K - 15, by omega⟩
      have hbg := begins_at K2 (p.extract B.size p.size) (by rw [hqb]; exact sim_pre0 hq1 hqn)
      rw [hqb] at hbg
      rw [if_neg (by omega), if_pos (by omega), if_pos (by omega), Int.toNat_natCast, hK2, hbg, Option.bind_some, if_pos hok, one_at (K2 + 6) _ hc0 hc, Option.bind_some]
      generalize (begF q).1 = c at *
      have hsz : (strOfNums (rby c)).size = (rby c).length := by rw [strOfNums_size]
      have hlq : q.length ≤ (rby c).length := by have := congrArg List.length htk; rw [List.length_take] at this; omega
      have hw : wrap64 ((p.size : Int) - (B.size : Int)) = ((q.length : Nat) : Int) := by rw [w64' (by omega) (by omega)]; omega
      have hl4 := rby_len c
      rw [hw, if_pos (by omega), if_pos (by omega), Int.toNat_natCast]
      obtain ⟨y1, y2⟩ := bytes_mid (strOfNums (rby c)) q.length (strOfNums (rby c)).size (by omega) (Nat.le_refl _)
      rw [List.take_of_length_le (by rw [bytesOf_length]; omega), bytesOf_ofNums (rby_range c hc0 hc)] at y1
      refine ⟨_, rfl, by rw [y2]; omega, [c], ?_, by simp [hc0, hc]⟩
      rw [y1, ← hq3, List.append_assoc]
      have h9 : q ++ (rby c).drop q.length = rby c := by
        conv => lhs; lhs; rw [← htk]
        exact List.take_append_drop _ _
      rw [h9]
      show _ = (os ++ [c]).flatMap rby
      rw [List.flatMap_append]
      show txt os ++ rby c = txt os ++ (rby c ++ [])
      rw [List.append_nil]
  obtain ⟨u, hu, hu4, os2, h1, h2⟩ := hf
  refine (PMod8Extends.pilcrowref06_Rest.calls K p u w hu).mono ?_
  rintro en w' ⟨rfl, hb⟩
  obtain ⟨s3, b1, b2⟩ := back_law (os ++ os2) (fun c hc => by
    rcases List.mem_append.1 hc with h | h
    · exact hq4 c h
    · exact h2 c h)
  exact ⟨u, os2, s3, rfl, hu4, by rw [h1]; exact b1, b2, hb⟩
end Go.Proofs.Ytolhfpboieimcaa
