/- UTF-16: the law Turned: plain laws, and the walk. -/
import Derived.Test.YtjddbdhpdenaeaaL3
import Derived.Test.YtjddbdhpdenaeaaMt
namespace Go.Proofs.Ytjddbdhpdenaeaa
open Go.RowKit Go.Proofs.YtjddbdhpdenaeaaW.PrintWords Go.Proofs.YtjddbdhpdenaeaaW.PrintMore
set_option linter.unusedVariables false
set_option linter.unusedSimpArgs false
/-- A list turned, two by two. -/
def swp : List Int → List Int
  | a :: b :: r => b :: a :: swp r
  | l => l
theorem swp_cons (a b : Int) (r : List Int) : swp (a :: b :: r) = b :: a :: swp r := rfl
theorem turn_loop (s : ByteArray) (hz : s.size ≤ 100000) (d : Nat) : ∀ (i fuel : Nat) (acc : List Int), 2 * i + 2 * d = s.size → d + 1 ≤ fuel → acc.length ≤ 2 * i → (∀ x ∈ acc, 0 ≤ x ∧ x ≤ 255) →
    ∃ u, PUni16Turned.pilcrowref04_Turn.l0 fuel s acc ((2 * i : Nat) : Int) = some u ∧ bytesOf u = acc ++ swp ((bytesOf s).drop (2 * i)) := by
  induction d with
  | zero =>
    intro i fuel acc hd hf ha hx
    obtain ⟨fuel, rfl⟩ : ∃ q, fuel = q + 1 := ⟨fuel - 1, by omega⟩
    have e1 : wrap64 (wrap64 ((s.size : Int) / 2) * 2) = ((s.size : Nat) : Int) := by rw [w64 (x := (s.size : Int) / 2) (by omega) (by omega), w64 (by omega) (by omega)]; omega
    have e2 : wrap64 (((2 * i : Nat) : Int) + 1) = ((2 * i + 1 : Nat) : Int) := by rw [w64 (by omega) (by omega)]; omega
    obtain ⟨x1, x2⟩ := bytes_mid s s.size s.size (Nat.le_refl _) (Nat.le_refl _)
    have hsz : (strOfNums acc).size = acc.length := by rw [← bytesOf_length, bytesOf_ofNums hx]
    rw [PUni16Turned.pilcrowref04_Turn.l0, e2, if_neg (by omega), e1, if_pos (by omega), if_pos (by omega), Int.toNat_natCast, if_pos (by rw [x2, hsz]; omega)]
    refine ⟨_, rfl, ?_⟩
    rw [bytesOf_append, bytesOf_ofNums hx, x1, List.drop_eq_nil_of_le (by rw [List.length_take, bytesOf_length]; omega), List.drop_eq_nil_of_le (by rw [bytesOf_length]; omega)]
    rfl
  | succ d ih =>
    intro i fuel acc hd hf ha hx
    obtain ⟨fuel, rfl⟩ : ∃ q, fuel = q + 1 := ⟨fuel - 1, by omega⟩
    have e2 : wrap64 (((2 * i : Nat) : Int) + 1) = ((2 * i + 1 : Nat) : Int) := by rw [w64 (by omega) (by omega)]; omega
    have e3 : wrap64 (((2 * i : Nat) : Int) + 2) = ((2 * (i + 1) : Nat) : Int) := by rw [w64 (by omega) (by omega)]; omega
    have r0 := bt_range s ((2 * i : Nat) : Int)
    have r1 := bt_range s ((2 * i + 1 : Nat) : Int)
    have hl := bytesOf_length s
    have hdr : (bytesOf s).drop (2 * i) = bt s ((2 * i : Nat) : Int) :: bt s ((2 * i + 1 : Nat) : Int) :: (bytesOf s).drop (2 * (i + 1)) := by
      rw [List.drop_eq_getElem_cons (by omega), List.drop_eq_getElem_cons (by omega), show 2 * i + 1 + 1 = 2 * (i + 1) by omega]
      rw [← getD_bt, ← getD_bt, List.getD_eq_getElem?_getD, List.getD_eq_getElem?_getD, List.getElem?_eq_getElem (by omega), List.getElem?_eq_getElem (by omega)]
      rfl
    rw [PUni16Turned.pilcrowref04_Turn.l0, e2, if_pos (by omega), if_pos (by omega), if_pos (by omega), if_pos (by omega), Option.bind_some, if_pos (by simp; omega), e3]
    obtain ⟨u, h1, h2⟩ := ih (i + 1) fuel (acc ++ [bt s ((2 * i + 1 : Nat) : Int), bt s ((2 * i : Nat) : Int)]) (by omega) (by omega) (by simp; omega) (fun x h => by
      rcases List.mem_append.1 h with h | h
      · exact hx x h
      · simp at h
        rcases h with rfl | rfl
        · exact r1
        · exact r0)
    refine ⟨u, h1, ?_⟩
    rw [h2, hdr, swp_cons, List.append_assoc]
    rfl
theorem turn_at (s : ByteArray) (hz : s.size ≤ 100000) (h2 : s.size % 2 = 0) : ∃ u, PUni16Turned.pilcrowref04_Turn.f (s.size + 1) s = some u ∧ bytesOf u = swp (bytesOf s) := by
  obtain ⟨u, h1, h3⟩ := turn_loop s hz (s.size / 2) 0 (s.size + 1) [] (by omega) (by omega) (by simp) (by simp)
  exact ⟨u, h1, by simpa using h3⟩
theorem turn_any (s : ByteArray) (hz : s.size ≤ 100000) (h2 : s.size % 2 = 0) (w : World) :
    Calls Try.prog 24 #[.string s] w fun en w' => ∃ u, en = .returned (.string u) ∧ bytesOf u = swp (bytesOf s) ∧ Below w.heap.size w w' := by
  obtain ⟨u, h1, h3⟩ := turn_at s hz h2
  exact (PUni16Turned.pilcrowref04_Turn.calls _ s u w h1).mono fun en w' ⟨he, hb⟩ => ⟨u, he, h3, hb⟩
/-- Two machines that have read the same units, each in its order. -/
def Twin (s t : CS) : Prop := (Sim true s [] ∧ Sim false t []) ∨ ∃ x y, Sim true s [x, y] ∧ Sim false t [y, x]
theorem unit_twin (x y : Int) : unitB false y x = unitB true x y := by simp [unitB]; omega
theorem low_hi (x y : Int) (hy : 0 ≤ y ∧ y ≤ 255) : isLow (unitB true x y) = isLow (x * 256) := by
  rw [← isLow_hi (unitB true x y)]
  congr 1
  simp [unitB]
  omega
theorem two_step {s t : CS} (h : Twin s t) (x y : Int) (hx : 0 ≤ x ∧ x ≤ 255) (hy : 0 ≤ y ∧ y ≤ 255) :
    (∃ s' t' os, run cnx s [x, y] = some (s', os) ∧ run cnx t [y, x] = some (t', os) ∧ Twin s' t') ∨
    (∃ t1, cnx t y = some (t1, none) ∧ cnx t1 x = none ∧ (cnx s x = none ∨ ∃ s1, cnx s x = some (s1, none) ∧ cnx s1 y = none)) := by
  have hlow := low_hi x y hy
  rcases h with ⟨hs, ht⟩ | ⟨a, b, hs, ht⟩
  · rcases sim_step ht hy.1 hy.2 with ⟨k1, _⟩ | ⟨_, _, t1, k2, k3⟩ | ⟨_, k1, _⟩
    · simp [begF] at k1
    · rcases sim_step hs hx.1 hx.2 with ⟨g1, g2⟩ | ⟨g1, _, s1, g2, g3⟩ | ⟨_, g1, _⟩
      · have hl : isLow (unitB false y x) = true := by
          rw [unit_twin, hlow]
          simpa [begF] using g1
        refine .inr ⟨t1, k2, ?_, .inl g2⟩
        rcases sim_step k3 hx.1 hx.2 with ⟨_, f2⟩ | ⟨f1, _⟩ | ⟨f1, _⟩
        · exact f2
        · simp [begF, hl] at f1
        · simp [begF, hl] at f1
      · rcases sim_step k3 hx.1 hx.2 with ⟨f1, f2⟩ | ⟨f1, f0, t2, f2, f3⟩ | ⟨f1, f0, t2, f2, f3⟩
        · have hl : isLow (unitB true x y) = true := by simpa [begF, unit_twin] using f1
          refine .inr ⟨t1, k2, f2, .inr ⟨s1, g2, ?_⟩⟩
          rcases sim_step g3 hy.1 hy.2 with ⟨_, e2⟩ | ⟨e1, _⟩ | ⟨e1, _⟩
          · exact e2
          · simp [begF, hl] at e1
          · simp [begF, hl] at e1
        · have hl : isLow (unitB true x y) = false := by simpa [begF, unit_twin] using f1
          have hh : isHigh (unitB true x y) = true := by simpa [begF, unit_twin, hl] using f0
          rcases sim_step g3 hy.1 hy.2 with ⟨e1, _⟩ | ⟨_, _, s2, e2, e3⟩ | ⟨_, e1, _⟩
          · simp [begF, hl] at e1
          · exact .inl ⟨s2, t2, [], by simp [run, g2, e2], by simp [run, k2, f2], .inr ⟨x, y, e3, f3⟩⟩
          · simp [begF, hl, hh] at e1
        · have hl : isLow (unitB true x y) = false := by simpa [begF, unit_twin] using f1
          have hh : isHigh (unitB true x y) = false := by simpa [begF, unit_twin, hl] using f0
          rcases sim_step g3 hy.1 hy.2 with ⟨e1, _⟩ | ⟨_, e1, _⟩ | ⟨_, _, s2, e2, e3⟩
          · simp [begF, hl] at e1
          · simp [begF, hl, hh] at e1
          · exact .inl ⟨s2, t2, [unitB true x y], by simp [run, g2, e2, valF], by simp [run, k2, f2, valF, unit_twin], .inl ⟨e3, f3⟩⟩
      · simp [begF] at g1
    · simp [begF] at k1
  · rcases sim_step ht hy.1 hy.2 with ⟨k1, _⟩ | ⟨_, _, t1, k2, k3⟩ | ⟨_, k1, _⟩
    · simp [begF] at k1
    · rcases sim_step hs hx.1 hx.2 with ⟨g1, g2⟩ | ⟨g1, _, s1, g2, g3⟩ | ⟨_, g1, _⟩
      · have hl : isLow (unitB false y x) = false := by
          rw [unit_twin, hlow]
          simpa [begF] using g1
        refine .inr ⟨t1, k2, ?_, .inl g2⟩
        rcases sim_step k3 hx.1 hx.2 with ⟨_, f2⟩ | ⟨f1, _⟩ | ⟨f1, _⟩
        · exact f2
        · simp [begF, hl] at f1
        · simp [begF, hl] at f1
      · rcases sim_step k3 hx.1 hx.2 with ⟨f1, f2⟩ | ⟨f1, f0, t2, f2, f3⟩ | ⟨f1, f0, t2, f2, f3⟩
        · have hl : isLow (unitB true x y) = false := by simpa [begF, unit_twin] using f1
          refine .inr ⟨t1, k2, f2, .inr ⟨s1, g2, ?_⟩⟩
          rcases sim_step g3 hy.1 hy.2 with ⟨_, e2⟩ | ⟨e1, _⟩ | ⟨e1, _⟩
          · exact e2
          · simp [begF, hl] at e1
          · simp [begF, hl] at e1
        · have hl : isLow (unitB true x y) = true := by simpa [begF, unit_twin] using f1
          simp [begF, unit_twin, hl] at f0
        · have hl : isLow (unitB true x y) = true := by simpa [begF, unit_twin] using f1
          rcases sim_step g3 hy.1 hy.2 with ⟨e1, _⟩ | ⟨_, e1, _⟩ | ⟨_, _, s2, e2, e3⟩
          · simp [begF, hl] at e1
          · simp [begF, hl] at e1
          · exact .inl ⟨s2, t2, [pairB (unitB true a b) (unitB true x y)], by simp [run, g2, e2, valF], by simp [run, k2, f2, valF, unit_twin], .inl ⟨e3, f3⟩⟩
      · simp [begF] at g1
    · simp [begF] at k1
theorem turned_run : ∀ (n : Nat) (l : List Int) (s t : CS), l.length = 2 * n → (∀ x ∈ l, 0 ≤ x ∧ x ≤ 255) → Twin s t →
    (∃ s' t' os, run cnx s l = some (s', os) ∧ run cnx t (swp l) = some (t', os) ∧ Twin s' t') ∨
    (∃ m1 m2 s' t' os, m1 < l.length ∧ m2 < l.length ∧ m1 / 2 = m2 / 2 ∧ run cnx s (l.take m1) = some (s', os) ∧ cnx s' (l.getD m1 0) = none ∧ run cnx t ((swp l).take m2) = some (t', os) ∧ cnx t' ((swp l).getD m2 0) = none)
  | 0, l, s, t, hl, _, h => by
    obtain rfl : l = [] := List.eq_nil_of_length_eq_zero (by omega)
    exact .inl ⟨s, t, [], rfl, rfl, h⟩
  | n + 1, [], s, t, hl, _, h => by simp at hl
  | n + 1, [_], s, t, hl, _, h => by simp at hl; omega
  | n + 1, x :: y :: r, s, t, hl, hx, h => by
    rw [swp_cons]
    rcases two_step h x y (hx x (by simp)) (hx y (by simp)) with ⟨s1, t1, o1, g1, g2, g3⟩ | ⟨t1, g1, g2, g3⟩
    · rcases turned_run n r s1 t1 (by simp at hl; omega) (fun z hz => hx z (by simp [hz])) g3 with ⟨s2, t2, o2, k1, k2, k3⟩ | ⟨m1, m2, s2, t2, o2, k1, k2, k3, k4, k5, k6, k7⟩
      · refine .inl ⟨s2, t2, o1 ++ o2, ?_, ?_, k3⟩
        · rw [show x :: y :: r = [x, y] ++ r from rfl, run_append, g1, Option.bind_some, k1]; rfl
        · rw [show y :: x :: swp r = [y, x] ++ swp r from rfl, run_append, g2, Option.bind_some, k2]; rfl
      · refine .inr ⟨m1 + 2, m2 + 2, s2, t2, o1 ++ o2, by simp; omega, by simp; omega, by omega, ?_, by simpa using k5, ?_, by simpa using k7⟩
        · rw [List.take_succ_cons, List.take_succ_cons, show x :: y :: r.take m1 = [x, y] ++ r.take m1 from rfl, run_append, g1, Option.bind_some, k4]; rfl
        · rw [List.take_succ_cons, List.take_succ_cons, show y :: x :: (swp r).take m2 = [y, x] ++ (swp r).take m2 from rfl, run_append, g2, Option.bind_some, k6]; rfl
    · rcases g3 with g3 | ⟨s1, g3, g4⟩
      · exact .inr ⟨0, 1, s, t1, [], by simp, by simp, rfl, rfl, g3, by simp [run, g1], g2⟩
      · exact .inr ⟨1, 1, s1, t1, [], by simp, by simp, rfl, by simp [run, g3], g4, by simp [run, g1], g2⟩
/-- What is told, where the machine's way is known. -/
theorem read_is {w w' : World} {g T : Nat} {t : ByteArray} {s0 s : CS} {os : List Int} {en : Ending} {m : Nat} (h : ReadPost w g T t s0 en w') (hm : m ≤ t.size) (hr : run cnx s0 ((bytesOf t).take m) = some (s, os)) (he : m = t.size ∨ (m < t.size ∧ cnx s (bt t m) = none)) :
    ∃ r f d own, en = .returned (.tuple #[r, .bool true]) ∧ w'.ownsRow w.heap.size 44 1 r os.length (nums .u32 os) ∧ Kp (fun k => k = g) w w' ∧ os.length ≤ m ∧ Dec w' g T m (if m < t.size then 3 else if ccut s = true then 4 else 0) f d nilv [] own := by
  obtain ⟨m3, os3, r, s3, rfl, hm3, hrun, ho, hkp, hol, hcs, hend⟩ := h
  have stop : ∀ {a b : Nat} {sa sb : CS} {oa ob : List Int}, a < b → b ≤ t.size → run cnx s0 ((bytesOf t).take a) = some (sa, oa) → cnx sa (bt t a) = none → run cnx s0 ((bytesOf t).take b) = some (sb, ob) → False := by
    intro a b sa sb oa ob hab hb h1 h2 h3
    have h4 : run cnx s0 ((bytesOf t).take (a + 1)) = none := by rw [take_bt t a (by omega), run_snoc, h1, Option.bind_some, h2]; rfl
    rw [run_none (k := a + 1) hab h4] at h3
    cases h3
  have heq : m3 = m := by
    rcases Nat.lt_trichotomy m3 m with h9 | h9 | h9
    · rcases hend with ⟨h0, _, _⟩ | ⟨h0, _, _⟩ | ⟨h0, h1, _⟩
      · omega
      · omega
      · exact (stop h9 hm hrun h1 hr).elim
    · exact h9
    · rcases he with h1 | ⟨_, h1⟩
      · omega
      · exact (stop h9 hm3 hr h1 hrun).elim
  subst heq
  rw [hr] at hrun
  simp only [Option.some.injEq, Prod.mk.injEq] at hrun
  obtain ⟨rfl, rfl⟩ := hrun
  rcases hend with ⟨h0, h1, h2⟩ | ⟨h0, h1, h2⟩ | ⟨h0, h1, s', h2⟩
  · exact ⟨r, _, _, _, rfl, ho, hkp, hol, by rw [if_neg (by omega), if_neg (by rw [h1]; decide)]; exact h2⟩
  · exact ⟨r, _, _, _, rfl, ho, hkp, hol, by rw [if_neg (by omega), if_pos h1]; exact h2⟩
  · exact ⟨r, _, _, _, rfl, ho, hkp, hol, by rw [if_pos h0]; exact h2⟩
theorem twin_cut {s t : CS} (h : Twin s t) : ccut s = ccut t := by
  rcases h with ⟨h1, h2⟩ | ⟨x, y, h1, h2⟩ <;> rw [sim_cut h1, sim_cut h2] <;> rfl
/-- The law, of both machines' ways. -/
theorem turned_law (t u : ByteArray) (h2 : t.size % 2 = 0) (hu : bytesOf u = swp (bytesOf t)) (hs : u.size = t.size) :
    ∃ m1 m2 s1 s2 os, m1 ≤ t.size ∧ m2 ≤ u.size ∧ m1 / 2 = m2 / 2 ∧ run cnx (st0 true) ((bytesOf t).take m1) = some (s1, os) ∧ run cnx (st0 false) ((bytesOf u).take m2) = some (s2, os) ∧ (m1 = t.size ∨ (m1 < t.size ∧ cnx s1 (bt t m1) = none)) ∧ (m2 = u.size ∨ (m2 < u.size ∧ cnx s2 (bt u m2) = none)) ∧
      (if m1 < t.size then (3 : Int) else if ccut s1 = true then 4 else 0) = (if m2 < u.size then 3 else if ccut s2 = true then 4 else 0) := by
  have hl := bytesOf_length t
  rcases turned_run (t.size / 2) (bytesOf t) (st0 true) (st0 false) (by omega) (bytesOf_range t) (.inl ⟨⟨rfl, rfl, rfl⟩, ⟨rfl, rfl, rfl⟩⟩) with ⟨s1, s2, os, k1, k2, k3⟩ | ⟨m1, m2, s1, s2, os, k1, k2, k3, k4, k5, k6, k7⟩
  · refine ⟨t.size, u.size, s1, s2, os, Nat.le_refl _, Nat.le_refl _, by rw [hs], ?_, ?_, .inl rfl, .inl rfl, ?_⟩
    · rw [List.take_of_length_le (by omega)]; exact k1
    · rw [List.take_of_length_le (by rw [bytesOf_length]; omega), hu]; exact k2
    · simp only [Nat.lt_irrefl, if_false, twin_cut k3]
  · refine ⟨m1, m2, s1, s2, os, by omega, by omega, k3, k4, by rw [hu]; exact k6, .inr ⟨by omega, by rw [← getD_bt]; exact k5⟩, .inr ⟨by omega, by rw [← getD_bt, hu]; exact k7⟩, ?_⟩
    rw [if_pos (by omega), if_pos (by omega)]
theorem swp_len : ∀ (n : Nat) (l : List Int), l.length ≤ n → (swp l).length = l.length
  | _, [], _ => rfl
  | _, [_], _ => rfl
  | n + 1, a :: b :: r, h => by
    rw [swp_cons, List.length_cons, List.length_cons, swp_len n r (by simp at h; omega)]
    rfl
end Go.Proofs.Ytjddbdhpdenaeaa
