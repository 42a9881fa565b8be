/- The step laws: a Base's state, and the contracts of its calls in one each. -/
import Derived.Test.YtfknlgjfhdphjaaDec
import Derived.Test.YtfknlgjfhdphjaaPStepBasex
import Derived.Test.YtfknlgjfhdphjaaPStepBytesx
namespace Go.Proofs.Ytfknlgjfhdphjaa
open Go.RowKit Go.Proofs.YtfknlgjfhdphjaaW.PrintWords Go.Proofs.YtfknlgjfhdphjaaW.PrintMore
set_option linter.unusedVariables false
set_option linter.unusedSimpArgs false
structure St where
  a : Int
  e : Int
  f : Int
  d : Bool
def St.go (s : St) : Bool := s.e == 0 && !s.d
def St.eat (s : St) (n : Int) : St := if s.go = true then { s with a := s.a + max n 0 } else s
def St.stop (s : St) (n : Int) : St := if s.go = true ∧ n ≠ 0 then { s with e := n, f := s.a } else s
def St.fin (s : St) : St := if s.go = true then { s with d := true } else s
/-- What a call does: 1 eat, 2 stop, 3 end. -/
def St.act (s : St) (k n : Int) : St := if k = 1 then s.eat n else if k = 2 then s.stop n else if k = 3 then s.fin else s
theorem St.eat_a (s : St) (n : Int) (hn : n ≤ 1099511627776) (h : 0 ≤ s.a) : 0 ≤ (s.eat n).a ∧ (s.eat n).a ≤ s.a + 1099511627776 := by
  unfold St.eat
  split
  · show 0 ≤ s.a + max n 0 ∧ s.a + max n 0 ≤ s.a + 1099511627776
    omega
  · omega
theorem St.stop_a (s : St) (n : Int) : (s.stop n).a = s.a := by unfold St.stop; split <;> rfl
theorem St.fin_a (s : St) : s.fin.a = s.a := by unfold St.fin; split <;> rfl
theorem St.act_a (s : St) (k n : Int) (hn : n ≤ 1099511627776) (h : 0 ≤ s.a) : 0 ≤ (s.act k n).a ∧ (s.act k n).a ≤ s.a + 1099511627776 := by
  unfold St.act
  split
  · exact s.eat_a n hn h
  · split
    · rw [St.stop_a]; omega
    · split
      · rw [St.fin_a]; omega
      · omega
theorem St.go_yes {s : St} (h : s.go = true) : s.e = 0 ∧ s.d = false := by
  simp only [St.go, Bool.and_eq_true, beq_iff_eq, Bool.not_eq_true'] at h
  exact h
abbrev BA (w : World) (g T : Nat) (s : St) (rest : List Value) : Prop := BsAt w g T s.a s.e s.f s.d rest
section
variable {w : World} {g T : Nat} {s : St} {rest : List Value}
theorem c_at (h : BA w g T s rest) : Calls Try.prog 19 #[.pointer (some ⟨g, 0, none⟩)] w fun en w' => en = .returned (.int .i64 s.a) ∧ w = w' := at_any h
theorem c_fail (h : BA w g T s rest) : Calls Try.prog 20 #[.pointer (some ⟨g, 0, none⟩)] w fun en w' => en = .returned (.agg #[.int .i64 s.e, .int .i64 s.f]) ∧ Below w.heap.size w w' := fail_any h
theorem c_going (h : BA w g T s rest) : Calls Try.prog 21 #[.pointer (some ⟨g, 0, none⟩)] w fun en w' => en = .returned (.bool s.go) ∧ w = w' := by
  cases hg : s.go with
  | true =>
    obtain ⟨a, e, f, d⟩ := s
    obtain ⟨rfl, rfl⟩ := St.go_yes hg
    exact going_yes h
  | false => exact going_no hg h
theorem c_eat (n : Int) (hn : n ≤ 1099511627776) (h0 : 0 ≤ s.a) (h1 : s.a ≤ 1000000000000000) (h : BA w g T s rest) : Calls Try.prog 15 #[.pointer (some ⟨g, 0, none⟩), .int .i64 n] w fun en w' => en = .returned (.tuple #[]) ∧ BA w' g T (s.eat n) rest ∧ Kp (fun k => k = g) w w' := by
  cases hg : s.go with
  | true =>
    obtain ⟨a, e, f, d⟩ := s
    obtain ⟨rfl, rfl⟩ := St.go_yes hg
    unfold St.eat
    rw [if_pos hg]
    rcases Int.lt_or_le n 0 with hm | hm
    · have e1 : max n 0 = 0 := by omega
      simp only [BA, e1, Int.add_zero]
      exact eat_neg n hm h0 (by simp only at h1; omega) h
    · have e1 : max n 0 = n := by omega
      simp only [BA, e1]
      exact eat_pos n hm h0 (by simp only at h1; omega) (by omega) h
  | false =>
    unfold St.eat
    rw [if_neg (by rw [hg]; decide)]
    refine (eat_no n hg h).mono ?_
    rintro en w' ⟨rfl, rfl⟩
    exact ⟨rfl, h, Kp.refl _ _⟩
theorem stop_zero {a f : Int} (h : BsAt w g T a 0 f false rest) : Calls Try.prog 16 #[.pointer (some ⟨g, 0, none⟩), .int .i64 0] w fun en w' => en = .returned (.tuple #[]) ∧ w = w' := by
  have c1 := h.c1
  have c3 := h.c3
  clear h
  go_enter Try.func16, Try.ntmps16
  go_wp2
  go_end0
  exact ⟨rfl, rfl⟩
theorem c_stop (n : Int) (h : BA w g T s rest) : Calls Try.prog 16 #[.pointer (some ⟨g, 0, none⟩), .int .i64 n] w fun en w' => en = .returned (.tuple #[]) ∧ BA w' g T (s.stop n) rest ∧ Kp (fun k => k = g) w w' := by
  cases hg : s.go with
  | true =>
    obtain ⟨a, e, f, d⟩ := s
    obtain ⟨rfl, rfl⟩ := St.go_yes hg
    unfold St.stop
    by_cases hn : n = 0
    · subst hn
      rw [if_neg (by simp)]
      refine (stop_zero h).mono ?_
      rintro en w' ⟨rfl, rfl⟩
      exact ⟨rfl, h, Kp.refl _ _⟩
    · rw [if_pos ⟨hg, hn⟩]
      exact stop_yes n (by simpa using hn) h
  | false =>
    unfold St.stop
    rw [if_neg (by rw [hg]; simp)]
    refine (stop_no n hg h).mono ?_
    rintro en w' ⟨rfl, rfl⟩
    exact ⟨rfl, h, Kp.refl _ _⟩
theorem c_end (h : BA w g T s rest) : Calls Try.prog 17 #[.pointer (some ⟨g, 0, none⟩)] w fun en w' => en = .returned (.tuple #[]) ∧ BA w' g T s.fin rest ∧ Kp (fun k => k = g) w w' := by
  cases hg : s.go with
  | true =>
    obtain ⟨a, e, f, d⟩ := s
    obtain ⟨rfl, rfl⟩ := St.go_yes hg
    unfold St.fin
    rw [if_pos hg]
    exact end_yes h
  | false =>
    unfold St.fin
    rw [if_neg (by rw [hg]; decide)]
    refine (end_no hg h).mono ?_
    rintro en w' ⟨rfl, rfl⟩
    exact ⟨rfl, h, Kp.refl _ _⟩
end
theorem wrap64_in {x : Int} (h0 : 0 ≤ x) (h1 : x ≤ 9000000000000000000) : wrap64 x = x := by simp only [wrap64]; omega
theorem do_f (s : St) (k n : Int) (hn : n ≤ 1099511627776) (h0 : 0 ≤ s.a) (h1 : s.a ≤ 1000000000000000) (hk : 1 ≤ k ∧ k ≤ 3) : PStepBase.pilcrowref02_Base_Do.f s.a s.e s.f s.d k n = some ((s.act k n).a, (s.act k n).e, (s.act k n).f, (s.act k n).d) := by
  obtain ⟨a, e, f, d⟩ := s
  simp only at h0 h1
  unfold PStepBase.pilcrowref02_Base_Do.f PStepBase.pilcrowref02_Base_Going.f St.act St.eat St.stop St.fin St.go
  by_cases he : e = 0
  · subst he
    cases d
    · obtain rfl | rfl | rfl : k = 1 ∨ k = 2 ∨ k = 3 := by omega
      · by_cases hp : n > 0
        · have e1 : max n 0 = n := by omega
          simp [hp, e1, wrap64_in (show 0 ≤ a + n by omega) (by omega)]
        · have e1 : max n 0 = 0 := by omega
          simp [hp, e1]
      · by_cases hp : n = 0 <;> simp [hp]
      · simp
    · obtain rfl | rfl | rfl : k = 1 ∨ k = 2 ∨ k = 3 := by omega
      all_goals simp
  · obtain rfl | rfl | rfl : k = 1 ∨ k = 2 ∨ k = 3 := by omega
    all_goals simp [he]
/-- An op that is played. -/
def fine (o : PStepBase.S35) : Prop := o.f2.size ≤ 300 ∧ o.f3.length ≤ 300 ∧ o.f1 ≤ 1099511627776
theorem great_l0 (l : List PStepBase.S35) (hl : l.length ≤ 300) : ∀ d i : Nat, i + d = l.length → ∃ r, PStepBase.pilcrowlaw02_great.l0 (d + 1) l (l.length : Int) (i : Int) = some r ∧ (r = false → ∀ o ∈ l.drop i, fine o)
  | 0, i, hi => by
    refine ⟨false, ?_, fun _ o ho => ?_⟩
    · rw [PStepBase.pilcrowlaw02_great.l0, if_neg (by omega)]
    · rw [List.drop_eq_nil_of_le (by omega)] at ho; cases ho
  | d + 1, i, hi => by
    obtain ⟨r, h1, h2⟩ := great_l0 l hl d (i + 1) (by omega)
    have hw : wrap64 ((i : Int) + 1) = ((i + 1 : Nat) : Int) := by rw [wrap64_in (by omega) (by omega)]; omega
    have hrd : PStepBase.rd_T35 l (i : Int) = l[i]'(by omega) := by
      rw [PStepBase.rd_T35, Int.toNat_natCast, List.getD_eq_getElem?_getD, List.getElem?_eq_getElem (by omega)]; rfl
    rw [PStepBase.pilcrowlaw02_great.l0, if_pos (by omega), if_pos (by omega), if_pos (by omega), hrd, hw, h1]
    by_cases c1 : (((l[i]'(by omega)).f2).size : Int) > 300
    · exact ⟨true, by rw [if_pos c1], fun h => by cases h⟩
    by_cases c2 : (((l[i]'(by omega)).f3).length : Int) > 300
    · exact ⟨true, by rw [if_neg c1, if_pos c2], fun h => by cases h⟩
    by_cases c3 : ((l[i]'(by omega)).f1) > 1099511627776
    · exact ⟨true, by rw [if_neg c1, if_neg c2, if_pos c3], fun h => by cases h⟩
    refine ⟨r, by rw [if_neg c1, if_neg c2, if_neg c3], fun h o ho => ?_⟩
    rw [List.drop_eq_getElem_cons (by omega), List.mem_cons] at ho
    rcases ho with rfl | ho
    · exact ⟨by omega, by omega, by omega⟩
    · exact h2 h o ho
theorem great_f (l : List PStepBase.S35) : ∃ k r, PStepBase.pilcrowlaw02_great.f k l = some r ∧ (r = false → l.length ≤ 300 ∧ ∀ o ∈ l, fine o) := by
  by_cases h : l.length ≤ 300
  · obtain ⟨r, h1, h2⟩ := great_l0 l h l.length 0 (Nat.zero_add _)
    exact ⟨l.length + 1, r, by rw [PStepBase.pilcrowlaw02_great.f, if_neg (by omega)]; exact h1, fun hr => ⟨h, fun o ho => h2 hr o (by simpa using ho)⟩⟩
  · exact ⟨0, true, by rw [PStepBase.pilcrowlaw02_great.f, if_pos (by omega)], fun h => by cases h⟩
end Go.Proofs.Ytfknlgjfhdphjaa
