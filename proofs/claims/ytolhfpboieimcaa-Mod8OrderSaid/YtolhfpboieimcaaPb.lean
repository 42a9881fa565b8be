/- Layer 6: the reference's Begins and Read are the machine. -/
import Derived.Test.YtolhfpboieimcaaPs
import Derived.Test.YtolhfpboieimcaaBs
import Derived.Test.YtolhfpboieimcaaMr
namespace Go.Proofs.Ytolhfpboieimcaa
open Go.RowKit Go.Proofs.YtolhfpboieimcaaW.PrintWords Go.Proofs.YtolhfpboieimcaaW.PrintMore
set_option linter.unusedVariables false
set_option linter.unusedSimpArgs false
theorem some_at (k : Nat) (lo hi n : Int) (h0 : 1 ≤ n) (h1 : n ≤ 5) : PMod8Extends.pilcrowref06_Some.f k lo hi n = some (someF lo hi n) := by
  unfold PMod8Extends.pilcrowref06_Some.f someF
  by_cases e1 : n = 1
  · rw [if_pos e1, if_pos e1]; rfl
  by_cases e2 : n = 2
  · rw [if_neg e1, if_neg e1, if_pos e2, if_pos e2]; rfl
  by_cases e3 : n = 3
  · rw [if_neg e1, if_neg e1, if_neg e2, if_neg e2, if_pos e3, if_pos e3]; rfl
  by_cases e4 : n = 4
  · rw [if_neg e1, if_neg e1, if_neg e2, if_neg e2, if_neg e3, if_neg e3, if_pos e4, if_pos e4]; rfl
  · rw [if_neg e1, if_neg e1, if_neg e2, if_neg e2, if_neg e3, if_neg e3, if_neg e4, if_neg e4, if_pos (by omega)]; rfl
/-- One byte more of those that are there. -/
theorem l_in (k : Nat) (q : ByteArray) (n lo hi i x : Int) (hx : bt q i = x) (h0 : 0 ≤ i) (h1 : i < n) (hn : n ≤ 5) (h2 : i < q.size) (hb : 160 ≤ x ∧ x ≤ 191) (hl : 0 ≤ lo ∧ lo ≤ 33000000) (hh : 0 ≤ hi ∧ hi ≤ 33000000) :
    PMod8Extends.pilcrowref06_Begins.l0 (k + 1) q n lo hi i = PMod8Extends.pilcrowref06_Begins.l0 k q n (lo * 32 + x - 160) (hi * 32 + x - 160) (i + 1) := by
  rw [PMod8Extends.pilcrowref06_Begins.l0, if_pos h1, if_pos h2, if_pos h0, hx, if_neg (by omega), if_neg (by omega), w64' (by omega) (by omega)]
  congr 1 <;> omega
theorem l_bad (k : Nat) (q : ByteArray) (n lo hi i x : Int) (hx : bt q i = x) (h0 : 0 ≤ i) (h1 : i < n) (h2 : i < q.size) (hb : x < 160 ∨ 191 < x) :
    PMod8Extends.pilcrowref06_Begins.l0 (k + 1) q n lo hi i = some (0, false) := by
  rw [PMod8Extends.pilcrowref06_Begins.l0, if_pos h1, if_pos h2, if_pos h0, hx]
  by_cases h : x < 160
  · rw [if_pos h]
  · rw [if_neg h, if_pos (by omega)]
/-- One byte of those that are to come. -/
theorem l_out (k : Nat) (q : ByteArray) (n lo hi i : Int) (h0 : 0 ≤ i) (h1 : i < n) (hn : n ≤ 5) (h2 : q.size ≤ i) (hl : 0 ≤ lo ∧ lo ≤ 33000000) (hh : 0 ≤ hi ∧ hi ≤ 33000000) :
    PMod8Extends.pilcrowref06_Begins.l0 (k + 1) q n lo hi i = PMod8Extends.pilcrowref06_Begins.l0 k q n (lo * 32) (hi * 32 + 31) (i + 1) := by
  rw [PMod8Extends.pilcrowref06_Begins.l0, if_pos h1, if_neg (by omega), w64' (by omega) (by omega)]
  congr 1 <;> omega
theorem l_end (k : Nat) (q : ByteArray) (n lo hi i : Int) (h0 : 1 ≤ n) (h1 : n ≤ 5) (hi' : i = n) : PMod8Extends.pilcrowref06_Begins.l0 (k + 1) q n lo hi i = some (someF lo hi n) := by
  rw [PMod8Extends.pilcrowref06_Begins.l0, if_neg (by omega), some_at k lo hi n h0 h1, Option.bind_some]
theorem j4_at (k : Nat) (q : ByteArray) (v n : Int) (h : (q.size : Int) ≤ n) : PMod8Extends.pilcrowref06_Begins.j4 (k + 1) q v n = PMod8Extends.pilcrowref06_Begins.l0 k q n v v 1 := by
  rw [PMod8Extends.pilcrowref06_Begins.j4, if_neg (by omega)]
theorem head_1 (k : Nat) (q : ByteArray) (b : Int) (hb : bt q 0 = b) (hs : 1 ≤ q.size) (h0 : 0 ≤ b) (h1 : b < 160) : PMod8Extends.pilcrowref06_Begins.f (k + 5) q = PMod8Extends.pilcrowref06_Begins.j4 (k + 1) q b 1 := by
  rw [PMod8Extends.pilcrowref06_Begins.f, if_pos (by omega), hb, show b % 4294967296 = b by omega, if_neg (by omega), PMod8Extends.pilcrowref06_Begins.j0, if_neg (by decide), if_neg (by omega), PMod8Extends.pilcrowref06_Begins.j1, if_neg (by decide), if_neg (by omega), PMod8Extends.pilcrowref06_Begins.j2, if_neg (by decide), if_neg (by omega), PMod8Extends.pilcrowref06_Begins.j3, if_neg (by decide), if_neg (by omega)]
theorem head_bad (k : Nat) (q : ByteArray) (b : Int) (hb : bt q 0 = b) (hs : 1 ≤ q.size) (h0 : 160 ≤ b) (h1 : b < 192) : PMod8Extends.pilcrowref06_Begins.f (k + 5) q = some (0, false) := by
  rw [PMod8Extends.pilcrowref06_Begins.f, if_pos (by omega), hb, show b % 4294967296 = b by omega, if_neg (by omega), PMod8Extends.pilcrowref06_Begins.j0, if_neg (by decide), if_neg (by omega), PMod8Extends.pilcrowref06_Begins.j1, if_neg (by decide), if_neg (by omega), PMod8Extends.pilcrowref06_Begins.j2, if_neg (by decide), if_neg (by omega), PMod8Extends.pilcrowref06_Begins.j3, if_neg (by decide), if_pos (by omega)]
theorem head_2 (k : Nat) (q : ByteArray) (b : Int) (hb : bt q 0 = b) (hs : 1 ≤ q.size) (h0 : 192 ≤ b) (h1 : b < 224) : PMod8Extends.pilcrowref06_Begins.f (k + 5) q = PMod8Extends.pilcrowref06_Begins.j4 (k + 4) q (b - 192) 2 := by
  rw [PMod8Extends.pilcrowref06_Begins.f, if_pos (by omega), hb, show b % 4294967296 = b by omega, if_pos (by omega), decide_eq_true (by omega), PMod8Extends.pilcrowref06_Begins.j0, if_pos rfl, show (b - 192) % 4294967296 = b - 192 by omega]
theorem head_3 (k : Nat) (q : ByteArray) (b : Int) (hb : bt q 0 = b) (hs : 1 ≤ q.size) (h0 : 224 ≤ b) (h1 : b < 240) : PMod8Extends.pilcrowref06_Begins.f (k + 5) q = PMod8Extends.pilcrowref06_Begins.j4 (k + 3) q (b - 224) 3 := by
  rw [PMod8Extends.pilcrowref06_Begins.f, if_pos (by omega), hb, show b % 4294967296 = b by omega, if_pos (by omega), decide_eq_false (by omega), PMod8Extends.pilcrowref06_Begins.j0, if_neg (by decide), if_pos (by omega), decide_eq_true (by omega), PMod8Extends.pilcrowref06_Begins.j1, if_pos rfl, show (b - 224) % 4294967296 = b - 224 by omega]
theorem head_4 (k : Nat) (q : ByteArray) (b : Int) (hb : bt q 0 = b) (hs : 1 ≤ q.size) (h0 : 240 ≤ b) (h1 : b < 248) : PMod8Extends.pilcrowref06_Begins.f (k + 5) q = PMod8Extends.pilcrowref06_Begins.j4 (k + 2) q (b - 240) 4 := by
  rw [PMod8Extends.pilcrowref06_Begins.f, if_pos (by omega), hb, show b % 4294967296 = b by omega, if_pos (by omega), decide_eq_false (by omega), PMod8Extends.pilcrowref06_Begins.j0, if_neg (by decide), if_pos (by omega), decide_eq_false (by omega), PMod8Extends.pilcrowref06_Begins.j1, if_neg (by decide), if_pos (by omega), decide_eq_true (by omega), PMod8Extends.pilcrowref06_Begins.j2, if_pos rfl, show (b - 240) % 4294967296 = b - 240 by omega]
theorem head_5 (k : Nat) (q : ByteArray) (b : Int) (hb : bt q 0 = b) (hs : 1 ≤ q.size) (h0 : 248 ≤ b) (h1 : b < 252) : PMod8Extends.pilcrowref06_Begins.f (k + 5) q = PMod8Extends.pilcrowref06_Begins.j4 (k + 1) q (b - 248) 5 := by
  rw [PMod8Extends.pilcrowref06_Begins.f, if_pos (by omega), hb, show b % 4294967296 = b by omega, if_pos (by omega), decide_eq_false (by omega), PMod8Extends.pilcrowref06_Begins.j0, if_neg (by decide), if_pos (by omega), decide_eq_false (by omega), PMod8Extends.pilcrowref06_Begins.j1, if_neg (by decide), if_pos (by omega), decide_eq_false (by omega), PMod8Extends.pilcrowref06_Begins.j2, if_neg (by decide), if_pos (by omega), decide_eq_true (by omega), PMod8Extends.pilcrowref06_Begins.j3, if_pos rfl, show (b - 248) % 4294967296 = b - 248 by omega]
theorem head_no (k : Nat) (q : ByteArray) (b : Int) (hb : bt q 0 = b) (hs : 1 ≤ q.size) (h0 : 252 ≤ b) (h1 : b ≤ 255) : PMod8Extends.pilcrowref06_Begins.f (k + 5) q = some (0, false) := by
  rw [PMod8Extends.pilcrowref06_Begins.f, if_pos (by omega), hb, show b % 4294967296 = b by omega, if_pos (by omega), decide_eq_false (by omega), PMod8Extends.pilcrowref06_Begins.j0, if_neg (by decide), if_pos (by omega), decide_eq_false (by omega), PMod8Extends.pilcrowref06_Begins.j1, if_neg (by decide), if_pos (by omega), decide_eq_false (by omega), PMod8Extends.pilcrowref06_Begins.j2, if_neg (by decide), if_pos (by omega), decide_eq_false (by omega), PMod8Extends.pilcrowref06_Begins.j3, if_neg (by decide), if_pos (by omega)]
/-- What a beginning was, where it was one. -/
def Pre : List Int → Prop
  | [b] => 0 ≤ b ∧ b ≤ 255
  | [b, x] => (197 ≤ b ∧ b ≤ 249) ∧ 0 ≤ x ∧ x ≤ 255
  | [b, x, y] => (224 ≤ b ∧ b ≤ 249) ∧ (160 ≤ x ∧ x ≤ 191) ∧ 0 ≤ y ∧ y ≤ 255
  | [b, x, y, z] => (240 ≤ b ∧ b ≤ 249) ∧ (160 ≤ x ∧ x ≤ 191) ∧ (160 ≤ y ∧ y ≤ 191) ∧ 0 ≤ z ∧ z ≤ 255
  | [b, x, y, z, t] => (248 ≤ b ∧ b ≤ 249) ∧ (160 ≤ x ∧ x ≤ 191) ∧ (160 ≤ y ∧ y ≤ 191) ∧ (160 ≤ z ∧ z ≤ 191) ∧ 0 ≤ t ∧ t ≤ 255
  | _ => False
theorem lead_rng {b : Int} (h : isLead b) : 197 ≤ b ∧ b ≤ 249 := by unfold isLead at h; omega
theorem sim_pre {s : CS} {q : List Int} {b : Int} (h : Sim s q) (h0 : 0 ≤ b) (h1 : b ≤ 255) : Pre (q ++ [b]) := by
  match q, h with
  | [], _ => exact ⟨h0, h1⟩
  | [x], h => exact ⟨lead_rng h.1, h0, h1⟩
  | [x, y], h => exact ⟨⟨h.1.2, (lead_rng h.1.1).2⟩, h.2.1, h0, h1⟩
  | [x, y, z], h => exact ⟨⟨h.1.2, (lead_rng h.1.1).2⟩, h.2.1, h.2.2.2.1, h0, h1⟩
  | [x, y, z, t], h => exact ⟨⟨h.1.2, (lead_rng h.1.1).2⟩, h.2.1, h.2.2.2.1, h.2.2.2.2.1, h0, h1⟩
theorem sim_pre0 {s : CS} {q : List Int} (h : Sim s q) (hq : q ≠ []) : Pre q := by
  match q, h, hq with
  | [b], h, _ => have := lead_rng h.1; exact ⟨by omega, by omega⟩
  | [b, x], h, _ => have := h.2.1; exact ⟨lead_rng h.1.1, by omega, by omega⟩
  | [b, x, y], h, _ => have := h.2.2.2.1; exact ⟨⟨by have := h.1.2; omega, (lead_rng h.1.1).2⟩, h.2.1, by omega, by omega⟩
  | [b, x, y, z], h, _ => have := h.2.2.2.2.1; exact ⟨⟨by have := h.1.2; omega, (lead_rng h.1.1).2⟩, h.2.1, h.2.2.2.1, by omega, by omega⟩
theorem begins_at (k : Nat) (q : ByteArray) (h : Pre (bytesOf q)) : PMod8Extends.pilcrowref06_Begins.f (k + 15) q = some (begF (bytesOf q)) := by
  have hq := bytesOf_bt q
  have hlen := bytesOf_length q
  generalize hl : bytesOf q = l at *
  match l, h with
  | [b], h =>
    obtain ⟨h0, h1⟩ := h
    have hs : q.size = 1 := hlen.symm
    rw [hs] at hq
    have e0 : bt q 0 = b := by
      have : [b] = [bt q 0] := hq
      simpa using this.symm
    by_cases c1 : b < 160
    · rw [head_1 (k + 10) q b e0 (by omega) h0 c1, j4_at _ _ _ _ (by omega), l_end _ _ _ _ _ _ (by omega) (by omega) rfl]
      simp only [begF, if_pos c1]
    by_cases c2 : b < 192
    · rw [head_bad (k + 10) q b e0 (by omega) (by omega) c2]
      simp only [begF, if_neg c1, if_pos c2]
    by_cases c3 : b < 224
    · rw [head_2 (k + 10) q b e0 (by omega) (by omega) c3, j4_at _ _ _ _ (by omega), l_out _ _ _ _ _ _ (by omega) (by omega) (by omega) (by omega) (by omega) (by omega), l_end _ _ _ _ _ _ (by omega) (by omega) (by omega)]
      simp only [begF, if_neg c1, if_neg c2, if_pos c3]
      try (congr 2 <;> omega)
    by_cases c4 : b < 240
    · rw [head_3 (k + 10) q b e0 (by omega) (by omega) c4, j4_at _ _ _ _ (by omega), l_out _ _ _ _ _ _ (by omega) (by omega) (by omega) (by omega) (by omega) (by omega), l_out _ _ _ _ _ _ (by omega) (by omega) (by omega) (by omega) (by omega) (by omega), l_end _ _ _ _ _ _ (by omega) (by omega) (by omega)]
      simp only [begF, if_neg c1, if_neg c2, if_neg c3, if_pos c4]
      try (congr 2 <;> omega)
    by_cases c5 : b < 248
    · rw [head_4 (k + 10) q b e0 (by omega) (by omega) c5, j4_at _ _ _ _ (by omega), l_out _ _ _ _ _ _ (by omega) (by omega) (by omega) (by omega) (by omega) (by omega), l_out _ _ _ _ _ _ (by omega) (by omega) (by omega) (by omega) (by omega) (by omega), l_out _ _ _ _ _ _ (by omega) (by omega) (by omega) (by omega) (by omega) (by omega), l_end _ _ _ _ _ _ (by omega) (by omega) (by omega)]
      simp only [begF, if_neg c1, if_neg c2, if_neg c3, if_neg c4, if_pos c5]
      try (congr 2 <;> omega)
    by_cases c6 : b < 252
    · rw [head_5 (k + 10) q b e0 (by omega) (by omega) c6, j4_at _ _ _ _ (by omega), l_out _ _ _ _ _ _ (by omega) (by omega) (by omega) (by omega) (by omega) (by omega), l_out _ _ _ _ _ _ (by omega) (by omega) (by omega) (by omega) (by omega) (by omega), l_out _ _ _ _ _ _ (by omega) (by omega) (by omega) (by omega) (by omega) (by omega), l_out _ _ _ _ _ _ (by omega) (by omega) (by omega) (by omega) (by omega) (by omega), l_end _ _ _ _ _ _ (by omega) (by omega) (by omega)]
      simp only [begF, if_neg c1, if_neg c2, if_neg c3, if_neg c4, if_neg c5, if_pos c6]
      try (congr 2 <;> omega)
    · rw [head_no (k + 10) q b e0 (by omega) (by omega) h1]
      simp only [begF, if_neg c1, if_neg c2, if_neg c3, if_neg c4, if_neg c5, if_neg c6]
  | [b, x], h =>
    obtain ⟨⟨h0, h1⟩, hx0, hx1⟩ := h
    have hs : q.size = 2 := hlen.symm
    rw [hs] at hq
    have e : [b, x] = [bt q 0, bt q 1] := hq
    simp only [List.cons.injEq, and_true] at e
    obtain ⟨e0, e1⟩ := e
    have f1 : bt q (1) = x := e1.symm
    by_cases hr : x < 160 ∨ 191 < x
    · simp only [begF, if_pos hr]
      by_cases c3 : b < 224
      · rw [head_2 (k + 10) q b e0.symm (by omega) (by omega) c3, j4_at _ _ _ _ (by omega), l_bad _ _ _ _ _ _ x f1 (by omega) (by omega) (by omega) hr]
      by_cases c4 : b < 240
      · rw [head_3 (k + 10) q b e0.symm (by omega) (by omega) c4, j4_at _ _ _ _ (by omega), l_bad _ _ _ _ _ _ x f1 (by omega) (by omega) (by omega) hr]
      by_cases c5 : b < 248
      · rw [head_4 (k + 10) q b e0.symm (by omega) (by omega) c5, j4_at _ _ _ _ (by omega), l_bad _ _ _ _ _ _ x f1 (by omega) (by omega) (by omega) hr]
      rw [head_5 (k + 10) q b e0.symm (by omega) (by omega) (by omega), j4_at _ _ _ _ (by omega), l_bad _ _ _ _ _ _ x f1 (by omega) (by omega) (by omega) hr]
    · simp only [begF, if_neg hr]
      by_cases c3 : b < 224
      · rw [head_2 (k + 10) q b e0.symm (by omega) (by omega) c3, j4_at _ _ _ _ (by omega), l_in _ _ _ _ _ _ x f1 (by omega) (by omega) (by omega) (by omega) (by omega) (by omega) (by omega), l_end _ _ _ _ _ _ (by omega) (by omega) (by omega), if_pos c3]
        try (congr 2 <;> omega)
      by_cases c4 : b < 240
      · rw [head_3 (k + 10) q b e0.symm (by omega) (by omega) c4, j4_at _ _ _ _ (by omega), l_in _ _ _ _ _ _ x f1 (by omega) (by omega) (by omega) (by omega) (by omega) (by omega) (by omega), l_out _ _ _ _ _ _ (by omega) (by omega) (by omega) (by omega) (by omega) (by omega), l_end _ _ _ _ _ _ (by omega) (by omega) (by omega), if_neg c3, if_pos c4]
        try (congr 2 <;> omega)
      by_cases c5 : b < 248
      · rw [head_4 (k + 10) q b e0.symm (by omega) (by omega) c5, j4_at _ _ _ _ (by omega), l_in _ _ _ _ _ _ x f1 (by omega) (by omega) (by omega) (by omega) (by omega) (by omega) (by omega), l_out _ _ _ _ _ _ (by omega) (by omega) (by omega) (by omega) (by omega) (by omega), l_out _ _ _ _ _ _ (by omega) (by omega) (by omega) (by omega) (by omega) (by omega), l_end _ _ _ _ _ _ (by omega) (by omega) (by omega), if_neg c3, if_neg c4, if_pos c5]
        try (congr 2 <;> omega)
      rw [head_5 (k + 10) q b e0.symm (by omega) (by omega) (by omega), j4_at _ _ _ _ (by omega), l_in _ _ _ _ _ _ x f1 (by omega) (by omega) (by omega) (by omega) (by omega) (by omega) (by omega), l_out _ _ _ _ _ _ (by omega) (by omega) (by omega) (by omega) (by omega) (by omega), l_out _ _ _ _ _ _ (by omega) (by omega) (by omega) (by omega) (by omega) (by omega), l_out _ _ _ _ _ _ (by omega) (by omega) (by omega) (by omega) (by omega) (by omega), l_end _ _ _ _ _ _ (by omega) (by omega) (by omega), if_neg c3, if_neg c4, if_neg c5]
      try (congr 2 <;> omega)
  | [b, x, y], h =>
    obtain ⟨⟨h0, h1⟩, ⟨hx0, hx1⟩, hy0, hy1⟩ := h
    have hs : q.size = 3 := hlen.symm
    rw [hs] at hq
    have e : [b, x, y] = [bt q 0, bt q 1, bt q 2] := hq
    simp only [List.cons.injEq, and_true] at e
    obtain ⟨e0, e1, e2⟩ := e
    have f1 : bt q (1) = x := e1.symm
    have f2 : bt q (1 + 1) = y := e2.symm
    by_cases hr : y < 160 ∨ 191 < y
    · simp only [begF, if_pos hr]
      by_cases c4 : b < 240
      · rw [head_3 (k + 10) q b e0.symm (by omega) (by omega) c4, j4_at _ _ _ _ (by omega), l_in _ _ _ _ _ _ x f1 (by omega) (by omega) (by omega) (by omega) (by omega) (by omega) (by omega), l_bad _ _ _ _ _ _ y f2 (by omega) (by omega) (by omega) hr]
      by_cases c5 : b < 248
      · rw [head_4 (k + 10) q b e0.symm (by omega) (by omega) c5, j4_at _ _ _ _ (by omega), l_in _ _ _ _ _ _ x f1 (by omega) (by omega) (by omega) (by omega) (by omega) (by omega) (by omega), l_bad _ _ _ _ _ _ y f2 (by omega) (by omega) (by omega) hr]
      rw [head_5 (k + 10) q b e0.symm (by omega) (by omega) (by omega), j4_at _ _ _ _ (by omega), l_in _ _ _ _ _ _ x f1 (by omega) (by omega) (by omega) (by omega) (by omega) (by omega) (by omega), l_bad _ _ _ _ _ _ y f2 (by omega) (by omega) (by omega) hr]
    · simp only [begF, if_neg hr]
      by_cases c4 : b < 240
      · rw [head_3 (k + 10) q b e0.symm (by omega) (by omega) c4, j4_at _ _ _ _ (by omega), l_in _ _ _ _ _ _ x f1 (by omega) (by omega) (by omega) (by omega) (by omega) (by omega) (by omega), l_in _ _ _ _ _ _ y f2 (by omega) (by omega) (by omega) (by omega) (by omega) (by omega) (by omega), l_end _ _ _ _ _ _ (by omega) (by omega) (by omega), if_pos c4]
        try (congr 2 <;> omega)
      by_cases c5 : b < 248
      · rw [head_4 (k + 10) q b e0.symm (by omega) (by omega) c5, j4_at _ _ _ _ (by omega), l_in _ _ _ _ _ _ x f1 (by omega) (by omega) (by omega) (by omega) (by omega) (by omega) (by omega), l_in _ _ _ _ _ _ y f2 (by omega) (by omega) (by omega) (by omega) (by omega) (by omega) (by omega), l_out _ _ _ _ _ _ (by omega) (by omega) (by omega) (by omega) (by omega) (by omega), l_end _ _ _ _ _ _ (by omega) (by omega) (by omega), if_neg c4, if_pos c5]
        try (congr 2 <;> omega)
      rw [head_5 (k + 10) q b e0.symm (by omega) (by omega) (by omega), j4_at _ _ _ _ (by omega), l_in _ _ _ _ _ _ x f1 (by omega) (by omega) (by omega) (by omega) (by omega) (by omega) (by omega), l_in _ _ _ _ _ _ y f2 (by omega) (by omega) (by omega) (by omega) (by omega) (by omega) (by omega), l_out _ _ _ _ _ _ (by omega) (by omega) (by omega) (by omega) (by omega) (by omega), l_out _ _ _ _ _ _ (by omega) (by omega) (by omega) (by omega) (by omega) (by omega), l_end _ _ _ _ _ _ (by omega) (by omega) (by omega), if_neg c4, if_neg c5]
      try (congr 2 <;> omega)
  | [b, x, y, z], h =>
    obtain ⟨⟨h0, h1⟩, ⟨hx0, hx1⟩, ⟨hy0, hy1⟩, hz0, hz1⟩ := h
    have hs : q.size = 4 := hlen.symm
    rw [hs] at hq
    have e : [b, x, y, z] = [bt q 0, bt q 1, bt q 2, bt q 3] := hq
    simp only [List.cons.injEq, and_true] at e
    obtain ⟨e0, e1, e2, e3⟩ := e
    have f1 : bt q (1) = x := e1.symm
    have f2 : bt q (1 + 1) = y := e2.symm
    have f3 : bt q (1 + 1 + 1) = z := e3.symm
    by_cases hr : z < 160 ∨ 191 < z
    · simp only [begF, if_pos hr]
      by_cases c5 : b < 248
      · rw [head_4 (k + 10) q b e0.symm (by omega) (by omega) c5, j4_at _ _ _ _ (by omega), l_in _ _ _ _ _ _ x f1 (by omega) (by omega) (by omega) (by omega) (by omega) (by omega) (by omega), l_in _ _ _ _ _ _ y f2 (by omega) (by omega) (by omega) (by omega) (by omega) (by omega) (by omega), l_bad _ _ _ _ _ _ z f3 (by omega) (by omega) (by omega) hr]
      rw [head_5 (k + 10) q b e0.symm (by omega) (by omega) (by omega), j4_at _ _ _ _ (by omega), l_in _ _ _ _ _ _ x f1 (by omega) (by omega) (by omega) (by omega) (by omega) (by omega) (by omega), l_in _ _ _ _ _ _ y f2 (by omega) (by omega) (by omega) (by omega) (by omega) (by omega) (by omega), l_bad _ _ _ _ _ _ z f3 (by omega) (by omega) (by omega) hr]
    · simp only [begF, if_neg hr]
      by_cases c5 : b < 248
      · rw [head_4 (k + 10) q b e0.symm (by omega) (by omega) c5, j4_at _ _ _ _ (by omega), l_in _ _ _ _ _ _ x f1 (by omega) (by omega) (by omega) (by omega) (by omega) (by omega) (by omega), l_in _ _ _ _ _ _ y f2 (by omega) (by omega) (by omega) (by omega) (by omega) (by omega) (by omega), l_in _ _ _ _ _ _ z f3 (by omega) (by omega) (by omega) (by omega) (by omega) (by omega) (by omega), l_end _ _ _ _ _ _ (by omega) (by omega) (by omega), if_pos c5]
        try (congr 2 <;> omega)
      rw [head_5 (k + 10) q b e0.symm (by omega) (by omega) (by omega), j4_at _ _ _ _ (by omega), l_in _ _ _ _ _ _ x f1 (by omega) (by omega) (by omega) (by omega) (by omega) (by omega) (by omega), l_in _ _ _ _ _ _ y f2 (by omega) (by omega) (by omega) (by omega) (by omega) (by omega) (by omega), l_in _ _ _ _ _ _ z f3 (by omega) (by omega) (by omega) (by omega) (by omega) (by omega) (by omega), l_out _ _ _ _ _ _ (by omega) (by omega) (by omega) (by omega) (by omega) (by omega), l_end _ _ _ _ _ _ (by omega) (by omega) (by omega), if_neg c5]
      try (congr 2 <;> omega)
  | [b, x, y, z, t], h =>
    obtain ⟨⟨h0, h1⟩, ⟨hx0, hx1⟩, ⟨hy0, hy1⟩, ⟨hz0, hz1⟩, ht0, ht1⟩ := h
    have hs : q.size = 5 := hlen.symm
    rw [hs] at hq
    have e : [b, x, y, z, t] = [bt q 0, bt q 1, bt q 2, bt q 3, bt q 4] := hq
    simp only [List.cons.injEq, and_true] at e
    obtain ⟨e0, e1, e2, e3, e4⟩ := e
    have f1 : bt q (1) = x := e1.symm
    have f2 : bt q (1 + 1) = y := e2.symm
    have f3 : bt q (1 + 1 + 1) = z := e3.symm
    have f4 : bt q (1 + 1 + 1 + 1) = t := e4.symm
    by_cases hr : t < 160 ∨ 191 < t
    · simp only [begF, if_pos hr]
      rw [head_5 (k + 10) q b e0.symm (by omega) (by omega) (by omega), j4_at _ _ _ _ (by omega), l_in _ _ _ _ _ _ x f1 (by omega) (by omega) (by omega) (by omega) (by omega) (by omega) (by omega), l_in _ _ _ _ _ _ y f2 (by omega) (by omega) (by omega) (by omega) (by omega) (by omega) (by omega), l_in _ _ _ _ _ _ z f3 (by omega) (by omega) (by omega) (by omega) (by omega) (by omega) (by omega), l_bad _ _ _ _ _ _ t f4 (by omega) (by omega) (by omega) hr]
    · simp only [begF, if_neg hr]
      rw [head_5 (k + 10) q b e0.symm (by omega) (by omega) (by omega), j4_at _ _ _ _ (by omega), l_in _ _ _ _ _ _ x f1 (by omega) (by omega) (by omega) (by omega) (by omega) (by omega) (by omega), l_in _ _ _ _ _ _ y f2 (by omega) (by omega) (by omega) (by omega) (by omega) (by omega) (by omega), l_in _ _ _ _ _ _ z f3 (by omega) (by omega) (by omega) (by omega) (by omega) (by omega) (by omega), l_in _ _ _ _ _ _ t f4 (by omega) (by omega) (by omega) (by omega) (by omega) (by omega) (by omega), l_end _ _ _ _ _ _ (by omega) (by omega) (by omega)]
      try (congr 2 <;> omega)
theorem size_at (c : Int) : PMod8Extends.pilcrowref06_Size.f c = some (sizeF c) := by
  unfold PMod8Extends.pilcrowref06_Size.f sizeF
  (repeat' split) <;> rfl
/-- The bytes since the last scalar are at most four. -/
theorem sim_len {s : CS} {q : List Int} (h : Sim s q) : q.length ≤ 4 := by
  match q, h with
  | [], _ => simp
  | [x], _ => simp
  | [x, y], _ => simp
  | [x, y, z], _ => simp
  | [x, y, z, t], _ => simp
theorem sim_cut {s : CS} {q : List Int} (h : Sim s q) : ccut s = decide (0 < q.length) := by
  unfold ccut
  match q, h with
  | [], h =>
    have h : s.nd = 0 := h
    rw [h]; rfl
  | [x], h =>
    obtain ⟨k1, rfl⟩ := h
    have := (lead_nd (b := x)).1
    simp; omega
  | [x, y], h =>
    obtain ⟨⟨k1, k2⟩, k3, k4, rfl⟩ := h
    have := (lead_nd (b := x)).2.1 k2
    simp; omega
  | [x, y, z], h =>
    obtain ⟨⟨k1, k2⟩, k3, k4, k5, rfl⟩ := h
    have := (lead_nd (b := x)).2.2.1 k2
    simp; omega
  | [x, y, z, t], h =>
    obtain ⟨⟨k1, k2⟩, k3, k4, k5, k6, rfl⟩ := h
    simp
/-- One round of the reference's Read. -/
theorem read_round (t : ByteArray) (hz : t.size ≤ 1000000) (k fr fuel : Nat) (os : List Int) (hk : k < t.size) (hf : fr ≤ k) (hfl : k - fr ≤ 10) (hos : os.length ≤ 1000000) (hp : Pre (bytesOf (t.extract fr (k + 1)))) :
    PMod8Extends.pilcrowref06_Read.l0 (fuel + 16) t os (fr : Int) (k : Int) = if (begF (bytesOf (t.extract fr (k + 1)))).2 = true then
      (if sizeF (begF (bytesOf (t.extract fr (k + 1)))).1 = ((k + 1 - fr : Nat) : Int) then PMod8Extends.pilcrowref06_Read.l0 (fuel + 15) t (os ++ [(begF (bytesOf (t.extract fr (k + 1)))).1]) ((k + 1 : Nat) : Int) ((k + 1 : Nat) : Int) else PMod8Extends.pilcrowref06_Read.l0 (fuel + 15) t os (fr : Int) ((k + 1 : Nat) : Int)) else some (os, 3, (k : Int)) := by
  have hw : wrap64 (((k + 1 : Nat) : Int) - (fr : Int)) = ((k + 1 - fr : Nat) : Int) := by rw [w64' (by omega) (by omega)]; omega
  rw [PMod8Extends.pilcrowref06_Read.l0, if_pos (by omega), if_pos (by omega), wrap64_nat' k (by omega), if_pos (by omega), if_pos (by omega), Int.toNat_natCast, Int.toNat_natCast, begins_at fuel _ hp, Option.bind_some]
  by_cases h1 : (begF (bytesOf (t.extract fr (k + 1)))).2 = true
  · rw [if_pos h1, if_pos h1, size_at, Option.bind_some, hw]
    by_cases h2 : sizeF (begF (bytesOf (t.extract fr (k + 1)))).1 = ((k + 1 - fr : Nat) : Int)
    · rw [if_pos h2, if_pos h2, if_pos (by omega)]
    · rw [if_neg h2, if_neg h2]
  · rw [if_neg h1, if_neg h1]
theorem read_loop (t : ByteArray) (hz : t.size ≤ 1000000) (s0 : CS) (m : Nat) (fin : CS) (out : List Int) (hm : m ≤ t.size) (hrun : run cnx s0 ((bytesOf t).take m) = some (fin, out)) (hend : m = t.size ∨ (m < t.size ∧ cnx fin (bt t m) = none)) (d : Nat) :
    ∀ (k fr fuel : Nat) (s : CS) (os : List Int), t.size - k = d → k ≤ m → fr ≤ k → run cnx s0 ((bytesOf t).take k) = some (s, os) → Sim s (((bytesOf t).take k).drop fr) → os.length ≤ k → d + 16 ≤ fuel →
    PMod8Extends.pilcrowref06_Read.l0 fuel t os (fr : Int) (k : Int) = some (out, if m < t.size then 3 else if ccut fin = true then 4 else 0, (m : Int)) := by
  have hL := bytesOf_length t
  induction d with
  | zero =>
    intro k fr fuel s os hd hk hfr hr hsim hos hf
    obtain ⟨fuel, rfl⟩ : ∃ q, fuel = q + 1 := ⟨fuel - 1, by omega⟩
    obtain rfl : k = m := by omega
    rw [hr] at hrun
    simp only [Option.some.injEq, Prod.mk.injEq] at hrun
    obtain ⟨rfl, rfl⟩ := hrun
    have hc := sim_cut hsim
    rw [List.length_drop, List.length_take] at hc
    rw [PMod8Extends.pilcrowref06_Read.l0, if_neg (by omega), if_neg (by omega : ¬ k < t.size), show (t.size : Int) = k by omega]
    by_cases h4 : fr < k
    · rw [if_pos (by omega), hc, decide_eq_true (by omega), if_pos rfl]
    · rw [if_neg (by omega), hc, decide_eq_false (by omega), if_neg (by decide)]
  | succ d ih =>
    intro k fr fuel s os hd hk hfr hr hsim hos hf
    obtain ⟨fuel, rfl⟩ : ∃ q, fuel = q + 16 := ⟨fuel - 16, by omega⟩
    have hks : k < t.size := by omega
    have hb := bt_range t k
    have hlen := sim_len hsim
    have hql : (((bytesOf t).take k).drop fr).length = k - fr := by rw [List.length_drop, List.length_take]; omega
    obtain ⟨hq, hqs⟩ := bytes_mid t fr (k + 1) (by omega) (by omega)
    have hq2 : bytesOf (t.extract fr (k + 1)) = ((bytesOf t).take k).drop fr ++ [bt t k] := by
      rw [hq, take_bt t k hks, List.drop_append_of_le_length (by rw [List.length_take]; omega)]
    have hq3 : ((((bytesOf t).take k).drop fr ++ [bt t k]).length : Int) = ((k + 1 - fr : Nat) : Int) := by rw [List.length_append, hql, List.length_singleton]; omega
    have hsn : run cnx s0 ((bytesOf t).take (k + 1)) = (cnx s (bt t k)).map fun p => (p.1, os ++ p.2.toList) := by
      rw [take_bt t k hks, run_snoc, hr]; rfl
    have hd1 : ((bytesOf t).take (k + 1)).drop fr = ((bytesOf t).take k).drop fr ++ [bt t k] := hq.symm.trans hq2
    have hkm : ∀ p, cnx s (bt t k) = some p → k < m := by
      intro p hp
      rcases Nat.lt_or_ge k m with h9 | h9
      · exact h9
      · obtain rfl : k = m := by omega
        rw [hr] at hrun
        simp only [Option.some.injEq, Prod.mk.injEq] at hrun
        obtain ⟨rfl, rfl⟩ := hrun
        rcases hend with h8 | ⟨_, h8⟩
        · omega
        · rw [hp] at h8; cases h8
    have hpre := sim_pre hsim hb.1 hb.2
    rw [read_round t hz k fr fuel os hks hfr (by omega) (by omega) (by rw [hq2]; exact hpre), hq2]
    rcases (sim_step hsim hb.1 hb.2).1 with ⟨h1, hc⟩ | ⟨h1, h2, s', hc, hs'⟩ | ⟨h1, h2, s', hc, hs'⟩
    · rw [hc] at hsn
      have hkm2 : k = m := by
        rcases Nat.lt_or_ge k m with h9 | h9
        · rw [run_none (k := k + 1) h9 (by rw [hsn]; rfl)] at hrun; cases hrun
        · omega
      subst hkm2
      rw [hr] at hrun
      simp only [Option.some.injEq, Prod.mk.injEq] at hrun
      obtain ⟨rfl, rfl⟩ := hrun
      rw [h1, if_neg (by decide), if_pos hks]
    · rw [hc] at hsn
      rw [hq3] at h2
      rw [h1, if_pos rfl, if_neg h2]
      refine ih (k + 1) fr (fuel + 15) s' os (by omega) (hkm _ hc) (by omega) ?_ (by rw [hd1]; exact hs') (by omega) (by omega)
      rw [hsn]
      simp
    · rw [hc] at hsn
      rw [hq3] at h2
      rw [h1, if_pos rfl, if_pos h2]
      refine ih (k + 1) (k + 1) (fuel + 15) s' _ (by omega) (hkm _ hc) (by omega) (by rw [hsn]; rfl) ?_ (by rw [List.length_append, List.length_singleton]; omega) (by omega)
      rw [List.drop_eq_nil_of_le (by rw [List.length_take]; omega)]
      exact hs'
theorem readF_at (t : ByteArray) (hz : t.size ≤ 1000000) (m : Nat) (fin : CS) (out : List Int) (hm : m ≤ t.size) (hrun : run cnx st0 ((bytesOf t).take m) = some (fin, out)) (hend : m = t.size ∨ (m < t.size ∧ cnx fin (bt t m) = none)) :
    PMod8Extends.pilcrowref06_Read.f (t.size + 16) t = some (out, if m < t.size then 3 else if ccut fin = true then 4 else 0, (m : Int)) := by
  rw [PMod8Extends.pilcrowref06_Read.f]
  exact read_loop t hz st0 m fin out hm hrun hend t.size 0 0 _ st0 [] (by omega) (by omega) (by omega) rfl (by simpa using sim0) (by simp) (by omega)
end Go.Proofs.Ytolhfpboieimcaa
