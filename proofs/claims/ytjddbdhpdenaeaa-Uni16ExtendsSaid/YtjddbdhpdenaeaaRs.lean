/- UTF-16: Rest. -/
import Derived.Test.YtjddbdhpdenaeaaBk
import Derived.Test.YtjddbdhpdenaeaaMs
namespace Go.Proofs.Ytjddbdhpdenaeaa
open Go.RowKit Go.Proofs.YtjddbdhpdenaeaaW.PrintWords Go.Proofs.YtjddbdhpdenaeaaW.PrintMore
set_option linter.unusedVariables false
set_option linter.unusedSimpArgs false
/-- What is read parts into whole scalars and a beginning. -/
theorem fit_gen {big : Bool} : ∀ (l : List Int) {s : CS} {q : List Int} {s' : CS} {os : List Int}, Sim big s q → (q = [] ∨ begF big q = (true, false)) → (∀ x ∈ q ++ l, 0 ≤ x ∧ x ≤ 255) → run cnx s l = some (s', os) → ∃ q', Sim big s' q' ∧ (q' = [] ∨ begF big q' = (true, false)) ∧ os.flatMap (rby big) ++ q' = q ++ l ∧ ∀ c ∈ os, 0 ≤ c ∧ isB c = true
  | [], s, q, s', os, hs, hf, hx, hr => by
    simp only [run, Option.some.injEq, Prod.mk.injEq] at hr
    obtain ⟨rfl, rfl⟩ := hr
    exact ⟨q, hs, hf, by simp, by simp⟩
  | b :: l, s, q, s', os, hs, hf, hx, hr => by
    have hb := hx b (by simp)
    rcases sim_step hs hb.1 hb.2 with ⟨_, g1⟩ | ⟨f1, f2, s1, g2, g3⟩ | ⟨_, g1, s1, g2, g3⟩
    · simp [run, g1] at hr
    · simp only [run, g2, Option.bind_some] at hr
      cases hq : run cnx s1 l with
      | none => simp [hq] at hr
      | some p =>
        simp only [hq, Option.map_some, Option.toList, List.nil_append, Option.some.injEq, Prod.mk.injEq] at hr
        obtain ⟨rfl, rfl⟩ := hr
        obtain ⟨q', i1, i0, i2, i3⟩ := fit_gen l g3 (.inr (Prod.ext f1 f2)) (by simpa using hx) hq
        exact ⟨q', i1, i0, by rw [i2]; simp, i3⟩
    · simp only [run, g2, Option.bind_some] at hr
      cases hq : run cnx s1 l with
      | none => simp [hq] at hr
      | some p =>
        simp only [hq, Option.map_some, Option.toList, Option.some.injEq, Prod.mk.injEq] at hr
        obtain ⟨rfl, rfl⟩ := hr
        obtain ⟨q', i1, i0, i2, i3⟩ := fit_gen l g3 (.inl rfl) (fun x h => hx x (by simp at h; simp [h])) hq
        obtain ⟨v1, v2, v3⟩ := val_law hs (b := b) (fun x h => hx x (by simp only [List.mem_append, List.mem_cons, List.not_mem_nil, or_false] at h ⊢; rcases h with h | h <;> simp [h])) g1
        refine ⟨q', i1, i0, ?_, ?_⟩
        · rw [List.cons_append, List.nil_append, List.flatMap_cons, List.append_assoc, i2, v1]
          simp
        · intro c hc
          rcases List.mem_cons.1 hc with rfl | hc
          · exact ⟨v2, v3⟩
          · exact i3 c hc
/-- The texts that Rest tries. -/
abbrev mores : List ByteArray := [(⟨#[]⟩ : ByteArray), (⟨#[0]⟩ : ByteArray), (⟨#[220]⟩ : ByteArray), (⟨#[0, 220]⟩ : ByteArray), (⟨#[220, 0]⟩ : ByteArray), (⟨#[0, 220, 0]⟩ : ByteArray), (⟨#[0, 0, 220]⟩ : ByteArray)]
theorem mores_size (j : Nat) : (rdOf ByteArray.empty mores (j : Int)).size ≤ 3 := by
  match j with
  | 0 => decide
  | 1 => decide
  | 2 => decide
  | 3 => decide
  | 4 => decide
  | 5 => decide
  | 6 => decide
  | k + 7 => show (mores.getD (k + 7) ByteArray.empty).size ≤ 3; simp [mores]
/-- One of them goes on to a scalar. -/
theorem more_ex {big : Bool} {s : CS} {q : List Int} (h : Sim big s q) (hf : begF big q = (true, false)) (hx : ∀ x ∈ q, 0 ≤ x ∧ x ≤ 255) : ∃ j, j < 7 ∧ ∃ c, 0 ≤ c ∧ isB c = true ∧ rby big c = q ++ bytesOf (rdOf ByteArray.empty mores ((j : Nat) : Int)) := by
  match q, h, hf, hx with
  | [], _, hf, _ => simp [begF] at hf
  | [x], _, hf, hx =>
    have h1 := hx x (by simp)
    cases big with
    | true =>
      simp only [begF, Bool.true_and, Prod.mk.injEq, Bool.not_eq_true', isLow, Bool.and_eq_false_iff, decide_eq_false_iff_not, and_true] at hf
      by_cases hh : 216 ≤ x ∧ x ≤ 219
      · refine ⟨5, by omega, 65536 + (x * 256 - 55296) * 1024, by omega, ?_, ?_⟩
        · simp only [isB, Bool.and_eq_true, Bool.or_eq_true, decide_eq_true_eq]; omega
        · show rby true _ = [x, 0, 220, 0]
          unfold rby
          rw [if_neg (by omega)]
          simp only [ubyF, if_true, List.cons_append, List.nil_append, List.cons.injEq, and_true]
          omega
      · refine ⟨1, by omega, x * 256, by omega, ?_, ?_⟩
        · simp only [isB, Bool.and_eq_true, Bool.or_eq_true, decide_eq_true_eq]; omega
        · show rby true _ = [x, 0]
          unfold rby
          rw [if_pos (by omega)]
          simp only [ubyF, if_true, List.cons.injEq, and_true]
          omega
    | false =>
      refine ⟨1, by omega, x, by omega, ?_, ?_⟩
      · simp only [isB, Bool.and_eq_true, Bool.or_eq_true, decide_eq_true_eq]; omega
      · show rby false _ = [x, 0]
        unfold rby
        rw [if_pos (by omega)]
        simp only [ubyF, Bool.false_eq_true, if_false, List.cons.injEq, and_true]
        omega
  | [x, y], h, hf, hx =>
    have h1 := hx x (by simp)
    have h2 := hx y (by simp)
    obtain ⟨_, _, hu, hu0, hu1⟩ : s.big = big ∧ s.half = false ∧ s.up = unitB big x y ∧ 55296 ≤ s.up ∧ s.up < 56320 := h
    rw [hu] at hu0 hu1
    cases big with
    | true =>
      simp only [unitB, if_true] at hu0 hu1
      refine ⟨4, by omega, 65536 + (x * 256 + y - 55296) * 1024, by omega, ?_, ?_⟩
      · simp only [isB, Bool.and_eq_true, Bool.or_eq_true, decide_eq_true_eq]; omega
      · show rby true _ = [x, y, 220, 0]
        unfold rby
        rw [if_neg (by omega)]
        simp only [ubyF, if_true, List.cons_append, List.nil_append, List.cons.injEq, and_true]
        omega
    | false =>
      simp only [unitB, Bool.false_eq_true, if_false] at hu0 hu1
      refine ⟨3, by omega, 65536 + (y * 256 + x - 55296) * 1024, by omega, ?_, ?_⟩
      · simp only [isB, Bool.and_eq_true, Bool.or_eq_true, decide_eq_true_eq]; omega
      · show rby false _ = [x, y, 0, 220]
        unfold rby
        rw [if_neg (by omega)]
        simp only [ubyF, Bool.false_eq_true, if_false, List.cons_append, List.nil_append, List.cons.injEq, and_true]
        omega
  | [x, y, z], h, hf, hx =>
    have h1 := hx x (by simp)
    have h2 := hx y (by simp)
    have h3 := hx z (by simp)
    obtain ⟨_, _, _, hu, hu0, hu1⟩ : s.big = big ∧ s.half = true ∧ s.b0 = z ∧ s.up = unitB big x y ∧ 55296 ≤ s.up ∧ s.up < 56320 := h
    rw [hu] at hu0 hu1
    cases big with
    | true =>
      simp only [unitB, if_true] at hu0 hu1
      simp only [begF, Bool.not_true, Bool.false_or, Prod.mk.injEq, isLow, Bool.and_eq_true, decide_eq_true_eq, and_true] at hf
      refine ⟨1, by omega, 65536 + (x * 256 + y - 55296) * 1024 + (z * 256 - 56320), by omega, ?_, ?_⟩
      · simp only [isB, Bool.and_eq_true, Bool.or_eq_true, decide_eq_true_eq]; omega
      · show rby true _ = [x, y, z, 0]
        unfold rby
        rw [if_neg (by omega)]
        simp only [ubyF, if_true, List.cons_append, List.nil_append, List.cons.injEq, and_true]
        omega
    | false =>
      simp only [unitB, Bool.false_eq_true, if_false] at hu0 hu1
      refine ⟨2, by omega, 65536 + (y * 256 + x - 55296) * 1024 + z, by omega, ?_, ?_⟩
      · simp only [isB, Bool.and_eq_true, Bool.or_eq_true, decide_eq_true_eq]; omega
      · show rby false _ = [x, y, z, 220]
        unfold rby
        rw [if_neg (by omega)]
        simp only [ubyF, Bool.false_eq_true, if_false, List.cons_append, List.nil_append, List.cons.injEq, and_true]
        omega
theorem mono_le {α : Type} {f : Nat → Option α} (h : ∀ k, LeO (f k) (f (k + 1))) {a b : Nat} (hab : a ≤ b) {r : α} (hr : f a = some r) : f b = some r := by
  induction hab with
  | refl => exact hr
  | step _ ih => exact h _ _ ih
/-- A text is read to its end, or to a byte that doesn't fit. -/
theorem run_stop (s0 : CS) (t : ByteArray) : ∃ m fin out, m ≤ t.size ∧ run cnx s0 ((bytesOf t).take m) = some (fin, out) ∧ (m = t.size ∨ (m < t.size ∧ cnx fin (bt t m) = none)) := by
  have key : ∀ n, n ≤ t.size → (∃ fin out, run cnx s0 ((bytesOf t).take n) = some (fin, out)) ∨ ∃ m fin out, m < t.size ∧ run cnx s0 ((bytesOf t).take m) = some (fin, out) ∧ cnx fin (bt t m) = none := by
    intro n
    induction n with
    | zero => exact fun _ => .inl ⟨s0, [], rfl⟩
    | succ n ih =>
      intro hn
      rcases ih (by omega) with ⟨fin, out, h1⟩ | h1
      · cases hc : cnx fin (bt t n) with
        | none => exact .inr ⟨n, fin, out, by omega, h1, hc⟩
        | some p => exact .inl ⟨p.1, out ++ p.2.toList, by rw [take_bt t n (by omega), run_snoc, h1, Option.bind_some, hc]; rfl⟩
      · exact .inr h1
  rcases key t.size (Nat.le_refl _) with ⟨fin, out, h⟩ | ⟨m, fin, out, h1, h2, h3⟩
  · exact ⟨t.size, fin, out, Nat.le_refl _, h, .inl rfl⟩
  · exact ⟨m, fin, out, by omega, h2, .inr ⟨h1, h3⟩⟩
/-- The first of them that goes on is found. -/
theorem rest_loop (q : ByteArray) (big : Bool) (hz : q.size ≤ 100000) (j : Nat) (hj : j < 7) (c : Int) (hc0 : 0 ≤ c) (hc : isB c = true) (he : rby big c = bytesOf q ++ bytesOf (rdOf ByteArray.empty mores (j : Int))) (d : Nat) :
    ∀ (i fuel : Nat), i + d = j → q.size + 6 + d ≤ fuel → ∃ n, n < 7 ∧ PUni16Extends.pilcrowref04_Rest.l1 fuel big q 0 mores 7 (i : Int) = some (rdOf ByteArray.empty mores ((n : Nat) : Int)) ∧ ∃ s' os, run cnx (st0 big) (bytesOf q ++ bytesOf (rdOf ByteArray.empty mores ((n : Nat) : Int))) = some (s', os) ∧ ccut s' = false := by
  have read_m : ∀ (i fuel : Nat), q.size + 5 ≤ fuel → ∃ m fin out, m ≤ (q ++ rdOf ByteArray.empty mores (i : Int)).size ∧ run cnx (st0 big) ((bytesOf (q ++ rdOf ByteArray.empty mores (i : Int))).take m) = some (fin, out) ∧ (m = (q ++ rdOf ByteArray.empty mores (i : Int)).size ∨ (m < (q ++ rdOf ByteArray.empty mores (i : Int)).size ∧ cnx fin (bt (q ++ rdOf ByteArray.empty mores (i : Int)) m) = none)) ∧ PUni16Reads.pilcrowref04_Read.f fuel (q ++ rdOf ByteArray.empty mores (i : Int)) big = some (out, if m < (q ++ rdOf ByteArray.empty mores (i : Int)).size then 3 else if ccut fin = true then 4 else 0, (m : Int)) := by
    intro i fuel hf
    have hs := mores_size i
    obtain ⟨m, fin, out, h1, h2, h3⟩ := run_stop (st0 big) (q ++ rdOf ByteArray.empty mores (i : Int))
    have hsz : (q ++ rdOf ByteArray.empty mores (i : Int)).size ≤ q.size + 3 := by rw [ByteArray.size_append]; omega
    exact ⟨m, fin, out, h1, h2, h3, mono_le (f := fun k => PUni16Reads.pilcrowref04_Read.f k (q ++ rdOf ByteArray.empty mores (i : Int)) big) (PUni16Reads.pilcrowref04_Read.mono _ _) (by omega) (readF_at _ big (by omega) (st0 big) ⟨rfl, rfl, rfl⟩ m fin out h1 h2 h3)⟩
  have one : ∀ (i fuel : Nat), i < 7 → q.size + 6 ≤ fuel + 1 → (∃ s' os, PUni16Extends.pilcrowref04_Rest.l1 (fuel + 1) big q 0 mores 7 (i : Int) = some (rdOf ByteArray.empty mores ((i : Nat) : Int)) ∧ run cnx (st0 big) (bytesOf q ++ bytesOf (rdOf ByteArray.empty mores ((i : Nat) : Int))) = some (s', os) ∧ ccut s' = false) ∨ (PUni16Extends.pilcrowref04_Rest.l1 (fuel + 1) big q 0 mores 7 (i : Int) = PUni16Extends.pilcrowref04_Rest.l1 fuel big q 0 mores 7 ((i + 1 : Nat) : Int) ∧ ¬ ∃ s' os, run cnx (st0 big) (bytesOf q ++ bytesOf (rdOf ByteArray.empty mores ((i : Nat) : Int))) = some (s', os) ∧ ccut s' = false) := by
    intro i fuel hi hf
    obtain ⟨m, fin, out, h1, h2, h3, h4⟩ := read_m i fuel (by omega)
    have hs := mores_size i
    have hlen : (q ++ rdOf ByteArray.empty mores (i : Int)).size = (bytesOf q ++ bytesOf (rdOf ByteArray.empty mores (i : Int))).length := by rw [← bytesOf_append, bytesOf_length]
    have hiw : wrap64 ((i : Int) + 1) = ((i + 1 : Nat) : Int) := by rw [w64 (by omega) (by omega)]; omega
    have hstep : PUni16Extends.pilcrowref04_Rest.l1 (fuel + 1) big q 0 mores 7 (i : Int) = if (if m < (q ++ rdOf ByteArray.empty mores (i : Int)).size then (3 : Int) else if ccut fin = true then 4 else 0) = 0 then some (rdOf ByteArray.empty mores (i : Int)) else PUni16Extends.pilcrowref04_Rest.l1 fuel big q 0 mores 7 ((i + 1 : Nat) : Int) := by
      rw [PUni16Extends.pilcrowref04_Rest.l1, if_pos (by omega), if_pos (by omega), if_pos (by show (i : Int) < ((7 : Nat) : Int); omega), if_pos (by omega), h4, Option.bind_some, hiw]
    rw [hstep]
    by_cases hm : m < (q ++ rdOf ByteArray.empty mores (i : Int)).size
    · rw [if_pos hm, if_neg (by decide)]
      refine .inr ⟨rfl, ?_⟩
      rintro ⟨s', os, k1, _⟩
      rcases h3 with h3 | ⟨_, h3⟩
      · omega
      · have hn : run cnx (st0 big) ((bytesOf (q ++ rdOf ByteArray.empty mores (i : Int))).take (m + 1)) = none := by rw [take_bt _ m hm, run_snoc, h2, Option.bind_some, h3]; rfl
        have h5 := run_none (m := (q ++ rdOf ByteArray.empty mores (i : Int)).size) (by omega) hn
        rw [List.take_of_length_le (by rw [bytesOf_length]; omega), bytesOf_append, k1] at h5
        cases h5
    · rw [if_neg hm]
      obtain rfl : m = (q ++ rdOf ByteArray.empty mores (i : Int)).size := by omega
      rw [List.take_of_length_le (by rw [bytesOf_length]; omega), bytesOf_append] at h2
      cases hcc : ccut fin with
      | true =>
        refine .inr ⟨by simp, ?_⟩
        rintro ⟨s', os, k1, k2⟩
        rw [h2] at k1
        simp only [Option.some.injEq, Prod.mk.injEq] at k1
        rw [k1.1] at hcc
        rw [hcc] at k2
        cases k2
      | false => exact .inl ⟨fin, out, by simp, h2, hcc⟩
  have good : ∃ s' os, run cnx (st0 big) (bytesOf q ++ bytesOf (rdOf ByteArray.empty mores ((j : Nat) : Int))) = some (s', os) ∧ ccut s' = false := by
    obtain ⟨s', k1, k2⟩ := run_rby (big := big) (s := st0 big) ⟨rfl, rfl, rfl⟩ c hc0 hc
    rw [he] at k1
    exact ⟨s', _, k1, sim_free k2⟩
  induction d with
  | zero =>
    intro i fuel hi hf
    obtain ⟨fuel, rfl⟩ : ∃ q, fuel = q + 1 := ⟨fuel - 1, by omega⟩
    obtain rfl : i = j := by omega
    rcases one i fuel hj (by omega) with ⟨s', os, h1, h2, h3⟩ | ⟨_, h2⟩
    · exact ⟨i, hj, h1, s', os, h2, h3⟩
    · exact absurd good h2
  | succ d ih =>
    intro i fuel hi hf
    obtain ⟨fuel, rfl⟩ : ∃ q, fuel = q + 1 := ⟨fuel - 1, by omega⟩
    rcases one i fuel (by omega) (by omega) with ⟨s', os, h1, h2, h3⟩ | ⟨h1, _⟩
    · exact ⟨i, by omega, h1, s', os, h2, h3⟩
    · rw [h1]
      exact ih (i + 1) fuel (by omega) (by omega)
theorem extract_from' (p : ByteArray) (n : Nat) (h : n ≤ p.size) : bytesOf (p.extract n p.size) = (bytesOf p).drop n ∧ (p.extract n p.size).size = p.size - n := by
  obtain ⟨h1, h2⟩ := bytes_mid p n p.size h (Nat.le_refl _)
  rw [List.take_of_length_le (by rw [bytesOf_length]; omega)] at h1
  exact ⟨h1, h2⟩
theorem bt_emp : bytesOf (⟨#[]⟩ : ByteArray) = [] := rfl
theorem rest_any (p : ByteArray) (big : Bool) (hz : p.size ≤ 100000) (s : CS) (os : List Int) (hrun : run cnx (st0 big) (bytesOf p) = some (s, os)) (w : World) :
    Calls Try.prog 23 #[.string p, .bool big] w fun en w' => ∃ u os2 s2, en = .returned (.string u) ∧ u.size ≤ 4 ∧ run cnx (st0 big) (bytesOf p ++ bytesOf u) = some (s2, os ++ os2) ∧ ccut s2 = false ∧ Below w.heap.size w w' := by
  obtain ⟨q, hq1, hq2, hq3, hq4⟩ := fit_gen (big := big) (bytesOf p) (s := st0 big) (q := []) ⟨rfl, rfl, rfl⟩ (.inl rfl) (by simpa using bytesOf_range p) hrun
  rw [List.nil_append] at hq3
  have hls : (os.flatMap (rby big)).length + q.length = p.size := by rw [← bytesOf_length p, ← hq3, List.length_append]
  have hol : os.length ≤ p.size := by
    have : ∀ l : List Int, (∀ c ∈ l, 0 ≤ c ∧ isB c = true) → l.length ≤ (l.flatMap (rby big)).length := by
      intro l
      induction l with
      | nil => intro _; simp
      | cons c l ih =>
        intro h
        have h1 := ih (fun c hc => h c (by simp [hc]))
        have h2 : 1 ≤ (rby big c).length := by unfold rby; split <;> simp [uby_len]
        rw [List.flatMap_cons, List.length_append, List.length_cons]
        omega
    have := this os hq4
    omega
  -- the fuel
  obtain ⟨K, hK⟩ : ∃ K, K = 4 * p.size + 100 := ⟨_, rfl⟩
  have hrd : PUni16Reads.pilcrowref04_Read.f K p big = some (os, if p.size < p.size then 3 else if ccut s = true then 4 else 0, (p.size : Int)) := mono_le (f := fun k => PUni16Reads.pilcrowref04_Read.f k p big) (PUni16Reads.pilcrowref04_Read.mono _ _) (by omega) (readF_at p big (by omega) (st0 big) ⟨rfl, rfl, rfl⟩ p.size s os (Nat.le_refl _) (by rw [List.take_of_length_le (by rw [bytesOf_length]; omega)]; exact hrun) (.inl rfl))
  have hby : PUni16Writes.pilcrowref04_Bytes.f K os big = some (strOfNums (os.flatMap (rby big))) := by
    have h1 := bytes_loop os big (by omega) (fun k => by
      rcases Nat.lt_or_ge k os.length with h | h
      · have h2 := hq4 (os.getD k 0) (by rw [List.getD_eq_getElem?_getD, List.getElem?_eq_getElem h]; exact List.getElem_mem _)
        have := isB_range h2.2
        omega
      · rw [List.getD_eq_getElem?_getD, List.getElem?_eq_none h]; simp) (fun c hc => (hq4 c hc).2) _ 0 (4 * os.length + 1) [] rfl (Nat.zero_le _) (by omega) (by simp)
    rw [List.nil_append, List.drop_zero] at h1
    exact mono_le (f := fun k => PUni16Writes.pilcrowref04_Bytes.f k os big) (PUni16Writes.pilcrowref04_Bytes.mono _ _) (by omega) h1
  have hss : (strOfNums (os.flatMap (rby big))).size = (os.flatMap (rby big)).length := by
    rw [← bytesOf_length, bytesOf_ofNums]
    intro x hx
    obtain ⟨c, hc, hx2⟩ := List.mem_flatMap.1 hx
    exact rby_range big c (hq4 c hc).1 (hq4 c hc).2 x hx2
  generalize hB : strOfNums (os.flatMap (rby big)) = B at *
  obtain ⟨x1, x2⟩ := extract_from' p B.size (by omega)
  have hqb : bytesOf (p.extract B.size p.size) = q := by rw [x1, ← hq3, hss, List.drop_left]
  have hq9 : ∀ x ∈ q, 0 ≤ x ∧ x ≤ 255 := fun x hx => bytesOf_range p x (by rw [← hq3]; simp [hx])
  have hf : ∃ u, PUni16Extends.pilcrowref04_Rest.f K p big = some u ∧ u.size ≤ 4 ∧ ∃ s2 os2, run cnx (st0 big) (q ++ bytesOf u) = some (s2, os2) ∧ ccut s2 = false := by
    rw [PUni16Extends.pilcrowref04_Rest.f, hrd, Option.bind_some, hby, Option.bind_some, if_pos (by omega), if_pos (by omega)]
    rcases hq2 with rfl | hq2
    · rw [if_pos (by show (((p.extract B.size p.size).size : Nat) : Int) = 0; rw [x2]; rw [List.length_nil] at hls; omega)]
      exact ⟨_, rfl, by decide, st0 big, [], by rw [bt_emp]; rfl, rfl⟩
    · obtain ⟨j, hj, c, hc0, hc, he⟩ := more_ex hq1 hq2 hq9
      have hqn : q ≠ [] := by rintro rfl; simp [begF] at hq2
      have hql : 0 < q.length := List.length_pos_iff.2 hqn
      rw [if_neg (by show ¬ (((p.extract B.size p.size).size : Nat) : Int) = 0; rw [x2]; omega)]
      obtain ⟨K2, rfl⟩ : ∃ K2, K = K2 + 1 := ⟨K - 1, by omega⟩
      rw [PUni16Extends.pilcrowref04_Rest.l0, if_pos (by decide), Option.bind_some]
      obtain ⟨n, hn, h1, s2, os2, h2, h3⟩ := rest_loop (p.extract B.size p.size) big (by omega) j hj c hc0 hc (by rw [hqb]; exact he) j 0 K2 (by omega) (by omega)
      rw [hqb] at h2
      exact ⟨_, h1, Nat.le_trans (mores_size n) (by decide), s2, os2, h2, h3⟩
  obtain ⟨u, hu, hu4, s2, os2, hr2, hcc⟩ := hf
  refine (PUni16Extends.pilcrowref04_Rest.calls K p big u w hu).mono ?_
  rintro en w' ⟨rfl, hb⟩
  obtain ⟨o1, o2⟩ := one_law big _ s2 os2 (fun x hx => by
    rcases List.mem_append.1 hx with h | h
    · exact hq9 x h
    · exact bytesOf_range u x h) hr2 hcc
  obtain ⟨s3, b1, b2⟩ := back_law (big := big) (os ++ os2) (s := st0 big) ⟨rfl, rfl, rfl⟩ (fun c hc => by
    rcases List.mem_append.1 hc with h | h
    · exact hq4 c h
    · exact o2 c h)
  rw [List.flatMap_append, o1, ← List.append_assoc, hq3] at b1
  exact ⟨u, os2, s3, rfl, hu4, b1, sim_free b2, hb⟩
end Go.Proofs.Ytjddbdhpdenaeaa
