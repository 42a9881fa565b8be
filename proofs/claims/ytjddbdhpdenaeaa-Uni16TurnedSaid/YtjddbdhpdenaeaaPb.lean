/- UTF-16: what the reference's Begins answers; its Read is the machine's run. -/
import Derived.Test.YtjddbdhpdenaeaaPs
import Derived.Test.YtjddbdhpdenaeaaRun
import Derived.Test.YtjddbdhpdenaeaaPUni16Readsx1
import Derived.Test.YtjddbdhpdenaeaaMr
namespace Go.Proofs.Ytjddbdhpdenaeaa
open Go.RowKit Go.Proofs.YtjddbdhpdenaeaaW.PrintWords Go.Proofs.YtjddbdhpdenaeaaW.PrintMore
set_option linter.unusedVariables false
set_option linter.unusedSimpArgs false
theorem w64' {x : Int} (h1 : -9223372036854775808 ≤ x) (h2 : x < 9223372036854775808) : wrap64 x = x := by unfold wrap64; omega
theorem bytesOf_range (t : ByteArray) : ∀ x ∈ bytesOf t, 0 ≤ x ∧ x ≤ 255 := by
  intro x hx
  simp only [bytesOf, List.mem_map] at hx
  obtain ⟨b, _, rfl⟩ := hx
  have := b.toNat_lt
  omega
theorem bytesOf_bt (q : ByteArray) : bytesOf q = (List.range q.size).map fun (i : Nat) => bt q i := by
  apply List.ext_getElem
  · rw [bytesOf_length]; simp
  · intro i h1 h2
    have := rd_bytesOf q (i : Int)
    rw [rd, Int.toNat_natCast, List.getD_eq_getElem?_getD, List.getElem?_eq_getElem h1] at this
    simpa using this
theorem getD_bt (t : ByteArray) (k : Nat) : (bytesOf t).getD k 0 = bt t k := by
  have := rd_bytesOf t (k : Int)
  rw [rd, Int.toNat_natCast] at this
  exact this
theorem bytes_mid (t : ByteArray) (i j : Nat) (h : i ≤ j) (hj : j ≤ t.size) : bytesOf (t.extract i j) = ((bytesOf t).take j).drop i ∧ (t.extract i j).size = j - i := by
  constructor
  · rw [bytesOf, bytesOf, ByteArray.data_extract, Array.toList_extract, List.extract_eq_take_drop, ← List.map_take, ← List.map_drop, List.drop_take]
  · rw [ByteArray.size_extract]; omega
theorem run_none {s : CS} {L : List Int} {k m : Nat} (hk : k ≤ m) (h : run cnx s (L.take k) = none) : run cnx s (L.take m) = none := by
  obtain ⟨d, rfl⟩ : ∃ d, m = k + d := ⟨m - k, by omega⟩
  rw [List.take_add, run_append, h]; rfl
theorem lower_at (u : Int) (h0 : 0 ≤ u) (h1 : u ≤ 65535) : PUni16Reads.pilcrowref04_lower.f u = some (isLow u) := by
  rw [PUni16Reads.pilcrowref04_lower.f, Int.tdiv_eq_ediv_of_nonneg h0]
  congr 1
  rw [Bool.eq_iff_iff]
  simp only [beq_iff_eq, isLow, Bool.and_eq_true, decide_eq_true_eq]
  omega
theorem upper_at (u : Int) (h0 : 0 ≤ u) (h1 : u ≤ 65535) : PUni16Reads.pilcrowref04_upper.f u = some (isHigh u) := by
  rw [PUni16Reads.pilcrowref04_upper.f, Int.tdiv_eq_ediv_of_nonneg h0]
  congr 1
  rw [Bool.eq_iff_iff]
  simp only [beq_iff_eq, isHigh, Bool.and_eq_true, decide_eq_true_eq]
  omega
theorem unit_at (q : ByteArray) (big : Bool) (h : 2 ≤ q.size) : PUni16Reads.pilcrowref04_unit.f q big = some (unitB big (bt q 0) (bt q 1)) := by
  have h0 := bt_range q 0
  have h1 := bt_range q 1
  unfold PUni16Reads.pilcrowref04_unit.f unitB
  cases big
  · rw [if_neg (by decide), if_pos (by omega), if_pos (by omega)]
    simp only [Bool.false_eq_true, if_false]
    congr 1
    omega
  · rw [if_pos rfl, if_pos (by omega), if_pos (by omega)]
    simp only [if_true]
    congr 1
    omega
theorem unit_in (q : ByteArray) (big : Bool) (i j : Int) : 0 ≤ unitB big (bt q i) (bt q j) ∧ unitB big (bt q i) (bt q j) ≤ 65535 :=
  unit_range big _ _ (bt_range q i).1 (bt_range q i).2 (bt_range q j).1 (bt_range q j).2
/-- Begins, as the machine knows it. -/
theorem begins_at (q : ByteArray) (big : Bool) (h1 : 1 ≤ q.size) (h4 : q.size ≤ 4) : PUni16Reads.pilcrowref04_Begins.f q big = some (begF big (bytesOf q)) := by
  have hb := bytesOf_bt q
  obtain hn | hn | hn | hn : q.size = 1 ∨ q.size = 2 ∨ q.size = 3 ∨ q.size = 4 := by omega
  · rw [hn] at hb
    have e : bytesOf q = [bt q 0] := hb
    have h0 := bt_range q 0
    rw [PUni16Reads.pilcrowref04_Begins.f, e, if_pos (by omega)]
    cases big
    · rfl
    · rw [if_pos rfl, if_pos (by omega), show bt q 0 % 4294967296 * 256 % 4294967296 = bt q 0 * 256 by omega, lower_at _ (by omega) (by omega)]
      simp [begF]
  · rw [hn] at hb
    have e : bytesOf q = [bt q 0, bt q 1] := hb
    have hu := unit_in q big 0 1
    rw [PUni16Reads.pilcrowref04_Begins.f, e, if_neg (by omega), if_pos (by omega), unit_at q big (by omega), Option.bind_some, lower_at _ hu.1 hu.2, Option.bind_some, Option.bind_some, upper_at _ hu.1 hu.2]
    cases hl : isLow (unitB big (bt q 0) (bt q 1)) <;> simp [begF, hl]
  · rw [hn] at hb
    have e : bytesOf q = [bt q 0, bt q 1, bt q 2] := hb
    have h2 := bt_range q 2
    rw [PUni16Reads.pilcrowref04_Begins.f, e, if_neg (by omega), if_neg (by omega), if_pos (by omega)]
    cases big
    · rfl
    · rw [if_pos rfl, if_pos (by omega), show bt q 2 % 4294967296 * 256 % 4294967296 = bt q 2 * 256 by omega, lower_at _ (by omega) (by omega)]
      simp [begF]
  · rw [hn] at hb
    have e : bytesOf q = [bt q 0, bt q 1, bt q 2, bt q 3] := hb
    obtain ⟨hm, hms⟩ := bytes_mid q 2 q.size (by omega) (Nat.le_refl _)
    have e2 : bytesOf (q.extract 2 q.size) = [bt q 2, bt q 3] := by
      rw [hm, e, hn]; rfl
    have z0 : bt (q.extract 2 q.size) 0 = bt q 2 := by
      have := getD_bt (q.extract 2 q.size) 0
      rw [e2] at this
      exact this.symm
    have z1 : bt (q.extract 2 q.size) 1 = bt q 3 := by
      have := getD_bt (q.extract 2 q.size) 1
      rw [e2] at this
      exact this.symm
    have hu := unit_in q big 2 3
    rw [PUni16Reads.pilcrowref04_Begins.f, e, if_neg (by omega), if_neg (by omega), if_neg (by omega), if_pos (by omega), unit_at _ big (by omega), z0, z1, Option.bind_some, lower_at _ hu.1 hu.2, Option.bind_some, Option.bind_some, lower_at _ hu.1 hu.2, Option.bind_some]
    rfl
theorem wrap64_nat' (n : Nat) (h : n ≤ 1000000) : wrap64 ((n : Int) + 1) = ((n + 1 : Nat) : Int) := by rw [w64' (by omega) (by omega)]; omega
/-- The bytes since the last scalar are at most three. -/
theorem sim_len {big : Bool} {s : CS} {q : List Int} (h : Sim big s q) : q.length ≤ 3 := by
  match q, h with
  | [], _ => simp
  | [x], _ => simp
  | [x, y], _ => simp
  | [x, y, z], _ => simp
theorem val_at (q : ByteArray) (big : Bool) (h : q.size = 2 ∨ q.size = 4) : valF big (bytesOf q) = if q.size = 4 then pairB (unitB big (bt q 0) (bt q 1)) (unitB big (bt q 2) (bt q 3)) else unitB big (bt q 0) (bt q 1) := by
  have hb := bytesOf_bt q
  rcases h with h | h
  · rw [h] at hb
    have e : bytesOf q = [bt q 0, bt q 1] := hb
    rw [e, if_neg (by omega)]; rfl
  · rw [h] at hb
    have e : bytesOf q = [bt q 0, bt q 1, bt q 2, bt q 3] := hb
    rw [e, if_pos h]; rfl
theorem whole_len {big : Bool} {l : List Int} (h : (begF big l).2 = true) : l.length = 2 ∨ l.length = 4 := by
  match l, h with
  | [x, y], _ => exact .inl rfl
  | [x, y, z, v], _ => exact .inr rfl
/-- One round of the reference's Read. -/
theorem read_round (t : ByteArray) (big : Bool) (hz : t.size ≤ 1000000) (k fr fuel : Nat) (os : List Int) (hk : k < t.size) (hf : fr ≤ k) (hfl : k - fr ≤ 3) (hos : os.length ≤ 1000000) (hup : (t.extract fr (k + 1)).size = 4 → 55296 ≤ unitB big (bt (t.extract fr (k + 1)) 0) (bt (t.extract fr (k + 1)) 1)) :
    PUni16Reads.pilcrowref04_Read.l0 (fuel + 1) t big os (fr : Int) (k : Int) = if (begF big (bytesOf (t.extract fr (k + 1)))).1 = true then
      (if (begF big (bytesOf (t.extract fr (k + 1)))).2 = true then PUni16Reads.pilcrowref04_Read.l0 fuel t big (os ++ [valF big (bytesOf (t.extract fr (k + 1)))]) ((k + 1 : Nat) : Int) ((k + 1 : Nat) : Int) else PUni16Reads.pilcrowref04_Read.l0 fuel t big os (fr : Int) ((k + 1 : Nat) : Int)) else some (os, 3, (k : Int)) := by
  obtain ⟨_, hqs⟩ := bytes_mid t fr (k + 1) (by omega) (by omega)
  rw [PUni16Reads.pilcrowref04_Read.l0, if_pos (by omega), if_pos (by omega), wrap64_nat' k (by omega), if_pos (by omega), if_pos (by omega), Int.toNat_natCast, Int.toNat_natCast]
  generalize hq : t.extract fr (k + 1) = q at *
  rw [begins_at q big (by omega) (by omega), Option.bind_some]
  by_cases h1 : (begF big (bytesOf q)).1 = true
  · rw [if_pos h1, if_pos h1]
    by_cases h2 : (begF big (bytesOf q)).2 = true
    · rw [if_pos h2, if_pos h2]
      have hl := whole_len h2
      rw [bytesOf_length] at hl
      rw [unit_at q big (by omega), Option.bind_some, val_at q big hl]
      by_cases h4 : q.size = 4
      · have hb := bytesOf_bt q
        rw [h4] at hb
        have e : bytesOf q = [bt q 0, bt q 1, bt q 2, bt q 3] := hb
        obtain ⟨hm, hms⟩ := bytes_mid q 2 q.size (by omega) (Nat.le_refl _)
        have e2 : bytesOf (q.extract 2 q.size) = [bt q 2, bt q 3] := by
          rw [hm, e, h4]; rfl
        have z0 : bt (q.extract 2 q.size) 0 = bt q 2 := by
          have := getD_bt (q.extract 2 q.size) 0
          rw [e2] at this
          exact this.symm
        have z1 : bt (q.extract 2 q.size) 1 = bt q 3 := by
          have := getD_bt (q.extract 2 q.size) 1
          rw [e2] at this
          exact this.symm
        have hu := unit_in q big 2 3
        have hu1 := unit_in q big 0 1
        rw [if_pos (by omega), if_pos (by omega), unit_at _ big (by omega), z0, z1, Option.bind_some, if_pos (by omega), if_pos h4]
        have hlow : 56320 ≤ unitB big (bt q 2) (bt q 3) := by
          rw [e] at h2
          have h3 : isLow (unitB big (bt q 2) (bt q 3)) = true := h2
          simp only [isLow, Bool.and_eq_true, decide_eq_true_eq] at h3
          exact h3.1
        have hhi := hup h4
        have hval : ((65536 + (unitB big (bt q 0) (bt q 1) - 55296) % 4294967296 * 1024 % 4294967296) % 4294967296 + unitB big (bt q 2) (bt q 3)) % 4294967296 - 56320 = pairB (unitB big (bt q 0) (bt q 1)) (unitB big (bt q 2) (bt q 3)) := by unfold pairB; omega
        have hval2 : pairB (unitB big (bt q 0) (bt q 1)) (unitB big (bt q 2) (bt q 3)) % 4294967296 = pairB (unitB big (bt q 0) (bt q 1)) (unitB big (bt q 2) (bt q 3)) := by unfold pairB; omega
        rw [hval, hval2]
      · rw [if_neg (by omega), if_pos (by omega), if_neg h4]
    · rw [if_neg h2, if_neg h2]
  · rw [if_neg h1, if_neg h1]
theorem sim_cut {big : Bool} {s : CS} {q : List Int} (h : Sim big s q) : ccut s = decide (0 < q.length) := by
  obtain ⟨sb, half, b0, up⟩ := s
  match q, h with
  | [], h =>
    obtain ⟨rfl, rfl, rfl⟩ : sb = big ∧ half = false ∧ up = 0 := h
    rfl
  | [x], h =>
    obtain ⟨rfl, rfl, rfl, rfl⟩ : sb = big ∧ half = true ∧ b0 = x ∧ up = 0 := h
    rfl
  | [x, y], h =>
    obtain ⟨rfl, rfl, hu, hu0, hu1⟩ : sb = big ∧ half = false ∧ up = unitB big x y ∧ 55296 ≤ up ∧ up < 56320 := h
    have h1 : (up != 0) = true := by simp; omega
    simp [ccut, h1]
  | [x, y, z], h =>
    obtain ⟨rfl, rfl, rfl, hu, hu0, hu1⟩ : sb = big ∧ half = true ∧ b0 = z ∧ up = unitB big x y ∧ 55296 ≤ up ∧ up < 56320 := h
    simp [ccut]
theorem sim_up {big : Bool} {s : CS} {q : List Int} (h : Sim big s q) (h3 : q.length = 3) : 55296 ≤ unitB big (q.getD 0 0) (q.getD 1 0) := by
  match q, h with
  | [x, y, z], h =>
    obtain ⟨_, _, _, hu, hu0, _⟩ : s.big = big ∧ s.half = true ∧ s.b0 = z ∧ s.up = unitB big x y ∧ 55296 ≤ s.up ∧ s.up < 56320 := h
    show 55296 ≤ unitB big x y
    omega
theorem read_loop (t : ByteArray) (big : Bool) (hz : t.size ≤ 1000000) (s0 : CS) (m : Nat) (fin : CS) (out : List Int) (hm : m ≤ t.size) (hrun : run cnx s0 ((bytesOf t).take m) = some (fin, out)) (hend : m = t.size ∨ (m < t.size ∧ cnx fin (bt t m) = none)) (d : Nat) :
    ∀ (k fr fuel : Nat) (s : CS) (os : List Int), t.size - k = d → k ≤ m → fr ≤ k → run cnx s0 ((bytesOf t).take k) = some (s, os) → Sim big s (((bytesOf t).take k).drop fr) → os.length ≤ k → d + 1 ≤ fuel →
    PUni16Reads.pilcrowref04_Read.l0 fuel t big os (fr : Int) (k : Int) = some (out, if m < t.size then 3 else if ccut fin = true then 4 else 0, (m : Int)) := by
  have hL := bytesOf_length t
  induction d with
  | zero =>
    intro k fr fuel s os hd hk hfr hr hsim hos hf
    obtain ⟨fuel, rfl⟩ : ∃ q, fuel = q + 1 := ⟨fuel - 1, by omega⟩
    obtain rfl : k = m := by omega
    rw [hr] at hrun
    simp only [Option.some.injEq, Prod.mk.injEq] at hrun
    obtain ⟨rfl, rfl⟩ := hrun
    have hc := sim_cut hsim
    rw [List.length_drop, List.length_take] at hc
    rw [PUni16Reads.pilcrowref04_Read.l0, if_neg (by omega), if_neg (by omega : ¬ k < t.size), show (t.size : Int) = k by omega]
    by_cases h4 : fr < k
    · rw [if_pos (by omega), hc, decide_eq_true (by omega), if_pos rfl]
    · rw [if_neg (by omega), hc, decide_eq_false (by omega), if_neg (by decide)]
  | succ d ih =>
    intro k fr fuel s os hd hk hfr hr hsim hos hf
    obtain ⟨fuel, rfl⟩ : ∃ q, fuel = q + 1 := ⟨fuel - 1, by omega⟩
    have hks : k < t.size := by omega
    have hb := bt_range t k
    have hlen := sim_len hsim
    have hql : (((bytesOf t).take k).drop fr).length = k - fr := by rw [List.length_drop, List.length_take]; omega
    obtain ⟨hq, hqs⟩ := bytes_mid t fr (k + 1) (by omega) (by omega)
    have hq2 : bytesOf (t.extract fr (k + 1)) = ((bytesOf t).take k).drop fr ++ [bt t k] := by
      rw [hq, take_bt t k hks, List.drop_append_of_le_length (by rw [List.length_take]; omega)]
    have hup : (t.extract fr (k + 1)).size = 4 → 55296 ≤ unitB big (bt (t.extract fr (k + 1)) 0) (bt (t.extract fr (k + 1)) 1) := by
      intro h4
      have h3 := sim_up hsim (by omega)
      have e0 := getD_bt (t.extract fr (k + 1)) 0
      have e1 := getD_bt (t.extract fr (k + 1)) 1
      rw [hq2, List.getD_eq_getElem?_getD, List.getElem?_append_left (by omega), ← List.getD_eq_getElem?_getD] at e0 e1
      rw [e0, e1] at h3
      exact h3
    have hsn : run cnx s0 ((bytesOf t).take (k + 1)) = (cnx s (bt t k)).map fun p => (p.1, os ++ p.2.toList) := by
      rw [take_bt t k hks, run_snoc, hr]; rfl
    have hd1 : ((bytesOf t).take (k + 1)).drop fr = ((bytesOf t).take k).drop fr ++ [bt t k] := hq.symm.trans hq2
    have hkm : ∀ p, cnx s (bt t k) = some p → k < m := by
      intro p hp
      rcases Nat.lt_or_ge k m with h9 | h9
      · exact h9
      · obtain rfl : k = m := by omega
        rw [hr] at hrun
        simp only [Option.some.injEq, Prod.mk.injEq] at hrun
        obtain ⟨rfl, rfl⟩ := hrun
        rcases hend with h8 | ⟨_, h8⟩
        · omega
        · rw [hp] at h8; cases h8
    rw [read_round t big hz k fr fuel os hks hfr (by omega) (by omega) hup, hq2]
    rcases sim_step hsim hb.1 hb.2 with ⟨h1, hc⟩ | ⟨h1, h2, s', hc, hs'⟩ | ⟨h1, h2, s', hc, hs'⟩
    · rw [hc] at hsn
      have hkm2 : k = m := by
        rcases Nat.lt_or_ge k m with h9 | h9
        · rw [run_none (k := k + 1) h9 (by rw [hsn]; rfl)] at hrun; cases hrun
        · omega
      subst hkm2
      rw [hr] at hrun
      simp only [Option.some.injEq, Prod.mk.injEq] at hrun
      obtain ⟨rfl, rfl⟩ := hrun
      rw [h1, if_neg (by decide), if_pos hks]
    · rw [hc] at hsn
      rw [h1, h2, if_pos rfl, if_neg (by decide)]
      refine ih (k + 1) fr fuel s' os (by omega) (hkm _ hc) (by omega) ?_ (by rw [hd1]; exact hs') (by omega) (by omega)
      rw [hsn]
      simp
    · rw [hc] at hsn
      rw [h1, h2, if_pos rfl, if_pos rfl]
      refine ih (k + 1) (k + 1) fuel s' _ (by omega) (hkm _ hc) (by omega) (by rw [hsn]; rfl) ?_ (by rw [List.length_append, List.length_singleton]; omega) (by omega)
      rw [List.drop_eq_nil_of_le (by rw [List.length_take]; omega)]
      exact hs'
theorem readF_at (t : ByteArray) (big : Bool) (hz : t.size ≤ 1000000) (s0 : CS) (hs0 : Sim big s0 []) (m : Nat) (fin : CS) (out : List Int) (hm : m ≤ t.size) (hrun : run cnx s0 ((bytesOf t).take m) = some (fin, out)) (hend : m = t.size ∨ (m < t.size ∧ cnx fin (bt t m) = none)) :
    PUni16Reads.pilcrowref04_Read.f (t.size + 1) t big = some (out, if m < t.size then 3 else if ccut fin = true then 4 else 0, (m : Int)) := by
  rw [PUni16Reads.pilcrowref04_Read.f]
  exact read_loop t big hz s0 m fin out hm hrun hend t.size 0 0 _ s0 [] (by omega) (by omega) (by omega) rfl (by simpa using hs0) (by simp) (by omega)
end Go.Proofs.Ytjddbdhpdenaeaa
