/- BOCU-1: the reference's Run is the machine. -/
import Derived.Test.YthodifmfamflpaaPs
import Derived.Test.YthodifmfamflpaaMv
namespace Go.Proofs.Ythodifmfamflpaa.D
open Go.RowKit Go.Proofs.YthodifmfamflpaaW.PrintWords Go.Proofs.YthodifmfamflpaaW.PrintLast Go.Proofs.YthodifmfamflpaaW.PrintMore PBocuExtends
set_option linter.unusedVariables false
set_option linter.unusedSimpArgs false
theorem ranges_same (s : ByteArray) : (∃ a b n, diff_Range.f 799 s = some (a, b, n, true) ∧ pilcrowref11_Range.f 799 s = some (a, b, n) ∧ 0 < n) ∨ (diff_Range.f 799 s = some (0, 0, 0, false) ∧ pilcrowref11_Range.f 799 s = some (0, 0, 0)) := by
  by_cases h0 : s.size = 0
  · right
    refine ⟨range_empty 798 s h0, ?_⟩
    rw [pilcrowref11_Range.f, if_pos (by omega)]
  have hb := bt_range s 0
  by_cases hl : 33 ≤ bt s 0 ∧ bt s 0 ≤ 254
  · have ht := @tr_range (bt s 0)
    have hlr := least_range hl.1 hl.2
    have hL : pilcrowref11_Least.f 799 (bt s 0) = some (leastF (bt s 0), trF (bt s 0)) := by
      have := rleast_at 794 (bt s 0) hb.1 hb.2
      rw [if_pos hl] at this
      exact this
    have hR : diff_Range.f 799 s = if (s.size : Int) > trF (bt s 0) + 1 then some (0, 0, 0, false) else diff_Range.l0 798 s (leastF (bt s 0)) (trF (bt s 0)) 0 1 1 := range_open 798 s _ rfl hl.1 hl.2 (by omega)
    have hRf : pilcrowref11_Range.f 799 s = pilcrowref11_Range.j0 799 s (leastF (bt s 0)) (trF (bt s 0)) (decide ((s.size : Int) > trF (bt s 0) + 1)) := by
      rw [pilcrowref11_Range.f, if_neg (by omega), if_pos (by omega), hL, Option.bind_some, if_neg (by omega), w64 (x := trF (bt s 0) + 1) (by omega) (by omega)]
    rw [hR, hRf]
    by_cases c : (s.size : Int) > trF (bt s 0) + 1
    · rw [if_pos c, decide_eq_true c, pilcrowref11_Range.j0, if_pos rfl]
      exact .inr ⟨rfl, rfl⟩
    · rw [if_neg c, decide_eq_false c, pilcrowref11_Range.j0, if_neg (by simp)]
      obtain ⟨t, hT⟩ : ∃ t : Nat, (t : Int) = trF (bt s 0) := ⟨(trF (bt s 0)).toNat, by omega⟩
      have hcap : (1 : Int) ≤ capT t := by
        rcases t with _ | _ | _ | t
        · decide
        · decide
        · decide
        · exact (by decide : (1 : Int) ≤ 1)
      have := ranges_loop s (leastF (bt s 0)) (trF (bt s 0)) ht.1 ht.2 (by omega) (by omega) (498 - t) t 1 0 1 (by omega) (by omega) (by omega) (by omega) (by omega) (fun _ => rfl)
      rw [show t + (498 - t) + 300 = 798 by omega] at this
      rcases this with ⟨a, b, h1, h2⟩ | ⟨h1, h2⟩
      · left
        refine ⟨a, b, _, h1, ?_, by omega⟩
        exact h2
      · exact .inr ⟨h1, h2⟩
  · right
    refine ⟨range_nolead 798 s (by omega) (by omega), ?_⟩
    have hL : pilcrowref11_Least.f 799 (bt s 0) = some (0, -1) := by
      have := rleast_at 794 (bt s 0) hb.1 hb.2
      rw [if_neg hl] at this
      exact this
    rw [pilcrowref11_Range.f, if_neg (by omega), if_pos (by omega), hL, Option.bind_some, if_pos (by decide), pilcrowref11_Range.j0, if_pos rfl]
end Go.Proofs.Ythodifmfamflpaa.D
namespace Go.Proofs.Ythodifmfamflpaa
open Go.RowKit Go.Proofs.YthodifmfamflpaaW.PrintWords Go.Proofs.YthodifmfamflpaaW.PrintLast Go.Proofs.YthodifmfamflpaaW.PrintMore PBocuExtends
set_option linter.unusedVariables false
set_option linter.unusedSimpArgs false
/-- What the reference's Range tells. -/
def rngR (l : List Int) : Int × Int × Int := match rngF l with | some p => p | none => (0, 0, 0)
theorem rrange_at (k : Nat) (s : ByteArray) : pilcrowref11_Range.f (k + 799) s = some (rngR (bytesOf s)) := by
  refine mono_le (f := fun k => pilcrowref11_Range.f k s) (pilcrowref11_Range.mono _) (show 799 ≤ k + 799 by omega) ?_
  have hr := range_at 789 s
  rw [show 789 + 10 = 799 from rfl] at hr
  unfold rngT at hr
  unfold rngR
  rcases D.ranges_same s with ⟨a, b, n, h1, h2, hn⟩ | ⟨h1, h2⟩
  · rw [h1] at hr
    cases hF : rngF (bytesOf s) with
    | none => rw [hF] at hr; simp at hr
    | some p =>
      rw [hF] at hr
      simp only [Option.some.injEq, Prod.mk.injEq] at hr
      obtain ⟨e1, e2, e3, _⟩ := hr
      show pilcrowref11_Range.f 799 s = some p
      rw [h2, e1, e2, e3]
  · rw [h1] at hr
    cases hF : rngF (bytesOf s) with
    | none => exact h2
    | some p => rw [hF] at hr; simp at hr
theorem least_at (k : Nat) (lo hi : Int) : pilcrowref12_Least.f (k + 2) lo hi = some (if someF lo hi = true then leapF lo else -1) := by
  have hl : leapF lo = if 55296 ≤ (if lo < 33 then 33 else lo) ∧ (if lo < 33 then 33 else lo) < 57344 then 57344 else if lo < 33 then 33 else lo := rfl
  have key : ∀ x : Int, pilcrowref12_Least.j0 (k + 2) x hi = some (if (if 55296 ≤ x ∧ x < 57344 then 57344 else x) ≤ hi ∧ (if 55296 ≤ x ∧ x < 57344 then 57344 else x) ≤ 1114111 then (if 55296 ≤ x ∧ x < 57344 then 57344 else x) else -1) := by
    intro x
    by_cases hs : 55296 ≤ x ∧ x < 57344
    · have hy : (if 55296 ≤ x ∧ x < 57344 then (57344 : Int) else x) = 57344 := if_pos hs
      rw [hy, pilcrowref12_Least.j0, if_pos hs.1, decide_eq_true (by omega), pilcrowref12_Least.j1, if_pos rfl]
      by_cases h3 : (57344 : Int) ≤ hi
      · rw [if_neg (by omega), if_neg (by omega), if_pos ⟨h3, by omega⟩]
      · rw [if_pos (by omega), if_neg (by omega)]
    · have hy : (if 55296 ≤ x ∧ x < 57344 then (57344 : Int) else x) = x := if_neg hs
      have e : pilcrowref12_Least.j0 (k + 2) x hi = pilcrowref12_Least.j1 (k + 1) x hi false := by
        rw [pilcrowref12_Least.j0]
        by_cases h1 : 55296 ≤ x
        · rw [if_pos h1, decide_eq_false (by omega)]
        · rw [if_neg h1]
      rw [hy, e, pilcrowref12_Least.j1, if_neg (by decide)]
      by_cases h3 : x ≤ hi
      · by_cases h4 : x ≤ 1114111
        · rw [if_neg (by omega), if_neg (by omega), if_pos ⟨h3, h4⟩]
        · rw [if_neg (by omega), if_pos (by omega), if_neg (by omega)]
      · rw [if_pos (by omega), if_neg (by omega)]
  unfold someF
  simp only [Bool.and_eq_true, decide_eq_true_eq]
  rw [hl, pilcrowref12_Least.f]
  by_cases h : lo < 33
  · rw [if_pos h, key 33]; simp only [if_pos h]
  · rw [if_neg h, key lo]; simp only [if_neg h]
theorem rpack_any (k : Nat) (d : Int) (h0 : -1114111 ≤ d) (h1 : d ≤ 1114111) : pilcrowref11_Pack.f (k + 700) d = some (strOfNums (D.packF d)) :=
  mono_le (f := fun k => pilcrowref11_Pack.f k d) (pilcrowref11_Pack.mono _) (show 700 ≤ k + 700 by omega) (D.rpack_at d h0 h1)
theorem rprev_any (k : Nat) (c : Int) (h0 : 0 ≤ c) (h1 : c ≤ 1114111) : pilcrowref11_Prev.f (k + 2) c = some (prevF c) := (D.refprev_at k c h0 (by omega)).trans rfl
theorem ofn_drop (xs : List Int) (n : Nat) : (strOfNums xs).extract n (strOfNums xs).size = strOfNums (xs.drop n) := by
  apply ByteArray.ext
  simp [strOfNums, ByteArray.data_extract, ByteArray.size]
  rw [List.take_of_length_le (by simp)]
/-- Bytes with which a part goes on. -/
def restL (s : CS) : List Int := match rngF s.pt with | some p => (D.packF (leapF (s.pv + p.1) - s.pv)).drop s.pt.length | none => []
/-- A reset; a control or a blank; a part's byte: one round of Run. -/
theorem run_reset (t : ByteArray) (hz : t.size ≤ 1000000) (k f : Nat) (os : List Int) (pv : Int) (rest : ByteArray) (hk : k < t.size) (hb : bt t k = 255) :
    pilcrowref12_Run.l0 (f + 2) t os pv rest (k : Int) (k : Int) = pilcrowref12_Run.l0 f t os 64 rest ((k + 1 : Nat) : Int) ((k + 1 : Nat) : Int) := by
  rw [pilcrowref12_Run.l0, if_pos (by omega), if_pos (by omega), if_pos rfl, hb, show ((255 : Int) == 255) = true from rfl, pilcrowref12_Run.j1, if_pos rfl, wrap64_nat' k (by omega)]
theorem run_ctl (t : ByteArray) (hz : t.size ≤ 1000000) (k f : Nat) (os : List Int) (pv : Int) (rest : ByteArray) (hk : k < t.size) (hb : bt t k ≤ 32) (hos : os.length ≤ 1000000) :
    pilcrowref12_Run.l0 (f + 3) t os pv rest (k : Int) (k : Int) = pilcrowref12_Run.l0 f t (os ++ [bt t k]) (if bt t k < 32 then 64 else pv) rest ((k + 1 : Nat) : Int) ((k + 1 : Nat) : Int) := by
  have hr := bt_range t k
  rw [pilcrowref12_Run.l0, if_pos (by omega), if_pos (by omega), if_pos rfl, show (bt t (k : Int) == 255) = false by simp; omega, pilcrowref12_Run.j1, if_neg (by decide), if_pos rfl, decide_eq_true hb, pilcrowref12_Run.j2, if_pos rfl, if_pos (by omega), Option.bind_some, wrap64_nat' k (by omega), show bt t (k : Int) % 4294967296 = bt t k by omega]
  by_cases h : bt t (k : Int) = 32
  · rw [if_pos h, if_neg (by omega)]
  · rw [if_neg h, if_pos (by omega)]
theorem run_part (t : ByteArray) (hz : t.size ≤ 1000000) (k fr f : Nat) (os : List Int) (pv : Int) (rest : ByteArray) (hk : k < t.size) (hf : fr ≤ k) (h9 : fr = k → bt t k ≠ 255 ∧ 32 < bt t k) (hpv : 64 ≤ pv ∧ pv ≤ 1114111) (hos : os.length ≤ 1000000) :
    pilcrowref12_Run.l0 (f + 804) t os pv rest (fr : Int) (k : Int) = match rngF (bytesOf (t.extract fr (k + 1))) with
      | none => some (os, 3, (k : Int), rest)
      | some (lo, hi, n) => if someF (pv + lo) (pv + hi) = true then
          (if ((k + 1 - fr : Nat) : Int) = n then pilcrowref12_Run.l0 (f + 800) t (os ++ [leapF (pv + lo)]) (prevF (leapF (pv + lo))) (strOfNums ((D.packF (leapF (pv + lo) - pv)).drop (k + 1 - fr))) ((k + 1 : Nat) : Int) ((k + 1 : Nat) : Int)
           else pilcrowref12_Run.l0 (f + 800) t os pv (strOfNums ((D.packF (leapF (pv + lo) - pv)).drop (k + 1 - fr))) (fr : Int) ((k + 1 : Nat) : Int)) else some (os, 3, (k : Int), rest) := by
  obtain ⟨hq, hqs⟩ := bytes_mid t fr (k + 1) (by omega) (by omega)
  have hx : ∀ x ∈ bytesOf (t.extract fr (k + 1)), 0 ≤ x ∧ x ≤ 255 := bytesOf_range _
  have hql : (bytesOf (t.extract fr (k + 1))).length = k + 1 - fr := by rw [bytesOf_length, hqs]
  have hw : wrap64 (((k + 1 : Nat) : Int) - (fr : Int)) = ((k + 1 - fr : Nat) : Int) := by rw [w64' (by omega) (by omega)]; omega
  have e0 : pilcrowref12_Run.l0 (f + 804) t os pv rest (fr : Int) (k : Int) = pilcrowref12_Run.j2 (f + 802) t os pv rest (fr : Int) (k : Int) (bt t k) false := by
    rw [pilcrowref12_Run.l0, if_pos (by omega), if_pos (by omega)]
    by_cases h : fr = k
    · obtain ⟨h1, h2⟩ := h9 h
      subst h
      rw [if_pos rfl, show (bt t (fr : Int) == 255) = false by simp; omega, pilcrowref12_Run.j1, if_neg (by decide), if_pos rfl, decide_eq_false (by omega)]
    · rw [if_neg (by omega), pilcrowref12_Run.j1, if_neg (by decide), if_neg (by omega)]
  rw [e0, pilcrowref12_Run.j2, if_neg (by decide), if_pos (by omega), wrap64_nat' k (by omega), if_pos (by omega), if_pos (by omega), Int.toNat_natCast, Int.toNat_natCast, show f + 801 = f + 2 + 799 by omega, rrange_at (f + 2), Option.bind_some]
  unfold rngR
  cases hr : rngF (bytesOf (t.extract fr (k + 1))) with
  | none =>
    simp only
    rw [if_neg (by decide), show f + 2 + 799 = f + 800 + 1 by omega, pilcrowref12_Run.j3, if_pos (by decide)]
  | some p =>
    obtain ⟨lo, hi, n⟩ := p
    simp only
    have hrr := rngF_range hx hr
    rw [hql] at hrr
    rw [if_pos (by omega), w64' (x := pv + lo) (by omega) (by omega), w64' (x := pv + hi) (by omega) (by omega), show f + 2 + 799 = f + 799 + 2 by omega, least_at (f + 799), Option.bind_some]
    by_cases hsm : someF (pv + lo) (pv + hi) = true
    · obtain ⟨l1, l2, l3, l4⟩ := leap_ok hsm
      have l5 := isB_range l4
      rw [if_pos hsm, if_pos hsm, show f + 799 + 2 = f + 800 + 1 by omega, pilcrowref12_Run.j3, if_neg (by omega), w64' (x := leapF (pv + lo) - pv) (by omega) (by omega), show f + 800 = f + 100 + 700 by omega, rpack_any (f + 100) _ (by omega) (by omega), Option.bind_some]
      obtain ⟨g1, g2⟩ := range_conv (d := leapF (pv + lo) - pv) hx hr (by omega) (by omega) (by omega) (by omega)
      rw [wrap64_nat' k (by omega), hw, ofn_size, if_pos (by omega), if_pos (by omega), Int.toNat_natCast]
      by_cases hn : ((k + 1 - fr : Nat) : Int) = n
      · rw [if_pos hn, if_pos hn, if_pos (by omega), show leapF (pv + lo) % 4294967296 = leapF (pv + lo) by omega, show f + 100 + 700 = f + 798 + 2 by omega, rprev_any (f + 798) _ (by omega) (by omega), Option.bind_some]
        have := prevF_range (c := leapF (pv + lo)) (by omega) l5
        rw [w64' (x := prevF (leapF (pv + lo))) (by omega) (by omega)]
        rw [← ofn_size, ofn_drop]
      · rw [if_neg hn, if_neg hn, ← ofn_size, ofn_drop]
    · rw [if_neg hsm, if_neg hsm, show f + 799 + 2 = f + 800 + 1 by omega, pilcrowref12_Run.j3, if_pos (by decide)]
theorem leap_self {x : Int} (h0 : 33 ≤ x) (hc : isB x = true) : leapF x = x := by
  rw [isB_iff] at hc
  unfold leapF
  (repeat' split) <;> omega
theorem run_loop (t : ByteArray) (hz : t.size ≤ 1000000) (m : Nat) (fin : CS) (out : List Int) (hm : m ≤ t.size) (hrun : run cnx st0 ((bytesOf t).take m) = some (fin, out)) (hend : m = t.size ∨ (m < t.size ∧ cnx fin (bt t m) = none)) (d : Nat) :
    ∀ (k fr fuel : Nat) (s : CS) (os : List Int) (rest : ByteArray), t.size - k = d → k ≤ m → fr ≤ k → run cnx st0 ((bytesOf t).take k) = some (s, os) → cok s → ((bytesOf t).take k).drop fr = s.pt → (s.pt ≠ [] → rest = strOfNums (restL s)) → os.length ≤ k → d * 4 + 900 ≤ fuel →
    ∃ r, pilcrowref12_Run.l0 fuel t os s.pv rest (fr : Int) (k : Int) = some (out, if m < t.size then 3 else if ccut fin = true then 4 else 0, (m : Int), r) ∧ (m = t.size → r = strOfNums (restL fin)) := by
  have hL := bytesOf_length t
  induction d with
  | zero =>
    intro k fr fuel s os rest hd hk hfr hr hs hpt hrest hos hf
    obtain ⟨fuel, rfl⟩ : ∃ q, fuel = q + 1 := ⟨fuel - 1, by omega⟩
    obtain rfl : k = m := by omega
    rw [hr] at hrun
    simp only [Option.some.injEq, Prod.mk.injEq] at hrun
    obtain ⟨rfl, rfl⟩ := hrun
    have hql := congrArg List.length hpt
    rw [List.length_drop, List.length_take] at hql
    rw [pilcrowref12_Run.l0, if_neg (by omega), if_neg (by omega : ¬ k < t.size), show (t.size : Int) = k by omega]
    by_cases h4 : fr < k
    · have hne : s.pt ≠ [] := by intro h; rw [h, List.length_nil] at hql; omega
      have hc : ccut s = true := by unfold ccut; cases hp : s.pt with
        | nil => exact absurd hp hne
        | cons _ _ => rfl
      rw [if_pos (by omega), hc, if_pos rfl]
      exact ⟨_, rfl, fun _ => hrest hne⟩
    · have hne : s.pt = [] := by rw [← hpt]; exact List.drop_eq_nil_of_le (by rw [List.length_take]; omega)
      have hc : ccut s = false := by unfold ccut; rw [hne]; rfl
      rw [if_neg (by omega), hc, if_neg (by decide)]
      refine ⟨_, rfl, fun _ => ?_⟩
      unfold restL
      rw [hne]
      rfl
  | succ d ih =>
    intro k fr fuel s os rest hd hk hfr hr hs hpt hrest hos hf
    obtain ⟨fuel, rfl⟩ : ∃ q, fuel = q + 804 := ⟨fuel - 804, by omega⟩
    have hks : k < t.size := by omega
    have hb := bt_range t k
    have hlen := cok_len hs
    have hql := congrArg List.length hpt
    rw [List.length_drop, List.length_take] at hql
    have hsn : run cnx st0 ((bytesOf t).take (k + 1)) = (cnx s (bt t k)).map fun p => (p.1, os ++ p.2.toList) := by
      rw [take_bt t k hks, run_snoc, hr]; rfl
    have hkm : ∀ p, cnx s (bt t k) = some p → k < m := by
      intro p hp
      rcases Nat.lt_or_ge k m with h9 | h9
      · exact h9
      · obtain rfl : k = m := by omega
        rw [hr] at hrun
        simp only [Option.some.injEq, Prod.mk.injEq] at hrun
        obtain ⟨rfl, rfl⟩ := hrun
        rcases hend with h8 | ⟨_, h8⟩
        · omega
        · rw [hp] at h8; cases h8
    have hno : cnx s (bt t k) = none → ∀ q, ∃ r, some (os, (3 : Int), (k : Int), q) = some (out, if m < t.size then 3 else if ccut fin = true then 4 else 0, (m : Int), r) ∧ (m = t.size → r = strOfNums (restL fin)) := by
      intro hn q
      have hkm2 : k = m := by
        rcases Nat.lt_or_ge k m with h9 | h9
        · rw [run_none (k := k + 1) h9 (by rw [hsn, hn]; rfl)] at hrun; cases hrun
        · omega
      subst hkm2
      rw [hr] at hrun
      simp only [Option.some.injEq, Prod.mk.injEq] at hrun
      obtain ⟨rfl, rfl⟩ := hrun
      exact ⟨q, by rw [if_pos hks], fun h => by omega⟩
    have hfrk : s.pt = [] ↔ fr = k := by
      constructor
      · intro h; rw [h, List.length_nil] at hql; omega
      · intro h; exact List.eq_nil_of_length_eq_zero (by omega)
    have hd0 : ((bytesOf t).take (k + 1)).drop (k + 1) = [] := List.drop_eq_nil_of_le (by rw [List.length_take]; omega)
    have hd1 : ((bytesOf t).take (k + 1)).drop fr = s.pt ++ [bt t k] := by
      rw [take_bt t k hks, List.drop_append_of_le_length (by rw [List.length_take]; omega), hpt]
    by_cases h255 : s.pt = [] ∧ bt t k = 255
    · obtain rfl := hfrk.1 h255.1
      have hc : cnx s (bt t fr) = some (⟨64, []⟩, none) := by unfold cnx; rw [if_pos h255]
      rw [hc] at hsn
      rw [show fuel + 804 = fuel + 802 + 2 by omega, run_reset t hz fr (fuel + 802) os s.pv rest hks h255.2]
      exact ih (fr + 1) (fr + 1) (fuel + 802) ⟨64, []⟩ os rest (by omega) (hkm _ hc) (by omega) (by rw [hsn]; simp) (cnx_ok hs hc) hd0 (fun h => absurd rfl h) (by omega) (by omega)
    by_cases h32 : s.pt = [] ∧ bt t k ≤ 32
    · obtain rfl := hfrk.1 h32.1
      have hc : cnx s (bt t fr) = some (⟨if bt t fr < 32 then 64 else s.pv, []⟩, some (bt t fr)) := by unfold cnx; rw [if_neg h255, if_pos h32]
      rw [hc] at hsn
      rw [show fuel + 804 = fuel + 801 + 3 by omega, run_ctl t hz fr (fuel + 801) os s.pv rest hks h32.2 (by omega)]
      exact ih (fr + 1) (fr + 1) (fuel + 801) ⟨if bt t fr < 32 then 64 else s.pv, []⟩ _ rest (by omega) (hkm _ hc) (by omega) (by rw [hsn]; rfl) (cnx_ok hs hc) hd0 (fun h => absurd rfl h) (by rw [List.length_append, List.length_singleton]; omega) (by omega)
    have hq2 : bytesOf (t.extract fr (k + 1)) = s.pt ++ [bt t k] := by rw [(bytes_mid t fr (k + 1) (by omega) (by omega)).1, hd1]
    have hcc : cnx s (bt t k) = match rngF (s.pt ++ [bt t k]) with
        | none => none
        | some (lo, hi, n) => if someF (s.pv + lo) (s.pv + hi) = true then (if (s.pt.length : Int) + 1 = n then some (⟨prevF (s.pv + lo), []⟩, some (s.pv + lo)) else some (⟨s.pv, s.pt ++ [bt t k]⟩, none)) else none := by
      unfold cnx
      rw [if_neg h255, if_neg h32, if_neg (by omega)]
      cases rngF (s.pt ++ [bt t k]) <;> rfl
    rw [run_part t hz k fr fuel os s.pv rest hks hfr (fun h => ⟨fun h9 => h255 ⟨hfrk.2 h, h9⟩, by have : ¬ bt t k ≤ 32 := fun h9 => h32 ⟨hfrk.2 h, h9⟩; omega⟩) hs.1 (by omega), hq2]
    have hx : ∀ x ∈ s.pt ++ [bt t k], 0 ≤ x ∧ x ≤ 255 := by
      intro x hx
      rcases List.mem_append.1 hx with h9 | h9
      · exact hs.2.2 x h9
      · rw [List.mem_singleton.1 h9]; omega
    cases hrg : rngF (s.pt ++ [bt t k]) with
    | none =>
      rw [hrg] at hcc
      exact hno hcc rest
    | some p =>
      obtain ⟨lo, hi, n⟩ := p
      rw [hrg] at hcc
      simp only at hcc ⊢
      have hrr := rngF_range hx hrg
      rw [List.length_append, List.length_singleton] at hrr
      by_cases hsm : someF (s.pv + lo) (s.pv + hi) = true
      · rw [if_pos hsm] at hcc
        rw [if_pos hsm]
        have hkf : ((k + 1 - fr : Nat) : Int) = (s.pt.length : Int) + 1 := by omega
        rw [hkf]
        by_cases hn : (s.pt.length : Int) + 1 = n
        · rw [if_pos hn] at hcc
          rw [if_pos hn]
          have := hrr.2.2.2.2.2.1 (by omega)
          subst this
          have hc1 := some_one hsm
          rw [leap_self hc1.1 hc1.2.2]
          rw [hcc] at hsn
          exact ih (k + 1) (k + 1) (fuel + 800) ⟨prevF (s.pv + lo), []⟩ _ _ (by omega) (hkm _ hcc) (by omega) (by rw [hsn]; rfl) (cnx_ok hs hcc) hd0 (fun h => absurd rfl h) (by rw [List.length_append, List.length_singleton]; omega) (by omega)
        · rw [if_neg hn] at hcc
          rw [if_neg hn]
          rw [hcc] at hsn
          refine ih (k + 1) fr (fuel + 800) ⟨s.pv, s.pt ++ [bt t k]⟩ os _ (by omega) (hkm _ hcc) (by omega) (by rw [hsn]; simp) (cnx_ok hs hcc) hd1 (fun _ => ?_) (by omega) (by omega)
          unfold restL
          simp only
          rw [hrg]
          simp only
          rw [List.length_append, List.length_singleton, show k + 1 - fr = s.pt.length + 1 by omega]
      · rw [if_neg hsm] at hcc
        rw [if_neg hsm]
        exact hno hcc rest
theorem runF_at (t : ByteArray) (hz : t.size ≤ 1000000) (m : Nat) (fin : CS) (out : List Int) (hm : m ≤ t.size) (hrun : run cnx st0 ((bytesOf t).take m) = some (fin, out)) (hend : m = t.size ∨ (m < t.size ∧ cnx fin (bt t m) = none)) :
    ∃ r, pilcrowref12_Run.f (t.size * 4 + 900) t = some (out, if m < t.size then 3 else if ccut fin = true then 4 else 0, (m : Int), r) ∧ (m = t.size → r = strOfNums (restL fin)) := by
  rw [pilcrowref12_Run.f]
  exact run_loop t hz m fin out hm hrun hend t.size 0 0 _ st0 [] ⟨#[]⟩ (by omega) (by omega) (by omega) rfl cok0 (by simp) (fun h => absurd rfl h) (by simp) (by omega)
theorem readF_at (t : ByteArray) (hz : t.size ≤ 1000000) (m : Nat) (fin : CS) (out : List Int) (hm : m ≤ t.size) (hrun : run cnx st0 ((bytesOf t).take m) = some (fin, out)) (hend : m = t.size ∨ (m < t.size ∧ cnx fin (bt t m) = none)) :
    pilcrowref12_Read.f (t.size * 4 + 900) t = some (out, if m < t.size then 3 else if ccut fin = true then 4 else 0, (m : Int)) := by
  obtain ⟨r, h1, h2⟩ := runF_at t hz m fin out hm hrun hend
  rw [pilcrowref12_Read.f, h1]; rfl
/-- What waits goes on to a text that denotes something. -/
theorem rest_law {s : CS} (hs : cok s) : ∃ s2 os, run cnx s (restL s) = some (s2, os) ∧ ccut s2 = false ∧ (restL s).length ≤ 4 ∧ ∀ x ∈ restL s, 0 ≤ x ∧ x ≤ 255 := by
  obtain ⟨pv, pt⟩ := s
  obtain ⟨h1, h2, h3⟩ := hs
  simp only at h1 h2 h3
  unfold restL
  simp only
  rcases h2 with rfl | ⟨lo, hi, n, hr, hl, hsm⟩
  · exact ⟨⟨pv, []⟩, [], rfl, rfl, Nat.zero_le _, by simp [rngF]⟩
  · rw [hr]
    simp only
    obtain ⟨l1, l2, l3, l4⟩ := leap_ok hsm
    have l5 := isB_range l4
    obtain ⟨g1, g2⟩ := range_conv (d := leapF (pv + lo) - pv) h3 hr (by omega) (by omega) (by omega) (by omega)
    have g3 := run_tail h1 l3 l4 ((D.packF (leapF (pv + lo) - pv)).length - pt.length - 1) pt.length (by omega)
    rw [g1] at g3
    refine ⟨_, _, g3, rfl, ?_, fun x hx => D.pack_inB (by omega) (by omega) x (List.mem_of_mem_drop hx)⟩
    have := @D.packF_len (leapF (pv + lo) - pv)
    have := @D.tr_range (D.leadF (leapF (pv + lo) - pv))
    rw [List.length_drop]
    omega
end Go.Proofs.Ythodifmfamflpaa
