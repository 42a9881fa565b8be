/- The references' Same, First, Is and the laws' great, failed: what they answer. -/
import Derived.Test.YthodifmfamflpaaMy
import Derived.Test.YthodifmfamflpaaMv
namespace Go.Proofs.Ythodifmfamflpaa
open Go.RowKit Go.Proofs.YthodifmfamflpaaW.PrintWords Go.Proofs.YthodifmfamflpaaW.PrintMore Go.Proofs.Ythodifmfamflpaa.PBocuExtends
set_option linter.unusedVariables false
set_option linter.unusedSimpArgs false
theorem w64 {x : Int} (h1 : -9223372036854775808 ≤ x) (h2 : x < 9223372036854775808) : wrap64 x = x := by unfold wrap64; omega
theorem rd_nat (l : List Int) (i : Nat) : rd l (i : Int) = l.getD i 0 := rfl
theorem order_loop (l0 l1 : List Int) (hz : l0.length ≤ 1000000000) (d : Nat) : ∀ (k i : Nat), l0.length - i = d → i ≤ l0.length → i ≤ l1.length → (∀ q, q < i → l0.getD q 0 = l1.getD q 0) → 2 * d + 2 ≤ k → ∃ r, pilcrowref01_Order.l0 k l0 l1 (i : Int) = some r ∧ (r = 0 ↔ l0 = l1) := by
  induction d with
  | zero =>
    intro k i hd h0 h1 hq hk
    obtain ⟨k, rfl⟩ : ∃ m, k = m + 2 := ⟨k - 2, by omega⟩
    rw [pilcrowref01_Order.l0, if_neg (by omega), pilcrowref01_Order.j1, if_neg (by simp)]
    by_cases h : (l0.length : Int) < l1.length
    · rw [if_pos h]
      exact ⟨_, rfl, fun h9 => by omega, fun h9 => by rw [h9] at h; omega⟩
    · rw [if_neg h, if_neg (by omega)]
      refine ⟨_, rfl, fun _ => ?_, fun _ => rfl⟩
      refine List.ext_getElem (by omega) fun q h2 h3 => ?_
      have := hq q (by omega)
      rw [List.getD_eq_getElem?_getD, List.getD_eq_getElem?_getD, List.getElem?_eq_getElem h2, List.getElem?_eq_getElem h3] at this
      exact this
  | succ d ih =>
    intro k i hd h0 h1 hq hk
    obtain ⟨k, rfl⟩ : ∃ m, k = m + 2 := ⟨k - 2, by omega⟩
    rw [pilcrowref01_Order.l0, if_pos (by omega)]
    by_cases h : (i : Int) < l1.length
    · rw [decide_eq_true h, pilcrowref01_Order.j1, if_pos rfl, if_pos (by omega), if_pos (by omega), if_pos h, rd_nat, rd_nat]
      by_cases hlt : l0.getD i 0 < l1.getD i 0
      · rw [if_pos hlt]
        exact ⟨_, rfl, fun h9 => by omega, fun h9 => by rw [h9] at hlt; omega⟩
      · rw [if_neg hlt]
        by_cases hgt : l0.getD i 0 > l1.getD i 0
        · rw [if_pos hgt]
          exact ⟨_, rfl, fun h9 => by omega, fun h9 => by rw [h9] at hgt; omega⟩
        · rw [if_neg hgt, w64 (by omega) (by omega)]
          exact ih k (i + 1) (by omega) (by omega) (by omega) (fun q h9 => by
            by_cases e : q = i
            · rw [e]; omega
            · exact hq q (by omega)) (by omega)
    · rw [decide_eq_false h, pilcrowref01_Order.j1, if_neg (by simp), if_neg (by omega), if_pos (by omega)]
      exact ⟨_, rfl, fun h9 => by omega, fun h9 => by rw [h9] at hd; omega⟩
theorem same_at (l0 l1 : List Int) (hz : l0.length ≤ 1000000000) : pilcrowref01_Same.f (2 * l0.length + 2) l0 l1 = some (decide (l0 = l1)) := by
  obtain ⟨r, hr, h⟩ := order_loop l0 l1 hz l0.length (2 * l0.length + 2) 0 (by omega) (by omega) (by omega) (fun q h9 => by omega) (by omega)
  rw [pilcrowref01_Same.f, pilcrowref01_Order.f]
  rw [show ((0 : Nat) : Int) = 0 from rfl] at hr
  rw [hr, Option.bind_some]
  congr 1
  by_cases e : l0 = l1
  · rw [decide_eq_true e, h.2 e]; rfl
  · rw [decide_eq_false e]
    exact beq_eq_false_iff_ne.2 (fun h9 => e (h.1 h9))
theorem same_any {w : World} {A0 A1 : Option Addr} {n0 n1 c0 c1 : Nat} {l0 l1 : List Int} (h0 : ReadsInt w .u32 A0 n0 l0) (h1 : ReadsInt w .u32 A1 n1 l1) (hc0 : n0 ≤ c0) (hc1 : n1 ≤ c1) (hz : n0 ≤ 1000000000) :
    Calls Try.prog 22 #[.slice A0 n0 c0, .slice A1 n1 c1] w fun e w' => e = .returned (.bool (decide (l0 = l1))) ∧ ∃ n, w' = w.drewN n := by
  obtain rfl : l0.length = n0 := h0.1
  obtain rfl : l1.length = n1 := h1.1
  exact (pilcrowref01_Same.calls _ A0 c0 l0 A1 c1 l1 _ w (Kd.C_of_reads (d := 0) h0) hc0 (Kd.C_of_reads (d := 0) h1) hc1 (same_at l0 l1 hz)).mono fun e w' ⟨he, hd⟩ => ⟨he, hd.out⟩
end Go.Proofs.Ythodifmfamflpaa
