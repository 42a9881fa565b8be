/- permute: what the reference's functions answer, in plain Lean. -/
import Derived.Test.YtcfpbihkodjlkaaPv
import Derived.Test.YtcfpbihkodjlkaaPm
namespace Go.Proofs.Ytcfpbihkodjlkaa
open Go.RowKit Go.Proofs.YtcfpbihkodjlkaaW.PrintWords Go.Proofs.YtcfpbihkodjlkaaW.PrintMore PEbcdicWrites
set_option linter.unusedVariables false
set_option linter.unusedSimpArgs false
set_option maxRecDepth 100000
theorem wrap64_nat (n : Nat) (h : n < 1000000000000000) : wrap64 ((n : Int) + 1) = ((n + 1 : Nat) : Int) := by
  have h1 : (0 : Int) ≤ (n : Int) := Int.natCast_nonneg n
  simp only [wrap64]
  omega
/-- One number more is laid behind a list, if it isn't among its first 160. -/
def fill1 (l : List Int) (v : Int) : List Int := if (l.take 160).any (· == v) then l else l ++ [v]
def fillN : Nat → List Int → Nat → List Int
  | 0, l, _ => l
  | n + 1, l, b => fillN n (fill1 l (b : Int)) (b + 1)
theorem fill1_len (l : List Int) (v : Int) : l.length ≤ (fill1 l v).length ∧ (fill1 l v).length ≤ l.length + 1 := by
  unfold fill1
  split
  · omega
  · simp
theorem all_l2 (x1 : List Int) (b : Nat) (hb : b < 256) (h1 : 160 ≤ x1.length) (h2 : x1.length < 1000) (k : Nat) :
    ∀ d j : Nat, j + d = 160 → ∀ acc : Bool, pilcrowref07_All.l2 (k + d + 1) x1 (b : Int) acc (j : Int) = if (acc || ((x1.take 160).drop j).any (· == (b : Int))) = true then pilcrowref07_All.l1 k x1 ((b + 1 : Nat) : Int) else pilcrowref07_All.l1 k (x1 ++ [(b : Int)]) ((b + 1 : Nat) : Int)
  | 0, j, hj, acc => by
    obtain rfl : j = 160 := by omega
    have hd : (x1.take 160).drop 160 = [] := List.drop_eq_nil_of_le (by rw [List.length_take]; omega)
    have hmb : (b : Int) % 256 = b := by omega
    rw [pilcrowref07_All.l2, if_neg (by omega), hd, wrap64_nat b (by omega), hmb]
    cases acc
    · rw [if_neg (by decide), if_pos (by omega)]; rfl
    · rw [if_pos rfl]; rfl
  | d + 1, j, hj, acc => by
    have hmb : (b : Int) % 256 = b := by omega
    have hdr : (x1.take 160).drop j = x1.getD j 0 :: (x1.take 160).drop (j + 1) := by
      rw [List.drop_eq_getElem_cons (by rw [List.length_take]; omega), List.getElem_take, List.getD_eq_getElem?_getD, List.getElem?_eq_getElem (by omega)]
      rfl
    have hrd : rd x1 (j : Int) = x1.getD j 0 := by rw [rd, Int.toNat_natCast]
    rw [show k + (d + 1) + 1 = k + d + 1 + 1 by omega, pilcrowref07_All.l2, if_pos (by omega), wrap64_nat j (by omega), hmb, hdr, List.any_cons, hrd]
    cases acc
    · rw [if_neg (by decide), if_pos (by omega), if_pos (by omega), all_l2 x1 b hb h1 h2 k d (j + 1) (by omega) _, Bool.false_or]
    · rw [if_pos rfl, all_l2 x1 b hb h1 h2 k d (j + 1) (by omega) true, Bool.true_or, Bool.true_or]
theorem all_l1 : ∀ n b : Nat, b + n = 256 → ∀ l : List Int, 160 ≤ l.length → l.length < 200 + b → pilcrowref07_All.l1 (162 * n + 1) l (b : Int) = some (strOfNums (fillN n l b))
  | 0, b, hb, l, h1, h2 => by
    obtain rfl : b = 256 := by omega
    rw [pilcrowref07_All.l1, if_neg (by omega)]
    rfl
  | n + 1, b, hb, l, h1, h2 => by
    have hf := fill1_len l (b : Int)
    rw [show 162 * (n + 1) + 1 = (162 * n + 1 + 160 + 1) + 1 by omega, pilcrowref07_All.l1, if_pos (by omega), show (0 : Int) = ((0 : Nat) : Int) from rfl, all_l2 l b (by omega) h1 (by omega) (162 * n + 1) 160 0 rfl false, fillN, List.drop_zero, Bool.false_or]
    rw [← all_l1 n (b + 1) (by omega) (fill1 l (b : Int)) (by omega) (by omega)]
    unfold fill1
    split <;> rfl
theorem known_eq : ∀ i < 160, pilcrowref07_known.f (i : Nat) = some (knownL.getD i 0) := by decide +kernel
theorem all_l0 (k : Nat) : ∀ d i : Nat, i + d = 160 → pilcrowref07_All.l0 (k + d + 1) (knownL.take i) (i : Int) = pilcrowref07_All.l1 k knownL 0
  | 0, i, hi => by
    obtain rfl : i = 160 := by omega
    rw [pilcrowref07_All.l0, if_neg (by omega), List.take_of_length_le (by rw [knownL_length]; omega)]
  | d + 1, i, hi => by
    have hr := known_range i (by omega)
    have hm : knownL.getD i 0 % 256 = knownL.getD i 0 := by omega
    rw [show k + (d + 1) + 1 = k + d + 1 + 1 by omega, pilcrowref07_All.l0, if_pos (by omega), known_eq i (by omega), Option.bind_some, if_pos (by rw [List.length_take]; omega), wrap64_nat i (by omega), hm]
    rw [← all_l0 k d (i + 1) (by omega), List.take_add_one, List.getElem?_eq_getElem (by rw [knownL_length]; omega)]
    congr 2
    rw [List.getD_eq_getElem?_getD, List.getElem?_eq_getElem (by rw [knownL_length]; omega)]
    rfl
theorem fill_eq : fillN 256 knownL 0 = toL := by decide +kernel
theorem all_eq : pilcrowref07_All.f 41634 = some (strOfNums toL) := by
  have h := all_l1 256 0 rfl knownL (by rw [knownL_length]; omega) (by rw [knownL_length]; omega)
  have h0 := all_l0 (162 * 256 + 1) 160 0 rfl
  rw [List.take_zero] at h0
  rw [pilcrowref07_All.f, ← fill_eq, ← h]
  exact h0
end Go.Proofs.Ytcfpbihkodjlkaa
