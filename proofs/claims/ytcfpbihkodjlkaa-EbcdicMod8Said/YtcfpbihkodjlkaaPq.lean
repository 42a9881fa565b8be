/- permute: plain laws on the table, and what the reference answers. -/
import Derived.Test.YtcfpbihkodjlkaaPp
namespace Go.Proofs.Ytcfpbihkodjlkaa
open Go.RowKit Go.Proofs.YtcfpbihkodjlkaaW.PrintWords Go.Proofs.YtcfpbihkodjlkaaW.PrintMore PEbcdicWrites
set_option linter.unusedVariables false
set_option linter.unusedSimpArgs false
set_option maxRecDepth 100000
theorem pm_append (x y : ByteArray) : bytesOf (x ++ y) = bytesOf x ++ bytesOf y := by simp [bytesOf, ByteArray.data_append]
theorem pm_ofNums {xs : List Int} (h : ∀ x ∈ xs, 0 ≤ x ∧ x < 256) : bytesOf (strOfNums xs) = xs := by
  have e : (strOfNums xs).data.toList = xs.map fun n => UInt8.ofNat n.toNat := rfl
  rw [bytesOf, e, List.map_map]
  apply List.ext_getElem?
  intro i
  rw [List.getElem?_map]
  cases hx : xs[i]? with
  | none => rfl
  | some x =>
    have := h x (List.mem_of_getElem? hx)
    simp only [Option.map_some, Function.comp, UInt8.toNat_ofNat', Option.some.injEq]
    omega
theorem pm_inj {x y : ByteArray} (h : bytesOf x = bytesOf y) : x = y := by
  have h1 : (bytesOf x).length = (bytesOf y).length := by rw [h]
  apply ByteArray.ext
  apply Array.ext'
  apply List.ext_getElem?
  intro i
  have h2 : (bytesOf x)[i]? = (bytesOf y)[i]? := by rw [h]
  rw [bytesOf, bytesOf, List.getElem?_map, List.getElem?_map] at h2
  cases hx : x.data.toList[i]? <;> cases hy : y.data.toList[i]? <;> rw [hx, hy] at h2 <;> simp at h2 ⊢
  have := UInt8.toNat_inj.1 (by exact_mod_cast h2)
  exact this
theorem pm_range (s : ByteArray) : ∀ x ∈ bytesOf s, 0 ≤ x ∧ x < 256 := by
  intro x hx
  rw [bytesOf, List.mem_map] at hx
  obtain ⟨b, _, rfl⟩ := hx
  have := b.toNat_lt
  omega
theorem pm_getD (t : ByteArray) (i : Nat) : bt t (i : Int) = (bytesOf t).getD i 0 := by
  by_cases h : i < t.size
  · rw [← rd_bytesOf, rd, Int.toNat_natCast]
  · rw [← rd_bytesOf, rd, Int.toNat_natCast]
theorem toL_length : toL.length = 256 := st2_len 256
theorem fromL_length : fromL.length = 256 := st3_len 256
theorem fromL_range : ∀ i < 256, 0 ≤ fromL.getD i 0 ∧ fromL.getD i 0 < 256 := by decide +kernel
theorem from_to : ∀ i < 256, fromL.getD (toL.getD i 0).toNat 0 = (i : Nat) := by decide +kernel
theorem to_from : ∀ i < 256, toL.getD (fromL.getD i 0).toNat 0 = (i : Nat) := by decide +kernel
theorem mem_range {l : List Int} (hl : l.length = 256) (h : ∀ i < 256, 0 ≤ l.getD i 0 ∧ l.getD i 0 < 256) : ∀ x ∈ l, 0 ≤ x ∧ x < 256 := by
  intro x hx
  obtain ⟨i, hi⟩ := List.getElem?_of_mem hx
  have hlt : i < l.length := (List.getElem?_eq_some_iff.1 hi).1
  have := h i (by omega)
  rw [List.getD_eq_getElem?_getD, hi] at this
  exact this
theorem bt_to (i : Nat) (hi : i < 256) : bt (strOfNums toL) (i : Int) = toL.getD i 0 := by rw [pm_getD, pm_ofNums (mem_range toL_length toL_range)]
theorem bt_from (i : Nat) (hi : i < 256) : bt (strOfNums fromL) (i : Int) = fromL.getD i 0 := by rw [pm_getD, pm_ofNums (mem_range fromL_length fromL_range)]
theorem to_size : (strOfNums toL).size = 256 := by rw [strOfNums_size, toL_length]
theorem from_size : (strOfNums fromL).size = 256 := by rw [strOfNums_size, fromL_length]
theorem all_ge (k : Nat) (hk : 41634 ≤ k) : pilcrowref07_All.f k = some (strOfNums toL) := at_rounds (g := fun k => pilcrowref07_All.f k) (fun k => pilcrowref07_All.mono k) hk all_eq
theorem from_l0 (b : Nat) (hb : b < 256) (k : Nat) : ∀ d i : Nat, i + d = 256 → i ≤ (fromL.getD b 0).toNat → d = 256 - i → pilcrowref07_From.l0 (k + d + 1) (b : Int) (strOfNums toL) (i : Int) = some (fromL.getD b 0)
  | 0, i, hi, hle, _ => by have := fromL_range b hb; omega
  | d + 1, i, hi, hle, hd => by
    have hr := fromL_range b hb
    rw [show k + (d + 1) + 1 = k + d + 1 + 1 by omega, pilcrowref07_From.l0, if_pos (by rw [to_size]; omega), if_pos (by omega), bt_to i (by omega), wrap64_nat i (by omega)]
    by_cases he : toL.getD i 0 = (b : Int)
    · have h1 := from_to i (by omega)
      rw [he, Int.toNat_natCast] at h1
      rw [if_pos he, h1]
      congr 1
      omega
    · have hne : i ≠ (fromL.getD b 0).toNat := by
        rintro rfl
        exact he (to_from b hb)
      rw [if_neg he, from_l0 b hb k d (i + 1) (by omega) (by omega) (by omega)]
theorem refFrom (b : Nat) (hb : b < 256) : pilcrowref07_From.f 41634 (b : Int) = some (fromL.getD b 0) := by
  rw [pilcrowref07_From.f, all_eq, Option.bind_some]
  exact from_l0 b hb 41377 256 0 rfl (Nat.zero_le _) rfl
theorem turn_l0 (all : ByteArray) (hz : all.size = 256) (s : ByteArray) (hs : s.size ≤ 100000) (k : Nat) : ∀ d i : Nat, i + d = s.size → ∀ acc : List Int, acc.length = i → pilcrowref07_Turn.l0 (k + d + 1) s all acc (i : Int) = some (strOfNums (acc ++ ((bytesOf s).drop i).map fun b => bt all b))
  | 0, i, hi, acc, ha => by
    rw [pilcrowref07_Turn.l0, if_neg (by omega), List.drop_eq_nil_of_le (by rw [bytesOf_length]; omega), List.map_nil, List.append_nil]
  | d + 1, i, hi, acc, ha => by
    have hb := pm_getD s i
    have hr := pm_range s ((bytesOf s).getD i 0) (by
      rw [List.getD_eq_getElem?_getD, List.getElem?_eq_getElem (by rw [bytesOf_length]; omega)]
      exact List.getElem_mem _)
    rw [show k + (d + 1) + 1 = k + d + 1 + 1 by omega, pilcrowref07_Turn.l0, if_pos (by omega), if_pos (by omega), hb, if_pos hr.1, if_pos (by rw [hz]; exact hr.2), if_pos (by omega), wrap64_nat i (by omega), turn_l0 all hz s hs k d (i + 1) (by omega) _ (by simp [ha])]
    rw [List.drop_eq_getElem_cons (show i < (bytesOf s).length by rw [bytesOf_length]; omega), List.map_cons, List.append_assoc, List.singleton_append, List.getD_eq_getElem?_getD, List.getElem?_eq_getElem (by rw [bytesOf_length]; omega)]
    rfl
theorem refTurn (all : ByteArray) (hz : all.size = 256) (s : ByteArray) (hs : s.size ≤ 100000) (k : Nat) : pilcrowref07_Turn.f (k + s.size + 1) s all = some (strOfNums ((bytesOf s).map fun b => bt all b)) :=
  turn_l0 all hz s hs k s.size 0 (Nat.zero_add _) [] rfl
theorem map_bt (l : List Int) (hz : ∀ i < 256, bt (strOfNums l) (i : Nat) = l.getD i 0) (s : ByteArray) : (bytesOf s).map (fun b => bt (strOfNums l) b) = (bytesOf s).map (atB l) := by
  apply List.map_congr_left
  intro b hb
  have := pm_range s b hb
  have h1 := hz b.toNat (by omega)
  rw [Int.toNat_of_nonneg this.1] at h1
  exact h1
theorem refText (s : ByteArray) (hs : s.size ≤ 50000) : pilcrowref07_Text.f 100000 s = some (strOfNums ((bytesOf s).map (atB toL))) := by
  have h := refTurn (strOfNums toL) to_size s (by omega) (100000 - s.size - 1)
  rw [show 100000 - s.size - 1 + s.size + 1 = 100000 by omega, map_bt toL bt_to s] at h
  rw [pilcrowref07_Text.f, all_ge _ (by omega), Option.bind_some, h, Option.bind_some]
theorem back_l0 (s : ByteArray) (hs : s.size ≤ 50000) (k : Nat) (hk : s.size + 1 ≤ k) : ∀ d i : Nat, i + d = 256 → pilcrowref07_Back.l0 (k + d + 1) s (strOfNums toL) (st3 i) (i : Int) = some (strOfNums ((bytesOf s).map (atB fromL)))
  | 0, i, hi => by
    obtain rfl : i = 256 := by omega
    have h := refTurn (strOfNums fromL) from_size s (by omega) (k - s.size - 1)
    rw [show k - s.size - 1 + s.size + 1 = k by omega, map_bt fromL bt_from s, fromL] at h
    rw [pilcrowref07_Back.l0, if_neg (by omega), h, Option.bind_some]
    rfl
  | d + 1, i, hi => by
    have hr := toL_range i (by omega)
    have hm : (i : Int) % 256 = i := by omega
    rw [show k + (d + 1) + 1 = k + d + 1 + 1 by omega, pilcrowref07_Back.l0, if_pos (by omega), if_pos (by omega), if_pos (by rw [to_size]; omega), bt_to i (by omega), if_pos hr.1, if_pos (by rw [st3_len]; exact hr.2), wrap64_nat i (by omega), hm]
    exact back_l0 s hs k hk d (i + 1) (by omega)
theorem refBack (s : ByteArray) (hs : s.size ≤ 50000) : pilcrowref07_Back.f 100000 s = some (strOfNums ((bytesOf s).map (atB fromL))) := by
  rw [pilcrowref07_Back.f, all_ge _ (by omega), Option.bind_some, if_pos (by omega)]
  exact back_l0 s hs 99743 (by omega) 256 0 rfl
/-- A text, turned by a list. -/
def turned (l : List Int) (s : ByteArray) : ByteArray := strOfNums ((bytesOf s).map (atB l))
theorem turned_bytes {l : List Int} (h : ∀ i < 256, 0 ≤ l.getD i 0 ∧ l.getD i 0 < 256) (s : ByteArray) : bytesOf (turned l s) = (bytesOf s).map (atB l) := by
  refine pm_ofNums fun x hx => ?_
  rw [List.mem_map] at hx
  obtain ⟨b, hb, rfl⟩ := hx
  have := pm_range s b hb
  exact h b.toNat (by omega)
theorem turned_size (l : List Int) (s : ByteArray) : (turned l s).size = s.size := by rw [turned, strOfNums_size, List.length_map, bytesOf_length]
theorem turned_append {l : List Int} (h : ∀ i < 256, 0 ≤ l.getD i 0 ∧ l.getD i 0 < 256) (a b : ByteArray) : turned l (a ++ b) = turned l a ++ turned l b := by
  apply pm_inj
  rw [turned_bytes h, pm_append, pm_append, turned_bytes h, turned_bytes h, List.map_append]
theorem turned_back {l l2 : List Int} (h : ∀ i < 256, 0 ≤ l.getD i 0 ∧ l.getD i 0 < 256) (h2 : ∀ i < 256, 0 ≤ l2.getD i 0 ∧ l2.getD i 0 < 256) (hb : ∀ i < 256, l2.getD (l.getD i 0).toNat 0 = (i : Nat)) (s : ByteArray) : turned l2 (turned l s) = s := by
  apply pm_inj
  rw [turned_bytes h2, turned_bytes h, List.map_map]
  conv => rhs; rw [← List.map_id (bytesOf s)]
  apply List.map_congr_left
  intro b hbm
  have := pm_range s b hbm
  have h1 := hb b.toNat (by omega)
  simp only [Function.comp, atB, id]
  rw [h1]
  omega
theorem turned_all (s : ByteArray) : turned fromL (turned toL s) = s := turned_back toL_range fromL_range from_to s
theorem turned_all2 (s : ByteArray) : turned toL (turned fromL s) = s := turned_back fromL_range toL_range to_from s
theorem to_inj (a b : Nat) (ha : a < 256) (hb : b < 256) (h : toL.getD a 0 = toL.getD b 0) : a = b := by
  have h1 := from_to a ha
  have h2 := from_to b hb
  rw [h] at h1
  rw [h1] at h2
  exact_mod_cast h2
theorem from_inj (a b : Nat) (ha : a < 256) (hb : b < 256) (h : fromL.getD a 0 = fromL.getD b 0) : a = b := by
  have h1 := to_from a ha
  have h2 := to_from b hb
  rw [h] at h1
  rw [h1] at h2
  exact_mod_cast h2
end Go.Proofs.Ytcfpbihkodjlkaa
