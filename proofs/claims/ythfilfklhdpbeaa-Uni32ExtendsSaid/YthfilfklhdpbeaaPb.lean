/- UTF-32: what the machine eats and tells is what the reference says; no memory in it. -/
import Derived.Test.YthfilfklhdpbeaaCa
import Derived.Laws.BitsAllLaws
import Derived.Test.YthfilfklhdpbeaaRun
import Derived.Test.YthfilfklhdpbeaaSm
import Derived.Test.YthfilfklhdpbeaaPUni32Readsx
namespace Go.Proofs.Ythfilfklhdpbeaa
open Go.RowKit Go.Proofs.YthfilfklhdpbeaaW.PrintWords Go.Proofs.YthfilfklhdpbeaaW.PrintMore
set_option linter.unusedVariables false
set_option linter.unusedSimpArgs false
theorem isF_at (c : Int) : PUni32Reads.pilcrowref01_Is.f c = some (isB c) := by
  unfold PUni32Reads.pilcrowref01_Is.f isB
  (repeat' split) <;> congr 1 <;> (rw [Bool.eq_iff_iff]; simp; omega)
/-- The number that one to four bytes are. -/
def numB (big : Bool) (q : List Int) : Int := match q with
  | [a] => a
  | [a, b] => if big then a * 256 + b else a + b * 256
  | [a, b, c] => if big then (a * 256 + b) * 256 + c else a + b * 256 + c * 65536
  | [a, b, c, d] => if big then ((a * 256 + b) * 256 + c) * 256 + d else a + b * 256 + c * 65536 + d * 16777216
  | _ => 0
theorem isB_iff (c : Int) : isB c = true ↔ c ≤ 1114111 ∧ (c < 55296 ∨ 57343 < c) := by simp [isB]
theorem begins_1 (k : Nat) (q : ByteArray) (big : Bool) (h : q.size = 1) : ∃ v, PUni32Reads.pilcrowref05_Begins.f (k + 6) q big = some (v, fitsB big 0 (numB big [bt q 0])) := by
  have h0 := bt_range q 0
  cases big
  · have e : isB (bt q 0 % 4294967296) = true := (isB_iff _).2 (by omega)
    refine ⟨bt q 0 % 4294967296, ?_⟩
    simp [PUni32Reads.pilcrowref05_Begins.f, PUni32Reads.pilcrowref05_Begins.l0, PUni32Reads.pilcrowref05_Begins.j1, h, wrap64, isF_at, e, fitsB]
  · by_cases hz : bt q 0 = 0
    · have e : isB (bt q 0 % 4294967296 * 256 % 4294967296 * 256 % 4294967296 * 256 % 4294967296) = true := (isB_iff _).2 (by omega)
      refine ⟨bt q 0 % 4294967296 * 256 % 4294967296 * 256 % 4294967296 * 256 % 4294967296, ?_⟩
      simp [PUni32Reads.pilcrowref05_Begins.f, PUni32Reads.pilcrowref05_Begins.l0, PUni32Reads.pilcrowref05_Begins.j1, h, wrap64, isF_at, e, fitsB, numB]
      simp [hz]
    · have e : isB (bt q 0 % 4294967296 * 256 % 4294967296 * 256 % 4294967296 * 256 % 4294967296) = false := Bool.eq_false_iff.2 (fun h9 => by have := (isB_iff _).1 h9; omega)
      refine ⟨0, ?_⟩
      simp [PUni32Reads.pilcrowref05_Begins.f, PUni32Reads.pilcrowref05_Begins.l0, PUni32Reads.pilcrowref05_Begins.j1, h, wrap64, isF_at, e, fitsB, numB, hz]
theorem begins_2 (k : Nat) (q : ByteArray) (big : Bool) (h : q.size = 2) : ∃ v, PUni32Reads.pilcrowref05_Begins.f (k + 6) q big = some (v, fitsB big 1 (numB big [bt q 0, bt q 1])) := by
  have h0 := bt_range q 0
  have h1 := bt_range q 1
  cases big
  · simp [PUni32Reads.pilcrowref05_Begins.f, PUni32Reads.pilcrowref05_Begins.l0, PUni32Reads.pilcrowref05_Begins.j1, h, wrap64, isF_at, fitsB]
    split <;> exact ⟨_, rfl⟩
  · simp only [PUni32Reads.pilcrowref05_Begins.f, PUni32Reads.pilcrowref05_Begins.l0, PUni32Reads.pilcrowref05_Begins.j1, numB]
    simp [h, wrap64, isF_at, fitsB]
    generalize bt q 0 = a at *
    generalize bt q 1 = b at *
    by_cases hx : a * 256 + b ≤ 16
    · rw [if_pos ((isB_iff _).2 (by omega)), decide_eq_true hx]
      exact ⟨_, rfl⟩
    · rw [if_neg (fun h9 => by have := (isB_iff _).1 h9; omega), decide_eq_false hx]
      by_cases ha : a = 0
      · rw [if_pos ha, if_neg (by omega)]
        exact ⟨_, rfl⟩
      · rw [if_neg ha]
        exact ⟨_, rfl⟩
theorem begins_3 (k : Nat) (q : ByteArray) (big : Bool) (h : q.size = 3) : ∃ v, PUni32Reads.pilcrowref05_Begins.f (k + 6) q big = some (v, fitsB big 2 (numB big [bt q 0, bt q 1, bt q 2])) := by
  have h0 := bt_range q 0
  have h1 := bt_range q 1
  have h2 := bt_range q 2
  cases big
  · simp only [PUni32Reads.pilcrowref05_Begins.f, PUni32Reads.pilcrowref05_Begins.l0, PUni32Reads.pilcrowref05_Begins.j1, numB]
    simp [h, wrap64, isF_at, fitsB]
    generalize bt q 0 = a at *
    generalize bt q 1 = b at *
    generalize bt q 2 = c at *
    rw [show ((c % 4294967296 * 256 + b) % 4294967296 * 256 + a) % 4294967296 = a + b * 256 + c * 65536 by omega]
    cases isB (a + b * 256 + c * 65536)
    · exact ⟨_, rfl⟩
    · exact ⟨_, rfl⟩
  · simp only [PUni32Reads.pilcrowref05_Begins.f, PUni32Reads.pilcrowref05_Begins.l0, PUni32Reads.pilcrowref05_Begins.j1, numB]
    simp [h, wrap64, isF_at, fitsB]
    generalize bt q 0 = a at *
    generalize bt q 1 = b at *
    generalize bt q 2 = c at *
    rw [show ((a % 4294967296 * 256 + b) % 4294967296 * 256 + c) % 4294967296 * 256 % 4294967296 = ((a * 256 + b) * 256 + c) * 256 % 4294967296 by omega]
    cases isB (((a * 256 + b) * 256 + c) * 256 % 4294967296)
    · exact ⟨_, rfl⟩
    · exact ⟨_, rfl⟩
theorem begins_4 (k : Nat) (q : ByteArray) (big : Bool) (h : q.size = 4) : PUni32Reads.pilcrowref05_Begins.f (k + 6) q big = some (if isB (numB big [bt q 0, bt q 1, bt q 2, bt q 3]) = true then (numB big [bt q 0, bt q 1, bt q 2, bt q 3], true) else (0, false)) := by
  have h0 := bt_range q 0
  have h1 := bt_range q 1
  have h2 := bt_range q 2
  have h3 := bt_range q 3
  cases big
  · simp only [PUni32Reads.pilcrowref05_Begins.f, PUni32Reads.pilcrowref05_Begins.l0, PUni32Reads.pilcrowref05_Begins.j1, numB]
    simp [h, wrap64, isF_at, fitsB]
    generalize bt q 0 = a at *
    generalize bt q 1 = b at *
    generalize bt q 2 = c at *
    generalize bt q 3 = d at *
    rw [show (((d % 4294967296 * 256 + c) % 4294967296 * 256 + b) % 4294967296 * 256 + a) % 4294967296 = a + b * 256 + c * 65536 + d * 16777216 by omega]
    split <;> rfl
  · simp only [PUni32Reads.pilcrowref05_Begins.f, PUni32Reads.pilcrowref05_Begins.l0, PUni32Reads.pilcrowref05_Begins.j1, numB]
    simp [h, wrap64, isF_at, fitsB]
    generalize bt q 0 = a at *
    generalize bt q 1 = b at *
    generalize bt q 2 = c at *
    generalize bt q 3 = d at *
    rw [show (((a % 4294967296 * 256 + b) % 4294967296 * 256 + c) % 4294967296 * 256 + d) % 4294967296 = ((a * 256 + b) * 256 + c) * 256 + d by omega]
    split <;> rfl
/-! ### The machine's number -/
theorem or_join (i : Nat) (x y : Int) (hx0 : 0 ≤ x) (hx1 : x < 4294967296) (hxm : x.toNat % 2 ^ i = 0) (hy0 : 0 ≤ y) (hy1 : y.toNat < 2 ^ i) (hy2 : y < 4294967296) : Go.bits .or .u32 x y = x + y ∧ Go.bits .or .u32 y x = x + y := by
  constructor
  · rw [u32_or x y hx0 hx1 hy0 hy2, nat_join i _ _ hxm hy1]; omega
  · rw [u32_or y x hy0 hy2 hx0 hx1, Nat.or_comm, nat_join i _ _ hxm hy1]; omega
/-- The state behind some bytes of a word. -/
def stOf (big : Bool) (q : List Int) : CS := ⟨big, q.length, numB big q⟩
theorem cat_0 (big : Bool) (b : Int) (h0 : 0 ≤ b) (h1 : b ≤ 255) : cat32 big 0 0 b = numB big [b] := by
  cases big
  · have := (or_join 8 0 b (by omega) (by omega) rfl h0 (by omega) (by omega)).1
    simp [cat32, numB]
    rw [show b % 4294967296 = b by omega, this]; omega
  · have := (or_join 8 0 b (by omega) (by omega) rfl h0 (by omega) (by omega)).1
    simp [cat32, numB]
    rw [this]; omega
theorem cat_1 (big : Bool) (a b : Int) (a0 : 0 ≤ a) (a1 : a ≤ 255) (h0 : 0 ≤ b) (h1 : b ≤ 255) : cat32 big 1 (numB big [a]) b = numB big [a, b] := by
  cases big
  · have := (or_join 8 (b * 256) a (by omega) (by omega) (by omega) a0 (by omega) (by omega)).2
    simp [cat32, numB]
    rw [show b * 256 % 4294967296 = b * 256 by omega, this]; omega
  · have := (or_join 8 (a * 256) b (by omega) (by omega) (by omega) h0 (by omega) (by omega)).1
    simp [cat32, numB]
    rw [show a * 256 % 4294967296 = a * 256 by omega, this]
theorem cat_2 (big : Bool) (a c b : Int) (a0 : 0 ≤ a) (a1 : a ≤ 255) (c0 : 0 ≤ c) (c1 : c ≤ 255) (h0 : 0 ≤ b) (h1 : b ≤ 255) : cat32 big 2 (numB big [a, c]) b = numB big [a, c, b] := by
  cases big
  · have := (or_join 16 (b * 65536) (a + c * 256) (by omega) (by omega) (by omega) (by omega) (by omega) (by omega)).2
    simp [cat32, numB]
    rw [show b * 65536 % 4294967296 = b * 65536 by omega, this]; omega
  · have := (or_join 8 ((a * 256 + c) * 256) b (by omega) (by omega) (by omega) h0 (by omega) (by omega)).1
    simp [cat32, numB]
    rw [show (a * 256 + c) * 256 % 4294967296 = (a * 256 + c) * 256 by omega, this]
theorem cat_3 (big : Bool) (a c e b : Int) (a0 : 0 ≤ a) (a1 : a ≤ 255) (c0 : 0 ≤ c) (c1 : c ≤ 255) (e0 : 0 ≤ e) (e1 : e ≤ 255) (h0 : 0 ≤ b) (h1 : b ≤ 255) : cat32 big 3 (numB big [a, c, e]) b = numB big [a, c, e, b] := by
  cases big
  · have := (or_join 24 (b * 16777216) (a + c * 256 + e * 65536) (by omega) (by omega) (by omega) (by omega) (by omega) (by omega)).2
    simp [cat32, numB]
    rw [show b * 16777216 % 4294967296 = b * 16777216 by omega, this]; omega
  · have := (or_join 8 (((a * 256 + c) * 256 + e) * 256) b (by omega) (by omega) (by omega) h0 (by omega) (by omega)).1
    simp [cat32, numB]
    rw [show ((a * 256 + c) * 256 + e) * 256 % 4294967296 = ((a * 256 + c) * 256 + e) * 256 by omega, this]
/-- One byte more. -/
theorem cnx_at (big : Bool) (q : List Int) (b : Int) (hq : q.length ≤ 3) (hr : ∀ x ∈ q, 0 ≤ x ∧ x ≤ 255) (h0 : 0 ≤ b) (h1 : b ≤ 255) :
    cnx (stOf big q) b = if fitsB big q.length (numB big (q ++ [b])) = true then some (if q.length = 3 then (stOf big [], some (numB big (q ++ [b]))) else (stOf big (q ++ [b]), none)) else none := by
  have hc : cat32 big q.length (numB big q) b = numB big (q ++ [b]) := by
    match q, hq, hr with
    | [], _, _ => exact cat_0 big b h0 h1
    | [x], _, hr => have := hr x (by simp); exact cat_1 big x b this.1 this.2 h0 h1
    | [x, y], _, hr => have := hr x (by simp); have h2 := hr y (by simp); exact cat_2 big x y b this.1 this.2 h2.1 h2.2 h0 h1
    | [x, y, z], _, hr => have := hr x (by simp); have h2 := hr y (by simp); have h3 := hr z (by simp); exact cat_3 big x y z b this.1 this.2 h2.1 h2.2 h3.1 h3.2 h0 h1
  unfold cnx stOf
  simp only [hc]
  by_cases hf : fitsB big q.length (numB big (q ++ [b])) = true
  · rw [if_pos hf, if_pos hf]
    by_cases h3 : q.length = 3
    · have h4 : (q.length : Int) = 3 := by omega
      rw [if_pos h3, if_pos h4]; rfl
    · have h4 : ¬ (q.length : Int) = 3 := by omega
      rw [if_neg h3, if_neg h4]; simp
  · rw [if_neg hf, if_neg hf]
theorem bytesOf_range (t : ByteArray) : ∀ x ∈ bytesOf t, 0 ≤ x ∧ x ≤ 255 := by
  intro x hx
  simp only [bytesOf, List.mem_map] at hx
  obtain ⟨b, _, rfl⟩ := hx
  have := b.toNat_lt
  omega
theorem bytesOf_bt (q : ByteArray) : bytesOf q = (List.range q.size).map fun (i : Nat) => bt q i := by
  apply List.ext_getElem
  · rw [bytesOf_length]; simp
  · intro i h1 h2
    have := rd_bytesOf q (i : Int)
    rw [rd, Int.toNat_natCast, List.getD_eq_getElem?_getD, List.getElem?_eq_getElem h1] at this
    simpa using this
theorem begins_any (k : Nat) (q : ByteArray) (big : Bool) (n : Nat) (h : q.size = n + 1) (hn : n ≤ 3) : ∃ v, PUni32Reads.pilcrowref05_Begins.f (k + 6) q big = some (v, fitsB big n (numB big (bytesOf q))) ∧ (n = 3 → fitsB big n (numB big (bytesOf q)) = true → v = numB big (bytesOf q)) := by
  have hb := bytesOf_bt q
  rw [h] at hb
  match n, hn with
  | 0, _ => rw [hb]; obtain ⟨v, hv⟩ := begins_1 k q big h; exact ⟨v, hv, fun h9 => by omega⟩
  | 1, _ => rw [hb]; obtain ⟨v, hv⟩ := begins_2 k q big h; exact ⟨v, hv, fun h9 => by omega⟩
  | 2, _ => rw [hb]; obtain ⟨v, hv⟩ := begins_3 k q big h; exact ⟨v, hv, fun h9 => by omega⟩
  | 3, _ =>
    rw [hb]
    have hv := begins_4 k q big h
    have e : fitsB big ((3 : Nat) : Int) (numB big [bt q 0, bt q 1, bt q 2, bt q 3]) = isB (numB big [bt q 0, bt q 1, bt q 2, bt q 3]) := by simp [fitsB]
    show ∃ v, _ = some (v, fitsB big ((3 : Nat) : Int) (numB big [bt q 0, bt q 1, bt q 2, bt q 3])) ∧ (3 = 3 → fitsB big ((3 : Nat) : Int) (numB big [bt q 0, bt q 1, bt q 2, bt q 3]) = true → v = numB big [bt q 0, bt q 1, bt q 2, bt q 3])
    rw [e, hv]
    by_cases hi : isB (numB big [bt q 0, bt q 1, bt q 2, bt q 3]) = true
    · rw [if_pos hi, hi]; exact ⟨_, rfl, fun _ _ => rfl⟩
    · rw [if_neg hi, Bool.eq_false_iff.2 hi]; exact ⟨_, rfl, fun _ h9 => by cases h9⟩
/-! ### The reference's Read -/
/-- The bytes of the word that is begun behind k bytes. -/
def wordAt (L : List Int) (k : Nat) : List Int := (L.take k).drop (k / 4 * 4)
theorem wordAt_len {L : List Int} {k : Nat} (h : k ≤ L.length) : (wordAt L k).length = k % 4 := by
  rw [wordAt, List.length_drop, List.length_take]; omega
theorem wordAt_next {L : List Int} {k : Nat} (h : k < L.length) : (L.take (k + 1)).drop (k / 4 * 4) = wordAt L k ++ [L.getD k 0] := by
  rw [wordAt, List.take_succ_eq_append_getElem h, List.drop_append_of_le_length (by rw [List.length_take]; omega), List.getD_eq_getElem?_getD, List.getElem?_eq_getElem h]
  rfl
theorem getD_bt (t : ByteArray) (k : Nat) : (bytesOf t).getD k 0 = bt t k := by
  have := rd_bytesOf t (k : Int)
  rw [rd, Int.toNat_natCast] at this
  exact this
theorem bytes_mid (t : ByteArray) (i j : Nat) (h : i ≤ j) (hj : j ≤ t.size) : bytesOf (t.extract i j) = ((bytesOf t).take j).drop i ∧ (t.extract i j).size = j - i := by
  constructor
  · rw [bytesOf, bytesOf, ByteArray.data_extract, Array.toList_extract, List.extract_eq_take_drop, ← List.map_take, ← List.map_drop, List.drop_take]
  · rw [ByteArray.size_extract]; omega
theorem run_none {s : CS} {L : List Int} {k m : Nat} (hk : k ≤ m) (h : run cnx s (L.take k) = none) : run cnx s (L.take m) = none := by
  obtain ⟨d, rfl⟩ : ∃ d, m = k + d := ⟨m - k, by omega⟩
  rw [List.take_add, run_append, h]; rfl
theorem up_one (k : Nat) (h : k ≤ 1000000) : wrap64 ((k : Int) + 1) = ((k + 1 : Nat) : Int) := by rw [w64 (by omega) (by omega)]; omega
theorem up_four (k : Nat) (h : k ≤ 1000000) : wrap64 (wrap64 (Int.tdiv (k : Int) 4) * 4) = ((k / 4 * 4 : Nat) : Int) := by
  have e : Int.tdiv (k : Int) 4 = ((k / 4 : Nat) : Int) := by rw [Int.tdiv_eq_ediv_of_nonneg (by omega)]; omega
  have h4 : k / 4 ≤ 1000000 := by omega
  rw [e]
  generalize k / 4 = j at *
  rw [w64 (x := (j : Int)) (by omega) (by omega), w64 (by omega) (by omega)]
  omega
theorem mod_four (k : Nat) : Int.tmod (k : Int) 4 = ((k % 4 : Nat) : Int) := by rw [Int.tmod_eq_emod_of_nonneg (by omega)]; omega
theorem split_four (k : Nat) : ∃ i j, k = i + j ∧ j ≤ 3 ∧ k / 4 * 4 = i ∧ k % 4 = j ∧ (j = 3 → (k + 1) / 4 * 4 = k + 1) ∧ (j < 3 → (k + 1) / 4 * 4 = i) := ⟨k / 4 * 4, k % 4, by omega, by omega, rfl, rfl, by omega, by omega⟩
/-- One round of the reference's Read. -/
theorem read_round (t : ByteArray) (big : Bool) (hz : t.size ≤ 1000000) (k fuel : Nat) (os : List Int) (hk : k < t.size) (hos : os.length ≤ 1000000) :
    PUni32Reads.pilcrowref05_Read.l0 (fuel + 6 + 1) t big os (k : Int) = if fitsB big ((k % 4 : Nat) : Int) (numB big (wordAt (bytesOf t) k ++ [bt t k])) = true then
      (if k % 4 = 3 then PUni32Reads.pilcrowref05_Read.l0 (fuel + 6) t big (os ++ [numB big (wordAt (bytesOf t) k ++ [bt t k])]) ((k + 1 : Nat) : Int) else PUni32Reads.pilcrowref05_Read.l0 (fuel + 6) t big os ((k + 1 : Nat) : Int)) else some (os, 3, (k : Int)) := by
  have hL := bytesOf_length t
  have hkl : k < (bytesOf t).length := by omega
  have e1 := up_one k (by omega)
  have e2 := up_four k (by omega)
  have e3 := mod_four k
  have hwn := wordAt_next hkl
  obtain ⟨i, j, hij, hj, h4, h5, _, _⟩ := split_four k
  rw [h4] at e2 hwn
  rw [h5] at e3
  obtain ⟨hq, hqs⟩ := bytes_mid t i (k + 1) (by omega) (by omega)
  have hqs2 : (t.extract i (k + 1)).size = j + 1 := by omega
  rw [hwn, getD_bt] at hq
  obtain ⟨v, hv, hv3⟩ := begins_any fuel (t.extract i (k + 1)) big j hqs2 hj
  rw [hq] at hv hv3
  clear hq hqs hqs2 hwn
  rw [h5]
  rw [PUni32Reads.pilcrowref05_Read.l0, if_pos (by omega), e1, e2, e3, if_pos (by omega), if_pos (by omega), if_pos (by omega), Int.toNat_natCast, Int.toNat_natCast, hv, Option.bind_some]
  by_cases hfit : fitsB big (j : Int) (numB big (wordAt (bytesOf t) k ++ [bt t k])) = true
  · simp only [hfit, if_true]
    by_cases h3 : j = 3
    · have h3' : (j : Int) = 3 := by omega
      rw [if_pos h3, if_pos h3', if_pos (by omega), hv3 h3 hfit]
    · have h3' : ¬ (j : Int) = 3 := by omega
      rw [if_neg h3, if_neg h3']
  · simp only [Bool.eq_false_iff.2 hfit, Bool.false_eq_true, if_false]
theorem read_loop (t : ByteArray) (big : Bool) (hz : t.size ≤ 1000000) (m : Nat) (fin : CS) (out : List Int) (hm : m ≤ t.size) (hrun : run cnx (stOf big []) ((bytesOf t).take m) = some (fin, out)) (hend : m = t.size ∨ (m < t.size ∧ cnx fin (bt t m) = none)) (d : Nat) :
    ∀ (k fuel : Nat) (os : List Int), t.size - k = d → k ≤ m → run cnx (stOf big []) ((bytesOf t).take k) = some (stOf big (wordAt (bytesOf t) k), os) → os.length ≤ k → d + 10 ≤ fuel →
    PUni32Reads.pilcrowref05_Read.l0 fuel t big os (k : Int) = some (out, if m < t.size then 3 else if m % 4 = 0 then 0 else 4, (m : Int)) := by
  have hL := bytesOf_length t
  induction d with
  | zero =>
    intro k fuel os hd hk hr hos hf
    obtain ⟨fuel, rfl⟩ : ∃ q, fuel = q + 1 := ⟨fuel - 1, by omega⟩
    obtain rfl : k = m := by omega
    rw [hr] at hrun
    simp only [Option.some.injEq, Prod.mk.injEq] at hrun
    obtain ⟨_, rfl⟩ := hrun
    rw [PUni32Reads.pilcrowref05_Read.l0, if_neg (by omega), if_neg (by omega : ¬ k < t.size)]
    by_cases h4 : k % 4 = 0
    · rw [if_neg (by omega), if_pos h4, show (t.size : Int) = k by omega]
    · rw [if_pos (by omega), if_neg h4, show (t.size : Int) = k by omega]
  | succ d ih =>
    intro k fuel os hd hk hr hos hf
    obtain ⟨fuel, rfl⟩ : ∃ q, fuel = (q + 6) + 1 := ⟨fuel - 7, by omega⟩
    have hks : k < t.size := by omega
    have hkl : k < (bytesOf t).length := by omega
    have hwl := wordAt_len (L := bytesOf t) (k := k) (by omega)
    have hwn := wordAt_next hkl
    have hwz := wordAt_len (L := bytesOf t) (k := k + 1) (by omega)
    have hb := bt_range t k
    have hround := read_round t big hz k fuel os hks (by omega)
    obtain ⟨i, j, hij, hj, h4, h5, h6, h7⟩ := split_four k
    have hc := cnx_at big (wordAt (bytesOf t) k) (bt t k) (by omega) (fun x hx => bytesOf_range t x (List.mem_of_mem_take (List.mem_of_mem_drop hx))) hb.1 hb.2
    rw [hwl] at hc
    have hsn : run cnx (stOf big []) ((bytesOf t).take (k + 1)) = (cnx (stOf big (wordAt (bytesOf t) k)) (bt t k)).map fun p => (p.1, os ++ p.2.toList) := by
      rw [take_bt t k hks, run_snoc, hr]; rfl
    rw [hround]
    have hw3 : j = 3 → wordAt (bytesOf t) (k + 1) = [] := fun h9 => List.eq_nil_of_length_eq_zero (by rw [hwz]; omega)
    have hwn3 : j ≠ 3 → wordAt (bytesOf t) (k + 1) = wordAt (bytesOf t) k ++ [bt t k] := fun h9 => by
      rw [← getD_bt, ← hwn, wordAt, h7 (by omega), h4]
    clear hround hwn hwz hwl h6 h7 h4
    rw [h5] at hc ⊢
    clear h5 hij
    by_cases hfit : fitsB big (j : Int) (numB big (wordAt (bytesOf t) k ++ [bt t k])) = true
    · rw [if_pos hfit] at hc ⊢
      rw [hc] at hsn
      have hkm : k < m := by
        rcases Nat.lt_or_ge k m with h9 | h9
        · exact h9
        · obtain rfl : k = m := by omega
          rw [hr] at hrun
          simp only [Option.some.injEq, Prod.mk.injEq] at hrun
          obtain ⟨rfl, rfl⟩ := hrun
          rcases hend with h8 | ⟨_, h8⟩
          · omega
          · rw [hc] at h8; cases h8
      by_cases h3 : j = 3
      · rw [if_pos h3] at hsn ⊢
        refine ih (k + 1) (fuel + 6) _ (by omega) hkm ?_ (by rw [List.length_append, List.length_singleton]; omega) (by omega)
        rw [hsn, hw3 h3]; rfl
      · rw [if_neg h3] at hsn ⊢
        refine ih (k + 1) (fuel + 6) _ (by omega) hkm ?_ (by omega) (by omega)
        rw [hsn, hwn3 h3]
        simp
    · rw [if_neg hfit] at hc ⊢
      rw [hc] at hsn
      have hkm : k = m := by
        rcases Nat.lt_or_ge k m with h9 | h9
        · rw [run_none (k := k + 1) h9 (by rw [hsn]; rfl)] at hrun; cases hrun
        · omega
      subst hkm
      rw [hr] at hrun
      simp only [Option.some.injEq, Prod.mk.injEq] at hrun
      obtain ⟨rfl, rfl⟩ := hrun
      rw [if_pos hks]
theorem readF_at (t : ByteArray) (big : Bool) (hz : t.size ≤ 1000000) (m : Nat) (fin : CS) (out : List Int) (hm : m ≤ t.size) (hrun : run cnx (stOf big []) ((bytesOf t).take m) = some (fin, out)) (hend : m = t.size ∨ (m < t.size ∧ cnx fin (bt t m) = none)) :
    PUni32Reads.pilcrowref05_Read.f (t.size + 10) t big = some (out, if m < t.size then 3 else if m % 4 = 0 then 0 else 4, (m : Int)) := by
  rw [PUni32Reads.pilcrowref05_Read.f]
  exact read_loop t big hz m fin out hm hrun hend t.size 0 _ [] (by omega) (by omega) rfl (by simp) (by omega)
end Go.Proofs.Ythfilfklhdpbeaa
