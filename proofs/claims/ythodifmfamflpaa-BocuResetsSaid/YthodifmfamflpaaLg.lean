/- What the laws' walks share: new machines, what a Feed tells. -/
import Derived.Test.YthodifmfamflpaaWr
import Derived.Test.YthodifmfamflpaaSm
import Derived.Test.YthodifmfamflpaaPs
import Derived.Laws.Closers25b
import Derived.Laws.StructEq
namespace Go.Proofs.Ythodifmfamflpaa
open Go.RowKit Go.Proofs.YthodifmfamflpaaW.PrintWords Go.Proofs.YthodifmfamflpaaW.PrintMore
set_option linter.unusedVariables false
set_option linter.unusedSimpArgs false
theorem newd_any (w : World) : Calls Try.prog 19 #[] w fun en w' => en = .returned (.pointer (some ⟨w.heap.size, 0, none⟩)) ∧ Dec w' w.heap.size 54 0 0 0 false nilv [] (cown st0) ∧ Below w.heap.size w w' := by
  go_enter Try.func19, Try.ntmps19
  go_wp2
  go_ret
  exact ⟨rfl, ⟨blk_new _ _, q_none _ _, fun h => by cases h⟩, (Below.refl _ _).alloc (Nat.le_refl _) _⟩
theorem newe_any (w : World) : Calls Try.prog 15 #[] w fun en w' => en = .returned (.pointer (some ⟨w.heap.size, 0, none⟩)) ∧ Enc w' w.heap.size 64 0 0 0 false ⟨#[]⟩ (eown es0) ∧ Below w.heap.size w w' := by
  go_enter Try.func15, Try.ntmps15
  go_wp2
  go_ret
  exact ⟨rfl, blk_new _ _, (Below.refl _ _).alloc (Nat.le_refl _) _⟩
/-- Does a place fit as that at which Feed stops? -/
def awk (s0 : CS) (l : List Int) (room M : Nat) (O : List Int) (fl cut : Bool) (m : Nat) : Bool :=
  match run cnx s0 (l.take m) with
  | none => true
  | some (s, os) => (!(m == l.length || decide (room ≤ os.length)) || (m == M && os == O && !fl && (ccut s == cut))) && (!(decide (m < l.length) && (cnx s (l.getD m 0)).isNone) || (m == M && os == O && fl))
theorem feed_is {w w' : World} {g T : Nat} {a : Int} {s0 : CS} {t : ByteArray} {room : Nat} {en : Ending} (M : Nat) (O : List Int) (fl cut : Bool) (h : FeedPost w g T a s0 t room en w') (hk : ∀ m, m ∈ List.range (t.size + 1) → awk s0 (bytesOf t) room M O fl cut m = true) :
    ∃ r s, en = .returned (.tuple #[.int .i64 M, r]) ∧ w'.ownsRow w.heap.size 34 1 r O.length (nums .u32 O) ∧ Kp (fun k => k = g) w w' ∧
      (fl = false → ccut s = cut ∧ Dec w' g T (a + M) 0 0 false nilv [] (cown s)) ∧ (fl = true → Dec w' g T (a + M) 3 (a + M) false nilv [] (cown s)) := by
  obtain ⟨m, os, r, s, rfl, hm, hr, ho, hkp, _, _, _, hc⟩ := h
  have hm1 := hk m (List.mem_range.2 (by omega))
  rw [awk, hr] at hm1
  simp only [Bool.and_eq_true] at hm1
  obtain ⟨h1, h2⟩ := hm1
  rcases hc with ⟨hd, hx⟩ | ⟨hlt, hn, s1, hd⟩
  · have e : (m == (bytesOf t).length || decide (room ≤ os.length)) = true := by
      rw [bytesOf_length]
      rcases hx with hx | hx
      · simp [hx]
      · simp; omega
    rw [e] at h1
    simp only [Bool.not_true, Bool.false_or, Bool.and_eq_true, beq_iff_eq, Bool.not_eq_true'] at h1
    obtain ⟨⟨⟨rfl, rfl⟩, rfl⟩, h4⟩ := h1
    exact ⟨r, s, rfl, ho, hkp, fun _ => ⟨h4, hd⟩, fun h => by cases h⟩
  · have e : (decide (m < (bytesOf t).length) && (cnx s ((bytesOf t).getD m 0)).isNone) = true := by
      have hb : (bytesOf t).getD m 0 = bt t m := by
        have := rd_bytesOf t (m : Int)
        rw [rd, Int.toNat_natCast] at this
        exact this
      rw [bytesOf_length, hb, hn]
      simp [hlt]
    rw [e] at h2
    simp only [Bool.not_true, Bool.false_or, Bool.and_eq_true, beq_iff_eq] at h2
    obtain ⟨⟨rfl, rfl⟩, rfl⟩ := h2
    exact ⟨r, s1, rfl, ho, hkp, (fun h => by cases h), fun _ => hd⟩
theorem efeed_is {w w' : World} {g T : Nat} {a : Int} {s0 : ES} {c : Int} {en : Ending} (h : EFeedPost w g T a [] s0 [c] 9 en w') (hc : isB c = true) (hl : (eby s0 c).1.length < 9) (hl0 : 0 < (eby s0 c).1.length) :
    ∃ x, en = .returned (.tuple #[.int .i64 1, .string x]) ∧ bytesOf x = (eby s0 c).1 ∧ Kp (fun k => k = g) w w' := by
  obtain ⟨m, x, y, rfl, hm, hsc, hb, hkp, hx, hf, _, _, hcase⟩ := h
  have hz := bytes_size hb
  have h9 : (9 : Int).toNat = 9 := rfl
  rw [h9] at hx hf
  have hm1 : m = 0 ∨ m = 1 := by simp at hm; omega
  rcases hm1 with rfl | rfl
  · have hz2 : x.size + y.size = 0 := hz.trans rfl
    rcases hcase with ⟨_, h1⟩ | ⟨_, h1, _⟩
    · rcases h1 with h1 | h1
      · simp at h1
      · omega
    · simp [hc] at h1
  · have hz2 : x.size + y.size = (eby s0 c).1.length := by rw [hz]; simp [erun]
    simp [erun] at hb
    have hy : y.size = 0 := by
      rcases Nat.eq_zero_or_pos y.size with h0 | h0
      · exact h0
      · have := hf (by omega)
        omega
    have hy0 : bytesOf y = [] := List.eq_nil_of_length_eq_zero (by rw [bytesOf_length]; exact hy)
    rw [hy0, List.append_nil] at hb
    exact ⟨x, rfl, hb, hkp⟩
theorem toList_of_bytes {x : ByteArray} {l : List Int} (h : bytesOf x = l) : x.toList = l.map fun n => UInt8.ofNat n.toNat := by
  rw [ByteArray.toList_eq, ← h, bytesOf, List.map_map]
  refine ((List.map_congr_left (g := id) ?_).trans (List.map_id _)).symm
  intro b _
  simp
theorem Dec.by_ {w w' : World} {g g' T : Nat} {a e f : Int} {d : Bool} {own : List Value} (h : Dec w g T a e f d nilv [] own) (hk : Kp (fun k => k = g') w w') (hne : g ≠ g') : Dec w' g T a e f d nilv [] own := h.nilmove (hk.block g h.lt hne)
theorem Enc.by_ {w w' : World} {g g' T : Nat} {a e f : Int} {d : Bool} {own : List Value} {s : ByteArray} (h : Enc w g T a e f d s own) (hk : Kp (fun k => k = g') w w') (hne : g ≠ g') : Enc w' g T a e f d s own := hk.blk h hne
theorem eqF (x y x2 y2 : Int) (W : World) : (Op.equalIn 10000 45 (.agg #[.int .i64 x, .int .i64 y]) (.agg #[.int .i64 x2, .int .i64 y2])).run Try.prog W = .ok (x == x2 && y == y2) W := by
  refine eqA_of (d := 9999) Try.underlying45 (by kernel_rfl) ?_
  refine eqf_cons (a := .int .i64 x) (b := .int .i64 x2) rfl (by kernel_rfl) (by kernel_rfl) (run_equalIn_int W 9998 _ .i64 .i64 x x2 Try.underlying43) ?_
  exact eqf_last (a := .int .i64 y) (b := .int .i64 y2) rfl (by kernel_rfl) (by kernel_rfl) (run_equalIn_int W 9998 _ .i64 .i64 y y2 Try.underlying3)
theorem two_reads (W : World) (x y : Int) : ReadsInt (W.alloc (.cells #[.int .u32 x, .int .u32 y] 34)) .u32 (some ⟨W.heap.size, 0, none⟩) 2 [x, y] :=
  ⟨rfl, by omega, fun _ => ⟨_, rfl, fun j hj => by
    rw [add_plain]
    match j, hj with
    | 0, _ => exact (blk_cell (blk_new W _) 0).trans rfl
    | 1, _ => exact (blk_cell (blk_new W _) 1).trans rfl⟩⟩
theorem bytes_inj {x y : ByteArray} (h : bytesOf x = bytesOf y) : x = y := by
  have h1 := (toList_of_bytes h).trans (toList_of_bytes (rfl : bytesOf y = bytesOf y)).symm
  rw [ByteArray.toList_eq, ByteArray.toList_eq] at h1
  obtain ⟨⟨a⟩⟩ := x
  obtain ⟨⟨b⟩⟩ := y
  simp at h1
  rw [h1]
end Go.Proofs.Ythodifmfamflpaa
