/- The law's awake: answers that the document fixes. -/
import Derived.Test.YtjddbdhpdenaeaaWr
import Derived.Test.YtjddbdhpdenaeaaSm
import Derived.Laws.Closers25b
import Derived.Laws.StructEq
namespace Go.Proofs.Ytjddbdhpdenaeaa
open Go.RowKit Go.Proofs.YtjddbdhpdenaeaaW.PrintWords Go.Proofs.YtjddbdhpdenaeaaW.PrintMore
set_option linter.unusedVariables false
set_option linter.unusedSimpArgs false
theorem newd_any (big : Bool) (w : World) : Calls Try.prog 11 #[.bool big] w fun en w' => en = .returned (.pointer (some ⟨w.heap.size, 0, none⟩)) ∧ Dec w' w.heap.size 46 0 0 0 false nilv [] (cown ⟨big, false, 0, 0⟩) ∧ Below w.heap.size w w' := by
  go_enter Try.func11, Try.ntmps11
  go_wp2
  go_ret
  exact ⟨rfl, ⟨blk_new _ _, q_none _ _, fun h => by cases h⟩, (Below.refl _ _).alloc (Nat.le_refl _) _⟩
theorem newe_any (big : Bool) (w : World) : Calls Try.prog 18 #[.bool big] w fun en w' => en = .returned (.pointer (some ⟨w.heap.size, 0, none⟩)) ∧ Enc w' w.heap.size 61 0 0 0 false ⟨#[]⟩ (eown ⟨big⟩) ∧ Below w.heap.size w w' := by
  go_enter Try.func18, Try.ntmps18
  go_wp2
  go_ret
  exact ⟨rfl, blk_new _ _, (Below.refl _ _).alloc (Nat.le_refl _) _⟩
/-- Does a place fit as that at which Feed stops? -/
def awk (s0 : CS) (l : List Int) (room M : Nat) (O : List Int) (fl cut : Bool) (m : Nat) : Bool :=
  match run cnx s0 (l.take m) with
  | none => true
  | some (s, os) => (!(m == l.length || decide (room ≤ os.length)) || (m == M && os == O && !fl && (ccut s == cut))) && (!(decide (m < l.length) && (cnx s (l.getD m 0)).isNone) || (m == M && os == O && fl))
theorem feed_is {w w' : World} {g T : Nat} {a : Int} {s0 : CS} {t : ByteArray} {room : Nat} {en : Ending} (M : Nat) (O : List Int) (fl cut : Bool) (h : FeedPost w g T a s0 t room en w') (hk : ∀ m, m ∈ List.range (t.size + 1) → awk s0 (bytesOf t) room M O fl cut m = true) :
    ∃ r s, en = .returned (.tuple #[.int .i64 M, r]) ∧ w'.ownsRow w.heap.size 44 1 r O.length (nums .u32 O) ∧ Kp (fun k => k = g) w w' ∧
      (fl = false → ccut s = cut ∧ Dec w' g T (a + M) 0 0 false nilv [] (cown s)) ∧ (fl = true → Dec w' g T (a + M) 3 (a + M) false nilv [] (cown s)) := by
  obtain ⟨m, os, r, s, rfl, hm, hr, ho, hkp, _, _, _, hc⟩ := h
  have hm1 := hk m (List.mem_range.2 (by omega))
  rw [awk, hr] at hm1
  simp only [Bool.and_eq_true] at hm1
  obtain ⟨h1, h2⟩ := hm1
  rcases hc with ⟨hd, hx⟩ | ⟨hlt, hn, s1, hd⟩
  · have e : (m == (bytesOf t).length || decide (room ≤ os.length)) = true := by
      rw [bytesOf_length]
      rcases hx with hx | hx
      · simp [hx]
      · simp; omega
    rw [e] at h1
    simp only [Bool.not_true, Bool.false_or, Bool.and_eq_true, beq_iff_eq, Bool.not_eq_true'] at h1
    obtain ⟨⟨⟨rfl, rfl⟩, rfl⟩, h4⟩ := h1
    exact ⟨r, s, rfl, ho, hkp, fun _ => ⟨h4, hd⟩, fun h => by cases h⟩
  · have e : (decide (m < (bytesOf t).length) && (cnx s ((bytesOf t).getD m 0)).isNone) = true := by
      have hb : (bytesOf t).getD m 0 = bt t m := by
        have := rd_bytesOf t (m : Int)
        rw [rd, Int.toNat_natCast] at this
        exact this
      rw [bytesOf_length, hb, hn]
      simp [hlt]
    rw [e] at h2
    simp only [Bool.not_true, Bool.false_or, Bool.and_eq_true, beq_iff_eq] at h2
    obtain ⟨⟨rfl, rfl⟩, rfl⟩ := h2
    exact ⟨r, s1, rfl, ho, hkp, (fun h => by cases h), fun _ => hd⟩
theorem efeed_is {w w' : World} {g T : Nat} {a : Int} {s0 : ES} {c : Int} {en : Ending} (h : EFeedPost w g T a [] s0 [c] 9 en w') (hc : isB c = true) (hl : (eby s0 c).1.length < 9) (hl0 : 0 < (eby s0 c).1.length) :
    ∃ x, en = .returned (.tuple #[.int .i64 1, .string x]) ∧ bytesOf x = (eby s0 c).1 ∧ Kp (fun k => k = g) w w' := by
  obtain ⟨m, x, y, rfl, hm, hsc, hb, hkp, hx, hf, _, _, hcase⟩ := h
  have hz := bytes_size hb
  have h9 : (9 : Int).toNat = 9 := rfl
  rw [h9] at hx hf
  have hm1 : m = 0 ∨ m = 1 := by simp at hm; omega
  rcases hm1 with rfl | rfl
  · have hz2 : x.size + y.size = 0 := hz.trans rfl
    rcases hcase with ⟨_, h1⟩ | ⟨_, h1, _⟩
    · rcases h1 with h1 | h1
      · simp at h1
      · omega
    · simp [hc] at h1
  · have hz2 : x.size + y.size = (eby s0 c).1.length := by rw [hz]; simp [erun]
    simp [erun] at hb
    have hy : y.size = 0 := by
      rcases Nat.eq_zero_or_pos y.size with h0 | h0
      · exact h0
      · have := hf (by omega)
        omega
    have hy0 : bytesOf y = [] := List.eq_nil_of_length_eq_zero (by rw [bytesOf_length]; exact hy)
    rw [hy0, List.append_nil] at hb
    exact ⟨x, rfl, hb, hkp⟩
theorem toList_of_bytes {x : ByteArray} {l : List Int} (h : bytesOf x = l) : x.toList = l.map fun n => UInt8.ofNat n.toNat := by
  rw [ByteArray.toList_eq, ← h, bytesOf, List.map_map]
  refine ((List.map_congr_left (g := id) ?_).trans (List.map_id _)).symm
  intro b _
  simp
theorem Dec.by_ {w w' : World} {g g' T : Nat} {a e f : Int} {d : Bool} {own : List Value} (h : Dec w g T a e f d nilv [] own) (hk : Kp (fun k => k = g') w w') (hne : g ≠ g') : Dec w' g T a e f d nilv [] own := h.nilmove (hk.block g h.lt hne)
theorem Enc.by_ {w w' : World} {g g' T : Nat} {a e f : Int} {d : Bool} {own : List Value} {s : ByteArray} (h : Enc w g T a e f d s own) (hk : Kp (fun k => k = g') w w') (hne : g ≠ g') : Enc w' g T a e f d s own := hk.blk h hne
theorem eqF (x y x2 y2 : Int) (W : World) : (Op.equalIn 10000 36 (.agg #[.int .i64 x, .int .i64 y]) (.agg #[.int .i64 x2, .int .i64 y2])).run Try.prog W = .ok (x == x2 && y == y2) W := by
  refine eqA_of (d := 9999) Try.underlying36 (by kernel_rfl) ?_
  refine eqf_cons (a := .int .i64 x) (b := .int .i64 x2) rfl (by kernel_rfl) (by kernel_rfl) (run_equalIn_int W 9998 _ .i64 .i64 x x2 Try.underlying34) ?_
  exact eqf_last (a := .int .i64 y) (b := .int .i64 y2) rfl (by kernel_rfl) (by kernel_rfl) (run_equalIn_int W 9998 _ .i64 .i64 y y2 Try.underlying3)
theorem two_reads (W : World) (x y : Int) : ReadsInt (W.alloc (.cells #[.int .u32 x, .int .u32 y] 44)) .u32 (some ⟨W.heap.size, 0, none⟩) 2 [x, y] :=
  ⟨rfl, by omega, fun _ => ⟨_, rfl, fun j hj => by
    rw [add_plain]
    match j, hj with
    | 0, _ => exact (blk_cell (blk_new W _) 0).trans rfl
    | 1, _ => exact (blk_cell (blk_new W _) 1).trans rfl⟩⟩
theorem awake_any (w : World) : Calls Try.prog 9 #[] w fun en w' => en = .returned (.bool true) ∧ Below w.heap.size w w' := by
  have heq := eqF
  go_enter Try.func9, Try.ntmps9
  go_wp2_with fail
  refine (newd_any true _).mono ?_
  rintro en w1 ⟨rfl, hd1, hb1⟩
  have HL1 := Lib.hid hd1.lt
  have HD1 := Lib.hid hd1
  have HB1 := Lib.hid hb1
  clear hd1 hb1
  go_wp2_with fail
  refine (newd_any false _).mono ?_
  rintro en w2 ⟨rfl, hd2, hb2⟩
  have HL2 := Lib.hid hd2.lt
  have HD2 := Lib.hid hd2
  have HD12 := Lib.hid (HD1.out.below hb2)
  have HB2 := Lib.hid hb2
  clear hd2 hb2
  go_wp2_with fail
  refine (newe_any false _).mono ?_
  rintro en w3 ⟨rfl, he3, hb3⟩
  have HE3 := Lib.hid he3
  have HD13 := Lib.hid (HD12.out.below hb3)
  have HD23 := Lib.hid (HD2.out.below hb3)
  have HB3 := Lib.hid hb3
  clear he3 hb3
  have hz1 := HB1.out.size
  have hz2 := HB2.out.size
  have hz3 := HB3.out.size
  have hl1 := HL1.out
  have hl2 := HL2.out
  have HBW3 : Hid (Below w.heap.size w w3) := (HB1.out.trans (HB2.out.mono hz1)).trans (HB3.out.mono (by omega))
  generalize hg1 : w.heap.size = g1 at *
  generalize hg2 : w1.heap.size = g2 at *
  generalize hg3 : w2.heap.size = g3 at *
  have HG1 := Lib.hid hg1
  have HG2 := Lib.hid hg2
  have HG3 := Lib.hid hg3
  clear hg1 hg2 hg3
  go_wp2_with fail
  refine (feed_any _ 9 _ ⟨⟨by decide, by decide⟩, .inl rfl⟩ (by decide) (by omega) (by omega) HD13.out).mono ?_
  rintro en w4 h4
  obtain ⟨r4, s4, rfl, ho4, hk4, _, hf4⟩ := feed_is 6 [65, 128512] true false h4 (by decide +kernel)
  have HF4 := Lib.hid (hf4 rfl)
  obtain ⟨A4, c4, rfl, hle4, _⟩ := own_reads_of_le (enc := fun x => Value.int .u32 x) (d := (0 : Int)) ho4
  have HLE4 := Lib.hid hle4
  have HO4 := Lib.hid ho4
  have HK4 := Lib.hid hk4
  have HD24 := Lib.hid (HD23.out.by_ hk4 (by omega))
  have HE4 := Lib.hid (Enc.by_ HE3.out hk4 (by have := HE3.out.lt; omega))
  clear h4 ho4 hk4 hf4 hle4
  go_wp2_with fail
  refine (feed_any _ 9 _ ⟨⟨by decide, by decide⟩, .inl rfl⟩ (by decide) (by omega) (by omega) HD24.out).mono ?_
  rintro en w5 h5
  obtain ⟨r5, s5, rfl, ho5, hk5, hf5, _⟩ := feed_is 3 [] false true h5 (by decide +kernel)
  obtain ⟨hcut5, hd5⟩ := hf5 rfl
  have HC5 := Lib.hid hcut5
  have HF5 := Lib.hid (HF4.out.by_ hk5 (by omega))
  have HD25 := Lib.hid hd5
  have HE5 := Lib.hid (Enc.by_ HE4.out hk5 (by have := HE4.out.lt; omega))
  have HO5 := Lib.hid (hk5.own HO4.out (fun k hk h0 => by have := own_base HO4.out k hk; omega))
  have HK5 := Lib.hid hk5
  clear h5 ho5 hk5 hf5 hcut5 hd5
  go_wp2_with fail
  refine (dend_cut _ HC5.out HD25.out).mono ?_
  rintro en w6 ⟨rfl, hd6, hs6⟩
  have hk6 := hs6.nil
  have HF6 := Lib.hid (HF5.out.by_ hk6 (by omega))
  have HD26 := Lib.hid hd6
  have HE6 := Lib.hid (Enc.by_ HE5.out hk6 (by have := HE5.out.lt; omega))
  have HO6 := Lib.hid (hk6.own HO5.out (fun k hk h0 => by have := own_base HO5.out k hk; omega))
  have HK6 := Lib.hid hk6
  clear hd6 hs6 hk6
  go_wp2_with fail
  refine (efeed_any _ _ _ [128512] 9 _ [] ⟨#[]⟩ rfl (by decide) trivial (box_reads _ _) (fun ad had => ?_) (fun k => ?_) (by decide) (by omega) (by omega) (by omega) (by omega) (((Kp.refl (fun _ => False) _).alloc _).blk HE6.out (fun h => h))).mono ?_
  · cases had; exact Nat.ne_of_gt HE6.out.lt
  · rcases k with _ | k <;> simp
  rintro en w7 h7
  obtain ⟨x7, rfl, hx7, hk7⟩ := efeed_is h7 (by decide) (by decide +kernel) (by decide +kernel)
  have hk7' : Kp (fun k => k = g3) w6 w7 := ((Kp.refl _ _).alloc _).tr hk7
  have HF7 := Lib.hid (HF6.out.by_ hk7' (by have := HB3.out.size; have := HD2.out.lt; omega))
  have HD27 := Lib.hid (HD26.out.by_ hk7' (by have := HD2.out.lt; omega))
  have HO7 := Lib.hid (hk7'.own HO6.out (fun k hk h0 => by have := own_base HO6.out k hk; have := HE3.out.lt; omega))
  have HK7 := Lib.hid hk7'
  have HX7 := Lib.hid hx7
  clear h7 hx7 hk7 hk7'
  go_wp2_with fail
  refine (same_any (l0 := [65, 128512]) (l1 := [65, 128512]) (reads_kp (own_reads' HO7.out) ((Kp.refl (fun _ => False) _).alloc _) (fun _ _ h => h)) (two_reads _ _ _) HLE4.out (Nat.le_refl _) (by decide)).mono ?_
  rintro en w8 ⟨rfl, n8, rfl⟩
  have hk8 : Kp (fun _ => False) w7 ((w7.alloc (.cells #[.int .u32 65, .int .u32 128512] 44)).drewN n8) := ((Kp.refl _ _).alloc _).drewN _
  generalize hg8 : (w7.alloc (.cells #[.int .u32 65, .int .u32 128512] 44)).drewN n8 = w8 at *
  have HF8 := Lib.hid (HF7.out.by_ (g' := w7.heap.size) (hk8.mono (fun _ h => h.elim)) (by have := HF7.out.lt; omega))
  have HD28 := Lib.hid (HD27.out.by_ (g' := w7.heap.size) (hk8.mono (fun _ h => h.elim)) (by have := HD27.out.lt; omega))
  have HK8 := Lib.hid hk8
  clear hk8 hg8
  go_wp2_with fail
  refine (dec_fail HF8.out).mono ?_
  rintro en w9 ⟨rfl, hb9⟩
  have hk9 : Kp (fun k => k = w8.heap.size) w8 w9 := Kp.of_below hb9
  have HD29 := Lib.hid (HD28.out.by_ hk9 (by have := HD28.out.lt; omega))
  have HK9 := Lib.hid hk9
  clear hb9 hk9
  go_wp2_with fail
  refine (dec_fail HD29.out).mono ?_
  rintro en w10 ⟨rfl, hb10⟩
  have HB10 := Lib.hid hb10
  clear hb10
  have hx : x7.toList = [61, 216, 0, 222] := (toList_of_bytes HX7.out).trans (by decide +kernel)
  go_wp2_with fail
  go_ret
  refine ⟨rfl, ?_⟩
  obtain rfl := HG1.out
  have k3 := HBW3.out.size
  refine HBW3.out.trans ?_
  have b4 := HK4.out.below (B := w.heap.size) k3 (fun k hk => by omega)
  have b5 := HK5.out.below (B := w.heap.size) (Nat.le_trans k3 b4.size) (fun k hk => by omega)
  have b6 := HK6.out.below (B := w.heap.size) (Nat.le_trans (Nat.le_trans k3 b4.size) b5.size) (fun k hk => by omega)
  have b7 := HK7.out.below (B := w.heap.size) (Nat.le_trans (Nat.le_trans (Nat.le_trans k3 b4.size) b5.size) b6.size) (fun k hk => by have := HL2.out; omega)
  have z7 := Nat.le_trans (Nat.le_trans (Nat.le_trans (Nat.le_trans k3 b4.size) b5.size) b6.size) b7.size
  have b8 := HK8.out.below (B := w.heap.size) z7 (fun k hk => hk.elim)
  have b9 := HK9.out.below (B := w.heap.size) (Nat.le_trans z7 b8.size) (fun k hk => by have := b8.size; omega)
  exact ((((((b4.trans b5).trans b6).trans b7).trans b8).trans b9)).trans (HB10.out.mono (Nat.le_trans (Nat.le_trans z7 b8.size) b9.size))
end Go.Proofs.Ytjddbdhpdenaeaa
