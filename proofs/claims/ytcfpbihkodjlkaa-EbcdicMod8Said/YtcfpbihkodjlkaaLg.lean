/- What the laws' walks share: new machines, what a Feed tells. -/
import Derived.Test.YtcfpbihkodjlkaaWr
import Derived.Test.YtcfpbihkodjlkaaSm
import Derived.Test.YtcfpbihkodjlkaaMB
import Derived.Laws.Closers25b
import Derived.Laws.StructEq
namespace Go.Proofs.Ytcfpbihkodjlkaa
open Go.RowKit Go.Proofs.YtcfpbihkodjlkaaW.PrintWords Go.Proofs.YtcfpbihkodjlkaaW.PrintMore
open M (isB isB_range is_any)
set_option linter.unusedVariables false
set_option linter.unusedSimpArgs false
abbrev st0 (tb : Nat) : CS := ⟨M.st0, tb⟩
abbrev es0 (tb : Nat) : ES := ⟨tb⟩
/-- All that scalars become. -/
abbrev txt (l : List Int) : List Int := l.flatMap rby
theorem cok0 {tb : Nat} : cok (st0 tb) := M.cok0
theorem txt_map (l : List Int) : txt l = (M.txt l).map toB := by
  unfold txt M.txt
  rw [List.map_flatMap]
  rfl
theorem erun_txt {tb : Nat} (l : List Int) (h : ∀ c ∈ l, 0 ≤ c ∧ isB c = true) : (erun (es0 tb) l).1 = txt l := by
  rw [erun_fst l _ M.es0, M.erun_txt l h, txt_map]
theorem txt_len (l : List Int) (h : ∀ c ∈ l, 0 ≤ c ∧ isB c = true) : (txt l).length ≤ 5 * l.length := by
  rw [txt_map, List.length_map]; exact M.txt_len l h
theorem tofr : ∀ i < 256, fromL.getD (toL.getD i 0).toNat 0 = i := by decide +kernel
theorem frto : ∀ i < 256, toL.getD (fromL.getD i 0).toNat 0 = i := by decide +kernel
theorem fr_to {x : Int} (h : 0 ≤ x ∧ x ≤ 255) : frB (toB x) = x := by
  have := tofr x.toNat (by omega)
  unfold frB toB atB
  rw [this]; omega
theorem to_fr {x : Int} (h : 0 ≤ x ∧ x ≤ 255) : toB (frB x) = x := by
  have := frto x.toNat (by omega)
  unfold frB toB atB
  rw [this]; omega
theorem map_back {f g : Int → Int} {l : List Int} (h : ∀ x ∈ l, g (f x) = x) : (l.map f).map g = l := by
  rw [List.map_map]
  exact (List.map_congr_left (g := id) h).trans (List.map_id l)
theorem back_law {tb : Nat} (l : List Int) (h : ∀ c ∈ l, 0 ≤ c ∧ isB c = true) : ∃ s', run cnx (st0 tb) (txt l) = some (s', l) ∧ ccut s' = false := by
  obtain ⟨s', h1, h2⟩ := M.back_law l h
  refine ⟨⟨s', tb⟩, ?_, h2⟩
  rw [run_map, txt_map, map_back (fun x hx => fr_to (M.txt_range l h x hx)), h1]
  rfl
theorem run_m {s0 s : CS} {l os : List Int} (h : run cnx s0 l = some (s, os)) : run M.cnx s0.m (l.map frB) = some (s.m, os) := by
  rw [run_map] at h
  cases hh : run M.cnx s0.m (l.map frB) with
  | none => rw [hh] at h; cases h
  | some p =>
    rw [hh] at h
    simp only [Option.map_some, Option.some.injEq, Prod.mk.injEq] at h
    obtain ⟨rfl, rfl⟩ := h
    rfl
theorem run_of {s0 : CS} {s : M.CS} {l os : List Int} (h : run M.cnx s0.m (l.map frB) = some (s, os)) : run cnx s0 l = some (⟨s, s0.tb⟩, os) := by
  rw [run_map, h]; rfl
theorem cnx_m {s : CS} {b : Int} : cnx s b = none ↔ M.cnx s.m (frB b) = none := by
  unfold cnx
  simp
theorem one_law {tb : Nat} (l : List Int) (s : CS) (os : List Int) (hx : ∀ x ∈ l, 0 ≤ x ∧ x ≤ 255) (hr : run cnx (st0 tb) l = some (s, os)) (hc : ccut s = false) : txt os = l ∧ ∀ c ∈ os, 0 ≤ c ∧ isB c = true := by
  obtain ⟨h1, h2⟩ := M.one_law (l.map frB) s.m os (fun x hx' => by
    obtain ⟨b, hb, rfl⟩ := List.mem_map.1 hx'
    exact fr_range (hx b hb)) (run_m hr) hc
  exact ⟨by rw [txt_map, h1, map_back (fun x hx' => to_fr (hx x hx'))], h2⟩
theorem newd_any (w : World) : Calls Try.prog 16 #[] w fun en w' => ∃ g tb, en = .returned (.pointer (some ⟨g, 0, none⟩)) ∧ w.heap.size ≤ tb ∧ tb < g ∧ Tab w' tb ∧ Dec w' g 54 0 0 0 false nilv [] (cown (st0 tb)) ∧ Below w.heap.size w w' := by
  go_enter Try.func16, Try.ntmps16
  go_wp2_with (go_at_call 34; go_must (refine new_any.mono ?_); rintro e w1 ⟨rfl, ht1, hb1⟩; have HT1 := Lib.hid ht1; have HB1 := Lib.hid hb1; clear ht1 hb1)
  go_ret
  have hl := blk_lt HT1.out.1
  exact ⟨_, _, rfl, Nat.le_refl _, hl, HT1.out.kp ((Kp.refl (fun _ => False) _).alloc _) (fun h => h), ⟨blk_new _ _, q_none _ _, fun h => by cases h⟩, HB1.out.alloc (Nat.le_of_lt hl) _⟩
theorem newe_any (w : World) : Calls Try.prog 12 #[] w fun en w' => ∃ g tb, en = .returned (.pointer (some ⟨g, 0, none⟩)) ∧ w.heap.size ≤ tb ∧ tb < g ∧ Tab w' tb ∧ Enc w' g 69 0 0 0 false ⟨#[]⟩ (eown (es0 tb)) ∧ Below w.heap.size w w' := by
  go_enter Try.func12, Try.ntmps12
  go_wp2_with (go_at_call 34; go_must (refine new_any.mono ?_); rintro e w1 ⟨rfl, ht1, hb1⟩; have HT1 := Lib.hid ht1; have HB1 := Lib.hid hb1; clear ht1 hb1)
  go_ret
  have hl := blk_lt HT1.out.1
  exact ⟨_, _, rfl, Nat.le_refl _, hl, HT1.out.kp ((Kp.refl (fun _ => False) _).alloc _) (fun h => h), blk_new _ _, HB1.out.alloc (Nat.le_of_lt hl) _⟩
/-- Does a place fit as that at which Feed stops? -/
def awk (s0 : M.CS) (l : List Int) (room Mx : Nat) (O : List Int) (fl cut : Bool) (m : Nat) : Bool :=
  match run M.cnx s0 (l.take m) with
  | none => true
  | some (s, os) => (!(m == l.length || decide (room ≤ os.length)) || (m == Mx && os == O && !fl && (M.ccut s == cut))) && (!(decide (m < l.length) && (M.cnx s (l.getD m 0)).isNone) || (m == Mx && os == O && fl))
theorem feed_is {w w' : World} {g T : Nat} {a : Int} {tb : Nat} {t : ByteArray} {room : Nat} {en : Ending} (Mx : Nat) (O : List Int) (fl cut : Bool) (h : FeedPost w g T a (st0 tb) t room en w') (hk : ∀ m, m ∈ List.range (t.size + 1) → awk M.st0 ((bytesOf t).map frB) room Mx O fl cut m = true) :
    ∃ r s, en = .returned (.tuple #[.int .i64 Mx, r]) ∧ w'.ownsRow w.heap.size 22 1 r O.length (nums .u32 O) ∧ Kp (fun k => k = g) w w' ∧
      (fl = false → ccut s = cut ∧ Dec w' g T (a + Mx) 0 0 false nilv [] (cown s)) ∧ (fl = true → Dec w' g T (a + Mx) 3 (a + Mx) false nilv [] (cown s)) := by
  obtain ⟨m, os, r, s, rfl, hm, hr, ho, hkp, _, _, _, hc⟩ := h
  have hm1 := hk m (List.mem_range.2 (by omega))
  have hr2 : run M.cnx M.st0 (((bytesOf t).take m).map frB) = some (s.m, os) := run_m hr
  rw [awk, ← List.map_take, hr2] at hm1
  simp only [Bool.and_eq_true] at hm1
  obtain ⟨h1, h2⟩ := hm1
  rcases hc with ⟨hd, hx⟩ | ⟨hlt, hn, s1, hd⟩
  · have e : (m == ((bytesOf t).map frB).length || decide (room ≤ os.length)) = true := by
      rw [List.length_map, bytesOf_length]
      rcases hx with hx | hx
      · simp [hx]
      · simp; omega
    rw [e] at h1
    simp only [Bool.not_true, Bool.false_or, Bool.and_eq_true, beq_iff_eq, Bool.not_eq_true'] at h1
    obtain ⟨⟨⟨rfl, rfl⟩, rfl⟩, h4⟩ := h1
    exact ⟨r, s, rfl, ho, hkp, fun _ => ⟨h4, hd⟩, fun h => by cases h⟩
  · have e : (decide (m < ((bytesOf t).map frB).length) && (M.cnx s.m (((bytesOf t).map frB).getD m 0)).isNone) = true := by
      have hb : ((bytesOf t).map frB).getD m 0 = frB (bt t m) := by
        have := rd_bytesOf t (m : Int)
        rw [rd, Int.toNat_natCast] at this
        rw [← this, List.getD_eq_getElem?_getD, List.getD_eq_getElem?_getD, List.getElem?_map, List.getElem?_eq_getElem (by rw [bytesOf_length]; exact hlt)]
        simp only [Option.map_some, Option.getD_some]
      rw [List.length_map, bytesOf_length, hb, cnx_m.1 hn]
      simp [hlt]
    rw [e] at h2
    simp only [Bool.not_true, Bool.false_or, Bool.and_eq_true, beq_iff_eq] at h2
    obtain ⟨⟨rfl, rfl⟩, rfl⟩ := h2
    exact ⟨r, s1, rfl, ho, hkp, (fun h => by cases h), fun _ => hd⟩
theorem efeed_is {w w' : World} {g T : Nat} {a : Int} {s0 : ES} {c : Int} {en : Ending} (h : EFeedPost w g T a [] s0 [c] 9 en w') (hc : isB c = true) (hl : (rby c).length < 9) :
    ∃ x, en = .returned (.tuple #[.int .i64 1, .string x]) ∧ bytesOf x = rby c ∧ Kp (fun k => k = g) w w' := by
  obtain ⟨m, x, y, rfl, hm, hsc, hb, hkp, hx, hf, _, _, hcase⟩ := h
  have hz := bytes_size hb
  have h9 : (9 : Int).toNat = 9 := rfl
  rw [h9] at hx hf
  have hm1 : m = 0 ∨ m = 1 := by simp at hm; omega
  rcases hm1 with rfl | rfl
  · have hz2 : x.size + y.size = 0 := hz.trans rfl
    rcases hcase with ⟨_, h1⟩ | ⟨_, h1, _⟩
    · rcases h1 with h1 | h1
      · simp at h1
      · omega
    · simp [hc] at h1
  · have hz2 : x.size + y.size = (rby c).length := by rw [hz]; simp [erun, eby]
    simp [erun, eby] at hb
    have hy : y.size = 0 := by
      rcases Nat.eq_zero_or_pos y.size with h0 | h0
      · exact h0
      · have := hf (by omega)
        omega
    have hy0 : bytesOf y = [] := List.eq_nil_of_length_eq_zero (by rw [bytesOf_length]; exact hy)
    rw [hy0, List.append_nil] at hb
    exact ⟨x, rfl, hb, hkp⟩
theorem toList_of_bytes {x : ByteArray} {l : List Int} (h : bytesOf x = l) : x.toList = l.map fun n => UInt8.ofNat n.toNat := by
  rw [ByteArray.toList_eq, ← h, bytesOf, List.map_map]
  refine ((List.map_congr_left (g := id) ?_).trans (List.map_id _)).symm
  intro b _
  simp
theorem Dec.by_ {w w' : World} {g g' T : Nat} {a e f : Int} {d : Bool} {own : List Value} (h : Dec w g T a e f d nilv [] own) (hk : Kp (fun k => k = g') w w') (hne : g ≠ g') : Dec w' g T a e f d nilv [] own := h.nilmove (hk.block g h.lt hne)
theorem Enc.by_ {w w' : World} {g g' T : Nat} {a e f : Int} {d : Bool} {own : List Value} {s : ByteArray} (h : Enc w g T a e f d s own) (hk : Kp (fun k => k = g') w w') (hne : g ≠ g') : Enc w' g T a e f d s own := hk.blk h hne
theorem eqF (x y x2 y2 : Int) (W : World) : (Op.equalIn 10000 42 (.agg #[.int .i64 x, .int .i64 y]) (.agg #[.int .i64 x2, .int .i64 y2])).run Try.prog W = .ok (x == x2 && y == y2) W := by
  refine eqA_of (d := 9999) Try.underlying42 (by kernel_rfl) ?_
  refine eqf_cons (a := .int .i64 x) (b := .int .i64 x2) rfl (by kernel_rfl) (by kernel_rfl) (run_equalIn_int W 9998 _ .i64 .i64 x x2 Try.underlying40) ?_
  exact eqf_last (a := .int .i64 y) (b := .int .i64 y2) rfl (by kernel_rfl) (by kernel_rfl) (run_equalIn_int W 9998 _ .i64 .i64 y y2 Try.underlying3)
theorem two_reads (W : World) (x y : Int) : ReadsInt (W.alloc (.cells #[.int .u32 x, .int .u32 y] 22)) .u32 (some ⟨W.heap.size, 0, none⟩) 2 [x, y] :=
  ⟨rfl, by omega, fun _ => ⟨_, rfl, fun j hj => by
    rw [add_plain]
    match j, hj with
    | 0, _ => exact (blk_cell (blk_new W _) 0).trans rfl
    | 1, _ => exact (blk_cell (blk_new W _) 1).trans rfl⟩⟩
end Go.Proofs.Ytcfpbihkodjlkaa
