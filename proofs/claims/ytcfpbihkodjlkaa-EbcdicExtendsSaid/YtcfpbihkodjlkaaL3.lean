/- Ebcdic: the law One, walked. -/
import Derived.Test.YtcfpbihkodjlkaaLc
namespace Go.Proofs.Ytcfpbihkodjlkaa
open Go.RowKit Go.Proofs.YtcfpbihkodjlkaaW.PrintWords Go.Proofs.YtcfpbihkodjlkaaW.PrintMore
open M (bytesOf_range getD_bt bytes_mid)
open M (isB isB_range is_any)
set_option linter.unusedVariables false
set_option linter.unusedSimpArgs false
set_option maxRecDepth 20000
theorem reads_nil (w : World) (k : IntKind) : ReadsInt w k none 0 [] := ⟨rfl, by decide, fun h => by omega⟩
theorem none_ne {g : Nat} : ∀ ad : Addr, (none : Option Addr) = some ad → 0 < 0 → ad.block ≠ g := fun _ h => by cases h
theorem getD_wf {l : List Int} (h : ∀ c ∈ l, 0 ≤ c ∧ isB c = true) (k : Nat) : 0 ≤ l.getD k 0 ∧ l.getD k 0 ≤ 4294967295 := by
  rw [List.getD_eq_getElem?_getD]
  cases hk : l[k]? with
  | none => simp
  | some x =>
    have h1 := h x (List.mem_of_getElem? hk)
    have h2 := isB_range h1.2
    simp; omega
/-- All is written, where all are scalars. -/
theorem write_whole {w w' : World} {g T : Nat} {ls : List Int} {s0 : ES} {en : Ending} (h : WritePost w g T ls s0 en w') (hb : ∀ c ∈ ls, 0 ≤ c ∧ isB c = true) :
    ∃ x y, en = .returned (.tuple #[.string x, .bool true]) ∧ bytesOf x = (erun s0 ls).1 ∧ Kp (fun k => k = g) w w' ∧ Enc w' g T ls.length 0 0 true y (eown (erun s0 ls).2) := by
  obtain ⟨m, x, y, rfl, hm, hsc, hx, hkp, hy, hcase⟩ := h
  rcases hcase with ⟨rfl, h2⟩ | ⟨h1, h2, _⟩
  · rw [List.take_length] at hx h2
    exact ⟨x, y, rfl, hx, hkp, h2⟩
  · have := (hb (ls.getD m 0) (by rw [List.getD_eq_getElem?_getD, List.getElem?_eq_getElem h1]; exact List.getElem_mem h1)).2
    rw [this] at h2
    cases h2
theorem one_great (t : ByteArray) (w : World) (hg : (decide (400 < (t.size : Int)) || (decide (200 < 0) || decide (200 < 0))) = true) :
    Calls Try.prog 6 #[.string t] w fun en w' => en = .returned (.bool true) ∧ Below w.heap.size w w' := by
  go_enter Try.func6, Try.ntmps6
  go_wp2_with fail
  refine (awake_any _).mono ?_
  rintro en w2 ⟨rfl, hb2⟩
  have HB2 := Lib.hid hb2
  clear hb2
  go_wp2_with fail
  refine (great_any _ _ _ _ _ _ _ _).mono ?_
  rw [hg]
  rintro en w3 ⟨rfl, rfl⟩
  go_wp2_with fail
  refine (awake_any _).mono ?_
  rintro en w4 ⟨rfl, hb4⟩
  have HB4 := Lib.hid (HB2.out.trans (hb4.mono HB2.out.size))
  clear hb4
  go_wp2_with fail
  go_ret
  exact ⟨rfl, HB4.out⟩
theorem one_walk {w : World} (t : ByteArray) (hg : (decide (400 < (t.size : Int)) || (decide (200 < 0) || decide (200 < 0))) = false) :
    Calls Try.prog 6 #[.string t] w fun en w' => en = .returned (.bool true) ∧ Below w.heap.size w w' := by
  have huF := fld0
  have hz0 : t.size ≤ 400 := by simp at hg; omega
  go_enter Try.func6, Try.ntmps6
  go_wp2_with fail
  refine (awake_any _).mono ?_
  rintro en w2 ⟨rfl, hb2⟩
  have HB2 := Lib.hid hb2
  clear hb2
  go_wp2_with fail
  refine (great_any _ _ _ _ _ _ _ _).mono ?_
  rw [hg]
  rintro en w3 ⟨rfl, rfl⟩
  go_wp2_with fail
  refine (newd_any _).mono ?_
  rintro en w3 ⟨g, tb3, rfl, hl3, hx3, ht3, hd3, hb3⟩
  have HS2 : Hid (w.heap.size ≤ g) := Lib.hid (by have := HB2.out.size; omega)
  have HB3 := Lib.hid (HB2.out.trans (hb3.mono HB2.out.size))
  have HD3 := Lib.hid hd3
  have HTa3 := Lib.hid ht3
  have HTn3 : Hid (tb3 ≠ g) := Lib.hid (Nat.ne_of_lt hx3)
  have HLt3 : Hid (w2.heap.size < g) := Lib.hid (by omega)
  clear hd3 hb3 ht3 hl3 hx3
  go_wp2_with fail
  refine (read_any t none none 0 0 0 0 [] [] (st0 tb3) cok0 (by omega) (by omega) (by omega) (reads_nil _ _) (reads_nil _ _) none_ne none_ne HTa3.out HTn3.out HD3.out).mono ?_
  rintro en w4 ⟨m, os, r, s, rfl, hm, hrun, ho, hkp, hol, hcs, hend⟩
  have HB4 := Lib.hid (HB3.out.trans (hkp.below (B := w.heap.size) HB3.out.size (fun k hk => by rw [hk]; exact HS2.out)))
  rcases hend with ⟨h0, h1, h2⟩ | ⟨h0, h1, h2⟩ | ⟨h0, h1, s', h2⟩
  · have hbl := bytesOf_length t
    rw [h0, List.take_of_length_le (by omega)] at hrun
    obtain ⟨l1, l2⟩ := one_law _ _ _ (bytesOf_range t) hrun h1
    have HL1 := Lib.hid l1
    have HL2 := Lib.hid l2
    have HZ : Hid (os.length ≤ 100000) := Lib.hid (by omega)
    obtain ⟨A4, c4, rfl, hle4, _⟩ := own_reads_of_le (enc := fun x => Value.int .u32 x) (d := (0 : Int)) ho
    have HLE4 := Lib.hid hle4
    have HO4 := Lib.hid (own_reads' ho)
    have HD4 := Lib.hid h2
    clear h0 h1 h2 hm hrun hol hcs l1 l2 ho hkp hle4 hbl
    go_wp2_with fail
    refine (dec_fail HD4.out).mono ?_
    rintro en w5 ⟨rfl, hb5⟩
    have HB5 := Lib.hid (HB4.out.trans (hb5.mono HB4.out.size))
    have HO5 := Lib.hid (HO4.out.below hb5)
    clear hb5
    go_wp2_with fail
    refine (newe_any _).mono ?_
    rintro en w6 ⟨g6, tb6, rfl, hl6, hx6, ht6, he6, hb6⟩
    have HO6 := Lib.hid (HO5.out.below hb6)
    have HOL := Lib.hid (reads_lt HO5.out)
    have HS5 := Lib.hid HB5.out.size
    have HE6 := Lib.hid he6
    have HB6 := Lib.hid (HB5.out.trans (hb6.mono HB5.out.size))
    have HTa6 := Lib.hid ht6
    have HTn6 : Hid (tb6 ≠ g6) := Lib.hid (Nat.ne_of_lt hx6)
    have HLt6 : Hid (w5.heap.size < g6) := Lib.hid (by omega)
    clear he6 hb6 ht6 hl6 hx6
    go_wp2_with fail
    refine (write_any A4 os.length c4 os none none 0 0 0 0 [] [] (es0 tb6) trivial HZ.out HLE4.out (by omega) (by omega) HO6.out (getD_wf HL2.out) (reads_nil _ _) (reads_nil _ _) (fun ad h h0 => Nat.ne_of_lt (Nat.lt_trans (HOL.out ad h h0) HLt6.out)) none_ne none_ne ⟨#[]⟩ rfl HTa6.out HTn6.out HE6.out).mono ?_
    rintro en w7 h7
    obtain ⟨x, y, rfl, hx, hk7, _⟩ := write_whole h7 HL2.out
    obtain rfl : x = t := bytes_inj (by rw [hx, erun_txt _ HL2.out, HL1.out])
    have HK7 := Lib.hid hk7
    clear h7 hx hk7
    go_wp2_with fail
    go_ret
    refine ⟨rfl, ?_⟩
    exact HB6.out.trans (HK7.out.below (B := w.heap.size) HB6.out.size (fun k hk => by rw [hk]; exact Nat.le_trans HS5.out (Nat.le_of_lt HLt6.out)))
  · have HD4 := Lib.hid h2
    clear h0 h1 h2 hm hrun ho hkp hol hcs
    go_wp2_with fail
    refine (dec_fail HD4.out).mono ?_
    rintro en w5 ⟨rfl, hb5⟩
    have HB5 := Lib.hid (HB4.out.trans (hb5.mono HB4.out.size))
    clear hb5
    go_wp2_with fail
    go_ret
    exact ⟨rfl, HB5.out⟩
  · have HD4 := Lib.hid h2
    clear h0 h1 h2 hm hrun ho hkp hol hcs
    go_wp2_with fail
    refine (dec_fail HD4.out).mono ?_
    rintro en w5 ⟨rfl, hb5⟩
    have HB5 := Lib.hid (HB4.out.trans (hb5.mono HB4.out.size))
    clear hb5
    go_wp2_with fail
    go_ret
    exact ⟨rfl, HB5.out⟩
theorem one_all {w : World} (t : ByteArray) :
    Calls Try.prog 6 #[.string t] w fun en w' => en = .returned (.bool true) ∧ Below w.heap.size w w' := by
  cases hg : (decide (400 < (t.size : Int)) || (decide (200 < 0) || decide (200 < 0)))
  · exact one_walk t hg
  · exact one_great t w hg
end Go.Proofs.Ytcfpbihkodjlkaa
