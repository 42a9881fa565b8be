/- ebcdic: the law Controls, walked. -/
import Derived.Test.YtcfpbihkodjlkaaLc
import Derived.LoopTactic
import Derived.OpenShut
namespace Go.Proofs.Ytcfpbihkodjlkaa
open Go.RowKit Go.Proofs.YtcfpbihkodjlkaaW.PrintWords Go.Proofs.YtcfpbihkodjlkaaW.PrintMore
open M (bytesOf_range getD_bt bytes_mid)
open M (isB isB_range is_any)
set_option linter.unusedVariables false
set_option linter.unusedSimpArgs false
set_option maxRecDepth 20000
theorem m_small (c : Int) (h0 : 0 ≤ c) (hc : isB c = true) : ∀ y ∈ M.rby c, (0 ≤ y ∧ y ≤ 255) ∧ (y < 160 ↔ c < 160) := by
  intro y hy
  refine ⟨M.rby_range c h0 hc y hy, ?_⟩
  unfold M.rby at hy
  (repeat' split at hy) <;> simp only [List.mem_cons, List.not_mem_nil, or_false] at hy <;> omega
theorem m_one (c : Int) : ((M.rby c).length = 1 ↔ c < 160) := by
  unfold M.rby
  (repeat' split) <;> simp <;> omega
theorem ctrl_at {c : Int} (h0 : 0 ≤ c) (hc : isB c = true) {x : ByteArray} (hx : bytesOf x = rby c) (i : Nat) (hi : i < x.size) : PEbcdicWrites.pilcrowref08_Controls.f 41634 (bt x i) = some (decide (c < 160)) := by
  have hl : i < (rby c).length := by rw [← hx, bytesOf_length]; exact hi
  have hl2 : i < (M.rby c).length := by rw [rby, List.length_map] at hl; exact hl
  have hb2 : bt x i = toB ((M.rby c)[i]) := by
    rw [← getD_bt, hx]
    show ((M.rby c).map toB).getD i 0 = _
    rw [List.getD_eq_getElem?_getD, List.getElem?_map, List.getElem?_eq_getElem hl2]
    simp only [Option.map_some, Option.getD_some]
  obtain ⟨h1, h2⟩ := m_small c h0 hc _ (List.getElem_mem hl2)
  have h3 : 0 ≤ bt x i ∧ bt x i ≤ 255 := by rw [hb2]; exact at_range toL_range h1
  have h4 := refFrom (bt x i).toNat (by omega)
  rw [Int.toNat_of_nonneg h3.1] at h4
  have h5 : fromL.getD (bt x i).toNat 0 = (M.rby c)[i] := by
    show frB (bt x i) = _
    rw [hb2, fr_to h1]
  rw [PEbcdicWrites.pilcrowref08_Controls.f, h4, Option.bind_some, h5, decide_eq_decide.2 h2]
theorem controls_no {w : World} (c : Int) (hb : isB c = false) : Calls Try.prog 3 #[.int .u32 c] w fun en w' => en = .returned (.bool true) ∧ Below w.heap.size w w' := by
  go_enter Try.func3, Try.ntmps3
  go_wp2_with fail
  refine (awake_any _).mono ?_
  rintro en w2 ⟨rfl, hb2⟩
  have HB2 := Lib.hid hb2
  clear hb2
  go_wp2_with fail
  refine (PEbcdicWrites.pilcrowref01_Is.calls c false _ (by rw [M.isF2_at, hb])).mono ?_
  rintro en w3 ⟨rfl, hd3⟩
  obtain ⟨n3, rfl⟩ := hd3.out
  have HB3 := Lib.hid (HB2.out.trans (((Kp.refl (fun _ => False) w2).drewN n3).below (B := w.heap.size) HB2.out.size (fun _ h => h.elim)))
  clear hd3
  go_wp2_with fail
  refine (awake_any _).mono ?_
  rintro en w4 ⟨rfl, hb4⟩
  have HB4 := Lib.hid (HB3.out.trans (hb4.mono HB3.out.size))
  clear hb4
  go_wp2_with fail
  go_ret
  exact ⟨rfl, HB4.out⟩
set_option maxHeartbeats 4000000 in
theorem controls_low {w : World} (c : Int) (h0 : 0 ≤ c ∧ c ≤ 4294967295) (hb : isB c = true) (hc : c < 160) : Calls Try.prog 3 #[.int .u32 c] w fun en w' => en = .returned (.bool true) ∧ Below w.heap.size w w' := by
  have hp : decide (c < 160) = true := by simp; omega
  have HBB := Lib.hid hb
  go_enter Try.func3, Try.ntmps3
  go_wp2_with fail
  refine (awake_any _).mono ?_
  rintro en w2 ⟨rfl, hb2⟩
  have HB2 := Lib.hid hb2
  clear hb2
  go_wp2_with fail
  refine (PEbcdicWrites.pilcrowref01_Is.calls c true _ (by rw [M.isF2_at, HBB.out])).mono ?_
  rintro en w3 ⟨rfl, hd3⟩
  obtain ⟨n3, rfl⟩ := hd3.out
  have HB3 := Lib.hid (HB2.out.trans (((Kp.refl (fun _ => False) w2).drewN n3).below (B := w.heap.size) HB2.out.size (fun _ h => h.elim)))
  clear hd3 hb
  generalize w2.drewN n3 = w3 at *
  go_wp2_with fail
  refine (newe_any _).mono ?_
  rintro en w4 ⟨g, tb, rfl, hl4, hx4, ht4, he4, hb4⟩
  have HB4 := Lib.hid (HB3.out.trans (hb4.mono HB3.out.size))
  have HGW : Hid (w.heap.size ≤ g) := Lib.hid (by have := HB3.out.size; omega)
  have HTa4 := Lib.hid ht4
  have HTn4 : Hid (tb ≠ g) := Lib.hid (Nat.ne_of_lt hx4)
  have HE4 := Lib.hid he4
  clear he4 hb4 ht4 hl4 hx4
  go_wp2_with fail
  refine (efeed_any _ _ _ [c] 9 _ [] ⟨#[]⟩ rfl (by decide) trivial (box_reads _ _) (fun ad had => ?_) (fun k => ?_) (by decide) (by omega) (by omega) (by omega) (by omega) (HTa4.out.kp ((Kp.refl (fun _ => False) _).alloc _) (fun h => h)) HTn4.out ((een_zero rfl).2 (((Kp.refl (fun _ => False) _).alloc _).blk HE4.out (fun h => h)))).mono ?_
  · cases had; exact Nat.ne_of_gt HE4.out.lt
  · rcases k with _ | k
    · exact h0
    · simp
  rintro en w5 h5
  have hlen : (rby c).length ≤ 5 := by show ((M.rby c).map toB).length ≤ 5; rw [List.length_map]; exact M.rby_len c
  have hpos := rby_pos c
  have hone : (rby c).length = 1 ↔ c < 160 := by show ((M.rby c).map toB).length = 1 ↔ _; rw [List.length_map]; exact m_one c
  obtain ⟨x, rfl, hx, hk5⟩ := efeed_is h5 HBB.out (by omega)
  have hxs := bytesOf_length x
  rw [hx] at hxs
  rw [hxs] at hlen hpos hone
  have hk5' : Kp (fun k => k = g) w4 w5 := ((Kp.refl _ _).alloc _).tr hk5
  have HB5 := Lib.hid (HB4.out.trans (hk5'.below (B := w.heap.size) HB4.out.size (fun k hk => by rw [hk]; exact HGW.out)))
  have HCT := Lib.hid (fun i hi => ctrl_at h0.1 HBB.out hx i hi)
  clear h5 hx hk5 hk5' hxs
  go_wp2_with fail
  go_loopw [6] (fun n wr => ∃ i : Nat, n = .int .i64 i ∧ i ≤ x.size ∧ Below w.heap.size w wr) (fun n _ => x.size - (intOf n).toNat)
  case atStart => exact ⟨0, rfl, Nat.zero_le _, HB5.out⟩
  case round =>
    obtain ⟨i, rfl, hi, hbr⟩ := hrel
    have HBR := Lib.hid hbr
    clear hbr
    by_cases hlt : i < x.size
    · have he : ((x[i]'hlt).toNat : Int) = bt x i := bt_at x i hlt
      have HC1 : Hid (PEbcdicWrites.pilcrowref08_Controls.f 41634 ((x[i]'hlt).toNat : Int) = some true) := Lib.hid (by rw [he, HCT.out i hlt, hp])
      clear he
      go_wp2_with (go_at_call 14; go_must (refine (PEbcdicWrites.pilcrowref08_Controls.calls 41634 _ true _ HC1.out).mono ?_); rintro e w6 ⟨rfl, hb6⟩; have HB6 := Lib.hid (HBR.out.trans (hb6.mono HBR.out.size)); clear hb6)
      go_roundw
      case rel => exact ⟨i + 1, by simp, hlt, HB6.out⟩
      case measure => simp [intOf]; omega
    · have hie : i = x.size := by omega
      subst hie
      have h1 : x.size = 1 := hone.2 hc
      have h1' : ((x.size : Int) == 1) = true := by rw [h1]; rfl
      have h5 : decide ((x.size : Int) ≤ 5) = true := by simp; omega
      go_wp2_with fail
      go_ret
      exact ⟨rfl, HBR.out⟩
set_option maxHeartbeats 4000000 in
theorem controls_high {w : World} (c : Int) (h0 : 0 ≤ c ∧ c ≤ 4294967295) (hb : isB c = true) (hc : 160 ≤ c) : Calls Try.prog 3 #[.int .u32 c] w fun en w' => en = .returned (.bool true) ∧ Below w.heap.size w w' := by
  have hp : decide (c < 160) = false := by simp; omega
  have HBB := Lib.hid hb
  go_enter Try.func3, Try.ntmps3
  go_wp2_with fail
  refine (awake_any _).mono ?_
  rintro en w2 ⟨rfl, hb2⟩
  have HB2 := Lib.hid hb2
  clear hb2
  go_wp2_with fail
  refine (PEbcdicWrites.pilcrowref01_Is.calls c true _ (by rw [M.isF2_at, HBB.out])).mono ?_
  rintro en w3 ⟨rfl, hd3⟩
  obtain ⟨n3, rfl⟩ := hd3.out
  have HB3 := Lib.hid (HB2.out.trans (((Kp.refl (fun _ => False) w2).drewN n3).below (B := w.heap.size) HB2.out.size (fun _ h => h.elim)))
  clear hd3 hb
  generalize w2.drewN n3 = w3 at *
  go_wp2_with fail
  refine (newe_any _).mono ?_
  rintro en w4 ⟨g, tb, rfl, hl4, hx4, ht4, he4, hb4⟩
  have HB4 := Lib.hid (HB3.out.trans (hb4.mono HB3.out.size))
  have HGW : Hid (w.heap.size ≤ g) := Lib.hid (by have := HB3.out.size; omega)
  have HTa4 := Lib.hid ht4
  have HTn4 : Hid (tb ≠ g) := Lib.hid (Nat.ne_of_lt hx4)
  have HE4 := Lib.hid he4
  clear he4 hb4 ht4 hl4 hx4
  go_wp2_with fail
  refine (efeed_any _ _ _ [c] 9 _ [] ⟨#[]⟩ rfl (by decide) trivial (box_reads _ _) (fun ad had => ?_) (fun k => ?_) (by decide) (by omega) (by omega) (by omega) (by omega) (HTa4.out.kp ((Kp.refl (fun _ => False) _).alloc _) (fun h => h)) HTn4.out ((een_zero rfl).2 (((Kp.refl (fun _ => False) _).alloc _).blk HE4.out (fun h => h)))).mono ?_
  · cases had; exact Nat.ne_of_gt HE4.out.lt
  · rcases k with _ | k
    · exact h0
    · simp
  rintro en w5 h5
  have hlen : (rby c).length ≤ 5 := by show ((M.rby c).map toB).length ≤ 5; rw [List.length_map]; exact M.rby_len c
  have hpos := rby_pos c
  have hone : (rby c).length = 1 ↔ c < 160 := by show ((M.rby c).map toB).length = 1 ↔ _; rw [List.length_map]; exact m_one c
  obtain ⟨x, rfl, hx, hk5⟩ := efeed_is h5 HBB.out (by omega)
  have hxs := bytesOf_length x
  rw [hx] at hxs
  rw [hxs] at hlen hpos hone
  have hk5' : Kp (fun k => k = g) w4 w5 := ((Kp.refl _ _).alloc _).tr hk5
  have HB5 := Lib.hid (HB4.out.trans (hk5'.below (B := w.heap.size) HB4.out.size (fun k hk => by rw [hk]; exact HGW.out)))
  have HCT := Lib.hid (fun i hi => ctrl_at h0.1 HBB.out hx i hi)
  clear h5 hx hk5 hk5' hxs
  go_wp2_with fail
  go_loopw [6] (fun n wr => ∃ i : Nat, n = .int .i64 i ∧ i ≤ x.size ∧ Below w.heap.size w wr) (fun n _ => x.size - (intOf n).toNat)
  case atStart => exact ⟨0, rfl, Nat.zero_le _, HB5.out⟩
  case round =>
    obtain ⟨i, rfl, hi, hbr⟩ := hrel
    have HBR := Lib.hid hbr
    clear hbr
    by_cases hlt : i < x.size
    · have he : ((x[i]'hlt).toNat : Int) = bt x i := bt_at x i hlt
      have HC1 : Hid (PEbcdicWrites.pilcrowref08_Controls.f 41634 ((x[i]'hlt).toNat : Int) = some false) := Lib.hid (by rw [he, HCT.out i hlt, hp])
      clear he
      go_wp2_with (go_at_call 14; go_must (refine (PEbcdicWrites.pilcrowref08_Controls.calls 41634 _ false _ HC1.out).mono ?_); rintro e w6 ⟨rfl, hb6⟩; have HB6 := Lib.hid (HBR.out.trans (hb6.mono HBR.out.size)); clear hb6)
      go_roundw
      case rel => exact ⟨i + 1, by simp, hlt, HB6.out⟩
      case measure => simp [intOf]; omega
    · have hie : i = x.size := by omega
      subst hie
      have h1 : x.size ≠ 1 := fun h => by have := hone.1 h; omega
      have h1' : ((x.size : Int) == 1) = false := by simp; omega
      have h5 : decide ((x.size : Int) ≤ 5) = true := by simp; omega
      go_wp2_with fail
      go_ret
      exact ⟨rfl, HBR.out⟩
theorem controls_all {w : World} (c : Int) (hw : (Lit.int .u32 c).wf = true) : Calls Try.prog 3 #[.int .u32 c] w fun en w' => en = .returned (.bool true) ∧ Below w.heap.size w w' := by
  have h0 : 0 ≤ c ∧ c ≤ 4294967295 := by
    have := range_u32 (zs := [c]) (by simpa using hw) 0
    simpa using this
  cases hb : isB c with
  | false => exact controls_no c hb
  | true =>
    rcases Int.lt_or_le c 160 with h | h
    · exact controls_low c h0 hb h
    · exact controls_high c h0 hb h
end Go.Proofs.Ytcfpbihkodjlkaa
