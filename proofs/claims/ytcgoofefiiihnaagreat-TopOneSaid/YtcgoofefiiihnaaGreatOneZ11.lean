/- Texts of this claim, merged; without what the law does not lean on: Na. -/
import Derived.Test.YtcgoofefiiihnaaGreatOneZ10
import Derived.Test.YtcgoofefiiihnaaGreatOneZ8
namespace Go.Proofs.YtcgoofefiiihnaaGreat.A
open Go.RowKit Go.Proofs.YtcgoofefiiihnaaGreatW.PrintWords Go.Proofs.YtcgoofefiiihnaaGreatW.PrintMore
set_option linter.unusedVariables false
set_option linter.unusedSimpArgs false
set_option maxRecDepth 20000
abbrev es0 : ES := ⟨⟩
theorem newe_any (w : World) : Calls Tryz.prog 67 #[] w fun en w' => en = .returned (.pointer (some ⟨w.heap.size, 0, none⟩)) ∧ Enc w' w.heap.size 210 0 0 0 false ⟨#[]⟩ (eown es0) ∧ Below w.heap.size w w' := by
  go_enter Tryz.func67, Tryz.ntmps67
  go_wp2
  go_ret
  exact ⟨rfl, blk_new _ _, (Below.refl _ _).alloc (Nat.le_refl _) _⟩
theorem cnewe_any (w : World) : Calls Tryz.prog 36 #[.int .i64 1] w fun en w' => en = .returned (.tuple #[.iface 133 (.pointer (some ⟨w.heap.size, 0, none⟩)), .int .i64 0]) ∧ Enc w' w.heap.size 210 0 0 0 false ⟨#[]⟩ (eown es0) ∧ Below w.heap.size w w' := by
  go_enter Tryz.func36, Tryz.ntmps36
  go_wp2_with fail
  refine (newe_any _).mono ?_
  rintro en w1 ⟨rfl, he1, hb1⟩
  have HE := Lib.hid he1
  have HB := Lib.hid hb1
  clear he1 hb1
  go_wp2_with fail
  go_ret2
  exact ⟨rfl, HE.out, HB.out⟩
theorem erun_len : ∀ (l : List Int) (s : ES), (erun s l).1.length ≤ 5 * l.length
  | [], s => by simp [erun]
  | c :: l, s => by
    have h1 := eby_len s c
    have h2 := erun_len l (eby s c).2
    simp only [erun, List.length_append, List.length_cons]
    omega
theorem efeed_all {w w' : World} {g T : Nat} {ls : List Int} {s0 : ES} {en : Ending} (h : EFeedPost w g T 0 [] s0 ls 4096 en w') (hn : ls.length ≤ 800) (hsc : ∀ c ∈ ls, 0 ≤ c ∧ isB c = true) :
    ∃ x y, en = .returned (.tuple #[.int .i64 ls.length, .string x]) ∧ bytesOf x = (erun s0 ls).1 ∧ Kp (fun k => k = g) w w' ∧ y.size = 0 ∧ Enc w' g T ls.length 0 0 false y (eown (erun s0 ls).2) := by
  obtain ⟨m, x, y, rfl, hm, hs, hb, hkp, hx, hf, _, _, hcase⟩ := h
  have hz := congrArg List.length hb
  rw [List.length_append, bytesOf_length, bytesOf_length, List.nil_append] at hz
  have hl := erun_len (ls.take m) s0
  rw [List.length_take] at hl
  have hy : y.size = 0 := by
    rcases Nat.eq_zero_or_pos y.size with h9 | h9
    · exact h9
    · have := hf (by omega)
      have e : (4096 : Int).toNat = 4096 := rfl
      omega
  have hy0 : bytesOf y = [] := List.eq_nil_of_length_eq_zero (by rw [bytesOf_length]; exact hy)
  rw [hy0, List.append_nil, List.nil_append] at hb
  rcases hcase with ⟨he, h9⟩ | ⟨h9, h8, _⟩
  · have : m = ls.length := by rcases h9 with h9 | h9 <;> omega
    subst this
    rw [List.take_length] at hb he
    rw [Int.zero_add] at he
    exact ⟨x, y, rfl, hb, hkp, hy, he⟩
  · have := (hsc (ls.getD m 0) (by rw [List.getD_eq_getElem?_getD, List.getElem?_eq_getElem h9]; exact List.getElem_mem _)).2
    rw [this] at h8; cases h8
theorem m_feed (a : Addr) (w : World) : (method 446 133 (.pointer (some a)) "Feed").run Tryz.prog w = .ok (223, .pointer (some a)) w := by kernel_rfl
theorem m_fail (a : Addr) (w : World) : (method 446 133 (.pointer (some a)) "Fail").run Tryz.prog w = .ok (156, .pointer (some a)) w := by kernel_rfl
theorem m_end (a : Addr) (w : World) : (method 446 133 (.pointer (some a)) "End").run Tryz.prog w = .ok (161, .pointer (some a)) w := by kernel_rfl
theorem m_done (a : Addr) (w : World) : (method 446 133 (.pointer (some a)) "Done").run Tryz.prog w = .ok (222, .pointer (some a)) w := by kernel_rfl
theorem encode_any {w : World} (A0 : Option Addr) (n0 c0 : Nat) (ls : List Int) (hc0 : n0 ≤ c0) (h0 : ReadsInt w .u32 A0 n0 ls) (hn : n0 ≤ 800) (hsc : ∀ c ∈ ls, 0 ≤ c ∧ isB c = true) (hA : ∀ ad, A0 = some ad → ad.block < w.heap.size) :
    Calls Tryz.prog 23 #[.int .i64 1, .slice A0 n0 c0] w fun en w' => ∃ x, en = .returned (.tuple #[.string x, .agg #[.int .i64 0, .int .i64 0]]) ∧ bytesOf x = (erun es0 ls).1 ∧ Below w.heap.size w w' := by
  have hm1 := m_feed ⟨w.heap.size + 1, 0, none⟩
  have hm2 := m_fail ⟨w.heap.size + 1, 0, none⟩
  have hm3 := m_end ⟨w.heap.size + 1, 0, none⟩
  have hm4 := m_done ⟨w.heap.size + 1, 0, none⟩
  have H0 := Lib.hid h0
  have HSC := Lib.hid hsc
  have HA := Lib.hid hA
  have HWF : Hid (∀ k, 0 ≤ ls.getD k 0 ∧ ls.getD k 0 ≤ 4294967295) := Lib.hid (fun k => by
    rw [List.getD_eq_getElem?_getD]
    cases hk : ls[k]? with
    | none => simp
    | some x =>
      have h1 := hsc x (List.mem_of_getElem? hk)
      have h2 := isB_range h1.2
      simp; omega)
  have hlen : ls.length = n0 := h0.1
  have HLN := Lib.hid hlen
  clear h0 hsc hA hlen
  go_enter Tryz.func23, Tryz.ntmps23
  go_wp2_with fail
  refine (cnewe_any _).mono ?_
  rintro en w1 ⟨rfl, he1, hb1⟩
  have HE := Lib.hid he1
  have HB := Lib.hid hb1
  clear he1 hb1
  have hz0 : (w.alloc (.cells #[.int .i64 0, .int .i64 0] 27)).heap.size = w.heap.size + 1 := by simp
  rw [hz0] at HE HB
  have hz1 := HB.out.size
  rw [hz0] at hz1
  have HR : Hid (w1.heap[w.heap.size]? = some (.cells #[.int .i64 0, .int .i64 0] 27 (0, 0))) := Lib.hid ((HB.out.block _ (by omega)).trans (blk_new w _))
  have HBW : Hid (Below w.heap.size w w1) := Lib.hid ((below_alloc (Below.refl w.heap.size w) (.cells #[.int .i64 0, .int .i64 0] 27)).trans (HB.out.mono (by omega)))
  have HL1 : Hid (w.heap.size + 1 < w1.heap.size) := Lib.hid HE.out.lt
  go_wp2_with fail
  have HE2 : Hid (Enc (w1.alloc (.cells #[.pointer none, .slice none 0 0] 84)) (w.heap.size + 1) 210 0 0 0 false ⟨#[]⟩ (eown es0)) := Lib.hid (blk_alloc HE.out _)
  have HR2 := Lib.hid (blk_alloc HR.out (.cells #[.pointer none, .slice none 0 0] 84))
  have HBL := Lib.hid (bl_new w1)
  have HB2 : Hid (Below w.heap.size w (w1.alloc (.cells #[.pointer none, .slice none 0 0] 84))) := Lib.hid (HBW.out.trans ((below_alloc (Below.refl w1.heap.size w1) _).mono HBW.out.size))
  have HZ2 : Hid ((w1.alloc (.cells #[.pointer none, .slice none 0 0] 84)).heap.size = w1.heap.size + 1) := Lib.hid (by simp)
  have H02 : Hid (ReadsInt (w1.alloc (.cells #[.pointer none, .slice none 0 0] 84)) .u32 A0 n0 ls) := Lib.hid (H0.out.below HB2.out)
  generalize w1.alloc (.cells #[.pointer none, .slice none 0 0] 84) = w2 at *
  generalize hgb : w1.heap.size = gb at *
  have HL := Lib.hid HL1.out
  clear hz0 hz1 HE HR HBW HL1 hgb
  go_loopw [1] (fun l wr => l = .slice A0 n0 c0 ∧ wr = w2) (fun _ _ => 0)
  case atStart => exact ⟨rfl, rfl⟩
  case round =>
    obtain ⟨rfl, rfl⟩ := hrel
    go_wp2_with fail
    refine (efeed_any A0 n0 c0 ls 4096 es0 [] ⟨#[]⟩ rfl (by decide) trivial H02.out (fun ad h => by have := HA.out ad h; omega) HWF.out (by omega) (by omega) (by omega) (by omega) (by omega) HE2.out).mono ?_
    rintro en w3 h3
    obtain ⟨x, y, rfl, hx, hk3, hy, he3⟩ := efeed_all h3 (by rw [HLN.out]; exact hn) HSC.out
    rw [HLN.out] at he3 ⊢
    have HX := Lib.hid hx
    have HY := Lib.hid hy
    have HE3 := Lib.hid he3
    have HBL3 := Lib.hid (bl_kp HBL.out hk3 (fun k hk => by rw [hk]; exact HL.out))
    have HR3 := Lib.hid (hk3.blk HR2.out (fun h => by omega))
    have hk3b := hk3.below (B := w.heap.size) HB2.out.size (fun k hk => by omega)
    have HB3 := Lib.hid (HB2.out.trans hk3b)
    have HZ3 : Hid (gb ≤ w3.heap.size) := Lib.hid (by have := hk3.size; have := HZ2.out; omega)
    have hxs : x.size ≤ 4000 := by
      have h9 := congrArg List.length hx
      rw [bytesOf_length] at h9
      have h8 := erun_len ls es0
      have := HLN.out
      omega
    have HXS := Lib.hid hxs
    clear h3 hx hk3 hy he3 hk3b hxs
    go_wp2_with fail
    refine (bl_write gb gb [] x w3 HBL3.out (by have := HXS.out; simp; omega) HZ3.out).mono ?_
    rintro en w4 ⟨rfl, hbl4, hb4⟩
    rw [List.nil_append, Lib.strCells_eq] at hbl4
    have HBL4 : Hid (IsBl gb gb (Lib.byteCells x.data.toList) w4) := Lib.hid (.inr hbl4)
    have HE4 := Lib.hid (blk_under HE3.out hb4 HL.out)
    have HR4 := Lib.hid (blk_under HR3.out hb4 (by have := HL.out; omega))
    have HB4 := Lib.hid (HB3.out.trans (hb4.mono (by have := HL.out; omega)))
    have HZ4 : Hid (gb ≤ w4.heap.size) := Lib.hid (Nat.le_trans HZ3.out hb4.size)
    clear hbl4 hb4
    obtain ⟨i0, hi, hz0', hz1', hz2'⟩ := info_parts infoU
    have hcut2 := cut_from (P := Tryz.prog) 24 56 .i64 Tryz.underlying24 hi 1 hz1' A0 n0 c0 (n0 : Int) (by omega) (by omega)
    rw [Int.toNat_natCast] at hcut2
    obtain ⟨A2, hA2⟩ : ∃ A2, (if c0 = n0 then A0 else A0.map (·.add (n0 * 1))) = A2 := ⟨_, rfl⟩
    simp only [hA2] at hcut2
    have hlz : ((((n0 - n0 : Nat)) : Int) == 0) = true := by simp
    clear hA2
    go_wp2_with fail
    refine (end_yes HE4.out).mono ?_
    rintro en w5 ⟨rfl, he5, hk5⟩
    have HE5 := Lib.hid he5
    have HBL5 := Lib.hid (bl_kp HBL4.out hk5 (fun k hk => by rw [hk]; exact HL.out))
    have HR5 := Lib.hid (hk5.blk HR4.out (fun h => by omega))
    have HB5 := Lib.hid (HB4.out.trans (hk5.below (B := w.heap.size) HB4.out.size (fun k hk => by omega)))
    have HZ5 : Hid (gb ≤ w5.heap.size) := Lib.hid (Nat.le_trans HZ4.out hk5.size)
    clear he5 hk5
    have hyz : ((y.size : Int) == 0) = true := by rw [HY.out]; rfl
    go_wp2_with fail
    go_loopw [11] (fun _ wr => wr = w5) (fun _ _ => 0)
    case atStart => rfl
    case round =>
      subst hrel
      go_wp2_with fail
      refine (odone_over rfl HE5.out).mono ?_
      rintro en w6 ⟨rfl, rfl⟩
      go_wp2_with fail
      refine (bl_string gb gb x.data.toList _ HBL5.out HZ5.out).mono ?_
      rintro en w7 ⟨rfl, hb7⟩
      have HE7 := Lib.hid (blk_under HE5.out hb7 HL.out)
      have HR7 := Lib.hid (blk_under HR5.out hb7 (by have := HL.out; omega))
      have HB7 := Lib.hid (HB5.out.trans (hb7.mono (by have := HL.out; omega)))
      clear hb7
      go_wp2_with fail
      refine (fail_any HE7.out).mono ?_
      rintro en w8 ⟨rfl, hb8⟩
      have HR8 := Lib.hid (blk_below HR7.out hb8)
      have HB8 := Lib.hid (HB7.out.trans (hb8.mono HB7.out.size))
      clear hb8
      have q0 : w8.cell? ⟨w.heap.size, 0, none⟩ = some (.int .i64 0) := blk_cell HR8.out 0
      have q1 : w8.cell? ⟨w.heap.size, 1, none⟩ = some (.int .i64 0) := blk_cell HR8.out 1
      have r0 : w8.frozen? ⟨w.heap.size, 0, none⟩ = false := blk_frozen HR8.out 0
      have r1 : w8.frozen? ⟨w.heap.size, 1, none⟩ = false := blk_frozen HR8.out 1
      go_wp2_with fail
      have HR8b : (w8.setCell ⟨w.heap.size, 0, none⟩ (.int .i64 0)).heap[w.heap.size]? = some (.cells #[.int .i64 0, .int .i64 0] 27 (0, 0)) := (blk_set HR8.out 0 _).trans rfl
      have HR9 : ((w8.setCell ⟨w.heap.size, 0, none⟩ (.int .i64 0)).setCell ⟨w.heap.size, 1, none⟩ (.int .i64 0)).heap[w.heap.size]? = some (.cells #[.int .i64 0, .int .i64 0] 27 (0, 0)) := (blk_set HR8b 1 _).trans rfl
      have HB9 : Below w.heap.size w ((w8.setCell ⟨w.heap.size, 0, none⟩ (.int .i64 0)).setCell ⟨w.heap.size, 1, none⟩ (.int .i64 0)) := (HB8.out.setCell (p := ⟨w.heap.size, 0, none⟩) (Nat.le_refl _) _).setCell (p := ⟨w.heap.size, 1, none⟩) (Nat.le_refl _) _
      (try simp only [Exit.inBlock, Exit.then])
      refine bodyPost_ret (results_tc rfl _ _ w.heap.size 27 #[.int .i64 0, .int .i64 0] (0, 0) _ rfl HR9 Tryz.underlying27 rfl (by kernel_rfl)) rfl ?_
      exact ⟨x, rfl, HX.out, HB9⟩
end Go.Proofs.YtcgoofefiiihnaaGreat.A
