/- Texts of this claim, merged; without what the law does not lean on: Ne Tx Pc Pk Ra Rg Ta Pl Pn Rc Rt Po Pz Li. -/
import Derived.Test.YtcgoofefiiihnaaGreatOneZ10
import Derived.Test.YtcgoofefiiihnaaGreatOneZ9
import Derived.Test.YtcgoofefiiihnaaGreatOneZ8
import Derived.Test.YtcgoofefiiihnaaGreatOneZ3
import Derived.Deep.DeepCutAuto
import Derived.Test.YtcgoofefiiihnaaGreatOneZ11
import Derived.Lib.EndianBits
import Derived.Test.YtcgoofefiiihnaaGreatOneZ4
namespace Go.Proofs.YtcgoofefiiihnaaGreat.E
open Go.RowKit Go.Proofs.YtcgoofefiiihnaaGreatW.PrintWords Go.Proofs.YtcgoofefiiihnaaGreatW.PrintMore
set_option linter.unusedVariables false
set_option linter.unusedSimpArgs false
set_option maxRecDepth 20000
abbrev es0 (tb : Nat) : ES := ⟨tb⟩
theorem newe_any (w : World) : Calls Tryz.prog 70 #[] w fun en w' => ∃ g tb, en = .returned (.pointer (some ⟨g, 0, none⟩)) ∧ w.heap.size ≤ tb ∧ tb < g ∧ Tab w' tb ∧ Enc w' g 217 0 0 0 false ⟨#[]⟩ (eown (es0 tb)) ∧ Below w.heap.size w w' := by
  go_enter Tryz.func70, Tryz.ntmps70
  go_wp2_with (go_at_call 87; go_must (refine new_any.mono ?_); rintro e w1 ⟨rfl, ht1, hb1⟩; have HT1 := Lib.hid ht1; have HB1 := Lib.hid hb1; clear ht1 hb1)
  go_ret
  have hl := blk_lt HT1.out.1
  exact ⟨_, _, rfl, Nat.le_refl _, hl, HT1.out.kp ((Kp.refl (fun _ => False) _).alloc _) (fun h => h), blk_new _ _, HB1.out.alloc (Nat.le_of_lt hl) _⟩
theorem cnewe_any (w : World) : Calls Tryz.prog 36 #[.int .i64 6] w fun en w' => ∃ g tb, en = .returned (.tuple #[.iface 139 (.pointer (some ⟨g, 0, none⟩)), .int .i64 0]) ∧ w.heap.size ≤ tb ∧ tb < g ∧ Tab w' tb ∧ Enc w' g 217 0 0 0 false ⟨#[]⟩ (eown (es0 tb)) ∧ Below w.heap.size w w' := by
  go_enter Tryz.func36, Tryz.ntmps36
  go_wp2_with fail
  refine (newe_any _).mono ?_
  rintro en w1 ⟨g, tb, rfl, h1, h2, h3, he1, hb1⟩
  have HE := Lib.hid he1
  have HB := Lib.hid hb1
  have HT := Lib.hid h3
  have H12 := Lib.hid (And.intro h1 h2)
  clear he1 hb1 h1 h2 h3
  go_wp2_with fail
  go_ret2
  exact ⟨g, tb, rfl, H12.out.1, H12.out.2, HT.out, HE.out, HB.out⟩
theorem een_under {w w' : World} {B g T : Nat} {a e f : Int} {d : Bool} {y : ByteArray} {own : List Value} (h : EEn w g T a e f d y own) (hb : Below B w w') (hk : g < B) : EEn w' g T a e f d y own := by
  obtain ⟨y', h1, h2⟩ := h
  exact ⟨y', h1, blk_under h2 hb hk⟩
theorem erun_len : ∀ (l : List Int) (s : ES), (erun s l).1.length ≤ 5 * l.length
  | [], s => by simp [erun]
  | c :: l, s => by
    have h1 := eby_len s c
    have h2 := erun_len l (eby s c).2
    simp only [erun, List.length_append, List.length_cons]
    omega
theorem efeed_all {w w' : World} {g T : Nat} {ls : List Int} {s0 : ES} {en : Ending} (h : EFeedPost w g T 0 [] s0 ls 4096 en w') (hn : ls.length ≤ 800) (hsc : ∀ c ∈ ls, 0 ≤ c ∧ isB c = true) :
    ∃ x y, en = .returned (.tuple #[.int .i64 ls.length, .string x]) ∧ bytesOf x = (erun s0 ls).1 ∧ Kp (fun k => k = g) w w' ∧ y.size = 0 ∧ EEn w' g T ls.length 0 0 false y (eown (erun s0 ls).2) := by
  obtain ⟨m, x, y, rfl, hm, hs, hb, hkp, hx, hf, _, _, hcase⟩ := h
  have hz := congrArg List.length hb
  rw [List.length_append, bytesOf_length, bytesOf_length, List.nil_append] at hz
  have hl := erun_len (ls.take m) s0
  rw [List.length_take] at hl
  have hy : y.size = 0 := by
    rcases Nat.eq_zero_or_pos y.size with h9 | h9
    · exact h9
    · have := hf (by omega)
      have e : (4096 : Int).toNat = 4096 := rfl
      omega
  have hy0 : bytesOf y = [] := List.eq_nil_of_length_eq_zero (by rw [bytesOf_length]; exact hy)
  rw [hy0, List.append_nil, List.nil_append] at hb
  rcases hcase with ⟨he, h9⟩ | ⟨h9, h8, _⟩
  · have : m = ls.length := by rcases h9 with h9 | h9 <;> omega
    subst this
    rw [List.take_length] at hb he
    rw [Int.zero_add] at he
    exact ⟨x, y, rfl, hb, hkp, hy, he⟩
  · have := (hsc (ls.getD m 0) (by rw [List.getD_eq_getElem?_getD, List.getElem?_eq_getElem h9]; exact List.getElem_mem _)).2
    rw [this] at h8; cases h8
theorem m_feed (a : Addr) (w : World) : (method 446 139 (.pointer (some a)) "Feed").run Tryz.prog w = .ok (234, .pointer (some a)) w := by kernel_rfl
theorem m_fail (a : Addr) (w : World) : (method 446 139 (.pointer (some a)) "Fail").run Tryz.prog w = .ok (156, .pointer (some a)) w := by kernel_rfl
theorem m_end (a : Addr) (w : World) : (method 446 139 (.pointer (some a)) "End").run Tryz.prog w = .ok (161, .pointer (some a)) w := by kernel_rfl
theorem m_done (a : Addr) (w : World) : (method 446 139 (.pointer (some a)) "Done").run Tryz.prog w = .ok (222, .pointer (some a)) w := by kernel_rfl
theorem encode_any {w : World} (A0 : Option Addr) (n0 c0 : Nat) (ls : List Int) (hc0 : n0 ≤ c0) (h0 : ReadsInt w .u32 A0 n0 ls) (hn : n0 ≤ 800) (hsc : ∀ c ∈ ls, 0 ≤ c ∧ isB c = true) (hA : ∀ ad, A0 = some ad → ad.block < w.heap.size) :
    Calls Tryz.prog 23 #[.int .i64 6, .slice A0 n0 c0] w fun en w' => ∃ x, en = .returned (.tuple #[.string x, .agg #[.int .i64 0, .int .i64 0]]) ∧ bytesOf x = (erun (es0 0) ls).1 ∧ Below w.heap.size w w' := by
  have H0 := Lib.hid h0
  have HSC := Lib.hid hsc
  have HA := Lib.hid hA
  have HWF : Hid (∀ k, 0 ≤ ls.getD k 0 ∧ ls.getD k 0 ≤ 4294967295) := Lib.hid (fun k => by
    rw [List.getD_eq_getElem?_getD]
    cases hk : ls[k]? with
    | none => simp
    | some x =>
      have h1 := hsc x (List.mem_of_getElem? hk)
      have h2 := M.isB_range h1.2
      simp; omega)
  have hlen : ls.length = n0 := h0.1
  have HLN := Lib.hid hlen
  clear h0 hsc hA hlen
  go_enter Tryz.func23, Tryz.ntmps23
  go_wp2_with fail
  refine (cnewe_any _).mono ?_
  rintro en w1 ⟨g, tb, rfl, ht0, ht1, ht2, he1, hb1⟩
  have hm1 := m_feed ⟨g, 0, none⟩
  have hm2 := m_fail ⟨g, 0, none⟩
  have hm3 := m_end ⟨g, 0, none⟩
  have hm4 := m_done ⟨g, 0, none⟩
  have HT := Lib.hid ht2
  have HE := Lib.hid he1
  have HB := Lib.hid hb1
  clear he1 hb1 ht2
  have hz0 : (w.alloc (.cells #[.int .i64 0, .int .i64 0] 27)).heap.size = w.heap.size + 1 := by simp
  rw [hz0] at HB ht0
  have hz1 := HB.out.size
  rw [hz0] at hz1
  have HR : Hid (w1.heap[w.heap.size]? = some (.cells #[.int .i64 0, .int .i64 0] 27 (0, 0))) := Lib.hid ((HB.out.block _ (by omega)).trans (blk_new w _))
  have HBW : Hid (Below w.heap.size w w1) := Lib.hid ((below_alloc (Below.refl w.heap.size w) (.cells #[.int .i64 0, .int .i64 0] 27)).trans (HB.out.mono (by omega)))
  have HL1 : Hid (g < w1.heap.size) := Lib.hid HE.out.lt
  go_wp2_with fail
  have HE2 : Hid (EEn (w1.alloc (.cells #[.pointer none, .slice none 0 0] 84)) g 217 0 0 0 false ⟨#[]⟩ (eown (es0 tb))) := Lib.hid ((een_zero rfl).2 (blk_alloc HE.out _))
  have HR2 := Lib.hid (blk_alloc HR.out (.cells #[.pointer none, .slice none 0 0] 84))
  have HBL := Lib.hid (bl_new w1)
  have HT2 : Hid (Tab (w1.alloc (.cells #[.pointer none, .slice none 0 0] 84)) tb) := Lib.hid (HT.out.kp ((Kp.refl (fun _ => False) _).alloc _) (fun h => h))
  have HB2 : Hid (Below w.heap.size w (w1.alloc (.cells #[.pointer none, .slice none 0 0] 84))) := Lib.hid (HBW.out.trans ((below_alloc (Below.refl w1.heap.size w1) _).mono HBW.out.size))
  have HZ2 : Hid ((w1.alloc (.cells #[.pointer none, .slice none 0 0] 84)).heap.size = w1.heap.size + 1) := Lib.hid (by simp)
  have H02 : Hid (ReadsInt (w1.alloc (.cells #[.pointer none, .slice none 0 0] 84)) .u32 A0 n0 ls) := Lib.hid (H0.out.below HB2.out)
  generalize w1.alloc (.cells #[.pointer none, .slice none 0 0] 84) = w2 at *
  generalize hgb : w1.heap.size = gb at *
  have HL := Lib.hid HL1.out
  clear hz0 hz1 HE HR HBW HL1 hgb HT
  go_loopw [1] (fun l wr => l = .slice A0 n0 c0 ∧ wr = w2) (fun _ _ => 0)
  case atStart => exact ⟨rfl, rfl⟩
  case round =>
    obtain ⟨rfl, rfl⟩ := hrel
    go_wp2_with fail
    refine (efeed_any A0 n0 c0 ls 4096 (es0 tb) [] ⟨#[]⟩ rfl (by decide) trivial H02.out (fun ad h => by have := HA.out ad h; omega) HWF.out (by omega) (by omega) (by omega) (by omega) (by omega) HT2.out (Nat.ne_of_lt ht1) HE2.out).mono ?_
    rintro en w3 h3
    obtain ⟨x, y, rfl, hx, hk3, hy, he3⟩ := efeed_all h3 (by rw [HLN.out]; exact hn) HSC.out
    rw [HLN.out] at he3 ⊢
    have HX := Lib.hid hx
    have HY := Lib.hid hy
    have HE3 := Lib.hid he3
    have HBL3 := Lib.hid (bl_kp HBL.out hk3 (fun k hk => by rw [hk]; exact HL.out))
    have HR3 := Lib.hid (hk3.blk HR2.out (fun h => by omega))
    have hk3b := hk3.below (B := w.heap.size) HB2.out.size (fun k hk => by omega)
    have HB3 := Lib.hid (HB2.out.trans hk3b)
    have HZ3 : Hid (gb ≤ w3.heap.size) := Lib.hid (by have := hk3.size; have := HZ2.out; omega)
    have hxs : x.size ≤ 4000 := by
      have h9 := congrArg List.length hx
      rw [bytesOf_length] at h9
      have h8 := erun_len ls (es0 tb)
      have := HLN.out
      omega
    have HXS := Lib.hid hxs
    clear h3 hx hk3 hy he3 hk3b hxs
    go_wp2_with fail
    refine (bl_write gb gb [] x w3 HBL3.out (by have := HXS.out; simp; omega) HZ3.out).mono ?_
    rintro en w4 ⟨rfl, hbl4, hb4⟩
    rw [List.nil_append, Lib.strCells_eq] at hbl4
    have HBL4 : Hid (IsBl gb gb (Lib.byteCells x.data.toList) w4) := Lib.hid (.inr hbl4)
    have HE4 := Lib.hid (een_under HE3.out hb4 HL.out)
    have HR4 := Lib.hid (blk_under HR3.out hb4 (by have := HL.out; omega))
    have HB4 := Lib.hid (HB3.out.trans (hb4.mono (by have := HL.out; omega)))
    have HZ4 : Hid (gb ≤ w4.heap.size) := Lib.hid (Nat.le_trans HZ3.out hb4.size)
    clear hbl4 hb4
    obtain ⟨i0, hi, hz0', hz1', hz2'⟩ := info_parts infoU
    have hcut2 := cut_from (P := Tryz.prog) 24 56 .i64 Tryz.underlying24 hi 1 hz1' A0 n0 c0 (n0 : Int) (by omega) (by omega)
    rw [Int.toNat_natCast] at hcut2
    obtain ⟨A2, hA2⟩ : ∃ A2, (if c0 = n0 then A0 else A0.map (·.add (n0 * 1))) = A2 := ⟨_, rfl⟩
    simp only [hA2] at hcut2
    have hlz : ((((n0 - n0 : Nat)) : Int) == 0) = true := by simp
    clear hA2
    go_wp2_with fail
    refine (een_end HE4.out).mono ?_
    rintro en w5 ⟨rfl, he5, hk5⟩
    have HE5 := Lib.hid he5
    have HBL5 := Lib.hid (bl_kp HBL4.out hk5 (fun k hk => by rw [hk]; exact HL.out))
    have HR5 := Lib.hid (hk5.blk HR4.out (fun h => by omega))
    have HB5 := Lib.hid (HB4.out.trans (hk5.below (B := w.heap.size) HB4.out.size (fun k hk => by omega)))
    have HZ5 : Hid (gb ≤ w5.heap.size) := Lib.hid (Nat.le_trans HZ4.out hk5.size)
    clear he5 hk5
    have hyz : ((y.size : Int) == 0) = true := by rw [HY.out]; rfl
    go_wp2_with fail
    go_loopw [11] (fun _ wr => wr = w5) (fun _ _ => 0)
    case atStart => rfl
    case round =>
      subst hrel
      go_wp2_with fail
      refine (een_odone rfl HE5.out).mono ?_
      rintro en w6 ⟨rfl, rfl⟩
      go_wp2_with fail
      refine (bl_string gb gb x.data.toList _ HBL5.out HZ5.out).mono ?_
      rintro en w7 ⟨rfl, hb7⟩
      have HE7 := Lib.hid (een_under HE5.out hb7 HL.out)
      have HR7 := Lib.hid (blk_under HR5.out hb7 (by have := HL.out; omega))
      have HB7 := Lib.hid (HB5.out.trans (hb7.mono (by have := HL.out; omega)))
      clear hb7
      go_wp2_with fail
      refine (een_fail HE7.out).mono ?_
      rintro en w8 ⟨rfl, hb8⟩
      have HR8 := Lib.hid (blk_below HR7.out hb8)
      have HB8 := Lib.hid (HB7.out.trans (hb8.mono HB7.out.size))
      clear hb8
      have q0 : w8.cell? ⟨w.heap.size, 0, none⟩ = some (.int .i64 0) := blk_cell HR8.out 0
      have q1 : w8.cell? ⟨w.heap.size, 1, none⟩ = some (.int .i64 0) := blk_cell HR8.out 1
      have r0 : w8.frozen? ⟨w.heap.size, 0, none⟩ = false := blk_frozen HR8.out 0
      have r1 : w8.frozen? ⟨w.heap.size, 1, none⟩ = false := blk_frozen HR8.out 1
      go_wp2_with fail
      have HR8b : (w8.setCell ⟨w.heap.size, 0, none⟩ (.int .i64 0)).heap[w.heap.size]? = some (.cells #[.int .i64 0, .int .i64 0] 27 (0, 0)) := (blk_set HR8.out 0 _).trans rfl
      have HR9 : ((w8.setCell ⟨w.heap.size, 0, none⟩ (.int .i64 0)).setCell ⟨w.heap.size, 1, none⟩ (.int .i64 0)).heap[w.heap.size]? = some (.cells #[.int .i64 0, .int .i64 0] 27 (0, 0)) := (blk_set HR8b 1 _).trans rfl
      have HB9 : Below w.heap.size w ((w8.setCell ⟨w.heap.size, 0, none⟩ (.int .i64 0)).setCell ⟨w.heap.size, 1, none⟩ (.int .i64 0)) := (HB8.out.setCell (p := ⟨w.heap.size, 0, none⟩) (Nat.le_refl _) _).setCell (p := ⟨w.heap.size, 1, none⟩) (Nat.le_refl _) _
      (try simp only [Exit.inBlock, Exit.then])
      refine bodyPost_ret (results_tc rfl _ _ w.heap.size 27 #[.int .i64 0, .int .i64 0] (0, 0) _ rfl HR9 Tryz.underlying27 rfl (by kernel_rfl)) rfl ?_
      exact ⟨x, rfl, by rw [HX.out, erun_fst ls (es0 tb) ⟨⟩, erun_fst ls (es0 0) ⟨⟩], HB9⟩
end Go.Proofs.YtcgoofefiiihnaaGreat.E
namespace Go.Proofs.YtcgoofefiiihnaaGreat
open Go.RowKit Go.Proofs.YtcgoofefiiihnaaGreatW.PrintWords Go.Proofs.YtcgoofefiiihnaaGreatW.PrintMore
set_option linter.unusedVariables false
set_option linter.unusedSimpArgs false
set_option maxRecDepth 20000
theorem reads_lt {w : World} {k : IntKind} {A : Option Addr} {n : Nat} {xs : List Int} (h : ReadsInt w k A n xs) : ∀ ad, A = some ad → 0 < n → ad.block < w.heap.size := by
  intro ad had h0
  obtain ⟨ad1, he, hc⟩ := h.2.2 h0
  rw [had] at he
  cases he
  have := World.block_lt_of_cell? w _ (hc 0 h0)
  rw [add_block] at this
  exact this
theorem of_bytes {x y : ByteArray} (h : bytesOf x = bytesOf y) : x = y := by
  have h1 : x.data.toList.map (fun b => (b.toNat : Int)) = y.data.toList.map (fun b => (b.toNat : Int)) := h
  have h2 := (List.map_inj_right (f := fun b : UInt8 => (b.toNat : Int)) (fun a b hab => UInt8.toNat_inj.1 (Int.ofNat.inj hab))).1 h1
  rcases x with ⟨⟨x⟩⟩
  rcases y with ⟨⟨y⟩⟩
  cases h2
  rfl
theorem ne_name {t : ByteArray} {c : Int} (h : t.size = 0 ↔ ¬ (1 ≤ c ∧ c ≤ 10)) (h1 : 1 ≤ c) (h2 : c ≤ 10) : t.toList.isEmpty = false := by
  rw [isEmpty_size, decide_eq_false_iff_not, h]
  exact fun h => h ⟨h1, h2⟩
set_option maxHeartbeats 4000000 in
theorem text_a (w : World) : Calls Tryz.prog 21 #[.int .i64 1, .int .i64 6, .string ⟨#[65]⟩] w fun en w' => en = .returned (.tuple #[.string ⟨#[193]⟩, .agg #[.int .i64 0, .int .i64 0]]) ∧ Below w.heap.size w w' := by
  go_enter Tryz.func21, Tryz.ntmps21
  go_wp2_with fail
  refine (name_any 1 _ (by decide) (by decide)).mono ?_
  rintro en w1 ⟨t1, rfl, hz1, hb1⟩
  have hn1 := ne_name hz1 (by decide) (by decide)
  have HB1 := Lib.hid hb1
  have HR1 := Lib.hid (blk_below (blk_new w (.cells #[.int .i64 0, .int .i64 0] 27)) hb1)
  clear hb1 hz1
  go_wp2_with fail
  refine (name_any 6 _ (by decide) (by decide)).mono ?_
  rintro en w2 ⟨t2, rfl, hz2, hb2⟩
  have hn2 := ne_name hz2 (by decide) (by decide)
  have HB2 := Lib.hid (HB1.out.trans (hb2.mono HB1.out.size))
  have HR2 := Lib.hid (blk_below HR1.out hb2)
  clear hb2 hz2
  go_wp2_with fail
  refine (A.decode_any ⟨#[65]⟩ (by decide)).mono ?_
  rintro en w3 ⟨v, m, os, s, e, f, rfl, hm, hf, hr, ho, hb3, he, hff, hn⟩
  have key : m = 1 ∧ os = [65] ∧ e = 0 ∧ f = 0 := by
    have hz : (⟨#[65]⟩ : ByteArray).size = 1 := rfl
    rw [hz] at hm hn he
    rcases hn with rfl | ⟨h9, hn⟩
    · have h8 : run A.cnx A.st0 ((bytesOf ⟨#[65]⟩).take 1) = some (A.st0, [65]) := by rfl
      rw [h8] at hr
      cases hr
      exact ⟨rfl, rfl, he, by rw [hff, he]; rfl⟩
    · obtain rfl : m = 0 := by omega
      have h8 : some (A.st0, ([] : List Int)) = some (s, os) := hr
      cases h8
      exact absurd hn (by decide)
  obtain ⟨rfl, rfl, rfl, rfl⟩ := key
  obtain ⟨A3, c3, rfl, hle3, _⟩ := own_reads_of_le (enc := fun x => Value.int .u32 x) (d := (0 : Int)) ho
  have HO3 := Lib.hid (own_reads' ho)
  have HB3 := Lib.hid (HB2.out.trans (hb3.mono HB2.out.size))
  have HR3 := Lib.hid (blk_below HR2.out hb3)
  clear hm hf hr ho hb3 he hff hn
  go_wp2_with fail
  refine (E.encode_any A3 1 c3 [65] hle3 (HO3.out.below (below_alloc (Below.refl _ _) _)) (by decide) (by decide) (fun ad h => by have := reads_lt HO3.out ad h (by decide); simp; omega)).mono ?_
  rintro en w4 ⟨x, rfl, hx, hb4⟩
  obtain rfl : x = ⟨#[193]⟩ := by
    exact of_bytes (hx.trans (by rfl))
  have HR4 := Lib.hid (blk_below (blk_alloc HR3.out _) hb4)
  have HS4 := Lib.hid (blk_below (blk_new w3 (.cells #[.int .i64 0, .int .i64 0] 27)) hb4)
  have HB4 := Lib.hid ((below_alloc HB3.out (.cells #[.int .i64 0, .int .i64 0] 27)).trans (hb4.mono (Nat.le_trans HB3.out.size (by simp))))
  clear hb4 hx
  go_wp2_with fail
  have HS5 := Lib.hid (blk_alloc HS4.out (.cells #[.int .i64 0, .int .i64 0] 27))
  have HR5 := Lib.hid (blk_alloc HR4.out (.cells #[.int .i64 0, .int .i64 0] 27))
  have HB5 := Lib.hid (below_alloc HB4.out (.cells #[.int .i64 0, .int .i64 0] 27))
  generalize w4.alloc (Obj.cells #[.int .i64 0, .int .i64 0] 27) = W at *
  have HS6 := Lib.hid (blk_drew HS5.out)
  have HR6 := Lib.hid (blk_drew HR5.out)
  have q0 : W.drew.cell? ⟨w3.heap.size, 0, none⟩ = some (.int .i64 0) := blk_cell HS6.out 0
  have q1 : W.drew.cell? ⟨w3.heap.size, 1, none⟩ = some (.int .i64 0) := blk_cell HS6.out 1
  have r0 : W.drew.cell? ⟨w.heap.size, 0, none⟩ = some (.int .i64 0) := blk_cell HR6.out 0
  have r1 : W.drew.cell? ⟨w.heap.size, 1, none⟩ = some (.int .i64 0) := blk_cell HR6.out 1
  have f0 : W.drew.frozen? ⟨w.heap.size, 0, none⟩ = false := blk_frozen HR6.out 0
  have f1 : W.drew.frozen? ⟨w.heap.size, 1, none⟩ = false := blk_frozen HR6.out 1
  have q0' : W.cell? ⟨w3.heap.size, 0, none⟩ = some (.int .i64 0) := blk_cell HS5.out 0
  have q1' : W.cell? ⟨w3.heap.size, 1, none⟩ = some (.int .i64 0) := blk_cell HS5.out 1
  have r0' : W.cell? ⟨w.heap.size, 0, none⟩ = some (.int .i64 0) := blk_cell HR5.out 0
  have r1' : W.cell? ⟨w.heap.size, 1, none⟩ = some (.int .i64 0) := blk_cell HR5.out 1
  have f0' : W.frozen? ⟨w.heap.size, 0, none⟩ = false := blk_frozen HR5.out 0
  have f1' : W.frozen? ⟨w.heap.size, 1, none⟩ = false := blk_frozen HR5.out 1
  go_region
  go_wp2_with fail
  have HR8b : (W.setCell ⟨w.heap.size, 0, none⟩ (.int .i64 0)).heap[w.heap.size]? = some (.cells #[.int .i64 0, .int .i64 0] 27 (0, 0)) := (blk_set HR5.out 0 _).trans rfl
  have HR9 : ((W.setCell ⟨w.heap.size, 0, none⟩ (.int .i64 0)).setCell ⟨w.heap.size, 1, none⟩ (.int .i64 0)).drew.heap[w.heap.size]? = some (.cells #[.int .i64 0, .int .i64 0] 27 (0, 0)) := (blk_set HR8b 1 _).trans rfl
  have HB9 : Below w.heap.size w ((W.setCell ⟨w.heap.size, 0, none⟩ (.int .i64 0)).setCell ⟨w.heap.size, 1, none⟩ (.int .i64 0)).drew := by
    have h1 : Below w.heap.size w W := (below_alloc (Below.refl w.heap.size w) _).trans (HB5.out.mono (by simp))
    exact below_drew1 ((h1.setCell (p := ⟨w.heap.size, 0, none⟩) (Nat.le_refl _) _).setCell (p := ⟨w.heap.size, 1, none⟩) (Nat.le_refl _) _)
  (try simp only [Exit.inBlock, Exit.then])
  refine bodyPost_ret (results_tc rfl _ _ w.heap.size 27 #[.int .i64 0, .int .i64 0] (0, 0) _ rfl HR9 Tryz.underlying27 rfl (by kernel_rfl)) rfl ?_
  exact ⟨rfl, HB9⟩
end Go.Proofs.YtcgoofefiiihnaaGreat
namespace Go.Proofs.YtcgoofefiiihnaaGreat
open Go.RowKit Go.Proofs.YtcgoofefiiihnaaGreatW.PrintWords Go.Proofs.YtcgoofefiiihnaaGreatW.PrintMore
set_option linter.unusedVariables false
def le4 (n : Int) : List Int := [n % 256, n / 256 % 256, n / 65536 % 256, n / 16777216 % 256]
def le8 (n : Int) : List Int := le4 (n % 4294967296) ++ le4 (n / 4294967296 % 4294967296)
theorem le4_len (n : Int) : (le4 n).length = 4 := rfl
theorem le4_inj {a b : Int} (h : le4 a = le4 b) (ha : 0 ≤ a ∧ a < 4294967296) (hb : 0 ≤ b ∧ b < 4294967296) : a = b := by
  unfold le4 at h
  simp only [List.cons.injEq, and_true] at h
  obtain ⟨h0, h1, h2, h3⟩ := h
  omega
structure Bk where
  count : Int
  sum : Int
  pay : ByteArray
def Bk.ok (b : Bk) : Prop := 1 ≤ b.count ∧ b.count ≤ 65536 ∧ 0 ≤ b.sum ∧ b.sum < 4294967296 ∧ b.pay.size ≤ 1048576
def Bk.bytes (b : Bk) : List Int := 66 :: (le4 b.count ++ (le4 b.pay.size ++ (le4 b.sum ++ bytesOf b.pay)))
def flat : List Bk → List Int
  | [] => []
  | b :: r => b.bytes ++ flat r
theorem flat_snoc : ∀ (l : List Bk) (b : Bk), flat (l ++ [b]) = flat l ++ b.bytes
  | [], b => by simp [flat]
  | x :: l, b => by simp [flat, flat_snoc l b, List.append_assoc]
structure Tot where
  n : Int
  sc : Int
  by_ : Int
def Tot.add (t : Tot) (b : Bk) : Tot := ⟨(t.n + 1) % 4294967296, (t.sc + b.count) % 18446744073709551616, (t.by_ + b.pay.size) % 18446744073709551616⟩
def tot (l : List Bk) : Tot := l.foldl Tot.add ⟨0, 0, 0⟩
theorem tot_snoc (l : List Bk) (b : Bk) : tot (l ++ [b]) = (tot l).add b := by simp [tot, List.foldl_append]
def headL (c z : Int) : List Int := [80, 73, 76, 67, 1, c] ++ le4 z
def headF (c z : Int) : List Int := headL c z ++ le4 (addF 0 (headL c z))
def endL (t : Tot) : List Int := 90 :: (le4 t.n ++ (le8 t.sc ++ le8 t.by_))
def endF (t : Tot) : List Int := endL t ++ le4 (addF 0 (endL t))
theorem headL_len (c z : Int) : (headL c z).length = 10 := rfl
theorem headF_len (c z : Int) : (headF c z).length = 14 := by simp [headF, headL_len, le4_len]
theorem bytes_inj' {b b' : Bk} {r r' : List Int} (h : b.bytes ++ r = b'.bytes ++ r') (hb : b.ok) (hb' : b'.ok) : b = b' ∧ r = r' := by
  obtain ⟨c, s, p⟩ := b
  obtain ⟨c', s', p'⟩ := b'
  obtain ⟨h1, h2, h3, h4, h5⟩ := hb
  obtain ⟨k1, k2, k3, k4, k5⟩ := hb'
  simp only at h1 h2 h3 h4 h5 k1 k2 k3 k4 k5
  simp only [Bk.bytes, List.cons_append, List.append_assoc, List.cons.injEq, true_and] at h
  obtain ⟨a1, h⟩ := List.append_inj h rfl
  obtain ⟨a2, h⟩ := List.append_inj h rfl
  obtain ⟨a3, h⟩ := List.append_inj h rfl
  have e1 := le4_inj a1 (by omega) (by omega)
  have e2 := le4_inj a2 (by omega) (by omega)
  have e3 := le4_inj a3 (by omega) (by omega)
  obtain ⟨a4, hr⟩ := List.append_inj h (by rw [bytesOf_length, bytesOf_length]; omega)
  have e4 := of_bytes a4
  subst e1 e3 e4
  exact ⟨rfl, hr⟩
theorem flat_inj : ∀ (l l' : List Bk) (t t' : Tot), (∀ b ∈ l, b.ok) → (∀ b ∈ l', b.ok) → flat l ++ endF t = flat l' ++ endF t' → l = l'
  | [], [], _, _, _, _, _ => rfl
  | [], b :: l', t, t', _, _, h => by
    simp only [flat, Bk.bytes, endF, endL, List.nil_append, List.cons_append, List.cons.injEq] at h
    exact absurd h.1 (by decide)
  | b :: l, [], t, t', _, _, h => by
    simp only [flat, Bk.bytes, endF, endL, List.nil_append, List.cons_append, List.cons.injEq] at h
    exact absurd h.1 (by decide)
  | b :: l, b' :: l', t, t', ho, ho', h => by
    simp only [flat, List.append_assoc] at h
    obtain ⟨rfl, hr⟩ := bytes_inj' h (ho b List.mem_cons_self) (ho' b' List.mem_cons_self)
    rw [flat_inj l l' t t' (fun x hx => ho x (List.mem_cons_of_mem _ hx)) (fun x hx => ho' x (List.mem_cons_of_mem _ hx)) hr]
structure IsCrate (s : ByteArray) (c z : Int) (l : List Bk) : Prop where
  text : bytesOf s = headF c z ++ (flat l ++ endF (tot l))
  size : 0 ≤ z ∧ z < 4294967296
  ok : ∀ b ∈ l, b.ok
theorem crate_inj {s t : ByteArray} {c z c' z' : Int} {l l' : List Bk} (h : IsCrate s c z l) (h' : IsCrate t c' z' l') : s = t ↔ (c = c' ∧ z = z' ∧ l = l') := by
  constructor
  · rintro rfl
    have e := h.text.symm.trans h'.text
    obtain ⟨e1, e2⟩ := List.append_inj e (by rw [headF_len, headF_len])
    have e3 := flat_inj l l' _ _ h.ok h'.ok e2
    unfold headF headL at e1
    simp only [List.cons_append, List.cons.injEq, true_and, List.nil_append] at e1
    obtain ⟨ec, e1⟩ := e1
    obtain ⟨e4, _⟩ := List.append_inj e1 rfl
    exact ⟨ec, le4_inj e4 h.size h'.size, e3⟩
  · rintro ⟨rfl, rfl, rfl⟩
    exact of_bytes (h.text.trans h'.text.symm)
end Go.Proofs.YtcgoofefiiihnaaGreat
namespace Go.Proofs.YtcgoofefiiihnaaGreat
open Go.RowKit Go.Proofs.YtcgoofefiiihnaaGreatW.PrintWords Go.Proofs.YtcgoofefiiihnaaGreatW.PrintMore
set_option linter.unusedVariables false
set_option linter.unusedSimpArgs false
set_option maxRecDepth 20000
theorem four_any (n : Int) (w : World) : Calls Tryz.prog 111 #[.int .u32 n] w fun en w' => en = .returned (.string (strOfNums (le4 n))) ∧ Below w.heap.size w w' := PTopOne.crc_Four.calls n _ w rfl
theorem le4_in (n : Int) : ∀ x ∈ le4 n, 0 ≤ x ∧ x ≤ 255 := by
  intro x hx
  unfold le4 at hx
  simp only [List.mem_cons, List.not_mem_nil, or_false] at hx
  rcases hx with rfl | rfl | rfl | rfl <;> omega
theorem le4_bytes (n : Int) : bytesOf (strOfNums (le4 n)) = le4 n := bytesOf_ofNums (le4_in n)
theorem le4_size (n : Int) : (strOfNums (le4 n)).size = 4 := by rw [strOfNums_size]; rfl
theorem eight_any (n : Int) (w : World) : Calls Tryz.prog 113 #[.int .u64 n] w fun en w' => en = .returned (.string (strOfNums (le4 (n % 4294967296)) ++ strOfNums (le4 (n / 4294967296 % 4294967296)))) ∧ Below w.heap.size w w' := by
  refine PTopOne.crate_eight.calls n _ w ?_
  show (if (strOfNums (le4 (n % 4294967296))).size + (strOfNums (le4 (n / 4294967296 % 4294967296))).size ≤ 9223372036854775807 then (some (strOfNums (le4 (n % 4294967296)) ++ strOfNums (le4 (n / 4294967296 % 4294967296)))) else none) = _
  rw [if_pos (by rw [le4_size, le4_size]; decide)]
theorem eight_bytes (n : Int) : bytesOf (strOfNums (le4 (n % 4294967296)) ++ strOfNums (le4 (n / 4294967296 % 4294967296))) = le8 n := by rw [bytesOf_append, le4_bytes, le4_bytes]; rfl
theorem two_reads (W : World) (x y : Int) : ReadsInt (W.alloc (.cells #[.int .u8 x, .int .u8 y] 5)) .u8 (some ⟨W.heap.size, 0, none⟩) 2 [x, y] :=
  ⟨rfl, by decide, fun _ => ⟨_, rfl, fun j hj => by
    have h := blk_cell (blk_new W (.cells #[.int .u8 x, .int .u8 y] 5)) j
    match j, hj with
    | 0, _ => exact h
    | 1, _ => exact h⟩⟩
theorem one_reads (W : World) (x : Int) : ReadsInt (W.alloc (.cells #[.int .u8 x] 5)) .u8 (some ⟨W.heap.size, 0, none⟩) 1 [x] :=
  ⟨rfl, by decide, fun _ => ⟨_, rfl, fun j hj => by
    have h := blk_cell (blk_new W (.cells #[.int .u8 x] 5)) j
    match j, hj with
    | 0, _ => exact h⟩⟩
theorem head_bytes (c z : Int) (hc0 : 1 ≤ c) (hc1 : c ≤ 10) : bytesOf ((⟨#[80, 73, 76, 67]⟩ : ByteArray) ++ strOfNums [1, c] ++ strOfNums (le4 z)) = headL c z := by
  rw [bytesOf_append, bytesOf_append, le4_bytes, bytesOf_ofNums (by intro x hx; simp only [List.mem_cons, List.not_mem_nil, or_false] at hx; rcases hx with rfl | rfl <;> omega)]
  rfl
set_option maxHeartbeats 8000000 in
theorem head_any (c z : Int) (hc0 : 1 ≤ c) (hc1 : c ≤ 10) (hz0 : 1 ≤ z) (hz1 : z ≤ 65536) (w : World) : Calls Tryz.prog 115 #[.int .i64 c, .int .i64 z] w fun en w' => ∃ t : ByteArray, en = .returned (.string t) ∧ bytesOf t = headF c z ∧ Below w.heap.size w w' := by
  have hwc : IntKind.u8.wrap c = c := wrap8 (by omega) (by omega)
  have hwz : IntKind.u32.wrap z = z := wrap_u32 (by omega) (by omega)
  have hcat1 : ¬ (9223372036854775807 < 4 + (strOfNums [1, c]).size) := by rw [strOfNums_size]; exact Nat.not_lt.2 (by simp)
  have hcat2 : ¬ (9223372036854775807 < 4 + (strOfNums [1, c]).size + (strOfNums (le4 z)).size) := by rw [strOfNums_size, le4_size]; exact Nat.not_lt.2 (by simp)
  go_enter Tryz.func115, Tryz.ntmps115
  go_upto_region 1 with fail
  go_cut [5] (fun s5 wx => ∃ t : ByteArray, s5 = .string t ∧ bytesOf t = headL c z ∧ Below w.heap.size w wx)
  case first =>
    refine wp_region_any (by kernel_rfl) ?_
    (try (change wpAny _ _ _ _ _ _ _ (World.drew _)))
    refine wpAny_take (i := 0) (v := ?_) rfl (by kernel_rfl) (by kernel_rfl) (by kernel_rfl) (fun _ _ _ h => h) (Or.inl ⟨by rfl, ?_⟩) ?_
    rotate_left
    · intro w
      (try go_simp)
      (try with_reducible rfl)
    refine wpAny_take (i := 1) (v := ?_) rfl (by kernel_rfl) (by kernel_rfl) (by kernel_rfl) (fun _ _ _ h => h) (Or.inl ⟨by rfl, ?_⟩) ?_
    rotate_left
    · intro w
      (try go_simp)
      (try with_reducible rfl)
    refine wpAny_take (i := 5) (v := ?_) rfl (by kernel_rfl) (by kernel_rfl) (by kernel_rfl) (fun _ _ _ h => h) (Or.inl ⟨by rfl, ?_⟩) ?_
    rotate_left
    · intro w
      (try go_simp)
      (try with_reducible rfl)
    refine wpAny_take (i := 6) (v := ?_) rfl (by kernel_rfl) (by kernel_rfl) (by kernel_rfl) (fun _ _ _ h => h) (Or.inl ⟨by rfl, ?_⟩) ?_
    rotate_left
    · intro w
      (try go_simp)
      (try with_reducible rfl)
    refine wpAny_ready (rs := [2, 7]) (by kernel_rfl) (by simp) ?_
    refine AllReady.cons rfl (fun K hK => ?_) ?_
    · go_simp
      refine hK _ _ ?_
      clear hK K
      refine wpAny_ready (rs := [3, 7]) (by kernel_rfl) (by simp) ?_
      refine AllReady.cons rfl (fun K hK => ?_) ?_
      · go_simp
        rw [string_of_reads (P := Tryz.prog) (xs := [1, c]) Tryz.underlying82 Tryz.underlying5 Tryz.underlying9 (by first | exact two_reads w 1 c | exact two_reads w2 1 c | exact ReadsInt.below (show ReadsInt (World.drew (w.alloc _)) .u8 _ 2 [1, c] from two_reads w 1 c) HB2.out)]
        simp only [Result.andThen]
        rw [Oper.upon_value]
        refine hK _ _ ?_
        clear hK K
        refine wpAny_take (i := 4) (v := ?_) rfl (by kernel_rfl) (by kernel_rfl) (by kernel_rfl) (fun _ _ _ h => h) (Or.inl ⟨by rfl, ?_⟩) ?_
        rotate_left
        · intro w
          (try go_simp)
          (try with_reducible rfl)
        refine wpAny_ready (rs := [7]) (by kernel_rfl) (by simp) ?_
        refine AllReady.cons rfl (fun K hK => ?_) ?_
        · go_simp
          go_wp2_with (go_at_call 111; refine (four_any z _).mono ?_; rintro en w2 ⟨rfl, hb2⟩; have HB2 := Lib.hid hb2; clear hb2)
          refine wpAny_take (i := 8) (v := ?_) rfl (by kernel_rfl) (by kernel_rfl) (by kernel_rfl) (fun _ _ _ h => h) (Or.inl ⟨by rfl, ?_⟩) ?_
          rotate_left
          · intro w
            (try go_simp)
            (try with_reducible rfl)
          refine wpAny_take (i := 9) (v := ?_) rfl (by kernel_rfl) (by kernel_rfl) (by kernel_rfl) (fun _ _ _ h => h) (Or.inl ⟨by rfl, ?_⟩) ?_
          rotate_left
          · intro w
            (try go_simp)
            (try with_reducible rfl)
          refine wpAny_done (by kernel_rfl) ?_ _
          (try simp only [Exit.then])
          go_wp2_with fail
          go_meet
          refine ⟨_, rfl, ?_, ?_⟩
          · exact head_bytes c z hc0 hc1
          · first | exact below_drew1 (below_alloc (Below.refl _ _) _) | exact (below_alloc (below_drew1 (Below.refl _ _)) _).trans (HB2.out.mono (by simp)) | exact below_alloc ((below_drew1 (Below.refl w.heap.size w)).trans HB2.out) _
        exact AllReady.nil
      refine AllReady.cons rfl (fun K hK => ?_) ?_
      · go_simp
        go_wp2_with (go_at_call 111; refine (four_any z _).mono ?_; rintro en w2 ⟨rfl, hb2⟩; have HB2 := Lib.hid hb2; clear hb2)
        refine wpAny_ready (rs := [3]) (by kernel_rfl) (by simp) ?_
        refine AllReady.cons rfl (fun K hK => ?_) ?_
        · go_simp
          rw [string_of_reads (P := Tryz.prog) (xs := [1, c]) Tryz.underlying82 Tryz.underlying5 Tryz.underlying9 (by first | exact two_reads w 1 c | exact two_reads w2 1 c | exact ReadsInt.below (show ReadsInt (World.drew (w.alloc _)) .u8 _ 2 [1, c] from two_reads w 1 c) HB2.out)]
          simp only [Result.andThen]
          rw [Oper.upon_value]
          refine hK _ _ ?_
          clear hK K
          refine wpAny_take (i := 4) (v := ?_) rfl (by kernel_rfl) (by kernel_rfl) (by kernel_rfl) (fun _ _ _ h => h) (Or.inl ⟨by rfl, ?_⟩) ?_
          rotate_left
          · intro w
            (try go_simp)
            (try with_reducible rfl)
          refine wpAny_take (i := 8) (v := ?_) rfl (by kernel_rfl) (by kernel_rfl) (by kernel_rfl) (fun _ _ _ h => h) (Or.inl ⟨by rfl, ?_⟩) ?_
          rotate_left
          · intro w
            (try go_simp)
            (try with_reducible rfl)
          refine wpAny_take (i := 9) (v := ?_) rfl (by kernel_rfl) (by kernel_rfl) (by kernel_rfl) (fun _ _ _ h => h) (Or.inl ⟨by rfl, ?_⟩) ?_
          rotate_left
          · intro w
            (try go_simp)
            (try with_reducible rfl)
          refine wpAny_done (by kernel_rfl) ?_ _
          (try simp only [Exit.then])
          go_wp2_with fail
          go_meet
          refine ⟨_, rfl, ?_, ?_⟩
          · exact head_bytes c z hc0 hc1
          · first | exact below_drew1 (below_alloc (Below.refl _ _) _) | exact (below_alloc (below_drew1 (Below.refl _ _)) _).trans (HB2.out.mono (by simp)) | exact below_alloc ((below_drew1 (Below.refl w.heap.size w)).trans HB2.out) _
        exact AllReady.nil
      exact AllReady.nil
    refine AllReady.cons rfl (fun K hK => ?_) ?_
    · go_simp
      go_wp2_with (go_at_call 111; refine (four_any z _).mono ?_; rintro en w2 ⟨rfl, hb2⟩; have HB2 := Lib.hid hb2; clear hb2)
      refine wpAny_ready (rs := [2]) (by kernel_rfl) (by simp) ?_
      refine AllReady.cons rfl (fun K hK => ?_) ?_
      · go_simp
        refine hK _ _ ?_
        clear hK K
        refine wpAny_ready (rs := [3]) (by kernel_rfl) (by simp) ?_
        refine AllReady.cons rfl (fun K hK => ?_) ?_
        · go_simp
          rw [string_of_reads (P := Tryz.prog) (xs := [1, c]) Tryz.underlying82 Tryz.underlying5 Tryz.underlying9 (by first | exact two_reads w 1 c | exact two_reads w2 1 c | exact ReadsInt.below (show ReadsInt (World.drew (w.alloc _)) .u8 _ 2 [1, c] from two_reads w 1 c) HB2.out)]
          simp only [Result.andThen]
          rw [Oper.upon_value]
          refine hK _ _ ?_
          clear hK K
          refine wpAny_take (i := 4) (v := ?_) rfl (by kernel_rfl) (by kernel_rfl) (by kernel_rfl) (fun _ _ _ h => h) (Or.inl ⟨by rfl, ?_⟩) ?_
          rotate_left
          · intro w
            (try go_simp)
            (try with_reducible rfl)
          refine wpAny_take (i := 8) (v := ?_) rfl (by kernel_rfl) (by kernel_rfl) (by kernel_rfl) (fun _ _ _ h => h) (Or.inl ⟨by rfl, ?_⟩) ?_
          rotate_left
          · intro w
            (try go_simp)
            (try with_reducible rfl)
          refine wpAny_take (i := 9) (v := ?_) rfl (by kernel_rfl) (by kernel_rfl) (by kernel_rfl) (fun _ _ _ h => h) (Or.inl ⟨by rfl, ?_⟩) ?_
          rotate_left
          · intro w
            (try go_simp)
            (try with_reducible rfl)
          refine wpAny_done (by kernel_rfl) ?_ _
          (try simp only [Exit.then])
          go_wp2_with fail
          go_meet
          refine ⟨_, rfl, ?_, ?_⟩
          · exact head_bytes c z hc0 hc1
          · first | exact below_drew1 (below_alloc (Below.refl _ _) _) | exact (below_alloc (below_drew1 (Below.refl _ _)) _).trans (HB2.out.mono (by simp)) | exact below_alloc ((below_drew1 (Below.refl w.heap.size w)).trans HB2.out) _
        exact AllReady.nil
      exact AllReady.nil
    exact AllReady.nil
  case rest =>
    obtain ⟨t, rfl, ht, hb⟩ := hcut
    have hz : t.size = 10 := by
      have h9 := congrArg List.length ht
      rw [bytesOf_length] at h9
      exact h9.trans (headL_len c z)
    have HB := Lib.hid hb
    have HT := Lib.hid ht
    have hcat3 : ¬ (9223372036854775807 < t.size + (strOfNums (le4 (ofF t))).size) := by rw [hz, le4_size]; decide
    have HZ := Lib.hid hz
    clear hb ht hz
    go_wp2_with fail
    refine (of_any ⟨wc.heap.size, 0, none⟩ 1 t _ (by have := HZ.out; omega) ((blk_cell (blk_new wc _) 0).trans rfl)).mono ?_
    rintro en w1 ⟨rfl, hb1⟩
    have HB1 := Lib.hid ((below_alloc HB.out (.cells #[.string t] 9)).trans (hb1.mono (Nat.le_trans HB.out.size (by simp))))
    clear hb1
    go_wp2_with fail
    refine (four_any (ofF t) _).mono ?_
    rintro en w2 ⟨rfl, hb2⟩
    have HB2 := Lib.hid (HB1.out.trans (hb2.mono HB1.out.size))
    clear hb2
    go_wp2_with fail
    go_ret
    refine ⟨_, rfl, ?_, HB2.out⟩
    rw [bytesOf_append, le4_bytes, ofF, HT.out]
    rfl
abbrev WrAt (w : World) (g : Nat) (c z : Int) (b o : Bool) (l : Value) (n x y : Int) : Prop := w.heap[g]? = some (.cells #[.int .i64 c, .int .i64 z, .bool b, .bool o, l, .int .u32 n, .int .u64 x, .int .u64 y] 164 (0, 0))
theorem end_bytes (n x y : Int) : bytesOf (strOfNums [90] ++ strOfNums (le4 n) ++ (strOfNums (le4 (x % 4294967296)) ++ strOfNums (le4 (x / 4294967296 % 4294967296))) ++ (strOfNums (le4 (y % 4294967296)) ++ strOfNums (le4 (y / 4294967296 % 4294967296)))) = endL ⟨n, x, y⟩ := by
  rw [bytesOf_append, bytesOf_append, bytesOf_append, eight_bytes, eight_bytes, le4_bytes, bytesOf_ofNums (by intro x hx; simp only [List.mem_cons, List.not_mem_nil, or_false] at hx; subst hx; decide)]
  simp [endL]
theorem eight_size (n : Int) : (strOfNums (le4 (n % 4294967296)) ++ strOfNums (le4 (n / 4294967296 % 4294967296))).size = 8 := by rw [ByteArray.size_append, le4_size, le4_size]
theorem endL_len (t : Tot) : (endL t).length = 21 := by simp [endL, le8, le4_len]
def eightS (n : Int) : ByteArray := strOfNums (le4 (n % 4294967296)) ++ strOfNums (le4 (n / 4294967296 % 4294967296))
set_option maxHeartbeats 8000000 in
theorem end_any {w : World} {g : Nat} {c z n x y : Int} {b o : Bool} {l : Value} (h : WrAt w g c z b o l n x y) : Calls Tryz.prog 85 #[.pointer (some ⟨g, 5, none⟩)] w fun en w' => ∃ t : ByteArray, en = .returned (.string t) ∧ bytesOf t = endF ⟨n, x, y⟩ ∧ Below w.heap.size w w' := by
  have HW := Lib.hid h
  clear h
  have hcat1 : ¬ (9223372036854775807 < (strOfNums [90]).size + (strOfNums (le4 n)).size) := by rw [strOfNums_size, le4_size]; exact Nat.not_lt.2 (by simp)
  have hcat2 : ¬ (9223372036854775807 < (strOfNums [90]).size + (strOfNums (le4 n)).size + (eightS x).size) := by rw [strOfNums_size, le4_size, eightS, eight_size]; exact Nat.not_lt.2 (by simp)
  have hcat4 : ¬ (9223372036854775807 < (strOfNums [90]).size + (strOfNums (le4 n)).size + (eightS x).size + (eightS y).size) := by rw [strOfNums_size, le4_size, eightS, eight_size, eightS, eight_size]; exact Nat.not_lt.2 (by simp)
  go_enter Tryz.func85, Tryz.ntmps85
  go_upto_region 1 with fail
  go_cut [3] (fun s3 wx => ∃ t : ByteArray, s3 = .string t ∧ bytesOf t = endL ⟨n, x, y⟩ ∧ Below w.heap.size w wx)
  case first =>
    refine wp_region_held_drew (S := fun w' => WrAt w' g c z b o l n x y) (by kernel_rfl) (blk_drew HW.out) (fun hS => ?_)
    (try (change wpAnyH _ _ _ _ _ _ _ _ (World.drew _)))
    have HBv0 := Lib.hid (below_drew1 (Below.refl w.heap.size w))
    generalize World.drew w = v0 at *
    refine wpAnyH_take (i := 2) (v := ?_) rfl (by kernel_rfl) (by kernel_rfl) (by kernel_rfl) (fun _ _ _ h => h) (Or.inl ⟨by rfl, ?_⟩) hS ?_
    rotate_left
    · intro w hS
      have c5 : w.cell? ⟨g, 5, none⟩ = some (.int .u32 n) := (blk_cell hS 5).trans rfl
      have c6 : w.cell? ⟨g, 6, none⟩ = some (.int .u64 x) := (blk_cell hS 6).trans rfl
      have c7 : w.cell? ⟨g, 7, none⟩ = some (.int .u64 y) := (blk_cell hS 7).trans rfl
      clear hS
      (try go_simp)
      (try with_reducible rfl)
    refine wpAnyH_take (i := 3) (v := ?_) rfl (by kernel_rfl) (by kernel_rfl) (by kernel_rfl) (fun _ _ _ h => h) (Or.inl ⟨by rfl, ?_⟩) hS ?_
    rotate_left
    · intro w hS
      have c5 : w.cell? ⟨g, 5, none⟩ = some (.int .u32 n) := (blk_cell hS 5).trans rfl
      have c6 : w.cell? ⟨g, 6, none⟩ = some (.int .u64 x) := (blk_cell hS 6).trans rfl
      have c7 : w.cell? ⟨g, 7, none⟩ = some (.int .u64 y) := (blk_cell hS 7).trans rfl
      clear hS
      (try go_simp)
      (try with_reducible rfl)
    refine wpAnyH_take (i := 4) (v := ?_) rfl (by kernel_rfl) (by kernel_rfl) (by kernel_rfl) (fun _ _ _ h => h) (Or.inl ⟨by rfl, ?_⟩) hS ?_
    rotate_left
    · intro w hS
      have c5 : w.cell? ⟨g, 5, none⟩ = some (.int .u32 n) := (blk_cell hS 5).trans rfl
      have c6 : w.cell? ⟨g, 6, none⟩ = some (.int .u64 x) := (blk_cell hS 6).trans rfl
      have c7 : w.cell? ⟨g, 7, none⟩ = some (.int .u64 y) := (blk_cell hS 7).trans rfl
      clear hS
      (try go_simp)
      (try with_reducible rfl)
    refine wpAnyH_take (i := 5) (v := ?_) rfl (by kernel_rfl) (by kernel_rfl) (by kernel_rfl) (fun _ _ _ h => h) (Or.inl ⟨by rfl, ?_⟩) hS ?_
    rotate_left
    · intro w hS
      have c5 : w.cell? ⟨g, 5, none⟩ = some (.int .u32 n) := (blk_cell hS 5).trans rfl
      have c6 : w.cell? ⟨g, 6, none⟩ = some (.int .u64 x) := (blk_cell hS 6).trans rfl
      have c7 : w.cell? ⟨g, 7, none⟩ = some (.int .u64 y) := (blk_cell hS 7).trans rfl
      clear hS
      (try go_simp)
      (try with_reducible rfl)
    refine wpAnyH_take (i := 8) (v := ?_) rfl (by kernel_rfl) (by kernel_rfl) (by kernel_rfl) (fun _ _ _ h => h) (Or.inl ⟨by rfl, ?_⟩) hS ?_
    rotate_left
    · intro w hS
      have c5 : w.cell? ⟨g, 5, none⟩ = some (.int .u32 n) := (blk_cell hS 5).trans rfl
      have c6 : w.cell? ⟨g, 6, none⟩ = some (.int .u64 x) := (blk_cell hS 6).trans rfl
      have c7 : w.cell? ⟨g, 7, none⟩ = some (.int .u64 y) := (blk_cell hS 7).trans rfl
      clear hS
      (try go_simp)
      (try with_reducible rfl)
    refine wpAnyH_take (i := 9) (v := ?_) rfl (by kernel_rfl) (by kernel_rfl) (by kernel_rfl) (fun _ _ _ h => h) (Or.inl ⟨by rfl, ?_⟩) hS ?_
    rotate_left
    · intro w hS
      have c5 : w.cell? ⟨g, 5, none⟩ = some (.int .u32 n) := (blk_cell hS 5).trans rfl
      have c6 : w.cell? ⟨g, 6, none⟩ = some (.int .u64 x) := (blk_cell hS 6).trans rfl
      have c7 : w.cell? ⟨g, 7, none⟩ = some (.int .u64 y) := (blk_cell hS 7).trans rfl
      clear hS
      (try go_simp)
      (try with_reducible rfl)
    refine wpAnyH_take (i := 10) (v := ?_) rfl (by kernel_rfl) (by kernel_rfl) (by kernel_rfl) (fun _ _ _ h => h) (Or.inl ⟨by rfl, ?_⟩) hS ?_
    rotate_left
    · intro w hS
      have c5 : w.cell? ⟨g, 5, none⟩ = some (.int .u32 n) := (blk_cell hS 5).trans rfl
      have c6 : w.cell? ⟨g, 6, none⟩ = some (.int .u64 x) := (blk_cell hS 6).trans rfl
      have c7 : w.cell? ⟨g, 7, none⟩ = some (.int .u64 y) := (blk_cell hS 7).trans rfl
      clear hS
      (try go_simp)
      (try with_reducible rfl)
    refine wpAnyH_take (i := 11) (v := ?_) rfl (by kernel_rfl) (by kernel_rfl) (by kernel_rfl) (fun _ _ _ h => h) (Or.inl ⟨by rfl, ?_⟩) hS ?_
    rotate_left
    · intro w hS
      have c5 : w.cell? ⟨g, 5, none⟩ = some (.int .u32 n) := (blk_cell hS 5).trans rfl
      have c6 : w.cell? ⟨g, 6, none⟩ = some (.int .u64 x) := (blk_cell hS 6).trans rfl
      have c7 : w.cell? ⟨g, 7, none⟩ = some (.int .u64 y) := (blk_cell hS 7).trans rfl
      clear hS
      (try go_simp)
      (try with_reducible rfl)
    refine wpAnyH_take (i := 14) (v := ?_) rfl (by kernel_rfl) (by kernel_rfl) (by kernel_rfl) (fun _ _ _ h => h) (Or.inl ⟨by rfl, ?_⟩) hS ?_
    rotate_left
    · intro w hS
      have c5 : w.cell? ⟨g, 5, none⟩ = some (.int .u32 n) := (blk_cell hS 5).trans rfl
      have c6 : w.cell? ⟨g, 6, none⟩ = some (.int .u64 x) := (blk_cell hS 6).trans rfl
      have c7 : w.cell? ⟨g, 7, none⟩ = some (.int .u64 y) := (blk_cell hS 7).trans rfl
      clear hS
      (try go_simp)
      (try with_reducible rfl)
    refine wpAnyH_take (i := 15) (v := ?_) rfl (by kernel_rfl) (by kernel_rfl) (by kernel_rfl) (fun _ _ _ h => h) (Or.inl ⟨by rfl, ?_⟩) hS ?_
    rotate_left
    · intro w hS
      have c5 : w.cell? ⟨g, 5, none⟩ = some (.int .u32 n) := (blk_cell hS 5).trans rfl
      have c6 : w.cell? ⟨g, 6, none⟩ = some (.int .u64 x) := (blk_cell hS 6).trans rfl
      have c7 : w.cell? ⟨g, 7, none⟩ = some (.int .u64 y) := (blk_cell hS 7).trans rfl
      clear hS
      (try go_simp)
      (try with_reducible rfl)
    refine wpAnyH_take (i := 16) (v := ?_) rfl (by kernel_rfl) (by kernel_rfl) (by kernel_rfl) (fun _ _ _ h => h) (Or.inl ⟨by rfl, ?_⟩) hS ?_
    rotate_left
    · intro w hS
      have c5 : w.cell? ⟨g, 5, none⟩ = some (.int .u32 n) := (blk_cell hS 5).trans rfl
      have c6 : w.cell? ⟨g, 6, none⟩ = some (.int .u64 x) := (blk_cell hS 6).trans rfl
      have c7 : w.cell? ⟨g, 7, none⟩ = some (.int .u64 y) := (blk_cell hS 7).trans rfl
      clear hS
      (try go_simp)
      (try with_reducible rfl)
    refine wpAnyH_take (i := 17) (v := ?_) rfl (by kernel_rfl) (by kernel_rfl) (by kernel_rfl) (fun _ _ _ h => h) (Or.inl ⟨by rfl, ?_⟩) hS ?_
    rotate_left
    · intro w hS
      have c5 : w.cell? ⟨g, 5, none⟩ = some (.int .u32 n) := (blk_cell hS 5).trans rfl
      have c6 : w.cell? ⟨g, 6, none⟩ = some (.int .u64 x) := (blk_cell hS 6).trans rfl
      have c7 : w.cell? ⟨g, 7, none⟩ = some (.int .u64 y) := (blk_cell hS 7).trans rfl
      clear hS
      (try go_simp)
      (try with_reducible rfl)
    refine wpAnyH_ready (rs := [0, 6]) (by kernel_rfl) (by simp) ?_
    refine AllReadyH.cons rfl (fun K hK => ?_) ?_
    · go_simp
      refine hK.out _ _ (blk_alloc hS _) (fun hS => ?_)
      clear hK K
      have HRv1 := Lib.hid (one_reads v0 90)
      have HBv1 := Lib.hid (below_alloc HBv0.out (.cells #[.int .u8 90] 5))
      generalize World.alloc v0 _ = v1 at *
      refine wpAnyH_ready (rs := [1, 6]) (by kernel_rfl) (by simp) ?_
      refine AllReadyH.cons rfl (fun K hK => ?_) ?_
      · go_simp
        rw [string_of_reads (P := Tryz.prog) (xs := [90]) Tryz.underlying82 Tryz.underlying5 Tryz.underlying9 HRv1.out]
        simp only [Result.andThen]
        rw [Oper.upon_value]
        refine hK.out _ _ (hS) (fun hS => ?_)
        clear hK K
        refine wpAnyH_ready (rs := [6]) (by kernel_rfl) (by simp) ?_
        refine AllReadyH.cons rfl (fun K hK => ?_) ?_
        · go_simp
          go_wp2_with (go_at_call 111; refine (four_any n _).mono ?_; rintro en v2 ⟨rfl, hb⟩; have HBv2 := Lib.hid (HBv1.out.trans (hb.mono HBv1.out.size)); (try have HRv2 := Lib.hid (HRv1.out.below hb)); have KB := Lib.hid hb; clear hb)
          refine hK.out _ _ (blk_below hS KB.out) (fun hS => ?_)
          clear hK K
          clear KB
          refine wpAnyH_take (i := 7) (v := ?_) rfl (by kernel_rfl) (by kernel_rfl) (by kernel_rfl) (fun _ _ _ h => h) (Or.inl ⟨by rfl, ?_⟩) hS ?_
          rotate_left
          · intro w hS
            have c5 : w.cell? ⟨g, 5, none⟩ = some (.int .u32 n) := (blk_cell hS 5).trans rfl
            have c6 : w.cell? ⟨g, 6, none⟩ = some (.int .u64 x) := (blk_cell hS 6).trans rfl
            have c7 : w.cell? ⟨g, 7, none⟩ = some (.int .u64 y) := (blk_cell hS 7).trans rfl
            clear hS
            (try go_simp)
            (try with_reducible rfl)
          refine wpAnyH_ready (rs := [12]) (by kernel_rfl) (by simp) ?_
          refine AllReadyH.cons rfl (fun K hK => ?_) ?_
          · go_simp
            go_wp2_with (go_at_call 113; refine (eight_any x _).mono ?_; rintro en v3 ⟨rfl, hb⟩; have HBv3 := Lib.hid (HBv2.out.trans (hb.mono HBv2.out.size)); (try have HRv3 := Lib.hid (HRv2.out.below hb)); have KB := Lib.hid hb; clear hb)
            rw [show strOfNums (le4 (x % 4294967296)) ++ strOfNums (le4 (x / 4294967296 % 4294967296)) = eightS x from rfl]
            refine hK.out _ _ (blk_below hS KB.out) (fun hS => ?_)
            clear hK K
            clear KB
            refine wpAnyH_take (i := 13) (v := ?_) rfl (by kernel_rfl) (by kernel_rfl) (by kernel_rfl) (fun _ _ _ h => h) (Or.inl ⟨by rfl, ?_⟩) hS ?_
            rotate_left
            · intro w hS
              have c5 : w.cell? ⟨g, 5, none⟩ = some (.int .u32 n) := (blk_cell hS 5).trans rfl
              have c6 : w.cell? ⟨g, 6, none⟩ = some (.int .u64 x) := (blk_cell hS 6).trans rfl
              have c7 : w.cell? ⟨g, 7, none⟩ = some (.int .u64 y) := (blk_cell hS 7).trans rfl
              clear hS
              (try go_simp)
              (try with_reducible rfl)
            refine wpAnyH_ready (rs := [18]) (by kernel_rfl) (by simp) ?_
            refine AllReadyH.cons rfl (fun K hK => ?_) ?_
            · go_simp
              go_wp2_with (go_at_call 113; refine (eight_any y _).mono ?_; rintro en v4 ⟨rfl, hb⟩; have HBv4 := Lib.hid (HBv3.out.trans (hb.mono HBv3.out.size)); (try have HRv4 := Lib.hid (HRv3.out.below hb)); have KB := Lib.hid hb; clear hb)
              rw [show strOfNums (le4 (y % 4294967296)) ++ strOfNums (le4 (y / 4294967296 % 4294967296)) = eightS y from rfl]
              refine hK.out _ _ (blk_below hS KB.out) (fun hS => ?_)
              clear hK K
              clear KB
              refine wpAnyH_take (i := 19) (v := ?_) rfl (by kernel_rfl) (by kernel_rfl) (by kernel_rfl) (fun _ _ _ h => h) (Or.inl ⟨by rfl, ?_⟩) hS ?_
              rotate_left
              · intro w hS
                have c5 : w.cell? ⟨g, 5, none⟩ = some (.int .u32 n) := (blk_cell hS 5).trans rfl
                have c6 : w.cell? ⟨g, 6, none⟩ = some (.int .u64 x) := (blk_cell hS 6).trans rfl
                have c7 : w.cell? ⟨g, 7, none⟩ = some (.int .u64 y) := (blk_cell hS 7).trans rfl
                clear hS
                (try go_simp)
                (try with_reducible rfl)
              refine wpAnyH_take (i := 20) (v := ?_) rfl (by kernel_rfl) (by kernel_rfl) (by kernel_rfl) (fun _ _ _ h => h) (Or.inl ⟨by rfl, ?_⟩) hS ?_
              rotate_left
              · intro w hS
                have c5 : w.cell? ⟨g, 5, none⟩ = some (.int .u32 n) := (blk_cell hS 5).trans rfl
                have c6 : w.cell? ⟨g, 6, none⟩ = some (.int .u64 x) := (blk_cell hS 6).trans rfl
                have c7 : w.cell? ⟨g, 7, none⟩ = some (.int .u64 y) := (blk_cell hS 7).trans rfl
                clear hS
                (try go_simp)
                (try with_reducible rfl)
              refine wpAnyH_done (by kernel_rfl) ?_ _
              (try simp only [Exit.then])
              go_wp2_with fail
              go_meet
              exact ⟨_, rfl, end_bytes n x y, HBv4.out⟩
            exact AllReadyH.nil
          exact AllReadyH.nil
        exact AllReadyH.nil
      refine AllReadyH.cons rfl (fun K hK => ?_) ?_
      · go_simp
        go_wp2_with (go_at_call 111; refine (four_any n _).mono ?_; rintro en v2 ⟨rfl, hb⟩; have HBv2 := Lib.hid (HBv1.out.trans (hb.mono HBv1.out.size)); (try have HRv2 := Lib.hid (HRv1.out.below hb)); have KB := Lib.hid hb; clear hb)
        refine hK.out _ _ (blk_below hS KB.out) (fun hS => ?_)
        clear hK K
        clear KB
        refine wpAnyH_ready (rs := [1, 12]) (by kernel_rfl) (by simp) ?_
        refine AllReadyH.cons rfl (fun K hK => ?_) ?_
        · go_simp
          rw [string_of_reads (P := Tryz.prog) (xs := [90]) Tryz.underlying82 Tryz.underlying5 Tryz.underlying9 HRv2.out]
          simp only [Result.andThen]
          rw [Oper.upon_value]
          refine hK.out _ _ (hS) (fun hS => ?_)
          clear hK K
          refine wpAnyH_take (i := 7) (v := ?_) rfl (by kernel_rfl) (by kernel_rfl) (by kernel_rfl) (fun _ _ _ h => h) (Or.inl ⟨by rfl, ?_⟩) hS ?_
          rotate_left
          · intro w hS
            have c5 : w.cell? ⟨g, 5, none⟩ = some (.int .u32 n) := (blk_cell hS 5).trans rfl
            have c6 : w.cell? ⟨g, 6, none⟩ = some (.int .u64 x) := (blk_cell hS 6).trans rfl
            have c7 : w.cell? ⟨g, 7, none⟩ = some (.int .u64 y) := (blk_cell hS 7).trans rfl
            clear hS
            (try go_simp)
            (try with_reducible rfl)
          refine wpAnyH_ready (rs := [12]) (by kernel_rfl) (by simp) ?_
          refine AllReadyH.cons rfl (fun K hK => ?_) ?_
          · go_simp
            go_wp2_with (go_at_call 113; refine (eight_any x _).mono ?_; rintro en v3 ⟨rfl, hb⟩; have HBv3 := Lib.hid (HBv2.out.trans (hb.mono HBv2.out.size)); (try have HRv3 := Lib.hid (HRv2.out.below hb)); have KB := Lib.hid hb; clear hb)
            rw [show strOfNums (le4 (x % 4294967296)) ++ strOfNums (le4 (x / 4294967296 % 4294967296)) = eightS x from rfl]
            refine hK.out _ _ (blk_below hS KB.out) (fun hS => ?_)
            clear hK K
            clear KB
            refine wpAnyH_take (i := 13) (v := ?_) rfl (by kernel_rfl) (by kernel_rfl) (by kernel_rfl) (fun _ _ _ h => h) (Or.inl ⟨by rfl, ?_⟩) hS ?_
            rotate_left
            · intro w hS
              have c5 : w.cell? ⟨g, 5, none⟩ = some (.int .u32 n) := (blk_cell hS 5).trans rfl
              have c6 : w.cell? ⟨g, 6, none⟩ = some (.int .u64 x) := (blk_cell hS 6).trans rfl
              have c7 : w.cell? ⟨g, 7, none⟩ = some (.int .u64 y) := (blk_cell hS 7).trans rfl
              clear hS
              (try go_simp)
              (try with_reducible rfl)
            refine wpAnyH_ready (rs := [18]) (by kernel_rfl) (by simp) ?_
            refine AllReadyH.cons rfl (fun K hK => ?_) ?_
            · go_simp
              go_wp2_with (go_at_call 113; refine (eight_any y _).mono ?_; rintro en v4 ⟨rfl, hb⟩; have HBv4 := Lib.hid (HBv3.out.trans (hb.mono HBv3.out.size)); (try have HRv4 := Lib.hid (HRv3.out.below hb)); have KB := Lib.hid hb; clear hb)
              rw [show strOfNums (le4 (y % 4294967296)) ++ strOfNums (le4 (y / 4294967296 % 4294967296)) = eightS y from rfl]
              refine hK.out _ _ (blk_below hS KB.out) (fun hS => ?_)
              clear hK K
              clear KB
              refine wpAnyH_take (i := 19) (v := ?_) rfl (by kernel_rfl) (by kernel_rfl) (by kernel_rfl) (fun _ _ _ h => h) (Or.inl ⟨by rfl, ?_⟩) hS ?_
              rotate_left
              · intro w hS
                have c5 : w.cell? ⟨g, 5, none⟩ = some (.int .u32 n) := (blk_cell hS 5).trans rfl
                have c6 : w.cell? ⟨g, 6, none⟩ = some (.int .u64 x) := (blk_cell hS 6).trans rfl
                have c7 : w.cell? ⟨g, 7, none⟩ = some (.int .u64 y) := (blk_cell hS 7).trans rfl
                clear hS
                (try go_simp)
                (try with_reducible rfl)
              refine wpAnyH_take (i := 20) (v := ?_) rfl (by kernel_rfl) (by kernel_rfl) (by kernel_rfl) (fun _ _ _ h => h) (Or.inl ⟨by rfl, ?_⟩) hS ?_
              rotate_left
              · intro w hS
                have c5 : w.cell? ⟨g, 5, none⟩ = some (.int .u32 n) := (blk_cell hS 5).trans rfl
                have c6 : w.cell? ⟨g, 6, none⟩ = some (.int .u64 x) := (blk_cell hS 6).trans rfl
                have c7 : w.cell? ⟨g, 7, none⟩ = some (.int .u64 y) := (blk_cell hS 7).trans rfl
                clear hS
                (try go_simp)
                (try with_reducible rfl)
              refine wpAnyH_done (by kernel_rfl) ?_ _
              (try simp only [Exit.then])
              go_wp2_with fail
              go_meet
              exact ⟨_, rfl, end_bytes n x y, HBv4.out⟩
            exact AllReadyH.nil
          exact AllReadyH.nil
        refine AllReadyH.cons rfl (fun K hK => ?_) ?_
        · go_simp
          go_wp2_with (go_at_call 113; refine (eight_any x _).mono ?_; rintro en v3 ⟨rfl, hb⟩; have HBv3 := Lib.hid (HBv2.out.trans (hb.mono HBv2.out.size)); (try have HRv3 := Lib.hid (HRv2.out.below hb)); have KB := Lib.hid hb; clear hb)
          rw [show strOfNums (le4 (x % 4294967296)) ++ strOfNums (le4 (x / 4294967296 % 4294967296)) = eightS x from rfl]
          refine hK.out _ _ (blk_below hS KB.out) (fun hS => ?_)
          clear hK K
          clear KB
          refine wpAnyH_ready (rs := [1, 18]) (by kernel_rfl) (by simp) ?_
          refine AllReadyH.cons rfl (fun K hK => ?_) ?_
          · go_simp
            rw [string_of_reads (P := Tryz.prog) (xs := [90]) Tryz.underlying82 Tryz.underlying5 Tryz.underlying9 HRv3.out]
            simp only [Result.andThen]
            rw [Oper.upon_value]
            refine hK.out _ _ (hS) (fun hS => ?_)
            clear hK K
            refine wpAnyH_take (i := 7) (v := ?_) rfl (by kernel_rfl) (by kernel_rfl) (by kernel_rfl) (fun _ _ _ h => h) (Or.inl ⟨by rfl, ?_⟩) hS ?_
            rotate_left
            · intro w hS
              have c5 : w.cell? ⟨g, 5, none⟩ = some (.int .u32 n) := (blk_cell hS 5).trans rfl
              have c6 : w.cell? ⟨g, 6, none⟩ = some (.int .u64 x) := (blk_cell hS 6).trans rfl
              have c7 : w.cell? ⟨g, 7, none⟩ = some (.int .u64 y) := (blk_cell hS 7).trans rfl
              clear hS
              (try go_simp)
              (try with_reducible rfl)
            refine wpAnyH_take (i := 13) (v := ?_) rfl (by kernel_rfl) (by kernel_rfl) (by kernel_rfl) (fun _ _ _ h => h) (Or.inl ⟨by rfl, ?_⟩) hS ?_
            rotate_left
            · intro w hS
              have c5 : w.cell? ⟨g, 5, none⟩ = some (.int .u32 n) := (blk_cell hS 5).trans rfl
              have c6 : w.cell? ⟨g, 6, none⟩ = some (.int .u64 x) := (blk_cell hS 6).trans rfl
              have c7 : w.cell? ⟨g, 7, none⟩ = some (.int .u64 y) := (blk_cell hS 7).trans rfl
              clear hS
              (try go_simp)
              (try with_reducible rfl)
            refine wpAnyH_ready (rs := [18]) (by kernel_rfl) (by simp) ?_
            refine AllReadyH.cons rfl (fun K hK => ?_) ?_
            · go_simp
              go_wp2_with (go_at_call 113; refine (eight_any y _).mono ?_; rintro en v4 ⟨rfl, hb⟩; have HBv4 := Lib.hid (HBv3.out.trans (hb.mono HBv3.out.size)); (try have HRv4 := Lib.hid (HRv3.out.below hb)); have KB := Lib.hid hb; clear hb)
              rw [show strOfNums (le4 (y % 4294967296)) ++ strOfNums (le4 (y / 4294967296 % 4294967296)) = eightS y from rfl]
              refine hK.out _ _ (blk_below hS KB.out) (fun hS => ?_)
              clear hK K
              clear KB
              refine wpAnyH_take (i := 19) (v := ?_) rfl (by kernel_rfl) (by kernel_rfl) (by kernel_rfl) (fun _ _ _ h => h) (Or.inl ⟨by rfl, ?_⟩) hS ?_
              rotate_left
              · intro w hS
                have c5 : w.cell? ⟨g, 5, none⟩ = some (.int .u32 n) := (blk_cell hS 5).trans rfl
                have c6 : w.cell? ⟨g, 6, none⟩ = some (.int .u64 x) := (blk_cell hS 6).trans rfl
                have c7 : w.cell? ⟨g, 7, none⟩ = some (.int .u64 y) := (blk_cell hS 7).trans rfl
                clear hS
                (try go_simp)
                (try with_reducible rfl)
              refine wpAnyH_take (i := 20) (v := ?_) rfl (by kernel_rfl) (by kernel_rfl) (by kernel_rfl) (fun _ _ _ h => h) (Or.inl ⟨by rfl, ?_⟩) hS ?_
              rotate_left
              · intro w hS
                have c5 : w.cell? ⟨g, 5, none⟩ = some (.int .u32 n) := (blk_cell hS 5).trans rfl
                have c6 : w.cell? ⟨g, 6, none⟩ = some (.int .u64 x) := (blk_cell hS 6).trans rfl
                have c7 : w.cell? ⟨g, 7, none⟩ = some (.int .u64 y) := (blk_cell hS 7).trans rfl
                clear hS
                (try go_simp)
                (try with_reducible rfl)
              refine wpAnyH_done (by kernel_rfl) ?_ _
              (try simp only [Exit.then])
              go_wp2_with fail
              go_meet
              exact ⟨_, rfl, end_bytes n x y, HBv4.out⟩
            exact AllReadyH.nil
          refine AllReadyH.cons rfl (fun K hK => ?_) ?_
          · go_simp
            go_wp2_with (go_at_call 113; refine (eight_any y _).mono ?_; rintro en v4 ⟨rfl, hb⟩; have HBv4 := Lib.hid (HBv3.out.trans (hb.mono HBv3.out.size)); (try have HRv4 := Lib.hid (HRv3.out.below hb)); have KB := Lib.hid hb; clear hb)
            rw [show strOfNums (le4 (y % 4294967296)) ++ strOfNums (le4 (y / 4294967296 % 4294967296)) = eightS y from rfl]
            refine hK.out _ _ (blk_below hS KB.out) (fun hS => ?_)
            clear hK K
            clear KB
            refine wpAnyH_ready (rs := [1]) (by kernel_rfl) (by simp) ?_
            refine AllReadyH.cons rfl (fun K hK => ?_) ?_
            · go_simp
              rw [string_of_reads (P := Tryz.prog) (xs := [90]) Tryz.underlying82 Tryz.underlying5 Tryz.underlying9 HRv4.out]
              simp only [Result.andThen]
              rw [Oper.upon_value]
              refine hK.out _ _ (hS) (fun hS => ?_)
              clear hK K
              refine wpAnyH_take (i := 7) (v := ?_) rfl (by kernel_rfl) (by kernel_rfl) (by kernel_rfl) (fun _ _ _ h => h) (Or.inl ⟨by rfl, ?_⟩) hS ?_
              rotate_left
              · intro w hS
                have c5 : w.cell? ⟨g, 5, none⟩ = some (.int .u32 n) := (blk_cell hS 5).trans rfl
                have c6 : w.cell? ⟨g, 6, none⟩ = some (.int .u64 x) := (blk_cell hS 6).trans rfl
                have c7 : w.cell? ⟨g, 7, none⟩ = some (.int .u64 y) := (blk_cell hS 7).trans rfl
                clear hS
                (try go_simp)
                (try with_reducible rfl)
              refine wpAnyH_take (i := 13) (v := ?_) rfl (by kernel_rfl) (by kernel_rfl) (by kernel_rfl) (fun _ _ _ h => h) (Or.inl ⟨by rfl, ?_⟩) hS ?_
              rotate_left
              · intro w hS
                have c5 : w.cell? ⟨g, 5, none⟩ = some (.int .u32 n) := (blk_cell hS 5).trans rfl
                have c6 : w.cell? ⟨g, 6, none⟩ = some (.int .u64 x) := (blk_cell hS 6).trans rfl
                have c7 : w.cell? ⟨g, 7, none⟩ = some (.int .u64 y) := (blk_cell hS 7).trans rfl
                clear hS
                (try go_simp)
                (try with_reducible rfl)
              refine wpAnyH_take (i := 19) (v := ?_) rfl (by kernel_rfl) (by kernel_rfl) (by kernel_rfl) (fun _ _ _ h => h) (Or.inl ⟨by rfl, ?_⟩) hS ?_
              rotate_left
              · intro w hS
                have c5 : w.cell? ⟨g, 5, none⟩ = some (.int .u32 n) := (blk_cell hS 5).trans rfl
                have c6 : w.cell? ⟨g, 6, none⟩ = some (.int .u64 x) := (blk_cell hS 6).trans rfl
                have c7 : w.cell? ⟨g, 7, none⟩ = some (.int .u64 y) := (blk_cell hS 7).trans rfl
                clear hS
                (try go_simp)
                (try with_reducible rfl)
              refine wpAnyH_take (i := 20) (v := ?_) rfl (by kernel_rfl) (by kernel_rfl) (by kernel_rfl) (fun _ _ _ h => h) (Or.inl ⟨by rfl, ?_⟩) hS ?_
              rotate_left
              · intro w hS
                have c5 : w.cell? ⟨g, 5, none⟩ = some (.int .u32 n) := (blk_cell hS 5).trans rfl
                have c6 : w.cell? ⟨g, 6, none⟩ = some (.int .u64 x) := (blk_cell hS 6).trans rfl
                have c7 : w.cell? ⟨g, 7, none⟩ = some (.int .u64 y) := (blk_cell hS 7).trans rfl
                clear hS
                (try go_simp)
                (try with_reducible rfl)
              refine wpAnyH_done (by kernel_rfl) ?_ _
              (try simp only [Exit.then])
              go_wp2_with fail
              go_meet
              exact ⟨_, rfl, end_bytes n x y, HBv4.out⟩
            exact AllReadyH.nil
          exact AllReadyH.nil
        exact AllReadyH.nil
      exact AllReadyH.nil
    refine AllReadyH.cons rfl (fun K hK => ?_) ?_
    · go_simp
      go_wp2_with (go_at_call 111; refine (four_any n _).mono ?_; rintro en v1 ⟨rfl, hb⟩; have HBv1 := Lib.hid (HBv0.out.trans (hb.mono HBv0.out.size)); (try have HRv1 := Lib.hid (HRv0.out.below hb)); have KB := Lib.hid hb; clear hb)
      refine hK.out _ _ (blk_below hS KB.out) (fun hS => ?_)
      clear hK K
      clear KB
      refine wpAnyH_ready (rs := [0, 12]) (by kernel_rfl) (by simp) ?_
      refine AllReadyH.cons rfl (fun K hK => ?_) ?_
      · go_simp
        refine hK.out _ _ (blk_alloc hS _) (fun hS => ?_)
        clear hK K
        have HRv2 := Lib.hid (one_reads v1 90)
        have HBv2 := Lib.hid (below_alloc HBv1.out (.cells #[.int .u8 90] 5))
        generalize World.alloc v1 _ = v2 at *
        refine wpAnyH_ready (rs := [1, 12]) (by kernel_rfl) (by simp) ?_
        refine AllReadyH.cons rfl (fun K hK => ?_) ?_
        · go_simp
          rw [string_of_reads (P := Tryz.prog) (xs := [90]) Tryz.underlying82 Tryz.underlying5 Tryz.underlying9 HRv2.out]
          simp only [Result.andThen]
          rw [Oper.upon_value]
          refine hK.out _ _ (hS) (fun hS => ?_)
          clear hK K
          refine wpAnyH_take (i := 7) (v := ?_) rfl (by kernel_rfl) (by kernel_rfl) (by kernel_rfl) (fun _ _ _ h => h) (Or.inl ⟨by rfl, ?_⟩) hS ?_
          rotate_left
          · intro w hS
            have c5 : w.cell? ⟨g, 5, none⟩ = some (.int .u32 n) := (blk_cell hS 5).trans rfl
            have c6 : w.cell? ⟨g, 6, none⟩ = some (.int .u64 x) := (blk_cell hS 6).trans rfl
            have c7 : w.cell? ⟨g, 7, none⟩ = some (.int .u64 y) := (blk_cell hS 7).trans rfl
            clear hS
            (try go_simp)
            (try with_reducible rfl)
          refine wpAnyH_ready (rs := [12]) (by kernel_rfl) (by simp) ?_
          refine AllReadyH.cons rfl (fun K hK => ?_) ?_
          · go_simp
            go_wp2_with (go_at_call 113; refine (eight_any x _).mono ?_; rintro en v3 ⟨rfl, hb⟩; have HBv3 := Lib.hid (HBv2.out.trans (hb.mono HBv2.out.size)); (try have HRv3 := Lib.hid (HRv2.out.below hb)); have KB := Lib.hid hb; clear hb)
            rw [show strOfNums (le4 (x % 4294967296)) ++ strOfNums (le4 (x / 4294967296 % 4294967296)) = eightS x from rfl]
            refine hK.out _ _ (blk_below hS KB.out) (fun hS => ?_)
            clear hK K
            clear KB
            refine wpAnyH_take (i := 13) (v := ?_) rfl (by kernel_rfl) (by kernel_rfl) (by kernel_rfl) (fun _ _ _ h => h) (Or.inl ⟨by rfl, ?_⟩) hS ?_
            rotate_left
            · intro w hS
              have c5 : w.cell? ⟨g, 5, none⟩ = some (.int .u32 n) := (blk_cell hS 5).trans rfl
              have c6 : w.cell? ⟨g, 6, none⟩ = some (.int .u64 x) := (blk_cell hS 6).trans rfl
              have c7 : w.cell? ⟨g, 7, none⟩ = some (.int .u64 y) := (blk_cell hS 7).trans rfl
              clear hS
              (try go_simp)
              (try with_reducible rfl)
            refine wpAnyH_ready (rs := [18]) (by kernel_rfl) (by simp) ?_
            refine AllReadyH.cons rfl (fun K hK => ?_) ?_
            · go_simp
              go_wp2_with (go_at_call 113; refine (eight_any y _).mono ?_; rintro en v4 ⟨rfl, hb⟩; have HBv4 := Lib.hid (HBv3.out.trans (hb.mono HBv3.out.size)); (try have HRv4 := Lib.hid (HRv3.out.below hb)); have KB := Lib.hid hb; clear hb)
              rw [show strOfNums (le4 (y % 4294967296)) ++ strOfNums (le4 (y / 4294967296 % 4294967296)) = eightS y from rfl]
              refine hK.out _ _ (blk_below hS KB.out) (fun hS => ?_)
              clear hK K
              clear KB
              refine wpAnyH_take (i := 19) (v := ?_) rfl (by kernel_rfl) (by kernel_rfl) (by kernel_rfl) (fun _ _ _ h => h) (Or.inl ⟨by rfl, ?_⟩) hS ?_
              rotate_left
              · intro w hS
                have c5 : w.cell? ⟨g, 5, none⟩ = some (.int .u32 n) := (blk_cell hS 5).trans rfl
                have c6 : w.cell? ⟨g, 6, none⟩ = some (.int .u64 x) := (blk_cell hS 6).trans rfl
                have c7 : w.cell? ⟨g, 7, none⟩ = some (.int .u64 y) := (blk_cell hS 7).trans rfl
                clear hS
                (try go_simp)
                (try with_reducible rfl)
              refine wpAnyH_take (i := 20) (v := ?_) rfl (by kernel_rfl) (by kernel_rfl) (by kernel_rfl) (fun _ _ _ h => h) (Or.inl ⟨by rfl, ?_⟩) hS ?_
              rotate_left
              · intro w hS
                have c5 : w.cell? ⟨g, 5, none⟩ = some (.int .u32 n) := (blk_cell hS 5).trans rfl
                have c6 : w.cell? ⟨g, 6, none⟩ = some (.int .u64 x) := (blk_cell hS 6).trans rfl
                have c7 : w.cell? ⟨g, 7, none⟩ = some (.int .u64 y) := (blk_cell hS 7).trans rfl
                clear hS
                (try go_simp)
                (try with_reducible rfl)
              refine wpAnyH_done (by kernel_rfl) ?_ _
              (try simp only [Exit.then])
              go_wp2_with fail
              go_meet
              exact ⟨_, rfl, end_bytes n x y, HBv4.out⟩
            exact AllReadyH.nil
          exact AllReadyH.nil
        refine AllReadyH.cons rfl (fun K hK => ?_) ?_
        · go_simp
          go_wp2_with (go_at_call 113; refine (eight_any x _).mono ?_; rintro en v3 ⟨rfl, hb⟩; have HBv3 := Lib.hid (HBv2.out.trans (hb.mono HBv2.out.size)); (try have HRv3 := Lib.hid (HRv2.out.below hb)); have KB := Lib.hid hb; clear hb)
          rw [show strOfNums (le4 (x % 4294967296)) ++ strOfNums (le4 (x / 4294967296 % 4294967296)) = eightS x from rfl]
          refine hK.out _ _ (blk_below hS KB.out) (fun hS => ?_)
          clear hK K
          clear KB
          refine wpAnyH_ready (rs := [1, 18]) (by kernel_rfl) (by simp) ?_
          refine AllReadyH.cons rfl (fun K hK => ?_) ?_
          · go_simp
            rw [string_of_reads (P := Tryz.prog) (xs := [90]) Tryz.underlying82 Tryz.underlying5 Tryz.underlying9 HRv3.out]
            simp only [Result.andThen]
            rw [Oper.upon_value]
            refine hK.out _ _ (hS) (fun hS => ?_)
            clear hK K
            refine wpAnyH_take (i := 7) (v := ?_) rfl (by kernel_rfl) (by kernel_rfl) (by kernel_rfl) (fun _ _ _ h => h) (Or.inl ⟨by rfl, ?_⟩) hS ?_
            rotate_left
            · intro w hS
              have c5 : w.cell? ⟨g, 5, none⟩ = some (.int .u32 n) := (blk_cell hS 5).trans rfl
              have c6 : w.cell? ⟨g, 6, none⟩ = some (.int .u64 x) := (blk_cell hS 6).trans rfl
              have c7 : w.cell? ⟨g, 7, none⟩ = some (.int .u64 y) := (blk_cell hS 7).trans rfl
              clear hS
              (try go_simp)
              (try with_reducible rfl)
            refine wpAnyH_take (i := 13) (v := ?_) rfl (by kernel_rfl) (by kernel_rfl) (by kernel_rfl) (fun _ _ _ h => h) (Or.inl ⟨by rfl, ?_⟩) hS ?_
            rotate_left
            · intro w hS
              have c5 : w.cell? ⟨g, 5, none⟩ = some (.int .u32 n) := (blk_cell hS 5).trans rfl
              have c6 : w.cell? ⟨g, 6, none⟩ = some (.int .u64 x) := (blk_cell hS 6).trans rfl
              have c7 : w.cell? ⟨g, 7, none⟩ = some (.int .u64 y) := (blk_cell hS 7).trans rfl
              clear hS
              (try go_simp)
              (try with_reducible rfl)
            refine wpAnyH_ready (rs := [18]) (by kernel_rfl) (by simp) ?_
            refine AllReadyH.cons rfl (fun K hK => ?_) ?_
            · go_simp
              go_wp2_with (go_at_call 113; refine (eight_any y _).mono ?_; rintro en v4 ⟨rfl, hb⟩; have HBv4 := Lib.hid (HBv3.out.trans (hb.mono HBv3.out.size)); (try have HRv4 := Lib.hid (HRv3.out.below hb)); have KB := Lib.hid hb; clear hb)
              rw [show strOfNums (le4 (y % 4294967296)) ++ strOfNums (le4 (y / 4294967296 % 4294967296)) = eightS y from rfl]
              refine hK.out _ _ (blk_below hS KB.out) (fun hS => ?_)
              clear hK K
              clear KB
              refine wpAnyH_take (i := 19) (v := ?_) rfl (by kernel_rfl) (by kernel_rfl) (by kernel_rfl) (fun _ _ _ h => h) (Or.inl ⟨by rfl, ?_⟩) hS ?_
              rotate_left
              · intro w hS
                have c5 : w.cell? ⟨g, 5, none⟩ = some (.int .u32 n) := (blk_cell hS 5).trans rfl
                have c6 : w.cell? ⟨g, 6, none⟩ = some (.int .u64 x) := (blk_cell hS 6).trans rfl
                have c7 : w.cell? ⟨g, 7, none⟩ = some (.int .u64 y) := (blk_cell hS 7).trans rfl
                clear hS
                (try go_simp)
                (try with_reducible rfl)
              refine wpAnyH_take (i := 20) (v := ?_) rfl (by kernel_rfl) (by kernel_rfl) (by kernel_rfl) (fun _ _ _ h => h) (Or.inl ⟨by rfl, ?_⟩) hS ?_
              rotate_left
              · intro w hS
                have c5 : w.cell? ⟨g, 5, none⟩ = some (.int .u32 n) := (blk_cell hS 5).trans rfl
                have c6 : w.cell? ⟨g, 6, none⟩ = some (.int .u64 x) := (blk_cell hS 6).trans rfl
                have c7 : w.cell? ⟨g, 7, none⟩ = some (.int .u64 y) := (blk_cell hS 7).trans rfl
                clear hS
                (try go_simp)
                (try with_reducible rfl)
              refine wpAnyH_done (by kernel_rfl) ?_ _
              (try simp only [Exit.then])
              go_wp2_with fail
              go_meet
              exact ⟨_, rfl, end_bytes n x y, HBv4.out⟩
            exact AllReadyH.nil
          refine AllReadyH.cons rfl (fun K hK => ?_) ?_
          · go_simp
            go_wp2_with (go_at_call 113; refine (eight_any y _).mono ?_; rintro en v4 ⟨rfl, hb⟩; have HBv4 := Lib.hid (HBv3.out.trans (hb.mono HBv3.out.size)); (try have HRv4 := Lib.hid (HRv3.out.below hb)); have KB := Lib.hid hb; clear hb)
            rw [show strOfNums (le4 (y % 4294967296)) ++ strOfNums (le4 (y / 4294967296 % 4294967296)) = eightS y from rfl]
            refine hK.out _ _ (blk_below hS KB.out) (fun hS => ?_)
            clear hK K
            clear KB
            refine wpAnyH_ready (rs := [1]) (by kernel_rfl) (by simp) ?_
            refine AllReadyH.cons rfl (fun K hK => ?_) ?_
            · go_simp
              rw [string_of_reads (P := Tryz.prog) (xs := [90]) Tryz.underlying82 Tryz.underlying5 Tryz.underlying9 HRv4.out]
              simp only [Result.andThen]
              rw [Oper.upon_value]
              refine hK.out _ _ (hS) (fun hS => ?_)
              clear hK K
              refine wpAnyH_take (i := 7) (v := ?_) rfl (by kernel_rfl) (by kernel_rfl) (by kernel_rfl) (fun _ _ _ h => h) (Or.inl ⟨by rfl, ?_⟩) hS ?_
              rotate_left
              · intro w hS
                have c5 : w.cell? ⟨g, 5, none⟩ = some (.int .u32 n) := (blk_cell hS 5).trans rfl
                have c6 : w.cell? ⟨g, 6, none⟩ = some (.int .u64 x) := (blk_cell hS 6).trans rfl
                have c7 : w.cell? ⟨g, 7, none⟩ = some (.int .u64 y) := (blk_cell hS 7).trans rfl
                clear hS
                (try go_simp)
                (try with_reducible rfl)
              refine wpAnyH_take (i := 13) (v := ?_) rfl (by kernel_rfl) (by kernel_rfl) (by kernel_rfl) (fun _ _ _ h => h) (Or.inl ⟨by rfl, ?_⟩) hS ?_
              rotate_left
              · intro w hS
                have c5 : w.cell? ⟨g, 5, none⟩ = some (.int .u32 n) := (blk_cell hS 5).trans rfl
                have c6 : w.cell? ⟨g, 6, none⟩ = some (.int .u64 x) := (blk_cell hS 6).trans rfl
                have c7 : w.cell? ⟨g, 7, none⟩ = some (.int .u64 y) := (blk_cell hS 7).trans rfl
                clear hS
                (try go_simp)
                (try with_reducible rfl)
              refine wpAnyH_take (i := 19) (v := ?_) rfl (by kernel_rfl) (by kernel_rfl) (by kernel_rfl) (fun _ _ _ h => h) (Or.inl ⟨by rfl, ?_⟩) hS ?_
              rotate_left
              · intro w hS
                have c5 : w.cell? ⟨g, 5, none⟩ = some (.int .u32 n) := (blk_cell hS 5).trans rfl
                have c6 : w.cell? ⟨g, 6, none⟩ = some (.int .u64 x) := (blk_cell hS 6).trans rfl
                have c7 : w.cell? ⟨g, 7, none⟩ = some (.int .u64 y) := (blk_cell hS 7).trans rfl
                clear hS
                (try go_simp)
                (try with_reducible rfl)
              refine wpAnyH_take (i := 20) (v := ?_) rfl (by kernel_rfl) (by kernel_rfl) (by kernel_rfl) (fun _ _ _ h => h) (Or.inl ⟨by rfl, ?_⟩) hS ?_
              rotate_left
              · intro w hS
                have c5 : w.cell? ⟨g, 5, none⟩ = some (.int .u32 n) := (blk_cell hS 5).trans rfl
                have c6 : w.cell? ⟨g, 6, none⟩ = some (.int .u64 x) := (blk_cell hS 6).trans rfl
                have c7 : w.cell? ⟨g, 7, none⟩ = some (.int .u64 y) := (blk_cell hS 7).trans rfl
                clear hS
                (try go_simp)
                (try with_reducible rfl)
              refine wpAnyH_done (by kernel_rfl) ?_ _
              (try simp only [Exit.then])
              go_wp2_with fail
              go_meet
              exact ⟨_, rfl, end_bytes n x y, HBv4.out⟩
            exact AllReadyH.nil
          exact AllReadyH.nil
        exact AllReadyH.nil
      refine AllReadyH.cons rfl (fun K hK => ?_) ?_
      · go_simp
        go_wp2_with (go_at_call 113; refine (eight_any x _).mono ?_; rintro en v2 ⟨rfl, hb⟩; have HBv2 := Lib.hid (HBv1.out.trans (hb.mono HBv1.out.size)); (try have HRv2 := Lib.hid (HRv1.out.below hb)); have KB := Lib.hid hb; clear hb)
        rw [show strOfNums (le4 (x % 4294967296)) ++ strOfNums (le4 (x / 4294967296 % 4294967296)) = eightS x from rfl]
        refine hK.out _ _ (blk_below hS KB.out) (fun hS => ?_)
        clear hK K
        clear KB
        refine wpAnyH_ready (rs := [0, 18]) (by kernel_rfl) (by simp) ?_
        refine AllReadyH.cons rfl (fun K hK => ?_) ?_
        · go_simp
          refine hK.out _ _ (blk_alloc hS _) (fun hS => ?_)
          clear hK K
          have HRv3 := Lib.hid (one_reads v2 90)
          have HBv3 := Lib.hid (below_alloc HBv2.out (.cells #[.int .u8 90] 5))
          generalize World.alloc v2 _ = v3 at *
          refine wpAnyH_ready (rs := [1, 18]) (by kernel_rfl) (by simp) ?_
          refine AllReadyH.cons rfl (fun K hK => ?_) ?_
          · go_simp
            rw [string_of_reads (P := Tryz.prog) (xs := [90]) Tryz.underlying82 Tryz.underlying5 Tryz.underlying9 HRv3.out]
            simp only [Result.andThen]
            rw [Oper.upon_value]
            refine hK.out _ _ (hS) (fun hS => ?_)
            clear hK K
            refine wpAnyH_take (i := 7) (v := ?_) rfl (by kernel_rfl) (by kernel_rfl) (by kernel_rfl) (fun _ _ _ h => h) (Or.inl ⟨by rfl, ?_⟩) hS ?_
            rotate_left
            · intro w hS
              have c5 : w.cell? ⟨g, 5, none⟩ = some (.int .u32 n) := (blk_cell hS 5).trans rfl
              have c6 : w.cell? ⟨g, 6, none⟩ = some (.int .u64 x) := (blk_cell hS 6).trans rfl
              have c7 : w.cell? ⟨g, 7, none⟩ = some (.int .u64 y) := (blk_cell hS 7).trans rfl
              clear hS
              (try go_simp)
              (try with_reducible rfl)
            refine wpAnyH_take (i := 13) (v := ?_) rfl (by kernel_rfl) (by kernel_rfl) (by kernel_rfl) (fun _ _ _ h => h) (Or.inl ⟨by rfl, ?_⟩) hS ?_
            rotate_left
            · intro w hS
              have c5 : w.cell? ⟨g, 5, none⟩ = some (.int .u32 n) := (blk_cell hS 5).trans rfl
              have c6 : w.cell? ⟨g, 6, none⟩ = some (.int .u64 x) := (blk_cell hS 6).trans rfl
              have c7 : w.cell? ⟨g, 7, none⟩ = some (.int .u64 y) := (blk_cell hS 7).trans rfl
              clear hS
              (try go_simp)
              (try with_reducible rfl)
            refine wpAnyH_ready (rs := [18]) (by kernel_rfl) (by simp) ?_
            refine AllReadyH.cons rfl (fun K hK => ?_) ?_
            · go_simp
              go_wp2_with (go_at_call 113; refine (eight_any y _).mono ?_; rintro en v4 ⟨rfl, hb⟩; have HBv4 := Lib.hid (HBv3.out.trans (hb.mono HBv3.out.size)); (try have HRv4 := Lib.hid (HRv3.out.below hb)); have KB := Lib.hid hb; clear hb)
              rw [show strOfNums (le4 (y % 4294967296)) ++ strOfNums (le4 (y / 4294967296 % 4294967296)) = eightS y from rfl]
              refine hK.out _ _ (blk_below hS KB.out) (fun hS => ?_)
              clear hK K
              clear KB
              refine wpAnyH_take (i := 19) (v := ?_) rfl (by kernel_rfl) (by kernel_rfl) (by kernel_rfl) (fun _ _ _ h => h) (Or.inl ⟨by rfl, ?_⟩) hS ?_
              rotate_left
              · intro w hS
                have c5 : w.cell? ⟨g, 5, none⟩ = some (.int .u32 n) := (blk_cell hS 5).trans rfl
                have c6 : w.cell? ⟨g, 6, none⟩ = some (.int .u64 x) := (blk_cell hS 6).trans rfl
                have c7 : w.cell? ⟨g, 7, none⟩ = some (.int .u64 y) := (blk_cell hS 7).trans rfl
                clear hS
                (try go_simp)
                (try with_reducible rfl)
              refine wpAnyH_take (i := 20) (v := ?_) rfl (by kernel_rfl) (by kernel_rfl) (by kernel_rfl) (fun _ _ _ h => h) (Or.inl ⟨by rfl, ?_⟩) hS ?_
              rotate_left
              · intro w hS
                have c5 : w.cell? ⟨g, 5, none⟩ = some (.int .u32 n) := (blk_cell hS 5).trans rfl
                have c6 : w.cell? ⟨g, 6, none⟩ = some (.int .u64 x) := (blk_cell hS 6).trans rfl
                have c7 : w.cell? ⟨g, 7, none⟩ = some (.int .u64 y) := (blk_cell hS 7).trans rfl
                clear hS
                (try go_simp)
                (try with_reducible rfl)
              refine wpAnyH_done (by kernel_rfl) ?_ _
              (try simp only [Exit.then])
              go_wp2_with fail
              go_meet
              exact ⟨_, rfl, end_bytes n x y, HBv4.out⟩
            exact AllReadyH.nil
          refine AllReadyH.cons rfl (fun K hK => ?_) ?_
          · go_simp
            go_wp2_with (go_at_call 113; refine (eight_any y _).mono ?_; rintro en v4 ⟨rfl, hb⟩; have HBv4 := Lib.hid (HBv3.out.trans (hb.mono HBv3.out.size)); (try have HRv4 := Lib.hid (HRv3.out.below hb)); have KB := Lib.hid hb; clear hb)
            rw [show strOfNums (le4 (y % 4294967296)) ++ strOfNums (le4 (y / 4294967296 % 4294967296)) = eightS y from rfl]
            refine hK.out _ _ (blk_below hS KB.out) (fun hS => ?_)
            clear hK K
            clear KB
            refine wpAnyH_ready (rs := [1]) (by kernel_rfl) (by simp) ?_
            refine AllReadyH.cons rfl (fun K hK => ?_) ?_
            · go_simp
              rw [string_of_reads (P := Tryz.prog) (xs := [90]) Tryz.underlying82 Tryz.underlying5 Tryz.underlying9 HRv4.out]
              simp only [Result.andThen]
              rw [Oper.upon_value]
              refine hK.out _ _ (hS) (fun hS => ?_)
              clear hK K
              refine wpAnyH_take (i := 7) (v := ?_) rfl (by kernel_rfl) (by kernel_rfl) (by kernel_rfl) (fun _ _ _ h => h) (Or.inl ⟨by rfl, ?_⟩) hS ?_
              rotate_left
              · intro w hS
                have c5 : w.cell? ⟨g, 5, none⟩ = some (.int .u32 n) := (blk_cell hS 5).trans rfl
                have c6 : w.cell? ⟨g, 6, none⟩ = some (.int .u64 x) := (blk_cell hS 6).trans rfl
                have c7 : w.cell? ⟨g, 7, none⟩ = some (.int .u64 y) := (blk_cell hS 7).trans rfl
                clear hS
                (try go_simp)
                (try with_reducible rfl)
              refine wpAnyH_take (i := 13) (v := ?_) rfl (by kernel_rfl) (by kernel_rfl) (by kernel_rfl) (fun _ _ _ h => h) (Or.inl ⟨by rfl, ?_⟩) hS ?_
              rotate_left
              · intro w hS
                have c5 : w.cell? ⟨g, 5, none⟩ = some (.int .u32 n) := (blk_cell hS 5).trans rfl
                have c6 : w.cell? ⟨g, 6, none⟩ = some (.int .u64 x) := (blk_cell hS 6).trans rfl
                have c7 : w.cell? ⟨g, 7, none⟩ = some (.int .u64 y) := (blk_cell hS 7).trans rfl
                clear hS
                (try go_simp)
                (try with_reducible rfl)
              refine wpAnyH_take (i := 19) (v := ?_) rfl (by kernel_rfl) (by kernel_rfl) (by kernel_rfl) (fun _ _ _ h => h) (Or.inl ⟨by rfl, ?_⟩) hS ?_
              rotate_left
              · intro w hS
                have c5 : w.cell? ⟨g, 5, none⟩ = some (.int .u32 n) := (blk_cell hS 5).trans rfl
                have c6 : w.cell? ⟨g, 6, none⟩ = some (.int .u64 x) := (blk_cell hS 6).trans rfl
                have c7 : w.cell? ⟨g, 7, none⟩ = some (.int .u64 y) := (blk_cell hS 7).trans rfl
                clear hS
                (try go_simp)
                (try with_reducible rfl)
              refine wpAnyH_take (i := 20) (v := ?_) rfl (by kernel_rfl) (by kernel_rfl) (by kernel_rfl) (fun _ _ _ h => h) (Or.inl ⟨by rfl, ?_⟩) hS ?_
              rotate_left
              · intro w hS
                have c5 : w.cell? ⟨g, 5, none⟩ = some (.int .u32 n) := (blk_cell hS 5).trans rfl
                have c6 : w.cell? ⟨g, 6, none⟩ = some (.int .u64 x) := (blk_cell hS 6).trans rfl
                have c7 : w.cell? ⟨g, 7, none⟩ = some (.int .u64 y) := (blk_cell hS 7).trans rfl
                clear hS
                (try go_simp)
                (try with_reducible rfl)
              refine wpAnyH_done (by kernel_rfl) ?_ _
              (try simp only [Exit.then])
              go_wp2_with fail
              go_meet
              exact ⟨_, rfl, end_bytes n x y, HBv4.out⟩
            exact AllReadyH.nil
          exact AllReadyH.nil
        refine AllReadyH.cons rfl (fun K hK => ?_) ?_
        · go_simp
          go_wp2_with (go_at_call 113; refine (eight_any y _).mono ?_; rintro en v3 ⟨rfl, hb⟩; have HBv3 := Lib.hid (HBv2.out.trans (hb.mono HBv2.out.size)); (try have HRv3 := Lib.hid (HRv2.out.below hb)); have KB := Lib.hid hb; clear hb)
          rw [show strOfNums (le4 (y % 4294967296)) ++ strOfNums (le4 (y / 4294967296 % 4294967296)) = eightS y from rfl]
          refine hK.out _ _ (blk_below hS KB.out) (fun hS => ?_)
          clear hK K
          clear KB
          refine wpAnyH_ready (rs := [0]) (by kernel_rfl) (by simp) ?_
          refine AllReadyH.cons rfl (fun K hK => ?_) ?_
          · go_simp
            refine hK.out _ _ (blk_alloc hS _) (fun hS => ?_)
            clear hK K
            have HRv4 := Lib.hid (one_reads v3 90)
            have HBv4 := Lib.hid (below_alloc HBv3.out (.cells #[.int .u8 90] 5))
            generalize World.alloc v3 _ = v4 at *
            refine wpAnyH_ready (rs := [1]) (by kernel_rfl) (by simp) ?_
            refine AllReadyH.cons rfl (fun K hK => ?_) ?_
            · go_simp
              rw [string_of_reads (P := Tryz.prog) (xs := [90]) Tryz.underlying82 Tryz.underlying5 Tryz.underlying9 HRv4.out]
              simp only [Result.andThen]
              rw [Oper.upon_value]
              refine hK.out _ _ (hS) (fun hS => ?_)
              clear hK K
              refine wpAnyH_take (i := 7) (v := ?_) rfl (by kernel_rfl) (by kernel_rfl) (by kernel_rfl) (fun _ _ _ h => h) (Or.inl ⟨by rfl, ?_⟩) hS ?_
              rotate_left
              · intro w hS
                have c5 : w.cell? ⟨g, 5, none⟩ = some (.int .u32 n) := (blk_cell hS 5).trans rfl
                have c6 : w.cell? ⟨g, 6, none⟩ = some (.int .u64 x) := (blk_cell hS 6).trans rfl
                have c7 : w.cell? ⟨g, 7, none⟩ = some (.int .u64 y) := (blk_cell hS 7).trans rfl
                clear hS
                (try go_simp)
                (try with_reducible rfl)
              refine wpAnyH_take (i := 13) (v := ?_) rfl (by kernel_rfl) (by kernel_rfl) (by kernel_rfl) (fun _ _ _ h => h) (Or.inl ⟨by rfl, ?_⟩) hS ?_
              rotate_left
              · intro w hS
                have c5 : w.cell? ⟨g, 5, none⟩ = some (.int .u32 n) := (blk_cell hS 5).trans rfl
                have c6 : w.cell? ⟨g, 6, none⟩ = some (.int .u64 x) := (blk_cell hS 6).trans rfl
                have c7 : w.cell? ⟨g, 7, none⟩ = some (.int .u64 y) := (blk_cell hS 7).trans rfl
                clear hS
                (try go_simp)
                (try with_reducible rfl)
              refine wpAnyH_take (i := 19) (v := ?_) rfl (by kernel_rfl) (by kernel_rfl) (by kernel_rfl) (fun _ _ _ h => h) (Or.inl ⟨by rfl, ?_⟩) hS ?_
              rotate_left
              · intro w hS
                have c5 : w.cell? ⟨g, 5, none⟩ = some (.int .u32 n) := (blk_cell hS 5).trans rfl
                have c6 : w.cell? ⟨g, 6, none⟩ = some (.int .u64 x) := (blk_cell hS 6).trans rfl
                have c7 : w.cell? ⟨g, 7, none⟩ = some (.int .u64 y) := (blk_cell hS 7).trans rfl
                clear hS
                (try go_simp)
                (try with_reducible rfl)
              refine wpAnyH_take (i := 20) (v := ?_) rfl (by kernel_rfl) (by kernel_rfl) (by kernel_rfl) (fun _ _ _ h => h) (Or.inl ⟨by rfl, ?_⟩) hS ?_
              rotate_left
              · intro w hS
                have c5 : w.cell? ⟨g, 5, none⟩ = some (.int .u32 n) := (blk_cell hS 5).trans rfl
                have c6 : w.cell? ⟨g, 6, none⟩ = some (.int .u64 x) := (blk_cell hS 6).trans rfl
                have c7 : w.cell? ⟨g, 7, none⟩ = some (.int .u64 y) := (blk_cell hS 7).trans rfl
                clear hS
                (try go_simp)
                (try with_reducible rfl)
              refine wpAnyH_done (by kernel_rfl) ?_ _
              (try simp only [Exit.then])
              go_wp2_with fail
              go_meet
              exact ⟨_, rfl, end_bytes n x y, HBv4.out⟩
            exact AllReadyH.nil
          exact AllReadyH.nil
        exact AllReadyH.nil
      exact AllReadyH.nil
    exact AllReadyH.nil
  case rest =>
    obtain ⟨t, rfl, ht, hb⟩ := hcut
    have hz : t.size = 21 := by
      have h9 := congrArg List.length ht
      rw [bytesOf_length] at h9
      exact h9.trans (endL_len _)
    have HB := Lib.hid hb
    have HT := Lib.hid ht
    have hcat3 : ¬ (9223372036854775807 < t.size + (strOfNums (le4 (ofF t))).size) := by rw [hz, le4_size]; decide
    have HZ := Lib.hid hz
    clear hb ht hz
    go_wp2_with fail
    refine (of_any ⟨wc.heap.size, 0, none⟩ 1 t _ (by have := HZ.out; omega) ((blk_cell (blk_new wc _) 0).trans rfl)).mono ?_
    rintro en w1 ⟨rfl, hb1⟩
    have HB1 := Lib.hid ((below_alloc HB.out (.cells #[.string t] 9)).trans (hb1.mono (Nat.le_trans HB.out.size (by simp))))
    clear hb1
    go_wp2_with fail
    refine (four_any (ofF t) _).mono ?_
    rintro en w2 ⟨rfl, hb2⟩
    have HB2 := Lib.hid (HB1.out.trans (hb2.mono HB1.out.size))
    clear hb2
    go_wp2_with fail
    go_ret
    refine ⟨_, rfl, ?_, HB2.out⟩
    rw [bytesOf_append, le4_bytes, ofF, HT.out]
    rfl
end Go.Proofs.YtcgoofefiiihnaaGreat
namespace Go.Proofs.YtcgoofefiiihnaaGreat
open Go.RowKit Go.Proofs.YtcgoofefiiihnaaGreatW.PrintWords Go.Proofs.YtcgoofefiiihnaaGreatW.PrintMore
set_option linter.unusedVariables false
set_option linter.unusedSimpArgs false
set_option maxRecDepth 20000
abbrev RdAt (w : World) (g : Nat) (s : ByteArray) (at_ e f : Int) : Prop := w.heap[g]? = some (.cells #[.string s, .int .i64 at_, .int .i64 e, .int .i64 f] 151 (0, 0))
section
variable {w : World} {g : Nat} {s : ByteArray} {at_ e f : Int}
theorem wrong_any (e1 f1 : Int) (h : RdAt w g s at_ e f) : Calls Tryz.prog 78 #[.pointer (some ⟨g, 0, none⟩), .int .i64 e1, .int .i64 f1] w fun en w' => en = .returned (.bool false) ∧ RdAt w' g s at_ e1 f1 ∧ Kp (fun k => k = g) w w' := by
  have c2 : w.cell? ⟨g, 2, none⟩ = some (.int .i64 e) := (blk_cell h 2).trans rfl
  have c3 : w.cell? ⟨g, 3, none⟩ = some (.int .i64 f) := (blk_cell h 3).trans rfl
  have f2 := blk_frozen h 2
  have f3 := blk_frozen h 3
  have h1 : RdAt (w.setCell ⟨g, 2, none⟩ (.int .i64 e1)) g s at_ e1 f := (blk_set h 2 _).trans rfl
  have H2 : Hid (RdAt ((w.setCell ⟨g, 2, none⟩ (.int .i64 e1)).setCell ⟨g, 3, none⟩ (.int .i64 f1)) g s at_ e1 f1) := Lib.hid ((blk_set h1 3 _).trans rfl)
  clear h h1
  go_enter Tryz.func78, Tryz.ntmps78
  go_wp2_with fail
  go_ret
  exact ⟨rfl, H2.out, ((Kp.refl _ _).setg _ _).setg _ _⟩
theorem there_yes (n : Int) (hs : s.size ≤ 100000) (h0 : 0 ≤ at_) (h1 : at_ ≤ s.size) (hn0 : 0 ≤ n) (hn : at_ + n ≤ s.size) (h : RdAt w g s at_ e f) :
    Calls Tryz.prog 109 #[.pointer (some ⟨g, 0, none⟩), .int .i64 n] w fun en w' => en = .returned (.bool true) ∧ RdAt w' g s at_ e f ∧ Kp (fun k => k = g) w w' := by
  have HR := Lib.hid h
  have c0 : w.cell? ⟨g, 0, none⟩ = some (.string s) := (blk_cell h 0).trans rfl
  have c1 : w.cell? ⟨g, 1, none⟩ = some (.int .i64 at_) := (blk_cell h 1).trans rfl
  have hw : IntKind.i64.wrap ((s.size : Int) - at_) = (s.size : Int) - at_ := wrap_small (by omega) (by omega)
  have hd : decide ((s.size : Int) - at_ < n) = false := decide_eq_false (by omega)
  clear h
  go_enter Tryz.func109, Tryz.ntmps109
  go_wp2_with fail
  go_quiet (fail)
  go_wp2_with fail
  go_ret
  exact ⟨rfl, blk_drewN HR.out _, (Kp.refl _ _).drewN _⟩
theorem there_no (n : Int) (hs : s.size ≤ 100000) (h0 : 0 ≤ at_) (h1 : at_ ≤ s.size) (hn : (s.size : Int) < at_ + n) (h : RdAt w g s at_ e f) :
    Calls Tryz.prog 109 #[.pointer (some ⟨g, 0, none⟩), .int .i64 n] w fun en w' => en = .returned (.bool false) ∧ RdAt w' g s at_ 4 s.size ∧ Kp (fun k => k = g) w w' := by
  have HR := Lib.hid h
  have c0 : w.cell? ⟨g, 0, none⟩ = some (.string s) := (blk_cell h 0).trans rfl
  have c1 : w.cell? ⟨g, 1, none⟩ = some (.int .i64 at_) := (blk_cell h 1).trans rfl
  have hw : IntKind.i64.wrap ((s.size : Int) - at_) = (s.size : Int) - at_ := wrap_small (by omega) (by omega)
  have hd : decide ((s.size : Int) - at_ < n) = true := decide_eq_true (by omega)
  clear h
  go_enter Tryz.func109, Tryz.ntmps109
  go_wp2_with fail
  go_quiet (fail)
  rename_i nq
  go_wp2_with fail
  refine (wrong_any 4 s.size (blk_drewN HR.out nq)).mono ?_
  rintro en w1 ⟨rfl, h9, hk⟩
  have HR1 := Lib.hid h9
  have HK1 := Lib.hid hk
  clear h9 hk
  go_wp2_with fail
  go_ret
  exact ⟨rfl, HR1.out, ((Kp.refl _ _).drewN nq).tr HK1.out⟩
theorem toList_inj {x y : ByteArray} (h : x.toList = y.toList) : x = y := by
  rw [ByteArray.toList_eq, ByteArray.toList_eq] at h
  rcases x with ⟨⟨x⟩⟩
  rcases y with ⟨⟨y⟩⟩
  cases h
  rfl
def SamePost (w : World) (g : Nat) (s : ByteArray) (at_ e f : Int) (want : ByteArray) (en : Ending) (w' : World) : Prop :=
  Kp (fun k => k = g) w w' ∧ ((en = .returned (.bool true) ∧ at_ + want.size ≤ s.size ∧ s.extract at_.toNat (at_ + want.size).toNat = want ∧ RdAt w' g s (at_ + want.size) e f) ∨ (en = .returned (.bool false) ∧ ∃ e1 f1, e1 ≠ 0 ∧ RdAt w' g s at_ e1 f1))
theorem same_any (want : ByteArray) (e1 : Int) (he1 : e1 ≠ 0) (hs : s.size ≤ 100000) (hwz : want.size ≤ 100000) (h0 : 0 ≤ at_) (h1 : at_ ≤ s.size) (h : RdAt w g s at_ e f) :
    Calls Tryz.prog 108 #[.pointer (some ⟨g, 0, none⟩), .string want, .int .i64 e1] w (SamePost w g s at_ e f want) := by
  have HR := Lib.hid h
  clear h
  by_cases hn : at_ + want.size ≤ s.size
  · go_enter Tryz.func108, Tryz.ntmps108
    go_wp2_with fail
    refine (there_yes want.size hs h0 h1 (by omega) hn HR.out).mono ?_
    rintro en w1 ⟨rfl, hr1, hk1⟩
    have HR1 := Lib.hid hr1
    have HK1 := Lib.hid hk1
    have c0 : w1.cell? ⟨g, 0, none⟩ = some (.string s) := (blk_cell hr1 0).trans rfl
    have c1 : w1.cell? ⟨g, 1, none⟩ = some (.int .i64 at_) := (blk_cell hr1 1).trans rfl
    have hw : IntKind.i64.wrap (at_ + (want.size : Int)) = at_ + (want.size : Int) := wrap_small (by omega) (by omega)
    clear hr1 hk1
    go_wp2_with fail
    go_quiet (fail)
    rename_i nq
    have HR2 := Lib.hid (blk_drewN HR1.out nq)
    have HK2 : Hid (Kp (fun k => k = g) w (w1.drewN nq)) := Lib.hid (HK1.out.drewN nq)
    clear c0 c1
    generalize w1.drewN nq = w2 at *
    have c1 : w2.cell? ⟨g, 1, none⟩ = some (.int .i64 at_) := (blk_cell HR2.out 1).trans rfl
    have f1 := blk_frozen HR2.out 1
    generalize hbb : ((s.extract at_.toNat (at_ + (want.size : Int)).toNat).toList == want.toList) = bb
    cases bb with
    | true =>
      have HX := Lib.hid (toList_inj (beq_iff_eq.1 hbb))
      clear hbb
      go_wp2_with fail
      go_ret
      exact ⟨HK2.out.tr ((Kp.refl _ _).setg _ _), .inl ⟨rfl, hn, HX.out, (blk_set HR2.out 1 _).trans rfl⟩⟩
    | false =>
      clear hbb
      go_wp2_with fail
      refine (wrong_any e1 at_ HR2.out).mono ?_
      rintro en w3 ⟨rfl, hr3, hk3⟩
      have HR3 := Lib.hid hr3
      have HK3 := Lib.hid hk3
      clear hr3 hk3
      go_wp2_with fail
      go_ret
      exact ⟨HK2.out.tr HK3.out, .inr ⟨rfl, e1, at_, he1, HR3.out⟩⟩
  · go_enter Tryz.func108, Tryz.ntmps108
    go_wp2_with fail
    refine (there_no want.size hs h0 h1 (by omega) HR.out).mono ?_
    rintro en w1 ⟨rfl, hr1, hk1⟩
    have HR1 := Lib.hid hr1
    have HK1 := Lib.hid hk1
    clear hr1 hk1
    go_wp2_with fail
    go_ret
    exact ⟨HK1.out, .inr ⟨rfl, 4, s.size, by decide, HR1.out⟩⟩
end
end Go.Proofs.YtcgoofefiiihnaaGreat
namespace Go.Proofs.YtcgoofefiiihnaaGreat
open Go.RowKit Go.Proofs.YtcgoofefiiihnaaGreatW.PrintWords Go.Proofs.YtcgoofefiiihnaaGreatW.PrintMore
set_option linter.unusedVariables false
set_option linter.unusedSimpArgs false
set_option maxRecDepth 20000
section
variable {w : World} {g : Nat} {s : ByteArray} {at_ e f : Int}
def OkAt (s : ByteArray) (p : Nat) (want : ByteArray) : Prop := p + want.size ≤ s.size ∧ s.extract p (p + want.size) = want
theorem same_strong (want : ByteArray) (e1 : Int) (he1 : e1 ≠ 0) (hs : s.size ≤ 100000) (hwz : want.size ≤ 100000) (h0 : 0 ≤ at_) (h1 : at_ ≤ s.size) (h : RdAt w g s at_ e f) :
    Calls Tryz.prog 108 #[.pointer (some ⟨g, 0, none⟩), .string want, .int .i64 e1] w fun en w' => Kp (fun k => k = g) w w' ∧ ((en = .returned (.bool true) ∧ OkAt s at_.toNat want ∧ RdAt w' g s (at_ + want.size) e f) ∨ (en = .returned (.bool false) ∧ ¬ OkAt s at_.toNat want ∧ ∃ e1 f1, e1 ≠ 0 ∧ RdAt w' g s at_ e1 f1)) := by
  have HR := Lib.hid h
  clear h
  by_cases hn : at_ + want.size ≤ s.size
  · go_enter Tryz.func108, Tryz.ntmps108
    go_wp2_with fail
    refine (there_yes want.size hs h0 h1 (by omega) hn HR.out).mono ?_
    rintro en w1 ⟨rfl, hr1, hk1⟩
    have HR1 := Lib.hid hr1
    have HK1 := Lib.hid hk1
    have c0 : w1.cell? ⟨g, 0, none⟩ = some (.string s) := (blk_cell hr1 0).trans rfl
    have c1 : w1.cell? ⟨g, 1, none⟩ = some (.int .i64 at_) := (blk_cell hr1 1).trans rfl
    have hw : IntKind.i64.wrap (at_ + (want.size : Int)) = at_ + (want.size : Int) := wrap_small (by omega) (by omega)
    clear hr1 hk1
    go_wp2_with fail
    go_quiet (fail)
    rename_i nq
    have HR2 := Lib.hid (blk_drewN HR1.out nq)
    have HK2 : Hid (Kp (fun k => k = g) w (w1.drewN nq)) := Lib.hid (HK1.out.drewN nq)
    clear c0 c1
    generalize w1.drewN nq = w2 at *
    have c1 : w2.cell? ⟨g, 1, none⟩ = some (.int .i64 at_) := (blk_cell HR2.out 1).trans rfl
    have f1 := blk_frozen HR2.out 1
    generalize hbb : ((s.extract at_.toNat (at_ + (want.size : Int)).toNat).toList == want.toList) = bb
    cases bb with
    | true =>
      have HX := Lib.hid (toList_inj (beq_iff_eq.1 hbb))
      clear hbb
      go_wp2_with fail
      go_ret
      exact ⟨HK2.out.tr ((Kp.refl _ _).setg _ _), .inl ⟨rfl, ⟨by omega, by have h9 := HX.out; rw [show (at_ + (want.size : Int)).toNat = at_.toNat + want.size by omega] at h9; exact h9⟩, (blk_set HR2.out 1 _).trans rfl⟩⟩
    | false =>
      have HN : Hid (¬ OkAt s at_.toNat want) := Lib.hid (fun h9 => by
        rw [show (at_ + (want.size : Int)).toNat = at_.toNat + want.size by omega, h9.2] at hbb
        simp at hbb)
      clear hbb
      go_wp2_with fail
      refine (wrong_any e1 at_ HR2.out).mono ?_
      rintro en w3 ⟨rfl, hr3, hk3⟩
      have HR3 := Lib.hid hr3
      have HK3 := Lib.hid hk3
      clear hr3 hk3
      go_wp2_with fail
      go_ret
      exact ⟨HK2.out.tr HK3.out, .inr ⟨rfl, HN.out, e1, at_, he1, HR3.out⟩⟩
  · go_enter Tryz.func108, Tryz.ntmps108
    go_wp2_with fail
    refine (there_no want.size hs h0 h1 (by omega) HR.out).mono ?_
    rintro en w1 ⟨rfl, hr1, hk1⟩
    have HR1 := Lib.hid hr1
    have HK1 := Lib.hid hk1
    clear hr1 hk1
    go_wp2_with fail
    go_ret
    exact ⟨HK1.out, .inr ⟨rfl, fun h9 => by have := h9.1; omega, 4, s.size, by decide, HR1.out⟩⟩
theorem same_yes (p : Nat) (want : ByteArray) (e1 : Int) (he1 : e1 ≠ 0) (hs : s.size ≤ 100000) (hwz : want.size ≤ 100000) (hok : OkAt s p want) (h : RdAt w g s (p : Int) e f) :
    Calls Tryz.prog 108 #[.pointer (some ⟨g, 0, none⟩), .string want, .int .i64 e1] w fun en w' => en = .returned (.bool true) ∧ RdAt w' g s ((p + want.size : Nat) : Int) e f ∧ Kp (fun k => k = g) w w' :=
  (same_strong want e1 he1 hs hwz (by omega) (by have := hok.1; omega) h).mono fun en w' ⟨hk, hq⟩ => by
    rcases hq with ⟨he, _, hr⟩ | ⟨_, hn, _⟩
    · exact ⟨he, hr, hk⟩
    · exact absurd hok (by simpa using hn)
theorem same_no (p : Nat) (want : ByteArray) (e1 : Int) (he1 : e1 ≠ 0) (hs : s.size ≤ 100000) (hwz : want.size ≤ 100000) (hp : p ≤ s.size) (hok : ¬ OkAt s p want) (h : RdAt w g s (p : Int) e f) :
    Calls Tryz.prog 108 #[.pointer (some ⟨g, 0, none⟩), .string want, .int .i64 e1] w fun en w' => en = .returned (.bool false) ∧ (∃ e1 f1, e1 ≠ 0 ∧ RdAt w' g s (p : Int) e1 f1) ∧ Kp (fun k => k = g) w w' :=
  (same_strong want e1 he1 hs hwz (by omega) (by omega) h).mono fun en w' ⟨hk, hq⟩ => by
    rcases hq with ⟨_, ho, _⟩ | ⟨he, _, hr⟩
    · exact absurd (by simpa using ho) hok
    · exact ⟨he, hr, hk⟩
end
end Go.Proofs.YtcgoofefiiihnaaGreat
namespace Go.Proofs.YtcgoofefiiihnaaGreat
open Go.RowKit Go.Proofs.YtcgoofefiiihnaaGreatW.PrintWords Go.Proofs.YtcgoofefiiihnaaGreatW.PrintMore
set_option linter.unusedVariables false
set_option linter.unusedSimpArgs false
set_option maxRecDepth 20000
theorem kd_int {w : World} {k : IntKind} {A : Option Addr} {n : Nat} {l : List Int} (h : ReadsInt w k A n l) : Kd.C (Kd.int k) w A n l := by
  refine ⟨h.1, h.2.1, fun h0 => ?_⟩
  obtain ⟨ad, rfl, hc⟩ := h.2.2 h0
  refine ⟨ad, rfl, fun j p hp => ⟨[.int k p], rfl, ?_, ?_⟩⟩
  · rfl
  · intro i u hu
    have hj : j < n := by rw [← h.1]; exact (List.getElem?_eq_some_iff.1 hp).1
    have h1 := hc j hj
    rw [List.getD_eq_getElem?_getD, hp] at h1
    cases i with
    | zero =>
      have h2 : u = .int k p := (Option.some.inj hu).symm
      rw [h2, show j * (Kd.int k).sz + 0 = j from Nat.mul_one j]
      exact h1
    | succ i => cases hu
abbrev tal (a b c d e f g h i j k : Int) : Array Value := #[.int .i64 a, .int .i64 b, .int .i64 c, .int .i64 d, .int .i64 e, .int .i64 f, .int .i64 g, .int .i64 h, .int .i64 i, .int .u32 j, .int .u32 k]
theorem units_a : PTopOne.scalar_Units.f 9 [65] = some 1 := by
  simp [PTopOne.scalar_Units.f, PTopOne.scalar_Units.l0, PTopOne.scalar_Is.f, rd, wrap64]
theorem results_c {P : Program} {fn : Func} {p : Tmp} {ty : TypeId} (h : fn.results = #[.cell p ty]) (tmps : Array Value) (w : World) (g : Nat) (t : TypeId) (cs : Array Value) (fr : Nat × Nat) (d : TypeDesc)
    (hp : tmps.getD p undef = .pointer (some ⟨g, 0, none⟩)) (hg : w.heap[g]? = some (.cells cs t fr))
    (hu : P.underlying ty = some d) (hd : (match d with | .struct _ | .array _ _ => true | _ => false) = true) (hi : (P.info? ty).map (·.size) = some cs.size) :
    (results fn tmps).run P w = .ok (.agg cs) w := by
  have hp' : tmps[p]?.getD undef = .pointer (some ⟨g, 0, none⟩) := by simpa using hp
  simp [results, h, hp', asAddr, run_loadVar_row w g t ty cs fr d hg hu hd hi]
set_option maxHeartbeats 4000000 in
theorem tally_a (w : World) (AA : Addr) (c : Nat) (hc1 : 1 ≤ c) (hr : ReadsInt w .u32 (some AA) 1 [65]) : Calls Tryz.prog 25 #[.slice (some AA) 1 c] w fun en w' => ∃ cs, en = .returned (.agg cs) ∧ cs.size = 11 ∧ cs[4]? = some (.int .i64 1) ∧ Below w.heap.size w w' := by
  have HRD := Lib.hid hr
  have HC1 := Lib.hid hc1
  clear hr hc1
  go_enter Tryz.func25, Tryz.ntmps25
  go_wp2_with fail
  have hz1 : (w.alloc (Obj.cells (tal 0 0 0 0 0 0 0 0 0 0 0) 63)).heap.size = w.heap.size + 1 := by simp
  have HT := Lib.hid (blk_new (w.alloc (Obj.cells (tal 0 0 0 0 0 0 0 0 0 0 0) 63)) (.cells (tal 0 0 0 0 0 0 0 0 0 0 0) 63))
  have HR := Lib.hid (blk_alloc (blk_new w (.cells (tal 0 0 0 0 0 0 0 0 0 0 0) 63)) (.cells (tal 0 0 0 0 0 0 0 0 0 0 0) 63))
  have HB := Lib.hid (below_alloc (below_alloc (Below.refl w.heap.size w) (.cells (tal 0 0 0 0 0 0 0 0 0 0 0) 63)) (.cells (tal 0 0 0 0 0 0 0 0 0 0 0) 63))
  have HL := Lib.hid (HRD.out.below HB.out)
  rw [hz1] at HT
  simp only [tal] at HT HR HB HL hz1
  (try rw [hz1])
  generalize (w.alloc (Obj.cells #[.int .i64 0, .int .i64 0, .int .i64 0, .int .i64 0, .int .i64 0, .int .i64 0, .int .i64 0, .int .i64 0, .int .i64 0, .int .u32 0, .int .u32 0] 63)).alloc (Obj.cells #[.int .i64 0, .int .i64 0, .int .i64 0, .int .i64 0, .int .i64 0, .int .i64 0, .int .i64 0, .int .i64 0, .int .i64 0, .int .u32 0, .int .u32 0] 63) = W0 at *
  go_loopw [10] (fun k wr => k = .int .i64 0 ∧ wr = W0 ∨ k = .int .i64 1 ∧ ∃ a b c : Int, wr.heap[w.heap.size + 1]? = some (.cells (tal 1 a b 0 1 0 0 0 0 65 c) 63 (0, 0)) ∧ (∃ cs, wr.heap[w.heap.size]? = some (.cells cs 63 (0, 0)) ∧ cs = tal 0 0 0 0 0 0 0 0 0 0 0) ∧ Below w.heap.size w wr) (fun k _ => 1 - (intOf k).toNat)
  case atStart => exact .inl ⟨rfl, rfl⟩
  case round =>
    rcases hrel with ⟨rfl, rfl⟩ | ⟨rfl, a, b, cm, h1, ⟨cs, h2, rfl⟩, h3⟩
    · have hc0 : wr.cell? AA = some (.int .u32 65) := by
        obtain ⟨ad, had, hc⟩ := HL.out.2.2 (by decide)
        cases had
        cases AA
        exact hc 0 (by decide)
      go_wp2_with fail
      refine (PTopOne.scalar_Class.calls 9 65 2 _ (by rfl)).mono ?_
      rintro en w1 ⟨rfl, ⟨n1, rfl⟩⟩
      have HT1 := Lib.hid (blk_drewN HT.out n1)
      have HR1 := Lib.hid (blk_drewN HR.out n1)
      have HB1 : Hid (Below w.heap.size w (wr.drewN n1)) := Lib.hid (pw_below_drewN HB.out n1)
      have c4 := blk_cell HT1.out 4
      have f4 := blk_frozen HT1.out 4
      have c0 := blk_cell HT1.out 0
      have c9 := blk_cell HT1.out 9
      have f9 := blk_frozen HT1.out 9
      clear hc0
      generalize wr.drewN n1 = W1 at *
      simp at c4 c0 c9
      go_wp2_with fail
      have HT2 : Hid (((W1.setCell ⟨w.heap.size + 1, 4, none⟩ (.int .i64 1)).setCell ⟨w.heap.size + 1, 9, none⟩ (.int .u32 65)).heap[w.heap.size + 1]? = some (.cells (tal 0 0 0 0 1 0 0 0 0 65 0) 63 (0, 0))) := Lib.hid ((blk_set (show (W1.setCell ⟨w.heap.size + 1, 4, none⟩ (.int .i64 1)).heap[w.heap.size + 1]? = some (.cells (tal 0 0 0 0 1 0 0 0 0 0 0) 63 (0, 0)) from (blk_set HT1.out 4 _).trans rfl) 9 _).trans rfl)
      have hk2 : Kp (fun k => k = w.heap.size + 1) W1 ((W1.setCell ⟨w.heap.size + 1, 4, none⟩ (.int .i64 1)).setCell ⟨w.heap.size + 1, 9, none⟩ (.int .u32 65)) := ((Kp.refl _ _).setg _ _).setg _ _
      have HR2 := Lib.hid (hk2.blk HR1.out (fun h => by omega))
      have HB2 := Lib.hid (HB1.out.trans (hk2.below (B := w.heap.size) HB1.out.size (fun k hk => by omega)))
      have hz2 : ((W1.setCell ⟨w.heap.size + 1, 4, none⟩ (.int .i64 1)).setCell ⟨w.heap.size + 1, 9, none⟩ (.int .u32 65)).heap.size = W1.heap.size := by simp
      clear HT1 HR1 HB1 c4 f4 c0 c9 f9 hk2
      generalize (W1.setCell ⟨w.heap.size + 1, 4, none⟩ (.int .i64 1)).setCell ⟨w.heap.size + 1, 9, none⟩ (.int .u32 65) = W2 at *
      rw [← hz2]
      refine (A.encode_any (some ⟨W2.heap.size, 0, none⟩) 1 1 [65] (Nat.le_refl _) (box_reads W2 65) (by decide) (by decide) (fun ad h => by cases h; simp)).mono ?_
      rintro en w3 ⟨x, rfl, hx, hb3⟩
      obtain rfl : x = ⟨#[65]⟩ := of_bytes (hx.trans (by rfl))
      have HT3 := Lib.hid (blk_below (blk_alloc HT2.out _) hb3)
      have HR3 := Lib.hid (blk_below (blk_alloc HR2.out _) hb3)
      have HB3 := Lib.hid ((below_alloc HB2.out (.cells #[.int .u32 65] 56)).trans (hb3.mono (Nat.le_trans HB2.out.size (by simp))))
      clear hb3 hx HT2 HR2 HB2 hz2
      have c0 := blk_cell HT3.out 0
      have f0 := blk_frozen HT3.out 0
      simp at c0
      have hlt3 := blk_lt HT3.out
      go_wp2_with fail
      have hk4 : Kp (fun k => k = w.heap.size + 1) w3 (w3.setCell ⟨w.heap.size + 1, 0, none⟩ (.int .i64 1)) := (Kp.refl _ _).setg _ _
      have HT4 : Hid (((w3.setCell ⟨w.heap.size + 1, 0, none⟩ (.int .i64 1)).alloc (Obj.cells #[.int .i64 0, .int .i64 0] 27)).heap[w.heap.size + 1]? = some (.cells (tal 1 0 0 0 1 0 0 0 0 65 0) 63 (0, 0))) := Lib.hid (blk_alloc ((blk_set HT3.out 0 _).trans rfl) _)
      have HR4 := Lib.hid (blk_alloc (hk4.blk HR3.out (fun h => by omega)) (.cells #[.int .i64 0, .int .i64 0] 27))
      have HB4 := Lib.hid (below_alloc (HB3.out.trans (hk4.below (B := w.heap.size) HB3.out.size (fun k hk => by omega))) (.cells #[.int .i64 0, .int .i64 0] 27))
      clear HT3 HR3 HB3 c0 f0 hlt3 hk4
      generalize (w3.setCell ⟨w.heap.size + 1, 0, none⟩ (.int .i64 1)).alloc (Obj.cells #[.int .i64 0, .int .i64 0] 27) = W4 at *
      have c1 : W4.cell? ⟨w.heap.size + 1, 1, none⟩ = some (.int .i64 0) := blk_cell HT4.out 1
      have f1 := blk_frozen HT4.out 1
      have hlt4 := blk_lt HT4.out
      refine wp_region_any (by kernel_rfl) ?_
      (try (change wpAny _ _ _ _ _ _ _ (World.drew _)))
      refine wpAny_take (i := 0) (v := ?_) rfl (by kernel_rfl) (by kernel_rfl) (by kernel_rfl) (fun _ _ _ h => h) (Or.inl ⟨by rfl, ?_⟩) ?_
      rotate_left
      · intro w
        (try go_simp)
        (try with_reducible rfl)
      refine wpAny_take (i := 2) (v := ?_) rfl (by kernel_rfl) (by kernel_rfl) (by kernel_rfl) (fun _ _ _ h => h) (Or.inl ⟨by rfl, ?_⟩) ?_
      rotate_left
      · intro w
        (try go_simp)
        (try with_reducible rfl)
      refine wpAny_ready (rs := [1, 3]) (by kernel_rfl) (by simp) ?_
      refine AllReady.cons rfl (fun K hK => ?_) ?_
      · go_simp
        refine hK _ _ ?_
        clear hK K
        refine wpAny_ready (rs := [3]) (by kernel_rfl) (by simp) ?_
        refine AllReady.cons rfl (fun K hK => ?_) ?_
        · go_simp
          refine hK _ _ ?_
          clear hK K
          refine wpAny_ready (rs := [4]) (by kernel_rfl) (by simp) ?_
          refine AllReady.cons rfl (fun K hK => ?_) ?_
          · go_simp
            go_wp2_with (go_at_call 46; refine (PTopOne.scalar_Units.calls 9 (some ⟨W4.heap.size, 0, none⟩) 1 [65] 1 _ (kd_int (box_reads W4.drew 65)) (by decide) units_a).mono ?_; rintro en w5 ⟨rfl, ⟨n5, rfl⟩⟩)
            refine wpAny_take (i := 5) (v := ?_) rfl (by kernel_rfl) (by kernel_rfl) (by kernel_rfl) (fun _ _ _ h => h) (Or.inl ⟨by rfl, ?_⟩) ?_
            rotate_left
            · intro w
              (try go_simp)
              (try with_reducible rfl)
            refine wpAny_take (i := 6) (v := ?_) rfl (by kernel_rfl) (by kernel_rfl) (by kernel_rfl) (fun _ _ _ h => h) (Or.inl ⟨by rfl, ?_⟩) ?_
            rotate_left
            · intro w
              (try go_simp)
              (try with_reducible rfl)
            refine wpAny_ready (rs := [7]) (by kernel_rfl) (by simp) ?_
            refine AllReady.cons rfl (fun K hK => ?_) ?_
            · go_simp
              refine hK _ _ ?_
              clear hK K
              refine wpAny_done (by kernel_rfl) ?_ _
              (try simp only [Exit.inBlock, Exit.then])
              have HT5 : Hid ((((W4.alloc (Obj.cells #[.int .u32 65] 56)).drewN (1 + n5)).setCell ⟨w.heap.size + 1, 1, none⟩ (.int .i64 (IntKind.i64.wrap 1))).heap[w.heap.size + 1]? = some (.cells (tal 1 (IntKind.i64.wrap 1) 0 0 1 0 0 0 0 65 0) 63 (0, 0))) := Lib.hid ((blk_set (blk_drewN (blk_alloc HT4.out _) _) 1 _).trans rfl)
              have hk5 : Kp (fun k => k = w.heap.size + 1) ((W4.alloc (Obj.cells #[.int .u32 65] 56)).drewN (1 + n5)) (((W4.alloc (Obj.cells #[.int .u32 65] 56)).drewN (1 + n5)).setCell ⟨w.heap.size + 1, 1, none⟩ (.int .i64 (IntKind.i64.wrap 1))) := (Kp.refl _ _).setg _ _
              have HR5 := Lib.hid (hk5.blk (blk_drewN (blk_alloc HR4.out _) _) (fun h => by omega))
              have HB5 := Lib.hid ((pw_below_drewN (below_alloc HB4.out _) _).trans (hk5.below (B := w.heap.size) (pw_below_drewN (below_alloc HB4.out _) _).size (fun k hk => by omega)))
              clear hk5 c1 f1
              generalize ((W4.alloc (Obj.cells #[.int .u32 65] 56)).drewN (1 + n5)).setCell ⟨w.heap.size + 1, 1, none⟩ (.int .i64 (IntKind.i64.wrap 1)) = V at *
              have c2 : V.cell? ⟨w.heap.size + 1, 2, none⟩ = some (.int .i64 0) := blk_cell HT5.out 2
              have f2 := blk_frozen HT5.out 2
              have c9 : V.cell? ⟨w.heap.size + 1, 9, none⟩ = some (.int .u32 65) := blk_cell HT5.out 9
              have f9 := blk_frozen HT5.out 9
              have c10 : V.cell? ⟨w.heap.size + 1, 10, none⟩ = some (.int .u32 0) := blk_cell HT5.out 10
              have f10 := blk_frozen HT5.out 10
              go_wp2_with fail
              refine ⟨.inr ⟨rfl, IntKind.i64.wrap 1, 1, max 0 65, ?_, ?_, ?_⟩, by decide⟩
              · exact (blk_set ((blk_set ((blk_set HT5.out 2 _).trans rfl) 9 _).trans rfl) 10 _).trans rfl
              · exact ⟨_, ((((Kp.refl (fun k => k = w.heap.size + 1) V).setg _ _).setg _ _).setg _ _).blk HR5.out (fun h => by omega), rfl⟩
              · exact HB5.out.trans ((((((Kp.refl (fun k => k = w.heap.size + 1) V).setg _ _).setg _ _).setg _ _)).below (B := w.heap.size) HB5.out.size (fun k hk => by omega))
            exact AllReady.nil
          exact AllReady.nil
        exact AllReady.nil
      refine AllReady.cons rfl (fun K hK => ?_) ?_
      · go_simp
        refine hK _ _ ?_
        clear hK K
        refine wpAny_ready (rs := [1, 4]) (by kernel_rfl) (by simp) ?_
        refine AllReady.cons rfl (fun K hK => ?_) ?_
        · go_simp
          refine hK _ _ ?_
          clear hK K
          refine wpAny_ready (rs := [4]) (by kernel_rfl) (by simp) ?_
          refine AllReady.cons rfl (fun K hK => ?_) ?_
          · go_simp
            go_wp2_with (go_at_call 46; refine (PTopOne.scalar_Units.calls 9 (some ⟨W4.heap.size, 0, none⟩) 1 [65] 1 _ (kd_int (box_reads W4.drew 65)) (by decide) units_a).mono ?_; rintro en w5 ⟨rfl, ⟨n5, rfl⟩⟩)
            refine wpAny_take (i := 5) (v := ?_) rfl (by kernel_rfl) (by kernel_rfl) (by kernel_rfl) (fun _ _ _ h => h) (Or.inl ⟨by rfl, ?_⟩) ?_
            rotate_left
            · intro w
              (try go_simp)
              (try with_reducible rfl)
            refine wpAny_take (i := 6) (v := ?_) rfl (by kernel_rfl) (by kernel_rfl) (by kernel_rfl) (fun _ _ _ h => h) (Or.inl ⟨by rfl, ?_⟩) ?_
            rotate_left
            · intro w
              (try go_simp)
              (try with_reducible rfl)
            refine wpAny_ready (rs := [7]) (by kernel_rfl) (by simp) ?_
            refine AllReady.cons rfl (fun K hK => ?_) ?_
            · go_simp
              refine hK _ _ ?_
              clear hK K
              refine wpAny_done (by kernel_rfl) ?_ _
              (try simp only [Exit.inBlock, Exit.then])
              have HT5 : Hid ((((W4.alloc (Obj.cells #[.int .u32 65] 56)).drewN (1 + n5)).setCell ⟨w.heap.size + 1, 1, none⟩ (.int .i64 (IntKind.i64.wrap 1))).heap[w.heap.size + 1]? = some (.cells (tal 1 (IntKind.i64.wrap 1) 0 0 1 0 0 0 0 65 0) 63 (0, 0))) := Lib.hid ((blk_set (blk_drewN (blk_alloc HT4.out _) _) 1 _).trans rfl)
              have hk5 : Kp (fun k => k = w.heap.size + 1) ((W4.alloc (Obj.cells #[.int .u32 65] 56)).drewN (1 + n5)) (((W4.alloc (Obj.cells #[.int .u32 65] 56)).drewN (1 + n5)).setCell ⟨w.heap.size + 1, 1, none⟩ (.int .i64 (IntKind.i64.wrap 1))) := (Kp.refl _ _).setg _ _
              have HR5 := Lib.hid (hk5.blk (blk_drewN (blk_alloc HR4.out _) _) (fun h => by omega))
              have HB5 := Lib.hid ((pw_below_drewN (below_alloc HB4.out _) _).trans (hk5.below (B := w.heap.size) (pw_below_drewN (below_alloc HB4.out _) _).size (fun k hk => by omega)))
              clear hk5 c1 f1
              generalize ((W4.alloc (Obj.cells #[.int .u32 65] 56)).drewN (1 + n5)).setCell ⟨w.heap.size + 1, 1, none⟩ (.int .i64 (IntKind.i64.wrap 1)) = V at *
              have c2 : V.cell? ⟨w.heap.size + 1, 2, none⟩ = some (.int .i64 0) := blk_cell HT5.out 2
              have f2 := blk_frozen HT5.out 2
              have c9 : V.cell? ⟨w.heap.size + 1, 9, none⟩ = some (.int .u32 65) := blk_cell HT5.out 9
              have f9 := blk_frozen HT5.out 9
              have c10 : V.cell? ⟨w.heap.size + 1, 10, none⟩ = some (.int .u32 0) := blk_cell HT5.out 10
              have f10 := blk_frozen HT5.out 10
              go_wp2_with fail
              refine ⟨.inr ⟨rfl, IntKind.i64.wrap 1, 1, max 0 65, ?_, ?_, ?_⟩, by decide⟩
              · exact (blk_set ((blk_set ((blk_set HT5.out 2 _).trans rfl) 9 _).trans rfl) 10 _).trans rfl
              · exact ⟨_, ((((Kp.refl (fun k => k = w.heap.size + 1) V).setg _ _).setg _ _).setg _ _).blk HR5.out (fun h => by omega), rfl⟩
              · exact HB5.out.trans ((((((Kp.refl (fun k => k = w.heap.size + 1) V).setg _ _).setg _ _).setg _ _)).below (B := w.heap.size) HB5.out.size (fun k hk => by omega))
            exact AllReady.nil
          exact AllReady.nil
        refine AllReady.cons rfl (fun K hK => ?_) ?_
        · go_simp
          go_wp2_with (go_at_call 46; refine (PTopOne.scalar_Units.calls 9 (some ⟨W4.heap.size, 0, none⟩) 1 [65] 1 _ (kd_int (box_reads W4.drew 65)) (by decide) units_a).mono ?_; rintro en w5 ⟨rfl, ⟨n5, rfl⟩⟩)
          refine wpAny_ready (rs := [1]) (by kernel_rfl) (by simp) ?_
          refine AllReady.cons rfl (fun K hK => ?_) ?_
          · go_simp
            refine hK _ _ ?_
            clear hK K
            refine wpAny_take (i := 5) (v := ?_) rfl (by kernel_rfl) (by kernel_rfl) (by kernel_rfl) (fun _ _ _ h => h) (Or.inl ⟨by rfl, ?_⟩) ?_
            rotate_left
            · intro w
              (try go_simp)
              (try with_reducible rfl)
            refine wpAny_take (i := 6) (v := ?_) rfl (by kernel_rfl) (by kernel_rfl) (by kernel_rfl) (fun _ _ _ h => h) (Or.inl ⟨by rfl, ?_⟩) ?_
            rotate_left
            · intro w
              (try go_simp)
              (try with_reducible rfl)
            refine wpAny_ready (rs := [7]) (by kernel_rfl) (by simp) ?_
            refine AllReady.cons rfl (fun K hK => ?_) ?_
            · go_simp
              refine hK _ _ ?_
              clear hK K
              refine wpAny_done (by kernel_rfl) ?_ _
              (try simp only [Exit.inBlock, Exit.then])
              have HT5 : Hid ((((W4.alloc (Obj.cells #[.int .u32 65] 56)).drewN (1 + n5)).setCell ⟨w.heap.size + 1, 1, none⟩ (.int .i64 (IntKind.i64.wrap 1))).heap[w.heap.size + 1]? = some (.cells (tal 1 (IntKind.i64.wrap 1) 0 0 1 0 0 0 0 65 0) 63 (0, 0))) := Lib.hid ((blk_set (blk_drewN (blk_alloc HT4.out _) _) 1 _).trans rfl)
              have hk5 : Kp (fun k => k = w.heap.size + 1) ((W4.alloc (Obj.cells #[.int .u32 65] 56)).drewN (1 + n5)) (((W4.alloc (Obj.cells #[.int .u32 65] 56)).drewN (1 + n5)).setCell ⟨w.heap.size + 1, 1, none⟩ (.int .i64 (IntKind.i64.wrap 1))) := (Kp.refl _ _).setg _ _
              have HR5 := Lib.hid (hk5.blk (blk_drewN (blk_alloc HR4.out _) _) (fun h => by omega))
              have HB5 := Lib.hid ((pw_below_drewN (below_alloc HB4.out _) _).trans (hk5.below (B := w.heap.size) (pw_below_drewN (below_alloc HB4.out _) _).size (fun k hk => by omega)))
              clear hk5 c1 f1
              generalize ((W4.alloc (Obj.cells #[.int .u32 65] 56)).drewN (1 + n5)).setCell ⟨w.heap.size + 1, 1, none⟩ (.int .i64 (IntKind.i64.wrap 1)) = V at *
              have c2 : V.cell? ⟨w.heap.size + 1, 2, none⟩ = some (.int .i64 0) := blk_cell HT5.out 2
              have f2 := blk_frozen HT5.out 2
              have c9 : V.cell? ⟨w.heap.size + 1, 9, none⟩ = some (.int .u32 65) := blk_cell HT5.out 9
              have f9 := blk_frozen HT5.out 9
              have c10 : V.cell? ⟨w.heap.size + 1, 10, none⟩ = some (.int .u32 0) := blk_cell HT5.out 10
              have f10 := blk_frozen HT5.out 10
              go_wp2_with fail
              refine ⟨.inr ⟨rfl, IntKind.i64.wrap 1, 1, max 0 65, ?_, ?_, ?_⟩, by decide⟩
              · exact (blk_set ((blk_set ((blk_set HT5.out 2 _).trans rfl) 9 _).trans rfl) 10 _).trans rfl
              · exact ⟨_, ((((Kp.refl (fun k => k = w.heap.size + 1) V).setg _ _).setg _ _).setg _ _).blk HR5.out (fun h => by omega), rfl⟩
              · exact HB5.out.trans ((((((Kp.refl (fun k => k = w.heap.size + 1) V).setg _ _).setg _ _).setg _ _)).below (B := w.heap.size) HB5.out.size (fun k hk => by omega))
            exact AllReady.nil
          exact AllReady.nil
        exact AllReady.nil
      exact AllReady.nil
    · have HT := Lib.hid h1
      have HR := Lib.hid h2
      have HB := Lib.hid h3
      clear h1 h2 h3
      have c0 := blk_cell HT.out 0
      have d0 := blk_cell HR.out 0
      have f0 := blk_frozen HR.out 0
      have c1 := blk_cell HT.out 1
      have d1 := blk_cell HR.out 1
      have f1 := blk_frozen HR.out 1
      have c2 := blk_cell HT.out 2
      have d2 := blk_cell HR.out 2
      have f2 := blk_frozen HR.out 2
      have c3 := blk_cell HT.out 3
      have d3 := blk_cell HR.out 3
      have f3 := blk_frozen HR.out 3
      have c4 := blk_cell HT.out 4
      have d4 := blk_cell HR.out 4
      have f4 := blk_frozen HR.out 4
      have c5 := blk_cell HT.out 5
      have d5 := blk_cell HR.out 5
      have f5 := blk_frozen HR.out 5
      have c6 := blk_cell HT.out 6
      have d6 := blk_cell HR.out 6
      have f6 := blk_frozen HR.out 6
      have c7 := blk_cell HT.out 7
      have d7 := blk_cell HR.out 7
      have f7 := blk_frozen HR.out 7
      have c8 := blk_cell HT.out 8
      have d8 := blk_cell HR.out 8
      have f8 := blk_frozen HR.out 8
      have c9 := blk_cell HT.out 9
      have d9 := blk_cell HR.out 9
      have f9 := blk_frozen HR.out 9
      have c10 := blk_cell HT.out 10
      have d10 := blk_cell HR.out 10
      have f10 := blk_frozen HR.out 10
      simp only [tal] at *
      simp at c0 c1 c2 c3 c4 c5 c6 c7 c8 c9 c10 d0 d1 d2 d3 d4 d5 d6 d7 d8 d9 d10
      go_wp2_with fail
      have s0 : (wr.setCell ⟨w.heap.size, 0, none⟩ (.int .i64 1)).heap[w.heap.size]? = some (.cells (tal 1 0 0 0 0 0 0 0 0 0 0) 63 (0, 0)) := (blk_set HR.out 0 _).trans rfl
      have s1 : ((wr.setCell ⟨w.heap.size, 0, none⟩ (.int .i64 1)).setCell ⟨w.heap.size, 1, none⟩ (.int .i64 a)).heap[w.heap.size]? = some (.cells (tal 1 a 0 0 0 0 0 0 0 0 0) 63 (0, 0)) := (blk_set s0 1 _).trans rfl
      have s2 : (((wr.setCell ⟨w.heap.size, 0, none⟩ (.int .i64 1)).setCell ⟨w.heap.size, 1, none⟩ (.int .i64 a)).setCell ⟨w.heap.size, 2, none⟩ (.int .i64 b)).heap[w.heap.size]? = some (.cells (tal 1 a b 0 0 0 0 0 0 0 0) 63 (0, 0)) := (blk_set s1 2 _).trans rfl
      have s3 : ((((wr.setCell ⟨w.heap.size, 0, none⟩ (.int .i64 1)).setCell ⟨w.heap.size, 1, none⟩ (.int .i64 a)).setCell ⟨w.heap.size, 2, none⟩ (.int .i64 b)).setCell ⟨w.heap.size, 3, none⟩ (.int .i64 0)).heap[w.heap.size]? = some (.cells (tal 1 a b 0 0 0 0 0 0 0 0) 63 (0, 0)) := (blk_set s2 3 _).trans rfl
      have s4 : (((((wr.setCell ⟨w.heap.size, 0, none⟩ (.int .i64 1)).setCell ⟨w.heap.size, 1, none⟩ (.int .i64 a)).setCell ⟨w.heap.size, 2, none⟩ (.int .i64 b)).setCell ⟨w.heap.size, 3, none⟩ (.int .i64 0)).setCell ⟨w.heap.size, 4, none⟩ (.int .i64 1)).heap[w.heap.size]? = some (.cells (tal 1 a b 0 1 0 0 0 0 0 0) 63 (0, 0)) := (blk_set s3 4 _).trans rfl
      have s5 : ((((((wr.setCell ⟨w.heap.size, 0, none⟩ (.int .i64 1)).setCell ⟨w.heap.size, 1, none⟩ (.int .i64 a)).setCell ⟨w.heap.size, 2, none⟩ (.int .i64 b)).setCell ⟨w.heap.size, 3, none⟩ (.int .i64 0)).setCell ⟨w.heap.size, 4, none⟩ (.int .i64 1)).setCell ⟨w.heap.size, 5, none⟩ (.int .i64 0)).heap[w.heap.size]? = some (.cells (tal 1 a b 0 1 0 0 0 0 0 0) 63 (0, 0)) := (blk_set s4 5 _).trans rfl
      have s6 : (((((((wr.setCell ⟨w.heap.size, 0, none⟩ (.int .i64 1)).setCell ⟨w.heap.size, 1, none⟩ (.int .i64 a)).setCell ⟨w.heap.size, 2, none⟩ (.int .i64 b)).setCell ⟨w.heap.size, 3, none⟩ (.int .i64 0)).setCell ⟨w.heap.size, 4, none⟩ (.int .i64 1)).setCell ⟨w.heap.size, 5, none⟩ (.int .i64 0)).setCell ⟨w.heap.size, 6, none⟩ (.int .i64 0)).heap[w.heap.size]? = some (.cells (tal 1 a b 0 1 0 0 0 0 0 0) 63 (0, 0)) := (blk_set s5 6 _).trans rfl
      have s7 : ((((((((wr.setCell ⟨w.heap.size, 0, none⟩ (.int .i64 1)).setCell ⟨w.heap.size, 1, none⟩ (.int .i64 a)).setCell ⟨w.heap.size, 2, none⟩ (.int .i64 b)).setCell ⟨w.heap.size, 3, none⟩ (.int .i64 0)).setCell ⟨w.heap.size, 4, none⟩ (.int .i64 1)).setCell ⟨w.heap.size, 5, none⟩ (.int .i64 0)).setCell ⟨w.heap.size, 6, none⟩ (.int .i64 0)).setCell ⟨w.heap.size, 7, none⟩ (.int .i64 0)).heap[w.heap.size]? = some (.cells (tal 1 a b 0 1 0 0 0 0 0 0) 63 (0, 0)) := (blk_set s6 7 _).trans rfl
      have s8 : (((((((((wr.setCell ⟨w.heap.size, 0, none⟩ (.int .i64 1)).setCell ⟨w.heap.size, 1, none⟩ (.int .i64 a)).setCell ⟨w.heap.size, 2, none⟩ (.int .i64 b)).setCell ⟨w.heap.size, 3, none⟩ (.int .i64 0)).setCell ⟨w.heap.size, 4, none⟩ (.int .i64 1)).setCell ⟨w.heap.size, 5, none⟩ (.int .i64 0)).setCell ⟨w.heap.size, 6, none⟩ (.int .i64 0)).setCell ⟨w.heap.size, 7, none⟩ (.int .i64 0)).setCell ⟨w.heap.size, 8, none⟩ (.int .i64 0)).heap[w.heap.size]? = some (.cells (tal 1 a b 0 1 0 0 0 0 0 0) 63 (0, 0)) := (blk_set s7 8 _).trans rfl
      have s9 : ((((((((((wr.setCell ⟨w.heap.size, 0, none⟩ (.int .i64 1)).setCell ⟨w.heap.size, 1, none⟩ (.int .i64 a)).setCell ⟨w.heap.size, 2, none⟩ (.int .i64 b)).setCell ⟨w.heap.size, 3, none⟩ (.int .i64 0)).setCell ⟨w.heap.size, 4, none⟩ (.int .i64 1)).setCell ⟨w.heap.size, 5, none⟩ (.int .i64 0)).setCell ⟨w.heap.size, 6, none⟩ (.int .i64 0)).setCell ⟨w.heap.size, 7, none⟩ (.int .i64 0)).setCell ⟨w.heap.size, 8, none⟩ (.int .i64 0)).setCell ⟨w.heap.size, 9, none⟩ (.int .u32 65)).heap[w.heap.size]? = some (.cells (tal 1 a b 0 1 0 0 0 0 65 0) 63 (0, 0)) := (blk_set s8 9 _).trans rfl
      have HRF : (((((((((((wr.setCell ⟨w.heap.size, 0, none⟩ (.int .i64 1)).setCell ⟨w.heap.size, 1, none⟩ (.int .i64 a)).setCell ⟨w.heap.size, 2, none⟩ (.int .i64 b)).setCell ⟨w.heap.size, 3, none⟩ (.int .i64 0)).setCell ⟨w.heap.size, 4, none⟩ (.int .i64 1)).setCell ⟨w.heap.size, 5, none⟩ (.int .i64 0)).setCell ⟨w.heap.size, 6, none⟩ (.int .i64 0)).setCell ⟨w.heap.size, 7, none⟩ (.int .i64 0)).setCell ⟨w.heap.size, 8, none⟩ (.int .i64 0)).setCell ⟨w.heap.size, 9, none⟩ (.int .u32 65)).setCell ⟨w.heap.size, 10, none⟩ (.int .u32 cm)).heap[w.heap.size]? = some (.cells (tal 1 a b 0 1 0 0 0 0 65 cm) 63 (0, 0)) := (blk_set s9 10 _).trans rfl
      have hkf : Kp (fun k => k = w.heap.size) wr (((((((((((wr.setCell ⟨w.heap.size, 0, none⟩ (.int .i64 1)).setCell ⟨w.heap.size, 1, none⟩ (.int .i64 a)).setCell ⟨w.heap.size, 2, none⟩ (.int .i64 b)).setCell ⟨w.heap.size, 3, none⟩ (.int .i64 0)).setCell ⟨w.heap.size, 4, none⟩ (.int .i64 1)).setCell ⟨w.heap.size, 5, none⟩ (.int .i64 0)).setCell ⟨w.heap.size, 6, none⟩ (.int .i64 0)).setCell ⟨w.heap.size, 7, none⟩ (.int .i64 0)).setCell ⟨w.heap.size, 8, none⟩ (.int .i64 0)).setCell ⟨w.heap.size, 9, none⟩ (.int .u32 65)).setCell ⟨w.heap.size, 10, none⟩ (.int .u32 cm)) := ((((((((((((Kp.refl (fun k => k = w.heap.size) wr).setg _ _).setg _ _).setg _ _).setg _ _).setg _ _).setg _ _).setg _ _).setg _ _).setg _ _).setg _ _).setg _ _)
      have HBF := HB.out.trans (hkf.below (B := w.heap.size) HB.out.size (fun k hk => by omega))
      (try simp only [Exit.inBlock, Exit.then])
      refine bodyPost_ret (results_c rfl _ _ w.heap.size 63 (tal 1 a b 0 1 0 0 0 0 65 cm) (0, 0) _ rfl HRF Tryz.underlying63 rfl (by kernel_rfl)) rfl ?_
      exact ⟨_, rfl, rfl, rfl, HBF⟩
end Go.Proofs.YtcgoofefiiihnaaGreat
namespace Go.Proofs.YtcgoofefiiihnaaGreat
open Go.RowKit Go.Proofs.YtcgoofefiiihnaaGreatW.PrintWords Go.Proofs.YtcgoofefiiihnaaGreatW.PrintMore
set_option linter.unusedVariables false
set_option linter.unusedSimpArgs false
set_option maxRecDepth 20000
theorem right_any (c z : Int) (hc0 : 1 ≤ c) (hc1 : c ≤ 10) (hz0 : 1 ≤ z) (hz1 : z ≤ 65536) (w : World) : Calls Tryz.prog 80 #[.int .i64 c, .int .i64 z] w fun en w' => en = .returned (.int .i64 0) ∧ Below w.heap.size w w' := by
  have l1 : decide (z < (1 : Int)) = false := decide_eq_false (by omega)
  have g1 : decide ((65536 : Int) < z) = false := decide_eq_false (by omega)
  go_enter Tryz.func80, Tryz.ntmps80
  go_wp2_with fail
  refine (name_any c _ (by omega) (by omega)).mono ?_
  rintro en w1 ⟨t1, rfl, hz1, hb1⟩
  have hn1 := ne_name hz1 hc0 hc1
  have HB1 := Lib.hid hb1
  clear hb1 hz1
  go_wp2_with fail
  go_ret
  exact ⟨rfl, HB1.out⟩
theorem neww_any (c z : Int) (hc0 : 1 ≤ c) (hc1 : c ≤ 10) (hz0 : 1 ≤ z) (hz1 : z ≤ 65536) (w : World) : Calls Tryz.prog 42 #[.int .i64 c, .int .i64 z] w fun en w' => ∃ g, en = .returned (.tuple #[.pointer (some ⟨g, 0, none⟩), .int .i64 0]) ∧ w.heap.size ≤ g ∧ WrAt w' g c z false false (.slice none 0 0) 0 0 0 ∧ Below w.heap.size w w' := by
  go_enter Tryz.func42, Tryz.ntmps42
  go_wp2_with fail
  refine (right_any c z hc0 hc1 hz0 hz1 _).mono ?_
  rintro en w1 ⟨rfl, hb1⟩
  have HB1 := Lib.hid hb1
  clear hb1
  go_wp2_with fail
  go_ret2
  exact ⟨_, rfl, HB1.out.size, blk_new _ _, below_alloc HB1.out _⟩
section
variable {w : World} {g : Nat} {c z n x y : Int} {b o : Bool} {l : Value}
theorem begin_again (h : WrAt w g c z true o l n x y) : Calls Tryz.prog 82 #[.pointer (some ⟨g, 0, none⟩)] w fun en w' => en = .returned (.string ByteArray.empty) ∧ w = w' := by
  have c2 : w.cell? ⟨g, 2, none⟩ = some (.bool true) := (blk_cell h 2).trans rfl
  clear h
  go_enter Tryz.func82, Tryz.ntmps82
  go_wp2_with fail
  go_ret
  exact ⟨rfl, rfl⟩
theorem begin_first (hc0 : 1 ≤ c) (hc1 : c ≤ 10) (hz0 : 1 ≤ z) (hz1 : z ≤ 65536) (h : WrAt w g c z false o l n x y) : Calls Tryz.prog 82 #[.pointer (some ⟨g, 0, none⟩)] w fun en w' => ∃ t : ByteArray, en = .returned (.string t) ∧ bytesOf t = headF c z ∧ WrAt w' g c z true o l n x y ∧ Kp (fun k => k = g) w w' := by
  have c2 : w.cell? ⟨g, 2, none⟩ = some (.bool false) := (blk_cell h 2).trans rfl
  have f2 := blk_frozen h 2
  have H2 : Hid (WrAt (w.setCell ⟨g, 2, none⟩ (.bool true)) g c z true o l n x y) := Lib.hid ((blk_set h 2 _).trans rfl)
  have HK : Hid (Kp (fun k => k = g) w (w.setCell ⟨g, 2, none⟩ (.bool true))) := Lib.hid ((Kp.refl _ _).setg _ _)
  clear h
  go_enter Tryz.func82, Tryz.ntmps82
  go_wp2_with fail
  clear c2 f2
  generalize w.setCell ⟨g, 2, none⟩ (.bool true) = W1 at *
  have c0 : W1.drew.cell? ⟨g, 0, none⟩ = some (.int .i64 c) := (blk_cell H2.out 0).trans rfl
  have c1 : W1.drew.cell? ⟨g, 1, none⟩ = some (.int .i64 z) := (blk_cell H2.out 1).trans rfl
  go_region_held3 (fun w' => w'.cell? ⟨g, 0, none⟩ = some (.int .i64 c) ∧ w'.cell? ⟨g, 1, none⟩ = some (.int .i64 z)) (first | exact ⟨by assumption, by assumption⟩ | go_keep) (first
    | (go_at_call 115; refine (head_any c z hc0 hc1 hz0 hz1 _).mono ?_; rintro en w2 ⟨t, rfl, ht, hb2⟩; have HT := Lib.hid ht; have HB2 := Lib.hid hb2; have d0 : w2.cell? ⟨g, 0, none⟩ = some (.int .i64 c) := (blk_cell (blk_below (blk_drew H2.out) hb2) 0).trans rfl; have d1 : w2.cell? ⟨g, 1, none⟩ = some (.int .i64 z) := (blk_cell (blk_below (blk_drew H2.out) hb2) 1).trans rfl; clear ht hb2)
    | (fail))
  clear c0 c1
  go_wp2_with fail
  go_ret
  exact ⟨_, rfl, HT.out, blk_below (blk_drew H2.out) HB2.out, (HK.out.drew).tr (Kp.of_below HB2.out)⟩
theorem u64_mod (x : Int) : IntKind.u64.wrap x = x % 18446744073709551616 := by simp [IntKind.wrap, IntKind.signed, IntKind.bits]
theorem tadd_any (cn sm : Int) (pay : ByteArray) (hcn0 : 0 ≤ cn) (hcn1 : cn ≤ 65536) (hp : pay.size ≤ 1048576) (h : WrAt w g c z b o l n x y) :
    Calls Tryz.prog 79 #[.pointer (some ⟨g, 5, none⟩), .agg #[.int .i64 cn, .int .u32 sm, .string pay]] w fun en w' => en = .returned (.tuple #[]) ∧ WrAt w' g c z b o l ((n + 1) % 4294967296) ((x + cn) % 18446744073709551616) ((y + pay.size) % 18446744073709551616) ∧ Kp (fun k => k = g) w w' := by
  have hg := blk_lt h
  have hs1 : WrAt (w.setCell ⟨g, 5, none⟩ (.int .u32 ((n + 1) % 4294967296))) g c z b o l ((n + 1) % 4294967296) x y := (blk_set h 5 _).trans rfl
  have hsz : (w.setCell ⟨g, 5, none⟩ (.int .u32 ((n + 1) % 4294967296))).heap.size = w.heap.size := by simp [World.setCell]
  have HA1 := Lib.hid (blk_alloc hs1 (.cells #[.int .i64 cn, .int .u32 sm, .string pay] 58))
  have HN1 := Lib.hid (blk_new (w.setCell ⟨g, 5, none⟩ (.int .u32 ((n + 1) % 4294967296))) (.cells #[.int .i64 cn, .int .u32 sm, .string pay] 58))
  rw [hsz] at HN1
  have HK1 : Hid (Kp (fun k => k = g) w ((w.setCell ⟨g, 5, none⟩ (.int .u32 ((n + 1) % 4294967296))).alloc (.cells #[.int .i64 cn, .int .u32 sm, .string pay] 58))) := Lib.hid (((Kp.refl _ _).setg _ _).alloc _)
  have hwc : IntKind.u64.wrap cn = cn := by rw [u64_mod]; omega
  have hwp : IntKind.u64.wrap (pay.size : Int) = (pay.size : Int) := by rw [u64_mod]; omega
  have c5 : w.cell? ⟨g, 5, none⟩ = some (.int .u32 n) := (blk_cell h 5).trans rfl
  have f5 := blk_frozen h 5
  clear h hs1 hsz
  go_enter Tryz.func79, Tryz.ntmps79
  go_wp2_with fail
  clear c5 f5
  generalize ((w.setCell ⟨g, 5, none⟩ (.int .u32 ((n + 1) % 4294967296))).alloc (.cells #[.int .i64 cn, .int .u32 sm, .string pay] 58)) = W1 at *
  have c6 : W1.cell? ⟨g, 6, none⟩ = some (.int .u64 x) := (blk_cell HA1.out 6).trans rfl
  have c6d : W1.drew.cell? ⟨g, 6, none⟩ = some (.int .u64 x) := (blk_cell HA1.out 6).trans rfl
  have f6 := blk_frozen HA1.out 6
  have f6d : W1.drew.frozen? ⟨g, 6, none⟩ = false := blk_frozen HA1.out 6
  have e0 : W1.cell? ⟨w.heap.size, 0, none⟩ = some (.int .i64 cn) := (blk_cell HN1.out 0).trans rfl
  have e0d : W1.drew.cell? ⟨w.heap.size, 0, none⟩ = some (.int .i64 cn) := (blk_cell HN1.out 0).trans rfl
  go_region
  have HA2 : Hid (WrAt (W1.setCell ⟨g, 6, none⟩ (.int .u64 ((x + cn) % 18446744073709551616))).drew g c z b o l ((n + 1) % 4294967296) ((x + cn) % 18446744073709551616) y) := Lib.hid ((blk_set HA1.out 6 _).trans rfl)
  have hk2 : Kp (fun k => k = g) W1 (W1.setCell ⟨g, 6, none⟩ (.int .u64 ((x + cn) % 18446744073709551616))).drew := ((Kp.refl _ _).setg _ _).drew
  have HN2 := Lib.hid (hk2.blk HN1.out (fun h => by omega))
  have HK2 := Lib.hid (HK1.out.tr hk2)
  clear c6 c6d f6 f6d e0 e0d hk2 HA1 HN1 HK1
  rw [u64_mod]
  generalize (W1.setCell ⟨g, 6, none⟩ (.int .u64 ((x + cn) % 18446744073709551616))).drew = W2 at *
  have c7 : W2.cell? ⟨g, 7, none⟩ = some (.int .u64 y) := (blk_cell HA2.out 7).trans rfl
  have c7d : W2.drew.cell? ⟨g, 7, none⟩ = some (.int .u64 y) := (blk_cell HA2.out 7).trans rfl
  have f7 := blk_frozen HA2.out 7
  have f7d : W2.drew.frozen? ⟨g, 7, none⟩ = false := blk_frozen HA2.out 7
  have e2 : W2.cell? ⟨w.heap.size, 2, none⟩ = some (.string pay) := (blk_cell HN2.out 2).trans rfl
  have e2d : W2.drew.cell? ⟨w.heap.size, 2, none⟩ = some (.string pay) := (blk_cell HN2.out 2).trans rfl
  go_wp2_with fail
  go_region
  go_end0
  rw [u64_mod]
  exact ⟨rfl, (blk_set HA2.out 7 _).trans rfl, HK2.out.tr (((Kp.refl _ _).setg _ _).drew)⟩
end
end Go.Proofs.YtcgoofefiiihnaaGreat
namespace Go.Proofs.YtcgoofefiiihnaaGreat
open Go.RowKit Go.Proofs.YtcgoofefiiihnaaGreatW.PrintWords Go.Proofs.YtcgoofefiiihnaaGreatW.PrintMore
set_option linter.unusedVariables false
set_option linter.unusedSimpArgs false
set_option maxRecDepth 20000
abbrev EncAt (c : Int) (A : Option Addr) (n cp : Nat) (ls enc : List Int) : Prop :=
  ∀ W : World, ReadsInt W .u32 A n ls → (∀ ad, A = some ad → ad.block < W.heap.size) → Calls Tryz.prog 23 #[.int .i64 c, .slice A n cp] W fun en w' => ∃ x, en = .returned (.tuple #[.string x, .agg #[.int .i64 0, .int .i64 0]]) ∧ bytesOf x = enc ∧ Below W.heap.size W w'
theorem bits_range (op : BinOp) (x y : Int) : 0 ≤ Go.bits op .u32 x y ∧ Go.bits op .u32 x y ≤ 4294967295 := by
  have := bounds_u32 (wf_bits op .u32 x y)
  exact this
theorem ofF_range (t : ByteArray) : 0 ≤ ofF t ∧ ofF t < 4294967296 := by
  have h := bits_range .xor IntKind.u32.max ((bytesOf t).foldl roundF (notF 0))
  exact ⟨h.1, Int.lt_of_le_of_lt h.2 (by decide)⟩
abbrev blkV (cn sm : Int) (pay : ByteArray) : Array Value := #[.int .i64 cn, .int .u32 sm, .string pay]
set_option maxHeartbeats 4000000 in
theorem make_any {w : World} (c : Int) (A : Option Addr) (n cp : Nat) (ls enc : List Int) (hn : 1 ≤ n) (hn2 : n ≤ 65536) (hr : ReadsInt w .u32 A n ls) (hA : ∀ ad, A = some ad → ad.block < w.heap.size) (hz : enc.length ≤ 1000000) (hE : EncAt c A n cp ls enc) :
    Calls Tryz.prog 116 #[.int .i64 c, .slice A n cp] w fun en w' => ∃ x, en = .returned (.tuple #[.agg (blkV n (ofF x) x), .agg #[.int .i64 0, .int .i64 0]]) ∧ bytesOf x = enc ∧ Below w.heap.size w w' := by
  have HR := Lib.hid hr
  have HA := Lib.hid hA
  have HE := Lib.hid hE
  have hl1 : decide ((n : Int) < 1) = false := decide_eq_false (by omega)
  have hl2 : decide ((65536 : Int) < (n : Int)) = false := decide_eq_false (by omega)
  clear hr hA hE
  go_enter Tryz.func116, Tryz.ntmps116
  go_wp2_with fail
  have HB1 := Lib.hid (below_alloc (below_alloc (Below.refl w.heap.size w) (.cells (blkV 0 0 ⟨#[]⟩) 58)) (.cells #[.int .i64 0, .int .i64 0] 27))
  have HC1 := Lib.hid (blk_alloc (blk_new w (.cells (blkV 0 0 ⟨#[]⟩) 58)) (.cells #[.int .i64 0, .int .i64 0] 27))
  have HD1 := Lib.hid (blk_new (w.alloc (.cells (blkV 0 0 ⟨#[]⟩) 58)) (.cells #[.int .i64 0, .int .i64 0] 27))
  have hsz : (w.alloc (.cells (blkV 0 0 ⟨#[]⟩) 58)).heap.size = w.heap.size + 1 := by simp
  rw [hsz] at HD1
  have HZ1 : Hid (w.heap.size + 1 < ((w.alloc (.cells (blkV 0 0 ⟨#[]⟩) 58)).alloc (.cells #[.int .i64 0, .int .i64 0] 27)).heap.size) := Lib.hid (by simp)
  clear hsz
  generalize (w.alloc (.cells (blkV 0 0 ⟨#[]⟩) 58)).alloc (.cells #[.int .i64 0, .int .i64 0] 27) = W1 at *
  refine (HE.out W1 (HR.out.below HB1.out) (fun ad h => Nat.lt_of_lt_of_le (HA.out ad h) HB1.out.size)).mono ?_
  rintro en w2 ⟨x, rfl, hx, hb2⟩
  have HX := Lib.hid hx
  have HB2 := Lib.hid (HB1.out.trans (hb2.mono HB1.out.size))
  have HC2 := Lib.hid (blk_below HC1.out hb2)
  have HD2 := Lib.hid (blk_below HD1.out hb2)
  have HZ2 := Lib.hid (Nat.lt_of_lt_of_le HZ1.out hb2.size)
  have hxz : x.size ≤ 1000000 := by
    have h9 := congrArg List.length hx
    rw [bytesOf_length] at h9
    omega
  have hgl : decide ((1048576 : Int) < (x.size : Int)) = false := decide_eq_false (by omega)
  clear hx hb2 HB1 HC1 HD1 HZ1
  go_wp2_with fail
  have hcx : ((w2.alloc (.cells #[.int .i64 0, .int .i64 0] 27)).alloc (.cells #[.string x] 9)).cell? ⟨w2.heap.size + 1, 0, none⟩ = some (.string x) := by
    have h9 := blk_new (w2.alloc (.cells #[.int .i64 0, .int .i64 0] 27)) (.cells #[.string x] 9)
    rw [show (w2.alloc (.cells #[.int .i64 0, .int .i64 0] 27)).heap.size = w2.heap.size + 1 by simp] at h9
    exact (blk_cell h9 0).trans rfl
  have HW := Lib.hid (below_alloc (below_alloc (Below.refl w2.heap.size w2) (.cells #[.int .i64 0, .int .i64 0] 27)) (.cells #[.string x] 9))
  refine (of_any ⟨w2.heap.size + 1, 0, none⟩ 1 x _ hxz hcx).mono ?_
  rintro en w3 ⟨rfl, hb3⟩
  have hb23 : Below w2.heap.size w2 w3 := HW.out.trans (hb3.mono HW.out.size)
  have HB3 := Lib.hid (HB2.out.trans (hb23.mono HB2.out.size))
  have HC3 := Lib.hid (blk_below HC2.out hb23)
  have HD3 := Lib.hid (blk_below HD2.out hb23)
  clear hcx hb3 hb23 HC2 HD2 HW
  have q0 : w3.cell? ⟨w.heap.size, 0, none⟩ = some (.int .i64 0) := (blk_cell HC3.out 0).trans rfl
  have q1 : w3.cell? ⟨w.heap.size, 1, none⟩ = some (.int .u32 0) := (blk_cell HC3.out 1).trans rfl
  have q2 : w3.cell? ⟨w.heap.size, 2, none⟩ = some (.string ⟨#[]⟩) := (blk_cell HC3.out 2).trans rfl
  have p0 : w3.cell? ⟨w.heap.size + 1, 0, none⟩ = some (.int .i64 0) := (blk_cell HD3.out 0).trans rfl
  have p1 : w3.cell? ⟨w.heap.size + 1, 1, none⟩ = some (.int .i64 0) := (blk_cell HD3.out 1).trans rfl
  have r0 := blk_frozen HC3.out 0
  have r1 := blk_frozen HC3.out 1
  have r2 := blk_frozen HC3.out 2
  have r3 := blk_frozen HD3.out 0
  have r4 := blk_frozen HD3.out 1
  go_wp2_with fail
  have k1 : (w3.setCell ⟨w.heap.size, 0, none⟩ (.int .i64 n)).heap[w.heap.size]? = some (.cells (blkV n 0 ⟨#[]⟩) 58 (0, 0)) := (blk_set HC3.out 0 _).trans rfl
  have k2 : ((w3.setCell ⟨w.heap.size, 0, none⟩ (.int .i64 n)).setCell ⟨w.heap.size, 1, none⟩ (.int .u32 (ofF x))).heap[w.heap.size]? = some (.cells (blkV n (ofF x) ⟨#[]⟩) 58 (0, 0)) := (blk_set k1 1 _).trans rfl
  have k3 : (((w3.setCell ⟨w.heap.size, 0, none⟩ (.int .i64 n)).setCell ⟨w.heap.size, 1, none⟩ (.int .u32 (ofF x))).setCell ⟨w.heap.size, 2, none⟩ (.string x)).heap[w.heap.size]? = some (.cells (blkV n (ofF x) x) 58 (0, 0)) := (blk_set k2 2 _).trans rfl
  have hk : Kp (fun k => k = w.heap.size) w3 (((w3.setCell ⟨w.heap.size, 0, none⟩ (.int .i64 n)).setCell ⟨w.heap.size, 1, none⟩ (.int .u32 (ofF x))).setCell ⟨w.heap.size, 2, none⟩ (.string x)) := (((Kp.refl _ _).setg _ _).setg _ _).setg _ _
  have HD4 := hk.blk HD3.out (fun h => by omega)
  have HB4 := HB3.out.trans (hk.below (B := w.heap.size) HB3.out.size (fun k hk => Nat.le_of_eq hk.symm))
  clear q0 q1 q2 p0 p1 r0 r1 r2 r3 r4 k1 k2 hk
  generalize (((w3.setCell ⟨w.heap.size, 0, none⟩ (.int .i64 n)).setCell ⟨w.heap.size, 1, none⟩ (.int .u32 (ofF x))).setCell ⟨w.heap.size, 2, none⟩ (.string x)) = w4 at *
  have j1 : (w4.setCell ⟨w.heap.size + 1, 0, none⟩ (.int .i64 0)).heap[w.heap.size + 1]? = some (.cells #[.int .i64 0, .int .i64 0] 27 (0, 0)) := (blk_set HD4 0 _).trans rfl
  have j2 : ((w4.setCell ⟨w.heap.size + 1, 0, none⟩ (.int .i64 0)).setCell ⟨w.heap.size + 1, 1, none⟩ (.int .i64 0)).heap[w.heap.size + 1]? = some (.cells #[.int .i64 0, .int .i64 0] 27 (0, 0)) := (blk_set j1 1 _).trans rfl
  have hk2 : Kp (fun k => k = w.heap.size + 1) w4 ((w4.setCell ⟨w.heap.size + 1, 0, none⟩ (.int .i64 0)).setCell ⟨w.heap.size + 1, 1, none⟩ (.int .i64 0)) := ((Kp.refl _ _).setg _ _).setg _ _
  have HC5 := hk2.blk k3 (fun h => by omega)
  have HB5 := HB4.trans (hk2.below (B := w.heap.size) HB4.size (fun k hk => by omega))
  (try simp only [Exit.inBlock, Exit.then])
  refine bodyPost_ret (results_cc rfl _ _ w.heap.size (w.heap.size + 1) 58 27 (blkV n (ofF x) x) #[.int .i64 0, .int .i64 0] (0, 0) (0, 0) _ _ rfl HC5 Tryz.underlying58 rfl (by kernel_rfl) rfl j2 Tryz.underlying27 rfl (by kernel_rfl)) rfl ?_
  exact ⟨x, rfl, HX.out, HB5⟩
theorem bytes_any (b : Bk) (ho : b.ok) (hp : 1 ≤ b.pay.size) (w : World) : Calls Tryz.prog 117 #[.agg (blkV b.count b.sum b.pay)] w fun en w' => ∃ t, en = .returned (.tuple #[.string t, .int .i64 0]) ∧ bytesOf t = b.bytes ∧ Below w.heap.size w w' := by
  obtain ⟨cn, sm, pay⟩ := b
  obtain ⟨h1, h2, h3, h4, h5⟩ := ho
  simp only at h1 h2 h3 h4 h5 hp
  have e : PTopOne.block_Bytes.f 1 cn sm pay = some (strOfNums [66] ++ strOfNums (le4 cn) ++ strOfNums (le4 pay.size) ++ strOfNums (le4 sm) ++ pay, 0) := by
    have er : PTopOne.block_right.f 1 cn sm pay = some 0 := by
      unfold PTopOne.block_right.f
      rw [if_neg (by omega)]
      show (if decide (cn > 65536) = true then some 8 else if (pay.size : Int) < 1 then some 5 else if (pay.size : Int) > 1048576 then some 5 else some 0) = some 0
      rw [if_neg (by simp; omega), if_neg (by omega), if_neg (by omega)]
    have hs : (strOfNums [66]).size = 1 := by rw [strOfNums_size]; rfl
    unfold PTopOne.block_Bytes.f
    rw [er, show cn % 4294967296 = cn by omega, show (pay.size : Int) % 4294967296 = pay.size by omega]
    simp only [Option.bind_some, PTopOne.crc_Four.f, if_true]
    have z1 : (strOfNums [66]).size + (strOfNums (le4 cn)).size ≤ 9223372036854775807 := by rw [hs, le4_size]; decide
    have z2 : (strOfNums [66] ++ strOfNums (le4 cn)).size + (strOfNums (le4 pay.size)).size ≤ 9223372036854775807 := by rw [ByteArray.size_append, hs, le4_size, le4_size]; decide
    have z3 : (strOfNums [66] ++ strOfNums (le4 cn) ++ strOfNums (le4 pay.size)).size + (strOfNums (le4 sm)).size ≤ 9223372036854775807 := by rw [ByteArray.size_append, ByteArray.size_append, hs, le4_size, le4_size, le4_size]; decide
    have z4 : (strOfNums [66] ++ strOfNums (le4 cn) ++ strOfNums (le4 pay.size) ++ strOfNums (le4 sm)).size + pay.size ≤ 9223372036854775807 := by rw [ByteArray.size_append, ByteArray.size_append, ByteArray.size_append, hs, le4_size, le4_size, le4_size]; omega
    unfold le4 at z1 z2 z3 z4 ⊢
    rw [if_pos z1, if_pos z2, if_pos z3, if_pos z4]
  refine (PTopOne.block_Bytes.calls 1 cn sm pay _ 0 w e).mono fun en w' ⟨he, hb⟩ => ⟨_, he, ?_, hb⟩
  rw [bytesOf_append, bytesOf_append, bytesOf_append, bytesOf_append, le4_bytes, le4_bytes, le4_bytes, bytesOf_ofNums (by intro x hx; simp only [List.mem_cons, List.not_mem_nil, or_false] at hx; subst hx; decide)]
  simp [Bk.bytes, List.append_assoc]
set_option maxHeartbeats 4000000 in
theorem wblock_any {w : World} {g : Nat} {c z n x y : Int} {b o : Bool} {l : Value} (A : Option Addr) (m cp : Nat) (ls enc : List Int) (hn : 1 ≤ m) (hn2 : m ≤ 65536) (hr : ReadsInt w .u32 A m ls) (hA : ∀ ad, A = some ad → ad.block < w.heap.size) (hz0 : 1 ≤ enc.length) (hz : enc.length ≤ 1000000) (hE : EncAt c A m cp ls enc) (h : WrAt w g c z b o l n x y) :
    Calls Tryz.prog 83 #[.pointer (some ⟨g, 0, none⟩), .slice A m cp] w fun en w' => ∃ (t s : ByteArray), en = .returned (.string t) ∧ bytesOf s = enc ∧ bytesOf t = (Bk.mk m (ofF s) s).bytes ∧ WrAt w' g c z b o l ((n + 1) % 4294967296) ((x + m) % 18446744073709551616) ((y + s.size) % 18446744073709551616) ∧ Kp (fun k => k = g) w w' := by
  have HWr := Lib.hid h
  have HM := Lib.hid (make_any c A m cp ls enc hn hn2 hr hA hz hE)
  have c0 : w.cell? ⟨g, 0, none⟩ = some (.int .i64 c) := (blk_cell h 0).trans rfl
  have hgl := blk_lt h
  clear h hr hA hE
  go_enter Tryz.func83, Tryz.ntmps83
  go_wp2_with fail
  refine HM.out.mono ?_
  rintro en w1 ⟨s, rfl, hs, hb1⟩
  have HS := Lib.hid hs
  have HW1 := Lib.hid (blk_below HWr.out hb1)
  have HK1 : Hid (Kp (fun k => k = g) w w1) := Lib.hid (Kp.of_below hb1)
  have hl1 := Nat.lt_of_lt_of_le hgl hb1.size
  have hsz : s.size = enc.length := by rw [← hs, bytesOf_length]
  have hsum : 0 ≤ ofF s ∧ ofF s < 4294967296 := ofF_range s
  clear hs hb1 c0 HM
  go_wp2_with fail
  have HN2 := Lib.hid (blk_alloc (blk_new w1 (.cells (blkV m (ofF s) s) 58)) (.cells #[.int .i64 0, .int .i64 0] 27))
  have HW2 := Lib.hid (blk_alloc (blk_alloc HW1.out (.cells (blkV m (ofF s) s) 58)) (.cells #[.int .i64 0, .int .i64 0] 27))
  have HK2 : Hid (Kp (fun k => k = g) w ((w1.alloc (.cells (blkV m (ofF s) s) 58)).alloc (.cells #[.int .i64 0, .int .i64 0] 27))) := Lib.hid ((HK1.out.alloc _).alloc _)
  generalize (w1.alloc (.cells (blkV m (ofF s) s) 58)).alloc (.cells #[.int .i64 0, .int .i64 0] 27) = w2 at *
  have hwg : w1.heap.size ≠ g := by omega
  generalize w1.heap.size = B at *
  have HT := Lib.hid (tadd_any (w := w2.drew) m (ofF s) s (by omega) (by omega) (by omega) (blk_drew HW2.out))
  have q0 : w2.drew.cell? ⟨B, 0, none⟩ = some (.int .i64 m) := (blk_cell HN2.out 0).trans rfl
  have q1 : w2.drew.cell? ⟨B, 1, none⟩ = some (.int .u32 (ofF s)) := (blk_cell HN2.out 1).trans rfl
  have q2 : w2.drew.cell? ⟨B, 2, none⟩ = some (.string s) := (blk_cell HN2.out 2).trans rfl
  go_region_held3 (fun w' => w'.cell? ⟨B, 0, none⟩ = some (.int .i64 m) ∧ w'.cell? ⟨B, 1, none⟩ = some (.int .u32 (ofF s)) ∧ w'.cell? ⟨B, 2, none⟩ = some (.string s)) (first | exact ⟨by assumption, by assumption, by assumption⟩ | go_keep) (first
    | (go_at_call 79; refine HT.out.mono ?_; rintro en w3 ⟨rfl, hw3, hk3⟩; have HW3 := Lib.hid hw3; have HK3 : Hid (Kp (fun k => k = g) w2 w3) := Lib.hid (((Kp.refl _ w2).drew).tr hk3); have HN3 := Lib.hid (hk3.blk (blk_drew HN2.out) hwg); have d0 : w3.cell? ⟨B, 0, none⟩ = some (.int .i64 m) := (blk_cell HN3.out 0).trans rfl; have d1 : w3.cell? ⟨B, 1, none⟩ = some (.int .u32 (ofF s)) := (blk_cell HN3.out 1).trans rfl; have d2 : w3.cell? ⟨B, 2, none⟩ = some (.string s) := (blk_cell HN3.out 2).trans rfl; clear hw3 hk3)
    | (fail))
  clear q0 q1 q2
  go_wp2_with fail
  refine (bytes_any ⟨m, ofF s, s⟩ ⟨by simp only; omega, by simp only; omega, hsum.1, hsum.2, by simp only; omega⟩ (by simp only; omega) _).mono ?_
  rintro en w4 ⟨t, rfl, ht, hb4⟩
  have HT4 := Lib.hid ht
  have HB4 := Lib.hid hb4
  clear ht hb4
  go_wp2_with fail
  go_ret
  exact ⟨t, s, rfl, HS.out, HT4.out, blk_below HW3.out HB4.out, ((HK2.out.tr HK3.out).tr (Kp.of_below HB4.out))⟩
end Go.Proofs.YtcgoofefiiihnaaGreat
namespace Go.Proofs.YtcgoofefiiihnaaGreat
open Go.RowKit Go.Proofs.YtcgoofefiiihnaaGreatW.PrintWords Go.Proofs.YtcgoofefiiihnaaGreatW.PrintMore
set_option linter.unusedVariables false
set_option linter.unusedSimpArgs false
set_option maxRecDepth 20000
def numF (t : ByteArray) : Int := if t.size < 4 then 0 else bt t 0 + bt t 1 * 256 + bt t 2 * 65536 + bt t 3 * 16777216
theorem number_any (t : ByteArray) (w : World) : Calls Tryz.prog 110 #[.string t] w fun en w' => en = .returned (.int .u32 (numF t)) ∧ Drawn0 w w' := by
  refine PTopOne.crc_Number.calls t _ w ?_
  unfold PTopOne.crc_Number.f numF
  by_cases h : t.size < 4
  · rw [if_pos (by omega), if_pos h]
  · have b0 := bt_range t 0
    have b1 := bt_range t 1
    have b2 := bt_range t 2
    have b3 := bt_range t 3
    rw [if_neg (by omega), if_pos (by omega), if_pos (by omega), if_pos (by omega), if_pos (by omega), if_neg h]
    generalize bt t 0 = x0 at *
    generalize bt t 1 = x1 at *
    generalize bt t 2 = x2 at *
    generalize bt t 3 = x3 at *
    rw [show x0 % 4294967296 = x0 by omega, show x1 % 4294967296 * 256 % 4294967296 = x1 * 256 by omega, show x2 % 4294967296 * 65536 % 4294967296 = x2 * 65536 by omega, show x3 % 4294967296 * 16777216 % 4294967296 = x3 * 16777216 by omega]
    have o1 : Go.bits .or .u32 x0 (x1 * 256) = x0 + x1 * 256 := u32_or8 _ _ (by omega) (by omega) (by omega) (by omega) (by omega)
    have o2 : Go.bits .or .u32 (x0 + x1 * 256) (x2 * 65536) = x0 + x1 * 256 + x2 * 65536 := u32_or16 _ _ (by omega) (by omega) (by omega) (by omega) (by omega)
    have o3 : Go.bits .or .u32 (x0 + x1 * 256 + x2 * 65536) (x3 * 16777216) = x0 + x1 * 256 + x2 * 65536 + x3 * 16777216 := u32_or24 _ _ (by omega) (by omega) (by omega) (by omega) (by omega)
    rw [o1, o2, o3]
theorem numF_range (t : ByteArray) : 0 ≤ numF t ∧ numF t < 4294967296 := by
  unfold numF
  have b0 := bt_range t 0
  have b1 := bt_range t 1
  have b2 := bt_range t 2
  have b3 := bt_range t 3
  split <;> omega
theorem take4 (t : ByteArray) (h : 4 ≤ t.size) : (bytesOf t).take 4 = [bt t 0, bt t 1, bt t 2, bt t 3] := by
  have hz := bytesOf_length t
  have e : ∀ i : Nat, (bytesOf t).getD i 0 = bt t i := fun i => by
    have := rd_bytesOf t (i : Int)
    rw [rd, Int.toNat_natCast] at this
    exact this
  match hb : bytesOf t, hz with
  | x0 :: x1 :: x2 :: x3 :: r, _ =>
    rw [hb] at e
    have e0 := e 0
    have e1 := e 1
    have e2 := e 2
    have e3 := e 3
    simp at e0 e1 e2 e3
    simp [e0, e1, e2, e3]
  | [], hz => simp at hz; omega
  | [_], hz => simp at hz; omega
  | [_, _], hz => simp at hz; omega
  | [_, _, _], hz => simp at hz; omega
theorem numF_le4 (t : ByteArray) (h : 4 ≤ t.size) : le4 (numF t) = (bytesOf t).take 4 := by
  rw [take4 t h]
  unfold numF
  rw [if_neg (by omega)]
  have b0 := bt_range t 0
  have b1 := bt_range t 1
  have b2 := bt_range t 2
  have b3 := bt_range t 3
  generalize bt t 0 = x0 at *
  generalize bt t 1 = x1 at *
  generalize bt t 2 = x2 at *
  generalize bt t 3 = x3 at *
  unfold le4
  have h0 : (x0 + x1 * 256 + x2 * 65536 + x3 * 16777216) % 256 = x0 := by omega
  have h1 : (x0 + x1 * 256 + x2 * 65536 + x3 * 16777216) / 256 % 256 = x1 := by omega
  have h2 : (x0 + x1 * 256 + x2 * 65536 + x3 * 16777216) / 65536 % 256 = x2 := by omega
  have h3 : (x0 + x1 * 256 + x2 * 65536 + x3 * 16777216) / 16777216 % 256 = x3 := by omega
  rw [h0, h1, h2, h3]
theorem failed_any (e f : Int) (w : World) : Calls Tryz.prog 114 #[.int .i64 e, .int .i64 f] w fun en w' => en = .returned (.tuple #[.agg (blkV 0 0 ⟨#[]⟩), .int .i64 0, .agg #[.int .i64 e, .int .i64 f]]) ∧ Below w.heap.size w w' := PTopOne.block_failed.calls e f 0 0 ⟨#[]⟩ 0 e f w rfl
theorem results_ctc {P : Program} {fn : Func} {p p' u : Tmp} {ty ty' : TypeId} (h : fn.results = #[.cell p ty, .tmp u, .cell p' ty']) (tmps : Array Value) (w : World) (g g' : Nat) (t t' : TypeId) (cs cs' : Array Value) (fr fr' : Nat × Nat) (d d' : TypeDesc)
    (hp : tmps.getD p undef = .pointer (some ⟨g, 0, none⟩)) (hg : w.heap[g]? = some (.cells cs t fr))
    (hu : P.underlying ty = some d) (hd : (match d with | .struct _ | .array _ _ => true | _ => false) = true) (hi : (P.info? ty).map (·.size) = some cs.size)
    (hp' : tmps.getD p' undef = .pointer (some ⟨g', 0, none⟩)) (hg' : w.heap[g']? = some (.cells cs' t' fr'))
    (hu' : P.underlying ty' = some d') (hd' : (match d' with | .struct _ | .array _ _ => true | _ => false) = true) (hi' : (P.info? ty').map (·.size) = some cs'.size) :
    (results fn tmps).run P w = .ok (.tuple #[.agg cs, tmps.getD u undef, .agg cs']) w := by
  have h1 : tmps[p]?.getD undef = .pointer (some ⟨g, 0, none⟩) := by simpa using hp
  have h2 : tmps[p']?.getD undef = .pointer (some ⟨g', 0, none⟩) := by simpa using hp'
  simp [results, h, h1, h2, asAddr, run_loadVar_row w g t ty cs fr d hg hu hd hi, run_loadVar_row w g' t' ty' cs' fr' d' hg' hu' hd' hi']
theorem two_set {w w3 : World} {B T1 T2 : Nat} {x0 x1 x2 y0 y1 p0 p1 p2 q0 q1 : Value} (h1 : w3.heap[B]? = some (.cells #[p0, p1, p2] T1 (0, 0))) (h2 : w3.heap[B + 1]? = some (.cells #[q0, q1] T2 (0, 0))) (hb : Below B w w3) :
    (((((w3.setCell ⟨B, 0, none⟩ x0).setCell ⟨B, 1, none⟩ x1).setCell ⟨B, 2, none⟩ x2).setCell ⟨B + 1, 0, none⟩ y0).setCell ⟨B + 1, 1, none⟩ y1).heap[B]? = some (.cells #[x0, x1, x2] T1 (0, 0)) ∧
    (((((w3.setCell ⟨B, 0, none⟩ x0).setCell ⟨B, 1, none⟩ x1).setCell ⟨B, 2, none⟩ x2).setCell ⟨B + 1, 0, none⟩ y0).setCell ⟨B + 1, 1, none⟩ y1).heap[B + 1]? = some (.cells #[y0, y1] T2 (0, 0)) ∧
    Below B w (((((w3.setCell ⟨B, 0, none⟩ x0).setCell ⟨B, 1, none⟩ x1).setCell ⟨B, 2, none⟩ x2).setCell ⟨B + 1, 0, none⟩ y0).setCell ⟨B + 1, 1, none⟩ y1) := by
  have k1 : (w3.setCell ⟨B, 0, none⟩ x0).heap[B]? = some (.cells #[x0, p1, p2] T1 (0, 0)) := (blk_set h1 0 _).trans rfl
  have k2 : ((w3.setCell ⟨B, 0, none⟩ x0).setCell ⟨B, 1, none⟩ x1).heap[B]? = some (.cells #[x0, x1, p2] T1 (0, 0)) := (blk_set k1 1 _).trans rfl
  have k3 : (((w3.setCell ⟨B, 0, none⟩ x0).setCell ⟨B, 1, none⟩ x1).setCell ⟨B, 2, none⟩ x2).heap[B]? = some (.cells #[x0, x1, x2] T1 (0, 0)) := (blk_set k2 2 _).trans rfl
  have hk : Kp (fun k => k = B) w3 (((w3.setCell ⟨B, 0, none⟩ x0).setCell ⟨B, 1, none⟩ x1).setCell ⟨B, 2, none⟩ x2) := (((Kp.refl _ _).setg _ _).setg _ _).setg _ _
  have h3 := hk.blk h2 (fun h => by omega)
  have hb3 := Kp.below hk (B := B) (Nat.le_of_lt (blk_lt h1)) (fun k hk => Nat.le_of_eq hk.symm)
  generalize ((w3.setCell ⟨B, 0, none⟩ x0).setCell ⟨B, 1, none⟩ x1).setCell ⟨B, 2, none⟩ x2 = w4 at *
  have j1 : (w4.setCell ⟨B + 1, 0, none⟩ y0).heap[B + 1]? = some (.cells #[y0, q1] T2 (0, 0)) := (blk_set h3 0 _).trans rfl
  have j2 : ((w4.setCell ⟨B + 1, 0, none⟩ y0).setCell ⟨B + 1, 1, none⟩ y1).heap[B + 1]? = some (.cells #[y0, y1] T2 (0, 0)) := (blk_set j1 1 _).trans rfl
  have hk2 : Kp (fun k => k = B + 1) w4 ((w4.setCell ⟨B + 1, 0, none⟩ y0).setCell ⟨B + 1, 1, none⟩ y1) := ((Kp.refl _ _).setg _ _).setg _ _
  exact ⟨hk2.blk k3 (fun h => by omega), j2, (hb.trans hb3).trans (hk2.below (B := B) (Nat.le_of_lt (blk_lt k3)) (fun k hk => by omega))⟩
def ReadPost (w : World) (s : ByteArray) (a : Nat) (en : Ending) (w' : World) : Prop :=
  Below w.heap.size w w' ∧ ∃ (b : Bk) (nx e f : Int), en = .returned (.tuple #[.agg (blkV b.count b.sum b.pay), .int .i64 nx, .agg #[.int .i64 e, .int .i64 f]]) ∧
    (e ≠ 0 ∨ (e = 0 ∧ b.ok ∧ 1 ≤ b.pay.size ∧ nx = a + 13 + b.pay.size ∧ nx ≤ s.size ∧ (bytesOf s).drop a = b.bytes ++ (bytesOf s).drop nx.toNat))
theorem bt_of {t : ByteArray} {l r : List Int} (h : bytesOf t = l ++ r) (i : Nat) (hi : i < l.length) : bt t i = l.getD i 0 := by
  have e := rd_bytesOf t (i : Int)
  rw [rd, Int.toNat_natCast, h, List.getD_eq_getElem?_getD, List.getElem?_append_left hi, ← List.getD_eq_getElem?_getD] at e
  exact e.symm
theorem numF_drop (t : ByteArray) (k : Nat) (h : k + 4 ≤ t.size) : le4 (numF (t.extract k t.size)) = ((bytesOf t).drop k).take 4 := by
  obtain ⟨hz, hb⟩ := extract_from t k (by omega)
  rw [numF_le4 _ (by omega), hb]
theorem bytes_cut (t : ByteArray) (n : Nat) (h0 : bt t 0 = 66) (hn : 13 + n ≤ t.size) (hsz : numF (t.extract 5 t.size) = n) :
    bytesOf t = (Bk.mk (numF (t.extract 1 t.size)) (numF (t.extract 9 t.size)) (t.extract 13 (13 + n))).bytes ++ (bytesOf t).drop (13 + n) := by
  have hl := bytesOf_length t
  have e1 := numF_drop t 1 (by omega)
  have e2 := numF_drop t 5 (by omega)
  have e3 := numF_drop t 9 (by omega)
  have ez : (t.extract 13 (13 + n)).size = n := by rw [ByteArray.size_extract]; omega
  have ep : bytesOf (t.extract 13 (13 + n)) = ((bytesOf t).drop 13).take n := by
    rw [bytesOf, bytesOf, ByteArray.data_extract, Array.toList_extract, List.extract_eq_take_drop, ← List.map_drop, ← List.map_take, show 13 + n - 13 = n by omega]
  unfold Bk.bytes
  simp only
  rw [ez, e1, ← hsz, e2, e3, ep]
  have hd : (bytesOf t).take 1 = [66] := by
    match hb : bytesOf t, hl with
    | x :: r, _ =>
      have := bt_of (l := [x]) (r := r) (by simpa using hb) 0 (by simp)
      have h9 : (66 : Int) = x := h0.symm.trans this
      simp [← h9]
    | [], hl => simp at hl; omega
  have key : bytesOf t = (bytesOf t).take 1 ++ (((bytesOf t).drop 1).take 4 ++ (((bytesOf t).drop 5).take 4 ++ (((bytesOf t).drop 9).take 4 ++ (((bytesOf t).drop 13).take n ++ (bytesOf t).drop (13 + n))))) := by
    have s1 := (List.take_append_drop 1 (bytesOf t)).symm
    have s2 := (List.take_append_drop 4 ((bytesOf t).drop 1)).symm
    have s3 := (List.take_append_drop 4 ((bytesOf t).drop 5)).symm
    have s4 := (List.take_append_drop 4 ((bytesOf t).drop 9)).symm
    have s5 := (List.take_append_drop n ((bytesOf t).drop 13)).symm
    rw [List.drop_drop] at s2 s3 s4 s5
    rw [← s5]
    rw [show (13 : Nat) = 9 + 4 from rfl, ← s4, show (9 : Nat) = 5 + 4 from rfl, ← s3, show (5 : Nat) = 1 + 4 from rfl, ← s2]
    exact s1
  rw [hd] at key
  simpa [List.append_assoc] using key
set_option maxHeartbeats 8000000 in
theorem read_any (s : ByteArray) (a : Nat) (hs : s.size ≤ 100000) (ha : a ≤ s.size) (w : World) : Calls Tryz.prog 77 #[.string s, .int .i64 (a : Int)] w (ReadPost w s a) := by
  obtain ⟨hz, hb⟩ := extract_from s a ha
  have hl1 : decide ((a : Int) < 0) = false := decide_eq_false (by omega)
  have hl2 : decide ((s.size : Int) < (a : Int)) = false := decide_eq_false (by omega)
  go_enter Tryz.func77, Tryz.ntmps77
  go_upto_region 4 with fail
  have HC := Lib.hid (blk_alloc (blk_new w (.cells #[.int .i64 0, .int .u32 0, .string ⟨#[]⟩] 58)) (.cells #[.int .i64 0, .int .i64 0] 27))
  have HD := Lib.hid (blk_new (w.alloc (.cells #[.int .i64 0, .int .u32 0, .string ⟨#[]⟩] 58)) (.cells #[.int .i64 0, .int .i64 0] 27))
  rw [show (w.alloc (.cells #[.int .i64 0, .int .u32 0, .string ⟨#[]⟩] 58)).heap.size = w.heap.size + 1 by simp] at HD
  have HB := Lib.hid (below_alloc (below_alloc (Below.refl w.heap.size w) (.cells #[.int .i64 0, .int .u32 0, .string ⟨#[]⟩] 58)) (.cells #[.int .i64 0, .int .i64 0] 27))
  generalize hBB : w.heap.size = B at *
  have HBB := Lib.hid hBB
  clear hBB
  generalize ((w.alloc (.cells #[.int .i64 0, .int .u32 0, .string ⟨#[]⟩] 58)).alloc (.cells #[.int .i64 0, .int .i64 0] 27)) = w2 at *
  generalize hrs : s.extract a s.size = rs at *
  have HRS := Lib.hid hrs
  have HBY := Lib.hid hb
  have hrz : rs.size ≤ 100000 := by omega
  have HZ := Lib.hid hz
  clear hrs hb hz hl1 hl2
  by_cases hz0 : rs.size = 0
  · have hE : rs.toList.isEmpty = true := by rw [isEmpty_size, decide_eq_true hz0]
    have hs13 : decide ((rs.size : Int) < 13) = true := decide_eq_true (by omega)
    go_wp2_with fail
    refine (failed_any (4) (s.size) _).mono ?_
    rintro en w3 ⟨rfl, hb3⟩
    replace HC := Lib.hid (blk_below HC.out hb3)
    replace HD := Lib.hid (blk_below HD.out hb3)
    replace HB := Lib.hid (HB.out.trans (hb3.mono (by have h8 := HB.out.size; have h9 := HBB.out; omega)))
    clear hb3
    have q0 : w3.cell? ⟨B, 0, none⟩ = some (.int .i64 0) := (blk_cell HC.out 0).trans rfl
    have q1 : w3.cell? ⟨B, 1, none⟩ = some (.int .u32 0) := (blk_cell HC.out 1).trans rfl
    have q2 : w3.cell? ⟨B, 2, none⟩ = some (.string ⟨#[]⟩) := (blk_cell HC.out 2).trans rfl
    have p0 : w3.cell? ⟨B + 1, 0, none⟩ = some (.int .i64 0) := (blk_cell HD.out 0).trans rfl
    have p1 : w3.cell? ⟨B + 1, 1, none⟩ = some (.int .i64 0) := (blk_cell HD.out 1).trans rfl
    have r0 := blk_frozen HC.out 0
    have r1 := blk_frozen HC.out 1
    have r2 := blk_frozen HC.out 2
    have r3 := blk_frozen HD.out 0
    have r4 := blk_frozen HD.out 1
    go_wp2_with fail
    obtain ⟨z1, z2, z3⟩ := two_set (x0 := .int .i64 (0)) (x1 := .int .u32 (0)) (x2 := .string ⟨#[]⟩) (y0 := .int .i64 (4)) (y1 := .int .i64 (s.size)) HC.out HD.out HB.out
    (try simp only [Exit.inBlock, Exit.then])
    refine bodyPost_ret (results_ctc rfl _ _ B (B + 1) 58 27 (blkV (0) (0) ⟨#[]⟩) #[.int .i64 (4), .int .i64 (s.size)] (0, 0) (0, 0) _ _ rfl z1 Tryz.underlying58 rfl (by kernel_rfl) rfl z2 Tryz.underlying27 rfl (by kernel_rfl)) rfl ?_
    unfold ReadPost
    rw [HBB.out]
    exact ⟨z3, ⟨0, 0, ⟨#[]⟩⟩, 0, _, _, rfl, .inl (by decide)⟩
  · have hE : rs.toList.isEmpty = false := by rw [isEmpty_size, decide_eq_false hz0]
    have hlt : 0 < rs.size := by omega
    have hlt2 : (0 : Int) < (rs.size : Int) := by omega
    have he : ((rs[0]'hlt).toNat : Int) = bt rs 0 := bt_at rs 0 hlt
    by_cases h66 : bt rs 0 = 66
    · have h66b : (((rs[0]'hlt).toNat : Int) != 66) = false := by rw [he, h66]; rfl
      have H66 := Lib.hid h66
      clear he h66
      by_cases h13 : rs.size < 13
      · have hs13 : decide ((rs.size : Int) < 13) = true := decide_eq_true (by omega)
        go_wp2_with fail
        refine (failed_any (4) (s.size) _).mono ?_
        rintro en w3 ⟨rfl, hb3⟩
        replace HC := Lib.hid (blk_below HC.out hb3)
        replace HD := Lib.hid (blk_below HD.out hb3)
        replace HB := Lib.hid (HB.out.trans (hb3.mono (by have h8 := HB.out.size; have h9 := HBB.out; omega)))
        clear hb3
        have q0 : w3.cell? ⟨B, 0, none⟩ = some (.int .i64 0) := (blk_cell HC.out 0).trans rfl
        have q1 : w3.cell? ⟨B, 1, none⟩ = some (.int .u32 0) := (blk_cell HC.out 1).trans rfl
        have q2 : w3.cell? ⟨B, 2, none⟩ = some (.string ⟨#[]⟩) := (blk_cell HC.out 2).trans rfl
        have p0 : w3.cell? ⟨B + 1, 0, none⟩ = some (.int .i64 0) := (blk_cell HD.out 0).trans rfl
        have p1 : w3.cell? ⟨B + 1, 1, none⟩ = some (.int .i64 0) := (blk_cell HD.out 1).trans rfl
        have r0 := blk_frozen HC.out 0
        have r1 := blk_frozen HC.out 1
        have r2 := blk_frozen HC.out 2
        have r3 := blk_frozen HD.out 0
        have r4 := blk_frozen HD.out 1
        go_wp2_with fail
        obtain ⟨z1, z2, z3⟩ := two_set (x0 := .int .i64 (0)) (x1 := .int .u32 (0)) (x2 := .string ⟨#[]⟩) (y0 := .int .i64 (4)) (y1 := .int .i64 (s.size)) HC.out HD.out HB.out
        (try simp only [Exit.inBlock, Exit.then])
        refine bodyPost_ret (results_ctc rfl _ _ B (B + 1) 58 27 (blkV (0) (0) ⟨#[]⟩) #[.int .i64 (4), .int .i64 (s.size)] (0, 0) (0, 0) _ _ rfl z1 Tryz.underlying58 rfl (by kernel_rfl) rfl z2 Tryz.underlying27 rfl (by kernel_rfl)) rfl ?_
        unfold ReadPost
        rw [HBB.out]
        exact ⟨z3, ⟨0, 0, ⟨#[]⟩⟩, 0, _, _, rfl, .inl (by decide)⟩
      · have hs13 : decide ((rs.size : Int) < 13) = false := decide_eq_false (by omega)
        go_wp2_with fail
        have HN1 := Lib.hid (numF_range (rs.extract 1 rs.size))
        have HN5 := Lib.hid (numF_range (rs.extract 5 rs.size))
        clear h66b hE hs13 hz0 hlt2
        have l1 : (1 : Int) ≤ (rs.size : Int) := by omega
        have l5 : (5 : Int) ≤ (rs.size : Int) := by omega
        go_region_held3 (fun w' => True) (trivial) (first
          | (go_at_call 110; refine (number_any _ _).mono ?_; rintro en w5 ⟨rfl, ⟨n5, rfl⟩⟩)
          | (fail))
        rename_i m5 _
        have hdr : Kp (fun _ => False) w2 (w2.drewN (1 + m5 + n5)) := (Kp.refl _ _).drewN _
        replace HC := Lib.hid (hdr.blk HC.out (fun h => h))
        replace HD := Lib.hid (hdr.blk HD.out (fun h => h))
        replace HB : Hid (Below B w (w2.drewN (1 + m5 + n5))) := Lib.hid (pw_below_drewN HB.out _)
        clear hdr
        generalize w2.drewN (1 + m5 + n5) = w6 at *
        generalize hcn : numF (rs.extract 1 rs.size) = cn at *
        generalize hszz : numF (rs.extract 5 rs.size) = sz at *
        have HCN := Lib.hid hcn
        have HSZ := Lib.hid hszz
        obtain ⟨cn0, cn1⟩ := HN1.out
        obtain ⟨sz0, sz1⟩ := HN5.out
        clear hcn hszz HN1 HN5 l1 l5
        by_cases hc1 : cn < 1 ∨ 65536 < cn
        · by_cases hc2 : cn < 1
          · have cl : decide (cn < (1 : Int)) = true := decide_eq_true hc2
            clear hc1
            go_wp2_with fail
            refine (failed_any (8) (a + 1) _).mono ?_
            rintro en w3 ⟨rfl, hb3⟩
            replace HC := Lib.hid (blk_below HC.out hb3)
            replace HD := Lib.hid (blk_below HD.out hb3)
            replace HB := Lib.hid (HB.out.trans (hb3.mono (by have h8 := HB.out.size; have h9 := HBB.out; omega)))
            clear hb3
            have q0 : w3.cell? ⟨B, 0, none⟩ = some (.int .i64 0) := (blk_cell HC.out 0).trans rfl
            have q1 : w3.cell? ⟨B, 1, none⟩ = some (.int .u32 0) := (blk_cell HC.out 1).trans rfl
            have q2 : w3.cell? ⟨B, 2, none⟩ = some (.string ⟨#[]⟩) := (blk_cell HC.out 2).trans rfl
            have p0 : w3.cell? ⟨B + 1, 0, none⟩ = some (.int .i64 0) := (blk_cell HD.out 0).trans rfl
            have p1 : w3.cell? ⟨B + 1, 1, none⟩ = some (.int .i64 0) := (blk_cell HD.out 1).trans rfl
            have r0 := blk_frozen HC.out 0
            have r1 := blk_frozen HC.out 1
            have r2 := blk_frozen HC.out 2
            have r3 := blk_frozen HD.out 0
            have r4 := blk_frozen HD.out 1
            go_wp2_with fail
            obtain ⟨z1, z2, z3⟩ := two_set (x0 := .int .i64 (0)) (x1 := .int .u32 (0)) (x2 := .string ⟨#[]⟩) (y0 := .int .i64 (8)) (y1 := .int .i64 (a + 1)) HC.out HD.out HB.out
            (try simp only [Exit.inBlock, Exit.then])
            refine bodyPost_ret (results_ctc rfl _ _ B (B + 1) 58 27 (blkV (0) (0) ⟨#[]⟩) #[.int .i64 (8), .int .i64 (a + 1)] (0, 0) (0, 0) _ _ rfl z1 Tryz.underlying58 rfl (by kernel_rfl) rfl z2 Tryz.underlying27 rfl (by kernel_rfl)) rfl ?_
            unfold ReadPost
            rw [HBB.out]
            exact ⟨z3, ⟨0, 0, ⟨#[]⟩⟩, 0, _, _, rfl, .inl (by decide)⟩
          · have cl : decide (cn < (1 : Int)) = false := decide_eq_false hc2
            have cg : decide ((65536 : Int) < cn) = true := decide_eq_true (by omega)
            clear hc1
            go_wp2_with fail
            refine (failed_any (8) (a + 1) _).mono ?_
            rintro en w3 ⟨rfl, hb3⟩
            replace HC := Lib.hid (blk_below HC.out hb3)
            replace HD := Lib.hid (blk_below HD.out hb3)
            replace HB := Lib.hid (HB.out.trans (hb3.mono (by have h8 := HB.out.size; have h9 := HBB.out; omega)))
            clear hb3
            have q0 : w3.cell? ⟨B, 0, none⟩ = some (.int .i64 0) := (blk_cell HC.out 0).trans rfl
            have q1 : w3.cell? ⟨B, 1, none⟩ = some (.int .u32 0) := (blk_cell HC.out 1).trans rfl
            have q2 : w3.cell? ⟨B, 2, none⟩ = some (.string ⟨#[]⟩) := (blk_cell HC.out 2).trans rfl
            have p0 : w3.cell? ⟨B + 1, 0, none⟩ = some (.int .i64 0) := (blk_cell HD.out 0).trans rfl
            have p1 : w3.cell? ⟨B + 1, 1, none⟩ = some (.int .i64 0) := (blk_cell HD.out 1).trans rfl
            have r0 := blk_frozen HC.out 0
            have r1 := blk_frozen HC.out 1
            have r2 := blk_frozen HC.out 2
            have r3 := blk_frozen HD.out 0
            have r4 := blk_frozen HD.out 1
            go_wp2_with fail
            obtain ⟨z1, z2, z3⟩ := two_set (x0 := .int .i64 (0)) (x1 := .int .u32 (0)) (x2 := .string ⟨#[]⟩) (y0 := .int .i64 (8)) (y1 := .int .i64 (a + 1)) HC.out HD.out HB.out
            (try simp only [Exit.inBlock, Exit.then])
            refine bodyPost_ret (results_ctc rfl _ _ B (B + 1) 58 27 (blkV (0) (0) ⟨#[]⟩) #[.int .i64 (8), .int .i64 (a + 1)] (0, 0) (0, 0) _ _ rfl z1 Tryz.underlying58 rfl (by kernel_rfl) rfl z2 Tryz.underlying27 rfl (by kernel_rfl)) rfl ?_
            unfold ReadPost
            rw [HBB.out]
            exact ⟨z3, ⟨0, 0, ⟨#[]⟩⟩, 0, _, _, rfl, .inl (by decide)⟩
        · have cl : decide (cn < (1 : Int)) = false := decide_eq_false (by omega)
          have cg : decide ((65536 : Int) < cn) = false := decide_eq_false (by omega)
          have hcn1 : 1 ≤ cn := by omega
          have hcn2 : cn ≤ 65536 := by omega
          clear hc1
          by_cases hd1 : sz < 1 ∨ 1048576 < sz
          · by_cases hd2 : sz < 1
            · have dl : decide (sz < (1 : Int)) = true := decide_eq_true hd2
              clear hd1
              go_wp2_with fail
              refine (failed_any (5) (a + 5) _).mono ?_
              rintro en w3 ⟨rfl, hb3⟩
              replace HC := Lib.hid (blk_below HC.out hb3)
              replace HD := Lib.hid (blk_below HD.out hb3)
              replace HB := Lib.hid (HB.out.trans (hb3.mono (by have h8 := HB.out.size; have h9 := HBB.out; omega)))
              clear hb3
              have q0 : w3.cell? ⟨B, 0, none⟩ = some (.int .i64 0) := (blk_cell HC.out 0).trans rfl
              have q1 : w3.cell? ⟨B, 1, none⟩ = some (.int .u32 0) := (blk_cell HC.out 1).trans rfl
              have q2 : w3.cell? ⟨B, 2, none⟩ = some (.string ⟨#[]⟩) := (blk_cell HC.out 2).trans rfl
              have p0 : w3.cell? ⟨B + 1, 0, none⟩ = some (.int .i64 0) := (blk_cell HD.out 0).trans rfl
              have p1 : w3.cell? ⟨B + 1, 1, none⟩ = some (.int .i64 0) := (blk_cell HD.out 1).trans rfl
              have r0 := blk_frozen HC.out 0
              have r1 := blk_frozen HC.out 1
              have r2 := blk_frozen HC.out 2
              have r3 := blk_frozen HD.out 0
              have r4 := blk_frozen HD.out 1
              go_wp2_with fail
              obtain ⟨z1, z2, z3⟩ := two_set (x0 := .int .i64 (0)) (x1 := .int .u32 (0)) (x2 := .string ⟨#[]⟩) (y0 := .int .i64 (5)) (y1 := .int .i64 (a + 5)) HC.out HD.out HB.out
              (try simp only [Exit.inBlock, Exit.then])
              refine bodyPost_ret (results_ctc rfl _ _ B (B + 1) 58 27 (blkV (0) (0) ⟨#[]⟩) #[.int .i64 (5), .int .i64 (a + 5)] (0, 0) (0, 0) _ _ rfl z1 Tryz.underlying58 rfl (by kernel_rfl) rfl z2 Tryz.underlying27 rfl (by kernel_rfl)) rfl ?_
              unfold ReadPost
              rw [HBB.out]
              exact ⟨z3, ⟨0, 0, ⟨#[]⟩⟩, 0, _, _, rfl, .inl (by decide)⟩
            · have dl : decide (sz < (1 : Int)) = false := decide_eq_false hd2
              have dg : decide ((1048576 : Int) < sz) = true := decide_eq_true (by omega)
              clear hd1
              go_wp2_with fail
              refine (failed_any (5) (a + 5) _).mono ?_
              rintro en w3 ⟨rfl, hb3⟩
              replace HC := Lib.hid (blk_below HC.out hb3)
              replace HD := Lib.hid (blk_below HD.out hb3)
              replace HB := Lib.hid (HB.out.trans (hb3.mono (by have h8 := HB.out.size; have h9 := HBB.out; omega)))
              clear hb3
              have q0 : w3.cell? ⟨B, 0, none⟩ = some (.int .i64 0) := (blk_cell HC.out 0).trans rfl
              have q1 : w3.cell? ⟨B, 1, none⟩ = some (.int .u32 0) := (blk_cell HC.out 1).trans rfl
              have q2 : w3.cell? ⟨B, 2, none⟩ = some (.string ⟨#[]⟩) := (blk_cell HC.out 2).trans rfl
              have p0 : w3.cell? ⟨B + 1, 0, none⟩ = some (.int .i64 0) := (blk_cell HD.out 0).trans rfl
              have p1 : w3.cell? ⟨B + 1, 1, none⟩ = some (.int .i64 0) := (blk_cell HD.out 1).trans rfl
              have r0 := blk_frozen HC.out 0
              have r1 := blk_frozen HC.out 1
              have r2 := blk_frozen HC.out 2
              have r3 := blk_frozen HD.out 0
              have r4 := blk_frozen HD.out 1
              go_wp2_with fail
              obtain ⟨z1, z2, z3⟩ := two_set (x0 := .int .i64 (0)) (x1 := .int .u32 (0)) (x2 := .string ⟨#[]⟩) (y0 := .int .i64 (5)) (y1 := .int .i64 (a + 5)) HC.out HD.out HB.out
              (try simp only [Exit.inBlock, Exit.then])
              refine bodyPost_ret (results_ctc rfl _ _ B (B + 1) 58 27 (blkV (0) (0) ⟨#[]⟩) #[.int .i64 (5), .int .i64 (a + 5)] (0, 0) (0, 0) _ _ rfl z1 Tryz.underlying58 rfl (by kernel_rfl) rfl z2 Tryz.underlying27 rfl (by kernel_rfl)) rfl ?_
              unfold ReadPost
              rw [HBB.out]
              exact ⟨z3, ⟨0, 0, ⟨#[]⟩⟩, 0, _, _, rfl, .inl (by decide)⟩
          · have dl : decide (sz < (1 : Int)) = false := decide_eq_false (by omega)
            have dg : decide ((1048576 : Int) < sz) = false := decide_eq_false (by omega)
            have hsz1 : 1 ≤ sz := by omega
            have hsz2 : sz ≤ 1048576 := by omega
            clear hd1
            by_cases he1 : (rs.size : Int) - 13 < sz
            · have el : decide ((rs.size : Int) - 13 < sz) = true := decide_eq_true he1
              go_wp2_with fail
              refine (failed_any (4) (s.size) _).mono ?_
              rintro en w3 ⟨rfl, hb3⟩
              replace HC := Lib.hid (blk_below HC.out hb3)
              replace HD := Lib.hid (blk_below HD.out hb3)
              replace HB := Lib.hid (HB.out.trans (hb3.mono (by have h8 := HB.out.size; have h9 := HBB.out; omega)))
              clear hb3
              have q0 : w3.cell? ⟨B, 0, none⟩ = some (.int .i64 0) := (blk_cell HC.out 0).trans rfl
              have q1 : w3.cell? ⟨B, 1, none⟩ = some (.int .u32 0) := (blk_cell HC.out 1).trans rfl
              have q2 : w3.cell? ⟨B, 2, none⟩ = some (.string ⟨#[]⟩) := (blk_cell HC.out 2).trans rfl
              have p0 : w3.cell? ⟨B + 1, 0, none⟩ = some (.int .i64 0) := (blk_cell HD.out 0).trans rfl
              have p1 : w3.cell? ⟨B + 1, 1, none⟩ = some (.int .i64 0) := (blk_cell HD.out 1).trans rfl
              have r0 := blk_frozen HC.out 0
              have r1 := blk_frozen HC.out 1
              have r2 := blk_frozen HC.out 2
              have r3 := blk_frozen HD.out 0
              have r4 := blk_frozen HD.out 1
              go_wp2_with fail
              obtain ⟨z1, z2, z3⟩ := two_set (x0 := .int .i64 (0)) (x1 := .int .u32 (0)) (x2 := .string ⟨#[]⟩) (y0 := .int .i64 (4)) (y1 := .int .i64 (s.size)) HC.out HD.out HB.out
              (try simp only [Exit.inBlock, Exit.then])
              refine bodyPost_ret (results_ctc rfl _ _ B (B + 1) 58 27 (blkV (0) (0) ⟨#[]⟩) #[.int .i64 (4), .int .i64 (s.size)] (0, 0) (0, 0) _ _ rfl z1 Tryz.underlying58 rfl (by kernel_rfl) rfl z2 Tryz.underlying27 rfl (by kernel_rfl)) rfl ?_
              unfold ReadPost
              rw [HBB.out]
              exact ⟨z3, ⟨0, 0, ⟨#[]⟩⟩, 0, _, _, rfl, .inl (by decide)⟩
            · have el : decide ((rs.size : Int) - 13 < sz) = false := decide_eq_false he1
              obtain ⟨n, rfl⟩ : ∃ n : Nat, sz = n := ⟨sz.toNat, by omega⟩
              have hl9 : (9 : Int) ≤ (rs.size : Int) := by omega
              have hl13 : (13 : Int) ≤ (13 : Int) + (n : Int) := by omega
              have hl14 : (13 : Int) + (n : Int) ≤ (rs.size : Int) := by omega
              have hw1 : IntKind.i64.wrap ((a : Int) + (13 + (n : Int))) = (a : Int) + (13 + (n : Int)) := wrap_small (by omega) (by omega)
              have hw2 : IntKind.i64.wrap cn = cn := wrap_small (by omega) (by omega)
              go_wp2_with fail
              have q0 : w6.cell? ⟨B, 0, none⟩ = some (.int .i64 0) := (blk_cell HC.out 0).trans rfl
              have q1 : w6.cell? ⟨B, 1, none⟩ = some (.int .u32 0) := (blk_cell HC.out 1).trans rfl
              have q2 : w6.cell? ⟨B, 2, none⟩ = some (.string ⟨#[]⟩) := (blk_cell HC.out 2).trans rfl
              have p0 : w6.cell? ⟨B + 1, 0, none⟩ = some (.int .i64 0) := (blk_cell HD.out 0).trans rfl
              have p1 : w6.cell? ⟨B + 1, 1, none⟩ = some (.int .i64 0) := (blk_cell HD.out 1).trans rfl
              have r0 := blk_frozen HC.out 0
              have r1 := blk_frozen HC.out 1
              have r2 := blk_frozen HC.out 2
              have r3 := blk_frozen HD.out 0
              have r4 := blk_frozen HD.out 1
              go_region_held3 (fun w' => True) (trivial) (first
                | (go_at_call 110; refine (number_any _ _).mono ?_; rintro en w7 ⟨rfl, ⟨n7, rfl⟩⟩)
                | (fail))
              have hdr : Kp (fun _ => False) w6 (w6.drewN (1 + n7)) := (Kp.refl _ _).drewN _
              have hc7 := hdr.blk HC.out (fun h => h)
              have hd7 := hdr.blk HD.out (fun h => h)
              have hb7 : Below B w (w6.drewN (1 + n7)) := pw_below_drewN HB.out _
              clear q0 q1 q2 p0 p1 r0 r1 r2 r3 r4 hdr HC HD HB
              generalize w6.drewN (1 + n7) = w7 at *
              have HC := Lib.hid hc7
              have HD := Lib.hid hd7
              have HB := Lib.hid hb7
              have hnat : ((13 : Int) + (n : Int)).toNat = 13 + n := by omega
              rw [hnat]
              clear hc7 hd7 hb7 hnat
              go_wp2_with fail
              obtain ⟨z1, z2, z3⟩ := two_set (x0 := .int .i64 (cn)) (x1 := .int .u32 (numF (rs.extract 9 rs.size))) (x2 := .string (rs.extract 13 (13 + n))) (y0 := .int .i64 (0)) (y1 := .int .i64 (0)) HC.out HD.out HB.out
              (try simp only [Exit.inBlock, Exit.then])
              refine bodyPost_ret (results_ctc rfl _ _ B (B + 1) 58 27 (blkV (cn) (numF (rs.extract 9 rs.size)) (rs.extract 13 (13 + n))) #[.int .i64 (0), .int .i64 (0)] (0, 0) (0, 0) _ _ rfl z1 Tryz.underlying58 rfl (by kernel_rfl) rfl z2 Tryz.underlying27 rfl (by kernel_rfl)) rfl ?_
              unfold ReadPost
              rw [HBB.out]
              have hbk := bytes_cut rs n H66.out (by omega) HSZ.out
              rw [HCN.out] at hbk
              have hr9 := numF_range (rs.extract 9 rs.size)
              have hpz : (rs.extract 13 (13 + n)).size = n := by rw [ByteArray.size_extract]; omega
              have hrz2 := HZ.out
              refine ⟨z3, ⟨cn, numF (rs.extract 9 rs.size), rs.extract 13 (13 + n)⟩, (a : Int) + (13 + n), 0, 0, rfl, .inr ⟨rfl, ⟨hcn1, hcn2, hr9.1, hr9.2, ?_⟩, ?_, ?_, ?_, ?_⟩⟩
              · simp only; omega
              · simp only; omega
              · simp only; omega
              · omega
              · rw [← HBY.out, hbk]
                congr 1
                rw [HBY.out, List.drop_drop, show ((a : Int) + (13 + (n : Int))).toNat = a + (13 + n) by omega]
    · have h66b : (((rs[0]'hlt).toNat : Int) != 66) = true := by rw [he]; simpa using h66
      clear he h66
      go_wp2_with fail
      refine (failed_any (7) (a) _).mono ?_
      rintro en w3 ⟨rfl, hb3⟩
      replace HC := Lib.hid (blk_below HC.out hb3)
      replace HD := Lib.hid (blk_below HD.out hb3)
      replace HB := Lib.hid (HB.out.trans (hb3.mono (by have h8 := HB.out.size; have h9 := HBB.out; omega)))
      clear hb3
      have q0 : w3.cell? ⟨B, 0, none⟩ = some (.int .i64 0) := (blk_cell HC.out 0).trans rfl
      have q1 : w3.cell? ⟨B, 1, none⟩ = some (.int .u32 0) := (blk_cell HC.out 1).trans rfl
      have q2 : w3.cell? ⟨B, 2, none⟩ = some (.string ⟨#[]⟩) := (blk_cell HC.out 2).trans rfl
      have p0 : w3.cell? ⟨B + 1, 0, none⟩ = some (.int .i64 0) := (blk_cell HD.out 0).trans rfl
      have p1 : w3.cell? ⟨B + 1, 1, none⟩ = some (.int .i64 0) := (blk_cell HD.out 1).trans rfl
      have r0 := blk_frozen HC.out 0
      have r1 := blk_frozen HC.out 1
      have r2 := blk_frozen HC.out 2
      have r3 := blk_frozen HD.out 0
      have r4 := blk_frozen HD.out 1
      go_wp2_with fail
      obtain ⟨z1, z2, z3⟩ := two_set (x0 := .int .i64 (0)) (x1 := .int .u32 (0)) (x2 := .string ⟨#[]⟩) (y0 := .int .i64 (7)) (y1 := .int .i64 (a)) HC.out HD.out HB.out
      (try simp only [Exit.inBlock, Exit.then])
      refine bodyPost_ret (results_ctc rfl _ _ B (B + 1) 58 27 (blkV (0) (0) ⟨#[]⟩) #[.int .i64 (7), .int .i64 (a)] (0, 0) (0, 0) _ _ rfl z1 Tryz.underlying58 rfl (by kernel_rfl) rfl z2 Tryz.underlying27 rfl (by kernel_rfl)) rfl ?_
      unfold ReadPost
      rw [HBB.out]
      exact ⟨z3, ⟨0, 0, ⟨#[]⟩⟩, 0, _, _, rfl, .inl (by decide)⟩
end Go.Proofs.YtcgoofefiiihnaaGreat
namespace Go.Proofs.YtcgoofefiiihnaaGreat
open Go.RowKit Go.Proofs.YtcgoofefiiihnaaGreatW.PrintWords Go.Proofs.YtcgoofefiiihnaaGreatW.PrintMore
set_option linter.unusedVariables false
set_option linter.unusedSimpArgs false
set_option maxRecDepth 20000
abbrev TtAt (w : World) (g : Nat) (n x y : Int) : Prop := w.heap[g]? = some (.cells #[.int .u32 n, .int .u64 x, .int .u64 y] 154 (0, 0))
section
variable {w : World} {g : Nat} {n x y : Int}
theorem tadd2_any (cn sm : Int) (pay : ByteArray) (hcn0 : 0 ≤ cn) (hcn1 : cn ≤ 65536) (hp : pay.size ≤ 1048576) (h : TtAt w g n x y) :
    Calls Tryz.prog 79 #[.pointer (some ⟨g, 0, none⟩), .agg #[.int .i64 cn, .int .u32 sm, .string pay]] w fun en w' => en = .returned (.tuple #[]) ∧ TtAt w' g ((n + 1) % 4294967296) ((x + cn) % 18446744073709551616) ((y + pay.size) % 18446744073709551616) ∧ Kp (fun k => k = g) w w' := by
  have hg := blk_lt h
  have hs1 : TtAt (w.setCell ⟨g, 0, none⟩ (.int .u32 ((n + 1) % 4294967296))) g ((n + 1) % 4294967296) x y := (blk_set h 0 _).trans rfl
  have hsz : (w.setCell ⟨g, 0, none⟩ (.int .u32 ((n + 1) % 4294967296))).heap.size = w.heap.size := by simp [World.setCell]
  have HA1 := Lib.hid (blk_alloc hs1 (.cells #[.int .i64 cn, .int .u32 sm, .string pay] 58))
  have HN1 := Lib.hid (blk_new (w.setCell ⟨g, 0, none⟩ (.int .u32 ((n + 1) % 4294967296))) (.cells #[.int .i64 cn, .int .u32 sm, .string pay] 58))
  rw [hsz] at HN1
  have HK1 : Hid (Kp (fun k => k = g) w ((w.setCell ⟨g, 0, none⟩ (.int .u32 ((n + 1) % 4294967296))).alloc (.cells #[.int .i64 cn, .int .u32 sm, .string pay] 58))) := Lib.hid (((Kp.refl _ _).setg _ _).alloc _)
  have hwc : IntKind.u64.wrap cn = cn := by rw [u64_mod]; omega
  have hwp : IntKind.u64.wrap (pay.size : Int) = (pay.size : Int) := by rw [u64_mod]; omega
  have c5 : w.cell? ⟨g, 0, none⟩ = some (.int .u32 n) := (blk_cell h 0).trans rfl
  have f5 := blk_frozen h 0
  clear h hs1 hsz
  go_enter Tryz.func79, Tryz.ntmps79
  go_wp2_with fail
  clear c5 f5
  generalize ((w.setCell ⟨g, 0, none⟩ (.int .u32 ((n + 1) % 4294967296))).alloc (.cells #[.int .i64 cn, .int .u32 sm, .string pay] 58)) = W1 at *
  have c6 : W1.cell? ⟨g, 1, none⟩ = some (.int .u64 x) := (blk_cell HA1.out 1).trans rfl
  have c6d : W1.drew.cell? ⟨g, 1, none⟩ = some (.int .u64 x) := (blk_cell HA1.out 1).trans rfl
  have f6 := blk_frozen HA1.out 1
  have f6d : W1.drew.frozen? ⟨g, 1, none⟩ = false := blk_frozen HA1.out 1
  have e0 : W1.cell? ⟨w.heap.size, 0, none⟩ = some (.int .i64 cn) := (blk_cell HN1.out 0).trans rfl
  have e0d : W1.drew.cell? ⟨w.heap.size, 0, none⟩ = some (.int .i64 cn) := (blk_cell HN1.out 0).trans rfl
  go_region
  have HA2 : Hid (TtAt (W1.setCell ⟨g, 1, none⟩ (.int .u64 ((x + cn) % 18446744073709551616))).drew g ((n + 1) % 4294967296) ((x + cn) % 18446744073709551616) y) := Lib.hid ((blk_set HA1.out 1 _).trans rfl)
  have hk2 : Kp (fun k => k = g) W1 (W1.setCell ⟨g, 1, none⟩ (.int .u64 ((x + cn) % 18446744073709551616))).drew := ((Kp.refl _ _).setg _ _).drew
  have HN2 := Lib.hid (hk2.blk HN1.out (fun h => by omega))
  have HK2 := Lib.hid (HK1.out.tr hk2)
  clear c6 c6d f6 f6d e0 e0d hk2 HA1 HN1 HK1
  rw [u64_mod]
  generalize (W1.setCell ⟨g, 1, none⟩ (.int .u64 ((x + cn) % 18446744073709551616))).drew = W2 at *
  have c7 : W2.cell? ⟨g, 2, none⟩ = some (.int .u64 y) := (blk_cell HA2.out 2).trans rfl
  have c7d : W2.drew.cell? ⟨g, 2, none⟩ = some (.int .u64 y) := (blk_cell HA2.out 2).trans rfl
  have f7 := blk_frozen HA2.out 2
  have f7d : W2.drew.frozen? ⟨g, 2, none⟩ = false := blk_frozen HA2.out 2
  have e2 : W2.cell? ⟨w.heap.size, 2, none⟩ = some (.string pay) := (blk_cell HN2.out 2).trans rfl
  have e2d : W2.drew.cell? ⟨w.heap.size, 2, none⟩ = some (.string pay) := (blk_cell HN2.out 2).trans rfl
  go_wp2_with fail
  go_region
  go_end0
  rw [u64_mod]
  exact ⟨rfl, (blk_set HA2.out 2 _).trans rfl, HK2.out.tr (((Kp.refl _ _).setg _ _).drew)⟩
end
end Go.Proofs.YtcgoofefiiihnaaGreat
namespace Go.Proofs.YtcgoofefiiihnaaGreat
open Go.RowKit Go.Proofs.YtcgoofefiiihnaaGreatW.PrintWords Go.Proofs.YtcgoofefiiihnaaGreatW.PrintMore
set_option linter.unusedVariables false
set_option linter.unusedSimpArgs false
set_option maxRecDepth 20000
theorem enc_a (A1 : Option Addr) (cp : Nat) (h : 1 ≤ cp) : EncAt 1 A1 1 cp [65] [65] := by
  intro W hr hA
  refine (A.encode_any A1 1 cp [65] h hr (by decide) (by decide) hA).mono fun en w' hq => ?_
  obtain ⟨x, he, hx, hb⟩ := hq
  exact ⟨x, he, hx.trans (by rfl), hb⟩
theorem first_a : PTopOne.scalar_First.f 9 [65] = some (-1) := by
  simp [PTopOne.scalar_First.f, PTopOne.scalar_First.l0, PTopOne.scalar_Is.f, rd, wrap64]
theorem kp_under {B : Nat} {w w' : World} (h : Below B w w') : Kp (fun k => B ≤ k) w w' := ⟨h.os, h.tape, h.output, h.size, fun k _ hn => h.block k (by omega)⟩
theorem bl_below {B b : Nat} {bs : List Value} {w w' : World} (h : IsBl B b bs w) (hb : Below w.heap.size w w') : IsBl B b bs w' := bl_kp h (Kp.of_below (F := fun _ => False) hb) (fun _ hk => hk.elim)
theorem clone_empty (A1 : Option Addr) (k : Nat) (w : World) : Calls Tryz.prog 84 #[.slice A1 0 k] w fun en w' => ∃ A2 k2, en = .returned (.slice A2 0 k2) ∧ Below w.heap.size w w' := by
  cases A1 with
  | none =>
    have heq : ∀ W : World, Sem.run Tryz.prog (binOp BinOp.eql 24 (.slice none 0 k) (.slice none 0 0)) W = .ok (.bool true) W := fun W => by kernel_rfl
    go_enter Tryz.func84, Tryz.ntmps84
    go_wp2_with fail
    go_ret
    exact ⟨_, _, rfl, Below.refl _ _⟩
  | some a =>
    go_enter Tryz.func84, Tryz.ntmps84
    have heq : ∀ W : World, Sem.run Tryz.prog (binOp BinOp.eql 24 (.slice (some a) 0 k) (.slice none 0 0)) W = .ok (.bool false) W := fun W => by kernel_rfl
    have HO := Lib.hid (own_lit w w.heap.size 56 .u32 [] (Nat.le_refl _) (by decide))
    have HR : Hid (ReadsInt (w.alloc (.cells #[] 56)) .u32 (some a) 0 []) := Lib.hid ⟨rfl, by decide, fun h => absurd h (by decide)⟩
    go_wp2_with (at_builtin; go_must (refine print_append_row (w0 := w) w.heap.size rfl (.tmp 5) (.tmp 6) 24 56 .u32 4 rfl Tryz.underlying24 infoU (by omega) _ [] [] (some a) 0 k rfl rfl HO.out HR.out (below_alloc (Below.refl _ _) _) (by simp) (by simp only [List.length_nil]; omega) ?_); intro v4 w4 ho4 hb4 hg4 hat4; obtain ⟨A4, c4, rfl, _, _⟩ := own_reads_of_le (enc := fun x => Value.int .u32 x) (d := (0 : Int)) ho4; have HB4 := Lib.hid hb4; clear ho4 hb4 hg4 hat4)
    go_ret
    exact ⟨_, _, rfl, HB4.out⟩
set_option maxHeartbeats 4000000 in
theorem add_a {w : World} {g : Nat} (AA : Addr) (cp : Nat) (hcp : 1 ≤ cp) (hr : ReadsInt w .u32 (some AA) 1 [65]) (hA : AA.block ≠ g) (h : WrAt w g 1 1 false false (.slice none 0 0) 0 0 0) :
    Calls Tryz.prog 43 #[.pointer (some ⟨g, 0, none⟩), .slice (some AA) 1 cp] w fun en w' => ∃ (t : ByteArray) (A : Option Addr) (k : Nat), en = .returned (.tuple #[.string t, .agg #[.int .i64 0, .int .i64 0]]) ∧ t.size = 28 ∧ WrAt w' g 1 1 true false (.slice A 0 k) 1 1 1 ∧ Kp (fun k => k = g) w w' := by
  have HR := Lib.hid hr
  have HWr := Lib.hid h
  have HC := Lib.hid hcp
  have hgl := blk_lt h
  have HAG := Lib.hid hA
  clear h hr hcp hA
  go_enter Tryz.func43, Tryz.ntmps43
  have HF1 := Lib.hid (blk_new w (.cells #[.int .i64 0, .int .i64 0] 27))
  have HW1 := Lib.hid (blk_alloc HWr.out (.cells #[.int .i64 0, .int .i64 0] 27))
  have HR1 := Lib.hid (HR.out.below (below_alloc (Below.refl w.heap.size w) (.cells #[.int .i64 0, .int .i64 0] 27)))
  have HK1 : Hid (Kp (fun k => k = g) w (w.alloc (.cells #[.int .i64 0, .int .i64 0] 27))) := Lib.hid ((Kp.refl _ _).alloc _)
  have HZ1 : Hid (w.heap.size < (w.alloc (.cells #[.int .i64 0, .int .i64 0] 27)).heap.size) := Lib.hid (by simp)
  have c3 : (w.alloc (.cells #[.int .i64 0, .int .i64 0] 27)).cell? ⟨g, 3, none⟩ = some (.bool false) := (blk_cell HW1.out 3).trans rfl
  go_wp2_with fail
  clear c3
  generalize w.alloc (.cells #[.int .i64 0, .int .i64 0] 27) = w1 at *
  generalize hBB : w.heap.size = B at *
  have HBB := Lib.hid hBB
  clear hBB
  refine (PTopOne.scalar_First.calls 9 (some AA) cp [65] (-1) _ (kd_int HR1.out) HC.out first_a).mono ?_
  rintro en w2 ⟨rfl, ⟨n2, rfl⟩⟩
  have HF2 := Lib.hid (blk_drewN HF1.out n2)
  have HW2 := Lib.hid (blk_drewN HW1.out n2)
  have HR2 : Hid (ReadsInt (w1.drewN n2) .u32 (some AA) 1 [65]) := Lib.hid HR1.out
  have HK2 : Hid (Kp (fun k => k = g) w (w1.drewN n2)) := Lib.hid (HK1.out.drewN n2)
  have HZ2 : Hid (B < (w1.drewN n2).heap.size) := Lib.hid HZ1.out
  clear HF1 HW1 HR1 HK1 HZ1
  generalize w1.drewN n2 = w2 at *
  have c4 : w2.cell? ⟨g, 4, none⟩ = some (.slice none 0 0) := (blk_cell HW2.out 4).trans rfl
  have f4 := blk_frozen HW2.out 4
  go_wp2_with (at_builtin; go_must (refine print_append_row (w0 := w2) w2.heap.size rfl (.tmp 23) (.tmp 24) 24 56 .u32 4 rfl Tryz.underlying24 infoU (by omega) (.slice none 0 0) [] [65] (some AA) 1 cp rfl rfl (own_nil _ _ _ _) HR2.out (Below.refl _ _) (Nat.le_refl _) (by simp only [List.length_nil]; omega) ?_); intro v4 w4 ho4 hb4 hg4 hat4; rw [List.nil_append] at ho4; obtain ⟨ga, ca, rfl, hgb, hglt⟩ := World.ownsRow.form ho4 (by decide); have hca := own_cap ho4; have HRD4 := Lib.hid (own_reads' ho4); have HW4 := Lib.hid (blk_below HW2.out hb4); have HF4 := Lib.hid (blk_below HF2.out hb4); have HK4 : Hid (Kp (fun k => k = g) w w4) := Lib.hid (HK2.out.tr (Kp.of_below hb4)); have c44 : w4.cell? ⟨g, 4, none⟩ = some (.slice none 0 0) := (blk_cell (blk_below HW2.out hb4) 4).trans rfl; have f44 := blk_frozen (blk_below HW2.out hb4) 4; clear ho4 hb4 hg4 hat4)
  have hBg := HZ2.out
  have hs5 : WrAt (w4.setCell ⟨g, 4, none⟩ (.slice (some ⟨ga, 0, none⟩) 1 ca)) g 1 1 false false (.slice (some ⟨ga, 0, none⟩) 1 ca) 0 0 0 := (blk_set HW4.out 4 _).trans rfl
  have hk5 : Kp (fun k => k = g) w4 (w4.setCell ⟨g, 4, none⟩ (.slice (some ⟨ga, 0, none⟩) 1 ca)) := (Kp.refl _ _).setg _ _
  have hz5 : (w4.setCell ⟨g, 4, none⟩ (.slice (some ⟨ga, 0, none⟩) 1 ca)).heap.size = w4.heap.size := by simp [World.setCell]
  have HBL5 := Lib.hid (bl_new (w4.setCell ⟨g, 4, none⟩ (.slice (some ⟨ga, 0, none⟩) 1 ca)))
  rw [hz5] at HBL5
  have HW5 := Lib.hid (blk_alloc hs5 (.cells #[.pointer none, .slice none 0 0] 84))
  have HK5 := Lib.hid ((HK4.out.tr hk5).alloc (.cells #[.pointer none, .slice none 0 0] 84))
  have HF5 := Lib.hid (blk_alloc (hk5.blk HF4.out (fun h => by omega)) (.cells #[.pointer none, .slice none 0 0] 84))
  have HRD5 := Lib.hid (reads_kp HRD4.out (hk5.alloc (.cells #[.pointer none, .slice none 0 0] 84)) (fun ad h => by cases h; simp only; omega))
  have HZ5 : Hid (((w4.setCell ⟨g, 4, none⟩ (.slice (some ⟨ga, 0, none⟩) 1 ca)).alloc (.cells #[.pointer none, .slice none 0 0] 84)).heap.size = w4.heap.size + 1) := Lib.hid (by simp [hz5])
  clear hs5 hk5 hz5 c44 f44 HW4 HF4 HK4 HRD4 HW2 HF2 HK2 HR2 HZ2
  (try rw [show (w4.setCell ⟨g, 4, none⟩ (.slice (some ⟨ga, 0, none⟩) 1 ca)).heap.size = w4.heap.size by simp [World.setCell]])
  generalize (w4.setCell ⟨g, 4, none⟩ (.slice (some ⟨ga, 0, none⟩) 1 ca)).alloc (.cells #[.pointer none, .slice none 0 0] 84) = w5 at *
  generalize hgb' : w4.heap.size = gb at *
  have HGB : Hid (g < gb ∧ B < gb ∧ ga < gb ∧ ga ≠ g) := Lib.hid ⟨by omega, by omega, hglt, by omega⟩
  clear hgb hglt hBg hgb' c4 f4
  have h5 := HGB.out
  refine (begin_first (by decide) (by decide) (by decide) (by decide) HW5.out).mono ?_
  rintro en w6 ⟨t1, rfl, ht1, hw6, hk6⟩
  have ht1z : t1.size = 14 := by
    have h9 := congrArg List.length ht1
    rw [bytesOf_length] at h9
    exact h9.trans (headF_len _ _)
  have HT1 := Lib.hid ht1z
  have HW6 := Lib.hid hw6
  have HK6 := Lib.hid (HK5.out.tr hk6)
  have HF6 := Lib.hid (hk6.blk HF5.out (fun h => by omega))
  have HBL6 := Lib.hid (bl_kp HBL5.out hk6 (fun k hk => by omega))
  have HRD6 := Lib.hid (reads_kp HRD5.out hk6 (fun ad h => by cases h; simp only; omega))
  have HZ6 : Hid (gb ≤ w6.heap.size) := Lib.hid (by have := hk6.size; have := HZ5.out; omega)
  clear ht1 hw6 hk6 HW5 HK5 HF5 HBL5 HRD5 HZ5 ht1z h5
  go_wp2_with fail
  refine (bl_write gb gb [] t1 w6 HBL6.out (by have := HT1.out; simp; omega) HZ6.out).mono ?_
  rintro en w7 ⟨rfl, hbl7, hb7⟩
  rw [List.nil_append] at hbl7
  have h5 := HGB.out
  have HBL7 : Hid (IsBl gb gb (Lib.strCells t1) w7) := Lib.hid (.inr hbl7)
  have HW7 := Lib.hid (blk_under HW6.out hb7 h5.1)
  have HF7 := Lib.hid (blk_under HF6.out hb7 h5.2.1)
  have HRD7 := Lib.hid (reads_kp HRD6.out (kp_under hb7) (fun ad h => by cases h; simp only; omega))
  have HK7 : Hid (Kp (fun k => k = g) w w7) := Lib.hid (HK6.out.trans (kp_under hb7) (fun k hk => .inr (by have := HBB.out; omega)))
  have HZ7 : Hid (gb ≤ w7.heap.size) := Lib.hid (Nat.le_trans HZ6.out hb7.size)
  clear hbl7 hb7 HW6 HK6 HF6 HBL6 HRD6 HZ6 h5
  go_wp2_with fail
  go_loopw [40] (fun _ wr => wr = w7 ∨ ∃ (A : Option Addr) (k : Nat) (bs : List UInt8), WrAt wr g 1 1 true false (.slice A 0 k) 1 1 1 ∧ wr.heap[B]? = some (.cells #[.int .i64 0, .int .i64 0] 27 (0, 0)) ∧ IsBl gb gb (Lib.byteCells bs) wr ∧ bs.length = 28 ∧ Kp (fun k => k = g) w wr ∧ gb ≤ wr.heap.size) (fun _ wr => match wr.cell? ⟨g, 4, none⟩ with | some (.slice _ n _) => n | _ => 0)
  case atStart => exact .inl rfl
  case round =>
    rcases hrel with rfl | ⟨A9, k9, bs, h1, h2, h3, h4, h5, h6⟩
    · have c4 : wr.cell? ⟨g, 4, none⟩ = some (.slice (some ⟨ga, 0, none⟩) 1 ca) := (blk_cell HW7.out 4).trans rfl
      have c1 : wr.cell? ⟨g, 1, none⟩ = some (.int .i64 1) := (blk_cell HW7.out 1).trans rfl
      go_wp2_with fail
      go_quiet (fail)
      rename_i nq
      have HW8 := Lib.hid (blk_drewN HW7.out nq)
      have HF8 := Lib.hid (blk_drewN HF7.out nq)
      have HBL8 : Hid (IsBl gb gb (Lib.strCells t1) (wr.drewN nq)) := Lib.hid (bl_kp HBL7.out ((Kp.refl (fun _ => False) _).drewN nq) (fun k hk => hk.elim))
      have HRD8 : Hid (ReadsInt (wr.drewN nq) .u32 (some ⟨ga, 0, none⟩) 1 [65]) := Lib.hid HRD7.out
      have HK8 : Hid (Kp (fun k => k = g) w (wr.drewN nq)) := Lib.hid (HK7.out.drewN nq)
      have HZ8 : Hid (gb ≤ (wr.drewN nq).heap.size) := Lib.hid HZ7.out
      have HM8 : Hid ((match wr.cell? ⟨g, 4, none⟩ with | some (.slice _ n _) => n | _ => 0) = 1) := Lib.hid (by rw [c4])
      clear c4 c1
      generalize hw8 : wr.drewN nq = w8 at *
      clear hw8
      obtain ⟨i0, hi, hz0', hz1', hz2'⟩ := info_parts infoU
      have hcut1 := cut_to (P := Tryz.prog) 24 56 .i64 Tryz.underlying24 hi (some ⟨ga, 0, none⟩) 1 ca 1 (by omega) (by omega) hca
      have h5 := HGB.out
      have c4 : w8.drew.cell? ⟨g, 4, none⟩ = some (.slice (some ⟨ga, 0, none⟩) 1 ca) := (blk_cell HW8.out 4).trans rfl
      have c1 : w8.drew.cell? ⟨g, 1, none⟩ = some (.int .i64 1) := (blk_cell HW8.out 1).trans rfl
      have HT := Lib.hid (wblock_any (w := w8.drew) (some ⟨ga, 0, none⟩) 1 ca [65] [65] (by decide) (by decide) HRD8.out (fun ad h => by cases h; have := HZ8.out; show ga < w8.heap.size; omega) (by decide) (by decide) (enc_a _ _ hca) (blk_drew HW8.out))
      clear h5
      go_wp2_with fail
      go_region_held3 (fun w' => w'.cell? ⟨g, 4, none⟩ = some (.slice (some ⟨ga, 0, none⟩) 1 ca) ∧ w'.cell? ⟨g, 1, none⟩ = some (.int .i64 1)) (first | exact ⟨by assumption, by assumption⟩ | go_keep) (first
        | (go_at_call 83; refine HT.out.mono ?_; rintro en w9 ⟨t2, s2, rfl, hs2, ht2, hw9, hk9⟩; have hkk : Kp (fun k => k = g) w8 w9 := ((Kp.refl _ w8).drew).tr hk9; have h5 := HGB.out; have hz2 : t2.size = 14 := (by have h9 := congrArg List.length ht2; rw [bytesOf_length] at h9; have h8 := congrArg List.length hs2; rw [bytesOf_length] at h8; rw [h9]; simp [Bk.bytes, le4_len, bytesOf_length, h8]); have HS2 : Hid (s2.size = 1) := Lib.hid (by have h8 := congrArg List.length hs2; rw [bytesOf_length] at h8; exact h8); have HZT := Lib.hid hz2; have HW9 := Lib.hid hw9; have HF9 := Lib.hid (hkk.blk HF8.out (fun h => by omega)); have HBL9 := Lib.hid (bl_kp HBL8.out hkk (fun k hk => by omega)); have HK9 := Lib.hid (HK8.out.tr hkk); have HZ9 : Hid (gb ≤ w9.heap.size) := Lib.hid (Nat.le_trans HZ8.out hkk.size); have d4 : w9.cell? ⟨g, 4, none⟩ = some (.slice (some ⟨ga, 0, none⟩) 1 ca) := (blk_cell hw9 4).trans rfl; have d1 : w9.cell? ⟨g, 1, none⟩ = some (.int .i64 1) := (blk_cell hw9 1).trans rfl; clear hs2 ht2 hw9 hk9 hkk h5 hz2)
        | (go_at_call 38; refine (bl_write gb gb (Lib.strCells t1) t2 w9 HBL9.out (by have := HZT.out; have := HT1.out; rw [Lib.strCells_eq]; simp [Lib.byteCells]; omega) HZ9.out).mono ?_; rintro en w10 ⟨rfl, hbl10, hb10⟩; have h5 := HGB.out; have HBL10 : Hid (IsBl gb gb (Lib.strCells t1 ++ Lib.strCells t2) w10) := Lib.hid (.inr hbl10); have HW10 := Lib.hid (blk_under HW9.out hb10 h5.1); have HF10 := Lib.hid (blk_under HF9.out hb10 h5.2.1); have HK10 : Hid (Kp (fun k => k = g) w w10) := Lib.hid (HK9.out.trans (kp_under hb10) (fun k hk => .inr (by have := HBB.out; omega))); have HZ10 : Hid (gb ≤ w10.heap.size) := Lib.hid (Nat.le_trans HZ9.out hb10.size); have e4 : w10.cell? ⟨g, 4, none⟩ = some (.slice (some ⟨ga, 0, none⟩) 1 ca) := (blk_cell (blk_under HW9.out hb10 h5.1) 4).trans rfl; have e1 : w10.cell? ⟨g, 1, none⟩ = some (.int .i64 1) := (blk_cell (blk_under HW9.out hb10 h5.1) 1).trans rfl; clear hbl10 hb10 h5)
        | (fail))
      clear c4 c1 d4 d1 e4 e1 hcut1
      have HW11 : Hid (WrAt w10 g 1 1 true false (.slice (some ⟨ga, 0, none⟩) 1 ca) 1 1 1) := Lib.hid (by
        have h9 := HW10.out
        rw [HS2.out] at h9
        exact h9)
      have c4 : w10.cell? ⟨g, 4, none⟩ = some (.slice (some ⟨ga, 0, none⟩) 1 ca) := (blk_cell HW10.out 4).trans rfl
      have c4d : w10.drew.cell? ⟨g, 4, none⟩ = some (.slice (some ⟨ga, 0, none⟩) 1 ca) := (blk_cell HW10.out 4).trans rfl
      have c1 : w10.cell? ⟨g, 1, none⟩ = some (.int .i64 1) := (blk_cell HW10.out 1).trans rfl
      have c1d : w10.drew.cell? ⟨g, 1, none⟩ = some (.int .i64 1) := (blk_cell HW10.out 1).trans rfl
      have f4 := blk_frozen HW10.out 4
      have f4d : w10.drew.frozen? ⟨g, 4, none⟩ = false := blk_frozen HW10.out 4
      have hcut2 := cut_from (P := Tryz.prog) 24 56 .i64 Tryz.underlying24 hi 1 hz1' (some ⟨ga, 0, none⟩) 1 ca 1 (by omega) (by omega)
      obtain ⟨A2, hA2⟩ : ∃ A2, (if ca = (1 : Int).toNat then (some ⟨ga, 0, none⟩ : Option Addr) else (some ⟨ga, 0, none⟩ : Option Addr).map (·.add ((1 : Int).toNat * 1))) = A2 := ⟨_, rfl⟩
      have HCU : Hid (∀ W : World, (Instr.slice 24 (.slice (some ⟨ga, 0, none⟩) 1 ca) (some (.int .i64 1)) none none).run Tryz.prog W = .ok (.slice A2 0 (ca - 1)) W) := Lib.hid (fun W => by rw [hcut2 W, hA2]; rfl)
      clear hcut2 hA2
      have hcu := HCU.out
      go_wp2_with fail
      go_region
      go_wp2_with fail
      have h5 := HGB.out
      have hk11 : Kp (fun k => k = g) w10 (w10.setCell ⟨g, 4, none⟩ (.slice A2 0 (ca - 1))).drew := ((Kp.refl _ _).setg _ _).drew
      have hw11 : WrAt (w10.setCell ⟨g, 4, none⟩ (.slice A2 0 (ca - 1))).drew g 1 1 true false (.slice A2 0 (ca - 1)) 1 1 1 := (blk_set HW11.out 4 _).trans rfl
      have hbl11 : IsBl gb gb (Lib.byteCells (t1.data.toList ++ t2.data.toList)) (w10.setCell ⟨g, 4, none⟩ (.slice A2 0 (ca - 1))).drew := by
        have h9 := bl_kp HBL10.out hk11 (fun k hk => by omega)
        rw [Lib.strCells_eq, Lib.strCells_eq] at h9
        simpa [Lib.byteCells] using h9
      refine ⟨.inr ⟨A2, ca - 1, t1.data.toList ++ t2.data.toList, hw11, hk11.blk HF10.out (fun h => by omega), hbl11, ?_, HK10.out.tr hk11, Nat.le_trans HZ10.out hk11.size⟩, ?_⟩
      · rw [List.length_append, data_length, data_length, HT1.out, HZT.out]
      · rw [show (w10.setCell ⟨g, 4, none⟩ (.slice A2 0 (ca - 1))).drew.cell? ⟨g, 4, none⟩ = some (.slice A2 0 (ca - 1)) from (blk_cell hw11 4).trans rfl]
        have h9 := HM8.out
        rw [h9]
        exact Nat.zero_lt_one
    · have HW12 := Lib.hid h1
      have HF12 := Lib.hid h2
      have HBL12 := Lib.hid h3
      have HN12 := Lib.hid h4
      have HK12 := Lib.hid h5
      have HZ12 := Lib.hid h6
      have c4 : wr.cell? ⟨g, 4, none⟩ = some (.slice A9 0 k9) := (blk_cell h1 4).trans rfl
      have c1 : wr.cell? ⟨g, 1, none⟩ = some (.int .i64 1) := (blk_cell h1 1).trans rfl
      clear h1 h2 h3 h4 h5 h6
      go_wp2_with fail
      go_quiet (fail)
      rename_i nq
      clear c4 c1
      have HW13 := Lib.hid (blk_drewN HW12.out nq)
      have HF13 := Lib.hid (blk_drewN HF12.out nq)
      have HBL13 : Hid (IsBl gb gb (Lib.byteCells bs) (wr.drewN nq)) := Lib.hid (bl_kp HBL12.out ((Kp.refl (fun _ => False) _).drewN nq) (fun k hk => hk.elim))
      have HK13 : Hid (Kp (fun k => k = g) w (wr.drewN nq)) := Lib.hid (HK12.out.drewN nq)
      have HZ13 : Hid (gb ≤ (wr.drewN nq).heap.size) := Lib.hid HZ12.out
      generalize wr.drewN nq = w13 at *
      have c4 : w13.cell? ⟨g, 4, none⟩ = some (.slice A9 0 k9) := (blk_cell HW13.out 4).trans rfl
      go_wp2_with fail
      refine (clone_empty A9 k9 _).mono ?_
      rintro en w14 ⟨A5, k5, rfl, hb14⟩
      have h5 := HGB.out
      have HW14 := Lib.hid (blk_below HW13.out hb14)
      have HF14 := Lib.hid (blk_below HF13.out hb14)
      have HBL14 := Lib.hid (bl_below HBL13.out hb14)
      have HK14 : Hid (Kp (fun k => k = g) w w14) := Lib.hid (HK13.out.tr (Kp.of_below hb14))
      have HZ14 : Hid (gb ≤ w14.heap.size) := Lib.hid (Nat.le_trans HZ13.out hb14.size)
      have d4 : w14.cell? ⟨g, 4, none⟩ = some (.slice A9 0 k9) := (blk_cell (blk_below HW13.out hb14) 4).trans rfl
      have f4 := blk_frozen (blk_below HW13.out hb14) 4
      clear hb14 c4 HW13 HF13 HBL13 HK13 HZ13
      go_wp2_with fail
      have hk15 : Kp (fun k => k = g) w14 (w14.setCell ⟨g, 4, none⟩ (.slice A5 0 k5)) := (Kp.refl _ _).setg _ _
      have hw15 : WrAt (w14.setCell ⟨g, 4, none⟩ (.slice A5 0 k5)) g 1 1 true false (.slice A5 0 k5) 1 1 1 := (blk_set HW14.out 4 _).trans rfl
      have HW15 := Lib.hid hw15
      have HF15 := Lib.hid (hk15.blk HF14.out (fun h => by omega))
      have HBL15 := Lib.hid (bl_kp HBL14.out hk15 (fun k hk => by omega))
      have HK15 := Lib.hid (HK14.out.tr hk15)
      have HZ15 : Hid (gb ≤ (w14.setCell ⟨g, 4, none⟩ (.slice A5 0 k5)).heap.size) := Lib.hid (Nat.le_trans HZ14.out hk15.size)
      clear d4 f4 hk15 hw15 HW14 HF14 HBL14 HK14 HZ14
      generalize w14.setCell ⟨g, 4, none⟩ (.slice A5 0 k5) = w15 at *
      refine (bl_string gb gb bs _ HBL15.out HZ15.out).mono ?_
      rintro en w16 ⟨rfl, hb16⟩
      have HW16 := Lib.hid (blk_under HW15.out hb16 h5.1)
      have HF16 := Lib.hid (blk_under HF15.out hb16 h5.2.1)
      have HK16 : Hid (Kp (fun k => k = g) w w16) := Lib.hid (HK15.out.trans (kp_under hb16) (fun k hk => .inr (by have := HBB.out; omega)))
      clear hb16
      have q0 : w16.cell? ⟨B, 0, none⟩ = some (.int .i64 0) := (blk_cell HF16.out 0).trans rfl
      have q1 : w16.cell? ⟨B, 1, none⟩ = some (.int .i64 0) := (blk_cell HF16.out 1).trans rfl
      have r0 := blk_frozen HF16.out 0
      have r1 := blk_frozen HF16.out 1
      go_wp2_with fail
      have j1 : (w16.setCell ⟨B, 0, none⟩ (.int .i64 0)).heap[B]? = some (.cells #[.int .i64 0, .int .i64 0] 27 (0, 0)) := (blk_set HF16.out 0 _).trans rfl
      have j2 : ((w16.setCell ⟨B, 0, none⟩ (.int .i64 0)).setCell ⟨B, 1, none⟩ (.int .i64 0)).heap[B]? = some (.cells #[.int .i64 0, .int .i64 0] 27 (0, 0)) := (blk_set j1 1 _).trans rfl
      have hk17 : Kp (fun k => k = B) w16 ((w16.setCell ⟨B, 0, none⟩ (.int .i64 0)).setCell ⟨B, 1, none⟩ (.int .i64 0)) := ((Kp.refl _ _).setg _ _).setg _ _
      have HW17 := hk17.blk HW16.out (fun h => by omega)
      have HK17 : Kp (fun k => k = g) w ((w16.setCell ⟨B, 0, none⟩ (.int .i64 0)).setCell ⟨B, 1, none⟩ (.int .i64 0)) := HK16.out.trans hk17 (fun k hk => .inr (by have := HBB.out; omega))
      (try simp only [Exit.inBlock, Exit.then])
      refine bodyPost_ret (results_tc rfl _ _ B 27 #[.int .i64 0, .int .i64 0] (0, 0) _ rfl j2 Tryz.underlying27 rfl (by kernel_rfl)) rfl ?_
      refine ⟨⟨bs.toArray⟩, A5, k5, rfl, ?_, HW17, HK17⟩
      exact HN12.out
end Go.Proofs.YtcgoofefiiihnaaGreat
namespace Go.Proofs.YtcgoofefiiihnaaGreat
open Go.RowKit Go.Proofs.YtcgoofefiiihnaaGreatW.PrintWords Go.Proofs.YtcgoofefiiihnaaGreatW.PrintMore
set_option linter.unusedVariables false
set_option linter.unusedSimpArgs false
set_option maxRecDepth 20000
theorem close_a {w : World} {g : Nat} {c z n x y : Int} (A1 : Option Addr) (k : Nat) (h : WrAt w g c z true false (.slice A1 0 k) n x y) :
    Calls Tryz.prog 44 #[.pointer (some ⟨g, 0, none⟩)] w fun en w' => ∃ t : ByteArray, en = .returned (.tuple #[.string t, .int .i64 0]) ∧ t.size = 25 ∧ Kp (fun k => k = g) w w' := by
  have HWr := Lib.hid h
  have c3 : w.cell? ⟨g, 3, none⟩ = some (.bool false) := (blk_cell h 3).trans rfl
  have f3 := blk_frozen h 3
  have c4 : w.cell? ⟨g, 4, none⟩ = some (.slice A1 0 k) := (blk_cell h 4).trans rfl
  have f4 := blk_frozen h 4
  have h1 : WrAt (w.setCell ⟨g, 3, none⟩ (.bool true)) g c z true true (.slice A1 0 k) n x y := (blk_set h 3 _).trans rfl
  have HW2 : Hid (WrAt ((w.setCell ⟨g, 3, none⟩ (.bool true)).setCell ⟨g, 4, none⟩ (.slice none 0 0)) g c z true true (.slice none 0 0) n x y) := Lib.hid ((blk_set h1 4 _).trans rfl)
  have HK2 : Hid (Kp (fun k => k = g) w ((w.setCell ⟨g, 3, none⟩ (.bool true)).setCell ⟨g, 4, none⟩ (.slice none 0 0))) := Lib.hid (((Kp.refl _ _).setg _ _).setg _ _)
  clear h h1
  go_enter Tryz.func44, Tryz.ntmps44
  go_wp2_with fail
  refine (begin_again HWr.out).mono ?_
  rintro en w1 ⟨rfl, rfl⟩
  go_wp2_with fail
  generalize (w.setCell ⟨g, 3, none⟩ (.bool true)).setCell ⟨g, 4, none⟩ (.slice none 0 0) = w2 at *
  refine (end_any HW2.out).mono ?_
  rintro en w3 ⟨t, rfl, ht, hb3⟩
  have hz : t.size = 25 := by
    have h9 := congrArg List.length ht
    rw [bytesOf_length] at h9
    rw [h9]
    simp [endF, endL_len, le4_len]
  have HZ := Lib.hid hz
  have hcat : ¬ (9223372036854775807 < ByteArray.empty.size + t.size) := by rw [hz]; decide
  have hcat2 : ¬ (9223372036854775807 < t.size) := by rw [hz]; decide
  have HB3 := Lib.hid hb3
  clear ht hb3 hz c3 f3 c4 f4
  go_wp2_with fail
  go_ret2
  refine ⟨_, rfl, ?_, HK2.out.tr (Kp.of_below HB3.out)⟩
  first | exact HZ.out | (rw [ByteArray.size_append, HZ.out]; rfl)
set_option maxHeartbeats 4000000 in
theorem pack_a (AA : Addr) (cp : Nat) (hcp : 1 ≤ cp) (w : World) (hr : ReadsInt w .u32 (some AA) 1 [65]) :
    Calls Tryz.prog 24 #[.int .i64 1, .int .i64 1, .slice (some AA) 1 cp] w fun en w' => ∃ t : ByteArray, en = .returned (.tuple #[.string t, .agg #[.int .i64 0, .int .i64 0]]) ∧ t.size = 53 ∧ Below w.heap.size w w' := by
  have HR := Lib.hid hr
  have hlt := reads_lt hr AA rfl (by decide)
  clear hr
  go_enter Tryz.func24, Tryz.ntmps24
  go_wp2_with fail
  have HF1 := Lib.hid (blk_new w (.cells #[.int .i64 0, .int .i64 0] 27))
  have HB1 := Lib.hid (below_alloc (Below.refl w.heap.size w) (.cells #[.int .i64 0, .int .i64 0] 27))
  have HZ1 : Hid (w.heap.size < (w.alloc (.cells #[.int .i64 0, .int .i64 0] 27)).heap.size) := Lib.hid (by simp)
  generalize w.alloc (.cells #[.int .i64 0, .int .i64 0] 27) = w1 at *
  refine (neww_any 1 1 (by decide) (by decide) (by decide) (by decide) _).mono ?_
  rintro en w2 ⟨g, rfl, hg, hw2, hb2⟩
  have hz1 := HZ1.out
  have HG : Hid (w.heap.size < g ∧ AA.block ≠ g) := Lib.hid ⟨by omega, by omega⟩
  have HB2 := Lib.hid (HB1.out.trans (hb2.mono HB1.out.size))
  have HF2 := Lib.hid (blk_below HF1.out hb2)
  have HW2 := Lib.hid hw2
  have HR2 := Lib.hid (HR.out.below HB2.out)
  clear hg hw2 hb2 hz1 HB1 HF1 HZ1
  go_wp2_with fail
  refine (add_a AA cp hcp HR2.out HG.out.2 HW2.out).mono ?_
  rintro en w3 ⟨t3, A3, k3, rfl, ht3, hw3, hk3⟩
  have hgg := HG.out.1
  have HT3 := Lib.hid ht3
  have HW3 := Lib.hid hw3
  have HF3 := Lib.hid (hk3.blk HF2.out (fun h => by omega))
  have HB3 := Lib.hid (HB2.out.trans (hk3.below (B := w.heap.size) HB2.out.size (fun k hk => by omega)))
  clear ht3 hw3 hk3 HB2 HF2 HW2 HR2
  go_wp2_with fail
  have HW4 := Lib.hid (blk_alloc HW3.out (.cells #[.int .i64 0, .int .i64 0] 27))
  have HF4 := Lib.hid (blk_alloc HF3.out (.cells #[.int .i64 0, .int .i64 0] 27))
  have HB4 := Lib.hid (below_alloc HB3.out (.cells #[.int .i64 0, .int .i64 0] 27))
  generalize w3.alloc (.cells #[.int .i64 0, .int .i64 0] 27) = w4 at *
  refine (close_a A3 k3 HW4.out).mono ?_
  rintro en w5 ⟨t5, rfl, ht5, hk5⟩
  have hcat : ¬ (9223372036854775807 < t3.size + t5.size) := by rw [HT3.out, ht5]; decide
  have HT5 := Lib.hid ht5
  have HF5 := Lib.hid (hk5.blk HF4.out (fun h => by omega))
  have HB5 := Lib.hid (HB4.out.trans (hk5.below (B := w.heap.size) HB4.out.size (fun k hk => by omega)))
  clear ht5 hk5 HF4 HB4 HW4
  have q0 : w5.cell? ⟨w.heap.size, 0, none⟩ = some (.int .i64 0) := (blk_cell HF5.out 0).trans rfl
  have q1 : w5.cell? ⟨w.heap.size, 1, none⟩ = some (.int .i64 0) := (blk_cell HF5.out 1).trans rfl
  have r0 := blk_frozen HF5.out 0
  have r1 := blk_frozen HF5.out 1
  go_wp2_with fail
  have j1 : (w5.setCell ⟨w.heap.size, 0, none⟩ (.int .i64 0)).heap[w.heap.size]? = some (.cells #[.int .i64 0, .int .i64 0] 27 (0, 0)) := (blk_set HF5.out 0 _).trans rfl
  have j2 : ((w5.setCell ⟨w.heap.size, 0, none⟩ (.int .i64 0)).setCell ⟨w.heap.size, 1, none⟩ (.int .i64 0)).heap[w.heap.size]? = some (.cells #[.int .i64 0, .int .i64 0] 27 (0, 0)) := (blk_set j1 1 _).trans rfl
  have hk6 : Kp (fun k => k = w.heap.size) w5 ((w5.setCell ⟨w.heap.size, 0, none⟩ (.int .i64 0)).setCell ⟨w.heap.size, 1, none⟩ (.int .i64 0)) := ((Kp.refl _ _).setg _ _).setg _ _
  have HB6 := HB5.out.trans (hk6.below (B := w.heap.size) HB5.out.size (fun k hk => Nat.le_of_eq hk.symm))
  (try simp only [Exit.inBlock, Exit.then])
  refine bodyPost_ret (results_tc rfl _ _ w.heap.size 27 #[.int .i64 0, .int .i64 0] (0, 0) _ rfl j2 Tryz.underlying27 rfl (by kernel_rfl)) rfl ?_
  refine ⟨_, rfl, ?_, HB6⟩
  rw [ByteArray.size_append, HT3.out, HT5.out]
end Go.Proofs.YtcgoofefiiihnaaGreat
namespace Go.Proofs.YtcgoofefiiihnaaGreat
open Go.RowKit Go.Proofs.YtcgoofefiiihnaaGreatW.PrintWords Go.Proofs.YtcgoofefiiihnaaGreatW.PrintMore
set_option linter.unusedVariables false
set_option linter.unusedSimpArgs false
set_option maxRecDepth 20000
theorem enc_bocu (W : World) : Calls Tryz.prog 23 #[.int .i64 8, .slice (some ⟨W.heap.size, 0, none⟩) 1 1] (W.alloc (.cells #[.int .u32 65279] 56)) fun en w' => en = .returned (.tuple #[.string ⟨#[251, 238, 40]⟩, .agg #[.int .i64 0, .int .i64 0]]) ∧ Below W.heap.size W w' := by
  refine (F.encode_any (some ⟨W.heap.size, 0, none⟩) 1 1 [65279] (Nat.le_refl _) (box_reads W 65279) (by decide) (by decide) (fun ad h => by cases h; simp)).mono ?_
  rintro en w1 ⟨x, rfl, hx, hb⟩
  obtain rfl : x = ⟨#[251, 238, 40]⟩ := of_bytes (hx.trans (by rfl))
  exact ⟨rfl, (below_alloc (Below.refl _ _) _).trans (hb.mono (by simp))⟩
theorem dec_scsu (W : World) : Calls Tryz.prog 9 #[.int .i64 9, .string ⟨#[18, 156]⟩] W fun en w' => ∃ A1 cp, en = .returned (.tuple #[.slice A1 1 cp, .agg #[.int .i64 0, .int .i64 0]]) ∧ 1 ≤ cp ∧ ReadsInt w' .u32 A1 1 [1052] ∧ Below W.heap.size W w' := by
  refine (S.decode_any (w := W) 9 (.inl rfl) ⟨#[18, 156]⟩ (by decide)).mono ?_
  rintro en w1 ⟨v, m, os, s, e, f, rfl, hm, hf, hr, ho, hb3, he, hff, hn⟩
  have hz : (⟨#[18, 156]⟩ : ByteArray).size = 2 := rfl
  rw [hz] at hm hn he
  have r2 : run S.cnx S.st0 ((bytesOf ⟨#[18, 156]⟩).take 2) = some (⟨S.firstL, false, 2, 0, 0, 0, 0⟩, [1052]) := by rfl
  have key : m = 2 := by
    rcases hn with h | ⟨h1, h2⟩
    · exact h
    · exfalso
      have : m = 0 ∨ m = 1 := by omega
      rcases this with rfl | rfl
      · have e0 : run S.cnx S.st0 ((bytesOf ⟨#[18, 156]⟩).take 0) = some (S.st0, []) := by rfl
        rw [e0] at hr
        cases hr
        exact absurd h2 (by decide +kernel)
      · have e1 : run S.cnx S.st0 ((bytesOf ⟨#[18, 156]⟩).take 1) = some (⟨S.firstL, false, 2, 0, 0, 0, 0⟩, []) := by rfl
        rw [e1] at hr
        cases hr
        exact absurd h2 (by decide +kernel)
  subst key
  rw [r2] at hr
  cases hr
  obtain rfl : e = 0 := he.trans (by rfl)
  obtain rfl : f = 0 := hff
  obtain ⟨A3, c3, rfl, hle3, _⟩ := own_reads_of_le (enc := fun x => Value.int .u32 x) (d := (0 : Int)) ho
  exact ⟨A3, c3, rfl, hle3, own_reads' ho, hb3⟩
theorem same_a : PTopOne.pilcrowref01_Same.f 9 [1052] [1052] = some true := by
  simp [PTopOne.pilcrowref01_Same.f, PTopOne.pilcrowref01_Order.f, PTopOne.pilcrowref01_Order.l0, PTopOne.pilcrowref01_Order.j1, rd, wrap64]
theorem field_4 (x0 x1 x2 x3 x4 x5 x6 x7 x8 x9 x10 : Value) (W : World) : Sem.run Tryz.prog (Instr.field 63 (.agg #[x0, x1, x2, x3, x4, x5, x6, x7, x8, x9, x10]) 4) W = .ok x4 W := by kernel_rfl
set_option maxHeartbeats 4000000 in
theorem live_any (w : World) : Calls Tryz.prog 7 #[] w fun en w' => en = .returned (.bool true) ∧ Below w.heap.size w w' := by
  go_enter Tryz.func7, Tryz.ntmps7
  go_wp2_with fail
  refine (enc_bocu _).mono ?_
  rintro en w1 ⟨rfl, hb1⟩
  have HB1 := Lib.hid hb1
  clear hb1
  go_wp2_with fail
  have HA2 := Lib.hid (blk_new w1 (.cells #[.int .i64 0, .int .i64 0] 27))
  have HB2 := Lib.hid (below_alloc HB1.out (.cells #[.int .i64 0, .int .i64 0] 27))
  generalize hga : w1.heap.size = ga at *
  generalize w1.alloc (.cells #[.int .i64 0, .int .i64 0] 27) = w2 at *
  clear hga HB1
  refine (dec_scsu w2).mono ?_
  rintro en w3 ⟨A1, cp, rfl, hcp, hr3, hb3⟩
  have HC := Lib.hid hcp
  have HR3 := Lib.hid hr3
  have HA3 := Lib.hid (blk_below HA2.out hb3)
  have HB3 := Lib.hid (HB2.out.trans (hb3.mono HB2.out.size))
  clear hcp hr3 hb3 HA2 HB2
  go_wp2_with fail
  have HD4 := Lib.hid (blk_new w3 (.cells #[.int .i64 0, .int .i64 0] 27))
  have HA4 := Lib.hid (blk_alloc HA3.out (.cells #[.int .i64 0, .int .i64 0] 27))
  have HR4 := Lib.hid (HR3.out.below (below_alloc (Below.refl w3.heap.size w3) (.cells #[.int .i64 0, .int .i64 0] 27)))
  have HB4 := Lib.hid (below_alloc HB3.out (.cells #[.int .i64 0, .int .i64 0] 27))
  generalize hgd : w3.heap.size = gd at *
  generalize w3.alloc (.cells #[.int .i64 0, .int .i64 0] 27) = w4 at *
  clear hgd HA3 HR3 HB3
  refine (text_a w4).mono ?_
  rintro en w5 ⟨rfl, hb5⟩
  have HD5 := Lib.hid (blk_below HD4.out hb5)
  have HA5 := Lib.hid (blk_below HA4.out hb5)
  have HR5 := Lib.hid (HR4.out.below hb5)
  have HB5 := Lib.hid (HB4.out.trans (hb5.mono HB4.out.size))
  clear hb5 HD4 HA4 HR4 HB4
  go_wp2_with fail
  have HT6 := Lib.hid (blk_alloc (blk_new w5 (.cells #[.int .i64 0, .int .i64 0] 27)) (.cells #[.int .u32 65] 56))
  have HD6 := Lib.hid (blk_alloc (blk_alloc HD5.out (.cells #[.int .i64 0, .int .i64 0] 27)) (.cells #[.int .u32 65] 56))
  have HA6 := Lib.hid (blk_alloc (blk_alloc HA5.out (.cells #[.int .i64 0, .int .i64 0] 27)) (.cells #[.int .u32 65] 56))
  have HR6 := Lib.hid ((HR5.out.below (below_alloc (Below.refl w5.heap.size w5) (.cells #[.int .i64 0, .int .i64 0] 27))).below (below_alloc (Below.refl _ (w5.alloc (.cells #[.int .i64 0, .int .i64 0] 27))) (.cells #[.int .u32 65] 56)))
  have HP6 := Lib.hid (box_reads (w5.alloc (.cells #[.int .i64 0, .int .i64 0] 27)) 65)
  rw [show (w5.alloc (.cells #[.int .i64 0, .int .i64 0] 27)).heap.size = w5.heap.size + 1 by simp] at HP6
  have HB6 := Lib.hid (below_alloc (below_alloc HB5.out (.cells #[.int .i64 0, .int .i64 0] 27)) (.cells #[.int .u32 65] 56))
  generalize hgt : w5.heap.size = gt at *
  generalize (w5.alloc (.cells #[.int .i64 0, .int .i64 0] 27)).alloc (.cells #[.int .u32 65] 56) = w6 at *
  clear hgt HD5 HA5 HR5 HB5
  refine (pack_a ⟨gt + 1, 0, none⟩ 1 (Nat.le_refl _) w6 HP6.out).mono ?_
  rintro en w7 ⟨tp, rfl, htp, hb7⟩
  have HTP := Lib.hid htp
  have HT7 := Lib.hid (blk_below HT6.out hb7)
  have HD7 := Lib.hid (blk_below HD6.out hb7)
  have HA7 := Lib.hid (blk_below HA6.out hb7)
  have HR7 := Lib.hid (HR6.out.below hb7)
  have HB7 := Lib.hid (HB6.out.trans (hb7.mono HB6.out.size))
  clear htp hb7 HT6 HD6 HA6 HR6 HP6 HB6
  have hcl : ∀ W : World, Sem.run Tryz.prog (binOp BinOp.eql 27 (.agg #[.int .i64 0, .int .i64 0]) (.agg #[.int .i64 0, .int .i64 0])) W = .ok (.bool true) W := fun W => by kernel_rfl
  have hz53 : ((tp.size : Int) == 53) = true := by rw [HTP.out]; rfl
  have HC8 := Lib.hid (blk_new w7 (.cells #[.int .i64 0, .int .i64 0] 27))
  have HT8 := Lib.hid (blk_alloc HT7.out (.cells #[.int .i64 0, .int .i64 0] 27))
  have HD8 := Lib.hid (blk_alloc HD7.out (.cells #[.int .i64 0, .int .i64 0] 27))
  have HA8 := Lib.hid (blk_alloc HA7.out (.cells #[.int .i64 0, .int .i64 0] 27))
  have HR8 := Lib.hid (HR7.out.below (below_alloc (Below.refl w7.heap.size w7) (.cells #[.int .i64 0, .int .i64 0] 27)))
  have HB8 := Lib.hid (below_alloc HB7.out (.cells #[.int .i64 0, .int .i64 0] 27))
  have a0 : w7.cell? ⟨ga, 0, none⟩ = some (.int .i64 0) := (blk_cell HA7.out 0).trans rfl
  have a1 : w7.cell? ⟨ga, 1, none⟩ = some (.int .i64 0) := (blk_cell HA7.out 1).trans rfl
  have b0 : (w7.alloc (.cells #[.int .i64 0, .int .i64 0] 27)).cell? ⟨ga, 0, none⟩ = some (.int .i64 0) := (blk_cell HA8.out 0).trans rfl
  have b1 : (w7.alloc (.cells #[.int .i64 0, .int .i64 0] 27)).cell? ⟨ga, 1, none⟩ = some (.int .i64 0) := (blk_cell HA8.out 1).trans rfl
  go_wp2_with fail
  clear a0 a1 b0 b1
  have HZ8 : Hid ((w7.alloc (.cells #[.int .i64 0, .int .i64 0] 27)).heap.size = w7.heap.size + 1) := Lib.hid (by simp)
  generalize hgc : w7.heap.size = gc at *
  generalize w7.alloc (.cells #[.int .i64 0, .int .i64 0] 27) = w8 at *
  clear hgc HT7 HD7 HA7 HR7 HB7
  have HS9 := Lib.hid (box_reads w8 1052)
  rw [HZ8.out] at HS9
  have HC9 := Lib.hid (blk_alloc HC8.out (.cells #[.int .u32 1052] 56))
  have HT9 := Lib.hid (blk_alloc HT8.out (.cells #[.int .u32 1052] 56))
  have HD9 := Lib.hid (blk_alloc HD8.out (.cells #[.int .u32 1052] 56))
  have HR9 := Lib.hid (HR8.out.below (below_alloc (Below.refl w8.heap.size w8) (.cells #[.int .u32 1052] 56)))
  have HB9 := Lib.hid (below_alloc HB8.out (.cells #[.int .u32 1052] 56))
  generalize w8.alloc (.cells #[.int .u32 1052] 56) = w9 at *
  refine (PTopOne.pilcrowref01_Same.calls 9 A1 cp [1052] (some ⟨gc + 1, 0, none⟩) 1 [1052] true _ (kd_int HR9.out) HC.out (kd_int HS9.out) (Nat.le_refl _) same_a).mono ?_
  rintro en w10 ⟨rfl, ⟨n10, rfl⟩⟩
  have HC10 := Lib.hid (blk_drewN HC9.out n10)
  have HT10 := Lib.hid (blk_drewN HT9.out n10)
  have HD10 := Lib.hid (blk_drewN HD9.out n10)
  have HB10 : Hid (Below w.heap.size w (w9.drewN n10)) := Lib.hid (pw_below_drewN HB9.out n10)
  generalize w9.drewN n10 = w10 at *
  clear HC9 HT9 HD9 HB9 HC8 HT8 HD8 HB8 HR8 HR9 HS9 HA8 HZ8
  have d0 : w10.cell? ⟨gd, 0, none⟩ = some (.int .i64 0) := (blk_cell HD10.out 0).trans rfl
  have d1 : w10.cell? ⟨gd, 1, none⟩ = some (.int .i64 0) := (blk_cell HD10.out 1).trans rfl
  have e0 : w10.cell? ⟨gt, 0, none⟩ = some (.int .i64 0) := (blk_cell HT10.out 0).trans rfl
  have e1 : w10.cell? ⟨gt, 1, none⟩ = some (.int .i64 0) := (blk_cell HT10.out 1).trans rfl
  have f0 : w10.cell? ⟨gc, 0, none⟩ = some (.int .i64 0) := (blk_cell HC10.out 0).trans rfl
  have f1 : w10.cell? ⟨gc, 1, none⟩ = some (.int .i64 0) := (blk_cell HC10.out 1).trans rfl
  go_wp2_with fail
  refine (tally_a (w10.alloc (.cells #[.int .u32 65] 56)) ⟨w10.heap.size, 0, none⟩ 1 (Nat.le_refl _) (box_reads w10 65)).mono ?_
  rintro en w11 ⟨cs, rfl, hcs, hc4, hb11⟩
  have HB11 := Lib.hid ((below_alloc HB10.out (.cells #[.int .u32 65] 56)).trans (hb11.mono (Nat.le_trans HB10.out.size (by simp))))
  clear d0 d1 e0 e1 f0 f1 hb11
  have hfi : ∀ W : World, Sem.run Tryz.prog (Instr.field 63 (.agg cs) 4) W = .ok (.int .i64 1) W := fun W => by
    obtain ⟨l⟩ := cs
    match l, hcs, hc4 with
    | [x0, x1, x2, x3, x4, x5, x6, x7, x8, x9, x10], _, h =>
      have e : x4 = .int .i64 1 := by simpa using h
      subst e
      exact field_4 x0 x1 x2 x3 _ x5 x6 x7 x8 x9 x10 W
  clear hcs hc4
  go_wp2_with fail
  go_ret
  exact ⟨rfl, HB11.out⟩
end Go.Proofs.YtcgoofefiiihnaaGreat
