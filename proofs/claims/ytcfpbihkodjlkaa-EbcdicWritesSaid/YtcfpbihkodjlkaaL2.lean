/- Ebcdic: the law Writes, walked. -/
import Derived.Test.YtcfpbihkodjlkaaLc
import Derived.Deep.RegionHeld3
namespace Go.Proofs.Ytcfpbihkodjlkaa
open Go.RowKit Go.Proofs.YtcfpbihkodjlkaaW.PrintWords Go.Proofs.YtcfpbihkodjlkaaW.PrintMore
open M (bytesOf_range getD_bt bytes_mid)
open M (isB isB_range is_any)
set_option linter.unusedVariables false
set_option linter.unusedSimpArgs false
set_option maxRecDepth 20000
theorem writes_great (A0 : Option Addr) (n0 c0 : Nat) (A1 A2 : Option Addr) (n1 c1 n2 c2 : Nat) (w : World) (hg : (decide (400 < (n0 : Int)) || (decide (200 < n1) || decide (200 < n2))) = true) :
    Calls Try.prog 5 #[.slice A0 n0 c0, .slice A1 n1 c1, .slice A2 n2 c2] w fun en w' => en = .returned (.bool true) ∧ Below w.heap.size w w' := by
  go_enter Try.func5, Try.ntmps5
  go_wp2_with fail
  refine (awake_any _).mono ?_
  rintro en w2 ⟨rfl, hb2⟩
  have HB2 := Lib.hid hb2
  clear hb2
  go_wp2_with fail
  refine (great_any _ _ _ _ _ _ _ _).mono ?_
  rw [hg]
  rintro en w3 ⟨rfl, rfl⟩
  go_wp2_with fail
  refine (awake_any _).mono ?_
  rintro en w4 ⟨rfl, hb4⟩
  have HB4 := Lib.hid (HB2.out.trans (hb4.mono HB2.out.size))
  clear hb4
  go_wp2_with fail
  go_ret
  exact ⟨rfl, HB4.out⟩
set_option maxHeartbeats 8000000 in
theorem writes_walk {w : World} (A0 : Option Addr) (n0 c0 : Nat) (ls : List Int) (hc0 : n0 ≤ c0) (h0 : ReadsInt w .u32 A0 n0 ls) (hwf : ∀ k, 0 ≤ ls.getD k 0 ∧ ls.getD k 0 ≤ 4294967295) (A1 A2 : Option Addr) (n1 c1 n2 c2 : Nat) (ps rs : List Int) (hp : ReadsInt w .i64 A1 n1 ps) (hr : ReadsInt w .i64 A2 n2 rs)
    (hg : (decide (400 < (n0 : Int)) || (decide (200 < n1) || decide (200 < n2))) = false) :
    Calls Try.prog 5 #[.slice A0 n0 c0, .slice A1 n1 c1, .slice A2 n2 c2] w fun en w' => en = .returned (.bool true) ∧ Below w.heap.size w w' := by
  have heq := eqF
  have huF := Try.underlying42
  obtain ⟨hz0, hz1, hz2⟩ : n0 ≤ 400 ∧ n1 ≤ 200 ∧ n2 ≤ 200 := by simp at hg; omega
  have H0 := Lib.hid h0
  have HWF := Lib.hid hwf
  have HP := Lib.hid hp
  have HR := Lib.hid hr
  have H0L := Lib.hid (reads_lt h0)
  have HPL := Lib.hid (reads_lt hp)
  have HRL := Lib.hid (reads_lt hr)
  clear hp hr h0 hwf
  go_enter Try.func5, Try.ntmps5
  go_wp2_with fail
  refine (awake_any _).mono ?_
  rintro en w2 ⟨rfl, hb2⟩
  have HB2 := Lib.hid hb2
  clear hb2
  go_wp2_with fail
  refine (great_any _ _ _ _ _ _ _ _).mono ?_
  rw [hg]
  rintro en w3 ⟨rfl, rfl⟩
  go_wp2_with fail
  refine (newe_any _).mono ?_
  rintro en w3 ⟨g, tb3, rfl, hl3, hx3, ht3, hd3, hb3⟩
  have HS2 : Hid (w.heap.size ≤ g) := Lib.hid (by have := HB2.out.size; omega)
  have HB3 := Lib.hid (HB2.out.trans (hb3.mono HB2.out.size))
  have HGL := Lib.hid hd3.lt
  have HD3 := Lib.hid hd3
  have HTa3 := Lib.hid ht3
  have HTn3 : Hid (tb3 ≠ g) := Lib.hid (Nat.ne_of_lt hx3)
  have HLt3 : Hid (w2.heap.size < g) := Lib.hid (by omega)
  clear hd3 hb3 ht3 hl3 hx3
  go_wp2_with fail
  refine (write_any A0 n0 c0 ls A1 A2 n1 c1 n2 c2 ps rs (es0 tb3) trivial (by omega) hc0 (by omega) (by omega) (H0.out.below HB3.out) HWF.out (HP.out.below HB3.out) (HR.out.below HB3.out) (fun ad h h0 => by have := H0L.out ad h h0; have := HS2.out; omega) (fun ad h h0 => by have := HPL.out ad h h0; have := HS2.out; omega) (fun ad h h0 => by have := HRL.out ad h h0; have := HS2.out; omega) ⟨#[]⟩ rfl HTa3.out HTn3.out HD3.out).mono ?_
  rintro en w4 ⟨m, x, y, rfl, hm, hsc, hx, hkp, hy, hcase⟩
  have hends : m = ls.length ∨ isB (ls.getD m 0) = false := by
    rcases hcase with ⟨h1, _⟩ | ⟨_, h1, _⟩
    · exact .inl h1
    · exact .inr h1
  have hb34 := HB3.out.trans (hkp.below (B := w.heap.size) HB3.out.size (fun k hk => by rw [hk]; exact HS2.out))
  have HB4 := Lib.hid hb34
  have H04 := Lib.hid (H0.out.below hb34)
  have HK4 := Lib.hid hkp
  have HM := Lib.hid hm
  have HSC := Lib.hid hsc
  have HX := Lib.hid hx
  have HY := Lib.hid hy
  have HEND := Lib.hid hends
  have HL := Lib.hid H0.out.1
  have HCASE := Lib.hid hcase
  clear hb34 hkp hm hsc hx hy hends hcase
  rcases HCASE.out with ⟨h1, h2⟩ | ⟨h1, _, h2⟩
  · have HMN : Hid (n0 = m) := Lib.hid (HL.out.symm.trans h1.symm)
    have HE4 : Hid (Enc w4 g 69 (n0 : Int) 0 0 true y (eown (erun (es0 tb3) (ls.take m)).2)) := Lib.hid (by rw [HMN.out]; exact h2)
    clear h2 HCASE
    go_wp2_with fail
    have hf5 := first_any H04.out hc0 (by omega) m HM.out HSC.out HEND.out
    rw [if_neg (by omega : ¬ m < ls.length)] at hf5
    refine hf5.mono ?_
    rintro en w5 ⟨rfl, n5, rfl⟩
    have hk5 : Kp (fun k => k = w4.heap.size) w4 (w4.drewN n5) := (Kp.refl _ _).drewN _
    generalize w4.drewN n5 = w5 at *
    have HK5 := Lib.hid hk5
    clear hk5 hf5
    go_wp2_with fail
    have hf6 := failed_any 2 (-1) w5
    rw [if_neg (by decide : ¬ (2 : Int) = 0)] at hf6
    refine hf6.mono ?_
    rintro en w6 ⟨rfl, hb6⟩
    have HB6 := Lib.hid hb6
    clear hb6 hf6
    go_wp2_with fail
    have hc7 : (w6.alloc (Obj.cells #[Value.int IntKind.i64 0, Value.int IntKind.i64 0] 42)).cell? ⟨w6.heap.size, 0, none⟩ = some (.int .i64 0) := blk_cell (blk_new _ _) 0
    have hd7 : (w6.alloc (Obj.cells #[Value.int IntKind.i64 0, Value.int IntKind.i64 0] 42)).cell? ⟨w6.heap.size, 1, none⟩ = some (.int .i64 0) := blk_cell (blk_new _ _) 1
    have hk7 : Kp (fun k => k = w6.heap.size) w6 ((w6.alloc (Obj.cells #[Value.int IntKind.i64 0, Value.int IntKind.i64 0] 42)).drew) := ((Kp.refl _ _).alloc _).drew
    have hk47 := ((HK5.out.below (Nat.le_refl _) (fun k h => Nat.le_of_eq h.symm)).trans (HB6.out.mono HK5.out.size)).trans ((hk7.below (Nat.le_refl _) (fun k h => Nat.le_of_eq h.symm)).mono (Nat.le_trans HK5.out.size HB6.out.size))
    have hl7 : w6.heap.size < (w6.alloc (Obj.cells #[Value.int IntKind.i64 0, Value.int IntKind.i64 0] 42)).heap.size := blk_lt (blk_new _ _)
    have HK47 := Lib.hid hk47
    generalize w6.alloc (Obj.cells #[Value.int IntKind.i64 0, Value.int IntKind.i64 0] 42) = w7 at *
    have HGL7 : Hid (w6.heap.size < w7.drew.heap.size) := Lib.hid hl7
    generalize w6.heap.size = gf at *
    have HE7 := Lib.hid (blk_below HE4.out HK47.out)
    have hml : m ≤ n0 := by have := HM.out; have := HL.out; omega
    have H07 : Hid (ReadsInt w7.drew .u32 A0 n0 (ls.take m)) := Lib.hid (by have h9 := (H04.out.below HK47.out).take_ m hml; rw [show n0 = m from HMN.out]; exact h9)
    have HXB : Hid (∀ x8, bytesOf x8 = txt (ls.take m) → x8 = x) := Lib.hid (fun x8 h8 => bytes_inj (h8.trans ((erun_txt _ (fun c hc => ⟨by obtain ⟨k, hk, rfl⟩ := List.mem_take_iff_getElem.1 hc; have := HWF.out k; rw [List.getD_eq_getElem?_getD, List.getElem?_eq_getElem (by omega)] at this; exact this.1, HSC.out c hc⟩)).symm.trans HX.out.symm)))
    have HWT : Hid (∀ k, 0 ≤ (ls.take m).getD k 0 ∧ (ls.take m).getD k 0 ≤ 4294967295) := Lib.hid (fun k => by
      rw [List.getD_eq_getElem?_getD, List.getElem?_take]
      split
      · have := HWF.out k
        rw [List.getD_eq_getElem?_getD] at this
        exact this
      · simp)
    clear hk7 hk47 hl7
    obtain ⟨i0, hi, hz0', hz1', hz2'⟩ := info_parts infoU
    have hcut1 := cut_to (P := Try.prog) 29 22 .i64 Try.underlying29 hi A0 n0 c0 (n0 : Int) (by omega) (by omega) hc0
    rw [Int.toNat_natCast] at hcut1
    have hcs : w7.cell? ⟨gf, 0, none⟩ = some (.int .i64 0) ∧ w7.cell? ⟨gf, 1, none⟩ = some (.int .i64 0) := ⟨hc7, hd7⟩
    have hee : (0 == (0 : Int) && 0 == (0 : Int)) = true := by simp
    have hys : ((y.size : Int) == 0) = true := by rw [HY.out]; rfl
    go_region_held3 (fun w' => w'.cell? ⟨gf, 0, none⟩ = some (.int .i64 0) ∧ w'.cell? ⟨gf, 1, none⟩ = some (.int .i64 0)) (first | assumption | go_keep) (first
      | (go_at_call 25; refine (refbytes_any (w := w7.drew) H07.out hc0 (by omega) HWT.out HSC.out).mono ?_; rintro e w8 ⟨x8, rfl, hx8, hb8⟩; obtain rfl := HXB.out x8 hx8; have HB8 := Lib.hid hb8; have HE8 := Lib.hid (blk_below HE7.out hb8); have hcs8 : w8.cell? ⟨gf, 0, none⟩ = some (.int .i64 0) ∧ w8.cell? ⟨gf, 1, none⟩ = some (.int .i64 0) := ⟨(World.cell?_of_block (w := w7.drew) (hb8.block _ HGL7.out)).trans hcs.1, (World.cell?_of_block (w := w7.drew) (hb8.block _ HGL7.out)).trans hcs.2⟩; clear hx8 hb8)
      | (go_at_call 20; refine (fail_any HE8.out).mono ?_; rintro e w9 ⟨rfl, hb9⟩; have HB9 := Lib.hid hb9; have HE9 := Lib.hid (blk_below HE8.out hb9); have hcs9 : w9.cell? ⟨gf, 0, none⟩ = some (.int .i64 0) ∧ w9.cell? ⟨gf, 1, none⟩ = some (.int .i64 0) := ⟨(World.cell?_of_block (w := w8) (hb9.block _ (Nat.lt_of_lt_of_le HGL7.out HB8.out.size))).trans hcs8.1, (World.cell?_of_block (w := w8) (hb9.block _ (Nat.lt_of_lt_of_le HGL7.out HB8.out.size))).trans hcs8.2⟩; clear hb9)
      | (go_at_call 22; refine (at_any HE9.out).mono ?_; rintro e w' ⟨rfl, rfl⟩)
      | (go_at_call 26; refine (enc_kept HE9.out).mono ?_; rintro e w' ⟨rfl, rfl⟩))
    go_wp2_with fail
    go_ret
    refine ⟨rfl, ?_⟩
    have b7 := HB4.out.trans (HK47.out.mono HB4.out.size)
    have b8 := b7.trans (HB8.out.mono b7.size)
    exact b8.trans (HB9.out.mono b8.size)
  · have HE4 := Lib.hid h2
    clear h2 HCASE
    go_wp2_with fail
    have hf5 := first_any H04.out hc0 (by omega) m HM.out HSC.out HEND.out
    rw [if_pos h1] at hf5
    refine hf5.mono ?_
    rintro en w5 ⟨rfl, n5, rfl⟩
    have hk5 : Kp (fun k => k = w4.heap.size) w4 (w4.drewN n5) := (Kp.refl _ _).drewN _
    generalize w4.drewN n5 = w5 at *
    have HK5 := Lib.hid hk5
    clear hk5 hf5
    go_wp2_with fail
    have hf6 := failed_any 2 (m) w5
    rw [if_neg (by decide : ¬ (2 : Int) = 0)] at hf6
    refine hf6.mono ?_
    rintro en w6 ⟨rfl, hb6⟩
    have HB6 := Lib.hid hb6
    clear hb6 hf6
    go_wp2_with fail
    have hc7 : (w6.alloc (Obj.cells #[Value.int IntKind.i64 2, Value.int IntKind.i64 (m : Int)] 42)).cell? ⟨w6.heap.size, 0, none⟩ = some (.int .i64 2) := blk_cell (blk_new _ _) 0
    have hd7 : (w6.alloc (Obj.cells #[Value.int IntKind.i64 2, Value.int IntKind.i64 (m : Int)] 42)).cell? ⟨w6.heap.size, 1, none⟩ = some (.int .i64 (m : Int)) := blk_cell (blk_new _ _) 1
    have hk7 : Kp (fun k => k = w6.heap.size) w6 ((w6.alloc (Obj.cells #[Value.int IntKind.i64 2, Value.int IntKind.i64 (m : Int)] 42)).drew) := ((Kp.refl _ _).alloc _).drew
    have hk47 := ((HK5.out.below (Nat.le_refl _) (fun k h => Nat.le_of_eq h.symm)).trans (HB6.out.mono HK5.out.size)).trans ((hk7.below (Nat.le_refl _) (fun k h => Nat.le_of_eq h.symm)).mono (Nat.le_trans HK5.out.size HB6.out.size))
    have hl7 : w6.heap.size < (w6.alloc (Obj.cells #[Value.int IntKind.i64 2, Value.int IntKind.i64 (m : Int)] 42)).heap.size := blk_lt (blk_new _ _)
    have HK47 := Lib.hid hk47
    generalize w6.alloc (Obj.cells #[Value.int IntKind.i64 2, Value.int IntKind.i64 (m : Int)] 42) = w7 at *
    have HGL7 : Hid (w6.heap.size < w7.drew.heap.size) := Lib.hid hl7
    generalize w6.heap.size = gf at *
    have HE7 := Lib.hid (blk_below HE4.out HK47.out)
    have hml : m ≤ n0 := by have := HM.out; have := HL.out; omega
    have H07 := Lib.hid ((H04.out.below HK47.out).take_ m hml)
    have HXB : Hid (∀ x8, bytesOf x8 = txt (ls.take m) → x8 = x) := Lib.hid (fun x8 h8 => bytes_inj (h8.trans ((erun_txt _ (fun c hc => ⟨by obtain ⟨k, hk, rfl⟩ := List.mem_take_iff_getElem.1 hc; have := HWF.out k; rw [List.getD_eq_getElem?_getD, List.getElem?_eq_getElem (by omega)] at this; exact this.1, HSC.out c hc⟩)).symm.trans HX.out.symm)))
    have HWT : Hid (∀ k, 0 ≤ (ls.take m).getD k 0 ∧ (ls.take m).getD k 0 ≤ 4294967295) := Lib.hid (fun k => by
      rw [List.getD_eq_getElem?_getD, List.getElem?_take]
      split
      · have := HWF.out k
        rw [List.getD_eq_getElem?_getD] at this
        exact this
      · simp)
    clear hk7 hk47 hl7
    obtain ⟨i0, hi, hz0', hz1', hz2'⟩ := info_parts infoU
    have hcut1 := cut_to (P := Try.prog) 29 22 .i64 Try.underlying29 hi A0 n0 c0 (m : Int) (by omega) (by omega) hc0
    rw [Int.toNat_natCast] at hcut1
    have hcs : w7.cell? ⟨gf, 0, none⟩ = some (.int .i64 2) ∧ w7.cell? ⟨gf, 1, none⟩ = some (.int .i64 (m : Int)) := ⟨hc7, hd7⟩
    have hee : (2 == (2 : Int) && (m : Int) == ((m : Int) : Int)) = true := by simp
    have hys : ((y.size : Int) == 0) = true := by rw [HY.out]; rfl
    go_region_held3 (fun w' => w'.cell? ⟨gf, 0, none⟩ = some (.int .i64 2) ∧ w'.cell? ⟨gf, 1, none⟩ = some (.int .i64 (m : Int))) (first | assumption | go_keep) (first
      | (go_at_call 25; refine (refbytes_any (w := w7.drew) H07.out (Nat.le_trans hml hc0) (by omega) HWT.out HSC.out).mono ?_; rintro e w8 ⟨x8, rfl, hx8, hb8⟩; obtain rfl := HXB.out x8 hx8; have HB8 := Lib.hid hb8; have HE8 := Lib.hid (blk_below HE7.out hb8); have hcs8 : w8.cell? ⟨gf, 0, none⟩ = some (.int .i64 2) ∧ w8.cell? ⟨gf, 1, none⟩ = some (.int .i64 (m : Int)) := ⟨(World.cell?_of_block (w := w7.drew) (hb8.block _ HGL7.out)).trans hcs.1, (World.cell?_of_block (w := w7.drew) (hb8.block _ HGL7.out)).trans hcs.2⟩; clear hx8 hb8)
      | (go_at_call 20; refine (fail_any HE8.out).mono ?_; rintro e w9 ⟨rfl, hb9⟩; have HB9 := Lib.hid hb9; have HE9 := Lib.hid (blk_below HE8.out hb9); have hcs9 : w9.cell? ⟨gf, 0, none⟩ = some (.int .i64 2) ∧ w9.cell? ⟨gf, 1, none⟩ = some (.int .i64 (m : Int)) := ⟨(World.cell?_of_block (w := w8) (hb9.block _ (Nat.lt_of_lt_of_le HGL7.out HB8.out.size))).trans hcs8.1, (World.cell?_of_block (w := w8) (hb9.block _ (Nat.lt_of_lt_of_le HGL7.out HB8.out.size))).trans hcs8.2⟩; clear hb9)
      | (go_at_call 22; refine (at_any HE9.out).mono ?_; rintro e w' ⟨rfl, rfl⟩)
      | (go_at_call 26; refine (enc_kept HE9.out).mono ?_; rintro e w' ⟨rfl, rfl⟩))
    go_wp2_with fail
    go_ret
    refine ⟨rfl, ?_⟩
    have b7 := HB4.out.trans (HK47.out.mono HB4.out.size)
    have b8 := b7.trans (HB8.out.mono b7.size)
    exact b8.trans (HB9.out.mono b8.size)
theorem writes_all {w : World} (A0 : Option Addr) (n0 c0 : Nat) (ls : List Int) (hc0 : n0 ≤ c0) (h0 : ReadsInt w .u32 A0 n0 ls) (hwf : ∀ z ∈ ls, (Lit.int .u32 z).wf = true) (A1 : Option Addr) (n1 c1 : Nat) (ps : List Int) (hc1 : n1 ≤ c1) (hp : ReadsInt w .i64 A1 n1 ps) (_ : ∀ z ∈ ps, (Lit.int .i64 z).wf = true) (A2 : Option Addr) (n2 c2 : Nat) (rs : List Int) (hc2 : n2 ≤ c2) (hr : ReadsInt w .i64 A2 n2 rs) (_ : ∀ z ∈ rs, (Lit.int .i64 z).wf = true) :
    Calls Try.prog 5 #[.slice A0 n0 c0, .slice A1 n1 c1, .slice A2 n2 c2] w fun en w' => en = .returned (.bool true) ∧ Below w.heap.size w w' := by
  have hr32 := fun k => range_u32 hwf k
  cases hg : (decide (400 < (n0 : Int)) || (decide (200 < n1) || decide (200 < n2)))
  · exact writes_walk A0 n0 c0 ls hc0 h0 (fun k => by rw [List.getD_eq_getElem?_getD]; exact hr32 k) A1 A2 n1 c1 n2 c2 ps rs hp hr hg
  · exact writes_great A0 n0 c0 A1 A2 n1 c1 n2 c2 w hg
end Go.Proofs.Ytcfpbihkodjlkaa
