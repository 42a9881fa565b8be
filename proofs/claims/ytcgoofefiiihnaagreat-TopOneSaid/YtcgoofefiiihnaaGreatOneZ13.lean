/- Texts of this claim, merged; without what the law does not lean on: Rb Re Rr Rp Rq. -/
import Derived.Test.YtcgoofefiiihnaaGreatOneZ12
import Derived.Lib.OthersKept
import Derived.Deep.AppendLies
namespace Go.Proofs.YtcgoofefiiihnaaGreat
open Go.RowKit Go.Proofs.YtcgoofefiiihnaaGreatW.PrintWords Go.Proofs.YtcgoofefiiihnaaGreatW.PrintMore
set_option linter.unusedVariables false
set_option linter.unusedSimpArgs false
set_option maxRecDepth 20000
abbrev CrAt (w : World) (g : Nat) (c z : Int) (l : Value) : Prop := w.heap[g]? = some (.cells #[.int .i64 c, .int .i64 z, l] 53 (0, 0))
abbrev Both (g gc : Nat) (k : Nat) : Prop := k = g ∨ k = gc
theorem kp_g {g gc : Nat} {w w' : World} (h : Kp (fun k => k = g) w w') : Kp (Both g gc) w w' := h.mono (fun _ hk => .inl (.inl hk))
theorem kp_c {g gc : Nat} {w w' : World} (h : Kp (fun k => k = gc) w w') : Kp (Both g gc) w w' := h.mono (fun _ hk => .inl (.inr hk))
theorem kp_iter (w : World) (k : Nat) (s : ByteArray) (p : Nat) : Kp (fun j => j = k) w (w.iterAt k s p) := ⟨rfl, rfl, rfl, by simp [World.iterAt], fun i hi hn => by simp [World.iterAt, Array.getElem?_setIfInBounds, Ne.symm hn]⟩
def RHeadPost (w : World) (g gc : Nat) (s : ByteArray) (en : Ending) (w' : World) : Prop :=
  Kp (Both g gc) w w' ∧ ((en = .returned (.bool true) ∧ ∃ c z : Int, 0 ≤ c ∧ c ≤ 255 ∧ 1 ≤ z ∧ z ≤ 65536 ∧ 14 ≤ s.size ∧ (bytesOf s).take 14 = headF c z ∧ RdAt w' g s 14 0 0 ∧ CrAt w' gc c z (.slice none 0 0)) ∨
    (en = .returned (.bool false) ∧ ∃ (a e f c z : Int), e ≠ 0 ∧ RdAt w' g s a e f ∧ CrAt w' gc c z (.slice none 0 0)))
theorem head_no {w w' : World} {g gc : Nat} {s : ByteArray} {a e f c z : Int} (hk : Kp (Both g gc) w w') (he : e ≠ 0) (hr : RdAt w' g s a e f) (hc : CrAt w' gc c z (.slice none 0 0)) : RHeadPost w g gc s (.returned (.bool false)) w' := ⟨hk, .inr ⟨rfl, a, e, f, c, z, he, hr, hc⟩⟩
theorem ext_take {s want : ByteArray} {a : Nat} (h : s.extract a (a + want.size) = want) (hz : a + want.size ≤ s.size) : (bytesOf s).take (a + want.size) = (bytesOf s).take a ++ bytesOf want := by
  have e : bytesOf (s.extract a (a + want.size)) = ((bytesOf s).drop a).take want.size := by
    rw [bytesOf, bytesOf, ByteArray.data_extract, Array.toList_extract, List.extract_eq_take_drop, ← List.map_drop, ← List.map_take, show a + want.size - a = want.size by omega]
  rw [h] at e
  rw [e, List.take_add]
theorem head_fin {w w1 : World} {g gc : Nat} {s : ByteArray} {c z : Int} {bq : Bool} (hk : Kp (Both g gc) w w1) (hc : CrAt w1 gc c z (.slice none 0 0)) (hc0 : 0 ≤ c) (hc1 : c ≤ 255) (hz0 : 1 ≤ z) (hz1 : z ≤ 65536) (h10 : 10 ≤ s.size) (ht : (bytesOf s).take 10 = headL c z)
    (hq : (Ending.returned (.bool bq) = .returned (.bool true) ∧ (10 : Int) + (strOfNums (le4 (ofF (s.extract 0 10)))).size ≤ s.size ∧ s.extract (10 : Int).toNat ((10 : Int) + (strOfNums (le4 (ofF (s.extract 0 10)))).size).toNat = strOfNums (le4 (ofF (s.extract 0 10))) ∧ RdAt w1 g s (10 + (strOfNums (le4 (ofF (s.extract 0 10)))).size) 0 0) ∨ (Ending.returned (.bool bq) = .returned (.bool false) ∧ ∃ e1 f1, e1 ≠ 0 ∧ RdAt w1 g s 10 e1 f1)) :
    RHeadPost w g gc s (.returned (.bool bq)) w1 := by
  rcases hq with ⟨he, hle, hx, hr⟩ | ⟨he, e1, f1, he1, hr⟩
  · rw [le4_size] at hle hx hr
    have hle2 : 14 ≤ s.size := by omega
    have h9 := ext_take (s := s) (want := strOfNums (le4 (ofF (s.extract 0 10)))) (a := 10) (by rw [le4_size]; exact hx) (by rw [le4_size]; exact hle2)
    rw [le4_size, ht, le4_bytes, ofF, (extract_to s 10 h10).2.1, ht] at h9
    exact ⟨hk, .inl ⟨he, c, z, hc0, hc1, hz0, hz1, hle2, h9, hr, hc⟩⟩
  · exact ⟨hk, .inr ⟨he, 10, e1, f1, c, z, he1, hr, hc⟩⟩
theorem take_ten {s : ByteArray} {c : Int} (h : (bytesOf s).take 6 = [80, 73, 76, 67, 1, c]) (h10 : 10 ≤ s.size) : (bytesOf s).take 10 = headL c (numF (s.extract 6 s.size)) := by
  have e := numF_drop s 6 (by omega)
  rw [show (10 : Nat) = 6 + 4 from rfl, List.take_add, h, ← e]
  rfl
set_option maxHeartbeats 8000000 in
theorem rhead_any {w : World} {g gc : Nat} {s : ByteArray} (hs : s.size ≤ 100000) (hne : gc ≠ g) (h : RdAt w g s 0 0 0) (hc : CrAt w gc 0 0 (.slice none 0 0)) :
    Calls Tryz.prog 75 #[.pointer (some ⟨g, 0, none⟩), .pointer (some ⟨gc, 0, none⟩)] w (RHeadPost w g gc s) := by
  have HR := Lib.hid h
  have HC := Lib.hid hc
  have hgl := blk_lt h
  have hcl := blk_lt hc
  clear h hc
  go_enter Tryz.func75, Tryz.ntmps75
  go_wp2_with fail
  have HR1 : Hid (RdAt (w.iter ⟨#[80, 73, 76, 67]⟩ 0) g s 0 0 0) := Lib.hid (blk_alloc HR.out _)
  have HC1 : Hid (CrAt (w.iter ⟨#[80, 73, 76, 67]⟩ 0) gc 0 0 (.slice none 0 0)) := Lib.hid (blk_alloc HC.out _)
  have HI1 := Lib.hid (World.iter_heap w ⟨#[80, 73, 76, 67]⟩ 0)
  have HK1 : Hid (Kp (Both g gc) w (w.iter ⟨#[80, 73, 76, 67]⟩ 0)) := Lib.hid ((Kp.refl _ w).alloc _)
  generalize w.iter ⟨#[80, 73, 76, 67]⟩ 0 = w1 at *
  generalize hBB : w.heap.size = B at *
  have HBB := Lib.hid hBB
  clear hBB
  go_loopw [5] (fun _ wr => ∃ p : Nat, p ≤ 4 ∧ wr.heap[B]? = some (.stringIter ⟨#[80, 73, 76, 67]⟩ p) ∧ RdAt wr g s (p : Int) 0 0 ∧ CrAt wr gc 0 0 (.slice none 0 0) ∧ Kp (Both g gc) w wr ∧ p ≤ s.size ∧ (bytesOf s).take p = [80, 73, 76, 67].take p) (fun _ wr => 4 - (match wr.cell? ⟨g, 1, none⟩ with | some (.int _ n) => n.toNat | _ => 0))
  case atStart => exact ⟨0, by omega, HI1.out, HR1.out, HC1.out, HK1.out, by omega, rfl⟩
  case round =>
    clear HI1 HR1 HC1 HK1
    obtain ⟨p, hp, hi, hr, hcr, hk, hps, htk⟩ := hrel
    have HI := Lib.hid hi
    have HR2 := Lib.hid hr
    have HC2 := Lib.hid hcr
    have HK2 := Lib.hid hk
    have HT := Lib.hid htk
    have hc1 : wr.cell? ⟨g, 1, none⟩ = some (.int .i64 (p : Int)) := (blk_cell hr 1).trans rfl
    have HM : Hid ((match wr.cell? ⟨g, 1, none⟩ with | some (.int _ n) => n.toNat | _ => 0) = p) := Lib.hid (by rw [hc1]; simp)
    clear hi hr hcr hk htk hc1
    have hp5 : p = 0 ∨ p = 1 ∨ p = 2 ∨ p = 3 ∨ p = 4 := by omega
    rcases hp5 with rfl | rfl | rfl | rfl | rfl
    · have hnx : ∀ ty, (Instr.next (.pointer (some ⟨B, 0, none⟩)) true ty).run Tryz.prog wr = _ := fun ty => Go.Lib.run_next_ascii_at wr B ⟨#[80, 73, 76, 67]⟩ 0 ty HI.out (by decide) (by decide)
      have hki := kp_iter wr B ⟨#[80, 73, 76, 67]⟩ 1
      have HR3 : Hid (RdAt (wr.iterAt B ⟨#[80, 73, 76, 67]⟩ 1) g s 0 0 0) := Lib.hid (hki.blk HR2.out (fun h => by omega))
      have HC3 := Lib.hid (hki.blk HC2.out (fun h => by omega))
      have HK3 : Hid (Kp (Both g gc) w (wr.iterAt B ⟨#[80, 73, 76, 67]⟩ 1)) := Lib.hid (HK2.out.trans hki (fun k hk => .inr (by have := HBB.out; omega)))
      have HI3 := Lib.hid (Go.Lib.iterAt_heap wr B ⟨#[80, 73, 76, 67]⟩ 0 1 HI.out)
      have hwant : (⟨#[80, 73, 76, 67]⟩ : ByteArray).extract 0 1 = ⟨#[80]⟩ := by rfl
      clear hki
      go_wp2_with fail
      (try rw [hwant])
      clear hnx hwant HI
      generalize wr.iterAt B ⟨#[80, 73, 76, 67]⟩ 1 = w2 at *
      refine (same_any ⟨#[80]⟩ 7 (by decide) hs (by decide) (by decide) (by omega) HR3.out).mono ?_
      rintro en w3 ⟨hk3, hq⟩
      have HK4 := Lib.hid (HK3.out.tr (kp_g (gc := gc) hk3))
      have HC4 := Lib.hid (hk3.blk HC3.out hne)
      have HI4 := Lib.hid (hk3.blk HI3.out (fun h => by omega))
      clear hk3 HK3 HC3 HI3 HR3
      rcases hq with ⟨rfl, hle, hx, hr3⟩ | ⟨rfl, e1, f1, he1, hr3⟩
      · have HR4 : Hid (RdAt w3 g s 1 0 0) := Lib.hid hr3
        have hle2 : 1 ≤ s.size := by
          have h9 : (0 : Int) + ((1 : Nat) : Int) ≤ s.size := hle
          omega
        have HT4 : Hid ((bytesOf s).take 1 = [80, 73, 76, 67].take 1) := Lib.hid (by
          have h9 := ext_take (s := s) (want := ⟨#[80]⟩) (a := 0) hx hle2
          rw [HT.out] at h9
          exact h9)
        have hc9 : w3.cell? ⟨g, 1, none⟩ = some (.int .i64 1) := (blk_cell hr3 1).trans rfl
        have HM4 : Hid ((match w3.cell? ⟨g, 1, none⟩ with | some (.int _ n) => n.toNat | _ => 0) = 1) := Lib.hid (by rw [hc9]; rfl)
        clear hle hx hr3 hc9
        go_wp2_with fail
        refine ⟨⟨1, by decide, HI4.out, HR4.out, HC4.out, HK4.out, hle2, HT4.out⟩, ?_⟩
        rw [HM.out, HM4.out]
        decide
      · have HR4 := Lib.hid hr3
        clear hr3
        go_wp2_with fail
        go_ret
        exact head_no HK4.out he1 HR4.out HC4.out
    · have hnx : ∀ ty, (Instr.next (.pointer (some ⟨B, 0, none⟩)) true ty).run Tryz.prog wr = _ := fun ty => Go.Lib.run_next_ascii_at wr B ⟨#[80, 73, 76, 67]⟩ 1 ty HI.out (by decide) (by decide)
      have hki := kp_iter wr B ⟨#[80, 73, 76, 67]⟩ 2
      have HR3 : Hid (RdAt (wr.iterAt B ⟨#[80, 73, 76, 67]⟩ 2) g s 1 0 0) := Lib.hid (hki.blk HR2.out (fun h => by omega))
      have HC3 := Lib.hid (hki.blk HC2.out (fun h => by omega))
      have HK3 : Hid (Kp (Both g gc) w (wr.iterAt B ⟨#[80, 73, 76, 67]⟩ 2)) := Lib.hid (HK2.out.trans hki (fun k hk => .inr (by have := HBB.out; omega)))
      have HI3 := Lib.hid (Go.Lib.iterAt_heap wr B ⟨#[80, 73, 76, 67]⟩ 1 2 HI.out)
      have hwant : (⟨#[80, 73, 76, 67]⟩ : ByteArray).extract 1 2 = ⟨#[73]⟩ := by rfl
      clear hki
      go_wp2_with fail
      (try rw [hwant])
      clear hnx hwant HI
      generalize wr.iterAt B ⟨#[80, 73, 76, 67]⟩ 2 = w2 at *
      refine (same_any ⟨#[73]⟩ 7 (by decide) hs (by decide) (by decide) (by omega) HR3.out).mono ?_
      rintro en w3 ⟨hk3, hq⟩
      have HK4 := Lib.hid (HK3.out.tr (kp_g (gc := gc) hk3))
      have HC4 := Lib.hid (hk3.blk HC3.out hne)
      have HI4 := Lib.hid (hk3.blk HI3.out (fun h => by omega))
      clear hk3 HK3 HC3 HI3 HR3
      rcases hq with ⟨rfl, hle, hx, hr3⟩ | ⟨rfl, e1, f1, he1, hr3⟩
      · have HR4 : Hid (RdAt w3 g s 2 0 0) := Lib.hid hr3
        have hle2 : 2 ≤ s.size := by
          have h9 : (1 : Int) + ((1 : Nat) : Int) ≤ s.size := hle
          omega
        have HT4 : Hid ((bytesOf s).take 2 = [80, 73, 76, 67].take 2) := Lib.hid (by
          have h9 := ext_take (s := s) (want := ⟨#[73]⟩) (a := 1) hx hle2
          rw [HT.out] at h9
          exact h9)
        have hc9 : w3.cell? ⟨g, 1, none⟩ = some (.int .i64 2) := (blk_cell hr3 1).trans rfl
        have HM4 : Hid ((match w3.cell? ⟨g, 1, none⟩ with | some (.int _ n) => n.toNat | _ => 0) = 2) := Lib.hid (by rw [hc9]; rfl)
        clear hle hx hr3 hc9
        go_wp2_with fail
        refine ⟨⟨2, by decide, HI4.out, HR4.out, HC4.out, HK4.out, hle2, HT4.out⟩, ?_⟩
        rw [HM.out, HM4.out]
        decide
      · have HR4 := Lib.hid hr3
        clear hr3
        go_wp2_with fail
        go_ret
        exact head_no HK4.out he1 HR4.out HC4.out
    · have hnx : ∀ ty, (Instr.next (.pointer (some ⟨B, 0, none⟩)) true ty).run Tryz.prog wr = _ := fun ty => Go.Lib.run_next_ascii_at wr B ⟨#[80, 73, 76, 67]⟩ 2 ty HI.out (by decide) (by decide)
      have hki := kp_iter wr B ⟨#[80, 73, 76, 67]⟩ 3
      have HR3 : Hid (RdAt (wr.iterAt B ⟨#[80, 73, 76, 67]⟩ 3) g s 2 0 0) := Lib.hid (hki.blk HR2.out (fun h => by omega))
      have HC3 := Lib.hid (hki.blk HC2.out (fun h => by omega))
      have HK3 : Hid (Kp (Both g gc) w (wr.iterAt B ⟨#[80, 73, 76, 67]⟩ 3)) := Lib.hid (HK2.out.trans hki (fun k hk => .inr (by have := HBB.out; omega)))
      have HI3 := Lib.hid (Go.Lib.iterAt_heap wr B ⟨#[80, 73, 76, 67]⟩ 2 3 HI.out)
      have hwant : (⟨#[80, 73, 76, 67]⟩ : ByteArray).extract 2 3 = ⟨#[76]⟩ := by rfl
      clear hki
      go_wp2_with fail
      (try rw [hwant])
      clear hnx hwant HI
      generalize wr.iterAt B ⟨#[80, 73, 76, 67]⟩ 3 = w2 at *
      refine (same_any ⟨#[76]⟩ 7 (by decide) hs (by decide) (by decide) (by omega) HR3.out).mono ?_
      rintro en w3 ⟨hk3, hq⟩
      have HK4 := Lib.hid (HK3.out.tr (kp_g (gc := gc) hk3))
      have HC4 := Lib.hid (hk3.blk HC3.out hne)
      have HI4 := Lib.hid (hk3.blk HI3.out (fun h => by omega))
      clear hk3 HK3 HC3 HI3 HR3
      rcases hq with ⟨rfl, hle, hx, hr3⟩ | ⟨rfl, e1, f1, he1, hr3⟩
      · have HR4 : Hid (RdAt w3 g s 3 0 0) := Lib.hid hr3
        have hle2 : 3 ≤ s.size := by
          have h9 : (2 : Int) + ((1 : Nat) : Int) ≤ s.size := hle
          omega
        have HT4 : Hid ((bytesOf s).take 3 = [80, 73, 76, 67].take 3) := Lib.hid (by
          have h9 := ext_take (s := s) (want := ⟨#[76]⟩) (a := 2) hx hle2
          rw [HT.out] at h9
          exact h9)
        have hc9 : w3.cell? ⟨g, 1, none⟩ = some (.int .i64 3) := (blk_cell hr3 1).trans rfl
        have HM4 : Hid ((match w3.cell? ⟨g, 1, none⟩ with | some (.int _ n) => n.toNat | _ => 0) = 3) := Lib.hid (by rw [hc9]; rfl)
        clear hle hx hr3 hc9
        go_wp2_with fail
        refine ⟨⟨3, by decide, HI4.out, HR4.out, HC4.out, HK4.out, hle2, HT4.out⟩, ?_⟩
        rw [HM.out, HM4.out]
        decide
      · have HR4 := Lib.hid hr3
        clear hr3
        go_wp2_with fail
        go_ret
        exact head_no HK4.out he1 HR4.out HC4.out
    · have hnx : ∀ ty, (Instr.next (.pointer (some ⟨B, 0, none⟩)) true ty).run Tryz.prog wr = _ := fun ty => Go.Lib.run_next_ascii_at wr B ⟨#[80, 73, 76, 67]⟩ 3 ty HI.out (by decide) (by decide)
      have hki := kp_iter wr B ⟨#[80, 73, 76, 67]⟩ 4
      have HR3 : Hid (RdAt (wr.iterAt B ⟨#[80, 73, 76, 67]⟩ 4) g s 3 0 0) := Lib.hid (hki.blk HR2.out (fun h => by omega))
      have HC3 := Lib.hid (hki.blk HC2.out (fun h => by omega))
      have HK3 : Hid (Kp (Both g gc) w (wr.iterAt B ⟨#[80, 73, 76, 67]⟩ 4)) := Lib.hid (HK2.out.trans hki (fun k hk => .inr (by have := HBB.out; omega)))
      have HI3 := Lib.hid (Go.Lib.iterAt_heap wr B ⟨#[80, 73, 76, 67]⟩ 3 4 HI.out)
      have hwant : (⟨#[80, 73, 76, 67]⟩ : ByteArray).extract 3 4 = ⟨#[67]⟩ := by rfl
      clear hki
      go_wp2_with fail
      (try rw [hwant])
      clear hnx hwant HI
      generalize wr.iterAt B ⟨#[80, 73, 76, 67]⟩ 4 = w2 at *
      refine (same_any ⟨#[67]⟩ 7 (by decide) hs (by decide) (by decide) (by omega) HR3.out).mono ?_
      rintro en w3 ⟨hk3, hq⟩
      have HK4 := Lib.hid (HK3.out.tr (kp_g (gc := gc) hk3))
      have HC4 := Lib.hid (hk3.blk HC3.out hne)
      have HI4 := Lib.hid (hk3.blk HI3.out (fun h => by omega))
      clear hk3 HK3 HC3 HI3 HR3
      rcases hq with ⟨rfl, hle, hx, hr3⟩ | ⟨rfl, e1, f1, he1, hr3⟩
      · have HR4 : Hid (RdAt w3 g s 4 0 0) := Lib.hid hr3
        have hle2 : 4 ≤ s.size := by
          have h9 : (3 : Int) + ((1 : Nat) : Int) ≤ s.size := hle
          omega
        have HT4 : Hid ((bytesOf s).take 4 = [80, 73, 76, 67].take 4) := Lib.hid (by
          have h9 := ext_take (s := s) (want := ⟨#[67]⟩) (a := 3) hx hle2
          rw [HT.out] at h9
          exact h9)
        have hc9 : w3.cell? ⟨g, 1, none⟩ = some (.int .i64 4) := (blk_cell hr3 1).trans rfl
        have HM4 : Hid ((match w3.cell? ⟨g, 1, none⟩ with | some (.int _ n) => n.toNat | _ => 0) = 4) := Lib.hid (by rw [hc9]; rfl)
        clear hle hx hr3 hc9
        go_wp2_with fail
        refine ⟨⟨4, by decide, HI4.out, HR4.out, HC4.out, HK4.out, hle2, HT4.out⟩, ?_⟩
        rw [HM.out, HM4.out]
        decide
      · have HR4 := Lib.hid hr3
        clear hr3
        go_wp2_with fail
        go_ret
        exact head_no HK4.out he1 HR4.out HC4.out
    · have hnx : ∀ ty, (Instr.next (.pointer (some ⟨B, 0, none⟩)) true ty).run Tryz.prog wr = _ := fun ty => Go.Lib.run_next_end_at wr B _ 4 ty HI.out (by decide)
      clear HI HM
      have HR3 : Hid (RdAt (wr.alloc (.cells #[.int .u8 1] 5)) g s 4 0 0) := Lib.hid (blk_alloc HR2.out _)
      have HC3 := Lib.hid (blk_alloc HC2.out (.cells #[.int .u8 1] 5))
      have HK3 : Hid (Kp (Both g gc) w (wr.alloc (.cells #[.int .u8 1] 5))) := Lib.hid (HK2.out.alloc _)
      have hcv := conv1 wr 1
      go_wp2_with fail
      clear hnx hcv HR2 HC2 HK2
      generalize wr.alloc (.cells #[.int .u8 1] 5) = w2 at *
      have z1 : (strOfNums [1]).size = 1 := by rw [strOfNums_size]; rfl
      refine (same_any (strOfNums [1]) 12 (by decide) hs (by rw [z1]; decide) (by decide) (by omega) HR3.out).mono ?_
      rintro en w3 ⟨hk3, hq⟩
      rw [z1] at hq
      have HK4 := Lib.hid (HK3.out.tr (kp_g (gc := gc) hk3))
      have HC4 := Lib.hid (hk3.blk HC3.out hne)
      clear hk3 HK3 HC3 HR3
      rcases hq with ⟨rfl, hle, hx, hr3⟩ | ⟨rfl, e1, f1, he1, hr3⟩
      · have HR4 : Hid (RdAt w3 g s 5 0 0) := Lib.hid hr3
        have hle5 : 5 ≤ s.size := by
          have h9 : (4 : Int) + ((1 : Nat) : Int) ≤ s.size := hle
          omega
        have HT4 : Hid ((bytesOf s).take 5 = [80, 73, 76, 67, 1]) := Lib.hid (by
          have h9 := ext_take (s := s) (want := strOfNums [1]) (a := 4) (by rw [z1]; exact hx) (by rw [z1]; exact hle5)
          rw [z1, HT.out, bytesOf_ofNums (by intro x hx; simp only [List.mem_cons, List.not_mem_nil, or_false] at hx; subst hx; decide)] at h9
          exact h9)
        clear hle hx hr3 z1
        go_wp2_with fail
        by_cases h6 : 6 ≤ s.size
        · refine (there_yes 1 hs (by decide) (by omega) (by decide) (by omega) HR4.out).mono ?_
          rintro en w4 ⟨rfl, hr4, hk4⟩
          have HR5 := Lib.hid hr4
          have HK5 := Lib.hid (HK4.out.tr (kp_g (gc := gc) hk4))
          have HC5 := Lib.hid (hk4.blk HC4.out hne)
          clear hr4 hk4 HR4 HK4 HC4
          have c0 : w4.cell? ⟨g, 0, none⟩ = some (.string s) := (blk_cell HR5.out 0).trans rfl
          have c0d : w4.drew.cell? ⟨g, 0, none⟩ = some (.string s) := (blk_cell HR5.out 0).trans rfl
          have c1 : w4.cell? ⟨g, 1, none⟩ = some (.int .i64 5) := (blk_cell HR5.out 1).trans rfl
          have c1d : w4.drew.cell? ⟨g, 1, none⟩ = some (.int .i64 5) := (blk_cell HR5.out 1).trans rfl
          have d0 : w4.cell? ⟨gc, 0, none⟩ = some (.int .i64 0) := (blk_cell HC5.out 0).trans rfl
          have d0d : w4.drew.cell? ⟨gc, 0, none⟩ = some (.int .i64 0) := (blk_cell HC5.out 0).trans rfl
          have f0 := blk_frozen HC5.out 0
          have f0d : w4.drew.frozen? ⟨gc, 0, none⟩ = false := blk_frozen HC5.out 0
          have hlt : 5 < s.size := by omega
          have hlt2 : (5 : Int) < (s.size : Int) := by omega
          go_wp2_with fail
          go_region
          have hb5 : ((s[5]'hlt).toNat : Int) = bt s 5 := bt_at s 5 hlt
          have hr5 := bt_range s 5
          have hw5 : wrap64 ((s[5]'hlt).toNat : Int) = bt s 5 := by rw [hb5]; unfold wrap64; omega
          have HT5 : Hid ((bytesOf s).take 6 = [80, 73, 76, 67, 1, bt s 5]) := Lib.hid (by
            have h9 := take_snoc s 5 hlt
            rw [HT4.out, hb5] at h9
            exact h9)
          rw [hw5]
          have hk6 : Kp (fun k => k = gc) w4 (w4.setCell ⟨gc, 0, none⟩ (.int .i64 (bt s 5))).drew := ((Kp.refl _ _).setg _ _).drew
          have HC6 : Hid (CrAt (w4.setCell ⟨gc, 0, none⟩ (.int .i64 (bt s 5))).drew gc (bt s 5) 0 (.slice none 0 0)) := Lib.hid ((blk_set HC5.out 0 _).trans rfl)
          have HR6 := Lib.hid (hk6.blk HR5.out (Ne.symm hne))
          have HK6 := Lib.hid (HK5.out.tr (kp_c (g := g) hk6))
          clear hk6 hb5 hw5 c0 c0d c1 c1d d0 d0d f0 f0d HR5 HC5 HK5
          generalize (w4.setCell ⟨gc, 0, none⟩ (.int .i64 (bt s 5))).drew = w5 at *
          generalize s[5]'hlt = sb at *
          generalize bt s 5 = c at *
          have d0 : w5.cell? ⟨gc, 0, none⟩ = some (.int .i64 c) := (blk_cell HC6.out 0).trans rfl
          go_wp2_with fail
          refine (name_any c _ (by omega) (by omega)).mono ?_
          rintro en w6 ⟨tn, rfl, hzn, hb6⟩
          have HR7 := Lib.hid (blk_below HR6.out hb6)
          have HC7 := Lib.hid (blk_below HC6.out hb6)
          have HK7 : Hid (Kp (Both g gc) w w6) := Lib.hid (HK6.out.tr (Kp.of_below hb6))
          clear hb6 d0 HR6 HC6 HK6
          have c1 : w6.cell? ⟨g, 1, none⟩ = some (.int .i64 5) := (blk_cell HR7.out 1).trans rfl
          have f1 := blk_frozen HR7.out 1
          by_cases hcc : 1 ≤ c ∧ c ≤ 10
          · have hn : tn.toList.isEmpty = false := by rw [isEmpty_size, decide_eq_false_iff_not, hzn]; exact fun h => h hcc
            clear hzn hcc
            have HR8 : Hid (RdAt (w6.setCell ⟨g, 1, none⟩ (.int .i64 6)) g s 6 0 0) := Lib.hid ((blk_set HR7.out 1 _).trans rfl)
            have hk8 : Kp (fun k => k = g) w6 (w6.setCell ⟨g, 1, none⟩ (.int .i64 6)) := (Kp.refl _ _).setg _ _
            have HC8 := Lib.hid (hk8.blk HC7.out hne)
            have HK8 := Lib.hid (HK7.out.tr (kp_g (gc := gc) hk8))
            clear hk8
            go_wp2_with fail
            clear c1 f1 hn HR7 HC7 HK7
            generalize w6.setCell ⟨g, 1, none⟩ (.int .i64 6) = w7 at *
            by_cases h10 : 10 ≤ s.size
            · refine (there_yes 4 hs (by decide) (by omega) (by decide) (by omega) HR8.out).mono ?_
              rintro en w8 ⟨rfl, hr8, hk8⟩
              have HR9 := Lib.hid hr8
              have HK9 := Lib.hid (HK8.out.tr (kp_g (gc := gc) hk8))
              have HC9 := Lib.hid (hk8.blk HC8.out hne)
              clear hr8 hk8 HR8 HK8 HC8
              have c0 : w8.drew.cell? ⟨g, 0, none⟩ = some (.string s) := (blk_cell HR9.out 0).trans rfl
              have c1 : w8.drew.cell? ⟨g, 1, none⟩ = some (.int .i64 6) := (blk_cell HR9.out 1).trans rfl
              have l6 : (6 : Int) ≤ (s.size : Int) := by omega
              go_wp2_with fail
              go_region_held3 (fun w' => w'.cell? ⟨g, 0, none⟩ = some (.string s) ∧ w'.cell? ⟨g, 1, none⟩ = some (.int .i64 6)) (first | exact ⟨by assumption, by assumption⟩ | go_keep) (first
                | (go_at_call 110; refine (number_any _ _).mono ?_; rintro en w9 ⟨rfl, ⟨n9, rfl⟩⟩; have e0 : (w8.drewN (1 + n9)).cell? ⟨g, 0, none⟩ = some (.string s) := (blk_cell HR9.out 0).trans rfl; have e1 : (w8.drewN (1 + n9)).cell? ⟨g, 1, none⟩ = some (.int .i64 6) := (blk_cell HR9.out 1).trans rfl)
                | (fail))
              have hdr : Kp (fun _ => False) w8 (w8.drewN (1 + n9)) := (Kp.refl _ _).drewN _
              have HR10 := Lib.hid (hdr.blk HR9.out (fun h => h))
              have HC10 := Lib.hid (hdr.blk HC9.out (fun h => h))
              have HK10 : Hid (Kp (Both g gc) w (w8.drewN (1 + n9))) := Lib.hid (HK9.out.drewN _)
              have HT10 := Lib.hid (take_ten HT5.out h10)
              have hzr := numF_range (s.extract 6 s.size)
              clear hdr c0 c1 e0 e1 HR9 HC9 HK9
              generalize w8.drewN (1 + n9) = w9 at *
              generalize numF (s.extract 6 s.size) = z at *
              have c1 : w9.cell? ⟨g, 1, none⟩ = some (.int .i64 6) := (blk_cell HR10.out 1).trans rfl
              obtain ⟨hzr0, hzr1⟩ := hzr
              by_cases hz1 : z < 1
              · have zl : decide (z < (1 : Int)) = true := decide_eq_true hz1
                go_wp2_with fail
                refine (wrong_any 8 6 HR10.out).mono ?_
                rintro en w10 ⟨rfl, hr10, hk10⟩
                have HR11 := Lib.hid hr10
                have HK11 := Lib.hid (HK10.out.tr (kp_g (gc := gc) hk10))
                have HC11 := Lib.hid (hk10.blk HC10.out hne)
                clear hr10 hk10
                go_wp2_with fail
                go_ret
                exact head_no HK11.out (by decide) HR11.out HC11.out
              · have zl : decide (z < (1 : Int)) = false := decide_eq_false hz1
                by_cases hz2 : 65536 < z
                · have zg : decide ((65536 : Int) < z) = true := decide_eq_true hz2
                  go_wp2_with fail
                  refine (wrong_any 8 6 HR10.out).mono ?_
                  rintro en w10 ⟨rfl, hr10, hk10⟩
                  have HR11 := Lib.hid hr10
                  have HK11 := Lib.hid (HK10.out.tr (kp_g (gc := gc) hk10))
                  have HC11 := Lib.hid (hk10.blk HC10.out hne)
                  clear hr10 hk10
                  go_wp2_with fail
                  go_ret
                  exact head_no HK11.out (by decide) HR11.out HC11.out
                · have zg : decide ((65536 : Int) < z) = false := decide_eq_false hz2
                  have k1 : Kp (fun k => k = gc) w9 (w9.setCell ⟨gc, 1, none⟩ (.int .i64 z)) := (Kp.refl _ _).setg _ _
                  have hc11 : CrAt (w9.setCell ⟨gc, 1, none⟩ (.int .i64 z)) gc c z (.slice none 0 0) := (blk_set HC10.out 1 _).trans rfl
                  have hr11 := k1.blk HR10.out (Ne.symm hne)
                  have k2 : Kp (fun k => k = g) (w9.setCell ⟨gc, 1, none⟩ (.int .i64 z)) ((w9.setCell ⟨gc, 1, none⟩ (.int .i64 z)).setCell ⟨g, 1, none⟩ (.int .i64 10)) := (Kp.refl _ _).setg _ _
                  have HR12 : Hid (RdAt ((w9.setCell ⟨gc, 1, none⟩ (.int .i64 z)).setCell ⟨g, 1, none⟩ (.int .i64 10)) g s 10 0 0) := Lib.hid ((blk_set hr11 1 _).trans rfl)
                  have HC12 := Lib.hid (k2.blk hc11 hne)
                  have HK12 := Lib.hid ((HK10.out.tr (kp_c (g := g) k1)).tr (kp_g (gc := gc) k2))
                  have d1 : w9.cell? ⟨gc, 1, none⟩ = some (.int .i64 0) := (blk_cell HC10.out 1).trans rfl
                  have fd := blk_frozen HC10.out 1
                  have fg := blk_frozen HR10.out 1
                  have c1' : (w9.setCell ⟨gc, 1, none⟩ (.int .i64 z)).cell? ⟨g, 1, none⟩ = some (.int .i64 6) := (blk_cell hr11 1).trans rfl
                  have hwz : IntKind.i64.wrap z = z := wrap_small (by omega) (by omega)
                  clear k1 hc11 hr11 k2
                  go_wp2_with fail
                  clear c1 c1' d1 fd fg HR10 HC10 HK10 zl zg hwz
                  generalize (w9.setCell ⟨gc, 1, none⟩ (.int .i64 z)).setCell ⟨g, 1, none⟩ (.int .i64 10) = w10 at *
                  refine wp_region_any (by kernel_rfl) ?_
                  (try (change wpAny _ _ _ _ _ _ _ (World.drew _)))
                  have HRv : Hid (RdAt w10.drew g s 10 0 0) := Lib.hid (blk_drew HR12.out)
                  have HCv := Lib.hid (blk_drew HC12.out)
                  have HKv : Hid (Kp (Both g gc) w w10.drew) := Lib.hid HK12.out.drew
                  generalize World.drew w10 = v0 at *
                  clear HR12 HC12 HK12
                  have c0 : v0.cell? ⟨g, 0, none⟩ = some (.string s) := (blk_cell HRv.out 0).trans rfl
                  have c1 : v0.cell? ⟨g, 1, none⟩ = some (.int .i64 10) := (blk_cell HRv.out 1).trans rfl
                  have l10 : (10 : Int) ≤ (s.size : Int) := by omega
                  refine wpAny_take (i := 0) (v := ?_) rfl (by kernel_rfl) (by kernel_rfl) (by kernel_rfl) (fun _ _ _ h => h) (Or.inl ⟨by rfl, ?_⟩) ?_
                  rotate_left
                  · intro w
                    (try go_simp)
                    (try with_reducible rfl)
                  refine wpAny_take (i := 1) (v := ?_) rfl (by kernel_rfl) (by kernel_rfl) (by kernel_rfl) (fun _ _ _ h => h) (Or.inl ⟨by rfl, ?_⟩) ?_
                  rotate_left
                  · intro w
                    (try go_simp)
                    (try with_reducible rfl)
                  refine wpAny_take (i := 2) (v := ?_) rfl (by kernel_rfl) (by kernel_rfl) (by kernel_rfl) (fun _ _ _ h => h) (Or.inl ⟨by rfl, ?_⟩) ?_
                  rotate_left
                  · intro w
                    (try go_simp)
                    (try with_reducible rfl)
                  refine wpAny_take (i := 3) (v := ?_) rfl (by kernel_rfl) (by kernel_rfl) (by kernel_rfl) (fun _ _ _ h => h) (Or.inl ⟨by rfl, ?_⟩) ?_
                  rotate_left
                  · intro w
                    (try go_simp)
                    (try with_reducible rfl)
                  refine wpAny_take (i := 5) (v := ?_) rfl (by kernel_rfl) (by kernel_rfl) (by kernel_rfl) (fun _ _ _ h => h) (Or.inl ⟨by rfl, ?_⟩) ?_
                  rotate_left
                  · intro w
                    (try go_simp)
                    (try with_reducible rfl)
                  refine wpAny_take (i := 6) (v := ?_) rfl (by kernel_rfl) (by kernel_rfl) (by kernel_rfl) (fun _ _ _ h => h) (Or.inl ⟨by rfl, ?_⟩) ?_
                  rotate_left
                  · intro w
                    (try go_simp)
                    (try with_reducible rfl)
                  refine wpAny_take (i := 7) (v := ?_) rfl (by kernel_rfl) (by kernel_rfl) (by kernel_rfl) (fun _ _ _ h => h) (Or.inl ⟨by rfl, ?_⟩) ?_
                  rotate_left
                  · intro w
                    (try go_simp)
                    (try with_reducible rfl)
                  refine wpAny_ready (rs := [4, 8]) (by kernel_rfl) (by simp) ?_
                  refine AllReady.cons rfl (fun K hK => ?_) ?_
                  · go_simp
                    refine hK _ _ ?_
                    clear hK K
                    refine wpAny_ready (rs := [8]) (by kernel_rfl) (by simp) ?_
                    refine AllReady.cons rfl (fun K hK => ?_) ?_
                    · go_simp
                      refine hK _ _ ?_
                      clear hK K
                      refine wpAny_take (i := 9) (v := ?_) rfl (by kernel_rfl) (by kernel_rfl) (by kernel_rfl) (fun _ _ _ h => h) (Or.inl ⟨by rfl, ?_⟩) ?_
                      rotate_left
                      · intro w
                        (try go_simp)
                        (try with_reducible rfl)
                      refine wpAny_ready (rs := [10]) (by kernel_rfl) (by simp) ?_
                      refine AllReady.cons rfl (fun K hK => ?_) ?_
                      · go_simp
                        refine hK _ _ ?_
                        clear hK K
                        refine wpAny_ready (rs := [11]) (by kernel_rfl) (by simp) ?_
                        refine AllReady.cons rfl (fun K hK => ?_) ?_
                        · go_simp
                          go_wp2_with (go_at_call 112; refine (of_any ⟨v0.heap.size, 0, none⟩ 1 (s.extract 0 10) _ (by rw [(extract_to s 10 h10).1]; decide) ((blk_cell (blk_new v0 _) 0).trans rfl)).mono ?_; rintro en v1 ⟨rfl, hb⟩; have HRv1 := Lib.hid (blk_below (blk_alloc HRv.out (.cells #[.string (s.extract 0 10)] 9)) hb); have HCv1 := Lib.hid (blk_below (blk_alloc HCv.out (.cells #[.string (s.extract 0 10)] 9)) hb); have HKv1 : Hid (Kp (Both g gc) w v1) := Lib.hid ((HKv.out.alloc (.cells #[.string (s.extract 0 10)] 9)).tr (Kp.of_below hb)); clear hb)
                          refine wpAny_ready (rs := [12]) (by kernel_rfl) (by simp) ?_
                          refine AllReady.cons rfl (fun K hK => ?_) ?_
                          · go_simp
                            go_wp2_with (go_at_call 111; refine (four_any (ofF (s.extract 0 10)) _).mono ?_; rintro en v2 ⟨rfl, hb⟩; have HRv2 := Lib.hid (blk_below HRv1.out hb); have HCv2 := Lib.hid (blk_below HCv1.out hb); have HKv2 : Hid (Kp (Both g gc) w v2) := Lib.hid (HKv1.out.tr (Kp.of_below hb)); clear hb)
                            refine wpAny_ready (rs := [13]) (by kernel_rfl) (by simp) ?_
                            refine AllReady.cons rfl (fun K hK => ?_) ?_
                            · go_simp
                              go_wp2_with (go_at_call 108; refine (same_any (strOfNums (le4 (ofF (s.extract 0 10)))) 6 (by decide) hs (by rw [le4_size]; decide) (by decide) (by omega) HRv2.out).mono ?_; rintro en v3 ⟨hk, hq⟩; have HQ := Lib.hid hq; have HCv3 := Lib.hid (hk.blk HCv2.out hne); have HKv3 := Lib.hid (HKv2.out.tr (kp_g (gc := gc) hk)); obtain ⟨bq, rfl⟩ : ∃ bq : Bool, en = .returned (.bool bq) := (by rcases hq with ⟨h, _⟩ | ⟨h, _⟩ <;> exact ⟨_, h⟩); clear hk hq)
                              refine wpAny_take (i := 14) (v := ?_) rfl (by kernel_rfl) (by kernel_rfl) (by kernel_rfl) (fun _ _ _ h => h) (Or.inl ⟨by rfl, ?_⟩) ?_
                              rotate_left
                              · intro w
                                (try go_simp)
                                (try with_reducible rfl)
                              refine wpAny_done (by kernel_rfl) ?_ _
                              (try simp only [Exit.then])
                              go_wp2_with fail
                              go_ret
                              exact head_fin HKv3.out HCv3.out hr5.1 hr5.2 (by omega) (by omega) h10 HT10.out HQ.out
                            exact AllReady.nil
                          exact AllReady.nil
                        exact AllReady.nil
                      exact AllReady.nil
                    exact AllReady.nil
                  refine AllReady.cons rfl (fun K hK => ?_) ?_
                  · go_simp
                    refine hK _ _ ?_
                    clear hK K
                    refine wpAny_ready (rs := [4]) (by kernel_rfl) (by simp) ?_
                    refine AllReady.cons rfl (fun K hK => ?_) ?_
                    · go_simp
                      refine hK _ _ ?_
                      clear hK K
                      refine wpAny_take (i := 9) (v := ?_) rfl (by kernel_rfl) (by kernel_rfl) (by kernel_rfl) (fun _ _ _ h => h) (Or.inl ⟨by rfl, ?_⟩) ?_
                      rotate_left
                      · intro w
                        (try go_simp)
                        (try with_reducible rfl)
                      refine wpAny_ready (rs := [10]) (by kernel_rfl) (by simp) ?_
                      refine AllReady.cons rfl (fun K hK => ?_) ?_
                      · go_simp
                        refine hK _ _ ?_
                        clear hK K
                        refine wpAny_ready (rs := [11]) (by kernel_rfl) (by simp) ?_
                        refine AllReady.cons rfl (fun K hK => ?_) ?_
                        · go_simp
                          go_wp2_with (go_at_call 112; refine (of_any ⟨v0.heap.size, 0, none⟩ 1 (s.extract 0 10) _ (by rw [(extract_to s 10 h10).1]; decide) ((blk_cell (blk_new v0 _) 0).trans rfl)).mono ?_; rintro en v1 ⟨rfl, hb⟩; have HRv1 := Lib.hid (blk_below (blk_alloc HRv.out (.cells #[.string (s.extract 0 10)] 9)) hb); have HCv1 := Lib.hid (blk_below (blk_alloc HCv.out (.cells #[.string (s.extract 0 10)] 9)) hb); have HKv1 : Hid (Kp (Both g gc) w v1) := Lib.hid ((HKv.out.alloc (.cells #[.string (s.extract 0 10)] 9)).tr (Kp.of_below hb)); clear hb)
                          refine wpAny_ready (rs := [12]) (by kernel_rfl) (by simp) ?_
                          refine AllReady.cons rfl (fun K hK => ?_) ?_
                          · go_simp
                            go_wp2_with (go_at_call 111; refine (four_any (ofF (s.extract 0 10)) _).mono ?_; rintro en v2 ⟨rfl, hb⟩; have HRv2 := Lib.hid (blk_below HRv1.out hb); have HCv2 := Lib.hid (blk_below HCv1.out hb); have HKv2 : Hid (Kp (Both g gc) w v2) := Lib.hid (HKv1.out.tr (Kp.of_below hb)); clear hb)
                            refine wpAny_ready (rs := [13]) (by kernel_rfl) (by simp) ?_
                            refine AllReady.cons rfl (fun K hK => ?_) ?_
                            · go_simp
                              go_wp2_with (go_at_call 108; refine (same_any (strOfNums (le4 (ofF (s.extract 0 10)))) 6 (by decide) hs (by rw [le4_size]; decide) (by decide) (by omega) HRv2.out).mono ?_; rintro en v3 ⟨hk, hq⟩; have HQ := Lib.hid hq; have HCv3 := Lib.hid (hk.blk HCv2.out hne); have HKv3 := Lib.hid (HKv2.out.tr (kp_g (gc := gc) hk)); obtain ⟨bq, rfl⟩ : ∃ bq : Bool, en = .returned (.bool bq) := (by rcases hq with ⟨h, _⟩ | ⟨h, _⟩ <;> exact ⟨_, h⟩); clear hk hq)
                              refine wpAny_take (i := 14) (v := ?_) rfl (by kernel_rfl) (by kernel_rfl) (by kernel_rfl) (fun _ _ _ h => h) (Or.inl ⟨by rfl, ?_⟩) ?_
                              rotate_left
                              · intro w
                                (try go_simp)
                                (try with_reducible rfl)
                              refine wpAny_done (by kernel_rfl) ?_ _
                              (try simp only [Exit.then])
                              go_wp2_with fail
                              go_ret
                              exact head_fin HKv3.out HCv3.out hr5.1 hr5.2 (by omega) (by omega) h10 HT10.out HQ.out
                            exact AllReady.nil
                          exact AllReady.nil
                        exact AllReady.nil
                      exact AllReady.nil
                    exact AllReady.nil
                  exact AllReady.nil
            · refine (there_no 4 hs (by decide) (by omega) (by omega) HR8.out).mono ?_
              rintro en w8 ⟨rfl, hr8, hk8⟩
              have HR9 := Lib.hid hr8
              have HK9 := Lib.hid (HK8.out.tr (kp_g (gc := gc) hk8))
              have HC9 := Lib.hid (hk8.blk HC8.out hne)
              clear hr8 hk8
              go_wp2_with fail
              go_ret
              exact head_no HK9.out (by decide) HR9.out HC9.out
          · have hn : tn.toList.isEmpty = true := by rw [isEmpty_size, decide_eq_true_iff, hzn]; exact hcc
            clear hzn
            go_wp2_with fail
            refine (wrong_any 11 5 HR7.out).mono ?_
            rintro en w8 ⟨rfl, hr8, hk8⟩
            have HR9 := Lib.hid hr8
            have HK9 := Lib.hid (HK7.out.tr (kp_g (gc := gc) hk8))
            have HC9 := Lib.hid (hk8.blk HC7.out hne)
            clear hr8 hk8
            go_wp2_with fail
            go_ret
            exact head_no HK9.out (by decide) HR9.out HC9.out
        · refine (there_no 1 hs (by decide) (by omega) (by omega) HR4.out).mono ?_
          rintro en w4 ⟨rfl, hr4, hk4⟩
          have HR5 := Lib.hid hr4
          have HK5 := Lib.hid (HK4.out.tr (kp_g (gc := gc) hk4))
          have HC5 := Lib.hid (hk4.blk HC4.out hne)
          clear hr4 hk4
          go_wp2_with fail
          go_ret
          exact head_no HK5.out (by decide) HR5.out HC5.out
      · have HR4 := Lib.hid hr3
        clear hr3
        go_wp2_with fail
        go_ret
        exact head_no HK4.out he1 HR4.out HC4.out
end Go.Proofs.YtcgoofefiiihnaaGreat
namespace Go.Proofs.YtcgoofefiiihnaaGreat
open Go.RowKit Go.Proofs.YtcgoofefiiihnaaGreatW.PrintWords Go.Proofs.YtcgoofefiiihnaaGreatW.PrintMore
set_option linter.unusedVariables false
set_option linter.unusedSimpArgs false
set_option maxRecDepth 20000
theorem wpAny_taked {P : Program} {md : Region.Mode} {ops : Array Oper} {Q : Exit → Act → World → Prop} {i d : Nat} {oi : Oper} {v : Value} {fuel : Nat} {listed : Array Bool} {a : Act} {w : World} (hi : ops[i]? = some oi) (hd : oi.dst = some d) (hs : Region.noSelect ops = true) (hf : Region.free md ops listed i = true) (hr : (Region.ready md ops listed).contains i = true) (hQ : ∀ c a w, Q (.panic c) (a.put (some d) v) w → Q (.panic c) a w) (hy : Yields P ops oi v a)
    (h : wpAny P md ops Q fuel (listed.setIfInBounds i true) (a.put (some d) v) w) : wpAny P md ops Q (fuel + 1) listed a w :=
  wpAny_take hi hs hf hr (hd ▸ hQ) hy (hd ▸ h)
theorem eightS_size (n : Int) : (eightS n).size = 8 := eight_size n
def REndPost (w : World) (g : Nat) (s : ByteArray) (a : Nat) (n x y : Int) (en : Ending) (w' : World) : Prop :=
  Kp (fun k => k = g) w w' ∧ ((en = .returned (.bool true) ∧ (bytesOf s).drop a = endF ⟨n, x, y⟩ ∧ ∃ a', RdAt w' g s a' 0 0) ∨ (en = .returned (.bool false) ∧ ∃ a' e f, e ≠ 0 ∧ RdAt w' g s a' e f))
theorem rend_no {w w' : World} {g : Nat} {s : ByteArray} {a : Nat} {n x y p : Int} (hk : Kp (fun k => k = g) w w') (h : ∃ e1 f1, e1 ≠ 0 ∧ RdAt w' g s p e1 f1) : REndPost w g s a n x y (.returned (.bool false)) w' := by
  obtain ⟨e1, f1, he, hr⟩ := h
  exact ⟨hk, .inr ⟨rfl, p, e1, f1, he, hr⟩⟩
theorem ok_bytes {s want : ByteArray} {p : Nat} (h : OkAt s p want) : (bytesOf s).drop p = bytesOf want ++ (bytesOf s).drop (p + want.size) := by
  have h9 := ext_take h.2 h.1
  have h8 := List.take_append_drop (p + want.size) (bytesOf s)
  have h7 := List.take_append_drop p (bytesOf s)
  rw [h9, List.append_assoc] at h8
  exact List.append_cancel_left (h7.trans h8.symm)
theorem end_text {s : ByteArray} {a : Nat} {n x y : Int} (ha : a < s.size) (h90 : bt s a = 90) (h0 : OkAt s (a + 1) (strOfNums (le4 n))) (h1 : OkAt s (a + 5) (eightS x)) (h2 : OkAt s (a + 13) (eightS y)) (h3 : OkAt s (a + 21) (strOfNums (le4 (ofF (s.extract a (a + 21)))))) (hz : s.size = a + 25) : (bytesOf s).drop a = endF ⟨n, x, y⟩ := by
  have hl := bytesOf_length s
  have e0 : (bytesOf s).drop a = 90 :: (bytesOf s).drop (a + 1) := by
    rw [List.drop_eq_getElem_cons (by rw [hl]; exact ha)]
    congr 1
    have := rd_bytesOf s (a : Int)
    rw [rd, Int.toNat_natCast, List.getD_eq_getElem?_getD, List.getElem?_eq_getElem (by rw [hl]; exact ha)] at this
    exact this.trans h90
  have e1 := ok_bytes h0
  have e2 := ok_bytes h1
  have e3 := ok_bytes h2
  have e4 := ok_bytes h3
  rw [le4_bytes, le4_size] at e1 e4
  rw [eightS_size, show bytesOf (eightS x) = le8 x from eight_bytes x] at e2
  rw [eightS_size, show bytesOf (eightS y) = le8 y from eight_bytes y] at e3
  have hend : (bytesOf s).drop (a + 21 + 4) = [] := List.drop_eq_nil_of_le (by rw [hl]; omega)
  have all : (bytesOf s).drop a = endL ⟨n, x, y⟩ ++ (bytesOf s).drop (a + 21) := by
    rw [e0, e1, show a + 1 + 4 = a + 5 by omega, e2, show a + 5 + 8 = a + 13 by omega, e3, show a + 13 + 8 = a + 21 by omega]
    simp [endL, List.append_assoc]
  have ex : bytesOf (s.extract a (a + 21)) = endL ⟨n, x, y⟩ := by
    have h9 : bytesOf (s.extract a (a + 21)) = ((bytesOf s).drop a).take 21 := by
      rw [bytesOf, bytesOf, ByteArray.data_extract, Array.toList_extract, List.extract_eq_take_drop, ← List.map_drop, ← List.map_take, show a + 21 - a = 21 by omega]
    rw [h9, all, List.take_append_of_le_length (by rw [endL_len]; omega), List.take_of_length_le (by rw [endL_len]; omega)]
  rw [all, e4, hend, List.append_nil, ofF, ex]
  rfl
set_option maxHeartbeats 8000000 in
theorem rend_any {w : World} {g : Nat} {s : ByteArray} (n x y : Int) (a : Nat) (hs : s.size ≤ 100000) (ha : a < s.size) (h90 : bt s a = 90) (h : RdAt w g s (a : Int) 0 0) :
    Calls Tryz.prog 76 #[.pointer (some ⟨g, 0, none⟩), .agg #[.int .u32 n, .int .u64 x, .int .u64 y]] w (REndPost w g s a n x y) := by
  have HR := Lib.hid h
  have hgl := blk_lt h
  have H90 := Lib.hid h90
  clear h h90
  go_enter Tryz.func76, Tryz.ntmps76
  go_wp2_with fail
  have HR1 := Lib.hid (blk_alloc HR.out (.cells #[.int .u32 n, .int .u64 x, .int .u64 y] 154))
  have HT1 := Lib.hid (blk_new w (.cells #[.int .u32 n, .int .u64 x, .int .u64 y] 154))
  have HK1 : Hid (Kp (fun k => k = g) w (w.alloc (.cells #[.int .u32 n, .int .u64 x, .int .u64 y] 154))) := Lib.hid ((Kp.refl _ w).alloc _)
  generalize w.alloc (.cells #[.int .u32 n, .int .u64 x, .int .u64 y] 154) = w1 at *
  generalize hBB : w.heap.size = B at *
  clear hBB
  by_cases h25 : a + 25 ≤ s.size
  · refine (there_yes 25 hs (by omega) (by omega) (by decide) (by omega) HR1.out).mono ?_
    rintro en w2 ⟨rfl, hr2, hk2⟩
    have HR2 := Lib.hid hr2
    have HT2 := Lib.hid (hk2.blk HT1.out (fun h => by omega))
    have HK2 := Lib.hid (HK1.out.tr hk2)
    clear hr2 hk2 HR1 HT1 HK1
    have c1 : w2.cell? ⟨g, 1, none⟩ = some (.int .i64 (a : Int)) := (blk_cell HR2.out 1).trans rfl
    have f1 := blk_frozen HR2.out 1
    have hk3 : Kp (fun k => k = g) w2 (w2.setCell ⟨g, 1, none⟩ (.int .i64 ((a : Int) + 1))) := (Kp.refl _ _).setg _ _
    have HR3 : Hid (RdAt (w2.setCell ⟨g, 1, none⟩ (.int .i64 ((a : Int) + 1))) g s ((a + 1 : Nat) : Int) 0 0) := Lib.hid ((blk_set HR2.out 1 _).trans rfl)
    have HT3 := Lib.hid (hk3.blk HT2.out (fun h => by omega))
    have HK3 := Lib.hid (HK2.out.tr hk3)
    clear hk3
    go_wp2_with fail
    clear c1 f1 HR2 HT2 HK2
    generalize w2.setCell ⟨g, 1, none⟩ (.int .i64 ((a : Int) + 1)) = w3 at *
    have l0 : (0 : Int) ≤ (a : Int) := by omega
    have l1 : (a : Int) ≤ (a : Int) + 21 := by omega
    have l2 : (a : Int) + 21 ≤ (s.size : Int) := by omega
    by_cases hO0 : OkAt s (a + 1) (strOfNums (le4 n))
    · have HO0 := Lib.hid hO0
      clear hO0
      by_cases hO1 : OkAt s (a + 5) (eightS x)
      · have HO1 := Lib.hid hO1
        clear hO1
        by_cases hO2 : OkAt s (a + 13) (eightS y)
        · have HO2 := Lib.hid hO2
          clear hO2
          by_cases hO3 : OkAt s (a + 21) (strOfNums (le4 (ofF (s.extract a (a + 21)))))
          · have HO3 := Lib.hid hO3
            clear hO3
            refine wp_region_any (by kernel_rfl) ?_
            (try (change wpAny _ _ _ _ _ _ _ (World.drew _)))
            have HRv0 : Hid (RdAt w3.drew g s ((a + 1 : Nat) : Int) 0 0) := Lib.hid (blk_drew HR3.out)
            have HTv0 := Lib.hid (blk_drew HT3.out)
            have HKv0 : Hid (Kp (fun k => k = g) w w3.drew) := Lib.hid HK3.out.drew
            generalize World.drew w3 = v0 at *
            have t0 : v0.cell? ⟨B, 0, none⟩ = some (.int .u32 n) := (blk_cell HTv0.out 0).trans rfl
            refine wpAny_taked (d := 20) (i := 0) (v := ?_) rfl rfl (by kernel_rfl) (by kernel_rfl) (by kernel_rfl) (fun _ _ _ h => h) (Or.inl ⟨by kernel_rfl, ?_⟩) ?_
            rotate_left
            · intro w
              (try go_simp)
              (try with_reducible rfl)
            refine wpAny_taked (d := 21) (i := 1) (v := ?_) rfl rfl (by kernel_rfl) (by kernel_rfl) (by kernel_rfl) (fun _ _ _ h => h) (Or.inl ⟨by kernel_rfl, ?_⟩) ?_
            rotate_left
            · intro w
              (try go_simp)
              (try with_reducible rfl)
            refine wpAny_ready (rs := [2]) (by kernel_rfl) (by simp) ?_
            refine AllReady.cons rfl (fun K hK => ?_) ?_
            · go_simp
              refine hK _ _ ?_
              clear hK K
              refine wpAny_ready (rs := [3]) (by kernel_rfl) (by simp) ?_
              refine AllReady.cons rfl (fun K hK => ?_) ?_
              · go_simp
                go_wp2_with (go_at_call 111; refine (four_any n _).mono ?_; rintro en v1 ⟨rfl, hb⟩; have HRv1 := Lib.hid (blk_below HRv0.out hb); have HTv1 := Lib.hid (blk_below HTv0.out hb); have HKv1 : Hid (Kp (fun k => k = g) w v1) := Lib.hid (HKv0.out.tr (Kp.of_below hb)); clear hb)
                refine wpAny_ready (rs := [4]) (by kernel_rfl) (by simp) ?_
                refine AllReady.cons rfl (fun K hK => ?_) ?_
                · go_simp
                  go_wp2_with (go_at_call 108; refine (same_yes (a + 1) (strOfNums (le4 n)) 13 (by decide) hs (by rw [le4_size]; decide) HO0.out HRv1.out).mono ?_; rintro en v2 ⟨rfl, hr, hk⟩; rw [le4_size] at hr; have HRv2 : Hid (RdAt v2 g s ((a + 5 : Nat) : Int) 0 0) := Lib.hid hr; have HTv2 := Lib.hid (hk.blk HTv1.out (fun h => by omega)); have HKv2 := Lib.hid (HKv1.out.tr hk); clear hr hk; have t1 : v2.cell? ⟨B, 1, none⟩ = some (.int .u64 x) := (blk_cell HTv2.out 1).trans rfl; have t2 : v2.cell? ⟨B, 2, none⟩ = some (.int .u64 y) := (blk_cell HTv2.out 2).trans rfl; have g0 : v2.cell? ⟨g, 0, none⟩ = some (.string s) := (blk_cell HRv2.out 0).trans rfl)
                  refine wpAny_taked (d := 25) (i := 5) (v := ?_) rfl rfl (by kernel_rfl) (by kernel_rfl) (by kernel_rfl) (fun _ _ _ h => h) (Or.inl ⟨by kernel_rfl, ?_⟩) ?_
                  rotate_left
                  · intro w
                    (try go_simp)
                    (try with_reducible rfl)
                  refine wpAny_taked (d := 26) (i := 6) (v := ?_) rfl rfl (by kernel_rfl) (by kernel_rfl) (by kernel_rfl) (fun _ _ _ h => h) (Or.inl ⟨by kernel_rfl, ?_⟩) ?_
                  rotate_left
                  · intro w
                    (try go_simp)
                    (try with_reducible rfl)
                  refine wpAny_taked (d := 27) (i := 7) (v := ?_) rfl rfl (by kernel_rfl) (by kernel_rfl) (by kernel_rfl) (fun _ _ _ h => h) (Or.inl ⟨by kernel_rfl, ?_⟩) ?_
                  rotate_left
                  · intro w
                    (try go_simp)
                    (try with_reducible rfl)
                  refine wpAny_taked (d := 28) (i := 8) (v := ?_) rfl rfl (by kernel_rfl) (by kernel_rfl) (by kernel_rfl) (fun _ _ _ h => h) (Or.inl ⟨by kernel_rfl, ?_⟩) ?_
                  rotate_left
                  · intro w
                    (try go_simp)
                    (try with_reducible rfl)
                  refine wpAny_ready (rs := [9]) (by kernel_rfl) (by simp) ?_
                  refine AllReady.cons rfl (fun K hK => ?_) ?_
                  · go_simp
                    refine hK _ _ ?_
                    clear hK K
                    refine wpAny_ready (rs := [10]) (by kernel_rfl) (by simp) ?_
                    refine AllReady.cons rfl (fun K hK => ?_) ?_
                    · go_simp
                      go_wp2_with (go_at_call 113; refine (eight_any x _).mono ?_; rintro en v3 ⟨rfl, hb⟩; have HRv3 := Lib.hid (blk_below HRv2.out hb); have HTv3 := Lib.hid (blk_below HTv2.out hb); have HKv3 : Hid (Kp (fun k => k = g) w v3) := Lib.hid (HKv2.out.tr (Kp.of_below hb)); clear hb)
                      refine wpAny_ready (rs := [11]) (by kernel_rfl) (by simp) ?_
                      refine AllReady.cons rfl (fun K hK => ?_) ?_
                      · go_simp
                        go_wp2_with (go_at_call 108; refine (same_yes (a + 5) (eightS x) 13 (by decide) hs (by rw [eightS_size]; decide) HO1.out HRv3.out).mono ?_; rintro en v4 ⟨rfl, hr, hk⟩; rw [eightS_size] at hr; have HRv4 : Hid (RdAt v4 g s ((a + 13 : Nat) : Int) 0 0) := Lib.hid hr; have HTv4 := Lib.hid (hk.blk HTv3.out (fun h => by omega)); have HKv4 := Lib.hid (HKv3.out.tr hk); clear hr hk; have t1 : v4.cell? ⟨B, 1, none⟩ = some (.int .u64 x) := (blk_cell HTv4.out 1).trans rfl; have t2 : v4.cell? ⟨B, 2, none⟩ = some (.int .u64 y) := (blk_cell HTv4.out 2).trans rfl; have g0 : v4.cell? ⟨g, 0, none⟩ = some (.string s) := (blk_cell HRv4.out 0).trans rfl)
                        refine wpAny_taked (d := 32) (i := 12) (v := ?_) rfl rfl (by kernel_rfl) (by kernel_rfl) (by kernel_rfl) (fun _ _ _ h => h) (Or.inl ⟨by kernel_rfl, ?_⟩) ?_
                        rotate_left
                        · intro w
                          (try go_simp)
                          (try with_reducible rfl)
                        refine wpAny_taked (d := 33) (i := 13) (v := ?_) rfl rfl (by kernel_rfl) (by kernel_rfl) (by kernel_rfl) (fun _ _ _ h => h) (Or.inl ⟨by kernel_rfl, ?_⟩) ?_
                        rotate_left
                        · intro w
                          (try go_simp)
                          (try with_reducible rfl)
                        refine wpAny_taked (d := 34) (i := 14) (v := ?_) rfl rfl (by kernel_rfl) (by kernel_rfl) (by kernel_rfl) (fun _ _ _ h => h) (Or.inl ⟨by kernel_rfl, ?_⟩) ?_
                        rotate_left
                        · intro w
                          (try go_simp)
                          (try with_reducible rfl)
                        refine wpAny_taked (d := 35) (i := 15) (v := ?_) rfl rfl (by kernel_rfl) (by kernel_rfl) (by kernel_rfl) (fun _ _ _ h => h) (Or.inl ⟨by kernel_rfl, ?_⟩) ?_
                        rotate_left
                        · intro w
                          (try go_simp)
                          (try with_reducible rfl)
                        refine wpAny_taked (d := 36) (i := 16) (v := ?_) rfl rfl (by kernel_rfl) (by kernel_rfl) (by kernel_rfl) (fun _ _ _ h => h) (Or.inl ⟨by kernel_rfl, ?_⟩) ?_
                        rotate_left
                        · intro w
                          (try go_simp)
                          (try with_reducible rfl)
                        refine wpAny_ready (rs := [17]) (by kernel_rfl) (by simp) ?_
                        refine AllReady.cons rfl (fun K hK => ?_) ?_
                        · go_simp
                          refine hK _ _ ?_
                          clear hK K
                          refine wpAny_ready (rs := [18]) (by kernel_rfl) (by simp) ?_
                          refine AllReady.cons rfl (fun K hK => ?_) ?_
                          · go_simp
                            go_wp2_with (go_at_call 113; refine (eight_any y _).mono ?_; rintro en v5 ⟨rfl, hb⟩; have HRv5 := Lib.hid (blk_below HRv4.out hb); have HTv5 := Lib.hid (blk_below HTv4.out hb); have HKv5 : Hid (Kp (fun k => k = g) w v5) := Lib.hid (HKv4.out.tr (Kp.of_below hb)); clear hb)
                            refine wpAny_ready (rs := [19]) (by kernel_rfl) (by simp) ?_
                            refine AllReady.cons rfl (fun K hK => ?_) ?_
                            · go_simp
                              go_wp2_with (go_at_call 108; refine (same_yes (a + 13) (eightS y) 13 (by decide) hs (by rw [eightS_size]; decide) HO2.out HRv5.out).mono ?_; rintro en v6 ⟨rfl, hr, hk⟩; rw [eightS_size] at hr; have HRv6 : Hid (RdAt v6 g s ((a + 21 : Nat) : Int) 0 0) := Lib.hid hr; have HTv6 := Lib.hid (hk.blk HTv5.out (fun h => by omega)); have HKv6 := Lib.hid (HKv5.out.tr hk); clear hr hk; have t1 : v6.cell? ⟨B, 1, none⟩ = some (.int .u64 x) := (blk_cell HTv6.out 1).trans rfl; have t2 : v6.cell? ⟨B, 2, none⟩ = some (.int .u64 y) := (blk_cell HTv6.out 2).trans rfl; have g0 : v6.cell? ⟨g, 0, none⟩ = some (.string s) := (blk_cell HRv6.out 0).trans rfl; have g1 : v6.cell? ⟨g, 1, none⟩ = some (.int .i64 ((a + 21 : Nat) : Int)) := (blk_cell HRv6.out 1).trans rfl)
                              refine wpAny_taked (d := 40) (i := 20) (v := ?_) rfl rfl (by kernel_rfl) (by kernel_rfl) (by kernel_rfl) (fun _ _ _ h => h) (Or.inl ⟨by kernel_rfl, ?_⟩) ?_
                              rotate_left
                              · intro w
                                (try go_simp)
                                (try with_reducible rfl)
                              refine wpAny_taked (d := 41) (i := 21) (v := ?_) rfl rfl (by kernel_rfl) (by kernel_rfl) (by kernel_rfl) (fun _ _ _ h => h) (Or.inl ⟨by kernel_rfl, ?_⟩) ?_
                              rotate_left
                              · intro w
                                (try go_simp)
                                (try with_reducible rfl)
                              refine wpAny_taked (d := 42) (i := 22) (v := ?_) rfl rfl (by kernel_rfl) (by kernel_rfl) (by kernel_rfl) (fun _ _ _ h => h) (Or.inl ⟨by kernel_rfl, ?_⟩) ?_
                              rotate_left
                              · intro w
                                (try go_simp)
                                (try with_reducible rfl)
                              refine wpAny_taked (d := 43) (i := 23) (v := ?_) rfl rfl (by kernel_rfl) (by kernel_rfl) (by kernel_rfl) (fun _ _ _ h => h) (Or.inl ⟨by kernel_rfl, ?_⟩) ?_
                              rotate_left
                              · intro w
                                (try go_simp)
                                (try with_reducible rfl)
                              refine wpAny_taked (d := 44) (i := 24) (v := ?_) rfl rfl (by kernel_rfl) (by kernel_rfl) (by kernel_rfl) (fun _ _ _ h => h) (Or.inl ⟨by kernel_rfl, ?_⟩) ?_
                              rotate_left
                              · intro w
                                (try go_simp)
                                (try with_reducible rfl)
                              refine wpAny_taked (d := 45) (i := 25) (v := ?_) rfl rfl (by kernel_rfl) (by kernel_rfl) (by kernel_rfl) (fun _ _ _ h => h) (Or.inl ⟨by kernel_rfl, ?_⟩) ?_
                              rotate_left
                              · intro w
                                (try go_simp)
                                (try with_reducible rfl)
                              refine wpAny_taked (d := 46) (i := 26) (v := ?_) rfl rfl (by kernel_rfl) (by kernel_rfl) (by kernel_rfl) (fun _ _ _ h => h) (Or.inl ⟨by kernel_rfl, ?_⟩) ?_
                              rotate_left
                              · intro w
                                (try go_simp)
                                (try with_reducible rfl)
                              refine wpAny_taked (d := 48) (i := 28) (v := ?_) rfl rfl (by kernel_rfl) (by kernel_rfl) (by kernel_rfl) (fun _ _ _ h => h) (Or.inl ⟨by kernel_rfl, ?_⟩) ?_
                              rotate_left
                              · intro w
                                (try go_simp)
                                (try with_reducible rfl)
                              refine wpAny_taked (d := 49) (i := 29) (v := ?_) rfl rfl (by kernel_rfl) (by kernel_rfl) (by kernel_rfl) (fun _ _ _ h => h) (Or.inl ⟨by kernel_rfl, ?_⟩) ?_
                              rotate_left
                              · intro w
                                (try go_simp)
                                (try with_reducible rfl)
                              refine wpAny_taked (d := 50) (i := 30) (v := ?_) rfl rfl (by kernel_rfl) (by kernel_rfl) (by kernel_rfl) (fun _ _ _ h => h) (Or.inl ⟨by kernel_rfl, ?_⟩) ?_
                              rotate_left
                              · intro w
                                (try go_simp)
                                (try with_reducible rfl)
                              refine wpAny_taked (d := 51) (i := 31) (v := ?_) rfl rfl (by kernel_rfl) (by kernel_rfl) (by kernel_rfl) (fun _ _ _ h => h) (Or.inl ⟨by kernel_rfl, ?_⟩) ?_
                              rotate_left
                              · intro w
                                (try go_simp)
                                (try with_reducible rfl)
                              refine wpAny_ready (rs := [27, 32]) (by kernel_rfl) (by simp) ?_
                              refine AllReady.cons rfl (fun K hK => ?_) ?_
                              · go_simp
                                refine hK _ _ ?_
                                clear hK K
                                refine wpAny_ready (rs := [32]) (by kernel_rfl) (by simp) ?_
                                refine AllReady.cons rfl (fun K hK => ?_) ?_
                                · go_simp
                                  refine hK _ _ ?_
                                  clear hK K
                                  refine wpAny_taked (d := 53) (i := 33) (v := ?_) rfl rfl (by kernel_rfl) (by kernel_rfl) (by kernel_rfl) (fun _ _ _ h => h) (Or.inl ⟨by kernel_rfl, ?_⟩) ?_
                                  rotate_left
                                  · intro w
                                    (try go_simp)
                                    (try with_reducible rfl)
                                  refine wpAny_ready (rs := [34]) (by kernel_rfl) (by simp) ?_
                                  refine AllReady.cons rfl (fun K hK => ?_) ?_
                                  · go_simp
                                    refine hK _ _ ?_
                                    clear hK K
                                    refine wpAny_ready (rs := [35]) (by kernel_rfl) (by simp) ?_
                                    refine AllReady.cons rfl (fun K hK => ?_) ?_
                                    · go_simp
                                      go_wp2_with (go_at_call 112; refine (of_any ⟨v6.heap.size, 0, none⟩ 1 (s.extract a (a + 21)) _ (by rw [ByteArray.size_extract]; omega) ((blk_cell (blk_new v6 _) 0).trans rfl)).mono ?_; rintro en v7 ⟨rfl, hb⟩; have HRv7 := Lib.hid (blk_below (blk_alloc HRv6.out (.cells #[.string (s.extract a (a + 21))] 9)) hb); have HTv7 := Lib.hid (blk_below (blk_alloc HTv6.out (.cells #[.string (s.extract a (a + 21))] 9)) hb); have HKv7 : Hid (Kp (fun k => k = g) w v7) := Lib.hid ((HKv6.out.alloc (.cells #[.string (s.extract a (a + 21))] 9)).tr (Kp.of_below hb)); clear hb)
                                      refine wpAny_ready (rs := [36]) (by kernel_rfl) (by simp) ?_
                                      refine AllReady.cons rfl (fun K hK => ?_) ?_
                                      · go_simp
                                        go_wp2_with (go_at_call 111; refine (four_any (ofF (s.extract a (a + 21))) _).mono ?_; rintro en v8 ⟨rfl, hb⟩; have HRv8 := Lib.hid (blk_below HRv7.out hb); have HTv8 := Lib.hid (blk_below HTv7.out hb); have HKv8 : Hid (Kp (fun k => k = g) w v8) := Lib.hid (HKv7.out.tr (Kp.of_below hb)); clear hb)
                                        refine wpAny_ready (rs := [37]) (by kernel_rfl) (by simp) ?_
                                        refine AllReady.cons rfl (fun K hK => ?_) ?_
                                        · go_simp
                                          go_wp2_with (go_at_call 108; refine (same_yes (a + 21) (strOfNums (le4 (ofF (s.extract a (a + 21))))) 6 (by decide) hs (by rw [le4_size]; decide) HO3.out HRv8.out).mono ?_; rintro en v9 ⟨rfl, hr, hk⟩; rw [le4_size] at hr; have HRv9 : Hid (RdAt v9 g s ((a + 25 : Nat) : Int) 0 0) := Lib.hid hr; have HTv9 := Lib.hid (hk.blk HTv8.out (fun h => by omega)); have HKv9 := Lib.hid (HKv8.out.tr hk); clear hr hk; have t1 : v9.cell? ⟨B, 1, none⟩ = some (.int .u64 x) := (blk_cell HTv9.out 1).trans rfl; have t2 : v9.cell? ⟨B, 2, none⟩ = some (.int .u64 y) := (blk_cell HTv9.out 2).trans rfl; have g0 : v9.cell? ⟨g, 0, none⟩ = some (.string s) := (blk_cell HRv9.out 0).trans rfl)
                                          refine wpAny_taked (d := 58) (i := 38) (v := ?_) rfl rfl (by kernel_rfl) (by kernel_rfl) (by kernel_rfl) (fun _ _ _ h => h) (Or.inl ⟨by kernel_rfl, ?_⟩) ?_
                                          rotate_left
                                          · intro w
                                            (try go_simp)
                                            (try with_reducible rfl)
                                          refine wpAny_taked (d := 59) (i := 39) (v := ?_) rfl rfl (by kernel_rfl) (by kernel_rfl) (by kernel_rfl) (fun _ _ _ h => h) (Or.inl ⟨by kernel_rfl, ?_⟩) ?_
                                          rotate_left
                                          · intro w
                                            (try go_simp)
                                            (try with_reducible rfl)
                                          refine wpAny_done (by kernel_rfl) ?_ _
                                          (try simp only [Exit.then])
                                          (try go_simp)
                                          have q0 : v9.cell? ⟨g, 0, none⟩ = some (.string s) := (blk_cell HRv9.out 0).trans rfl
                                          have q1 : v9.cell? ⟨g, 1, none⟩ = some (.int .i64 ((a + 25 : Nat) : Int)) := (blk_cell HRv9.out 1).trans rfl
                                          go_wp2_with fail
                                          go_quiet (fail)
                                          rename_i nq
                                          by_cases hZ : a + 25 < s.size
                                          · have hZ1 : decide (((a + 25 : Nat) : Int) < (s.size : Int)) = true := decide_eq_true (by omega)
                                            have HRq := Lib.hid (blk_drewN HRv9.out nq)
                                            have HKq : Hid (Kp (fun k => k = g) w (v9.drewN nq)) := Lib.hid (HKv9.out.drewN nq)
                                            have q3 : (v9.drewN nq).cell? ⟨g, 1, none⟩ = some (.int .i64 ((a + 25 : Nat) : Int)) := (blk_cell HRq.out 1).trans rfl
                                            generalize v9.drewN nq = v10 at *
                                            go_wp2_with (rw [hZ1])
                                            refine (wrong_any 14 _ HRq.out).mono ?_
                                            rintro en w11 ⟨rfl, hr, hk⟩
                                            have HR11 := Lib.hid hr
                                            have HK11 := Lib.hid (HKq.out.tr hk)
                                            clear hr hk
                                            go_wp2_with fail
                                            go_ret
                                            exact rend_no HK11.out ⟨14, _, by decide, HR11.out⟩
                                          · have hZ1 : decide (((a + 25 : Nat) : Int) < (s.size : Int)) = false := decide_eq_false (by omega)
                                            have HRq := Lib.hid (blk_drewN HRv9.out nq)
                                            have HKq : Hid (Kp (fun k => k = g) w (v9.drewN nq)) := Lib.hid (HKv9.out.drewN nq)
                                            generalize v9.drewN nq = v10 at *
                                            go_wp2_with (rw [hZ1])
                                            go_ret
                                            exact ⟨HKq.out, .inl ⟨rfl, end_text ha H90.out HO0.out HO1.out HO2.out HO3.out (by omega), _, HRq.out⟩⟩
                                        exact AllReady.nil
                                      exact AllReady.nil
                                    exact AllReady.nil
                                  exact AllReady.nil
                                exact AllReady.nil
                              refine AllReady.cons rfl (fun K hK => ?_) ?_
                              · go_simp
                                refine hK _ _ ?_
                                clear hK K
                                refine wpAny_ready (rs := [27]) (by kernel_rfl) (by simp) ?_
                                refine AllReady.cons rfl (fun K hK => ?_) ?_
                                · go_simp
                                  refine hK _ _ ?_
                                  clear hK K
                                  refine wpAny_taked (d := 53) (i := 33) (v := ?_) rfl rfl (by kernel_rfl) (by kernel_rfl) (by kernel_rfl) (fun _ _ _ h => h) (Or.inl ⟨by kernel_rfl, ?_⟩) ?_
                                  rotate_left
                                  · intro w
                                    (try go_simp)
                                    (try with_reducible rfl)
                                  refine wpAny_ready (rs := [34]) (by kernel_rfl) (by simp) ?_
                                  refine AllReady.cons rfl (fun K hK => ?_) ?_
                                  · go_simp
                                    refine hK _ _ ?_
                                    clear hK K
                                    refine wpAny_ready (rs := [35]) (by kernel_rfl) (by simp) ?_
                                    refine AllReady.cons rfl (fun K hK => ?_) ?_
                                    · go_simp
                                      go_wp2_with (go_at_call 112; refine (of_any ⟨v6.heap.size, 0, none⟩ 1 (s.extract a (a + 21)) _ (by rw [ByteArray.size_extract]; omega) ((blk_cell (blk_new v6 _) 0).trans rfl)).mono ?_; rintro en v7 ⟨rfl, hb⟩; have HRv7 := Lib.hid (blk_below (blk_alloc HRv6.out (.cells #[.string (s.extract a (a + 21))] 9)) hb); have HTv7 := Lib.hid (blk_below (blk_alloc HTv6.out (.cells #[.string (s.extract a (a + 21))] 9)) hb); have HKv7 : Hid (Kp (fun k => k = g) w v7) := Lib.hid ((HKv6.out.alloc (.cells #[.string (s.extract a (a + 21))] 9)).tr (Kp.of_below hb)); clear hb)
                                      refine wpAny_ready (rs := [36]) (by kernel_rfl) (by simp) ?_
                                      refine AllReady.cons rfl (fun K hK => ?_) ?_
                                      · go_simp
                                        go_wp2_with (go_at_call 111; refine (four_any (ofF (s.extract a (a + 21))) _).mono ?_; rintro en v8 ⟨rfl, hb⟩; have HRv8 := Lib.hid (blk_below HRv7.out hb); have HTv8 := Lib.hid (blk_below HTv7.out hb); have HKv8 : Hid (Kp (fun k => k = g) w v8) := Lib.hid (HKv7.out.tr (Kp.of_below hb)); clear hb)
                                        refine wpAny_ready (rs := [37]) (by kernel_rfl) (by simp) ?_
                                        refine AllReady.cons rfl (fun K hK => ?_) ?_
                                        · go_simp
                                          go_wp2_with (go_at_call 108; refine (same_yes (a + 21) (strOfNums (le4 (ofF (s.extract a (a + 21))))) 6 (by decide) hs (by rw [le4_size]; decide) HO3.out HRv8.out).mono ?_; rintro en v9 ⟨rfl, hr, hk⟩; rw [le4_size] at hr; have HRv9 : Hid (RdAt v9 g s ((a + 25 : Nat) : Int) 0 0) := Lib.hid hr; have HTv9 := Lib.hid (hk.blk HTv8.out (fun h => by omega)); have HKv9 := Lib.hid (HKv8.out.tr hk); clear hr hk; have t1 : v9.cell? ⟨B, 1, none⟩ = some (.int .u64 x) := (blk_cell HTv9.out 1).trans rfl; have t2 : v9.cell? ⟨B, 2, none⟩ = some (.int .u64 y) := (blk_cell HTv9.out 2).trans rfl; have g0 : v9.cell? ⟨g, 0, none⟩ = some (.string s) := (blk_cell HRv9.out 0).trans rfl)
                                          refine wpAny_taked (d := 58) (i := 38) (v := ?_) rfl rfl (by kernel_rfl) (by kernel_rfl) (by kernel_rfl) (fun _ _ _ h => h) (Or.inl ⟨by kernel_rfl, ?_⟩) ?_
                                          rotate_left
                                          · intro w
                                            (try go_simp)
                                            (try with_reducible rfl)
                                          refine wpAny_taked (d := 59) (i := 39) (v := ?_) rfl rfl (by kernel_rfl) (by kernel_rfl) (by kernel_rfl) (fun _ _ _ h => h) (Or.inl ⟨by kernel_rfl, ?_⟩) ?_
                                          rotate_left
                                          · intro w
                                            (try go_simp)
                                            (try with_reducible rfl)
                                          refine wpAny_done (by kernel_rfl) ?_ _
                                          (try simp only [Exit.then])
                                          (try go_simp)
                                          have q0 : v9.cell? ⟨g, 0, none⟩ = some (.string s) := (blk_cell HRv9.out 0).trans rfl
                                          have q1 : v9.cell? ⟨g, 1, none⟩ = some (.int .i64 ((a + 25 : Nat) : Int)) := (blk_cell HRv9.out 1).trans rfl
                                          go_wp2_with fail
                                          go_quiet (fail)
                                          rename_i nq
                                          by_cases hZ : a + 25 < s.size
                                          · have hZ1 : decide (((a + 25 : Nat) : Int) < (s.size : Int)) = true := decide_eq_true (by omega)
                                            have HRq := Lib.hid (blk_drewN HRv9.out nq)
                                            have HKq : Hid (Kp (fun k => k = g) w (v9.drewN nq)) := Lib.hid (HKv9.out.drewN nq)
                                            have q3 : (v9.drewN nq).cell? ⟨g, 1, none⟩ = some (.int .i64 ((a + 25 : Nat) : Int)) := (blk_cell HRq.out 1).trans rfl
                                            generalize v9.drewN nq = v10 at *
                                            go_wp2_with (rw [hZ1])
                                            refine (wrong_any 14 _ HRq.out).mono ?_
                                            rintro en w11 ⟨rfl, hr, hk⟩
                                            have HR11 := Lib.hid hr
                                            have HK11 := Lib.hid (HKq.out.tr hk)
                                            clear hr hk
                                            go_wp2_with fail
                                            go_ret
                                            exact rend_no HK11.out ⟨14, _, by decide, HR11.out⟩
                                          · have hZ1 : decide (((a + 25 : Nat) : Int) < (s.size : Int)) = false := decide_eq_false (by omega)
                                            have HRq := Lib.hid (blk_drewN HRv9.out nq)
                                            have HKq : Hid (Kp (fun k => k = g) w (v9.drewN nq)) := Lib.hid (HKv9.out.drewN nq)
                                            generalize v9.drewN nq = v10 at *
                                            go_wp2_with (rw [hZ1])
                                            go_ret
                                            exact ⟨HKq.out, .inl ⟨rfl, end_text ha H90.out HO0.out HO1.out HO2.out HO3.out (by omega), _, HRq.out⟩⟩
                                        exact AllReady.nil
                                      exact AllReady.nil
                                    exact AllReady.nil
                                  exact AllReady.nil
                                exact AllReady.nil
                              exact AllReady.nil
                            exact AllReady.nil
                          exact AllReady.nil
                        exact AllReady.nil
                      exact AllReady.nil
                    exact AllReady.nil
                  exact AllReady.nil
                exact AllReady.nil
              exact AllReady.nil
            exact AllReady.nil
          · have HN3 := Lib.hid hO3
            clear hO3
            refine wp_region_any (by kernel_rfl) ?_
            (try (change wpAny _ _ _ _ _ _ _ (World.drew _)))
            have HRv0 : Hid (RdAt w3.drew g s ((a + 1 : Nat) : Int) 0 0) := Lib.hid (blk_drew HR3.out)
            have HTv0 := Lib.hid (blk_drew HT3.out)
            have HKv0 : Hid (Kp (fun k => k = g) w w3.drew) := Lib.hid HK3.out.drew
            generalize World.drew w3 = v0 at *
            have t0 : v0.cell? ⟨B, 0, none⟩ = some (.int .u32 n) := (blk_cell HTv0.out 0).trans rfl
            refine wpAny_taked (d := 20) (i := 0) (v := ?_) rfl rfl (by kernel_rfl) (by kernel_rfl) (by kernel_rfl) (fun _ _ _ h => h) (Or.inl ⟨by kernel_rfl, ?_⟩) ?_
            rotate_left
            · intro w
              (try go_simp)
              (try with_reducible rfl)
            refine wpAny_taked (d := 21) (i := 1) (v := ?_) rfl rfl (by kernel_rfl) (by kernel_rfl) (by kernel_rfl) (fun _ _ _ h => h) (Or.inl ⟨by kernel_rfl, ?_⟩) ?_
            rotate_left
            · intro w
              (try go_simp)
              (try with_reducible rfl)
            refine wpAny_ready (rs := [2]) (by kernel_rfl) (by simp) ?_
            refine AllReady.cons rfl (fun K hK => ?_) ?_
            · go_simp
              refine hK _ _ ?_
              clear hK K
              refine wpAny_ready (rs := [3]) (by kernel_rfl) (by simp) ?_
              refine AllReady.cons rfl (fun K hK => ?_) ?_
              · go_simp
                go_wp2_with (go_at_call 111; refine (four_any n _).mono ?_; rintro en v1 ⟨rfl, hb⟩; have HRv1 := Lib.hid (blk_below HRv0.out hb); have HTv1 := Lib.hid (blk_below HTv0.out hb); have HKv1 : Hid (Kp (fun k => k = g) w v1) := Lib.hid (HKv0.out.tr (Kp.of_below hb)); clear hb)
                refine wpAny_ready (rs := [4]) (by kernel_rfl) (by simp) ?_
                refine AllReady.cons rfl (fun K hK => ?_) ?_
                · go_simp
                  go_wp2_with (go_at_call 108; refine (same_yes (a + 1) (strOfNums (le4 n)) 13 (by decide) hs (by rw [le4_size]; decide) HO0.out HRv1.out).mono ?_; rintro en v2 ⟨rfl, hr, hk⟩; rw [le4_size] at hr; have HRv2 : Hid (RdAt v2 g s ((a + 5 : Nat) : Int) 0 0) := Lib.hid hr; have HTv2 := Lib.hid (hk.blk HTv1.out (fun h => by omega)); have HKv2 := Lib.hid (HKv1.out.tr hk); clear hr hk; have t1 : v2.cell? ⟨B, 1, none⟩ = some (.int .u64 x) := (blk_cell HTv2.out 1).trans rfl; have t2 : v2.cell? ⟨B, 2, none⟩ = some (.int .u64 y) := (blk_cell HTv2.out 2).trans rfl; have g0 : v2.cell? ⟨g, 0, none⟩ = some (.string s) := (blk_cell HRv2.out 0).trans rfl)
                  refine wpAny_taked (d := 25) (i := 5) (v := ?_) rfl rfl (by kernel_rfl) (by kernel_rfl) (by kernel_rfl) (fun _ _ _ h => h) (Or.inl ⟨by kernel_rfl, ?_⟩) ?_
                  rotate_left
                  · intro w
                    (try go_simp)
                    (try with_reducible rfl)
                  refine wpAny_taked (d := 26) (i := 6) (v := ?_) rfl rfl (by kernel_rfl) (by kernel_rfl) (by kernel_rfl) (fun _ _ _ h => h) (Or.inl ⟨by kernel_rfl, ?_⟩) ?_
                  rotate_left
                  · intro w
                    (try go_simp)
                    (try with_reducible rfl)
                  refine wpAny_taked (d := 27) (i := 7) (v := ?_) rfl rfl (by kernel_rfl) (by kernel_rfl) (by kernel_rfl) (fun _ _ _ h => h) (Or.inl ⟨by kernel_rfl, ?_⟩) ?_
                  rotate_left
                  · intro w
                    (try go_simp)
                    (try with_reducible rfl)
                  refine wpAny_taked (d := 28) (i := 8) (v := ?_) rfl rfl (by kernel_rfl) (by kernel_rfl) (by kernel_rfl) (fun _ _ _ h => h) (Or.inl ⟨by kernel_rfl, ?_⟩) ?_
                  rotate_left
                  · intro w
                    (try go_simp)
                    (try with_reducible rfl)
                  refine wpAny_ready (rs := [9]) (by kernel_rfl) (by simp) ?_
                  refine AllReady.cons rfl (fun K hK => ?_) ?_
                  · go_simp
                    refine hK _ _ ?_
                    clear hK K
                    refine wpAny_ready (rs := [10]) (by kernel_rfl) (by simp) ?_
                    refine AllReady.cons rfl (fun K hK => ?_) ?_
                    · go_simp
                      go_wp2_with (go_at_call 113; refine (eight_any x _).mono ?_; rintro en v3 ⟨rfl, hb⟩; have HRv3 := Lib.hid (blk_below HRv2.out hb); have HTv3 := Lib.hid (blk_below HTv2.out hb); have HKv3 : Hid (Kp (fun k => k = g) w v3) := Lib.hid (HKv2.out.tr (Kp.of_below hb)); clear hb)
                      refine wpAny_ready (rs := [11]) (by kernel_rfl) (by simp) ?_
                      refine AllReady.cons rfl (fun K hK => ?_) ?_
                      · go_simp
                        go_wp2_with (go_at_call 108; refine (same_yes (a + 5) (eightS x) 13 (by decide) hs (by rw [eightS_size]; decide) HO1.out HRv3.out).mono ?_; rintro en v4 ⟨rfl, hr, hk⟩; rw [eightS_size] at hr; have HRv4 : Hid (RdAt v4 g s ((a + 13 : Nat) : Int) 0 0) := Lib.hid hr; have HTv4 := Lib.hid (hk.blk HTv3.out (fun h => by omega)); have HKv4 := Lib.hid (HKv3.out.tr hk); clear hr hk; have t1 : v4.cell? ⟨B, 1, none⟩ = some (.int .u64 x) := (blk_cell HTv4.out 1).trans rfl; have t2 : v4.cell? ⟨B, 2, none⟩ = some (.int .u64 y) := (blk_cell HTv4.out 2).trans rfl; have g0 : v4.cell? ⟨g, 0, none⟩ = some (.string s) := (blk_cell HRv4.out 0).trans rfl)
                        refine wpAny_taked (d := 32) (i := 12) (v := ?_) rfl rfl (by kernel_rfl) (by kernel_rfl) (by kernel_rfl) (fun _ _ _ h => h) (Or.inl ⟨by kernel_rfl, ?_⟩) ?_
                        rotate_left
                        · intro w
                          (try go_simp)
                          (try with_reducible rfl)
                        refine wpAny_taked (d := 33) (i := 13) (v := ?_) rfl rfl (by kernel_rfl) (by kernel_rfl) (by kernel_rfl) (fun _ _ _ h => h) (Or.inl ⟨by kernel_rfl, ?_⟩) ?_
                        rotate_left
                        · intro w
                          (try go_simp)
                          (try with_reducible rfl)
                        refine wpAny_taked (d := 34) (i := 14) (v := ?_) rfl rfl (by kernel_rfl) (by kernel_rfl) (by kernel_rfl) (fun _ _ _ h => h) (Or.inl ⟨by kernel_rfl, ?_⟩) ?_
                        rotate_left
                        · intro w
                          (try go_simp)
                          (try with_reducible rfl)
                        refine wpAny_taked (d := 35) (i := 15) (v := ?_) rfl rfl (by kernel_rfl) (by kernel_rfl) (by kernel_rfl) (fun _ _ _ h => h) (Or.inl ⟨by kernel_rfl, ?_⟩) ?_
                        rotate_left
                        · intro w
                          (try go_simp)
                          (try with_reducible rfl)
                        refine wpAny_taked (d := 36) (i := 16) (v := ?_) rfl rfl (by kernel_rfl) (by kernel_rfl) (by kernel_rfl) (fun _ _ _ h => h) (Or.inl ⟨by kernel_rfl, ?_⟩) ?_
                        rotate_left
                        · intro w
                          (try go_simp)
                          (try with_reducible rfl)
                        refine wpAny_ready (rs := [17]) (by kernel_rfl) (by simp) ?_
                        refine AllReady.cons rfl (fun K hK => ?_) ?_
                        · go_simp
                          refine hK _ _ ?_
                          clear hK K
                          refine wpAny_ready (rs := [18]) (by kernel_rfl) (by simp) ?_
                          refine AllReady.cons rfl (fun K hK => ?_) ?_
                          · go_simp
                            go_wp2_with (go_at_call 113; refine (eight_any y _).mono ?_; rintro en v5 ⟨rfl, hb⟩; have HRv5 := Lib.hid (blk_below HRv4.out hb); have HTv5 := Lib.hid (blk_below HTv4.out hb); have HKv5 : Hid (Kp (fun k => k = g) w v5) := Lib.hid (HKv4.out.tr (Kp.of_below hb)); clear hb)
                            refine wpAny_ready (rs := [19]) (by kernel_rfl) (by simp) ?_
                            refine AllReady.cons rfl (fun K hK => ?_) ?_
                            · go_simp
                              go_wp2_with (go_at_call 108; refine (same_yes (a + 13) (eightS y) 13 (by decide) hs (by rw [eightS_size]; decide) HO2.out HRv5.out).mono ?_; rintro en v6 ⟨rfl, hr, hk⟩; rw [eightS_size] at hr; have HRv6 : Hid (RdAt v6 g s ((a + 21 : Nat) : Int) 0 0) := Lib.hid hr; have HTv6 := Lib.hid (hk.blk HTv5.out (fun h => by omega)); have HKv6 := Lib.hid (HKv5.out.tr hk); clear hr hk; have t1 : v6.cell? ⟨B, 1, none⟩ = some (.int .u64 x) := (blk_cell HTv6.out 1).trans rfl; have t2 : v6.cell? ⟨B, 2, none⟩ = some (.int .u64 y) := (blk_cell HTv6.out 2).trans rfl; have g0 : v6.cell? ⟨g, 0, none⟩ = some (.string s) := (blk_cell HRv6.out 0).trans rfl; have g1 : v6.cell? ⟨g, 1, none⟩ = some (.int .i64 ((a + 21 : Nat) : Int)) := (blk_cell HRv6.out 1).trans rfl)
                              refine wpAny_taked (d := 40) (i := 20) (v := ?_) rfl rfl (by kernel_rfl) (by kernel_rfl) (by kernel_rfl) (fun _ _ _ h => h) (Or.inl ⟨by kernel_rfl, ?_⟩) ?_
                              rotate_left
                              · intro w
                                (try go_simp)
                                (try with_reducible rfl)
                              refine wpAny_taked (d := 41) (i := 21) (v := ?_) rfl rfl (by kernel_rfl) (by kernel_rfl) (by kernel_rfl) (fun _ _ _ h => h) (Or.inl ⟨by kernel_rfl, ?_⟩) ?_
                              rotate_left
                              · intro w
                                (try go_simp)
                                (try with_reducible rfl)
                              refine wpAny_taked (d := 42) (i := 22) (v := ?_) rfl rfl (by kernel_rfl) (by kernel_rfl) (by kernel_rfl) (fun _ _ _ h => h) (Or.inl ⟨by kernel_rfl, ?_⟩) ?_
                              rotate_left
                              · intro w
                                (try go_simp)
                                (try with_reducible rfl)
                              refine wpAny_taked (d := 43) (i := 23) (v := ?_) rfl rfl (by kernel_rfl) (by kernel_rfl) (by kernel_rfl) (fun _ _ _ h => h) (Or.inl ⟨by kernel_rfl, ?_⟩) ?_
                              rotate_left
                              · intro w
                                (try go_simp)
                                (try with_reducible rfl)
                              refine wpAny_taked (d := 44) (i := 24) (v := ?_) rfl rfl (by kernel_rfl) (by kernel_rfl) (by kernel_rfl) (fun _ _ _ h => h) (Or.inl ⟨by kernel_rfl, ?_⟩) ?_
                              rotate_left
                              · intro w
                                (try go_simp)
                                (try with_reducible rfl)
                              refine wpAny_taked (d := 45) (i := 25) (v := ?_) rfl rfl (by kernel_rfl) (by kernel_rfl) (by kernel_rfl) (fun _ _ _ h => h) (Or.inl ⟨by kernel_rfl, ?_⟩) ?_
                              rotate_left
                              · intro w
                                (try go_simp)
                                (try with_reducible rfl)
                              refine wpAny_taked (d := 46) (i := 26) (v := ?_) rfl rfl (by kernel_rfl) (by kernel_rfl) (by kernel_rfl) (fun _ _ _ h => h) (Or.inl ⟨by kernel_rfl, ?_⟩) ?_
                              rotate_left
                              · intro w
                                (try go_simp)
                                (try with_reducible rfl)
                              refine wpAny_taked (d := 48) (i := 28) (v := ?_) rfl rfl (by kernel_rfl) (by kernel_rfl) (by kernel_rfl) (fun _ _ _ h => h) (Or.inl ⟨by kernel_rfl, ?_⟩) ?_
                              rotate_left
                              · intro w
                                (try go_simp)
                                (try with_reducible rfl)
                              refine wpAny_taked (d := 49) (i := 29) (v := ?_) rfl rfl (by kernel_rfl) (by kernel_rfl) (by kernel_rfl) (fun _ _ _ h => h) (Or.inl ⟨by kernel_rfl, ?_⟩) ?_
                              rotate_left
                              · intro w
                                (try go_simp)
                                (try with_reducible rfl)
                              refine wpAny_taked (d := 50) (i := 30) (v := ?_) rfl rfl (by kernel_rfl) (by kernel_rfl) (by kernel_rfl) (fun _ _ _ h => h) (Or.inl ⟨by kernel_rfl, ?_⟩) ?_
                              rotate_left
                              · intro w
                                (try go_simp)
                                (try with_reducible rfl)
                              refine wpAny_taked (d := 51) (i := 31) (v := ?_) rfl rfl (by kernel_rfl) (by kernel_rfl) (by kernel_rfl) (fun _ _ _ h => h) (Or.inl ⟨by kernel_rfl, ?_⟩) ?_
                              rotate_left
                              · intro w
                                (try go_simp)
                                (try with_reducible rfl)
                              refine wpAny_ready (rs := [27, 32]) (by kernel_rfl) (by simp) ?_
                              refine AllReady.cons rfl (fun K hK => ?_) ?_
                              · go_simp
                                refine hK _ _ ?_
                                clear hK K
                                refine wpAny_ready (rs := [32]) (by kernel_rfl) (by simp) ?_
                                refine AllReady.cons rfl (fun K hK => ?_) ?_
                                · go_simp
                                  refine hK _ _ ?_
                                  clear hK K
                                  refine wpAny_taked (d := 53) (i := 33) (v := ?_) rfl rfl (by kernel_rfl) (by kernel_rfl) (by kernel_rfl) (fun _ _ _ h => h) (Or.inl ⟨by kernel_rfl, ?_⟩) ?_
                                  rotate_left
                                  · intro w
                                    (try go_simp)
                                    (try with_reducible rfl)
                                  refine wpAny_ready (rs := [34]) (by kernel_rfl) (by simp) ?_
                                  refine AllReady.cons rfl (fun K hK => ?_) ?_
                                  · go_simp
                                    refine hK _ _ ?_
                                    clear hK K
                                    refine wpAny_ready (rs := [35]) (by kernel_rfl) (by simp) ?_
                                    refine AllReady.cons rfl (fun K hK => ?_) ?_
                                    · go_simp
                                      go_wp2_with (go_at_call 112; refine (of_any ⟨v6.heap.size, 0, none⟩ 1 (s.extract a (a + 21)) _ (by rw [ByteArray.size_extract]; omega) ((blk_cell (blk_new v6 _) 0).trans rfl)).mono ?_; rintro en v7 ⟨rfl, hb⟩; have HRv7 := Lib.hid (blk_below (blk_alloc HRv6.out (.cells #[.string (s.extract a (a + 21))] 9)) hb); have HTv7 := Lib.hid (blk_below (blk_alloc HTv6.out (.cells #[.string (s.extract a (a + 21))] 9)) hb); have HKv7 : Hid (Kp (fun k => k = g) w v7) := Lib.hid ((HKv6.out.alloc (.cells #[.string (s.extract a (a + 21))] 9)).tr (Kp.of_below hb)); clear hb)
                                      refine wpAny_ready (rs := [36]) (by kernel_rfl) (by simp) ?_
                                      refine AllReady.cons rfl (fun K hK => ?_) ?_
                                      · go_simp
                                        go_wp2_with (go_at_call 111; refine (four_any (ofF (s.extract a (a + 21))) _).mono ?_; rintro en v8 ⟨rfl, hb⟩; have HRv8 := Lib.hid (blk_below HRv7.out hb); have HTv8 := Lib.hid (blk_below HTv7.out hb); have HKv8 : Hid (Kp (fun k => k = g) w v8) := Lib.hid (HKv7.out.tr (Kp.of_below hb)); clear hb)
                                        refine wpAny_ready (rs := [37]) (by kernel_rfl) (by simp) ?_
                                        refine AllReady.cons rfl (fun K hK => ?_) ?_
                                        · go_simp
                                          go_wp2_with (go_at_call 108; refine (same_no (a + 21) (strOfNums (le4 (ofF (s.extract a (a + 21))))) 6 (by decide) hs (by rw [le4_size]; decide) (by omega) HN3.out HRv8.out).mono ?_; rintro en v9 ⟨rfl, hr, hk⟩; have HEv9 := Lib.hid hr; have HKv9 := Lib.hid (HKv8.out.tr hk); clear hr hk)
                                          refine wpAny_taked (d := 58) (i := 38) (v := ?_) rfl rfl (by kernel_rfl) (by kernel_rfl) (by kernel_rfl) (fun _ _ _ h => h) (Or.inl ⟨by kernel_rfl, ?_⟩) ?_
                                          rotate_left
                                          · intro w
                                            (try go_simp)
                                            (try with_reducible rfl)
                                          refine wpAny_taked (d := 59) (i := 39) (v := ?_) rfl rfl (by kernel_rfl) (by kernel_rfl) (by kernel_rfl) (fun _ _ _ h => h) (Or.inl ⟨by kernel_rfl, ?_⟩) ?_
                                          rotate_left
                                          · intro w
                                            (try go_simp)
                                            (try with_reducible rfl)
                                          refine wpAny_done (by kernel_rfl) ?_ _
                                          (try simp only [Exit.then])
                                          (try go_simp)
                                          go_wp2_with fail
                                          go_ret
                                          exact rend_no HKv9.out HEv9.out
                                        exact AllReady.nil
                                      exact AllReady.nil
                                    exact AllReady.nil
                                  exact AllReady.nil
                                exact AllReady.nil
                              refine AllReady.cons rfl (fun K hK => ?_) ?_
                              · go_simp
                                refine hK _ _ ?_
                                clear hK K
                                refine wpAny_ready (rs := [27]) (by kernel_rfl) (by simp) ?_
                                refine AllReady.cons rfl (fun K hK => ?_) ?_
                                · go_simp
                                  refine hK _ _ ?_
                                  clear hK K
                                  refine wpAny_taked (d := 53) (i := 33) (v := ?_) rfl rfl (by kernel_rfl) (by kernel_rfl) (by kernel_rfl) (fun _ _ _ h => h) (Or.inl ⟨by kernel_rfl, ?_⟩) ?_
                                  rotate_left
                                  · intro w
                                    (try go_simp)
                                    (try with_reducible rfl)
                                  refine wpAny_ready (rs := [34]) (by kernel_rfl) (by simp) ?_
                                  refine AllReady.cons rfl (fun K hK => ?_) ?_
                                  · go_simp
                                    refine hK _ _ ?_
                                    clear hK K
                                    refine wpAny_ready (rs := [35]) (by kernel_rfl) (by simp) ?_
                                    refine AllReady.cons rfl (fun K hK => ?_) ?_
                                    · go_simp
                                      go_wp2_with (go_at_call 112; refine (of_any ⟨v6.heap.size, 0, none⟩ 1 (s.extract a (a + 21)) _ (by rw [ByteArray.size_extract]; omega) ((blk_cell (blk_new v6 _) 0).trans rfl)).mono ?_; rintro en v7 ⟨rfl, hb⟩; have HRv7 := Lib.hid (blk_below (blk_alloc HRv6.out (.cells #[.string (s.extract a (a + 21))] 9)) hb); have HTv7 := Lib.hid (blk_below (blk_alloc HTv6.out (.cells #[.string (s.extract a (a + 21))] 9)) hb); have HKv7 : Hid (Kp (fun k => k = g) w v7) := Lib.hid ((HKv6.out.alloc (.cells #[.string (s.extract a (a + 21))] 9)).tr (Kp.of_below hb)); clear hb)
                                      refine wpAny_ready (rs := [36]) (by kernel_rfl) (by simp) ?_
                                      refine AllReady.cons rfl (fun K hK => ?_) ?_
                                      · go_simp
                                        go_wp2_with (go_at_call 111; refine (four_any (ofF (s.extract a (a + 21))) _).mono ?_; rintro en v8 ⟨rfl, hb⟩; have HRv8 := Lib.hid (blk_below HRv7.out hb); have HTv8 := Lib.hid (blk_below HTv7.out hb); have HKv8 : Hid (Kp (fun k => k = g) w v8) := Lib.hid (HKv7.out.tr (Kp.of_below hb)); clear hb)
                                        refine wpAny_ready (rs := [37]) (by kernel_rfl) (by simp) ?_
                                        refine AllReady.cons rfl (fun K hK => ?_) ?_
                                        · go_simp
                                          go_wp2_with (go_at_call 108; refine (same_no (a + 21) (strOfNums (le4 (ofF (s.extract a (a + 21))))) 6 (by decide) hs (by rw [le4_size]; decide) (by omega) HN3.out HRv8.out).mono ?_; rintro en v9 ⟨rfl, hr, hk⟩; have HEv9 := Lib.hid hr; have HKv9 := Lib.hid (HKv8.out.tr hk); clear hr hk)
                                          refine wpAny_taked (d := 58) (i := 38) (v := ?_) rfl rfl (by kernel_rfl) (by kernel_rfl) (by kernel_rfl) (fun _ _ _ h => h) (Or.inl ⟨by kernel_rfl, ?_⟩) ?_
                                          rotate_left
                                          · intro w
                                            (try go_simp)
                                            (try with_reducible rfl)
                                          refine wpAny_taked (d := 59) (i := 39) (v := ?_) rfl rfl (by kernel_rfl) (by kernel_rfl) (by kernel_rfl) (fun _ _ _ h => h) (Or.inl ⟨by kernel_rfl, ?_⟩) ?_
                                          rotate_left
                                          · intro w
                                            (try go_simp)
                                            (try with_reducible rfl)
                                          refine wpAny_done (by kernel_rfl) ?_ _
                                          (try simp only [Exit.then])
                                          (try go_simp)
                                          go_wp2_with fail
                                          go_ret
                                          exact rend_no HKv9.out HEv9.out
                                        exact AllReady.nil
                                      exact AllReady.nil
                                    exact AllReady.nil
                                  exact AllReady.nil
                                exact AllReady.nil
                              exact AllReady.nil
                            exact AllReady.nil
                          exact AllReady.nil
                        exact AllReady.nil
                      exact AllReady.nil
                    exact AllReady.nil
                  exact AllReady.nil
                exact AllReady.nil
              exact AllReady.nil
            exact AllReady.nil
        · have HN2 := Lib.hid hO2
          clear hO2
          refine wp_region_any (by kernel_rfl) ?_
          (try (change wpAny _ _ _ _ _ _ _ (World.drew _)))
          have HRv0 : Hid (RdAt w3.drew g s ((a + 1 : Nat) : Int) 0 0) := Lib.hid (blk_drew HR3.out)
          have HTv0 := Lib.hid (blk_drew HT3.out)
          have HKv0 : Hid (Kp (fun k => k = g) w w3.drew) := Lib.hid HK3.out.drew
          generalize World.drew w3 = v0 at *
          have t0 : v0.cell? ⟨B, 0, none⟩ = some (.int .u32 n) := (blk_cell HTv0.out 0).trans rfl
          refine wpAny_taked (d := 20) (i := 0) (v := ?_) rfl rfl (by kernel_rfl) (by kernel_rfl) (by kernel_rfl) (fun _ _ _ h => h) (Or.inl ⟨by kernel_rfl, ?_⟩) ?_
          rotate_left
          · intro w
            (try go_simp)
            (try with_reducible rfl)
          refine wpAny_taked (d := 21) (i := 1) (v := ?_) rfl rfl (by kernel_rfl) (by kernel_rfl) (by kernel_rfl) (fun _ _ _ h => h) (Or.inl ⟨by kernel_rfl, ?_⟩) ?_
          rotate_left
          · intro w
            (try go_simp)
            (try with_reducible rfl)
          refine wpAny_ready (rs := [2]) (by kernel_rfl) (by simp) ?_
          refine AllReady.cons rfl (fun K hK => ?_) ?_
          · go_simp
            refine hK _ _ ?_
            clear hK K
            refine wpAny_ready (rs := [3]) (by kernel_rfl) (by simp) ?_
            refine AllReady.cons rfl (fun K hK => ?_) ?_
            · go_simp
              go_wp2_with (go_at_call 111; refine (four_any n _).mono ?_; rintro en v1 ⟨rfl, hb⟩; have HRv1 := Lib.hid (blk_below HRv0.out hb); have HTv1 := Lib.hid (blk_below HTv0.out hb); have HKv1 : Hid (Kp (fun k => k = g) w v1) := Lib.hid (HKv0.out.tr (Kp.of_below hb)); clear hb)
              refine wpAny_ready (rs := [4]) (by kernel_rfl) (by simp) ?_
              refine AllReady.cons rfl (fun K hK => ?_) ?_
              · go_simp
                go_wp2_with (go_at_call 108; refine (same_yes (a + 1) (strOfNums (le4 n)) 13 (by decide) hs (by rw [le4_size]; decide) HO0.out HRv1.out).mono ?_; rintro en v2 ⟨rfl, hr, hk⟩; rw [le4_size] at hr; have HRv2 : Hid (RdAt v2 g s ((a + 5 : Nat) : Int) 0 0) := Lib.hid hr; have HTv2 := Lib.hid (hk.blk HTv1.out (fun h => by omega)); have HKv2 := Lib.hid (HKv1.out.tr hk); clear hr hk; have t1 : v2.cell? ⟨B, 1, none⟩ = some (.int .u64 x) := (blk_cell HTv2.out 1).trans rfl; have t2 : v2.cell? ⟨B, 2, none⟩ = some (.int .u64 y) := (blk_cell HTv2.out 2).trans rfl; have g0 : v2.cell? ⟨g, 0, none⟩ = some (.string s) := (blk_cell HRv2.out 0).trans rfl)
                refine wpAny_taked (d := 25) (i := 5) (v := ?_) rfl rfl (by kernel_rfl) (by kernel_rfl) (by kernel_rfl) (fun _ _ _ h => h) (Or.inl ⟨by kernel_rfl, ?_⟩) ?_
                rotate_left
                · intro w
                  (try go_simp)
                  (try with_reducible rfl)
                refine wpAny_taked (d := 26) (i := 6) (v := ?_) rfl rfl (by kernel_rfl) (by kernel_rfl) (by kernel_rfl) (fun _ _ _ h => h) (Or.inl ⟨by kernel_rfl, ?_⟩) ?_
                rotate_left
                · intro w
                  (try go_simp)
                  (try with_reducible rfl)
                refine wpAny_taked (d := 27) (i := 7) (v := ?_) rfl rfl (by kernel_rfl) (by kernel_rfl) (by kernel_rfl) (fun _ _ _ h => h) (Or.inl ⟨by kernel_rfl, ?_⟩) ?_
                rotate_left
                · intro w
                  (try go_simp)
                  (try with_reducible rfl)
                refine wpAny_taked (d := 28) (i := 8) (v := ?_) rfl rfl (by kernel_rfl) (by kernel_rfl) (by kernel_rfl) (fun _ _ _ h => h) (Or.inl ⟨by kernel_rfl, ?_⟩) ?_
                rotate_left
                · intro w
                  (try go_simp)
                  (try with_reducible rfl)
                refine wpAny_ready (rs := [9]) (by kernel_rfl) (by simp) ?_
                refine AllReady.cons rfl (fun K hK => ?_) ?_
                · go_simp
                  refine hK _ _ ?_
                  clear hK K
                  refine wpAny_ready (rs := [10]) (by kernel_rfl) (by simp) ?_
                  refine AllReady.cons rfl (fun K hK => ?_) ?_
                  · go_simp
                    go_wp2_with (go_at_call 113; refine (eight_any x _).mono ?_; rintro en v3 ⟨rfl, hb⟩; have HRv3 := Lib.hid (blk_below HRv2.out hb); have HTv3 := Lib.hid (blk_below HTv2.out hb); have HKv3 : Hid (Kp (fun k => k = g) w v3) := Lib.hid (HKv2.out.tr (Kp.of_below hb)); clear hb)
                    refine wpAny_ready (rs := [11]) (by kernel_rfl) (by simp) ?_
                    refine AllReady.cons rfl (fun K hK => ?_) ?_
                    · go_simp
                      go_wp2_with (go_at_call 108; refine (same_yes (a + 5) (eightS x) 13 (by decide) hs (by rw [eightS_size]; decide) HO1.out HRv3.out).mono ?_; rintro en v4 ⟨rfl, hr, hk⟩; rw [eightS_size] at hr; have HRv4 : Hid (RdAt v4 g s ((a + 13 : Nat) : Int) 0 0) := Lib.hid hr; have HTv4 := Lib.hid (hk.blk HTv3.out (fun h => by omega)); have HKv4 := Lib.hid (HKv3.out.tr hk); clear hr hk; have t1 : v4.cell? ⟨B, 1, none⟩ = some (.int .u64 x) := (blk_cell HTv4.out 1).trans rfl; have t2 : v4.cell? ⟨B, 2, none⟩ = some (.int .u64 y) := (blk_cell HTv4.out 2).trans rfl; have g0 : v4.cell? ⟨g, 0, none⟩ = some (.string s) := (blk_cell HRv4.out 0).trans rfl)
                      refine wpAny_taked (d := 32) (i := 12) (v := ?_) rfl rfl (by kernel_rfl) (by kernel_rfl) (by kernel_rfl) (fun _ _ _ h => h) (Or.inl ⟨by kernel_rfl, ?_⟩) ?_
                      rotate_left
                      · intro w
                        (try go_simp)
                        (try with_reducible rfl)
                      refine wpAny_taked (d := 33) (i := 13) (v := ?_) rfl rfl (by kernel_rfl) (by kernel_rfl) (by kernel_rfl) (fun _ _ _ h => h) (Or.inl ⟨by kernel_rfl, ?_⟩) ?_
                      rotate_left
                      · intro w
                        (try go_simp)
                        (try with_reducible rfl)
                      refine wpAny_taked (d := 34) (i := 14) (v := ?_) rfl rfl (by kernel_rfl) (by kernel_rfl) (by kernel_rfl) (fun _ _ _ h => h) (Or.inl ⟨by kernel_rfl, ?_⟩) ?_
                      rotate_left
                      · intro w
                        (try go_simp)
                        (try with_reducible rfl)
                      refine wpAny_taked (d := 35) (i := 15) (v := ?_) rfl rfl (by kernel_rfl) (by kernel_rfl) (by kernel_rfl) (fun _ _ _ h => h) (Or.inl ⟨by kernel_rfl, ?_⟩) ?_
                      rotate_left
                      · intro w
                        (try go_simp)
                        (try with_reducible rfl)
                      refine wpAny_taked (d := 36) (i := 16) (v := ?_) rfl rfl (by kernel_rfl) (by kernel_rfl) (by kernel_rfl) (fun _ _ _ h => h) (Or.inl ⟨by kernel_rfl, ?_⟩) ?_
                      rotate_left
                      · intro w
                        (try go_simp)
                        (try with_reducible rfl)
                      refine wpAny_ready (rs := [17]) (by kernel_rfl) (by simp) ?_
                      refine AllReady.cons rfl (fun K hK => ?_) ?_
                      · go_simp
                        refine hK _ _ ?_
                        clear hK K
                        refine wpAny_ready (rs := [18]) (by kernel_rfl) (by simp) ?_
                        refine AllReady.cons rfl (fun K hK => ?_) ?_
                        · go_simp
                          go_wp2_with (go_at_call 113; refine (eight_any y _).mono ?_; rintro en v5 ⟨rfl, hb⟩; have HRv5 := Lib.hid (blk_below HRv4.out hb); have HTv5 := Lib.hid (blk_below HTv4.out hb); have HKv5 : Hid (Kp (fun k => k = g) w v5) := Lib.hid (HKv4.out.tr (Kp.of_below hb)); clear hb)
                          refine wpAny_ready (rs := [19]) (by kernel_rfl) (by simp) ?_
                          refine AllReady.cons rfl (fun K hK => ?_) ?_
                          · go_simp
                            go_wp2_with (go_at_call 108; refine (same_no (a + 13) (eightS y) 13 (by decide) hs (by rw [eightS_size]; decide) (by omega) HN2.out HRv5.out).mono ?_; rintro en v6 ⟨rfl, hr, hk⟩; have HEv6 := Lib.hid hr; have HKv6 := Lib.hid (HKv5.out.tr hk); clear hr hk)
                            refine wpAny_taked (d := 40) (i := 20) (v := ?_) rfl rfl (by kernel_rfl) (by kernel_rfl) (by kernel_rfl) (fun _ _ _ h => h) (Or.inl ⟨by kernel_rfl, ?_⟩) ?_
                            rotate_left
                            · intro w
                              (try go_simp)
                              (try with_reducible rfl)
                            refine wpAny_taked (d := 41) (i := 21) (v := ?_) rfl rfl (by kernel_rfl) (by kernel_rfl) (by kernel_rfl) (fun _ _ _ h => h) (Or.inl ⟨by kernel_rfl, ?_⟩) ?_
                            rotate_left
                            · intro w
                              (try go_simp)
                              (try with_reducible rfl)
                            refine wpAny_taked (d := 42) (i := 22) (v := ?_) rfl rfl (by kernel_rfl) (by kernel_rfl) (by kernel_rfl) (fun _ _ _ h => h) (Or.inl ⟨by kernel_rfl, ?_⟩) ?_
                            rotate_left
                            · intro w
                              (try go_simp)
                              (try with_reducible rfl)
                            refine wpAny_taked (d := 43) (i := 23) (v := undef) rfl rfl (by kernel_rfl) (by kernel_rfl) (by kernel_rfl) (fun _ _ _ h => h) (Or.inr ⟨by kernel_rfl, rfl⟩) ?_
                            refine wpAny_taked (d := 44) (i := 24) (v := undef) rfl rfl (by kernel_rfl) (by kernel_rfl) (by kernel_rfl) (fun _ _ _ h => h) (Or.inr ⟨by kernel_rfl, rfl⟩) ?_
                            refine wpAny_taked (d := 45) (i := 25) (v := undef) rfl rfl (by kernel_rfl) (by kernel_rfl) (by kernel_rfl) (fun _ _ _ h => h) (Or.inr ⟨by kernel_rfl, rfl⟩) ?_
                            refine wpAny_taked (d := 46) (i := 26) (v := undef) rfl rfl (by kernel_rfl) (by kernel_rfl) (by kernel_rfl) (fun _ _ _ h => h) (Or.inr ⟨by kernel_rfl, rfl⟩) ?_
                            refine wpAny_taked (d := 47) (i := 27) (v := undef) rfl rfl (by kernel_rfl) (by kernel_rfl) (by kernel_rfl) (fun _ _ _ h => h) (Or.inr ⟨by kernel_rfl, rfl⟩) ?_
                            refine wpAny_taked (d := 48) (i := 28) (v := undef) rfl rfl (by kernel_rfl) (by kernel_rfl) (by kernel_rfl) (fun _ _ _ h => h) (Or.inr ⟨by kernel_rfl, rfl⟩) ?_
                            refine wpAny_taked (d := 49) (i := 29) (v := undef) rfl rfl (by kernel_rfl) (by kernel_rfl) (by kernel_rfl) (fun _ _ _ h => h) (Or.inr ⟨by kernel_rfl, rfl⟩) ?_
                            refine wpAny_taked (d := 50) (i := 30) (v := undef) rfl rfl (by kernel_rfl) (by kernel_rfl) (by kernel_rfl) (fun _ _ _ h => h) (Or.inr ⟨by kernel_rfl, rfl⟩) ?_
                            refine wpAny_taked (d := 51) (i := 31) (v := undef) rfl rfl (by kernel_rfl) (by kernel_rfl) (by kernel_rfl) (fun _ _ _ h => h) (Or.inr ⟨by kernel_rfl, rfl⟩) ?_
                            refine wpAny_taked (d := 52) (i := 32) (v := undef) rfl rfl (by kernel_rfl) (by kernel_rfl) (by kernel_rfl) (fun _ _ _ h => h) (Or.inr ⟨by kernel_rfl, rfl⟩) ?_
                            refine wpAny_taked (d := 53) (i := 33) (v := undef) rfl rfl (by kernel_rfl) (by kernel_rfl) (by kernel_rfl) (fun _ _ _ h => h) (Or.inr ⟨by kernel_rfl, rfl⟩) ?_
                            refine wpAny_taked (d := 54) (i := 34) (v := undef) rfl rfl (by kernel_rfl) (by kernel_rfl) (by kernel_rfl) (fun _ _ _ h => h) (Or.inr ⟨by kernel_rfl, rfl⟩) ?_
                            refine wpAny_taked (d := 55) (i := 35) (v := undef) rfl rfl (by kernel_rfl) (by kernel_rfl) (by kernel_rfl) (fun _ _ _ h => h) (Or.inr ⟨by kernel_rfl, rfl⟩) ?_
                            refine wpAny_taked (d := 56) (i := 36) (v := undef) rfl rfl (by kernel_rfl) (by kernel_rfl) (by kernel_rfl) (fun _ _ _ h => h) (Or.inr ⟨by kernel_rfl, rfl⟩) ?_
                            refine wpAny_taked (d := 57) (i := 37) (v := undef) rfl rfl (by kernel_rfl) (by kernel_rfl) (by kernel_rfl) (fun _ _ _ h => h) (Or.inr ⟨by kernel_rfl, rfl⟩) ?_
                            refine wpAny_taked (d := 58) (i := 38) (v := undef) rfl rfl (by kernel_rfl) (by kernel_rfl) (by kernel_rfl) (fun _ _ _ h => h) (Or.inr ⟨by kernel_rfl, rfl⟩) ?_
                            refine wpAny_taked (d := 59) (i := 39) (v := ?_) rfl rfl (by kernel_rfl) (by kernel_rfl) (by kernel_rfl) (fun _ _ _ h => h) (Or.inl ⟨by kernel_rfl, ?_⟩) ?_
                            rotate_left
                            · intro w
                              (try go_simp)
                              (try with_reducible rfl)
                            refine wpAny_done (by kernel_rfl) ?_ _
                            (try simp only [Exit.then])
                            (try go_simp)
                            go_wp2_with fail
                            go_ret
                            exact rend_no HKv6.out HEv6.out
                          exact AllReady.nil
                        exact AllReady.nil
                      exact AllReady.nil
                    exact AllReady.nil
                  exact AllReady.nil
                exact AllReady.nil
              exact AllReady.nil
            exact AllReady.nil
          exact AllReady.nil
      · have HN1 := Lib.hid hO1
        clear hO1
        refine wp_region_any (by kernel_rfl) ?_
        (try (change wpAny _ _ _ _ _ _ _ (World.drew _)))
        have HRv0 : Hid (RdAt w3.drew g s ((a + 1 : Nat) : Int) 0 0) := Lib.hid (blk_drew HR3.out)
        have HTv0 := Lib.hid (blk_drew HT3.out)
        have HKv0 : Hid (Kp (fun k => k = g) w w3.drew) := Lib.hid HK3.out.drew
        generalize World.drew w3 = v0 at *
        have t0 : v0.cell? ⟨B, 0, none⟩ = some (.int .u32 n) := (blk_cell HTv0.out 0).trans rfl
        refine wpAny_taked (d := 20) (i := 0) (v := ?_) rfl rfl (by kernel_rfl) (by kernel_rfl) (by kernel_rfl) (fun _ _ _ h => h) (Or.inl ⟨by kernel_rfl, ?_⟩) ?_
        rotate_left
        · intro w
          (try go_simp)
          (try with_reducible rfl)
        refine wpAny_taked (d := 21) (i := 1) (v := ?_) rfl rfl (by kernel_rfl) (by kernel_rfl) (by kernel_rfl) (fun _ _ _ h => h) (Or.inl ⟨by kernel_rfl, ?_⟩) ?_
        rotate_left
        · intro w
          (try go_simp)
          (try with_reducible rfl)
        refine wpAny_ready (rs := [2]) (by kernel_rfl) (by simp) ?_
        refine AllReady.cons rfl (fun K hK => ?_) ?_
        · go_simp
          refine hK _ _ ?_
          clear hK K
          refine wpAny_ready (rs := [3]) (by kernel_rfl) (by simp) ?_
          refine AllReady.cons rfl (fun K hK => ?_) ?_
          · go_simp
            go_wp2_with (go_at_call 111; refine (four_any n _).mono ?_; rintro en v1 ⟨rfl, hb⟩; have HRv1 := Lib.hid (blk_below HRv0.out hb); have HTv1 := Lib.hid (blk_below HTv0.out hb); have HKv1 : Hid (Kp (fun k => k = g) w v1) := Lib.hid (HKv0.out.tr (Kp.of_below hb)); clear hb)
            refine wpAny_ready (rs := [4]) (by kernel_rfl) (by simp) ?_
            refine AllReady.cons rfl (fun K hK => ?_) ?_
            · go_simp
              go_wp2_with (go_at_call 108; refine (same_yes (a + 1) (strOfNums (le4 n)) 13 (by decide) hs (by rw [le4_size]; decide) HO0.out HRv1.out).mono ?_; rintro en v2 ⟨rfl, hr, hk⟩; rw [le4_size] at hr; have HRv2 : Hid (RdAt v2 g s ((a + 5 : Nat) : Int) 0 0) := Lib.hid hr; have HTv2 := Lib.hid (hk.blk HTv1.out (fun h => by omega)); have HKv2 := Lib.hid (HKv1.out.tr hk); clear hr hk; have t1 : v2.cell? ⟨B, 1, none⟩ = some (.int .u64 x) := (blk_cell HTv2.out 1).trans rfl; have t2 : v2.cell? ⟨B, 2, none⟩ = some (.int .u64 y) := (blk_cell HTv2.out 2).trans rfl; have g0 : v2.cell? ⟨g, 0, none⟩ = some (.string s) := (blk_cell HRv2.out 0).trans rfl)
              refine wpAny_taked (d := 25) (i := 5) (v := ?_) rfl rfl (by kernel_rfl) (by kernel_rfl) (by kernel_rfl) (fun _ _ _ h => h) (Or.inl ⟨by kernel_rfl, ?_⟩) ?_
              rotate_left
              · intro w
                (try go_simp)
                (try with_reducible rfl)
              refine wpAny_taked (d := 26) (i := 6) (v := ?_) rfl rfl (by kernel_rfl) (by kernel_rfl) (by kernel_rfl) (fun _ _ _ h => h) (Or.inl ⟨by kernel_rfl, ?_⟩) ?_
              rotate_left
              · intro w
                (try go_simp)
                (try with_reducible rfl)
              refine wpAny_taked (d := 27) (i := 7) (v := ?_) rfl rfl (by kernel_rfl) (by kernel_rfl) (by kernel_rfl) (fun _ _ _ h => h) (Or.inl ⟨by kernel_rfl, ?_⟩) ?_
              rotate_left
              · intro w
                (try go_simp)
                (try with_reducible rfl)
              refine wpAny_taked (d := 28) (i := 8) (v := ?_) rfl rfl (by kernel_rfl) (by kernel_rfl) (by kernel_rfl) (fun _ _ _ h => h) (Or.inl ⟨by kernel_rfl, ?_⟩) ?_
              rotate_left
              · intro w
                (try go_simp)
                (try with_reducible rfl)
              refine wpAny_ready (rs := [9]) (by kernel_rfl) (by simp) ?_
              refine AllReady.cons rfl (fun K hK => ?_) ?_
              · go_simp
                refine hK _ _ ?_
                clear hK K
                refine wpAny_ready (rs := [10]) (by kernel_rfl) (by simp) ?_
                refine AllReady.cons rfl (fun K hK => ?_) ?_
                · go_simp
                  go_wp2_with (go_at_call 113; refine (eight_any x _).mono ?_; rintro en v3 ⟨rfl, hb⟩; have HRv3 := Lib.hid (blk_below HRv2.out hb); have HTv3 := Lib.hid (blk_below HTv2.out hb); have HKv3 : Hid (Kp (fun k => k = g) w v3) := Lib.hid (HKv2.out.tr (Kp.of_below hb)); clear hb)
                  refine wpAny_ready (rs := [11]) (by kernel_rfl) (by simp) ?_
                  refine AllReady.cons rfl (fun K hK => ?_) ?_
                  · go_simp
                    go_wp2_with (go_at_call 108; refine (same_no (a + 5) (eightS x) 13 (by decide) hs (by rw [eightS_size]; decide) (by omega) HN1.out HRv3.out).mono ?_; rintro en v4 ⟨rfl, hr, hk⟩; have HEv4 := Lib.hid hr; have HKv4 := Lib.hid (HKv3.out.tr hk); clear hr hk)
                    refine wpAny_taked (d := 32) (i := 12) (v := ?_) rfl rfl (by kernel_rfl) (by kernel_rfl) (by kernel_rfl) (fun _ _ _ h => h) (Or.inl ⟨by kernel_rfl, ?_⟩) ?_
                    rotate_left
                    · intro w
                      (try go_simp)
                      (try with_reducible rfl)
                    refine wpAny_taked (d := 33) (i := 13) (v := ?_) rfl rfl (by kernel_rfl) (by kernel_rfl) (by kernel_rfl) (fun _ _ _ h => h) (Or.inl ⟨by kernel_rfl, ?_⟩) ?_
                    rotate_left
                    · intro w
                      (try go_simp)
                      (try with_reducible rfl)
                    refine wpAny_taked (d := 34) (i := 14) (v := ?_) rfl rfl (by kernel_rfl) (by kernel_rfl) (by kernel_rfl) (fun _ _ _ h => h) (Or.inl ⟨by kernel_rfl, ?_⟩) ?_
                    rotate_left
                    · intro w
                      (try go_simp)
                      (try with_reducible rfl)
                    refine wpAny_taked (d := 35) (i := 15) (v := undef) rfl rfl (by kernel_rfl) (by kernel_rfl) (by kernel_rfl) (fun _ _ _ h => h) (Or.inr ⟨by kernel_rfl, rfl⟩) ?_
                    refine wpAny_taked (d := 36) (i := 16) (v := undef) rfl rfl (by kernel_rfl) (by kernel_rfl) (by kernel_rfl) (fun _ _ _ h => h) (Or.inr ⟨by kernel_rfl, rfl⟩) ?_
                    refine wpAny_taked (d := 37) (i := 17) (v := undef) rfl rfl (by kernel_rfl) (by kernel_rfl) (by kernel_rfl) (fun _ _ _ h => h) (Or.inr ⟨by kernel_rfl, rfl⟩) ?_
                    refine wpAny_taked (d := 38) (i := 18) (v := undef) rfl rfl (by kernel_rfl) (by kernel_rfl) (by kernel_rfl) (fun _ _ _ h => h) (Or.inr ⟨by kernel_rfl, rfl⟩) ?_
                    refine wpAny_taked (d := 39) (i := 19) (v := undef) rfl rfl (by kernel_rfl) (by kernel_rfl) (by kernel_rfl) (fun _ _ _ h => h) (Or.inr ⟨by kernel_rfl, rfl⟩) ?_
                    refine wpAny_taked (d := 40) (i := 20) (v := undef) rfl rfl (by kernel_rfl) (by kernel_rfl) (by kernel_rfl) (fun _ _ _ h => h) (Or.inr ⟨by kernel_rfl, rfl⟩) ?_
                    refine wpAny_taked (d := 41) (i := 21) (v := ?_) rfl rfl (by kernel_rfl) (by kernel_rfl) (by kernel_rfl) (fun _ _ _ h => h) (Or.inl ⟨by kernel_rfl, ?_⟩) ?_
                    rotate_left
                    · intro w
                      (try go_simp)
                      (try with_reducible rfl)
                    refine wpAny_taked (d := 42) (i := 22) (v := ?_) rfl rfl (by kernel_rfl) (by kernel_rfl) (by kernel_rfl) (fun _ _ _ h => h) (Or.inl ⟨by kernel_rfl, ?_⟩) ?_
                    rotate_left
                    · intro w
                      (try go_simp)
                      (try with_reducible rfl)
                    refine wpAny_taked (d := 43) (i := 23) (v := undef) rfl rfl (by kernel_rfl) (by kernel_rfl) (by kernel_rfl) (fun _ _ _ h => h) (Or.inr ⟨by kernel_rfl, rfl⟩) ?_
                    refine wpAny_taked (d := 44) (i := 24) (v := undef) rfl rfl (by kernel_rfl) (by kernel_rfl) (by kernel_rfl) (fun _ _ _ h => h) (Or.inr ⟨by kernel_rfl, rfl⟩) ?_
                    refine wpAny_taked (d := 45) (i := 25) (v := undef) rfl rfl (by kernel_rfl) (by kernel_rfl) (by kernel_rfl) (fun _ _ _ h => h) (Or.inr ⟨by kernel_rfl, rfl⟩) ?_
                    refine wpAny_taked (d := 46) (i := 26) (v := undef) rfl rfl (by kernel_rfl) (by kernel_rfl) (by kernel_rfl) (fun _ _ _ h => h) (Or.inr ⟨by kernel_rfl, rfl⟩) ?_
                    refine wpAny_taked (d := 47) (i := 27) (v := undef) rfl rfl (by kernel_rfl) (by kernel_rfl) (by kernel_rfl) (fun _ _ _ h => h) (Or.inr ⟨by kernel_rfl, rfl⟩) ?_
                    refine wpAny_taked (d := 48) (i := 28) (v := undef) rfl rfl (by kernel_rfl) (by kernel_rfl) (by kernel_rfl) (fun _ _ _ h => h) (Or.inr ⟨by kernel_rfl, rfl⟩) ?_
                    refine wpAny_taked (d := 49) (i := 29) (v := undef) rfl rfl (by kernel_rfl) (by kernel_rfl) (by kernel_rfl) (fun _ _ _ h => h) (Or.inr ⟨by kernel_rfl, rfl⟩) ?_
                    refine wpAny_taked (d := 50) (i := 30) (v := undef) rfl rfl (by kernel_rfl) (by kernel_rfl) (by kernel_rfl) (fun _ _ _ h => h) (Or.inr ⟨by kernel_rfl, rfl⟩) ?_
                    refine wpAny_taked (d := 51) (i := 31) (v := undef) rfl rfl (by kernel_rfl) (by kernel_rfl) (by kernel_rfl) (fun _ _ _ h => h) (Or.inr ⟨by kernel_rfl, rfl⟩) ?_
                    refine wpAny_taked (d := 52) (i := 32) (v := undef) rfl rfl (by kernel_rfl) (by kernel_rfl) (by kernel_rfl) (fun _ _ _ h => h) (Or.inr ⟨by kernel_rfl, rfl⟩) ?_
                    refine wpAny_taked (d := 53) (i := 33) (v := undef) rfl rfl (by kernel_rfl) (by kernel_rfl) (by kernel_rfl) (fun _ _ _ h => h) (Or.inr ⟨by kernel_rfl, rfl⟩) ?_
                    refine wpAny_taked (d := 54) (i := 34) (v := undef) rfl rfl (by kernel_rfl) (by kernel_rfl) (by kernel_rfl) (fun _ _ _ h => h) (Or.inr ⟨by kernel_rfl, rfl⟩) ?_
                    refine wpAny_taked (d := 55) (i := 35) (v := undef) rfl rfl (by kernel_rfl) (by kernel_rfl) (by kernel_rfl) (fun _ _ _ h => h) (Or.inr ⟨by kernel_rfl, rfl⟩) ?_
                    refine wpAny_taked (d := 56) (i := 36) (v := undef) rfl rfl (by kernel_rfl) (by kernel_rfl) (by kernel_rfl) (fun _ _ _ h => h) (Or.inr ⟨by kernel_rfl, rfl⟩) ?_
                    refine wpAny_taked (d := 57) (i := 37) (v := undef) rfl rfl (by kernel_rfl) (by kernel_rfl) (by kernel_rfl) (fun _ _ _ h => h) (Or.inr ⟨by kernel_rfl, rfl⟩) ?_
                    refine wpAny_taked (d := 58) (i := 38) (v := undef) rfl rfl (by kernel_rfl) (by kernel_rfl) (by kernel_rfl) (fun _ _ _ h => h) (Or.inr ⟨by kernel_rfl, rfl⟩) ?_
                    refine wpAny_taked (d := 59) (i := 39) (v := ?_) rfl rfl (by kernel_rfl) (by kernel_rfl) (by kernel_rfl) (fun _ _ _ h => h) (Or.inl ⟨by kernel_rfl, ?_⟩) ?_
                    rotate_left
                    · intro w
                      (try go_simp)
                      (try with_reducible rfl)
                    refine wpAny_done (by kernel_rfl) ?_ _
                    (try simp only [Exit.then])
                    (try go_simp)
                    go_wp2_with fail
                    go_ret
                    exact rend_no HKv4.out HEv4.out
                  exact AllReady.nil
                exact AllReady.nil
              exact AllReady.nil
            exact AllReady.nil
          exact AllReady.nil
        exact AllReady.nil
    · have HN0 := Lib.hid hO0
      clear hO0
      refine wp_region_any (by kernel_rfl) ?_
      (try (change wpAny _ _ _ _ _ _ _ (World.drew _)))
      have HRv0 : Hid (RdAt w3.drew g s ((a + 1 : Nat) : Int) 0 0) := Lib.hid (blk_drew HR3.out)
      have HTv0 := Lib.hid (blk_drew HT3.out)
      have HKv0 : Hid (Kp (fun k => k = g) w w3.drew) := Lib.hid HK3.out.drew
      generalize World.drew w3 = v0 at *
      have t0 : v0.cell? ⟨B, 0, none⟩ = some (.int .u32 n) := (blk_cell HTv0.out 0).trans rfl
      refine wpAny_taked (d := 20) (i := 0) (v := ?_) rfl rfl (by kernel_rfl) (by kernel_rfl) (by kernel_rfl) (fun _ _ _ h => h) (Or.inl ⟨by kernel_rfl, ?_⟩) ?_
      rotate_left
      · intro w
        (try go_simp)
        (try with_reducible rfl)
      refine wpAny_taked (d := 21) (i := 1) (v := ?_) rfl rfl (by kernel_rfl) (by kernel_rfl) (by kernel_rfl) (fun _ _ _ h => h) (Or.inl ⟨by kernel_rfl, ?_⟩) ?_
      rotate_left
      · intro w
        (try go_simp)
        (try with_reducible rfl)
      refine wpAny_ready (rs := [2]) (by kernel_rfl) (by simp) ?_
      refine AllReady.cons rfl (fun K hK => ?_) ?_
      · go_simp
        refine hK _ _ ?_
        clear hK K
        refine wpAny_ready (rs := [3]) (by kernel_rfl) (by simp) ?_
        refine AllReady.cons rfl (fun K hK => ?_) ?_
        · go_simp
          go_wp2_with (go_at_call 111; refine (four_any n _).mono ?_; rintro en v1 ⟨rfl, hb⟩; have HRv1 := Lib.hid (blk_below HRv0.out hb); have HTv1 := Lib.hid (blk_below HTv0.out hb); have HKv1 : Hid (Kp (fun k => k = g) w v1) := Lib.hid (HKv0.out.tr (Kp.of_below hb)); clear hb)
          refine wpAny_ready (rs := [4]) (by kernel_rfl) (by simp) ?_
          refine AllReady.cons rfl (fun K hK => ?_) ?_
          · go_simp
            go_wp2_with (go_at_call 108; refine (same_no (a + 1) (strOfNums (le4 n)) 13 (by decide) hs (by rw [le4_size]; decide) (by omega) HN0.out HRv1.out).mono ?_; rintro en v2 ⟨rfl, hr, hk⟩; have HEv2 := Lib.hid hr; have HKv2 := Lib.hid (HKv1.out.tr hk); clear hr hk)
            refine wpAny_taked (d := 25) (i := 5) (v := ?_) rfl rfl (by kernel_rfl) (by kernel_rfl) (by kernel_rfl) (fun _ _ _ h => h) (Or.inl ⟨by kernel_rfl, ?_⟩) ?_
            rotate_left
            · intro w
              (try go_simp)
              (try with_reducible rfl)
            refine wpAny_taked (d := 26) (i := 6) (v := ?_) rfl rfl (by kernel_rfl) (by kernel_rfl) (by kernel_rfl) (fun _ _ _ h => h) (Or.inl ⟨by kernel_rfl, ?_⟩) ?_
            rotate_left
            · intro w
              (try go_simp)
              (try with_reducible rfl)
            refine wpAny_taked (d := 27) (i := 7) (v := undef) rfl rfl (by kernel_rfl) (by kernel_rfl) (by kernel_rfl) (fun _ _ _ h => h) (Or.inr ⟨by kernel_rfl, rfl⟩) ?_
            refine wpAny_taked (d := 28) (i := 8) (v := undef) rfl rfl (by kernel_rfl) (by kernel_rfl) (by kernel_rfl) (fun _ _ _ h => h) (Or.inr ⟨by kernel_rfl, rfl⟩) ?_
            refine wpAny_taked (d := 29) (i := 9) (v := undef) rfl rfl (by kernel_rfl) (by kernel_rfl) (by kernel_rfl) (fun _ _ _ h => h) (Or.inr ⟨by kernel_rfl, rfl⟩) ?_
            refine wpAny_taked (d := 30) (i := 10) (v := undef) rfl rfl (by kernel_rfl) (by kernel_rfl) (by kernel_rfl) (fun _ _ _ h => h) (Or.inr ⟨by kernel_rfl, rfl⟩) ?_
            refine wpAny_taked (d := 31) (i := 11) (v := undef) rfl rfl (by kernel_rfl) (by kernel_rfl) (by kernel_rfl) (fun _ _ _ h => h) (Or.inr ⟨by kernel_rfl, rfl⟩) ?_
            refine wpAny_taked (d := 32) (i := 12) (v := undef) rfl rfl (by kernel_rfl) (by kernel_rfl) (by kernel_rfl) (fun _ _ _ h => h) (Or.inr ⟨by kernel_rfl, rfl⟩) ?_
            refine wpAny_taked (d := 33) (i := 13) (v := ?_) rfl rfl (by kernel_rfl) (by kernel_rfl) (by kernel_rfl) (fun _ _ _ h => h) (Or.inl ⟨by kernel_rfl, ?_⟩) ?_
            rotate_left
            · intro w
              (try go_simp)
              (try with_reducible rfl)
            refine wpAny_taked (d := 34) (i := 14) (v := ?_) rfl rfl (by kernel_rfl) (by kernel_rfl) (by kernel_rfl) (fun _ _ _ h => h) (Or.inl ⟨by kernel_rfl, ?_⟩) ?_
            rotate_left
            · intro w
              (try go_simp)
              (try with_reducible rfl)
            refine wpAny_taked (d := 35) (i := 15) (v := undef) rfl rfl (by kernel_rfl) (by kernel_rfl) (by kernel_rfl) (fun _ _ _ h => h) (Or.inr ⟨by kernel_rfl, rfl⟩) ?_
            refine wpAny_taked (d := 36) (i := 16) (v := undef) rfl rfl (by kernel_rfl) (by kernel_rfl) (by kernel_rfl) (fun _ _ _ h => h) (Or.inr ⟨by kernel_rfl, rfl⟩) ?_
            refine wpAny_taked (d := 37) (i := 17) (v := undef) rfl rfl (by kernel_rfl) (by kernel_rfl) (by kernel_rfl) (fun _ _ _ h => h) (Or.inr ⟨by kernel_rfl, rfl⟩) ?_
            refine wpAny_taked (d := 38) (i := 18) (v := undef) rfl rfl (by kernel_rfl) (by kernel_rfl) (by kernel_rfl) (fun _ _ _ h => h) (Or.inr ⟨by kernel_rfl, rfl⟩) ?_
            refine wpAny_taked (d := 39) (i := 19) (v := undef) rfl rfl (by kernel_rfl) (by kernel_rfl) (by kernel_rfl) (fun _ _ _ h => h) (Or.inr ⟨by kernel_rfl, rfl⟩) ?_
            refine wpAny_taked (d := 40) (i := 20) (v := undef) rfl rfl (by kernel_rfl) (by kernel_rfl) (by kernel_rfl) (fun _ _ _ h => h) (Or.inr ⟨by kernel_rfl, rfl⟩) ?_
            refine wpAny_taked (d := 41) (i := 21) (v := ?_) rfl rfl (by kernel_rfl) (by kernel_rfl) (by kernel_rfl) (fun _ _ _ h => h) (Or.inl ⟨by kernel_rfl, ?_⟩) ?_
            rotate_left
            · intro w
              (try go_simp)
              (try with_reducible rfl)
            refine wpAny_taked (d := 42) (i := 22) (v := ?_) rfl rfl (by kernel_rfl) (by kernel_rfl) (by kernel_rfl) (fun _ _ _ h => h) (Or.inl ⟨by kernel_rfl, ?_⟩) ?_
            rotate_left
            · intro w
              (try go_simp)
              (try with_reducible rfl)
            refine wpAny_taked (d := 43) (i := 23) (v := undef) rfl rfl (by kernel_rfl) (by kernel_rfl) (by kernel_rfl) (fun _ _ _ h => h) (Or.inr ⟨by kernel_rfl, rfl⟩) ?_
            refine wpAny_taked (d := 44) (i := 24) (v := undef) rfl rfl (by kernel_rfl) (by kernel_rfl) (by kernel_rfl) (fun _ _ _ h => h) (Or.inr ⟨by kernel_rfl, rfl⟩) ?_
            refine wpAny_taked (d := 45) (i := 25) (v := undef) rfl rfl (by kernel_rfl) (by kernel_rfl) (by kernel_rfl) (fun _ _ _ h => h) (Or.inr ⟨by kernel_rfl, rfl⟩) ?_
            refine wpAny_taked (d := 46) (i := 26) (v := undef) rfl rfl (by kernel_rfl) (by kernel_rfl) (by kernel_rfl) (fun _ _ _ h => h) (Or.inr ⟨by kernel_rfl, rfl⟩) ?_
            refine wpAny_taked (d := 47) (i := 27) (v := undef) rfl rfl (by kernel_rfl) (by kernel_rfl) (by kernel_rfl) (fun _ _ _ h => h) (Or.inr ⟨by kernel_rfl, rfl⟩) ?_
            refine wpAny_taked (d := 48) (i := 28) (v := undef) rfl rfl (by kernel_rfl) (by kernel_rfl) (by kernel_rfl) (fun _ _ _ h => h) (Or.inr ⟨by kernel_rfl, rfl⟩) ?_
            refine wpAny_taked (d := 49) (i := 29) (v := undef) rfl rfl (by kernel_rfl) (by kernel_rfl) (by kernel_rfl) (fun _ _ _ h => h) (Or.inr ⟨by kernel_rfl, rfl⟩) ?_
            refine wpAny_taked (d := 50) (i := 30) (v := undef) rfl rfl (by kernel_rfl) (by kernel_rfl) (by kernel_rfl) (fun _ _ _ h => h) (Or.inr ⟨by kernel_rfl, rfl⟩) ?_
            refine wpAny_taked (d := 51) (i := 31) (v := undef) rfl rfl (by kernel_rfl) (by kernel_rfl) (by kernel_rfl) (fun _ _ _ h => h) (Or.inr ⟨by kernel_rfl, rfl⟩) ?_
            refine wpAny_taked (d := 52) (i := 32) (v := undef) rfl rfl (by kernel_rfl) (by kernel_rfl) (by kernel_rfl) (fun _ _ _ h => h) (Or.inr ⟨by kernel_rfl, rfl⟩) ?_
            refine wpAny_taked (d := 53) (i := 33) (v := undef) rfl rfl (by kernel_rfl) (by kernel_rfl) (by kernel_rfl) (fun _ _ _ h => h) (Or.inr ⟨by kernel_rfl, rfl⟩) ?_
            refine wpAny_taked (d := 54) (i := 34) (v := undef) rfl rfl (by kernel_rfl) (by kernel_rfl) (by kernel_rfl) (fun _ _ _ h => h) (Or.inr ⟨by kernel_rfl, rfl⟩) ?_
            refine wpAny_taked (d := 55) (i := 35) (v := undef) rfl rfl (by kernel_rfl) (by kernel_rfl) (by kernel_rfl) (fun _ _ _ h => h) (Or.inr ⟨by kernel_rfl, rfl⟩) ?_
            refine wpAny_taked (d := 56) (i := 36) (v := undef) rfl rfl (by kernel_rfl) (by kernel_rfl) (by kernel_rfl) (fun _ _ _ h => h) (Or.inr ⟨by kernel_rfl, rfl⟩) ?_
            refine wpAny_taked (d := 57) (i := 37) (v := undef) rfl rfl (by kernel_rfl) (by kernel_rfl) (by kernel_rfl) (fun _ _ _ h => h) (Or.inr ⟨by kernel_rfl, rfl⟩) ?_
            refine wpAny_taked (d := 58) (i := 38) (v := undef) rfl rfl (by kernel_rfl) (by kernel_rfl) (by kernel_rfl) (fun _ _ _ h => h) (Or.inr ⟨by kernel_rfl, rfl⟩) ?_
            refine wpAny_taked (d := 59) (i := 39) (v := ?_) rfl rfl (by kernel_rfl) (by kernel_rfl) (by kernel_rfl) (fun _ _ _ h => h) (Or.inl ⟨by kernel_rfl, ?_⟩) ?_
            rotate_left
            · intro w
              (try go_simp)
              (try with_reducible rfl)
            refine wpAny_done (by kernel_rfl) ?_ _
            (try simp only [Exit.then])
            (try go_simp)
            go_wp2_with fail
            go_ret
            exact rend_no HKv2.out HEv2.out
          exact AllReady.nil
        exact AllReady.nil
      exact AllReady.nil
  · refine (there_no 25 hs (by omega) (by omega) (by omega) HR1.out).mono ?_
    rintro en w2 ⟨rfl, hr2, hk2⟩
    have HR2 := Lib.hid hr2
    have HK2 := Lib.hid (HK1.out.tr hk2)
    clear hr2 hk2
    go_wp2_with fail
    go_ret
    exact rend_no HK2.out ⟨4, _, by decide, HR2.out⟩
end Go.Proofs.YtcgoofefiiihnaaGreat
namespace Go.Proofs.YtcgoofefiiihnaaGreat
open Go.RowKit Go.Proofs.YtcgoofefiiihnaaGreatW.PrintWords Go.Proofs.YtcgoofefiiihnaaGreatW.PrintMore
set_option linter.unusedVariables false
set_option linter.unusedSimpArgs false
set_option maxRecDepth 20000
abbrev FaAt (w : World) (g : Nat) (e f : Int) : Prop := w.heap[g]? = some (.cells #[.int .i64 e, .int .i64 f] 27 (0, 0))
abbrev BkAt (w : World) (g : Nat) (b : Bk) : Prop := w.heap[g]? = some (.cells #[.int .i64 b.count, .int .u32 b.sum, .string b.pay] 58 (0, 0))
def rowOf (l : List Bk) : List Value := l.flatMap fun b => [.int .i64 b.count, .int .u32 b.sum, .string b.pay]
theorem rowOf_len (l : List Bk) : (rowOf l).length = l.length * 3 := by
  induction l with
  | nil => rfl
  | cons b l ih => simp only [rowOf, List.flatMap_cons, List.length_append] at ih ⊢; rw [ih]; simp only [List.length_cons, List.length_nil]; omega
theorem rowOf_snoc (l : List Bk) (b : Bk) : rowOf (l ++ [b]) = rowOf l ++ [.int .i64 b.count, .int .u32 b.sum, .string b.pay] := by simp [rowOf, List.flatMap_append]
def ReadCPost (w : World) (s : ByteArray) (en : Ending) (w' : World) : Prop :=
  Below w.heap.size w w' ∧ ∃ (c z e f : Int) (A : Option Addr) (n cp : Nat) (pv : Value), en = .returned (.tuple #[.agg #[.int .i64 c, .int .i64 z, .slice A n cp], pv, .agg #[.int .i64 e, .int .i64 f]]) ∧
    (e ≠ 0 ∨ (e = 0 ∧ ∃ l, IsCrate s c z l ∧ l.length ≤ s.size ∧ n = l.length ∧ w'.ownsRow w.heap.size 58 3 (.slice A n cp) n (rowOf l)))
structure Going (wr : World) (g2 g3 g4 M : Nat) (s : ByteArray) (v8 : Value) (a : Nat) (c z : Int) (l : List Bk) (bv : Value) (pl : List Value) : Prop where
  rd : RdAt wr g2 s (a : Int) 0 0
  cr : CrAt wr g3 c z bv
  tt : TtAt wr g4 (tot l).n (tot l).sc (tot l).by_
  ob : wr.ownsRow M 58 3 bv l.length (rowOf l)
  op : wr.ownsRow M 3 1 v8 l.length pl
  ne : ∀ k, bv.ownBlock = some k → v8.ownBlock ≠ some k
  txt : (bytesOf s).take a = headF c z ++ flat l
  ha : a ≤ s.size
  hl : l.length ≤ a
  ok : ∀ b ∈ l, b.ok
  hz : 1 ≤ z ∧ z ≤ 65536
structure RdIn (w : World) (N g2 g3 g4 M : Nat) (s : ByteArray) (v8 v9 : Value) (wr : World) : Prop where
  sz : M ≤ wr.heap.size
  hb : Below N w wr
  res : CrAt wr N 0 0 (.slice none 0 0)
  fl : FaAt wr (N + 1) 0 0
  st : (v9 = .bool false ∧ ∃ a e f, e ≠ 0 ∧ RdAt wr g2 s a e f) ∨ (v9 = .bool true ∧ ∃ a c z l bv pl, Going wr g2 g3 g4 M s v8 a c z l bv pl)
def msr (g2 : Nat) (s : ByteArray) (v9 : Value) (wr : World) : Nat := match v9 with
  | .bool true => s.size + 1 - (match wr.cell? ⟨g2, 1, none⟩ with | some (.int _ n) => n.toNat | _ => 0)
  | _ => 0
theorem msr_no (N : Nat) (s : ByteArray) (wr : World) : msr N s (.bool false) wr = 0 := rfl
theorem msr_yes {g2 : Nat} {s : ByteArray} {wr : World} {a : Nat} {e f : Int} (h : RdAt wr g2 s (a : Int) e f) : msr g2 s (.bool true) wr = s.size + 1 - a := by
  have hc : wr.cell? ⟨g2, 1, none⟩ = some (.int .i64 (a : Int)) := (blk_cell h 1).trans rfl
  simp only [msr, hc, Int.toNat_natCast]
theorem five (w : World) (o0 o1 o2 o3 o4 : Obj) : (((((w.alloc o0).alloc o1).alloc o2).alloc o3).alloc o4).heap[w.heap.size]? = some o0 ∧ (((((w.alloc o0).alloc o1).alloc o2).alloc o3).alloc o4).heap[w.heap.size + 1]? = some o1 ∧ (((((w.alloc o0).alloc o1).alloc o2).alloc o3).alloc o4).heap[w.heap.size + 1 + 1]? = some o2 ∧ (((((w.alloc o0).alloc o1).alloc o2).alloc o3).alloc o4).heap[w.heap.size + 1 + 1 + 1]? = some o3 ∧ (((((w.alloc o0).alloc o1).alloc o2).alloc o3).alloc o4).heap[w.heap.size + 1 + 1 + 1 + 1]? = some o4 ∧ (((((w.alloc o0).alloc o1).alloc o2).alloc o3).alloc o4).heap.size = w.heap.size + 1 + 1 + 1 + 1 + 1 ∧ Below w.heap.size w (((((w.alloc o0).alloc o1).alloc o2).alloc o3).alloc o4) := by
  have z1 : ∀ (W : World) o, (W.alloc o).heap.size = W.heap.size + 1 := fun W o => by simp
  have h0 := blk_new w o0
  have h1 := blk_new (w.alloc o0) o1
  have h2 := blk_new ((w.alloc o0).alloc o1) o2
  have h3 := blk_new (((w.alloc o0).alloc o1).alloc o2) o3
  have h4 := blk_new ((((w.alloc o0).alloc o1).alloc o2).alloc o3) o4
  simp only [z1] at h1 h2 h3 h4
  have hk : Kp (fun _ => False) w (((((w.alloc o0).alloc o1).alloc o2).alloc o3).alloc o4) := (((((Kp.refl _ w).alloc o0).alloc o1).alloc o2).alloc o3).alloc o4
  exact ⟨blk_alloc (blk_alloc (blk_alloc (blk_alloc h0 _) _) _) _, blk_alloc (blk_alloc (blk_alloc h1 _) _) _, blk_alloc (blk_alloc h2 _) _, blk_alloc h3 _, h4, by simp only [z1], hk.below (Nat.le_refl _) (fun _ h => h.elim)⟩
theorem owns_mono {w : World} {M M' e size n : Nat} {v : Value} {xs : List Value} (h : w.ownsRow M e size v n xs) (hm : M' ≤ M) : w.ownsRow M' e size v n xs := by
  refine ⟨h.1, ?_⟩
  rcases h.2 with h | ⟨g, cap, cur, h1, h2, h3⟩
  · exact .inl h
  · exact .inr ⟨g, cap, cur, h1, by omega, h3⟩
theorem owns_ge {w : World} {M e size n k : Nat} {v : Value} {xs : List Value} (h : w.ownsRow M e size v n xs) (hk : v.ownBlock = some k) : M ≤ k := by
  rcases h.2 with ⟨h, _⟩ | ⟨g, cap, cur, h1, h2, h3⟩
  · subst h; cases hk
  · subst h1
    simp only [Value.ownBlock, Option.some.injEq] at hk
    omega
theorem owns_lt {w : World} {M e size n k : Nat} {v : Value} {xs : List Value} (h : w.ownsRow M e size v n xs) (hk : v.ownBlock = some k) : k < w.heap.size := by
  rcases h.2 with ⟨h, _⟩ | ⟨g, cap, cur, h1, h2, h3, _⟩
  · subst h; cases hk
  · subst h1
    simp only [Value.ownBlock, Option.some.injEq] at hk
    subst hk
    exact blk_lt h3
theorem bk_len (b : Bk) : b.bytes.length = 13 + b.pay.size := by
  simp only [Bk.bytes, List.length_cons, List.length_append, le4_len, bytesOf_length]
  omega
structure Held (w : World) (N g2 g3 g4 B1 : Nat) (s : ByteArray) (a : Nat) (c z : Int) (x y t : Int) (b : Bk) (l : List Bk) (n m : Nat) (bv v8 : Value) (pl : List Value) (W : World) : Prop where
  rd : RdAt W g2 s (a : Int) 0 0
  res : CrAt W N 0 0 (.slice none 0 0)
  fl : FaAt W (N + 1) 0 0
  cr : CrAt W g3 c z bv
  tt : TtAt W g4 x y t
  bk : BkAt W B1 b
  ob : W.ownsRow (g4 + 1) 58 3 bv n (rowOf l)
  op : W.ownsRow (g4 + 1) 3 1 v8 m pl
  ne : ∀ k, bv.ownBlock = some k → v8.ownBlock ≠ some k
  bl : Below N w W
  sz : B1 + 2 ≤ W.heap.size
section
variable {w w3 w4 : World} {N g2 g3 g4 B1 : Nat} {s : ByteArray} {a : Nat} {c z x y t : Int} {b : Bk} {l : List Bk} {v8 : Value} {pl : List Value} {A : Option Addr} {cp g1 cap1 : Nat}
theorem app1 {n n1 : Nat} (hn : l.length = n) (hn1 : n + 1 = n1) (hs1 : g4 + 1 ≤ B1) (hG : w.heap.size = N ∧ g2 = N + 2 ∧ g3 = N + 3 ∧ g4 = N + 4) (hA : ∀ k, (Value.slice A n cp).ownBlock = some k → k < B1) (hV : ∀ k, v8.ownBlock = some k → k < B1)
    (h : Held w N g2 g3 g4 B1 s a c z x y t b l n n (.slice A n cp) v8 pl w3)
    (ho4 : w4.ownsRow (g4 + 1) 58 3 (.slice (some ⟨g1, 0, none⟩) n1 cap1) n1 (rowOf l ++ [.int .i64 b.count, .int .u32 b.sum, .string b.pay]))
    (hg4 : (w3.alloc (.cells #[.int .i64 b.count, .int .u32 b.sum, .string b.pay] 58)).grownBy w4 (Value.slice A n cp).ownBlock)
    (hb4 : (Value.slice A n cp).ownBlock = some g1 ∨ g1 = (w3.alloc (.cells #[.int .i64 b.count, .int .u32 b.sum, .string b.pay] 58)).heap.size) :
    w4.cell? ⟨g3, 2, none⟩ = some (.slice A n cp) ∧ w4.frozen? ⟨g3, 2, none⟩ = false ∧ Held w N g2 g3 g4 B1 s a c z x y t b (l ++ [b]) n1 n (.slice (some ⟨g1, 0, none⟩) n1 cap1) v8 pl (w4.setCell ⟨g3, 2, none⟩ (.slice (some ⟨g1, 0, none⟩) n1 cap1)) := by
  subst hn hn1
  obtain ⟨hN, h2, h3, h4⟩ := hG
  have hk4 : Kp (fun k => (Value.slice A l.length cp).ownBlock = some k) w3 w4 := ((Kp.refl _ _).alloc _).tr (Kp.of_grown hg4 (fun k hk => hk))
  have far : ∀ k, k < g4 + 1 → ¬ (Value.slice A l.length cp).ownBlock = some k := fun k hk he => by have := owns_ge h.ob he; omega
  have hcr4 := hk4.blk h.cr (far _ (by omega))
  have hks : Kp (fun k => k = g3) w4 (w4.setCell ⟨g3, 2, none⟩ (.slice (some ⟨g1, 0, none⟩) (l.length + 1) cap1)) := (Kp.refl _ _).setg _ _
  have hg1 := owns_ge ho4 (k := g1) rfl
  have hv1 : v8.ownBlock ≠ some g1 := fun hv => by
    rcases hb4 with hb | hb
    · exact h.ne _ hb hv
    · have h9 := hV _ hv
      have h8 := h.sz
      simp at hb
      omega
  refine ⟨(blk_cell hcr4 2).trans rfl, blk_frozen hcr4 2, hks.blk (hk4.blk h.rd (far _ (by omega))) (by omega), hks.blk (hk4.blk h.res (far _ (by omega))) (by omega), hks.blk (hk4.blk h.fl (far _ (by omega))) (by omega), (blk_set hcr4 2 _).trans rfl, hks.blk (hk4.blk h.tt (far _ (by omega))) (by omega),
    hks.blk (hk4.blk h.bk (fun he => by have := hA _ he; omega)) (by omega), ?_, hks.own (hk4.own h.op (fun k hk he => h.ne _ he hk)) (fun k hk he => by have := owns_ge h.op hk; omega), ?_, ?_, ?_⟩
  · rw [rowOf_snoc]
    exact hks.own ho4 (fun k hk he => by have := owns_ge ho4 hk; omega)
  · intro k hk
    have : g1 = k := by simpa [Value.ownBlock] using hk
    subst this
    exact hv1
  · exact (h.bl.trans (hk4.below (B := N) (by have := h.sz; omega) (fun k hk => by have := owns_ge h.ob hk; omega))).trans (hks.below (B := N) (by have := h.sz; have := hk4.size; omega) (fun k hk => by omega))
  · have := h.sz
    have := hk4.size
    have := hks.size
    omega
theorem app2 {n n1 : Nat} (hn1 : n + 1 = n1) {l' : List Bk} {w5 w6 : World} {g5 cap5 : Nat} (hs1 : g4 + 1 ≤ B1) (hG : w.heap.size = N ∧ g2 = N + 2 ∧ g3 = N + 3 ∧ g4 = N + 4) (hV : ∀ k, v8.ownBlock = some k → k < B1)
    (h : Held w N g2 g3 g4 B1 s a c z x y t b l' n1 n (.slice (some ⟨g1, 0, none⟩) n1 cap1) v8 pl w5)
    (ho6 : w6.ownsRow (g4 + 1) 3 1 (.slice (some ⟨g5, 0, none⟩) n1 cap5) n1 (pl ++ [.int .i64 (a : Int)]))
    (hg6 : (w5.alloc (.cells #[.int .i64 (a : Int)] 3)).grownBy w6 v8.ownBlock)
    (hb6 : v8.ownBlock = some g5 ∨ g5 = (w5.alloc (.cells #[.int .i64 (a : Int)] 3)).heap.size) :
    Held w N g2 g3 g4 B1 s a c z x y t b l' n1 n1 (.slice (some ⟨g1, 0, none⟩) n1 cap1) (.slice (some ⟨g5, 0, none⟩) n1 cap5) (pl ++ [.int .i64 (a : Int)]) w6 := by
  subst hn1
  obtain ⟨hN, h2, h3, h4⟩ := hG
  have hk6 : Kp (fun k => v8.ownBlock = some k) w5 w6 := ((Kp.refl _ _).alloc _).tr (Kp.of_grown hg6 (fun k hk => hk))
  have far : ∀ k, k < g4 + 1 → ¬ v8.ownBlock = some k := fun k hk he => by have := owns_ge h.op he; omega
  refine ⟨hk6.blk h.rd (far _ (by omega)), hk6.blk h.res (far _ (by omega)), hk6.blk h.fl (far _ (by omega)), hk6.blk h.cr (far _ (by omega)), hk6.blk h.tt (far _ (by omega)), hk6.blk h.bk (fun he => by have := hV _ he; omega), hk6.own h.ob (fun k hk he => h.ne _ hk he), ho6, ?_, ?_, ?_⟩
  · intro k hk he
    have e1 : g1 = k := by simpa [Value.ownBlock] using hk
    have e2 : g5 = k := by simpa [Value.ownBlock] using he
    subst e1 e2
    rcases hb6 with hb | hb
    · exact h.ne _ hk hb
    · have := owns_lt h.ob hk
      simp at hb
      omega
  · exact h.bl.trans (hk6.below (B := N) (by have := h.sz; omega) (fun k hk => by have := owns_ge h.op hk; omega))
  · have := h.sz
    have := hk6.size
    omega
end
theorem fin_round {w w6 w7 wr : World} {N g2 g3 g4 B1 a n1 : Nat} {s : ByteArray} {c z nx : Int} {b : Bk} {l : List Bk} {bv v8 : Value} {pl : List Value} (hs1 : g4 + 1 ≤ B1) (hG : w.heap.size = N ∧ g2 = N + 2 ∧ g3 = N + 3 ∧ g4 = N + 4)
    (h : Held w N g2 g3 g4 B1 s a c z (tot l).n (tot l).sc (tot l).by_ b (l ++ [b]) n1 n1 bv v8 pl w6) (hn1 : (l ++ [b]).length = n1)
    (ht7 : TtAt w7 g4 (((tot l).n + 1) % 4294967296) (((tot l).sc + b.count) % 18446744073709551616) (((tot l).by_ + b.pay.size) % 18446744073709551616)) (hk7 : Kp (fun k => k = g4) w6 w7)
    (hx : nx = a + 13 + b.pay.size ∧ nx ≤ s.size ∧ 1 ≤ b.pay.size) (htx : (bytesOf s).drop a = b.bytes ++ (bytesOf s).drop nx.toNat) (htxt : (bytesOf s).take a = headF c z ++ flat l) (hok : ∀ b ∈ l, b.ok) (hb : b.ok) (hz : 1 ≤ z ∧ z ≤ 65536) (hl : l.length ≤ a) (hrd : RdAt wr g2 s (a : Int) 0 0) :
    RdIn w N g2 g3 g4 (g4 + 1) s v8 (.bool true) (w7.setCell ⟨g2, 1, none⟩ (.int .i64 nx)) ∧ msr g2 s (.bool true) (w7.setCell ⟨g2, 1, none⟩ (.int .i64 nx)) < msr g2 s (.bool true) wr := by
  subst hn1
  obtain ⟨hN, h2, h3, h4⟩ := hG
  obtain ⟨hx1, hx2, hx3⟩ := hx
  obtain ⟨p, rfl⟩ : ∃ p : Nat, nx = (p : Int) := ⟨nx.toNat, by omega⟩
  rw [Int.toNat_natCast] at htx
  have hks : Kp (fun k => k = g2) w7 (w7.setCell ⟨g2, 1, none⟩ (.int .i64 (p : Int))) := (Kp.refl _ _).setg _ _
  have hrd7 := hk7.blk h.rd (by omega)
  have hrd8 : RdAt (w7.setCell ⟨g2, 1, none⟩ (.int .i64 (p : Int))) g2 s (p : Int) 0 0 := (blk_set hrd7 1 _).trans rfl
  have hL : bytesOf s = ((bytesOf s).take a ++ b.bytes) ++ (bytesOf s).drop p := by rw [List.append_assoc, ← htx, List.take_append_drop]
  have hlen : ((bytesOf s).take a ++ b.bytes).length = p := by
    rw [List.length_append, bk_len, List.length_take, bytesOf_length]
    omega
  have htk : (bytesOf s).take p = headF c z ++ flat (l ++ [b]) := by
    have e : (bytesOf s).take p = (((bytesOf s).take a ++ b.bytes) ++ (bytesOf s).drop p).take p := congrArg _ hL
    rw [e, List.take_left' hlen, htxt, flat_snoc, List.append_assoc]
  refine ⟨⟨?_, ?_, hks.blk (hk7.blk h.res (by omega)) (by omega), hks.blk (hk7.blk h.fl (by omega)) (by omega), .inr ⟨rfl, p, c, z, l ++ [b], bv, pl, hrd8, hks.blk (hk7.blk h.cr (by omega)) (by omega), ?_, hks.own (hk7.own h.ob (fun k hk he => by have := owns_ge h.ob hk; omega)) (fun k hk he => by have := owns_ge h.ob hk; omega),
    hks.own (hk7.own h.op (fun k hk he => by have := owns_ge h.op hk; omega)) (fun k hk he => by have := owns_ge h.op hk; omega), h.ne, htk, by omega, ?_, ?_, hz⟩⟩, ?_⟩
  · have := h.sz; have := hk7.size; have := hks.size; omega
  · exact (h.bl.trans (hk7.below (B := N) (by have := h.sz; omega) (fun k hk => by omega))).trans (hks.below (B := N) (by have := h.sz; have := hk7.size; omega) (fun k hk => by omega))
  · have ht8 := hks.blk ht7 (by omega)
    rw [tot_snoc]
    exact ht8
  · rw [List.length_append, List.length_singleton]; omega
  · intro x hx
    rcases List.mem_append.mp hx with hx | hx
    · exact hok x hx
    · rw [List.mem_singleton.mp hx]; exact hb
  · rw [msr_yes hrd8, msr_yes hrd]
    omega
theorem owns_last {w : World} {M T cp n : Nat} {l : List Bk} {A : Option Addr} (h : w.ownsRow M T 3 (.slice A (n + 1) cp) (n + 1) (rowOf l)) (hn : l.length = n + 1) :
    ∃ (g : Nat) (x : Int), A = some ⟨g, 0, none⟩ ∧ ∀ W : World, W.heap[g]? = w.heap[g]? → W.cell? ⟨g, n * 3, none⟩ = some (.int .i64 x) := by
  rcases h.2 with ⟨_, h0⟩ | ⟨g, cap, cur, hv, hM, hg, h5, h6, h7, h8⟩
  · omega
  · simp only [Value.slice.injEq] at hv
    obtain ⟨l', b, rfl⟩ : ∃ l' b, l = l' ++ [b] := by
      rcases List.eq_nil_or_concat l with h | ⟨l', b, h⟩
      · rw [h] at hn; simp at hn
      · exact ⟨l', b, by rw [h]; simp⟩
    have hl' : l'.length = n := by rw [List.length_append, List.length_singleton] at hn; omega
    refine ⟨g, b.count, hv.1, fun W hW => ?_⟩
    rw [blk_cell (hW.trans hg)]
    rw [rowOf_snoc] at h8
    have e : (cur.toList.take ((n + 1) * 3))[n * 3]? = some (.int .i64 b.count) := by
      rw [h8, List.getElem?_append_right (by rw [rowOf_len]; omega), rowOf_len, hl', Nat.sub_self]
      rfl
    rw [List.getElem?_take, if_pos (by omega)] at e
    rw [← e, Array.getElem?_toList]
theorem two_new (w : World) (o0 o1 : Obj) : ((w.alloc o0).alloc o1).heap[w.heap.size]? = some o0 ∧ ((w.alloc o0).alloc o1).heap[w.heap.size + 1]? = some o1 ∧ ((w.alloc o0).alloc o1).heap.size = w.heap.size + 1 + 1 := by
  have z1 : ∀ (W : World) o, (W.alloc o).heap.size = W.heap.size + 1 := fun W o => by simp
  have h1 := blk_new (w.alloc o0) o1
  rw [z1] at h1
  exact ⟨blk_alloc (blk_new w o0) _, h1, by rw [z1, z1]⟩
theorem owns_nil (w : World) (M e size : Nat) : w.ownsRow M e size (.slice none 0 0) 0 [] := ⟨by simp, .inl ⟨rfl, rfl⟩⟩
theorem kp_five {w3 : World} {N : Nat} {x0 x1 x2 y0 y1 : Value} : Kp (fun k => k = N ∨ k = N + 1) w3 (((((w3.setCell ⟨N, 0, none⟩ x0).setCell ⟨N, 1, none⟩ x1).setCell ⟨N, 2, none⟩ x2).setCell ⟨N + 1, 0, none⟩ y0).setCell ⟨N + 1, 1, none⟩ y1) :=
  (((((Kp.refl _ _).set (.inl (.inl rfl)) _).set (.inl (.inl rfl)) _).set (.inl (.inl rfl)) _).set (.inl (.inr rfl)) _).set (.inl (.inr rfl)) _
theorem cread_fin {w w3 : World} {N M : Nat} {s : ByteArray} {a : Nat} {c z : Int} {l : List Bk} {A : Option Addr} {cp : Nat} {pv : Value} (hw : w.heap.size = N) (hb : Below N w (((((w3.setCell ⟨N, 0, none⟩ (.int .i64 c)).setCell ⟨N, 1, none⟩ (.int .i64 z)).setCell ⟨N, 2, none⟩ (.slice A l.length cp)).setCell ⟨N + 1, 0, none⟩ (.int .i64 0)).setCell ⟨N + 1, 1, none⟩ (.int .i64 0))) (hM : N + 2 ≤ M)
    (ho : w3.ownsRow M 58 3 (.slice A l.length cp) l.length (rowOf l)) (ht : (bytesOf s).take a = headF c z ++ flat l) (he : (bytesOf s).drop a = endF ⟨(tot l).n, (tot l).sc, (tot l).by_⟩) (ha : a ≤ s.size) (hl : l.length ≤ a) (hok : ∀ b ∈ l, b.ok) (hz : 1 ≤ z ∧ z ≤ 65536) :
    ReadCPost w s (.returned (.tuple #[.agg #[.int .i64 c, .int .i64 z, .slice A l.length cp], pv, .agg #[.int .i64 0, .int .i64 0]])) (((((w3.setCell ⟨N, 0, none⟩ (.int .i64 c)).setCell ⟨N, 1, none⟩ (.int .i64 z)).setCell ⟨N, 2, none⟩ (.slice A l.length cp)).setCell ⟨N + 1, 0, none⟩ (.int .i64 0)).setCell ⟨N + 1, 1, none⟩ (.int .i64 0)) := by
  unfold ReadCPost
  rw [hw]
  refine ⟨hb, c, z, 0, 0, A, l.length, cp, pv, rfl, .inr ⟨rfl, l, ⟨?_, by omega, hok⟩, by omega, rfl, owns_mono (kp_five.own ho (fun k hk hF => ?_)) (by omega)⟩⟩
  · rw [← List.take_append_drop a (bytesOf s), ht, he, List.append_assoc]
  · have := owns_ge ho hk
    omega
set_option maxHeartbeats 8000000 in
theorem cread_any {w : World} {s : ByteArray} (hs : s.size ≤ 100000) : Calls Tryz.prog 41 #[.string s] w (ReadCPost w s) := by
  go_enter Tryz.func41, Tryz.ntmps41
  go_wp2_with fail
  obtain ⟨hres, hfl, hrd, hcr, htt, hsz, hbl⟩ := five w (.cells #[.int .i64 0, .int .i64 0, .slice none 0 0] 53) (.cells #[.int .i64 0, .int .i64 0] 27) (.cells #[.string s, .int .i64 0, .int .i64 0, .int .i64 0] 151) (.cells #[.int .i64 0, .int .i64 0, .slice none 0 0] 53) (.cells #[.int .u32 0, .int .u64 0, .int .u64 0] 154)
  generalize ((((w.alloc (.cells #[.int .i64 0, .int .i64 0, .slice none 0 0] 53)).alloc (.cells #[.int .i64 0, .int .i64 0] 27)).alloc (.cells #[.string s, .int .i64 0, .int .i64 0, .int .i64 0] 151)).alloc (.cells #[.int .i64 0, .int .i64 0, .slice none 0 0] 53)).alloc (.cells #[.int .u32 0, .int .u64 0, .int .u64 0] 154) = w0 at *
  generalize hg4 : w.heap.size + 1 + 1 + 1 + 1 = g4 at *
  generalize hg3 : w.heap.size + 1 + 1 + 1 = g3 at *
  generalize hg2 : w.heap.size + 1 + 1 = g2 at *
  generalize hN : w.heap.size = N at *
  have HG : Hid (w.heap.size = N ∧ g2 = N + 2 ∧ g3 = N + 3 ∧ g4 = N + 4) := Lib.hid ⟨hN, by omega, by omega, by omega⟩
  clear hN hg2 hg3 hg4
  have HRes := Lib.hid hres
  have HFl := Lib.hid hfl
  have HTt := Lib.hid htt
  have HSz := Lib.hid hsz
  have HBl := Lib.hid hbl
  refine (rhead_any hs (by have := HG.out; omega) hrd hcr).mono ?_
  clear hres hfl hrd hcr htt hsz hbl
  rintro en w1 ⟨hk, hq⟩
  have HI : ∃ bq, en = .returned (.bool bq) ∧ RdIn w N g2 g3 g4 (g4 + 1) s (.slice none 0 0) (.bool bq) w1 := by
    have hg := HG.out
    have hb1 : Below N w w1 := HBl.out.trans (hk.below (by have := HSz.out; omega) (fun k hk => by rcases hk with h | h <;> omega))
    have hs1 : g4 + 1 ≤ w1.heap.size := by have := HSz.out; have := hk.size; omega
    have hr1 := hk.blk HRes.out (fun h => by rcases h with h | h <;> omega)
    have hf1 := hk.blk HFl.out (fun h => by rcases h with h | h <;> omega)
    have ht1 := hk.blk HTt.out (fun h => by rcases h with h | h <;> omega)
    rcases hq with ⟨he, c, z, h0, h1, h2, h3, h4, h5, h6, h7⟩ | ⟨he, a, e, f, c, z, h1, h2, h3⟩
    · exact ⟨true, he, hs1, hb1, hr1, hf1, .inr ⟨rfl, 14, c, z, [], _, [], h6, h7, ht1, owns_nil _ _ _ _, owns_nil _ _ _ _, (fun k hk => by cases hk), by rw [flat, List.append_nil]; exact h5, h4, by simp, by simp, h2, h3⟩⟩
    · exact ⟨false, he, hs1, hb1, hr1, hf1, .inl ⟨rfl, a, e, f, h1, h2⟩⟩
  clear hk hq HRes HFl HTt HSz HBl
  obtain ⟨bq, rfl, hI⟩ := HI
  have HI := Lib.hid hI
  clear hI
  go_wp2_with fail
  go_loopw [8, 9] (fun p q wr => RdIn w N g2 g3 g4 (g4 + 1) s p q wr) (fun _ q wr => msr g2 s q wr)
  case atStart => exact HI.out
  case round =>
    clear HI
    have HSz := Lib.hid hrel.sz
    have HBl := Lib.hid hrel.hb
    have HRes := Lib.hid hrel.res
    have HFl := Lib.hid hrel.fl
    have hst := hrel.st
    clear hrel
    rcases hst with ⟨rfl, a, e, f, he, hr⟩ | ⟨rfl, a, c, z, l, bv, pl, hg⟩
    · have HR := Lib.hid hr
      clear hr
      go_wp2_with fail
      have x2 : wr.cell? ⟨g2, 2, none⟩ = some (.int .i64 e) := (blk_cell HR.out 2).trans rfl
      have x3 : wr.cell? ⟨g2, 3, none⟩ = some (.int .i64 f) := (blk_cell HR.out 3).trans rfl
      have x2d : wr.drew.cell? ⟨g2, 2, none⟩ = some (.int .i64 e) := (blk_cell HR.out 2).trans rfl
      have x3d : wr.drew.cell? ⟨g2, 3, none⟩ = some (.int .i64 f) := (blk_cell HR.out 3).trans rfl
      have q0 : wr.cell? ⟨N, 0, none⟩ = some (.int .i64 0) := (blk_cell HRes.out 0).trans rfl
      have q1 : wr.cell? ⟨N, 1, none⟩ = some (.int .i64 0) := (blk_cell HRes.out 1).trans rfl
      have q2 : wr.cell? ⟨N, 2, none⟩ = some (.slice none 0 0) := (blk_cell HRes.out 2).trans rfl
      have p0 : wr.cell? ⟨N + 1, 0, none⟩ = some (.int .i64 0) := (blk_cell HFl.out 0).trans rfl
      have p1 : wr.cell? ⟨N + 1, 1, none⟩ = some (.int .i64 0) := (blk_cell HFl.out 1).trans rfl
      have r0 := blk_frozen HRes.out 0
      have r1 := blk_frozen HRes.out 1
      have r2 := blk_frozen HRes.out 2
      have r3 := blk_frozen HFl.out 0
      have r4 := blk_frozen HFl.out 1
      have q0d : wr.drew.cell? ⟨N, 0, none⟩ = some (.int .i64 0) := q0
      have q1d : wr.drew.cell? ⟨N, 1, none⟩ = some (.int .i64 0) := q1
      have q2d : wr.drew.cell? ⟨N, 2, none⟩ = some (.slice none 0 0) := q2
      have p0d : wr.drew.cell? ⟨N + 1, 0, none⟩ = some (.int .i64 0) := p0
      have p1d : wr.drew.cell? ⟨N + 1, 1, none⟩ = some (.int .i64 0) := p1
      have r0d : wr.drew.frozen? ⟨N, 0, none⟩ = false := r0
      have r1d : wr.drew.frozen? ⟨N, 1, none⟩ = false := r1
      have r2d : wr.drew.frozen? ⟨N, 2, none⟩ = false := r2
      have r3d : wr.drew.frozen? ⟨N + 1, 0, none⟩ = false := r3
      have r4d : wr.drew.frozen? ⟨N + 1, 1, none⟩ = false := r4
      have hX : Kp (fun k => k = N) wr (((wr.setCell ⟨N, 0, none⟩ (.int .i64 0)).setCell ⟨N, 1, none⟩ (.int .i64 0)).setCell ⟨N, 2, none⟩ (.slice none 0 0)) := (((Kp.refl _ _).setg _ _).setg _ _).setg _ _
      have hXr := hX.blk HR.out (by have := HG.out; omega)
      have hXf := hX.blk HFl.out (by omega)
      have x2s : (((wr.setCell ⟨N, 0, none⟩ (.int .i64 0)).setCell ⟨N, 1, none⟩ (.int .i64 0)).setCell ⟨N, 2, none⟩ (.slice none 0 0)).drew.cell? ⟨g2, 2, none⟩ = some (.int .i64 e) := (blk_cell hXr 2).trans rfl
      have x3s : (((wr.setCell ⟨N, 0, none⟩ (.int .i64 0)).setCell ⟨N, 1, none⟩ (.int .i64 0)).setCell ⟨N, 2, none⟩ (.slice none 0 0)).drew.cell? ⟨g2, 3, none⟩ = some (.int .i64 f) := (blk_cell hXr 3).trans rfl
      have n0 : (g2 = N) = False := eq_false (by have := HG.out; omega)
      have n1 : (g2 = N + 1) = False := eq_false (by have := HG.out; omega)
      go_region
      go_wp2_with fail
      clear hX hXr hXf x2 x3 x2d x3d x2s x3s q0 q1 q2 p0 p1 r0 r1 r2 r3 r4 q0d q1d q2d p0d p1d r0d r1d r2d r3d r4d n0 n1
      obtain ⟨z1, z2, z3⟩ := two_set (x0 := .int .i64 0) (x1 := .int .i64 0) (x2 := .slice none 0 0) (y0 := .int .i64 e) (y1 := .int .i64 f) HRes.out HFl.out HBl.out
      (try simp only [Exit.inBlock, Exit.then])
      refine bodyPost_ret (results_ctc rfl _ _ N (N + 1) 53 27 #[.int .i64 0, .int .i64 0, .slice none 0 0] #[.int .i64 e, .int .i64 f] (0, 0) (0, 0) _ _ rfl z1 Tryz.underlying53 rfl (by kernel_rfl) rfl z2 Tryz.underlying27 rfl (by kernel_rfl)) rfl ?_
      unfold ReadCPost
      rw [HG.out.1]
      exact ⟨z3.drew, 0, 0, e, f, none, 0, 0, _, rfl, .inl he⟩
    · obtain ⟨A, cp, rfl⟩ : ∃ A cp, bv = .slice A l.length cp := by
        rcases hg.ob.2 with ⟨h, h0⟩ | ⟨g, cap, cur, h, _⟩
        · exact ⟨none, 0, by rw [h, h0]⟩
        · exact ⟨_, _, h⟩
      have HGo := Lib.hid hg
      have HRd := Lib.hid hg.rd
      have hal := hg.ha
      clear hg
      have c1 : wr.cell? ⟨g2, 1, none⟩ = some (.int .i64 (a : Int)) := (blk_cell HRd.out 1).trans rfl
      by_cases hlt : a < s.size
      · have hb := bt_at s a hlt
        have hltI : (a : Int) < (s.size : Int) := by omega
        by_cases h90 : bt s a = 90
        · have he9 : ((s[a]'hlt).toNat : Int) = 90 := hb.trans h90
          have t0 : wr.cell? ⟨g4, 0, none⟩ = some (.int .u32 (tot l).n) := (blk_cell HGo.out.tt 0).trans rfl
          have t1 : wr.cell? ⟨g4, 1, none⟩ = some (.int .u64 (tot l).sc) := (blk_cell HGo.out.tt 1).trans rfl
          have t2 : wr.cell? ⟨g4, 2, none⟩ = some (.int .u64 (tot l).by_) := (blk_cell HGo.out.tt 2).trans rfl
          go_wp2_with fail
          clear t0 t1 t2 c1 he9 hb hltI
          refine (rend_any _ _ _ a hs hlt h90 HRd.out).mono ?_
          rintro en w1 ⟨hk, hq⟩
          have HRes1 := Lib.hid (hk.blk HRes.out (by have := HG.out; omega))
          have HFl1 := Lib.hid (hk.blk HFl.out (by have := HG.out; omega))
          have HCr1 := Lib.hid (hk.blk HGo.out.cr (by have := HG.out; omega))
          have HOb1 := Lib.hid (hk.own HGo.out.ob (fun k hk => by have := owns_ge HGo.out.ob hk; have := HG.out; omega))
          have HBl1 := Lib.hid (HBl.out.trans (hk.below (B := N) (by have := HSz.out; have := HG.out; omega) (fun k hk => by have := HG.out; omega)))
          clear hk HRes HFl HBl HRd
          rcases hq with ⟨rfl, hend, a', hr'⟩ | ⟨rfl, a', e, f, he, hr'⟩
          · have HE := Lib.hid hend
            clear hend hr'
            have k0 : w1.cell? ⟨g3, 0, none⟩ = some (.int .i64 c) := (blk_cell HCr1.out 0).trans rfl
            have k1 : w1.cell? ⟨g3, 1, none⟩ = some (.int .i64 z) := (blk_cell HCr1.out 1).trans rfl
            have k2 : w1.cell? ⟨g3, 2, none⟩ = some (.slice A l.length cp) := (blk_cell HCr1.out 2).trans rfl
            have q0 : w1.cell? ⟨N, 0, none⟩ = some (.int .i64 0) := (blk_cell HRes1.out 0).trans rfl
            have q1 : w1.cell? ⟨N, 1, none⟩ = some (.int .i64 0) := (blk_cell HRes1.out 1).trans rfl
            have q2 : w1.cell? ⟨N, 2, none⟩ = some (.slice none 0 0) := (blk_cell HRes1.out 2).trans rfl
            have p0 : w1.cell? ⟨N + 1, 0, none⟩ = some (.int .i64 0) := (blk_cell HFl1.out 0).trans rfl
            have p1 : w1.cell? ⟨N + 1, 1, none⟩ = some (.int .i64 0) := (blk_cell HFl1.out 1).trans rfl
            have r0 := blk_frozen HRes1.out 0
            have r1 := blk_frozen HRes1.out 1
            have r2 := blk_frozen HRes1.out 2
            have r3 := blk_frozen HFl1.out 0
            have r4 := blk_frozen HFl1.out 1
            go_wp2_with fail
            clear k0 k1 k2 q0 q1 q2 p0 p1 r0 r1 r2 r3 r4
            obtain ⟨z1, z2, z3⟩ := two_set (x0 := .int .i64 c) (x1 := .int .i64 z) (x2 := .slice A l.length cp) (y0 := .int .i64 0) (y1 := .int .i64 0) HRes1.out HFl1.out HBl1.out
            (try simp only [Exit.inBlock, Exit.then])
            refine bodyPost_ret (results_ctc rfl _ _ N (N + 1) 53 27 #[.int .i64 c, .int .i64 z, .slice A l.length cp] #[.int .i64 0, .int .i64 0] (0, 0) (0, 0) _ _ rfl z1 Tryz.underlying53 rfl (by kernel_rfl) rfl z2 Tryz.underlying27 rfl (by kernel_rfl)) rfl ?_
            exact cread_fin HG.out.1 z3 (by have := HG.out; omega) HOb1.out HGo.out.txt HE.out HGo.out.ha HGo.out.hl HGo.out.ok HGo.out.hz
          · have HR := Lib.hid hr'
            clear hr'
            go_wp2_with fail
            have x2 : w1.cell? ⟨g2, 2, none⟩ = some (.int .i64 e) := (blk_cell HR.out 2).trans rfl
            have x3 : w1.cell? ⟨g2, 3, none⟩ = some (.int .i64 f) := (blk_cell HR.out 3).trans rfl
            have x2d : w1.drew.cell? ⟨g2, 2, none⟩ = some (.int .i64 e) := (blk_cell HR.out 2).trans rfl
            have x3d : w1.drew.cell? ⟨g2, 3, none⟩ = some (.int .i64 f) := (blk_cell HR.out 3).trans rfl
            have q0 : w1.cell? ⟨N, 0, none⟩ = some (.int .i64 0) := (blk_cell HRes1.out 0).trans rfl
            have q1 : w1.cell? ⟨N, 1, none⟩ = some (.int .i64 0) := (blk_cell HRes1.out 1).trans rfl
            have q2 : w1.cell? ⟨N, 2, none⟩ = some (.slice none 0 0) := (blk_cell HRes1.out 2).trans rfl
            have p0 : w1.cell? ⟨N + 1, 0, none⟩ = some (.int .i64 0) := (blk_cell HFl1.out 0).trans rfl
            have p1 : w1.cell? ⟨N + 1, 1, none⟩ = some (.int .i64 0) := (blk_cell HFl1.out 1).trans rfl
            have r0 := blk_frozen HRes1.out 0
            have r1 := blk_frozen HRes1.out 1
            have r2 := blk_frozen HRes1.out 2
            have r3 := blk_frozen HFl1.out 0
            have r4 := blk_frozen HFl1.out 1
            have q0d : w1.drew.cell? ⟨N, 0, none⟩ = some (.int .i64 0) := q0
            have q1d : w1.drew.cell? ⟨N, 1, none⟩ = some (.int .i64 0) := q1
            have q2d : w1.drew.cell? ⟨N, 2, none⟩ = some (.slice none 0 0) := q2
            have p0d : w1.drew.cell? ⟨N + 1, 0, none⟩ = some (.int .i64 0) := p0
            have p1d : w1.drew.cell? ⟨N + 1, 1, none⟩ = some (.int .i64 0) := p1
            have r0d : w1.drew.frozen? ⟨N, 0, none⟩ = false := r0
            have r1d : w1.drew.frozen? ⟨N, 1, none⟩ = false := r1
            have r2d : w1.drew.frozen? ⟨N, 2, none⟩ = false := r2
            have r3d : w1.drew.frozen? ⟨N + 1, 0, none⟩ = false := r3
            have r4d : w1.drew.frozen? ⟨N + 1, 1, none⟩ = false := r4
            have hX : Kp (fun k => k = N) w1 (((w1.setCell ⟨N, 0, none⟩ (.int .i64 0)).setCell ⟨N, 1, none⟩ (.int .i64 0)).setCell ⟨N, 2, none⟩ (.slice none 0 0)) := (((Kp.refl _ _).setg _ _).setg _ _).setg _ _
            have hXr := hX.blk HR.out (by have := HG.out; omega)
            have hXf := hX.blk HFl1.out (by omega)
            have x2s : (((w1.setCell ⟨N, 0, none⟩ (.int .i64 0)).setCell ⟨N, 1, none⟩ (.int .i64 0)).setCell ⟨N, 2, none⟩ (.slice none 0 0)).drew.cell? ⟨g2, 2, none⟩ = some (.int .i64 e) := (blk_cell hXr 2).trans rfl
            have x3s : (((w1.setCell ⟨N, 0, none⟩ (.int .i64 0)).setCell ⟨N, 1, none⟩ (.int .i64 0)).setCell ⟨N, 2, none⟩ (.slice none 0 0)).drew.cell? ⟨g2, 3, none⟩ = some (.int .i64 f) := (blk_cell hXr 3).trans rfl
            have n0 : (g2 = N) = False := eq_false (by have := HG.out; omega)
            have n1 : (g2 = N + 1) = False := eq_false (by have := HG.out; omega)
            go_region
            go_wp2_with fail
            clear hX hXr hXf x2 x3 x2d x3d x2s x3s q0 q1 q2 p0 p1 r0 r1 r2 r3 r4 q0d q1d q2d p0d p1d r0d r1d r2d r3d r4d n0 n1
            obtain ⟨z1, z2, z3⟩ := two_set (x0 := .int .i64 0) (x1 := .int .i64 0) (x2 := .slice none 0 0) (y0 := .int .i64 e) (y1 := .int .i64 f) HRes1.out HFl1.out HBl1.out
            (try simp only [Exit.inBlock, Exit.then])
            refine bodyPost_ret (results_ctc rfl _ _ N (N + 1) 53 27 #[.int .i64 0, .int .i64 0, .slice none 0 0] #[.int .i64 e, .int .i64 f] (0, 0) (0, 0) _ _ rfl z1 Tryz.underlying53 rfl (by kernel_rfl) rfl z2 Tryz.underlying27 rfl (by kernel_rfl)) rfl ?_
            unfold ReadCPost
            rw [HG.out.1]
            exact ⟨z3.drew, 0, 0, e, f, none, 0, 0, _, rfl, .inl he⟩
        · have hne9 : ((s[a]'hlt).toNat : Int) ≠ 90 := fun h => h90 (hb.symm.trans h)
          have he9 : (((s[a]'hlt).toNat : Int) == 90) = false := beq_eq_false_iff_ne.mpr hne9
          go_wp2_with fail
          (try clear he9 hne9 hb hltI h90)
          clear c1
          refine (read_any s a hs hal wr).mono ?_
          rintro en w1 ⟨hb, b, nx, e, f, rfl, hcase⟩
          have HRd1 := Lib.hid (blk_below HRd.out hb)
          have HRes1 := Lib.hid (blk_below HRes.out hb)
          have HFl1 := Lib.hid (blk_below HFl.out hb)
          have HCr1 := Lib.hid (blk_below HGo.out.cr hb)
          have HTt1 := Lib.hid (blk_below HGo.out.tt hb)
          have hk1 : Kp (fun _ => False) wr w1 := Kp.of_below hb
          have HOb1 := Lib.hid (hk1.own HGo.out.ob (fun _ _ h => h))
          have HOp1 := Lib.hid (hk1.own HGo.out.op (fun _ _ h => h))
          have HBl1 := Lib.hid (HBl.out.trans (hb.mono (by have := HSz.out; have := HG.out; omega)))
          have HSz1 : Hid (g4 + 1 ≤ w1.heap.size) := Lib.hid (by have := HSz.out; have := hb.size; omega)
          have HCase := Lib.hid hcase
          clear hb hk1 hcase HRd HRes HFl HBl HSz
          obtain ⟨hb0, hf0, hz0⟩ := two_new w1 (.cells #[.int .i64 b.count, .int .u32 b.sum, .string b.pay] 58) (.cells #[.int .i64 e, .int .i64 f] 27)
          have HBk2 := Lib.hid hb0
          have HFa2 := Lib.hid hf0
          have HSz2 := Lib.hid hz0
          have hk2 : Kp (fun _ => False) w1 ((w1.alloc (.cells #[.int .i64 b.count, .int .u32 b.sum, .string b.pay] 58)).alloc (.cells #[.int .i64 e, .int .i64 f] 27)) := ((Kp.refl _ _).alloc _).alloc _
          have HRd2 := Lib.hid (hk2.blk HRd1.out (fun h => h))
          have HRes2 := Lib.hid (hk2.blk HRes1.out (fun h => h))
          have HFl2 := Lib.hid (hk2.blk HFl1.out (fun h => h))
          have HCr2 := Lib.hid (hk2.blk HCr1.out (fun h => h))
          have HTt2 := Lib.hid (hk2.blk HTt1.out (fun h => h))
          have HOb2 := Lib.hid (hk2.own HOb1.out (fun _ _ h => h))
          have HOp2 := Lib.hid (hk2.own HOp1.out (fun _ _ h => h))
          have HBl2 := Lib.hid (HBl1.out.trans (hk2.below (B := N) (by have := HSz1.out; have := HG.out; omega) (fun _ h => h.elim)))
          have HAB := Lib.hid (fun k (hk : (Value.slice A l.length cp).ownBlock = some k) => owns_lt HOb1.out hk)
          have HVB := Lib.hid (fun k (hk : u8.ownBlock = some k) => owns_lt HOp1.out hk)
          clear hb0 hf0 hz0 hk2 HRd1 HRes1 HFl1 HCr1 HTt1 HOb1 HOp1 HBl1
          have k1 : ((w1.alloc (.cells #[.int .i64 b.count, .int .u32 b.sum, .string b.pay] 58)).alloc (.cells #[.int .i64 e, .int .i64 f] 27)).cell? ⟨g3, 1, none⟩ = some (.int .i64 z) := (blk_cell HCr2.out 1).trans rfl
          have k2 : ((w1.alloc (.cells #[.int .i64 b.count, .int .u32 b.sum, .string b.pay] 58)).alloc (.cells #[.int .i64 e, .int .i64 f] 27)).cell? ⟨g3, 2, none⟩ = some (.slice A l.length cp) := (blk_cell HCr2.out 2).trans rfl
          have b0 : ((w1.alloc (.cells #[.int .i64 b.count, .int .u32 b.sum, .string b.pay] 58)).alloc (.cells #[.int .i64 e, .int .i64 f] 27)).cell? ⟨w1.heap.size, 0, none⟩ = some (.int .i64 b.count) := (blk_cell HBk2.out 0).trans rfl
          have b1 : ((w1.alloc (.cells #[.int .i64 b.count, .int .u32 b.sum, .string b.pay] 58)).alloc (.cells #[.int .i64 e, .int .i64 f] 27)).cell? ⟨w1.heap.size, 1, none⟩ = some (.int .u32 b.sum) := (blk_cell HBk2.out 1).trans rfl
          have b2 : ((w1.alloc (.cells #[.int .i64 b.count, .int .u32 b.sum, .string b.pay] 58)).alloc (.cells #[.int .i64 e, .int .i64 f] 27)).cell? ⟨w1.heap.size, 2, none⟩ = some (.string b.pay) := (blk_cell HBk2.out 2).trans rfl
          have e0 : ((w1.alloc (.cells #[.int .i64 b.count, .int .u32 b.sum, .string b.pay] 58)).alloc (.cells #[.int .i64 e, .int .i64 f] 27)).cell? ⟨w1.heap.size + 1, 0, none⟩ = some (.int .i64 e) := (blk_cell HFa2.out 0).trans rfl
          have e1 : ((w1.alloc (.cells #[.int .i64 b.count, .int .u32 b.sum, .string b.pay] 58)).alloc (.cells #[.int .i64 e, .int .i64 f] 27)).cell? ⟨w1.heap.size + 1, 1, none⟩ = some (.int .i64 f) := (blk_cell HFa2.out 1).trans rfl
          by_cases he : e = 0
          · subst he
            obtain ⟨hok, hpz, hnx, hnz, htx⟩ : b.ok ∧ 1 ≤ b.pay.size ∧ nx = a + 13 + b.pay.size ∧ nx ≤ s.size ∧ (bytesOf s).drop a = b.bytes ++ (bytesOf s).drop nx.toNat := by
              rcases HCase.out with h | h
              · exact absurd rfl h
              · exact h.2
            have HOk := Lib.hid hok
            have HTx := Lib.hid htx
            have HNx := Lib.hid (And.intro hnx (And.intro hnz hpz))
            clear hok htx hnx hnz hpz HCase
            have hlen : l.length ≤ 100000 := by have := HGo.out.hl; have := HGo.out.ha; omega
            generalize hn : l.length = n at *
            have HN := Lib.hid hn
            clear hn
            rcases n with _ | n
            · go_wp2_with fail
              clear b0 b1 b2 e0 e1
              generalize ((w1.alloc (.cells #[.int .i64 b.count, .int .u32 b.sum, .string b.pay] 58)).alloc (.cells #[.int .i64 0, .int .i64 f] 27)) = w2 at *
              generalize hB1 : w1.heap.size = B1 at *
              clear hB1
              go_quiet (fail)
              rename_i nq
              have hkq : Kp (fun _ => False) w2 (w2.drewN nq) := (Kp.refl _ _).drewN nq
              have HRd3 := Lib.hid (hkq.blk HRd2.out (fun h => h))
              have HRes3 := Lib.hid (hkq.blk HRes2.out (fun h => h))
              have HFl3 := Lib.hid (hkq.blk HFl2.out (fun h => h))
              have HCr3 := Lib.hid (hkq.blk HCr2.out (fun h => h))
              have HTt3 := Lib.hid (hkq.blk HTt2.out (fun h => h))
              have HBk3 := Lib.hid (hkq.blk HBk2.out (fun h => h))
              have HOb3 := Lib.hid (hkq.own HOb2.out (fun _ _ h => h))
              have HOp3 := Lib.hid (hkq.own HOp2.out (fun _ _ h => h))
              have HBl3 := Lib.hid (HBl2.out.trans (hkq.below (B := N) (by have := HSz1.out; have := HSz2.out; have := HG.out; omega) (fun _ h => h.elim)))
              have HSz3 : Hid (B1 + 2 ≤ (w2.drewN nq).heap.size) := Lib.hid (by have := HSz2.out; have := hkq.size; omega)
              clear hkq k1 k2 HRd2 HRes2 HFl2 HCr2 HTt2 HBk2 HOb2 HOp2 HBl2 HSz2
              generalize w2.drewN nq = w3 at *
              have k1 : w3.cell? ⟨g3, 1, none⟩ = some (.int .i64 z) := (blk_cell HCr3.out 1).trans rfl
              have b0 : w3.cell? ⟨B1, 0, none⟩ = some (.int .i64 b.count) := (blk_cell HBk3.out 0).trans rfl
              have b1 : w3.cell? ⟨B1, 1, none⟩ = some (.int .u32 b.sum) := (blk_cell HBk3.out 1).trans rfl
              have b2 : w3.cell? ⟨B1, 2, none⟩ = some (.string b.pay) := (blk_cell HBk3.out 2).trans rfl
              by_cases hbig : z < b.count
              · have hgt : decide (z < b.count) = true := decide_eq_true hbig
                have c1 : w3.cell? ⟨g2, 1, none⟩ = some (.int .i64 (a : Int)) := (blk_cell HRd3.out 1).trans rfl
                go_wp2_with fail
                clear c1 hgt
                refine (wrong_any 8 (a + 1) HRd3.out).mono ?_
                rintro en w4 ⟨rfl, hr4, hk4⟩
                have HR4 := Lib.hid hr4
                have hg := HG.out
                have HRes4 := Lib.hid (hk4.blk HRes3.out (by omega))
                have HFl4 := Lib.hid (hk4.blk HFl3.out (by omega))
                have HBl4 := Lib.hid (HBl3.out.trans (hk4.below (B := N) (by have := HSz3.out; have := HSz1.out; omega) (fun k hk => by omega)))
                have HSz4 : Hid (g4 + 1 ≤ w4.heap.size) := Lib.hid (by have := HSz3.out; have := HSz1.out; have := hk4.size; omega)
                clear hr4 hk4 hg
                go_wp2_with fail
                exact ⟨⟨HSz4.out, HBl4.out, HRes4.out, HFl4.out, .inl ⟨rfl, _, 8, _, by decide, HR4.out⟩⟩, by rw [msr_no, msr_yes HGo.out.rd]; omega⟩
              · have hgt : decide (z < b.count) = false := decide_eq_false hbig
                have k2 : w3.cell? ⟨g3, 2, none⟩ = some (.slice A 0 cp) := (blk_cell HCr3.out 2).trans rfl
                obtain ⟨i1, hi1, hz1, hs1, hy1⟩ := info_parts (P := Tryz.prog) (e := 58) (z := .agg #[.int .i64 0, .int .u32 0, .string ⟨#[]⟩]) (size := 3) (bytes := 32) (by kernel_rfl)
                obtain ⟨i2, hi2, hz2, hs2, hy2⟩ := info_parts (P := Tryz.prog) (e := 3) (z := .int .i64 0) (size := 1) (bytes := 8) (by kernel_rfl)
                have HOb4 : Hid ((w3.alloc (.cells #[.int .i64 b.count, .int .u32 b.sum, .string b.pay] 58)).ownsRow (g4 + 1) 58 3 (.slice A 0 cp) 0 (rowOf l)) := Lib.hid (Kp.own (F := fun _ => False) ((Kp.refl _ _).alloc _) HOb3.out (fun _ _ h => h))
                have HNew4 := Lib.hid (blk_new w3 (.cells #[.int .i64 b.count, .int .u32 b.sum, .string b.pay] 58))
                have hone1 : ∀ u ∈ ([.int .i64 b.count, .int .u32 b.sum, .string b.pay] : List Value), u.oneCell' = true := by
                  intro u hu
                  simp only [List.mem_cons, List.not_mem_nil, or_false] at hu
                  rcases hu with rfl | rfl | rfl <;> rfl
                have HH3 : Hid (Held w N g2 g3 g4 B1 s a c z (tot l).n (tot l).sc (tot l).by_ b l 0 0 (.slice A 0 cp) u8 pl w3) := Lib.hid ⟨HRd3.out, HRes3.out, HFl3.out, HCr3.out, HTt3.out, HBk3.out, HOb3.out, HOp3.out, HGo.out.ne, HBl3.out, HSz3.out⟩
                have hone2 : ∀ u ∈ ([.int .i64 (a : Int)] : List Value), u.oneCell' = true := by
                  intro u hu
                  simp only [List.mem_cons, List.not_mem_nil, or_false] at hu
                  subst hu
                  rfl
                clear HRd3 HRes3 HFl3 HCr3 HTt3 HBk3 HOb3 HOp3 HBl3 HSz3
                go_wp2_with (first
                  | (at_builtin; (refine wpList_append_lies _ rfl _ _ 51 rfl (g4 + 1) 58 i1 _ 3 32 Tryz.underlying51 hi1 hz1 hs1 hy1 rfl (by decide) (.slice A 0 cp) 0 (rowOf l) rfl HOb4.out ⟨w3.heap.size, 0, none⟩ 1 1 [.int .i64 b.count, .int .u32 b.sum, .string b.pay] rfl rfl (World.news_of_block HNew4.out) hone1 (by decide) (by unfold maxLen; omega) (by omega) (by have := HSz1.out; have := HH3.out.sz; simp; omega) _ rfl ?_); intro g1 cap1 w4 ho4 hg4 hb4 hl4; obtain ⟨k9, f9, hh⟩ := app1 HN.out rfl HSz1.out HG.out HAB.out HVB.out HH3.out ho4 hg4 hb4; have HH5 := Lib.hid hh; clear ho4 hg4 hb4 hl4 hh k1 k2 b0 b1 b2; have a9 := (blk_cell HH5.out.rd 1).trans rfl; have HOp5 := Lib.hid (Kp.own (F := fun _ => False) ((Kp.refl _ _).alloc (.cells #[.int .i64 (a : Int)] 3)) HH5.out.op (fun _ _ h => h)); have hnw := blk_new (w4.setCell ⟨g3, 2, none⟩ (.slice (some ⟨g1, 0, none⟩) 1 cap1)) (.cells #[.int .i64 (a : Int)] 3); have hz4 : (w4.setCell ⟨g3, 2, none⟩ (.slice (some ⟨g1, 0, none⟩) 1 cap1)).heap.size = w4.heap.size := (by simp [World.setCell]); rw [hz4] at hnw; have HNew5 := Lib.hid hnw; clear hnw)
                  | (at_builtin; go_must (refine wpList_append_lies _ rfl _ _ 34 rfl (g4 + 1) 3 i2 (.int .i64 0) 1 8 Tryz.underlying34 hi2 hz2 hs2 hy2 rfl (by decide) u8 0 pl rfl HOp5.out ⟨w4.heap.size, 0, none⟩ 1 1 [.int .i64 (a : Int)] rfl rfl (World.news_of_block HNew5.out) hone2 (by decide) (by unfold maxLen; omega) (by omega) (by have := HSz1.out; have h9 := HH5.out.sz; rw [hz4] at h9; simp; omega) _ rfl ?_); intro g5 cap5 w6 ho6 hg6 hb6 hl6; have HH6 := Lib.hid (app2 rfl HSz1.out HG.out HVB.out HH5.out ho6 hg6 hb6); clear ho6 hg6 hb6 hl6; have b0 : w6.cell? ⟨B1, 0, none⟩ = some (.int .i64 b.count) := (blk_cell HH6.out.bk 0).trans rfl; have b1 : w6.cell? ⟨B1, 1, none⟩ = some (.int .u32 b.sum) := (blk_cell HH6.out.bk 1).trans rfl; have b2 : w6.cell? ⟨B1, 2, none⟩ = some (.string b.pay) := (blk_cell HH6.out.bk 2).trans rfl)
                  | (fail))
                clear b0 b1 b2 HH3 HH5 HOp5 HNew5 HOb4 HNew4
                refine (tadd2_any b.count b.sum b.pay (by have := HOk.out.1; omega) HOk.out.2.1 HOk.out.2.2.2.2 HH6.out.tt).mono ?_
                rintro en w7 ⟨rfl, ht7, hk7⟩
                have HT7 := Lib.hid ht7
                have HK7 := Lib.hid hk7
                have c7 : w7.cell? ⟨g2, 1, none⟩ = some (.int .i64 (a : Int)) := (blk_cell (hk7.blk HH6.out.rd (by have := HG.out; omega)) 1).trans rfl
                have f7 := blk_frozen (hk7.blk HH6.out.rd (by have := HG.out; omega)) 1
                clear ht7 hk7
                go_wp2_with fail
                clear c7 f7
                exact fin_round HSz1.out HG.out HH6.out (by rw [List.length_append, HN.out]; rfl) HT7.out HK7.out HNx.out HTx.out HGo.out.txt HGo.out.ok HOk.out HGo.out.hz HGo.out.hl HGo.out.rd
            · have HOL := Lib.hid (owns_last HOb2.out HN.out)
              obtain ⟨gA, xA, rfl, hcA⟩ := HOL.out
              clear HOL
              go_wp2_with fail
              clear b0 b1 b2 e0 e1
              have cA := hcA _ rfl
              clear hcA
              generalize ((w1.alloc (.cells #[.int .i64 b.count, .int .u32 b.sum, .string b.pay] 58)).alloc (.cells #[.int .i64 0, .int .i64 f] 27)) = w2 at *
              generalize hB1 : w1.heap.size = B1 at *
              clear hB1
              go_quiet (fail)
              rename_i nq
              have hkq : Kp (fun _ => False) w2 (w2.drewN nq) := (Kp.refl _ _).drewN nq
              have HRd3 := Lib.hid (hkq.blk HRd2.out (fun h => h))
              have HRes3 := Lib.hid (hkq.blk HRes2.out (fun h => h))
              have HFl3 := Lib.hid (hkq.blk HFl2.out (fun h => h))
              have HCr3 := Lib.hid (hkq.blk HCr2.out (fun h => h))
              have HTt3 := Lib.hid (hkq.blk HTt2.out (fun h => h))
              have HBk3 := Lib.hid (hkq.blk HBk2.out (fun h => h))
              have HOb3 := Lib.hid (hkq.own HOb2.out (fun _ _ h => h))
              have HOp3 := Lib.hid (hkq.own HOp2.out (fun _ _ h => h))
              have HBl3 := Lib.hid (HBl2.out.trans (hkq.below (B := N) (by have := HSz1.out; have := HSz2.out; have := HG.out; omega) (fun _ h => h.elim)))
              have HSz3 : Hid (B1 + 2 ≤ (w2.drewN nq).heap.size) := Lib.hid (by have := HSz2.out; have := hkq.size; omega)
              clear hkq k1 k2 HRd2 HRes2 HFl2 HCr2 HTt2 HBk2 HOb2 HOp2 HBl2 HSz2
              generalize w2.drewN nq = w3 at *
              by_cases hxA : xA < z
              · have hxl : decide (xA < z) = true := decide_eq_true hxA
                have c1 : w3.cell? ⟨g2, 1, none⟩ = some (.int .i64 (a : Int)) := (blk_cell HRd3.out 1).trans rfl
                go_wp2_with fail
                clear c1
                refine (wrong_any 8 (a + 1) HRd3.out).mono ?_
                rintro en w4 ⟨rfl, hr4, hk4⟩
                have HR4 := Lib.hid hr4
                have hg := HG.out
                have HRes4 := Lib.hid (hk4.blk HRes3.out (by omega))
                have HFl4 := Lib.hid (hk4.blk HFl3.out (by omega))
                have HBl4 := Lib.hid (HBl3.out.trans (hk4.below (B := N) (by have := HSz3.out; have := HSz1.out; omega) (fun k hk => by omega)))
                have HSz4 : Hid (g4 + 1 ≤ w4.heap.size) := Lib.hid (by have := HSz3.out; have := HSz1.out; have := hk4.size; omega)
                clear hr4 hk4 hg
                go_wp2_with fail
                exact ⟨⟨HSz4.out, HBl4.out, HRes4.out, HFl4.out, .inl ⟨rfl, _, 8, _, by decide, HR4.out⟩⟩, by rw [msr_no, msr_yes HGo.out.rd]; omega⟩
              · have hxl : decide (xA < z) = false := decide_eq_false hxA
                have k1 : w3.cell? ⟨g3, 1, none⟩ = some (.int .i64 z) := (blk_cell HCr3.out 1).trans rfl
                have b0 : w3.cell? ⟨B1, 0, none⟩ = some (.int .i64 b.count) := (blk_cell HBk3.out 0).trans rfl
                have b1 : w3.cell? ⟨B1, 1, none⟩ = some (.int .u32 b.sum) := (blk_cell HBk3.out 1).trans rfl
                have b2 : w3.cell? ⟨B1, 2, none⟩ = some (.string b.pay) := (blk_cell HBk3.out 2).trans rfl
                by_cases hbig : z < b.count
                · have hgt : decide (z < b.count) = true := decide_eq_true hbig
                  have c1 : w3.cell? ⟨g2, 1, none⟩ = some (.int .i64 (a : Int)) := (blk_cell HRd3.out 1).trans rfl
                  go_wp2_with fail
                  clear c1 hgt
                  refine (wrong_any 8 (a + 1) HRd3.out).mono ?_
                  rintro en w4 ⟨rfl, hr4, hk4⟩
                  have HR4 := Lib.hid hr4
                  have hg := HG.out
                  have HRes4 := Lib.hid (hk4.blk HRes3.out (by omega))
                  have HFl4 := Lib.hid (hk4.blk HFl3.out (by omega))
                  have HBl4 := Lib.hid (HBl3.out.trans (hk4.below (B := N) (by have := HSz3.out; have := HSz1.out; omega) (fun k hk => by omega)))
                  have HSz4 : Hid (g4 + 1 ≤ w4.heap.size) := Lib.hid (by have := HSz3.out; have := HSz1.out; have := hk4.size; omega)
                  clear hr4 hk4 hg
                  go_wp2_with fail
                  exact ⟨⟨HSz4.out, HBl4.out, HRes4.out, HFl4.out, .inl ⟨rfl, _, 8, _, by decide, HR4.out⟩⟩, by rw [msr_no, msr_yes HGo.out.rd]; omega⟩
                · have hgt : decide (z < b.count) = false := decide_eq_false hbig
                  have k2 : w3.cell? ⟨g3, 2, none⟩ = some (.slice (some ⟨gA, 0, none⟩) (n + 1) cp) := (blk_cell HCr3.out 2).trans rfl
                  obtain ⟨i1, hi1, hz1, hs1, hy1⟩ := info_parts (P := Tryz.prog) (e := 58) (z := .agg #[.int .i64 0, .int .u32 0, .string ⟨#[]⟩]) (size := 3) (bytes := 32) (by kernel_rfl)
                  obtain ⟨i2, hi2, hz2, hs2, hy2⟩ := info_parts (P := Tryz.prog) (e := 3) (z := .int .i64 0) (size := 1) (bytes := 8) (by kernel_rfl)
                  have HOb4 : Hid ((w3.alloc (.cells #[.int .i64 b.count, .int .u32 b.sum, .string b.pay] 58)).ownsRow (g4 + 1) 58 3 (.slice (some ⟨gA, 0, none⟩) (n + 1) cp) (n + 1) (rowOf l)) := Lib.hid (Kp.own (F := fun _ => False) ((Kp.refl _ _).alloc _) HOb3.out (fun _ _ h => h))
                  have HNew4 := Lib.hid (blk_new w3 (.cells #[.int .i64 b.count, .int .u32 b.sum, .string b.pay] 58))
                  have hone1 : ∀ u ∈ ([.int .i64 b.count, .int .u32 b.sum, .string b.pay] : List Value), u.oneCell' = true := by
                    intro u hu
                    simp only [List.mem_cons, List.not_mem_nil, or_false] at hu
                    rcases hu with rfl | rfl | rfl <;> rfl
                  have HH3 : Hid (Held w N g2 g3 g4 B1 s a c z (tot l).n (tot l).sc (tot l).by_ b l (n + 1) (n + 1) (.slice (some ⟨gA, 0, none⟩) (n + 1) cp) u8 pl w3) := Lib.hid ⟨HRd3.out, HRes3.out, HFl3.out, HCr3.out, HTt3.out, HBk3.out, HOb3.out, HOp3.out, HGo.out.ne, HBl3.out, HSz3.out⟩
                  have hone2 : ∀ u ∈ ([.int .i64 (a : Int)] : List Value), u.oneCell' = true := by
                    intro u hu
                    simp only [List.mem_cons, List.not_mem_nil, or_false] at hu
                    subst hu
                    rfl
                  clear HRd3 HRes3 HFl3 HCr3 HTt3 HBk3 HOb3 HOp3 HBl3 HSz3
                  go_wp2_with (first
                    | (at_builtin; (refine wpList_append_lies _ rfl _ _ 51 rfl (g4 + 1) 58 i1 _ 3 32 Tryz.underlying51 hi1 hz1 hs1 hy1 rfl (by decide) (.slice (some ⟨gA, 0, none⟩) (n + 1) cp) (n + 1) (rowOf l) rfl HOb4.out ⟨w3.heap.size, 0, none⟩ 1 1 [.int .i64 b.count, .int .u32 b.sum, .string b.pay] rfl rfl (World.news_of_block HNew4.out) hone1 (by decide) (by unfold maxLen; omega) (by omega) (by have := HSz1.out; have := HH3.out.sz; simp; omega) _ rfl ?_); intro g1 cap1 w4 ho4 hg4 hb4 hl4; obtain ⟨k9, f9, hh⟩ := app1 HN.out rfl HSz1.out HG.out HAB.out HVB.out HH3.out ho4 hg4 hb4; have HH5 := Lib.hid hh; clear ho4 hg4 hb4 hl4 hh k1 k2 b0 b1 b2; have a9 := (blk_cell HH5.out.rd 1).trans rfl; have HOp5 := Lib.hid (Kp.own (F := fun _ => False) ((Kp.refl _ _).alloc (.cells #[.int .i64 (a : Int)] 3)) HH5.out.op (fun _ _ h => h)); have hnw := blk_new (w4.setCell ⟨g3, 2, none⟩ (.slice (some ⟨g1, 0, none⟩) (n + 1 + 1) cap1)) (.cells #[.int .i64 (a : Int)] 3); have hz4 : (w4.setCell ⟨g3, 2, none⟩ (.slice (some ⟨g1, 0, none⟩) (n + 1 + 1) cap1)).heap.size = w4.heap.size := (by simp [World.setCell]); rw [hz4] at hnw; have HNew5 := Lib.hid hnw; clear hnw)
                    | (at_builtin; go_must (refine wpList_append_lies _ rfl _ _ 34 rfl (g4 + 1) 3 i2 (.int .i64 0) 1 8 Tryz.underlying34 hi2 hz2 hs2 hy2 rfl (by decide) u8 (n + 1) pl rfl HOp5.out ⟨w4.heap.size, 0, none⟩ 1 1 [.int .i64 (a : Int)] rfl rfl (World.news_of_block HNew5.out) hone2 (by decide) (by unfold maxLen; omega) (by omega) (by have := HSz1.out; have h9 := HH5.out.sz; rw [hz4] at h9; simp; omega) _ rfl ?_); intro g5 cap5 w6 ho6 hg6 hb6 hl6; have HH6 := Lib.hid (app2 rfl HSz1.out HG.out HVB.out HH5.out ho6 hg6 hb6); clear ho6 hg6 hb6 hl6; have b0 : w6.cell? ⟨B1, 0, none⟩ = some (.int .i64 b.count) := (blk_cell HH6.out.bk 0).trans rfl; have b1 : w6.cell? ⟨B1, 1, none⟩ = some (.int .u32 b.sum) := (blk_cell HH6.out.bk 1).trans rfl; have b2 : w6.cell? ⟨B1, 2, none⟩ = some (.string b.pay) := (blk_cell HH6.out.bk 2).trans rfl)
                    | (fail))
                  clear b0 b1 b2 HH3 HH5 HOp5 HNew5 HOb4 HNew4
                  refine (tadd2_any b.count b.sum b.pay (by have := HOk.out.1; omega) HOk.out.2.1 HOk.out.2.2.2.2 HH6.out.tt).mono ?_
                  rintro en w7 ⟨rfl, ht7, hk7⟩
                  have HT7 := Lib.hid ht7
                  have HK7 := Lib.hid hk7
                  have c7 : w7.cell? ⟨g2, 1, none⟩ = some (.int .i64 (a : Int)) := (blk_cell (hk7.blk HH6.out.rd (by have := HG.out; omega)) 1).trans rfl
                  have f7 := blk_frozen (hk7.blk HH6.out.rd (by have := HG.out; omega)) 1
                  clear ht7 hk7
                  go_wp2_with fail
                  clear c7 f7
                  exact fin_round HSz1.out HG.out HH6.out (by rw [List.length_append, HN.out]; rfl) HT7.out HK7.out HNx.out HTx.out HGo.out.txt HGo.out.ok HOk.out HGo.out.hz HGo.out.hl HGo.out.rd
          · have heb : (e != 0) = true := bne_iff_ne.mpr he
            go_wp2_with fail
            clear k1 k2 b0 b1 b2 e0 e1
            generalize ((w1.alloc (.cells #[.int .i64 b.count, .int .u32 b.sum, .string b.pay] 58)).alloc (.cells #[.int .i64 e, .int .i64 f] 27)) = w2 at *
            refine (wrong_any e f HRd2.out).mono ?_
            rintro en w3 ⟨rfl, hr3, hk3⟩
            have HR3 := Lib.hid hr3
            have hg := HG.out
            have HRes3 := Lib.hid (hk3.blk HRes2.out (by omega))
            have HFl3 := Lib.hid (hk3.blk HFl2.out (by omega))
            have HBl3 := Lib.hid (HBl2.out.trans (hk3.below (B := N) (by have := HSz2.out; have := HSz1.out; omega) (fun k hk => by omega)))
            have HSz3 : Hid (g4 + 1 ≤ w3.heap.size) := Lib.hid (by have := HSz2.out; have := HSz1.out; have := hk3.size; omega)
            clear hr3 hk3 hg HRes2 HFl2 HBl2 HRd2
            go_wp2_with fail
            exact ⟨⟨HSz3.out, HBl3.out, HRes3.out, HFl3.out, .inl ⟨rfl, _, e, f, he, HR3.out⟩⟩, by rw [msr_no, msr_yes HGo.out.rd]; omega⟩
      · have hltI : decide ((a : Int) < (s.size : Int)) = false := decide_eq_false (by omega)
        go_wp2_with fail
        (try clear hltI)
        clear c1
        refine (read_any s a hs hal wr).mono ?_
        rintro en w1 ⟨hb, b, nx, e, f, rfl, hcase⟩
        have HRd1 := Lib.hid (blk_below HRd.out hb)
        have HRes1 := Lib.hid (blk_below HRes.out hb)
        have HFl1 := Lib.hid (blk_below HFl.out hb)
        have HCr1 := Lib.hid (blk_below HGo.out.cr hb)
        have HTt1 := Lib.hid (blk_below HGo.out.tt hb)
        have hk1 : Kp (fun _ => False) wr w1 := Kp.of_below hb
        have HOb1 := Lib.hid (hk1.own HGo.out.ob (fun _ _ h => h))
        have HOp1 := Lib.hid (hk1.own HGo.out.op (fun _ _ h => h))
        have HBl1 := Lib.hid (HBl.out.trans (hb.mono (by have := HSz.out; have := HG.out; omega)))
        have HSz1 : Hid (g4 + 1 ≤ w1.heap.size) := Lib.hid (by have := HSz.out; have := hb.size; omega)
        have HCase := Lib.hid hcase
        clear hb hk1 hcase HRd HRes HFl HBl HSz
        obtain ⟨hb0, hf0, hz0⟩ := two_new w1 (.cells #[.int .i64 b.count, .int .u32 b.sum, .string b.pay] 58) (.cells #[.int .i64 e, .int .i64 f] 27)
        have HBk2 := Lib.hid hb0
        have HFa2 := Lib.hid hf0
        have HSz2 := Lib.hid hz0
        have hk2 : Kp (fun _ => False) w1 ((w1.alloc (.cells #[.int .i64 b.count, .int .u32 b.sum, .string b.pay] 58)).alloc (.cells #[.int .i64 e, .int .i64 f] 27)) := ((Kp.refl _ _).alloc _).alloc _
        have HRd2 := Lib.hid (hk2.blk HRd1.out (fun h => h))
        have HRes2 := Lib.hid (hk2.blk HRes1.out (fun h => h))
        have HFl2 := Lib.hid (hk2.blk HFl1.out (fun h => h))
        have HCr2 := Lib.hid (hk2.blk HCr1.out (fun h => h))
        have HTt2 := Lib.hid (hk2.blk HTt1.out (fun h => h))
        have HOb2 := Lib.hid (hk2.own HOb1.out (fun _ _ h => h))
        have HOp2 := Lib.hid (hk2.own HOp1.out (fun _ _ h => h))
        have HBl2 := Lib.hid (HBl1.out.trans (hk2.below (B := N) (by have := HSz1.out; have := HG.out; omega) (fun _ h => h.elim)))
        have HAB := Lib.hid (fun k (hk : (Value.slice A l.length cp).ownBlock = some k) => owns_lt HOb1.out hk)
        have HVB := Lib.hid (fun k (hk : u8.ownBlock = some k) => owns_lt HOp1.out hk)
        clear hb0 hf0 hz0 hk2 HRd1 HRes1 HFl1 HCr1 HTt1 HOb1 HOp1 HBl1
        have k1 : ((w1.alloc (.cells #[.int .i64 b.count, .int .u32 b.sum, .string b.pay] 58)).alloc (.cells #[.int .i64 e, .int .i64 f] 27)).cell? ⟨g3, 1, none⟩ = some (.int .i64 z) := (blk_cell HCr2.out 1).trans rfl
        have k2 : ((w1.alloc (.cells #[.int .i64 b.count, .int .u32 b.sum, .string b.pay] 58)).alloc (.cells #[.int .i64 e, .int .i64 f] 27)).cell? ⟨g3, 2, none⟩ = some (.slice A l.length cp) := (blk_cell HCr2.out 2).trans rfl
        have b0 : ((w1.alloc (.cells #[.int .i64 b.count, .int .u32 b.sum, .string b.pay] 58)).alloc (.cells #[.int .i64 e, .int .i64 f] 27)).cell? ⟨w1.heap.size, 0, none⟩ = some (.int .i64 b.count) := (blk_cell HBk2.out 0).trans rfl
        have b1 : ((w1.alloc (.cells #[.int .i64 b.count, .int .u32 b.sum, .string b.pay] 58)).alloc (.cells #[.int .i64 e, .int .i64 f] 27)).cell? ⟨w1.heap.size, 1, none⟩ = some (.int .u32 b.sum) := (blk_cell HBk2.out 1).trans rfl
        have b2 : ((w1.alloc (.cells #[.int .i64 b.count, .int .u32 b.sum, .string b.pay] 58)).alloc (.cells #[.int .i64 e, .int .i64 f] 27)).cell? ⟨w1.heap.size, 2, none⟩ = some (.string b.pay) := (blk_cell HBk2.out 2).trans rfl
        have e0 : ((w1.alloc (.cells #[.int .i64 b.count, .int .u32 b.sum, .string b.pay] 58)).alloc (.cells #[.int .i64 e, .int .i64 f] 27)).cell? ⟨w1.heap.size + 1, 0, none⟩ = some (.int .i64 e) := (blk_cell HFa2.out 0).trans rfl
        have e1 : ((w1.alloc (.cells #[.int .i64 b.count, .int .u32 b.sum, .string b.pay] 58)).alloc (.cells #[.int .i64 e, .int .i64 f] 27)).cell? ⟨w1.heap.size + 1, 1, none⟩ = some (.int .i64 f) := (blk_cell HFa2.out 1).trans rfl
        by_cases he : e = 0
        · subst he
          obtain ⟨hok, hpz, hnx, hnz, htx⟩ : b.ok ∧ 1 ≤ b.pay.size ∧ nx = a + 13 + b.pay.size ∧ nx ≤ s.size ∧ (bytesOf s).drop a = b.bytes ++ (bytesOf s).drop nx.toNat := by
            rcases HCase.out with h | h
            · exact absurd rfl h
            · exact h.2
          have HOk := Lib.hid hok
          have HTx := Lib.hid htx
          have HNx := Lib.hid (And.intro hnx (And.intro hnz hpz))
          clear hok htx hnx hnz hpz HCase
          have hlen : l.length ≤ 100000 := by have := HGo.out.hl; have := HGo.out.ha; omega
          generalize hn : l.length = n at *
          have HN := Lib.hid hn
          clear hn
          rcases n with _ | n
          · go_wp2_with fail
            clear b0 b1 b2 e0 e1
            generalize ((w1.alloc (.cells #[.int .i64 b.count, .int .u32 b.sum, .string b.pay] 58)).alloc (.cells #[.int .i64 0, .int .i64 f] 27)) = w2 at *
            generalize hB1 : w1.heap.size = B1 at *
            clear hB1
            go_quiet (fail)
            rename_i nq
            have hkq : Kp (fun _ => False) w2 (w2.drewN nq) := (Kp.refl _ _).drewN nq
            have HRd3 := Lib.hid (hkq.blk HRd2.out (fun h => h))
            have HRes3 := Lib.hid (hkq.blk HRes2.out (fun h => h))
            have HFl3 := Lib.hid (hkq.blk HFl2.out (fun h => h))
            have HCr3 := Lib.hid (hkq.blk HCr2.out (fun h => h))
            have HTt3 := Lib.hid (hkq.blk HTt2.out (fun h => h))
            have HBk3 := Lib.hid (hkq.blk HBk2.out (fun h => h))
            have HOb3 := Lib.hid (hkq.own HOb2.out (fun _ _ h => h))
            have HOp3 := Lib.hid (hkq.own HOp2.out (fun _ _ h => h))
            have HBl3 := Lib.hid (HBl2.out.trans (hkq.below (B := N) (by have := HSz1.out; have := HSz2.out; have := HG.out; omega) (fun _ h => h.elim)))
            have HSz3 : Hid (B1 + 2 ≤ (w2.drewN nq).heap.size) := Lib.hid (by have := HSz2.out; have := hkq.size; omega)
            clear hkq k1 k2 HRd2 HRes2 HFl2 HCr2 HTt2 HBk2 HOb2 HOp2 HBl2 HSz2
            generalize w2.drewN nq = w3 at *
            have k1 : w3.cell? ⟨g3, 1, none⟩ = some (.int .i64 z) := (blk_cell HCr3.out 1).trans rfl
            have b0 : w3.cell? ⟨B1, 0, none⟩ = some (.int .i64 b.count) := (blk_cell HBk3.out 0).trans rfl
            have b1 : w3.cell? ⟨B1, 1, none⟩ = some (.int .u32 b.sum) := (blk_cell HBk3.out 1).trans rfl
            have b2 : w3.cell? ⟨B1, 2, none⟩ = some (.string b.pay) := (blk_cell HBk3.out 2).trans rfl
            by_cases hbig : z < b.count
            · have hgt : decide (z < b.count) = true := decide_eq_true hbig
              have c1 : w3.cell? ⟨g2, 1, none⟩ = some (.int .i64 (a : Int)) := (blk_cell HRd3.out 1).trans rfl
              go_wp2_with fail
              clear c1 hgt
              refine (wrong_any 8 (a + 1) HRd3.out).mono ?_
              rintro en w4 ⟨rfl, hr4, hk4⟩
              have HR4 := Lib.hid hr4
              have hg := HG.out
              have HRes4 := Lib.hid (hk4.blk HRes3.out (by omega))
              have HFl4 := Lib.hid (hk4.blk HFl3.out (by omega))
              have HBl4 := Lib.hid (HBl3.out.trans (hk4.below (B := N) (by have := HSz3.out; have := HSz1.out; omega) (fun k hk => by omega)))
              have HSz4 : Hid (g4 + 1 ≤ w4.heap.size) := Lib.hid (by have := HSz3.out; have := HSz1.out; have := hk4.size; omega)
              clear hr4 hk4 hg
              go_wp2_with fail
              exact ⟨⟨HSz4.out, HBl4.out, HRes4.out, HFl4.out, .inl ⟨rfl, _, 8, _, by decide, HR4.out⟩⟩, by rw [msr_no, msr_yes HGo.out.rd]; omega⟩
            · have hgt : decide (z < b.count) = false := decide_eq_false hbig
              have k2 : w3.cell? ⟨g3, 2, none⟩ = some (.slice A 0 cp) := (blk_cell HCr3.out 2).trans rfl
              obtain ⟨i1, hi1, hz1, hs1, hy1⟩ := info_parts (P := Tryz.prog) (e := 58) (z := .agg #[.int .i64 0, .int .u32 0, .string ⟨#[]⟩]) (size := 3) (bytes := 32) (by kernel_rfl)
              obtain ⟨i2, hi2, hz2, hs2, hy2⟩ := info_parts (P := Tryz.prog) (e := 3) (z := .int .i64 0) (size := 1) (bytes := 8) (by kernel_rfl)
              have HOb4 : Hid ((w3.alloc (.cells #[.int .i64 b.count, .int .u32 b.sum, .string b.pay] 58)).ownsRow (g4 + 1) 58 3 (.slice A 0 cp) 0 (rowOf l)) := Lib.hid (Kp.own (F := fun _ => False) ((Kp.refl _ _).alloc _) HOb3.out (fun _ _ h => h))
              have HNew4 := Lib.hid (blk_new w3 (.cells #[.int .i64 b.count, .int .u32 b.sum, .string b.pay] 58))
              have hone1 : ∀ u ∈ ([.int .i64 b.count, .int .u32 b.sum, .string b.pay] : List Value), u.oneCell' = true := by
                intro u hu
                simp only [List.mem_cons, List.not_mem_nil, or_false] at hu
                rcases hu with rfl | rfl | rfl <;> rfl
              have HH3 : Hid (Held w N g2 g3 g4 B1 s a c z (tot l).n (tot l).sc (tot l).by_ b l 0 0 (.slice A 0 cp) u8 pl w3) := Lib.hid ⟨HRd3.out, HRes3.out, HFl3.out, HCr3.out, HTt3.out, HBk3.out, HOb3.out, HOp3.out, HGo.out.ne, HBl3.out, HSz3.out⟩
              have hone2 : ∀ u ∈ ([.int .i64 (a : Int)] : List Value), u.oneCell' = true := by
                intro u hu
                simp only [List.mem_cons, List.not_mem_nil, or_false] at hu
                subst hu
                rfl
              clear HRd3 HRes3 HFl3 HCr3 HTt3 HBk3 HOb3 HOp3 HBl3 HSz3
              go_wp2_with (first
                | (at_builtin; (refine wpList_append_lies _ rfl _ _ 51 rfl (g4 + 1) 58 i1 _ 3 32 Tryz.underlying51 hi1 hz1 hs1 hy1 rfl (by decide) (.slice A 0 cp) 0 (rowOf l) rfl HOb4.out ⟨w3.heap.size, 0, none⟩ 1 1 [.int .i64 b.count, .int .u32 b.sum, .string b.pay] rfl rfl (World.news_of_block HNew4.out) hone1 (by decide) (by unfold maxLen; omega) (by omega) (by have := HSz1.out; have := HH3.out.sz; simp; omega) _ rfl ?_); intro g1 cap1 w4 ho4 hg4 hb4 hl4; obtain ⟨k9, f9, hh⟩ := app1 HN.out rfl HSz1.out HG.out HAB.out HVB.out HH3.out ho4 hg4 hb4; have HH5 := Lib.hid hh; clear ho4 hg4 hb4 hl4 hh k1 k2 b0 b1 b2; have a9 := (blk_cell HH5.out.rd 1).trans rfl; have HOp5 := Lib.hid (Kp.own (F := fun _ => False) ((Kp.refl _ _).alloc (.cells #[.int .i64 (a : Int)] 3)) HH5.out.op (fun _ _ h => h)); have hnw := blk_new (w4.setCell ⟨g3, 2, none⟩ (.slice (some ⟨g1, 0, none⟩) 1 cap1)) (.cells #[.int .i64 (a : Int)] 3); have hz4 : (w4.setCell ⟨g3, 2, none⟩ (.slice (some ⟨g1, 0, none⟩) 1 cap1)).heap.size = w4.heap.size := (by simp [World.setCell]); rw [hz4] at hnw; have HNew5 := Lib.hid hnw; clear hnw)
                | (at_builtin; go_must (refine wpList_append_lies _ rfl _ _ 34 rfl (g4 + 1) 3 i2 (.int .i64 0) 1 8 Tryz.underlying34 hi2 hz2 hs2 hy2 rfl (by decide) u8 0 pl rfl HOp5.out ⟨w4.heap.size, 0, none⟩ 1 1 [.int .i64 (a : Int)] rfl rfl (World.news_of_block HNew5.out) hone2 (by decide) (by unfold maxLen; omega) (by omega) (by have := HSz1.out; have h9 := HH5.out.sz; rw [hz4] at h9; simp; omega) _ rfl ?_); intro g5 cap5 w6 ho6 hg6 hb6 hl6; have HH6 := Lib.hid (app2 rfl HSz1.out HG.out HVB.out HH5.out ho6 hg6 hb6); clear ho6 hg6 hb6 hl6; have b0 : w6.cell? ⟨B1, 0, none⟩ = some (.int .i64 b.count) := (blk_cell HH6.out.bk 0).trans rfl; have b1 : w6.cell? ⟨B1, 1, none⟩ = some (.int .u32 b.sum) := (blk_cell HH6.out.bk 1).trans rfl; have b2 : w6.cell? ⟨B1, 2, none⟩ = some (.string b.pay) := (blk_cell HH6.out.bk 2).trans rfl)
                | (fail))
              clear b0 b1 b2 HH3 HH5 HOp5 HNew5 HOb4 HNew4
              refine (tadd2_any b.count b.sum b.pay (by have := HOk.out.1; omega) HOk.out.2.1 HOk.out.2.2.2.2 HH6.out.tt).mono ?_
              rintro en w7 ⟨rfl, ht7, hk7⟩
              have HT7 := Lib.hid ht7
              have HK7 := Lib.hid hk7
              have c7 : w7.cell? ⟨g2, 1, none⟩ = some (.int .i64 (a : Int)) := (blk_cell (hk7.blk HH6.out.rd (by have := HG.out; omega)) 1).trans rfl
              have f7 := blk_frozen (hk7.blk HH6.out.rd (by have := HG.out; omega)) 1
              clear ht7 hk7
              go_wp2_with fail
              clear c7 f7
              exact fin_round HSz1.out HG.out HH6.out (by rw [List.length_append, HN.out]; rfl) HT7.out HK7.out HNx.out HTx.out HGo.out.txt HGo.out.ok HOk.out HGo.out.hz HGo.out.hl HGo.out.rd
          · have HOL := Lib.hid (owns_last HOb2.out HN.out)
            obtain ⟨gA, xA, rfl, hcA⟩ := HOL.out
            clear HOL
            go_wp2_with fail
            clear b0 b1 b2 e0 e1
            have cA := hcA _ rfl
            clear hcA
            generalize ((w1.alloc (.cells #[.int .i64 b.count, .int .u32 b.sum, .string b.pay] 58)).alloc (.cells #[.int .i64 0, .int .i64 f] 27)) = w2 at *
            generalize hB1 : w1.heap.size = B1 at *
            clear hB1
            go_quiet (fail)
            rename_i nq
            have hkq : Kp (fun _ => False) w2 (w2.drewN nq) := (Kp.refl _ _).drewN nq
            have HRd3 := Lib.hid (hkq.blk HRd2.out (fun h => h))
            have HRes3 := Lib.hid (hkq.blk HRes2.out (fun h => h))
            have HFl3 := Lib.hid (hkq.blk HFl2.out (fun h => h))
            have HCr3 := Lib.hid (hkq.blk HCr2.out (fun h => h))
            have HTt3 := Lib.hid (hkq.blk HTt2.out (fun h => h))
            have HBk3 := Lib.hid (hkq.blk HBk2.out (fun h => h))
            have HOb3 := Lib.hid (hkq.own HOb2.out (fun _ _ h => h))
            have HOp3 := Lib.hid (hkq.own HOp2.out (fun _ _ h => h))
            have HBl3 := Lib.hid (HBl2.out.trans (hkq.below (B := N) (by have := HSz1.out; have := HSz2.out; have := HG.out; omega) (fun _ h => h.elim)))
            have HSz3 : Hid (B1 + 2 ≤ (w2.drewN nq).heap.size) := Lib.hid (by have := HSz2.out; have := hkq.size; omega)
            clear hkq k1 k2 HRd2 HRes2 HFl2 HCr2 HTt2 HBk2 HOb2 HOp2 HBl2 HSz2
            generalize w2.drewN nq = w3 at *
            by_cases hxA : xA < z
            · have hxl : decide (xA < z) = true := decide_eq_true hxA
              have c1 : w3.cell? ⟨g2, 1, none⟩ = some (.int .i64 (a : Int)) := (blk_cell HRd3.out 1).trans rfl
              go_wp2_with fail
              clear c1
              refine (wrong_any 8 (a + 1) HRd3.out).mono ?_
              rintro en w4 ⟨rfl, hr4, hk4⟩
              have HR4 := Lib.hid hr4
              have hg := HG.out
              have HRes4 := Lib.hid (hk4.blk HRes3.out (by omega))
              have HFl4 := Lib.hid (hk4.blk HFl3.out (by omega))
              have HBl4 := Lib.hid (HBl3.out.trans (hk4.below (B := N) (by have := HSz3.out; have := HSz1.out; omega) (fun k hk => by omega)))
              have HSz4 : Hid (g4 + 1 ≤ w4.heap.size) := Lib.hid (by have := HSz3.out; have := HSz1.out; have := hk4.size; omega)
              clear hr4 hk4 hg
              go_wp2_with fail
              exact ⟨⟨HSz4.out, HBl4.out, HRes4.out, HFl4.out, .inl ⟨rfl, _, 8, _, by decide, HR4.out⟩⟩, by rw [msr_no, msr_yes HGo.out.rd]; omega⟩
            · have hxl : decide (xA < z) = false := decide_eq_false hxA
              have k1 : w3.cell? ⟨g3, 1, none⟩ = some (.int .i64 z) := (blk_cell HCr3.out 1).trans rfl
              have b0 : w3.cell? ⟨B1, 0, none⟩ = some (.int .i64 b.count) := (blk_cell HBk3.out 0).trans rfl
              have b1 : w3.cell? ⟨B1, 1, none⟩ = some (.int .u32 b.sum) := (blk_cell HBk3.out 1).trans rfl
              have b2 : w3.cell? ⟨B1, 2, none⟩ = some (.string b.pay) := (blk_cell HBk3.out 2).trans rfl
              by_cases hbig : z < b.count
              · have hgt : decide (z < b.count) = true := decide_eq_true hbig
                have c1 : w3.cell? ⟨g2, 1, none⟩ = some (.int .i64 (a : Int)) := (blk_cell HRd3.out 1).trans rfl
                go_wp2_with fail
                clear c1 hgt
                refine (wrong_any 8 (a + 1) HRd3.out).mono ?_
                rintro en w4 ⟨rfl, hr4, hk4⟩
                have HR4 := Lib.hid hr4
                have hg := HG.out
                have HRes4 := Lib.hid (hk4.blk HRes3.out (by omega))
                have HFl4 := Lib.hid (hk4.blk HFl3.out (by omega))
                have HBl4 := Lib.hid (HBl3.out.trans (hk4.below (B := N) (by have := HSz3.out; have := HSz1.out; omega) (fun k hk => by omega)))
                have HSz4 : Hid (g4 + 1 ≤ w4.heap.size) := Lib.hid (by have := HSz3.out; have := HSz1.out; have := hk4.size; omega)
                clear hr4 hk4 hg
                go_wp2_with fail
                exact ⟨⟨HSz4.out, HBl4.out, HRes4.out, HFl4.out, .inl ⟨rfl, _, 8, _, by decide, HR4.out⟩⟩, by rw [msr_no, msr_yes HGo.out.rd]; omega⟩
              · have hgt : decide (z < b.count) = false := decide_eq_false hbig
                have k2 : w3.cell? ⟨g3, 2, none⟩ = some (.slice (some ⟨gA, 0, none⟩) (n + 1) cp) := (blk_cell HCr3.out 2).trans rfl
                obtain ⟨i1, hi1, hz1, hs1, hy1⟩ := info_parts (P := Tryz.prog) (e := 58) (z := .agg #[.int .i64 0, .int .u32 0, .string ⟨#[]⟩]) (size := 3) (bytes := 32) (by kernel_rfl)
                obtain ⟨i2, hi2, hz2, hs2, hy2⟩ := info_parts (P := Tryz.prog) (e := 3) (z := .int .i64 0) (size := 1) (bytes := 8) (by kernel_rfl)
                have HOb4 : Hid ((w3.alloc (.cells #[.int .i64 b.count, .int .u32 b.sum, .string b.pay] 58)).ownsRow (g4 + 1) 58 3 (.slice (some ⟨gA, 0, none⟩) (n + 1) cp) (n + 1) (rowOf l)) := Lib.hid (Kp.own (F := fun _ => False) ((Kp.refl _ _).alloc _) HOb3.out (fun _ _ h => h))
                have HNew4 := Lib.hid (blk_new w3 (.cells #[.int .i64 b.count, .int .u32 b.sum, .string b.pay] 58))
                have hone1 : ∀ u ∈ ([.int .i64 b.count, .int .u32 b.sum, .string b.pay] : List Value), u.oneCell' = true := by
                  intro u hu
                  simp only [List.mem_cons, List.not_mem_nil, or_false] at hu
                  rcases hu with rfl | rfl | rfl <;> rfl
                have HH3 : Hid (Held w N g2 g3 g4 B1 s a c z (tot l).n (tot l).sc (tot l).by_ b l (n + 1) (n + 1) (.slice (some ⟨gA, 0, none⟩) (n + 1) cp) u8 pl w3) := Lib.hid ⟨HRd3.out, HRes3.out, HFl3.out, HCr3.out, HTt3.out, HBk3.out, HOb3.out, HOp3.out, HGo.out.ne, HBl3.out, HSz3.out⟩
                have hone2 : ∀ u ∈ ([.int .i64 (a : Int)] : List Value), u.oneCell' = true := by
                  intro u hu
                  simp only [List.mem_cons, List.not_mem_nil, or_false] at hu
                  subst hu
                  rfl
                clear HRd3 HRes3 HFl3 HCr3 HTt3 HBk3 HOb3 HOp3 HBl3 HSz3
                go_wp2_with (first
                  | (at_builtin; (refine wpList_append_lies _ rfl _ _ 51 rfl (g4 + 1) 58 i1 _ 3 32 Tryz.underlying51 hi1 hz1 hs1 hy1 rfl (by decide) (.slice (some ⟨gA, 0, none⟩) (n + 1) cp) (n + 1) (rowOf l) rfl HOb4.out ⟨w3.heap.size, 0, none⟩ 1 1 [.int .i64 b.count, .int .u32 b.sum, .string b.pay] rfl rfl (World.news_of_block HNew4.out) hone1 (by decide) (by unfold maxLen; omega) (by omega) (by have := HSz1.out; have := HH3.out.sz; simp; omega) _ rfl ?_); intro g1 cap1 w4 ho4 hg4 hb4 hl4; obtain ⟨k9, f9, hh⟩ := app1 HN.out rfl HSz1.out HG.out HAB.out HVB.out HH3.out ho4 hg4 hb4; have HH5 := Lib.hid hh; clear ho4 hg4 hb4 hl4 hh k1 k2 b0 b1 b2; have a9 := (blk_cell HH5.out.rd 1).trans rfl; have HOp5 := Lib.hid (Kp.own (F := fun _ => False) ((Kp.refl _ _).alloc (.cells #[.int .i64 (a : Int)] 3)) HH5.out.op (fun _ _ h => h)); have hnw := blk_new (w4.setCell ⟨g3, 2, none⟩ (.slice (some ⟨g1, 0, none⟩) (n + 1 + 1) cap1)) (.cells #[.int .i64 (a : Int)] 3); have hz4 : (w4.setCell ⟨g3, 2, none⟩ (.slice (some ⟨g1, 0, none⟩) (n + 1 + 1) cap1)).heap.size = w4.heap.size := (by simp [World.setCell]); rw [hz4] at hnw; have HNew5 := Lib.hid hnw; clear hnw)
                  | (at_builtin; go_must (refine wpList_append_lies _ rfl _ _ 34 rfl (g4 + 1) 3 i2 (.int .i64 0) 1 8 Tryz.underlying34 hi2 hz2 hs2 hy2 rfl (by decide) u8 (n + 1) pl rfl HOp5.out ⟨w4.heap.size, 0, none⟩ 1 1 [.int .i64 (a : Int)] rfl rfl (World.news_of_block HNew5.out) hone2 (by decide) (by unfold maxLen; omega) (by omega) (by have := HSz1.out; have h9 := HH5.out.sz; rw [hz4] at h9; simp; omega) _ rfl ?_); intro g5 cap5 w6 ho6 hg6 hb6 hl6; have HH6 := Lib.hid (app2 rfl HSz1.out HG.out HVB.out HH5.out ho6 hg6 hb6); clear ho6 hg6 hb6 hl6; have b0 : w6.cell? ⟨B1, 0, none⟩ = some (.int .i64 b.count) := (blk_cell HH6.out.bk 0).trans rfl; have b1 : w6.cell? ⟨B1, 1, none⟩ = some (.int .u32 b.sum) := (blk_cell HH6.out.bk 1).trans rfl; have b2 : w6.cell? ⟨B1, 2, none⟩ = some (.string b.pay) := (blk_cell HH6.out.bk 2).trans rfl)
                  | (fail))
                clear b0 b1 b2 HH3 HH5 HOp5 HNew5 HOb4 HNew4
                refine (tadd2_any b.count b.sum b.pay (by have := HOk.out.1; omega) HOk.out.2.1 HOk.out.2.2.2.2 HH6.out.tt).mono ?_
                rintro en w7 ⟨rfl, ht7, hk7⟩
                have HT7 := Lib.hid ht7
                have HK7 := Lib.hid hk7
                have c7 : w7.cell? ⟨g2, 1, none⟩ = some (.int .i64 (a : Int)) := (blk_cell (hk7.blk HH6.out.rd (by have := HG.out; omega)) 1).trans rfl
                have f7 := blk_frozen (hk7.blk HH6.out.rd (by have := HG.out; omega)) 1
                clear ht7 hk7
                go_wp2_with fail
                clear c7 f7
                exact fin_round HSz1.out HG.out HH6.out (by rw [List.length_append, HN.out]; rfl) HT7.out HK7.out HNx.out HTx.out HGo.out.txt HGo.out.ok HOk.out HGo.out.hz HGo.out.hl HGo.out.rd
        · have heb : (e != 0) = true := bne_iff_ne.mpr he
          go_wp2_with fail
          clear k1 k2 b0 b1 b2 e0 e1
          generalize ((w1.alloc (.cells #[.int .i64 b.count, .int .u32 b.sum, .string b.pay] 58)).alloc (.cells #[.int .i64 e, .int .i64 f] 27)) = w2 at *
          refine (wrong_any e f HRd2.out).mono ?_
          rintro en w3 ⟨rfl, hr3, hk3⟩
          have HR3 := Lib.hid hr3
          have hg := HG.out
          have HRes3 := Lib.hid (hk3.blk HRes2.out (by omega))
          have HFl3 := Lib.hid (hk3.blk HFl2.out (by omega))
          have HBl3 := Lib.hid (HBl2.out.trans (hk3.below (B := N) (by have := HSz2.out; have := HSz1.out; omega) (fun k hk => by omega)))
          have HSz3 : Hid (g4 + 1 ≤ w3.heap.size) := Lib.hid (by have := HSz2.out; have := HSz1.out; have := hk3.size; omega)
          clear hr3 hk3 hg HRes2 HFl2 HBl2 HRd2
          go_wp2_with fail
          exact ⟨⟨HSz3.out, HBl3.out, HRes3.out, HFl3.out, .inl ⟨rfl, _, e, f, he, HR3.out⟩⟩, by rw [msr_no, msr_yes HGo.out.rd]; omega⟩
end Go.Proofs.YtcgoofefiiihnaaGreat
namespace Go.Proofs.YtcgoofefiiihnaaGreat
open Go.RowKit Go.Proofs.YtcgoofefiiihnaaGreatW.PrintWords Go.Proofs.YtcgoofefiiihnaaGreatW.PrintMore
set_option linter.unusedVariables false
set_option linter.unusedSimpArgs false
set_option maxRecDepth 20000
theorem results_cc {P : Program} {fn : Func} {p p' : Tmp} {ty ty' : TypeId} (h : fn.results = #[.cell p ty, .cell p' ty']) (tmps : Array Value) (w : World) (g g' : Nat) (t t' : TypeId) (cs cs' : Array Value) (fr fr' : Nat × Nat) (d d' : TypeDesc)
    (hp : tmps.getD p undef = .pointer (some ⟨g, 0, none⟩)) (hg : w.heap[g]? = some (.cells cs t fr))
    (hu : P.underlying ty = some d) (hd : (match d with | .struct _ | .array _ _ => true | _ => false) = true) (hi : (P.info? ty).map (·.size) = some cs.size)
    (hp' : tmps.getD p' undef = .pointer (some ⟨g', 0, none⟩)) (hg' : w.heap[g']? = some (.cells cs' t' fr'))
    (hu' : P.underlying ty' = some d') (hd' : (match d' with | .struct _ | .array _ _ => true | _ => false) = true) (hi' : (P.info? ty').map (·.size) = some cs'.size) :
    (results fn tmps).run P w = .ok (.tuple #[.agg cs, .agg cs']) w := by
  have h1 : tmps[p]?.getD undef = .pointer (some ⟨g, 0, none⟩) := by simpa using hp
  have h2 : tmps[p']?.getD undef = .pointer (some ⟨g', 0, none⟩) := by simpa using hp'
  simp [results, h, h1, h2, asAddr, run_loadVar_row w g t ty cs fr d hg hu hd hi, run_loadVar_row w g' t' ty' cs' fr' d' hg' hu' hd' hi']
def ParsePost (w : World) (s : ByteArray) (en : Ending) (w' : World) : Prop :=
  Below w.heap.size w w' ∧ ∃ (c z e f : Int) (A : Option Addr) (n cp : Nat), en = .returned (.tuple #[.agg #[.int .i64 c, .int .i64 z, .slice A n cp], .agg #[.int .i64 e, .int .i64 f]]) ∧
    (e ≠ 0 ∨ (e = 0 ∧ ∃ l, IsCrate s c z l ∧ l.length ≤ s.size ∧ n = l.length ∧ w'.ownsRow w.heap.size 58 3 (.slice A n cp) n (rowOf l)))
set_option maxHeartbeats 8000000 in
theorem parse_any {w : World} {s : ByteArray} (hs : s.size ≤ 100000) : Calls Tryz.prog 22 #[.string s] w (ParsePost w s) := by
  go_enter Tryz.func22, Tryz.ntmps22
  go_wp2_with fail
  obtain ⟨hres, hfl, hsz⟩ := two_new w (.cells #[.int .i64 0, .int .i64 0, .slice none 0 0] 53) (.cells #[.int .i64 0, .int .i64 0] 27)
  have hk : Kp (fun _ => False) w ((w.alloc (.cells #[.int .i64 0, .int .i64 0, .slice none 0 0] 53)).alloc (.cells #[.int .i64 0, .int .i64 0] 27)) := ((Kp.refl _ _).alloc _).alloc _
  have hbl := hk.below (Nat.le_refl _) (fun _ h => h.elim)
  generalize (w.alloc (.cells #[.int .i64 0, .int .i64 0, .slice none 0 0] 53)).alloc (.cells #[.int .i64 0, .int .i64 0] 27) = w0 at *
  generalize hN : w.heap.size = N at *
  have HN := Lib.hid hN
  clear hN hk
  refine (cread_any hs).mono ?_
  rintro en w1 ⟨hb, c, z, e, f, A, n, cp, pv, rfl, hq⟩
  have HQ := Lib.hid hq
  obtain ⟨hc2, hf2, hz2⟩ := two_new w1 (.cells #[.int .i64 c, .int .i64 z, .slice A n cp] 53) (.cells #[.int .i64 e, .int .i64 f] 27)
  have hk2 : Kp (fun _ => False) w1 ((w1.alloc (.cells #[.int .i64 c, .int .i64 z, .slice A n cp] 53)).alloc (.cells #[.int .i64 e, .int .i64 f] 27)) := ((Kp.refl _ _).alloc _).alloc _
  have HK2 := Lib.hid hk2
  have HC2 := Lib.hid hc2
  have HF2 := Lib.hid hf2
  have HRes2 := Lib.hid (hk2.blk (blk_below hres hb) (fun h => h))
  have HFl2 := Lib.hid (hk2.blk (blk_below hfl hb) (fun h => h))
  have HBl2 := Lib.hid ((hbl.trans (hb.mono (by omega))).trans (hk2.below (B := N) (by have := hb.size; omega) (fun _ h => h.elim)))
  have HSz := Lib.hid hsz
  have HSz1 : Hid (N + 2 ≤ w1.heap.size) := Lib.hid (by have := hb.size; omega)
  clear hres hfl hsz hbl hb hq hc2 hf2 hz2 hk2
  go_wp2_with fail
  generalize (w1.alloc (.cells #[.int .i64 c, .int .i64 z, .slice A n cp] 53)).alloc (.cells #[.int .i64 e, .int .i64 f] 27) = wr at *
  generalize hB : w1.heap.size = B at *
  clear hB
  have y0 : wr.cell? ⟨B, 0, none⟩ = some (.int .i64 c) := (blk_cell HC2.out 0).trans rfl
  have y1 : wr.cell? ⟨B, 1, none⟩ = some (.int .i64 z) := (blk_cell HC2.out 1).trans rfl
  have y2 : wr.cell? ⟨B, 2, none⟩ = some (.slice A n cp) := (blk_cell HC2.out 2).trans rfl
  have y0d : wr.drew.cell? ⟨B, 0, none⟩ = some (.int .i64 c) := y0
  have y1d : wr.drew.cell? ⟨B, 1, none⟩ = some (.int .i64 z) := y1
  have y2d : wr.drew.cell? ⟨B, 2, none⟩ = some (.slice A n cp) := y2
  have x2 : wr.cell? ⟨B + 1, 0, none⟩ = some (.int .i64 e) := (blk_cell HF2.out 0).trans rfl
  have x3 : wr.cell? ⟨B + 1, 1, none⟩ = some (.int .i64 f) := (blk_cell HF2.out 1).trans rfl
  have x2d : wr.drew.cell? ⟨B + 1, 0, none⟩ = some (.int .i64 e) := x2
  have x3d : wr.drew.cell? ⟨B + 1, 1, none⟩ = some (.int .i64 f) := x3
  have q0 : wr.cell? ⟨N, 0, none⟩ = some (.int .i64 0) := (blk_cell HRes2.out 0).trans rfl
  have q1 : wr.cell? ⟨N, 1, none⟩ = some (.int .i64 0) := (blk_cell HRes2.out 1).trans rfl
  have q2 : wr.cell? ⟨N, 2, none⟩ = some (.slice none 0 0) := (blk_cell HRes2.out 2).trans rfl
  have p0 : wr.cell? ⟨N + 1, 0, none⟩ = some (.int .i64 0) := (blk_cell HFl2.out 0).trans rfl
  have p1 : wr.cell? ⟨N + 1, 1, none⟩ = some (.int .i64 0) := (blk_cell HFl2.out 1).trans rfl
  have r0 := blk_frozen HRes2.out 0
  have r1 := blk_frozen HRes2.out 1
  have r2 := blk_frozen HRes2.out 2
  have r3 := blk_frozen HFl2.out 0
  have r4 := blk_frozen HFl2.out 1
  have q0d : wr.drew.cell? ⟨N, 0, none⟩ = some (.int .i64 0) := q0
  have q1d : wr.drew.cell? ⟨N, 1, none⟩ = some (.int .i64 0) := q1
  have q2d : wr.drew.cell? ⟨N, 2, none⟩ = some (.slice none 0 0) := q2
  have p0d : wr.drew.cell? ⟨N + 1, 0, none⟩ = some (.int .i64 0) := p0
  have p1d : wr.drew.cell? ⟨N + 1, 1, none⟩ = some (.int .i64 0) := p1
  have r0d : wr.drew.frozen? ⟨N, 0, none⟩ = false := r0
  have r1d : wr.drew.frozen? ⟨N, 1, none⟩ = false := r1
  have r2d : wr.drew.frozen? ⟨N, 2, none⟩ = false := r2
  have r3d : wr.drew.frozen? ⟨N + 1, 0, none⟩ = false := r3
  have r4d : wr.drew.frozen? ⟨N + 1, 1, none⟩ = false := r4
  have hX : Kp (fun k => k = N) wr (((wr.setCell ⟨N, 0, none⟩ (.int .i64 c)).setCell ⟨N, 1, none⟩ (.int .i64 z)).setCell ⟨N, 2, none⟩ (.slice A n cp)) := (((Kp.refl _ _).setg _ _).setg _ _).setg _ _
  have hXf := hX.blk HF2.out (by have := HSz1.out; omega)
  have x2s : (((wr.setCell ⟨N, 0, none⟩ (.int .i64 c)).setCell ⟨N, 1, none⟩ (.int .i64 z)).setCell ⟨N, 2, none⟩ (.slice A n cp)).drew.cell? ⟨B + 1, 0, none⟩ = some (.int .i64 e) := (blk_cell hXf 0).trans rfl
  have x3s : (((wr.setCell ⟨N, 0, none⟩ (.int .i64 c)).setCell ⟨N, 1, none⟩ (.int .i64 z)).setCell ⟨N, 2, none⟩ (.slice A n cp)).drew.cell? ⟨B + 1, 1, none⟩ = some (.int .i64 f) := (blk_cell hXf 1).trans rfl
  clear hX hXf
  have n0 : (B = N) = False := eq_false (by have := HSz1.out; omega)
  have n1 : (B = N + 1) = False := eq_false (by have := HSz1.out; omega)
  go_region
  go_wp2_with fail
  clear x2 x3 x2d x3d x2s x3s q0 q1 q2 p0 p1 r0 r1 r2 r3 r4 q0d q1d q2d p0d p1d r0d r1d r2d r3d r4d n0 n1 y0 y1 y2 y0d y1d y2d
  obtain ⟨z1, z2, z3⟩ := two_set (x0 := .int .i64 c) (x1 := .int .i64 z) (x2 := .slice A n cp) (y0 := .int .i64 e) (y1 := .int .i64 f) HRes2.out HFl2.out HBl2.out
  (try simp only [Exit.inBlock, Exit.then])
  refine bodyPost_ret (results_cc rfl _ _ N (N + 1) 53 27 #[.int .i64 c, .int .i64 z, .slice A n cp] #[.int .i64 e, .int .i64 f] (0, 0) (0, 0) _ _ rfl z1 Tryz.underlying53 rfl (by kernel_rfl) rfl z2 Tryz.underlying27 rfl (by kernel_rfl)) rfl ?_
  unfold ParsePost
  rw [HN.out]
  refine ⟨z3.drew, c, z, e, f, A, n, cp, rfl, ?_⟩
  rcases HQ.out with h | ⟨h0, l, hl1, hl2, hl3, hl4⟩
  · exact .inl h
  · have h9 := HSz.out
    have ho : (((((wr.setCell ⟨N, 0, none⟩ (.int .i64 c)).setCell ⟨N, 1, none⟩ (.int .i64 z)).setCell ⟨N, 2, none⟩ (.slice A n cp)).setCell ⟨N + 1, 0, none⟩ (.int .i64 e)).setCell ⟨N + 1, 1, none⟩ (.int .i64 f)).ownsRow N 58 3 (.slice A n cp) n (rowOf l) :=
      owns_mono (kp_five.own (HK2.out.own hl4 (fun _ _ h => h)) (fun k hk hF => by have := owns_ge hl4 hk; omega)) (by omega)
    exact .inr ⟨h0, l, hl1, hl2, hl3, ho⟩
end Go.Proofs.YtcgoofefiiihnaaGreat
namespace Go.Proofs.YtcgoofefiiihnaaGreat
open Go.RowKit Go.Proofs.YtcgoofefiiihnaaGreatW.PrintWords Go.Proofs.YtcgoofefiiihnaaGreatW.PrintMore
set_option linter.unusedVariables false
set_option linter.unusedSimpArgs false
set_option maxRecDepth 20000
theorem blk_eql (c s : Int) (p : ByteArray) (c' s' : Int) (p' : ByteArray) (W : World) : Sem.run Tryz.prog (binOp BinOp.eql 58 (.agg #[.int .i64 c, .int .u32 s, .string p]) (.agg #[.int .i64 c', .int .u32 s', .string p'])) W = .ok (.bool (c == c' && (s == s' && p.toList == p'.toList))) W := by
  have hf : Tryz.prog.fieldsOf 58 = #[{ name := "Count", type := 3, offset := 0, embedded := false, tag := "", pkgPath := "", byteOffset := 0 }, { name := "Sum", type := 56, offset := 1, embedded := false, tag := "", pkgPath := "", byteOffset := 8 }, { name := "Payload", type := 9, offset := 2, embedded := false, tag := "", pkgPath := "", byteOffset := 16 }] := by kernel_rfl
  rw [run_eql_struct, run_equalIn_agg _ _ _ _ _ (by kernel_rfl) (by kernel_rfl), hf]
  by_cases h1 : c = c' <;> by_cases h2 : s = s' <;> by_cases h3 : p.toList = p'.toList <;> simp [go_sem, Op.eqFields, h1, h2, h3]
theorem owns_cells {w : World} {M T cp n k : Nat} {l : List Bk} {A : Option Addr} (h : w.ownsRow M T 3 (.slice A n cp) n (rowOf l)) (hn : l.length = n) (hk : k < n) :
    ∃ (g : Nat) (b : Bk), A = some ⟨g, 0, none⟩ ∧ l[k]? = some b ∧ w.cell? ⟨g, k * 3, none⟩ = some (.int .i64 b.count) ∧ w.cell? ⟨g, k * 3 + 1, none⟩ = some (.int .u32 b.sum) ∧ w.cell? ⟨g, k * 3 + 2, none⟩ = some (.string b.pay) := by
  rcases h.2 with ⟨_, h0⟩ | ⟨g, cap, cur, hv, hM, hg, h5, h6, h7, h8⟩
  · omega
  · simp only [Value.slice.injEq] at hv
    have hr : ∀ (l : List Bk) (k : Nat) (b : Bk), l[k]? = some b → (rowOf l)[k * 3]? = some (.int .i64 b.count) ∧ (rowOf l)[k * 3 + 1]? = some (.int .u32 b.sum) ∧ (rowOf l)[k * 3 + 2]? = some (.string b.pay) := by
      intro l
      induction l with
      | nil => intro k b h; simp at h
      | cons x l ih =>
        intro k b h
        cases k with
        | zero =>
          simp only [List.getElem?_cons_zero, Option.some.injEq] at h
          subst h
          exact ⟨rfl, rfl, rfl⟩
        | succ k =>
          rw [List.getElem?_cons_succ] at h
          obtain ⟨i1, i2, i3⟩ := ih k b h
          have e : rowOf (x :: l) = [.int .i64 x.count, .int .u32 x.sum, .string x.pay] ++ rowOf l := by simp [rowOf]
          rw [e]
          refine ⟨?_, ?_, ?_⟩
          · rw [List.getElem?_append_right (by simp; omega), ← i1]; congr 1; simp; omega
          · rw [List.getElem?_append_right (by simp; omega), ← i2]; congr 1; simp; omega
          · rw [List.getElem?_append_right (by simp; omega), ← i3]; congr 1; simp; omega
    have hb : l[k]? = some (l[k]'(by omega)) := List.getElem?_eq_getElem (by omega)
    obtain ⟨r1, r2, r3⟩ := hr l k _ hb
    rw [← h8] at r1 r2 r3
    have cl : ∀ (j : Nat) (v : Value), (cur.toList.take (n * 3))[j]? = some v → j < n * 3 → w.cell? ⟨g, j, none⟩ = some v := by
      intro j v hj hlt
      rw [List.getElem?_take, if_pos hlt, Array.getElem?_toList] at hj
      rw [blk_cell hg]
      exact hj
    exact ⟨g, _, hv.1, hb, cl _ _ r1 (by omega), cl _ _ r2 (by omega), cl _ _ r3 (by omega)⟩
set_option maxHeartbeats 8000000 in
theorem topone_great {w : World} (s t : ByteArray) (hg : 1000 < s.size ∨ 1000 < t.size) : Calls Tryz.prog 6 #[.string s, .string t] w fun en w' => en = .returned (.bool true) ∧ Below w.heap.size w w' := by
  go_enter Tryz.func6, Tryz.ntmps6
  go_wp2_with fail
  refine (live_any w).mono ?_
  rintro en w1 ⟨rfl, hb1⟩
  have HB1 := Lib.hid hb1
  clear hb1
  by_cases h1 : 1000 < s.size
  · have l1 : decide ((1000 : Int) < (s.size : Int)) = true := decide_eq_true (by omega)
    clear hg h1
    go_wp2_with fail
    refine (live_any w1).mono ?_
    rintro en w2 ⟨rfl, hb2⟩
    have HB2 := Lib.hid hb2
    clear hb2
    go_wp2_with fail
    go_ret
    exact ⟨rfl, HB1.out.trans (HB2.out.mono HB1.out.size)⟩
  · have l1 : decide ((1000 : Int) < (s.size : Int)) = false := decide_eq_false (by omega)
    have l2 : decide ((1000 : Int) < (t.size : Int)) = true := decide_eq_true (by omega)
    clear hg h1
    go_wp2_with fail
    refine (live_any w1).mono ?_
    rintro en w2 ⟨rfl, hb2⟩
    have HB2 := Lib.hid hb2
    clear hb2
    go_wp2_with fail
    go_ret
    exact ⟨rfl, HB1.out.trans (HB2.out.mono HB1.out.size)⟩
theorem rq_meas {n k : Nat} {x : Int} (h : k < n) (hx : x = (k : Int) + 1) : n - (intOf (.int .i64 x)).toNat < n - (intOf (.int .i64 (k : Int))).toNat := by
  subst hx
  simp only [intOf]
  omega
set_option maxHeartbeats 8000000 in
theorem topone_small {w : World} (s t : ByteArray) (hs : s.size ≤ 1000) (ht : t.size ≤ 1000) : Calls Tryz.prog 6 #[.string s, .string t] w fun en w' => en = .returned (.bool true) ∧ Below w.heap.size w w' := by
  go_enter Tryz.func6, Tryz.ntmps6
  go_wp2_with fail
  refine (live_any w).mono ?_
  rintro en w1 ⟨rfl, hb1⟩
  have HB1 := Lib.hid hb1
  clear hb1
  have l1 : decide ((1000 : Int) < (s.size : Int)) = false := decide_eq_false (by omega)
  have l2 : decide ((1000 : Int) < (t.size : Int)) = false := decide_eq_false (by omega)
  go_wp2_with fail
  clear l1 l2
  refine (parse_any (w := w1) (by omega)).mono ?_
  rintro en w2 ⟨hb, c, z, e, f, A, n, cp, rfl, hq⟩
  obtain ⟨hc2, hf2, hz2⟩ := two_new w2 (.cells #[.int .i64 c, .int .i64 z, .slice A n cp] 53) (.cells #[.int .i64 e, .int .i64 f] 27)
  have hk2 : Kp (fun _ => False) w2 ((w2.alloc (.cells #[.int .i64 c, .int .i64 z, .slice A n cp] 53)).alloc (.cells #[.int .i64 e, .int .i64 f] 27)) := ((Kp.refl _ _).alloc _).alloc _
  have HB2 : Hid (Below w.heap.size w ((w2.alloc (.cells #[.int .i64 c, .int .i64 z, .slice A n cp] 53)).alloc (.cells #[.int .i64 e, .int .i64 f] 27))) := Lib.hid ((HB1.out.trans (hb.mono HB1.out.size)).trans (hk2.below (B := w.heap.size) (by have := HB1.out.size; have := hb.size; omega) (fun _ h => h.elim)))
  have HQ : Hid (e ≠ 0 ∨ (e = 0 ∧ ∃ l, IsCrate s c z l ∧ l.length ≤ s.size ∧ n = l.length ∧ ((w2.alloc (.cells #[.int .i64 c, .int .i64 z, .slice A n cp] 53)).alloc (.cells #[.int .i64 e, .int .i64 f] 27)).ownsRow w1.heap.size 58 3 (.slice A n cp) n (rowOf l))) := Lib.hid (hq.imp id (fun ⟨h0, l, h1, h2, h3, h4⟩ => ⟨h0, l, h1, h2, h3, hk2.own h4 (fun _ _ h => h)⟩))
  have HC2 := Lib.hid hc2
  have HF2 := Lib.hid hf2
  clear hb hq hc2 hf2 hz2 hk2 HB1
  go_wp2_with fail
  generalize ((w2.alloc (.cells #[.int .i64 c, .int .i64 z, .slice A n cp] 53)).alloc (.cells #[.int .i64 e, .int .i64 f] 27)) = w3 at *
  generalize w2.heap.size = B at *
  refine (parse_any (w := w3) (by omega)).mono ?_
  rintro en w4 ⟨hb, c1, z1, e1, f1, A1, n1, cp1, rfl, hq⟩
  obtain ⟨hc4, hf4, hz4⟩ := two_new w4 (.cells #[.int .i64 c1, .int .i64 z1, .slice A1 n1 cp1] 53) (.cells #[.int .i64 e1, .int .i64 f1] 27)
  have hk4 : Kp (fun _ => False) w4 ((w4.alloc (.cells #[.int .i64 c1, .int .i64 z1, .slice A1 n1 cp1] 53)).alloc (.cells #[.int .i64 e1, .int .i64 f1] 27)) := ((Kp.refl _ _).alloc _).alloc _
  have hk3 : Kp (fun _ => False) w3 ((w4.alloc (.cells #[.int .i64 c1, .int .i64 z1, .slice A1 n1 cp1] 53)).alloc (.cells #[.int .i64 e1, .int .i64 f1] 27)) := (Kp.of_below hb).tr hk4
  have HB4 : Hid (Below w.heap.size w ((w4.alloc (.cells #[.int .i64 c1, .int .i64 z1, .slice A1 n1 cp1] 53)).alloc (.cells #[.int .i64 e1, .int .i64 f1] 27))) := Lib.hid (HB2.out.trans (hk3.below (B := w.heap.size) HB2.out.size (fun _ h => h.elim)))
  have HQ1 : Hid (e1 ≠ 0 ∨ (e1 = 0 ∧ ∃ l, IsCrate t c1 z1 l ∧ l.length ≤ t.size ∧ n1 = l.length ∧ ((w4.alloc (.cells #[.int .i64 c1, .int .i64 z1, .slice A1 n1 cp1] 53)).alloc (.cells #[.int .i64 e1, .int .i64 f1] 27)).ownsRow w3.heap.size 58 3 (.slice A1 n1 cp1) n1 (rowOf l))) := Lib.hid (hq.imp id (fun ⟨h0, l, h1, h2, h3, h4⟩ => ⟨h0, l, h1, h2, h3, hk4.own h4 (fun _ _ h => h)⟩))
  have HQ0 : Hid (e ≠ 0 ∨ (e = 0 ∧ ∃ l, IsCrate s c z l ∧ l.length ≤ s.size ∧ n = l.length ∧ ((w4.alloc (.cells #[.int .i64 c1, .int .i64 z1, .slice A1 n1 cp1] 53)).alloc (.cells #[.int .i64 e1, .int .i64 f1] 27)).ownsRow w1.heap.size 58 3 (.slice A n cp) n (rowOf l))) := Lib.hid (HQ.out.imp id (fun ⟨h0, l, h1, h2, h3, h4⟩ => ⟨h0, l, h1, h2, h3, hk3.own h4 (fun _ _ h => h)⟩))
  have HC4 := Lib.hid (hk3.blk HC2.out (fun h => h))
  have HF4 := Lib.hid (hk3.blk HF2.out (fun h => h))
  have HC5 := Lib.hid hc4
  have HF5 := Lib.hid hf4
  clear hb hq hc4 hf4 hz4 hk4 hk3 HB2 HQ HC2 HF2
  have c0 : ((w4.alloc (.cells #[.int .i64 c1, .int .i64 z1, .slice A1 n1 cp1] 53)).alloc (.cells #[.int .i64 e1, .int .i64 f1] 27)).cell? ⟨B, 0, none⟩ = some (.int .i64 c) := (blk_cell HC4.out 0).trans rfl
  have c2 : ((w4.alloc (.cells #[.int .i64 c1, .int .i64 z1, .slice A1 n1 cp1] 53)).alloc (.cells #[.int .i64 e1, .int .i64 f1] 27)).cell? ⟨B, 1, none⟩ = some (.int .i64 z) := (blk_cell HC4.out 1).trans rfl
  have c3 : ((w4.alloc (.cells #[.int .i64 c1, .int .i64 z1, .slice A1 n1 cp1] 53)).alloc (.cells #[.int .i64 e1, .int .i64 f1] 27)).cell? ⟨B, 2, none⟩ = some (.slice A n cp) := (blk_cell HC4.out 2).trans rfl
  have x0 : ((w4.alloc (.cells #[.int .i64 c1, .int .i64 z1, .slice A1 n1 cp1] 53)).alloc (.cells #[.int .i64 e1, .int .i64 f1] 27)).cell? ⟨B + 1, 0, none⟩ = some (.int .i64 e) := (blk_cell HF4.out 0).trans rfl
  have d0 : ((w4.alloc (.cells #[.int .i64 c1, .int .i64 z1, .slice A1 n1 cp1] 53)).alloc (.cells #[.int .i64 e1, .int .i64 f1] 27)).cell? ⟨w4.heap.size, 0, none⟩ = some (.int .i64 c1) := (blk_cell HC5.out 0).trans rfl
  have d2 : ((w4.alloc (.cells #[.int .i64 c1, .int .i64 z1, .slice A1 n1 cp1] 53)).alloc (.cells #[.int .i64 e1, .int .i64 f1] 27)).cell? ⟨w4.heap.size, 1, none⟩ = some (.int .i64 z1) := (blk_cell HC5.out 1).trans rfl
  have d3 : ((w4.alloc (.cells #[.int .i64 c1, .int .i64 z1, .slice A1 n1 cp1] 53)).alloc (.cells #[.int .i64 e1, .int .i64 f1] 27)).cell? ⟨w4.heap.size, 2, none⟩ = some (.slice A1 n1 cp1) := (blk_cell HC5.out 2).trans rfl
  have x1 : ((w4.alloc (.cells #[.int .i64 c1, .int .i64 z1, .slice A1 n1 cp1] 53)).alloc (.cells #[.int .i64 e1, .int .i64 f1] 27)).cell? ⟨w4.heap.size + 1, 0, none⟩ = some (.int .i64 e1) := (blk_cell HF5.out 0).trans rfl
  by_cases he : e = 0
  · by_cases he1 : e1 = 0
    · subst he he1
      obtain ⟨l, hl1, hl2, hl3, hl4⟩ : ∃ l, IsCrate s c z l ∧ l.length ≤ s.size ∧ n = l.length ∧ ((w4.alloc (.cells #[.int .i64 c1, .int .i64 z1, .slice A1 n1 cp1] 53)).alloc (.cells #[.int .i64 0, .int .i64 f1] 27)).ownsRow w1.heap.size 58 3 (.slice A n cp) n (rowOf l) := by
        rcases HQ0.out with h | h
        · exact absurd rfl h
        · exact h.2
      obtain ⟨l', hm1, hm2, hm3, hm4⟩ : ∃ l, IsCrate t c1 z1 l ∧ l.length ≤ t.size ∧ n1 = l.length ∧ ((w4.alloc (.cells #[.int .i64 c1, .int .i64 z1, .slice A1 n1 cp1] 53)).alloc (.cells #[.int .i64 0, .int .i64 f1] 27)).ownsRow w3.heap.size 58 3 (.slice A1 n1 cp1) n1 (rowOf l) := by
        rcases HQ1.out with h | h
        · exact absurd rfl h
        · exact h.2
      have HI := Lib.hid (And.intro hl1 hm1)
      have HL := Lib.hid (And.intro hl3 hm3)
      have HLs := Lib.hid (And.intro hl2 hm2)
      have HOl := Lib.hid hl4
      have HOm := Lib.hid hm4
      clear hl1 hm1 hl2 hm2 hl3 hm3 hl4 hm4 HQ0 HQ1
      by_cases hc : c = c1
      · subst hc
        by_cases hz : z = z1
        · subst hz
          by_cases hn : n = n1
          · subst hn
            go_wp2_with fail
            clear c0 c2 c3 x0 d0 d2 d3 x1
            have HB5 := Lib.hid HB4.out
            generalize ((w4.alloc (.cells #[.int .i64 c, .int .i64 z, .slice A1 n cp1] 53)).alloc (.cells #[.int .i64 0, .int .i64 f1] 27)) = w5 at *
            generalize w4.heap.size = B1 at *
            go_loopw [9, 10] (fun p q wr => ∃ (k : Nat) (r : Bool), p = .bool r ∧ q = .int .i64 k ∧ k ≤ n ∧ Kp (fun _ => False) w5 wr ∧ (r = true → l.take k = l'.take k) ∧ (r = false → l ≠ l')) (fun _ q _ => n - (intOf q).toNat)
            case atStart => exact ⟨0, true, rfl, rfl, by omega, Kp.refl _ _, fun _ => rfl, fun h => by cases h⟩
            case round =>
              obtain ⟨k, r, rfl, rfl, hkn, hkw, ht, hf⟩ := hrel
              have HKw := Lib.hid hkw
              have HB6 := Lib.hid (HB5.out.trans (hkw.below (B := w.heap.size) HB5.out.size (fun _ h => h.elim)))
              have HTk := Lib.hid ht
              have HFk := Lib.hid hf
              have c3 : wr.cell? ⟨B, 2, none⟩ = some (.slice A n cp) := (blk_cell (hkw.blk HC4.out (fun h => h)) 2).trans rfl
              have d3 : wr.cell? ⟨B1, 2, none⟩ = some (.slice A1 n cp1) := (blk_cell (hkw.blk HC5.out (fun h => h)) 2).trans rfl
              clear hkw ht hf
              cases r with
              | false =>
                have hne : s ≠ t := fun h => HFk.out rfl ((crate_inj HI.out.1 HI.out.2).mp h).2.2
                have hs1 : (s.toList == t.toList) = false := beq_eq_false_iff_ne.mpr (fun h => hne (toList_inj h))
                go_wp2_with fail
                go_ret
                exact ⟨rfl, HB6.out⟩
              | true =>
                by_cases hk : k < n
                · have hk1 : decide ((k : Int) < (n : Int)) = true := decide_eq_true (by omega)
                  obtain ⟨gA, bA, rfl, ha1, ha2, ha3, ha4⟩ := owns_cells (HKw.out.own HOl.out (fun _ _ h => h)) HL.out.1.symm hk
                  obtain ⟨gC, bC, rfl, hc1, hc2, hc3, hc4⟩ := owns_cells (HKw.out.own HOm.out (fun _ _ h => h)) HL.out.2.symm hk
                  have hE := fun W => blk_eql bA.count bA.sum bA.pay bC.count bC.sum bC.pay W
                  go_wp2_with fail
                  go_quiet (fail)
                  rename_i nq
                  have HKq : Hid (Kp (fun _ => False) w5 (wr.drewN nq)) := Lib.hid (HKw.out.drewN nq)
                  clear hE c3 d3 ha2 ha3 ha4 hc2 hc3 hc4 hk1
                  have hnx1 : ∀ r : Bool, r = (bA.count == bC.count && (bA.sum == bC.sum && bA.pay.toList == bC.pay.toList)) → (r = true → l.take (k + 1) = l'.take (k + 1)) ∧ (r = false → l ≠ l') := by
                    intro r hr
                    constructor
                    · intro h
                      rw [h] at hr
                      have h9 := hr.symm
                      simp only [Bool.and_eq_true, beq_iff_eq] at h9
                      have e : bA = bC := by
                        obtain ⟨a1, a2, a3⟩ := bA
                        obtain ⟨b1, b2, b3⟩ := bC
                        simp only at h9
                        obtain ⟨h1, h2, h3⟩ := h9
                        rw [h1, h2, toList_inj h3]
                      rw [List.take_add_one, List.take_add_one, HTk.out (by trivial), ha1, hc1, e]
                    · intro h hl
                      have e : bC = bA := by
                        rw [hl, hc1] at ha1
                        exact Option.some.inj ha1
                      rw [h, e] at hr
                      simp only [beq_self_eq_true, Bool.and_self] at hr
                      cases hr
                  generalize hr : (bA.count == bC.count && (bA.sum == bC.sum && bA.pay.toList == bC.pay.toList)) = r at *
                  have HN1 := Lib.hid (hnx1 r rfl)
                  clear hnx1 hr ha1 hc1
                  have HKN := Lib.hid hk
                  clear HTk HFk HB6 HKw hk hkn
                  generalize wr.drewN nq = w6 at *
                  go_wp2_with fail
                  have hwk : wrap64 ((k : Int) + 1) = (k : Int) + 1 := by have := HKN.out; have := HL.out.1; have := HLs.out.1; unfold wrap64; omega
                  exact ⟨⟨k + 1, r, rfl, by simp [hwk], by have := HKN.out; omega, HKq.out, HN1.out.1, HN1.out.2⟩, rq_meas HKN.out hwk⟩
                · have hk1 : decide ((k : Int) < (n : Int)) = false := decide_eq_false (by omega)
                  have hkk : k = n := by omega
                  have hll : l = l' := by
                    have h9 := HTk.out rfl
                    rwa [hkk, List.take_of_length_le (by rw [HL.out.1]; omega), List.take_of_length_le (by rw [HL.out.2]; omega)] at h9
                  have hst : s = t := (crate_inj HI.out.1 HI.out.2).mpr ⟨rfl, rfl, hll⟩
                  have hs1 : (s.toList == t.toList) = true := by rw [hst]; exact beq_self_eq_true _
                  clear hkk hll hst
                  go_wp2_with fail
                  go_ret
                  exact ⟨rfl, HB6.out⟩
          · have hn0 : (n == n1) = false := beq_eq_false_iff_ne.mpr hn
            have hn2 : ((n : Int) == (n1 : Int)) = false := beq_eq_false_iff_ne.mpr (by omega)
            have hne : s ≠ t := fun h => hn (by obtain ⟨_, _, h3⟩ := (crate_inj HI.out.1 HI.out.2).mp h; rw [HL.out.1, HL.out.2, h3])
            have hs1 : (s.toList == t.toList) = false := beq_eq_false_iff_ne.mpr (fun h => hne (toList_inj h))
            go_wp2_with fail
            clear c0 c2 c3 x0 d0 d2 d3 x1
            have HB5 := Lib.hid HB4.out
            generalize ((w4.alloc (.cells #[.int .i64 c, .int .i64 z, .slice A1 n1 cp1] 53)).alloc (.cells #[.int .i64 0, .int .i64 f1] 27)) = w5 at *
            go_loopw [9, 10] (fun p q wr => p = .bool false ∧ wr = w5) (fun _ _ _ => 0)
            case atStart => exact ⟨rfl, rfl⟩
            case round =>
              obtain ⟨rfl, rfl⟩ := hrel
              go_wp2_with fail
              go_ret
              exact ⟨rfl, HB5.out⟩
        · have hz0 : (z == z1) = false := beq_eq_false_iff_ne.mpr hz
          have hne : s ≠ t := fun h => hz ((crate_inj HI.out.1 HI.out.2).mp h).2.1
          have hs1 : (s.toList == t.toList) = false := beq_eq_false_iff_ne.mpr (fun h => hne (toList_inj h))
          go_wp2_with fail
          clear c0 c2 c3 x0 d0 d2 d3 x1
          have HB5 := Lib.hid HB4.out
          generalize ((w4.alloc (.cells #[.int .i64 c, .int .i64 z1, .slice A1 n1 cp1] 53)).alloc (.cells #[.int .i64 0, .int .i64 f1] 27)) = w5 at *
          go_loopw [9, 10] (fun p q wr => p = .bool false ∧ wr = w5) (fun _ _ _ => 0)
          case atStart => exact ⟨rfl, rfl⟩
          case round =>
            obtain ⟨rfl, rfl⟩ := hrel
            go_wp2_with fail
            go_ret
            exact ⟨rfl, HB5.out⟩
      · have hc0 : (c == c1) = false := beq_eq_false_iff_ne.mpr hc
        have hne : s ≠ t := fun h => hc ((crate_inj HI.out.1 HI.out.2).mp h).1
        have hs1 : (s.toList == t.toList) = false := beq_eq_false_iff_ne.mpr (fun h => hne (toList_inj h))
        go_wp2_with fail
        clear c0 c2 c3 x0 d0 d2 d3 x1
        have HB5 := Lib.hid HB4.out
        generalize ((w4.alloc (.cells #[.int .i64 c1, .int .i64 z1, .slice A1 n1 cp1] 53)).alloc (.cells #[.int .i64 0, .int .i64 f1] 27)) = w5 at *
        go_loopw [9, 10] (fun p q wr => p = .bool false ∧ wr = w5) (fun _ _ _ => 0)
        case atStart => exact ⟨rfl, rfl⟩
        case round =>
          obtain ⟨rfl, rfl⟩ := hrel
          go_wp2_with fail
          go_ret
          exact ⟨rfl, HB5.out⟩
    · have heb : (e1 != 0) = true := bne_iff_ne.mpr he1
      subst he
      go_wp2_with fail
      go_ret
      exact ⟨rfl, HB4.out⟩
  · have heb : (e != 0) = true := bne_iff_ne.mpr he
    go_wp2_with fail
    go_ret
    exact ⟨rfl, HB4.out⟩
theorem topone_all {w : World} (s t : ByteArray) : Calls Tryz.prog 6 #[.string s, .string t] w fun en w' => en = .returned (.bool true) ∧ Below w.heap.size w w' := by
  by_cases h : s.size ≤ 1000 ∧ t.size ≤ 1000
  · exact topone_small s t h.1 h.2
  · exact topone_great s t (by omega)
end Go.Proofs.YtcgoofefiiihnaaGreat
