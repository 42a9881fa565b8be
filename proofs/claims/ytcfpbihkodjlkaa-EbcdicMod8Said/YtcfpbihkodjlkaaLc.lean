/- The reference of layer 8: layer 6's behind the table. -/
import Derived.Test.YtcfpbihkodjlkaaLb
import Derived.Test.YtcfpbihkodjlkaaPq
import Derived.OwnWalk
namespace Go.Proofs.Ytcfpbihkodjlkaa
open Go.RowKit Go.Proofs.YtcfpbihkodjlkaaW.PrintWords Go.Proofs.YtcfpbihkodjlkaaW.PrintMore
open M (isB isB_range is_any)
set_option linter.unusedVariables false
set_option linter.unusedSimpArgs false
theorem rback_any (t : ByteArray) (hz : t.size ≤ 50000) (w : World) : Calls Try.prog 31 #[.string t] w fun en w' => en = .returned (.string (unT t)) ∧ Below w.heap.size w w' :=
  PEbcdicWrites.pilcrowref07_Back.calls 100000 t _ w (refBack t hz)
theorem rtext_any (t : ByteArray) (hz : t.size ≤ 50000) (w : World) : Calls Try.prog 42 #[.string t] w fun en w' => en = .returned (.string (toT t)) ∧ Below w.heap.size w w' :=
  PEbcdicWrites.pilcrowref07_Text.calls 100000 t _ w (refText t hz)
theorem refread_any {tb : Nat} (t : ByteArray) (hz : t.size ≤ 50000) (m : Nat) (fin : CS) (out : List Int) (hm : m ≤ t.size) (hrun : run cnx (st0 tb) ((bytesOf t).take m) = some (fin, out)) (hend : m = t.size ∨ (m < t.size ∧ cnx fin (bt t m) = none)) (w : World) :
    Calls Try.prog 18 #[.string t] w fun en w' => ∃ v, en = .returned (.tuple #[v, .int .i64 (if m < t.size then 3 else if ccut fin = true then 4 else 0), .int .i64 m]) ∧ w'.ownsRow w.heap.size 22 1 v out.length (nums .u32 out) ∧ Below w.heap.size w w' := by
  have hM := M.readF_at (unT t) (by rw [unT_size]; omega) m fin.m out (by rw [unT_size]; exact hm) (by rw [unT_bytes, ← List.map_take]; exact run_m hrun) (by
    rw [unT_size]
    rcases hend with h | ⟨h1, h2⟩
    · exact .inl h
    · exact .inr ⟨h1, by rw [unT_bt t m h1]; exact cnx_m.1 h2⟩)
  rw [unT_size] at hM
  obtain ⟨E, hE⟩ : ∃ E : Int, (if m < t.size then 3 else if ccut fin = true then 4 else 0) = E := ⟨_, rfl⟩
  have hM2 : PMod8Extends.pilcrowref06_Read.f (t.size + 16) (unT t) = some (out, E, (m : Int)) := by rw [← hE]; exact hM
  have HM := Lib.hid hM2
  rw [hE]
  clear hM hM2 hrun hend hE
  go_enter Try.func18, Try.ntmps18
  go_wp2_with fail
  refine (rback_any t hz w).mono ?_
  rintro en w1 ⟨rfl, hb1⟩
  have HB1 := Lib.hid hb1
  clear hb1
  go_wp2_with fail
  refine (PMod8Extends.pilcrowref06_Read.calls _ (unT t) _ _ _ w1 HM.out).mono ?_
  rintro en w2 ⟨v, rfl, hr, hb2⟩
  have HR := Lib.hid (Kd.own_of_R hr)
  have HB2 := Lib.hid hb2
  clear hr hb2
  go_wp2_with fail
  go_ret3
  exact ⟨v, rfl, own_lower HR.out HB1.out.size, HB1.out.trans (HB2.out.mono HB1.out.size)⟩
theorem first_any {w : World} {A0 : Option Addr} {n0 c0 : Nat} {ls : List Int} (h0 : ReadsInt w .u32 A0 n0 ls) (hc0 : n0 ≤ c0) (hz : n0 ≤ 1000000) (m : Nat) (hm : m ≤ ls.length) (hall : ∀ c ∈ ls.take m, isB c = true) (hend : m = ls.length ∨ isB (ls.getD m 0) = false) :
    Calls Try.prog 24 #[.slice A0 n0 c0] w fun e w' => e = .returned (.int .i64 (if m < ls.length then (m : Int) else -1)) ∧ ∃ n, w' = w.drewN n := M.first_any h0 hc0 hz m hm hall hend
theorem refbytes_any {w : World} {A0 : Option Addr} {n0 c0 : Nat} {ls : List Int} (h0 : ReadsInt w .u32 A0 n0 ls) (hc0 : n0 ≤ c0) (hz : n0 ≤ 10000) (hwf : ∀ k, 0 ≤ ls.getD k 0 ∧ ls.getD k 0 ≤ 4294967295) (hsc : ∀ c ∈ ls, isB c = true) :
    Calls Try.prog 25 #[.slice A0 n0 c0] w fun e w' => ∃ x, e = .returned (.string x) ∧ bytesOf x = txt ls ∧ Below w.heap.size w w' := by
  have hlen : (M.txt ls).length ≤ 5 * ls.length := by
    refine M.txt_len ls fun c hc => ⟨?_, hsc c hc⟩
    obtain ⟨k, hk, rfl⟩ := List.mem_iff_getElem.1 hc
    have := hwf k
    rw [List.getD_eq_getElem?_getD, List.getElem?_eq_getElem hk] at this
    exact this.1
  have hl0 := h0.1
  have HF := Lib.hid (M.refbytes_any h0 hc0 (by omega) hwf hsc)
  clear h0 hwf hsc
  go_enter Try.func25, Try.ntmps25
  go_wp2_with fail
  refine HF.out.mono ?_
  rintro en w1 ⟨x, rfl, hx, hb1⟩
  have hxs := bytesOf_length x
  rw [hx] at hxs
  have HX := Lib.hid hx
  have HB1 := Lib.hid hb1
  clear hb1 hx
  go_wp2_with fail
  refine (rtext_any x (by omega) w1).mono ?_
  rintro en w2 ⟨rfl, hb2⟩
  have HB2 := Lib.hid hb2
  clear hb2
  go_wp2_with fail
  go_ret
  exact ⟨_, rfl, by rw [toT_bytes, HX.out, txt_map], HB1.out.trans (HB2.out.mono HB1.out.size)⟩
theorem run_turn {tb : Nat} {l os : List Int} {s : CS} (tb2 : Nat) (h : run cnx (st0 tb) l = some (s, os)) : run cnx (st0 tb2) l = some (⟨s.m, tb2⟩, os) := run_of (s0 := st0 tb2) (run_m (s0 := st0 tb) h)
theorem cnx_turn {s : CS} {b : Int} (tb2 : Nat) (h : cnx s b = none) : cnx ⟨s.m, tb2⟩ b = none := (cnx_m (s := ⟨s.m, tb2⟩)).2 ((cnx_m (s := s)).1 h)
theorem rest_any {tb : Nat} (tb2 : Nat) (p : ByteArray) (hz : p.size ≤ 40000) (s : CS) (os : List Int) (hrun : run cnx (st0 tb) (bytesOf p) = some (s, os)) (w : World) :
    Calls Try.prog 27 #[.string p] w fun en w' => ∃ u os2 s2, en = .returned (.string u) ∧ u.size ≤ 5 ∧ run cnx (st0 tb2) (bytesOf p ++ bytesOf u) = some (s2, os ++ os2) ∧ ccut s2 = false ∧ Below w.heap.size w w' := by
  have HM := Lib.hid (fun W => M.rest_any (unT p) (by rw [unT_size]; omega) s.m os (by rw [unT_bytes]; exact run_m hrun) W)
  clear hrun
  go_enter Try.func27, Try.ntmps27
  go_wp2_with fail
  refine (rback_any p (by omega) w).mono ?_
  rintro en w1 ⟨rfl, hb1⟩
  have HB1 := Lib.hid hb1
  clear hb1
  go_wp2_with fail
  refine (HM.out w1).mono ?_
  rintro en w2 ⟨u, os2, s2, rfl, hu, hr, hc, hb2⟩
  have HB2 := Lib.hid hb2
  have HR := Lib.hid hr
  have HC := Lib.hid hc
  clear hb2 hr hc
  go_wp2_with fail
  refine (rtext_any u (by omega) w2).mono ?_
  rintro en w3 ⟨rfl, hb3⟩
  have HB3 := Lib.hid hb3
  clear hb3
  go_wp2_with fail
  go_ret
  have b2 := HB1.out.trans (HB2.out.mono HB1.out.size)
  refine ⟨_, os2, ⟨s2, tb2⟩, rfl, by rw [toT_size]; exact hu, ?_, HC.out, b2.trans (HB3.out.mono b2.size)⟩
  refine run_of (s0 := st0 tb2) ?_
  rw [List.map_append, toT_bytes, map_back (fun x hx => fr_to (bytes_in u x hx)), ← unT_bytes]
  exact HR.out
open M (bytesOf_range getD_bt bytes_mid)
theorem run_none {s : CS} {L : List Int} {k m : Nat} (hk : k ≤ m) (h : run cnx s (L.take k) = none) : run cnx s (L.take m) = none := by
  rw [run_map] at h ⊢
  rw [List.map_take] at h ⊢
  have h1 : run M.cnx s.m ((L.map frB).take k) = none := by
    cases hh : run M.cnx s.m ((L.map frB).take k) with
    | none => rfl
    | some p => rw [hh] at h; cases h
  rw [M.run_none hk h1]
  rfl
end Go.Proofs.Ytcfpbihkodjlkaa
