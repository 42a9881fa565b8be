/- BOCU-1's scalars as bytes: the contract of the encoder's bytes. -/
import Derived.Test.YthodifmfamflpaaCa
namespace Go.Proofs.Ythodifmfamflpaa
open Go.RowKit Go.Proofs.YthodifmfamflpaaW.PrintWords Go.Proofs.YthodifmfamflpaaW.PrintMore
set_option linter.unusedVariables false
set_option linter.unusedSimpArgs false
set_option maxRecDepth 20000
/-- The encoder's own state; a scalar's bytes, and the state behind it. -/
structure ES where
  pv : Int
def eown (s : ES) : List Value := [.int .u32 s.pv]
def eok (s : ES) : Prop := 64 ≤ s.pv ∧ s.pv ≤ 1114111
def eby (s : ES) (c : Int) : List Int × ES := if c ≤ 32 then ([c], ⟨if c < 32 then 64 else s.pv⟩) else (D.packF (c - s.pv), ⟨prevF c⟩)
theorem isB_range {c : Int} (h : isB c = true) : c ≤ 1114111 := by
  simp only [isB, Bool.and_eq_true, decide_eq_true_eq] at h
  exact h.1
theorem eby_ok {s : ES} {c : Int} (hs : eok s) (h0 : 0 ≤ c) (hc : isB c = true) : eok (eby s c).2 := by
  unfold eby
  by_cases h : c ≤ 32
  · rw [if_pos h]
    unfold eok at hs ⊢
    simp only
    split <;> omega
  · rw [if_neg h]
    exact prevF_range h0 (isB_range hc)
theorem eby_len4 (s : ES) (c : Int) : (eby s c).1.length ≤ 4 := by
  unfold eby
  by_cases h : c ≤ 32
  · rw [if_pos h]; simp
  · rw [if_neg h]
    have := @D.packF_len (c - s.pv)
    have := @D.tr_range (D.leadF (c - s.pv))
    simp only
    omega
theorem eby_len (s : ES) (c : Int) : (eby s c).1.length ≤ 5 := Nat.le_trans (eby_len4 s c) (by decide)
theorem eby_pos (s : ES) (c : Int) (hs : eok s) (h0 : 0 ≤ c) (hc : isB c = true) : 0 < (eby s c).1.length := by
  unfold eby
  by_cases h : c ≤ 32
  · rw [if_pos h]; simp
  · rw [if_neg h]; simp [D.packF]
theorem eby_bytes (s : ES) (c : Int) (hs : eok s) (h0 : 0 ≤ c) (hc : isB c = true) : ∀ x ∈ (eby s c).1, 0 ≤ x ∧ x ≤ 255 := by
  have := isB_range hc
  have h1 := hs.1
  have h2 := hs.2
  unfold eby
  by_cases h : c ≤ 32
  · rw [if_pos h]
    intro x hx
    rw [List.mem_singleton.1 hx]
    omega
  · rw [if_neg h]
    exact D.pack_inB (by omega) (by omega)
theorem wrap8 {x : Int} (h0 : 0 ≤ x) (h1 : x ≤ 255) : IntKind.u8.wrap x = x := by
  unfold IntKind.wrap; simp [IntKind.signed, IntKind.bits]; omega
theorem pack_any (d : Int) (h0 : -1114111 ≤ d) (h1 : d ≤ 1114111) (w : World) : Calls Try.prog 59 #[.int .i64 d] w fun en w' => en = .returned (.tuple #[.string (strOfNums (D.packF d)), .bool true]) ∧ Below w.heap.size w w' :=
  PBocuExtends.diff_Pack.calls 6 d _ _ w (D.pack_at 0 d h0 h1)
section
variable {w : World} {g T : Nat} {a e f : Int} {d : Bool} {s : ByteArray}
theorem ebytes_any (q : ES) (c : Int) (hq : eok q) (hc0 : 0 ≤ c) (hc1 : isB c = true) (h : Enc w g T a e f d s (eown q)) :
    Calls Try.prog 50 #[.pointer (some ⟨g, 0, none⟩), .int .u32 c] w fun en w' => en = .returned (.string (strOfNums (eby q c).1)) ∧ Enc w' g T a e f d s (eown (eby q c).2) ∧ Kp (fun k => k = g) w w' := by
  obtain ⟨pv⟩ := q
  have c5 : w.cell? ⟨g, 5, none⟩ = some (.int .u32 pv) := enc_co h 0
  have f5 := h.fz 5
  have hcc := isB_range hc1
  obtain ⟨hq0, hq1⟩ := hq
  simp only at hq0 hq1
  have HD := Lib.hid h
  clear h hc1
  by_cases h32 : c ≤ 32
  · have e1 : decide (c ≤ 32) = true := by simp; omega
    have hw8 : IntKind.u8.wrap c = c := wrap8 hc0 (by omega)
    by_cases hlt : c < 32
    · have e2 : decide (c < 32) = true := by simp; omega
      have hconv := conv1 (w.setCell ⟨g, 5, none⟩ (.int .u32 64)) c
      rw [show (w.setCell ⟨g, 5, none⟩ (.int .u32 64)).heap.size = w.heap.size by simp [World.setCell]] at hconv
      have he : eby ⟨pv⟩ c = ([c], ⟨64⟩) := by unfold eby; rw [if_pos h32, if_pos hlt]
      rw [he]
      go_enter Try.func50, Try.ntmps50
      go_wp2_with fail
      go_ret
      exact ⟨rfl, blk_alloc (HD.out.setr 1 _) _, ((Kp.refl _ _).setg _ _).alloc _⟩
    · have e2 : decide (c < 32) = false := by simp; omega
      have hconv := conv1 w c
      have he : eby ⟨pv⟩ c = ([c], ⟨pv⟩) := by unfold eby; rw [if_pos h32, if_neg hlt]
      rw [he]
      go_enter Try.func50, Try.ntmps50
      go_wp2_with fail
      go_ret
      exact ⟨rfl, blk_alloc HD.out _, (Kp.refl _ _).alloc _⟩
  · have e1 : decide (c ≤ 32) = false := by simp; omega
    have he : eby ⟨pv⟩ c = (D.packF (c - pv), ⟨prevF c⟩) := by unfold eby; rw [if_neg h32]
    rw [he]
    have hw1 : IntKind.i64.wrap c = c := wrap_small (by omega) (by omega)
    have hw2 : IntKind.i64.wrap pv = pv := wrap_small (by omega) (by omega)
    have hw3 : IntKind.i64.wrap (c - pv) = c - pv := wrap_small (by omega) (by omega)
    go_enter Try.func50, Try.ntmps50
    go_wp2_with fail
    refine (pack_any (c - pv) (by omega) (by omega) _).mono ?_
    rintro en w1 ⟨rfl, hb1⟩
    have HD1 : Hid (Enc w1 g T a e f d s (eown ⟨pv⟩)) := Lib.hid (blk_below HD.out hb1)
    have HK1 : Hid (Kp (fun k => k = g) w w1) := Lib.hid (Kp.of_below hb1)
    clear hb1 c5 f5
    go_wp2_with fail
    refine (prev_any c hc0 hcc _).mono ?_
    rintro en w2 ⟨rfl, k2, rfl⟩
    have HD2 : Hid (Enc (w1.drewN k2) g T a e f d s (eown ⟨pv⟩)) := Lib.hid HD1.out
    have HK2 : Hid (Kp (fun k => k = g) w (w1.drewN k2)) := Lib.hid (HK1.out.drewN k2)
    generalize w1.drewN k2 = w2 at *
    have c52 : w2.cell? ⟨g, 5, none⟩ = some (.int .u32 pv) := enc_co HD2.out 0
    have f52 := HD2.out.fz 5
    go_wp2_with fail
    go_ret
    exact ⟨rfl, HD2.out.setr 1 _, HK2.out.setg _ _⟩
end
end Go.Proofs.Ythodifmfamflpaa
