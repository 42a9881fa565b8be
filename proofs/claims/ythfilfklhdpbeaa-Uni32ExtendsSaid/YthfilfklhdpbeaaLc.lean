/- UTF-32: the reference's functions, as contracts. -/
import Derived.Test.YthfilfklhdpbeaaLb
namespace Go.Proofs.Ythfilfklhdpbeaa
open Go.RowKit Go.Proofs.YthfilfklhdpbeaaW.PrintWords Go.Proofs.YthfilfklhdpbeaaW.PrintMore
set_option linter.unusedVariables false
set_option linter.unusedSimpArgs false
theorem refread_any (t : ByteArray) (big : Bool) (hz : t.size ≤ 1000000) (m : Nat) (fin : CS) (out : List Int) (hm : m ≤ t.size) (hrun : run cnx ⟨big, 0, 0⟩ ((bytesOf t).take m) = some (fin, out)) (hend : m = t.size ∨ (m < t.size ∧ cnx fin (bt t m) = none)) (w : World) :
    Calls Try.prog 17 #[.string t, .bool big] w fun en w' => ∃ v, en = .returned (.tuple #[v, .int .i64 (if m < t.size then 3 else if m % 4 = 0 then 0 else 4), .int .i64 m]) ∧ w'.ownsRow w.heap.size 22 1 v out.length (nums .u32 out) ∧ Below w.heap.size w w' :=
  (PUni32Reads.pilcrowref05_Read.calls _ t big _ _ _ w (readF_at t big hz m fin out hm hrun hend)).mono fun en w' ⟨v, he, hr, hb⟩ => ⟨v, he, Kd.own_of_R hr, hb⟩
theorem cok0 (big : Bool) : cok ⟨big, 0, 0⟩ := ⟨Int.le_refl 0, by show (0 : Int) ≤ 3; decide, Int.le_refl 0, by show (0 : Int) ≤ 4294967295; decide⟩
theorem cnx_hv {s s' : CS} {b : Int} {r : Option Int} (h : cnx s b = some (s', r)) : s'.hv % 4 = (s.hv + 1) % 4 := by
  unfold cnx at h
  split at h
  · split at h
    · rename_i h3
      cases h
      rw [h3]; rfl
    · cases h
      rfl
  · cases h
theorem run_hv : ∀ (l : List Int) {s s' : CS} {os : List Int}, run cnx s l = some (s', os) → s'.hv % 4 = (s.hv + l.length) % 4
  | [], s, s', os, h => by
    simp [run] at h
    rw [h.1]; simp
  | b :: l, s, s', os, h => by
    rw [run] at h
    cases hc : cnx s b with
    | none => rw [hc] at h; cases h
    | some p =>
      rw [hc] at h
      cases hr : run cnx p.1 l with
      | none => simp [hr] at h
      | some q =>
        simp [hr] at h
        have h1 := cnx_hv (s' := p.1) (r := p.2) hc
        have h2 := run_hv l (s' := q.1) (os := q.2) hr
        rw [← h.1, h2, List.length_cons]
        omega
theorem ccut_is {t : ByteArray} {big : Bool} {m : Nat} {s : CS} {os : List Int} (hm : m ≤ t.size) (h : run cnx ⟨big, 0, 0⟩ ((bytesOf t).take m) = some (s, os)) (hs : cok s) : ccut s = !decide (m % 4 = 0) := by
  have h1 := run_hv _ h
  rw [List.length_take, bytesOf_length, Nat.min_eq_left hm] at h1
  obtain ⟨h2, h3, _⟩ := hs
  have h4 : (0 : Int) + (m : Int) = m := by omega
  rw [show (CS.mk big 0 0).hv = 0 from rfl, h4] at h1
  unfold ccut
  by_cases h5 : m % 4 = 0
  · have : s.hv = 0 := by omega
    simp [this, h5]
  · have : 0 < s.hv := by omega
    simp [this, h5]
end Go.Proofs.Ythfilfklhdpbeaa
