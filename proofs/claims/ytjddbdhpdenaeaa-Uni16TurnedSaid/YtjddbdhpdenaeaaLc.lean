/- UTF-16: the reference's Read, as a contract. -/
import Derived.Test.YtjddbdhpdenaeaaLb
namespace Go.Proofs.Ytjddbdhpdenaeaa
open Go.RowKit Go.Proofs.YtjddbdhpdenaeaaW.PrintWords Go.Proofs.YtjddbdhpdenaeaaW.PrintMore
set_option linter.unusedVariables false
set_option linter.unusedSimpArgs false
/-- The machine at its beginning. -/
abbrev st0 (big : Bool) : CS := ⟨big, false, 0, 0⟩
theorem cok0 (big : Bool) : cok (st0 big) := ⟨⟨Int.le_refl 0, by show (0 : Int) ≤ 255; decide⟩, .inl rfl⟩
theorem refread_any (t : ByteArray) (big : Bool) (hz : t.size ≤ 1000000) (m : Nat) (fin : CS) (out : List Int) (hm : m ≤ t.size) (hrun : run cnx (st0 big) ((bytesOf t).take m) = some (fin, out)) (hend : m = t.size ∨ (m < t.size ∧ cnx fin (bt t m) = none)) (w : World) :
    Calls Try.prog 13 #[.string t, .bool big] w fun en w' => ∃ v, en = .returned (.tuple #[v, .int .i64 (if m < t.size then 3 else if ccut fin = true then 4 else 0), .int .i64 m]) ∧ w'.ownsRow w.heap.size 44 1 v out.length (nums .u32 out) ∧ Below w.heap.size w w' :=
  (PUni16Reads.pilcrowref04_Read.calls _ t big _ _ _ w (readF_at t big hz (st0 big) ⟨rfl, rfl, rfl⟩ m fin out hm hrun hend)).mono fun en w' ⟨v, he, hr, hb⟩ => ⟨v, he, Kd.own_of_R hr, hb⟩
end Go.Proofs.Ytjddbdhpdenaeaa
