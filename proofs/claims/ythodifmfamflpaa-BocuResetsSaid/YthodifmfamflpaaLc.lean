/- The reference's Read, as a contract. -/
import Derived.Test.YthodifmfamflpaaLb
namespace Go.Proofs.Ythodifmfamflpaa
open Go.RowKit Go.Proofs.YthodifmfamflpaaW.PrintWords Go.Proofs.YthodifmfamflpaaW.PrintMore
set_option linter.unusedVariables false
set_option linter.unusedSimpArgs false
theorem refread_any (t : ByteArray) (hz : t.size ≤ 1000000) (m : Nat) (fin : CS) (out : List Int) (hm : m ≤ t.size) (hrun : run cnx st0 ((bytesOf t).take m) = some (fin, out)) (hend : m = t.size ∨ (m < t.size ∧ cnx fin (bt t m) = none)) (w : World) :
    Calls Try.prog 21 #[.string t] w fun en w' => ∃ v, en = .returned (.tuple #[v, .int .i64 (if m < t.size then 3 else if ccut fin = true then 4 else 0), .int .i64 m]) ∧ w'.ownsRow w.heap.size 34 1 v out.length (nums .u32 out) ∧ Below w.heap.size w w' :=
  (PBocuExtends.pilcrowref12_Read.calls _ t _ _ _ w (readF_at t hz m fin out hm hrun hend)).mono fun en w' ⟨v, he, hr, hb⟩ => ⟨v, he, Kd.own_of_R hr, hb⟩
end Go.Proofs.Ythodifmfamflpaa
