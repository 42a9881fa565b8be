/- Rest, walked. -/
import Derived.Test.YthodifmfamflpaaLe
namespace Go.Proofs.Ythodifmfamflpaa
open Go.RowKit Go.Proofs.YthodifmfamflpaaW.PrintWords Go.Proofs.YthodifmfamflpaaW.PrintMore
set_option linter.unusedVariables false
set_option linter.unusedSimpArgs false
theorem rest_any (p : ByteArray) (hz : p.size ≤ 100000) (s : CS) (os : List Int) (hrun : run cnx st0 (bytesOf p) = some (s, os)) (w : World) :
    Calls Try.prog 29 #[.string p] w fun en w' => ∃ u os2 s2, en = .returned (.string u) ∧ u.size ≤ 4 ∧ run cnx st0 (bytesOf p ++ bytesOf u) = some (s2, os ++ os2) ∧ ccut s2 = false ∧ Below w.heap.size w w' := by
  obtain ⟨r, h1, h2⟩ := runF_at p (by omega) p.size s os (Nat.le_refl _) (by rw [List.take_of_length_le (by rw [bytesOf_length]; omega)]; exact hrun) (.inl rfl)
  obtain rfl := h2 rfl
  obtain ⟨s2, os2, g1, g2, g3, g4⟩ := rest_law (run_ok cok0 hrun)
  have hf : PBocuExtends.pilcrowref12_Rest.f (p.size * 4 + 900) p = some (strOfNums (restL s)) := by rw [PBocuExtends.pilcrowref12_Rest.f, h1]; rfl
  refine (PBocuExtends.pilcrowref12_Rest.calls _ p _ w hf).mono ?_
  rintro en w' ⟨rfl, hb⟩
  refine ⟨_, os2, s2, rfl, by rw [strOfNums_size]; exact g3, ?_, g2, hb⟩
  rw [bytesOf_ofNums g4, run_append, hrun, Option.bind_some, g1]
  rfl
end Go.Proofs.Ythodifmfamflpaa
