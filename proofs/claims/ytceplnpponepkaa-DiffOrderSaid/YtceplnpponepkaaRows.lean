/-
  No cell of these rows narrows 'for every input' (looked for: loops, veiled, ifaces, maps, wideKeys, modest, calm, conditions, laid).
  DERIVED. THE GIVEN ROWS OF THIS SEAT. 6 by the template 'for every input the law returns true; each argument reads behind the call as it read before'; 0 by the template 'total and deterministic' (their statements: YtceplnpponepkaaTotals.lean).
  GIVEN WITH THE SEED: the statements are not yours to turn. If you find one false, say at which input.
  Laid BY PROGRAM, IN A SANDBOX (cutbox-rows.mjs): the forced cells as the released guide's own fill.sh prints them over the translation f1d1aecadf41c09f… (all of the seat's roots in one cut). By AI agents, Wed Nov 11 2026. No macro, syntax, notation, axiom, sorry.
-/
import Derived.Test.YtceplnpponepkaaChecked
import GoSem.Claim
import GoSem.ClaimJoined
import GoSem.ClaimMapViews
import Derived.JoinedTies
import Derived.KernelRfl
namespace Go.Proofs.Ytceplnpponepkaa
/- THE CELL 'sum', in the pinned program and in every row, IS THE sha256 OF THE DUMP (.gsa) THAT YtceplnpponepkaaProg.lean LOADS. Nothing in Lean hashes anything: it is a label: what it is worth is what the hold of that sum in a sandbox is worth. -/
noncomputable def Try.pinned : Pinned := { name := "ytceplnpponepkaa", sum := "f1d1aecadf41c09fb665177eb31e1d7c2505d8bec4076fb201617c29f52228c7", checked := Try.checked }
namespace Rows
def none {H : Type} : Left H := { results := [], args := [] }

/-- 'pilcrowlaw11.DiffPacks': WHATEVER THE INPUT: true; the input reads as it did. -/
def diffPacksSpec : ChangeSpec := { name := "diffPacks", fn := fun _ => fun
  | [d] => { results := [.lit (.bool true)], args := [d] }
  | _ => none }
def diffPacksRow : OpenClaim := { program := "ytceplnpponepkaa", sum := "f1d1aecadf41c09fb665177eb31e1d7c2505d8bec4076fb201617c29f52228c7", func := "pilcrow/pilcrowlaw11.DiffPacks", spec := "diffPacks", apart := false }
def DiffPacksSaid : Prop := diffPacksRow.holds Try.pinned (OpenSpec.ofChange diffPacksSpec)

/-- ITS FALSE NEIGHBOUR: 'it returns false'. Refute it at one input. -/
def diffPacksWrong : ChangeSpec := { name := "diffPacks", fn := fun _ => fun
  | [d] => { results := [.lit (.bool false)], args := [d] }
  | _ => none }
def DiffPacksWrongFalsely : Prop := diffPacksRow.holds Try.pinned (OpenSpec.ofChange diffPacksWrong)

/-- 'pilcrowlaw11.DiffRanges': WHATEVER THE INPUT: true; the input reads as it did. -/
def diffRangesSpec : ChangeSpec := { name := "diffRanges", fn := fun _ => fun
  | [d] => { results := [.lit (.bool true)], args := [d] }
  | _ => none }
def diffRangesRow : OpenClaim := { program := "ytceplnpponepkaa", sum := "f1d1aecadf41c09fb665177eb31e1d7c2505d8bec4076fb201617c29f52228c7", func := "pilcrow/pilcrowlaw11.DiffRanges", spec := "diffRanges", apart := false }
def DiffRangesSaid : Prop := diffRangesRow.holds Try.pinned (OpenSpec.ofChange diffRangesSpec)

/-- ITS FALSE NEIGHBOUR: 'it returns false'. Refute it at one input. -/
def diffRangesWrong : ChangeSpec := { name := "diffRanges", fn := fun _ => fun
  | [d] => { results := [.lit (.bool false)], args := [d] }
  | _ => none }
def DiffRangesWrongFalsely : Prop := diffRangesRow.holds Try.pinned (OpenSpec.ofChange diffRangesWrong)

/-- 'pilcrowlaw11.DiffTrails': WHATEVER THE INPUT: true; the input reads as it did. -/
def diffTrailsSpec : ChangeSpec := { name := "diffTrails", fn := fun _ => fun
  | [d1, d2, d3] => { results := [.lit (.bool true)], args := [d1, d2, d3] }
  | _ => none }
def diffTrailsRow : OpenClaim := { program := "ytceplnpponepkaa", sum := "f1d1aecadf41c09fb665177eb31e1d7c2505d8bec4076fb201617c29f52228c7", func := "pilcrow/pilcrowlaw11.DiffTrails", spec := "diffTrails", apart := false }
def DiffTrailsSaid : Prop := diffTrailsRow.holds Try.pinned (OpenSpec.ofChange diffTrailsSpec)

/-- ITS FALSE NEIGHBOUR: 'it returns false'. Refute it at one input. -/
def diffTrailsWrong : ChangeSpec := { name := "diffTrails", fn := fun _ => fun
  | [d1, d2, d3] => { results := [.lit (.bool false)], args := [d1, d2, d3] }
  | _ => none }
def DiffTrailsWrongFalsely : Prop := diffTrailsRow.holds Try.pinned (OpenSpec.ofChange diffTrailsWrong)

/-- 'pilcrowlaw11.DiffPrev': WHATEVER THE INPUT: true; the input reads as it did. -/
def diffPrevSpec : ChangeSpec := { name := "diffPrev", fn := fun _ => fun
  | [d] => { results := [.lit (.bool true)], args := [d] }
  | _ => none }
def diffPrevRow : OpenClaim := { program := "ytceplnpponepkaa", sum := "f1d1aecadf41c09fb665177eb31e1d7c2505d8bec4076fb201617c29f52228c7", func := "pilcrow/pilcrowlaw11.DiffPrev", spec := "diffPrev", apart := false }
def DiffPrevSaid : Prop := diffPrevRow.holds Try.pinned (OpenSpec.ofChange diffPrevSpec)

/-- ITS FALSE NEIGHBOUR: 'it returns false'. Refute it at one input. -/
def diffPrevWrong : ChangeSpec := { name := "diffPrev", fn := fun _ => fun
  | [d] => { results := [.lit (.bool false)], args := [d] }
  | _ => none }
def DiffPrevWrongFalsely : Prop := diffPrevRow.holds Try.pinned (OpenSpec.ofChange diffPrevWrong)

/-- 'pilcrowlaw11.DiffBack': WHATEVER THE INPUT: true; the input reads as it did. -/
def diffBackSpec : ChangeSpec := { name := "diffBack", fn := fun _ => fun
  | [d1, d2] => { results := [.lit (.bool true)], args := [d1, d2] }
  | _ => none }
def diffBackRow : OpenClaim := { program := "ytceplnpponepkaa", sum := "f1d1aecadf41c09fb665177eb31e1d7c2505d8bec4076fb201617c29f52228c7", func := "pilcrow/pilcrowlaw11.DiffBack", spec := "diffBack", apart := false }
def DiffBackSaid : Prop := diffBackRow.holds Try.pinned (OpenSpec.ofChange diffBackSpec)

/-- ITS FALSE NEIGHBOUR: 'it returns false'. Refute it at one input. -/
def diffBackWrong : ChangeSpec := { name := "diffBack", fn := fun _ => fun
  | [d1, d2] => { results := [.lit (.bool false)], args := [d1, d2] }
  | _ => none }
def DiffBackWrongFalsely : Prop := diffBackRow.holds Try.pinned (OpenSpec.ofChange diffBackWrong)

/-- 'pilcrowlaw11.DiffOrder': WHATEVER THE INPUT: true; the input reads as it did. -/
def diffOrderSpec : ChangeSpec := { name := "diffOrder", fn := fun _ => fun
  | [d1, d2] => { results := [.lit (.bool true)], args := [d1, d2] }
  | _ => none }
def diffOrderRow : OpenClaim := { program := "ytceplnpponepkaa", sum := "f1d1aecadf41c09fb665177eb31e1d7c2505d8bec4076fb201617c29f52228c7", func := "pilcrow/pilcrowlaw11.DiffOrder", spec := "diffOrder", apart := false }
def DiffOrderSaid : Prop := diffOrderRow.holds Try.pinned (OpenSpec.ofChange diffOrderSpec)

/-- ITS FALSE NEIGHBOUR: 'it returns false'. Refute it at one input. -/
def diffOrderWrong : ChangeSpec := { name := "diffOrder", fn := fun _ => fun
  | [d1, d2] => { results := [.lit (.bool false)], args := [d1, d2] }
  | _ => none }
def DiffOrderWrongFalsely : Prop := diffOrderRow.holds Try.pinned (OpenSpec.ofChange diffOrderWrong)

/- THE SECOND FORM. 'bulk': how many values and letters a reading holds, each counted each time it is reached (what is shared counts as often as it is met; a slice's spare places count too). A statement '..UptoSaid' is the law's where the arguments, and the package variables that the reading takes, are together of bulk at most 1048576: NARROWER than '..Said'. Prove '..Said' where nothing that the law and all that it calls make is longer than what came in: it says more and counts as full. Else prove '..UptoSaid'. A law counts once. -/
mutual
def uptoBulk {H : Type} : DataW H → Nat
  | .lit (.string bytes) => bytes.length + 1
  | .lit _ => 1
  | .nil => 1
  | .ptr d => uptoBulk d + 1
  | .slice elems spare => uptoBulkAll elems + uptoBulkAll spare + 1
  | .agg parts => uptoBulkAll parts + 1
  | .iface _ d => uptoBulk d + 1
  | .map entries => uptoBulkEntries entries + 1
  | .held _ => 1
def uptoBulkAll {H : Type} : List (DataW H) → Nat
  | [] => 0
  | d :: r => uptoBulk d + uptoBulkAll r
def uptoBulkEntries {H : Type} : List (Lit × DataW H) → Nat
  | [] => 0
  | x :: r => uptoBulkEntry x + uptoBulkEntries r
def uptoBulkEntry {H : Type} : Lit × DataW H → Nat
  | (.string bytes, d) => bytes.length + uptoBulk d + 1
  | (_, d) => uptoBulk d + 1
 end
def uptoSmall : (H : Type) → List (DataW H) → Bool := fun _ ds => decide (uptoBulkAll ds ≤ 1048576)
def OpenSpec.upto (s : _root_.Go.ChangeSpec) : _root_.Go.OpenSpec := { _root_.Go.OpenSpec.ofChange s with cond := some uptoSmall }

/-- 'pilcrowlaw11.DiffPacks', WHERE WHAT IT READS IS OF BULK AT MOST 1048576: true; the input reads as it did. -/
def diffPacksUptoRow : OpenClaim := { program := "ytceplnpponepkaa", sum := "f1d1aecadf41c09fb665177eb31e1d7c2505d8bec4076fb201617c29f52228c7", func := "pilcrow/pilcrowlaw11.DiffPacks", spec := "diffPacks", apart := false, narrowed := true }
def DiffPacksUptoSaid : Prop := diffPacksUptoRow.holds Try.pinned (OpenSpec.upto diffPacksSpec)

/-- 'pilcrowlaw11.DiffRanges', WHERE WHAT IT READS IS OF BULK AT MOST 1048576: true; the input reads as it did. -/
def diffRangesUptoRow : OpenClaim := { program := "ytceplnpponepkaa", sum := "f1d1aecadf41c09fb665177eb31e1d7c2505d8bec4076fb201617c29f52228c7", func := "pilcrow/pilcrowlaw11.DiffRanges", spec := "diffRanges", apart := false, narrowed := true }
def DiffRangesUptoSaid : Prop := diffRangesUptoRow.holds Try.pinned (OpenSpec.upto diffRangesSpec)

/-- 'pilcrowlaw11.DiffTrails', WHERE WHAT IT READS IS OF BULK AT MOST 1048576: true; the input reads as it did. -/
def diffTrailsUptoRow : OpenClaim := { program := "ytceplnpponepkaa", sum := "f1d1aecadf41c09fb665177eb31e1d7c2505d8bec4076fb201617c29f52228c7", func := "pilcrow/pilcrowlaw11.DiffTrails", spec := "diffTrails", apart := false, narrowed := true }
def DiffTrailsUptoSaid : Prop := diffTrailsUptoRow.holds Try.pinned (OpenSpec.upto diffTrailsSpec)

/-- 'pilcrowlaw11.DiffPrev', WHERE WHAT IT READS IS OF BULK AT MOST 1048576: true; the input reads as it did. -/
def diffPrevUptoRow : OpenClaim := { program := "ytceplnpponepkaa", sum := "f1d1aecadf41c09fb665177eb31e1d7c2505d8bec4076fb201617c29f52228c7", func := "pilcrow/pilcrowlaw11.DiffPrev", spec := "diffPrev", apart := false, narrowed := true }
def DiffPrevUptoSaid : Prop := diffPrevUptoRow.holds Try.pinned (OpenSpec.upto diffPrevSpec)

/-- 'pilcrowlaw11.DiffBack', WHERE WHAT IT READS IS OF BULK AT MOST 1048576: true; the input reads as it did. -/
def diffBackUptoRow : OpenClaim := { program := "ytceplnpponepkaa", sum := "f1d1aecadf41c09fb665177eb31e1d7c2505d8bec4076fb201617c29f52228c7", func := "pilcrow/pilcrowlaw11.DiffBack", spec := "diffBack", apart := false, narrowed := true }
def DiffBackUptoSaid : Prop := diffBackUptoRow.holds Try.pinned (OpenSpec.upto diffBackSpec)

/-- 'pilcrowlaw11.DiffOrder', WHERE WHAT IT READS IS OF BULK AT MOST 1048576: true; the input reads as it did. -/
def diffOrderUptoRow : OpenClaim := { program := "ytceplnpponepkaa", sum := "f1d1aecadf41c09fb665177eb31e1d7c2505d8bec4076fb201617c29f52228c7", func := "pilcrow/pilcrowlaw11.DiffOrder", spec := "diffOrder", apart := false, narrowed := true }
def DiffOrderUptoSaid : Prop := diffOrderUptoRow.holds Try.pinned (OpenSpec.upto diffOrderSpec)

end Rows
end Go.Proofs.Ytceplnpponepkaa
