/-
  No cell of these rows narrows 'for every input' (looked for: loops, veiled, ifaces, maps, wideKeys, modest, calm, conditions, laid).
  DERIVED. THE GIVEN ROWS OF THIS SEAT. 10 by the template 'for every input the law returns true; each argument reads behind the call as it read before'; 0 by the template 'total and deterministic' (their statements: YtfknlgjfhdphjaaTotals.lean).
  GIVEN WITH THE SEED: the statements are not yours to turn. If you find one false, say at which input.
  Laid BY PROGRAM, IN A SANDBOX (cutbox-rows.mjs): the forced cells as the released guide's own fill.sh prints them over the translation 4de6f8137a6e5d6a… (all of the seat's roots in one cut). By AI agents, Wed Nov 11 2026. No macro, syntax, notation, axiom, sorry.
-/
import Derived.Test.YtfknlgjfhdphjaaChecked
import GoSem.Claim
import GoSem.ClaimJoined
import GoSem.ClaimMapViews
import Derived.JoinedTies
import Derived.KernelRfl
namespace Go.Proofs.Ytfknlgjfhdphjaa
/- THE CELL 'sum', in the pinned program and in every row, IS THE sha256 OF THE DUMP (.gsa) THAT YtfknlgjfhdphjaaProg.lean LOADS. Nothing in Lean hashes anything: it is a label: what it is worth is what the hold of that sum in a sandbox is worth. -/
noncomputable def Try.pinned : Pinned := { name := "ytfknlgjfhdphjaa", sum := "4de6f8137a6e5d6acc322e4f25134520d8f5bef4660eae86991f06dbeee4eb44", checked := Try.checked }
namespace Rows
def none {H : Type} : Left H := { results := [], args := [] }

/-- 'pilcrowlaw02.StepBase': WHATEVER THE INPUT: true; the input reads as it did. -/
def stepBaseSpec : ChangeSpec := { name := "stepBase", fn := fun _ => fun
  | [d] => { results := [.lit (.bool true)], args := [d] }
  | _ => none }
def stepBaseRow : OpenClaim := { program := "ytfknlgjfhdphjaa", sum := "4de6f8137a6e5d6acc322e4f25134520d8f5bef4660eae86991f06dbeee4eb44", func := "pilcrow/pilcrowlaw02.StepBase", spec := "stepBase", apart := false }
def StepBaseSaid : Prop := stepBaseRow.holds Try.pinned (OpenSpec.ofChange stepBaseSpec)

/-- ITS FALSE NEIGHBOUR: 'it returns false'. Refute it at one input. -/
def stepBaseWrong : ChangeSpec := { name := "stepBase", fn := fun _ => fun
  | [d] => { results := [.lit (.bool false)], args := [d] }
  | _ => none }
def StepBaseWrongFalsely : Prop := stepBaseRow.holds Try.pinned (OpenSpec.ofChange stepBaseWrong)

/-- 'pilcrowlaw02.StepBytes': WHATEVER THE INPUT: true; the input reads as it did. -/
def stepBytesSpec : ChangeSpec := { name := "stepBytes", fn := fun _ => fun
  | [d] => { results := [.lit (.bool true)], args := [d] }
  | _ => none }
def stepBytesRow : OpenClaim := { program := "ytfknlgjfhdphjaa", sum := "4de6f8137a6e5d6acc322e4f25134520d8f5bef4660eae86991f06dbeee4eb44", func := "pilcrow/pilcrowlaw02.StepBytes", spec := "stepBytes", apart := false }
def StepBytesSaid : Prop := stepBytesRow.holds Try.pinned (OpenSpec.ofChange stepBytesSpec)

/-- ITS FALSE NEIGHBOUR: 'it returns false'. Refute it at one input. -/
def stepBytesWrong : ChangeSpec := { name := "stepBytes", fn := fun _ => fun
  | [d] => { results := [.lit (.bool false)], args := [d] }
  | _ => none }
def StepBytesWrongFalsely : Prop := stepBytesRow.holds Try.pinned (OpenSpec.ofChange stepBytesWrong)

/-- 'pilcrowlaw02.StepScalars': WHATEVER THE INPUT: true; the input reads as it did. -/
def stepScalarsSpec : ChangeSpec := { name := "stepScalars", fn := fun _ => fun
  | [d] => { results := [.lit (.bool true)], args := [d] }
  | _ => none }
def stepScalarsRow : OpenClaim := { program := "ytfknlgjfhdphjaa", sum := "4de6f8137a6e5d6acc322e4f25134520d8f5bef4660eae86991f06dbeee4eb44", func := "pilcrow/pilcrowlaw02.StepScalars", spec := "stepScalars", apart := false }
def StepScalarsSaid : Prop := stepScalarsRow.holds Try.pinned (OpenSpec.ofChange stepScalarsSpec)

/-- ITS FALSE NEIGHBOUR: 'it returns false'. Refute it at one input. -/
def stepScalarsWrong : ChangeSpec := { name := "stepScalars", fn := fun _ => fun
  | [d] => { results := [.lit (.bool false)], args := [d] }
  | _ => none }
def StepScalarsWrongFalsely : Prop := stepScalarsRow.holds Try.pinned (OpenSpec.ofChange stepScalarsWrong)

/-- 'pilcrowlaw02.StepOut': WHATEVER THE INPUT: true; the input reads as it did. -/
def stepOutSpec : ChangeSpec := { name := "stepOut", fn := fun _ => fun
  | [d] => { results := [.lit (.bool true)], args := [d] }
  | _ => none }
def stepOutRow : OpenClaim := { program := "ytfknlgjfhdphjaa", sum := "4de6f8137a6e5d6acc322e4f25134520d8f5bef4660eae86991f06dbeee4eb44", func := "pilcrow/pilcrowlaw02.StepOut", spec := "stepOut", apart := false }
def StepOutSaid : Prop := stepOutRow.holds Try.pinned (OpenSpec.ofChange stepOutSpec)

/-- ITS FALSE NEIGHBOUR: 'it returns false'. Refute it at one input. -/
def stepOutWrong : ChangeSpec := { name := "stepOut", fn := fun _ => fun
  | [d] => { results := [.lit (.bool false)], args := [d] }
  | _ => none }
def StepOutWrongFalsely : Prop := stepOutRow.holds Try.pinned (OpenSpec.ofChange stepOutWrong)

/-- 'pilcrowlaw02.StepIn': WHATEVER THE INPUT: true; the input reads as it did. -/
def stepInSpec : ChangeSpec := { name := "stepIn", fn := fun _ => fun
  | [d] => { results := [.lit (.bool true)], args := [d] }
  | _ => none }
def stepInRow : OpenClaim := { program := "ytfknlgjfhdphjaa", sum := "4de6f8137a6e5d6acc322e4f25134520d8f5bef4660eae86991f06dbeee4eb44", func := "pilcrow/pilcrowlaw02.StepIn", spec := "stepIn", apart := false }
def StepInSaid : Prop := stepInRow.holds Try.pinned (OpenSpec.ofChange stepInSpec)

/-- ITS FALSE NEIGHBOUR: 'it returns false'. Refute it at one input. -/
def stepInWrong : ChangeSpec := { name := "stepIn", fn := fun _ => fun
  | [d] => { results := [.lit (.bool false)], args := [d] }
  | _ => none }
def StepInWrongFalsely : Prop := stepInRow.holds Try.pinned (OpenSpec.ofChange stepInWrong)

/-- 'pilcrowlaw07.PermuteTells': WHATEVER THE INPUT: true; the input reads as it did. -/
def permuteTellsSpec : ChangeSpec := { name := "permuteTells", fn := fun _ => fun
  | [d] => { results := [.lit (.bool true)], args := [d] }
  | _ => none }
def permuteTellsRow : OpenClaim := { program := "ytfknlgjfhdphjaa", sum := "4de6f8137a6e5d6acc322e4f25134520d8f5bef4660eae86991f06dbeee4eb44", func := "pilcrow/pilcrowlaw07.PermuteTells", spec := "permuteTells", apart := false }
def PermuteTellsSaid : Prop := permuteTellsRow.holds Try.pinned (OpenSpec.ofChange permuteTellsSpec)

/-- ITS FALSE NEIGHBOUR: 'it returns false'. Refute it at one input. -/
def permuteTellsWrong : ChangeSpec := { name := "permuteTells", fn := fun _ => fun
  | [d] => { results := [.lit (.bool false)], args := [d] }
  | _ => none }
def PermuteTellsWrongFalsely : Prop := permuteTellsRow.holds Try.pinned (OpenSpec.ofChange permuteTellsWrong)

/-- 'pilcrowlaw07.PermuteTexts': WHATEVER THE INPUT: true; the input reads as it did. -/
def permuteTextsSpec : ChangeSpec := { name := "permuteTexts", fn := fun _ => fun
  | [d] => { results := [.lit (.bool true)], args := [d] }
  | _ => none }
def permuteTextsRow : OpenClaim := { program := "ytfknlgjfhdphjaa", sum := "4de6f8137a6e5d6acc322e4f25134520d8f5bef4660eae86991f06dbeee4eb44", func := "pilcrow/pilcrowlaw07.PermuteTexts", spec := "permuteTexts", apart := false }
def PermuteTextsSaid : Prop := permuteTextsRow.holds Try.pinned (OpenSpec.ofChange permuteTextsSpec)

/-- ITS FALSE NEIGHBOUR: 'it returns false'. Refute it at one input. -/
def permuteTextsWrong : ChangeSpec := { name := "permuteTexts", fn := fun _ => fun
  | [d] => { results := [.lit (.bool false)], args := [d] }
  | _ => none }
def PermuteTextsWrongFalsely : Prop := permuteTextsRow.holds Try.pinned (OpenSpec.ofChange permuteTextsWrong)

/-- 'pilcrowlaw07.PermuteAll': WHATEVER THE INPUT: true; the input reads as it did. -/
def permuteAllSpec : ChangeSpec := { name := "permuteAll", fn := fun _ => fun
  | [d] => { results := [.lit (.bool true)], args := [d] }
  | _ => none }
def permuteAllRow : OpenClaim := { program := "ytfknlgjfhdphjaa", sum := "4de6f8137a6e5d6acc322e4f25134520d8f5bef4660eae86991f06dbeee4eb44", func := "pilcrow/pilcrowlaw07.PermuteAll", spec := "permuteAll", apart := false }
def PermuteAllSaid : Prop := permuteAllRow.holds Try.pinned (OpenSpec.ofChange permuteAllSpec)

/-- ITS FALSE NEIGHBOUR: 'it returns false'. Refute it at one input. -/
def permuteAllWrong : ChangeSpec := { name := "permuteAll", fn := fun _ => fun
  | [d] => { results := [.lit (.bool false)], args := [d] }
  | _ => none }
def PermuteAllWrongFalsely : Prop := permuteAllRow.holds Try.pinned (OpenSpec.ofChange permuteAllWrong)

/-- 'pilcrowlaw07.PermuteApart': WHATEVER THE INPUT: true; the input reads as it did. -/
def permuteApartSpec : ChangeSpec := { name := "permuteApart", fn := fun _ => fun
  | [d1, d2] => { results := [.lit (.bool true)], args := [d1, d2] }
  | _ => none }
def permuteApartRow : OpenClaim := { program := "ytfknlgjfhdphjaa", sum := "4de6f8137a6e5d6acc322e4f25134520d8f5bef4660eae86991f06dbeee4eb44", func := "pilcrow/pilcrowlaw07.PermuteApart", spec := "permuteApart", apart := false }
def PermuteApartSaid : Prop := permuteApartRow.holds Try.pinned (OpenSpec.ofChange permuteApartSpec)

/-- ITS FALSE NEIGHBOUR: 'it returns false'. Refute it at one input. -/
def permuteApartWrong : ChangeSpec := { name := "permuteApart", fn := fun _ => fun
  | [d1, d2] => { results := [.lit (.bool false)], args := [d1, d2] }
  | _ => none }
def PermuteApartWrongFalsely : Prop := permuteApartRow.holds Try.pinned (OpenSpec.ofChange permuteApartWrong)

/-- 'pilcrowlaw07.PermuteParts': WHATEVER THE INPUT: true; the input reads as it did. -/
def permutePartsSpec : ChangeSpec := { name := "permuteParts", fn := fun _ => fun
  | [d1, d2] => { results := [.lit (.bool true)], args := [d1, d2] }
  | _ => none }
def permutePartsRow : OpenClaim := { program := "ytfknlgjfhdphjaa", sum := "4de6f8137a6e5d6acc322e4f25134520d8f5bef4660eae86991f06dbeee4eb44", func := "pilcrow/pilcrowlaw07.PermuteParts", spec := "permuteParts", apart := false }
def PermutePartsSaid : Prop := permutePartsRow.holds Try.pinned (OpenSpec.ofChange permutePartsSpec)

/-- ITS FALSE NEIGHBOUR: 'it returns false'. Refute it at one input. -/
def permutePartsWrong : ChangeSpec := { name := "permuteParts", fn := fun _ => fun
  | [d1, d2] => { results := [.lit (.bool false)], args := [d1, d2] }
  | _ => none }
def PermutePartsWrongFalsely : Prop := permutePartsRow.holds Try.pinned (OpenSpec.ofChange permutePartsWrong)

/- THE SECOND FORM. 'bulk': how many values and letters a reading holds, each counted each time it is reached (what is shared counts as often as it is met; a slice's spare places count too). A statement '..UptoSaid' is the law's where the arguments, and the package variables that the reading takes, are together of bulk at most 1048576: NARROWER than '..Said'. Prove '..Said' where nothing that the law and all that it calls make is longer than what came in: it says more and counts as full. Else prove '..UptoSaid'. A law counts once. -/
mutual
def uptoBulk {H : Type} : DataW H → Nat
  | .lit (.string bytes) => bytes.length + 1
  | .lit _ => 1
  | .nil => 1
  | .ptr d => uptoBulk d + 1
  | .slice elems spare => uptoBulkAll elems + uptoBulkAll spare + 1
  | .agg parts => uptoBulkAll parts + 1
  | .iface _ d => uptoBulk d + 1
  | .map entries => uptoBulkEntries entries + 1
  | .held _ => 1
def uptoBulkAll {H : Type} : List (DataW H) → Nat
  | [] => 0
  | d :: r => uptoBulk d + uptoBulkAll r
def uptoBulkEntries {H : Type} : List (Lit × DataW H) → Nat
  | [] => 0
  | x :: r => uptoBulkEntry x + uptoBulkEntries r
def uptoBulkEntry {H : Type} : Lit × DataW H → Nat
  | (.string bytes, d) => bytes.length + uptoBulk d + 1
  | (_, d) => uptoBulk d + 1
 end
def uptoSmall : (H : Type) → List (DataW H) → Bool := fun _ ds => decide (uptoBulkAll ds ≤ 1048576)
def OpenSpec.upto (s : _root_.Go.ChangeSpec) : _root_.Go.OpenSpec := { _root_.Go.OpenSpec.ofChange s with cond := some uptoSmall }

/-- 'pilcrowlaw02.StepBase', WHERE WHAT IT READS IS OF BULK AT MOST 1048576: true; the input reads as it did. -/
def stepBaseUptoRow : OpenClaim := { program := "ytfknlgjfhdphjaa", sum := "4de6f8137a6e5d6acc322e4f25134520d8f5bef4660eae86991f06dbeee4eb44", func := "pilcrow/pilcrowlaw02.StepBase", spec := "stepBase", apart := false, narrowed := true }
def StepBaseUptoSaid : Prop := stepBaseUptoRow.holds Try.pinned (OpenSpec.upto stepBaseSpec)

/-- 'pilcrowlaw02.StepBytes', WHERE WHAT IT READS IS OF BULK AT MOST 1048576: true; the input reads as it did. -/
def stepBytesUptoRow : OpenClaim := { program := "ytfknlgjfhdphjaa", sum := "4de6f8137a6e5d6acc322e4f25134520d8f5bef4660eae86991f06dbeee4eb44", func := "pilcrow/pilcrowlaw02.StepBytes", spec := "stepBytes", apart := false, narrowed := true }
def StepBytesUptoSaid : Prop := stepBytesUptoRow.holds Try.pinned (OpenSpec.upto stepBytesSpec)

/-- 'pilcrowlaw02.StepScalars', WHERE WHAT IT READS IS OF BULK AT MOST 1048576: true; the input reads as it did. -/
def stepScalarsUptoRow : OpenClaim := { program := "ytfknlgjfhdphjaa", sum := "4de6f8137a6e5d6acc322e4f25134520d8f5bef4660eae86991f06dbeee4eb44", func := "pilcrow/pilcrowlaw02.StepScalars", spec := "stepScalars", apart := false, narrowed := true }
def StepScalarsUptoSaid : Prop := stepScalarsUptoRow.holds Try.pinned (OpenSpec.upto stepScalarsSpec)

/-- 'pilcrowlaw02.StepOut', WHERE WHAT IT READS IS OF BULK AT MOST 1048576: true; the input reads as it did. -/
def stepOutUptoRow : OpenClaim := { program := "ytfknlgjfhdphjaa", sum := "4de6f8137a6e5d6acc322e4f25134520d8f5bef4660eae86991f06dbeee4eb44", func := "pilcrow/pilcrowlaw02.StepOut", spec := "stepOut", apart := false, narrowed := true }
def StepOutUptoSaid : Prop := stepOutUptoRow.holds Try.pinned (OpenSpec.upto stepOutSpec)

/-- 'pilcrowlaw02.StepIn', WHERE WHAT IT READS IS OF BULK AT MOST 1048576: true; the input reads as it did. -/
def stepInUptoRow : OpenClaim := { program := "ytfknlgjfhdphjaa", sum := "4de6f8137a6e5d6acc322e4f25134520d8f5bef4660eae86991f06dbeee4eb44", func := "pilcrow/pilcrowlaw02.StepIn", spec := "stepIn", apart := false, narrowed := true }
def StepInUptoSaid : Prop := stepInUptoRow.holds Try.pinned (OpenSpec.upto stepInSpec)

/-- 'pilcrowlaw07.PermuteTells', WHERE WHAT IT READS IS OF BULK AT MOST 1048576: true; the input reads as it did. -/
def permuteTellsUptoRow : OpenClaim := { program := "ytfknlgjfhdphjaa", sum := "4de6f8137a6e5d6acc322e4f25134520d8f5bef4660eae86991f06dbeee4eb44", func := "pilcrow/pilcrowlaw07.PermuteTells", spec := "permuteTells", apart := false, narrowed := true }
def PermuteTellsUptoSaid : Prop := permuteTellsUptoRow.holds Try.pinned (OpenSpec.upto permuteTellsSpec)

/-- 'pilcrowlaw07.PermuteTexts', WHERE WHAT IT READS IS OF BULK AT MOST 1048576: true; the input reads as it did. -/
def permuteTextsUptoRow : OpenClaim := { program := "ytfknlgjfhdphjaa", sum := "4de6f8137a6e5d6acc322e4f25134520d8f5bef4660eae86991f06dbeee4eb44", func := "pilcrow/pilcrowlaw07.PermuteTexts", spec := "permuteTexts", apart := false, narrowed := true }
def PermuteTextsUptoSaid : Prop := permuteTextsUptoRow.holds Try.pinned (OpenSpec.upto permuteTextsSpec)

/-- 'pilcrowlaw07.PermuteAll', WHERE WHAT IT READS IS OF BULK AT MOST 1048576: true; the input reads as it did. -/
def permuteAllUptoRow : OpenClaim := { program := "ytfknlgjfhdphjaa", sum := "4de6f8137a6e5d6acc322e4f25134520d8f5bef4660eae86991f06dbeee4eb44", func := "pilcrow/pilcrowlaw07.PermuteAll", spec := "permuteAll", apart := false, narrowed := true }
def PermuteAllUptoSaid : Prop := permuteAllUptoRow.holds Try.pinned (OpenSpec.upto permuteAllSpec)

/-- 'pilcrowlaw07.PermuteApart', WHERE WHAT IT READS IS OF BULK AT MOST 1048576: true; the input reads as it did. -/
def permuteApartUptoRow : OpenClaim := { program := "ytfknlgjfhdphjaa", sum := "4de6f8137a6e5d6acc322e4f25134520d8f5bef4660eae86991f06dbeee4eb44", func := "pilcrow/pilcrowlaw07.PermuteApart", spec := "permuteApart", apart := false, narrowed := true }
def PermuteApartUptoSaid : Prop := permuteApartUptoRow.holds Try.pinned (OpenSpec.upto permuteApartSpec)

/-- 'pilcrowlaw07.PermuteParts', WHERE WHAT IT READS IS OF BULK AT MOST 1048576: true; the input reads as it did. -/
def permutePartsUptoRow : OpenClaim := { program := "ytfknlgjfhdphjaa", sum := "4de6f8137a6e5d6acc322e4f25134520d8f5bef4660eae86991f06dbeee4eb44", func := "pilcrow/pilcrowlaw07.PermuteParts", spec := "permuteParts", apart := false, narrowed := true }
def PermutePartsUptoSaid : Prop := permutePartsUptoRow.holds Try.pinned (OpenSpec.upto permutePartsSpec)

end Rows
end Go.Proofs.Ytfknlgjfhdphjaa
