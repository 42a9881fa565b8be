/-
  No cell of these rows narrows 'for every input' (looked for: loops, veiled, ifaces, maps, wideKeys, modest, calm, conditions, laid).
  DERIVED. THE GIVEN ROWS OF THIS SEAT. 8 by the template 'for every input the law returns true; each argument reads behind the call as it read before'; 0 by the template 'total and deterministic' (their statements: YthodifmfamflpaaTotals.lean).
  GIVEN WITH THE SEED: the statements are not yours to turn. If you find one false, say at which input.
  Laid BY PROGRAM, IN A SANDBOX (cutbox-rows.mjs): the forced cells as the released guide's own fill.sh prints them over the translation bb8e8e121cd9c7dc… (all of the seat's roots in one cut). By AI agents, Wed Nov 11 2026. No macro, syntax, notation, axiom, sorry.
-/
import Derived.Test.YthodifmfamflpaaChecked
import GoSem.Claim
import GoSem.ClaimJoined
import GoSem.ClaimMapViews
import Derived.JoinedTies
import Derived.KernelRfl
namespace Go.Proofs.Ythodifmfamflpaa
/- THE CELL 'sum', in the pinned program and in every row, IS THE sha256 OF THE DUMP (.gsa) THAT YthodifmfamflpaaProg.lean LOADS. Nothing in Lean hashes anything: it is a label: what it is worth is what the hold of that sum in a sandbox is worth. -/
noncomputable def Try.pinned : Pinned := { name := "ythodifmfamflpaa", sum := "bb8e8e121cd9c7dc329b9e1a8c0884b81476f7748a92c6e236d59b0706bff6ed", checked := Try.checked }
namespace Rows
def none {H : Type} : Left H := { results := [], args := [] }

/-- 'pilcrowlaw12.BocuOrder': WHATEVER THE INPUT: true; the input reads as it did. -/
def bocuOrderSpec : ChangeSpec := { name := "bocuOrder", fn := fun _ => fun
  | [d1, d2] => { results := [.lit (.bool true)], args := [d1, d2] }
  | _ => none }
def bocuOrderRow : OpenClaim := { program := "ythodifmfamflpaa", sum := "bb8e8e121cd9c7dc329b9e1a8c0884b81476f7748a92c6e236d59b0706bff6ed", func := "pilcrow/pilcrowlaw12.BocuOrder", spec := "bocuOrder", apart := false }
def BocuOrderSaid : Prop := bocuOrderRow.holds Try.pinned (OpenSpec.ofChange bocuOrderSpec)

/-- ITS FALSE NEIGHBOUR: 'it returns false'. Refute it at one input. -/
def bocuOrderWrong : ChangeSpec := { name := "bocuOrder", fn := fun _ => fun
  | [d1, d2] => { results := [.lit (.bool false)], args := [d1, d2] }
  | _ => none }
def BocuOrderWrongFalsely : Prop := bocuOrderRow.holds Try.pinned (OpenSpec.ofChange bocuOrderWrong)

/-- 'pilcrowlaw12.BocuKept': WHATEVER THE INPUT: true; the input reads as it did. -/
def bocuKeptSpec : ChangeSpec := { name := "bocuKept", fn := fun _ => fun
  | [d] => { results := [.lit (.bool true)], args := [d] }
  | _ => none }
def bocuKeptRow : OpenClaim := { program := "ythodifmfamflpaa", sum := "bb8e8e121cd9c7dc329b9e1a8c0884b81476f7748a92c6e236d59b0706bff6ed", func := "pilcrow/pilcrowlaw12.BocuKept", spec := "bocuKept", apart := false }
def BocuKeptSaid : Prop := bocuKeptRow.holds Try.pinned (OpenSpec.ofChange bocuKeptSpec)

/-- ITS FALSE NEIGHBOUR: 'it returns false'. Refute it at one input. -/
def bocuKeptWrong : ChangeSpec := { name := "bocuKept", fn := fun _ => fun
  | [d] => { results := [.lit (.bool false)], args := [d] }
  | _ => none }
def BocuKeptWrongFalsely : Prop := bocuKeptRow.holds Try.pinned (OpenSpec.ofChange bocuKeptWrong)

/-- 'pilcrowlaw12.BocuReads': WHATEVER THE INPUT: true; the input reads as it did. -/
def bocuReadsSpec : ChangeSpec := { name := "bocuReads", fn := fun _ => fun
  | [d1, d2, d3] => { results := [.lit (.bool true)], args := [d1, d2, d3] }
  | _ => none }
def bocuReadsRow : OpenClaim := { program := "ythodifmfamflpaa", sum := "bb8e8e121cd9c7dc329b9e1a8c0884b81476f7748a92c6e236d59b0706bff6ed", func := "pilcrow/pilcrowlaw12.BocuReads", spec := "bocuReads", apart := false }
def BocuReadsSaid : Prop := bocuReadsRow.holds Try.pinned (OpenSpec.ofChange bocuReadsSpec)

/-- ITS FALSE NEIGHBOUR: 'it returns false'. Refute it at one input. -/
def bocuReadsWrong : ChangeSpec := { name := "bocuReads", fn := fun _ => fun
  | [d1, d2, d3] => { results := [.lit (.bool false)], args := [d1, d2, d3] }
  | _ => none }
def BocuReadsWrongFalsely : Prop := bocuReadsRow.holds Try.pinned (OpenSpec.ofChange bocuReadsWrong)

/-- 'pilcrowlaw12.BocuWrites': WHATEVER THE INPUT: true; the input reads as it did. -/
def bocuWritesSpec : ChangeSpec := { name := "bocuWrites", fn := fun _ => fun
  | [d1, d2, d3] => { results := [.lit (.bool true)], args := [d1, d2, d3] }
  | _ => none }
def bocuWritesRow : OpenClaim := { program := "ythodifmfamflpaa", sum := "bb8e8e121cd9c7dc329b9e1a8c0884b81476f7748a92c6e236d59b0706bff6ed", func := "pilcrow/pilcrowlaw12.BocuWrites", spec := "bocuWrites", apart := false }
def BocuWritesSaid : Prop := bocuWritesRow.holds Try.pinned (OpenSpec.ofChange bocuWritesSpec)

/-- ITS FALSE NEIGHBOUR: 'it returns false'. Refute it at one input. -/
def bocuWritesWrong : ChangeSpec := { name := "bocuWrites", fn := fun _ => fun
  | [d1, d2, d3] => { results := [.lit (.bool false)], args := [d1, d2, d3] }
  | _ => none }
def BocuWritesWrongFalsely : Prop := bocuWritesRow.holds Try.pinned (OpenSpec.ofChange bocuWritesWrong)

/-- 'pilcrowlaw12.BocuOne': WHATEVER THE INPUT: true; the input reads as it did. -/
def bocuOneSpec : ChangeSpec := { name := "bocuOne", fn := fun _ => fun
  | [d] => { results := [.lit (.bool true)], args := [d] }
  | _ => none }
def bocuOneRow : OpenClaim := { program := "ythodifmfamflpaa", sum := "bb8e8e121cd9c7dc329b9e1a8c0884b81476f7748a92c6e236d59b0706bff6ed", func := "pilcrow/pilcrowlaw12.BocuOne", spec := "bocuOne", apart := false }
def BocuOneSaid : Prop := bocuOneRow.holds Try.pinned (OpenSpec.ofChange bocuOneSpec)

/-- ITS FALSE NEIGHBOUR: 'it returns false'. Refute it at one input. -/
def bocuOneWrong : ChangeSpec := { name := "bocuOne", fn := fun _ => fun
  | [d] => { results := [.lit (.bool false)], args := [d] }
  | _ => none }
def BocuOneWrongFalsely : Prop := bocuOneRow.holds Try.pinned (OpenSpec.ofChange bocuOneWrong)

/-- 'pilcrowlaw12.BocuExtends': WHATEVER THE INPUT: true; the input reads as it did. -/
def bocuExtendsSpec : ChangeSpec := { name := "bocuExtends", fn := fun _ => fun
  | [d1, d2] => { results := [.lit (.bool true)], args := [d1, d2] }
  | _ => none }
def bocuExtendsRow : OpenClaim := { program := "ythodifmfamflpaa", sum := "bb8e8e121cd9c7dc329b9e1a8c0884b81476f7748a92c6e236d59b0706bff6ed", func := "pilcrow/pilcrowlaw12.BocuExtends", spec := "bocuExtends", apart := false }
def BocuExtendsSaid : Prop := bocuExtendsRow.holds Try.pinned (OpenSpec.ofChange bocuExtendsSpec)

/-- ITS FALSE NEIGHBOUR: 'it returns false'. Refute it at one input. -/
def bocuExtendsWrong : ChangeSpec := { name := "bocuExtends", fn := fun _ => fun
  | [d1, d2] => { results := [.lit (.bool false)], args := [d1, d2] }
  | _ => none }
def BocuExtendsWrongFalsely : Prop := bocuExtendsRow.holds Try.pinned (OpenSpec.ofChange bocuExtendsWrong)

/-- 'pilcrowlaw12.BocuResets': WHATEVER THE INPUT: true; the input reads as it did. -/
def bocuResetsSpec : ChangeSpec := { name := "bocuResets", fn := fun _ => fun
  | [d1, d2] => { results := [.lit (.bool true)], args := [d1, d2] }
  | _ => none }
def bocuResetsRow : OpenClaim := { program := "ythodifmfamflpaa", sum := "bb8e8e121cd9c7dc329b9e1a8c0884b81476f7748a92c6e236d59b0706bff6ed", func := "pilcrow/pilcrowlaw12.BocuResets", spec := "bocuResets", apart := false }
def BocuResetsSaid : Prop := bocuResetsRow.holds Try.pinned (OpenSpec.ofChange bocuResetsSpec)

/-- ITS FALSE NEIGHBOUR: 'it returns false'. Refute it at one input. -/
def bocuResetsWrong : ChangeSpec := { name := "bocuResets", fn := fun _ => fun
  | [d1, d2] => { results := [.lit (.bool false)], args := [d1, d2] }
  | _ => none }
def BocuResetsWrongFalsely : Prop := bocuResetsRow.holds Try.pinned (OpenSpec.ofChange bocuResetsWrong)

/-- 'pilcrowlaw12.BocuBack': WHATEVER THE INPUT: true; the input reads as it did. -/
def bocuBackSpec : ChangeSpec := { name := "bocuBack", fn := fun _ => fun
  | [d1, d2, d3] => { results := [.lit (.bool true)], args := [d1, d2, d3] }
  | _ => none }
def bocuBackRow : OpenClaim := { program := "ythodifmfamflpaa", sum := "bb8e8e121cd9c7dc329b9e1a8c0884b81476f7748a92c6e236d59b0706bff6ed", func := "pilcrow/pilcrowlaw12.BocuBack", spec := "bocuBack", apart := false }
def BocuBackSaid : Prop := bocuBackRow.holds Try.pinned (OpenSpec.ofChange bocuBackSpec)

/-- ITS FALSE NEIGHBOUR: 'it returns false'. Refute it at one input. -/
def bocuBackWrong : ChangeSpec := { name := "bocuBack", fn := fun _ => fun
  | [d1, d2, d3] => { results := [.lit (.bool false)], args := [d1, d2, d3] }
  | _ => none }
def BocuBackWrongFalsely : Prop := bocuBackRow.holds Try.pinned (OpenSpec.ofChange bocuBackWrong)

/- THE SECOND FORM. 'bulk': how many values and letters a reading holds, each counted each time it is reached (what is shared counts as often as it is met; a slice's spare places count too). A statement '..UptoSaid' is the law's where the arguments, and the package variables that the reading takes, are together of bulk at most 1048576: NARROWER than '..Said'. Prove '..Said' where nothing that the law and all that it calls make is longer than what came in: it says more and counts as full. Else prove '..UptoSaid'. A law counts once. -/
mutual
def uptoBulk {H : Type} : DataW H → Nat
  | .lit (.string bytes) => bytes.length + 1
  | .lit _ => 1
  | .nil => 1
  | .ptr d => uptoBulk d + 1
  | .slice elems spare => uptoBulkAll elems + uptoBulkAll spare + 1
  | .agg parts => uptoBulkAll parts + 1
  | .iface _ d => uptoBulk d + 1
  | .map entries => uptoBulkEntries entries + 1
  | .held _ => 1
def uptoBulkAll {H : Type} : List (DataW H) → Nat
  | [] => 0
  | d :: r => uptoBulk d + uptoBulkAll r
def uptoBulkEntries {H : Type} : List (Lit × DataW H) → Nat
  | [] => 0
  | x :: r => uptoBulkEntry x + uptoBulkEntries r
def uptoBulkEntry {H : Type} : Lit × DataW H → Nat
  | (.string bytes, d) => bytes.length + uptoBulk d + 1
  | (_, d) => uptoBulk d + 1
 end
def uptoSmall : (H : Type) → List (DataW H) → Bool := fun _ ds => decide (uptoBulkAll ds ≤ 1048576)
def OpenSpec.upto (s : _root_.Go.ChangeSpec) : _root_.Go.OpenSpec := { _root_.Go.OpenSpec.ofChange s with cond := some uptoSmall }

/-- 'pilcrowlaw12.BocuOrder', WHERE WHAT IT READS IS OF BULK AT MOST 1048576: true; the input reads as it did. -/
def bocuOrderUptoRow : OpenClaim := { program := "ythodifmfamflpaa", sum := "bb8e8e121cd9c7dc329b9e1a8c0884b81476f7748a92c6e236d59b0706bff6ed", func := "pilcrow/pilcrowlaw12.BocuOrder", spec := "bocuOrder", apart := false, narrowed := true }
def BocuOrderUptoSaid : Prop := bocuOrderUptoRow.holds Try.pinned (OpenSpec.upto bocuOrderSpec)

/-- 'pilcrowlaw12.BocuKept', WHERE WHAT IT READS IS OF BULK AT MOST 1048576: true; the input reads as it did. -/
def bocuKeptUptoRow : OpenClaim := { program := "ythodifmfamflpaa", sum := "bb8e8e121cd9c7dc329b9e1a8c0884b81476f7748a92c6e236d59b0706bff6ed", func := "pilcrow/pilcrowlaw12.BocuKept", spec := "bocuKept", apart := false, narrowed := true }
def BocuKeptUptoSaid : Prop := bocuKeptUptoRow.holds Try.pinned (OpenSpec.upto bocuKeptSpec)

/-- 'pilcrowlaw12.BocuReads', WHERE WHAT IT READS IS OF BULK AT MOST 1048576: true; the input reads as it did. -/
def bocuReadsUptoRow : OpenClaim := { program := "ythodifmfamflpaa", sum := "bb8e8e121cd9c7dc329b9e1a8c0884b81476f7748a92c6e236d59b0706bff6ed", func := "pilcrow/pilcrowlaw12.BocuReads", spec := "bocuReads", apart := false, narrowed := true }
def BocuReadsUptoSaid : Prop := bocuReadsUptoRow.holds Try.pinned (OpenSpec.upto bocuReadsSpec)

/-- 'pilcrowlaw12.BocuWrites', WHERE WHAT IT READS IS OF BULK AT MOST 1048576: true; the input reads as it did. -/
def bocuWritesUptoRow : OpenClaim := { program := "ythodifmfamflpaa", sum := "bb8e8e121cd9c7dc329b9e1a8c0884b81476f7748a92c6e236d59b0706bff6ed", func := "pilcrow/pilcrowlaw12.BocuWrites", spec := "bocuWrites", apart := false, narrowed := true }
def BocuWritesUptoSaid : Prop := bocuWritesUptoRow.holds Try.pinned (OpenSpec.upto bocuWritesSpec)

/-- 'pilcrowlaw12.BocuOne', WHERE WHAT IT READS IS OF BULK AT MOST 1048576: true; the input reads as it did. -/
def bocuOneUptoRow : OpenClaim := { program := "ythodifmfamflpaa", sum := "bb8e8e121cd9c7dc329b9e1a8c0884b81476f7748a92c6e236d59b0706bff6ed", func := "pilcrow/pilcrowlaw12.BocuOne", spec := "bocuOne", apart := false, narrowed := true }
def BocuOneUptoSaid : Prop := bocuOneUptoRow.holds Try.pinned (OpenSpec.upto bocuOneSpec)

/-- 'pilcrowlaw12.BocuExtends', WHERE WHAT IT READS IS OF BULK AT MOST 1048576: true; the input reads as it did. -/
def bocuExtendsUptoRow : OpenClaim := { program := "ythodifmfamflpaa", sum := "bb8e8e121cd9c7dc329b9e1a8c0884b81476f7748a92c6e236d59b0706bff6ed", func := "pilcrow/pilcrowlaw12.BocuExtends", spec := "bocuExtends", apart := false, narrowed := true }
def BocuExtendsUptoSaid : Prop := bocuExtendsUptoRow.holds Try.pinned (OpenSpec.upto bocuExtendsSpec)

/-- 'pilcrowlaw12.BocuResets', WHERE WHAT IT READS IS OF BULK AT MOST 1048576: true; the input reads as it did. -/
def bocuResetsUptoRow : OpenClaim := { program := "ythodifmfamflpaa", sum := "bb8e8e121cd9c7dc329b9e1a8c0884b81476f7748a92c6e236d59b0706bff6ed", func := "pilcrow/pilcrowlaw12.BocuResets", spec := "bocuResets", apart := false, narrowed := true }
def BocuResetsUptoSaid : Prop := bocuResetsUptoRow.holds Try.pinned (OpenSpec.upto bocuResetsSpec)

/-- 'pilcrowlaw12.BocuBack', WHERE WHAT IT READS IS OF BULK AT MOST 1048576: true; the input reads as it did. -/
def bocuBackUptoRow : OpenClaim := { program := "ythodifmfamflpaa", sum := "bb8e8e121cd9c7dc329b9e1a8c0884b81476f7748a92c6e236d59b0706bff6ed", func := "pilcrow/pilcrowlaw12.BocuBack", spec := "bocuBack", apart := false, narrowed := true }
def BocuBackUptoSaid : Prop := bocuBackUptoRow.holds Try.pinned (OpenSpec.upto bocuBackSpec)

end Rows
end Go.Proofs.Ythodifmfamflpaa
