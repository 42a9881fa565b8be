/-
  No cell of these rows narrows 'for every input' (looked for: loops, veiled, ifaces, maps, wideKeys, modest, calm, conditions, laid).
  DERIVED. THE GIVEN ROWS OF THIS SEAT. 6 by the template 'for every input the law returns true; each argument reads behind the call as it read before'; 0 by the template 'total and deterministic' (their statements: YtjddbdhpdenaeaaTotals.lean).
  GIVEN WITH THE SEED: the statements are not yours to turn. If you find one false, say at which input.
  Laid BY PROGRAM, IN A SANDBOX (cutbox-rows.mjs): the forced cells as the released guide's own fill.sh prints them over the translation 98835a2eb6b53137… (all of the seat's roots in one cut). By AI agents, Wed Nov 11 2026. No macro, syntax, notation, axiom, sorry.
-/
import Derived.Test.YtjddbdhpdenaeaaChecked
import GoSem.Claim
import GoSem.ClaimJoined
import GoSem.ClaimMapViews
import Derived.JoinedTies
import Derived.KernelRfl
namespace Go.Proofs.Ytjddbdhpdenaeaa
/- THE CELL 'sum', in the pinned program and in every row, IS THE sha256 OF THE DUMP (.gsa) THAT YtjddbdhpdenaeaaProg.lean LOADS. Nothing in Lean hashes anything: it is a label: what it is worth is what the hold of that sum in a sandbox is worth. -/
noncomputable def Try.pinned : Pinned := { name := "ytjddbdhpdenaeaa", sum := "98835a2eb6b531377c26d53d7c0d14bef5d2edc0f87ee107e0713a9070abec1d", checked := Try.checked }
namespace Rows
def none {H : Type} : Left H := { results := [], args := [] }

/-- 'pilcrowlaw04.Uni16Reads': WHATEVER THE INPUT: true; the input reads as it did. -/
def uni16ReadsSpec : ChangeSpec := { name := "uni16Reads", fn := fun _ => fun
  | [d1, d2, d3] => { results := [.lit (.bool true)], args := [d1, d2, d3] }
  | _ => none }
def uni16ReadsRow : OpenClaim := { program := "ytjddbdhpdenaeaa", sum := "98835a2eb6b531377c26d53d7c0d14bef5d2edc0f87ee107e0713a9070abec1d", func := "pilcrow/pilcrowlaw04.Uni16Reads", spec := "uni16Reads", apart := false }
def Uni16ReadsSaid : Prop := uni16ReadsRow.holds Try.pinned (OpenSpec.ofChange uni16ReadsSpec)

/-- ITS FALSE NEIGHBOUR: 'it returns false'. Refute it at one input. -/
def uni16ReadsWrong : ChangeSpec := { name := "uni16Reads", fn := fun _ => fun
  | [d1, d2, d3] => { results := [.lit (.bool false)], args := [d1, d2, d3] }
  | _ => none }
def Uni16ReadsWrongFalsely : Prop := uni16ReadsRow.holds Try.pinned (OpenSpec.ofChange uni16ReadsWrong)

/-- 'pilcrowlaw04.Uni16Writes': WHATEVER THE INPUT: true; the input reads as it did. -/
def uni16WritesSpec : ChangeSpec := { name := "uni16Writes", fn := fun _ => fun
  | [d1, d2, d3] => { results := [.lit (.bool true)], args := [d1, d2, d3] }
  | _ => none }
def uni16WritesRow : OpenClaim := { program := "ytjddbdhpdenaeaa", sum := "98835a2eb6b531377c26d53d7c0d14bef5d2edc0f87ee107e0713a9070abec1d", func := "pilcrow/pilcrowlaw04.Uni16Writes", spec := "uni16Writes", apart := false }
def Uni16WritesSaid : Prop := uni16WritesRow.holds Try.pinned (OpenSpec.ofChange uni16WritesSpec)

/-- ITS FALSE NEIGHBOUR: 'it returns false'. Refute it at one input. -/
def uni16WritesWrong : ChangeSpec := { name := "uni16Writes", fn := fun _ => fun
  | [d1, d2, d3] => { results := [.lit (.bool false)], args := [d1, d2, d3] }
  | _ => none }
def Uni16WritesWrongFalsely : Prop := uni16WritesRow.holds Try.pinned (OpenSpec.ofChange uni16WritesWrong)

/-- 'pilcrowlaw04.Uni16One': WHATEVER THE INPUT: true; the input reads as it did. -/
def uni16OneSpec : ChangeSpec := { name := "uni16One", fn := fun _ => fun
  | [d1, d2] => { results := [.lit (.bool true)], args := [d1, d2] }
  | _ => none }
def uni16OneRow : OpenClaim := { program := "ytjddbdhpdenaeaa", sum := "98835a2eb6b531377c26d53d7c0d14bef5d2edc0f87ee107e0713a9070abec1d", func := "pilcrow/pilcrowlaw04.Uni16One", spec := "uni16One", apart := false }
def Uni16OneSaid : Prop := uni16OneRow.holds Try.pinned (OpenSpec.ofChange uni16OneSpec)

/-- ITS FALSE NEIGHBOUR: 'it returns false'. Refute it at one input. -/
def uni16OneWrong : ChangeSpec := { name := "uni16One", fn := fun _ => fun
  | [d1, d2] => { results := [.lit (.bool false)], args := [d1, d2] }
  | _ => none }
def Uni16OneWrongFalsely : Prop := uni16OneRow.holds Try.pinned (OpenSpec.ofChange uni16OneWrong)

/-- 'pilcrowlaw04.Uni16Extends': WHATEVER THE INPUT: true; the input reads as it did. -/
def uni16ExtendsSpec : ChangeSpec := { name := "uni16Extends", fn := fun _ => fun
  | [d1, d2, d3] => { results := [.lit (.bool true)], args := [d1, d2, d3] }
  | _ => none }
def uni16ExtendsRow : OpenClaim := { program := "ytjddbdhpdenaeaa", sum := "98835a2eb6b531377c26d53d7c0d14bef5d2edc0f87ee107e0713a9070abec1d", func := "pilcrow/pilcrowlaw04.Uni16Extends", spec := "uni16Extends", apart := false }
def Uni16ExtendsSaid : Prop := uni16ExtendsRow.holds Try.pinned (OpenSpec.ofChange uni16ExtendsSpec)

/-- ITS FALSE NEIGHBOUR: 'it returns false'. Refute it at one input. -/
def uni16ExtendsWrong : ChangeSpec := { name := "uni16Extends", fn := fun _ => fun
  | [d1, d2, d3] => { results := [.lit (.bool false)], args := [d1, d2, d3] }
  | _ => none }
def Uni16ExtendsWrongFalsely : Prop := uni16ExtendsRow.holds Try.pinned (OpenSpec.ofChange uni16ExtendsWrong)

/-- 'pilcrowlaw04.Uni16Turned': WHATEVER THE INPUT: true; the input reads as it did. -/
def uni16TurnedSpec : ChangeSpec := { name := "uni16Turned", fn := fun _ => fun
  | [d] => { results := [.lit (.bool true)], args := [d] }
  | _ => none }
def uni16TurnedRow : OpenClaim := { program := "ytjddbdhpdenaeaa", sum := "98835a2eb6b531377c26d53d7c0d14bef5d2edc0f87ee107e0713a9070abec1d", func := "pilcrow/pilcrowlaw04.Uni16Turned", spec := "uni16Turned", apart := false }
def Uni16TurnedSaid : Prop := uni16TurnedRow.holds Try.pinned (OpenSpec.ofChange uni16TurnedSpec)

/-- ITS FALSE NEIGHBOUR: 'it returns false'. Refute it at one input. -/
def uni16TurnedWrong : ChangeSpec := { name := "uni16Turned", fn := fun _ => fun
  | [d] => { results := [.lit (.bool false)], args := [d] }
  | _ => none }
def Uni16TurnedWrongFalsely : Prop := uni16TurnedRow.holds Try.pinned (OpenSpec.ofChange uni16TurnedWrong)

/-- 'pilcrowlaw04.Uni16Back': WHATEVER THE INPUT: true; the input reads as it did. -/
def uni16BackSpec : ChangeSpec := { name := "uni16Back", fn := fun _ => fun
  | [d1, d2, d3] => { results := [.lit (.bool true)], args := [d1, d2, d3] }
  | _ => none }
def uni16BackRow : OpenClaim := { program := "ytjddbdhpdenaeaa", sum := "98835a2eb6b531377c26d53d7c0d14bef5d2edc0f87ee107e0713a9070abec1d", func := "pilcrow/pilcrowlaw04.Uni16Back", spec := "uni16Back", apart := false }
def Uni16BackSaid : Prop := uni16BackRow.holds Try.pinned (OpenSpec.ofChange uni16BackSpec)

/-- ITS FALSE NEIGHBOUR: 'it returns false'. Refute it at one input. -/
def uni16BackWrong : ChangeSpec := { name := "uni16Back", fn := fun _ => fun
  | [d1, d2, d3] => { results := [.lit (.bool false)], args := [d1, d2, d3] }
  | _ => none }
def Uni16BackWrongFalsely : Prop := uni16BackRow.holds Try.pinned (OpenSpec.ofChange uni16BackWrong)

/- THE SECOND FORM. 'bulk': how many values and letters a reading holds, each counted each time it is reached (what is shared counts as often as it is met; a slice's spare places count too). A statement '..UptoSaid' is the law's where the arguments, and the package variables that the reading takes, are together of bulk at most 1048576: NARROWER than '..Said'. Prove '..Said' where nothing that the law and all that it calls make is longer than what came in: it says more and counts as full. Else prove '..UptoSaid'. A law counts once. -/
mutual
def uptoBulk {H : Type} : DataW H → Nat
  | .lit (.string bytes) => bytes.length + 1
  | .lit _ => 1
  | .nil => 1
  | .ptr d => uptoBulk d + 1
  | .slice elems spare => uptoBulkAll elems + uptoBulkAll spare + 1
  | .agg parts => uptoBulkAll parts + 1
  | .iface _ d => uptoBulk d + 1
  | .map entries => uptoBulkEntries entries + 1
  | .held _ => 1
def uptoBulkAll {H : Type} : List (DataW H) → Nat
  | [] => 0
  | d :: r => uptoBulk d + uptoBulkAll r
def uptoBulkEntries {H : Type} : List (Lit × DataW H) → Nat
  | [] => 0
  | x :: r => uptoBulkEntry x + uptoBulkEntries r
def uptoBulkEntry {H : Type} : Lit × DataW H → Nat
  | (.string bytes, d) => bytes.length + uptoBulk d + 1
  | (_, d) => uptoBulk d + 1
 end
def uptoSmall : (H : Type) → List (DataW H) → Bool := fun _ ds => decide (uptoBulkAll ds ≤ 1048576)
def OpenSpec.upto (s : _root_.Go.ChangeSpec) : _root_.Go.OpenSpec := { _root_.Go.OpenSpec.ofChange s with cond := some uptoSmall }

/-- 'pilcrowlaw04.Uni16Reads', WHERE WHAT IT READS IS OF BULK AT MOST 1048576: true; the input reads as it did. -/
def uni16ReadsUptoRow : OpenClaim := { program := "ytjddbdhpdenaeaa", sum := "98835a2eb6b531377c26d53d7c0d14bef5d2edc0f87ee107e0713a9070abec1d", func := "pilcrow/pilcrowlaw04.Uni16Reads", spec := "uni16Reads", apart := false, narrowed := true }
def Uni16ReadsUptoSaid : Prop := uni16ReadsUptoRow.holds Try.pinned (OpenSpec.upto uni16ReadsSpec)

/-- 'pilcrowlaw04.Uni16Writes', WHERE WHAT IT READS IS OF BULK AT MOST 1048576: true; the input reads as it did. -/
def uni16WritesUptoRow : OpenClaim := { program := "ytjddbdhpdenaeaa", sum := "98835a2eb6b531377c26d53d7c0d14bef5d2edc0f87ee107e0713a9070abec1d", func := "pilcrow/pilcrowlaw04.Uni16Writes", spec := "uni16Writes", apart := false, narrowed := true }
def Uni16WritesUptoSaid : Prop := uni16WritesUptoRow.holds Try.pinned (OpenSpec.upto uni16WritesSpec)

/-- 'pilcrowlaw04.Uni16One', WHERE WHAT IT READS IS OF BULK AT MOST 1048576: true; the input reads as it did. -/
def uni16OneUptoRow : OpenClaim := { program := "ytjddbdhpdenaeaa", sum := "98835a2eb6b531377c26d53d7c0d14bef5d2edc0f87ee107e0713a9070abec1d", func := "pilcrow/pilcrowlaw04.Uni16One", spec := "uni16One", apart := false, narrowed := true }
def Uni16OneUptoSaid : Prop := uni16OneUptoRow.holds Try.pinned (OpenSpec.upto uni16OneSpec)

/-- 'pilcrowlaw04.Uni16Extends', WHERE WHAT IT READS IS OF BULK AT MOST 1048576: true; the input reads as it did. -/
def uni16ExtendsUptoRow : OpenClaim := { program := "ytjddbdhpdenaeaa", sum := "98835a2eb6b531377c26d53d7c0d14bef5d2edc0f87ee107e0713a9070abec1d", func := "pilcrow/pilcrowlaw04.Uni16Extends", spec := "uni16Extends", apart := false, narrowed := true }
def Uni16ExtendsUptoSaid : Prop := uni16ExtendsUptoRow.holds Try.pinned (OpenSpec.upto uni16ExtendsSpec)

/-- 'pilcrowlaw04.Uni16Turned', WHERE WHAT IT READS IS OF BULK AT MOST 1048576: true; the input reads as it did. -/
def uni16TurnedUptoRow : OpenClaim := { program := "ytjddbdhpdenaeaa", sum := "98835a2eb6b531377c26d53d7c0d14bef5d2edc0f87ee107e0713a9070abec1d", func := "pilcrow/pilcrowlaw04.Uni16Turned", spec := "uni16Turned", apart := false, narrowed := true }
def Uni16TurnedUptoSaid : Prop := uni16TurnedUptoRow.holds Try.pinned (OpenSpec.upto uni16TurnedSpec)

/-- 'pilcrowlaw04.Uni16Back', WHERE WHAT IT READS IS OF BULK AT MOST 1048576: true; the input reads as it did. -/
def uni16BackUptoRow : OpenClaim := { program := "ytjddbdhpdenaeaa", sum := "98835a2eb6b531377c26d53d7c0d14bef5d2edc0f87ee107e0713a9070abec1d", func := "pilcrow/pilcrowlaw04.Uni16Back", spec := "uni16Back", apart := false, narrowed := true }
def Uni16BackUptoSaid : Prop := uni16BackUptoRow.holds Try.pinned (OpenSpec.upto uni16BackSpec)

end Rows
end Go.Proofs.Ytjddbdhpdenaeaa
