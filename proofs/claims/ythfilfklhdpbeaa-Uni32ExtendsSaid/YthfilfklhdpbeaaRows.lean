/-
  No cell of these rows narrows 'for every input' (looked for: loops, veiled, ifaces, maps, wideKeys, modest, calm, conditions, laid).
  DERIVED. THE GIVEN ROWS OF THIS SEAT. 6 by the template 'for every input the law returns true; each argument reads behind the call as it read before'; 0 by the template 'total and deterministic' (their statements: YthfilfklhdpbeaaTotals.lean).
  GIVEN WITH THE SEED: the statements are not yours to turn. If you find one false, say at which input.
  Laid BY PROGRAM, IN A SANDBOX (cutbox-rows.mjs): the forced cells as the released guide's own fill.sh prints them over the translation 81e7770b197042d0… (all of the seat's roots in one cut). By AI agents, Wed Nov 11 2026. No macro, syntax, notation, axiom, sorry.
-/
import Derived.Test.YthfilfklhdpbeaaChecked
import GoSem.Claim
import GoSem.ClaimJoined
import GoSem.ClaimMapViews
import Derived.JoinedTies
import Derived.KernelRfl
namespace Go.Proofs.Ythfilfklhdpbeaa
/- THE CELL 'sum', in the pinned program and in every row, IS THE sha256 OF THE DUMP (.gsa) THAT YthfilfklhdpbeaaProg.lean LOADS. Nothing in Lean hashes anything: it is a label: what it is worth is what the hold of that sum in a sandbox is worth. -/
noncomputable def Try.pinned : Pinned := { name := "ythfilfklhdpbeaa", sum := "81e7770b197042d03ad8f9269c4d8a5e85c15b6baa39226f5ba9818294f59d4c", checked := Try.checked }
namespace Rows
def none {H : Type} : Left H := { results := [], args := [] }

/-- 'pilcrowlaw05.Uni32Words': WHATEVER THE INPUT: true; the input reads as it did. -/
def uni32WordsSpec : ChangeSpec := { name := "uni32Words", fn := fun _ => fun
  | [d1, d2] => { results := [.lit (.bool true)], args := [d1, d2] }
  | _ => none }
def uni32WordsRow : OpenClaim := { program := "ythfilfklhdpbeaa", sum := "81e7770b197042d03ad8f9269c4d8a5e85c15b6baa39226f5ba9818294f59d4c", func := "pilcrow/pilcrowlaw05.Uni32Words", spec := "uni32Words", apart := false }
def Uni32WordsSaid : Prop := uni32WordsRow.holds Try.pinned (OpenSpec.ofChange uni32WordsSpec)

/-- ITS FALSE NEIGHBOUR: 'it returns false'. Refute it at one input. -/
def uni32WordsWrong : ChangeSpec := { name := "uni32Words", fn := fun _ => fun
  | [d1, d2] => { results := [.lit (.bool false)], args := [d1, d2] }
  | _ => none }
def Uni32WordsWrongFalsely : Prop := uni32WordsRow.holds Try.pinned (OpenSpec.ofChange uni32WordsWrong)

/-- 'pilcrowlaw05.Uni32Reads': WHATEVER THE INPUT: true; the input reads as it did. -/
def uni32ReadsSpec : ChangeSpec := { name := "uni32Reads", fn := fun _ => fun
  | [d1, d2, d3] => { results := [.lit (.bool true)], args := [d1, d2, d3] }
  | _ => none }
def uni32ReadsRow : OpenClaim := { program := "ythfilfklhdpbeaa", sum := "81e7770b197042d03ad8f9269c4d8a5e85c15b6baa39226f5ba9818294f59d4c", func := "pilcrow/pilcrowlaw05.Uni32Reads", spec := "uni32Reads", apart := false }
def Uni32ReadsSaid : Prop := uni32ReadsRow.holds Try.pinned (OpenSpec.ofChange uni32ReadsSpec)

/-- ITS FALSE NEIGHBOUR: 'it returns false'. Refute it at one input. -/
def uni32ReadsWrong : ChangeSpec := { name := "uni32Reads", fn := fun _ => fun
  | [d1, d2, d3] => { results := [.lit (.bool false)], args := [d1, d2, d3] }
  | _ => none }
def Uni32ReadsWrongFalsely : Prop := uni32ReadsRow.holds Try.pinned (OpenSpec.ofChange uni32ReadsWrong)

/-- 'pilcrowlaw05.Uni32Writes': WHATEVER THE INPUT: true; the input reads as it did. -/
def uni32WritesSpec : ChangeSpec := { name := "uni32Writes", fn := fun _ => fun
  | [d1, d2, d3] => { results := [.lit (.bool true)], args := [d1, d2, d3] }
  | _ => none }
def uni32WritesRow : OpenClaim := { program := "ythfilfklhdpbeaa", sum := "81e7770b197042d03ad8f9269c4d8a5e85c15b6baa39226f5ba9818294f59d4c", func := "pilcrow/pilcrowlaw05.Uni32Writes", spec := "uni32Writes", apart := false }
def Uni32WritesSaid : Prop := uni32WritesRow.holds Try.pinned (OpenSpec.ofChange uni32WritesSpec)

/-- ITS FALSE NEIGHBOUR: 'it returns false'. Refute it at one input. -/
def uni32WritesWrong : ChangeSpec := { name := "uni32Writes", fn := fun _ => fun
  | [d1, d2, d3] => { results := [.lit (.bool false)], args := [d1, d2, d3] }
  | _ => none }
def Uni32WritesWrongFalsely : Prop := uni32WritesRow.holds Try.pinned (OpenSpec.ofChange uni32WritesWrong)

/-- 'pilcrowlaw05.Uni32One': WHATEVER THE INPUT: true; the input reads as it did. -/
def uni32OneSpec : ChangeSpec := { name := "uni32One", fn := fun _ => fun
  | [d1, d2] => { results := [.lit (.bool true)], args := [d1, d2] }
  | _ => none }
def uni32OneRow : OpenClaim := { program := "ythfilfklhdpbeaa", sum := "81e7770b197042d03ad8f9269c4d8a5e85c15b6baa39226f5ba9818294f59d4c", func := "pilcrow/pilcrowlaw05.Uni32One", spec := "uni32One", apart := false }
def Uni32OneSaid : Prop := uni32OneRow.holds Try.pinned (OpenSpec.ofChange uni32OneSpec)

/-- ITS FALSE NEIGHBOUR: 'it returns false'. Refute it at one input. -/
def uni32OneWrong : ChangeSpec := { name := "uni32One", fn := fun _ => fun
  | [d1, d2] => { results := [.lit (.bool false)], args := [d1, d2] }
  | _ => none }
def Uni32OneWrongFalsely : Prop := uni32OneRow.holds Try.pinned (OpenSpec.ofChange uni32OneWrong)

/-- 'pilcrowlaw05.Uni32Extends': WHATEVER THE INPUT: true; the input reads as it did. -/
def uni32ExtendsSpec : ChangeSpec := { name := "uni32Extends", fn := fun _ => fun
  | [d1, d2, d3] => { results := [.lit (.bool true)], args := [d1, d2, d3] }
  | _ => none }
def uni32ExtendsRow : OpenClaim := { program := "ythfilfklhdpbeaa", sum := "81e7770b197042d03ad8f9269c4d8a5e85c15b6baa39226f5ba9818294f59d4c", func := "pilcrow/pilcrowlaw05.Uni32Extends", spec := "uni32Extends", apart := false }
def Uni32ExtendsSaid : Prop := uni32ExtendsRow.holds Try.pinned (OpenSpec.ofChange uni32ExtendsSpec)

/-- ITS FALSE NEIGHBOUR: 'it returns false'. Refute it at one input. -/
def uni32ExtendsWrong : ChangeSpec := { name := "uni32Extends", fn := fun _ => fun
  | [d1, d2, d3] => { results := [.lit (.bool false)], args := [d1, d2, d3] }
  | _ => none }
def Uni32ExtendsWrongFalsely : Prop := uni32ExtendsRow.holds Try.pinned (OpenSpec.ofChange uni32ExtendsWrong)

/-- 'pilcrowlaw05.Uni32Back': WHATEVER THE INPUT: true; the input reads as it did. -/
def uni32BackSpec : ChangeSpec := { name := "uni32Back", fn := fun _ => fun
  | [d1, d2, d3] => { results := [.lit (.bool true)], args := [d1, d2, d3] }
  | _ => none }
def uni32BackRow : OpenClaim := { program := "ythfilfklhdpbeaa", sum := "81e7770b197042d03ad8f9269c4d8a5e85c15b6baa39226f5ba9818294f59d4c", func := "pilcrow/pilcrowlaw05.Uni32Back", spec := "uni32Back", apart := false }
def Uni32BackSaid : Prop := uni32BackRow.holds Try.pinned (OpenSpec.ofChange uni32BackSpec)

/-- ITS FALSE NEIGHBOUR: 'it returns false'. Refute it at one input. -/
def uni32BackWrong : ChangeSpec := { name := "uni32Back", fn := fun _ => fun
  | [d1, d2, d3] => { results := [.lit (.bool false)], args := [d1, d2, d3] }
  | _ => none }
def Uni32BackWrongFalsely : Prop := uni32BackRow.holds Try.pinned (OpenSpec.ofChange uni32BackWrong)

/- THE SECOND FORM. 'bulk': how many values and letters a reading holds, each counted each time it is reached (what is shared counts as often as it is met; a slice's spare places count too). A statement '..UptoSaid' is the law's where the arguments, and the package variables that the reading takes, are together of bulk at most 1048576: NARROWER than '..Said'. Prove '..Said' where nothing that the law and all that it calls make is longer than what came in: it says more and counts as full. Else prove '..UptoSaid'. A law counts once. -/
mutual
def uptoBulk {H : Type} : DataW H → Nat
  | .lit (.string bytes) => bytes.length + 1
  | .lit _ => 1
  | .nil => 1
  | .ptr d => uptoBulk d + 1
  | .slice elems spare => uptoBulkAll elems + uptoBulkAll spare + 1
  | .agg parts => uptoBulkAll parts + 1
  | .iface _ d => uptoBulk d + 1
  | .map entries => uptoBulkEntries entries + 1
  | .held _ => 1
def uptoBulkAll {H : Type} : List (DataW H) → Nat
  | [] => 0
  | d :: r => uptoBulk d + uptoBulkAll r
def uptoBulkEntries {H : Type} : List (Lit × DataW H) → Nat
  | [] => 0
  | x :: r => uptoBulkEntry x + uptoBulkEntries r
def uptoBulkEntry {H : Type} : Lit × DataW H → Nat
  | (.string bytes, d) => bytes.length + uptoBulk d + 1
  | (_, d) => uptoBulk d + 1
 end
def uptoSmall : (H : Type) → List (DataW H) → Bool := fun _ ds => decide (uptoBulkAll ds ≤ 1048576)
def OpenSpec.upto (s : _root_.Go.ChangeSpec) : _root_.Go.OpenSpec := { _root_.Go.OpenSpec.ofChange s with cond := some uptoSmall }

/-- 'pilcrowlaw05.Uni32Words', WHERE WHAT IT READS IS OF BULK AT MOST 1048576: true; the input reads as it did. -/
def uni32WordsUptoRow : OpenClaim := { program := "ythfilfklhdpbeaa", sum := "81e7770b197042d03ad8f9269c4d8a5e85c15b6baa39226f5ba9818294f59d4c", func := "pilcrow/pilcrowlaw05.Uni32Words", spec := "uni32Words", apart := false, narrowed := true }
def Uni32WordsUptoSaid : Prop := uni32WordsUptoRow.holds Try.pinned (OpenSpec.upto uni32WordsSpec)

/-- 'pilcrowlaw05.Uni32Reads', WHERE WHAT IT READS IS OF BULK AT MOST 1048576: true; the input reads as it did. -/
def uni32ReadsUptoRow : OpenClaim := { program := "ythfilfklhdpbeaa", sum := "81e7770b197042d03ad8f9269c4d8a5e85c15b6baa39226f5ba9818294f59d4c", func := "pilcrow/pilcrowlaw05.Uni32Reads", spec := "uni32Reads", apart := false, narrowed := true }
def Uni32ReadsUptoSaid : Prop := uni32ReadsUptoRow.holds Try.pinned (OpenSpec.upto uni32ReadsSpec)

/-- 'pilcrowlaw05.Uni32Writes', WHERE WHAT IT READS IS OF BULK AT MOST 1048576: true; the input reads as it did. -/
def uni32WritesUptoRow : OpenClaim := { program := "ythfilfklhdpbeaa", sum := "81e7770b197042d03ad8f9269c4d8a5e85c15b6baa39226f5ba9818294f59d4c", func := "pilcrow/pilcrowlaw05.Uni32Writes", spec := "uni32Writes", apart := false, narrowed := true }
def Uni32WritesUptoSaid : Prop := uni32WritesUptoRow.holds Try.pinned (OpenSpec.upto uni32WritesSpec)

/-- 'pilcrowlaw05.Uni32One', WHERE WHAT IT READS IS OF BULK AT MOST 1048576: true; the input reads as it did. -/
def uni32OneUptoRow : OpenClaim := { program := "ythfilfklhdpbeaa", sum := "81e7770b197042d03ad8f9269c4d8a5e85c15b6baa39226f5ba9818294f59d4c", func := "pilcrow/pilcrowlaw05.Uni32One", spec := "uni32One", apart := false, narrowed := true }
def Uni32OneUptoSaid : Prop := uni32OneUptoRow.holds Try.pinned (OpenSpec.upto uni32OneSpec)

/-- 'pilcrowlaw05.Uni32Extends', WHERE WHAT IT READS IS OF BULK AT MOST 1048576: true; the input reads as it did. -/
def uni32ExtendsUptoRow : OpenClaim := { program := "ythfilfklhdpbeaa", sum := "81e7770b197042d03ad8f9269c4d8a5e85c15b6baa39226f5ba9818294f59d4c", func := "pilcrow/pilcrowlaw05.Uni32Extends", spec := "uni32Extends", apart := false, narrowed := true }
def Uni32ExtendsUptoSaid : Prop := uni32ExtendsUptoRow.holds Try.pinned (OpenSpec.upto uni32ExtendsSpec)

/-- 'pilcrowlaw05.Uni32Back', WHERE WHAT IT READS IS OF BULK AT MOST 1048576: true; the input reads as it did. -/
def uni32BackUptoRow : OpenClaim := { program := "ythfilfklhdpbeaa", sum := "81e7770b197042d03ad8f9269c4d8a5e85c15b6baa39226f5ba9818294f59d4c", func := "pilcrow/pilcrowlaw05.Uni32Back", spec := "uni32Back", apart := false, narrowed := true }
def Uni32BackUptoSaid : Prop := uni32BackUptoRow.holds Try.pinned (OpenSpec.upto uni32BackSpec)

end Rows
end Go.Proofs.Ythfilfklhdpbeaa
