/-
  No cell of these rows narrows 'for every input' (looked for: loops, veiled, ifaces, maps, wideKeys, modest, calm, conditions, laid).
  DERIVED. THE GIVEN ROWS OF THIS SEAT. 6 by the template 'for every input the law returns true; each argument reads behind the call as it read before'; 0 by the template 'total and deterministic' (their statements: YtolhfpboieimcaaTotals.lean).
  GIVEN WITH THE SEED: the statements are not yours to turn. If you find one false, say at which input.
  Laid BY PROGRAM, IN A SANDBOX (cutbox-rows.mjs): the forced cells as the released guide's own fill.sh prints them over the translation 27b0d4a5b67e85a3… (all of the seat's roots in one cut). By AI agents, Wed Nov 11 2026. No macro, syntax, notation, axiom, sorry.
-/
import Derived.Test.YtolhfpboieimcaaChecked
import GoSem.Claim
import GoSem.ClaimJoined
import GoSem.ClaimMapViews
import Derived.JoinedTies
import Derived.KernelRfl
namespace Go.Proofs.Ytolhfpboieimcaa
/- THE CELL 'sum', in the pinned program and in every row, IS THE sha256 OF THE DUMP (.gsa) THAT YtolhfpboieimcaaProg.lean LOADS. Nothing in Lean hashes anything: it is a label: what it is worth is what the hold of that sum in a sandbox is worth. -/
noncomputable def Try.pinned : Pinned := { name := "ytolhfpboieimcaa", sum := "27b0d4a5b67e85a3ff36f0164d257b424082a6fd93d8c631af26ff5354e6d329", checked := Try.checked }
namespace Rows
def none {H : Type} : Left H := { results := [], args := [] }

/-- 'pilcrowlaw06.Mod8Order': WHATEVER THE INPUT: true; the input reads as it did. -/
def mod8OrderSpec : ChangeSpec := { name := "mod8Order", fn := fun _ => fun
  | [d1, d2] => { results := [.lit (.bool true)], args := [d1, d2] }
  | _ => none }
def mod8OrderRow : OpenClaim := { program := "ytolhfpboieimcaa", sum := "27b0d4a5b67e85a3ff36f0164d257b424082a6fd93d8c631af26ff5354e6d329", func := "pilcrow/pilcrowlaw06.Mod8Order", spec := "mod8Order", apart := false }
def Mod8OrderSaid : Prop := mod8OrderRow.holds Try.pinned (OpenSpec.ofChange mod8OrderSpec)

/-- ITS FALSE NEIGHBOUR: 'it returns false'. Refute it at one input. -/
def mod8OrderWrong : ChangeSpec := { name := "mod8Order", fn := fun _ => fun
  | [d1, d2] => { results := [.lit (.bool false)], args := [d1, d2] }
  | _ => none }
def Mod8OrderWrongFalsely : Prop := mod8OrderRow.holds Try.pinned (OpenSpec.ofChange mod8OrderWrong)

/-- 'pilcrowlaw06.Mod8Reads': WHATEVER THE INPUT: true; the input reads as it did. -/
def mod8ReadsSpec : ChangeSpec := { name := "mod8Reads", fn := fun _ => fun
  | [d1, d2, d3] => { results := [.lit (.bool true)], args := [d1, d2, d3] }
  | _ => none }
def mod8ReadsRow : OpenClaim := { program := "ytolhfpboieimcaa", sum := "27b0d4a5b67e85a3ff36f0164d257b424082a6fd93d8c631af26ff5354e6d329", func := "pilcrow/pilcrowlaw06.Mod8Reads", spec := "mod8Reads", apart := false }
def Mod8ReadsSaid : Prop := mod8ReadsRow.holds Try.pinned (OpenSpec.ofChange mod8ReadsSpec)

/-- ITS FALSE NEIGHBOUR: 'it returns false'. Refute it at one input. -/
def mod8ReadsWrong : ChangeSpec := { name := "mod8Reads", fn := fun _ => fun
  | [d1, d2, d3] => { results := [.lit (.bool false)], args := [d1, d2, d3] }
  | _ => none }
def Mod8ReadsWrongFalsely : Prop := mod8ReadsRow.holds Try.pinned (OpenSpec.ofChange mod8ReadsWrong)

/-- 'pilcrowlaw06.Mod8Writes': WHATEVER THE INPUT: true; the input reads as it did. -/
def mod8WritesSpec : ChangeSpec := { name := "mod8Writes", fn := fun _ => fun
  | [d1, d2, d3] => { results := [.lit (.bool true)], args := [d1, d2, d3] }
  | _ => none }
def mod8WritesRow : OpenClaim := { program := "ytolhfpboieimcaa", sum := "27b0d4a5b67e85a3ff36f0164d257b424082a6fd93d8c631af26ff5354e6d329", func := "pilcrow/pilcrowlaw06.Mod8Writes", spec := "mod8Writes", apart := false }
def Mod8WritesSaid : Prop := mod8WritesRow.holds Try.pinned (OpenSpec.ofChange mod8WritesSpec)

/-- ITS FALSE NEIGHBOUR: 'it returns false'. Refute it at one input. -/
def mod8WritesWrong : ChangeSpec := { name := "mod8Writes", fn := fun _ => fun
  | [d1, d2, d3] => { results := [.lit (.bool false)], args := [d1, d2, d3] }
  | _ => none }
def Mod8WritesWrongFalsely : Prop := mod8WritesRow.holds Try.pinned (OpenSpec.ofChange mod8WritesWrong)

/-- 'pilcrowlaw06.Mod8One': WHATEVER THE INPUT: true; the input reads as it did. -/
def mod8OneSpec : ChangeSpec := { name := "mod8One", fn := fun _ => fun
  | [d] => { results := [.lit (.bool true)], args := [d] }
  | _ => none }
def mod8OneRow : OpenClaim := { program := "ytolhfpboieimcaa", sum := "27b0d4a5b67e85a3ff36f0164d257b424082a6fd93d8c631af26ff5354e6d329", func := "pilcrow/pilcrowlaw06.Mod8One", spec := "mod8One", apart := false }
def Mod8OneSaid : Prop := mod8OneRow.holds Try.pinned (OpenSpec.ofChange mod8OneSpec)

/-- ITS FALSE NEIGHBOUR: 'it returns false'. Refute it at one input. -/
def mod8OneWrong : ChangeSpec := { name := "mod8One", fn := fun _ => fun
  | [d] => { results := [.lit (.bool false)], args := [d] }
  | _ => none }
def Mod8OneWrongFalsely : Prop := mod8OneRow.holds Try.pinned (OpenSpec.ofChange mod8OneWrong)

/-- 'pilcrowlaw06.Mod8Extends': WHATEVER THE INPUT: true; the input reads as it did. -/
def mod8ExtendsSpec : ChangeSpec := { name := "mod8Extends", fn := fun _ => fun
  | [d1, d2] => { results := [.lit (.bool true)], args := [d1, d2] }
  | _ => none }
def mod8ExtendsRow : OpenClaim := { program := "ytolhfpboieimcaa", sum := "27b0d4a5b67e85a3ff36f0164d257b424082a6fd93d8c631af26ff5354e6d329", func := "pilcrow/pilcrowlaw06.Mod8Extends", spec := "mod8Extends", apart := false }
def Mod8ExtendsSaid : Prop := mod8ExtendsRow.holds Try.pinned (OpenSpec.ofChange mod8ExtendsSpec)

/-- ITS FALSE NEIGHBOUR: 'it returns false'. Refute it at one input. -/
def mod8ExtendsWrong : ChangeSpec := { name := "mod8Extends", fn := fun _ => fun
  | [d1, d2] => { results := [.lit (.bool false)], args := [d1, d2] }
  | _ => none }
def Mod8ExtendsWrongFalsely : Prop := mod8ExtendsRow.holds Try.pinned (OpenSpec.ofChange mod8ExtendsWrong)

/-- 'pilcrowlaw06.Mod8Back': WHATEVER THE INPUT: true; the input reads as it did. -/
def mod8BackSpec : ChangeSpec := { name := "mod8Back", fn := fun _ => fun
  | [d1, d2, d3] => { results := [.lit (.bool true)], args := [d1, d2, d3] }
  | _ => none }
def mod8BackRow : OpenClaim := { program := "ytolhfpboieimcaa", sum := "27b0d4a5b67e85a3ff36f0164d257b424082a6fd93d8c631af26ff5354e6d329", func := "pilcrow/pilcrowlaw06.Mod8Back", spec := "mod8Back", apart := false }
def Mod8BackSaid : Prop := mod8BackRow.holds Try.pinned (OpenSpec.ofChange mod8BackSpec)

/-- ITS FALSE NEIGHBOUR: 'it returns false'. Refute it at one input. -/
def mod8BackWrong : ChangeSpec := { name := "mod8Back", fn := fun _ => fun
  | [d1, d2, d3] => { results := [.lit (.bool false)], args := [d1, d2, d3] }
  | _ => none }
def Mod8BackWrongFalsely : Prop := mod8BackRow.holds Try.pinned (OpenSpec.ofChange mod8BackWrong)

/- THE SECOND FORM. 'bulk': how many values and letters a reading holds, each counted each time it is reached (what is shared counts as often as it is met; a slice's spare places count too). A statement '..UptoSaid' is the law's where the arguments, and the package variables that the reading takes, are together of bulk at most 1048576: NARROWER than '..Said'. Prove '..Said' where nothing that the law and all that it calls make is longer than what came in: it says more and counts as full. Else prove '..UptoSaid'. A law counts once. -/
mutual
def uptoBulk {H : Type} : DataW H → Nat
  | .lit (.string bytes) => bytes.length + 1
  | .lit _ => 1
  | .nil => 1
  | .ptr d => uptoBulk d + 1
  | .slice elems spare => uptoBulkAll elems + uptoBulkAll spare + 1
  | .agg parts => uptoBulkAll parts + 1
  | .iface _ d => uptoBulk d + 1
  | .map entries => uptoBulkEntries entries + 1
  | .held _ => 1
def uptoBulkAll {H : Type} : List (DataW H) → Nat
  | [] => 0
  | d :: r => uptoBulk d + uptoBulkAll r
def uptoBulkEntries {H : Type} : List (Lit × DataW H) → Nat
  | [] => 0
  | x :: r => uptoBulkEntry x + uptoBulkEntries r
def uptoBulkEntry {H : Type} : Lit × DataW H → Nat
  | (.string bytes, d) => bytes.length + uptoBulk d + 1
  | (_, d) => uptoBulk d + 1
 end
def uptoSmall : (H : Type) → List (DataW H) → Bool := fun _ ds => decide (uptoBulkAll ds ≤ 1048576)
def OpenSpec.upto (s : _root_.Go.ChangeSpec) : _root_.Go.OpenSpec := { _root_.Go.OpenSpec.ofChange s with cond := some uptoSmall }

/-- 'pilcrowlaw06.Mod8Order', WHERE WHAT IT READS IS OF BULK AT MOST 1048576: true; the input reads as it did. -/
def mod8OrderUptoRow : OpenClaim := { program := "ytolhfpboieimcaa", sum := "27b0d4a5b67e85a3ff36f0164d257b424082a6fd93d8c631af26ff5354e6d329", func := "pilcrow/pilcrowlaw06.Mod8Order", spec := "mod8Order", apart := false, narrowed := true }
def Mod8OrderUptoSaid : Prop := mod8OrderUptoRow.holds Try.pinned (OpenSpec.upto mod8OrderSpec)

/-- 'pilcrowlaw06.Mod8Reads', WHERE WHAT IT READS IS OF BULK AT MOST 1048576: true; the input reads as it did. -/
def mod8ReadsUptoRow : OpenClaim := { program := "ytolhfpboieimcaa", sum := "27b0d4a5b67e85a3ff36f0164d257b424082a6fd93d8c631af26ff5354e6d329", func := "pilcrow/pilcrowlaw06.Mod8Reads", spec := "mod8Reads", apart := false, narrowed := true }
def Mod8ReadsUptoSaid : Prop := mod8ReadsUptoRow.holds Try.pinned (OpenSpec.upto mod8ReadsSpec)

/-- 'pilcrowlaw06.Mod8Writes', WHERE WHAT IT READS IS OF BULK AT MOST 1048576: true; the input reads as it did. -/
def mod8WritesUptoRow : OpenClaim := { program := "ytolhfpboieimcaa", sum := "27b0d4a5b67e85a3ff36f0164d257b424082a6fd93d8c631af26ff5354e6d329", func := "pilcrow/pilcrowlaw06.Mod8Writes", spec := "mod8Writes", apart := false, narrowed := true }
def Mod8WritesUptoSaid : Prop := mod8WritesUptoRow.holds Try.pinned (OpenSpec.upto mod8WritesSpec)

/-- 'pilcrowlaw06.Mod8One', WHERE WHAT IT READS IS OF BULK AT MOST 1048576: true; the input reads as it did. -/
def mod8OneUptoRow : OpenClaim := { program := "ytolhfpboieimcaa", sum := "27b0d4a5b67e85a3ff36f0164d257b424082a6fd93d8c631af26ff5354e6d329", func := "pilcrow/pilcrowlaw06.Mod8One", spec := "mod8One", apart := false, narrowed := true }
def Mod8OneUptoSaid : Prop := mod8OneUptoRow.holds Try.pinned (OpenSpec.upto mod8OneSpec)

/-- 'pilcrowlaw06.Mod8Extends', WHERE WHAT IT READS IS OF BULK AT MOST 1048576: true; the input reads as it did. -/
def mod8ExtendsUptoRow : OpenClaim := { program := "ytolhfpboieimcaa", sum := "27b0d4a5b67e85a3ff36f0164d257b424082a6fd93d8c631af26ff5354e6d329", func := "pilcrow/pilcrowlaw06.Mod8Extends", spec := "mod8Extends", apart := false, narrowed := true }
def Mod8ExtendsUptoSaid : Prop := mod8ExtendsUptoRow.holds Try.pinned (OpenSpec.upto mod8ExtendsSpec)

/-- 'pilcrowlaw06.Mod8Back', WHERE WHAT IT READS IS OF BULK AT MOST 1048576: true; the input reads as it did. -/
def mod8BackUptoRow : OpenClaim := { program := "ytolhfpboieimcaa", sum := "27b0d4a5b67e85a3ff36f0164d257b424082a6fd93d8c631af26ff5354e6d329", func := "pilcrow/pilcrowlaw06.Mod8Back", spec := "mod8Back", apart := false, narrowed := true }
def Mod8BackUptoSaid : Prop := mod8BackUptoRow.holds Try.pinned (OpenSpec.upto mod8BackSpec)

end Rows
end Go.Proofs.Ytolhfpboieimcaa
