/-
  No cell of these rows narrows 'for every input' (looked for: loops, veiled, ifaces, maps, wideKeys, modest, calm, conditions, laid).
  DERIVED. THE GIVEN ROWS OF THIS SEAT. 6 by the template 'for every input the law returns true; each argument reads behind the call as it read before'; 0 by the template 'total and deterministic' (their statements: YtmegkiipeckkaaaTotals.lean).
  GIVEN WITH THE SEED: the statements are not yours to turn. If you find one false, say at which input.
  Laid BY PROGRAM, IN A SANDBOX (cutbox-rows.mjs): the forced cells as the released guide's own fill.sh prints them over the translation dd1db4fd43632f3b… (all of the seat's roots in one cut). By AI agents, Wed Nov 11 2026. No macro, syntax, notation, axiom, sorry.
-/
import Derived.Test.YtmegkiipeckkaaaChecked
import GoSem.Claim
import GoSem.ClaimJoined
import GoSem.ClaimMapViews
import Derived.JoinedTies
import Derived.KernelRfl
namespace Go.Proofs.Ytmegkiipeckkaaa
/- THE CELL 'sum', in the pinned program and in every row, IS THE sha256 OF THE DUMP (.gsa) THAT YtmegkiipeckkaaaProg.lean LOADS. Nothing in Lean hashes anything: it is a label: what it is worth is what the hold of that sum in a sandbox is worth. -/
noncomputable def Try.pinned : Pinned := { name := "ytmegkiipeckkaaa", sum := "dd1db4fd43632f3b2391570b0fea2481b28845b10eb26fe8e8fb7b61e54cd950", checked := Try.checked }
namespace Rows
def none {H : Type} : Left H := { results := [], args := [] }

/-- 'pilcrowlaw03.Uni8Order': WHATEVER THE INPUT: true; the input reads as it did. -/
def uni8OrderSpec : ChangeSpec := { name := "uni8Order", fn := fun _ => fun
  | [d1, d2] => { results := [.lit (.bool true)], args := [d1, d2] }
  | _ => none }
def uni8OrderRow : OpenClaim := { program := "ytmegkiipeckkaaa", sum := "dd1db4fd43632f3b2391570b0fea2481b28845b10eb26fe8e8fb7b61e54cd950", func := "pilcrow/pilcrowlaw03.Uni8Order", spec := "uni8Order", unfollowed := true, recurses := true, apart := false }
def Uni8OrderSaid : Prop := uni8OrderRow.holds Try.pinned (OpenSpec.ofChange uni8OrderSpec)

/-- ITS FALSE NEIGHBOUR: 'it returns false'. Refute it at one input. -/
def uni8OrderWrong : ChangeSpec := { name := "uni8Order", fn := fun _ => fun
  | [d1, d2] => { results := [.lit (.bool false)], args := [d1, d2] }
  | _ => none }
def Uni8OrderWrongFalsely : Prop := uni8OrderRow.holds Try.pinned (OpenSpec.ofChange uni8OrderWrong)

/-- 'pilcrowlaw03.Uni8Reads': WHATEVER THE INPUT: true; the input reads as it did. -/
def uni8ReadsSpec : ChangeSpec := { name := "uni8Reads", fn := fun _ => fun
  | [d1, d2, d3] => { results := [.lit (.bool true)], args := [d1, d2, d3] }
  | _ => none }
def uni8ReadsRow : OpenClaim := { program := "ytmegkiipeckkaaa", sum := "dd1db4fd43632f3b2391570b0fea2481b28845b10eb26fe8e8fb7b61e54cd950", func := "pilcrow/pilcrowlaw03.Uni8Reads", spec := "uni8Reads", unfollowed := true, recurses := true, apart := false }
def Uni8ReadsSaid : Prop := uni8ReadsRow.holds Try.pinned (OpenSpec.ofChange uni8ReadsSpec)

/-- ITS FALSE NEIGHBOUR: 'it returns false'. Refute it at one input. -/
def uni8ReadsWrong : ChangeSpec := { name := "uni8Reads", fn := fun _ => fun
  | [d1, d2, d3] => { results := [.lit (.bool false)], args := [d1, d2, d3] }
  | _ => none }
def Uni8ReadsWrongFalsely : Prop := uni8ReadsRow.holds Try.pinned (OpenSpec.ofChange uni8ReadsWrong)

/-- 'pilcrowlaw03.Uni8Writes': WHATEVER THE INPUT: true; the input reads as it did. -/
def uni8WritesSpec : ChangeSpec := { name := "uni8Writes", fn := fun _ => fun
  | [d1, d2, d3] => { results := [.lit (.bool true)], args := [d1, d2, d3] }
  | _ => none }
def uni8WritesRow : OpenClaim := { program := "ytmegkiipeckkaaa", sum := "dd1db4fd43632f3b2391570b0fea2481b28845b10eb26fe8e8fb7b61e54cd950", func := "pilcrow/pilcrowlaw03.Uni8Writes", spec := "uni8Writes", unfollowed := true, recurses := true, apart := false }
def Uni8WritesSaid : Prop := uni8WritesRow.holds Try.pinned (OpenSpec.ofChange uni8WritesSpec)

/-- ITS FALSE NEIGHBOUR: 'it returns false'. Refute it at one input. -/
def uni8WritesWrong : ChangeSpec := { name := "uni8Writes", fn := fun _ => fun
  | [d1, d2, d3] => { results := [.lit (.bool false)], args := [d1, d2, d3] }
  | _ => none }
def Uni8WritesWrongFalsely : Prop := uni8WritesRow.holds Try.pinned (OpenSpec.ofChange uni8WritesWrong)

/-- 'pilcrowlaw03.Uni8One': WHATEVER THE INPUT: true; the input reads as it did. -/
def uni8OneSpec : ChangeSpec := { name := "uni8One", fn := fun _ => fun
  | [d] => { results := [.lit (.bool true)], args := [d] }
  | _ => none }
def uni8OneRow : OpenClaim := { program := "ytmegkiipeckkaaa", sum := "dd1db4fd43632f3b2391570b0fea2481b28845b10eb26fe8e8fb7b61e54cd950", func := "pilcrow/pilcrowlaw03.Uni8One", spec := "uni8One", unfollowed := true, recurses := true, apart := false }
def Uni8OneSaid : Prop := uni8OneRow.holds Try.pinned (OpenSpec.ofChange uni8OneSpec)

/-- ITS FALSE NEIGHBOUR: 'it returns false'. Refute it at one input. -/
def uni8OneWrong : ChangeSpec := { name := "uni8One", fn := fun _ => fun
  | [d] => { results := [.lit (.bool false)], args := [d] }
  | _ => none }
def Uni8OneWrongFalsely : Prop := uni8OneRow.holds Try.pinned (OpenSpec.ofChange uni8OneWrong)

/-- 'pilcrowlaw03.Uni8Extends': WHATEVER THE INPUT: true; the input reads as it did. -/
def uni8ExtendsSpec : ChangeSpec := { name := "uni8Extends", fn := fun _ => fun
  | [d1, d2] => { results := [.lit (.bool true)], args := [d1, d2] }
  | _ => none }
def uni8ExtendsRow : OpenClaim := { program := "ytmegkiipeckkaaa", sum := "dd1db4fd43632f3b2391570b0fea2481b28845b10eb26fe8e8fb7b61e54cd950", func := "pilcrow/pilcrowlaw03.Uni8Extends", spec := "uni8Extends", unfollowed := true, recurses := true, apart := false }
def Uni8ExtendsSaid : Prop := uni8ExtendsRow.holds Try.pinned (OpenSpec.ofChange uni8ExtendsSpec)

/-- ITS FALSE NEIGHBOUR: 'it returns false'. Refute it at one input. -/
def uni8ExtendsWrong : ChangeSpec := { name := "uni8Extends", fn := fun _ => fun
  | [d1, d2] => { results := [.lit (.bool false)], args := [d1, d2] }
  | _ => none }
def Uni8ExtendsWrongFalsely : Prop := uni8ExtendsRow.holds Try.pinned (OpenSpec.ofChange uni8ExtendsWrong)

/-- 'pilcrowlaw03.Uni8Back': WHATEVER THE INPUT: true; the input reads as it did. -/
def uni8BackSpec : ChangeSpec := { name := "uni8Back", fn := fun _ => fun
  | [d1, d2, d3] => { results := [.lit (.bool true)], args := [d1, d2, d3] }
  | _ => none }
def uni8BackRow : OpenClaim := { program := "ytmegkiipeckkaaa", sum := "dd1db4fd43632f3b2391570b0fea2481b28845b10eb26fe8e8fb7b61e54cd950", func := "pilcrow/pilcrowlaw03.Uni8Back", spec := "uni8Back", unfollowed := true, recurses := true, apart := false }
def Uni8BackSaid : Prop := uni8BackRow.holds Try.pinned (OpenSpec.ofChange uni8BackSpec)

/-- ITS FALSE NEIGHBOUR: 'it returns false'. Refute it at one input. -/
def uni8BackWrong : ChangeSpec := { name := "uni8Back", fn := fun _ => fun
  | [d1, d2, d3] => { results := [.lit (.bool false)], args := [d1, d2, d3] }
  | _ => none }
def Uni8BackWrongFalsely : Prop := uni8BackRow.holds Try.pinned (OpenSpec.ofChange uni8BackWrong)

/- THE SECOND FORM. 'bulk': how many values and letters a reading holds, each counted each time it is reached (what is shared counts as often as it is met; a slice's spare places count too). A statement '..UptoSaid' is the law's where the arguments, and the package variables that the reading takes, are together of bulk at most 1048576: NARROWER than '..Said'. Prove '..Said' where nothing that the law and all that it calls make is longer than what came in: it says more and counts as full. Else prove '..UptoSaid'. A law counts once. -/
mutual
def uptoBulk {H : Type} : DataW H → Nat
  | .lit (.string bytes) => bytes.length + 1
  | .lit _ => 1
  | .nil => 1
  | .ptr d => uptoBulk d + 1
  | .slice elems spare => uptoBulkAll elems + uptoBulkAll spare + 1
  | .agg parts => uptoBulkAll parts + 1
  | .iface _ d => uptoBulk d + 1
  | .map entries => uptoBulkEntries entries + 1
  | .held _ => 1
def uptoBulkAll {H : Type} : List (DataW H) → Nat
  | [] => 0
  | d :: r => uptoBulk d + uptoBulkAll r
def uptoBulkEntries {H : Type} : List (Lit × DataW H) → Nat
  | [] => 0
  | x :: r => uptoBulkEntry x + uptoBulkEntries r
def uptoBulkEntry {H : Type} : Lit × DataW H → Nat
  | (.string bytes, d) => bytes.length + uptoBulk d + 1
  | (_, d) => uptoBulk d + 1
 end
def uptoSmall : (H : Type) → List (DataW H) → Bool := fun _ ds => decide (uptoBulkAll ds ≤ 1048576)
def OpenSpec.upto (s : _root_.Go.ChangeSpec) : _root_.Go.OpenSpec := { _root_.Go.OpenSpec.ofChange s with cond := some uptoSmall }

/-- 'pilcrowlaw03.Uni8Order', WHERE WHAT IT READS IS OF BULK AT MOST 1048576: true; the input reads as it did. -/
def uni8OrderUptoRow : OpenClaim := { program := "ytmegkiipeckkaaa", sum := "dd1db4fd43632f3b2391570b0fea2481b28845b10eb26fe8e8fb7b61e54cd950", func := "pilcrow/pilcrowlaw03.Uni8Order", spec := "uni8Order", unfollowed := true, recurses := true, apart := false, narrowed := true }
def Uni8OrderUptoSaid : Prop := uni8OrderUptoRow.holds Try.pinned (OpenSpec.upto uni8OrderSpec)

/-- 'pilcrowlaw03.Uni8Reads', WHERE WHAT IT READS IS OF BULK AT MOST 1048576: true; the input reads as it did. -/
def uni8ReadsUptoRow : OpenClaim := { program := "ytmegkiipeckkaaa", sum := "dd1db4fd43632f3b2391570b0fea2481b28845b10eb26fe8e8fb7b61e54cd950", func := "pilcrow/pilcrowlaw03.Uni8Reads", spec := "uni8Reads", unfollowed := true, recurses := true, apart := false, narrowed := true }
def Uni8ReadsUptoSaid : Prop := uni8ReadsUptoRow.holds Try.pinned (OpenSpec.upto uni8ReadsSpec)

/-- 'pilcrowlaw03.Uni8Writes', WHERE WHAT IT READS IS OF BULK AT MOST 1048576: true; the input reads as it did. -/
def uni8WritesUptoRow : OpenClaim := { program := "ytmegkiipeckkaaa", sum := "dd1db4fd43632f3b2391570b0fea2481b28845b10eb26fe8e8fb7b61e54cd950", func := "pilcrow/pilcrowlaw03.Uni8Writes", spec := "uni8Writes", unfollowed := true, recurses := true, apart := false, narrowed := true }
def Uni8WritesUptoSaid : Prop := uni8WritesUptoRow.holds Try.pinned (OpenSpec.upto uni8WritesSpec)

/-- 'pilcrowlaw03.Uni8One', WHERE WHAT IT READS IS OF BULK AT MOST 1048576: true; the input reads as it did. -/
def uni8OneUptoRow : OpenClaim := { program := "ytmegkiipeckkaaa", sum := "dd1db4fd43632f3b2391570b0fea2481b28845b10eb26fe8e8fb7b61e54cd950", func := "pilcrow/pilcrowlaw03.Uni8One", spec := "uni8One", unfollowed := true, recurses := true, apart := false, narrowed := true }
def Uni8OneUptoSaid : Prop := uni8OneUptoRow.holds Try.pinned (OpenSpec.upto uni8OneSpec)

/-- 'pilcrowlaw03.Uni8Extends', WHERE WHAT IT READS IS OF BULK AT MOST 1048576: true; the input reads as it did. -/
def uni8ExtendsUptoRow : OpenClaim := { program := "ytmegkiipeckkaaa", sum := "dd1db4fd43632f3b2391570b0fea2481b28845b10eb26fe8e8fb7b61e54cd950", func := "pilcrow/pilcrowlaw03.Uni8Extends", spec := "uni8Extends", unfollowed := true, recurses := true, apart := false, narrowed := true }
def Uni8ExtendsUptoSaid : Prop := uni8ExtendsUptoRow.holds Try.pinned (OpenSpec.upto uni8ExtendsSpec)

/-- 'pilcrowlaw03.Uni8Back', WHERE WHAT IT READS IS OF BULK AT MOST 1048576: true; the input reads as it did. -/
def uni8BackUptoRow : OpenClaim := { program := "ytmegkiipeckkaaa", sum := "dd1db4fd43632f3b2391570b0fea2481b28845b10eb26fe8e8fb7b61e54cd950", func := "pilcrow/pilcrowlaw03.Uni8Back", spec := "uni8Back", unfollowed := true, recurses := true, apart := false, narrowed := true }
def Uni8BackUptoSaid : Prop := uni8BackUptoRow.holds Try.pinned (OpenSpec.upto uni8BackSpec)

end Rows
end Go.Proofs.Ytmegkiipeckkaaa
