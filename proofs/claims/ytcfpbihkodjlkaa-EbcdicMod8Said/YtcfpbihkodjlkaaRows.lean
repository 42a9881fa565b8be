/-
  No cell of these rows narrows 'for every input' (looked for: loops, veiled, ifaces, maps, wideKeys, modest, calm, conditions, laid).
  DERIVED. THE GIVEN ROWS OF THIS SEAT. 7 by the template 'for every input the law returns true; each argument reads behind the call as it read before'; 0 by the template 'total and deterministic' (their statements: YtcfpbihkodjlkaaTotals.lean).
  GIVEN WITH THE SEED: the statements are not yours to turn. If you find one false, say at which input.
  Laid BY PROGRAM, IN A SANDBOX (cutbox-rows.mjs): the forced cells as the released guide's own fill.sh prints them over the translation 09a12b9aee5a69ef… (all of the seat's roots in one cut). By AI agents, Wed Nov 11 2026. No macro, syntax, notation, axiom, sorry.
-/
import Derived.Test.YtcfpbihkodjlkaaChecked
import GoSem.Claim
import GoSem.ClaimJoined
import GoSem.ClaimMapViews
import Derived.JoinedTies
import Derived.KernelRfl
namespace Go.Proofs.Ytcfpbihkodjlkaa
/- THE CELL 'sum', in the pinned program and in every row, IS THE sha256 OF THE DUMP (.gsa) THAT YtcfpbihkodjlkaaProg.lean LOADS. Nothing in Lean hashes anything: it is a label: what it is worth is what the hold of that sum in a sandbox is worth. -/
noncomputable def Try.pinned : Pinned := { name := "ytcfpbihkodjlkaa", sum := "09a12b9aee5a69efaa9f2d780f623ae088fa055bccfda79dd79dfd023152e66e", checked := Try.checked }
namespace Rows
def none {H : Type} : Left H := { results := [], args := [] }

/-- 'pilcrowlaw08.EbcdicControls': WHATEVER THE INPUT: true; the input reads as it did. -/
def ebcdicControlsSpec : ChangeSpec := { name := "ebcdicControls", fn := fun _ => fun
  | [d] => { results := [.lit (.bool true)], args := [d] }
  | _ => none }
def ebcdicControlsRow : OpenClaim := { program := "ytcfpbihkodjlkaa", sum := "09a12b9aee5a69efaa9f2d780f623ae088fa055bccfda79dd79dfd023152e66e", func := "pilcrow/pilcrowlaw08.EbcdicControls", spec := "ebcdicControls", apart := false }
def EbcdicControlsSaid : Prop := ebcdicControlsRow.holds Try.pinned (OpenSpec.ofChange ebcdicControlsSpec)

/-- ITS FALSE NEIGHBOUR: 'it returns false'. Refute it at one input. -/
def ebcdicControlsWrong : ChangeSpec := { name := "ebcdicControls", fn := fun _ => fun
  | [d] => { results := [.lit (.bool false)], args := [d] }
  | _ => none }
def EbcdicControlsWrongFalsely : Prop := ebcdicControlsRow.holds Try.pinned (OpenSpec.ofChange ebcdicControlsWrong)

/-- 'pilcrowlaw08.EbcdicReads': WHATEVER THE INPUT: true; the input reads as it did. -/
def ebcdicReadsSpec : ChangeSpec := { name := "ebcdicReads", fn := fun _ => fun
  | [d1, d2, d3] => { results := [.lit (.bool true)], args := [d1, d2, d3] }
  | _ => none }
def ebcdicReadsRow : OpenClaim := { program := "ytcfpbihkodjlkaa", sum := "09a12b9aee5a69efaa9f2d780f623ae088fa055bccfda79dd79dfd023152e66e", func := "pilcrow/pilcrowlaw08.EbcdicReads", spec := "ebcdicReads", apart := false }
def EbcdicReadsSaid : Prop := ebcdicReadsRow.holds Try.pinned (OpenSpec.ofChange ebcdicReadsSpec)

/-- ITS FALSE NEIGHBOUR: 'it returns false'. Refute it at one input. -/
def ebcdicReadsWrong : ChangeSpec := { name := "ebcdicReads", fn := fun _ => fun
  | [d1, d2, d3] => { results := [.lit (.bool false)], args := [d1, d2, d3] }
  | _ => none }
def EbcdicReadsWrongFalsely : Prop := ebcdicReadsRow.holds Try.pinned (OpenSpec.ofChange ebcdicReadsWrong)

/-- 'pilcrowlaw08.EbcdicWrites': WHATEVER THE INPUT: true; the input reads as it did. -/
def ebcdicWritesSpec : ChangeSpec := { name := "ebcdicWrites", fn := fun _ => fun
  | [d1, d2, d3] => { results := [.lit (.bool true)], args := [d1, d2, d3] }
  | _ => none }
def ebcdicWritesRow : OpenClaim := { program := "ytcfpbihkodjlkaa", sum := "09a12b9aee5a69efaa9f2d780f623ae088fa055bccfda79dd79dfd023152e66e", func := "pilcrow/pilcrowlaw08.EbcdicWrites", spec := "ebcdicWrites", apart := false }
def EbcdicWritesSaid : Prop := ebcdicWritesRow.holds Try.pinned (OpenSpec.ofChange ebcdicWritesSpec)

/-- ITS FALSE NEIGHBOUR: 'it returns false'. Refute it at one input. -/
def ebcdicWritesWrong : ChangeSpec := { name := "ebcdicWrites", fn := fun _ => fun
  | [d1, d2, d3] => { results := [.lit (.bool false)], args := [d1, d2, d3] }
  | _ => none }
def EbcdicWritesWrongFalsely : Prop := ebcdicWritesRow.holds Try.pinned (OpenSpec.ofChange ebcdicWritesWrong)

/-- 'pilcrowlaw08.EbcdicOne': WHATEVER THE INPUT: true; the input reads as it did. -/
def ebcdicOneSpec : ChangeSpec := { name := "ebcdicOne", fn := fun _ => fun
  | [d] => { results := [.lit (.bool true)], args := [d] }
  | _ => none }
def ebcdicOneRow : OpenClaim := { program := "ytcfpbihkodjlkaa", sum := "09a12b9aee5a69efaa9f2d780f623ae088fa055bccfda79dd79dfd023152e66e", func := "pilcrow/pilcrowlaw08.EbcdicOne", spec := "ebcdicOne", apart := false }
def EbcdicOneSaid : Prop := ebcdicOneRow.holds Try.pinned (OpenSpec.ofChange ebcdicOneSpec)

/-- ITS FALSE NEIGHBOUR: 'it returns false'. Refute it at one input. -/
def ebcdicOneWrong : ChangeSpec := { name := "ebcdicOne", fn := fun _ => fun
  | [d] => { results := [.lit (.bool false)], args := [d] }
  | _ => none }
def EbcdicOneWrongFalsely : Prop := ebcdicOneRow.holds Try.pinned (OpenSpec.ofChange ebcdicOneWrong)

/-- 'pilcrowlaw08.EbcdicExtends': WHATEVER THE INPUT: true; the input reads as it did. -/
def ebcdicExtendsSpec : ChangeSpec := { name := "ebcdicExtends", fn := fun _ => fun
  | [d1, d2] => { results := [.lit (.bool true)], args := [d1, d2] }
  | _ => none }
def ebcdicExtendsRow : OpenClaim := { program := "ytcfpbihkodjlkaa", sum := "09a12b9aee5a69efaa9f2d780f623ae088fa055bccfda79dd79dfd023152e66e", func := "pilcrow/pilcrowlaw08.EbcdicExtends", spec := "ebcdicExtends", apart := false }
def EbcdicExtendsSaid : Prop := ebcdicExtendsRow.holds Try.pinned (OpenSpec.ofChange ebcdicExtendsSpec)

/-- ITS FALSE NEIGHBOUR: 'it returns false'. Refute it at one input. -/
def ebcdicExtendsWrong : ChangeSpec := { name := "ebcdicExtends", fn := fun _ => fun
  | [d1, d2] => { results := [.lit (.bool false)], args := [d1, d2] }
  | _ => none }
def EbcdicExtendsWrongFalsely : Prop := ebcdicExtendsRow.holds Try.pinned (OpenSpec.ofChange ebcdicExtendsWrong)

/-- 'pilcrowlaw08.EbcdicBack': WHATEVER THE INPUT: true; the input reads as it did. -/
def ebcdicBackSpec : ChangeSpec := { name := "ebcdicBack", fn := fun _ => fun
  | [d1, d2, d3] => { results := [.lit (.bool true)], args := [d1, d2, d3] }
  | _ => none }
def ebcdicBackRow : OpenClaim := { program := "ytcfpbihkodjlkaa", sum := "09a12b9aee5a69efaa9f2d780f623ae088fa055bccfda79dd79dfd023152e66e", func := "pilcrow/pilcrowlaw08.EbcdicBack", spec := "ebcdicBack", apart := false }
def EbcdicBackSaid : Prop := ebcdicBackRow.holds Try.pinned (OpenSpec.ofChange ebcdicBackSpec)

/-- ITS FALSE NEIGHBOUR: 'it returns false'. Refute it at one input. -/
def ebcdicBackWrong : ChangeSpec := { name := "ebcdicBack", fn := fun _ => fun
  | [d1, d2, d3] => { results := [.lit (.bool false)], args := [d1, d2, d3] }
  | _ => none }
def EbcdicBackWrongFalsely : Prop := ebcdicBackRow.holds Try.pinned (OpenSpec.ofChange ebcdicBackWrong)

/-- 'pilcrowlaw08.EbcdicMod8': WHATEVER THE INPUT: true; the input reads as it did. -/
def ebcdicMod8Spec : ChangeSpec := { name := "ebcdicMod8", fn := fun _ => fun
  | [d1, d2] => { results := [.lit (.bool true)], args := [d1, d2] }
  | _ => none }
def ebcdicMod8Row : OpenClaim := { program := "ytcfpbihkodjlkaa", sum := "09a12b9aee5a69efaa9f2d780f623ae088fa055bccfda79dd79dfd023152e66e", func := "pilcrow/pilcrowlaw08.EbcdicMod8", spec := "ebcdicMod8", apart := false }
def EbcdicMod8Said : Prop := ebcdicMod8Row.holds Try.pinned (OpenSpec.ofChange ebcdicMod8Spec)

/-- ITS FALSE NEIGHBOUR: 'it returns false'. Refute it at one input. -/
def ebcdicMod8Wrong : ChangeSpec := { name := "ebcdicMod8", fn := fun _ => fun
  | [d1, d2] => { results := [.lit (.bool false)], args := [d1, d2] }
  | _ => none }
def EbcdicMod8WrongFalsely : Prop := ebcdicMod8Row.holds Try.pinned (OpenSpec.ofChange ebcdicMod8Wrong)

/- THE SECOND FORM. 'bulk': how many values and letters a reading holds, each counted each time it is reached (what is shared counts as often as it is met; a slice's spare places count too). A statement '..UptoSaid' is the law's where the arguments, and the package variables that the reading takes, are together of bulk at most 1048576: NARROWER than '..Said'. Prove '..Said' where nothing that the law and all that it calls make is longer than what came in: it says more and counts as full. Else prove '..UptoSaid'. A law counts once. -/
mutual
def uptoBulk {H : Type} : DataW H → Nat
  | .lit (.string bytes) => bytes.length + 1
  | .lit _ => 1
  | .nil => 1
  | .ptr d => uptoBulk d + 1
  | .slice elems spare => uptoBulkAll elems + uptoBulkAll spare + 1
  | .agg parts => uptoBulkAll parts + 1
  | .iface _ d => uptoBulk d + 1
  | .map entries => uptoBulkEntries entries + 1
  | .held _ => 1
def uptoBulkAll {H : Type} : List (DataW H) → Nat
  | [] => 0
  | d :: r => uptoBulk d + uptoBulkAll r
def uptoBulkEntries {H : Type} : List (Lit × DataW H) → Nat
  | [] => 0
  | x :: r => uptoBulkEntry x + uptoBulkEntries r
def uptoBulkEntry {H : Type} : Lit × DataW H → Nat
  | (.string bytes, d) => bytes.length + uptoBulk d + 1
  | (_, d) => uptoBulk d + 1
 end
def uptoSmall : (H : Type) → List (DataW H) → Bool := fun _ ds => decide (uptoBulkAll ds ≤ 1048576)
def OpenSpec.upto (s : _root_.Go.ChangeSpec) : _root_.Go.OpenSpec := { _root_.Go.OpenSpec.ofChange s with cond := some uptoSmall }

/-- 'pilcrowlaw08.EbcdicControls', WHERE WHAT IT READS IS OF BULK AT MOST 1048576: true; the input reads as it did. -/
def ebcdicControlsUptoRow : OpenClaim := { program := "ytcfpbihkodjlkaa", sum := "09a12b9aee5a69efaa9f2d780f623ae088fa055bccfda79dd79dfd023152e66e", func := "pilcrow/pilcrowlaw08.EbcdicControls", spec := "ebcdicControls", apart := false, narrowed := true }
def EbcdicControlsUptoSaid : Prop := ebcdicControlsUptoRow.holds Try.pinned (OpenSpec.upto ebcdicControlsSpec)

/-- 'pilcrowlaw08.EbcdicReads', WHERE WHAT IT READS IS OF BULK AT MOST 1048576: true; the input reads as it did. -/
def ebcdicReadsUptoRow : OpenClaim := { program := "ytcfpbihkodjlkaa", sum := "09a12b9aee5a69efaa9f2d780f623ae088fa055bccfda79dd79dfd023152e66e", func := "pilcrow/pilcrowlaw08.EbcdicReads", spec := "ebcdicReads", apart := false, narrowed := true }
def EbcdicReadsUptoSaid : Prop := ebcdicReadsUptoRow.holds Try.pinned (OpenSpec.upto ebcdicReadsSpec)

/-- 'pilcrowlaw08.EbcdicWrites', WHERE WHAT IT READS IS OF BULK AT MOST 1048576: true; the input reads as it did. -/
def ebcdicWritesUptoRow : OpenClaim := { program := "ytcfpbihkodjlkaa", sum := "09a12b9aee5a69efaa9f2d780f623ae088fa055bccfda79dd79dfd023152e66e", func := "pilcrow/pilcrowlaw08.EbcdicWrites", spec := "ebcdicWrites", apart := false, narrowed := true }
def EbcdicWritesUptoSaid : Prop := ebcdicWritesUptoRow.holds Try.pinned (OpenSpec.upto ebcdicWritesSpec)

/-- 'pilcrowlaw08.EbcdicOne', WHERE WHAT IT READS IS OF BULK AT MOST 1048576: true; the input reads as it did. -/
def ebcdicOneUptoRow : OpenClaim := { program := "ytcfpbihkodjlkaa", sum := "09a12b9aee5a69efaa9f2d780f623ae088fa055bccfda79dd79dfd023152e66e", func := "pilcrow/pilcrowlaw08.EbcdicOne", spec := "ebcdicOne", apart := false, narrowed := true }
def EbcdicOneUptoSaid : Prop := ebcdicOneUptoRow.holds Try.pinned (OpenSpec.upto ebcdicOneSpec)

/-- 'pilcrowlaw08.EbcdicExtends', WHERE WHAT IT READS IS OF BULK AT MOST 1048576: true; the input reads as it did. -/
def ebcdicExtendsUptoRow : OpenClaim := { program := "ytcfpbihkodjlkaa", sum := "09a12b9aee5a69efaa9f2d780f623ae088fa055bccfda79dd79dfd023152e66e", func := "pilcrow/pilcrowlaw08.EbcdicExtends", spec := "ebcdicExtends", apart := false, narrowed := true }
def EbcdicExtendsUptoSaid : Prop := ebcdicExtendsUptoRow.holds Try.pinned (OpenSpec.upto ebcdicExtendsSpec)

/-- 'pilcrowlaw08.EbcdicBack', WHERE WHAT IT READS IS OF BULK AT MOST 1048576: true; the input reads as it did. -/
def ebcdicBackUptoRow : OpenClaim := { program := "ytcfpbihkodjlkaa", sum := "09a12b9aee5a69efaa9f2d780f623ae088fa055bccfda79dd79dfd023152e66e", func := "pilcrow/pilcrowlaw08.EbcdicBack", spec := "ebcdicBack", apart := false, narrowed := true }
def EbcdicBackUptoSaid : Prop := ebcdicBackUptoRow.holds Try.pinned (OpenSpec.upto ebcdicBackSpec)

/-- 'pilcrowlaw08.EbcdicMod8', WHERE WHAT IT READS IS OF BULK AT MOST 1048576: true; the input reads as it did. -/
def ebcdicMod8UptoRow : OpenClaim := { program := "ytcfpbihkodjlkaa", sum := "09a12b9aee5a69efaa9f2d780f623ae088fa055bccfda79dd79dfd023152e66e", func := "pilcrow/pilcrowlaw08.EbcdicMod8", spec := "ebcdicMod8", apart := false, narrowed := true }
def EbcdicMod8UptoSaid : Prop := ebcdicMod8UptoRow.holds Try.pinned (OpenSpec.upto ebcdicMod8Spec)

end Rows
end Go.Proofs.Ytcfpbihkodjlkaa
