/- A machine that eats bytes, as a plain function: what a text denotes, how much of it is right. No program in it. -/
import Derived.Test.YthodifmfamflpaaMy
namespace Go.Proofs.Ythodifmfamflpaa
open Go.RowKit Go.Proofs.YthodifmfamflpaaW.PrintWords
set_option linter.unusedVariables false
section
variable {α : Type} (nx : α → Int → Option (α × Option Int))
def run : α → List Int → Option (α × List Int)
  | s, [] => some (s, [])
  | s, b :: r => (nx s b).bind fun p => (run p.1 r).map fun q => (q.1, p.2.toList ++ q.2)
theorem run_snoc : ∀ (l : List Int) (s : α) (b : Int), run nx s (l ++ [b]) = (run nx s l).bind fun p => (nx p.1 b).map fun q => (q.1, p.2 ++ q.2.toList)
  | [], s, b => by
    simp only [List.nil_append, run, Option.bind_some]
    cases nx s b with
    | none => rfl
    | some p => simp
  | x :: l, s, b => by
    simp only [List.cons_append, run]
    cases nx s x with
    | none => rfl
    | some p =>
      simp only [Option.bind_some, run_snoc l p.1 b]
      cases run nx p.1 l with
      | none => rfl
      | some q =>
        simp only [Option.bind_some, Option.map_some]
        cases nx q.1 b with
        | none => rfl
        | some r => simp [List.append_assoc]
theorem run_append : ∀ (l : List Int) (s : α) (m : List Int), run nx s (l ++ m) = (run nx s l).bind fun p => (run nx p.1 m).map fun q => (q.1, p.2 ++ q.2)
  | [], s, m => by
    simp only [List.nil_append, run, Option.bind_some]
    cases run nx s m with
    | none => rfl
    | some p => rfl
  | x :: l, s, m => by
    simp only [List.cons_append, run]
    cases nx s x with
    | none => rfl
    | some p =>
      simp only [Option.bind_some, run_append l p.1 m]
      cases run nx p.1 l with
      | none => rfl
      | some q =>
        simp only [Option.bind_some, Option.map_some]
        cases run nx q.1 m with
        | none => rfl
        | some r => simp [List.append_assoc]
/-- The bytes of a text from one place on. -/
theorem take_bt (s : ByteArray) (k : Nat) (h : k < s.size) : (bytesOf s).take (k + 1) = (bytesOf s).take k ++ [bt s k] := by
  have hl := bytesOf_length s
  rw [List.take_succ_eq_append_getElem (by omega)]
  congr 2
  have := rd_bytesOf s (k : Int)
  rw [← this, rd, Int.toNat_natCast, List.getD_eq_getElem?_getD, List.getElem?_eq_getElem (by omega)]
  rfl
end
end Go.Proofs.Ythodifmfamflpaa
