/- The law's own small functions. -/
import Derived.Test.YtcfpbihkodjlkaaLa
import Derived.Test.YtcfpbihkodjlkaaMB
namespace Go.Proofs.Ytcfpbihkodjlkaa
open Go.RowKit Go.Proofs.YtcfpbihkodjlkaaW.PrintWords Go.Proofs.YtcfpbihkodjlkaaW.PrintMore
open M (isB isB_range is_any)
set_option linter.unusedVariables false
set_option linter.unusedSimpArgs false
set_option maxRecDepth 20000
set_option maxHeartbeats 4000000
theorem great_any (n : Int) (A1 A2 : Option Addr) (n1 c1 n2 c2 : Nat) (w : World) : Calls Try.prog 15 #[.int .i64 n, .slice A1 n1 c1, .slice A2 n2 c2] w fun en w' => en = .returned (.bool (decide (400 < n) || (decide (200 < n1) || decide (200 < n2)))) ∧ w = w' := by
  by_cases h0 : 400 < n
  · have e : (decide (400 < n) || (decide (200 < n1) || decide (200 < n2))) = true := by simp [h0]
    rw [e]
    go_enter Try.func15, Try.ntmps15
    go_wp2
    go_ret
    exact ⟨rfl, rfl⟩
  · by_cases h1 : (200 : Int) < (n1 : Int)
    · have e : (decide (400 < n) || (decide (200 < n1) || decide (200 < n2))) = true := by
        have : 200 < n1 := by omega
        simp [this]
      rw [e]
      go_enter Try.func15, Try.ntmps15
      go_wp2
      go_ret
      exact ⟨rfl, rfl⟩
    · by_cases h2 : (200 : Int) < (n2 : Int)
      · have e : (decide (400 < n) || (decide (200 < n1) || decide (200 < n2))) = true := by
          have : 200 < n2 := by omega
          simp [this]
        rw [e]
        go_enter Try.func15, Try.ntmps15
        go_wp2
        go_ret
        exact ⟨rfl, rfl⟩
      · have e : (decide (400 < n) || (decide (200 < n1) || decide (200 < n2))) = false := by
          have h1' : ¬ 200 < n1 := by omega
          have h2' : ¬ 200 < n2 := by omega
          simp [h1', h2', h0]
        rw [e]
        go_enter Try.func15, Try.ntmps15
        go_wp2
        go_ret
        exact ⟨rfl, rfl⟩
theorem failed_any (e x : Int) (w : World) : Calls Try.prog 21 #[.int .i64 e, .int .i64 x] w fun en w' => en = .returned (.agg #[.int .i64 e, .int .i64 (if e = 0 then 0 else x)]) ∧ Below w.heap.size w w' := by
  have hu := Try.underlying42
  by_cases h0 : e = 0
  · subst h0
    go_enter Try.func21, Try.ntmps21
    go_wp2
    exact bodyPost_ret (v := .agg #[.int .i64 0, .int .i64 0]) (by simp [results, Try.results21, go_sem]) rfl ⟨rfl, (Below.refl _ _).alloc (Nat.le_refl _) _⟩
  · have e0 : (e == 0) = false := by simpa using h0
    rw [if_neg h0]
    go_enter Try.func21, Try.ntmps21
    go_wp2
    exact bodyPost_ret (v := .agg #[.int .i64 e, .int .i64 x]) (by simp [results, Try.results21, go_sem]) rfl ⟨rfl, (Below.refl _ _).alloc (Nat.le_refl _) _⟩
end Go.Proofs.Ytcfpbihkodjlkaa
