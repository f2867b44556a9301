/- tree's small predicates. -/
import Derived.Test.YtllahgnpjodgmaaDoorTe
import Derived.Test.YtllahgnpjodgmaaDoorTm
import Derived.Deep.QuietTactic
import Derived.BigQuiet
set_option linter.unusedVariables false
namespace Go.Proofs.YtllahgnpjodgmaaDoor
open Go Go.RowKit Mem Pm

set_option maxRecDepth 100000 in
set_option maxHeartbeats 2000000 in
theorem isE_c (k : Int) (w : World) : Calls Tryd.prog 57 #[.int .i64 k] w fun e w' => e = .returned (.bool (Tm.isE k)) ∧ w = w' := by
  by_cases h : 20 ≤ k
  · have h2 : decide ((20 : Int) ≤ k) = true := decide_eq_true h
    go_enter Tryd.func57, Tryd.ntmps57
    go_wp2_with fail
    go_ret
    exact ⟨by simp [Tm.isE, h], rfl⟩
  · have h2 : decide ((20 : Int) ≤ k) = false := decide_eq_false h
    go_enter Tryd.func57, Tryd.ntmps57
    go_wp2_with fail
    go_ret
    exact ⟨by simp [Tm.isE]; omega, rfl⟩
set_option maxRecDepth 100000 in
set_option maxHeartbeats 2000000 in
theorem isS_c (k : Int) (w : World) : Calls Tryd.prog 47 #[.int .i64 k] w fun e w' => e = .returned (.bool (Tm.isS k)) ∧ w = w' := by
  by_cases h : 3 ≤ k
  · have h2 : decide ((3 : Int) ≤ k) = true := decide_eq_true h
    go_enter Tryd.func47, Tryd.ntmps47
    go_wp2_with fail
    go_ret
    exact ⟨by simp [Tm.isS, h], rfl⟩
  · have h2 : decide ((3 : Int) ≤ k) = false := decide_eq_false h
    go_enter Tryd.func47, Tryd.ntmps47
    go_wp2_with fail
    go_ret
    exact ⟨by simp [Tm.isS]; omega, rfl⟩
set_option maxRecDepth 100000 in
set_option maxHeartbeats 2000000 in
theorem named_c (k : Int) (w : World) : Calls Tryd.prog 55 #[.int .i64 k] w fun e w' => e = .returned (.bool (Tm.named k)) ∧ w = w' := by
  go_enter Tryd.func55, Tryd.ntmps55
  go_wp2_with fail
  all_goals (go_ret; refine ⟨?_, rfl⟩; simp_all [Tm.named])
end Go.Proofs.YtllahgnpjodgmaaDoor
