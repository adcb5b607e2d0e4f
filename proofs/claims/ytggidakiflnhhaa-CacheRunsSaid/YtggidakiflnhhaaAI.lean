import Derived.Test.YtggidakiflnhhaaAC
namespace Go.Proofs.Ytggidakiflnhhaa
open Go.RowKit
set_option maxHeartbeats 8000000
set_option maxRecDepth 100000
set_option linter.unusedSimpArgs false
set_option linter.unusedVariables false

theorem some_calls (t : Nat → Bool) (w : World) : Calls Try.prog 53 #[.agg #[.bool (t 0), .bool (t 1), .bool (t 2), .bool (t 3)]] w fun y w' => y = .returned (.bool (anyT t)) ∧ Below w.heap.size w w' := by
  have hb : Below w.heap.size w (w.alloc (.cells #[.bool (t 0), .bool (t 1), .bool (t 2), .bool (t 3)] 105)) := (Below.refl _ w).alloc (Nat.le_refl _) _
  unfold anyT
  generalize t 0 = a at *
  generalize t 1 = b at *
  generalize t 2 = c at *
  generalize t 3 = d at *
  have HB := Lib.hid hb
  clear hb
  go_enter Try.func53, Try.ntmps53
  cases a <;> cases b <;> cases c <;> cases d <;> (go_wp2_with fail; go_ret; exact ⟨rfl, HB.out⟩)
end Go.Proofs.Ytggidakiflnhhaa
