/- The law AlarmNil's walk. -/
import Derived.Test.YtimpfiaolblgmaaAlarmAwake
namespace Go.Proofs.Ytimpfiaolblgmaa.AlarmQ
open Go.Shelf Go.Maps Go.RowKit Go.Proofs.YtimpfiaolblgmaaW.PrintWords Go.Proofs.Ytimpfiaolblgmaa.AlarmMath Go.Proofs.Ytimpfiaolblgmaa.Blk Go.Proofs.Ytimpfiaolblgmaa.AlarmP
set_option linter.unusedVariables false
set_option linter.unusedSimpArgs false
set_option maxHeartbeats 4000000 in
theorem alarmNil_any (W : World) (id t : Int) : Calls Try.prog 6 #[.int .i64 id, .int .i64 t] W fun e w' => e = .returned (.bool true) ∧ Below W.heap.size W w' := by
  go_enter Try.func6, Try.ntmps6
  go_wp2_with fail
  refine (next_nil W).mono ?_
  rintro e w' ⟨rfl, rfl⟩
  go_wp2_with fail
  refine (awake_any w').mono ?_
  rintro e w1 ⟨rfl, hb1⟩
  have HB1 := Aside0.mk hb1
  clear hb1
  go_wp2_with fail
  refine (set_nil w1 id t).mono ?_
  rintro e w2 ⟨rfl, rfl⟩
  go_wp2_with fail
  refine (clear_nil w2 id).mono ?_
  rintro e w3 ⟨rfl, rfl⟩
  go_wp2_with fail
  refine (due_nil w3 t).mono ?_
  rintro e w4 ⟨rfl, rfl⟩
  go_wp2_with fail
  refine (clen_nil w4).mono ?_
  rintro e w5 ⟨rfl, rfl⟩
  go_wp2
  go_ret
  exact ⟨rfl, HB1.out⟩
end Go.Proofs.Ytimpfiaolblgmaa.AlarmQ
