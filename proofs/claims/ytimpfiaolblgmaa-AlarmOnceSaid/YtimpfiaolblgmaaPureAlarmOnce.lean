/- AlarmOnce: what is set comes once, when it is due, in the order of times: any times and now, of their kind. -/
import Derived.Test.YtimpfiaolblgmaaO1
namespace Go.Proofs.Ytimpfiaolblgmaa.Pure
open Go.RowKit Go.Proofs.Ytimpfiaolblgmaa.O Go.Proofs.YtimpfiaolblgmaaW.PrintWords Go.Proofs.YtimpfiaolblgmaaW.PrintLast
theorem AlarmOnce : folkmootlaw06_AlarmOnce.Pure := by
  intro l0 a1
  intros
  unfold folkmootlaw06_AlarmOnce.f
  rw [if_pos]
  simp_all
end Go.Proofs.Ytimpfiaolblgmaa.Pure
