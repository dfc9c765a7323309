/- AlarmForgets: what is set and cleared is as if it had not been set: any times, id and two more times, of their kind. -/
import Derived.Test.YtimpfiaolblgmaaG1
namespace Go.Proofs.Ytimpfiaolblgmaa.Pure
open Go.RowKit Go.Proofs.Ytimpfiaolblgmaa.G Go.Proofs.YtimpfiaolblgmaaW.PrintWords Go.Proofs.YtimpfiaolblgmaaW.PrintLast
theorem AlarmForgets : folkmootlaw06_AlarmForgets.Pure := by
  intro l0 a1 a2 a3
  intros
  unfold folkmootlaw06_AlarmForgets.f
  rw [if_pos]
  simp_all
end Go.Proofs.Ytimpfiaolblgmaa.Pure
