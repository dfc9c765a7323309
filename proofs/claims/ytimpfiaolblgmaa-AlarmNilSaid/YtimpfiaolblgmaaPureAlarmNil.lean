/- AlarmNil: where there is no clock, the law's own text answers true: any two numbers of their kind. -/
import Derived.Test.YtimpfiaolblgmaaN1
namespace Go.Proofs.Ytimpfiaolblgmaa.Pure
open Go.RowKit Go.Proofs.Ytimpfiaolblgmaa.N Go.Proofs.YtimpfiaolblgmaaW.PrintWords Go.Proofs.YtimpfiaolblgmaaW.PrintLast
theorem AlarmNil : folkmootlaw06_AlarmNil.Pure := fun _ _ _ _ => rfl
end Go.Proofs.Ytimpfiaolblgmaa.Pure
