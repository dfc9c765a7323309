/- LeaseOver: any row, any three times of their kind. -/
import Derived.Test.YtmoahkdadeiahaaV1
namespace Go.Proofs.Ytmoahkdadeiahaa.Pure
open Go.RowKit Go.Proofs.Ytmoahkdadeiahaa.V Go.Proofs.YtmoahkdadeiahaaW.PrintWords Go.Proofs.YtmoahkdadeiahaaW.PrintLast
theorem LeaseOver : folkmootlaw20_LeaseOver.Pure := by
  intro l0 a1 a2 a3
  intros
  unfold folkmootlaw20_LeaseOver.f
  rw [if_pos]
  simp_all
end Go.Proofs.Ytmoahkdadeiahaa.Pure
