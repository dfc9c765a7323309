/- LeaseTakes: a holder takes a lease just so, or not; it begins anew without one: any holder and numbers, of their kind. -/
import Derived.Test.YtmoahkdadeiahaaT10
namespace Go.Proofs.Ytmoahkdadeiahaa.Pure
open Go.RowKit Go.Proofs.Ytmoahkdadeiahaa.T
theorem LeaseTakes : ∀ (a0_0 : Int) (a0_1 : Int) (a0_2 : Int) (l0_3 : List T.S59) (a0_4 : Int) (a0_5 : Int) (a1 : Int) (a2 : Int), (Lit.int .i64 a0_0).wf = true → (Lit.int .i64 a0_1).wf = true → (Lit.int .i64 a0_2).wf = true → l0_3.length ≤ maxLen → (∀ x ∈ l0_3, (Lit.int .i64 x.f0).wf = true ∧ (Lit.int .i64 x.f1).wf = true) → (Lit.int .i64 a0_4).wf = true → (Lit.int .i64 a0_5).wf = true → (Lit.int .i64 a1).wf = true → (Lit.int .i64 a2).wf = true → folkmootlaw20_LeaseTakes.f a0_0 a0_1 a0_2 l0_3 a0_4 a0_5 a1 a2 = some true := fun _ _ _ _ _ _ _ _ _ _ _ _ _ _ _ _ _ => rfl
end Go.Proofs.Ytmoahkdadeiahaa.Pure
