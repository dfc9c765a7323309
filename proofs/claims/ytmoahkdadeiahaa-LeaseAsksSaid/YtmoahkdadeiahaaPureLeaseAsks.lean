/- LeaseAsks: a holder asks just so, or is refused: any holder, its numbers of their kind. -/
import Derived.Test.YtmoahkdadeiahaaA10
namespace Go.Proofs.Ytmoahkdadeiahaa.Pure
open Go.RowKit Go.Proofs.Ytmoahkdadeiahaa.A
theorem LeaseAsks : ∀ (a0_0 : Int) (a0_1 : Int) (a0_2 : Int) (l0_3 : List A.S59) (a0_4 : Int) (a0_5 : Int), (Lit.int .i64 a0_0).wf = true → (Lit.int .i64 a0_1).wf = true → (Lit.int .i64 a0_2).wf = true → l0_3.length ≤ maxLen → (∀ x ∈ l0_3, (Lit.int .i64 x.f0).wf = true ∧ (Lit.int .i64 x.f1).wf = true) → (Lit.int .i64 a0_4).wf = true → (Lit.int .i64 a0_5).wf = true → folkmootlaw20_LeaseAsks.f a0_0 a0_1 a0_2 l0_3 a0_4 a0_5 = some true := fun _ _ _ _ _ _ _ _ _ _ _ _ _ => rfl
end Go.Proofs.Ytmoahkdadeiahaa.Pure
