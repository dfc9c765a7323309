/- The statement LeaseSteady as a plain law over lists: the program's gauge tells a row of ticks steady just where looking at all its stretches does, at every two rows that can be read; more than a hundred nodes or four hundred ticks are not looked at. -/
import Derived.Test.YtmoahkdadeiahaaSteady
import Derived.OpenShut
namespace Go.Proofs.Ytmoahkdadeiahaa.Pure
open Go.RowKit Go.Proofs.Ytmoahkdadeiahaa.Q Go.Proofs.YtmoahkdadeiahaaW.PrintWords Go.Proofs.YtmoahkdadeiahaaW.PrintLast Go.Proofs.Ytmoahkdadeiahaa.Steady
theorem wf_le {l : List Int} (h : ∀ x ∈ l, (Lit.int .i64 x).wf = true) : ∀ n ∈ l, n ≤ 9223372036854775807 := fun n hn => (Go.bounds_i64 (h n hn)).2
theorem LeaseSteady : folkmootlaw20_LeaseSteady.Pure := by
  intro nodes l _ _ hw _ _ _
  refine ⟨1000000, ?_⟩
  unfold folkmootlaw20_LeaseSteady.f
  rw [show (1000000 : Nat) = 999999 + 1 from rfl]
  simp only [folkmootlaw20_LeaseSteady.j0]
  rw [steady_true _ (by omega)]
  simp only [Option.bind_some, if_true]
  by_cases h1 : (nodes.length : Int) > 100
  · rw [if_pos h1]
  · rw [if_neg h1]
    by_cases h2 : (l.length : Int) > 400
    · rw [decide_eq_true h2, if_pos rfl]
    · rw [decide_eq_false h2, if_neg (by decide), steady_f nodes l (by omega) (by omega) (wf_le hw) _ (by omega), refsteady_f nodes l (by omega) (by omega) (wf_le hw) _ (by omega)]
      simp
end Go.Proofs.Ytmoahkdadeiahaa.Pure
