/- AlarmRuns: whatever is set, cleared and asked, the law's own text answers true: any calls, their numbers of their kind. -/
import Derived.Test.YtimpfiaolblgmaaR1
namespace Go.Proofs.Ytimpfiaolblgmaa.Pure
open Go.RowKit Go.Proofs.Ytimpfiaolblgmaa.R
theorem AlarmRuns : ∀ (l0 : List R.S30), l0.length ≤ maxLen → (∀ x ∈ l0, (Lit.int .i64 x.f0).wf = true ∧ (Lit.int .i64 x.f1).wf = true ∧ (Lit.int .i64 x.f2).wf = true) → folkmootlaw06_AlarmRuns.f l0 = some true := by
  intro l0 _ h
  unfold folkmootlaw06_AlarmRuns.f
  rw [if_pos]
  rw [List.all_eq_true]
  intro x hx
  obtain ⟨_, h1, h2⟩ := h x hx
  rw [h1, h2]; rfl
end Go.Proofs.Ytimpfiaolblgmaa.Pure
