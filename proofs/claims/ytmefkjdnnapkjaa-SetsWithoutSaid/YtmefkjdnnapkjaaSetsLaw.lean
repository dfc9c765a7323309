/- The two examples that the statements of the sets ask first: 1 5 and 3 are 1 3 5; 1 5 without 5 is 1. -/
import Derived.Test.YtmefkjdnnapkjaaSetsSame
namespace Go.Proofs.Ytmefkjdnnapkjaa.Sets
open Go.RowKit Go.Proofs.Ytmefkjdnnapkjaa.Q Go.Proofs.YtmefkjdnnapkjaaW.PrintWords Go.Proofs.YtmefkjdnnapkjaaW.PrintLast Go.Proofs.Ytmefkjdnnapkjaa.SetMath
theorem mk_153 : mk ([1, 5] ++ [3]) = [1, 3, 5] := mk_eq ((up_iff _).1 (by decide)) (by intro x; simp; omega)
theorem with_true (k : Nat) (hk : 20 ≤ k) : folkmootlaw04_with.f k = some true := by
  unfold folkmootlaw04_with.f
  rw [with_f _ _ (by simp) k (by simp; omega)]
  have e : withR [1, 5] 3 = ([1, 3, 5], 0) := by
    unfold withR
    rw [mk_153, if_pos (by decide), if_neg (by simp)]
  rw [e]
  simp only [Option.bind_some]
  rw [if_pos True.intro, ints_f _ _ (by simp) k (by simp; omega)]
  simp
theorem without_true (k : Nat) (hk : 20 ≤ k) : folkmootlaw04_without.f k = some true := by
  unfold folkmootlaw04_without.f
  rw [without_f _ _ (by simp) k (by simp; omega)]
  have e : withoutR [1, 5] 5 = ([1], 0) := by
    unfold withoutR
    rw [if_pos (by decide)]
    rfl
  rw [e]
  simp only [Option.bind_some]
  rw [if_pos True.intro, ints_f _ _ (by simp) k (by simp; omega)]
  simp
end Go.Proofs.Ytmefkjdnnapkjaa.Sets
