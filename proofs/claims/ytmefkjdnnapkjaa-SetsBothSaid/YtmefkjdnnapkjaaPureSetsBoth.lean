/- The statement SetsBoth as a plain law over lists: all numbers of two sets, and those common to both, are the reference's, at every two rows that can be read; longer rows than a thousand numbers are not looked at. -/
import Derived.Test.YtmefkjdnnapkjaaSetsLaw
import Derived.Test.YtmefkjdnnapkjaaRefSets
namespace Go.Proofs.Ytmefkjdnnapkjaa.Pure
open Go.RowKit Go.Proofs.Ytmefkjdnnapkjaa.Q Go.Proofs.YtmefkjdnnapkjaaW.PrintWords Go.Proofs.YtmefkjdnnapkjaaW.PrintLast Go.Proofs.Ytmefkjdnnapkjaa.SetMath Go.Proofs.Ytmefkjdnnapkjaa.Sets

theorem SetsBoth : folkmootlaw04_SetsBoth.Pure := by
  intro a b _ ha _ _ hb _
  refine ⟨a.length + b.length + 5000, ?_⟩
  unfold folkmootlaw04_SetsBoth.f
  by_cases hl : (a.length : Int) > 1000 ∨ (b.length : Int) > 1000
  · rw [if_pos hl]
  · have h1 : (bothR a b).1.length ≤ 2000 := by
      unfold bothR
      have hm := mk_len (a ++ b)
      rw [List.length_append] at hm
      split
      · split
        · simp
        · show (mk (a ++ b)).length ≤ 2000
          omega
      · simp
    have h2 : (commonR a b).1.length ≤ 2000 := by
      unfold commonR
      have hm := List.length_filter_le (fun x => b.contains x) a
      split
      · show (a.filter fun x => b.contains x).length ≤ 2000
        omega
      · simp
    have e1 : bothR [1, 5] [3, 5] = ([1, 3, 5], 0) := by
      unfold bothR
      have e : mk ([1, 5] ++ [3, 5]) = [1, 3, 5] := mk_eq ((up_iff _).1 (by decide)) (by intro x; simp; omega)
      rw [e, if_pos (by decide), if_neg (by simp)]
    have e2 : commonR [1, 5] [3, 5] = ([5], 0) := by
      unfold commonR
      rw [if_pos (by decide)]
      rfl
    rw [if_neg hl, both_f a b ha hb _ (by omega), common_f a b ha hb _ (by omega), refboth_f a b (by omega) (by omega) _ (by omega), refcommon_f a b (by omega) (by omega) _ (by omega)]
    simp only [Option.bind_some]
    rw [ints_f _ _ (by omega) _ (by omega), ints_f _ _ (by omega) _ (by omega), ints_f a a ha _ (by omega), ints_f b b hb _ (by omega), both_f [1, 5] [3, 5] (by simp) (by simp) _ (by simp), common_f [1, 5] [3, 5] (by simp) (by simp) _ (by simp), e1, e2, ints_f _ _ (by simp) _ (by simp), ints_f [5] [5] (by simp) _ (by simp)]
    simp
end Go.Proofs.Ytmefkjdnnapkjaa.Pure
