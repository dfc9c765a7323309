/- The statement SetsWith as a plain law over lists: the program's answer is the reference's, at every row and number that can be read; longer rows than a thousand numbers are not looked at. -/
import Derived.Test.YtmefkjdnnapkjaaSetsLaw
import Derived.Test.YtmefkjdnnapkjaaRefSets
namespace Go.Proofs.Ytmefkjdnnapkjaa.Pure
open Go.RowKit Go.Proofs.Ytmefkjdnnapkjaa.Q Go.Proofs.YtmefkjdnnapkjaaW.PrintWords Go.Proofs.YtmefkjdnnapkjaaW.PrintLast Go.Proofs.Ytmefkjdnnapkjaa.SetMath Go.Proofs.Ytmefkjdnnapkjaa.Sets

theorem SetsWith : folkmootlaw04_SetsWith.Pure := by
  intro s n _ hb _ _
  refine ⟨s.length + 5000, ?_⟩
  unfold folkmootlaw04_SetsWith.f
  by_cases hl : (s.length : Int) > 1000
  · rw [if_pos hl]
  · have h17 : (withR s n).1.length ≤ 2000 := by
      unfold withR
      have hm := mk_len (s ++ [n])
      rw [List.length_append, List.length_singleton] at hm
      split
      · split
        · simp
        · show (mk (s ++ [n])).length ≤ 2000
          omega
      · simp
    rw [if_neg hl, with_f s n hb _ (by omega), refwith_f s n (by omega) _ (by omega)]
    simp only [Option.bind_some]
    rw [ints_f _ _ (by omega) _ (by omega), ints_f s s hb _ (by omega), with_true _ (by omega)]
    simp
end Go.Proofs.Ytmefkjdnnapkjaa.Pure
