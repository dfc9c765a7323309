/- The statement SetsWithout as a plain law over lists: the program's answer is the reference's, at every row and number that can be read; longer rows than a thousand numbers are not looked at. -/
import Derived.Test.YtmefkjdnnapkjaaSetsLaw
import Derived.Test.YtmefkjdnnapkjaaRefSets
namespace Go.Proofs.Ytmefkjdnnapkjaa.Pure
open Go.RowKit Go.Proofs.Ytmefkjdnnapkjaa.Q Go.Proofs.YtmefkjdnnapkjaaW.PrintWords Go.Proofs.YtmefkjdnnapkjaaW.PrintLast Go.Proofs.Ytmefkjdnnapkjaa.SetMath Go.Proofs.Ytmefkjdnnapkjaa.Sets

theorem SetsWithout : folkmootlaw04_SetsWithout.Pure := by
  intro s n _ hb _ _
  refine ⟨s.length + 5000, ?_⟩
  unfold folkmootlaw04_SetsWithout.f
  by_cases hl : (s.length : Int) > 1000
  · rw [if_pos hl]
  · have h17 : (withoutR s n).1.length ≤ 2000 := by
      unfold withoutR
      have hm := List.length_filter_le (fun x => !(x == n)) s
      split
      · show (s.filter fun x => !(x == n)).length ≤ 2000
        omega
      · simp
    rw [if_neg hl, without_f s n hb _ (by omega), refwithout_f s n (by omega) _ (by omega)]
    simp only [Option.bind_some]
    rw [ints_f _ _ (by omega) _ (by omega), ints_f s s hb _ (by omega), without_true _ (by omega)]
    simp
end Go.Proofs.Ytmefkjdnnapkjaa.Pure
