/- The statement SetsBack as a plain law over lists: a set with a number has it and is a set; without it again it is as the set without it; and only what is no set, or a full set without the number, is refused. It holds for every row and number that can be read. -/
import Derived.Test.YtmefkjdnnapkjaaSetsLaw
namespace Go.Proofs.Ytmefkjdnnapkjaa.Pure
open Go.RowKit Go.Proofs.Ytmefkjdnnapkjaa.Q Go.Proofs.YtmefkjdnnapkjaaW.PrintWords Go.Proofs.YtmefkjdnnapkjaaW.PrintLast Go.Proofs.Ytmefkjdnnapkjaa.SetMath Go.Proofs.Ytmefkjdnnapkjaa.Sets

theorem SetsBack : folkmootlaw04_SetsBack.Pure := by
  intro s n _ hb _ _
  refine ⟨s.length + 60, ?_⟩
  unfold folkmootlaw04_SetsBack.f
  by_cases hl : (s.length : Int) > 1000
  · rw [if_pos hl]
  rw [if_neg hl, with_f s n hb _ (by omega), without_f s n hb _ (by omega), with_true _ (by omega), without_true _ (by omega)]
  simp only [Option.bind_some, if_true]
  by_cases hs : isSet s = true
  · have hu := ((isSet_iff s).1 hs).1
    have h16 := ((isSet_iff s).1 hs).2
    have lm := mk_len (s ++ [n])
    rw [List.length_append, List.length_singleton] at lm
    unfold withR
    rw [if_pos hs]
    by_cases hc : (mk (s ++ [n])).length > 16
    · have hn : n ∉ s := fun hn => by
        have := self_mk hu hn
        rw [← this] at hc
        omega
      rw [if_pos hc, if_neg (show ¬ ((([] : List Int), (2 : Int)).2 = 0) by decide), is_f s hb _ (by omega), hs]
      simp only [Option.bind_some, if_true]
      rw [if_pos (show (s.length : Int) = 16 by omega), has_f s n hb _ (by omega)]
      simp [hn]
    · rw [if_neg hc, if_pos rfl]
      dsimp only
      have im : isSet (mk (s ++ [n])) = true := (isSet_iff _).2 ⟨mk_up _, by omega⟩
      rw [without_f _ n (by omega) _ (by omega)]
      simp only [Option.bind_some]
      unfold withoutR
      rw [if_pos im, if_pos hs, if_pos rfl, if_pos rfl]
      dsimp only
      rw [is_f _ (by omega) _ (by omega), im]
      simp only [Option.bind_some, if_true]
      have fl := List.length_filter_le (fun x => !(x == n)) (mk (s ++ [n]))
      rw [has_f _ n (by omega) _ (by omega), has_f _ n (by omega) _ (by omega)]
      have h1 : (mk (s ++ [n])).contains n = true := by
        rw [List.contains_iff_mem, mem_mk]
        simp
      have h2 : ((mk (s ++ [n])).filter fun x => !(x == n)).contains n = false := by
        simp
      simp only [Option.bind_some]
      rw [h1, h2]
      simp only [Bool.false_eq_true, if_true, if_false]
      rw [same_f _ _ (by omega) _ (by omega)]
      have e : ((mk (s ++ [n])).filter fun x => !(x == n)) = s.filter fun x => !(x == n) := by
        refine up_ext ((mk_up _).filter _) (hu.filter _) (fun x => ?_)
        rw [List.mem_filter, List.mem_filter, mem_mk, List.mem_append, List.mem_singleton]
        constructor
        · rintro ⟨h | h, h3⟩
          · exact ⟨h, h3⟩
          · subst h; simp at h3
        · rintro ⟨h, h3⟩
          exact ⟨.inl h, h3⟩
      rw [e]
      simp
  · unfold withR
    rw [if_neg hs, if_neg (show ¬ ((([] : List Int), (1 : Int)).2 = 0) by decide), is_f s hb _ (by omega)]
    simp only [Option.bind_some]
    rw [if_neg hs]
end Go.Proofs.Ytmefkjdnnapkjaa.Pure
