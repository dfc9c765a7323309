/- The statement MemberBack as a plain law over lists. -/
import Derived.Test.YtjoogjcbamnnbaaMemberApply
import Derived.OpenShut
import Derived.Test.YtjoogjcbamnnbaaD17
namespace Go.Proofs.Ytjoogjcbamnnbaa.Pure
open Go.RowKit Go.Proofs.Ytjoogjcbamnnbaa.D Go.Proofs.YtjoogjcbamnnbaaW.PrintWords Go.Proofs.YtjoogjcbamnnbaaW.PrintLast Go.Proofs.Ytjoogjcbamnnbaa.SetMath Go.Proofs.Ytjoogjcbamnnbaa.MemberMath Go.Proofs.Ytjoogjcbamnnbaa.Sets Go.Proofs.Ytjoogjcbamnnbaa.Member
theorem MemberBack : ∀ (l0_0 : List Int) (l0_1 : List Int) (a1 : Int), l0_0.length ≤ maxLen → (∀ x ∈ l0_0, (Lit.int .i64 x).wf = true) → l0_1.length ≤ maxLen → (∀ x ∈ l0_1, (Lit.int .i64 x).wf = true) → (Lit.int .i64 a1).wf = true → ∃ k, folkmootlaw17_MemberBack.f k l0_0 l0_1 a1 = some true := by
  intro v l n _ _ _ _ _
  obtain ⟨K, hK⟩ : ∃ K : Nat, 19000 ≤ K := ⟨20000, by decide⟩
  refine ⟨K, ?_⟩
  unfold folkmootlaw17_MemberBack.f
  rw [large_f]
  simp only [Option.bind_some, Bool.or_eq_true, decide_eq_true_iff]
  by_cases hb : v.length > 1000 ∨ l.length > 1000
  · rw [if_pos hb]
  · rw [if_neg hb]
    have hv : v.length ≤ 2000 := by omega
    have hl : l.length ≤ 2000 := by omega
    rw [apply_f v l 1 n hv hl K (by omega), apply_f v l 3 n hv hl K (by omega)]
    simp only [Option.bind_some]
    by_cases hg : goes v l 1 n = true
    · obtain ⟨e1, e2, g2, e3⟩ := back_learner hg
      have hlen := apply_len v l 1 n
      have hmx := apply_may hg
      rw [e1] at hlen hmx
      have hmz := apply_may g2
      have hlz := apply_len v (mk (l ++ [n])) 2 n
      rw [e3] at hmz hlz
      simp only at hlen hmx hmz hlz
      rw [e1, if_pos rfl]
      simp only
      rw [apply_f v (mk (l ++ [n])) 3 n (by omega) (by omega) K (by omega), apply_f v (mk (l ++ [n])) 2 n (by omega) (by omega) K (by omega), e2, e3, applies_f K (by omega)]
      simp only [Option.bind_some, if_true]
      rw [configs_f v l v l (by omega) (by omega) K (by omega) (by omega), voter_f _ _ n (by omega) (by omega) K (by omega), (may_iff _ _).2 hmz, is_in.2 ((mem_mk _ n).2 (List.mem_append.2 (.inr (List.mem_singleton.2 rfl))))]
      simp
    · have e0 : ¬ (applyR v l 1 n).2.2 = 0 := by rw [apply_neg hg]; decide
      rw [if_neg e0]
      by_cases h3 : goes v l 3 n = true
      · obtain ⟨g1, e3, e1, hall⟩ := back_remove h3
        have hlen := apply_len v l 3 n
        have hmx := apply_may h3
        rw [e3] at hlen hmx
        have hmy := apply_may g1
        have hly := apply_len (wo v n) (wo l n) 1 n
        rw [e1] at hmy hly
        simp only at hlen hmx hmy hly
        have hm := ((goes_iff _ _ _ _).1 h3).1
        rw [e3, if_pos rfl]
        simp only
        rw [apply_f (wo v n) (wo l n) 1 n (by omega) (by omega) K (by omega), e1, applies_f K (by omega)]
        simp only [Option.bind_some, if_true]
        have hno : (wo v n).contains n = false := Bool.eq_false_iff.2 (not_in.2 fun h => ((mem_wo _ _ _).1 h).2 rfl)
        have q1 : allR (wo v n) (mk (wo l n ++ [n])) = mk (v ++ l) := by unfold allR; rw [if_pos ((may_iff _ _).2 hmy), hall]
        have q2 : allR v l = mk (v ++ l) := by unfold allR; rw [if_pos ((may_iff _ _).2 hm)]
        have hlm := mk_len (v ++ l)
        rw [List.length_append] at hlm
        rw [voter_f (wo v n) (wo l n) n (by omega) (by omega) K (by omega), voter_f (wo v n) (mk (wo l n ++ [n])) n (by omega) (by omega) K (by omega), hno, Bool.and_false, Bool.and_false, all_f _ _ (by omega) (by omega) K (by omega), all_f v l hv hl K (by omega), q1, q2]
        simp only [Option.bind_some, Bool.false_eq_true, if_false]
        rw [ints_f (mk (v ++ l)) (mk (v ++ l)) (by omega) K (by omega)]
        simp
      · have e0 : ¬ (applyR v l 3 n).2.2 = 0 := by rw [apply_neg h3]; decide
        rw [if_neg e0, asks_f K (by omega), applies_f K (by omega)]; rfl
end Go.Proofs.Ytjoogjcbamnnbaa.Pure
