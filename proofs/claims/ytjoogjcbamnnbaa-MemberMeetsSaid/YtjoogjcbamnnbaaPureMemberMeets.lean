/- The statement MemberMeets as a plain law over lists. -/
import Derived.Test.YtjoogjcbamnnbaaMemberApply
import Derived.OpenShut
import Derived.Test.YtjoogjcbamnnbaaC17
namespace Go.Proofs.Ytjoogjcbamnnbaa.Pure
open Go.RowKit Go.Proofs.Ytjoogjcbamnnbaa.C Go.Proofs.YtjoogjcbamnnbaaW.PrintWords Go.Proofs.YtjoogjcbamnnbaaW.PrintLast Go.Proofs.Ytjoogjcbamnnbaa.SetMath Go.Proofs.Ytjoogjcbamnnbaa.MemberMath Go.Proofs.Ytjoogjcbamnnbaa.Sets Go.Proofs.Ytjoogjcbamnnbaa.Member
theorem meets_l0 (a b : List Int) (ha : a.length ≤ 2000) (hb : b.length ≤ 2000) (d : Nat) :
    ∀ (k i : Nat), a.length - i = d → i ≤ a.length → d + 7000 < k → (∃ x ∈ a.drop i, x ∈ b) → folkmootlaw17_MemberMeets.l0 k a b (i : Int) = some true := by
  induction d with
  | zero =>
    intro k i hd hi hk h
    rw [List.drop_of_length_le (by omega)] at h
    obtain ⟨x, h, _⟩ := h
    cases h
  | succ d ih =>
    intro k i hd hi hk h
    obtain ⟨k, rfl⟩ : ∃ m, k = m + 1 := ⟨k - 1, by omega⟩
    have h1 : i < a.length := by omega
    simp only [folkmootlaw17_MemberMeets.l0]
    rw [if_pos (by omega), if_pos (by omega), rd_at a i h1, wr1 i _ h1 (by omega), refhas_f b _ (by omega) k (by omega)]
    simp only [Option.bind_some]
    by_cases e : b.contains a[i] = true
    · rw [if_pos e, asks_f k (by omega), applies_f k (by omega)]; rfl
    · rw [if_neg e]
      refine ih k (i + 1) (by omega) (by omega) (by omega) ?_
      rw [List.drop_eq_getElem_cons h1] at h
      obtain ⟨x, hx, hxb⟩ := h
      rcases List.mem_cons.1 hx with h2 | h2
      · subst h2
        exact absurd (is_in.2 hxb) e
      · exact ⟨x, h2, hxb⟩
theorem meets_both (k : Nat) (hk : 6000 ≤ k) (a b : List Int) : folkmootlaw17_MemberMeets.j1 (k + 1) a b true = some true := by
  simp only [folkmootlaw17_MemberMeets.j1]
  rw [if_pos trivial, asks_f k (by omega), applies_f k (by omega)]; rfl
theorem MemberMeets : ∀ (l0_0 : List Int) (l0_1 : List Int) (a1_0 : Int) (a1_1 : Int) (l2 : List Int) (l3 : List Int), l0_0.length ≤ maxLen → (∀ x ∈ l0_0, (Lit.int .i64 x).wf = true) → l0_1.length ≤ maxLen → (∀ x ∈ l0_1, (Lit.int .i64 x).wf = true) → (Lit.int .i64 a1_0).wf = true → (Lit.int .i64 a1_1).wf = true → l2.length ≤ maxLen → (∀ x ∈ l2, (Lit.int .i64 x).wf = true) → l3.length ≤ maxLen → (∀ x ∈ l3, (Lit.int .i64 x).wf = true) → ∃ k, folkmootlaw17_MemberMeets.f k l0_0 l0_1 a1_0 a1_1 l2 l3 = some true := by
  intro v l c n a b _ _ _ _ _ _ _ _ _ _
  obtain ⟨K, hK⟩ : ∃ K : Nat, 19000 ≤ K := ⟨20000, by decide⟩
  refine ⟨K + 1 + 1, ?_⟩
  unfold folkmootlaw17_MemberMeets.f
  rw [large_f]
  simp only [Option.bind_some, Bool.or_eq_true, decide_eq_true_iff]
  by_cases hb : v.length > 1000 ∨ l.length > 1000
  · rw [if_pos hb]; rfl
  · rw [if_neg hb]
    by_cases ha : (a.length : Int) > 1000
    · rw [if_pos ha]; rfl
    · rw [if_neg ha]
      by_cases hb' : (b.length : Int) > 1000
      · rw [decide_eq_true hb']; rfl
      · rw [decide_eq_false hb']
        have hv : v.length ≤ 2000 := by omega
        have hl : l.length ≤ 2000 := by omega
        simp only [folkmootlaw17_MemberMeets.j0]
        rw [if_neg (by decide), apply_f v l c n hv hl _ (by omega)]
        simp only [Option.bind_some]
        by_cases hg : goes v l c n = true
        · have hm := apply_may hg
          have hlen := apply_len v l c n
          have e0 : (applyR v l c n).2.2 = 0 := by rw [apply_pos hg]
          rw [if_pos e0, check_f _ _ (by omega) (by omega) _ (by omega), if_pos ((may_iff _ _).2 hm)]
          simp only [Option.bind_some, if_true]
          have hmv := (goes_iff _ _ _ _).1 hg
          rw [reached_f v l a hv hl (by omega) _ (by omega), reached_f _ _ b (by omega) (by omega) (by omega) _ (by omega), (may_iff _ _).2 hm, (may_iff _ _).2 hmv.1, Bool.true_and, Bool.true_and]
          simp only [Option.bind_some]
          by_cases h1 : reached v a = true
          · rw [if_pos h1]
            by_cases h2 : reached (applyR v l c n).1 b = true
            · rw [h2]
              simp only [folkmootlaw17_MemberMeets.j1, Bool.not_true]
              rw [if_neg (by decide)]
              obtain ⟨x, hx, hxb⟩ := meets hg a b h1 h2
              exact meets_l0 a b (by omega) (by omega) a.length K 0 (by omega) (by omega) (by omega) ⟨x, hx, hxb⟩
            · rw [Bool.eq_false_iff.2 h2]
              exact meets_both K (by omega) a b
          · rw [if_neg h1]
            exact meets_both K (by omega) a b
        · have e0 : ¬ (applyR v l c n).2.2 = 0 := by rw [apply_neg hg]; decide
          rw [if_neg e0, asks_f _ (by omega), applies_f _ (by omega)]; rfl
end Go.Proofs.Ytjoogjcbamnnbaa.Pure
