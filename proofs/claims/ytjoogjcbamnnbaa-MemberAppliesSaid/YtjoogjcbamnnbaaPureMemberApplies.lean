/- The statement MemberApplies as a plain law over lists. -/
import Derived.Test.YtjoogjcbamnnbaaMemberApply
import Derived.OpenShut
import Derived.Test.YtjoogjcbamnnbaaB18
import Derived.Test.YtjoogjcbamnnbaaB19
namespace Go.Proofs.Ytjoogjcbamnnbaa.Pure
open Go.RowKit Go.Proofs.Ytjoogjcbamnnbaa.B Go.Proofs.YtjoogjcbamnnbaaW.PrintWords Go.Proofs.YtjoogjcbamnnbaaW.PrintLast Go.Proofs.Ytjoogjcbamnnbaa.SetMath Go.Proofs.Ytjoogjcbamnnbaa.MemberMath Go.Proofs.Ytjoogjcbamnnbaa.Sets Go.Proofs.Ytjoogjcbamnnbaa.Member
theorem ref_j1 {v l : List Int} {c n : Int} (hv : v.length ≤ 2000) (hl : l.length ≤ 2000) (x : Bool) (hx : x = goes v l c n) (k : Nat) (hk : 6000 ≤ k) : folkmootref17_Apply.j1 k n x v l c n = some (applyR v l c n) := by
  obtain ⟨k, rfl⟩ : ∃ m, k = m + 1 := ⟨k - 1, by omega⟩
  simp only [folkmootref17_Apply.j1]
  by_cases h : goes v l c n = true
  · have hm := ((goes_iff _ _ _ _).1 h).1
    have l1 : (wo v n).length ≤ v.length := List.length_filter_le _ _
    have l2 : (wo l n).length ≤ l.length := List.length_filter_le _ _
    have d1 : folkmootref04_Drop.f k v n = some (wo v n) := drop_f v n (by omega) k (by omega)
    have d2 : folkmootref04_Drop.f k l n = some (wo l n) := drop_f l n (by omega) k (by omega)
    rw [hx, if_pos h, d1, d2]
    simp only [Option.bind_some]
    rw [put_f (wo l n) n (wo_up hm.upl n) (by omega) k (by omega), put_f (wo v n) n (wo_up hm.upv n) (by omega) k (by omega), apply_pos h]
    simp only [Option.bind_some]
    by_cases c1 : c = 1
    · subst c1
      rw [if_pos rfl, if_neg (by decide), if_pos rfl]
    · rw [if_neg c1, if_neg c1]
      by_cases c2 : c = 2
      · rw [if_pos c2, if_pos c2]
      · rw [if_neg c2, if_neg c2]
  · rw [hx, if_neg h, apply_neg h]
theorem refapply_f (v l : List Int) (c n : Int) (hv : v.length ≤ 2000) (hl : l.length ≤ 2000) (k : Nat) (hk : 8000 ≤ k) : folkmootref17_Apply.f k v l c n = some (applyR v l c n) := by
  obtain ⟨k, rfl⟩ : ∃ m, k = m + 1 := ⟨k - 1, by omega⟩
  have hj : ∀ b : Bool, b = (may v l && node n) → folkmootref17_Apply.j0 (k + 1) n (v.contains n) (l.contains n) b v l c n = some (applyR v l c n) := by
    intro b hb
    simp only [folkmootref17_Apply.j0]
    have hlen : decide ((v.length : Int) > 1) = decide (v.length > 1) := by rw [decide_eq_decide]; omega
    by_cases c1 : c = 1
    · subst c1
      rw [if_pos rfl]
      by_cases hbt : b = true
      · rw [if_pos hbt]
        by_cases h7 : v.contains n = true
        · rw [if_pos h7]
          exact ref_j1 hv hl _ (by unfold goes; rw [← hb, hbt, h7]; rfl) k (by omega)
        · rw [if_neg h7]
          exact ref_j1 hv hl _ (by unfold goes; rw [← hb, hbt, Bool.eq_false_iff.2 h7]; cases l.contains n <;> rfl) k (by omega)
      · rw [if_neg hbt]
        exact ref_j1 hv hl _ (by unfold goes; rw [← hb, Bool.eq_false_iff.2 hbt]; rfl) k (by omega)
    · rw [if_neg c1]
      by_cases c2 : c = 2
      · subst c2
        rw [if_pos rfl]
        by_cases hbt : b = true
        · rw [if_pos hbt]
          exact ref_j1 hv hl _ (by unfold goes; rw [← hb, hbt]; cases l.contains n <;> rfl) k (by omega)
        · rw [if_neg hbt]
          exact ref_j1 hv hl _ (by unfold goes; rw [← hb, Bool.eq_false_iff.2 hbt]; rfl) k (by omega)
      · rw [if_neg c2]
        by_cases c3 : c = 3
        · subst c3
          rw [if_pos rfl]
          by_cases hbt : b = true
          · rw [if_pos hbt]
            by_cases h8 : l.contains n = true
            · rw [if_pos h8]
              exact ref_j1 hv hl _ (by unfold goes; rw [← hb, hbt, h8]; cases v.contains n <;> rfl) k (by omega)
            · rw [if_neg h8]
              by_cases h7 : v.contains n = true
              · rw [if_pos h7, hlen]
                exact ref_j1 hv hl _ (by unfold goes; rw [← hb, hbt, Bool.eq_false_iff.2 h8, h7]; cases decide (v.length > 1) <;> rfl) k (by omega)
              · rw [if_neg h7]
                exact ref_j1 hv hl _ (by unfold goes; rw [← hb, hbt, Bool.eq_false_iff.2 h8, Bool.eq_false_iff.2 h7]; rfl) k (by omega)
          · rw [if_neg hbt]
            exact ref_j1 hv hl _ (by unfold goes; rw [← hb, Bool.eq_false_iff.2 hbt]; rfl) k (by omega)
        · rw [if_neg c3]
          exact ref_j1 hv hl _ (by unfold goes; rw [decide_eq_false c1, decide_eq_false c2, decide_eq_false c3]; simp) k (by omega)
  unfold folkmootref17_Apply.f
  rw [refhas_f v n (by omega) (k + 1) (by omega), refhas_f l n (by omega) (k + 1) (by omega), refmay_f v l hv hl (k + 1) (by omega)]
  simp only [Option.bind_some]
  by_cases h : may v l = true
  · rw [if_pos h]
    by_cases h1 : n ≥ 1
    · rw [if_pos h1]
      exact hj _ (by unfold node; rw [h, decide_eq_true (show 1 ≤ n from h1), Bool.true_and, Bool.true_and])
    · rw [if_neg h1]
      exact hj _ (by unfold node; rw [decide_eq_false (show ¬ 1 ≤ n from h1)]; simp)
  · rw [if_neg h]
    exact hj _ (by rw [Bool.eq_false_iff.2 h]; rfl)
theorem applies_l1 (v l : List Int) (hv : v.length ≤ 2000) (hl : l.length ≤ 2000) (x : List Int) (d : Nat) :
    ∀ (k i : Nat) (y : List Int), y.length - i = d → i ≤ y.length → y.length ≤ 100000 → d + 7000 < k → folkmootlaw17_MemberApplies.l1 k true (i : Int) v l v l x y = some true := by
  induction d with
  | zero =>
    intro k i y hd hi hy hk
    obtain ⟨k, rfl⟩ : ∃ m, k = m + 1 := ⟨k - 1, by omega⟩
    simp only [folkmootlaw17_MemberApplies.l1]
    rw [if_neg (by omega), applies_f k (by omega), configs_f v l v l (by omega) (by omega) k (by omega) (by omega)]
    simp
  | succ d ih =>
    intro k i y hd hi hy hk
    obtain ⟨k, rfl⟩ : ∃ m, k = m + 1 := ⟨k - 1, by omega⟩
    have h1 : i < y.length := by omega
    simp only [folkmootlaw17_MemberApplies.l1]
    rw [if_pos (by omega), if_pos (by omega), wr1 i _ h1 (by omega), ih k (i + 1) _ (by rw [List.length_set]; omega) (by rw [List.length_set]; omega) (by rw [List.length_set]; omega) (by omega)]
theorem applies_l0 (v l : List Int) (hv : v.length ≤ 2000) (hl : l.length ≤ 2000) (y : List Int) (hy : y.length ≤ 100) (d : Nat) :
    ∀ (k i : Nat) (x : List Int), x.length - i = d → i ≤ x.length → x.length ≤ 100000 → d + 8000 < k → folkmootlaw17_MemberApplies.l0 k true (i : Int) v l v l x y = some true := by
  induction d with
  | zero =>
    intro k i x hd hi hx hk
    obtain ⟨k, rfl⟩ : ∃ m, k = m + 1 := ⟨k - 1, by omega⟩
    simp only [folkmootlaw17_MemberApplies.l0]
    rw [if_neg (by omega)]
    exact applies_l1 v l hv hl x y.length k 0 y (by omega) (by omega) (by omega) (by omega)
  | succ d ih =>
    intro k i x hd hi hx hk
    obtain ⟨k, rfl⟩ : ∃ m, k = m + 1 := ⟨k - 1, by omega⟩
    have h1 : i < x.length := by omega
    simp only [folkmootlaw17_MemberApplies.l0]
    rw [if_pos (by omega), if_pos (by omega), wr1 i _ h1 (by omega), ih k (i + 1) _ (by rw [List.length_set]; omega) (by rw [List.length_set]; omega) (by rw [List.length_set]; omega) (by omega)]
theorem MemberApplies : ∀ (l0_0 : List Int) (l0_1 : List Int) (a1_0 : Int) (a1_1 : Int), l0_0.length ≤ maxLen → (∀ x ∈ l0_0, (Lit.int .i64 x).wf = true) → l0_1.length ≤ maxLen → (∀ x ∈ l0_1, (Lit.int .i64 x).wf = true) → (Lit.int .i64 a1_0).wf = true → (Lit.int .i64 a1_1).wf = true → ∃ k, folkmootlaw17_MemberApplies.f k l0_0 l0_1 a1_0 a1_1 = some true := by
  intro v l c n _ _ _ _ _ _
  obtain ⟨K, hK⟩ : ∃ K : Nat, 19000 ≤ K := ⟨20000, by decide⟩
  refine ⟨K, ?_⟩
  unfold folkmootlaw17_MemberApplies.f
  rw [large_f]
  simp only [Option.bind_some, Bool.or_eq_true, decide_eq_true_iff]
  by_cases hb : v.length > 1000 ∨ l.length > 1000
  · rw [if_pos hb]
  · rw [if_neg hb]
    have hv : v.length ≤ 2000 := by omega
    have hl : l.length ≤ 2000 := by omega
    have hlen := apply_len v l c n
    rw [snap_f v l (by omega) (by omega), apply_f v l c n hv hl K (by omega)]
    simp only [Option.bind_some]
    rw [refapply_f v l c n hv hl K (by omega)]
    simp only [Option.bind_some, if_true]
    rw [configs_f _ _ _ _ (by omega) (by omega) K (by omega) (by omega), decide_eq_true rfl, decide_eq_true rfl]
    exact applies_l0 v l hv hl _ (by omega) (applyR v l c n).1.length K 0 _ (by omega) (by omega) (by omega) (by omega)
end Go.Proofs.Ytjoogjcbamnnbaa.Pure
