/- The statement MemberAsks as a plain law over lists. -/
import Derived.Test.YtjoogjcbamnnbaaMember
import Derived.OpenShut
import Derived.Test.YtjoogjcbamnnbaaQ14
import Derived.Test.YtjoogjcbamnnbaaQ15
namespace Go.Proofs.Ytjoogjcbamnnbaa.Pure
open Go.RowKit Go.Proofs.Ytjoogjcbamnnbaa.Q Go.Proofs.YtjoogjcbamnnbaaW.PrintWords Go.Proofs.YtjoogjcbamnnbaaW.PrintLast Go.Proofs.Ytjoogjcbamnnbaa.SetMath Go.Proofs.Ytjoogjcbamnnbaa.MemberMath Go.Proofs.Ytjoogjcbamnnbaa.Sets Go.Proofs.Ytjoogjcbamnnbaa.Member
theorem enough_f (c n : Nat) (hc : c ≤ n) (hn : n ≤ 2000) : folkmootref05_Enough.f (c : Int) (n : Int) = some (decide (2 * c > n)) := by
  unfold folkmootref05_Enough.f
  have e : wrap64 ((n : Int) - (c : Int)) = ((n - c : Nat) : Int) := by unfold wrap64; omega
  rw [e]
  congr 1
  rw [decide_eq_decide]
  omega
theorem refq_l0 (v a : List Int) (hv : v.length ≤ 2000) (ha : a.length ≤ 2000) (d : Nat) :
    ∀ (k i c : Nat), v.length - i = d → i ≤ v.length → c ≤ i → d + 3000 < k → folkmootref05_Reached.l0 k v a (c : Int) (i : Int) = some (isSet v && decide (v ≠ []) && decide (2 * (c + (v.drop i).countP (fun x => a.contains x)) > v.length)) := by
  induction d with
  | zero =>
    intro k i c hd hi hc hk
    obtain ⟨k, rfl⟩ : ∃ m, k = m + 1 := ⟨k - 1, by omega⟩
    simp only [folkmootref05_Reached.l0]
    rw [if_neg (by omega), List.drop_of_length_le (by omega), refis_f v (by omega) k (by omega), enough_f c v.length (by omega) hv]
    simp only [Option.bind_some]
    by_cases h : isSet v = true
    · rw [if_pos h, h]
      by_cases h0 : (v.length : Int) > 0
      · rw [if_pos h0, decide_eq_true (show v ≠ [] from List.length_pos_iff.1 (by omega))]; rfl
      · rw [if_neg h0, decide_eq_false (show ¬ v ≠ [] from fun h => h (List.length_eq_zero_iff.1 (by omega)))]; rfl
    · rw [if_neg h, Bool.eq_false_iff.2 h]; rfl
  | succ d ih =>
    intro k i c hd hi hc hk
    obtain ⟨k, rfl⟩ : ∃ m, k = m + 1 := ⟨k - 1, by omega⟩
    have h1 : i < v.length := by omega
    simp only [folkmootref05_Reached.l0]
    rw [if_pos (by omega), if_pos (by omega), rd_at v i h1, wr1 i _ h1 (by omega), refhas_f a _ (by omega) k (by omega), List.drop_eq_getElem_cons h1, List.countP_cons]
    simp only [Option.bind_some]
    by_cases e : a.contains v[i] = true
    · rw [if_pos e, if_pos e, wr1 c 2001 (by omega) (by omega), ih k (i + 1) (c + 1) (by omega) (by omega) (by omega) (by omega)]
      congr 2
      rw [decide_eq_decide]
      omega
    · rw [if_neg e, if_neg e, ih k (i + 1) c (by omega) (by omega) (by omega) (by omega)]
      congr 2
theorem refreached_f (v l a : List Int) (hv : v.length ≤ 2000) (hl : l.length ≤ 2000) (ha : a.length ≤ 2000) (k : Nat) (hk : 6000 ≤ k) : folkmootref17_Reached.f k v l a = some (may v l && reached v a) := by
  unfold folkmootref17_Reached.f folkmootref05_Reached.f reached
  rw [refmay_f v l hv hl k hk]
  simp only [Option.bind_some]
  by_cases h : may v l = true
  · have hm := (may_iff v l).1 h
    have := refq_l0 v a hv ha v.length k 0 0 (by omega) (by omega) (by omega) (by omega)
    rw [show ((0 : Nat) : Int) = 0 from rfl, List.drop_zero, Nat.zero_add, hm.sv, decide_eq_true hm.ne] at this
    rw [if_pos h, h, this]
    rfl
  · rw [if_neg h, Bool.eq_false_iff.2 h]; rfl
theorem refvoter_f (v l : List Int) (n : Int) (hv : v.length ≤ 2000) (hl : l.length ≤ 2000) (k : Nat) (hk : 6000 ≤ k) : folkmootref17_Voter.f k v l n = some (may v l && v.contains n) := by
  unfold folkmootref17_Voter.f
  rw [refmay_f v l hv hl k hk, refhas_f v n (by omega) k (by omega)]
  simp only [Option.bind_some]
  by_cases h : may v l = true
  · rw [if_pos h, h]; rfl
  · rw [if_neg h, Bool.eq_false_iff.2 h]; rfl
theorem asks_j2 (v l a : List Int) (n : Int) (hv : v.length ≤ 2000) (hl : l.length ≤ 2000) (ha : a.length ≤ 2000) (k : Nat) (hk : 7000 ≤ k) : folkmootlaw17_MemberAsks.j2 k a n true true v l v l = some true := by
  obtain ⟨k, rfl⟩ : ∃ m, k = m + 1 := ⟨k - 1, by omega⟩
  simp only [folkmootlaw17_MemberAsks.j2]
  rw [asks_f k (by omega), reached_f v l a hv hl ha k (by omega), refreached_f v l a hv hl ha k (by omega), voter_f v l n hv hl k (by omega), refvoter_f v l n hv hl k (by omega), configs_f v l v l (by omega) (by omega) k (by omega) (by omega)]
  simp
theorem asks_l0 (v l a : List Int) (n : Int) (hv : v.length ≤ 2000) (hl : l.length ≤ 2000) (ha : a.length ≤ 2000) (d : Nat) :
    ∀ (k i : Nat) (x : List Int), x.length - i = d → i ≤ x.length → x.length ≤ 100000 → d + 8000 < k → folkmootlaw17_MemberAsks.l0 k a n (if may v l = true then 0 else 160) x true (i : Int) v l v l = some true := by
  induction d with
  | zero =>
    intro k i x hd hi hx hk
    obtain ⟨k, rfl⟩ : ∃ m, k = m + 1 := ⟨k - 1, by omega⟩
    simp only [folkmootlaw17_MemberAsks.l0]
    rw [if_neg (by omega), refmay_f v l hv hl k (by omega)]
    simp only [Option.bind_some]
    by_cases h : may v l = true
    · rw [if_pos h, h, if_pos (by decide), if_pos rfl, asks_j2 v l a n hv hl ha k (by omega)]
    · rw [if_neg h, Bool.eq_false_iff.2 h, if_pos (by decide), if_neg (by decide), show ((160 : Int) == 160) = true from rfl, asks_j2 v l a n hv hl ha k (by omega)]
  | succ d ih =>
    intro k i x hd hi hx hk
    obtain ⟨k, rfl⟩ : ∃ m, k = m + 1 := ⟨k - 1, by omega⟩
    have h1 : i < x.length := by omega
    simp only [folkmootlaw17_MemberAsks.l0]
    rw [if_pos (by omega), if_pos (by omega), wr1 i _ h1 (by omega), ih k (i + 1) _ (by rw [List.length_set]; omega) (by rw [List.length_set]; omega) (by rw [List.length_set]; omega) (by omega)]
theorem MemberAsks : ∀ (l0_0 : List Int) (l0_1 : List Int) (l1 : List Int) (a2 : Int), l0_0.length ≤ maxLen → (∀ x ∈ l0_0, (Lit.int .i64 x).wf = true) → l0_1.length ≤ maxLen → (∀ x ∈ l0_1, (Lit.int .i64 x).wf = true) → l1.length ≤ maxLen → (∀ x ∈ l1, (Lit.int .i64 x).wf = true) → (Lit.int .i64 a2).wf = true → ∃ k, folkmootlaw17_MemberAsks.f k l0_0 l0_1 l1 a2 = some true := by
  intro v l a n _ _ _ _ _ _ _
  obtain ⟨K, hK⟩ : ∃ K : Nat, 19000 ≤ K := ⟨20000, by decide⟩
  refine ⟨K + 1, ?_⟩
  unfold folkmootlaw17_MemberAsks.f
  rw [large_f]
  simp only [Option.bind_some, Bool.or_eq_true, decide_eq_true_iff]
  by_cases hb : v.length > 1000 ∨ l.length > 1000
  · rw [if_pos hb]; rfl
  · rw [if_neg hb]
    have hv : v.length ≤ 2000 := by omega
    have hl : l.length ≤ 2000 := by omega
    by_cases ha : (a.length : Int) > 1000
    · rw [decide_eq_true ha]; rfl
    · rw [decide_eq_false ha]
      have hlen : (allR v l).length ≤ 4000 := by
        unfold allR
        split
        · have := mk_len (v ++ l)
          rw [List.length_append] at this
          omega
        · simp
      simp only [folkmootlaw17_MemberAsks.j0]
      rw [if_neg (by decide), snap_f v l (by omega) (by omega)]
      simp only [Option.bind_some]
      rw [check_f v l hv hl _ (by omega), all_f v l hv hl _ (by omega), refall_f v l hv hl _ (by omega)]
      simp only [Option.bind_some]
      rw [ints_f (allR v l) (allR v l) (by omega) _ (by omega), decide_eq_true rfl]
      exact asks_l0 v l a n hv hl (by omega) (allR v l).length K 0 (allR v l) (by omega) (by omega) (by omega) (by omega)
end Go.Proofs.Ytjoogjcbamnnbaa.Pure
