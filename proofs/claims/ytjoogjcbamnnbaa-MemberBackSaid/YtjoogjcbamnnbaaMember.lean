/- What the printed functions of the packages member and quorum and of their references compute, told by the plain words of MemberMath. -/
import Derived.Test.YtjoogjcbamnnbaaRefSets
import Derived.Test.YtjoogjcbamnnbaaMemberMath
import Derived.Test.YtjoogjcbamnnbaaD1
import Derived.Test.YtjoogjcbamnnbaaD11
import Derived.Test.YtjoogjcbamnnbaaD12
namespace Go.Proofs.Ytjoogjcbamnnbaa.Member
open Go.RowKit Go.Proofs.Ytjoogjcbamnnbaa.D Go.Proofs.YtjoogjcbamnnbaaW.PrintWords Go.Proofs.YtjoogjcbamnnbaaW.PrintLast Go.Proofs.Ytjoogjcbamnnbaa.SetMath Go.Proofs.Ytjoogjcbamnnbaa.MemberMath Go.Proofs.Ytjoogjcbamnnbaa.Sets

/-! ### the program -/
def bad (n : Int) : Bool := decide (n < 1) || decide (n > 5)
theorem bad_f (n : Int) : member_two_may_1.f n = some (bad n) := by
  unfold member_two_may_1.f bad
  by_cases h : n < 1
  · rw [if_pos h, decide_eq_true h]; rfl
  · rw [if_neg h, decide_eq_false h]; rfl
theorem any_l0 (a : List Int) (hb : a.length ≤ 100000) (d : Nat) :
    ∀ (k i : Nat), a.length - i = d → i ≤ a.length → d < k → ∃ r, api_Set_int_51.l0 k a (a.length : Int) (i : Int) = some r ∧ (decide (r ≥ 0) = (a.drop i).any bad) := by
  induction d with
  | zero =>
    intro k i hd hi hk
    obtain ⟨k, rfl⟩ : ∃ m, k = m + 1 := ⟨k - 1, by omega⟩
    simp only [api_Set_int_51.l0]
    rw [if_neg (by omega), List.drop_of_length_le (by omega)]
    exact ⟨_, rfl, by simp⟩
  | succ d ih =>
    intro k i hd hi hk
    obtain ⟨k, rfl⟩ : ∃ m, k = m + 1 := ⟨k - 1, by omega⟩
    have h1 : i < a.length := by omega
    simp only [api_Set_int_51.l0]
    rw [if_pos (by omega), if_pos (by omega), if_pos (by omega), rd_at a i h1, wr1 i _ h1 (by omega), bad_f]
    rw [List.drop_eq_getElem_cons h1, List.any_cons]
    simp only [Option.bind_some]
    by_cases e : bad a[i] = true
    · rw [if_pos e]; exact ⟨_, rfl, by rw [e, Bool.true_or]; exact decide_eq_true (by omega)⟩
    · rw [if_neg e]
      obtain ⟨r, h, hr⟩ := ih k (i + 1) (by omega) (by omega) (by omega)
      exact ⟨r, h, by rw [hr, Bool.eq_false_iff.2 e, Bool.false_or]⟩
theorem any_f (a : List Int) (hb : a.length ≤ 100000) (k : Nat) (hk : a.length < k) : api_Set_int_38.f k a = some (a.any bad) := by
  unfold api_Set_int_38.f api_Set_int_51.f
  obtain ⟨r, h, hr⟩ := any_l0 a hb a.length k 0 (by omega) (by omega) hk
  rw [show ((0 : Nat) : Int) = 0 from rfl] at h
  rw [h]
  simp only [Option.bind_some]
  rw [hr]
  rfl
theorem len_both (v l : List Int) : (bothR v l).1.length ≤ v.length + l.length := by
  unfold bothR
  split
  · split
    · simp
    · have := mk_len (v ++ l)
      rw [List.length_append] at this
      exact this
  · simp
theorem wr_add (a b : Nat) (ha : a ≤ 100000) (hb : b ≤ 100000) : wrap64 ((a : Int) + (b : Int)) = ((a + b : Nat) : Int) := by
  unfold wrap64
  omega
theorem may_f (v l : List Int) (hv : v.length ≤ 2000) (hl : l.length ≤ 2000) (k : Nat) (hk : 5000 ≤ k) : member_two_may.f k v l = some (may v l) := by
  unfold member_two_may.f
  rw [both_f v l (by omega) (by omega) k (by omega), may_both]
  simp only [Option.bind_some]
  have hlen := len_both v l
  generalize bothR v l = b at hlen ⊢
  by_cases h0 : b.2 = 0
  · rw [if_pos h0, any_f b.1 (by omega) k (by omega), decide_eq_true h0]
    simp only [Option.bind_some]
    have e : (b.1.any fun n => decide (n < 1) || decide (n > 5)) = b.1.any bad := rfl
    rw [e]
    by_cases h1 : b.1.any bad = true
    · rw [if_pos h1, h1]; rfl
    · rw [if_neg h1, Bool.eq_false_iff.2 h1]
      by_cases h2 : (v.length : Int) > 0
      · rw [if_pos h2, wr_add _ _ (by omega) (by omega), decide_eq_true (show v.length > 0 by omega)]
        have e2 : ((b.1.length : Int) == ((v.length + l.length : Nat) : Int)) = decide (b.1.length = v.length + l.length) := by
          rw [Bool.eq_iff_iff, beq_iff_eq, decide_eq_true_iff]
          omega
        rw [e2]
        rfl
      · rw [if_neg h2, decide_eq_false (show ¬ v.length > 0 by omega)]; rfl
  · rw [if_neg h0, decide_eq_false h0]; rfl
theorem ask_f (v l : List Int) : member_ask.f v l = some true := rfl
theorem check_f (v l : List Int) (hv : v.length ≤ 2000) (hl : l.length ≤ 2000) (k : Nat) (hk : 5000 ≤ k) : member_Check.f k v l = some (if may v l = true then 0 else 160) := by
  unfold member_Check.f
  rw [ask_f, may_f v l hv hl k hk]
  simp only [Option.bind_some]
  split <;> rfl
def allR (v l : List Int) : List Int := if may v l = true then mk (v ++ l) else []
theorem all_f (v l : List Int) (hv : v.length ≤ 2000) (hl : l.length ≤ 2000) (k : Nat) (hk : 5000 ≤ k) : member_All.f k v l = some (allR v l) := by
  unfold member_All.f allR
  rw [ask_f, may_f v l hv hl k hk]
  simp only [Option.bind_some]
  by_cases h : may v l = true
  · rw [if_pos h, if_pos h, both_f v l (by omega) (by omega) k (by omega), both_of ((may_iff v l).1 h)]; rfl
  · rw [if_neg h, if_neg h]
theorem voter_f (v l : List Int) (n : Int) (hv : v.length ≤ 2000) (hl : l.length ≤ 2000) (k : Nat) (hk : 5000 ≤ k) : member_Voter.f k v l n = some (may v l && v.contains n) := by
  unfold member_Voter.f member_two_has.f
  rw [ask_f, may_f v l hv hl k hk, has_f v n (by omega) k (by omega), has_f l n (by omega) k (by omega)]
  simp only [Option.bind_some]
  cases v.contains n <;> cases may v l <;> rfl
theorem count_l0 (v a : List Int) (hv : v.length ≤ 2000) (ha : a.length ≤ 2000) (d : Nat) :
    ∀ (k i c : Nat), v.length - i = d → i ≤ v.length → c ≤ i → d + 2000 < k → quorum_count.l0 k a (c : Int) v (v.length : Int) (i : Int) = some ((c + (v.drop i).countP (fun x => a.contains x) : Nat) : Int) := by
  induction d with
  | zero =>
    intro k i c hd hi hc hk
    obtain ⟨k, rfl⟩ : ∃ m, k = m + 1 := ⟨k - 1, by omega⟩
    simp only [quorum_count.l0]
    rw [if_neg (by omega), List.drop_of_length_le (by omega)]
    rfl
  | succ d ih =>
    intro k i c hd hi hc hk
    obtain ⟨k, rfl⟩ : ∃ m, k = m + 1 := ⟨k - 1, by omega⟩
    have h1 : i < v.length := by omega
    simp only [quorum_count.l0]
    unfold quorum_asked_has.f
    rw [if_pos (by omega), if_pos (by omega), if_pos (by omega), rd_at v i h1, wr1 i _ h1 (by omega), has_f a _ (by omega) k (by omega), List.drop_eq_getElem_cons h1, List.countP_cons]
    simp only [Option.bind_some]
    by_cases e : a.contains v[i] = true
    · rw [if_pos e, if_pos e, wr1 c 2001 (by omega) (by omega), ih k (i + 1) (c + 1) (by omega) (by omega) (by omega) (by omega)]
      congr 1
      omega
    · rw [if_neg e, if_neg e, ih k (i + 1) c (by omega) (by omega) (by omega) (by omega)]
      congr 1
theorem count_f (v a : List Int) (hv : v.length ≤ 2000) (ha : a.length ≤ 2000) (k : Nat) (hk : 5000 ≤ k) : quorum_count.f k v a = some ((v.countP (fun x => a.contains x) : Nat) : Int) := by
  unfold quorum_count.f
  have := count_l0 v a hv ha v.length k 0 0 (by omega) (by omega) (by omega) (by omega)
  rw [show ((0 : Nat) : Int) = 0 from rfl, List.drop_zero, Nat.zero_add] at this
  exact this
theorem major_f (n : Nat) (h0 : 0 < n) (hn : n ≤ 2000) : quorum_Majority.f (n : Int) = some ((n / 2 + 1 : Nat) : Int) := by
  unfold quorum_Majority.f
  rw [if_neg (by omega)]
  have e : Int.tdiv (n : Int) 2 = ((n / 2 : Nat) : Int) := rfl
  have e2 : wrap64 ((n / 2 : Nat) : Int) = ((n / 2 : Nat) : Int) := by unfold wrap64; omega
  rw [e, e2, wr1 (n / 2) 2001 (by omega) (by omega)]
theorem quorum_f (v a : List Int) (hv : v.length ≤ 2000) (ha : a.length ≤ 2000) (k : Nat) (hk : 5000 ≤ k) : quorum_Reached.f k v a = some (isSet v && decide (v ≠ []) && reached v a) := by
  unfold quorum_Reached.f reached
  rw [is_f v (by omega) k (by omega), count_f v a hv ha k hk]
  simp only [Option.bind_some]
  by_cases h : isSet v = true
  · rw [if_pos h, h]
    by_cases h0 : (v.length : Int) > 0
    · rw [if_pos h0, major_f v.length (by omega) hv, decide_eq_true (show v ≠ [] from List.length_pos_iff.1 (by omega))]
      simp only [Option.bind_some, Bool.true_and]
      congr 1
      rw [decide_eq_decide]
      omega
    · rw [if_neg h0]
      have : v = [] := List.length_eq_zero_iff.1 (by omega)
      subst this
      rfl
  · rw [if_neg h, Bool.eq_false_iff.2 h]
    rfl
theorem reached_f (v l a : List Int) (hv : v.length ≤ 2000) (hl : l.length ≤ 2000) (ha : a.length ≤ 2000) (k : Nat) (hk : 5000 ≤ k) : member_Reached.f k v l a = some (may v l && reached v a) := by
  unfold member_Reached.f
  rw [ask_f, may_f v l hv hl k hk, quorum_f v a hv ha k hk]
  simp only [Option.bind_some]
  by_cases h : may v l = true
  · have hm := (may_iff v l).1 h
    rw [if_pos h, h, hm.sv, decide_eq_true hm.ne]
    rfl
  · rw [if_neg h, Bool.eq_false_iff.2 h]; rfl

/-! ### the reference -/
theorem sets_l0 (a b : List Int) (hl : a.length = b.length) (hb : a.length ≤ 100000) (d : Nat) :
    ∀ (k i : Nat), a.length - i = d → i ≤ a.length → d < k → folkmootref15_sets.l0 k a b (i : Int) = some (decide (a.drop i = b.drop i)) := by
  induction d with
  | zero =>
    intro k i hd hi hk
    obtain ⟨k, rfl⟩ : ∃ m, k = m + 1 := ⟨k - 1, by omega⟩
    simp only [folkmootref15_sets.l0]
    rw [if_neg (by omega), List.drop_of_length_le (by omega), List.drop_of_length_le (by omega)]
    rfl
  | succ d ih =>
    intro k i hd hi hk
    obtain ⟨k, rfl⟩ : ∃ m, k = m + 1 := ⟨k - 1, by omega⟩
    have h1 : i < a.length := by omega
    have h2 : i < b.length := by omega
    simp only [folkmootref15_sets.l0]
    rw [if_pos (by omega), if_pos (by omega), if_pos (by omega), rd_at a i h1, rd_at b i h2, wr1 i _ h1 (by omega), List.drop_eq_getElem_cons h1, List.drop_eq_getElem_cons h2]
    by_cases e : a[i] = b[i]
    · rw [if_pos e, ih k (i + 1) (by omega) (by omega) (by omega)]
      congr 1
      rw [decide_eq_decide]
      exact ⟨fun h => by rw [e, h], fun h => (List.cons.inj h).2⟩
    · rw [if_neg e]
      congr 1
      exact (decide_eq_false (fun h => e (List.cons.inj h).1)).symm
theorem sets_f (a b : List Int) (hb : a.length ≤ 100000) (k : Nat) (hk : a.length < k) : folkmootref15_sets.f k a b = some (decide (a = b)) := by
  unfold folkmootref15_sets.f
  by_cases h : (a.length : Int) = (b.length : Int)
  · have := sets_l0 a b (by omega) hb a.length k 0 (by omega) (by omega) hk
    rw [show ((0 : Nat) : Int) = 0 from rfl, List.drop_zero, List.drop_zero] at this
    rw [if_pos h, this]
  · rw [if_neg h, decide_eq_false (fun e => h (by rw [e]))]
theorem configs_f (a b c d : List Int) (ha : a.length ≤ 100000) (hb : b.length ≤ 100000) (k : Nat) (hk : a.length < k) (hk' : b.length < k) : folkmootref15_Configs.f k a b c d = some (decide (a = c) && decide (b = d)) := by
  unfold folkmootref15_Configs.f
  rw [sets_f a c ha k hk, sets_f b d hb k hk']
  simp only [Option.bind_some]
  by_cases h : a = c
  · rw [decide_eq_true h, if_pos rfl]; rfl
  · rw [decide_eq_false h, if_neg (by decide)]; rfl
theorem large_f (a b : List Int) : folkmootlaw17_large.f a b = some (decide (a.length > 1000) || decide (b.length > 1000)) := by
  unfold folkmootlaw17_large.f
  by_cases h : (a.length : Int) > 1000
  · rw [if_pos h, decide_eq_true (show a.length > 1000 by omega)]; rfl
  · rw [if_neg h, decide_eq_false (show ¬ a.length > 1000 by omega), Bool.false_or]
    congr 1
    rw [decide_eq_decide]
    omega

/-! ### the document's example -/
theorem may_one : may [1, 2, 3] [4] = true := by decide
theorem mk_one : mk ([1, 2, 3] ++ [4]) = [1, 2, 3, 4] := mk_self ((up_iff _).1 (by decide))
theorem asks_f (k : Nat) (hk : 5000 ≤ k) : folkmootlaw17_asks.f k = some true := by
  unfold folkmootlaw17_asks.f folkmootlaw17_one.f
  simp only [Option.bind_some]
  rw [check_f [1, 2, 3] [4] (by decide) (by decide) k hk, all_f [1, 2, 3] [4] (by decide) (by decide) k hk, reached_f [1, 2, 3] [4] [1, 2] (by decide) (by decide) (by decide) k hk, reached_f [1, 2, 3] [4] [1, 4] (by decide) (by decide) (by decide) k hk, voter_f [1, 2, 3] [4] 3 (by decide) (by decide) k hk, voter_f [1, 2, 3] [4] 4 (by decide) (by decide) k hk]
  unfold allR
  rw [may_one, if_pos rfl, if_pos rfl, mk_one]
  simp only [Option.bind_some]
  rw [ints_f [1, 2, 3, 4] [1, 2, 3, 4] (by decide) k (by simp; omega)]
  rfl
end Go.Proofs.Ytjoogjcbamnnbaa.Member
