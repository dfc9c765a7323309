/- What the printed functions of the packages member and quorum and of their references compute, told by the plain words of MemberMath. -/
import Derived.Test.YtjoogjcbamnnbaaRefSets
import Derived.Test.YtjoogjcbamnnbaaMemberMath
import Derived.Test.YtjoogjcbamnnbaaB1
import Derived.Test.YtjoogjcbamnnbaaB11
import Derived.Test.YtjoogjcbamnnbaaB16
namespace Go.Proofs.Ytjoogjcbamnnbaa.Member
open Go.RowKit Go.Proofs.Ytjoogjcbamnnbaa.B Go.Proofs.YtjoogjcbamnnbaaW.PrintWords Go.Proofs.YtjoogjcbamnnbaaW.PrintLast Go.Proofs.Ytjoogjcbamnnbaa.SetMath Go.Proofs.Ytjoogjcbamnnbaa.MemberMath Go.Proofs.Ytjoogjcbamnnbaa.Sets

/-! ### the program -/
def bad (n : Int) : Bool := decide (n < 1) || decide (n > 5)
theorem bad_f (n : Int) : member_two_may_1.f n = some (bad n) := by
  unfold member_two_may_1.f bad
  by_cases h : n < 1
  · rw [if_pos h, decide_eq_true h]; rfl
  · rw [if_neg h, decide_eq_false h]; rfl
theorem any_l0 (a : List Int) (hb : a.length ≤ 100000) (d : Nat) :
    ∀ (k i : Nat), a.length - i = d → i ≤ a.length → d < k → ∃ r, api_Set_int_51.l0 k a (a.length : Int) (i : Int) = some r ∧ (decide (r ≥ 0) = (a.drop i).any bad) := by
  induction d with
  | zero =>
    intro k i hd hi hk
    obtain ⟨k, rfl⟩ : ∃ m, k = m + 1 := ⟨k - 1, by omega⟩
    simp only [api_Set_int_51.l0]
    rw [if_neg (by omega), List.drop_of_length_le (by omega)]
    exact ⟨_, rfl, by simp⟩
  | succ d ih =>
    intro k i hd hi hk
    obtain ⟨k, rfl⟩ : ∃ m, k = m + 1 := ⟨k - 1, by omega⟩
    have h1 : i < a.length := by omega
    simp only [api_Set_int_51.l0]
    rw [if_pos (by omega), if_pos (by omega), if_pos (by omega), rd_at a i h1, wr1 i _ h1 (by omega), bad_f]
    rw [List.drop_eq_getElem_cons h1, List.any_cons]
    simp only [Option.bind_some]
    by_cases e : bad a[i] = true
    · rw [if_pos e]; exact ⟨_, rfl, by rw [e, Bool.true_or]; exact decide_eq_true (by omega)⟩
    · rw [if_neg e]
      obtain ⟨r, h, hr⟩ := ih k (i + 1) (by omega) (by omega) (by omega)
      exact ⟨r, h, by rw [hr, Bool.eq_false_iff.2 e, Bool.false_or]⟩
theorem any_f (a : List Int) (hb : a.length ≤ 100000) (k : Nat) (hk : a.length < k) : api_Set_int_38.f k a = some (a.any bad) := by
  unfold api_Set_int_38.f api_Set_int_51.f
  obtain ⟨r, h, hr⟩ := any_l0 a hb a.length k 0 (by omega) (by omega) hk
  rw [show ((0 : Nat) : Int) = 0 from rfl] at h
  rw [h]
  simp only [Option.bind_some]
  rw [hr]
  rfl
theorem len_both (v l : List Int) : (bothR v l).1.length ≤ v.length + l.length := by
  unfold bothR
  split
  · split
    · simp
    · have := mk_len (v ++ l)
      rw [List.length_append] at this
      exact this
  · simp
theorem wr_add (a b : Nat) (ha : a ≤ 100000) (hb : b ≤ 100000) : wrap64 ((a : Int) + (b : Int)) = ((a + b : Nat) : Int) := by
  unfold wrap64
  omega
theorem may_f (v l : List Int) (hv : v.length ≤ 2000) (hl : l.length ≤ 2000) (k : Nat) (hk : 5000 ≤ k) : member_two_may.f k v l = some (may v l) := by
  unfold member_two_may.f
  rw [both_f v l (by omega) (by omega) k (by omega), may_both]
  simp only [Option.bind_some]
  have hlen := len_both v l
  generalize bothR v l = b at hlen ⊢
  by_cases h0 : b.2 = 0
  · rw [if_pos h0, any_f b.1 (by omega) k (by omega), decide_eq_true h0]
    simp only [Option.bind_some]
    have e : (b.1.any fun n => decide (n < 1) || decide (n > 5)) = b.1.any bad := rfl
    rw [e]
    by_cases h1 : b.1.any bad = true
    · rw [if_pos h1, h1]; rfl
    · rw [if_neg h1, Bool.eq_false_iff.2 h1]
      by_cases h2 : (v.length : Int) > 0
      · rw [if_pos h2, wr_add _ _ (by omega) (by omega), decide_eq_true (show v.length > 0 by omega)]
        have e2 : ((b.1.length : Int) == ((v.length + l.length : Nat) : Int)) = decide (b.1.length = v.length + l.length) := by
          rw [Bool.eq_iff_iff, beq_iff_eq, decide_eq_true_iff]
          omega
        rw [e2]
        rfl
      · rw [if_neg h2, decide_eq_false (show ¬ v.length > 0 by omega)]; rfl
  · rw [if_neg h0, decide_eq_false h0]; rfl
theorem ask_f (v l : List Int) : member_ask.f v l = some true := rfl
def allR (v l : List Int) : List Int := if may v l = true then mk (v ++ l) else []
/-! ### the reference -/
theorem nodes_l0 (a : List Int) (hb : a.length ≤ 100000) (d : Nat) :
    ∀ (k i : Nat), a.length - i = d → i ≤ a.length → d < k → folkmootref17_nodes.l0 k a (i : Int) = some ((a.drop i).all node) := by
  induction d with
  | zero =>
    intro k i hd hi hk
    obtain ⟨k, rfl⟩ : ∃ m, k = m + 1 := ⟨k - 1, by omega⟩
    simp only [folkmootref17_nodes.l0]
    rw [if_neg (by omega), List.drop_of_length_le (by omega)]
    rfl
  | succ d ih =>
    intro k i hd hi hk
    obtain ⟨k, rfl⟩ : ∃ m, k = m + 1 := ⟨k - 1, by omega⟩
    have h1 : i < a.length := by omega
    simp only [folkmootref17_nodes.l0]
    rw [if_pos (by omega), if_pos (by omega), rd_at a i h1, wr1 i _ h1 (by omega), List.drop_eq_getElem_cons h1, List.all_cons]
    unfold node
    by_cases e : a[i] < 1
    · rw [if_pos e, decide_eq_false (show ¬ 1 ≤ a[i] by omega)]; rfl
    · rw [if_neg e, decide_eq_true (show 1 ≤ a[i] by omega)]
      by_cases e' : a[i] > 5
      · rw [if_pos e', decide_eq_false (show ¬ a[i] ≤ 5 by omega)]; rfl
      · rw [if_neg e', decide_eq_true (show a[i] ≤ 5 by omega), ih k (i + 1) (by omega) (by omega) (by omega)]
        rfl
theorem nodes_f (a : List Int) (hb : a.length ≤ 2000) (k : Nat) (hk : 5000 ≤ k) : folkmootref17_nodes.f k a = some (isSet a && a.all node) := by
  unfold folkmootref17_nodes.f
  rw [refis_f a (by omega) k (by omega)]
  simp only [Option.bind_some]
  by_cases h : isSet a = true
  · have := nodes_l0 a (by omega) a.length k 0 (by omega) (by omega) (by omega)
    rw [show ((0 : Nat) : Int) = 0 from rfl, List.drop_zero] at this
    rw [if_pos h, h, this]
    rfl
  · rw [if_neg h, Bool.eq_false_iff.2 h]; rfl
theorem apart_l0 (v l : List Int) (hv : v.length ≤ 2000) (hl : l.length ≤ 2000) (d : Nat) :
    ∀ (k i : Nat), v.length - i = d → i ≤ v.length → d + 2001 < k → folkmootref17_May.l0 k (i : Int) v l = some ((v.drop i).all fun x => !l.contains x) := by
  induction d with
  | zero =>
    intro k i hd hi hk
    obtain ⟨k, rfl⟩ : ∃ m, k = m + 1 := ⟨k - 1, by omega⟩
    simp only [folkmootref17_May.l0]
    rw [if_neg (by omega), List.drop_of_length_le (by omega)]
    rfl
  | succ d ih =>
    intro k i hd hi hk
    obtain ⟨k, rfl⟩ : ∃ m, k = m + 1 := ⟨k - 1, by omega⟩
    have h1 : i < v.length := by omega
    simp only [folkmootref17_May.l0]
    rw [if_pos (by omega), if_pos (by omega), rd_at v i h1, wr1 i _ h1 (by omega), refhas_f l _ (by omega) k (by omega), List.drop_eq_getElem_cons h1, List.all_cons]
    simp only [Option.bind_some]
    by_cases e : l.contains v[i] = true
    · rw [if_pos e, e]; rfl
    · rw [if_neg e, Bool.eq_false_iff.2 e, ih k (i + 1) (by omega) (by omega) (by omega)]; rfl
theorem refmay_f (v l : List Int) (hv : v.length ≤ 2000) (hl : l.length ≤ 2000) (k : Nat) (hk : 6000 ≤ k) : folkmootref17_May.f k v l = some (may v l) := by
  unfold folkmootref17_May.f may
  rw [nodes_f v hv k (by omega), nodes_f l hl k (by omega)]
  simp only [Option.bind_some]
  obtain ⟨k, rfl⟩ : ∃ m, k = m + 1 := ⟨k - 1, by omega⟩
  simp only [folkmootref17_May.j0]
  have h0 := apart_l0 v l hv hl v.length k 0 (by omega) (by omega) (by omega)
  rw [show ((0 : Nat) : Int) = 0 from rfl, List.drop_zero] at h0
  rw [h0]
  have e : ((v.length : Int) == 0) = !decide (v ≠ []) := by
    cases v with
    | nil => rfl
    | cons x r => simp; omega
  rw [e]
  cases isSet v <;> cases isSet l <;> cases v.all node <;> cases l.all node <;> cases decide (v ≠ []) <;> rfl
theorem sets_l0 (a b : List Int) (hl : a.length = b.length) (hb : a.length ≤ 100000) (d : Nat) :
    ∀ (k i : Nat), a.length - i = d → i ≤ a.length → d < k → folkmootref15_sets.l0 k a b (i : Int) = some (decide (a.drop i = b.drop i)) := by
  induction d with
  | zero =>
    intro k i hd hi hk
    obtain ⟨k, rfl⟩ : ∃ m, k = m + 1 := ⟨k - 1, by omega⟩
    simp only [folkmootref15_sets.l0]
    rw [if_neg (by omega), List.drop_of_length_le (by omega), List.drop_of_length_le (by omega)]
    rfl
  | succ d ih =>
    intro k i hd hi hk
    obtain ⟨k, rfl⟩ : ∃ m, k = m + 1 := ⟨k - 1, by omega⟩
    have h1 : i < a.length := by omega
    have h2 : i < b.length := by omega
    simp only [folkmootref15_sets.l0]
    rw [if_pos (by omega), if_pos (by omega), if_pos (by omega), rd_at a i h1, rd_at b i h2, wr1 i _ h1 (by omega), List.drop_eq_getElem_cons h1, List.drop_eq_getElem_cons h2]
    by_cases e : a[i] = b[i]
    · rw [if_pos e, ih k (i + 1) (by omega) (by omega) (by omega)]
      congr 1
      rw [decide_eq_decide]
      exact ⟨fun h => by rw [e, h], fun h => (List.cons.inj h).2⟩
    · rw [if_neg e]
      congr 1
      exact (decide_eq_false (fun h => e (List.cons.inj h).1)).symm
theorem sets_f (a b : List Int) (hb : a.length ≤ 100000) (k : Nat) (hk : a.length < k) : folkmootref15_sets.f k a b = some (decide (a = b)) := by
  unfold folkmootref15_sets.f
  by_cases h : (a.length : Int) = (b.length : Int)
  · have := sets_l0 a b (by omega) hb a.length k 0 (by omega) (by omega) hk
    rw [show ((0 : Nat) : Int) = 0 from rfl, List.drop_zero, List.drop_zero] at this
    rw [if_pos h, this]
  · rw [if_neg h, decide_eq_false (fun e => h (by rw [e]))]
theorem configs_f (a b c d : List Int) (ha : a.length ≤ 100000) (hb : b.length ≤ 100000) (k : Nat) (hk : a.length < k) (hk' : b.length < k) : folkmootref15_Configs.f k a b c d = some (decide (a = c) && decide (b = d)) := by
  unfold folkmootref15_Configs.f
  rw [sets_f a c ha k hk, sets_f b d hb k hk']
  simp only [Option.bind_some]
  by_cases h : a = c
  · rw [decide_eq_true h, if_pos rfl]; rfl
  · rw [decide_eq_false h, if_neg (by decide)]; rfl
theorem snap_f (a b : List Int) (ha : a.length ≤ 100000) (hb : b.length ≤ 100000) : folkmootref15_Snap.f 0 0 a b (⟨#[]⟩ : ByteArray) = some (0, 0, a, b, ⟨#[]⟩) := by
  unfold folkmootref15_Snap.f folkmootref15_config.f
  rw [if_pos (by simp; omega), if_pos (by simp; omega)]
  rfl
theorem large_f (a b : List Int) : folkmootlaw17_large.f a b = some (decide (a.length > 1000) || decide (b.length > 1000)) := by
  unfold folkmootlaw17_large.f
  by_cases h : (a.length : Int) > 1000
  · rw [if_pos h, decide_eq_true (show a.length > 1000 by omega)]; rfl
  · rw [if_neg h, decide_eq_false (show ¬ a.length > 1000 by omega), Bool.false_or]
    congr 1
    rw [decide_eq_decide]
    omega

/-! ### the document's example -/
end Go.Proofs.Ytjoogjcbamnnbaa.Member
