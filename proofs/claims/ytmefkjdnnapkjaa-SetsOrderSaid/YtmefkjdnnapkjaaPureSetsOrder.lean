/- The statement SetsOrder as a plain law over lists: numbers laid into a set one behind the other, in their order and from behind, give the same set, or there are more than sixteen of them. It holds for every row that can be read. -/
import Derived.Test.YtmefkjdnnapkjaaSetsLaw
namespace Go.Proofs.Ytmefkjdnnapkjaa.Pure
open Go.RowKit Go.Proofs.Ytmefkjdnnapkjaa.Q Go.Proofs.YtmefkjdnnapkjaaW.PrintWords Go.Proofs.YtmefkjdnnapkjaaW.PrintLast Go.Proofs.Ytmefkjdnnapkjaa.SetMath Go.Proofs.Ytmefkjdnnapkjaa.Sets

theorem order_l0 (l : List Int) (hb : l.length * 8 ≤ 140737488351232) (hn : l.length ≤ 1000) (d : Nat) :
    ∀ (k i : Nat) (a b : List Int), l.length - i = d → i ≤ l.length → d + 30 ≤ k → Up a → a.length ≤ i → a.length ≤ 16 → (∀ x, x ∈ a ↔ x ∈ l.take i) → Up b → b.length ≤ i → b.length ≤ 16 → (∀ x, x ∈ b ↔ x ∈ l.drop (l.length - i)) →
      folkmootlaw04_SetsOrder.l0 k l a b (i : Int) = some true := by
  induction d with
  | zero =>
    intro k i a b hd hi hk ha1 ha2 ha3 ha4 hb1 hb2 hb3 hb4
    obtain ⟨k, rfl⟩ : ∃ m, k = m + 1 := ⟨k - 1, by omega⟩
    have e : a = b := by
      refine up_ext ha1 hb1 (fun x => ?_)
      rw [ha4, hb4, List.take_of_length_le (by omega), show l.length - i = 0 by omega, List.drop_zero]
    simp only [folkmootlaw04_SetsOrder.l0]
    rw [if_neg (by omega), with_true k (by omega)]
    simp only [Option.bind_some, if_true]
    rw [is_f a (by omega) k (by omega), (isSet_iff a).2 ⟨ha1, ha3⟩]
    simp only [Option.bind_some, if_true]
    rw [same_f a b (by omega) k (by omega), e]
    simp
  | succ d ih =>
    intro k i a b hd hi hk ha1 ha2 ha3 ha4 hb1 hb2 hb3 hb4
    obtain ⟨k, rfl⟩ : ∃ m, k = m + 1 := ⟨k - 1, by omega⟩
    have h1 : i < l.length := by omega
    have e1 : wrap64 ((wrap64 ((l.length : Int) - 1)) - (i : Int)) = ((l.length - 1 - i : Nat) : Int) := by unfold wrap64; omega
    have ia : isSet a = true := (isSet_iff a).2 ⟨ha1, ha3⟩
    have ib : isSet b = true := (isSet_iff b).2 ⟨hb1, hb3⟩
    have la := mk_len (a ++ [l[i]])
    have lb := mk_len (b ++ [l[l.length - 1 - i]])
    rw [List.length_append, List.length_singleton] at la lb
    simp only [folkmootlaw04_SetsOrder.l0]
    rw [e1, rd_at l i h1, rd_at l (l.length - 1 - i) (by omega)]
    clear e1
    rw [if_pos (by omega), if_pos (by omega), with_f a _ (by omega) k (by omega)]
    simp only [Option.bind_some]
    rw [if_pos (by omega), if_pos (by omega), with_f b _ (by omega) k (by omega), with_true k (by omega)]
    simp only [Option.bind_some, if_true]
    unfold withR
    rw [if_pos ia, if_pos ib]
    by_cases ca : (mk (a ++ [l[i]])).length > 16
    · rw [if_pos ca, if_neg (show ¬ ((([] : List Int), (2 : Int)).2 = 0) by decide)]
      rw [decide_eq_true (show (l.length : Int) > 16 by omega)]
    · rw [if_neg ca, if_pos rfl]
      by_cases cb : (mk (b ++ [l[l.length - 1 - i]])).length > 16
      · rw [if_pos cb, if_neg (show ¬ ((([] : List Int), (2 : Int)).2 = 0) by decide)]
        rw [decide_eq_true (show (l.length : Int) > 16 by omega)]
      · rw [if_neg cb, if_pos rfl, wr1 i _ h1 hb]
        refine ih k (i + 1) (mk (a ++ [l[i]])) (mk (b ++ [l[l.length - 1 - i]])) (by omega) (by omega) (by omega) (mk_up _) (by omega) (by omega) (fun x => ?_) (mk_up _) (by omega) (by omega) (fun x => ?_)
        · rw [mem_mk, List.mem_append, ha4, List.mem_singleton, List.take_succ_eq_append_getElem h1, List.mem_append, List.mem_singleton]
        · have e : l.length - i = (l.length - (i + 1)) + 1 := by omega
          have h2 : l.length - (i + 1) < l.length := by omega
          have e2 : l.length - 1 - i = l.length - (i + 1) := by omega
          rw [mem_mk, List.mem_append, hb4, List.mem_singleton, List.drop_eq_getElem_cons h2, List.mem_cons, e]
          simp only [e2]
          exact Or.comm
theorem SetsOrder : folkmootlaw04_SetsOrder.Pure := by
  intro l _ hb _
  refine ⟨l.length + 40, ?_⟩
  unfold folkmootlaw04_SetsOrder.f
  by_cases hl : (l.length : Int) > 1000
  · rw [if_pos hl]
  · rw [if_neg hl]
    exact order_l0 l hb (by omega) l.length _ 0 [] [] (by omega) (by omega) (by omega) (by simp [Up]) (by simp) (by simp) (by simp) (by simp [Up]) (by simp) (by simp) (by simp)
end Go.Proofs.Ytmefkjdnnapkjaa.Pure
