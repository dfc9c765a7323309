/- What the printed sets.Same computes: are two rows one? -/
import Derived.Test.YtmefkjdnnapkjaaSets
namespace Go.Proofs.Ytmefkjdnnapkjaa.Sets
open Go.RowKit Go.Proofs.Ytmefkjdnnapkjaa.Q Go.Proofs.YtmefkjdnnapkjaaW.PrintWords Go.Proofs.YtmefkjdnnapkjaaW.PrintLast Go.Proofs.Ytmefkjdnnapkjaa.SetMath
theorem eq_l0 (a b : List Int) (hl : a.length = b.length) (hb : a.length * 8 ≤ 140737488351232) (d : Nat) :
    ∀ (k i : Nat), a.length - i = d → i ≤ a.length → d < k → api_Set_int_29.l0 k a b (a.length : Int) (i : Int) = some (decide (a.drop i = b.drop i)) := by
  induction d with
  | zero =>
    intro k i hd hi hk
    obtain ⟨k, rfl⟩ : ∃ m, k = m + 1 := ⟨k - 1, by omega⟩
    simp only [api_Set_int_29.l0]
    rw [if_neg (by omega), List.drop_of_length_le (by omega), List.drop_of_length_le (by omega)]
    simp
  | succ d ih =>
    intro k i hd hi hk
    obtain ⟨k, rfl⟩ : ∃ m, k = m + 1 := ⟨k - 1, by omega⟩
    have h1 : i < a.length := by omega
    have h2 : i < b.length := by omega
    simp only [api_Set_int_29.l0]
    rw [if_pos (by omega), if_pos (by omega), if_pos (by omega), if_pos (by omega), rd_at a i h1, rd_at b i h2, wr1 i _ h1 hb, ih k (i + 1) (by omega) (by omega) (by omega)]
    rw [List.drop_eq_getElem_cons h1, List.drop_eq_getElem_cons h2]
    by_cases e : a[i] = b[i]
    · rw [if_pos e]; simp only [e, List.cons.injEq, true_and]
    · rw [if_neg e]; simp only [e, List.cons.injEq, false_and, decide_false]
theorem same_f (a b : List Int) (hb : a.length * 8 ≤ 140737488351232) (k : Nat) (hk : a.length < k) : sets_Same.f k a b = some (decide (a = b)) := by
  unfold sets_Same.f api_Set_int_29.f
  by_cases hl : a.length = b.length
  · have h := eq_l0 a b hl hb a.length k 0 (by omega) (by omega) hk
    rw [show ((0 : Nat) : Int) = 0 from rfl] at h
    rw [if_pos (by omega), h]; simp
  · rw [if_neg (by omega)]
    have : a ≠ b := fun e => hl (by rw [e])
    simp [this]
end Go.Proofs.Ytmefkjdnnapkjaa.Sets
