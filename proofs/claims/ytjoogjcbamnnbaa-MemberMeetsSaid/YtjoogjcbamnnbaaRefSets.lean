/- What the printed reference of the sets computes: the same plain words as the program's. -/
import Derived.Test.YtjoogjcbamnnbaaSets
import Derived.Test.YtjoogjcbamnnbaaC17
namespace Go.Proofs.Ytjoogjcbamnnbaa.Sets
open Go.RowKit Go.Proofs.Ytjoogjcbamnnbaa.C Go.Proofs.YtjoogjcbamnnbaaW.PrintWords Go.Proofs.YtjoogjcbamnnbaaW.PrintLast Go.Proofs.Ytjoogjcbamnnbaa.SetMath

theorem refhas_l0 (a : List Int) (n : Int) (hb : a.length * 8 ≤ 140737488351232) (d : Nat) :
    ∀ (k i : Nat), a.length - i = d → i ≤ a.length → d < k → folkmootref04_Has.l0 k a n (i : Int) = some ((a.drop i).contains n) := by
  induction d with
  | zero =>
    intro k i hd hi hk
    obtain ⟨k, rfl⟩ : ∃ m, k = m + 1 := ⟨k - 1, by omega⟩
    simp only [folkmootref04_Has.l0]
    rw [if_neg (by omega), List.drop_of_length_le (by omega)]
    simp
  | succ d ih =>
    intro k i hd hi hk
    obtain ⟨k, rfl⟩ : ∃ m, k = m + 1 := ⟨k - 1, by omega⟩
    have h1 : i < a.length := by omega
    simp only [folkmootref04_Has.l0]
    rw [if_pos (by omega), if_pos (by omega), rd_at a i h1, wr1 i _ h1 hb]
    rw [List.drop_eq_getElem_cons h1]
    by_cases e : a[i] = n
    · rw [if_pos e]; subst e; rw [List.contains_cons, BEq.rfl, Bool.true_or]
    · rw [if_neg e, ih k (i + 1) (by omega) (by omega) (by omega)]
      have e' : ¬ n = a[i] := fun h => e h.symm
      rw [List.contains_cons, beq_eq_false_iff_ne.2 e', Bool.false_or]
theorem refhas_f (a : List Int) (n : Int) (hb : a.length * 8 ≤ 140737488351232) (k : Nat) (hk : a.length < k) : folkmootref04_Has.f k a n = some (a.contains n) := by
  unfold folkmootref04_Has.f
  exact refhas_l0 a n hb a.length k 0 (by omega) (by omega) hk

end Go.Proofs.Ytjoogjcbamnnbaa.Sets
