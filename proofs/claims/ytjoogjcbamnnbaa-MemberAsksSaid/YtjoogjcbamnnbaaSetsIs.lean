/- What the printed sets.Is computes: is a row a set? -/
import Derived.Test.YtjoogjcbamnnbaaQ3
import Derived.Test.YtjoogjcbamnnbaaSetMath
namespace Go.Proofs.Ytjoogjcbamnnbaa.Sets
open Go.RowKit Go.Proofs.Ytjoogjcbamnnbaa.Q Go.Proofs.YtjoogjcbamnnbaaW.PrintWords Go.Proofs.YtjoogjcbamnnbaaW.PrintLast Go.Proofs.Ytjoogjcbamnnbaa.SetMath

theorem rd_at (l : List Int) (i : Nat) (h : i < l.length) : rd l (i : Int) = l[i] := by
  unfold rd
  simp [List.getD, h]
theorem wr1 (i n : Nat) (h : i < n) (hn : n * 8 ≤ 140737488351232) : wrap64 ((i : Int) + 1) = ((i + 1 : Nat) : Int) := by
  unfold wrap64
  omega

theorem is_l0 (a : List Int) (hb : a.length * 8 ≤ 140737488351232) (m : Nat) (hm : m = a.length - 1) (d : Nat) :
    ∀ (k i : Nat), m - i = d → i ≤ m → d < k → sets_Is.l0 k a (m : Int) (i : Int) = some (up (a.drop i) && decide ((a.length : Int) ≤ 16)) := by
  induction d with
  | zero =>
    intro k i hd hi hk
    obtain ⟨k, rfl⟩ : ∃ m, k = m + 1 := ⟨k - 1, by omega⟩
    simp only [sets_Is.l0]
    rw [if_neg (by omega), up_end a i (by omega)]
    simp
  | succ d ih =>
    intro k i hd hi hk
    obtain ⟨k, rfl⟩ : ∃ m, k = m + 1 := ⟨k - 1, by omega⟩
    have h1 : i + 1 < a.length := by omega
    simp only [sets_Is.l0]
    rw [wr1 i _ (by omega) hb, if_pos (by omega), if_pos (by omega), if_pos (by omega), if_pos (by omega), if_pos (by omega), rd_at a i (by omega), rd_at a (i + 1) h1, ih k (i + 1) (by omega) (by omega) (by omega), up_drop a i h1]
    by_cases e : a[i] ≥ a[i + 1]
    · rw [if_pos e, if_pos e]; rfl
    · rw [if_neg e, if_neg e]
theorem is_f (a : List Int) (hb : a.length * 8 ≤ 140737488351232) (k : Nat) (hk : a.length < k) : sets_Is.f k a = some (isSet a) := by
  unfold sets_Is.f isSet
  have e : mx 0 (wrap64 ((a.length : Int) - 1)) = ((a.length - 1 : Nat) : Int) := by unfold mx wrap64; split <;> omega
  rw [e]
  exact is_l0 a hb _ rfl (a.length - 1) k 0 (by omega) (by omega) (by omega)
end Go.Proofs.Ytjoogjcbamnnbaa.Sets
