/- What the printed reference's Is and Has compute. -/
import Derived.Test.YtjoogjcbamnnbaaSetsIs
import Derived.Test.YtjoogjcbamnnbaaQ11
namespace Go.Proofs.Ytjoogjcbamnnbaa.Sets
open Go.RowKit Go.Proofs.Ytjoogjcbamnnbaa.Q Go.Proofs.YtjoogjcbamnnbaaW.PrintWords Go.Proofs.YtjoogjcbamnnbaaW.PrintLast Go.Proofs.Ytjoogjcbamnnbaa.SetMath

theorem wrm (i n : Nat) (h : i < n) (h0 : 0 < i) (hn : n * 8 ≤ 140737488351232) : wrap64 ((i : Int) - 1) = ((i - 1 : Nat) : Int) := by
  unfold wrap64
  omega
theorem refis_l0 (a : List Int) (hb : a.length * 8 ≤ 140737488351232) (d : Nat) :
    ∀ (k i : Nat), a.length - 1 - i = d → i ≤ a.length - 1 → d < k → folkmootref04_Is.l0 k a ((i + 1 : Nat) : Int) = some (up (a.drop i) && decide ((a.length : Int) ≤ 16)) := by
  induction d with
  | zero =>
    intro k i hd hi hk
    obtain ⟨k, rfl⟩ : ∃ m, k = m + 1 := ⟨k - 1, by omega⟩
    simp only [folkmootref04_Is.l0]
    rw [if_neg (by omega), up_end a i (by omega)]
    simp
  | succ d ih =>
    intro k i hd hi hk
    obtain ⟨k, rfl⟩ : ∃ m, k = m + 1 := ⟨k - 1, by omega⟩
    have h1 : i + 1 < a.length := by omega
    simp only [folkmootref04_Is.l0]
    rw [wrm (i + 1) _ h1 (by omega) hb, if_pos (by omega), if_pos (by omega), if_pos (by omega), if_pos (by omega), Nat.add_sub_cancel, rd_at a i (by omega), rd_at a (i + 1) h1, wr1 (i + 1) _ h1 hb, ih k (i + 1) (by omega) (by omega) (by omega), up_drop a i h1]
    by_cases e : a[i] ≥ a[i + 1]
    · rw [if_pos e, if_pos e]; rfl
    · rw [if_neg e, if_neg e]
theorem refis_f (a : List Int) (hb : a.length * 8 ≤ 140737488351232) (k : Nat) (hk : a.length < k) : folkmootref04_Is.f k a = some (isSet a) := by
  unfold folkmootref04_Is.f isSet
  exact refis_l0 a hb (a.length - 1) k 0 (by omega) (by omega) (by omega)
end Go.Proofs.Ytjoogjcbamnnbaa.Sets
