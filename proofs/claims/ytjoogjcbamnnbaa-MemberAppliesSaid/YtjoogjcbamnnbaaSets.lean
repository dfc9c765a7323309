/- What the printed functions of the package sets, of its reference and of the keep compute, told by the plain words of SetMath: with enough rounds each answers just this. -/
import Derived.Test.YtjoogjcbamnnbaaSetMath
import Derived.Test.YtjoogjcbamnnbaaB3
import Derived.Test.YtjoogjcbamnnbaaB9
import Derived.Test.YtjoogjcbamnnbaaB10
import Derived.Test.YtjoogjcbamnnbaaB11
import Derived.Test.YtjoogjcbamnnbaaB13
import Derived.Test.YtjoogjcbamnnbaaB14
namespace Go.Proofs.Ytjoogjcbamnnbaa.Sets
open Go.RowKit Go.Proofs.Ytjoogjcbamnnbaa.B Go.Proofs.YtjoogjcbamnnbaaW.PrintWords Go.Proofs.YtjoogjcbamnnbaaW.PrintLast Go.Proofs.Ytjoogjcbamnnbaa.SetMath

theorem rd_at (l : List Int) (i : Nat) (h : i < l.length) : rd l (i : Int) = l[i] := by
  unfold rd
  simp [List.getD, h]
theorem wr1 (i n : Nat) (h : i < n) (hn : n * 8 ≤ 140737488351232) : wrap64 ((i : Int) + 1) = ((i + 1 : Nat) : Int) := by
  unfold wrap64
  omega

theorem is_l0 (a : List Int) (hb : a.length * 8 ≤ 140737488351232) (m : Nat) (hm : m = a.length - 1) (d : Nat) :
    ∀ (k i : Nat), m - i = d → i ≤ m → d < k → sets_Is.l0 k a (m : Int) (i : Int) = some (up (a.drop i) && decide ((a.length : Int) ≤ 16)) := by
  induction d with
  | zero =>
    intro k i hd hi hk
    obtain ⟨k, rfl⟩ : ∃ m, k = m + 1 := ⟨k - 1, by omega⟩
    simp only [sets_Is.l0]
    rw [if_neg (by omega), up_end a i (by omega)]
    simp
  | succ d ih =>
    intro k i hd hi hk
    obtain ⟨k, rfl⟩ : ∃ m, k = m + 1 := ⟨k - 1, by omega⟩
    have h1 : i + 1 < a.length := by omega
    simp only [sets_Is.l0]
    rw [wr1 i _ (by omega) hb, if_pos (by omega), if_pos (by omega), if_pos (by omega), if_pos (by omega), if_pos (by omega), rd_at a i (by omega), rd_at a (i + 1) h1, ih k (i + 1) (by omega) (by omega) (by omega), up_drop a i h1]
    by_cases e : a[i] ≥ a[i + 1]
    · rw [if_pos e, if_pos e]; rfl
    · rw [if_neg e, if_neg e]
theorem is_f (a : List Int) (hb : a.length * 8 ≤ 140737488351232) (k : Nat) (hk : a.length < k) : sets_Is.f k a = some (isSet a) := by
  unfold sets_Is.f isSet
  have e : mx 0 (wrap64 ((a.length : Int) - 1)) = ((a.length - 1 : Nat) : Int) := by unfold mx wrap64; split <;> omega
  rw [e]
  exact is_l0 a hb _ rfl (a.length - 1) k 0 (by omega) (by omega) (by omega)

theorem has_l0 (a : List Int) (n : Int) (hb : a.length * 8 ≤ 140737488351232) (d : Nat) :
    ∀ (k i : Nat), a.length - i = d → i ≤ a.length → d < k → ∃ r, api_Set_int_59.l0 k a n (a.length : Int) (i : Int) = some r ∧ (decide (r ≥ 0) = (a.drop i).contains n) := by
  induction d with
  | zero =>
    intro k i hd hi hk
    obtain ⟨k, rfl⟩ : ∃ m, k = m + 1 := ⟨k - 1, by omega⟩
    simp only [api_Set_int_59.l0]
    rw [if_neg (by omega), List.drop_of_length_le (by omega)]
    exact ⟨_, rfl, by simp⟩
  | succ d ih =>
    intro k i hd hi hk
    obtain ⟨k, rfl⟩ : ∃ m, k = m + 1 := ⟨k - 1, by omega⟩
    have h1 : i < a.length := by omega
    simp only [api_Set_int_59.l0]
    rw [if_pos (by omega), if_pos (by omega), if_pos (by omega), rd_at a i h1, wr1 i _ h1 hb]
    rw [List.drop_eq_getElem_cons h1]
    by_cases e : n = a[i]
    · rw [if_pos e]; exact ⟨_, rfl, by subst e; rw [List.contains_cons]; simp only [BEq.rfl, Bool.true_or]; exact decide_eq_true (by omega)⟩
    · rw [if_neg e]
      obtain ⟨r, h, hr⟩ := ih k (i + 1) (by omega) (by omega) (by omega)
      exact ⟨r, h, by rw [hr, List.contains_cons, beq_eq_false_iff_ne.2 e, Bool.false_or]⟩
theorem has_f (a : List Int) (n : Int) (hb : a.length * 8 ≤ 140737488351232) (k : Nat) (hk : a.length < k) : sets_Has.f k a n = some (a.contains n) := by
  unfold sets_Has.f api_Set_int_55.f api_Set_int_59.f
  obtain ⟨r, h, hr⟩ := has_l0 a n hb a.length k 0 (by omega) (by omega) hk
  rw [show ((0 : Nat) : Int) = 0 from rfl] at h
  rw [h]
  simp only [Option.bind_some]
  rw [hr]
  rfl

/-! ### Concat, merged, With, Both, Without, Common -/
def total (rows : List (List Int)) : Nat := rows.flatten.length
theorem total_drop (rows : List (List Int)) (i : Nat) (h : i < rows.length) : total (rows.drop i) = (rows[i]).length + total (rows.drop (i + 1)) := by
  unfold total
  rw [List.drop_eq_getElem_cons h, List.flatten_cons, List.length_append]
theorem rdL_at (l : List (List Int)) (i : Nat) (h : i < l.length) : rd_L1 l (i : Int) = l[i] := by
  unfold rd_L1
  simp [List.getD, h]
theorem concat_l1 (rows : List (List Int)) (hr : rows.length ≤ 1000) (d : Nat) :
    ∀ (k i : Nat) (acc : List Int), rows.length - i = d → i ≤ rows.length → d < k → acc.length + total (rows.drop i) < 17592186044416 → slices_Concat_int_int.l1 k acc rows (rows.length : Int) (i : Int) = some (acc ++ (rows.drop i).flatten) := by
  induction d with
  | zero =>
    intro k i acc hd hi hk _
    obtain ⟨k, rfl⟩ : ∃ m, k = m + 1 := ⟨k - 1, by omega⟩
    simp only [slices_Concat_int_int.l1]
    rw [if_neg (by omega), List.drop_of_length_le (by omega)]
    simp
  | succ d ih =>
    intro k i acc hd hi hk hb
    obtain ⟨k, rfl⟩ : ∃ m, k = m + 1 := ⟨k - 1, by omega⟩
    have h1 : i < rows.length := by omega
    have ht := total_drop rows i h1
    simp only [slices_Concat_int_int.l1]
    rw [rdL_at rows i h1, if_pos (by omega), if_pos (by omega), if_pos (by omega), if_pos (by omega), wr1 i _ h1 (by omega), ih k (i + 1) _ (by omega) (by omega) (by omega) (by rw [List.length_append]; omega), List.drop_eq_getElem_cons h1, List.flatten_cons, List.append_assoc]
theorem concat_l0 (rows : List (List Int)) (hr : rows.length ≤ 1000) (ht : total rows < 17592186044416) (d : Nat) :
    ∀ (k i s : Nat), rows.length - i = d → i ≤ rows.length → d + rows.length + 1 < k → s + total (rows.drop i) = total rows → slices_Concat_int_int.l0 k rows (s : Int) rows (rows.length : Int) (i : Int) = some rows.flatten := by
  induction d with
  | zero =>
    intro k i s hd hi hk hs
    obtain ⟨k, rfl⟩ : ∃ m, k = m + 1 := ⟨k - 1, by omega⟩
    simp only [slices_Concat_int_int.l0]
    rw [if_neg (by omega)]
    unfold slices_Grow_int_int.f
    rw [if_pos ⟨rfl, by omega, by omega⟩]
    simp only [Option.bind_some]
    have := concat_l1 rows hr rows.length k 0 [] (by omega) (by omega) (by omega) (by simpa using ht)
    simpa using this
  | succ d ih =>
    intro k i s hd hi hk hs
    obtain ⟨k, rfl⟩ : ∃ m, k = m + 1 := ⟨k - 1, by omega⟩
    have h1 : i < rows.length := by omega
    have h2 := total_drop rows i h1
    have e : wrap64 ((s : Int) + ((rows[i]).length : Int)) = ((s + (rows[i]).length : Nat) : Int) := by unfold wrap64; omega
    simp only [slices_Concat_int_int.l0]
    rw [rdL_at rows i h1, e]
    clear e
    rw [if_pos (by omega), if_pos (by omega), if_pos (by omega), if_neg (Int.not_lt.2 (Int.natCast_nonneg _)), wr1 i _ h1 (by omega)]
    exact ih k (i + 1) _ (by omega) (by omega) (by omega) (by omega)
theorem sort_f (l : List Int) (h : l.length < 17592186044416) : slices_Sort_int_int.f l = some (srt l) := by
  have e : slices_Sort_int_int.f l = if l.length < 17592186044416 then some (srt l) else none := by
    unfold slices_Sort_int_int.f srt
    with_reducible rfl
  rw [e, if_pos h]
theorem compact_f (l : List Int) : slices_Compact_int_int.f (srt l) = some (mk l) := by
  unfold slices_Compact_int_int.f mk
  with_reducible rfl
theorem merged_f (rows : List (List Int)) (hr : rows.length ≤ 1000) (ht : total rows < 17592186044416) (k : Nat) (hk : 2 * rows.length + 1 < k) :
    sets_merged.f k rows = some (if (mk rows.flatten).length > 16 then ([], 2) else (mk rows.flatten, 0)) := by
  unfold sets_merged.f slices_Concat_int_int.f
  have h := concat_l0 rows hr ht rows.length k 0 0 (by omega) (by omega) (by omega) (by simp)
  rw [show ((0 : Nat) : Int) = 0 from rfl] at h
  rw [h]
  simp only [Option.bind_some]
  rw [sort_f _ (by unfold total at ht; omega)]
  simp only [Option.bind_some]
  rw [compact_f]
  simp only [Option.bind_some]
  by_cases h : (mk rows.flatten).length > 16
  · rw [if_pos (by omega), if_pos h]
  · rw [if_neg (by omega), if_neg h]
theorem with_f (s : List Int) (n : Int) (hb : s.length * 8 ≤ 140737488351232) (k : Nat) (hk : s.length + 6 ≤ k) : sets_With.f k s n = some (withR s n) := by
  unfold sets_With.f withR
  rw [is_f s hb k (by omega)]
  simp only [Option.bind_some]
  by_cases h : isSet s = true
  · have ht : total [s, [n]] < 17592186044416 := by
      have := (isSet_iff s).1 h
      simp [total]
      omega
    rw [if_pos h, if_pos h, merged_f _ (by simp) ht k (by simp; omega)]
    simp
  · rw [if_neg h, if_neg h]
theorem both_f (a b : List Int) (hb : a.length * 8 ≤ 140737488351232) (hb' : b.length * 8 ≤ 140737488351232) (k : Nat) (hk : a.length + b.length + 6 ≤ k) : sets_Both.f k a b = some (bothR a b) := by
  unfold sets_Both.f bothR
  rw [is_f a hb k (by omega)]
  simp only [Option.bind_some]
  by_cases h : isSet a = true
  · rw [if_pos h, is_f b hb' k (by omega)]
    simp only [Option.bind_some]
    by_cases h' : isSet b = true
    · have ht : total [a, b] < 17592186044416 := by
        have := (isSet_iff a).1 h
        have := (isSet_iff b).1 h'
        simp [total]
        omega
      rw [if_pos h', if_pos (show isSet a = true ∧ isSet b = true from ⟨h, h'⟩), merged_f _ (by simp) ht k (by simp; omega)]
      simp
    · rw [if_neg h', if_neg (fun e => h' e.2)]
  · rw [if_neg h, if_neg (fun e => h e.1)]
theorem without_f (s : List Int) (n : Int) (hb : s.length * 8 ≤ 140737488351232) (k : Nat) (hk : s.length + 6 ≤ k) : sets_Without.f k s n = some (withoutR s n) := by
  unfold sets_Without.f withoutR
  rw [is_f s hb k (by omega)]
  simp only [Option.bind_some]
  by_cases h : isSet s = true
  · rw [if_pos h, if_pos h, if_pos (by omega)]
  · rw [if_neg h, if_neg h]
end Go.Proofs.Ytjoogjcbamnnbaa.Sets
