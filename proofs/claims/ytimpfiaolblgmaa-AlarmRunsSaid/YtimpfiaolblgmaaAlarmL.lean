/- What heap.Remove makes of the items (plain). -/
import Derived.Test.YtimpfiaolblgmaaAlarmK
namespace Go.Proofs.Ytimpfiaolblgmaa.AlarmQ
open Go.Shelf Go.Maps Go.RowKit Go.Proofs.YtimpfiaolblgmaaW.PrintWords Go.Proofs.Ytimpfiaolblgmaa.AlarmMath Go.Proofs.Ytimpfiaolblgmaa.Blk
set_option linter.unusedVariables false
theorem take_snoc {q : List It} {n : Nat} (h : q.length = n + 1) : q = q.take n ++ [at_ q n] := by
  have h1 : n < q.length := by omega
  have : q.take (n + 1) = q := List.take_of_length_le (by omega)
  rw [List.take_succ_eq_append_getElem h1] at this
  rw [at_get h1]
  exact this.symm
theorem removeL_perm {q : List It} {i : Nat} (hi : i < q.length) : (removeL q i ++ [at_ q i]).Perm q := by
  obtain ⟨n, hn⟩ : ∃ n, q.length = n + 1 := ⟨q.length - 1, by omega⟩
  unfold removeL
  rw [hn, Nat.add_sub_cancel]
  split
  · rename_i e
    subst e
    rw [← take_snoc hn]
  · rename_i e
    have hb := fixL_behind (sw q i n) i n (by omega) (by rw [sw_len]; omega) n (Nat.le_refl _)
    rw [sw_at q i n hi (by omega), if_pos rfl] at hb
    have hl : (fixL (sw q i n) i n).length = n + 1 := by rw [fixL_len, sw_len, hn]
    rw [← hb, ← take_snoc hl]
    exact (fixL_perm _ _ _ (by omega) (by rw [sw_len]; omega)).trans (sw_perm q i n hi (by omega))
theorem removeL_len {q : List It} {i : Nat} (hi : i < q.length) : (removeL q i).length = q.length - 1 := by
  have := (removeL_perm hi).length_eq
  simp at this; omega
theorem removeL_hp {q : List It} {i : Nat} (hi : i < q.length) (h : Hp q q.length) : Hp (removeL q i) (removeL q i).length := by
  rw [removeL_len hi]
  obtain ⟨n, hn⟩ : ∃ n, q.length = n + 1 := ⟨q.length - 1, by omega⟩
  have tk : ∀ (l : List It), l.length = n + 1 → ∀ j, j < n → at_ (l.take n) j = at_ l j := fun l hl j hj => by rw [at_get (by simp; omega), at_get (by omega), List.getElem_take]
  unfold removeL
  rw [hn, Nat.add_sub_cancel]
  rw [hn] at h
  split
  · intro j h0 hj
    rw [tk q hn j hj, tk q hn _ (by omega)]
    exact h j h0 (by omega)
  · rename_i e
    have S := sw_at q i n hi (by omega)
    have hx : HpX (sw q i n) n i := by
      have hx := h.x i (by omega)
      refine ⟨fun j h0 hj h1 h2 => ?_, fun j h0 hj e2 h0i => ?_⟩
      · rw [S j, S ((j - 1) / 2), if_neg (by omega), if_neg h1, if_neg (by omega), if_neg h2]
        exact hx.1 j h0 (by omega) h1 h2
      · rw [S j, S ((i - 1) / 2), if_neg (by omega), if_neg (by omega), if_neg (by omega), if_neg (by omega)]
        exact hx.2 j h0 (by omega) e2 h0i
    have hf := fixL_hp (sw q i n) i n (by omega) (by rw [sw_len]; omega) hx
    have hl : (fixL (sw q i n) i n).length = n + 1 := by rw [fixL_len, sw_len, hn]
    intro j h0 hj
    rw [tk _ hl j hj, tk _ hl _ (by omega)]
    exact hf j h0 hj
/-- What Clear makes of the items. -/
def ClearTo (q q' : List It) (id : Int) : Prop := (q'.map (·.2)).Perm ((q.map (·.2)).filter (fun p => decide (p.1 ≠ id)))
theorem clear_perm {q : List It} {i : Nat} (hi : i < q.length) (hids : (q.map (·.2.1)).Nodup) : ClearTo q (removeL q i) (at_ q i).2.1 := by
  unfold ClearTo
  have p := removeL_perm hi
  refine List.Perm.trans ?_ ((p.map (·.2)).filter (fun p => decide (p.1 ≠ (at_ q i).2.1)))
  have h4 : ((removeL q i ++ [at_ q i]).map (·.2.1)).Nodup := (p.map _).nodup_iff.2 hids
  rw [List.map_append, List.nodup_append] at h4
  rw [List.map_append, List.filter_append, List.map_cons, List.map_nil, List.filter_cons_of_neg (by simp), List.filter_nil, List.append_nil, List.filter_eq_self.2]
  intro x hx
  obtain ⟨y, hy, rfl⟩ := List.mem_map.1 hx
  simp only [ne_eq, decide_eq_true_eq]
  intro e
  exact h4.2.2 _ (List.mem_map.2 ⟨y, hy, rfl⟩) _ (by simp) e
end Go.Proofs.Ytimpfiaolblgmaa.AlarmQ
