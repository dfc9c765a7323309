/- The clock's Set where its id is there already. -/
import Derived.Test.YtimpfiaolblgmaaAlarmC
import Derived.StillTailTactics
namespace Go.Proofs.Ytimpfiaolblgmaa.AlarmQ
open Go.Shelf Go.Maps Go.RowKit Go.Proofs.YtimpfiaolblgmaaW.PrintWords Go.Proofs.Ytimpfiaolblgmaa.AlarmMath Go.Proofs.Ytimpfiaolblgmaa.Blk
set_option linter.unusedVariables false
set_option linter.unusedSimpArgs false
/-- Just the queue's own blocks. -/
def Sq (C : Nat) (v : Value) (q : List It) (k : Nat) : Prop := k = C ∨ v.ownBlock = some k ∨ ∃ i, i < q.length ∧ (at_ q i).1 = k
theorem QAt.tight {w : World} {S : Nat → Prop} {C m : Nat} {v : Value} {q : List It} (h : QAt w S C m v q) : QAt w (Sq C v q) C m v q ∧ ∀ k, Sq C v q k → S k := by
  refine ⟨⟨h.cC, h.row, h.its, h.nd, .inl rfl, fun g hg => .inr (.inl hg), fun i hi => .inr (.inr ⟨i, hi, rfl⟩), h.bd⟩, fun k hk => ?_⟩
  rcases hk with rfl | hk | ⟨i, hi, rfl⟩
  · exact h.sC
  · exact h.sv k hk
  · exact h.si i hi
theorem QAt.not_map {w : World} {S : Nat → Prop} {C m : Nat} {v : Value} {q : List It} (h : QAt w S C m v q) {b : Nat} {es : Array MapEntry} {cl : Nat} (hb : w.heap[b]? = some (.map es cl)) : ¬ Sq C v q b := by
  intro hk
  rcases hk with rfl | hk | ⟨i, hi, rfl⟩
  · rw [h.cC] at hb; cases hb
  · obtain ⟨cells, hc⟩ := own_typed h.row b hk
    rw [hc] at hb; cases hb
  · rw [h.its i hi] at hb; cases hb
theorem at_set (q : List It) (i : Nat) (y : It) (hi : i < q.length) (j : Nat) : at_ (q.set i y) j = if j = i then y else at_ q j := by
  show (q.set i y).getD j (0, 0, 0) = _
  rw [List.getD_eq_getElem?_getD, List.getElem?_set]
  by_cases h : i = j
  · subst h; rw [if_pos rfl, if_pos hi, if_pos rfl]; rfl
  · rw [if_neg h, if_neg (fun e => h e.symm)]; exact (List.getD_eq_getElem?_getD ..).symm
theorem map_set_same {α : Type} (f : It → α) (q : List It) (i : Nat) (y : It) (hi : i < q.length) (h : f y = f (at_ q i)) : (q.set i y).map f = q.map f := by
  rw [List.map_set]
  apply List.ext_getElem?
  intro j
  rw [List.getElem?_set]
  by_cases e : i = j
  · subst e
    rw [if_pos rfl, if_pos (by simpa using hi), h, at_get hi]; simp [List.getElem?_eq_getElem hi]
  · rw [if_neg e]
/-- One item's time is another one. -/
theorem QAt.timed {w w1 : World} {S : Nat → Prop} {C m : Nat} {v : Value} {q : List It} (h : QAt w S C m v q) {i : Nat} (hi : i < q.length) (t : Int)
    (hb : w1.heap[(at_ q i).1]? = some (.cells (itc ((at_ q i).1, (at_ q i).2.1, t) i) 54 (0, 0))) (hg : w.grownBy w1 (some (at_ q i).1)) : QAt w1 S C m v (q.set i ((at_ q i).1, (at_ q i).2.1, t)) := by
  have hm : (q.set i ((at_ q i).1, (at_ q i).2.1, t)).map (·.1) = q.map (·.1) := map_set_same _ q i _ hi rfl
  have hptr : (q.set i ((at_ q i).1, (at_ q i).2.1, t)).map ptr = q.map ptr := map_set_same _ q i _ hi rfl
  have hl : (q.set i ((at_ q i).1, (at_ q i).2.1, t)).length = q.length := by simp
  refine ⟨blk_grown h.cC hg ?_, ?_, ?_, by rw [hm]; exact h.nd, h.sC, h.sv, ?_, by rw [hl]; exact h.bd⟩
  · intro e; injection e with e
    have h1 := h.its i hi
    rw [← e, h.cC] at h1
    injection h1 with h1
    injection h1 with _ h1
    exact absurd h1 (by decide)
  · rw [hptr, hl]
    exact h.row.kept hg (h.vne (h.its i hi))
  · intro j hj
    rw [hl] at hj
    rw [at_set q i _ hi j]
    by_cases e : j = i
    · subst e; rw [if_pos rfl]; exact hb
    · rw [if_neg e]
      refine blk_grown (h.its j hj) hg ?_
      intro e2; injection e2 with e2
      have h1 := List.pairwise_iff_getElem.1 h.nd
      rw [at_get hj, at_get hi] at e2
      rcases Nat.lt_or_gt_of_ne e with h3 | h3
      · exact h1 j i (by simpa using hj) (by simpa using hi) h3 (by simpa using e2)
      · exact h1 i j (by simpa using hi) (by simpa using hj) h3 (by simpa using e2.symm)
  · intro j hj
    rw [hl] at hj
    rw [at_set q i _ hi j]
    split
    · exact h.si i hi
    · exact h.si j hj
theorem Hp.timed {q : List It} {n : Nat} (h : Hp q n) (hn : n ≤ q.length) {i : Nat} (hi : i < n) (y : It) : HpX (q.set i y) n i := by
  have A := at_set q i y (by omega)
  have hx := h.x i hi
  refine ⟨fun j h0 hj h1 h2 => ?_, fun j h0 hj e h0i => ?_⟩
  · rw [A j, A ((j - 1) / 2), if_neg h1, if_neg h2]
    exact hx.1 j h0 hj h1 h2
  · rw [A j, A ((i - 1) / 2), if_neg (by omega), if_neg (by omega)]
    exact hx.2 j h0 hj e h0i
theorem MapOK.perm {D : DataW Unit} {q q' : List It} (h : MapOK D q) (hp : ∀ b id : Int, ∀ k : Nat, (∃ t, (k, id, t) ∈ q') ↔ ∃ t, (k, id, t) ∈ q) : MapOK D q' := by
  intro id hw
  obtain ⟨h1, h2⟩ := h id hw
  refine ⟨h1.trans ⟨?_, ?_⟩, ?_⟩
  · rintro ⟨⟨k, i, t⟩, hx, rfl⟩
    obtain ⟨t', ht⟩ := (hp 0 i k).2 ⟨t, hx⟩
    exact ⟨_, ht, rfl⟩
  · rintro ⟨⟨k, i, t⟩, hx, rfl⟩
    obtain ⟨t', ht⟩ := (hp 0 i k).1 ⟨t, hx⟩
    exact ⟨_, ht, rfl⟩
  · rintro ⟨k, i, t⟩ hx rfl
    obtain ⟨t', ht⟩ := (hp 0 i k).1 ⟨t, hx⟩
    exact h2 (k, i, t') ht rfl
/-- What Set makes of the items. -/
def SetTo (q q' : List It) (id t : Int) : Prop := (q'.map (·.2)).Perm ((id, t) :: (q.map (·.2)).filter (fun p => decide (p.1 ≠ id)))
theorem set_perm {q : List It} {i : Nat} (hi : i < q.length) (hids : (q.map (·.2.1)).Nodup) (t : Int) : SetTo q (q.set i ((at_ q i).1, (at_ q i).2.1, t)) (at_ q i).2.1 t := by
  unfold SetTo
  have e1 : q.set i ((at_ q i).1, (at_ q i).2.1, t) = q.take i ++ ((at_ q i).1, (at_ q i).2.1, t) :: q.drop (i + 1) := by rw [List.set_eq_take_append_cons_drop, if_pos hi]
  have e2 : q = q.take i ++ at_ q i :: q.drop (i + 1) := by
    rw [at_get hi, ← List.drop_eq_getElem_cons hi, List.take_append_drop]
  have p1 : (q.set i ((at_ q i).1, (at_ q i).2.1, t)).Perm (((at_ q i).1, (at_ q i).2.1, t) :: (q.take i ++ q.drop (i + 1))) := by rw [e1]; exact List.perm_middle
  have p2 : q.Perm (at_ q i :: (q.take i ++ q.drop (i + 1))) := by
    have : (q.take i ++ at_ q i :: q.drop (i + 1)).Perm (at_ q i :: (q.take i ++ q.drop (i + 1))) := List.perm_middle
    rwa [← e2] at this
  generalize q.take i ++ q.drop (i + 1) = r at p1 p2
  refine (p1.map (·.2)).trans (List.Perm.cons _ ?_)
  refine List.Perm.trans ?_ ((p2.map (·.2)).filter (fun p => decide (p.1 ≠ (at_ q i).2.1))).symm
  rw [List.map_cons, List.filter_cons_of_neg (by simp)]
  rw [List.filter_eq_self.2]
  intro p hp
  obtain ⟨x, hx, rfl⟩ := List.mem_map.1 hp
  have h4 : ((at_ q i :: r).map (·.2.1)).Nodup := (p2.map _).nodup_iff.1 hids
  rw [List.map_cons, List.nodup_cons] at h4
  simp only [ne_eq, decide_eq_true_eq]
  intro e
  exact h4.1 (List.mem_map.2 ⟨x, hx, e⟩)
end Go.Proofs.Ytimpfiaolblgmaa.AlarmQ
