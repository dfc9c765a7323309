/- Plain laws for AlarmOnce and AlarmForgets: times under their places. No program in sight. -/
import Derived.Test.YtimpfiaolblgmaaAlarmP
namespace Go.Proofs.Ytimpfiaolblgmaa.AlarmP
def enum (xs : List Int) : List Al := xs.zipIdx.map (fun p => ((p.2 : Int), p.1))
theorem enum_snoc (xs : List Int) (x : Int) : enum (xs ++ [x]) = enum xs ++ [((xs.length : Int), x)] := by
  unfold enum
  rw [List.zipIdx_append]
  simp
theorem enum_len (xs : List Int) : (enum xs).length = xs.length := by simp [enum]
theorem enum_mem {xs : List Int} {p : Al} (h : p ∈ enum xs) : ∃ j : Nat, j < xs.length ∧ p.1 = (j : Int) ∧ xs[j]? = some p.2 := by
  unfold enum at h
  obtain ⟨q, hq, rfl⟩ := List.mem_map.1 h
  have := List.mk_mem_zipIdx_iff_getElem?.1 (show (q.1, q.2) ∈ xs.zipIdx from hq)
  exact ⟨q.2, (List.getElem?_eq_some_iff.1 this).1, rfl, this⟩
theorem enum_step {xs : List Int} {l : List Al} (h : l.Perm (enum xs)) (x : Int) : (rSet l (xs.length : Int) x).Perm (enum (xs ++ [x])) := by
  refine (set_perm' l _ x).trans ?_
  rw [wo_none (fun p hp e => by
    obtain ⟨j, hj, e1, _⟩ := enum_mem (h.mem_iff.1 hp)
    rw [e1] at e
    omega), enum_snoc]
  exact (List.Perm.cons _ h).trans (List.perm_append_comm (l₁ := [((xs.length : Int), x)]))
def cnt (xs : List Int) (now : Int) : Nat := xs.countP (fun x => decide (x ≤ now))
theorem cnt_snoc (xs : List Int) (x now : Int) : cnt (xs ++ [x]) now = cnt xs now + (if x ≤ now then 1 else 0) := by
  unfold cnt
  rw [List.countP_append]
  by_cases h : x ≤ now <;> simp [h]
theorem cnt_le (xs : List Int) (now : Int) : cnt xs now ≤ xs.length := List.countP_le_length
theorem due_filter {l : List Al} (h : Srt l) (now : Int) : dueL l now = l.filter (fun p => decide (p.2 ≤ now)) := by
  induction l with
  | nil => rfl
  | cons x l ih =>
    by_cases hx : x.2 ≤ now
    · rw [(due_cons hx).1, ih h.tail, List.filter_cons_of_pos (by simpa using hx)]
    · rw [(due_stop hx).1]
      symm
      rw [List.filter_eq_nil_iff]
      intro p hp
      have := rest_late h now p (by rw [(due_stop hx).2]; exact hp)
      simp; omega
theorem due_len {xs : List Int} {l : List Al} (h : l.Perm (enum xs)) (hs : Srt l) (now : Int) : (dueL l now).length = cnt xs now := by
  rw [due_filter hs, ← List.countP_eq_length_filter, h.countP_eq]
  have e : (enum xs).map (·.2) = xs := by
    unfold enum
    rw [List.map_map]
    have : ((fun x : Al => x.2) ∘ fun p : Int × Nat => ((p.2 : Int), p.1)) = Prod.fst := rfl
    rw [this, List.zipIdx_map_fst]
  unfold cnt
  conv => rhs; rw [← e]
  rw [List.countP_map]
  rfl
theorem rest_len {xs : List Int} {l : List Al} (h : l.Perm (enum xs)) (hs : Srt l) (now : Int) : (rest l now).length + cnt xs now = xs.length := by
  have h1 := congrArg List.length (due_rest l now)
  rw [List.length_append, due_len h hs now, h.length_eq, enum_len] at h1
  omega
theorem due_at {xs : List Int} {l : List Al} (h : l.Perm (enum xs)) (now : Int) {i : Nat} {p : Al} (hi : (dueL l now)[i]? = some p) : ∃ j : Nat, j < xs.length ∧ p.1 = (j : Int) ∧ xs[j]? = some p.2 ∧ p.2 ≤ now := by
  have hm : p ∈ dueL l now := List.mem_of_getElem? hi
  obtain ⟨j, h1, h2, h3⟩ := enum_mem (h.mem_iff.1 ((List.takeWhile_sublist _).mem hm))
  exact ⟨j, h1, h2, h3, due_early l now p hm⟩
theorem due_bef {l : List Al} (h : Srt l) (now : Int) {i : Nat} {p q : Al} (hp : (dueL l now)[i]? = some p) (hq : (dueL l now)[i + 1]? = some q) : bef p q := by
  have hs : (dueL l now).Pairwise bef := h.s.sublist (List.takeWhile_sublist _)
  obtain ⟨h1, rfl⟩ := List.getElem?_eq_some_iff.1 hp
  obtain ⟨h2, rfl⟩ := List.getElem?_eq_some_iff.1 hq
  exact List.pairwise_iff_getElem.1 hs i (i + 1) h1 h2 (by omega)
end Go.Proofs.Ytimpfiaolblgmaa.AlarmP
