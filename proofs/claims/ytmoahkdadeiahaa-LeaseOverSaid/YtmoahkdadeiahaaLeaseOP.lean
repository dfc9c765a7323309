/- Plain facts for LeaseOver: in a steady row a leader's 36 ticks are a eight of its holder, at least. No program in sight. -/
import Derived.Test.YtmoahkdadeiahaaSteadyMath
namespace Go.Proofs.Ytmoahkdadeiahaa.SteadyMath
set_option linter.unusedVariables false
def cnt (n : Int) (xs : List Int) : Nat := xs.countP (fun x => decide (x = n))
theorem cnt_snoc (n : Int) (xs : List Int) (x : Int) : cnt n (xs ++ [x]) = cnt n xs + (if x = n then 1 else 0) := by
  unfold cnt
  rw [List.countP_append]
  by_cases h : x = n <;> simp [h]
theorem cnt_append (n : Int) (xs ys : List Int) : cnt n (xs ++ ys) = cnt n xs + cnt n ys := List.countP_append
theorem cnt_cons (n x : Int) (xs : List Int) : cnt n (x :: xs) = (if x = n then 1 else 0) + cnt n xs := by
  unfold cnt
  rw [List.countP_cons]
  by_cases h : x = n <;> simp [h, Nat.add_comm]
theorem cnt_le (n : Int) (xs : List Int) : cnt n xs ≤ xs.length := List.countP_le_length
theorem stretch_end (n : Int) (hn : 1 ≤ n) (q : List Int) : ∀ (s : List Int) (t w : Int), s ≠ [] → (∀ x ∈ s, x ≠ -n) → stretch n t w (s ++ q) = true → bad (t + cnt n s) (w + cnt 0 s) = false
  | [], _, _, h, _, _ => absurd rfl h
  | x :: s, t, w, _, hx, h => by
    have hxn : x ≠ -n := hx x (List.mem_cons_self ..)
    rw [List.cons_append, stretch_cons, if_neg hxn] at h
    have hc1 : (t + cnt n (x :: s) : Int) = (if x = n then t + 1 else t) + cnt n s := by rw [cnt_cons]; split <;> (push_cast; omega)
    have hc2 : (w + cnt 0 (x :: s) : Int) = (if x = 0 then w + 1 else w) + cnt 0 s := by rw [cnt_cons]; split <;> (push_cast; omega)
    rw [hc1, hc2]
    generalize (if x = n then t + 1 else t) = t' at h ⊢
    generalize (if x = 0 then w + 1 else w) = w' at h ⊢
    by_cases hb : bad t' w' = true
    · rw [if_pos hb] at h; cases h
    · rw [if_neg hb] at h
      cases s with
      | nil => simpa [cnt] using hb
      | cons y s => exact stretch_end n hn q (y :: s) _ _ (by simp) (fun z hz => hx z (List.mem_cons_of_mem _ hz)) h
theorem rs_at (n : Int) (r : List Int) (x : Int) (hx : x ≠ -n) : ∀ (p : List Int), (∀ y ∈ p, y ≠ -n) → rs n true (p ++ x :: r) = true → stretch n 0 0 (x :: r) = true
  | [], _, h => by
    rw [List.nil_append, rs_cons, if_neg hx, if_pos rfl, Bool.and_eq_true] at h
    exact h.1
  | y :: p, hp, h => by
    rw [List.cons_append, rs_cons, if_neg (hp y (List.mem_cons_self ..)), Bool.and_eq_true] at h
    exact rs_at n r x hx p (fun z hz => hp z (List.mem_cons_of_mem _ hz)) h.2
theorem steady_bound (n : Int) (hn : 1 ≤ n) (l : List Int) (h : rs n true l = true) (i j : Nat) (hij : i ≤ j) (hj : j ≤ l.length) (hx : ∀ x ∈ l.take j, x ≠ -n) :
    cnt n (l.take j) ≤ cnt n (l.take i) + 2 * (cnt 0 (l.take j) - cnt 0 (l.take i)) + 2 ∧ cnt 0 (l.take j) ≤ cnt 0 (l.take i) + 2 * (cnt n (l.take j) - cnt n (l.take i)) + 2 := by
  obtain ⟨s, hs⟩ : ∃ s, s = (l.take j).drop i := ⟨_, rfl⟩
  have e1 : l.take j = l.take i ++ s := by
    rw [hs]
    have : l.take i = (l.take j).take i := by rw [List.take_take, Nat.min_eq_left hij]
    rw [this, List.take_append_drop]
  have e2 : l = l.take i ++ (s ++ l.drop j) := by rw [← List.append_assoc, ← e1, List.take_append_drop]
  rw [e1, cnt_append, cnt_append]
  cases hse : s with
  | nil => simp [cnt]
  | cons x s' =>
    rw [hse] at e1 e2
    rw [e1] at hx
    have hxs : ∀ y ∈ x :: s', y ≠ -n := fun y hy => hx y (List.mem_append.2 (.inr hy))
    have h1 := rs_at n (s' ++ l.drop j) x (hxs x (List.mem_cons_self ..)) (l.take i) (fun y hy => hx y (List.mem_append.2 (.inl hy))) (by rw [e2] at h; exact h)
    have h2 := stretch_end n hn (l.drop j) (x :: s') 0 0 (by simp) hxs h1
    rw [bad_false] at h2
    omega
/-- What must not be: that a lease is over for its leader and good for its holder. -/
theorem over_late (l : List Int) (h2 : rs 2 true l = true) (h11 : rs 11 true l = true) (asked watched i : Nat) (ha : asked ≤ watched) (hi : watched ≤ i) (hl : i ≤ l.length) (hx : ∀ x ∈ l.take i, x ≠ -2 ∧ x ≠ -11)
    (ho : cnt 2 (l.take watched) + 36 ≤ cnt 2 (l.take i)) : cnt 11 (l.take asked) + 8 ≤ cnt 11 (l.take i) := by
  have b1 := (steady_bound 2 (by omega) l h2 watched i hi hl (fun x hxx => (hx x hxx).1)).1
  have b2 := (steady_bound 11 (by omega) l h11 asked i (by omega) hl (fun x hxx => (hx x hxx).2)).2
  have m0 : cnt 0 (l.take asked) ≤ cnt 0 (l.take watched) := by
    have : l.take asked = (l.take watched).take asked := by rw [List.take_take, Nat.min_eq_left ha]
    have e : l.take watched = l.take asked ++ (l.take watched).drop asked := by rw [this, List.take_append_drop]
    rw [e, cnt_append]; omega
  have m11 : cnt 11 (l.take asked) ≤ cnt 11 (l.take i) := by
    have hle : asked ≤ i := by omega
    have : l.take asked = (l.take i).take asked := by rw [List.take_take, Nat.min_eq_left hle]
    have e : l.take i = l.take asked ++ (l.take i).drop asked := by rw [this, List.take_append_drop]
    rw [e, cnt_append]; omega
  have m02 : cnt 0 (l.take watched) ≤ cnt 0 (l.take i) := by
    have : l.take watched = (l.take i).take watched := by rw [List.take_take, Nat.min_eq_left hi]
    have e : l.take i = l.take watched ++ (l.take i).drop watched := by rw [this, List.take_append_drop]
    rw [e, cnt_append]; omega
  omega
end Go.Proofs.Ytmoahkdadeiahaa.SteadyMath
