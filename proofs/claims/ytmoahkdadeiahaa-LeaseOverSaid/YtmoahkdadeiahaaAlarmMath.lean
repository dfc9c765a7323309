/- Plain laws of a heap of items (block, id, time): sifting up and down, no program in sight. -/
namespace Go.Proofs.Ytmoahkdadeiahaa.AlarmMath
/-- An item: its block, its id, its time. -/
abbrev It := Nat × Int × Int
def lt (a b : It) : Bool := decide (a.2.2 < b.2.2) || (decide (a.2.2 = b.2.2) && decide (a.2.1 < b.2.1))
theorem lt_iff {a b : It} : lt a b = true ↔ a.2.2 < b.2.2 ∨ (a.2.2 = b.2.2 ∧ a.2.1 < b.2.1) := by simp [lt]
theorem lt_not {a b : It} : lt a b = false ↔ b.2.2 < a.2.2 ∨ (a.2.2 = b.2.2 ∧ b.2.1 ≤ a.2.1) := by
  rw [Bool.eq_false_iff, ne_eq, lt_iff]; omega
def at_ (q : List It) (i : Nat) : It := q.getD i (0, 0, 0)
theorem at_get {q : List It} {i : Nat} (h : i < q.length) : at_ q i = q[i] := by unfold at_; simp [List.getD, h]
def sw (q : List It) (i j : Nat) : List It := (q.set i (at_ q j)).set j (at_ q i)
theorem sw_len (q : List It) (i j : Nat) : (sw q i j).length = q.length := by simp [sw]
theorem sw_at (q : List It) (i j : Nat) (hi : i < q.length) (hj : j < q.length) (k : Nat) : at_ (sw q i j) k = if k = j then at_ q i else if k = i then at_ q j else at_ q k := by
  unfold sw
  show ((q.set i (at_ q j)).set j (at_ q i)).getD k (0, 0, 0) = _
  rw [List.getD_eq_getElem?_getD, List.getElem?_set]
  by_cases h1 : j = k
  · subst h1
    rw [if_pos rfl, if_pos (by simpa using hj), if_pos rfl]; rfl
  · rw [if_neg h1, if_neg (fun e => h1 e.symm), List.getElem?_set]
    by_cases h2 : i = k
    · subst h2
      rw [if_pos rfl, if_pos hi, if_pos rfl]; rfl
    · rw [if_neg h2, if_neg (fun e => h2 e.symm)]
      exact (List.getD_eq_getElem?_getD ..).symm
theorem sw_perm (q : List It) (i j : Nat) (hi : i < q.length) (hj : j < q.length) : (sw q i j).Perm q := by
  have e : sw q i j = (q.toArray.swap i j (by simpa using hi) (by simpa using hj)).toList := by
    apply List.ext_getElem
    · simp [sw]
    · intro k h1 h2
      have := sw_at q i j hi hj k
      rw [at_get (by simpa using h1)] at this
      rw [this]
      simp only [Array.getElem_toList, Array.getElem_swap, List.getElem_toArray]
      by_cases c1 : k = j
      · subst c1
        by_cases c2 : k = i
        · subst c2; simp [at_get hi]
        · rw [if_pos rfl, if_neg c2, if_pos rfl, at_get hi]
      · rw [if_neg c1]
        by_cases c2 : k = i
        · subst c2; simp [at_get hj]
        · rw [if_neg c2, if_neg c2, if_neg c1, at_get (by rw [sw_len] at h1; exact h1)]
  rw [e]
  have h := Array.swap_perm (xs := q.toArray) (i := i) (j := j) (by simpa using hi) (by simpa using hj)
  simpa using h.toList

/-! ### the heap's order -/
def Hp (q : List It) (n : Nat) : Prop := ∀ j, 0 < j → j < n → lt (at_ q j) (at_ q ((j - 1) / 2)) = false
/-- .. but for what touches i. -/
def HpX (q : List It) (n i : Nat) : Prop :=
  (∀ j, 0 < j → j < n → j ≠ i → (j - 1) / 2 ≠ i → lt (at_ q j) (at_ q ((j - 1) / 2)) = false) ∧
  (∀ j, 0 < j → j < n → (j - 1) / 2 = i → 0 < i → lt (at_ q j) (at_ q ((i - 1) / 2)) = false)
/-- What lies below i is not less. -/
def Lo (q : List It) (n i : Nat) : Prop := ∀ j, 0 < j → j < n → (j - 1) / 2 = i → lt (at_ q j) (at_ q i) = false
/-- What lies above i is not more. -/
def Up (q : List It) (i : Nat) : Prop := 0 < i → lt (at_ q i) (at_ q ((i - 1) / 2)) = false
theorem Hp.of {q : List It} {n i : Nat} (h : HpX q n i) (hl : Lo q n i) (hu : Up q i) : Hp q n := by
  intro j h0 hn
  by_cases c1 : j = i
  · subst c1; exact hu h0
  · by_cases c2 : (j - 1) / 2 = i
    · rw [c2]; exact hl j h0 hn c2
    · exact h.1 j h0 hn c1 c2
theorem Hp.x {q : List It} {n : Nat} (h : Hp q n) (i : Nat) (hi : i < n) : HpX q n i := by
  refine ⟨fun j h0 hn _ _ => h j h0 hn, fun j h0 hn e h0i => ?_⟩
  have h1 := h j h0 hn
  have h2 := h i h0i hi
  rw [e] at h1
  rw [lt_not] at *
  omega
def upL : Nat → List It → Nat → List It
  | 0, q, _ => q
  | k + 1, q, j => if (j - 1) / 2 = j ∨ lt (at_ q j) (at_ q ((j - 1) / 2)) = false then q else upL k (sw q ((j - 1) / 2) j) ((j - 1) / 2)
def ch (q : List It) (i n : Nat) : Nat := if 2 * i + 2 < n ∧ lt (at_ q (2 * i + 2)) (at_ q (2 * i + 1)) = true then 2 * i + 2 else 2 * i + 1
theorem ch_or (q : List It) (i n : Nat) (h : 2 * i + 1 < n) : ch q i n < n ∧ (ch q i n = 2 * i + 1 ∨ ch q i n = 2 * i + 2) := by unfold ch; split <;> omega
def downL : Nat → List It → Nat → Nat → List It × Nat
  | 0, q, i, _ => (q, i)
  | k + 1, q, i, n => if n ≤ 2 * i + 1 then (q, i) else
      if lt (at_ q (ch q i n)) (at_ q i) = false then (q, i)
      else downL k (sw q i (ch q i n)) (ch q i n) n

theorem upL_len (k : Nat) : ∀ (q : List It) (j : Nat), (upL k q j).length = q.length := by
  induction k with
  | zero => intro q j; rfl
  | succ k ih => intro q j; unfold upL; split; rfl; rw [ih, sw_len]
theorem upL_perm (k : Nat) : ∀ (q : List It) (j : Nat), j < q.length → (upL k q j).Perm q := by
  induction k with
  | zero => intro q j _; exact List.Perm.refl _
  | succ k ih =>
    intro q j hj
    unfold upL
    split
    · exact List.Perm.refl _
    · exact (ih _ _ (by rw [sw_len]; omega)).trans (sw_perm q _ _ (by omega) hj)
theorem upL_hp (k : Nat) : ∀ (q : List It) (n j : Nat), j < n → n ≤ q.length → j < k → HpX q n j → Lo q n j → Hp (upL k q j) n := by
  induction k with
  | zero => intro q n j _ _ hk; omega
  | succ k ih =>
    intro q n j hj hn hk hx hl
    unfold upL
    split
    · rename_i h
      refine Hp.of hx hl ?_
      intro h0
      rcases h with h | h
      · omega
      · exact h
    · rename_i h
      have hp : (j - 1) / 2 ≠ j := fun e => h (.inl e)
      have hlt : lt (at_ q j) (at_ q ((j - 1) / 2)) = true := by
        cases e : lt (at_ q j) (at_ q ((j - 1) / 2)) with
        | true => rfl
        | false => exact absurd (.inr e) h
      have h0 : 0 < j := by omega
      have hi : (j - 1) / 2 < j := by omega
      have S := sw_at q ((j - 1) / 2) j (by omega) (by omega)
      refine ih _ _ _ (by omega) (by rw [sw_len]; omega) (by omega) ⟨?_, ?_⟩ ?_
      · intro c hc0 hcn h1 h2
        rw [S c, S ((c - 1) / 2)]
        by_cases e1 : (c - 1) / 2 = j
        · rw [if_neg (by omega), if_neg (by omega), if_pos e1]
          exact hx.2 c hc0 hcn e1 h0
        · have e2 : c ≠ j := by intro e; subst e; exact h2 rfl
          rw [if_neg e2, if_neg h1, if_neg e1, if_neg h2]
          exact hx.1 c hc0 hcn e2 e1
      · intro c hc0 hcn e1 h0i
        rw [S c, S (((j - 1) / 2 - 1) / 2), if_neg (by omega) (c := ((j - 1) / 2 - 1) / 2 = j), if_neg (by omega) (c := ((j - 1) / 2 - 1) / 2 = (j - 1) / 2)]
        have hpp := hx.1 ((j - 1) / 2) h0i (by omega) (by omega) (by omega)
        by_cases e2 : c = j
        · rw [if_pos e2]; exact hpp
        · rw [if_neg e2, if_neg (by omega)]
          have h3 := hx.1 c hc0 hcn e2 (by omega)
          rw [e1] at h3
          rw [lt_not] at *
          omega
      · intro c hc0 hcn e1
        rw [S c, S ((j - 1) / 2), if_neg hp, if_pos rfl]
        by_cases e2 : c = j
        · rw [if_pos e2]
          rw [lt_not]; rw [lt_iff] at hlt; omega
        · rw [if_neg e2, if_neg (by omega)]
          have h3 := hx.1 c hc0 hcn e2 (by omega)
          rw [e1] at h3
          rw [lt_not] at *; rw [lt_iff] at hlt; omega
theorem downL_len (k : Nat) : ∀ (q : List It) (i n : Nat), (downL k q i n).1.length = q.length := by
  induction k with
  | zero => intro q i n; rfl
  | succ k ih =>
    intro q i n
    unfold downL
    split
    · rfl
    · split
      · rfl
      · rw [ih, sw_len]
theorem downL_perm (k : Nat) : ∀ (q : List It) (i n : Nat), i < q.length → n ≤ q.length → (downL k q i n).1.Perm q := by
  induction k with
  | zero => intro q i n _ _; exact List.Perm.refl _
  | succ k ih =>
    intro q i n hi hn
    unfold downL
    split
    · exact List.Perm.refl _
    · split
      · exact List.Perm.refl _
      · have hj : (ch q i n) < q.length := by have := ch_or q i n (by omega); omega
        exact (ih _ _ _ (by rw [sw_len]; exact hj) (by rw [sw_len]; exact hn)).trans (sw_perm q _ _ hi hj)
/-- What lies at n or behind it stays. -/
theorem downL_behind (k : Nat) : ∀ (q : List It) (i n : Nat), i < n → n ≤ q.length → ∀ m, n ≤ m → at_ (downL k q i n).1 m = at_ q m := by
  induction k with
  | zero => intro q i n _ _ m _; rfl
  | succ k ih =>
    intro q i n hi hn m hm
    unfold downL
    split
    · rfl
    · split
      · rfl
      · have hj : (ch q i n) < n := (ch_or q i n (by omega)).1
        rw [ih _ _ _ hj (by rw [sw_len]; exact hn) m hm, sw_at q _ _ (by omega) (by omega), if_neg (by omega), if_neg (by omega)]
theorem downL_hp (k : Nat) : ∀ (q : List It) (n i : Nat), n ≤ q.length → i < n → n ≤ i + k → HpX q n i →
    Lo (downL k q i n).1 n (downL k q i n).2 ∧ i ≤ (downL k q i n).2 ∧ (downL k q i n).2 < n ∧ HpX (downL k q i n).1 n (downL k q i n).2 ∧ ((downL k q i n).2 = i → (downL k q i n).1 = q) ∧ ((downL k q i n).2 = i ∨ Up (downL k q i n).1 (downL k q i n).2) := by
  induction k with
  | zero => intro q n i hq hi hk; omega
  | succ k ih =>
    intro q n i hq hi hk hx
    unfold downL
    split
    · exact ⟨fun j h0 hn e => by omega, Nat.le_refl _, hi, hx, fun _ => rfl, .inl rfl⟩
    · rename_i hc
      generalize hjd : (ch q i n) = j
      have hor := ch_or q i n (by omega)
      have hjn : j < n := by omega
      have hjp : (j - 1) / 2 = i := by omega
      have hj0 : 0 < j := by omega
      unfold ch at hjd
      have hij : i < j := by omega
      have hsm : ∀ c, 0 < c → c < n → (c - 1) / 2 = i → lt (at_ q c) (at_ q j) = false := by
        intro c h0 hn e
        by_cases hh : 2 * i + 2 < n ∧ lt (at_ q (2 * i + 2)) (at_ q (2 * i + 1)) = true
        · rw [if_pos hh] at hjd
          have hc2 : c = 2 * i + 1 ∨ c = 2 * i + 2 := by omega
          subst hjd
          rcases hc2 with rfl | rfl
          · have := hh.2; rw [lt_iff] at this; rw [lt_not]; omega
          · rw [lt_not]; omega
        · rw [if_neg hh] at hjd
          subst hjd
          have hc2 : c = 2 * i + 1 ∨ c = 2 * i + 2 := by omega
          rcases hc2 with rfl | rfl
          · rw [lt_not]; omega
          · cases e2 : lt (at_ q (2 * i + 2)) (at_ q (2 * i + 1)) with
            | false => rfl
            | true => exact absurd ⟨hn, e2⟩ hh
      split
      · rename_i hle
        refine ⟨fun c h0 hn e => ?_, Nat.le_refl _, hi, hx, fun _ => rfl, .inl rfl⟩
        have h1 := hsm c h0 hn e
        show lt (at_ q c) (at_ q i) = false
        rw [lt_not] at *
        omega
      · rename_i hlt
        have hlt : lt (at_ q j) (at_ q i) = true := by
          cases e : lt (at_ q j) (at_ q i) with
          | true => rfl
          | false => exact absurd e hlt
        have S := sw_at q i j (by omega) (by omega)
        have hx1 : HpX (sw q i j) n j := by
          refine ⟨fun c h0 hn h1 h2 => ?_, fun c h0 hn e _ => ?_⟩
          · rw [S c, S ((c - 1) / 2), if_neg h1, if_neg h2]
            by_cases e1 : (c - 1) / 2 = i
            · rw [if_neg (by omega), if_pos e1]
              exact hsm c h0 hn e1
            · rw [if_neg e1]
              by_cases e2 : c = i
              · rw [if_pos e2]
                subst e2
                exact hx.2 j hj0 hjn hjp h0
              · rw [if_neg e2]
                exact hx.1 c h0 hn e2 e1
          · rw [hjp, S c, S i, if_neg (by omega), if_neg (by omega), if_neg (by omega), if_pos rfl]
            have h3 := hx.1 c h0 hn (by omega) (by omega)
            rw [e] at h3
            exact h3
        have hu1 : Up (sw q i j) j := by
          intro _
          rw [hjp, S j, S i, if_pos rfl, if_neg (by omega), if_pos rfl]
          rw [lt_not]; rw [lt_iff] at hlt; omega
        obtain ⟨r1, r2, r3, r4, r5, r6⟩ := ih (sw q i j) n j (by rw [sw_len]; omega) hjn (by omega) hx1
        refine ⟨r1, by omega, r3, r4, fun e => by omega, .inr ?_⟩
        rcases r6 with e | r6
        · rw [e, r5 e]
          exact hu1
        · exact r6

/-- heap.Fix: down, and up if nothing moved. -/
def fixL (q : List It) (i n : Nat) : List It := if (downL (n + 1) q i n).2 = i then upL (n + 1) (downL (n + 1) q i n).1 i else (downL (n + 1) q i n).1
theorem fixL_len (q : List It) (i n : Nat) : (fixL q i n).length = q.length := by
  unfold fixL; split
  · rw [upL_len, downL_len]
  · rw [downL_len]
theorem fixL_perm (q : List It) (i n : Nat) (hi : i < n) (hn : n ≤ q.length) : (fixL q i n).Perm q := by
  unfold fixL; split
  · exact (upL_perm _ _ _ (by rw [downL_len]; omega)).trans (downL_perm _ _ _ _ (by omega) hn)
  · exact downL_perm _ _ _ _ (by omega) hn
theorem fixL_hp (q : List It) (i n : Nat) (hi : i < n) (hn : n ≤ q.length) (hx : HpX q n i) : Hp (fixL q i n) n := by
  obtain ⟨r1, r2, r3, r4, r5, r6⟩ := downL_hp (n + 1) q n i hn hi (by omega) hx
  unfold fixL
  split
  · rename_i e
    rw [r5 e]
    rw [e, r5 e] at r1
    exact upL_hp _ _ _ _ hi hn (by omega) hx r1
  · rename_i e
    rcases r6 with h | h
    · exact absurd h e
    · exact Hp.of r4 r1 h
theorem upL_behind (k : Nat) : ∀ (q : List It) (j : Nat), j < q.length → ∀ m, j < m → at_ (upL k q j) m = at_ q m := by
  induction k with
  | zero => intro q j _ m _; rfl
  | succ k ih =>
    intro q j hj m hm
    unfold upL
    split
    · rfl
    · rw [ih _ _ (by rw [sw_len]; omega) m (by omega), sw_at q _ _ (by omega) hj, if_neg (by omega), if_neg (by omega)]
theorem fixL_behind (q : List It) (i n : Nat) (hi : i < n) (hn : n ≤ q.length) (m : Nat) (hm : n ≤ m) : at_ (fixL q i n) m = at_ q m := by
  unfold fixL; split
  · rw [upL_behind _ _ _ (by rw [downL_len]; omega) m (by omega), downL_behind _ _ _ _ hi hn m hm]
  · exact downL_behind _ _ _ _ hi hn m hm
/-- The first is the least. -/
theorem Hp.least {q : List It} (h : Hp q q.length) (d : Nat) : ∀ j, j ≤ d → j < q.length → lt (at_ q j) (at_ q 0) = false := by
  induction d with
  | zero => intro j hj hn; have : j = 0 := by omega
            subst this; rw [lt_not]; omega
  | succ d ih =>
    intro j hj hn
    by_cases h0 : j = 0
    · subst h0; rw [lt_not]; omega
    · have h1 := h j (by omega) hn
      have h2 := ih ((j - 1) / 2) (by omega) (by omega)
      rw [lt_not] at *
      omega
end Go.Proofs.Ytmoahkdadeiahaa.AlarmMath
