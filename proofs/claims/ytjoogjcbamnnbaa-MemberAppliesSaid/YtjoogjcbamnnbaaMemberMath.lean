/- Configurations in plain Lean: which may be, what a change makes, and that majorities of neighbours meet. No program in sight. -/
import Derived.Test.YtjoogjcbamnnbaaSetMath
namespace Go.Proofs.Ytjoogjcbamnnbaa.MemberMath
open Go.Proofs.Ytjoogjcbamnnbaa.SetMath

theorem len_ins (n : Int) : ∀ l : List Int, (ins n l).length = l.length + 1
  | [] => rfl
  | x :: r => by
    unfold ins
    split
    · rfl
    · rw [List.length_cons, len_ins n r, List.length_cons]
theorem mk_swap (v : List Int) (n : Int) (t : List Int) : mk (v ++ n :: t) = mk (mk (v ++ [n]) ++ t) :=
  up_ext (mk_up _) (mk_up _) (fun x => by simp only [mem_mk, List.mem_append, List.mem_cons, List.not_mem_nil, or_false]; rw [or_assoc])
theorem mk_apart : ∀ (l v : List Int), Up v → Up l → (∀ x ∈ l, x ∉ v) → (mk (v ++ l)).length = v.length + l.length
  | [], v, hv, _, _ => by rw [List.append_nil, mk_self hv]; rfl
  | n :: t, v, hv, hl, hd => by
    have h1 := List.pairwise_cons.1 hl
    have hn : n ∉ v := hd n (List.mem_cons_self ..)
    have e : (mk (v ++ [n])).length = v.length + 1 := by rw [← ins_mk hv hn, len_ins]
    rw [mk_swap, mk_apart t _ (mk_up _) h1.2 (fun x hx => ?_), e, List.length_cons]
    · omega
    · rw [mem_mk, List.mem_append, List.mem_singleton]
      rintro (h | h)
      · exact hd x (List.mem_cons_of_mem _ hx) h
      · have := h1.1 x hx
        omega
theorem up_filter {l : List Int} (h : Up l) (p : Int → Bool) : Up (l.filter p) := List.Pairwise.filter p h
theorem mk_common (v l : List Int) : mk (v ++ l) = mk (v ++ l.filter fun x => !v.contains x) :=
  up_ext (mk_up _) (mk_up _) (fun x => by
    simp only [mem_mk, List.mem_append, List.mem_filter, Bool.not_eq_true', List.contains_eq_mem, decide_eq_false_iff_not]
    by_cases h : x ∈ v <;> simp [h])
theorem mk_len_iff {v l : List Int} (hv : Up v) (hl : Up l) : (mk (v ++ l)).length = v.length + l.length ↔ ∀ x ∈ v, x ∉ l := by
  constructor
  · intro h x hx hxl
    rw [mk_common, mk_apart _ _ hv (up_filter hl _) (fun y hy => by simpa using (List.mem_filter.1 hy).2)] at h
    have h2 : (l.filter fun x => !v.contains x).length = l.length := by omega
    have h3 := List.length_filter_eq_length_iff.1 h2 x hxl
    simp [hx] at h3
  · intro h
    exact mk_apart _ _ hv hl (fun x hx hxv => h x hxv hx)

/-! ### which may be -/
def node (x : Int) : Bool := decide (1 ≤ x) && decide (x ≤ 5)
def may (v l : List Int) : Bool := isSet v && isSet l && v.all node && l.all node && decide (v ≠ []) && v.all fun x => !l.contains x
structure May (v l : List Int) : Prop where
  sv : isSet v = true
  sl : isSet l = true
  nv : ∀ x ∈ v, 1 ≤ x ∧ x ≤ 5
  nl : ∀ x ∈ l, 1 ≤ x ∧ x ≤ 5
  ne : v ≠ []
  ap : ∀ x ∈ v, x ∉ l
theorem may_iff (v l : List Int) : may v l = true ↔ May v l := by
  unfold may
  simp only [Bool.and_eq_true, List.all_eq_true, node, decide_eq_true_iff, Bool.not_eq_true', List.contains_eq_mem, decide_eq_false_iff_not]
  constructor
  · rintro ⟨⟨⟨⟨⟨a, b⟩, c⟩, d⟩, e⟩, f⟩; exact ⟨a, b, c, d, e, f⟩
  · rintro ⟨a, b, c, d, e, f⟩; exact ⟨⟨⟨⟨⟨a, b⟩, c⟩, d⟩, e⟩, f⟩
theorem up_bound : ∀ (l : List Int) (m : Int), Up l → (∀ x ∈ l, m ≤ x ∧ x ≤ 5) → m ≤ 6 → (l.length : Int) ≤ 6 - m
  | [], m, _, _, hm => by simp; omega
  | y :: r, m, h, hb, _ => by
    have h1 := List.pairwise_cons.1 h
    have h2 := hb y (List.mem_cons_self ..)
    have h3 := up_bound r (y + 1) h1.2 (fun x hx => ⟨by have := h1.1 x hx; omega, (hb x (List.mem_cons_of_mem _ hx)).2⟩) (by omega)
    rw [List.length_cons]
    omega
theorem few {l : List Int} (h : Up l) (hb : ∀ x ∈ l, 1 ≤ x ∧ x ≤ 5) : l.length ≤ 5 := by
  have := up_bound l 1 h hb (by omega)
  omega
/-- As the program asks it: over the one row of both. -/
theorem may_both (v l : List Int) : may v l = ((decide ((bothR v l).2 = 0) && !((bothR v l).1.any fun n => decide (n < 1) || decide (n > 5))) && (decide (v.length > 0) && decide ((bothR v l).1.length = v.length + l.length))) := by
  rw [Bool.eq_iff_iff, may_iff]
  simp only [Bool.and_eq_true, decide_eq_true_iff, Bool.not_eq_true', List.any_eq_false, Bool.or_eq_true, not_or]
  constructor
  · rintro ⟨sv, sl, nv, nl, ne, ap⟩
    have hv := (isSet_iff v).1 sv
    have hl := (isSet_iff l).1 sl
    have hm : ∀ x ∈ mk (v ++ l), 1 ≤ x ∧ x ≤ 5 := fun x hx => (List.mem_append.1 ((mem_mk _ _).1 hx)).elim (nv x) (nl x)
    have hf := few (mk_up _) hm
    have e : bothR v l = (mk (v ++ l), 0) := by unfold bothR; rw [if_pos ⟨sv, sl⟩, if_neg (by omega)]
    rw [e]
    refine ⟨⟨rfl, fun x hx => ?_⟩, ?_, (mk_len_iff hv.1 hl.1).2 ap⟩
    · have := hm x hx
      omega
    · exact List.length_pos_iff.2 ne
  · rintro ⟨⟨h0, hn⟩, hp, hlen⟩
    unfold bothR at h0 hn hlen
    by_cases hs : isSet v = true ∧ isSet l = true
    · rw [if_pos hs] at h0 hn hlen
      by_cases hc : (mk (v ++ l)).length > 16
      · rw [if_pos hc] at h0
        exact absurd h0 (by simp)
      · rw [if_neg hc] at hn hlen
        have hv := (isSet_iff v).1 hs.1
        have hl := (isSet_iff l).1 hs.2
        refine ⟨hs.1, hs.2, fun x hx => ?_, fun x hx => ?_, List.length_pos_iff.1 hp, (mk_len_iff hv.1 hl.1).1 hlen⟩
        · have := hn x ((mem_mk _ _).2 (List.mem_append.2 (.inl hx)))
          omega
        · have := hn x ((mem_mk _ _).2 (List.mem_append.2 (.inr hx)))
          omega
    · rw [if_neg hs] at h0
      exact absurd h0 (by simp)
theorem May.upv {v l : List Int} (h : May v l) : Up v := ((isSet_iff v).1 h.sv).1
theorem May.upl {v l : List Int} (h : May v l) : Up l := ((isSet_iff l).1 h.sl).1
theorem both_of {v l : List Int} (h : May v l) : bothR v l = (mk (v ++ l), 0) := by
  have hm : ∀ x ∈ mk (v ++ l), 1 ≤ x ∧ x ≤ 5 := fun x hx => (List.mem_append.1 ((mem_mk _ _).1 hx)).elim (h.nv x) (h.nl x)
  have hf := few (mk_up _) hm
  unfold bothR
  rw [if_pos ⟨h.sv, h.sl⟩, if_neg (by omega)]
theorem setOf {l : List Int} (h : Up l) (hb : ∀ x ∈ l, 1 ≤ x ∧ x ≤ 5) : isSet l = true := (isSet_iff l).2 ⟨h, by have := few h hb; omega⟩

/-! ### what a change makes -/
def wo (l : List Int) (n : Int) : List Int := l.filter fun x => !(x == n)
theorem mem_wo (l : List Int) (n x : Int) : x ∈ wo l n ↔ x ∈ l ∧ x ≠ n := by simp [wo, List.mem_filter]
theorem wo_self {l : List Int} {n : Int} (h : n ∉ l) : wo l n = l := List.filter_eq_self.2 (fun x hx => by simp; exact fun e => h (e ▸ hx))
theorem wo_up {l : List Int} (h : Up l) (n : Int) : Up (wo l n) := up_filter h _
theorem wo_len : ∀ {l : List Int} {n : Int}, Up l → n ∈ l → (wo l n).length + 1 = l.length
  | y :: r, n, h, hn => by
    have h1 := List.pairwise_cons.1 h
    by_cases e : y = n
    · subst e
      have hy : y ∉ r := fun hm => by have := h1.1 y hm; omega
      have : wo (y :: r) y = wo r y := List.filter_cons_of_neg (by simp)
      rw [this, wo_self hy, List.length_cons]
    · have : wo (y :: r) n = y :: wo r n := List.filter_cons_of_pos (by simpa using e)
      have hm : n ∈ r := (List.mem_cons.1 hn).resolve_left (fun e' => e e'.symm)
      rw [this, List.length_cons, wo_len h1.2 hm, List.length_cons]
theorem wo_put {l : List Int} {n : Int} (h : Up l) (hn : n ∉ l) : wo (mk (l ++ [n])) n = l :=
  up_ext (wo_up (mk_up _) n) h (fun x => by
    rw [mem_wo, mem_mk, List.mem_append, List.mem_singleton]
    exact ⟨fun ⟨a, b⟩ => a.resolve_right b, fun a => ⟨.inl a, fun e => hn (e ▸ a)⟩⟩)
theorem put_len {l : List Int} {n : Int} (h : Up l) (hn : n ∉ l) : (mk (l ++ [n])).length = l.length + 1 := by rw [← ins_mk h hn, len_ins]
/-- Does the change go through? -/
def goes (v l : List Int) (c n : Int) : Bool :=
  may v l && node n && (decide (c = 1) && (!v.contains n && !l.contains n) || decide (c = 2) && l.contains n || decide (c = 3) && (l.contains n || v.contains n && decide (v.length > 1)))
def applyR (v l : List Int) (c n : Int) : List Int × List Int × Int :=
  if goes v l c n = true then (if c = 2 then mk (wo v n ++ [n]) else wo v n, if c = 1 then mk (wo l n ++ [n]) else wo l n, 0) else ([], [], 160)

/-- The three ways in which a change goes through. -/
theorem goes_iff (v l : List Int) (c n : Int) : goes v l c n = true ↔ May v l ∧ (1 ≤ n ∧ n ≤ 5) ∧ (c = 1 ∧ n ∉ v ∧ n ∉ l ∨ c = 2 ∧ n ∈ l ∨ c = 3 ∧ (n ∈ l ∨ n ∈ v ∧ v.length > 1)) := by
  unfold goes node
  simp only [Bool.and_eq_true, Bool.or_eq_true, decide_eq_true_iff, may_iff, Bool.not_eq_true', List.contains_eq_mem, decide_eq_false_iff_not, or_assoc]
  constructor
  · rintro ⟨⟨a, b⟩, c⟩; exact ⟨a, b, c⟩
  · rintro ⟨a, b, c⟩; exact ⟨⟨a, b⟩, c⟩
theorem apply_pos {v l : List Int} {c n : Int} (h : goes v l c n = true) : applyR v l c n = (if c = 2 then mk (wo v n ++ [n]) else wo v n, if c = 1 then mk (wo l n ++ [n]) else wo l n, 0) := if_pos h
theorem apply_neg {v l : List Int} {c n : Int} (h : ¬ goes v l c n = true) : applyR v l c n = ([], [], 160) := if_neg h

/-- What comes out may be. -/
theorem apply_may {v l : List Int} {c n : Int} (h : goes v l c n = true) : May (applyR v l c n).1 (applyR v l c n).2.1 := by
  rw [apply_pos h]
  obtain ⟨hm, hn, hc⟩ := (goes_iff v l c n).1 h
  have bv : ∀ x ∈ wo v n, 1 ≤ x ∧ x ≤ 5 := fun x hx => hm.nv x ((mem_wo _ _ _).1 hx).1
  have bl : ∀ x ∈ wo l n, 1 ≤ x ∧ x ≤ 5 := fun x hx => hm.nl x ((mem_wo _ _ _).1 hx).1
  have bv' : ∀ x ∈ mk (wo v n ++ [n]), 1 ≤ x ∧ x ≤ 5 := fun x hx => (List.mem_append.1 ((mem_mk _ _).1 hx)).elim (bv x) (fun e => by rw [List.mem_singleton.1 e]; exact hn)
  have bl' : ∀ x ∈ mk (wo l n ++ [n]), 1 ≤ x ∧ x ≤ 5 := fun x hx => (List.mem_append.1 ((mem_mk _ _).1 hx)).elim (bl x) (fun e => by rw [List.mem_singleton.1 e]; exact hn)
  rcases hc with ⟨rfl, h1, h2⟩ | ⟨rfl, h1⟩ | ⟨rfl, h1⟩
  · rw [if_neg (by decide), if_pos rfl, wo_self h1, wo_self h2]
    rw [wo_self h2] at bl'
    refine ⟨hm.sv, setOf (mk_up _) bl', hm.nv, bl', hm.ne, fun x hx hx' => ?_⟩
    rcases List.mem_append.1 ((mem_mk _ _).1 hx') with e | e
    · exact hm.ap x hx e
    · exact h1 (List.mem_singleton.1 e ▸ hx)
  · rw [if_pos rfl, if_neg (by decide)]
    refine ⟨setOf (mk_up _) bv', setOf (wo_up hm.upl n) bl, bv', bl, ?_, fun x hx hx' => ?_⟩
    · exact List.ne_nil_of_mem ((mem_mk _ n).2 (List.mem_append.2 (.inr (List.mem_singleton.2 rfl))))
    · have hx' := (mem_wo _ _ _).1 hx'
      rcases List.mem_append.1 ((mem_mk _ _).1 hx) with e | e
      · exact hm.ap x ((mem_wo _ _ _).1 e).1 hx'.1
      · exact hx'.2 (List.mem_singleton.1 e)
  · rw [if_neg (by decide), if_neg (by decide)]
    refine ⟨setOf (wo_up hm.upv n) bv, setOf (wo_up hm.upl n) bl, bv, bl, ?_, fun x hx hx' => hm.ap x ((mem_wo _ _ _).1 hx).1 ((mem_wo _ _ _).1 hx').1⟩
    rcases h1 with h1 | ⟨h1, h2⟩
    · rw [wo_self (fun hv => hm.ap n hv h1)]; exact hm.ne
    · have := wo_len hm.upv h1
      have hp : 0 < (wo v n).length := by omega
      exact List.length_pos_iff.1 hp

/-! ### majorities -/
def reached (v a : List Int) : Bool := decide (2 * v.countP (fun x => a.contains x) > v.length)
theorem count_two (u : List Int) (p q : Int → Bool) (h : ∀ x ∈ u, ¬ (p x = true ∧ q x = true)) : u.countP p + u.countP q ≤ u.length := by
  induction u with
  | nil => simp
  | cons x r ih =>
    have := ih (fun y hy => h y (List.mem_cons_of_mem _ hy))
    have hx := h x (List.mem_cons_self ..)
    rw [List.countP_cons, List.countP_cons, List.length_cons]
    by_cases hp : p x = true
    · have hq : ¬ q x = true := fun e => hx ⟨hp, e⟩
      rw [if_pos hp, if_neg hq]; omega
    · rw [if_neg hp]
      split <;> omega
theorem count_wo (u : List Int) (n : Int) (p : Int → Bool) : (wo u n).countP p ≤ u.countP p := List.Sublist.countP_le List.filter_sublist
/-- u holds both rows, and is one longer than one of them at the most. -/
theorem meet_in (u v w a b : List Int) (hv : v.countP (fun x => a.contains x) ≤ u.countP (fun x => a.contains x)) (hw : w.countP (fun x => b.contains x) ≤ u.countP (fun x => b.contains x))
    (hl : 2 * u.length ≤ v.length + w.length + 1) (ha : reached v a = true) (hb : reached w b = true) : ∃ x ∈ a, x ∈ b := by
  refine Classical.byContradiction fun hno => ?_
  have h := count_two u (fun x => a.contains x) (fun x => b.contains x) (fun x _ => by
    rintro ⟨h1, h2⟩
    exact hno ⟨x, by simpa using h1, by simpa using h2⟩)
  unfold reached at ha hb
  have ha := of_decide_eq_true ha
  have hb := of_decide_eq_true hb
  omega
theorem meets {v l : List Int} {c n : Int} (h : goes v l c n = true) (a b : List Int) (ha : reached v a = true) (hb : reached (applyR v l c n).1 b = true) : ∃ x ∈ a, x ∈ b := by
  rw [apply_pos h] at hb
  obtain ⟨hm, hn, hc⟩ := (goes_iff v l c n).1 h
  rcases hc with ⟨rfl, h1, h2⟩ | ⟨rfl, h1⟩ | ⟨rfl, h1⟩
  · rw [if_neg (by decide), wo_self h1] at hb
    exact meet_in v v v a b (Nat.le_refl _) (Nat.le_refl _) (by omega) ha hb
  · have hnv : n ∉ v := fun hv => hm.ap n hv h1
    rw [if_pos rfl, wo_self hnv] at hb
    have e := wo_put hm.upv hnv
    have hlen := put_len hm.upv hnv
    refine meet_in (mk (v ++ [n])) v (mk (v ++ [n])) a b ?_ (Nat.le_refl _) (by omega) ha hb
    have := count_wo (mk (v ++ [n])) n (fun x => a.contains x)
    rwa [e] at this
  · rw [if_neg (by decide)] at hb
    refine meet_in v v (wo v n) a b (Nat.le_refl _) (count_wo v n _) ?_ ha hb
    by_cases hv : n ∈ v
    · have := wo_len hm.upv hv
      omega
    · rw [wo_self hv]; omega

/-! ### there and back -/
theorem back_learner {v l : List Int} {n : Int} (h : goes v l 1 n = true) :
    applyR v l 1 n = (v, mk (l ++ [n]), 0) ∧ applyR v (mk (l ++ [n])) 3 n = (v, l, 0) ∧ goes v (mk (l ++ [n])) 2 n = true ∧ applyR v (mk (l ++ [n])) 2 n = (mk (v ++ [n]), l, 0) := by
  obtain ⟨hm, hn, hc⟩ := (goes_iff v l 1 n).1 h
  have hc : n ∉ v ∧ n ∉ l := by
    rcases hc with ⟨_, h⟩ | ⟨h, _⟩ | ⟨h, _⟩
    · exact h
    · cases h
    · cases h
  have e1 : applyR v l 1 n = (v, mk (l ++ [n]), 0) := by rw [apply_pos h, if_neg (by decide), if_pos rfl, wo_self hc.1, wo_self hc.2]
  have hm' := apply_may h
  rw [e1] at hm'
  have hin : n ∈ mk (l ++ [n]) := (mem_mk _ n).2 (List.mem_append.2 (.inr (List.mem_singleton.2 rfl)))
  have g3 : goes v (mk (l ++ [n])) 3 n = true := (goes_iff _ _ _ _).2 ⟨hm', hn, .inr (.inr ⟨rfl, .inl hin⟩)⟩
  have g2 : goes v (mk (l ++ [n])) 2 n = true := (goes_iff _ _ _ _).2 ⟨hm', hn, .inr (.inl ⟨rfl, hin⟩)⟩
  refine ⟨e1, ?_, g2, ?_⟩
  · rw [apply_pos g3, if_neg (by decide), if_neg (by decide), wo_self hc.1, wo_put hm.upl hc.2]
  · rw [apply_pos g2, if_pos rfl, if_neg (by decide), wo_self hc.1, wo_put hm.upl hc.2]
theorem back_remove {v l : List Int} {n : Int} (h : goes v l 3 n = true) :
    goes (wo v n) (wo l n) 1 n = true ∧ applyR v l 3 n = (wo v n, wo l n, 0) ∧ applyR (wo v n) (wo l n) 1 n = (wo v n, mk (wo l n ++ [n]), 0) ∧ mk (wo v n ++ mk (wo l n ++ [n])) = mk (v ++ l) := by
  obtain ⟨hm, hn, hc⟩ := (goes_iff v l 3 n).1 h
  have hc : n ∈ l ∨ n ∈ v ∧ v.length > 1 := by
    rcases hc with ⟨h, _⟩ | ⟨h, _⟩ | ⟨_, h⟩
    · cases h
    · cases h
    · exact h
  have e3 : applyR v l 3 n = (wo v n, wo l n, 0) := by rw [apply_pos h, if_neg (by decide), if_neg (by decide)]
  have hm' := apply_may h
  rw [e3] at hm'
  have nv : n ∉ wo v n := fun hx => ((mem_wo _ _ _).1 hx).2 rfl
  have nl : n ∉ wo l n := fun hx => ((mem_wo _ _ _).1 hx).2 rfl
  have g1 : goes (wo v n) (wo l n) 1 n = true := (goes_iff _ _ _ _).2 ⟨hm', hn, .inl ⟨rfl, nv, nl⟩⟩
  refine ⟨g1, e3, (back_learner g1).1, up_ext (mk_up _) (mk_up _) fun x => ?_⟩
  simp only [mem_mk, List.mem_append, mem_wo, List.mem_singleton]
  constructor
  · rintro (⟨h, _⟩ | ⟨h, _⟩ | h)
    · exact .inl h
    · exact .inr h
    · subst h; exact hc.elim .inr (fun h => .inl h.1)
  · intro h'
    by_cases e : x = n
    · exact .inr (.inr e)
    · exact h'.elim (fun h => .inl ⟨h, e⟩) (fun h => .inr (.inl ⟨h, e⟩))
end Go.Proofs.Ytjoogjcbamnnbaa.MemberMath
