/- What Take computes, in plain words: the program's and the document's. -/
import Derived.Test.YtmoahkdadeiahaaLeaseHold
import Derived.IntWalk
import Derived.Test.YtmoahkdadeiahaaT5
import Derived.Test.YtmoahkdadeiahaaT8
namespace Go.Proofs.Ytmoahkdadeiahaa.Hold
open Go.RowKit Go.Proofs.Ytmoahkdadeiahaa.T Go.Proofs.YtmoahkdadeiahaaW.PrintWords Go.Proofs.YtmoahkdadeiahaaW.PrintLast Go.Proofs.YtmoahkdadeiahaaW.PrintMore
set_option linter.unusedVariables false
theorem rowOK_lt {ask now : Int} : ∀ {last : Int} {l : List Sn}, rowOK ask now last l = true → (∀ s ∈ l, last < s.f0) ∧ l.Pairwise (fun x y => x.f0 < y.f0) := by
  intro last l
  induction l generalizing last with
  | nil => intro _; exact ⟨(fun s hs => by cases hs), List.Pairwise.nil⟩
  | cons x l ih =>
    intro h
    rw [rowOK_cons, Bool.and_eq_true, decide_eq_true_eq] at h
    obtain ⟨⟨h1, _⟩, h2⟩ := h
    obtain ⟨i1, i2⟩ := ih h2
    refine ⟨fun s hs => ?_, List.pairwise_cons.2 ⟨fun y hy => i1 y hy, i2⟩⟩
    rcases List.mem_cons.1 hs with rfl | hs
    · exact h1
    · have := i1 s hs; omega
theorem right_sorted {node now ask : Int} {l : List Sn} {seq at_ : Int} (h : right node now ask l seq at_ = true) : l.Pairwise (fun x y => x.f0 < y.f0) := by
  unfold right at h
  rw [Bool.and_eq_true] at h
  exact (rowOK_lt h.2).2
theorem right_16' {node now ask : Int} {l : List Sn} {seq at_ : Int} (h : right node now ask l seq at_ = true) : l.length ≤ 16 := by
  unfold right headOK at h
  simp only [Bool.and_eq_true, decide_eq_true_eq] at h
  exact h.1.2.2.2.2.2.2
/-- The binary search: what lies ahead of lo is less, what lies from hi on is not. -/
theorem search_l0 (l : List Sn) (a : Int) (hl : l.length ≤ 2000) (hs : l.Pairwise (fun x y => x.f0 < y.f0)) (d : Nat) : ∀ (k lo hi : Nat), hi - lo ≤ d → lo ≤ hi → hi ≤ l.length → d < k → (∀ j x, l[j]? = some x → j < lo → x.f0 < a) → (∀ j x, l[j]? = some x → hi ≤ j → a ≤ x.f0) →
    ∃ i : Nat, i ≤ l.length ∧ (∀ j x, l[j]? = some x → j < i → x.f0 < a) ∧ (∀ j x, l[j]? = some x → i ≤ j → a ≤ x.f0) ∧
      api_Sent_int.l0 k l a (l.length : Int) (lo : Int) (hi : Int) = some ((i : Int), decide (∃ x, l[i]? = some x ∧ x.f0 = a)) := by
  induction d with
  | zero =>
    intro k lo hi hd h1 h2 hk hlo hhi
    obtain ⟨k, rfl⟩ : ∃ m, k = m + 1 := ⟨k - 1, by omega⟩
    obtain rfl : lo = hi := by omega
    refine ⟨lo, h2, hlo, hhi, ?_⟩
    simp only [api_Sent_int.l0]
    rw [if_neg (by omega)]
    by_cases h : lo < l.length
    · rw [if_pos (by omega), if_pos (by omega), if_pos (by omega), rd_at l lo h]
      have hge := hhi lo l[lo] (List.getElem?_eq_getElem h) (Nat.le_refl _)
      unfold lease_Take_1.f
      rw [if_neg (by omega)]
      by_cases he : l[lo].f0 = a
      · rw [if_neg (by omega)]
        simp only [Option.bind_some]
        rw [decide_eq_true ⟨_, List.getElem?_eq_getElem h, he⟩]; rfl
      · rw [if_pos (by omega)]
        simp only [Option.bind_some]
        rw [decide_eq_false (fun ⟨x, hx, hxa⟩ => he (by rw [List.getElem?_eq_getElem h] at hx; injection hx with hx; rw [hx]; exact hxa))]; rfl
    · rw [if_neg (by omega), decide_eq_false (fun ⟨x, hx, _⟩ => h (List.getElem?_eq_some_iff.1 hx).1)]
  | succ d ih =>
    intro k lo hi hd h1 h2 hk hlo hhi
    by_cases hlt : lo < hi
    · obtain ⟨k, rfl⟩ : ∃ m, k = m + 1 := ⟨k - 1, by omega⟩
      obtain ⟨m, hm⟩ : ∃ m, m = (lo + hi) / 2 := ⟨_, rfl⟩
      have hml : m < l.length := by omega
      have em : wrap64 ((IntKind.u64.wrap (wrap64 ((lo : Int) + (hi : Int)))) / 2) = (m : Int) := by
        have e1 : wrap64 ((lo : Int) + (hi : Int)) = (lo : Int) + hi := by unfold wrap64; omega
        have e2 : IntKind.u64.wrap ((lo : Int) + hi) = (lo : Int) + hi := IntWalk.u64_in _ (by omega)
        rw [e1, e2]; unfold wrap64; omega
      simp only [api_Sent_int.l0]
      rw [if_pos (by omega), em, if_pos (by omega), if_pos (by omega), rd_at l m hml]
      unfold lease_Take_1.f
      have emp : wrap64 ((m : Int) + 1) = ((m + 1 : Nat) : Int) := by unfold wrap64; omega
      have gm := List.getElem?_eq_getElem hml
      by_cases hc : l[m].f0 < a
      · rw [if_pos hc]
        simp only [Option.bind_some]
        rw [if_pos (by decide), emp]
        refine ih k (m + 1) hi (by omega) (by omega) h2 (by omega) (fun j x hx hj => ?_) hhi
        by_cases e : j = m
        · subst e; rw [gm] at hx; injection hx with hx; rw [← hx]; exact hc
        · obtain ⟨hj2, ej⟩ := List.getElem?_eq_some_iff.1 hx
          have := List.pairwise_iff_getElem.1 hs j m hj2 hml (by omega)
          rw [ej] at this; omega
      · rw [if_neg hc]
        have hge : ∀ j x, l[j]? = some x → m ≤ j → a ≤ x.f0 := fun j x hx hj => by
          by_cases e : j = m
          · subst e; rw [gm] at hx; injection hx with hx; rw [← hx]; omega
          · obtain ⟨hj2, ej⟩ := List.getElem?_eq_some_iff.1 hx
            have := List.pairwise_iff_getElem.1 hs m j hml hj2 (by omega)
            rw [ej] at this; omega
        by_cases hc2 : l[m].f0 > a
        · rw [if_pos hc2]
          simp only [Option.bind_some]
          rw [if_neg (by decide)]
          exact ih k lo m (by omega) (by omega) (by omega) (by omega) hlo hge
        · rw [if_neg hc2]
          simp only [Option.bind_some]
          rw [if_neg (by decide)]
          exact ih k lo m (by omega) (by omega) (by omega) (by omega) hlo hge
    · exact (ih k lo hi (by omega) h1 h2 (by omega) hlo hhi)
def takeT (node now ask : Int) (l : List Sn) (seq at_ a s : Int) (i : Nat) : Int × Int × Int × List Sn × Int × Int × Bool × Int :=
  if right node now ask l seq at_ = true then (if (∃ x, l[i]? = some x ∧ x.f0 = a) ∧ seq < s ∧ s ≤ 1000000000 then (node, now, ask, l.drop (i + 1), s, (rd_T59 l (i : Int)).f1, true, 0) else (node, now, ask, l, seq, at_, false, 0)) else (0, 0, 0, [], 0, 0, false, 1)
/-- The document's one look over the row. -/
def scan (a : Int) : List Sn → Bool → List Sn → Int → Bool × List Sn × Int
  | [], f, r, t => (f, r, t)
  | x :: l, f, r, t => scan a l (f || decide (x.f0 = a)) (if x.f0 > a then r ++ [x] else r) (if x.f0 = a then x.f1 else t)
theorem scan_none (a : Int) : ∀ (l : List Sn) (f : Bool) (r : List Sn) (t : Int), (∀ x ∈ l, x.f0 ≠ a) → (scan a l f r t).1 = f := by
  intro l
  induction l with
  | nil => intro f r t _; rfl
  | cons x l ih =>
    intro f r t h
    unfold scan
    rw [ih _ _ _ (fun y hy => h y (List.mem_cons_of_mem _ hy)), decide_eq_false (h x (List.mem_cons_self ..)), Bool.or_false]
theorem scan_more (a : Int) : ∀ (l : List Sn) (f : Bool) (r : List Sn) (t : Int), (∀ x ∈ l, a < x.f0) → scan a l f r t = (f, r ++ l, t) := by
  intro l
  induction l with
  | nil => intro f r t _; simp [scan]
  | cons x l ih =>
    intro f r t h
    have hx := h x (List.mem_cons_self ..)
    unfold scan
    rw [if_pos hx, if_neg (by omega), decide_eq_false (by omega), Bool.or_false, ih _ _ _ (fun y hy => h y (List.mem_cons_of_mem _ hy)), List.append_assoc]; rfl
theorem scan_less (a : Int) : ∀ (p q : List Sn) (f : Bool) (r : List Sn) (t : Int), (∀ x ∈ p, x.f0 < a) → scan a (p ++ q) f r t = scan a q f r t := by
  intro p
  induction p with
  | nil => intro q f r t _; rfl
  | cons x p ih =>
    intro q f r t h
    have hx := h x (List.mem_cons_self ..)
    show scan a (p ++ q) _ _ _ = _
    rw [if_neg (by omega), if_neg (by omega), decide_eq_false (by omega), Bool.or_false, ih _ _ _ _ (fun y hy => h y (List.mem_cons_of_mem _ hy))]
def takeEnd (node now ask : Int) (l : List Sn) (seq at_ s : Int) (z : Bool × List Sn × Int) : Int × Int × Int × List Sn × Int × Int × Bool × Int :=
  if z.1 = true ∧ seq < s ∧ s ≤ 1000000000 then (node, now, ask, z.2.1, s, z.2.2, true, 0) else (node, now, ask, l, seq, at_, false, 0)
theorem take_l0 (l : List Sn) (hl : l.length ≤ 1400) (node now ask seq at_ a s : Int) (d : Nat) : ∀ (k i : Nat) (f : Bool) (r : List Sn) (t : Int), l.length - i = d → i ≤ l.length → r.length ≤ i → 2 * d + 5 < k →
    folkmootref20_Take.l0 k a s f r (i : Int) node now ask l seq at_ node now ask l seq t = some (takeEnd node now ask l seq at_ s (scan a (l.drop i) f r t)) := by
  induction d with
  | zero =>
    intro k i f r t hd hi hr hk
    obtain ⟨k, rfl⟩ : ∃ m, k = m + 2 := ⟨k - 2, by omega⟩
    rw [List.drop_of_length_le (by omega)]
    unfold scan takeEnd
    simp only [folkmootref20_Take.l0]
    rw [if_neg (by omega)]
    have J2t : folkmootref20_Take.j2 (k + 1) s r true node now ask l seq at_ node now ask l seq t = some (node, now, ask, l, seq, at_, false, 0) := by
      simp only [folkmootref20_Take.j2]
      rw [if_pos trivial, own_r _ _ _ l _ _ (by omega)]; rfl
    have J2f : folkmootref20_Take.j2 (k + 1) s r false node now ask l seq at_ node now ask l seq t = some (node, now, ask, r, s, t, true, 0) := by
      simp only [folkmootref20_Take.j2]
      rw [if_neg (by simp)]
    cases f with
    | true =>
      rw [if_pos rfl]
      by_cases h1 : s ≤ seq
      · rw [if_pos h1, J2t, if_neg (by omega)]
      · rw [if_neg h1]
        by_cases h2 : s > 1000000000
        · rw [decide_eq_true h2, J2t, if_neg (by omega)]
        · rw [decide_eq_false h2, J2f, if_pos ⟨rfl, by omega, by omega⟩]
    | false =>
      rw [if_neg (by simp), J2t, if_neg (by simp)]
  | succ d ih =>
    intro k i f r t hd hi hr hk
    obtain ⟨k, rfl⟩ : ∃ m, k = m + 2 := ⟨k - 2, by omega⟩
    have h1 : i < l.length := by omega
    have hw : wrap64 ((i : Int) + 1) = ((i + 1 : Nat) : Int) := by unfold wrap64; omega
    rw [List.drop_eq_getElem_cons h1]
    unfold scan
    simp only [folkmootref20_Take.l0]
    rw [if_pos (by omega), if_pos (by omega), rd_at l i h1]
    have J1 : ∀ (f' : Bool) (t' : Int), folkmootref20_Take.j1 (k + 1) a s f' r (i : Int) node now ask l seq at_ node now ask l seq t' l[i].f0 l[i].f1 = some (takeEnd node now ask l seq at_ s (scan a (l.drop (i + 1)) f' (if l[i].f0 > a then r ++ [l[i]] else r) t')) := by
      intro f' t'
      simp only [folkmootref20_Take.j1]
      by_cases hg : l[i].f0 > a
      · rw [if_pos hg, if_pos (by omega), hw, if_pos hg]
        exact ih k (i + 1) f' _ t' (by omega) (by omega) (by simp; omega) (by omega)
      · rw [if_neg hg, hw, if_neg hg]
        exact ih k (i + 1) f' r t' (by omega) (by omega) (by omega) (by omega)
    by_cases he : l[i].f0 = a
    · rw [if_pos he, J1, decide_eq_true he, Bool.or_true, if_pos he]
    · rw [if_neg he, J1, decide_eq_false he, Bool.or_false, if_neg he]
/-- Both answer the same. -/
theorem take_both (node now ask : Int) (l : List Sn) (seq at_ a s : Int) (hl : l.length ≤ 1000) (K : Nat) (hK : 5000 ≤ K) : ∃ r, lease_Take.f K node now ask l seq at_ a s = some r ∧ folkmootref20_Take.f K node now ask l seq at_ a s = some r ∧ r.2.2.2.1.length ≤ 2000 := by
  unfold lease_Take.f folkmootref20_Take.f
  rw [check_f node now ask l seq at_ (by omega) K (by omega), right_f node now ask l seq at_ (by omega)]
  simp only [Option.bind_some]
  by_cases hr : right node now ask l seq at_ = true
  · have hs := right_sorted hr
    obtain ⟨i, hi, hlo, hhi, hsr⟩ := search_l0 l a (by omega) hs l.length K 0 l.length (by omega) (by omega) (Nat.le_refl _) (by omega) (fun j x _ hj => by omega) (fun j x hx hj => by have := (List.getElem?_eq_some_iff.1 hx).1; omega)
    have hT := take_l0 l (by omega) node now ask seq at_ a s l.length K 0 false [] at_ (by omega) (by omega) (by simp) (by omega)
    rw [show ((0 : Nat) : Int) = 0 from rfl, List.drop_zero] at hT
    rw [show ((0 : Nat) : Int) = 0 from rfl] at hsr
    rw [if_pos hr, if_pos rfl, if_pos hr, own_l _ _ _ l _ _ (by omega), own_r _ _ _ l _ _ (by omega)]
    simp only [Option.bind_some]
    unfold api_Sent_int.f
    rw [hsr, hT]
    simp only [Option.bind_some]
    by_cases hex : ∃ x, l[i]? = some x ∧ x.f0 = a
    · have hex' := hex
      obtain ⟨x, hx, hxa⟩ := hex
      obtain ⟨hil, hxi⟩ := List.getElem?_eq_some_iff.1 hx
      have hsc : scan a l false [] at_ = (true, l.drop (i + 1), x.f1) := by
        have e : l = l.take i ++ x :: l.drop (i + 1) := by rw [← hxi, ← List.drop_eq_getElem_cons hil, List.take_append_drop]
        have e2 : scan a l false [] at_ = scan a (l.take i ++ x :: l.drop (i + 1)) false [] at_ := congrArg (fun z => scan a z false [] at_) e
        rw [e2, scan_less a _ _ _ _ _ (fun y hy => by
          obtain ⟨j, hj, ej⟩ := List.getElem_of_mem hy
          rw [List.getElem_take] at ej
          rw [List.length_take] at hj
          exact hlo j y (by rw [← ej]; exact List.getElem?_eq_getElem _) (by omega))]
        unfold scan
        rw [if_neg (by omega), if_pos hxa, decide_eq_true hxa, Bool.or_true]
        exact scan_more a _ _ _ _ (fun y hy => by
          obtain ⟨j, hj, ej⟩ := List.getElem_of_mem hy
          rw [List.getElem_drop] at ej
          have hj2 : i + 1 + j < l.length := by rw [List.length_drop] at hj; omega
          have := List.pairwise_iff_getElem.1 hs i (i + 1 + j) hil hj2 (by omega)
          rw [hxi, hxa, ej] at this; exact this)
      rw [decide_eq_true hex', hsc]
      unfold takeEnd
      by_cases hc : seq < s ∧ s ≤ 1000000000
      · rw [if_pos ⟨rfl, hc.1, hc.2⟩, if_pos ⟨by omega, by omega⟩, if_pos ⟨rfl, hc.1, hc.2⟩, rd_at l i hil, hxi]
        exact ⟨_, rfl, rfl, by show (l.drop (i + 1)).length ≤ 2000; simp; omega⟩
      · rw [if_neg (fun h => hc h.2), if_neg (fun h => hc h.2)]
        exact ⟨_, rfl, rfl, by show l.length ≤ 2000; omega⟩
    · have hno : (scan a l false [] at_).1 = false := scan_none a l false [] at_ (fun x hx e => by
        obtain ⟨j, hj, ej⟩ := List.getElem_of_mem hx
        have gj : l[j]? = some x := by rw [← ej]; exact List.getElem?_eq_getElem hj
        rcases Nat.lt_trichotomy j i with h | h | h
        · have := hlo j x gj h; omega
        · subst h; exact hex ⟨x, gj, e⟩
        · have hil : i < l.length := by omega
          have h1 := hhi i l[i] (List.getElem?_eq_getElem hil) (Nat.le_refl _)
          have h2 := List.pairwise_iff_getElem.1 hs i j hil hj h
          rw [ej] at h2; omega)
      rw [decide_eq_false hex]
      unfold takeEnd
      rw [if_neg (fun h => by cases h.1), if_neg (fun h => by rw [hno] at h; cases h.1)]
      exact ⟨_, rfl, rfl, by show l.length ≤ 2000; omega⟩
  · rw [if_neg hr, if_neg (by decide), if_neg hr]
    exact ⟨_, rfl, rfl, by simp⟩
theorem again_both (node now ask : Int) (l : List Sn) (seq at_ : Int) (hl : l.length ≤ 1000) (K : Nat) (hK : 5000 ≤ K) : ∃ r, lease_Again.f K node now ask l seq at_ = some r ∧ folkmootref20_Again.f node now ask l seq at_ = some r ∧ r.2.2.2.1.length ≤ 2000 := by
  unfold lease_Again.f folkmootref20_Again.f
  rw [check_f node now ask l seq at_ (by omega) K (by omega), right_f node now ask l seq at_ (by omega)]
  simp only [Option.bind_some]
  by_cases hr : right node now ask l seq at_ = true
  · rw [if_pos hr, if_pos rfl, if_pos hr]
    exact ⟨_, rfl, rfl, by simp⟩
  · rw [if_neg hr, if_neg (by decide), if_neg hr]
    exact ⟨_, rfl, rfl, by simp⟩
end Go.Proofs.Ytmoahkdadeiahaa.Hold
