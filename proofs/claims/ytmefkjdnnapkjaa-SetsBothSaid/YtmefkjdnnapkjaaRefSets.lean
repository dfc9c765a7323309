/- What the printed reference of the sets computes: the same plain words as the program's. -/
import Derived.Test.YtmefkjdnnapkjaaSets
namespace Go.Proofs.Ytmefkjdnnapkjaa.Sets
open Go.RowKit Go.Proofs.Ytmefkjdnnapkjaa.Q Go.Proofs.YtmefkjdnnapkjaaW.PrintWords Go.Proofs.YtmefkjdnnapkjaaW.PrintLast Go.Proofs.Ytmefkjdnnapkjaa.SetMath

theorem wrm (i n : Nat) (h : i < n) (h0 : 0 < i) (hn : n * 8 ≤ 140737488351232) : wrap64 ((i : Int) - 1) = ((i - 1 : Nat) : Int) := by
  unfold wrap64
  omega
theorem refis_l0 (a : List Int) (hb : a.length * 8 ≤ 140737488351232) (d : Nat) :
    ∀ (k i : Nat), a.length - 1 - i = d → i ≤ a.length - 1 → d < k → folkmootref04_Is.l0 k a ((i + 1 : Nat) : Int) = some (up (a.drop i) && decide ((a.length : Int) ≤ 16)) := by
  induction d with
  | zero =>
    intro k i hd hi hk
    obtain ⟨k, rfl⟩ : ∃ m, k = m + 1 := ⟨k - 1, by omega⟩
    simp only [folkmootref04_Is.l0]
    rw [if_neg (by omega), up_end a i (by omega)]
    simp
  | succ d ih =>
    intro k i hd hi hk
    obtain ⟨k, rfl⟩ : ∃ m, k = m + 1 := ⟨k - 1, by omega⟩
    have h1 : i + 1 < a.length := by omega
    simp only [folkmootref04_Is.l0]
    rw [wrm (i + 1) _ h1 (by omega) hb, if_pos (by omega), if_pos (by omega), if_pos (by omega), if_pos (by omega), Nat.add_sub_cancel, rd_at a i (by omega), rd_at a (i + 1) h1, wr1 (i + 1) _ h1 hb, ih k (i + 1) (by omega) (by omega) (by omega), up_drop a i h1]
    by_cases e : a[i] ≥ a[i + 1]
    · rw [if_pos e, if_pos e]; rfl
    · rw [if_neg e, if_neg e]
theorem refis_f (a : List Int) (hb : a.length * 8 ≤ 140737488351232) (k : Nat) (hk : a.length < k) : folkmootref04_Is.f k a = some (isSet a) := by
  unfold folkmootref04_Is.f isSet
  exact refis_l0 a hb (a.length - 1) k 0 (by omega) (by omega) (by omega)
theorem refhas_l0 (a : List Int) (n : Int) (hb : a.length * 8 ≤ 140737488351232) (d : Nat) :
    ∀ (k i : Nat), a.length - i = d → i ≤ a.length → d < k → folkmootref04_Has.l0 k a n (i : Int) = some ((a.drop i).contains n) := by
  induction d with
  | zero =>
    intro k i hd hi hk
    obtain ⟨k, rfl⟩ : ∃ m, k = m + 1 := ⟨k - 1, by omega⟩
    simp only [folkmootref04_Has.l0]
    rw [if_neg (by omega), List.drop_of_length_le (by omega)]
    simp
  | succ d ih =>
    intro k i hd hi hk
    obtain ⟨k, rfl⟩ : ∃ m, k = m + 1 := ⟨k - 1, by omega⟩
    have h1 : i < a.length := by omega
    simp only [folkmootref04_Has.l0]
    rw [if_pos (by omega), if_pos (by omega), rd_at a i h1, wr1 i _ h1 hb]
    rw [List.drop_eq_getElem_cons h1]
    by_cases e : a[i] = n
    · rw [if_pos e]; subst e; rw [List.contains_cons, BEq.rfl, Bool.true_or]
    · rw [if_neg e, ih k (i + 1) (by omega) (by omega) (by omega)]
      have e' : ¬ n = a[i] := fun h => e h.symm
      rw [List.contains_cons, beq_eq_false_iff_ne.2 e', Bool.false_or]
theorem refhas_f (a : List Int) (n : Int) (hb : a.length * 8 ≤ 140737488351232) (k : Nat) (hk : a.length < k) : folkmootref04_Has.f k a n = some (a.contains n) := by
  unfold folkmootref04_Has.f
  exact refhas_l0 a n hb a.length k 0 (by omega) (by omega) hk

theorem put_true (s : List Int) (n : Int) (hb : s.length ≤ 100000) (d : Nat) :
    ∀ (k i : Nat) (out : List Int), s.length - i = d → i ≤ s.length → d < k → out.length + d < 17592186044000 → folkmootref04_Put.l0 k s n out true (i : Int) = some (out ++ s.drop i) := by
  induction d with
  | zero =>
    intro k i out hd hi hk ho
    obtain ⟨k, rfl⟩ : ∃ m, k = m + 1 := ⟨k - 1, by omega⟩
    simp only [folkmootref04_Put.l0]
    rw [if_neg (by omega), List.drop_of_length_le (by omega)]
    simp
  | succ d ih =>
    intro k i out hd hi hk ho
    obtain ⟨k, rfl⟩ : ∃ m, k = m + 1 := ⟨k - 1, by omega⟩
    have h1 : i < s.length := by omega
    simp only [folkmootref04_Put.l0]
    rw [if_pos (by omega), if_pos trivial, if_pos (by omega), if_pos (by omega), rd_at s i h1, wr1 i _ h1 (by omega), ih k (i + 1) _ (by omega) (by omega) (by omega) (by simp; omega), List.drop_eq_getElem_cons h1]
    simp only [List.append_assoc, List.singleton_append]
theorem put_false (s : List Int) (n : Int) (hb : s.length ≤ 100000) (d : Nat) :
    ∀ (k i : Nat) (out : List Int), s.length - i = d → i ≤ s.length → d < k → out.length + d < 17592186043000 → folkmootref04_Put.l0 k s n out false (i : Int) = some (out ++ ins n (s.drop i)) := by
  induction d with
  | zero =>
    intro k i out hd hi hk ho
    obtain ⟨k, rfl⟩ : ∃ m, k = m + 1 := ⟨k - 1, by omega⟩
    simp only [folkmootref04_Put.l0]
    rw [if_neg (by omega), List.drop_of_length_le (by omega), if_neg (by decide), if_pos (by omega)]
    rfl
  | succ d ih =>
    intro k i out hd hi hk ho
    obtain ⟨k, rfl⟩ : ∃ m, k = m + 1 := ⟨k - 1, by omega⟩
    have h1 : i < s.length := by omega
    simp only [folkmootref04_Put.l0]
    rw [if_pos (by omega), if_neg (by decide), if_pos (by omega), rd_at s i h1, wr1 i _ h1 (by omega), List.drop_eq_getElem_cons h1]
    by_cases e : n < s[i]
    · rw [if_pos e, if_pos (by omega)]
      simp only [Option.bind_some]
      rw [if_pos (by simp; omega), put_true s n hb d k (i + 1) _ (by omega) (by omega) (by omega) (by simp; omega)]
      unfold ins
      rw [if_pos e]
      simp only [List.append_assoc, List.cons_append, List.nil_append]
    · rw [if_neg e, if_pos (by omega), ih k (i + 1) _ (by omega) (by omega) (by omega) (by simp; omega)]
      rw [show ins n (s[i] :: s.drop (i + 1)) = s[i] :: ins n (s.drop (i + 1)) from by rw [ins, if_neg e]]
      simp only [List.append_assoc, List.singleton_append]
theorem put_f (s : List Int) (n : Int) (hu : Up s) (hb : s.length ≤ 100000) (k : Nat) (hk : s.length < k) : folkmootref04_Put.f k s n = some (mk (s ++ [n])) := by
  unfold folkmootref04_Put.f
  rw [refhas_f s n (by omega) k hk]
  simp only [Option.bind_some]
  by_cases hn : n ∈ s
  · rw [List.contains_iff_mem.2 hn]
    refine (put_true s n hb s.length k 0 [] (by omega) (by omega) hk (by simp; omega)).trans ?_
    rw [List.drop_zero, List.nil_append, ← self_mk hu hn]
  · have e : s.contains n = false := by
      rw [← Bool.not_eq_true, List.contains_iff_mem]
      exact hn
    rw [e]
    refine (put_false s n hb s.length k 0 [] (by omega) (by omega) hk (by simp; omega)).trans ?_
    rw [List.drop_zero, List.nil_append, ins_mk hu hn]
theorem refwith_f (s : List Int) (n : Int) (hb : s.length ≤ 100000) (k : Nat) (hk : s.length < k) : folkmootref04_With.f k s n = some (withR s n) := by
  unfold folkmootref04_With.f withR
  rw [refis_f s (by omega) k hk]
  simp only [Option.bind_some]
  by_cases h : isSet s = true
  · rw [if_pos h, if_pos h, put_f s n ((isSet_iff s).1 h).1 hb k hk]
    simp only [Option.bind_some]
    by_cases hc : (mk (s ++ [n])).length > 16
    · rw [if_pos (by omega), if_pos hc]
    · rw [if_neg (by omega), if_neg hc]
  · rw [if_neg h, if_neg h]
theorem drop_l0 (s : List Int) (n : Int) (hb : s.length ≤ 100000) (d : Nat) :
    ∀ (k i : Nat) (out : List Int), s.length - i = d → i ≤ s.length → d < k → out.length + d < 17592186044000 → folkmootref04_Drop.l0 k s n out (i : Int) = some (out ++ (s.drop i).filter fun x => !(x == n)) := by
  induction d with
  | zero =>
    intro k i out hd hi hk ho
    obtain ⟨k, rfl⟩ : ∃ m, k = m + 1 := ⟨k - 1, by omega⟩
    simp only [folkmootref04_Drop.l0]
    rw [if_neg (by omega), List.drop_of_length_le (by omega)]
    simp
  | succ d ih =>
    intro k i out hd hi hk ho
    obtain ⟨k, rfl⟩ : ∃ m, k = m + 1 := ⟨k - 1, by omega⟩
    have h1 : i < s.length := by omega
    simp only [folkmootref04_Drop.l0]
    rw [if_pos (by omega), if_pos (by omega), rd_at s i h1, wr1 i _ h1 (by omega), List.drop_eq_getElem_cons h1]
    by_cases e : s[i] = n
    · rw [if_pos e, ih k (i + 1) _ (by omega) (by omega) (by omega) (by omega), List.filter_cons_of_neg (by simp [e])]
    · rw [if_neg e, if_pos (by omega), ih k (i + 1) _ (by omega) (by omega) (by omega) (by simp; omega), List.filter_cons_of_pos (by simp [e])]
      simp only [List.append_assoc, List.singleton_append]
theorem refwithout_f (s : List Int) (n : Int) (hb : s.length ≤ 100000) (k : Nat) (hk : s.length < k) : folkmootref04_Without.f k s n = some (withoutR s n) := by
  unfold folkmootref04_Without.f withoutR folkmootref04_Drop.f
  rw [refis_f s (by omega) k hk]
  simp only [Option.bind_some]
  by_cases h : isSet s = true
  · rw [if_pos h, if_pos h]
    have := drop_l0 s n hb s.length k 0 [] (by omega) (by omega) hk (by simp; omega)
    rw [show ((0 : Nat) : Int) = 0 from rfl] at this
    rw [this]
    simp
  · rw [if_neg h, if_neg h]
theorem both_l0 (a b : List Int) (ha : a.length ≤ 16) (hb : b.length ≤ 1000) (d : Nat) :
    ∀ (k i : Nat), b.length - i = d → i ≤ b.length → d + 2000 < k → folkmootref04_Both.l0 k b (mk (a ++ b.take i)) (i : Int) = some (if (mk (a ++ b)).length > 16 then ([], 2) else (mk (a ++ b), 0)) := by
  induction d with
  | zero =>
    intro k i hd hi hk
    obtain ⟨k, rfl⟩ : ∃ m, k = m + 1 := ⟨k - 1, by omega⟩
    simp only [folkmootref04_Both.l0]
    rw [if_neg (by omega), List.take_of_length_le (by omega)]
    by_cases hc : (mk (a ++ b)).length > 16
    · rw [if_pos (by omega), if_pos hc]
    · rw [if_neg (by omega), if_neg hc]
  | succ d ih =>
    intro k i hd hi hk
    obtain ⟨k, rfl⟩ : ∃ m, k = m + 1 := ⟨k - 1, by omega⟩
    have h1 : i < b.length := by omega
    have hl := mk_len (a ++ b.take i)
    rw [List.length_append, List.length_take] at hl
    simp only [folkmootref04_Both.l0]
    rw [if_pos (by omega), if_pos (by omega), rd_at b i h1, put_f _ _ (mk_up _) (by omega) k (by omega), mk_mk, wr1 i _ h1 (by omega), List.append_assoc, ← List.take_succ_eq_append_getElem h1]
    simp only [Option.bind_some]
    exact ih k (i + 1) (by omega) (by omega) (by omega)
theorem refboth_f (a b : List Int) (ha : a.length ≤ 1000) (hb : b.length ≤ 1000) (k : Nat) (hk : 5000 ≤ k) : folkmootref04_Both.f k a b = some (bothR a b) := by
  unfold folkmootref04_Both.f bothR
  rw [refis_f a (by omega) k (by omega), refis_f b (by omega) k (by omega)]
  simp only [Option.bind_some]
  obtain ⟨k, rfl⟩ : ∃ m, k = m + 1 := ⟨k - 1, by omega⟩
  by_cases h : isSet a = true
  · have hs := (isSet_iff a).1 h
    rw [if_pos h]
    by_cases h' : isSet b = true
    · simp only [folkmootref04_Both.j0]
      rw [h, h', if_neg (by decide), if_pos (by simp; omega), if_pos (show true = true ∧ true = true from ⟨rfl, rfl⟩), List.nil_append]
      have := both_l0 a b hs.2 hb b.length k 0 (by omega) (by omega) (by omega)
      rw [List.take_zero, List.append_nil, mk_self hs.1] at this
      exact this
    · simp only [folkmootref04_Both.j0]
      have e : isSet b = false := by simpa using h'
      rw [e, if_pos (by decide), if_neg (by simp)]
  · simp only [folkmootref04_Both.j0]
    rw [if_neg h, if_pos trivial, if_neg (fun e => h e.1)]
theorem common_l0 (a b : List Int) (ha : a.length ≤ 1000) (hb : b.length ≤ 1000) (d : Nat) :
    ∀ (k i : Nat) (out : List Int), a.length - i = d → i ≤ a.length → d + 2000 < k → out.length + d < 17592186044000 → folkmootref04_Common.l0 k a b out (i : Int) = some (out ++ (a.drop i).filter fun x => b.contains x, 0) := by
  induction d with
  | zero =>
    intro k i out hd hi hk ho
    obtain ⟨k, rfl⟩ : ∃ m, k = m + 1 := ⟨k - 1, by omega⟩
    simp only [folkmootref04_Common.l0]
    rw [if_neg (by omega), List.drop_of_length_le (by omega)]
    simp
  | succ d ih =>
    intro k i out hd hi hk ho
    obtain ⟨k, rfl⟩ : ∃ m, k = m + 1 := ⟨k - 1, by omega⟩
    have h1 : i < a.length := by omega
    simp only [folkmootref04_Common.l0]
    rw [if_pos (by omega), if_pos (by omega), rd_at a i h1, refhas_f b _ (by omega) k (by omega), wr1 i _ h1 (by omega), List.drop_eq_getElem_cons h1]
    simp only [Option.bind_some]
    by_cases e : b.contains a[i] = true
    · rw [if_pos e, if_pos (by omega), ih k (i + 1) _ (by omega) (by omega) (by omega) (by simp; omega), List.filter_cons_of_pos e]
      simp only [List.append_assoc, List.singleton_append]
    · rw [if_neg e, ih k (i + 1) _ (by omega) (by omega) (by omega) (by omega), List.filter_cons_of_neg e]
theorem refcommon_f (a b : List Int) (ha : a.length ≤ 1000) (hb : b.length ≤ 1000) (k : Nat) (hk : 5000 ≤ k) : folkmootref04_Common.f k a b = some (commonR a b) := by
  unfold folkmootref04_Common.f commonR
  rw [refis_f a (by omega) k (by omega), refis_f b (by omega) k (by omega)]
  simp only [Option.bind_some]
  obtain ⟨k, rfl⟩ : ∃ m, k = m + 1 := ⟨k - 1, by omega⟩
  by_cases h : isSet a = true
  · rw [if_pos h]
    by_cases h' : isSet b = true
    · simp only [folkmootref04_Common.j0]
      rw [h, h', if_neg (by decide), if_pos (show true = true ∧ true = true from ⟨rfl, rfl⟩)]
      have := common_l0 a b ha hb a.length k 0 [] (by omega) (by omega) (by omega) (by simp; omega)
      rw [show ((0 : Nat) : Int) = 0 from rfl] at this
      rw [this]
      simp
    · simp only [folkmootref04_Common.j0]
      have e : isSet b = false := by simpa using h'
      rw [e, if_pos (by decide), if_neg (by simp)]
  · simp only [folkmootref04_Common.j0]
    rw [if_neg h, if_pos trivial, if_neg (fun e => h e.1)]
end Go.Proofs.Ytmefkjdnnapkjaa.Sets
