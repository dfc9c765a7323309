/- The statement SetsIs as a plain law over lists: the program tells a row a set just where the reference does (rising numbers, at most sixteen), and both tell alike whether a number is in it; no row is a set, and 2 1 is none. It holds for every row and number that can be read. -/
import Derived.Test.YtmefkjdnnapkjaaPSetsIsx1
import Derived.Test.YtmefkjdnnapkjaaWSized
namespace Go.Proofs.Ytmefkjdnnapkjaa.Pure
open Go.RowKit Go.Proofs.Ytmefkjdnnapkjaa.PSetsIs Go.Proofs.YtmefkjdnnapkjaaW.PrintWords Go.Proofs.YtmefkjdnnapkjaaW.PrintLast

theorem rd_at (l : List Int) (i : Nat) (h : i < l.length) : rd l (i : Int) = l[i] := by
  unfold rd
  simp [List.getD, h]
theorem wr1 (i n : Nat) (h : i < n) (hn : n * 8 ≤ 140737488351232) : wrap64 ((i : Int) + 1) = ((i + 1 : Nat) : Int) := by
  unfold wrap64
  omega
theorem wrm (i n : Nat) (h : i < n) (h0 : 0 < i) (hn : n * 8 ≤ 140737488351232) : wrap64 ((i : Int) - 1) = ((i - 1 : Nat) : Int) := by
  unfold wrap64
  omega

/-- Does a row rise? -/
def up : List Int → Bool
  | [] => true
  | [_] => true
  | x :: y :: r => if x ≥ y then false else up (y :: r)
theorem up_drop (a : List Int) (i : Nat) (h : i + 1 < a.length) : up (a.drop i) = if a[i] ≥ a[i + 1] then false else up (a.drop (i + 1)) := by
  rw [List.drop_eq_getElem_cons (show i < a.length by omega), List.drop_eq_getElem_cons h]
  rfl
theorem up_end (a : List Int) (i : Nat) (h : a.length ≤ i + 1) : up (a.drop i) = true := by
  have : (a.drop i).length ≤ 1 := by simp; omega
  match a.drop i, this with
  | [], _ => rfl
  | [_], _ => rfl
  | _ :: _ :: _, h => simp at h

theorem is_l0 (a : List Int) (hb : a.length * 8 ≤ 140737488351232) (m : Nat) (hm : m = a.length - 1) (d : Nat) :
    ∀ (k i : Nat), m - i = d → i ≤ m → d < k → sets_Is.l0 k a (m : Int) (i : Int) = some (up (a.drop i) && decide ((a.length : Int) ≤ 16)) := by
  induction d with
  | zero =>
    intro k i hd hi hk
    obtain ⟨k, rfl⟩ : ∃ m, k = m + 1 := ⟨k - 1, by omega⟩
    simp only [sets_Is.l0]
    rw [if_neg (by omega), up_end a i (by omega)]
    simp
  | succ d ih =>
    intro k i hd hi hk
    obtain ⟨k, rfl⟩ : ∃ m, k = m + 1 := ⟨k - 1, by omega⟩
    have h1 : i + 1 < a.length := by omega
    simp only [sets_Is.l0]
    rw [wr1 i _ (by omega) hb, if_pos (by omega), if_pos (by omega), if_pos (by omega), if_pos (by omega), if_pos (by omega), rd_at a i (by omega), rd_at a (i + 1) h1, ih k (i + 1) (by omega) (by omega) (by omega), up_drop a i h1]
    by_cases e : a[i] ≥ a[i + 1]
    · rw [if_pos e, if_pos e]; rfl
    · rw [if_neg e, if_neg e]
theorem ref_l0 (a : List Int) (hb : a.length * 8 ≤ 140737488351232) (d : Nat) :
    ∀ (k i : Nat), a.length - 1 - i = d → i ≤ a.length - 1 → d < k → folkmootref04_Is.l0 k a ((i + 1 : Nat) : Int) = some (up (a.drop i) && decide ((a.length : Int) ≤ 16)) := by
  induction d with
  | zero =>
    intro k i hd hi hk
    obtain ⟨k, rfl⟩ : ∃ m, k = m + 1 := ⟨k - 1, by omega⟩
    simp only [folkmootref04_Is.l0]
    rw [if_neg (by omega), up_end a i (by omega)]
    simp
  | succ d ih =>
    intro k i hd hi hk
    obtain ⟨k, rfl⟩ : ∃ m, k = m + 1 := ⟨k - 1, by omega⟩
    have h1 : i + 1 < a.length := by omega
    simp only [folkmootref04_Is.l0]
    rw [wrm (i + 1) _ h1 (by omega) hb, if_pos (by omega), if_pos (by omega), if_pos (by omega), if_pos (by omega), Nat.add_sub_cancel, rd_at a i (by omega), rd_at a (i + 1) h1, wr1 (i + 1) _ h1 hb, ih k (i + 1) (by omega) (by omega) (by omega), up_drop a i h1]
    by_cases e : a[i] ≥ a[i + 1]
    · rw [if_pos e, if_pos e]; rfl
    · rw [if_neg e, if_neg e]
theorem is_f (a : List Int) (hb : a.length * 8 ≤ 140737488351232) (k : Nat) (hk : a.length < k) : sets_Is.f k a = some (up a && decide ((a.length : Int) ≤ 16)) := by
  unfold sets_Is.f
  have e : mx 0 (wrap64 ((a.length : Int) - 1)) = ((a.length - 1 : Nat) : Int) := by unfold mx wrap64; split <;> omega
  rw [e]
  exact is_l0 a hb _ rfl (a.length - 1) k 0 (by omega) (by omega) (by omega)
theorem ref_f (a : List Int) (hb : a.length * 8 ≤ 140737488351232) (k : Nat) (hk : a.length < k) : folkmootref04_Is.f k a = some (up a && decide ((a.length : Int) ≤ 16)) := by
  unfold folkmootref04_Is.f
  exact ref_l0 a hb (a.length - 1) k 0 (by omega) (by omega) (by omega)

theorem idx_l0 (a : List Int) (n : Int) (hb : a.length * 8 ≤ 140737488351232) (d : Nat) :
    ∀ (k i : Nat), a.length - i = d → i ≤ a.length → d < k → ∃ r, api_Set_int_38.l0 k a n (a.length : Int) (i : Int) = some r ∧ (decide (r ≥ 0) = (a.drop i).contains n) := by
  induction d with
  | zero =>
    intro k i hd hi hk
    obtain ⟨k, rfl⟩ : ∃ m, k = m + 1 := ⟨k - 1, by omega⟩
    simp only [api_Set_int_38.l0]
    rw [if_neg (by omega), List.drop_of_length_le (by omega)]
    exact ⟨_, rfl, by simp⟩
  | succ d ih =>
    intro k i hd hi hk
    obtain ⟨k, rfl⟩ : ∃ m, k = m + 1 := ⟨k - 1, by omega⟩
    have h1 : i < a.length := by omega
    simp only [api_Set_int_38.l0]
    rw [if_pos (by omega), if_pos (by omega), if_pos (by omega), rd_at a i h1, wr1 i _ h1 hb]
    rw [List.drop_eq_getElem_cons h1]
    by_cases e : n = a[i]
    · rw [if_pos e]; exact ⟨_, rfl, by subst e; rw [List.contains_cons]; simp only [BEq.rfl, Bool.true_or]; exact decide_eq_true (by omega)⟩
    · rw [if_neg e]
      obtain ⟨r, h, hr⟩ := ih k (i + 1) (by omega) (by omega) (by omega)
      exact ⟨r, h, by rw [hr, List.contains_cons, beq_eq_false_iff_ne.2 e, Bool.false_or]⟩
theorem has_f (a : List Int) (n : Int) (hb : a.length * 8 ≤ 140737488351232) (k : Nat) (hk : a.length < k) : sets_Has.f k a n = some (a.contains n) := by
  unfold sets_Has.f api_Set_int_30.f api_Set_int_38.f
  obtain ⟨r, h, hr⟩ := idx_l0 a n hb a.length k 0 (by omega) (by omega) hk
  rw [show ((0 : Nat) : Int) = 0 from rfl] at h
  rw [h]
  simp only [Option.bind_some]
  rw [hr]
  rfl
theorem refhas_l0 (a : List Int) (n : Int) (hb : a.length * 8 ≤ 140737488351232) (d : Nat) :
    ∀ (k i : Nat), a.length - i = d → i ≤ a.length → d < k → folkmootref04_Has.l0 k a n (i : Int) = some ((a.drop i).contains n) := by
  induction d with
  | zero =>
    intro k i hd hi hk
    obtain ⟨k, rfl⟩ : ∃ m, k = m + 1 := ⟨k - 1, by omega⟩
    simp only [folkmootref04_Has.l0]
    rw [if_neg (by omega), List.drop_of_length_le (by omega)]
    simp
  | succ d ih =>
    intro k i hd hi hk
    obtain ⟨k, rfl⟩ : ∃ m, k = m + 1 := ⟨k - 1, by omega⟩
    have h1 : i < a.length := by omega
    simp only [folkmootref04_Has.l0]
    rw [if_pos (by omega), if_pos (by omega), rd_at a i h1, wr1 i _ h1 hb]
    rw [List.drop_eq_getElem_cons h1]
    by_cases e : a[i] = n
    · rw [if_pos e]; subst e; rw [List.contains_cons, BEq.rfl, Bool.true_or]
    · rw [if_neg e, ih k (i + 1) (by omega) (by omega) (by omega)]
      have e' : ¬ n = a[i] := fun h => e h.symm
      rw [List.contains_cons, beq_eq_false_iff_ne.2 e', Bool.false_or]
theorem SetsIs : folkmootlaw04_SetsIs.Pure := by
  intro a n _ ha _ _
  refine ⟨a.length + 3, ?_⟩
  unfold folkmootlaw04_SetsIs.f
  by_cases hl : (a.length : Int) > 1000
  · rw [if_pos hl]
  rw [if_neg hl, is_f [] (by simp) _ (by simp), is_f [2, 1] (by simp) _ (by simp), is_f a ha _ (by omega), ref_f a ha _ (by omega), has_f a n ha _ (by omega)]
  have h := refhas_l0 a n ha a.length (a.length + 3) 0 (by omega) (by omega) (by omega)
  unfold folkmootref04_Has.f
  rw [show ((0 : Nat) : Int) = 0 from rfl] at h
  rw [h]
  simp [up]
end Go.Proofs.Ytmefkjdnnapkjaa.Pure

namespace Go.Proofs.Ytmefkjdnnapkjaa.PrintWords
open Go.ChangeShapes Go.WideShapes
/-- The printed row names this word without its seat. -/
theorem sized_ints {H : Type} {enc : TypeId × Value → H} {P : Program} {W : World} {base : Nat} {spare : Nat → Bool} {held : Bool} {t e : TypeId} {k : IntKind} {a : Option Addr} {len cap : Nat} {d : DataW H} {ps : List MemPlace} {ts : List TypeId} {ds : List (DataW H)} {j : Nat}
    (hsz : (DataW.weightsEach P ts ds).all (· ≤ reachBytes) = true) (ht : ts[j]? = some t) (hd : ds[j]? = some d) (hu : P.underlying t = some (.slice e)) (he : P.underlying e = some (.int k)) (hc : P.cellsOf e = 1) {B : Nat} (hB : P.bytesOf e = B)
    (h : DataW.Trod enc P W base spare held t (.slice a len cap) d ps) : len * B ≤ 140737488351232 :=
  Go.Proofs.YtmefkjdnnapkjaaW.PrintWords.sized_ints hsz ht hd hu he hc hB h
end Go.Proofs.Ytmefkjdnnapkjaa.PrintWords
