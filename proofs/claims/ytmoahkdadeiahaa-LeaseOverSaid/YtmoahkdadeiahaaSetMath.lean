/- Plain facts on sets of whole numbers told as rising lists: two that have the same members are one; what sorting and striking doubles gives. No program. -/
import Derived.Lib.RowBridge
namespace Go.Proofs.Ytmoahkdadeiahaa.SetMath

def Up (l : List Int) : Prop := l.Pairwise (· < ·)

theorem up_ext : ∀ {a b : List Int}, Up a → Up b → (∀ x, x ∈ a ↔ x ∈ b) → a = b
  | [], [], _, _, _ => rfl
  | [], y :: b, _, _, h => absurd ((h y).2 (List.mem_cons_self ..)) (by simp)
  | x :: a, [], _, _, h => absurd ((h x).1 (List.mem_cons_self ..)) (by simp)
  | x :: a, y :: b, ha, hb, h => by
    have ha' := List.pairwise_cons.1 ha
    have hb' := List.pairwise_cons.1 hb
    have e : x = y := by
      have h1 := (h x).1 (List.mem_cons_self ..)
      have h2 := (h y).2 (List.mem_cons_self ..)
      rcases List.mem_cons.1 h1 with h1 | h1
      · exact h1
      · rcases List.mem_cons.1 h2 with h2 | h2
        · exact h2.symm
        · have := hb'.1 x h1
          have := ha'.1 y h2
          omega
    subst e
    congr 1
    refine up_ext ha'.2 hb'.2 (fun z => ⟨fun hz => ?_, fun hz => ?_⟩)
    · rcases List.mem_cons.1 ((h z).1 (List.mem_cons_of_mem _ hz)) with e | h1
      · subst e
        exact absurd (ha'.1 _ hz) (by omega)
      · exact h1
    · rcases List.mem_cons.1 ((h z).2 (List.mem_cons_of_mem _ hz)) with e | h1
      · subst e
        exact absurd (hb'.1 _ hz) (by omega)
      · exact h1

/-! ### sorted, doubles struck -/
def srt (l : List Int) : List Int := l.mergeSort fun x y => decide (x ≤ y)
def mk (l : List Int) : List Int := Lib.compact (srt l)

theorem srt_le (l : List Int) : (srt l).Pairwise (· ≤ ·) := by
  have h := List.pairwise_mergeSort (le := fun x y : Int => decide (x ≤ y)) (by intro a b c h1 h2; simp at *; omega) (by intro a b; simp; omega) l
  exact h.imp (by intro a b h; simpa using h)

open Go.Lib in
theorem cmp_mem (d : Array Int) (m : Nat) : ∀ x, x ∈ compactUpTo d m ↔ ∃ j, j < m ∧ d[j]! = x := by
  induction m with
  | zero => intro x; simp [compactUpTo]
  | succ m ih =>
    intro x
    rw [compactUpTo_succ, List.mem_append, ih]
    by_cases hk : keeps d m = true
    · rw [if_pos hk, List.mem_singleton]
      constructor
      · rintro (⟨j, hj, e⟩ | e)
        · exact ⟨j, by omega, e⟩
        · exact ⟨m, by omega, e.symm⟩
      · rintro ⟨j, hj, e⟩
        rcases Nat.lt_or_ge j m with h | h
        · exact .inl ⟨j, h, e⟩
        · exact .inr (by rw [← e, show j = m by omega])
    · rw [if_neg hk]
      simp [keeps] at hk
      constructor
      · rintro (⟨j, hj, e⟩ | e)
        · exact ⟨j, by omega, e⟩
        · exact absurd e (by simp)
      · rintro ⟨j, hj, e⟩
        rcases Nat.lt_or_ge j m with h | h
        · exact .inl ⟨j, h, e⟩
        · have : j = m := by omega
          subst this
          exact .inl ⟨j - 1, by omega, by rw [← hk.2, e]⟩

open Go.Lib in
theorem cmp_up (d : Array Int) (hs : ∀ i j, i < j → j < d.size → d[i]! ≤ d[j]!) (m : Nat) (hm : m ≤ d.size) : Up (compactUpTo d m) := by
  induction m with
  | zero => simp [compactUpTo, Up]
  | succ m ih =>
    rw [compactUpTo_succ]
    by_cases hk : keeps d m = true
    · rw [if_pos hk]
      refine List.pairwise_append.2 ⟨ih (by omega), List.pairwise_singleton .., fun a ha b hb => ?_⟩
      rw [List.mem_singleton] at hb
      subst hb
      obtain ⟨j, hj, e⟩ := (cmp_mem d m a).1 ha
      subst e
      have h0 : m ≠ 0 := by omega
      simp [keeps, h0] at hk
      have h1 := hs (m - 1) m (by omega) (by omega)
      have h2 : d[j]! ≤ d[m - 1]! := by
        rcases Nat.lt_or_ge j (m - 1) with h | h
        · exact hs j (m - 1) h (by omega)
        · rw [show j = m - 1 by omega]; omega
      show d[j]! < d[m]!
      omega
    · rw [if_neg hk, List.append_nil]
      exact ih (by omega)

theorem mem_mk (l : List Int) (x : Int) : x ∈ mk l ↔ x ∈ l := by
  unfold mk Lib.compact
  rw [cmp_mem]
  rw [← List.mem_mergeSort (le := fun x y : Int => decide (x ≤ y)) (l := l)]
  show _ ↔ x ∈ srt l
  rw [List.mem_iff_getElem]
  constructor
  · rintro ⟨j, hj, e⟩
    refine ⟨j, hj, ?_⟩
    rw [getElem!_pos _ j (by simpa using hj)] at e
    simpa using e
  · rintro ⟨j, hj, e⟩
    refine ⟨j, hj, ?_⟩
    rw [getElem!_pos _ j (by simpa using hj)]
    simpa using e
theorem mk_up (l : List Int) : Up (mk l) := by
  unfold mk Lib.compact
  refine cmp_up _ (fun i j hij hj => ?_) _ (by simp)
  have h := srt_le l
  have hj' : j < (srt l).length := by simpa using hj
  rw [getElem!_pos _ i (by simp; omega), getElem!_pos _ j hj]
  simpa using List.pairwise_iff_getElem.1 h i j (by omega) hj' hij
theorem mk_len (l : List Int) : (mk l).length ≤ l.length := by
  unfold mk
  have h := Lib.compact_length_le (srt l)
  have e : (srt l).length = l.length := List.length_mergeSort _
  omega
/-- What has the members of l, and rises, is mk l. -/
theorem mk_eq {l a : List Int} (ha : Up a) (h : ∀ x, x ∈ a ↔ x ∈ l) : mk l = a := up_ext (mk_up l) ha (fun x => (mem_mk l x).trans (h x).symm)

/-! ### does a row rise? -/
def up : List Int → Bool
  | [] => true
  | [_] => true
  | x :: y :: r => if x ≥ y then false else up (y :: r)
theorem up_drop (a : List Int) (i : Nat) (h : i + 1 < a.length) : up (a.drop i) = if a[i] ≥ a[i + 1] then false else up (a.drop (i + 1)) := by
  rw [List.drop_eq_getElem_cons (show i < a.length by omega), List.drop_eq_getElem_cons h]
  rfl
theorem up_end (a : List Int) (i : Nat) (h : a.length ≤ i + 1) : up (a.drop i) = true := by
  have : (a.drop i).length ≤ 1 := by simp; omega
  match a.drop i, this with
  | [], _ => rfl
  | [_], _ => rfl
  | _ :: _ :: _, h => simp at h
theorem up_iff : ∀ l : List Int, up l = true ↔ Up l
  | [] => by simp [up, Up]
  | [_] => by simp [up, Up]
  | x :: y :: r => by
    unfold up
    by_cases h : x ≥ y
    · rw [if_pos h]
      constructor
      · intro e; cases e
      · intro hp
        have := (List.pairwise_cons.1 hp).1 y (List.mem_cons_self ..)
        omega
    · rw [if_neg h, up_iff (y :: r)]
      constructor
      · intro hp
        refine List.pairwise_cons.2 ⟨fun z hz => ?_, hp⟩
        rcases List.mem_cons.1 hz with e | hz
        · omega
        · have := (List.pairwise_cons.1 hp).1 z hz
          omega
      · intro hp
        exact (List.pairwise_cons.1 hp).2

/-- Is a row a set? -/
def isSet (l : List Int) : Bool := up l && decide ((l.length : Int) ≤ 16)
theorem isSet_iff (l : List Int) : isSet l = true ↔ Up l ∧ l.length ≤ 16 := by
  unfold isSet
  rw [Bool.and_eq_true, up_iff, decide_eq_true_iff]
  constructor
  · rintro ⟨a, b⟩; exact ⟨a, by omega⟩
  · rintro ⟨a, b⟩; exact ⟨a, by omega⟩

/-! ### the answers -/
def put (s : List Int) (n : Int) : List Int := mk (s ++ [n])
def withR (s : List Int) (n : Int) : List Int × Int := if isSet s = true then (if (mk (s ++ [n])).length > 16 then ([], 2) else (mk (s ++ [n]), 0)) else ([], 1)
def withoutR (s : List Int) (n : Int) : List Int × Int := if isSet s = true then (s.filter fun x => !(x == n), 0) else ([], 1)
def bothR (a b : List Int) : List Int × Int := if isSet a = true ∧ isSet b = true then (if (mk (a ++ b)).length > 16 then ([], 2) else (mk (a ++ b), 0)) else ([], 1)
def commonR (a b : List Int) : List Int × Int := if isSet a = true ∧ isSet b = true then (a.filter fun x => b.contains x, 0) else ([], 1)

/-- Putting a number where it belongs, by hand. -/
def ins (n : Int) : List Int → List Int
  | [] => [n]
  | x :: r => if n < x then n :: x :: r else x :: ins n r
theorem mem_ins (n : Int) : ∀ (l : List Int) (x : Int), x ∈ ins n l ↔ x = n ∨ x ∈ l
  | [], x => by simp [ins]
  | y :: r, x => by
    unfold ins
    split
    · simp
    · rw [List.mem_cons, mem_ins n r, List.mem_cons]
      constructor
      · rintro (h | h | h)
        · exact .inr (.inl h)
        · exact .inl h
        · exact .inr (.inr h)
      · rintro (h | h | h)
        · exact .inr (.inl h)
        · exact .inl h
        · exact .inr (.inr h)
theorem ins_up (n : Int) : ∀ {l : List Int}, Up l → n ∉ l → Up (ins n l)
  | [], _, _ => by simp [ins, Up]
  | y :: r, h, hn => by
    have h' := List.pairwise_cons.1 h
    unfold ins
    split
    · rename_i hlt
      refine List.pairwise_cons.2 ⟨fun z hz => ?_, h⟩
      rcases List.mem_cons.1 hz with e | hz
      · omega
      · have := h'.1 z hz
        omega
    · rename_i hlt
      refine List.pairwise_cons.2 ⟨fun z hz => ?_, ins_up n h'.2 (fun hm => hn (List.mem_cons_of_mem _ hm))⟩
      rcases (mem_ins n r z).1 hz with e | hz
      · subst e
        have : z ≠ y := fun e => hn (by rw [e]; exact List.mem_cons_self ..)
        omega
      · exact h'.1 z hz
theorem ins_mk {s : List Int} {n : Int} (h : Up s) (hn : n ∉ s) : ins n s = mk (s ++ [n]) :=
  (mk_eq (ins_up n h hn) (fun x => by rw [mem_ins, List.mem_append, List.mem_singleton]; exact Or.comm)).symm
theorem self_mk {s : List Int} {n : Int} (h : Up s) (hn : n ∈ s) : s = mk (s ++ [n]) :=
  (mk_eq h (fun x => by
    rw [List.mem_append, List.mem_singleton]
    exact ⟨.inl, fun h => h.elim id (fun e => e ▸ hn)⟩)).symm
theorem mk_mk (a : List Int) (n : Int) : mk (mk a ++ [n]) = mk (a ++ [n]) := up_ext (mk_up _) (mk_up _) (fun x => by simp [mem_mk])
theorem mk_self {s : List Int} (h : Up s) : mk s = s := mk_eq h (fun _ => Iff.rfl)
end Go.Proofs.Ytmoahkdadeiahaa.SetMath
