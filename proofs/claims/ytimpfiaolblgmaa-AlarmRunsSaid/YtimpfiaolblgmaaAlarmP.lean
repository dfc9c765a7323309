/- Plain laws of a clock's sorted list of (id, at): what Set, Clear and Due make of it. No program in sight. -/
namespace Go.Proofs.Ytimpfiaolblgmaa.AlarmP
/-- An id and when it is due. -/
abbrev Al := Int × Int
/-- One comes ahead of another one: by at, then by id. -/
def bef (a b : Al) : Prop := a.2 < b.2 ∨ (a.2 = b.2 ∧ a.1 < b.1)
def befB (a b : Al) : Bool := decide (a.2 < b.2) || (decide (a.2 = b.2) && decide (a.1 < b.1))
theorem befB_iff {a b : Al} : befB a b = true ↔ bef a b := by simp [befB, bef]
theorem befB_not {a b : Al} : befB a b = false ↔ ¬ bef a b := by rw [← befB_iff]; simp
theorem bef_asymm {a b : Al} (h : bef a b) : ¬ bef b a := by unfold bef at *; omega
theorem bef_trans {a b c : Al} (h : bef a b) (h' : bef b c) : bef a c := by unfold bef at *; omega
theorem bef_total {a b : Al} (h : a.1 ≠ b.1) : bef a b ∨ bef b a := by unfold bef; omega
def wo (l : List Al) (id : Int) : List Al := l.filter (fun p => decide (p.1 ≠ id))
def insA (x : Al) : List Al → List Al
  | [] => [x]
  | y :: l => if befB x y then x :: y :: l else y :: insA x l
def rSet (l : List Al) (id t : Int) : List Al := insA (id, t) (wo l id)
def dueL (l : List Al) (now : Int) : List Al := l.takeWhile (fun p => decide (p.2 ≤ now))
def rest (l : List Al) (now : Int) : List Al := l.dropWhile (fun p => decide (p.2 ≤ now))
/-- Sorted, each id once. -/
structure Srt (l : List Al) : Prop where
  s : l.Pairwise bef
  n : (l.map (·.1)).Nodup
theorem Srt.nil : Srt [] := ⟨List.Pairwise.nil, List.Pairwise.nil⟩
theorem Srt.sub {l l' : List Al} (h : Srt l) (hs : l'.Sublist l) : Srt l' := ⟨h.s.sublist hs, h.n.sublist (hs.map _)⟩
theorem wo_sub (l : List Al) (id : Int) : (wo l id).Sublist l := List.filter_sublist
theorem Srt.wo {l : List Al} (h : Srt l) (id : Int) : Srt (AlarmP.wo l id) := h.sub (wo_sub l id)
theorem Srt.tail {x : Al} {l : List Al} (h : Srt (x :: l)) : Srt l := h.sub (List.sublist_cons_self ..)
theorem mem_wo {l : List Al} {id : Int} {p : Al} : p ∈ wo l id ↔ p ∈ l ∧ p.1 ≠ id := by simp [wo]
theorem insA_perm (x : Al) : ∀ l : List Al, (insA x l).Perm (x :: l) := by
  intro l
  induction l with
  | nil => exact List.Perm.refl _
  | cons y l ih =>
    unfold insA
    split
    · exact List.Perm.refl _
    · exact (List.Perm.cons y ih).trans (List.Perm.swap x y l)
theorem insA_srt {x : Al} : ∀ {l : List Al}, Srt l → (∀ p ∈ l, p.1 ≠ x.1) → Srt (insA x l) := by
  intro l h hx
  refine ⟨?_, ?_⟩
  · induction l with
    | nil => exact List.pairwise_singleton _ _
    | cons y l ih =>
      unfold insA
      have hs := List.pairwise_cons.1 h.s
      split
      · rename_i hb
        rw [befB_iff] at hb
        refine List.pairwise_cons.2 ⟨fun p hp => ?_, h.s⟩
        rcases List.mem_cons.1 hp with rfl | hp
        · exact hb
        · exact bef_trans hb (hs.1 p hp)
      · rename_i hb
        have hb' : ¬ bef x y := fun e => hb (befB_iff.2 e)
        refine List.pairwise_cons.2 ⟨fun p hp => ?_, ih h.tail (fun p hp => hx p (List.mem_cons_of_mem _ hp))⟩
        rcases List.mem_cons.1 ((insA_perm x l).mem_iff.1 hp) with rfl | hp
        · exact (bef_total (hx y (List.mem_cons_self ..))).resolve_right hb'
        · exact hs.1 p hp
  · refine (((insA_perm x l).map _).nodup_iff).2 ?_
    rw [List.map_cons, List.nodup_cons]
    refine ⟨fun hm => ?_, h.n⟩
    obtain ⟨p, hp, e⟩ := List.mem_map.1 hm
    exact hx p hp e
theorem Srt.set {l : List Al} (h : Srt l) (id t : Int) : Srt (rSet l id t) := insA_srt (h.wo id) (fun _ hp => (mem_wo.1 hp).2)
theorem set_perm' (l : List Al) (id t : Int) : (rSet l id t).Perm ((id, t) :: wo l id) := insA_perm _ _
/-- Two sorted lists of the same things are one. -/
theorem Srt.eq {l l' : List Al} (h : Srt l) (h' : Srt l') (hp : l.Perm l') : l = l' := by
  induction l generalizing l' with
  | nil => exact (List.Perm.nil_eq hp)
  | cons x l ih =>
    cases l' with
    | nil => exact absurd hp.length_eq (by simp)
    | cons y l' =>
      have hs := List.pairwise_cons.1 h.s
      have hs' := List.pairwise_cons.1 h'.s
      have e : x = y := by
        have h1 : x ∈ y :: l' := hp.mem_iff.1 (List.mem_cons_self ..)
        have h2 : y ∈ x :: l := hp.mem_iff.2 (List.mem_cons_self ..)
        rcases List.mem_cons.1 h1 with e | h1
        · exact e
        · rcases List.mem_cons.1 h2 with e | h2
          · exact e.symm
          · exact absurd (hs.1 y h2) (bef_asymm (hs'.1 x h1))
      subst e
      rw [ih h.tail h'.tail (List.Perm.cons_inv hp)]
theorem wo_perm {l l' : List Al} (h : l.Perm l') (id : Int) : (wo l id).Perm (wo l' id) := h.filter _
theorem wo_none {l : List Al} {id : Int} (h : ∀ p ∈ l, p.1 ≠ id) : wo l id = l := List.filter_eq_self.2 (fun p hp => by simpa using h p hp)
theorem wo_wo (l : List Al) (id : Int) : wo (wo l id) id = wo l id := wo_none (fun _ hp => (mem_wo.1 hp).2)
theorem wo_set {l : List Al} (h : Srt l) (id t : Int) : wo (rSet l id t) id = wo l id := by
  refine ((h.set id t).wo id).eq (h.wo id) ?_
  refine (wo_perm (set_perm' l id t) id).trans ?_
  have : wo ((id, t) :: wo l id) id = wo l id := by
    unfold wo
    rw [List.filter_cons_of_neg (by simp)]
    exact wo_wo l id
  rw [this]
theorem set_set {l : List Al} (h : Srt l) (id t u : Int) : rSet (rSet l id t) id u = rSet l id u := by
  show insA _ (wo (rSet l id t) id) = _
  rw [wo_set h]
  rfl
theorem wo_head {x : Al} {l : List Al} (h : Srt (x :: l)) : wo (x :: l) x.1 = l := by
  unfold wo
  rw [List.filter_cons_of_neg (by simp)]
  refine wo_none (fun p hp e => ?_)
  have := h.n
  rw [List.map_cons, List.nodup_cons] at this
  exact this.1 (List.mem_map.2 ⟨p, hp, e⟩)
theorem due_rest (l : List Al) (now : Int) : dueL l now ++ rest l now = l := List.takeWhile_append_dropWhile
theorem due_cons {x : Al} {l : List Al} {now : Int} (h : x.2 ≤ now) : dueL (x :: l) now = x :: dueL l now ∧ rest (x :: l) now = rest l now := by
  simp [dueL, rest, h]
theorem due_stop {x : Al} {l : List Al} {now : Int} (h : ¬ x.2 ≤ now) : dueL (x :: l) now = [] ∧ rest (x :: l) now = x :: l := by
  simp [dueL, rest, h]
theorem Srt.rest {l : List Al} (h : Srt l) (now : Int) : Srt (AlarmP.rest l now) := h.sub (List.dropWhile_sublist _)
theorem has_len {l : List Al} {id : Int} : (wo l id).length < l.length ↔ ∃ p ∈ l, p.1 = id := by
  constructor
  · intro h
    by_cases c : ∃ p ∈ l, p.1 = id
    · exact c
    · rw [wo_none (fun p hp e => c ⟨p, hp, e⟩)] at h; omega
  · rintro ⟨p, hp, e⟩
    have h1 := List.length_filter_lt_length_iff_exists (l := l) (p := fun p : Al => decide (p.1 ≠ id))
    exact h1.2 ⟨p, hp, by simp [e]⟩
/-- In a sorted list what is due is just what has its time: nothing behind it. -/
theorem rest_late {l : List Al} (h : Srt l) (now : Int) : ∀ p ∈ rest l now, now < p.2 := by
  induction l with
  | nil => intro p hp; cases hp
  | cons x l ih =>
    by_cases hx : x.2 ≤ now
    · rw [(due_cons hx).2]; exact ih h.tail
    · rw [(due_stop hx).2]
      intro p hp
      have hs := List.pairwise_cons.1 h.s
      rcases List.mem_cons.1 hp with rfl | hp
      · omega
      · have := hs.1 p hp; unfold bef at this; omega
theorem due_early (l : List Al) (now : Int) : ∀ p ∈ dueL l now, p.2 ≤ now := by
  induction l with
  | nil => intro p hp; cases hp
  | cons x l ih =>
    intro p hp
    by_cases hx : x.2 ≤ now
    · rw [(due_cons hx).1] at hp
      rcases List.mem_cons.1 hp with rfl | hp
      · exact hx
      · exact ih p hp
    · rw [(due_stop hx).1] at hp; cases hp
theorem due_again {l : List Al} (h : Srt l) (now : Int) : dueL (rest l now) now = [] := by
  have h1 := rest_late h now
  cases hr : rest l now with
  | nil => rfl
  | cons x r =>
    rw [hr] at h1
    exact (due_stop (by have := h1 x (List.mem_cons_self ..); omega)).1
theorem due_all {l : List Al} {now : Int} (h : ∀ p ∈ l, p.2 ≤ now) : dueL l now = l := by
  unfold dueL
  induction l with
  | nil => rfl
  | cons x l ih =>
    rw [List.takeWhile_cons_of_pos (by simpa using h x (List.mem_cons_self ..)), ih (fun p hp => h p (List.mem_cons_of_mem _ hp))]
end Go.Proofs.Ytimpfiaolblgmaa.AlarmP
