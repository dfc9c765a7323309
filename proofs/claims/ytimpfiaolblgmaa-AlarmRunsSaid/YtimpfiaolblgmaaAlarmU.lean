/- The clock over a sorted list of (id, at): one contract for each of Set, Clear, Next, Len, Due. -/
import Derived.Test.YtimpfiaolblgmaaAlarmO
import Derived.Test.YtimpfiaolblgmaaAlarmP
namespace Go.Proofs.Ytimpfiaolblgmaa.AlarmQ
open Go.Shelf Go.Maps Go.RowKit Go.Proofs.YtimpfiaolblgmaaW.PrintWords Go.Proofs.Ytimpfiaolblgmaa.AlarmMath Go.Proofs.Ytimpfiaolblgmaa.Blk Go.Proofs.Ytimpfiaolblgmaa.AlarmP
set_option linter.unusedVariables false
set_option linter.unusedSimpArgs false
/-- The clock at C holds the sorted list l; its blocks are among S, all there already. -/
structure Clk (w : World) (S : Nat → Prop) (C N : Nat) (l : List Al) : Prop where
  ex : ∃ q, CAt w S C N q ∧ (q.map (·.2)).Perm l
  srt : Srt l
  lt : ∀ k, S k → k < w.heap.size
theorem Clk.wf {w : World} {S : Nat → Prop} {C N : Nat} {l : List Al} (h : Clk w S C N l) : ∀ x ∈ l, (Lit.int .i64 x.1).wf = true ∧ (Lit.int .i64 x.2).wf = true := by
  obtain ⟨⟨q, hq, hp⟩, _, _⟩ := h
  intro x hx
  obtain ⟨y, hy, rfl⟩ := List.mem_map.1 (hp.mem_iff.2 hx)
  exact hq.wf y hy
theorem Clk.len {w : World} {S : Nat → Prop} {C N : Nat} {l : List Al} (h : Clk w S C N l) : l.length ≤ N ∧ l.length ≤ 100000 := by
  obtain ⟨⟨q, hq, hp⟩, _, _⟩ := h
  have := hp.length_eq
  rw [List.length_map] at this
  exact ⟨this ▸ hq.le, this ▸ hq.bd⟩
/-- The blocks that it needs are there. -/
theorem CAt.there {w : World} {S : Nat → Prop} {C N : Nat} {q : List It} (h : CAt w S C N q) : CAt w (fun k => S k ∧ k < w.heap.size) C N q := by
  obtain ⟨⟨v, m, n, D, h1, h2, h3, h4, h5⟩, h6, h7, h8, h9⟩ := h
  refine ⟨⟨v, m, n, D, ⟨h1.cC, h1.row, h1.its, h1.nd, ⟨h1.sC, blk_lt h1.cC⟩, fun g hg => ⟨h1.sv g hg, (h1.row.lt g hg).2⟩, fun i hi => ⟨h1.si i hi, blk_lt (h1.its i hi)⟩, h1.bd⟩, ⟨h2, h3.lt⟩, h3, h4, h5⟩, h6, h7, h8, h9⟩
theorem Clk.move {w w' : World} {S T : Nat → Prop} {C N : Nat} {l : List Al} (h : Clk w S C N l) (hf : Fr w w' T) (hd : ∀ k, S k → ¬ T k) : Clk w' S C N l := by
  obtain ⟨⟨q, hq, hp⟩, h2, h3⟩ := h
  exact ⟨⟨q, hq.move hf hd, hp⟩, h2, fun k hk => Nat.lt_of_lt_of_le (h3 k hk) hf.size⟩
theorem Clk.below {w w' : World} {S : Nat → Prop} {C N : Nat} {l : List Al} (h : Clk w S C N l) (hb : Below w.heap.size w w') : Clk w' S C N l := by
  obtain ⟨⟨q, hq, hp⟩, h2, h3⟩ := h
  have hf : Fr w w' (fun k => ¬ S k) := Fr.ofBelow hb _
  exact Clk.move ⟨⟨q, hq, hp⟩, h2, h3⟩ hf (fun k hk hn => hn hk)
theorem Clk.drewN {w : World} {S : Nat → Prop} {C N : Nat} {l : List Al} (h : Clk w S C N l) (n : Nat) : Clk (w.drewN n) S C N l := h.below (pw_below_drewN (Below.refl _ _) n)
/-- A block (a row's) that is none of its own is written. -/
theorem Clk.grown {w w' : World} {S : Nat → Prop} {C N : Nat} {l : List Al} (h : Clk w S C N l) {r : Option Nat} (hg : w.grownBy w' r) (hr : ∀ g, r = some g → ¬ S g) : Clk w' S C N l :=
  h.move (Fr.ofGrownO (S := fun k => r = some k) hg (fun g e => e)) (fun k hk e => hr k e hk)
theorem Clk.more {w : World} {S : Nat → Prop} {C N N' : Nat} {l : List Al} (h : Clk w S C N l) (hN : N ≤ N') : Clk w S C N' l := by
  obtain ⟨⟨q, hq, hp⟩, h2, h3⟩ := h
  exact ⟨⟨q, hq.mono (fun _ h => h) hN, hp⟩, h2, h3⟩
theorem perm_wo {q : List It} {l : List Al} (hp : (q.map (·.2)).Perm l) (id : Int) : ((q.map (·.2)).filter (fun p => decide (p.1 ≠ id))).Perm (wo l id) := hp.filter _
/-- What Clear answers. -/
def clr (l : List Al) (id : Int) : Int := if (wo l id).length < l.length then 0 else 50
def NewR (W : World) (e : Ending) (w' : World) : Prop := ∃ C, e = .returned (.pointer (some ⟨C, 0, none⟩)) ∧ (∃ S, Clk w' S C 0 [] ∧ ∀ k, S k → W.heap.size ≤ k) ∧ Below W.heap.size W w'
theorem new_clk (W : World) : Calls Try.prog 7 #[] W (NewR W) := by
  refine (new_any W).mono ?_
  rintro e w' ⟨C, rfl, hC, hb⟩
  exact ⟨C, rfl, ⟨_, ⟨⟨[], hC.there, List.Perm.refl _⟩, Srt.nil, fun k hk => hk.2⟩, fun k hk => hk.1⟩, hb⟩
def SetR (W : World) (S : Nat → Prop) (C N : Nat) (l : List Al) (e : Ending) (w' : World) : Prop := e = .returned (.int .i64 0) ∧ (∃ S', Clk w' S' C (N + 1) l ∧ ∀ k, S' k → S k ∨ W.heap.size ≤ k) ∧ Fr W w' S
theorem set_clk (W : World) (S : Nat → Prop) (C N : Nat) (l : List Al) (hC : Clk W S C N l) (id t : Int) (wid : (Lit.int .i64 id).wf = true) (wt : (Lit.int .i64 t).wf = true) (hN : N < 100000) :
    Calls Try.prog 8 #[.pointer (some ⟨C, 0, none⟩), .int .i64 id, .int .i64 t] W (SetR W S C N (rSet l id t)) := by
  obtain ⟨⟨q, hq, hp⟩, hs, hl⟩ := hC
  have key : ∀ {q' : List It}, SetTo q q' id t → (q'.map (·.2)).Perm (rSet l id t) := fun h => by
    unfold SetTo at h
    exact h.trans ((List.Perm.cons _ (perm_wo hp id)).trans (set_perm' l id t).symm)
  by_cases c : ∃ x ∈ q, x.2.1 = id
  · obtain ⟨x, hx, rfl⟩ := c
    obtain ⟨i, hi, e⟩ := List.getElem_of_mem hx
    rw [← at_get hi] at e
    subst e
    refine (set_old W S C N q hq i hi t wt).mono ?_
    rintro e w' ⟨rfl, q', hq', hs', hf⟩
    exact ⟨rfl, ⟨S, ⟨⟨q', hq'.mono (fun _ h => h) (Nat.le_succ _), key hs'⟩, hs.set _ _, fun k hk => Nat.lt_of_lt_of_le (hl k hk) hf.size⟩, fun k hk => .inl hk⟩, hf⟩
  · refine (set_new W S C N q hq id t wid wt (fun x hx e => c ⟨x, hx, e⟩) hN).mono ?_
    rintro e w' ⟨rfl, q', hq', hs', hf⟩
    exact ⟨rfl, ⟨_, ⟨⟨q', hq'.there, key hs'⟩, hs.set _ _, fun k hk => hk.2⟩, fun k hk => hk.1⟩, hf⟩
def ClearR (W : World) (S : Nat → Prop) (C N : Nat) (l : List Al) (id : Int) (e : Ending) (w' : World) : Prop := e = .returned (.int .i64 (clr l id)) ∧ Clk w' S C N (wo l id) ∧ Fr W w' S
theorem clear_clk (W : World) (S : Nat → Prop) (C N : Nat) (l : List Al) (hC : Clk W S C N l) (id : Int) (wid : (Lit.int .i64 id).wf = true) :
    Calls Try.prog 10 #[.pointer (some ⟨C, 0, none⟩), .int .i64 id] W (ClearR W S C N l id) := by
  have hC' := hC
  obtain ⟨⟨q, hq, hp⟩, hs, hl⟩ := hC
  by_cases c : ∃ x ∈ q, x.2.1 = id
  · obtain ⟨x, hx, rfl⟩ := c
    obtain ⟨i, hi, e⟩ := List.getElem_of_mem hx
    rw [← at_get hi] at e
    subst e
    refine (clear_old W S C N q hq i hi).mono ?_
    rintro e w' ⟨rfl, q', hq', hs', hf⟩
    unfold ClearTo at hs'
    have h0 : clr l (at_ q i).2.1 = 0 := by
      unfold clr
      rw [if_pos (has_len.2 ⟨(at_ q i).2, hp.mem_iff.1 (List.mem_map.2 ⟨_, hx, rfl⟩), rfl⟩)]
    exact ⟨by rw [h0], ⟨⟨q', hq', hs'.trans (perm_wo hp _)⟩, hs.wo _, fun k hk => Nat.lt_of_lt_of_le (hl k hk) hf.size⟩, hf⟩
  · refine (clear_none W S C N q hq id wid (fun x hx e => c ⟨x, hx, e⟩)).mono ?_
    rintro e w' ⟨rfl, rfl⟩
    have hn : ∀ p ∈ l, p.1 ≠ id := fun p hpl e => by
      obtain ⟨x, hx, rfl⟩ := List.mem_map.1 (hp.mem_iff.2 hpl)
      exact c ⟨x, hx, e⟩
    have h0 : clr l id = 50 := by
      unfold clr
      rw [if_neg (fun h => by rw [wo_none hn] at h; omega)]
    exact ⟨by rw [h0], by rw [wo_none hn]; exact hC', Fr.refl _ _⟩
theorem len_clk (W : World) (S : Nat → Prop) (C N : Nat) (l : List Al) (hC : Clk W S C N l) :
    Calls Try.prog 17 #[.pointer (some ⟨C, 0, none⟩)] W (fun e w' => e = .returned (.int .i64 l.length) ∧ w' = W) := by
  obtain ⟨⟨q, hq, hp⟩, hs, hl⟩ := hC
  have := hp.length_eq
  rw [List.length_map] at this
  rw [← this]
  exact clen_any W S C N q hq
/-- The least of a heap's items is the first of the sorted list. -/
theorem head_is {q : List It} {x : Al} {l : List Al} (h : Hp q q.length) (hp : (q.map (·.2)).Perm (x :: l)) (hs : Srt (x :: l)) : 0 < q.length ∧ (at_ q 0).2 = x := by
  have hlen : 0 < q.length := by have := hp.length_eq; simp at this; omega
  refine ⟨hlen, ?_⟩
  have h0 : (at_ q 0).2 ∈ x :: l := hp.mem_iff.1 (List.mem_map.2 ⟨_, at_mem hlen, rfl⟩)
  rcases List.mem_cons.1 h0 with e | hm
  · exact e
  · have hb := (List.pairwise_cons.1 hs.s).1 _ hm
    obtain ⟨y, hy, hyx⟩ := List.mem_map.1 (hp.mem_iff.2 (List.mem_cons_self (a := x) (l := l)))
    obtain ⟨j, hj, e⟩ := List.getElem_of_mem hy
    have h1 := h.least j j (Nat.le_refl _) hj
    rw [at_get hj, e, lt_not, hyx] at h1
    unfold bef at hb
    omega
theorem next_clk0 (W : World) (S : Nat → Prop) (C N : Nat) (hC : Clk W S C N []) : Calls Try.prog 15 #[.pointer (some ⟨C, 0, none⟩)] W fun e w' => e = .returned (.tuple #[.int .i64 0, .int .i64 0, .int .i64 50]) ∧ w' = W := by
  obtain ⟨⟨q, hq, hp⟩, hs, hl⟩ := hC
  have : q = [] := by have := hp.length_eq; cases q with | nil => rfl | cons _ _ => simp at this
  subst this
  exact next_none W S C N hq
theorem next_clk1 (W : World) (S : Nat → Prop) (C N : Nat) (x : Al) (l : List Al) (hC : Clk W S C N (x :: l)) : Calls Try.prog 15 #[.pointer (some ⟨C, 0, none⟩)] W fun e w' => e = .returned (.tuple #[.int .i64 x.1, .int .i64 x.2, .int .i64 0]) ∧ ∃ n, w' = W.drewN n := by
  obtain ⟨⟨q, hq, hp⟩, hs, hl⟩ := hC
  obtain ⟨h1, h2⟩ := head_is hq.hp hp hs
  rw [← h2]
  exact next_some W S C N q hq h1
end Go.Proofs.Ytimpfiaolblgmaa.AlarmQ
