/- The clock: its queue, its map, and what New, Len and Next do. -/
import Derived.Test.YtmoahkdadeiahaaAlarmF
import Derived.Maps.OwnSet
namespace Go.Proofs.Ytmoahkdadeiahaa.AlarmQ
open Go.Shelf Go.Maps Go.RowKit Go.Proofs.YtmoahkdadeiahaaW.PrintWords Go.Proofs.Ytmoahkdadeiahaa.AlarmMath Go.Proofs.Ytmoahkdadeiahaa.Blk
set_option linter.unusedVariables false
set_option linter.unusedSimpArgs false
/-- How a pointer to an item reads: as its block's number. -/
def ptrR (v : Value) : Option (DataW Unit × List MemPlace) :=
  match v with
  | .pointer (some ⟨b, 0, none⟩) => some (.lit (.int .i64 b), [])
  | .pointer none => some (.nil, [])
  | _ => none
theorem ptrR_ptr (x : It) : ptrR (ptr x) = some (.lit (.int .i64 x.1), []) := rfl
theorem ptrR_inv {v : Value} {b : Nat} {ps : List MemPlace} (h : ptrR v = some (.lit (.int .i64 b), ps)) : v = .pointer (some ⟨b, 0, none⟩) := by
  unfold ptrR at h
  split at h
  · simp only [Option.some.injEq, Prod.mk.injEq, DataW.lit.injEq, Lit.int.injEq, true_and] at h
    obtain ⟨h, _⟩ := h
    have := Int.ofNat.inj h
    subst this; rfl
  · simp at h
  · cases h
theorem ptrR_nil {v : Value} {ps : List MemPlace} (h : ptrR v = some (.nil, ps)) : v = .pointer none := by
  unfold ptrR at h
  split at h
  · simp at h
  · rfl
  · cases h
theorem keyed : Keyed Try.prog 3 := int_keyed Try.underlying3
theorem zero_item (w : World) : (zeroValue 80).run Try.prog w = .ok (.pointer none) w := by kernel_rfl
/-- The map tells each item's block. -/
def MapOK (D : DataW Unit) (q : List It) : Prop := ∀ id : Int, (Lit.int .i64 id).wf = true → (has D (.int .i64 id) = true ↔ ∃ x ∈ q, x.2.1 = id) ∧ ∀ x ∈ q, x.2.1 = id → D.atKey (.int .i64 id) .nil = .lit (.int .i64 x.1)
/-- The clock at block C holds the items q, in a heap's order; S: its own blocks. -/
structure CAt (w : World) (S : Nat → Prop) (C N : Nat) (q : List It) : Prop where
  ex : ∃ v m n D, QAt w S C m v q ∧ S m ∧ w.ownsMap Try.prog 3 ptrR m n D ∧ n ≤ N ∧ MapOK D q
  hp : Hp q q.length
  ids : (q.map (·.2.1)).Nodup
  wf : ∀ x ∈ q, (Lit.int .i64 x.2.1).wf = true ∧ (Lit.int .i64 x.2.2).wf = true
  le : q.length ≤ N
theorem CAt.mono {w : World} {S S' : Nat → Prop} {C N N' : Nat} {q : List It} (h : CAt w S C N q) (hs : ∀ k, S k → S' k) (hN : N ≤ N') : CAt w S' C N' q := by
  obtain ⟨⟨v, m, n, D, h1, h2, h3, h4, h5⟩, h6, h7, h8, h9⟩ := h
  exact ⟨⟨v, m, n, D, h1.mono hs, hs m h2, h3, Nat.le_trans h4 hN, h5⟩, h6, h7, h8, Nat.le_trans h9 hN⟩
theorem ownsMap_move {w w' : World} {m n : Nat} {D : DataW Unit} (h : w.ownsMap Try.prog 3 ptrR m n D) (hb : w'.heap[m]? = w.heap[m]?) : w'.ownsMap Try.prog 3 ptrR m n D := by
  obtain ⟨es, clock, h1, F, h2, h3⟩ := h
  exact ⟨es, clock, hb.trans h1, F, h2, h3⟩
theorem CAt.move {w w' : World} {S T : Nat → Prop} {C N : Nat} {q : List It} (h : CAt w S C N q) (hf : Fr w w' T) (hd : ∀ k, S k → ¬ T k) : CAt w' S C N q := by
  obtain ⟨⟨v, m, n, D, h1, h2, h3, h4, h5⟩, h6, h7, h8, h9⟩ := h
  exact ⟨⟨v, m, n, D, h1.move hf hd, h2, ownsMap_move h3 (hf.block m h3.lt (hd m h2)), h4, h5⟩, h6, h7, h8, h9⟩
theorem CAt.bd {w : World} {S : Nat → Prop} {C N : Nat} {q : List It} (h : CAt w S C N q) : q.length ≤ 100000 := by
  obtain ⟨⟨v, m, n, D, h1, _⟩, _⟩ := h
  exact h1.bd
set_option maxHeartbeats 1000000 in
theorem new_any (W : World) : Calls Try.prog 42 #[] W fun e w' => ∃ C, e = .returned (.pointer (some ⟨C, 0, none⟩)) ∧ CAt w' (fun k => W.heap.size ≤ k) C 0 [] ∧ Below W.heap.size W w' := by
  have hmm := @run_makeMap Try.prog
  have FIN : Aside0 (CAt ((W.alloc (.map #[] 0)).alloc (.cells #[.slice none 0 0, .map (some W.heap.size)] 79)) (fun k => W.heap.size ≤ k) (W.heap.size + 1) 0 [] ∧ Below W.heap.size W ((W.alloc (.map #[] 0)).alloc (.cells #[.slice none 0 0, .map (some W.heap.size)] 79))) := ⟨by
    refine ⟨⟨⟨.slice none 0 0, W.heap.size, 0, .map [], ⟨?_, ⟨rfl, .inl ⟨rfl, rfl⟩⟩, fun i hi => by simp at hi, List.Pairwise.nil, Nat.le_succ _, fun g hg => by simp [Value.ownBlock] at hg, fun i hi => by simp at hi, by simp⟩, Nat.le_refl _, ?_, by decide, ?_⟩, fun j _ hj => by simp at hj, List.Pairwise.nil, (fun x hx => by cases hx), Nat.le_refl _⟩, below_alloc (below_alloc (Below.refl _ _) _) _⟩
    · have := blk_new (W.alloc (.map #[] 0)) (.cells #[.slice none 0 0, .map (some W.heap.size)] 79)
      simpa using this
    · exact (World.ownsMap_made W Try.prog 3 ptrR).alloc _
    · intro id _
      refine ⟨⟨fun h => ?_, fun ⟨x, hx, _⟩ => by cases hx⟩, fun x hx => by cases hx⟩
      simp [has] at h⟩
  go_enter Try.func42, Try.ntmps42
  go_wp2
  go_ret
  exact ⟨_, rfl, FIN.out⟩
set_option maxHeartbeats 1000000 in
theorem clen_any (W : World) (S : Nat → Prop) (C N : Nat) (q : List It) (hC : CAt W S C N q) : Calls Try.prog 93 #[.pointer (some ⟨C, 0, none⟩)] W fun e w' => e = .returned (.int .i64 q.length) ∧ w' = W := by
  obtain ⟨⟨v, m, n, D, hQ, _⟩, _⟩ := hC
  obtain ⟨A, c, rfl, hc⟩ := hQ.form
  have c0 := hQ.c0
  clear hQ
  go_enter Try.func93, Try.ntmps93
  go_wp2
  go_ret
  exact ⟨rfl, rfl⟩
theorem clen_nil (W : World) : Calls Try.prog 93 #[.pointer none] W fun e w' => e = .returned (.int .i64 0) ∧ w' = W := by
  go_enter Try.func93, Try.ntmps93
  go_wp2
  go_ret
  exact ⟨rfl, rfl⟩
theorem next_nil (W : World) : Calls Try.prog 50 #[.pointer none] W fun e w' => e = .returned (.tuple #[.int .i64 0, .int .i64 0, .int .i64 3]) ∧ w' = W := by
  go_enter Try.func50, Try.ntmps50
  go_wp2
  go_ret3
  exact ⟨rfl, rfl⟩
theorem next_none (W : World) (S : Nat → Prop) (C N : Nat) (hC : CAt W S C N []) : Calls Try.prog 50 #[.pointer (some ⟨C, 0, none⟩)] W fun e w' => e = .returned (.tuple #[.int .i64 0, .int .i64 0, .int .i64 50]) ∧ w' = W := by
  obtain ⟨⟨v, m, n, D, hQ, _⟩, _⟩ := hC
  obtain ⟨A, c, rfl, hc⟩ := hQ.form
  have c0 := hQ.c0
  rw [List.length_nil] at c0
  clear hQ
  go_enter Try.func50, Try.ntmps50
  go_wp2
  go_ret3
  exact ⟨rfl, rfl⟩
set_option maxHeartbeats 2000000 in
theorem next_some (W : World) (S : Nat → Prop) (C N : Nat) (q : List It) (hC : CAt W S C N q) (hp : 0 < q.length) : Calls Try.prog 50 #[.pointer (some ⟨C, 0, none⟩)] W fun e w' => e = .returned (.tuple #[.int .i64 (at_ q 0).2.1, .int .i64 (at_ q 0).2.2, .int .i64 0]) ∧ ∃ n, w' = W.drewN n := by
  obtain ⟨⟨v, m, n, D, hQ, _⟩, _⟩ := hC
  obtain ⟨g, cap, cur, rfl, hS, hh, hc, hm, hs, hcur⟩ := hQ.blk hp
  have b := hQ.bd
  have c0 := hQ.c0
  have ci : W.cell? ⟨g, 0, none⟩ = some (.pointer (some ⟨(at_ q 0).1, 0, none⟩)) := (blk_cell hh 0).trans (hcur 0 hp)
  have i0 : W.cell? ⟨(at_ q 0).1, 0, none⟩ = some (.int .i64 (at_ q 0).2.1) := (blk_cell (hQ.its 0 hp) 0).trans rfl
  have i1 : W.cell? ⟨(at_ q 0).1, 1, none⟩ = some (.int .i64 (at_ q 0).2.2) := (blk_cell (hQ.its 0 hp) 1).trans rfl
  clear hQ hh hcur hs
  generalize q.length = len at *
  generalize (at_ q 0).1 = bi at *
  generalize (at_ q 0).2.1 = x1 at *
  generalize (at_ q 0).2.2 = x2 at *
  have hne : (((len : Nat) : Int) == 0) = false := beq_eq_false_iff_ne.2 (by omega)
  go_enter Try.func50, Try.ntmps50
  go_wp2
  go_quiet (fail)
  go_wp2
  go_ret3
  exact ⟨rfl, _, rfl⟩
end Go.Proofs.Ytmoahkdadeiahaa.AlarmQ
