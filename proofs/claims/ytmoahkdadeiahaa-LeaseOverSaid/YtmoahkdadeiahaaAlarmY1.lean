/- The clock's Set, in three parts (plain; where the id is there; where it is new). -/
import Derived.Test.YtmoahkdadeiahaaAlarmC
import Derived.StillTailTactics
namespace Go.Proofs.Ytmoahkdadeiahaa.AlarmQ
open Go.Shelf Go.Maps Go.RowKit Go.Proofs.YtmoahkdadeiahaaW.PrintWords Go.Proofs.Ytmoahkdadeiahaa.AlarmMath Go.Proofs.Ytmoahkdadeiahaa.Blk
set_option linter.unusedVariables false
set_option linter.unusedSimpArgs false
/-- Just the queue's own blocks. -/
def Sq (C : Nat) (v : Value) (q : List It) (k : Nat) : Prop := k = C ∨ v.ownBlock = some k ∨ ∃ i, i < q.length ∧ (at_ q i).1 = k
theorem QAt.tight {w : World} {S : Nat → Prop} {C m : Nat} {v : Value} {q : List It} (h : QAt w S C m v q) : QAt w (Sq C v q) C m v q ∧ ∀ k, Sq C v q k → S k := by
  refine ⟨⟨h.cC, h.row, h.its, h.nd, .inl rfl, fun g hg => .inr (.inl hg), fun i hi => .inr (.inr ⟨i, hi, rfl⟩), h.bd⟩, fun k hk => ?_⟩
  rcases hk with rfl | hk | ⟨i, hi, rfl⟩
  · exact h.sC
  · exact h.sv k hk
  · exact h.si i hi
theorem QAt.not_map {w : World} {S : Nat → Prop} {C m : Nat} {v : Value} {q : List It} (h : QAt w S C m v q) {b : Nat} {es : Array MapEntry} {cl : Nat} (hb : w.heap[b]? = some (.map es cl)) : ¬ Sq C v q b := by
  intro hk
  rcases hk with rfl | hk | ⟨i, hi, rfl⟩
  · rw [h.cC] at hb; cases hb
  · obtain ⟨cells, hc⟩ := own_typed h.row b hk
    rw [hc] at hb; cases hb
  · rw [h.its i hi] at hb; cases hb
theorem at_set (q : List It) (i : Nat) (y : It) (hi : i < q.length) (j : Nat) : at_ (q.set i y) j = if j = i then y else at_ q j := by
  show (q.set i y).getD j (0, 0, 0) = _
  rw [List.getD_eq_getElem?_getD, List.getElem?_set]
  by_cases h : i = j
  · subst h; rw [if_pos rfl, if_pos hi, if_pos rfl]; rfl
  · rw [if_neg h, if_neg (fun e => h e.symm)]; exact (List.getD_eq_getElem?_getD ..).symm
theorem map_set_same {α : Type} (f : It → α) (q : List It) (i : Nat) (y : It) (hi : i < q.length) (h : f y = f (at_ q i)) : (q.set i y).map f = q.map f := by
  rw [List.map_set]
  apply List.ext_getElem?
  intro j
  rw [List.getElem?_set]
  by_cases e : i = j
  · subst e
    rw [if_pos rfl, if_pos (by simpa using hi), h, at_get hi]; simp [List.getElem?_eq_getElem hi]
  · rw [if_neg e]
/-- One item's time is another one. -/
theorem QAt.timed {w w1 : World} {S : Nat → Prop} {C m : Nat} {v : Value} {q : List It} (h : QAt w S C m v q) {i : Nat} (hi : i < q.length) (t : Int)
    (hb : w1.heap[(at_ q i).1]? = some (.cells (itc ((at_ q i).1, (at_ q i).2.1, t) i) 83 (0, 0))) (hg : w.grownBy w1 (some (at_ q i).1)) : QAt w1 S C m v (q.set i ((at_ q i).1, (at_ q i).2.1, t)) := by
  have hm : (q.set i ((at_ q i).1, (at_ q i).2.1, t)).map (·.1) = q.map (·.1) := map_set_same _ q i _ hi rfl
  have hptr : (q.set i ((at_ q i).1, (at_ q i).2.1, t)).map ptr = q.map ptr := map_set_same _ q i _ hi rfl
  have hl : (q.set i ((at_ q i).1, (at_ q i).2.1, t)).length = q.length := by simp
  refine ⟨blk_grown h.cC hg ?_, ?_, ?_, by rw [hm]; exact h.nd, h.sC, h.sv, ?_, by rw [hl]; exact h.bd⟩
  · intro e; injection e with e
    have h1 := h.its i hi
    rw [← e, h.cC] at h1
    injection h1 with h1
    injection h1 with _ h1
    exact absurd h1 (by decide)
  · rw [hptr, hl]
    exact h.row.kept hg (h.vne (h.its i hi))
  · intro j hj
    rw [hl] at hj
    rw [at_set q i _ hi j]
    by_cases e : j = i
    · subst e; rw [if_pos rfl]; exact hb
    · rw [if_neg e]
      refine blk_grown (h.its j hj) hg ?_
      intro e2; injection e2 with e2
      have h1 := List.pairwise_iff_getElem.1 h.nd
      rw [at_get hj, at_get hi] at e2
      rcases Nat.lt_or_gt_of_ne e with h3 | h3
      · exact h1 j i (by simpa using hj) (by simpa using hi) h3 (by simpa using e2)
      · exact h1 i j (by simpa using hi) (by simpa using hj) h3 (by simpa using e2.symm)
  · intro j hj
    rw [hl] at hj
    rw [at_set q i _ hi j]
    split
    · exact h.si i hi
    · exact h.si j hj
theorem Hp.timed {q : List It} {n : Nat} (h : Hp q n) (hn : n ≤ q.length) {i : Nat} (hi : i < n) (y : It) : HpX (q.set i y) n i := by
  have A := at_set q i y (by omega)
  have hx := h.x i hi
  refine ⟨fun j h0 hj h1 h2 => ?_, fun j h0 hj e h0i => ?_⟩
  · rw [A j, A ((j - 1) / 2), if_neg h1, if_neg h2]
    exact hx.1 j h0 hj h1 h2
  · rw [A j, A ((i - 1) / 2), if_neg (by omega), if_neg (by omega)]
    exact hx.2 j h0 hj e h0i
theorem MapOK.perm {D : DataW Unit} {q q' : List It} (h : MapOK D q) (hp : ∀ b id : Int, ∀ k : Nat, (∃ t, (k, id, t) ∈ q') ↔ ∃ t, (k, id, t) ∈ q) : MapOK D q' := by
  intro id hw
  obtain ⟨h1, h2⟩ := h id hw
  refine ⟨h1.trans ⟨?_, ?_⟩, ?_⟩
  · rintro ⟨⟨k, i, t⟩, hx, rfl⟩
    obtain ⟨t', ht⟩ := (hp 0 i k).2 ⟨t, hx⟩
    exact ⟨_, ht, rfl⟩
  · rintro ⟨⟨k, i, t⟩, hx, rfl⟩
    obtain ⟨t', ht⟩ := (hp 0 i k).1 ⟨t, hx⟩
    exact ⟨_, ht, rfl⟩
  · rintro ⟨k, i, t⟩ hx rfl
    obtain ⟨t', ht⟩ := (hp 0 i k).1 ⟨t, hx⟩
    exact h2 (k, i, t') ht rfl
/-- What Set makes of the items. -/
def SetTo (q q' : List It) (id t : Int) : Prop := (q'.map (·.2)).Perm ((id, t) :: (q.map (·.2)).filter (fun p => decide (p.1 ≠ id)))
theorem set_perm {q : List It} {i : Nat} (hi : i < q.length) (hids : (q.map (·.2.1)).Nodup) (t : Int) : SetTo q (q.set i ((at_ q i).1, (at_ q i).2.1, t)) (at_ q i).2.1 t := by
  unfold SetTo
  have e1 : q.set i ((at_ q i).1, (at_ q i).2.1, t) = q.take i ++ ((at_ q i).1, (at_ q i).2.1, t) :: q.drop (i + 1) := by rw [List.set_eq_take_append_cons_drop, if_pos hi]
  have e2 : q = q.take i ++ at_ q i :: q.drop (i + 1) := by
    rw [at_get hi, ← List.drop_eq_getElem_cons hi, List.take_append_drop]
  have p1 : (q.set i ((at_ q i).1, (at_ q i).2.1, t)).Perm (((at_ q i).1, (at_ q i).2.1, t) :: (q.take i ++ q.drop (i + 1))) := by rw [e1]; exact List.perm_middle
  have p2 : q.Perm (at_ q i :: (q.take i ++ q.drop (i + 1))) := by
    have : (q.take i ++ at_ q i :: q.drop (i + 1)).Perm (at_ q i :: (q.take i ++ q.drop (i + 1))) := List.perm_middle
    rwa [← e2] at this
  generalize q.take i ++ q.drop (i + 1) = r at p1 p2
  refine (p1.map (·.2)).trans (List.Perm.cons _ ?_)
  refine List.Perm.trans ?_ ((p2.map (·.2)).filter (fun p => decide (p.1 ≠ (at_ q i).2.1))).symm
  rw [List.map_cons, List.filter_cons_of_neg (by simp)]
  rw [List.filter_eq_self.2]
  intro p hp
  obtain ⟨x, hx, rfl⟩ := List.mem_map.1 hp
  have h4 : ((at_ q i :: r).map (·.2.1)).Nodup := (p2.map _).nodup_iff.1 hids
  rw [List.map_cons, List.nodup_cons] at h4
  simp only [ne_eq, decide_eq_true_eq]
  intro e
  exact h4.1 (List.mem_map.2 ⟨x, hx, e⟩)
end Go.Proofs.Ytmoahkdadeiahaa.AlarmQ

namespace Go.Proofs.Ytmoahkdadeiahaa.AlarmQ
open Go.Shelf Go.Maps Go.RowKit Go.Proofs.YtmoahkdadeiahaaW.PrintWords Go.Proofs.Ytmoahkdadeiahaa.AlarmMath Go.Proofs.Ytmoahkdadeiahaa.Blk
set_option linter.unusedVariables false
set_option linter.unusedSimpArgs false
theorem at_mem {q : List It} {i : Nat} (hi : i < q.length) : at_ q i ∈ q := by rw [at_get hi]; exact List.getElem_mem hi
theorem mem_set {q : List It} {i : Nat} {y z : It} (hi : i < q.length) (hz : z ∈ q.set i y) : z = y ∨ z ∈ q := by
  rcases List.mem_or_eq_of_mem_set hz with h | h
  · exact .inr h
  · exact .inl h
set_option maxHeartbeats 2000000 in
set_option maxRecDepth 100000 in
theorem set_old (W : World) (S : Nat → Prop) (C N : Nat) (q : List It) (hC : CAt W S C N q) (i : Nat) (hi : i < q.length) (t : Int) (wt : (Lit.int .i64 t).wf = true) :
    Calls Try.prog 43 #[.pointer (some ⟨C, 0, none⟩), .int .i64 (at_ q i).2.1, .int .i64 t] W fun e w' => e = .returned (.int .i64 0) ∧ ∃ q', CAt w' S C N q' ∧ SetTo q q' (at_ q i).2.1 t ∧ Fr W w' S := by
  obtain ⟨⟨v, m, n, D, hQ, hSm, hM, hn, hOK⟩, hHp, hids, hwf, hle⟩ := hC
  obtain ⟨hT, hTS⟩ := hQ.tight
  obtain ⟨b, hb⟩ : ∃ b, b = (at_ q i).1 := ⟨_, rfl⟩
  obtain ⟨id, hid⟩ : ∃ id, id = (at_ q i).2.1 := ⟨_, rfl⟩
  have wid : (Lit.int .i64 id).wf = true := by rw [hid]; exact (hwf _ (at_mem hi)).1
  obtain ⟨o1, o2⟩ := hOK id wid
  have hhas : has D (.int .i64 id) = true := o1.2 ⟨_, at_mem hi, hid.symm⟩
  have hat := o2 _ (at_mem hi) hid.symm
  rw [← hb] at hat
  have hIt := hQ.its i hi
  rw [← hb] at hIt
  have hI2 : (itc (at_ q i) i) = #[.int .i64 id, .int .i64 (at_ q i).2.2, .int .i64 i] := by rw [hid]; rfl
  rw [hI2] at hIt
  have hkey := keyOf_int_mk (P := Try.prog) Try.underlying3 wid
  have c1 := hQ.c1
  have q1def : ∃ q1, q1 = q.set i ((at_ q i).1, (at_ q i).2.1, t) := ⟨_, rfl⟩
  obtain ⟨q1, hq1⟩ := q1def
  have hl1 : q1.length = q.length := by rw [hq1]; simp
  have FIN : Aside0 (∀ w1 w2 : World, w1.heap[b]? = some (.cells #[.int .i64 id, .int .i64 t, .int .i64 i] 83 (0, 0)) → W.grownBy w1 (some b) → QAt w2 (Sq C v q) C m v (fixL q1 i q1.length) → Fr w1.drew w2 (Sq C v q) →
      ∃ q', CAt w2 S C N q' ∧ SetTo q q' (at_ q i).2.1 t ∧ Fr W w2 S) := ⟨by
    intro w1 w2 hb1 hg1 hQ2 hF2
    have hperm := fixL_perm q1 i q1.length (by omega) (Nat.le_refl _)
    have hidm : q1.map (·.2.1) = q.map (·.2.1) := by rw [hq1]; exact map_set_same _ q i _ hi rfl
    have hSb : Sq C v q b := .inr (.inr ⟨i, hi, hb.symm⟩)
    have F1 : Fr W w1 (Sq C v q) := Fr.ofGrown hg1 hSb
    have F2 : Fr w1 w2 (Sq C v q) := ⟨hF2.os, hF2.tape, hF2.output, hF2.size, hF2.block⟩
    have F : Fr W w2 (Sq C v q) := F1.trans F2 (fun _ _ h => h)
    have hmem : ∀ z, z ∈ fixL q1 i q1.length ↔ z ∈ q1 := fun z => hperm.mem_iff
    have hM' := hM
    obtain ⟨es, cl, hmb, _⟩ := hM'
    refine ⟨fixL q1 i q1.length, ⟨⟨v, m, n, D, hQ2.mono hTS, hSm, ownsMap_move hM (F.block m hM.lt (hQ.not_map hmb)), hn, ?_⟩, ?_, ?_, ?_, by rw [fixL_len, hl1]; exact hle⟩, ?_, F.mono (fun k _ h => hTS k h)⟩
    · refine hOK.perm (fun _ id' k => ?_)
      constructor
      · rintro ⟨t', h⟩
        rw [hmem, hq1] at h
        rcases mem_set hi h with h | h
        · simp only [Prod.mk.injEq] at h
          obtain ⟨rfl, rfl, rfl⟩ := h
          exact ⟨_, at_mem hi⟩
        · exact ⟨_, h⟩
      · rintro ⟨t', h⟩
        obtain ⟨j, hj, e⟩ := List.getElem_of_mem h
        have hmj : at_ q1 j ∈ fixL q1 i q1.length := (hmem _).2 (at_mem (by omega))
        rw [hq1, at_set q i _ hi j] at hmj
        rw [← at_get hj] at e
        by_cases c : j = i
        · subst c
          rw [if_pos rfl, e] at hmj
          rw [hq1, e]
          exact ⟨_, hmj⟩
        · rw [if_neg c, e] at hmj
          rw [hq1]
          exact ⟨_, hmj⟩
    · rw [fixL_len]
      exact fixL_hp q1 i q1.length (by omega) (Nat.le_refl _) (by rw [hq1]; simp only [List.length_set]; exact Hp.timed hHp (Nat.le_refl _) hi _)
    · exact (hperm.map _).nodup_iff.2 (by rw [hidm]; exact hids)
    · intro x hx
      rw [hmem, hq1] at hx
      rcases mem_set hi hx with rfl | h
      · exact ⟨(hwf _ (at_mem hi)).1, wt⟩
      · exact hwf _ h
    · exact ((hperm.map _).trans (by rw [hq1]; exact set_perm hi hids t))⟩
  have FIX : Aside0 (∀ w1 : World, w1.heap[b]? = some (.cells #[.int .i64 id, .int .i64 t, .int .i64 i] 83 (0, 0)) → W.grownBy w1 (some b) → QAt w1 (Sq C v q) C m v q1) := ⟨by
    intro w1 hb1 hg1
    rw [hq1]
    refine hT.timed hi t ?_ (by rw [← hb]; exact hg1)
    rw [← hb, ← hid]
    exact hb1⟩
  have HIT := Aside0.mk hIt
  have HM := Aside0.mk hM
  have HL1 := Aside0.mk hl1
  have HI := Aside0.mk hi
  have HAT := Aside0.mk hat
  have HKEY := Aside0.mk hkey
  rw [← hid] at FIN ⊢
  clear hQ hT hTS hM hOK hHp hids hwf hIt hI2 hq1 hl1 hb hid o1 o2 hat hkey hi
  go_enter Try.func43, Try.ntmps43
  go_wp2_with (first
    | (at_lookup; refine wpList_lookup_own_ok W rfl _ _ 75 rfl 3 80 keyed Try.underlying75 ptrR (zero_item _) .nil [] rfl m n D rfl HM.out (.int .i64 id) (.int .i64 id) rfl HKEY.out ?_; intro v' ps hv; rw [HAT.out] at hv; obtain rfl := ptrR_inv hv; clear hv)
    | ((with_reducible refine gate_store (t := 3) (p := 25) rfl ?_); refine store_cell rfl rfl 3 (.tmp 25) (.tmp 23) rfl (#[.int .i64 id, .int .i64 t, .int .i64 i]) rfl rfl rfl rfl HIT.out (by kernel_rfl) (by simp) rfl ?_; intro w1 hb1 hg1; have HB1 := Aside0.mk hb1; have HG1 := Aside0.mk hg1; have c2 : w1.cell? ⟨b, 2, none⟩ = some (.int .i64 i) := (blk_cell hb1 2).trans rfl; clear hb1 hg1)
    | fail)
  go_still_tail 8, (by kernel_rfl)
  change wpList _ _ _ _ _ w1.drew
  have HF := Aside0.mk (fix_any w1.drew _ C m _ q1 i (QAt.drewN (FIX.out w1 HB1.out HG1.out) 1) (by rw [HL1.out]; exact HI.out))
  have HFIN := Aside0.mk (fun w2 => FIN.out w1 w2 HB1.out HG1.out)
  clear FIN FIX HIT HM HB1 HG1
  generalize w1.drew = w2 at HF HFIN ⊢
  go_wp2_with fail
  refine HF.out.mono ?_
  rintro e w3 ⟨rfl, hQ3, hF3⟩
  have HQ3 := Aside0.mk hQ3
  have HF3 := Aside0.mk hF3
  clear hQ3 hF3
  go_wp2_with fail
  go_ret
  exact ⟨rfl, HFIN.out _ HQ3.out HF3.out⟩
end Go.Proofs.Ytmoahkdadeiahaa.AlarmQ

namespace Go.Proofs.Ytmoahkdadeiahaa.AlarmQ
open Go.Shelf Go.Maps Go.RowKit Go.Proofs.YtmoahkdadeiahaaW.PrintWords Go.Proofs.Ytmoahkdadeiahaa.AlarmMath Go.Proofs.Ytmoahkdadeiahaa.Blk
set_option linter.unusedVariables false
set_option linter.unusedSimpArgs false
theorem upL_new {q : List It} (h : Hp q q.length) (x : It) : Hp (upL (q.length + 1) (q ++ [x]) q.length) (q.length + 1) := by
  refine upL_hp _ _ _ _ (by omega) (by simp) (by omega) ⟨fun j h0 hj h1 h2 => ?_, fun j h0 hj e _ => by omega⟩ (fun j h0 hj e => by omega)
  rw [at_snoc q x j (by omega), at_snoc q x ((j - 1) / 2) (by omega)]
  exact h j h0 (by omega)
theorem MapOK.put {D : DataW Unit} {q : List It} (h : MapOK D q) (hm : IsMap D) (b : Nat) (id t : Int) (wid : (Lit.int .i64 id).wf = true) (hno : ∀ x ∈ q, x.2.1 ≠ id) : MapOK (D.put (.int .i64 id) (.lit (.int .i64 b))) (q ++ [(b, id, t)]) := by
  intro id' w'
  by_cases e : id' = id
  · subst e
    refine ⟨⟨fun _ => ⟨_, List.mem_append.2 (.inr (List.mem_singleton.2 rfl)), rfl⟩, fun _ => has_put_same hm (by trivial) _⟩, fun x hx hxi => ?_⟩
    rw [atKey_put_same hm (by trivial)]
    rcases List.mem_append.1 hx with hx | hx
    · exact absurd hxi (hno x hx)
    · rw [List.mem_singleton.1 hx]
  · have hne : (Lit.int .i64 id') ≠ (Lit.int .i64 id) := fun h => e (by injection h)
    obtain ⟨h1, h2⟩ := h id' w'
    rw [has_put_other hne, atKey_put_other hne]
    refine ⟨h1.trans ⟨fun ⟨x, hx, hxi⟩ => ⟨x, List.mem_append.2 (.inl hx), hxi⟩, fun ⟨x, hx, hxi⟩ => ?_⟩, fun x hx hxi => ?_⟩
    · rcases List.mem_append.1 hx with hx | hx
      · exact ⟨x, hx, hxi⟩
      · rw [List.mem_singleton.1 hx] at hxi; exact absurd hxi.symm e
    · rcases List.mem_append.1 hx with hx | hx
      · exact h2 x hx hxi
      · rw [List.mem_singleton.1 hx] at hxi; exact absurd hxi.symm e
theorem ownsMap_block {w : World} {m n : Nat} {D : DataW Unit} (h : w.ownsMap Try.prog 3 ptrR m n D) : ∃ es cl, w.heap[m]? = some (.map es cl) := by
  obtain ⟨es, cl, h, _⟩ := h
  exact ⟨es, cl, h⟩
set_option maxHeartbeats 2000000 in
set_option maxRecDepth 100000 in
theorem set_new (W : World) (S : Nat → Prop) (C N : Nat) (q : List It) (hC : CAt W S C N q) (id t : Int) (wid : (Lit.int .i64 id).wf = true) (wt : (Lit.int .i64 t).wf = true) (hno : ∀ x ∈ q, x.2.1 ≠ id) (hN : N < 100000) :
    Calls Try.prog 43 #[.pointer (some ⟨C, 0, none⟩), .int .i64 id, .int .i64 t] W fun e w' => e = .returned (.int .i64 0) ∧ ∃ q', CAt w' (fun k => S k ∨ W.heap.size ≤ k) C (N + 1) q' ∧ SetTo q q' id t ∧ Fr W w' S := by
  obtain ⟨⟨v, m, n, D, hQ, hSm, hM, hn, hOK⟩, hHp, hids, hwf, hle⟩ := hC
  obtain ⟨hT, hTS⟩ := hQ.tight
  obtain ⟨o1, o2⟩ := hOK id wid
  have hhas : has D (.int .i64 id) = false := by
    cases h : has D (.int .i64 id) with
    | false => rfl
    | true => obtain ⟨x, hx, e⟩ := o1.1 h; exact absurd e (hno x hx)
  have hat := atKey_of_not_has hhas (.nil : DataW Unit)
  have hkey := keyOf_int_mk (P := Try.prog) Try.underlying3 wid
  have c1 := hQ.c1
  obtain ⟨es, cl, hmb⟩ := ownsMap_block hM
  have hnm : ¬ Sq C v q m := hQ.not_map hmb
  have FIX : Aside0 (∀ w1 w2 : World, w1.heap[W.heap.size]? = some (.cells #[.int .i64 id, .int .i64 t, .int .i64 0] 83 (0, 0)) → Below W.heap.size W w1 → w1.grownBy w2 (some m) →
      QAt w2 (fun k => Sq C v q k ∨ k = W.heap.size) C m v q ∧ w2.heap[W.heap.size]? = some (.cells #[.int .i64 id, .int .i64 t, .int .i64 0] 83 (0, 0)) ∧ ∀ i, i < q.length → (at_ q i).1 ≠ W.heap.size) := ⟨by
    intro w1 w2 hb1 hbl hg2
    have h1 : QAt w1 (Sq C v q) C m v q := hT.move (Fr.ofBelow hbl (fun _ => False)) (fun _ _ h => h)
    have h2 : QAt w2 (Sq C v q) C m v q := h1.move (Fr.ofGrown (S := fun k => k = m) hg2 rfl) (fun k hk e => hnm (by rw [← e]; exact hk))
    have hml := hM.lt
    refine ⟨h2.mono (fun k h => .inl h), blk_grown hb1 hg2 (by intro e; injection e with e; omega), fun i hi e => ?_⟩
    have := blk_lt (hQ.its i hi)
    omega⟩
  have FIN : Aside0 (∀ w1 w2 w3 : World, ∀ v' : Value, Below W.heap.size W w1 → w2.ownsMap Try.prog 3 ptrR m (n + 1) (D.put (.int .i64 id) (.lit (.int .i64 (W.heap.size : Int)))) → w1.grownBy w2 (some m) →
      QAt w3 (fun k => (Sq C v q k ∨ k = W.heap.size) ∨ w2.heap.size ≤ k) C m v' (upL (q.length + 1) (q ++ [(W.heap.size, id, t)]) q.length) → Fr w2 w3 (fun k => Sq C v q k ∨ k = W.heap.size) →
      ∃ q', CAt w3 (fun k => S k ∨ W.heap.size ≤ k) C (N + 1) q' ∧ SetTo q q' id t ∧ Fr W w3 S) := ⟨by
    intro w1 w2 w3 v' hbl hm2 hg2 hQ3 hF3
    have hperm := upL_perm (q.length + 1) (q ++ [(W.heap.size, id, t)]) q.length (by simp)
    have hml := hM.lt
    have hs12 : W.heap.size ≤ w2.heap.size := Nat.le_trans hbl.size hg2.size
    have hmm3 : w3.heap[m]? = w2.heap[m]? := hF3.block m (by omega) (fun h => h.elim hnm (fun e => by omega))
    have F : Fr W w3 S := ((Fr.ofBelow hbl S).trans (Fr.ofGrown (S := fun k => k = m) hg2 rfl) (fun k _ e => by rw [e]; exact hSm)).trans hF3 (fun k hk h => h.elim (fun h => hTS k h) (fun e => by omega))
    have hlen : (upL (q.length + 1) (q ++ [(W.heap.size, id, t)]) q.length).length = q.length + 1 := by rw [upL_len]; simp
    refine ⟨_, ⟨⟨v', m, n + 1, _, hQ3.mono (fun k h => ?_), .inl hSm, ownsMap_move hm2 hmm3, by omega, ?_⟩, ?_, ?_, ?_, by rw [hlen]; omega⟩, ?_, F⟩
    · rcases h with (h | h) | h
      · exact .inl (hTS k h)
      · exact .inr (by omega)
      · exact .inr (by omega)
    · refine (hOK.put hM.isMap W.heap.size id t wid hno).perm (fun _ id' k => ?_)
      constructor
      · rintro ⟨t', h⟩; exact ⟨t', hperm.mem_iff.1 h⟩
      · rintro ⟨t', h⟩; exact ⟨t', hperm.mem_iff.2 h⟩
    · rw [hlen]; exact upL_new hHp _
    · refine (hperm.map _).nodup_iff.2 ?_
      rw [List.map_append, List.nodup_append]
      refine ⟨hids, by simp, fun a ha b hb e => ?_⟩
      simp only [List.map_cons, List.map_nil, List.mem_singleton] at hb
      obtain ⟨x, hx, hxa⟩ := List.mem_map.1 ha
      exact hno x hx (by rw [hxa, e, hb])
    · intro x hx
      have := hperm.mem_iff.1 hx
      rcases List.mem_append.1 this with h | h
      · exact hwf x h
      · rw [List.mem_singleton.1 h]; exact ⟨wid, wt⟩
    · unfold SetTo
      refine (hperm.map _).trans ?_
      rw [List.map_append, List.map_cons, List.map_nil]
      refine (List.perm_append_comm).trans ?_
      rw [List.filter_eq_self.2]
      · exact List.Perm.refl _
      · intro p hp
        obtain ⟨x, hx, rfl⟩ := List.mem_map.1 hp
        simpa using hno x hx⟩
  have HM := Aside0.mk hM
  have HQ := Aside0.mk hQ
  have HAT := Aside0.mk hat
  have HKEY := Aside0.mk hkey
  have hroom : n < maxLen := by unfold maxLen; omega
  have hqr : q.length < 100000 := by omega
  clear hQ hT hTS hM hOK hHp hids hwf o1 o2 hat hkey hno hmb hnm
  go_enter Try.func43, Try.ntmps43
  go_wp2_with (first
    | (at_lookup; refine wpList_lookup_own_ok W rfl _ _ 75 rfl 3 80 keyed Try.underlying75 ptrR (zero_item _) .nil [] rfl m n D rfl HM.out (.int .i64 id) (.int .i64 id) rfl HKEY.out ?_; intro v' ps hv; rw [HAT.out] at hv; obtain rfl := ptrR_nil hv; clear hv)
    | ((with_reducible refine gate_dst (N := 38) rfl ?_); refine box_event ?hg (N := 38) ?hd (cs := #[.int .i64 id, .int .i64 t, .int .i64 0]) (t := 83) ?hr ?_; (case hd => rfl); (case hg => rfl); (case hr => first | (go_simp; done) | (go_simp; rfl)); intro gb hgb w1 hbox hbl; subst hgb; have HBOX := Aside0.mk hbox; have HBL := Aside0.mk hbl; have c11 : w1.cell? ⟨C, 1, none⟩ = some (.map (some m)) := (pw_cell_below hbl c1); clear hbox hbl c1)
    | (at_mapUpdate; refine wpList_mapUpdate_own w1 rfl _ _ _ 75 rfl 3 80 keyed Try.underlying75 ptrR m n D rfl (ownsMap_move HM.out (HBL.out.block m HM.out.lt)) hroom (.int .i64 id) (.pointer (some ⟨W.heap.size, 0, none⟩)) (.int .i64 id) rfl rfl HKEY.out (.lit (.int .i64 (W.heap.size : Int))) [] rfl ?_; intro w2 hm2 hg2; have HM2 := Aside0.mk hm2; have HG2 := Aside0.mk hg2; clear hm2 hg2)
    | (go_at_call 49; (have hfx := FIX.out w1 w2 HBOX.out HBL.out HG2.out); refine (hpush_any w2 _ C m v q (W.heap.size, id, t) 0 hfx.1 hfx.2.1 (.inr rfl) hfx.2.2 hqr).mono ?_; rintro e w3 ⟨rfl, v3, hQ3, hF3⟩; have HQ3 := Aside0.mk hQ3; have HF3 := Aside0.mk hF3; clear hQ3 hF3 hfx))
  go_ret
  exact ⟨rfl, FIN.out _ _ _ _ HBL.out HM2.out HG2.out HQ3.out HF3.out⟩
end Go.Proofs.Ytmoahkdadeiahaa.AlarmQ
