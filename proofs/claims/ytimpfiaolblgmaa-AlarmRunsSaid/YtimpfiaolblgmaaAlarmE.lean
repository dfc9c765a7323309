/- The clock's Set. -/
import Derived.Test.YtimpfiaolblgmaaAlarmD
namespace Go.Proofs.Ytimpfiaolblgmaa.AlarmQ
open Go.Shelf Go.Maps Go.RowKit Go.Proofs.YtimpfiaolblgmaaW.PrintWords Go.Proofs.Ytimpfiaolblgmaa.AlarmMath Go.Proofs.Ytimpfiaolblgmaa.Blk
set_option linter.unusedVariables false
set_option linter.unusedSimpArgs false
theorem at_mem {q : List It} {i : Nat} (hi : i < q.length) : at_ q i ∈ q := by rw [at_get hi]; exact List.getElem_mem hi
theorem mem_set {q : List It} {i : Nat} {y z : It} (hi : i < q.length) (hz : z ∈ q.set i y) : z = y ∨ z ∈ q := by
  rcases List.mem_or_eq_of_mem_set hz with h | h
  · exact .inr h
  · exact .inl h
set_option maxHeartbeats 2000000 in
theorem set_old (W : World) (S : Nat → Prop) (C N : Nat) (q : List It) (hC : CAt W S C N q) (i : Nat) (hi : i < q.length) (t : Int) (wt : (Lit.int .i64 t).wf = true) :
    Calls Try.prog 8 #[.pointer (some ⟨C, 0, none⟩), .int .i64 (at_ q i).2.1, .int .i64 t] W fun e w' => e = .returned (.int .i64 0) ∧ ∃ q', CAt w' S C N q' ∧ SetTo q q' (at_ q i).2.1 t ∧ Fr W w' S := by
  obtain ⟨⟨v, m, n, D, hQ, hSm, hM, hn, hOK⟩, hHp, hids, hwf, hle⟩ := hC
  obtain ⟨hT, hTS⟩ := hQ.tight
  obtain ⟨b, hb⟩ : ∃ b, b = (at_ q i).1 := ⟨_, rfl⟩
  obtain ⟨id, hid⟩ : ∃ id, id = (at_ q i).2.1 := ⟨_, rfl⟩
  have wid : (Lit.int .i64 id).wf = true := by rw [hid]; exact (hwf _ (at_mem hi)).1
  obtain ⟨o1, o2⟩ := hOK id wid
  have hhas : has D (.int .i64 id) = true := o1.2 ⟨_, at_mem hi, hid.symm⟩
  have hat := o2 _ (at_mem hi) hid.symm
  rw [← hb] at hat
  have hIt := hQ.its i hi
  rw [← hb] at hIt
  have hI2 : (itc (at_ q i) i) = #[.int .i64 id, .int .i64 (at_ q i).2.2, .int .i64 i] := by rw [hid]; rfl
  rw [hI2] at hIt
  have hkey := keyOf_int_mk (P := Try.prog) Try.underlying3 wid
  have c1 := hQ.c1
  have q1def : ∃ q1, q1 = q.set i ((at_ q i).1, (at_ q i).2.1, t) := ⟨_, rfl⟩
  obtain ⟨q1, hq1⟩ := q1def
  have hl1 : q1.length = q.length := by rw [hq1]; simp
  have FIN : Aside0 (∀ w1 w2 : World, w1.heap[b]? = some (.cells #[.int .i64 id, .int .i64 t, .int .i64 i] 54 (0, 0)) → W.grownBy w1 (some b) → QAt w2 (Sq C v q) C m v (fixL q1 i q1.length) → Fr w1.drew w2 (Sq C v q) →
      ∃ q', CAt w2 S C N q' ∧ SetTo q q' (at_ q i).2.1 t ∧ Fr W w2 S) := ⟨by
    intro w1 w2 hb1 hg1 hQ2 hF2
    have hperm := fixL_perm q1 i q1.length (by omega) (Nat.le_refl _)
    have hidm : q1.map (·.2.1) = q.map (·.2.1) := by rw [hq1]; exact map_set_same _ q i _ hi rfl
    have hSb : Sq C v q b := .inr (.inr ⟨i, hi, hb.symm⟩)
    have F1 : Fr W w1 (Sq C v q) := Fr.ofGrown hg1 hSb
    have F2 : Fr w1 w2 (Sq C v q) := ⟨hF2.os, hF2.tape, hF2.output, hF2.size, hF2.block⟩
    have F : Fr W w2 (Sq C v q) := F1.trans F2 (fun _ _ h => h)
    have hmem : ∀ z, z ∈ fixL q1 i q1.length ↔ z ∈ q1 := fun z => hperm.mem_iff
    have hM' := hM
    obtain ⟨es, cl, hmb, _⟩ := hM'
    refine ⟨fixL q1 i q1.length, ⟨⟨v, m, n, D, hQ2.mono hTS, hSm, ownsMap_move hM (F.block m hM.lt (hQ.not_map hmb)), hn, ?_⟩, ?_, ?_, ?_, by rw [fixL_len, hl1]; exact hle⟩, ?_, F.mono (fun k _ h => hTS k h)⟩
    · refine hOK.perm (fun _ id' k => ?_)
      constructor
      · rintro ⟨t', h⟩
        rw [hmem, hq1] at h
        rcases mem_set hi h with h | h
        · simp only [Prod.mk.injEq] at h
          obtain ⟨rfl, rfl, rfl⟩ := h
          exact ⟨_, at_mem hi⟩
        · exact ⟨_, h⟩
      · rintro ⟨t', h⟩
        obtain ⟨j, hj, e⟩ := List.getElem_of_mem h
        have hmj : at_ q1 j ∈ fixL q1 i q1.length := (hmem _).2 (at_mem (by omega))
        rw [hq1, at_set q i _ hi j] at hmj
        rw [← at_get hj] at e
        by_cases c : j = i
        · subst c
          rw [if_pos rfl, e] at hmj
          rw [hq1, e]
          exact ⟨_, hmj⟩
        · rw [if_neg c, e] at hmj
          rw [hq1]
          exact ⟨_, hmj⟩
    · rw [fixL_len]
      exact fixL_hp q1 i q1.length (by omega) (Nat.le_refl _) (by rw [hq1]; simp only [List.length_set]; exact Hp.timed hHp (Nat.le_refl _) hi _)
    · exact (hperm.map _).nodup_iff.2 (by rw [hidm]; exact hids)
    · intro x hx
      rw [hmem, hq1] at hx
      rcases mem_set hi hx with rfl | h
      · exact ⟨(hwf _ (at_mem hi)).1, wt⟩
      · exact hwf _ h
    · exact ((hperm.map _).trans (by rw [hq1]; exact set_perm hi hids t))⟩
  have FIX : Aside0 (∀ w1 : World, w1.heap[b]? = some (.cells #[.int .i64 id, .int .i64 t, .int .i64 i] 54 (0, 0)) → W.grownBy w1 (some b) → QAt w1 (Sq C v q) C m v q1) := ⟨by
    intro w1 hb1 hg1
    rw [hq1]
    refine hT.timed hi t ?_ (by rw [← hb]; exact hg1)
    rw [← hb, ← hid]
    exact hb1⟩
  have HIT := Aside0.mk hIt
  have HM := Aside0.mk hM
  have HL1 := Aside0.mk hl1
  have HI := Aside0.mk hi
  have HAT := Aside0.mk hat
  have HKEY := Aside0.mk hkey
  rw [← hid] at FIN ⊢
  clear hQ hT hTS hM hOK hHp hids hwf hIt hI2 hq1 hl1 hb hid o1 o2 hat hkey hi
  go_enter Try.func8, Try.ntmps8
  go_wp2_with (first
    | (at_lookup; refine wpList_lookup_own_ok W rfl _ _ 46 rfl 3 51 keyed Try.underlying46 ptrR (zero_item _) .nil [] rfl m n D rfl HM.out (.int .i64 id) (.int .i64 id) rfl HKEY.out ?_; intro v' ps hv; rw [HAT.out] at hv; obtain rfl := ptrR_inv hv; clear hv)
    | ((with_reducible refine gate_store (t := 3) (p := 25) rfl ?_); refine store_cell rfl rfl 3 (.tmp 25) (.tmp 23) rfl (#[.int .i64 id, .int .i64 t, .int .i64 i]) rfl rfl rfl rfl HIT.out (by kernel_rfl) (by simp) rfl ?_; intro w1 hb1 hg1; have HB1 := Aside0.mk hb1; have HG1 := Aside0.mk hg1; have c2 : w1.cell? ⟨b, 2, none⟩ = some (.int .i64 i) := (blk_cell hb1 2).trans rfl; clear hb1 hg1)
    | fail)
  go_still_tail 8, (by kernel_rfl)
  change wpList _ _ _ _ _ w1.drew
  have HF := Aside0.mk (fix_any w1.drew _ C m _ q1 i (QAt.drewN (FIX.out w1 HB1.out HG1.out) 1) (by rw [HL1.out]; exact HI.out))
  have HFIN := Aside0.mk (fun w2 => FIN.out w1 w2 HB1.out HG1.out)
  clear FIN FIX HIT HM HB1 HG1
  generalize w1.drew = w2 at HF HFIN ⊢
  go_wp2_with fail
  refine HF.out.mono ?_
  rintro e w3 ⟨rfl, hQ3, hF3⟩
  have HQ3 := Aside0.mk hQ3
  have HF3 := Aside0.mk hF3
  clear hQ3 hF3
  go_wp2_with fail
  go_ret
  exact ⟨rfl, HFIN.out _ HQ3.out HF3.out⟩
end Go.Proofs.Ytimpfiaolblgmaa.AlarmQ
