/- The clock's Clear where the id is there. -/
import Derived.Test.YtimpfiaolblgmaaAlarmL
namespace Go.Proofs.Ytimpfiaolblgmaa.AlarmQ
open Go.Shelf Go.Maps Go.RowKit Go.Proofs.YtimpfiaolblgmaaW.PrintWords Go.Proofs.Ytimpfiaolblgmaa.AlarmMath Go.Proofs.Ytimpfiaolblgmaa.Blk
set_option linter.unusedVariables false
set_option linter.unusedSimpArgs false
theorem MapOK.del {D : DataW Unit} {q : List It} (h : MapOK D q) {i : Nat} (hi : i < q.length) (hids : (q.map (·.2.1)).Nodup) : MapOK (D.del (.int .i64 (at_ q i).2.1)) (removeL q i) := by
  have p := removeL_perm hi
  have h4 : ((removeL q i ++ [at_ q i]).map (·.2.1)).Nodup := (p.map _).nodup_iff.2 hids
  rw [List.map_append, List.nodup_append] at h4
  have hne : ∀ x ∈ removeL q i, x.2.1 ≠ (at_ q i).2.1 := fun x hx e => h4.2.2 _ (List.mem_map.2 ⟨x, hx, rfl⟩) _ (by simp) e
  intro id wid
  obtain ⟨o1, o2⟩ := h id wid
  by_cases e : id = (at_ q i).2.1
  · subst e
    refine ⟨⟨fun h => ?_, fun ⟨x, hx, e⟩ => absurd e (hne x hx)⟩, fun x hx e => absurd e (hne x hx)⟩
    rw [has_del_same] at h; cases h
  · have hk : (Lit.int .i64 id) ≠ (Lit.int .i64 (at_ q i).2.1) := fun h => e (by injection h)
    rw [has_del_other hk, atKey_del_other hk]
    refine ⟨o1.trans ⟨fun ⟨x, hx, hxi⟩ => ?_, fun ⟨x, hx, hxi⟩ => ⟨x, p.mem_iff.1 (List.mem_append.2 (.inl hx)), hxi⟩⟩, fun x hx hxi => o2 x (p.mem_iff.1 (List.mem_append.2 (.inl hx))) hxi⟩
    rcases List.mem_append.1 (p.mem_iff.2 hx) with h2 | h2
    · exact ⟨x, h2, hxi⟩
    · rw [List.mem_singleton.1 h2] at hxi; exact absurd hxi.symm e
set_option maxHeartbeats 2000000 in
theorem clear_old (W : World) (S : Nat → Prop) (C N : Nat) (q : List It) (hC : CAt W S C N q) (i : Nat) (hi : i < q.length) :
    Calls Try.prog 10 #[.pointer (some ⟨C, 0, none⟩), .int .i64 (at_ q i).2.1] W fun e w' => e = .returned (.int .i64 0) ∧ ∃ q', CAt w' S C N q' ∧ ClearTo q q' (at_ q i).2.1 ∧ Fr W w' S := by
  obtain ⟨⟨v, m, n, D, hQ, hSm, hM, hn, hOK⟩, hHp, hids, hwf, hle⟩ := hC
  obtain ⟨hT, hTS⟩ := hQ.tight
  obtain ⟨es, cl, hmb⟩ := ownsMap_block hM
  have hnm : ¬ Sq C v q m := hQ.not_map hmb
  obtain ⟨b, hb⟩ : ∃ b, b = (at_ q i).1 := ⟨_, rfl⟩
  obtain ⟨id, hid⟩ : ∃ id, id = (at_ q i).2.1 := ⟨_, rfl⟩
  have wid : (Lit.int .i64 id).wf = true := by rw [hid]; exact (hwf _ (at_mem hi)).1
  obtain ⟨o1, o2⟩ := hOK id wid
  have hhas : has D (.int .i64 id) = true := o1.2 ⟨_, at_mem hi, hid.symm⟩
  have hat := o2 _ (at_mem hi) hid.symm
  rw [← hb] at hat
  have b2 : W.cell? ⟨b, 2, none⟩ = some (.int .i64 i) := by rw [hb]; exact (blk_cell (hQ.its i hi) 2).trans rfl
  have hkey := keyOf_int_mk (P := Try.prog) Try.underlying3 wid
  have c1 := hQ.c1
  have HR := Aside0.mk (hremove_any W.drew _ C m v q i (hT.drewN 1) hi)
  have FIN : Aside0 (∀ (w2 w3 : World) (v' : Value), QAt w2 (Sq C v q) C m v' (removeL q i) → Fr W.drew w2 (Sq C v q) → w3.ownsMap Try.prog 3 ptrR m n (D.del (.int .i64 id)) → w2.mapTurned w3 m →
      ∃ q', CAt w3 S C N q' ∧ ClearTo q q' (at_ q i).2.1 ∧ Fr W w3 S) := ⟨by
    intro w2 w3 v' hQ2 hF2 hm3 ht
    have p := removeL_perm hi
    have F1 : Fr W w2 (Sq C v q) := ⟨hF2.os, hF2.tape, hF2.output, hF2.size, hF2.block⟩
    have F3 : Fr w2 w3 (fun k => k = m) := Fr.ofGrown ht.grown rfl
    have hQ3 := hQ2.move F3 (fun k hk e => hnm (by rw [← e]; exact hk))
    refine ⟨removeL q i, ⟨⟨v', m, n, _, hQ3.mono hTS, hSm, hm3, hn, by rw [hid]; exact hOK.del hi hids⟩, removeL_hp hi hHp, ?_, fun x hx => hwf x (p.mem_iff.1 (List.mem_append.2 (.inl hx))), by rw [removeL_len hi]; omega⟩, clear_perm hi hids, (F1.mono (fun k _ h => hTS k h)).trans F3 (fun k _ e => by rw [e]; exact hSm)⟩
    have h4 : ((removeL q i ++ [at_ q i]).map (·.2.1)).Nodup := (p.map _).nodup_iff.2 hids
    rw [List.map_append, List.nodup_append] at h4
    exact h4.1⟩
  have MV : Aside0 (∀ (w2 : World) (v' : Value), QAt w2 (Sq C v q) C m v' (removeL q i) → Fr W.drew w2 (Sq C v q) → w2.ownsMap Try.prog 3 ptrR m n D ∧ w2.cell? ⟨C, 1, none⟩ = some (.map (some m))) :=
    ⟨fun w2 v' hQ2 hF2 => ⟨ownsMap_move hM (hF2.block m hM.lt hnm), hQ2.c1⟩⟩
  have HM := Aside0.mk hM
  have HAT := Aside0.mk hat
  have HKEY := Aside0.mk hkey
  rw [← hid] at FIN ⊢
  clear hQ hT hTS hM hOK hHp hids hwf hb hid o1 o2 hat hkey hmb hnm
  go_enter Try.func10, Try.ntmps10
  go_wp2_with (first
    | (at_lookup; refine wpList_lookup_own_ok W rfl _ _ 46 rfl 3 51 keyed Try.underlying46 ptrR (zero_item _) .nil [] rfl m n D rfl HM.out (.int .i64 id) (.int .i64 id) rfl HKEY.out ?_; intro v' ps hv; rw [HAT.out] at hv; obtain rfl := ptrR_inv hv; clear hv))
  go_still_tail 8, (by kernel_rfl)
  change wpList _ _ _ _ _ W.drew
  generalize W.drew = w1 at HR FIN MV ⊢
  go_wp2_with fail
  refine HR.out.mono ?_
  rintro e w2 ⟨⟨x, rfl⟩, v', hQ2, hF2⟩
  obtain ⟨hm2, c2⟩ := MV.out w2 v' hQ2 hF2
  have HM2 := Aside0.mk hm2
  have HQ2 := Aside0.mk hQ2
  have HF2 := Aside0.mk hF2
  clear hm2 hQ2 hF2
  go_wp2_with (first
    | (at_delete; refine wpList_delete_own w2 rfl _ _ 46 3 rfl 51 keyed Try.underlying46 ptrR m n D rfl HM2.out (.int .i64 id) (.int .i64 id) rfl HKEY.out ?_; intro w3 hm3 ht3; have HM3 := Aside0.mk hm3; have HT3 := Aside0.mk ht3; clear hm3 ht3))
  go_ret
  exact ⟨rfl, FIN.out _ _ _ HQ2.out HF2.out HM3.out HT3.out⟩
end Go.Proofs.Ytimpfiaolblgmaa.AlarmQ
