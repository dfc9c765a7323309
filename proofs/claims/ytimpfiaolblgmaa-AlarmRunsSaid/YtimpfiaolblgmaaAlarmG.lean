/- The clock's Set at a new id. -/
import Derived.Test.YtimpfiaolblgmaaAlarmE
namespace Go.Proofs.Ytimpfiaolblgmaa.AlarmQ
open Go.Shelf Go.Maps Go.RowKit Go.Proofs.YtimpfiaolblgmaaW.PrintWords Go.Proofs.Ytimpfiaolblgmaa.AlarmMath Go.Proofs.Ytimpfiaolblgmaa.Blk
set_option linter.unusedVariables false
set_option linter.unusedSimpArgs false
theorem upL_new {q : List It} (h : Hp q q.length) (x : It) : Hp (upL (q.length + 1) (q ++ [x]) q.length) (q.length + 1) := by
  refine upL_hp _ _ _ _ (by omega) (by simp) (by omega) ⟨fun j h0 hj h1 h2 => ?_, fun j h0 hj e _ => by omega⟩ (fun j h0 hj e => by omega)
  rw [at_snoc q x j (by omega), at_snoc q x ((j - 1) / 2) (by omega)]
  exact h j h0 (by omega)
theorem MapOK.put {D : DataW Unit} {q : List It} (h : MapOK D q) (hm : IsMap D) (b : Nat) (id t : Int) (wid : (Lit.int .i64 id).wf = true) (hno : ∀ x ∈ q, x.2.1 ≠ id) : MapOK (D.put (.int .i64 id) (.lit (.int .i64 b))) (q ++ [(b, id, t)]) := by
  intro id' w'
  by_cases e : id' = id
  · subst e
    refine ⟨⟨fun _ => ⟨_, List.mem_append.2 (.inr (List.mem_singleton.2 rfl)), rfl⟩, fun _ => has_put_same hm (by trivial) _⟩, fun x hx hxi => ?_⟩
    rw [atKey_put_same hm (by trivial)]
    rcases List.mem_append.1 hx with hx | hx
    · exact absurd hxi (hno x hx)
    · rw [List.mem_singleton.1 hx]
  · have hne : (Lit.int .i64 id') ≠ (Lit.int .i64 id) := fun h => e (by injection h)
    obtain ⟨h1, h2⟩ := h id' w'
    rw [has_put_other hne, atKey_put_other hne]
    refine ⟨h1.trans ⟨fun ⟨x, hx, hxi⟩ => ⟨x, List.mem_append.2 (.inl hx), hxi⟩, fun ⟨x, hx, hxi⟩ => ?_⟩, fun x hx hxi => ?_⟩
    · rcases List.mem_append.1 hx with hx | hx
      · exact ⟨x, hx, hxi⟩
      · rw [List.mem_singleton.1 hx] at hxi; exact absurd hxi.symm e
    · rcases List.mem_append.1 hx with hx | hx
      · exact h2 x hx hxi
      · rw [List.mem_singleton.1 hx] at hxi; exact absurd hxi.symm e
theorem ownsMap_block {w : World} {m n : Nat} {D : DataW Unit} (h : w.ownsMap Try.prog 3 ptrR m n D) : ∃ es cl, w.heap[m]? = some (.map es cl) := by
  obtain ⟨es, cl, h, _⟩ := h
  exact ⟨es, cl, h⟩
set_option maxHeartbeats 2000000 in
theorem set_new (W : World) (S : Nat → Prop) (C N : Nat) (q : List It) (hC : CAt W S C N q) (id t : Int) (wid : (Lit.int .i64 id).wf = true) (wt : (Lit.int .i64 t).wf = true) (hno : ∀ x ∈ q, x.2.1 ≠ id) (hN : N < 100000) :
    Calls Try.prog 8 #[.pointer (some ⟨C, 0, none⟩), .int .i64 id, .int .i64 t] W fun e w' => e = .returned (.int .i64 0) ∧ ∃ q', CAt w' (fun k => S k ∨ W.heap.size ≤ k) C (N + 1) q' ∧ SetTo q q' id t ∧ Fr W w' S := by
  obtain ⟨⟨v, m, n, D, hQ, hSm, hM, hn, hOK⟩, hHp, hids, hwf, hle⟩ := hC
  obtain ⟨hT, hTS⟩ := hQ.tight
  obtain ⟨o1, o2⟩ := hOK id wid
  have hhas : has D (.int .i64 id) = false := by
    cases h : has D (.int .i64 id) with
    | false => rfl
    | true => obtain ⟨x, hx, e⟩ := o1.1 h; exact absurd e (hno x hx)
  have hat := atKey_of_not_has hhas (.nil : DataW Unit)
  have hkey := keyOf_int_mk (P := Try.prog) Try.underlying3 wid
  have c1 := hQ.c1
  obtain ⟨es, cl, hmb⟩ := ownsMap_block hM
  have hnm : ¬ Sq C v q m := hQ.not_map hmb
  have FIX : Aside0 (∀ w1 w2 : World, w1.heap[W.heap.size]? = some (.cells #[.int .i64 id, .int .i64 t, .int .i64 0] 54 (0, 0)) → Below W.heap.size W w1 → w1.grownBy w2 (some m) →
      QAt w2 (fun k => Sq C v q k ∨ k = W.heap.size) C m v q ∧ w2.heap[W.heap.size]? = some (.cells #[.int .i64 id, .int .i64 t, .int .i64 0] 54 (0, 0)) ∧ ∀ i, i < q.length → (at_ q i).1 ≠ W.heap.size) := ⟨by
    intro w1 w2 hb1 hbl hg2
    have h1 : QAt w1 (Sq C v q) C m v q := hT.move (Fr.ofBelow hbl (fun _ => False)) (fun _ _ h => h)
    have h2 : QAt w2 (Sq C v q) C m v q := h1.move (Fr.ofGrown (S := fun k => k = m) hg2 rfl) (fun k hk e => hnm (by rw [← e]; exact hk))
    have hml := hM.lt
    refine ⟨h2.mono (fun k h => .inl h), blk_grown hb1 hg2 (by intro e; injection e with e; omega), fun i hi e => ?_⟩
    have := blk_lt (hQ.its i hi)
    omega⟩
  have FIN : Aside0 (∀ w1 w2 w3 : World, ∀ v' : Value, Below W.heap.size W w1 → w2.ownsMap Try.prog 3 ptrR m (n + 1) (D.put (.int .i64 id) (.lit (.int .i64 (W.heap.size : Int)))) → w1.grownBy w2 (some m) →
      QAt w3 (fun k => (Sq C v q k ∨ k = W.heap.size) ∨ w2.heap.size ≤ k) C m v' (upL (q.length + 1) (q ++ [(W.heap.size, id, t)]) q.length) → Fr w2 w3 (fun k => Sq C v q k ∨ k = W.heap.size) →
      ∃ q', CAt w3 (fun k => S k ∨ W.heap.size ≤ k) C (N + 1) q' ∧ SetTo q q' id t ∧ Fr W w3 S) := ⟨by
    intro w1 w2 w3 v' hbl hm2 hg2 hQ3 hF3
    have hperm := upL_perm (q.length + 1) (q ++ [(W.heap.size, id, t)]) q.length (by simp)
    have hml := hM.lt
    have hs12 : W.heap.size ≤ w2.heap.size := Nat.le_trans hbl.size hg2.size
    have hmm3 : w3.heap[m]? = w2.heap[m]? := hF3.block m (by omega) (fun h => h.elim hnm (fun e => by omega))
    have F : Fr W w3 S := ((Fr.ofBelow hbl S).trans (Fr.ofGrown (S := fun k => k = m) hg2 rfl) (fun k _ e => by rw [e]; exact hSm)).trans hF3 (fun k hk h => h.elim (fun h => hTS k h) (fun e => by omega))
    have hlen : (upL (q.length + 1) (q ++ [(W.heap.size, id, t)]) q.length).length = q.length + 1 := by rw [upL_len]; simp
    refine ⟨_, ⟨⟨v', m, n + 1, _, hQ3.mono (fun k h => ?_), .inl hSm, ownsMap_move hm2 hmm3, by omega, ?_⟩, ?_, ?_, ?_, by rw [hlen]; omega⟩, ?_, F⟩
    · rcases h with (h | h) | h
      · exact .inl (hTS k h)
      · exact .inr (by omega)
      · exact .inr (by omega)
    · refine (hOK.put hM.isMap W.heap.size id t wid hno).perm (fun _ id' k => ?_)
      constructor
      · rintro ⟨t', h⟩; exact ⟨t', hperm.mem_iff.1 h⟩
      · rintro ⟨t', h⟩; exact ⟨t', hperm.mem_iff.2 h⟩
    · rw [hlen]; exact upL_new hHp _
    · refine (hperm.map _).nodup_iff.2 ?_
      rw [List.map_append, List.nodup_append]
      refine ⟨hids, by simp, fun a ha b hb e => ?_⟩
      simp only [List.map_cons, List.map_nil, List.mem_singleton] at hb
      obtain ⟨x, hx, hxa⟩ := List.mem_map.1 ha
      exact hno x hx (by rw [hxa, e, hb])
    · intro x hx
      have := hperm.mem_iff.1 hx
      rcases List.mem_append.1 this with h | h
      · exact hwf x h
      · rw [List.mem_singleton.1 h]; exact ⟨wid, wt⟩
    · unfold SetTo
      refine (hperm.map _).trans ?_
      rw [List.map_append, List.map_cons, List.map_nil]
      refine (List.perm_append_comm).trans ?_
      rw [List.filter_eq_self.2]
      · exact List.Perm.refl _
      · intro p hp
        obtain ⟨x, hx, rfl⟩ := List.mem_map.1 hp
        simpa using hno x hx⟩
  have HM := Aside0.mk hM
  have HQ := Aside0.mk hQ
  have HAT := Aside0.mk hat
  have HKEY := Aside0.mk hkey
  have hroom : n < maxLen := by unfold maxLen; omega
  have hqr : q.length < 100000 := by omega
  clear hQ hT hTS hM hOK hHp hids hwf o1 o2 hat hkey hno hmb hnm
  go_enter Try.func8, Try.ntmps8
  go_wp2_with (first
    | (at_lookup; refine wpList_lookup_own_ok W rfl _ _ 46 rfl 3 51 keyed Try.underlying46 ptrR (zero_item _) .nil [] rfl m n D rfl HM.out (.int .i64 id) (.int .i64 id) rfl HKEY.out ?_; intro v' ps hv; rw [HAT.out] at hv; obtain rfl := ptrR_nil hv; clear hv)
    | ((with_reducible refine gate_dst (N := 38) rfl ?_); refine box_event ?hg (N := 38) ?hd (cs := #[.int .i64 id, .int .i64 t, .int .i64 0]) (t := 54) ?hr ?_; (case hd => rfl); (case hg => rfl); (case hr => first | (go_simp; done) | (go_simp; rfl)); intro gb hgb w1 hbox hbl; subst hgb; have HBOX := Aside0.mk hbox; have HBL := Aside0.mk hbl; have c11 : w1.cell? ⟨C, 1, none⟩ = some (.map (some m)) := (pw_cell_below hbl c1); clear hbox hbl c1)
    | (at_mapUpdate; refine wpList_mapUpdate_own w1 rfl _ _ _ 46 rfl 3 51 keyed Try.underlying46 ptrR m n D rfl (ownsMap_move HM.out (HBL.out.block m HM.out.lt)) hroom (.int .i64 id) (.pointer (some ⟨W.heap.size, 0, none⟩)) (.int .i64 id) rfl rfl HKEY.out (.lit (.int .i64 (W.heap.size : Int))) [] rfl ?_; intro w2 hm2 hg2; have HM2 := Aside0.mk hm2; have HG2 := Aside0.mk hg2; clear hm2 hg2)
    | (go_at_call 20; (have hfx := FIX.out w1 w2 HBOX.out HBL.out HG2.out); refine (hpush_any w2 _ C m v q (W.heap.size, id, t) 0 hfx.1 hfx.2.1 (.inr rfl) hfx.2.2 hqr).mono ?_; rintro e w3 ⟨rfl, v3, hQ3, hF3⟩; have HQ3 := Aside0.mk hQ3; have HF3 := Aside0.mk hF3; clear hQ3 hF3 hfx))
  go_ret
  exact ⟨rfl, FIN.out _ _ _ _ HBL.out HM2.out HG2.out HQ3.out HF3.out⟩
end Go.Proofs.Ytimpfiaolblgmaa.AlarmQ
