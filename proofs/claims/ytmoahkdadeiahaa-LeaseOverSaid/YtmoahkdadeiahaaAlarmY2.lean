/- The clock's Clear and Due; one contract for each over a sorted list. -/
import Derived.Test.YtmoahkdadeiahaaAlarmY1
namespace Go.Proofs.Ytmoahkdadeiahaa.AlarmQ
open Go.Shelf Go.Maps Go.RowKit Go.Proofs.YtmoahkdadeiahaaW.PrintWords Go.Proofs.Ytmoahkdadeiahaa.AlarmMath Go.Proofs.Ytmoahkdadeiahaa.Blk
set_option linter.unusedVariables false
set_option linter.unusedSimpArgs false
theorem set_nil (W : World) (id t : Int) : Calls Try.prog 43 #[.pointer none, .int .i64 id, .int .i64 t] W fun e w' => e = .returned (.int .i64 3) ∧ w' = W := by
  go_enter Try.func43, Try.ntmps43
  go_wp2
  go_ret
  exact ⟨rfl, rfl⟩
theorem clear_nil (W : World) (id : Int) : Calls Try.prog 51 #[.pointer none, .int .i64 id] W fun e w' => e = .returned (.int .i64 3) ∧ w' = W := by
  go_enter Try.func51, Try.ntmps51
  go_wp2
  go_ret
  exact ⟨rfl, rfl⟩
set_option maxHeartbeats 1000000 in
set_option maxRecDepth 100000 in
theorem clear_none (W : World) (S : Nat → Prop) (C N : Nat) (q : List It) (hC : CAt W S C N q) (id : Int) (wid : (Lit.int .i64 id).wf = true) (hno : ∀ x ∈ q, x.2.1 ≠ id) :
    Calls Try.prog 51 #[.pointer (some ⟨C, 0, none⟩), .int .i64 id] W fun e w' => e = .returned (.int .i64 50) ∧ w' = W := by
  obtain ⟨⟨v, m, n, D, hQ, hSm, hM, hn, hOK⟩, hHp, hids, hwf, hle⟩ := hC
  obtain ⟨o1, o2⟩ := hOK id wid
  have hhas : has D (.int .i64 id) = false := by
    cases h : has D (.int .i64 id) with
    | false => rfl
    | true => obtain ⟨x, hx, e⟩ := o1.1 h; exact absurd e (hno x hx)
  have hkey := keyOf_int_mk (P := Try.prog) Try.underlying3 wid
  have c1 := hQ.c1
  have HM := Aside0.mk hM
  have HKEY := Aside0.mk hkey
  clear hQ hM hOK hHp hids hwf o1 o2 hkey hno
  go_enter Try.func51, Try.ntmps51
  go_wp2_with (first
    | (at_lookup; refine wpList_lookup_own_ok W rfl _ _ 75 rfl 3 80 keyed Try.underlying75 ptrR (zero_item _) .nil [] rfl m n D rfl HM.out (.int .i64 id) (.int .i64 id) rfl HKEY.out ?_; intro v' ps hv; clear hv))
  go_ret
  exact ⟨rfl, rfl⟩
end Go.Proofs.Ytmoahkdadeiahaa.AlarmQ

namespace Go.Proofs.Ytmoahkdadeiahaa.AlarmQ
open Go.Shelf Go.Maps Go.RowKit Go.Proofs.YtmoahkdadeiahaaW.PrintWords Go.Proofs.Ytmoahkdadeiahaa.AlarmMath Go.Proofs.Ytmoahkdadeiahaa.Blk
set_option linter.unusedVariables false
theorem take_snoc {q : List It} {n : Nat} (h : q.length = n + 1) : q = q.take n ++ [at_ q n] := by
  have h1 : n < q.length := by omega
  have : q.take (n + 1) = q := List.take_of_length_le (by omega)
  rw [List.take_succ_eq_append_getElem h1] at this
  rw [at_get h1]
  exact this.symm
theorem removeL_perm {q : List It} {i : Nat} (hi : i < q.length) : (removeL q i ++ [at_ q i]).Perm q := by
  obtain ⟨n, hn⟩ : ∃ n, q.length = n + 1 := ⟨q.length - 1, by omega⟩
  unfold removeL
  rw [hn, Nat.add_sub_cancel]
  split
  · rename_i e
    subst e
    rw [← take_snoc hn]
  · rename_i e
    have hb := fixL_behind (sw q i n) i n (by omega) (by rw [sw_len]; omega) n (Nat.le_refl _)
    rw [sw_at q i n hi (by omega), if_pos rfl] at hb
    have hl : (fixL (sw q i n) i n).length = n + 1 := by rw [fixL_len, sw_len, hn]
    rw [← hb, ← take_snoc hl]
    exact (fixL_perm _ _ _ (by omega) (by rw [sw_len]; omega)).trans (sw_perm q i n hi (by omega))
theorem removeL_len {q : List It} {i : Nat} (hi : i < q.length) : (removeL q i).length = q.length - 1 := by
  have := (removeL_perm hi).length_eq
  simp at this; omega
theorem removeL_hp {q : List It} {i : Nat} (hi : i < q.length) (h : Hp q q.length) : Hp (removeL q i) (removeL q i).length := by
  rw [removeL_len hi]
  obtain ⟨n, hn⟩ : ∃ n, q.length = n + 1 := ⟨q.length - 1, by omega⟩
  have tk : ∀ (l : List It), l.length = n + 1 → ∀ j, j < n → at_ (l.take n) j = at_ l j := fun l hl j hj => by rw [at_get (by simp; omega), at_get (by omega), List.getElem_take]
  unfold removeL
  rw [hn, Nat.add_sub_cancel]
  rw [hn] at h
  split
  · intro j h0 hj
    rw [tk q hn j hj, tk q hn _ (by omega)]
    exact h j h0 (by omega)
  · rename_i e
    have S := sw_at q i n hi (by omega)
    have hx : HpX (sw q i n) n i := by
      have hx := h.x i (by omega)
      refine ⟨fun j h0 hj h1 h2 => ?_, fun j h0 hj e2 h0i => ?_⟩
      · rw [S j, S ((j - 1) / 2), if_neg (by omega), if_neg h1, if_neg (by omega), if_neg h2]
        exact hx.1 j h0 (by omega) h1 h2
      · rw [S j, S ((i - 1) / 2), if_neg (by omega), if_neg (by omega), if_neg (by omega), if_neg (by omega)]
        exact hx.2 j h0 (by omega) e2 h0i
    have hf := fixL_hp (sw q i n) i n (by omega) (by rw [sw_len]; omega) hx
    have hl : (fixL (sw q i n) i n).length = n + 1 := by rw [fixL_len, sw_len, hn]
    intro j h0 hj
    rw [tk _ hl j hj, tk _ hl _ (by omega)]
    exact hf j h0 hj
/-- What Clear makes of the items. -/
def ClearTo (q q' : List It) (id : Int) : Prop := (q'.map (·.2)).Perm ((q.map (·.2)).filter (fun p => decide (p.1 ≠ id)))
theorem clear_perm {q : List It} {i : Nat} (hi : i < q.length) (hids : (q.map (·.2.1)).Nodup) : ClearTo q (removeL q i) (at_ q i).2.1 := by
  unfold ClearTo
  have p := removeL_perm hi
  refine List.Perm.trans ?_ ((p.map (·.2)).filter (fun p => decide (p.1 ≠ (at_ q i).2.1)))
  have h4 : ((removeL q i ++ [at_ q i]).map (·.2.1)).Nodup := (p.map _).nodup_iff.2 hids
  rw [List.map_append, List.nodup_append] at h4
  rw [List.map_append, List.filter_append, List.map_cons, List.map_nil, List.filter_cons_of_neg (by simp), List.filter_nil, List.append_nil, List.filter_eq_self.2]
  intro x hx
  obtain ⟨y, hy, rfl⟩ := List.mem_map.1 hx
  simp only [ne_eq, decide_eq_true_eq]
  intro e
  exact h4.2.2 _ (List.mem_map.2 ⟨y, hy, rfl⟩) _ (by simp) e
end Go.Proofs.Ytmoahkdadeiahaa.AlarmQ

namespace Go.Proofs.Ytmoahkdadeiahaa.AlarmQ
open Go.Shelf Go.Maps Go.RowKit Go.Proofs.YtmoahkdadeiahaaW.PrintWords Go.Proofs.Ytmoahkdadeiahaa.AlarmMath Go.Proofs.Ytmoahkdadeiahaa.Blk
set_option linter.unusedVariables false
set_option linter.unusedSimpArgs false
theorem MapOK.del {D : DataW Unit} {q : List It} (h : MapOK D q) {i : Nat} (hi : i < q.length) (hids : (q.map (·.2.1)).Nodup) : MapOK (D.del (.int .i64 (at_ q i).2.1)) (removeL q i) := by
  have p := removeL_perm hi
  have h4 : ((removeL q i ++ [at_ q i]).map (·.2.1)).Nodup := (p.map _).nodup_iff.2 hids
  rw [List.map_append, List.nodup_append] at h4
  have hne : ∀ x ∈ removeL q i, x.2.1 ≠ (at_ q i).2.1 := fun x hx e => h4.2.2 _ (List.mem_map.2 ⟨x, hx, rfl⟩) _ (by simp) e
  intro id wid
  obtain ⟨o1, o2⟩ := h id wid
  by_cases e : id = (at_ q i).2.1
  · subst e
    refine ⟨⟨fun h => ?_, fun ⟨x, hx, e⟩ => absurd e (hne x hx)⟩, fun x hx e => absurd e (hne x hx)⟩
    rw [has_del_same] at h; cases h
  · have hk : (Lit.int .i64 id) ≠ (Lit.int .i64 (at_ q i).2.1) := fun h => e (by injection h)
    rw [has_del_other hk, atKey_del_other hk]
    refine ⟨o1.trans ⟨fun ⟨x, hx, hxi⟩ => ?_, fun ⟨x, hx, hxi⟩ => ⟨x, p.mem_iff.1 (List.mem_append.2 (.inl hx)), hxi⟩⟩, fun x hx hxi => o2 x (p.mem_iff.1 (List.mem_append.2 (.inl hx))) hxi⟩
    rcases List.mem_append.1 (p.mem_iff.2 hx) with h2 | h2
    · exact ⟨x, h2, hxi⟩
    · rw [List.mem_singleton.1 h2] at hxi; exact absurd hxi.symm e
set_option maxHeartbeats 2000000 in
set_option maxRecDepth 100000 in
theorem clear_old (W : World) (S : Nat → Prop) (C N : Nat) (q : List It) (hC : CAt W S C N q) (i : Nat) (hi : i < q.length) :
    Calls Try.prog 51 #[.pointer (some ⟨C, 0, none⟩), .int .i64 (at_ q i).2.1] W fun e w' => e = .returned (.int .i64 0) ∧ ∃ q', CAt w' S C N q' ∧ ClearTo q q' (at_ q i).2.1 ∧ Fr W w' S := by
  obtain ⟨⟨v, m, n, D, hQ, hSm, hM, hn, hOK⟩, hHp, hids, hwf, hle⟩ := hC
  obtain ⟨hT, hTS⟩ := hQ.tight
  obtain ⟨es, cl, hmb⟩ := ownsMap_block hM
  have hnm : ¬ Sq C v q m := hQ.not_map hmb
  obtain ⟨b, hb⟩ : ∃ b, b = (at_ q i).1 := ⟨_, rfl⟩
  obtain ⟨id, hid⟩ : ∃ id, id = (at_ q i).2.1 := ⟨_, rfl⟩
  have wid : (Lit.int .i64 id).wf = true := by rw [hid]; exact (hwf _ (at_mem hi)).1
  obtain ⟨o1, o2⟩ := hOK id wid
  have hhas : has D (.int .i64 id) = true := o1.2 ⟨_, at_mem hi, hid.symm⟩
  have hat := o2 _ (at_mem hi) hid.symm
  rw [← hb] at hat
  have b2 : W.cell? ⟨b, 2, none⟩ = some (.int .i64 i) := by rw [hb]; exact (blk_cell (hQ.its i hi) 2).trans rfl
  have hkey := keyOf_int_mk (P := Try.prog) Try.underlying3 wid
  have c1 := hQ.c1
  have HR := Aside0.mk (hremove_any W.drew _ C m v q i (hT.drewN 1) hi)
  have FIN : Aside0 (∀ (w2 w3 : World) (v' : Value), QAt w2 (Sq C v q) C m v' (removeL q i) → Fr W.drew w2 (Sq C v q) → w3.ownsMap Try.prog 3 ptrR m n (D.del (.int .i64 id)) → w2.mapTurned w3 m →
      ∃ q', CAt w3 S C N q' ∧ ClearTo q q' (at_ q i).2.1 ∧ Fr W w3 S) := ⟨by
    intro w2 w3 v' hQ2 hF2 hm3 ht
    have p := removeL_perm hi
    have F1 : Fr W w2 (Sq C v q) := ⟨hF2.os, hF2.tape, hF2.output, hF2.size, hF2.block⟩
    have F3 : Fr w2 w3 (fun k => k = m) := Fr.ofGrown ht.grown rfl
    have hQ3 := hQ2.move F3 (fun k hk e => hnm (by rw [← e]; exact hk))
    refine ⟨removeL q i, ⟨⟨v', m, n, _, hQ3.mono hTS, hSm, hm3, hn, by rw [hid]; exact hOK.del hi hids⟩, removeL_hp hi hHp, ?_, fun x hx => hwf x (p.mem_iff.1 (List.mem_append.2 (.inl hx))), by rw [removeL_len hi]; omega⟩, clear_perm hi hids, (F1.mono (fun k _ h => hTS k h)).trans F3 (fun k _ e => by rw [e]; exact hSm)⟩
    have h4 : ((removeL q i ++ [at_ q i]).map (·.2.1)).Nodup := (p.map _).nodup_iff.2 hids
    rw [List.map_append, List.nodup_append] at h4
    exact h4.1⟩
  have MV : Aside0 (∀ (w2 : World) (v' : Value), QAt w2 (Sq C v q) C m v' (removeL q i) → Fr W.drew w2 (Sq C v q) → w2.ownsMap Try.prog 3 ptrR m n D ∧ w2.cell? ⟨C, 1, none⟩ = some (.map (some m))) :=
    ⟨fun w2 v' hQ2 hF2 => ⟨ownsMap_move hM (hF2.block m hM.lt hnm), hQ2.c1⟩⟩
  have HM := Aside0.mk hM
  have HAT := Aside0.mk hat
  have HKEY := Aside0.mk hkey
  rw [← hid] at FIN ⊢
  clear hQ hT hTS hM hOK hHp hids hwf hb hid o1 o2 hat hkey hmb hnm
  go_enter Try.func51, Try.ntmps51
  go_wp2_with (first
    | (at_lookup; refine wpList_lookup_own_ok W rfl _ _ 75 rfl 3 80 keyed Try.underlying75 ptrR (zero_item _) .nil [] rfl m n D rfl HM.out (.int .i64 id) (.int .i64 id) rfl HKEY.out ?_; intro v' ps hv; rw [HAT.out] at hv; obtain rfl := ptrR_inv hv; clear hv))
  go_still_tail 8, (by kernel_rfl)
  change wpList _ _ _ _ _ W.drew
  generalize W.drew = w1 at HR FIN MV ⊢
  go_wp2_with fail
  refine HR.out.mono ?_
  rintro e w2 ⟨⟨x, rfl⟩, v', hQ2, hF2⟩
  obtain ⟨hm2, c2⟩ := MV.out w2 v' hQ2 hF2
  have HM2 := Aside0.mk hm2
  have HQ2 := Aside0.mk hQ2
  have HF2 := Aside0.mk hF2
  clear hm2 hQ2 hF2
  go_wp2_with (first
    | (at_delete; refine wpList_delete_own w2 rfl _ _ 75 3 rfl 80 keyed Try.underlying75 ptrR m n D rfl HM2.out (.int .i64 id) (.int .i64 id) rfl HKEY.out ?_; intro w3 hm3 ht3; have HM3 := Aside0.mk hm3; have HT3 := Aside0.mk ht3; clear hm3 ht3))
  go_ret
  exact ⟨rfl, FIN.out _ _ _ HQ2.out HF2.out HM3.out HT3.out⟩
end Go.Proofs.Ytmoahkdadeiahaa.AlarmQ

namespace Go.Proofs.Ytmoahkdadeiahaa.AlarmP
/-- An id and when it is due. -/
abbrev Al := Int × Int
/-- One comes ahead of another one: by at, then by id. -/
def bef (a b : Al) : Prop := a.2 < b.2 ∨ (a.2 = b.2 ∧ a.1 < b.1)
def befB (a b : Al) : Bool := decide (a.2 < b.2) || (decide (a.2 = b.2) && decide (a.1 < b.1))
theorem befB_iff {a b : Al} : befB a b = true ↔ bef a b := by simp [befB, bef]
theorem befB_not {a b : Al} : befB a b = false ↔ ¬ bef a b := by rw [← befB_iff]; simp
theorem bef_asymm {a b : Al} (h : bef a b) : ¬ bef b a := by unfold bef at *; omega
theorem bef_trans {a b c : Al} (h : bef a b) (h' : bef b c) : bef a c := by unfold bef at *; omega
theorem bef_total {a b : Al} (h : a.1 ≠ b.1) : bef a b ∨ bef b a := by unfold bef; omega
def wo (l : List Al) (id : Int) : List Al := l.filter (fun p => decide (p.1 ≠ id))
def insA (x : Al) : List Al → List Al
  | [] => [x]
  | y :: l => if befB x y then x :: y :: l else y :: insA x l
def rSet (l : List Al) (id t : Int) : List Al := insA (id, t) (wo l id)
def dueL (l : List Al) (now : Int) : List Al := l.takeWhile (fun p => decide (p.2 ≤ now))
def rest (l : List Al) (now : Int) : List Al := l.dropWhile (fun p => decide (p.2 ≤ now))
/-- Sorted, each id once. -/
structure Srt (l : List Al) : Prop where
  s : l.Pairwise bef
  n : (l.map (·.1)).Nodup
theorem Srt.nil : Srt [] := ⟨List.Pairwise.nil, List.Pairwise.nil⟩
theorem Srt.sub {l l' : List Al} (h : Srt l) (hs : l'.Sublist l) : Srt l' := ⟨h.s.sublist hs, h.n.sublist (hs.map _)⟩
theorem wo_sub (l : List Al) (id : Int) : (wo l id).Sublist l := List.filter_sublist
theorem Srt.wo {l : List Al} (h : Srt l) (id : Int) : Srt (AlarmP.wo l id) := h.sub (wo_sub l id)
theorem Srt.tail {x : Al} {l : List Al} (h : Srt (x :: l)) : Srt l := h.sub (List.sublist_cons_self ..)
theorem mem_wo {l : List Al} {id : Int} {p : Al} : p ∈ wo l id ↔ p ∈ l ∧ p.1 ≠ id := by simp [wo]
theorem insA_perm (x : Al) : ∀ l : List Al, (insA x l).Perm (x :: l) := by
  intro l
  induction l with
  | nil => exact List.Perm.refl _
  | cons y l ih =>
    unfold insA
    split
    · exact List.Perm.refl _
    · exact (List.Perm.cons y ih).trans (List.Perm.swap x y l)
theorem insA_srt {x : Al} : ∀ {l : List Al}, Srt l → (∀ p ∈ l, p.1 ≠ x.1) → Srt (insA x l) := by
  intro l h hx
  refine ⟨?_, ?_⟩
  · induction l with
    | nil => exact List.pairwise_singleton _ _
    | cons y l ih =>
      unfold insA
      have hs := List.pairwise_cons.1 h.s
      split
      · rename_i hb
        rw [befB_iff] at hb
        refine List.pairwise_cons.2 ⟨fun p hp => ?_, h.s⟩
        rcases List.mem_cons.1 hp with rfl | hp
        · exact hb
        · exact bef_trans hb (hs.1 p hp)
      · rename_i hb
        have hb' : ¬ bef x y := fun e => hb (befB_iff.2 e)
        refine List.pairwise_cons.2 ⟨fun p hp => ?_, ih h.tail (fun p hp => hx p (List.mem_cons_of_mem _ hp))⟩
        rcases List.mem_cons.1 ((insA_perm x l).mem_iff.1 hp) with rfl | hp
        · exact (bef_total (hx y (List.mem_cons_self ..))).resolve_right hb'
        · exact hs.1 p hp
  · refine (((insA_perm x l).map _).nodup_iff).2 ?_
    rw [List.map_cons, List.nodup_cons]
    refine ⟨fun hm => ?_, h.n⟩
    obtain ⟨p, hp, e⟩ := List.mem_map.1 hm
    exact hx p hp e
theorem Srt.set {l : List Al} (h : Srt l) (id t : Int) : Srt (rSet l id t) := insA_srt (h.wo id) (fun _ hp => (mem_wo.1 hp).2)
theorem set_perm' (l : List Al) (id t : Int) : (rSet l id t).Perm ((id, t) :: wo l id) := insA_perm _ _
/-- Two sorted lists of the same things are one. -/
theorem Srt.eq {l l' : List Al} (h : Srt l) (h' : Srt l') (hp : l.Perm l') : l = l' := by
  induction l generalizing l' with
  | nil => exact (List.Perm.nil_eq hp)
  | cons x l ih =>
    cases l' with
    | nil => exact absurd hp.length_eq (by simp)
    | cons y l' =>
      have hs := List.pairwise_cons.1 h.s
      have hs' := List.pairwise_cons.1 h'.s
      have e : x = y := by
        have h1 : x ∈ y :: l' := hp.mem_iff.1 (List.mem_cons_self ..)
        have h2 : y ∈ x :: l := hp.mem_iff.2 (List.mem_cons_self ..)
        rcases List.mem_cons.1 h1 with e | h1
        · exact e
        · rcases List.mem_cons.1 h2 with e | h2
          · exact e.symm
          · exact absurd (hs.1 y h2) (bef_asymm (hs'.1 x h1))
      subst e
      rw [ih h.tail h'.tail (List.Perm.cons_inv hp)]
theorem wo_perm {l l' : List Al} (h : l.Perm l') (id : Int) : (wo l id).Perm (wo l' id) := h.filter _
theorem wo_none {l : List Al} {id : Int} (h : ∀ p ∈ l, p.1 ≠ id) : wo l id = l := List.filter_eq_self.2 (fun p hp => by simpa using h p hp)
theorem wo_wo (l : List Al) (id : Int) : wo (wo l id) id = wo l id := wo_none (fun _ hp => (mem_wo.1 hp).2)
theorem wo_set {l : List Al} (h : Srt l) (id t : Int) : wo (rSet l id t) id = wo l id := by
  refine ((h.set id t).wo id).eq (h.wo id) ?_
  refine (wo_perm (set_perm' l id t) id).trans ?_
  have : wo ((id, t) :: wo l id) id = wo l id := by
    unfold wo
    rw [List.filter_cons_of_neg (by simp)]
    exact wo_wo l id
  rw [this]
theorem set_set {l : List Al} (h : Srt l) (id t u : Int) : rSet (rSet l id t) id u = rSet l id u := by
  show insA _ (wo (rSet l id t) id) = _
  rw [wo_set h]
  rfl
theorem wo_head {x : Al} {l : List Al} (h : Srt (x :: l)) : wo (x :: l) x.1 = l := by
  unfold wo
  rw [List.filter_cons_of_neg (by simp)]
  refine wo_none (fun p hp e => ?_)
  have := h.n
  rw [List.map_cons, List.nodup_cons] at this
  exact this.1 (List.mem_map.2 ⟨p, hp, e⟩)
theorem due_rest (l : List Al) (now : Int) : dueL l now ++ rest l now = l := List.takeWhile_append_dropWhile
theorem due_cons {x : Al} {l : List Al} {now : Int} (h : x.2 ≤ now) : dueL (x :: l) now = x :: dueL l now ∧ rest (x :: l) now = rest l now := by
  simp [dueL, rest, h]
theorem due_stop {x : Al} {l : List Al} {now : Int} (h : ¬ x.2 ≤ now) : dueL (x :: l) now = [] ∧ rest (x :: l) now = x :: l := by
  simp [dueL, rest, h]
theorem Srt.rest {l : List Al} (h : Srt l) (now : Int) : Srt (AlarmP.rest l now) := h.sub (List.dropWhile_sublist _)
theorem has_len {l : List Al} {id : Int} : (wo l id).length < l.length ↔ ∃ p ∈ l, p.1 = id := by
  constructor
  · intro h
    by_cases c : ∃ p ∈ l, p.1 = id
    · exact c
    · rw [wo_none (fun p hp e => c ⟨p, hp, e⟩)] at h; omega
  · rintro ⟨p, hp, e⟩
    have h1 := List.length_filter_lt_length_iff_exists (l := l) (p := fun p : Al => decide (p.1 ≠ id))
    exact h1.2 ⟨p, hp, by simp [e]⟩
/-- In a sorted list what is due is just what has its time: nothing behind it. -/
theorem rest_late {l : List Al} (h : Srt l) (now : Int) : ∀ p ∈ rest l now, now < p.2 := by
  induction l with
  | nil => intro p hp; cases hp
  | cons x l ih =>
    by_cases hx : x.2 ≤ now
    · rw [(due_cons hx).2]; exact ih h.tail
    · rw [(due_stop hx).2]
      intro p hp
      have hs := List.pairwise_cons.1 h.s
      rcases List.mem_cons.1 hp with rfl | hp
      · omega
      · have := hs.1 p hp; unfold bef at this; omega
theorem due_early (l : List Al) (now : Int) : ∀ p ∈ dueL l now, p.2 ≤ now := by
  induction l with
  | nil => intro p hp; cases hp
  | cons x l ih =>
    intro p hp
    by_cases hx : x.2 ≤ now
    · rw [(due_cons hx).1] at hp
      rcases List.mem_cons.1 hp with rfl | hp
      · exact hx
      · exact ih p hp
    · rw [(due_stop hx).1] at hp; cases hp
theorem due_again {l : List Al} (h : Srt l) (now : Int) : dueL (rest l now) now = [] := by
  have h1 := rest_late h now
  cases hr : rest l now with
  | nil => rfl
  | cons x r =>
    rw [hr] at h1
    exact (due_stop (by have := h1 x (List.mem_cons_self ..); omega)).1
theorem due_all {l : List Al} {now : Int} (h : ∀ p ∈ l, p.2 ≤ now) : dueL l now = l := by
  unfold dueL
  induction l with
  | nil => rfl
  | cons x l ih =>
    rw [List.takeWhile_cons_of_pos (by simpa using h x (List.mem_cons_self ..)), ih (fun p hp => h p (List.mem_cons_of_mem _ hp))]
end Go.Proofs.Ytmoahkdadeiahaa.AlarmP

namespace Go.Proofs.Ytmoahkdadeiahaa.AlarmQ
open Go.Shelf Go.Maps Go.RowKit Go.Proofs.YtmoahkdadeiahaaW.PrintWords Go.Proofs.Ytmoahkdadeiahaa.AlarmMath Go.Proofs.Ytmoahkdadeiahaa.Blk Go.Proofs.Ytmoahkdadeiahaa.AlarmP
set_option linter.unusedVariables false
set_option linter.unusedSimpArgs false
/-- The clock at C holds the sorted list l; its blocks are among S, all there already. -/
structure Clk (w : World) (S : Nat → Prop) (C N : Nat) (l : List Al) : Prop where
  ex : ∃ q, CAt w S C N q ∧ (q.map (·.2)).Perm l
  srt : Srt l
  lt : ∀ k, S k → k < w.heap.size
theorem Clk.wf {w : World} {S : Nat → Prop} {C N : Nat} {l : List Al} (h : Clk w S C N l) : ∀ x ∈ l, (Lit.int .i64 x.1).wf = true ∧ (Lit.int .i64 x.2).wf = true := by
  obtain ⟨⟨q, hq, hp⟩, _, _⟩ := h
  intro x hx
  obtain ⟨y, hy, rfl⟩ := List.mem_map.1 (hp.mem_iff.2 hx)
  exact hq.wf y hy
theorem Clk.len {w : World} {S : Nat → Prop} {C N : Nat} {l : List Al} (h : Clk w S C N l) : l.length ≤ N ∧ l.length ≤ 100000 := by
  obtain ⟨⟨q, hq, hp⟩, _, _⟩ := h
  have := hp.length_eq
  rw [List.length_map] at this
  exact ⟨this ▸ hq.le, this ▸ hq.bd⟩
/-- The blocks that it needs are there. -/
theorem CAt.there {w : World} {S : Nat → Prop} {C N : Nat} {q : List It} (h : CAt w S C N q) : CAt w (fun k => S k ∧ k < w.heap.size) C N q := by
  obtain ⟨⟨v, m, n, D, h1, h2, h3, h4, h5⟩, h6, h7, h8, h9⟩ := h
  refine ⟨⟨v, m, n, D, ⟨h1.cC, h1.row, h1.its, h1.nd, ⟨h1.sC, blk_lt h1.cC⟩, fun g hg => ⟨h1.sv g hg, (h1.row.lt g hg).2⟩, fun i hi => ⟨h1.si i hi, blk_lt (h1.its i hi)⟩, h1.bd⟩, ⟨h2, h3.lt⟩, h3, h4, h5⟩, h6, h7, h8, h9⟩
theorem Clk.move {w w' : World} {S T : Nat → Prop} {C N : Nat} {l : List Al} (h : Clk w S C N l) (hf : Fr w w' T) (hd : ∀ k, S k → ¬ T k) : Clk w' S C N l := by
  obtain ⟨⟨q, hq, hp⟩, h2, h3⟩ := h
  exact ⟨⟨q, hq.move hf hd, hp⟩, h2, fun k hk => Nat.lt_of_lt_of_le (h3 k hk) hf.size⟩
theorem Clk.below {w w' : World} {S : Nat → Prop} {C N : Nat} {l : List Al} (h : Clk w S C N l) (hb : Below w.heap.size w w') : Clk w' S C N l := by
  obtain ⟨⟨q, hq, hp⟩, h2, h3⟩ := h
  have hf : Fr w w' (fun k => ¬ S k) := Fr.ofBelow hb _
  exact Clk.move ⟨⟨q, hq, hp⟩, h2, h3⟩ hf (fun k hk hn => hn hk)
theorem Clk.drewN {w : World} {S : Nat → Prop} {C N : Nat} {l : List Al} (h : Clk w S C N l) (n : Nat) : Clk (w.drewN n) S C N l := h.below (pw_below_drewN (Below.refl _ _) n)
/-- A block (a row's) that is none of its own is written. -/
theorem Clk.grown {w w' : World} {S : Nat → Prop} {C N : Nat} {l : List Al} (h : Clk w S C N l) {r : Option Nat} (hg : w.grownBy w' r) (hr : ∀ g, r = some g → ¬ S g) : Clk w' S C N l :=
  h.move (Fr.ofGrownO (S := fun k => r = some k) hg (fun g e => e)) (fun k hk e => hr k e hk)
theorem Clk.more {w : World} {S : Nat → Prop} {C N N' : Nat} {l : List Al} (h : Clk w S C N l) (hN : N ≤ N') : Clk w S C N' l := by
  obtain ⟨⟨q, hq, hp⟩, h2, h3⟩ := h
  exact ⟨⟨q, hq.mono (fun _ h => h) hN, hp⟩, h2, h3⟩
theorem perm_wo {q : List It} {l : List Al} (hp : (q.map (·.2)).Perm l) (id : Int) : ((q.map (·.2)).filter (fun p => decide (p.1 ≠ id))).Perm (wo l id) := hp.filter _
/-- What Clear answers. -/
def clr (l : List Al) (id : Int) : Int := if (wo l id).length < l.length then 0 else 50
def NewR (W : World) (e : Ending) (w' : World) : Prop := ∃ C, e = .returned (.pointer (some ⟨C, 0, none⟩)) ∧ (∃ S, Clk w' S C 0 [] ∧ ∀ k, S k → W.heap.size ≤ k) ∧ Below W.heap.size W w'
theorem new_clk (W : World) : Calls Try.prog 42 #[] W (NewR W) := by
  refine (new_any W).mono ?_
  rintro e w' ⟨C, rfl, hC, hb⟩
  exact ⟨C, rfl, ⟨_, ⟨⟨[], hC.there, List.Perm.refl _⟩, Srt.nil, fun k hk => hk.2⟩, fun k hk => hk.1⟩, hb⟩
def SetR (W : World) (S : Nat → Prop) (C N : Nat) (l : List Al) (e : Ending) (w' : World) : Prop := e = .returned (.int .i64 0) ∧ (∃ S', Clk w' S' C (N + 1) l ∧ ∀ k, S' k → S k ∨ W.heap.size ≤ k) ∧ Fr W w' S
theorem set_clk (W : World) (S : Nat → Prop) (C N : Nat) (l : List Al) (hC : Clk W S C N l) (id t : Int) (wid : (Lit.int .i64 id).wf = true) (wt : (Lit.int .i64 t).wf = true) (hN : N < 100000) :
    Calls Try.prog 43 #[.pointer (some ⟨C, 0, none⟩), .int .i64 id, .int .i64 t] W (SetR W S C N (rSet l id t)) := by
  obtain ⟨⟨q, hq, hp⟩, hs, hl⟩ := hC
  have key : ∀ {q' : List It}, SetTo q q' id t → (q'.map (·.2)).Perm (rSet l id t) := fun h => by
    unfold SetTo at h
    exact h.trans ((List.Perm.cons _ (perm_wo hp id)).trans (set_perm' l id t).symm)
  by_cases c : ∃ x ∈ q, x.2.1 = id
  · obtain ⟨x, hx, rfl⟩ := c
    obtain ⟨i, hi, e⟩ := List.getElem_of_mem hx
    rw [← at_get hi] at e
    subst e
    refine (set_old W S C N q hq i hi t wt).mono ?_
    rintro e w' ⟨rfl, q', hq', hs', hf⟩
    exact ⟨rfl, ⟨S, ⟨⟨q', hq'.mono (fun _ h => h) (Nat.le_succ _), key hs'⟩, hs.set _ _, fun k hk => Nat.lt_of_lt_of_le (hl k hk) hf.size⟩, fun k hk => .inl hk⟩, hf⟩
  · refine (set_new W S C N q hq id t wid wt (fun x hx e => c ⟨x, hx, e⟩) hN).mono ?_
    rintro e w' ⟨rfl, q', hq', hs', hf⟩
    exact ⟨rfl, ⟨_, ⟨⟨q', hq'.there, key hs'⟩, hs.set _ _, fun k hk => hk.2⟩, fun k hk => hk.1⟩, hf⟩
def ClearR (W : World) (S : Nat → Prop) (C N : Nat) (l : List Al) (id : Int) (e : Ending) (w' : World) : Prop := e = .returned (.int .i64 (clr l id)) ∧ Clk w' S C N (wo l id) ∧ Fr W w' S
theorem clear_clk (W : World) (S : Nat → Prop) (C N : Nat) (l : List Al) (hC : Clk W S C N l) (id : Int) (wid : (Lit.int .i64 id).wf = true) :
    Calls Try.prog 51 #[.pointer (some ⟨C, 0, none⟩), .int .i64 id] W (ClearR W S C N l id) := by
  have hC' := hC
  obtain ⟨⟨q, hq, hp⟩, hs, hl⟩ := hC
  by_cases c : ∃ x ∈ q, x.2.1 = id
  · obtain ⟨x, hx, rfl⟩ := c
    obtain ⟨i, hi, e⟩ := List.getElem_of_mem hx
    rw [← at_get hi] at e
    subst e
    refine (clear_old W S C N q hq i hi).mono ?_
    rintro e w' ⟨rfl, q', hq', hs', hf⟩
    unfold ClearTo at hs'
    have h0 : clr l (at_ q i).2.1 = 0 := by
      unfold clr
      rw [if_pos (has_len.2 ⟨(at_ q i).2, hp.mem_iff.1 (List.mem_map.2 ⟨_, hx, rfl⟩), rfl⟩)]
    exact ⟨by rw [h0], ⟨⟨q', hq', hs'.trans (perm_wo hp _)⟩, hs.wo _, fun k hk => Nat.lt_of_lt_of_le (hl k hk) hf.size⟩, hf⟩
  · refine (clear_none W S C N q hq id wid (fun x hx e => c ⟨x, hx, e⟩)).mono ?_
    rintro e w' ⟨rfl, rfl⟩
    have hn : ∀ p ∈ l, p.1 ≠ id := fun p hpl e => by
      obtain ⟨x, hx, rfl⟩ := List.mem_map.1 (hp.mem_iff.2 hpl)
      exact c ⟨x, hx, e⟩
    have h0 : clr l id = 50 := by
      unfold clr
      rw [if_neg (fun h => by rw [wo_none hn] at h; omega)]
    exact ⟨by rw [h0], by rw [wo_none hn]; exact hC', Fr.refl _ _⟩
theorem len_clk (W : World) (S : Nat → Prop) (C N : Nat) (l : List Al) (hC : Clk W S C N l) :
    Calls Try.prog 93 #[.pointer (some ⟨C, 0, none⟩)] W (fun e w' => e = .returned (.int .i64 l.length) ∧ w' = W) := by
  obtain ⟨⟨q, hq, hp⟩, hs, hl⟩ := hC
  have := hp.length_eq
  rw [List.length_map] at this
  rw [← this]
  exact clen_any W S C N q hq
/-- The least of a heap's items is the first of the sorted list. -/
theorem head_is {q : List It} {x : Al} {l : List Al} (h : Hp q q.length) (hp : (q.map (·.2)).Perm (x :: l)) (hs : Srt (x :: l)) : 0 < q.length ∧ (at_ q 0).2 = x := by
  have hlen : 0 < q.length := by have := hp.length_eq; simp at this; omega
  refine ⟨hlen, ?_⟩
  have h0 : (at_ q 0).2 ∈ x :: l := hp.mem_iff.1 (List.mem_map.2 ⟨_, at_mem hlen, rfl⟩)
  rcases List.mem_cons.1 h0 with e | hm
  · exact e
  · have hb := (List.pairwise_cons.1 hs.s).1 _ hm
    obtain ⟨y, hy, hyx⟩ := List.mem_map.1 (hp.mem_iff.2 (List.mem_cons_self (a := x) (l := l)))
    obtain ⟨j, hj, e⟩ := List.getElem_of_mem hy
    have h1 := h.least j j (Nat.le_refl _) hj
    rw [at_get hj, e, lt_not, hyx] at h1
    unfold bef at hb
    omega
theorem next_clk0 (W : World) (S : Nat → Prop) (C N : Nat) (hC : Clk W S C N []) : Calls Try.prog 50 #[.pointer (some ⟨C, 0, none⟩)] W fun e w' => e = .returned (.tuple #[.int .i64 0, .int .i64 0, .int .i64 50]) ∧ w' = W := by
  obtain ⟨⟨q, hq, hp⟩, hs, hl⟩ := hC
  have : q = [] := by have := hp.length_eq; cases q with | nil => rfl | cons _ _ => simp at this
  subst this
  exact next_none W S C N hq
theorem next_clk1 (W : World) (S : Nat → Prop) (C N : Nat) (x : Al) (l : List Al) (hC : Clk W S C N (x :: l)) : Calls Try.prog 50 #[.pointer (some ⟨C, 0, none⟩)] W fun e w' => e = .returned (.tuple #[.int .i64 x.1, .int .i64 x.2, .int .i64 0]) ∧ ∃ n, w' = W.drewN n := by
  obtain ⟨⟨q, hq, hp⟩, hs, hl⟩ := hC
  obtain ⟨h1, h2⟩ := head_is hq.hp hp hs
  rw [← h2]
  exact next_some W S C N q hq h1
end Go.Proofs.Ytmoahkdadeiahaa.AlarmQ

namespace Go.Proofs.Ytmoahkdadeiahaa.AlarmQ
open Go.Shelf Go.Maps Go.RowKit Go.Proofs.YtmoahkdadeiahaaW.PrintWords Go.Proofs.Ytmoahkdadeiahaa.AlarmMath Go.Proofs.Ytmoahkdadeiahaa.Blk Go.Proofs.Ytmoahkdadeiahaa.AlarmP
set_option linter.unusedVariables false
set_option linter.unusedSimpArgs false
def slen : Value → Nat
  | .slice _ n _ => n
  | _ => 0
def ids (l : List Al) : List Int := l.map (·.1)
theorem ids_len (l : List Al) : (ids l).length = l.length := by simp [ids]
/-- A row of numbers of one's own, made since w. -/
def Row (B : Nat) (w : World) (v : Value) (xs : List Int) : Prop := w.ownsRow B 3 1 v xs.length (nums .i64 xs)
theorem Row.fr {B : Nat} {w w' : World} {v : Value} {xs : List Int} {S : Nat → Prop} (h : Row B w v xs) (hf : Fr w w' S) (hS : ∀ k, S k → k < B) : Row B w' v xs :=
  own_move h (fun k hk => hf.block k (h.lt k hk).2 (fun hs => Nat.lt_irrefl _ (Nat.lt_of_lt_of_le (hS k hs) (own_base h k hk))))
def DueR (W : World) (S : Nat → Prop) (C N : Nat) (l : List Al) (now : Int) (e : Ending) (w' : World) : Prop :=
  ∃ v, e = .returned v ∧ Row W.heap.size w' v (ids (dueL l now)) ∧ Clk w' S C N (rest l now) ∧ Fr W w' S
theorem Fr.grownR {w w1 w2 : World} {S : Nat → Prop} (h : Fr w w1 S) {r : Option Nat} (hg : w1.grownBy w2 r) (hr : ∀ k, r = some k → w.heap.size ≤ k) : Fr w w2 S :=
  h.trans (Fr.ofGrownO (S := fun k => r = some k) hg (fun g e => e)) (fun k hk e => absurd (hr k e) (by omega))
set_option maxHeartbeats 4000000 in
set_option maxRecDepth 100000 in
theorem due_clk (W : World) (S : Nat → Prop) (C N : Nat) (l : List Al) (hC : Clk W S C N l) (now : Int) :
    Calls Try.prog 44 #[.pointer (some ⟨C, 0, none⟩), .int .i64 now] W (DueR W S C N l now) := by
  have HL := Aside0.mk hC.lt
  have hb := hC.len.2
  have H0 := Aside0.mk hC
  clear hC
  go_enter Try.func44, Try.ntmps44
  go_wp2
  go_loopw [5] (fun v wr => ∃ (A : Option Addr) (c : Nat) (l1 l2 : List Al), v = .slice A l1.length c ∧ l1.length + l2.length = l.length ∧ Aside0 (Row W.heap.size wr v (ids l1)) ∧ Aside0 (Clk wr S C N l2) ∧ Aside0 (Fr W wr S) ∧ Aside0 (l1 ++ dueL l2 now = dueL l now ∧ rest l2 now = rest l now)) (fun v _ => l.length - slen v)
  case atStart => exact ⟨none, 0, [], l, rfl, by simp, ⟨⟨rfl, .inl ⟨rfl, rfl⟩⟩⟩, H0, ⟨Fr.refl _ _⟩, ⟨by simp, rfl⟩⟩
  case round =>
    obtain ⟨A, c, l1, l2, rfl, hlen, HR, HC, HF, HE⟩ := hrel
    cases l2 with
    | nil =>
      have FIN : Aside0 (DueR W S C N l now (.returned (.slice A l1.length c)) wr) := ⟨by
        have e1 : dueL l now = l1 := by have := HE.out.1; simpa [dueL] using this.symm
        exact ⟨_, rfl, by rw [e1]; exact HR.out, by rw [← HE.out.2]; exact HC.out, HF.out⟩⟩
      clear hlen
      go_wp2_with fail
      refine (next_clk0 wr S C N HC.out).mono ?_
      rintro e w' ⟨rfl, rfl⟩
      go_wp2_with fail
      go_ret
      exact FIN.out
    | cons x l2 =>
      by_cases hx : x.2 ≤ now
      · have hg : decide (now < x.2) = false := decide_eq_false (by omega)
        have wid := HC.out.wf x (List.mem_cons_self ..)
        have FIN := Aside0.mk (due_cons (l := l2) hx)
        have HWO : Aside0 (wo (x :: l2) x.1 = l2) := ⟨wo_head HC.out.srt⟩
        clear hx
        go_wp2_with fail
        refine (next_clk1 wr S C N x l2 HC.out).mono ?_
        rintro e w' ⟨rfl, nd, rfl⟩
        have HZ : Aside0 (W.heap.size ≤ (wr.drewN nd).heap.size) := ⟨HF.out.size⟩
        have HRn : Aside0 ((wr.drewN nd).ownsRow W.heap.size 3 1 (.slice A l1.length c) (ids l1).length (nums .i64 (ids l1))) := ⟨own_move HR.out (fun k hk => rfl)⟩
        have HFn : Aside0 (Fr W (wr.drewN nd) S) := ⟨HF.out.trans (Fr.drewN _ _ S) (fun _ _ h => h)⟩
        have HCn : Aside0 (Clk (wr.drewN nd) S C N (x :: l2)) := ⟨HC.out.drewN nd⟩
        clear HR HF HC
        generalize wr.drewN nd = w1 at HZ HRn HFn HCn ⊢
        go_wp2_with (at_builtin; go_loud (refine print_append_num (w0 := w1) W.heap.size rfl _ _ 22 3 .i64 8 rfl Try.underlying22 (by kernel_rfl) (by decide) (.slice A l1.length c) (ids l1) x.1 rfl rfl HRn.out (Below.refl _ _) HZ.out (by rw [ids_len]; simp at hlen; omega) ?_); intro v2 w2 hown hb2 hg2 hat; have HOWN := Aside0.mk hown; have HG2 := Aside0.mk hg2; have HC2 : Aside0 (Clk w2 S C N (x :: l2)) := ⟨HCn.out.grown hg2 (fun g hg hS => by have := own_base HRn.out g hg; have := HL.out g hS; omega)⟩; have HF2 : Aside0 (Fr W w2 S) := ⟨HFn.out.grownR hg2 (fun k hk => own_base HRn.out k hk)⟩; have eR : (ids l1 ++ [x.1]) = ids (l1 ++ [x]) := (by simp [ids]); have HRo : Aside0 (Row W.heap.size w2 v2 (ids (l1 ++ [x]))) := ⟨by rw [← eR]; exact hown⟩; obtain ⟨A', c', ev⟩ := own_slice hown; have eL : (ids l1 ++ [x.1]).length = (l1 ++ [x]).length := (by simp [ids]); rw [eL] at ev; subst ev; clear hown hb2 hg2 hat eR eL HCn HFn HRn HOWN HG2)
        go_wp2_with fail
        refine (clear_clk w2 S C N (x :: l2) HC2.out x.1 wid.1).mono ?_
        rintro e w3 ⟨rfl, hC3, hF3⟩
        rw [HWO.out] at hC3
        have HC3 := Aside0.mk hC3
        have HF3 : Aside0 (Fr W w3 S) := ⟨HF2.out.trans hF3 (fun _ _ h => h)⟩
        have HR3 : Aside0 (Row W.heap.size w3 (.slice A' (l1 ++ [x]).length c') (ids (l1 ++ [x]))) := ⟨HRo.out.fr hF3 HL.out⟩
        clear hC3 hF3 HC2 HF2 HRo
        go_wp2_with fail
        go_roundw
        case rel => exact ⟨A', c', l1 ++ [x], l2, by simp, by simp at hlen ⊢; omega, ⟨by have := HR3.out; simpa using this⟩, HC3, HF3, ⟨by rw [List.append_assoc]; show l1 ++ (x :: dueL l2 now) = _; rw [← FIN.out.1]; exact HE.out.1, by rw [← HE.out.2, FIN.out.2]⟩⟩
        case measure => simp [slen] at hlen ⊢; omega
      · have hg : decide (now < x.2) = true := decide_eq_true (by omega)
        have FIN : Aside0 (DueR W S C N l now (.returned (.slice A l1.length c)) wr) := ⟨by
          obtain ⟨s1, s2⟩ := due_stop (l := l2) hx
          have e1 : dueL l now = l1 := by have := HE.out.1; rw [s1, List.append_nil] at this; exact this.symm
          exact ⟨_, rfl, by rw [e1]; exact HR.out, by rw [← HE.out.2, s2]; exact HC.out, HF.out⟩⟩
        clear hlen hx
        go_wp2_with fail
        refine (next_clk1 wr S C N x l2 HC.out).mono ?_
        rintro e w' ⟨rfl, nd, rfl⟩
        go_wp2_with fail
        go_ret
        obtain ⟨v, e, h1, h2, h3⟩ := FIN.out
        exact ⟨v, e, own_move h1 (fun k hk => rfl), h2.drewN nd, h3.trans (Fr.drewN _ _ S) (fun _ _ h => h)⟩
end Go.Proofs.Ytmoahkdadeiahaa.AlarmQ
