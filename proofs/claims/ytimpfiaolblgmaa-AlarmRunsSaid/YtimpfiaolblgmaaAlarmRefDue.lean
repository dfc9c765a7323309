/- The document's clock: Clear, Next, Due. -/
import Derived.Test.YtimpfiaolblgmaaAlarmRefSet
namespace Go.Proofs.Ytimpfiaolblgmaa.AlarmQ
open Go.Shelf Go.Maps Go.RowKit Go.Proofs.YtimpfiaolblgmaaW.PrintWords Go.Proofs.Ytimpfiaolblgmaa.AlarmMath Go.Proofs.Ytimpfiaolblgmaa.Blk Go.Proofs.Ytimpfiaolblgmaa.AlarmP
set_option linter.unusedVariables false
set_option linter.unusedSimpArgs false
def RClearR (W : World) (S : Nat → Prop) (M : Nat) (l : List Al) (id : Int) (e : Ending) (w' : World) : Prop :=
  e = .returned (.int .i64 (clr l id)) ∧ RAt w' (fun k => (S k ∨ W.heap.size ≤ k) ∧ k < w'.heap.size) M (wo l id) ∧ Fr W w' S
theorem rclear_any (W : World) (S : Nat → Prop) (M : Nat) (l : List Al) (hC : RAt W S M l) (id : Int) :
    Calls Try.prog 11 #[.pointer (some ⟨M, 0, none⟩), .int .i64 id] W (RClearR W S M l id) := by
  have HW := Aside0.mk (without_any W S M l hC id)
  clear hC
  by_cases h : (wo l id).length < l.length
  · have e1 : Aside0 (clr l id = 0) := ⟨by unfold clr; rw [if_pos h]⟩
    have e2 : Aside0 (decide ((wo l id).length < l.length) = true) := ⟨decide_eq_true h⟩
    clear h
    go_enter Try.func11, Try.ntmps11
    go_wp2_with fail
    refine HW.out.mono ?_
    rintro e w1 ⟨rfl, hR1, hF1⟩
    have HR1 := Aside0.mk hR1
    have HF1 := Aside0.mk hF1
    clear hR1 hF1
    rw [e2.out]
    go_wp2_with fail
    go_ret
    exact ⟨by rw [e1.out]; rfl, HR1.out, HF1.out⟩
  · have e1 : Aside0 (clr l id = 50) := ⟨by unfold clr; rw [if_neg h]⟩
    have e2 : Aside0 (decide ((wo l id).length < l.length) = false) := ⟨decide_eq_false h⟩
    clear h
    go_enter Try.func11, Try.ntmps11
    go_wp2_with fail
    refine HW.out.mono ?_
    rintro e w1 ⟨rfl, hR1, hF1⟩
    have HR1 := Aside0.mk hR1
    have HF1 := Aside0.mk hF1
    clear hR1 hF1
    rw [e2.out]
    go_wp2_with fail
    go_ret
    exact ⟨by rw [e1.out]; rfl, HR1.out, HF1.out⟩
theorem rnext_none (W : World) (S : Nat → Prop) (M : Nat) (hC : RAt W S M []) : Calls Try.prog 16 #[.pointer (some ⟨M, 0, none⟩)] W fun e w' => e = .returned (.tuple #[.int .i64 0, .int .i64 0, .int .i64 50]) ∧ w' = W := by
  obtain ⟨⟨A, c, hM, hR⟩, hSM, hlt, hbd⟩ := hC
  have m0 : W.cell? ⟨M, 0, none⟩ = some (.slice A 0 c) := (blk_cell hM 0).trans rfl
  clear hM hR hSM hlt hbd
  go_enter Try.func16, Try.ntmps16
  go_wp2
  go_ret3
  exact ⟨rfl, rfl⟩
/-- The first item's cells. -/
theorem RAt.head {W : World} {S : Nat → Prop} {M : Nat} {x : Al} {l : List Al} (h : RAt W S M (x :: l)) : ∃ g k c, W.heap[M]? = some (.cells #[.slice (some ⟨g, k, none⟩) (l.length + 1) c] 28 (0, 0)) ∧ RdI W S M (some ⟨g, k, none⟩) c (x :: l) ∧ l.length + 1 ≤ c ∧ W.cell? ⟨g, k, none⟩ = some (.int .i64 x.1) ∧ W.cell? ⟨g, k + 1, none⟩ = some (.int .i64 x.2) := by
  obtain ⟨⟨A, c, hM, hR⟩, hSM, hlt, hbd⟩ := h
  have hle := hR.le
  obtain ⟨g, k, rfl, g1, g2, g3, g4⟩ := hR.at_ (by simp)
  have := g4 0 x rfl
  exact ⟨g, k, c, hM, hR, by simpa using hle, by simpa using this.1, by simpa using this.2⟩
set_option maxHeartbeats 2000000 in
theorem rnext_some (W : World) (S : Nat → Prop) (M : Nat) (x : Al) (l : List Al) (hC : RAt W S M (x :: l)) : Calls Try.prog 16 #[.pointer (some ⟨M, 0, none⟩)] W fun e w' => e = .returned (.tuple #[.int .i64 x.1, .int .i64 x.2, .int .i64 0]) ∧ ∃ n, w' = W.drewN n := by
  have hb := hC.bd
  obtain ⟨g, k, c, hM, hR, hle, i0, i1⟩ := hC.head
  have m0 := blk_cell hM 0
  rw [show (#[Value.slice (some ⟨g, k, none⟩) (l.length + 1) c] : Array Value)[0]? = some (.slice (some ⟨g, k, none⟩) (l.length + 1) c) from rfl] at m0
  have hne : (((l.length + 1 : Nat) : Int) == 0) = false := beq_eq_false_iff_ne.2 (by omega)
  clear hM hR hC
  generalize hn : l.length + 1 = n at *
  have hn0 : 0 < n := by omega
  simp only [List.length_cons, hn] at hb
  clear hn
  go_enter Try.func16, Try.ntmps16
  go_wp2
  go_quiet (fail)
  go_wp2
  go_ret3
  exact ⟨rfl, _, rfl⟩
/-- The row without its first. -/
theorem RAt.tailed {w w' : World} {S : Nat → Prop} {M g k c : Nat} {x : Al} {l : List Al} {A' : Option Addr} (h : RAt w S M (x :: l)) (hM : w.heap[M]? = some (.cells #[.slice (some ⟨g, k, none⟩) (l.length + 1) c] 28 (0, 0)))
    (hR : RdI w S M (some ⟨g, k, none⟩) c (x :: l)) (h' : w'.heap[M]? = some (.cells #[.slice A' l.length (c - 1)] 28 (0, 0))) (hg : w.grownBy w' (some M)) (hA : 0 < l.length → A' = some ⟨g, k + 2, none⟩) : RAt w' S M l := by
  have r := hR.tail.move (w' := w') hg.size (fun j _ hne hlt => hg.block j hlt (fun e => by injection e with e; exact hne e))
  refine ⟨⟨A', c - 1, h', ⟨r.le, fun h0 => ?_⟩⟩, h.sM, fun j hj => Nat.lt_of_lt_of_le (h.lt j hj) hg.size, by have := h.bd; simp at this; omega⟩
  rw [hA h0]
  exact r.at_ h0
def RDueR (W : World) (S : Nat → Prop) (M : Nat) (l : List Al) (now : Int) (e : Ending) (w' : World) : Prop :=
  ∃ v, e = .returned v ∧ Row W.heap.size w' v (ids (dueL l now)) ∧ RAt w' S M (rest l now) ∧ Fr W w' S
set_option maxHeartbeats 4000000 in
theorem rdue_any (W : World) (S : Nat → Prop) (M : Nat) (l : List Al) (hC : RAt W S M l) (now : Int) :
    Calls Try.prog 14 #[.pointer (some ⟨M, 0, none⟩), .int .i64 now] W (RDueR W S M l now) := by
  have HL := Aside0.mk hC.lt
  have hb := hC.bd
  have H0 := Aside0.mk hC
  have HSM := Aside0.mk hC.sM
  clear hC
  go_enter Try.func14, Try.ntmps14
  go_wp2
  go_loopw [5] (fun v wr => ∃ (A : Option Addr) (c : Nat) (l1 l2 : List Al), v = .slice A l1.length c ∧ l1.length + l2.length = l.length ∧ Aside0 (Row W.heap.size wr v (ids l1)) ∧ Aside0 (RAt wr S M l2) ∧ Aside0 (Fr W wr S) ∧ Aside0 (l1 ++ dueL l2 now = dueL l now ∧ rest l2 now = rest l now)) (fun v _ => l.length - slen v)
  case atStart => exact ⟨none, 0, [], l, rfl, by simp, ⟨⟨rfl, .inl ⟨rfl, rfl⟩⟩⟩, H0, ⟨Fr.refl _ _⟩, ⟨by simp, rfl⟩⟩
  case round =>
    obtain ⟨A, c, l1, l2, rfl, hlen, HR, HC, HF, HE⟩ := hrel
    cases l2 with
    | nil =>
      have FIN : Aside0 (RDueR W S M l now (.returned (.slice A l1.length c)) wr) := ⟨by
        have e1 : dueL l now = l1 := by have := HE.out.1; simpa [dueL] using this.symm
        exact ⟨_, rfl, by rw [e1]; exact HR.out, by rw [← HE.out.2]; exact HC.out, HF.out⟩⟩
      obtain ⟨⟨A2, c2, hM, hR⟩, hSM, hlt, hbd⟩ := HC.out
      have m0 : wr.cell? ⟨M, 0, none⟩ = some (.slice A2 0 c2) := (blk_cell hM 0).trans rfl
      clear hlen hM hR hSM hlt hbd
      go_wp2
      go_ret
      exact FIN.out
    | cons x l2 =>
      obtain ⟨g, k, c2, hM, hR, hle, i0, i1⟩ := HC.out.head
      have m0 := blk_cell hM 0
      rw [show (#[Value.slice (some ⟨g, k, none⟩) (l2.length + 1) c2] : Array Value)[0]? = some (.slice (some ⟨g, k, none⟩) (l2.length + 1) c2) from rfl] at m0
      have HM := Aside0.mk hM
      have HRd := Aside0.mk hR
      clear hM hR
      have hn0 : 0 < l2.length + 1 := by omega
      by_cases hx : x.2 ≤ now
      · have hg : decide (x.2 ≤ now) = true := decide_eq_true (by omega)
        have FIN := Aside0.mk (due_cons (l := l2) hx)
        clear hx
        have hlen' : l1.length + (l2.length + 1) = l.length := hlen
        clear hlen
        by_cases hc1 : c2 = 1
        · subst hc1
          have hl0 : l2.length = 0 := by omega
          have HL0 := Aside0.mk hl0
          clear hle
          clear hl0
          go_wp2_with (first
            | (at_builtin; (refine print_append_num (w0 := wr) W.heap.size rfl _ _ 35 3 .i64 8 rfl Try.underlying35 (by kernel_rfl) (by decide) (.slice A l1.length c) (ids l1) x.1 rfl rfl HR.out (Below.refl _ _) HF.out.size (by rw [ids_len]; omega) ?_); intro v2 w2 hown hb2 hg2 hat; have HG2 := Aside0.mk hg2; have hne : ∀ g, (Value.slice A l1.length c).ownBlock = some g → ¬ S g := (fun g hg hS => by have := own_base HR.out g hg; have := HL.out g hS; omega); have HC2 : Aside0 (RAt w2 S M (x :: l2)) := ⟨HC.out.fr (Fr.ofGrownO (S := fun k => (Value.slice A l1.length c).ownBlock = some k) hg2 (fun g e => e)) (fun k hk e => hne k e hk)⟩; have HF2 : Aside0 (Fr W w2 S) := ⟨HF.out.grownR hg2 (fun k hk => own_base HR.out k hk)⟩; have eR : (ids l1 ++ [x.1]) = ids (l1 ++ [x]) := (by simp [ids]); have HRo : Aside0 (Row W.heap.size w2 v2 (ids (l1 ++ [x]))) := ⟨by rw [← eR]; exact hown⟩; obtain ⟨A', c', ev⟩ := own_slice hown; have eL : (ids l1 ++ [x.1]).length = l1.length + 1 := (by simp [ids]); rw [eL] at ev; subst ev; have hM2 : w2.heap[M]? = some (.cells #[.slice (some ⟨g, k, none⟩) (l2.length + 1) 1] 28 (0, 0)) := (hg2.block M (blk_lt HM.out) (fun e => hne M e.symm HSM.out)).trans HM.out; have m02 : w2.cell? ⟨M, 0, none⟩ = some (.slice (some ⟨g, k, none⟩) (l2.length + 1) 1) := (blk_cell hM2 0).trans rfl; have HM2 := Aside0.mk hM2; have HRd2 : Aside0 (RdI w2 S M (some ⟨g, k, none⟩) 1 (x :: l2)) := ⟨HRd.out.move hg2.size (fun j hj _ hlt => hg2.block j hlt (fun e => hne j e.symm hj))⟩; clear hown hb2 hg2 hat hne eR eL hM2 m0 i0 i1)
            | ((with_reducible refine gate_store (t := 26) (p := 40) rfl ?_); refine store_cell rfl rfl 26 (.tmp 40) (.tmp 38) rfl (#[.slice (some ⟨g, k, none⟩) l2.length 0]) rfl rfl rfl rfl HM2.out (by kernel_rfl) (by simp) rfl ?_; intro w3 hb3 hg3; have HB3 := Aside0.mk hb3; have HG3 := Aside0.mk hg3; clear hb3 hg3))
          have HF3 : Aside0 (Fr W w3 S) := ⟨HF2.out.trans (Fr.ofGrown HG3.out HSM.out) (fun _ _ h => h)⟩
          have HC3 : Aside0 (RAt w3 S M l2) := ⟨HC2.out.tailed HM2.out HRd2.out HB3.out HG3.out (fun h => absurd h (by rw [HL0.out]; omega))⟩
          have HR3 : Aside0 (Row W.heap.size w3 (.slice A' (l1.length + 1) c') (ids (l1 ++ [x]))) := ⟨HRo.out.fr (Fr.ofGrown (S := fun k => k = M) HG3.out rfl) (fun k e => by rw [e]; exact HL.out M HSM.out)⟩
          clear HC2 HF2 HRo
          go_roundw
          case rel => exact ⟨A', c', l1 ++ [x], l2, by simp, by simp; omega, ⟨by have := HR3.out; simpa using this⟩, HC3, HF3, ⟨by rw [List.append_assoc]; show l1 ++ (x :: dueL l2 now) = _; rw [← FIN.out.1]; exact HE.out.1, by rw [← HE.out.2, FIN.out.2]⟩⟩
          case measure => simp [slen]; omega
        · skip
          go_wp2_with (first
            | (at_builtin; (refine print_append_num (w0 := wr) W.heap.size rfl _ _ 35 3 .i64 8 rfl Try.underlying35 (by kernel_rfl) (by decide) (.slice A l1.length c) (ids l1) x.1 rfl rfl HR.out (Below.refl _ _) HF.out.size (by rw [ids_len]; omega) ?_); intro v2 w2 hown hb2 hg2 hat; have HG2 := Aside0.mk hg2; have hne : ∀ g, (Value.slice A l1.length c).ownBlock = some g → ¬ S g := (fun g hg hS => by have := own_base HR.out g hg; have := HL.out g hS; omega); have HC2 : Aside0 (RAt w2 S M (x :: l2)) := ⟨HC.out.fr (Fr.ofGrownO (S := fun k => (Value.slice A l1.length c).ownBlock = some k) hg2 (fun g e => e)) (fun k hk e => hne k e hk)⟩; have HF2 : Aside0 (Fr W w2 S) := ⟨HF.out.grownR hg2 (fun k hk => own_base HR.out k hk)⟩; have eR : (ids l1 ++ [x.1]) = ids (l1 ++ [x]) := (by simp [ids]); have HRo : Aside0 (Row W.heap.size w2 v2 (ids (l1 ++ [x]))) := ⟨by rw [← eR]; exact hown⟩; obtain ⟨A', c', ev⟩ := own_slice hown; have eL : (ids l1 ++ [x.1]).length = l1.length + 1 := (by simp [ids]); rw [eL] at ev; subst ev; have hM2 : w2.heap[M]? = some (.cells #[.slice (some ⟨g, k, none⟩) (l2.length + 1) c2] 28 (0, 0)) := (hg2.block M (blk_lt HM.out) (fun e => hne M e.symm HSM.out)).trans HM.out; have m02 : w2.cell? ⟨M, 0, none⟩ = some (.slice (some ⟨g, k, none⟩) (l2.length + 1) c2) := (blk_cell hM2 0).trans rfl; have HM2 := Aside0.mk hM2; have HRd2 : Aside0 (RdI w2 S M (some ⟨g, k, none⟩) c2 (x :: l2)) := ⟨HRd.out.move hg2.size (fun j hj _ hlt => hg2.block j hlt (fun e => hne j e.symm hj))⟩; clear hown hb2 hg2 hat hne eR eL hM2 m0 i0 i1)
            | ((with_reducible refine gate_store (t := 26) (p := 40) rfl ?_); refine store_cell rfl rfl 26 (.tmp 40) (.tmp 38) rfl (#[.slice (some ⟨g, k + 2, none⟩) l2.length (c2 - 1)]) rfl rfl rfl rfl HM2.out (by kernel_rfl) (by simp) rfl ?_; intro w3 hb3 hg3; have HB3 := Aside0.mk hb3; have HG3 := Aside0.mk hg3; clear hb3 hg3))
          have HF3 : Aside0 (Fr W w3 S) := ⟨HF2.out.trans (Fr.ofGrown HG3.out HSM.out) (fun _ _ h => h)⟩
          have HC3 : Aside0 (RAt w3 S M l2) := ⟨HC2.out.tailed HM2.out HRd2.out HB3.out HG3.out (fun _ => rfl)⟩
          have HR3 : Aside0 (Row W.heap.size w3 (.slice A' (l1.length + 1) c') (ids (l1 ++ [x]))) := ⟨HRo.out.fr (Fr.ofGrown (S := fun k => k = M) HG3.out rfl) (fun k e => by rw [e]; exact HL.out M HSM.out)⟩
          clear HC2 HF2 HRo
          go_roundw
          case rel => exact ⟨A', c', l1 ++ [x], l2, by simp, by simp; omega, ⟨by have := HR3.out; simpa using this⟩, HC3, HF3, ⟨by rw [List.append_assoc]; show l1 ++ (x :: dueL l2 now) = _; rw [← FIN.out.1]; exact HE.out.1, by rw [← HE.out.2, FIN.out.2]⟩⟩
          case measure => simp [slen]; omega
      · have hg : decide (x.2 ≤ now) = false := decide_eq_false (by omega)
        have FIN : Aside0 (RDueR W S M l now (.returned (.slice A l1.length c)) wr) := ⟨by
          obtain ⟨s1, s2⟩ := due_stop (l := l2) hx
          have e1 : dueL l now = l1 := by have := HE.out.1; rw [s1, List.append_nil] at this; exact this.symm
          exact ⟨_, rfl, by rw [e1]; exact HR.out, by rw [← HE.out.2, s2]; exact HC.out, HF.out⟩⟩
        clear hlen hx
        go_wp2
        go_ret
        exact FIN.out
end Go.Proofs.Ytimpfiaolblgmaa.AlarmQ
