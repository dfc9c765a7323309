/- The clock's Due. -/
import Derived.Test.YtimpfiaolblgmaaAlarmU
namespace Go.Proofs.Ytimpfiaolblgmaa.AlarmQ
open Go.Shelf Go.Maps Go.RowKit Go.Proofs.YtimpfiaolblgmaaW.PrintWords Go.Proofs.Ytimpfiaolblgmaa.AlarmMath Go.Proofs.Ytimpfiaolblgmaa.Blk Go.Proofs.Ytimpfiaolblgmaa.AlarmP
set_option linter.unusedVariables false
set_option linter.unusedSimpArgs false
def slen : Value → Nat
  | .slice _ n _ => n
  | _ => 0
def ids (l : List Al) : List Int := l.map (·.1)
theorem ids_len (l : List Al) : (ids l).length = l.length := by simp [ids]
/-- A row of numbers of one's own, made since w. -/
def Row (B : Nat) (w : World) (v : Value) (xs : List Int) : Prop := w.ownsRow B 3 1 v xs.length (nums .i64 xs)
theorem Row.fr {B : Nat} {w w' : World} {v : Value} {xs : List Int} {S : Nat → Prop} (h : Row B w v xs) (hf : Fr w w' S) (hS : ∀ k, S k → k < B) : Row B w' v xs :=
  own_move h (fun k hk => hf.block k (h.lt k hk).2 (fun hs => Nat.lt_irrefl _ (Nat.lt_of_lt_of_le (hS k hs) (own_base h k hk))))
def DueR (W : World) (S : Nat → Prop) (C N : Nat) (l : List Al) (now : Int) (e : Ending) (w' : World) : Prop :=
  ∃ v, e = .returned v ∧ Row W.heap.size w' v (ids (dueL l now)) ∧ Clk w' S C N (rest l now) ∧ Fr W w' S
theorem Fr.grownR {w w1 w2 : World} {S : Nat → Prop} (h : Fr w w1 S) {r : Option Nat} (hg : w1.grownBy w2 r) (hr : ∀ k, r = some k → w.heap.size ≤ k) : Fr w w2 S :=
  h.trans (Fr.ofGrownO (S := fun k => r = some k) hg (fun g e => e)) (fun k hk e => absurd (hr k e) (by omega))
set_option maxHeartbeats 4000000 in
theorem due_clk (W : World) (S : Nat → Prop) (C N : Nat) (l : List Al) (hC : Clk W S C N l) (now : Int) :
    Calls Try.prog 12 #[.pointer (some ⟨C, 0, none⟩), .int .i64 now] W (DueR W S C N l now) := by
  have HL := Aside0.mk hC.lt
  have hb := hC.len.2
  have H0 := Aside0.mk hC
  clear hC
  go_enter Try.func12, Try.ntmps12
  go_wp2
  go_loopw [5] (fun v wr => ∃ (A : Option Addr) (c : Nat) (l1 l2 : List Al), v = .slice A l1.length c ∧ l1.length + l2.length = l.length ∧ Aside0 (Row W.heap.size wr v (ids l1)) ∧ Aside0 (Clk wr S C N l2) ∧ Aside0 (Fr W wr S) ∧ Aside0 (l1 ++ dueL l2 now = dueL l now ∧ rest l2 now = rest l now)) (fun v _ => l.length - slen v)
  case atStart => exact ⟨none, 0, [], l, rfl, by simp, ⟨⟨rfl, .inl ⟨rfl, rfl⟩⟩⟩, H0, ⟨Fr.refl _ _⟩, ⟨by simp, rfl⟩⟩
  case round =>
    obtain ⟨A, c, l1, l2, rfl, hlen, HR, HC, HF, HE⟩ := hrel
    cases l2 with
    | nil =>
      have FIN : Aside0 (DueR W S C N l now (.returned (.slice A l1.length c)) wr) := ⟨by
        have e1 : dueL l now = l1 := by have := HE.out.1; simpa [dueL] using this.symm
        exact ⟨_, rfl, by rw [e1]; exact HR.out, by rw [← HE.out.2]; exact HC.out, HF.out⟩⟩
      clear hlen
      go_wp2_with fail
      refine (next_clk0 wr S C N HC.out).mono ?_
      rintro e w' ⟨rfl, rfl⟩
      go_wp2_with fail
      go_ret
      exact FIN.out
    | cons x l2 =>
      by_cases hx : x.2 ≤ now
      · have hg : decide (now < x.2) = false := decide_eq_false (by omega)
        have wid := HC.out.wf x (List.mem_cons_self ..)
        have FIN := Aside0.mk (due_cons (l := l2) hx)
        have HWO : Aside0 (wo (x :: l2) x.1 = l2) := ⟨wo_head HC.out.srt⟩
        clear hx
        go_wp2_with fail
        refine (next_clk1 wr S C N x l2 HC.out).mono ?_
        rintro e w' ⟨rfl, nd, rfl⟩
        have HZ : Aside0 (W.heap.size ≤ (wr.drewN nd).heap.size) := ⟨HF.out.size⟩
        have HRn : Aside0 ((wr.drewN nd).ownsRow W.heap.size 3 1 (.slice A l1.length c) (ids l1).length (nums .i64 (ids l1))) := ⟨own_move HR.out (fun k hk => rfl)⟩
        have HFn : Aside0 (Fr W (wr.drewN nd) S) := ⟨HF.out.trans (Fr.drewN _ _ S) (fun _ _ h => h)⟩
        have HCn : Aside0 (Clk (wr.drewN nd) S C N (x :: l2)) := ⟨HC.out.drewN nd⟩
        clear HR HF HC
        generalize wr.drewN nd = w1 at HZ HRn HFn HCn ⊢
        go_wp2_with (at_builtin; go_loud (refine print_append_num (w0 := w1) W.heap.size rfl _ _ 35 3 .i64 8 rfl Try.underlying35 (by kernel_rfl) (by decide) (.slice A l1.length c) (ids l1) x.1 rfl rfl HRn.out (Below.refl _ _) HZ.out (by rw [ids_len]; simp at hlen; omega) ?_); intro v2 w2 hown hb2 hg2 hat; have HOWN := Aside0.mk hown; have HG2 := Aside0.mk hg2; have HC2 : Aside0 (Clk w2 S C N (x :: l2)) := ⟨HCn.out.grown hg2 (fun g hg hS => by have := own_base HRn.out g hg; have := HL.out g hS; omega)⟩; have HF2 : Aside0 (Fr W w2 S) := ⟨HFn.out.grownR hg2 (fun k hk => own_base HRn.out k hk)⟩; have eR : (ids l1 ++ [x.1]) = ids (l1 ++ [x]) := (by simp [ids]); have HRo : Aside0 (Row W.heap.size w2 v2 (ids (l1 ++ [x]))) := ⟨by rw [← eR]; exact hown⟩; obtain ⟨A', c', ev⟩ := own_slice hown; have eL : (ids l1 ++ [x.1]).length = (l1 ++ [x]).length := (by simp [ids]); rw [eL] at ev; subst ev; clear hown hb2 hg2 hat eR eL HCn HFn HRn HOWN HG2)
        go_wp2_with fail
        refine (clear_clk w2 S C N (x :: l2) HC2.out x.1 wid.1).mono ?_
        rintro e w3 ⟨rfl, hC3, hF3⟩
        rw [HWO.out] at hC3
        have HC3 := Aside0.mk hC3
        have HF3 : Aside0 (Fr W w3 S) := ⟨HF2.out.trans hF3 (fun _ _ h => h)⟩
        have HR3 : Aside0 (Row W.heap.size w3 (.slice A' (l1 ++ [x]).length c') (ids (l1 ++ [x]))) := ⟨HRo.out.fr hF3 HL.out⟩
        clear hC3 hF3 HC2 HF2 HRo
        go_wp2_with fail
        go_roundw
        case rel => exact ⟨A', c', l1 ++ [x], l2, by simp, by simp at hlen ⊢; omega, ⟨by have := HR3.out; simpa using this⟩, HC3, HF3, ⟨by rw [List.append_assoc]; show l1 ++ (x :: dueL l2 now) = _; rw [← FIN.out.1]; exact HE.out.1, by rw [← HE.out.2, FIN.out.2]⟩⟩
        case measure => simp [slen] at hlen ⊢; omega
      · have hg : decide (now < x.2) = true := decide_eq_true (by omega)
        have FIN : Aside0 (DueR W S C N l now (.returned (.slice A l1.length c)) wr) := ⟨by
          obtain ⟨s1, s2⟩ := due_stop (l := l2) hx
          have e1 : dueL l now = l1 := by have := HE.out.1; rw [s1, List.append_nil] at this; exact this.symm
          exact ⟨_, rfl, by rw [e1]; exact HR.out, by rw [← HE.out.2, s2]; exact HC.out, HF.out⟩⟩
        clear hlen hx
        go_wp2_with fail
        refine (next_clk1 wr S C N x l2 HC.out).mono ?_
        rintro e w' ⟨rfl, nd, rfl⟩
        go_wp2_with fail
        go_ret
        obtain ⟨v, e, h1, h2, h3⟩ := FIN.out
        exact ⟨v, e, own_move h1 (fun k hk => rfl), h2.drewN nd, h3.trans (Fr.drewN _ _ S) (fun _ _ h => h)⟩
end Go.Proofs.Ytimpfiaolblgmaa.AlarmQ
