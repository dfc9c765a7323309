/- container/heap over the clock's queue: up, down, Fix, Push, Remove. -/
import Derived.Test.YtmoahkdadeiahaaAlarmS
import Derived.Shelf.Abstract
import Derived.LoopTactic
namespace Go.Proofs.Ytmoahkdadeiahaa.AlarmQ
open Go.Shelf Go.RowKit Go.Proofs.YtmoahkdadeiahaaW.PrintWords Go.Proofs.Ytmoahkdadeiahaa.AlarmMath Go.Proofs.Ytmoahkdadeiahaa.Blk
set_option linter.unusedVariables false
set_option linter.unusedSimpArgs false
theorem QAt.drewN {w : World} {S : Nat → Prop} {C m : Nat} {v : Value} {q : List It} (h : QAt w S C m v q) (n : Nat) : QAt (w.drewN n) S C m v q := ⟨h.cC, h.row, h.its, h.nd, h.sC, h.sv, h.si, h.bd⟩
theorem tsize : Try.prog.types.size + 100 = 236 := by kernel_rfl
theorem enter_len : ∀ args w, (callFunc 94 args).run Try.prog w = .ok (.enter 94 args) w := enters_of Try.func94 (by kernel_rfl) rfl
theorem enter_less : ∀ args w, (callFunc 95 args).run Try.prog w = .ok (.enter 95 args) w := enters_of Try.func95 (by kernel_rfl) rfl
theorem enter_swap : ∀ args w, (callFunc 96 args).run Try.prog w = .ok (.enter 96 args) w := enters_of Try.func96 (by kernel_rfl) rfl
theorem enter_push : ∀ args w, (callFunc 98 args).run Try.prog w = .ok (.enter 98 args) w := enters_of Try.func98 (by kernel_rfl) rfl
theorem enter_pop : ∀ args w, (callFunc 97 args).run Try.prog w = .ok (.enter 97 args) w := enters_of Try.func97 (by kernel_rfl) rfl
set_option maxHeartbeats 4000000 in
set_option maxRecDepth 100000 in
theorem up_any (W : World) (S : Nat → Prop) (C m : Nat) (v : Value) (q : List It) (j0 : Nat) (hQ : QAt W S C m v q) (hj : j0 < q.length) :
    Calls Try.prog 56 #[.iface 85 (.pointer (some ⟨C, 0, none⟩)), .int .i64 j0] W fun e w' => e = .returned (.tuple #[]) ∧ QAt w' S C m v (upL (j0 + 1) q j0) ∧ Fr W w' S := by
  obtain ⟨A, c, rfl, hc⟩ := hQ.form
  have b := hQ.bd
  have HQ0 := Aside0.mk hQ
  clear hQ
  obtain ⟨N, hN⟩ : ∃ N, N = q.length := ⟨_, rfl⟩
  have HN := Aside0.mk hN
  rw [← hN] at b hj hc HQ0 ⊢
  clear hN
  have eL := enter_less
  have eS := enter_swap
  go_enter Try.func56, Try.ntmps56
  go_wp2
  go_loopw [1] (fun vj wr => ∃ (n k : Nat) (q' : List It), vj = .int .i64 n ∧ n < N ∧ n < k ∧ Aside0 (QAt wr S C m (.slice A N c) q') ∧ Aside0 (q'.length = N) ∧ Aside0 (Fr W wr S) ∧ Aside0 (upL k q' n = upL (j0 + 1) q j0)) (fun vj _ => (intOf vj).toNat)
  case atStart => exact ⟨j0, j0 + 1, q, rfl, hj, by omega, HQ0, ⟨HN.out.symm⟩, ⟨Fr.refl _ _⟩, ⟨rfl⟩⟩
  case round =>
    obtain ⟨n, k, q', rfl, hn, hk, HQ, HL, HF, HU⟩ := hrel
    obtain ⟨k, rfl⟩ : ∃ k', k = k' + 1 := ⟨k - 1, by omega⟩
    have hc0 := HQ.out.c0
    have mL := reach_Less wr C A N c hc0
    rw [tsize] at mL
    have mS := fun nd => (show (method 236 85 (.pointer (some ⟨C, 0, none⟩)) "Swap").run Try.prog (wr.drewN nd) = _ from tsize ▸ reach_Swap (wr.drewN nd) C A N c hc0)
    clear hc0
    by_cases h0 : n = 0
    · subst h0
      have FIN : Aside0 (upL (k + 1) q' 0 = q') := ⟨by unfold upL; rw [if_pos (.inl rfl)]⟩
      go_wp2
      go_end0
      exact ⟨rfl, by rw [← HU.out, FIN.out]; exact HQ.out, HF.out⟩
    · obtain ⟨p, hp⟩ : ∃ p, p = (n - 1) / 2 := ⟨_, rfl⟩
      have hpn : p < n := by omega
      have hpi : ((n : Int) - 1) / 2 = ((p : Nat) : Int) := by omega
      have HP := Aside0.mk hp
      have hne : (((p : Nat) : Int) == (n : Int)) = false := beq_eq_false_iff_ne.2 (by omega)
      cases hb : lt (at_ q' n) (at_ q' p) with
      | false =>
        have HLs := Aside0.mk (less_any wr S C m (.slice A N c) q' n p HQ.out (by rw [HL.out]; exact hn) (by rw [HL.out]; omega))
        rw [hb] at HLs
        have FIN : Aside0 (upL (k + 1) q' n = q') := ⟨by unfold upL; rw [← HP.out, if_pos (.inr hb)]⟩
        clear hb hp
        go_wp2_with (go_at_fn 95; refine HLs.out.mono ?_; rintro e w' ⟨rfl, nd, rfl⟩)
        go_end0
        exact ⟨rfl, by rw [← HU.out, FIN.out]; exact HQ.out.drewN _, HF.out.trans (Fr.drewN _ _ S) (fun _ _ h => h)⟩
      | true =>
        have HLs := Aside0.mk (less_any wr S C m (.slice A N c) q' n p HQ.out (by rw [HL.out]; exact hn) (by rw [HL.out]; omega))
        rw [hb] at HLs
        have HSw := Aside0.mk (fun nd => swap_any (wr.drewN nd) S C m (.slice A N c) q' p n (HQ.out.drewN nd) (by rw [HL.out]; omega) (by rw [HL.out]; exact hn) (by omega))
        have FIN : Aside0 (upL (k + 1) q' n = upL k (sw q' p n) p) := ⟨by
          rw [upL, ← HP.out, if_neg (fun h => h.elim (fun e => by omega) (fun e => by rw [hb] at e; cases e))]⟩
        clear hb hp
        go_wp2_with (first
          | (go_at_fn 95; refine HLs.out.mono ?_; rintro e w' ⟨rfl, nd, rfl⟩)
          | (go_at_fn 96; refine (HSw.out _).mono ?_; rintro e w' ⟨rfl, hQ2, hF2⟩; have HQ2 := Aside0.mk hQ2; have HF2 := Aside0.mk hF2; clear hQ2 hF2))
        go_roundw
        case rel => exact ⟨p, k, sw q' p n, by first | rfl | rw [hpi], by omega, by omega, HQ2, ⟨by rw [sw_len]; exact HL.out⟩, ⟨(HF.out.trans (Fr.drewN _ _ S) (fun _ _ h => h)).trans HF2.out (fun _ _ h => h)⟩, ⟨by rw [← FIN.out]; exact HU.out⟩⟩
        case measure => simp [intOf]; omega
/-- What down needs of one step: the two comparisons' answers. -/
theorem downL_stop {k i n : Nat} {q : List It} (h : n ≤ 2 * i + 1) : downL (k + 1) q i n = (q, i) := by unfold downL; rw [if_pos h]
theorem downL_rest {k i n j : Nat} {q : List It} (h : 2 * i + 1 < n) (hj : ch q i n = j) (hl : lt (at_ q j) (at_ q i) = false) : downL (k + 1) q i n = (q, i) := by
  unfold downL; rw [if_neg (by omega), hj, if_pos hl]
theorem downL_go {k i n j : Nat} {q : List It} (h : 2 * i + 1 < n) (hj : ch q i n = j) (hl : lt (at_ q j) (at_ q i) = true) : downL (k + 1) q i n = downL k (sw q i j) j n := by
  rw [downL, if_neg (by omega), hj, if_neg (by rw [hl]; simp)]
theorem ch_one {q : List It} {i n : Nat} (h : ¬ 2 * i + 2 < n) : ch q i n = 2 * i + 1 := by unfold ch; rw [if_neg (fun e => h e.1)]
theorem ch_left {q : List It} {i n : Nat} (h : lt (at_ q (2 * i + 2)) (at_ q (2 * i + 1)) = false) : ch q i n = 2 * i + 1 := by unfold ch; rw [if_neg (fun e => by rw [h] at e; cases e.2)]
theorem ch_right {q : List It} {i n : Nat} (h2 : 2 * i + 2 < n) (h : lt (at_ q (2 * i + 2)) (at_ q (2 * i + 1)) = true) : ch q i n = 2 * i + 2 := by unfold ch; rw [if_pos ⟨h2, h⟩]
set_option maxHeartbeats 8000000 in
set_option maxRecDepth 100000 in
theorem down_any (W : World) (S : Nat → Prop) (C m : Nat) (v : Value) (q : List It) (i0 n : Nat) (hQ : QAt W S C m v q) (hi : i0 < n) (hn : n ≤ q.length) :
    Calls Try.prog 55 #[.iface 85 (.pointer (some ⟨C, 0, none⟩)), .int .i64 i0, .int .i64 n] W fun e w' => e = .returned (.bool (decide (i0 < (downL (n + 1) q i0 n).2))) ∧ QAt w' S C m v (downL (n + 1) q i0 n).1 ∧ Fr W w' S := by
  obtain ⟨A, c, rfl, hc⟩ := hQ.form
  have b := hQ.bd
  have HQ0 := Aside0.mk hQ
  clear hQ
  obtain ⟨N, hN⟩ : ∃ N, N = q.length := ⟨_, rfl⟩
  have HN := Aside0.mk hN
  rw [← hN] at b hn hc HQ0 ⊢
  clear hN
  have eL := enter_less
  have eS := enter_swap
  go_enter Try.func55, Try.ntmps55
  go_wp2
  go_loopw [7] (fun vi wr => ∃ (i k : Nat) (q' : List It), vi = .int .i64 i ∧ i < n ∧ n ≤ i + k ∧ Aside0 (QAt wr S C m (.slice A N c) q') ∧ Aside0 (q'.length = N) ∧ Aside0 (Fr W wr S) ∧ Aside0 (downL k q' i n = downL (n + 1) q i0 n)) (fun vi _ => n - (intOf vi).toNat)
  case atStart => exact ⟨i0, n + 1, q, rfl, hi, by omega, HQ0, ⟨HN.out.symm⟩, ⟨Fr.refl _ _⟩, ⟨rfl⟩⟩
  case round =>
    obtain ⟨i, k, q', rfl, hi, hk, HQ, HL, HF, HU⟩ := hrel
    obtain ⟨k, rfl⟩ : ∃ k', k = k' + 1 := ⟨k - 1, by omega⟩
    have hc0 := HQ.out.c0
    have mL := fun nd => (show (method 236 85 (.pointer (some ⟨C, 0, none⟩)) "Less").run Try.prog (wr.drewN nd) = _ from tsize ▸ reach_Less (wr.drewN nd) C A N c hc0)
    have mL0 := mL 0
    rw [show wr.drewN 0 = wr from rfl] at mL0
    have mS := fun nd => (show (method 236 85 (.pointer (some ⟨C, 0, none⟩)) "Swap").run Try.prog (wr.drewN nd) = _ from tsize ▸ reach_Swap (wr.drewN nd) C A N c hc0)
    clear hc0
    -- the end, at i
    have out : ∀ nd, downL (k + 1) q' i n = (q', i) → (Ending.returned (.bool (decide (i0 < i))) = .returned (.bool (decide (i0 < (downL (n + 1) q i0 n).2)))) ∧ QAt (wr.drewN nd) S C m (.slice A N c) (downL (n + 1) q i0 n).1 ∧ Fr W (wr.drewN nd) S := fun nd h => by
      rw [← HU.out, h]
      exact ⟨rfl, HQ.out.drewN _, HF.out.trans (Fr.drewN _ _ S) (fun _ _ h => h)⟩
    have OUT := Aside0.mk out
    clear out
    by_cases h1 : n ≤ 2 * i + 1
    · have FIN : Aside0 (downL (k + 1) q' i n = (q', i)) := ⟨downL_stop h1⟩
      have h1b : decide ((n : Int) ≤ 2 * (i : Int) + 1) = true := decide_eq_true (by omega)
      go_wp2
      go_ret
      exact OUT.out 0 FIN.out
    · have h1b : decide ((n : Int) ≤ 2 * (i : Int) + 1) = false := decide_eq_false (by omega)
      -- from the chosen child on
      by_cases h2 : 2 * i + 2 < n
      · cases hb : lt (at_ q' (2 * i + 2)) (at_ q' (2 * i + 1)) with
        | false =>
          have HL1 := Aside0.mk (less_any wr S C m (.slice A N c) q' (2 * i + 2) (2 * i + 1) HQ.out (by rw [HL.out]; omega) (by rw [HL.out]; omega))
          rw [hb] at HL1
          have hj : ch q' i n = 2 * i + 1 := ch_left hb
          cases hb2 : lt (at_ q' (2 * i + 1)) (at_ q' i) with
          | false =>
            have HL2 := Aside0.mk (fun nd => less_any (wr.drewN nd) S C m (.slice A N c) q' (2 * i + 1) i (HQ.out.drewN nd) (by rw [HL.out]; omega) (by rw [HL.out]; omega))
            simp only [hb2] at HL2
            have FIN : Aside0 (downL (k + 1) q' i n = (q', i)) := ⟨downL_rest (by omega) hj hb2⟩
            clear hb hb2 hj
            go_wp2_with fail
            refine HL1.out.mono ?_
            rintro e w' ⟨rfl, nd, rfl⟩
            go_wp2_with fail
            refine (HL2.out _).mono ?_
            rintro e w' ⟨rfl, nd2, rfl⟩
            go_wp2_with fail
            go_ret
            exact OUT.out _ FIN.out
          | true =>
            have HL2 := Aside0.mk (fun nd => less_any (wr.drewN nd) S C m (.slice A N c) q' (2 * i + 1) i (HQ.out.drewN nd) (by rw [HL.out]; omega) (by rw [HL.out]; omega))
            simp only [hb2] at HL2
            have HSw := Aside0.mk (fun nd => swap_any (wr.drewN nd) S C m (.slice A N c) q' i (2 * i + 1) (HQ.out.drewN nd) (by rw [HL.out]; omega) (by rw [HL.out]; omega) (by omega))
            have FIN : Aside0 (downL (k + 1) q' i n = downL k (sw q' i (2 * i + 1)) (2 * i + 1) n) := ⟨downL_go (by omega) hj hb2⟩
            clear hb hb2 hj
            go_wp2_with fail
            refine HL1.out.mono ?_
            rintro e w' ⟨rfl, nd, rfl⟩
            go_wp2_with fail
            refine (HL2.out _).mono ?_
            rintro e w' ⟨rfl, nd2, rfl⟩
            go_wp2_with fail
            refine (HSw.out _).mono ?_
            rintro e w' ⟨rfl, hQ2, hF2⟩
            have HQ2 := Aside0.mk hQ2
            have HF2 := Aside0.mk hF2
            clear hQ2 hF2
            go_wp2_with fail
            go_roundw
            case rel => exact ⟨2 * i + 1, k, _, by go_num, by omega, by omega, HQ2, ⟨by rw [sw_len]; exact HL.out⟩, ⟨(HF.out.trans (Fr.drewN _ _ S) (fun _ _ h => h)).trans HF2.out (fun _ _ h => h)⟩, ⟨by rw [← FIN.out]; exact HU.out⟩⟩
            case measure => simp [intOf]; omega
        | true =>
          have HL1 := Aside0.mk (less_any wr S C m (.slice A N c) q' (2 * i + 2) (2 * i + 1) HQ.out (by rw [HL.out]; omega) (by rw [HL.out]; omega))
          rw [hb] at HL1
          have hj : ch q' i n = 2 * i + 2 := ch_right h2 hb
          cases hb2 : lt (at_ q' (2 * i + 2)) (at_ q' i) with
          | false =>
            have HL2 := Aside0.mk (fun nd => less_any (wr.drewN nd) S C m (.slice A N c) q' (2 * i + 2) i (HQ.out.drewN nd) (by rw [HL.out]; omega) (by rw [HL.out]; omega))
            simp only [hb2] at HL2
            have FIN : Aside0 (downL (k + 1) q' i n = (q', i)) := ⟨downL_rest (by omega) hj hb2⟩
            clear hb hb2 hj
            go_wp2_with fail
            refine HL1.out.mono ?_
            rintro e w' ⟨rfl, nd, rfl⟩
            go_wp2_with fail
            refine (HL2.out _).mono ?_
            rintro e w' ⟨rfl, nd2, rfl⟩
            go_wp2_with fail
            go_ret
            exact OUT.out _ FIN.out
          | true =>
            have HL2 := Aside0.mk (fun nd => less_any (wr.drewN nd) S C m (.slice A N c) q' (2 * i + 2) i (HQ.out.drewN nd) (by rw [HL.out]; omega) (by rw [HL.out]; omega))
            simp only [hb2] at HL2
            have HSw := Aside0.mk (fun nd => swap_any (wr.drewN nd) S C m (.slice A N c) q' i (2 * i + 2) (HQ.out.drewN nd) (by rw [HL.out]; omega) (by rw [HL.out]; omega) (by omega))
            have FIN : Aside0 (downL (k + 1) q' i n = downL k (sw q' i (2 * i + 2)) (2 * i + 2) n) := ⟨downL_go (by omega) hj hb2⟩
            clear hb hb2 hj
            go_wp2_with fail
            refine HL1.out.mono ?_
            rintro e w' ⟨rfl, nd, rfl⟩
            go_wp2_with fail
            refine (HL2.out _).mono ?_
            rintro e w' ⟨rfl, nd2, rfl⟩
            go_wp2_with fail
            refine (HSw.out _).mono ?_
            rintro e w' ⟨rfl, hQ2, hF2⟩
            have HQ2 := Aside0.mk hQ2
            have HF2 := Aside0.mk hF2
            clear hQ2 hF2
            go_wp2_with fail
            go_roundw
            case rel => exact ⟨2 * i + 2, k, _, by go_num, by omega, by omega, HQ2, ⟨by rw [sw_len]; exact HL.out⟩, ⟨(HF.out.trans (Fr.drewN _ _ S) (fun _ _ h => h)).trans HF2.out (fun _ _ h => h)⟩, ⟨by rw [← FIN.out]; exact HU.out⟩⟩
            case measure => simp [intOf]; omega
      · have hj : ch q' i n = 2 * i + 1 := ch_one h2
        cases hb : lt (at_ q' (2 * i + 1)) (at_ q' i) with
        | false =>
          have HLs := Aside0.mk (less_any wr S C m (.slice A N c) q' (2 * i + 1) i HQ.out (by rw [HL.out]; omega) (by rw [HL.out]; omega))
          rw [hb] at HLs
          have FIN : Aside0 (downL (k + 1) q' i n = (q', i)) := ⟨downL_rest (by omega) hj hb⟩
          clear hb hj
          go_wp2_with (go_at_fn 95; refine HLs.out.mono ?_; rintro e w' ⟨rfl, nd, rfl⟩)
          go_ret
          exact OUT.out _ FIN.out
        | true =>
          have HLs := Aside0.mk (less_any wr S C m (.slice A N c) q' (2 * i + 1) i HQ.out (by rw [HL.out]; omega) (by rw [HL.out]; omega))
          rw [hb] at HLs
          have HSw := Aside0.mk (fun nd => swap_any (wr.drewN nd) S C m (.slice A N c) q' i (2 * i + 1) (HQ.out.drewN nd) (by rw [HL.out]; omega) (by rw [HL.out]; omega) (by omega))
          have FIN : Aside0 (downL (k + 1) q' i n = downL k (sw q' i (2 * i + 1)) (2 * i + 1) n) := ⟨downL_go (by omega) hj hb⟩
          clear hb hj
          go_wp2_with (first
            | (go_at_fn 95; refine HLs.out.mono ?_; rintro e w' ⟨rfl, nd, rfl⟩)
            | (go_at_fn 96; refine (HSw.out _).mono ?_; rintro e w' ⟨rfl, hQ2, hF2⟩; have HQ2 := Aside0.mk hQ2; have HF2 := Aside0.mk hF2; clear hQ2 hF2))
          go_roundw
          case rel => exact ⟨2 * i + 1, k, _, by go_num, by omega, by omega, HQ2, ⟨by rw [sw_len]; exact HL.out⟩, ⟨(HF.out.trans (Fr.drewN _ _ S) (fun _ _ h => h)).trans HF2.out (fun _ _ h => h)⟩, ⟨by rw [← FIN.out]; exact HU.out⟩⟩
          case measure => simp [intOf]; omega
end Go.Proofs.Ytmoahkdadeiahaa.AlarmQ
