/- container/heap over the clock's queue: Fix, Push, Remove. -/
import Derived.Test.YtmoahkdadeiahaaAlarmH
namespace Go.Proofs.Ytmoahkdadeiahaa.AlarmQ
open Go.Shelf Go.RowKit Go.Proofs.YtmoahkdadeiahaaW.PrintWords Go.Proofs.Ytmoahkdadeiahaa.AlarmMath Go.Proofs.Ytmoahkdadeiahaa.Blk
set_option linter.unusedVariables false
set_option linter.unusedSimpArgs false
/-- down's answer: nothing moved. -/
theorem fixL_stay {q : List It} {i n : Nat} (h : (downL (n + 1) q i n).2 = i) : fixL q i n = upL (n + 1) (downL (n + 1) q i n).1 i := by unfold fixL; rw [if_pos h]
theorem fixL_move {q : List It} {i n : Nat} (h : (downL (n + 1) q i n).2 ≠ i) : fixL q i n = (downL (n + 1) q i n).1 := by unfold fixL; rw [if_neg h]
theorem upL_fuel (j : Nat) : ∀ (k : Nat) (q : List It), j < k → upL k q j = upL (j + 1) q j := by
  induction j using Nat.strongRecOn with
  | _ j ih =>
    intro k q h
    obtain ⟨k, rfl⟩ : ∃ m, k = m + 1 := ⟨k - 1, by omega⟩
    unfold upL
    split
    · rfl
    · rename_i hn
      have hp : (j - 1) / 2 ≠ j := fun e => hn (.inl e)
      rw [ih _ (by omega) k _ (by omega), ih _ (by omega) j _ (by omega)]
theorem downL_ge (k : Nat) : ∀ (q : List It) (i n : Nat), i ≤ (downL k q i n).2 := by
  induction k with
  | zero => intro q i n; exact Nat.le_refl _
  | succ k ih =>
    intro q i n
    unfold downL
    split
    · exact Nat.le_refl _
    · split
      · exact Nat.le_refl _
      · rename_i h1 _
        have := (ch_or q i n (by omega)).2
        exact Nat.le_trans (by omega) (ih _ _ _)
set_option maxHeartbeats 2000000 in
theorem fix_any (W : World) (S : Nat → Prop) (C m : Nat) (v : Value) (q : List It) (i : Nat) (hQ : QAt W S C m v q) (hi : i < q.length) :
    Calls Try.prog 48 #[.iface 85 (.pointer (some ⟨C, 0, none⟩)), .int .i64 i] W fun e w' => e = .returned (.tuple #[]) ∧ QAt w' S C m v (fixL q i q.length) ∧ Fr W w' S := by
  obtain ⟨A, c, rfl, hc⟩ := hQ.form
  have HQ := Aside0.mk hQ
  have hc0 := hQ.c0
  have mN := reach_Len W C A q.length c hc0
  rw [tsize] at mN
  have eN := enter_len
  have hD := down_any W S C m (.slice A q.length c) q i q.length hQ hi (Nat.le_refl _)
  have HD := Aside0.mk hD
  have H2 := downL_len (q.length + 1) q i q.length
  have HL2 := Aside0.mk H2
  clear hQ hc0 hD H2
  by_cases hs : (downL (q.length + 1) q i q.length).2 = i
  · have e1 : Aside0 (decide (i < (downL (q.length + 1) q i q.length).2) = false) := ⟨decide_eq_false (by omega)⟩
    have e2 := Aside0.mk ((fixL_stay hs).trans (upL_fuel i (q.length + 1) (downL (q.length + 1) q i q.length).1 (by omega)))
    rw [e1.out] at HD
    clear hs
    go_enter Try.func48, Try.ntmps48
    go_wp2_with fail
    refine (len_any W A q.length c).mono ?_
    rintro e w' ⟨rfl, rfl⟩
    go_wp2_with fail
    refine HD.out.mono ?_
    rintro e w1 ⟨rfl, hQ1, hF1⟩
    have HQ1 := Aside0.mk hQ1
    have HF1 := Aside0.mk hF1
    clear hQ1 hF1
    go_wp2_with fail
    refine (up_any w1 S C m _ _ i HQ1.out (by rw [HL2.out]; exact hi)).mono ?_
    rintro e w2 ⟨rfl, hQ2, hF2⟩
    have HQ2 := Aside0.mk hQ2
    have HF2 := Aside0.mk hF2
    clear hQ2 hF2
    go_wp2_with fail
    go_end0
    exact ⟨rfl, by rw [e2.out]; exact HQ2.out, HF1.out.trans HF2.out (fun _ _ h => h)⟩
  · have hle : i ≤ (downL (q.length + 1) q i q.length).2 := by
      by_cases h : (downL (q.length + 1) q i q.length).2 < i
      · exact absurd (downL_ge (q.length + 1) q i q.length) (by omega)
      · omega
    have e1 : Aside0 (decide (i < (downL (q.length + 1) q i q.length).2) = true) := ⟨decide_eq_true (by omega)⟩
    have e2 := Aside0.mk (fixL_move hs)
    rw [e1.out] at HD
    clear hs hle
    go_enter Try.func48, Try.ntmps48
    go_wp2_with fail
    refine (len_any W A q.length c).mono ?_
    rintro e w' ⟨rfl, rfl⟩
    go_wp2_with fail
    refine HD.out.mono ?_
    rintro e w1 ⟨rfl, hQ1, hF1⟩
    have HQ1 := Aside0.mk hQ1
    have HF1 := Aside0.mk hF1
    clear hQ1 hF1
    go_wp2_with fail
    go_end0
    exact ⟨rfl, by rw [e2.out]; exact HQ1.out, HF1.out⟩
set_option maxHeartbeats 2000000 in
theorem hpush_any (W : World) (S : Nat → Prop) (C m : Nat) (v : Value) (q : List It) (x : It) (p : Int) (hQ : QAt W S C m v q) (hx : W.heap[x.1]? = some (.cells #[.int .i64 x.2.1, .int .i64 x.2.2, .int .i64 p] 83 (0, 0))) (hS : S x.1)
    (hnew : ∀ i, i < q.length → (at_ q i).1 ≠ x.1) (hroom : q.length < 100000) :
    Calls Try.prog 49 #[.iface 85 (.pointer (some ⟨C, 0, none⟩)), .iface 80 (.pointer (some ⟨x.1, 0, none⟩))] W fun e w' => e = .returned (.tuple #[]) ∧ ∃ v', QAt w' (fun k => S k ∨ W.heap.size ≤ k) C m v' (upL (q.length + 1) (q ++ [x]) q.length) ∧ Fr W w' S := by
  have HP := Aside0.mk (push_any W S C m v q x p hQ hx hS hnew hroom)
  have mP := reach_Push W C
  rw [tsize] at mP
  have eP := enter_push
  have eN := enter_len
  have b := hQ.bd
  have hCs := hQ.sC
  clear hQ hx hnew
  go_enter Try.func49, Try.ntmps49
  go_wp2_with fail
  refine HP.out.mono ?_
  rintro e w1 ⟨rfl, v', hQ1, hF1⟩
  obtain ⟨A', c', rfl, hc'⟩ := hQ1.form
  have hlen : (q ++ [x]).length = q.length + 1 := by simp
  rw [hlen] at hQ1 hc'
  have mN := reach_Len w1 C A' (q.length + 1) c' hQ1.c0
  rw [tsize] at mN
  have HQ1 := Aside0.mk hQ1
  have HF1 := Aside0.mk hF1
  have HLEN := Aside0.mk hlen
  clear hQ1 hF1 mP eP hlen
  go_wp2_with fail
  refine (len_any w1 A' (q.length + 1) c').mono ?_
  rintro e w' ⟨rfl, rfl⟩
  go_wp2_with fail
  refine (up_any w' _ C m _ _ q.length HQ1.out (by rw [HLEN.out]; omega)).mono ?_
  rintro e w2 ⟨rfl, hQ2, hF2⟩
  have HQ2 := Aside0.mk hQ2
  have HF2 := Aside0.mk hF2
  clear hQ2 hF2
  go_wp2_with fail
  go_end0
  exact ⟨rfl, _, HQ2.out, HF1.out.trans HF2.out (fun k hk h => h.elim id (fun h => absurd hk (by omega)))⟩
/-- heap.Remove at i. -/
def removeL (q : List It) (i : Nat) : List It := if i = q.length - 1 then q.take (q.length - 1) else (fixL (sw q i (q.length - 1)) i (q.length - 1)).take (q.length - 1)
set_option maxHeartbeats 4000000 in
theorem hremove_any (W : World) (S : Nat → Prop) (C m : Nat) (v : Value) (q : List It) (i : Nat) (hQ : QAt W S C m v q) (hi : i < q.length) :
    Calls Try.prog 57 #[.iface 85 (.pointer (some ⟨C, 0, none⟩)), .int .i64 i] W fun e w' => (∃ x, e = .returned x) ∧ ∃ v', QAt w' S C m v' (removeL q i) ∧ Fr W w' S := by
  obtain ⟨n, hn⟩ : ∃ n, q.length = n + 1 := ⟨q.length - 1, by omega⟩
  obtain ⟨A, c, rfl, hc⟩ := hQ.form
  have b := hQ.bd
  have hc0 := hQ.c0
  rw [hn] at hc0 b hc
  have mN := reach_Len W C A (n + 1) c hc0
  rw [tsize] at mN
  have eN := enter_len
  have eS := enter_swap
  have eP := enter_pop
  have HN := Aside0.mk hn
  have HQ := Aside0.mk hQ
  rw [hn] at HQ
  by_cases hin : i = n
  · have RL : Aside0 (removeL q i = q.take n) := ⟨by unfold removeL; rw [hn, if_pos (by omega), Nat.add_sub_cancel]⟩
    have mP := reach_Pop W C
    rw [tsize] at mP
    subst hin
    have hne : (((i : Nat) : Int) != (i : Int)) = false := by simp
    clear hQ hc0 hn
    go_enter Try.func57, Try.ntmps57
    go_wp2_with fail
    refine (len_any W A (i + 1) c).mono ?_
    rintro e w' ⟨rfl, rfl⟩
    go_wp2_with fail
    refine (pop_any w' S C m _ q i HQ.out HN.out).mono ?_
    rintro e w2 ⟨⟨x, rfl⟩, v', hQ2, hF2⟩
    have HQ2 := Aside0.mk hQ2
    have HF2 := Aside0.mk hF2
    clear hQ2 hF2
    go_wp2_with fail
    go_ret
    exact ⟨⟨_, rfl⟩, v', by rw [RL.out]; exact HQ2.out, HF2.out⟩
  · have hlt : i < n := by omega
    have RL : Aside0 (removeL q i = (fixL (sw q i n) i n).take n) := ⟨by unfold removeL; rw [hn, Nat.add_sub_cancel, if_neg hin]⟩
    have mS := reach_Swap W C A (n + 1) c hc0
    rw [tsize] at mS
    have hne : (((n : Nat) : Int) != (i : Int)) = true := bne_iff_ne.2 (by omega)
    have HIN := Aside0.mk hin
    have HSL := Aside0.mk (show (sw q i n).length = n + 1 by rw [sw_len, hn])
    clear hQ hc0 hn hin
    have hdl := downL_len (n + 1) (sw q i n) i n
    rw [HSL.out] at hdl
    have HDL := Aside0.mk hdl
    have FL := Aside0.mk (show (fixL (sw q i n) i n).length = n + 1 by rw [fixL_len, HSL.out])
    by_cases hs : (downL (n + 1) (sw q i n) i n).2 = i
    · have e1 : Aside0 (decide (i < (downL (n + 1) (sw q i n) i n).2) = false) := ⟨decide_eq_false (by omega)⟩
      have e2 := Aside0.mk ((fixL_stay hs).trans (upL_fuel i (n + 1) (downL (n + 1) (sw q i n) i n).1 (by omega)))
      clear hs hdl
      go_enter Try.func57, Try.ntmps57
      go_wp2_with fail
      refine (len_any W A (n + 1) c).mono ?_
      rintro e w' ⟨rfl, rfl⟩
      go_wp2_with fail
      refine (swap_any w' S C m _ q i n HQ.out (by rw [HN.out]; omega) (by rw [HN.out]; omega) (by omega)).mono ?_
      rintro e w1 ⟨rfl, hQ1, hF1⟩
      have HQ1 := Aside0.mk hQ1
      have HF1 := Aside0.mk hF1
      clear hQ1 hF1
      go_wp2_with fail
      refine (down_any w1 S C m _ _ i n HQ1.out hlt (by rw [HSL.out]; omega)).mono ?_
      rw [e1.out]
      rintro e w2 ⟨rfl, hQ2, hF2⟩
      have HQ2 := Aside0.mk hQ2
      have HF2 := Aside0.mk hF2
      clear hQ2 hF2
      go_wp2_with fail
      refine (up_any w2 S C m _ _ i HQ2.out (by rw [HDL.out]; omega)).mono ?_
      rintro e w3 ⟨rfl, hQ3, hF3⟩
      rw [← e2.out] at hQ3
      have HQ3 := Aside0.mk hQ3
      have HF3 := Aside0.mk hF3
      have mP := reach_Pop w3 C
      rw [tsize] at mP
      clear hQ3 hF3
      go_wp2_with fail
      refine (pop_any w3 S C m _ _ n HQ3.out FL.out).mono ?_
      rintro e w4 ⟨⟨x, rfl⟩, v', hQ4, hF4⟩
      have HQ4 := Aside0.mk hQ4
      have HF4 := Aside0.mk hF4
      clear hQ4 hF4
      go_wp2_with fail
      go_ret
      exact ⟨⟨_, rfl⟩, v', by rw [RL.out]; exact HQ4.out, ((HF1.out.trans HF2.out (fun _ _ h => h)).trans HF3.out (fun _ _ h => h)).trans HF4.out (fun _ _ h => h)⟩
    · have hle := downL_ge (n + 1) (sw q i n) i n
      have e1 : Aside0 (decide (i < (downL (n + 1) (sw q i n) i n).2) = true) := ⟨decide_eq_true (by omega)⟩
      have e2 := Aside0.mk (fixL_move hs)
      clear hs hdl hle
      go_enter Try.func57, Try.ntmps57
      go_wp2_with fail
      refine (len_any W A (n + 1) c).mono ?_
      rintro e w' ⟨rfl, rfl⟩
      go_wp2_with fail
      refine (swap_any w' S C m _ q i n HQ.out (by rw [HN.out]; omega) (by rw [HN.out]; omega) (by omega)).mono ?_
      rintro e w1 ⟨rfl, hQ1, hF1⟩
      have HQ1 := Aside0.mk hQ1
      have HF1 := Aside0.mk hF1
      clear hQ1 hF1
      go_wp2_with fail
      refine (down_any w1 S C m _ _ i n HQ1.out hlt (by rw [HSL.out]; omega)).mono ?_
      rw [e1.out]
      rintro e w2 ⟨rfl, hQ2, hF2⟩
      rw [← e2.out] at hQ2
      have HQ2 := Aside0.mk hQ2
      have HF2 := Aside0.mk hF2
      have mP := reach_Pop w2 C
      rw [tsize] at mP
      clear hQ2 hF2
      go_wp2_with fail
      refine (pop_any w2 S C m _ _ n HQ2.out FL.out).mono ?_
      rintro e w4 ⟨⟨x, rfl⟩, v', hQ4, hF4⟩
      have HQ4 := Aside0.mk hQ4
      have HF4 := Aside0.mk hF4
      clear hQ4 hF4
      go_wp2_with fail
      go_ret
      exact ⟨⟨_, rfl⟩, v', by rw [RL.out]; exact HQ4.out, (HF1.out.trans HF2.out (fun _ _ h => h)).trans HF4.out (fun _ _ h => h)⟩
end Go.Proofs.Ytmoahkdadeiahaa.AlarmQ
