-- WRITTEN BY a program of this session's (wip/gprint.py, over the kit's print), with functions given by hand among them. Not trusted: Lean checks it.
import Derived.Test.YtmoahkdadeiahaaO0
import Derived.Lib.SliceRun
import Derived.OwnWalk
namespace Go.Proofs.Ytmoahkdadeiahaa.O
open Go.RowKit Go.Proofs.YtmoahkdadeiahaaW.PrintWords Go.Proofs.YtmoahkdadeiahaaW.PrintLast Go.Proofs.YtmoahkdadeiahaaW.PrintMore
attribute [local go_sem] max2_int min2_int max_two min_two max_three min_three max_four min_four   -- for this text's walks alone
set_option linter.unusedVariables false
set_option linter.unusedSimpArgs false

-- GIVEN imports=Derived.OwnWalk,Derived.Lib.SliceRun
/-! ### api_Sent: function 47, given -/
def api_Sent.f (l0 : List (S59)) : Option (List (S59)) := if l0.length * 16 ≤ 140737488355328 then some l0 else none
set_option maxHeartbeats 1000000 in
theorem api_Sent.calls (A0 : Option Addr) (c0 : Nat) (l0 : List (S59)) (r : List (S59)) (w : World) (hr0 : Kd.C k59 w A0 l0.length l0) (hc0 : l0.length ≤ c0) (h : api_Sent.f l0 = some r) :
    Calls Try.prog 47 #[.slice A0 l0.length c0] w fun e w' => ∃ v0_ : Value, e = .returned (v0_) ∧ Kd.R k59 59 w' w.heap.size (fun _ => True) v0_ r ∧ Below w.heap.size w w' := by
  unfold api_Sent.f at h
  split at h
  · rename_i hbig
    obtain rfl := Option.some.inj h
    clear h
    have q22 : ∀ (w : World) (a : Option Addr) (n c n' c' : Nat), (binOp .eql 27 (.slice a n c) (.slice none n' c')).run Try.prog w = .ok (.bool a.isNone) w := fun w a n c n' c' => Lib.run_eql_slice_nil w _ _ a n c n' c' Try.underlying27
    cases A0 with
    | none =>
      have h0 : l0 = [] := by
        rcases Nat.eq_zero_or_pos l0.length with h0 | h0
        · exact List.length_eq_zero_iff.1 h0
        · obtain ⟨ad, e, _⟩ := hr0.2.2 h0
          cases e
      subst h0
      clear hr0 hbig
      go_enter Try.func47, Try.ntmps47
      go_wp2
      go_ret
      exact ⟨_, rfl, Kd.R_nil _ _ _ _ _, Below.refl _ _⟩
    | some ad =>
      obtain ⟨inner, hrep, hcl⟩ := ReadsRow.inner_ hr0
      have hl := hr0.2.1
      have hln : inner.length = l0.length * 2 := hrep.1
      have HONE : Aside0 (∀ u ∈ inner, u.oneCell' = true) := ⟨by
        intro u hu
        obtain ⟨m, hm⟩ := List.getElem?_of_mem hu
        have hml := (List.getElem?_eq_some_iff.1 hm).1
        have hd : m / 2 < l0.length := by omega
        have h2 := hrep.2 (m / 2) l0[m / 2] (List.getElem?_eq_getElem hd)
        have h3 := k59_open h2
        have h4 : ((inner.drop (m / 2 * 2)).take 2)[m % 2]? = some u := by
          rw [List.getElem?_take, if_pos (Nat.mod_lt _ (by decide)), List.getElem?_drop, show m / 2 * 2 + m % 2 = m by omega]
          exact hm
        have h5 : (inner.drop (m / 2 * 2)).take 2 = [.int .i64 l0[m / 2].f0, .int .i64 l0[m / 2].f1] := h3
        rw [h5] at h4
        have h6 := List.mem_of_getElem? h4
        simp at h6
        rcases h6 with rfl | rfl <;> rfl⟩
      have HREP := Aside0.mk hrep
      have A : Aside0 (∀ j u, inner[j]? = some u → w.cell? (ad.add j) = some u) := ⟨hcl⟩
      have HLN := Aside0.mk hln
      clear hcl hr0 hrep hln
      generalize hn : l0.length = n at *
      have HN := Aside0.mk hn
      clear hn
      obtain ⟨i0, hi, hz0, hz1, hz2⟩ := info_parts (show (Try.prog.info? 59).map (fun i => (i.zero, i.size, i.bytes)) = some (some (.agg #[.int .i64 0, .int .i64 0]), 2, 16) by kernel_rfl)
      go_enter Try.func47, Try.ntmps47
      go_wp2_with (at_builtin; refine wpList_append_own _ rfl _ _ 27 rfl w.heap.size 59 i0 (.agg #[.int .i64 0, .int .i64 0]) 2 16 Try.underlying27 hi hz0 hz1 hz2 rfl (by decide) _ _ _ rfl (World.ownsRow_made w #[] 0 (Nat.le_refl _) (Nat.zero_le _) rfl) ad n c0 inner rfl ?qc1 ?qc2 ?qc3 ?qc4 ?qc5 ?qc6 ?_)
      case qc1 => exact HLN.out
      case qc2 =>
        intro j u hj
        exact Lib.cell?_alloc_some _ (A.out j u hj)
      case qc3 => exact HONE.out
      case qc4 => unfold maxLen; omega
      case qc5 => omega
      case qc6 => simp
      intro v' w1 hown hgrow hnil
      go_wp2
      go_ret
      refine ⟨v', rfl, ⟨fun _ _ => trivial, inner, ?_, ?_⟩, ?_⟩
      · show w1.ownsRow w.heap.size 59 2 v' l0.length _
        rw [HN.out]
        simpa using hown
      · exact HREP.out.imp_ (fun x cs hp => by have e := k59_open hp; subst e; exact k59_mkM _ _ _ x)
      · exact ((Below.refl _ w).alloc (Nat.le_refl _) _).grown hgrow (by simp) (by intro k hk; simp [Value.ownBlock] at hk; omega)
  · cases h

end Go.Proofs.Ytmoahkdadeiahaa.O
