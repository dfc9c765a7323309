-- WRITTEN BY a program of this session's (wip/gprint.py, over the kit's print), with functions given by hand among them. Not trusted: Lean checks it.
import Derived.Test.YtjoogjcbamnnbaaB0
import Derived.Test.YtjoogjcbamnnbaaGen
import Derived.Test.YtjoogjcbamnnbaaShelf
namespace Go.Proofs.Ytjoogjcbamnnbaa.B
open Go.RowKit Go.Proofs.YtjoogjcbamnnbaaW.PrintWords Go.Proofs.YtjoogjcbamnnbaaW.PrintLast Go.Proofs.YtjoogjcbamnnbaaW.PrintMore
attribute [local go_sem] max2_int min2_int max_two min_two max_three min_three max_four min_four   -- for this text's walks alone
set_option linter.unusedVariables false
set_option linter.unusedSimpArgs false

-- GIVEN imports=Derived.Test.YtjoogjcbamnnbaaShelf,Derived.Test.YtjoogjcbamnnbaaGen
/-! ### api_Set_int_49: function 49, given -/
def api_Set_int_49.f (l0 : List Int) : Option (List Int) := if l0.length * 8 ≤ 140737488355328 then some l0 else none
theorem api_Set_int_49.calls (A0 : Option Addr) (c0 : Nat) (l0 : List Int) (r : List Int) (w : World) (hr0 : Kd.C (Kd.int .i64) w A0 l0.length l0) (hc0 : l0.length ≤ c0) (h : api_Set_int_49.f l0 = some r) :
    Calls Try.prog 49 #[.slice A0 l0.length c0] w fun e w' => ∃ v0_ : Value, e = .returned (v0_) ∧ Kd.R (Kd.int .i64) 3 w' w.heap.size (fun _ => True) v0_ r ∧ Below w.heap.size w w' := by
  unfold api_Set_int_49.f at h
  split at h
  · rename_i hbig
    obtain rfl := Option.some.inj h
    clear h
    cases A0 with
    | none =>
      have h0 : l0 = [] := by
        rcases Nat.eq_zero_or_pos l0.length with h0 | h0
        · exact List.length_eq_zero_iff.1 h0
        · obtain ⟨ad, e, _⟩ := hr0.2.2 h0
          cases e
      subst h0
      refine (show Calls Try.prog 49 #[.slice none 0 c0] w _ from AnyE.slices_Clone_nil Try.laysCloneSet 0 c0 w).mono ?_
      rintro e w' ⟨rfl, rfl⟩
      exact ⟨_, rfl, Kd.R_nil _ _ _ _ _, Below.refl _ _⟩
    | some ad =>
      have hcl : ∀ j u, (l0.map (Value.int .i64))[j]? = some u → w.cell? (ad.add j) = some u := by
        intro j u hj
        have hjl : j < l0.length := by simpa using (List.getElem?_eq_some_iff.1 hj).1
        obtain ⟨ad', e, hc⟩ := hr0.2.2 (by omega)
        obtain rfl := Option.some.inj e
        obtain ⟨c, _, hK, hcell⟩ := hc j l0[j] (List.getElem?_eq_getElem hjl)
        have hK' : c = [Value.int .i64 l0[j]] := hK
        subst hK'
        have h2 := hcell 0 (Value.int .i64 l0[j]) rfl
        have h3 : u = Value.int .i64 l0[j] := by
          rw [List.getElem?_map, List.getElem?_eq_getElem hjl] at hj
          exact (Option.some.inj hj).symm
        rw [h3]
        have : j * (Kd.int .i64).sz + 0 = j := by simp [Kd.int, Kd.scalar]
        rw [this] at h2
        exact h2
      have hl := hr0.2.1
      have A : Aside0 (∀ j u, (l0.map (Value.int .i64))[j]? = some u → w.cell? (ad.add j) = some u) := ⟨hcl⟩
      clear hcl hr0
      generalize hn : l0.length = n at *
      have HN := Aside0.mk hn
      clear hn
      have q22 : ∀ (w : World) (a : Option Addr) (n c n' c' : Nat), (binOp .eql 23 (.slice a n c) (.slice none n' c')).run Try.prog w = .ok (.bool a.isNone) w := fun w a n c n' c' => Lib.run_eql_slice_nil w _ _ a n c n' c' Try.underlying23
      obtain ⟨i0, hi, hz0, hz1, hz2⟩ := info_parts (show (Try.prog.info? 3).map (fun i => (i.zero, i.size, i.bytes)) = some (some (.int .i64 0), 1, 8) by kernel_rfl)
      go_enter Try.func49, Try.ntmps49
      go_wp2_with (at_builtin; refine wpList_append_own _ rfl _ _ 23 rfl w.heap.size 3 i0 (.int .i64 0) 1 8 Try.underlying23 hi hz0 hz1 hz2 rfl (by decide) _ _ _ rfl (World.ownsRow_made w #[] 0 (Nat.le_refl _) (Nat.zero_le _) rfl) ad n c0 (l0.map (Value.int .i64)) rfl ?qc1 ?qc2 ?qc3 ?qc4 ?qc5 ?qc6 ?_)
      case qc1 => rw [List.length_map, HN.out, Nat.mul_one]
      case qc2 =>
        intro j u hj
        exact Lib.cell?_alloc_some _ (A.out j u hj)
      case qc3 => intro u hu; obtain ⟨x, _, rfl⟩ := List.mem_map.1 hu; rfl
      case qc4 => unfold maxLen; omega
      case qc5 => omega
      case qc6 => simp
      intro v' w1 hown hgrow hnil
      go_wp2
      go_ret
      refine ⟨v', rfl, ⟨fun _ _ => trivial, l0.map (Value.int .i64), ?_, ⟨?_, fun j p hj => ?_⟩⟩, ?_⟩
      · show w1.ownsRow w.heap.size 3 1 v' l0.length _
        rw [HN.out]
        simpa using hown
      · simp [Kd.int, Kd.scalar]
      · have hj' := (List.getElem?_eq_some_iff.1 hj).1
        show ((l0.map (Value.int .i64)).drop (j * 1)).take 1 = [Value.int .i64 p]
        rw [Nat.mul_one, List.drop_eq_getElem_cons (by simpa using hj')]
        have : l0[j] = p := by
          rw [List.getElem?_eq_getElem hj'] at hj
          exact Option.some.inj hj
        simp [this]
      · exact ((Below.refl _ w).alloc (Nat.le_refl _) _).grown hgrow (by simp) (by intro k hk; simp [Value.ownBlock] at hk; omega)
  · cases h

end Go.Proofs.Ytjoogjcbamnnbaa.B
