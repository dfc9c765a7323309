-- WRITTEN BY a program of this session's (wip/gprint.py, over the kit's print), with functions given by hand among them. Not trusted: Lean checks it.
import Derived.Test.YtimpfiaolblgmaaR0
import Derived.Test.YtimpfiaolblgmaaAlarmRunsW
namespace Go.Proofs.Ytimpfiaolblgmaa.R
open Go.RowKit Go.Proofs.YtimpfiaolblgmaaW.PrintWords Go.Proofs.YtimpfiaolblgmaaW.PrintLast Go.Proofs.YtimpfiaolblgmaaW.PrintMore
attribute [local go_sem] max2_int min2_int max_two min_two max_three min_three max_four min_four   -- for this text's walks alone
set_option linter.unusedVariables false
set_option linter.unusedSimpArgs false

-- GIVEN imports=Derived.Test.YtimpfiaolblgmaaAlarmRunsW
/-! ### folkmootlaw06_AlarmRuns: function 3, given -/
def folkmootlaw06_AlarmRuns.f (l0 : List S30) : Option Bool := if l0.all (fun x => (Lit.int .i64 x.f1).wf && (Lit.int .i64 x.f2).wf) = true then some true else none
theorem folkmootlaw06_AlarmRuns.calls (A0 : Option Addr) (c0 : Nat) (l0 : List S30) (r : Bool) (w : World) (hr0 : Kd.C k30 w A0 l0.length l0) (hc0 : l0.length ≤ c0) (h : folkmootlaw06_AlarmRuns.f l0 = some r) :
    Calls Try.prog 3 #[.slice A0 l0.length c0] w fun e w' => e = .returned (.bool r) ∧ Below w.heap.size w w' := by
  unfold folkmootlaw06_AlarmRuns.f at h
  split at h
  · rename_i hw
    obtain rfl := Option.some.inj h
    have hl : (l0.map (fun x => (x.f0, x.f1, x.f2))).length = l0.length := by simp
    have key := Go.Proofs.Ytimpfiaolblgmaa.AlarmQ.alarmRuns_any w A0 c0 (l0.map (fun x => (x.f0, x.f1, x.f2))) ?_ (by rw [hl]; exact hc0) ?_
    · rw [hl] at key
      exact key
    · intro k o ho
      rw [List.getElem?_map] at ho
      obtain ⟨x, hx, rfl⟩ := Option.map_eq_some_iff.1 ho
      have hk : k < l0.length := (List.getElem?_eq_some_iff.1 hx).1
      obtain ⟨ad, e, _⟩ := at_T30 hr0 (k : Int) (by omega) (by omega)
      refine ⟨ad, e, fun w' hb => ?_⟩
      obtain ⟨ad', e', h0, h1, h2⟩ := at_T30 (Kd.C_below hr0 hb) (k : Int) (by omega) (by omega)
      rw [e] at e'
      injection e' with e'
      subst e'
      have er : rd_T30 l0 (k : Int) = x := by unfold rd_T30; simp [List.getD_eq_getElem?_getD, hx]
      rw [er] at h0 h1 h2
      exact ⟨by simpa using h0, by simpa using h1, by simpa using h2⟩
    · intro x hx
      obtain ⟨y, hy, rfl⟩ := List.mem_map.1 hx
      have := List.all_eq_true.1 hw y hy
      simpa using this
  · cases h

end Go.Proofs.Ytimpfiaolblgmaa.R
