-- WRITTEN BY a program of this session's (wip/gprint.py, over the kit's print), with functions given by hand among them. Not trusted: Lean checks it.
import Derived.Test.YtimpfiaolblgmaaN0
import Derived.Test.YtimpfiaolblgmaaAlarmN
namespace Go.Proofs.Ytimpfiaolblgmaa.N
open Go.RowKit Go.Proofs.YtimpfiaolblgmaaW.PrintWords Go.Proofs.YtimpfiaolblgmaaW.PrintLast Go.Proofs.YtimpfiaolblgmaaW.PrintMore
attribute [local go_sem] max2_int min2_int max_two min_two max_three min_three max_four min_four   -- for this text's walks alone
set_option linter.unusedVariables false
set_option linter.unusedSimpArgs false

-- GIVEN imports=Derived.Test.YtimpfiaolblgmaaAlarmN
/-! ### folkmootlaw06_AlarmNil: function 6, given -/
def folkmootlaw06_AlarmNil.f (a0 : Int) (a1 : Int) : Option Bool := some true
theorem folkmootlaw06_AlarmNil.calls (a0 : Int) (a1 : Int) (r : Bool) (w : World) (h : folkmootlaw06_AlarmNil.f a0 a1 = some r) :
    Calls Try.prog 6 #[.int .i64 a0, .int .i64 a1] w fun e w' => e = .returned (.bool r) ∧ Below w.heap.size w w' := by
  obtain rfl := Option.some.inj h
  exact Go.Proofs.Ytimpfiaolblgmaa.AlarmQ.alarmNil_any w a0 a1

/-- THE ONE PURE STATEMENT of folkmootlaw06_AlarmNil: yours. -/
def folkmootlaw06_AlarmNil.Pure : Prop := ∀ (a0 : Int) (a1 : Int), (Lit.int .i64 a0).wf = true → (Lit.int .i64 a1).wf = true → folkmootlaw06_AlarmNil.f a0 a1 = some true
theorem folkmootlaw06_AlarmNil.walk (P : folkmootlaw06_AlarmNil.Pure) (a0 : Int) (a1 : Int) (w : World) (w0 : (Lit.int .i64 a0).wf = true) (w1 : (Lit.int .i64 a1).wf = true) :
    Calls Try.prog 6 #[.int .i64 a0, .int .i64 a1] w fun e w' => e = .returned (.bool true) ∧ Below w.heap.size w w' := by
  have h := P a0 a1 w0 w1
  refine (folkmootlaw06_AlarmNil.calls a0 a1 true w h).mono ?_
  rintro e w' ⟨rfl, hd⟩
  exact ⟨rfl, hd⟩

end Go.Proofs.Ytimpfiaolblgmaa.N
