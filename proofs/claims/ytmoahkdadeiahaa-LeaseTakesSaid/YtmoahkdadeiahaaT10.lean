-- WRITTEN BY a program of this session's (wip/gprint.py, over the kit's print), with functions given by hand among them. Not trusted: Lean checks it.
import Derived.Test.YtmoahkdadeiahaaT0
import Derived.Test.YtmoahkdadeiahaaLeaseTakesW
namespace Go.Proofs.Ytmoahkdadeiahaa.T
open Go.RowKit Go.Proofs.YtmoahkdadeiahaaW.PrintWords Go.Proofs.YtmoahkdadeiahaaW.PrintLast Go.Proofs.YtmoahkdadeiahaaW.PrintMore
attribute [local go_sem] max2_int min2_int max_two min_two max_three min_three max_four min_four   -- for this text's walks alone
set_option linter.unusedVariables false
set_option linter.unusedSimpArgs false

-- GIVEN imports=Derived.Test.YtmoahkdadeiahaaLeaseTakesW
/-! ### folkmootlaw20_LeaseTakes: function 7, given -/
def folkmootlaw20_LeaseTakes.f (a0_0 : Int) (a0_1 : Int) (a0_2 : Int) (l0_3 : List (S59)) (a0_4 : Int) (a0_5 : Int) (a1 : Int) (a2 : Int) : Option Bool := some true
theorem folkmootlaw20_LeaseTakes.calls (a0_0 : Int) (a0_1 : Int) (a0_2 : Int) (A0_3 : Option Addr) (c0_3 : Nat) (l0_3 : List (S59)) (a0_4 : Int) (a0_5 : Int) (a1 : Int) (a2 : Int) (r : Bool) (w : World) (hr0_3 : Kd.C k59 w A0_3 l0_3.length l0_3) (hc0_3 : l0_3.length ≤ c0_3) (h : folkmootlaw20_LeaseTakes.f a0_0 a0_1 a0_2 l0_3 a0_4 a0_5 a1 a2 = some r) :
    Calls Try.prog 7 #[.agg #[.int .i64 a0_0, .int .i64 a0_1, .int .i64 a0_2, .slice A0_3 l0_3.length c0_3, .int .i64 a0_4, .int .i64 a0_5], .int .i64 a1, .int .i64 a2] w fun e w' => e = .returned (.bool r) ∧ Below w.heap.size w w' := by
  obtain rfl := Option.some.inj h
  exact Go.Proofs.Ytmoahkdadeiahaa.LeaseQ.leaseTakes_any w a0_0 a0_1 a0_2 A0_3 c0_3 l0_3 a0_4 a0_5 a1 a2 hr0_3 hc0_3

end Go.Proofs.Ytmoahkdadeiahaa.T
