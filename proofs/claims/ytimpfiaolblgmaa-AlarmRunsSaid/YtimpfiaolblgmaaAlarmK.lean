/- The clock's Clear, and the nil ways of Set and Clear. -/
import Derived.Test.YtimpfiaolblgmaaAlarmG
namespace Go.Proofs.Ytimpfiaolblgmaa.AlarmQ
open Go.Shelf Go.Maps Go.RowKit Go.Proofs.YtimpfiaolblgmaaW.PrintWords Go.Proofs.Ytimpfiaolblgmaa.AlarmMath Go.Proofs.Ytimpfiaolblgmaa.Blk
set_option linter.unusedVariables false
set_option linter.unusedSimpArgs false
theorem set_nil (W : World) (id t : Int) : Calls Try.prog 8 #[.pointer none, .int .i64 id, .int .i64 t] W fun e w' => e = .returned (.int .i64 3) ∧ w' = W := by
  go_enter Try.func8, Try.ntmps8
  go_wp2
  go_ret
  exact ⟨rfl, rfl⟩
theorem clear_nil (W : World) (id : Int) : Calls Try.prog 10 #[.pointer none, .int .i64 id] W fun e w' => e = .returned (.int .i64 3) ∧ w' = W := by
  go_enter Try.func10, Try.ntmps10
  go_wp2
  go_ret
  exact ⟨rfl, rfl⟩
set_option maxHeartbeats 1000000 in
theorem clear_none (W : World) (S : Nat → Prop) (C N : Nat) (q : List It) (hC : CAt W S C N q) (id : Int) (wid : (Lit.int .i64 id).wf = true) (hno : ∀ x ∈ q, x.2.1 ≠ id) :
    Calls Try.prog 10 #[.pointer (some ⟨C, 0, none⟩), .int .i64 id] W fun e w' => e = .returned (.int .i64 50) ∧ w' = W := by
  obtain ⟨⟨v, m, n, D, hQ, hSm, hM, hn, hOK⟩, hHp, hids, hwf, hle⟩ := hC
  obtain ⟨o1, o2⟩ := hOK id wid
  have hhas : has D (.int .i64 id) = false := by
    cases h : has D (.int .i64 id) with
    | false => rfl
    | true => obtain ⟨x, hx, e⟩ := o1.1 h; exact absurd e (hno x hx)
  have hkey := keyOf_int_mk (P := Try.prog) Try.underlying3 wid
  have c1 := hQ.c1
  have HM := Aside0.mk hM
  have HKEY := Aside0.mk hkey
  clear hQ hM hOK hHp hids hwf o1 o2 hkey hno
  go_enter Try.func10, Try.ntmps10
  go_wp2_with (first
    | (at_lookup; refine wpList_lookup_own_ok W rfl _ _ 46 rfl 3 51 keyed Try.underlying46 ptrR (zero_item _) .nil [] rfl m n D rfl HM.out (.int .i64 id) (.int .i64 id) rfl HKEY.out ?_; intro v' ps hv; clear hv))
  go_ret
  exact ⟨rfl, rfl⟩
end Go.Proofs.Ytimpfiaolblgmaa.AlarmQ
