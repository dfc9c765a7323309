/- slices.Sort, within and rising at rows of one number or none. -/
import Derived.Test.YtmoahkdadeiahaaAlarmY2
import Derived.Test.YtmoahkdadeiahaaO4
import Derived.Test.YtmoahkdadeiahaaO9
namespace Go.Proofs.Ytmoahkdadeiahaa.AlarmQ
open Go.Shelf Go.Maps Go.RowKit Go.Proofs.YtmoahkdadeiahaaW.PrintWords Go.Proofs.Ytmoahkdadeiahaa.AlarmMath Go.Proofs.Ytmoahkdadeiahaa.Blk Go.Proofs.Ytmoahkdadeiahaa.AlarmP
set_option linter.unusedVariables false
set_option linter.unusedSimpArgs false
def SomeI (W : World) (e : Ending) (w' : World) : Prop := (∃ r : Int, e = .returned (.int .i64 r)) ∧ W = w'
set_option maxRecDepth 100000 in
theorem len64_small (n : Nat) (hn : n = 0 ∨ n = 1) (W : World) : Calls Try.prog 68 #[.int .u64 n] W (SomeI W) := by
  rcases hn with rfl | rfl
  · go_enter Try.func68, Try.ntmps68
    go_wp2
    go_ret
    exact ⟨⟨_, rfl⟩, rfl⟩
  · go_enter Try.func68, Try.ntmps68
    go_wp2
    go_ret
    exact ⟨⟨_, rfl⟩, rfl⟩
theorem bits_small (n : Nat) (hn : n = 0 ∨ n = 1) (W : World) : Calls Try.prog 53 #[.int .u64 n] W (SomeI W) := by
  have H := Aside0.mk (len64_small n hn W)
  clear hn
  go_enter Try.func53, Try.ntmps53
  go_wp2_with fail
  refine H.out.mono ?_
  rintro e w' ⟨⟨r, rfl⟩, rfl⟩
  go_wp2
  go_ret
  exact ⟨⟨_, rfl⟩, rfl⟩
theorem ins_small (A : Option Addr) (c n : Nat) (hn : n ≤ 1) (W : World) : Calls Try.prog 58 #[.slice A n c, .int .i64 0, .int .i64 n] W fun e w' => e = .returned (.tuple #[]) ∧ W = w' := by
  go_enter Try.func58, Try.ntmps58
  go_wp2
  go_loopw [6] (fun v wr => v = .int .i64 1 ∧ W = wr) (fun v _ => 0)
  case atStart => exact ⟨rfl, rfl⟩
  case round =>
    obtain ⟨rfl, rfl⟩ := hrel
    have hd : decide ((1 : Int) < (n : Int)) = false := decide_eq_false (by omega)
    go_wp2
    go_end0
    exact ⟨rfl, rfl⟩
set_option maxRecDepth 100000 in
theorem pdq_small (A : Option Addr) (c n : Nat) (hn : n ≤ 1) (lim : Int) (W : World) : Calls Try.prog 52 #[.slice A n c, .int .i64 0, .int .i64 n, .int .i64 lim] W fun e w' => e = .returned (.tuple #[]) ∧ W = w' := by
  have H := Aside0.mk (ins_small A c n hn W)
  go_enter Try.func52, Try.ntmps52
  go_wp2
  go_loopw [1, 2] (fun a b wr => a = .int .i64 0 ∧ b = .int .i64 n ∧ W = wr) (fun a b _ => 0)
  case atStart => exact ⟨rfl, rfl, rfl⟩
  case round =>
    obtain ⟨rfl, rfl, rfl⟩ := hrel
    have hd : decide ((n : Int) ≤ 12) = true := decide_eq_true (by omega)
    go_wp2_with fail
    refine H.out.mono ?_
    rintro e w' ⟨rfl, rfl⟩
    go_wp2
    refine bodyPost_ret (results_none rfl _ _ _) rfl ?_
    exact ⟨rfl, rfl⟩
theorem sort_small (A : Option Addr) (c n : Nat) (hn : n = 0 ∨ n = 1) (W : World) : Calls Try.prog 45 #[.slice A n c] W fun e w' => e = .returned (.tuple #[]) ∧ W = w' := by
  have hn1 : n ≤ 1 := by omega
  have H := Aside0.mk (bits_small n hn W)
  have H2 := Aside0.mk (fun lim => pdq_small A c n hn1 lim W)
  clear hn
  go_enter Try.func45, Try.ntmps45
  go_wp2_with fail
  refine H.out.mono ?_
  rintro e w' ⟨⟨r, rfl⟩, rfl⟩
  go_wp2_with fail
  refine (H2.out r).mono ?_
  rintro e w' ⟨rfl, rfl⟩
  go_wp2
  go_end0
  exact ⟨rfl, rfl⟩
theorem lw_true (a b : Int) (h1 : 0 ≤ a) (h2 : a ≤ b) (W : World) : Calls Try.prog 34 #[.int .i64 a, .int .i64 b] W fun e w' => e = .returned (.bool true) ∧ W = w' := by
  have d1 : decide (0 ≤ a) = true := decide_eq_true h1
  have d2 : decide (a ≤ b) = true := decide_eq_true h2
  go_enter Try.func34, Try.ntmps34
  go_wp2
  go_ret
  exact ⟨rfl, rfl⟩
end Go.Proofs.Ytmoahkdadeiahaa.AlarmQ
