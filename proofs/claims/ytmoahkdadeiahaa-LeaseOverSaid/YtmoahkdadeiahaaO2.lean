-- WRITTEN BY a program of this session's (wip/gprint.py, over the kit's print), with functions given by hand among them. Not trusted: Lean checks it.
import Derived.Test.YtmoahkdadeiahaaO0
import Derived.BigRegion
import Derived.ChangeAlike
import Derived.RegionTactic
import Derived.Test.YtmoahkdadeiahaaSteadyMath
namespace Go.Proofs.Ytmoahkdadeiahaa.O
open Go.RowKit Go.Proofs.YtmoahkdadeiahaaW.PrintWords Go.Proofs.YtmoahkdadeiahaaW.PrintLast Go.Proofs.YtmoahkdadeiahaaW.PrintMore
attribute [local go_sem] max2_int min2_int max_two min_two max_three min_three max_four min_four   -- for this text's walks alone
set_option linter.unusedVariables false
set_option linter.unusedSimpArgs false

-- GIVEN imports=Derived.RegionTactic,Derived.ChangeAlike,Derived.BigRegion,Derived.Test.YtmoahkdadeiahaaSteadyMath
/-! ### lease_gauge_tell: function 31, given -/
open Go.Proofs.Ytmoahkdadeiahaa.SteadyMath
/-! #### (*gauge).tell: one's clock beside the world's, by hand -/
def GB (W : World) (g : Nat) (n : Int) (d : Bool) (le mo t wd : Int) : Prop := W.heap[g]? = some (.cells #[.int .i64 n, .bool d, .int .i64 le, .int .i64 mo, .int .i64 t, .int .i64 wd] 55 (0, 0))
section
variable {W : World} {g : Nat} {n le mo t wd : Int} {d : Bool}
theorem GB.c0 (h : GB W g n d le mo t wd) : W.cell? ⟨g, 0, none⟩ = some (.int .i64 n) := by unfold GB at h; simp [World.cell?, h]
theorem GB.c1 (h : GB W g n d le mo t wd) : W.cell? ⟨g, 1, none⟩ = some (.bool d) := by unfold GB at h; simp [World.cell?, h]
theorem GB.c2 (h : GB W g n d le mo t wd) : W.cell? ⟨g, 2, none⟩ = some (.int .i64 le) := by unfold GB at h; simp [World.cell?, h]
theorem GB.c3 (h : GB W g n d le mo t wd) : W.cell? ⟨g, 3, none⟩ = some (.int .i64 mo) := by unfold GB at h; simp [World.cell?, h]
theorem GB.c4 (h : GB W g n d le mo t wd) : W.cell? ⟨g, 4, none⟩ = some (.int .i64 t) := by unfold GB at h; simp [World.cell?, h]
theorem GB.c5 (h : GB W g n d le mo t wd) : W.cell? ⟨g, 5, none⟩ = some (.int .i64 wd) := by unfold GB at h; simp [World.cell?, h]
theorem GB.fr (h : GB W g n d le mo t wd) (o : Nat) : W.frozen? ⟨g, o, none⟩ = false := by unfold GB at h; simp [World.frozen?, h]
end
theorem own_refl (w : World) (row : Option Nat) : w.grownBy w row := ⟨rfl, rfl, rfl, Nat.le_refl _, fun _ _ _ => rfl⟩
theorem cells_set {W : World} {g T : Nat} {cur : Array Value} (h : W.heap[g]? = some (.cells cur T (0, 0))) (j : Nat) (u : Value) : (W.setCell ⟨g, j, none⟩ u).heap[g]? = some (.cells (cur.setIfInBounds j u) T (0, 0)) := by
  rw [Sort.setCell_eq]
  show (W.heap.modify g (Sort.onCells _))[g]? = _
  rw [Array.getElem?_modify, if_pos rfl, h]
  rfl
theorem grown_set {w W : World} {g : Nat} (h : w.grownBy W (some g)) (j : Nat) (u : Value) : w.grownBy (W.setCell ⟨g, j, none⟩ u) (some g) :=
  ⟨h.os, h.tape, h.output, by simpa [World.setCell] using h.size, fun k hk hne => by
    rw [Below.heap_setCell _ _ _ _ (by intro e; subst e; exact hne rfl)]
    exact h.block k hk hne⟩
theorem grown_drew {w W : World} {row : Option Nat} (h : w.grownBy W row) : w.grownBy W.drew row := ⟨h.os, h.tape, h.output, h.size, h.block⟩
theorem grown_drewN {w W : World} {row : Option Nat} (h : w.grownBy W row) (q : Nat) : w.grownBy (W.drewN q) row := ⟨h.os, h.tape, h.output, h.size, h.block⟩

theorem GB.s0 {W : World} {g : Nat} {n le mo t wd : Int} {d : Bool} (h : GB W g n d le mo t wd) (u : Int) : GB (W.setCell ⟨g, 0, none⟩ (.int .i64 u)) g u d le mo t wd := by
  have := cells_set h 0 (Value.int .i64 u)
  simpa [GB] using this
theorem GB.s1 {W : World} {g : Nat} {n le mo t wd : Int} {d : Bool} (h : GB W g n d le mo t wd) (u : Bool) : GB (W.setCell ⟨g, 1, none⟩ (.bool u)) g n u le mo t wd := by
  have := cells_set h 1 (Value.bool u)
  simpa [GB] using this
theorem GB.s2 {W : World} {g : Nat} {n le mo t wd : Int} {d : Bool} (h : GB W g n d le mo t wd) (u : Int) : GB (W.setCell ⟨g, 2, none⟩ (.int .i64 u)) g n d u mo t wd := by
  have := cells_set h 2 (Value.int .i64 u)
  simpa [GB] using this
theorem GB.s3 {W : World} {g : Nat} {n le mo t wd : Int} {d : Bool} (h : GB W g n d le mo t wd) (u : Int) : GB (W.setCell ⟨g, 3, none⟩ (.int .i64 u)) g n d le u t wd := by
  have := cells_set h 3 (Value.int .i64 u)
  simpa [GB] using this
theorem GB.s4 {W : World} {g : Nat} {n le mo t wd : Int} {d : Bool} (h : GB W g n d le mo t wd) (u : Int) : GB (W.setCell ⟨g, 4, none⟩ (.int .i64 u)) g n d le mo u wd := by
  have := cells_set h 4 (Value.int .i64 u)
  simpa [GB] using this
theorem GB.s5 {W : World} {g : Nat} {n le mo t wd : Int} {d : Bool} (h : GB W g n d le mo t wd) (u : Int) : GB (W.setCell ⟨g, 5, none⟩ (.int .i64 u)) g n d le mo t u := by
  have := cells_set h 5 (Value.int .i64 u)
  simpa [GB] using this
theorem GB.dr {W : World} {g : Nat} {n le mo t wd : Int} {d : Bool} (h : GB W g n d le mo t wd) : GB W.drew g n d le mo t wd := h
theorem GB.drN {W : World} {g : Nat} {n le mo t wd : Int} {d : Bool} (h : GB W g n d le mo t wd) (q : Nat) : GB (W.drewN q) g n d le mo t wd := h

set_option maxHeartbeats 1000000 in
theorem tell_turn (g : Nat) (n le mo t wd : Int) (d : Bool) (w : World) (h : GB w g n d le mo t wd) (h1 : 1 ≤ n) (h2 : n ≤ 9223372036854775807) :
    Calls Try.prog 31 #[.pointer (some ⟨g, 0, none⟩), .int .i64 (-n)] w fun e w' => e = .returned (.bool true) ∧ GB w' g n (!d) 0 0 0 0 ∧ w.grownBy w' (some g) := by
  have k0 := h.c0; have k1 := h.c1; have k2 := h.c2; have k3 := h.c3; have k4 := h.c4; have k5 := h.c5
  have f0 := h.fr 0; have f1 := h.fr 1; have f2 := h.fr 2; have f3 := h.fr 3; have f4 := h.fr 4; have f5 := h.fr 5
  have H := Aside0.mk h
  clear h
  go_enter Try.func31, Try.ntmps31
  go_wp2
  go_region
  all_goals go_wp2
  go_ret
  exact ⟨rfl, ((((((H.out.s0 _).s1 _).s2 _).s3 _).s4 _).s5 _).dr, grown_drew (grown_set (grown_set (grown_set (grown_set (grown_set (grown_set (own_refl w _) 0 _) 1 _) 2 _) 3 _) 4 _) 5 _)⟩

set_option maxHeartbeats 1000000 in
theorem tell_idle (g : Nat) (n le mo t wd x : Int) (d : Bool) (w : World) (h : GB w g n d le mo t wd) (h1 : 1 ≤ n) (h2 : n ≤ 9223372036854775807) (hx : x ≠ -n) (hd : d = true ∨ (x ≠ 0 ∧ x ≠ n)) :
    Calls Try.prog 31 #[.pointer (some ⟨g, 0, none⟩), .int .i64 x] w fun e w' => e = .returned (.bool true) ∧ GB w' g n d le mo t wd ∧ w.grownBy w' (some g) := by
  have k0 := h.c0; have k1 := h.c1
  have H := Aside0.mk h
  clear h
  have e1 : (x == -n) = false := beq_eq_false_iff_ne.2 hx
  rcases hd with rfl | ⟨hx0, hxn⟩
  · clear hx
    go_enter Try.func31, Try.ntmps31
    go_wp2
    go_ret
    exact ⟨rfl, H.out, own_refl w _⟩
  · have e2 : (x != 0) = true := bne_iff_ne.2 hx0
    have e3 : (x != n) = true := bne_iff_ne.2 hxn
    clear hx hx0 hxn
    cases d with
    | true =>
      go_enter Try.func31, Try.ntmps31
      go_wp2
      go_ret
      exact ⟨rfl, H.out, own_refl w _⟩
    | false =>
      go_enter Try.func31, Try.ntmps31
      go_wp2
      go_ret
      exact ⟨rfl, H.out, own_refl w _⟩

set_option maxHeartbeats 2000000 in
theorem tell_world (g : Nat) (n le mo t wd : Int) (w : World) (h : GB w g n false le mo t wd) (h1 : 1 ≤ n) (h2 : n ≤ 9223372036854775807) (b1 : 0 ≤ t ∧ t ≤ 1000) (b2 : 0 ≤ wd ∧ wd ≤ 1000) (b3 : -10000 ≤ le ∧ le ≤ 0) (b4 : -10000 ≤ mo ∧ mo ≤ 0) :
    Calls Try.prog 31 #[.pointer (some ⟨g, 0, none⟩), .int .i64 0] w fun e w' => e = .returned (.bool (okB le mo (t - 2 * (wd + 1)) (wd + 1 - 2 * t))) ∧ GB w' g n false (min le (t - 2 * (wd + 1))) (min mo (wd + 1 - 2 * t)) t (wd + 1) ∧ w.grownBy w' (some g) := by
  have k0 := h.c0; have k1 := h.c1; have k2 := h.c2; have k3 := h.c3; have k4 := h.c4; have k5 := h.c5
  have f0 := h.fr 0; have f1 := h.fr 1; have f2 := h.fr 2; have f3 := h.fr 3; have f4 := h.fr 4; have f5 := h.fr 5
  have e1 : ((0 : Int) == -n) = false := beq_eq_false_iff_ne.2 (by omega)
  obtain ⟨b11, b12⟩ := b1
  obtain ⟨b21, b22⟩ := b2
  obtain ⟨b31, b32⟩ := b3
  obtain ⟨b41, b42⟩ := b4
  have FIN : Aside0 (∀ (l2 m2 : Int) (q : Nat), l2 = min le (t - 2 * (wd + 1)) → m2 = min mo (wd + 1 - 2 * t) →
      GB ((((w.setCell ⟨g, 5, none⟩ (.int .i64 (wd + 1))).drewN q).setCell ⟨g, 2, none⟩ (.int .i64 l2)).setCell ⟨g, 3, none⟩ (.int .i64 m2)) g n false (min le (t - 2 * (wd + 1))) (min mo (wd + 1 - 2 * t)) t (wd + 1) ∧
        w.grownBy ((((w.setCell ⟨g, 5, none⟩ (.int .i64 (wd + 1))).drewN q).setCell ⟨g, 2, none⟩ (.int .i64 l2)).setCell ⟨g, 3, none⟩ (.int .i64 m2)) (some g)) := ⟨fun l2 m2 q hl hm => by
    subst hl
    subst hm
    exact ⟨(((h.s5 _).drN q).s2 _).s3 _, grown_set (grown_set (grown_drewN (grown_set (own_refl w _) 5 _) q) 2 _) 3 _⟩⟩
  clear h
  go_enter Try.func31, Try.ntmps31
  go_wp2
  go_quiet (fail)
  by_cases c1 : t - 2 * (wd + 1) - le ≤ 2
  · have c1b : decide (t - 2 * (wd + 1) - le ≤ 2) = true := decide_eq_true c1
    go_wp2
    go_region
    all_goals go_wp2
    all_goals go_ret
    all_goals
      refine ⟨by first | (simp [okB, c1]; done) | (simp [okB]; omega), ?_⟩
      exact FIN.out _ _ _ (by omega) (by omega)
  · have c1b : decide (t - 2 * (wd + 1) - le ≤ 2) = false := decide_eq_false c1
    go_wp2
    go_region
    all_goals go_wp2
    all_goals go_ret
    all_goals
      refine ⟨by first | (simp [okB, c1]; done) | (simp [okB]; omega), ?_⟩
      exact FIN.out _ _ _ (by omega) (by omega)
set_option maxHeartbeats 2000000 in
theorem tell_tick (g : Nat) (n le mo t wd : Int) (w : World) (h : GB w g n false le mo t wd) (h1 : 1 ≤ n) (h2 : n ≤ 9223372036854775807) (b1 : 0 ≤ t ∧ t ≤ 1000) (b2 : 0 ≤ wd ∧ wd ≤ 1000) (b3 : -10000 ≤ le ∧ le ≤ 0) (b4 : -10000 ≤ mo ∧ mo ≤ 0) :
    Calls Try.prog 31 #[.pointer (some ⟨g, 0, none⟩), .int .i64 n] w fun e w' => e = .returned (.bool (okB le mo (t + 1 - 2 * wd) (wd - 2 * (t + 1)))) ∧ GB w' g n false (min le (t + 1 - 2 * wd)) (min mo (wd - 2 * (t + 1))) (t + 1) wd ∧ w.grownBy w' (some g) := by
  have k0 := h.c0; have k1 := h.c1; have k2 := h.c2; have k3 := h.c3; have k4 := h.c4; have k5 := h.c5
  have f0 := h.fr 0; have f1 := h.fr 1; have f2 := h.fr 2; have f3 := h.fr 3; have f4 := h.fr 4; have f5 := h.fr 5
  have e1 : ((n : Int) == -n) = false := beq_eq_false_iff_ne.2 (by omega)
  have e2 : (n == 0) = false := beq_eq_false_iff_ne.2 (by omega)
  have e3 : (n != 0) = true := bne_iff_ne.2 (by omega)
  have e4 : (n != n) = false := by simp
  have e5 : (n == n) = true := by simp
  obtain ⟨b11, b12⟩ := b1
  obtain ⟨b21, b22⟩ := b2
  obtain ⟨b31, b32⟩ := b3
  obtain ⟨b41, b42⟩ := b4
  have FIN : Aside0 (∀ (l2 m2 : Int) (q : Nat), l2 = min le (t + 1 - 2 * wd) → m2 = min mo (wd - 2 * (t + 1)) →
      GB ((((w.setCell ⟨g, 4, none⟩ (.int .i64 (t + 1))).drewN q).setCell ⟨g, 2, none⟩ (.int .i64 l2)).setCell ⟨g, 3, none⟩ (.int .i64 m2)) g n false (min le (t + 1 - 2 * wd)) (min mo (wd - 2 * (t + 1))) (t + 1) wd ∧
        w.grownBy ((((w.setCell ⟨g, 4, none⟩ (.int .i64 (t + 1))).drewN q).setCell ⟨g, 2, none⟩ (.int .i64 l2)).setCell ⟨g, 3, none⟩ (.int .i64 m2)) (some g)) := ⟨fun l2 m2 q hl hm => by
    subst hl
    subst hm
    exact ⟨(((h.s4 _).drN q).s2 _).s3 _, grown_set (grown_set (grown_drewN (grown_set (own_refl w _) 4 _) q) 2 _) 3 _⟩⟩
  clear h
  go_enter Try.func31, Try.ntmps31
  go_wp2
  go_quiet (fail)
  by_cases c1 : t + 1 - 2 * wd - le ≤ 2
  · have c1b : decide (t + 1 - 2 * wd - le ≤ 2) = true := decide_eq_true c1
    go_wp2
    go_region
    all_goals go_wp2
    all_goals go_ret
    all_goals
      refine ⟨by first | (simp [okB, c1]; done) | (simp [okB]; omega), ?_⟩
      exact FIN.out _ _ _ (by omega) (by omega)
  · have c1b : decide (t + 1 - 2 * wd - le ≤ 2) = false := decide_eq_false c1
    go_wp2
    go_region
    all_goals go_wp2
    all_goals go_ret
    all_goals
      refine ⟨by first | (simp [okB, c1]; done) | (simp [okB]; omega), ?_⟩
      exact FIN.out _ _ _ (by omega) (by omega)

end Go.Proofs.Ytmoahkdadeiahaa.O
