-- WRITTEN BY a program of this session's (wip/gprint.py, over the kit's print), with functions given by hand among them. Not trusted: Lean checks it.
import Derived.Test.YtmoahkdadeiahaaO0
import Derived.Test.YtmoahkdadeiahaaO5
import Derived.Test.YtmoahkdadeiahaaO7
import Derived.Test.YtmoahkdadeiahaaO8
namespace Go.Proofs.Ytmoahkdadeiahaa.O
open Go.RowKit Go.Proofs.YtmoahkdadeiahaaW.PrintWords Go.Proofs.YtmoahkdadeiahaaW.PrintLast Go.Proofs.YtmoahkdadeiahaaW.PrintMore
attribute [local go_sem] max2_int min2_int max_two min_two max_three min_three max_four min_four   -- for this text's walks alone
set_option linter.unusedVariables false
set_option linter.unusedSimpArgs false

/-! ### folkmootlaw20_one: function 28 -/
def folkmootlaw20_one.f  : Option (Int × Int × Int × (List (S59)) × Int × Int) := some (11, 0, 0, ([] : List (S59)), 0, 0)
set_option maxHeartbeats 8000000 in
set_option maxRecDepth 100000 in
theorem folkmootlaw20_one.calls  (r1 : Int) (r2 : Int) (r3 : Int) (r4 : List (S59)) (r5 : Int) (r6 : Int) (w : World) (h : folkmootlaw20_one.f  = some (r1, r2, r3, r4, r5, r6)) :
    Calls Try.prog 28 #[] w fun e w' => ∃ v3_ : Value, e = .returned (.agg #[.int .i64 r1, .int .i64 r2, .int .i64 r3, v3_, .int .i64 r5, .int .i64 r6]) ∧ Kd.R k59 59 w' w.heap.size (fun _ => True) v3_ r4 ∧ Below w.heap.size w w' := by
  have hu29 := Try.underlying29
  have HB := Aside0.mk (Below.refl w.heap.size w)
  have H : (some (11, 0, 0, ([] : List (S59)), 0, 0)) = some (r1, r2, r3, r4, r5, r6) := h
  clear h
  simp only [Option.some.injEq, Prod.mk.injEq] at H
  obtain ⟨rfl, rfl, rfl, rfl, rfl, rfl⟩ := H
  go_enter Try.func28, Try.ntmps28
  go_wp2_with (first | ((with_reducible refine gate_dst (N := 0) rfl ?_); refine box_event ?hg (N := 0) ?hd (cs := #[.int .i64 0, .int .i64 0, .int .i64 0, .slice none 0 0, .int .i64 0, .int .i64 0]) (t := 29) ?hr ?_; (case hd => rfl); (case hg => rfl); (case hr => first | (go_simp; done) | (go_simp; rfl)); intro gb175 hg w1 hbox hb; have n0_ := Aside0.mk (below_step (by repeat (first | (with_reducible first | exact HB.out | apply below_alloc | apply pw_below_drewN | apply below_drew1) | exact HB.out)) hb); have n1_ := Aside0.mk (hbox); have n2_ := Aside0.mk ((by rw [hg]; exact (below_size (by repeat (first | (with_reducible first | exact HB.out | apply below_alloc | apply pw_below_drewN | apply below_drew1) | exact HB.out))) : w.heap.size ≤ gb175)); have n3_ := Aside0.mk ((by rw [hg]; exact (below_size (by repeat (first | (with_reducible first | exact HB.out | apply below_alloc | apply pw_below_drewN | apply below_drew1) | exact HB.out))) : w.heap.size ≤ gb175)); clear HB; have HB := n0_; have BK175 := n1_; have GW175 := n2_; have GE175 := n3_; clear n0_ n1_ n2_ n3_; clear hb hbox hg; have hcz2_0 : w1.cell? ⟨gb175, 0, none⟩ = some (.int .i64 0) := (blk_cell BK175.out 0).trans rfl; have hcz2_1 : w1.cell? ⟨gb175, 1, none⟩ = some (.int .i64 0) := (blk_cell BK175.out 1).trans rfl; have hcz2_2 : w1.cell? ⟨gb175, 2, none⟩ = some (.int .i64 0) := (blk_cell BK175.out 2).trans rfl; have hcz2_3 : w1.cell? ⟨gb175, 3, none⟩ = some (.slice none 0 0) := (blk_cell BK175.out 3).trans rfl; have hcz2_4 : w1.cell? ⟨gb175, 4, none⟩ = some (.int .i64 0) := (blk_cell BK175.out 4).trans rfl; have hcz2_5 : w1.cell? ⟨gb175, 5, none⟩ = some (.int .i64 0) := (blk_cell BK175.out 5).trans rfl; have hfz2_0 := blk_frozen BK175.out 0; have hfz2_1 := blk_frozen BK175.out 1; have hfz2_2 := blk_frozen BK175.out 2; have hfz2_3 := blk_frozen BK175.out 3; have hfz2_4 := blk_frozen BK175.out 4; have hfz2_5 := blk_frozen BK175.out 5))
  refine bodyPost_ret (results_cell_row rfl _ _ gb175 29 #[.int .i64 11, .int .i64 0, .int .i64 0, .slice none 0 0, .int .i64 0, .int .i64 0] (0, 0) _ rfl (by (with_reducible repeat (first | refine blk_drewN ?_ _ | refine blk_drew ?_ | refine blk_alloc ?_ _)); refine blk_put (cs := #[.int .i64 11, .int .i64 0, .int .i64 0, .slice none 0 0, .int .i64 0, .int .i64 0]) ?_ 5 _ rfl; (with_reducible repeat (first | refine blk_drewN ?_ _ | refine blk_drew ?_ | refine blk_alloc ?_ _)); refine blk_put (cs := #[.int .i64 11, .int .i64 0, .int .i64 0, .slice none 0 0, .int .i64 0, .int .i64 0]) ?_ 4 _ rfl; (with_reducible repeat (first | refine blk_drewN ?_ _ | refine blk_drew ?_ | refine blk_alloc ?_ _)); refine blk_put (cs := #[.int .i64 11, .int .i64 0, .int .i64 0, .slice none 0 0, .int .i64 0, .int .i64 0]) ?_ 3 _ rfl; (with_reducible repeat (first | refine blk_drewN ?_ _ | refine blk_drew ?_ | refine blk_alloc ?_ _)); refine blk_put (cs := #[.int .i64 11, .int .i64 0, .int .i64 0, .slice none 0 0, .int .i64 0, .int .i64 0]) ?_ 2 _ rfl; (with_reducible repeat (first | refine blk_drewN ?_ _ | refine blk_drew ?_ | refine blk_alloc ?_ _)); refine blk_put (cs := #[.int .i64 11, .int .i64 0, .int .i64 0, .slice none 0 0, .int .i64 0, .int .i64 0]) ?_ 1 _ rfl; (with_reducible repeat (first | refine blk_drewN ?_ _ | refine blk_drew ?_ | refine blk_alloc ?_ _)); refine blk_put (cs := #[.int .i64 0, .int .i64 0, .int .i64 0, .slice none 0 0, .int .i64 0, .int .i64 0]) ?_ 0 _ rfl; (with_reducible repeat (first | refine blk_drewN ?_ _ | refine blk_drew ?_ | refine blk_alloc ?_ _)); exact BK175.out) Try.underlying29 rfl (by kernel_rfl)) rfl ?_
  exact ⟨_, by first | rfl | (simp [errW_none, errW_some] <;> rfl) | (simp [*, errW_none, errW_some] <;> rfl), by first | exact Kd.R_nil _ _ _ _ _ | exact Kd.N_nil _ _ _ _ _ | exact Kd.V_nil _ _ _ _ _ | exact Kd.Q_nil _ _ _ _ _ | exact Kd.S_nil _ _ _ _ _, by repeat (first | (with_reducible first | exact HB.out | apply below_alloc | apply pw_below_drewN | apply below_drew1 | refine below_set ?_ GE175.out) | exact HB.out)⟩

/-! ### folkmootlaw20_good: function 16 -/
mutual
def folkmootlaw20_good.j0 : Nat → Int → Bool → Int → Int → Int → List (S59) → Int → Int → Option (Bool)
  | 0, _, _, _, _, _, _, _, _ => none
  | k + 1, x3, x45, x195000, x195001, x195002, x195003, x195004, x195005 => if x45 = true then (some false) else (folkmootlaw20_good.l0 k x3 0 x195000 x195001 x195002 x195003 x195004 x195005)
def folkmootlaw20_good.l0 : Nat → Int → Int → Int → Int → Int → List (S59) → Int → Int → Option (Bool)
  | 0, _, _, _, _, _, _, _, _ => none
  | k + 1, x3, x6, x195000, x195001, x195002, x195003, x195004, x195005 => if x6 < 7 then ((lease_Tick.f k x195000 x195001 x195002 x195003 x195004 x195005).bind fun bt207 => (folkmootlaw20_good.l0 k bt207.2.2.2.2.2.2 (wrap64 (x6 + 1)) bt207.1 bt207.2.1 bt207.2.2.1 bt207.2.2.2.1 bt207.2.2.2.2.1 bt207.2.2.2.2.2.1)) else ((lease_Tick.f k x195000 x195001 x195002 x195003 x195004 x195005).bind fun bt216 => (if x3 = 0 then (if bt216.2.2.2.2.2.2 = 0 then ((lease_Good.f k x195000 x195001 x195002 x195003 x195004 x195005).bind fun t226 => (if t226 = true then ((lease_Good.f k bt216.1 bt216.2.1 bt216.2.2.1 bt216.2.2.2.1 bt216.2.2.2.2.1 bt216.2.2.2.2.2.1).bind fun t227 => (some (!t227))) else (none))) else (none)) else (none)))
end
def folkmootlaw20_good.f (k : Nat)  : Option (Bool) := (folkmootlaw20_one.f).bind fun bt176 => ((lease_Ask.f k bt176.1 bt176.2.1 bt176.2.2.1 bt176.2.2.2.1 bt176.2.2.2.2.1 bt176.2.2.2.2.2).bind fun bt184 => ((lease_Take.f k bt184.1 bt184.2.1 bt184.2.2.1 bt184.2.2.2.1 bt184.2.2.2.2.1 bt184.2.2.2.2.2.1 bt184.2.2.2.2.2.2.1 5).bind fun bt195 => (if bt184.2.2.2.2.2.2.2 = 0 then (if bt195.2.2.2.2.2.2.2 = 0 then (if bt184.2.2.2.2.2.2.1 = 1 then (if bt195.2.2.2.2.2.2.1 = true then ((lease_Good.f k bt195.1 bt195.2.1 bt195.2.2.1 bt195.2.2.2.1 bt195.2.2.2.2.1 bt195.2.2.2.2.2.1).bind fun t205 => (if t205 = true then ((lease_Check.f k bt195.1 bt195.2.1 bt195.2.2.1 bt195.2.2.2.1 bt195.2.2.2.2.1 bt195.2.2.2.2.2.1).bind fun t206 => (folkmootlaw20_good.j0 k bt184.2.2.2.2.2.2.2 (t206 != 0) bt195.1 bt195.2.1 bt195.2.2.1 bt195.2.2.2.1 bt195.2.2.2.2.1 bt195.2.2.2.2.2.1)) else (folkmootlaw20_good.j0 k bt184.2.2.2.2.2.2.2 true bt195.1 bt195.2.1 bt195.2.2.1 bt195.2.2.2.1 bt195.2.2.2.2.1 bt195.2.2.2.2.2.1))) else (folkmootlaw20_good.j0 k bt184.2.2.2.2.2.2.2 true bt195.1 bt195.2.1 bt195.2.2.1 bt195.2.2.2.1 bt195.2.2.2.2.1 bt195.2.2.2.2.2.1)) else (folkmootlaw20_good.j0 k bt184.2.2.2.2.2.2.2 true bt195.1 bt195.2.1 bt195.2.2.1 bt195.2.2.2.1 bt195.2.2.2.2.1 bt195.2.2.2.2.2.1)) else (folkmootlaw20_good.j0 k bt184.2.2.2.2.2.2.2 true bt195.1 bt195.2.1 bt195.2.2.1 bt195.2.2.2.1 bt195.2.2.2.2.1 bt195.2.2.2.2.2.1)) else (folkmootlaw20_good.j0 k bt184.2.2.2.2.2.2.2 true bt195.1 bt195.2.1 bt195.2.2.1 bt195.2.2.2.1 bt195.2.2.2.2.1 bt195.2.2.2.2.2.1))))
theorem folkmootlaw20_good.mono_l : ∀ k, (∀ y0 y1 y2 y3 y4 y5 y6 y7, LeO (folkmootlaw20_good.j0 k y0 y1 y2 y3 y4 y5 y6 y7) (folkmootlaw20_good.j0 (k + 1) y0 y1 y2 y3 y4 y5 y6 y7)) ∧ (∀ y0 y1 y2 y3 y4 y5 y6 y7, LeO (folkmootlaw20_good.l0 k y0 y1 y2 y3 y4 y5 y6 y7) (folkmootlaw20_good.l0 (k + 1) y0 y1 y2 y3 y4 y5 y6 y7))
  | 0 => ⟨fun _ _ _ _ _ _ _ _ r h => by simp [folkmootlaw20_good.j0] at h, fun _ _ _ _ _ _ _ _ r h => by simp [folkmootlaw20_good.l0] at h⟩
  | k + 1 => by
    obtain ⟨ih0, ih1⟩ := folkmootlaw20_good.mono_l k
    refine ⟨?_, ?_⟩
    · intro y0 y1 y2 y3 y4 y5 y6 y7
      unfold folkmootlaw20_good.j0
      repeat' first
      | (with_reducible exact ih0 _ _ _ _ _ _ _ _)
      | (with_reducible exact ih1 _ _ _ _ _ _ _ _)
      | (with_reducible exact lease_Ask.mono _ _ _ _ _ _ _)
      | (with_reducible exact lease_Check.mono _ _ _ _ _ _ _)
      | (with_reducible exact lease_Good.mono _ _ _ _ _ _ _)
      | (with_reducible exact lease_Take.mono _ _ _ _ _ _ _ _ _)
      | (with_reducible exact lease_Tick.mono _ _ _ _ _ _ _)
      | (with_reducible exact LeO.refl _)
      | (with_reducible exact LeO.none _)
      | (with_reducible refine LeO.ite ?_ ?_)
      | (with_reducible refine LeO.bind ?_ (fun _ => ?_))
      | exact ih0 _ _ _ _ _ _ _ _
      | exact ih1 _ _ _ _ _ _ _ _
      | exact lease_Ask.mono _ _ _ _ _ _ _
      | exact lease_Check.mono _ _ _ _ _ _ _
      | exact lease_Good.mono _ _ _ _ _ _ _
      | exact lease_Take.mono _ _ _ _ _ _ _ _ _
      | exact lease_Tick.mono _ _ _ _ _ _ _
      | exact LeO.none _
      | refine LeO.ite ?_ ?_
      | refine LeO.bind ?_ (fun _ => ?_)
    · intro y0 y1 y2 y3 y4 y5 y6 y7
      unfold folkmootlaw20_good.l0
      repeat' first
      | (with_reducible exact ih0 _ _ _ _ _ _ _ _)
      | (with_reducible exact ih1 _ _ _ _ _ _ _ _)
      | (with_reducible exact lease_Ask.mono _ _ _ _ _ _ _)
      | (with_reducible exact lease_Check.mono _ _ _ _ _ _ _)
      | (with_reducible exact lease_Good.mono _ _ _ _ _ _ _)
      | (with_reducible exact lease_Take.mono _ _ _ _ _ _ _ _ _)
      | (with_reducible exact lease_Tick.mono _ _ _ _ _ _ _)
      | (with_reducible exact LeO.refl _)
      | (with_reducible exact LeO.none _)
      | (with_reducible refine LeO.ite ?_ ?_)
      | (with_reducible refine LeO.bind ?_ (fun _ => ?_))
      | exact ih0 _ _ _ _ _ _ _ _
      | exact ih1 _ _ _ _ _ _ _ _
      | exact lease_Ask.mono _ _ _ _ _ _ _
      | exact lease_Check.mono _ _ _ _ _ _ _
      | exact lease_Good.mono _ _ _ _ _ _ _
      | exact lease_Take.mono _ _ _ _ _ _ _ _ _
      | exact lease_Tick.mono _ _ _ _ _ _ _
      | exact LeO.none _
      | refine LeO.ite ?_ ?_
      | refine LeO.bind ?_ (fun _ => ?_)
theorem folkmootlaw20_good.mono : ∀ k, LeO (folkmootlaw20_good.f k ) (folkmootlaw20_good.f (k + 1) ) := by
  intro  k
  obtain ⟨ih0, ih1⟩ := folkmootlaw20_good.mono_l k
  unfold folkmootlaw20_good.f
  repeat' first
      | (with_reducible exact ih0 _ _ _ _ _ _ _ _)
      | (with_reducible exact ih1 _ _ _ _ _ _ _ _)
      | (with_reducible exact lease_Ask.mono _ _ _ _ _ _ _)
      | (with_reducible exact lease_Check.mono _ _ _ _ _ _ _)
      | (with_reducible exact lease_Good.mono _ _ _ _ _ _ _)
      | (with_reducible exact lease_Take.mono _ _ _ _ _ _ _ _ _)
      | (with_reducible exact lease_Tick.mono _ _ _ _ _ _ _)
      | (with_reducible exact LeO.refl _)
      | (with_reducible exact LeO.none _)
      | (with_reducible refine LeO.ite ?_ ?_)
      | (with_reducible refine LeO.bind ?_ (fun _ => ?_))
      | exact ih0 _ _ _ _ _ _ _ _
      | exact ih1 _ _ _ _ _ _ _ _
      | exact lease_Ask.mono _ _ _ _ _ _ _
      | exact lease_Check.mono _ _ _ _ _ _ _
      | exact lease_Good.mono _ _ _ _ _ _ _
      | exact lease_Take.mono _ _ _ _ _ _ _ _ _
      | exact lease_Tick.mono _ _ _ _ _ _ _
      | exact LeO.none _
      | refine LeO.ite ?_ ?_
      | refine LeO.bind ?_ (fun _ => ?_)
set_option maxHeartbeats 8000000 in
set_option maxRecDepth 100000 in
theorem folkmootlaw20_good.calls (k : Nat)  (r : Bool) (w : World) (h : folkmootlaw20_good.f k  = some r) :
    Calls Try.prog 16 #[] w fun e w' => e = .returned (.bool r) ∧ Below w.heap.size w w' := by
  have hu29 := Try.underlying29
  have HB := Aside0.mk (Below.refl w.heap.size w)
  have H : ((folkmootlaw20_one.f).bind fun bt176 => ((lease_Ask.f k bt176.1 bt176.2.1 bt176.2.2.1 bt176.2.2.2.1 bt176.2.2.2.2.1 bt176.2.2.2.2.2).bind fun bt184 => ((lease_Take.f k bt184.1 bt184.2.1 bt184.2.2.1 bt184.2.2.2.1 bt184.2.2.2.2.1 bt184.2.2.2.2.2.1 bt184.2.2.2.2.2.2.1 5).bind fun bt195 => (if bt184.2.2.2.2.2.2.2 = 0 then (if bt195.2.2.2.2.2.2.2 = 0 then (if bt184.2.2.2.2.2.2.1 = 1 then (if bt195.2.2.2.2.2.2.1 = true then ((lease_Good.f k bt195.1 bt195.2.1 bt195.2.2.1 bt195.2.2.2.1 bt195.2.2.2.2.1 bt195.2.2.2.2.2.1).bind fun t205 => (if t205 = true then ((lease_Check.f k bt195.1 bt195.2.1 bt195.2.2.1 bt195.2.2.2.1 bt195.2.2.2.2.1 bt195.2.2.2.2.2.1).bind fun t206 => (folkmootlaw20_good.j0 k bt184.2.2.2.2.2.2.2 (t206 != 0) bt195.1 bt195.2.1 bt195.2.2.1 bt195.2.2.2.1 bt195.2.2.2.2.1 bt195.2.2.2.2.2.1)) else (folkmootlaw20_good.j0 k bt184.2.2.2.2.2.2.2 true bt195.1 bt195.2.1 bt195.2.2.1 bt195.2.2.2.1 bt195.2.2.2.2.1 bt195.2.2.2.2.2.1))) else (folkmootlaw20_good.j0 k bt184.2.2.2.2.2.2.2 true bt195.1 bt195.2.1 bt195.2.2.1 bt195.2.2.2.1 bt195.2.2.2.2.1 bt195.2.2.2.2.2.1)) else (folkmootlaw20_good.j0 k bt184.2.2.2.2.2.2.2 true bt195.1 bt195.2.1 bt195.2.2.1 bt195.2.2.2.1 bt195.2.2.2.2.1 bt195.2.2.2.2.2.1)) else (folkmootlaw20_good.j0 k bt184.2.2.2.2.2.2.2 true bt195.1 bt195.2.1 bt195.2.2.1 bt195.2.2.2.1 bt195.2.2.2.2.1 bt195.2.2.2.2.2.1)) else (folkmootlaw20_good.j0 k bt184.2.2.2.2.2.2.2 true bt195.1 bt195.2.1 bt195.2.2.1 bt195.2.2.2.1 bt195.2.2.2.2.1 bt195.2.2.2.2.2.1))))) = some r := h
  clear h
  replace H := Option.bind_eq_some_iff.mp H
  obtain ⟨⟨t176, t177, t178, t179, t182, t183⟩, A10, H⟩ := H
  replace H : ((lease_Ask.f k t176 t177 t178 t179 t182 t183).bind fun bt184 => ((lease_Take.f k bt184.1 bt184.2.1 bt184.2.2.1 bt184.2.2.2.1 bt184.2.2.2.2.1 bt184.2.2.2.2.2.1 bt184.2.2.2.2.2.2.1 5).bind fun bt195 => (if bt184.2.2.2.2.2.2.2 = 0 then (if bt195.2.2.2.2.2.2.2 = 0 then (if bt184.2.2.2.2.2.2.1 = 1 then (if bt195.2.2.2.2.2.2.1 = true then ((lease_Good.f k bt195.1 bt195.2.1 bt195.2.2.1 bt195.2.2.2.1 bt195.2.2.2.2.1 bt195.2.2.2.2.2.1).bind fun t205 => (if t205 = true then ((lease_Check.f k bt195.1 bt195.2.1 bt195.2.2.1 bt195.2.2.2.1 bt195.2.2.2.2.1 bt195.2.2.2.2.2.1).bind fun t206 => (folkmootlaw20_good.j0 k bt184.2.2.2.2.2.2.2 (t206 != 0) bt195.1 bt195.2.1 bt195.2.2.1 bt195.2.2.2.1 bt195.2.2.2.2.1 bt195.2.2.2.2.2.1)) else (folkmootlaw20_good.j0 k bt184.2.2.2.2.2.2.2 true bt195.1 bt195.2.1 bt195.2.2.1 bt195.2.2.2.1 bt195.2.2.2.2.1 bt195.2.2.2.2.2.1))) else (folkmootlaw20_good.j0 k bt184.2.2.2.2.2.2.2 true bt195.1 bt195.2.1 bt195.2.2.1 bt195.2.2.2.1 bt195.2.2.2.2.1 bt195.2.2.2.2.2.1)) else (folkmootlaw20_good.j0 k bt184.2.2.2.2.2.2.2 true bt195.1 bt195.2.1 bt195.2.2.1 bt195.2.2.2.1 bt195.2.2.2.2.1 bt195.2.2.2.2.2.1)) else (folkmootlaw20_good.j0 k bt184.2.2.2.2.2.2.2 true bt195.1 bt195.2.1 bt195.2.2.1 bt195.2.2.2.1 bt195.2.2.2.2.1 bt195.2.2.2.2.2.1)) else (folkmootlaw20_good.j0 k bt184.2.2.2.2.2.2.2 true bt195.1 bt195.2.1 bt195.2.2.1 bt195.2.2.2.1 bt195.2.2.2.2.1 bt195.2.2.2.2.2.1)))) = some r := H
  have A1 := Aside0.mk A10
  clear A10
  replace H := Option.bind_eq_some_iff.mp H
  obtain ⟨⟨t184, t185, t186, t187, t190, t191, t192, t193⟩, A20, H⟩ := H
  replace H : ((lease_Take.f k t184 t185 t186 t187 t190 t191 t192 5).bind fun bt195 => (if t193 = 0 then (if bt195.2.2.2.2.2.2.2 = 0 then (if t192 = 1 then (if bt195.2.2.2.2.2.2.1 = true then ((lease_Good.f k bt195.1 bt195.2.1 bt195.2.2.1 bt195.2.2.2.1 bt195.2.2.2.2.1 bt195.2.2.2.2.2.1).bind fun t205 => (if t205 = true then ((lease_Check.f k bt195.1 bt195.2.1 bt195.2.2.1 bt195.2.2.2.1 bt195.2.2.2.2.1 bt195.2.2.2.2.2.1).bind fun t206 => (folkmootlaw20_good.j0 k t193 (t206 != 0) bt195.1 bt195.2.1 bt195.2.2.1 bt195.2.2.2.1 bt195.2.2.2.2.1 bt195.2.2.2.2.2.1)) else (folkmootlaw20_good.j0 k t193 true bt195.1 bt195.2.1 bt195.2.2.1 bt195.2.2.2.1 bt195.2.2.2.2.1 bt195.2.2.2.2.2.1))) else (folkmootlaw20_good.j0 k t193 true bt195.1 bt195.2.1 bt195.2.2.1 bt195.2.2.2.1 bt195.2.2.2.2.1 bt195.2.2.2.2.2.1)) else (folkmootlaw20_good.j0 k t193 true bt195.1 bt195.2.1 bt195.2.2.1 bt195.2.2.2.1 bt195.2.2.2.2.1 bt195.2.2.2.2.2.1)) else (folkmootlaw20_good.j0 k t193 true bt195.1 bt195.2.1 bt195.2.2.1 bt195.2.2.2.1 bt195.2.2.2.2.1 bt195.2.2.2.2.2.1)) else (folkmootlaw20_good.j0 k t193 true bt195.1 bt195.2.1 bt195.2.2.1 bt195.2.2.2.1 bt195.2.2.2.2.1 bt195.2.2.2.2.2.1))) = some r := H
  have A2 := Aside0.mk A20
  clear A20
  replace H := Option.bind_eq_some_iff.mp H
  obtain ⟨⟨t195, t196, t197, t198, t201, t202, t203, t204⟩, A30, H⟩ := H
  replace H : (if t193 = 0 then (if t204 = 0 then (if t192 = 1 then (if t203 = true then ((lease_Good.f k t195 t196 t197 t198 t201 t202).bind fun t205 => (if t205 = true then ((lease_Check.f k t195 t196 t197 t198 t201 t202).bind fun t206 => (folkmootlaw20_good.j0 k t193 (t206 != 0) t195 t196 t197 t198 t201 t202)) else (folkmootlaw20_good.j0 k t193 true t195 t196 t197 t198 t201 t202))) else (folkmootlaw20_good.j0 k t193 true t195 t196 t197 t198 t201 t202)) else (folkmootlaw20_good.j0 k t193 true t195 t196 t197 t198 t201 t202)) else (folkmootlaw20_good.j0 k t193 true t195 t196 t197 t198 t201 t202)) else (folkmootlaw20_good.j0 k t193 true t195 t196 t197 t198 t201 t202)) = some r := H
  have A3 := Aside0.mk A30
  clear A30
  have HC4 := Aside0.mk H
  clear H
  go_enter Try.func16, Try.ntmps16
  go_upto_region 3 with (first | ((with_reducible refine gate_callee (f := 28) rfl ?_); refine goesL_ (some 10) rfl rfl Try.func28 (by kernel_rfl) rfl #[] rfl (by (try simp only [List.map_toArray, List.map_cons, List.map_nil]); first | done | rfl | (simp only [List.length_drop, List.length_take]; rfl)) ?_; (with_reducible refine (folkmootlaw20_one.calls  t176 t177 t178 t179 t182 t183 _ A1.out).mono ?_); rintro e w5 ⟨v180, rfl, ho0, hb⟩; refine ⟨_, rfl, ?_⟩; have n0_ := Aside0.mk (Kd.R_lower ho0 (below_size (by repeat (first | (with_reducible first | exact HB.out | apply below_alloc | apply pw_below_drewN | apply below_drew1) | exact HB.out)))); have n1_ := Aside0.mk (below_step (by repeat (first | (with_reducible first | exact HB.out | apply below_alloc | apply pw_below_drewN | apply below_drew1) | exact HB.out)) hb); clear HB; have HO181 := n0_; have HB := n1_; clear n0_ n1_; (try clear hb); (try clear hb2); (try clear hk); (try clear hi); (try clear ho0); obtain ⟨Ao6, co6, eo6⟩ := Kd.R_slice HO181.out; subst eo6) | ((with_reducible refine gate_callee (f := 21) rfl ?_); refine goesL_ (some 11) rfl rfl Try.func21 (by kernel_rfl) rfl #[.agg #[.int .i64 t176, .int .i64 t177, .int .i64 t178, .slice Ao6 t179.length co6, .int .i64 t182, .int .i64 t183]] rfl (by (try simp only [List.map_toArray, List.map_cons, List.map_nil]); first | done | rfl | (simp only [List.length_drop, List.length_take]; rfl)) ?_; (with_reducible refine (lease_Ask.calls k t176 t177 t178 _ _ t179 t182 t183 t184 t185 t186 t187 t190 t191 t192 t193 _ ?side1 ?side2 A2.out).mono ?_); (case side1 => repeat (first | exact (Kd.R_reads' HO181.out).2.2 | (with_reducible refine Kd.C_alloc ?_ _) | (with_reducible refine Kd.C_drewN ?_ _) | (with_reducible refine Kd.C_drew ?_))); (case side2 => exact (Kd.R_reads' HO181.out).2.1); rintro e w7 ⟨v188, rfl, ho0, hb⟩; refine ⟨_, rfl, ?_⟩; have n0_ := Aside0.mk (Kd.R_elder' (by (with_reducible repeat (first | apply Kd.R_alloc | apply Kd.R_drewN | apply Kd.R_drew)); exact HO181.out) (Kd.Q_base ho0) hb); have n1_ := Aside0.mk (Kd.Q_lower (Kd.Q_new' ho0 (Kd.R_lt (by (with_reducible repeat (first | apply Kd.R_alloc | apply Kd.R_drewN | apply Kd.R_drew)); exact HO181.out))) (below_size (by repeat (first | (with_reducible first | exact HB.out | apply below_alloc | apply pw_below_drewN | apply below_drew1) | exact HB.out)))); have n2_ := Aside0.mk (below_step (by repeat (first | (with_reducible first | exact HB.out | apply below_alloc | apply pw_below_drewN | apply below_drew1) | exact HB.out)) hb); clear HO181; clear HB; have HO181 := n0_; have HO189 := n1_; have HB := n2_; clear n0_ n1_ n2_; (try clear hb); (try clear hb2); (try clear hk); (try clear hi); (try clear ho0)) | ((with_reducible refine gate_dst (N := 1) rfl ?_); refine box_event ?hg (N := 1) ?hd (cs := #[.int .i64 0, .int .i64 0, .int .i64 0, .slice none 0 0, .int .i64 0, .int .i64 0]) (t := 29) ?hr ?_; (case hd => rfl); (case hg => rfl); (case hr => first | (go_simp; done) | (go_simp; rfl)); intro gb194 hg w8 hbox hb; have n0_ := Aside0.mk (Kd.R_below (by (with_reducible repeat (first | apply Kd.R_alloc | apply Kd.R_drewN | apply Kd.R_drew)); exact HO181.out) hb); have n1_ := Aside0.mk (Kd.Q_below (by (with_reducible repeat (first | apply Kd.Q_alloc | apply Kd.Q_drewN | apply Kd.Q_drew)); exact HO189.out) hb); have n2_ := Aside0.mk (below_step (by repeat (first | (with_reducible first | exact HB.out | apply below_alloc | apply pw_below_drewN | apply below_drew1) | exact HB.out)) hb); have n3_ := Aside0.mk (hbox); have n4_ := Aside0.mk ((by rw [hg]; exact (below_size (by repeat (first | (with_reducible first | exact HB.out | apply below_alloc | apply pw_below_drewN | apply below_drew1) | exact HB.out))) : w.heap.size ≤ gb194)); have n5_ := Aside0.mk ((by rw [hg]; exact (below_size (by repeat (first | (with_reducible first | exact HB.out | apply below_alloc | apply pw_below_drewN | apply below_drew1) | exact HB.out))) : w.heap.size ≤ gb194)); clear HO181; clear HO189; clear HB; have HO181 := n0_; have HO189 := n1_; have HB := n2_; have BK194 := n3_; have GW194 := n4_; have GE194 := n5_; clear n0_ n1_ n2_ n3_ n4_ n5_; clear hb hbox hg; have hcz9_0 : w8.cell? ⟨gb194, 0, none⟩ = some (.int .i64 0) := (blk_cell BK194.out 0).trans rfl; have hcz9_1 : w8.cell? ⟨gb194, 1, none⟩ = some (.int .i64 0) := (blk_cell BK194.out 1).trans rfl; have hcz9_2 : w8.cell? ⟨gb194, 2, none⟩ = some (.int .i64 0) := (blk_cell BK194.out 2).trans rfl; have hcz9_3 : w8.cell? ⟨gb194, 3, none⟩ = some (.slice none 0 0) := (blk_cell BK194.out 3).trans rfl; have hcz9_4 : w8.cell? ⟨gb194, 4, none⟩ = some (.int .i64 0) := (blk_cell BK194.out 4).trans rfl; have hcz9_5 : w8.cell? ⟨gb194, 5, none⟩ = some (.int .i64 0) := (blk_cell BK194.out 5).trans rfl; have hfz9_0 := blk_frozen BK194.out 0; have hfz9_1 := blk_frozen BK194.out 1; have hfz9_2 := blk_frozen BK194.out 2; have hfz9_3 := blk_frozen BK194.out 3; have hfz9_4 := blk_frozen BK194.out 4; have hfz9_5 := blk_frozen BK194.out 5; obtain ⟨Ao10, co10, eo10, _⟩ := Kd.Q_slice HO189.out; subst eo10) | ((with_reducible refine gate_callee (f := 23) rfl ?_); refine goesL_ (some 18) rfl rfl Try.func23 (by kernel_rfl) rfl #[.agg #[.int .i64 t184, .int .i64 t185, .int .i64 t186, .slice Ao10 t187.length co10, .int .i64 t190, .int .i64 t191], .int .i64 t192, .int .i64 5] rfl (by (try simp only [List.map_toArray, List.map_cons, List.map_nil]); first | done | rfl | (simp only [List.length_drop, List.length_take]; rfl)) ?_; (with_reducible refine (lease_Take.calls k t184 t185 t186 _ _ t187 t190 t191 t192 5 t195 t196 t197 t198 t201 t202 t203 t204 _ ?side1 ?side2 A3.out).mono ?_); (case side1 => refine (Kd.Q_reads' (e := 59) (base := w.heap.size) (ok := fun k_ => (True ∧ some k_ ≠ (.slice Ao6 t179.length co6 : Value).ownBlock)) (n := t187.length) (c := co10) ?_).2.2; exact (by (with_reducible repeat (first | apply Kd.Q_alloc | apply Kd.Q_drewN | apply Kd.Q_drew)); exact (Kd.Q_mono (Kd.Q_far (p := ⟨gb194, 5, none⟩) (Kd.Q_far (p := ⟨gb194, 4, none⟩) (Kd.Q_far (p := ⟨gb194, 3, none⟩) (Kd.Q_far (p := ⟨gb194, 2, none⟩) (Kd.Q_far (p := ⟨gb194, 1, none⟩) (Kd.Q_far (p := ⟨gb194, 0, none⟩) (Kd.Q_types HO189.out BK194.out (by decide)) (fun _ hk => hk.2) (.int .i64 t184)) (fun _ hk => hk.2) (.int .i64 t185)) (fun _ hk => hk.2) (.int .i64 t186)) (fun _ hk => hk.2) (.slice Ao10 t187.length co10)) (fun _ hk => hk.2) (.int .i64 t190)) (fun _ hk => hk.2) (.int .i64 t191)) (fun _ h_ => h_.1)))); (case side2 => exact (Kd.Q_reads' HO189.out).2.1); rintro e w11 ⟨v199, rfl, ho0, hb⟩; refine ⟨_, rfl, ?_⟩; have n0_ := Aside0.mk (Kd.R_elder' (by (with_reducible repeat (first | apply Kd.R_alloc | apply Kd.R_drewN | apply Kd.R_drew)); exact (Kd.R_mono (Kd.R_far (p := ⟨gb194, 5, none⟩) (Kd.R_far (p := ⟨gb194, 4, none⟩) (Kd.R_far (p := ⟨gb194, 3, none⟩) (Kd.R_far (p := ⟨gb194, 2, none⟩) (Kd.R_far (p := ⟨gb194, 1, none⟩) (Kd.R_far (p := ⟨gb194, 0, none⟩) (Kd.R_types HO181.out BK194.out (by decide)) (fun _ hk => hk.2) (.int .i64 t184)) (fun _ hk => hk.2) (.int .i64 t185)) (fun _ hk => hk.2) (.int .i64 t186)) (fun _ hk => hk.2) (.slice Ao10 t187.length co10)) (fun _ hk => hk.2) (.int .i64 t190)) (fun _ hk => hk.2) (.int .i64 t191)) (fun _ h_ => h_.1))) (Kd.Q_base ho0) hb); have n1_ := Aside0.mk (Kd.Q_elder' (by (with_reducible repeat (first | apply Kd.Q_alloc | apply Kd.Q_drewN | apply Kd.Q_drew)); exact (Kd.Q_mono (Kd.Q_far (p := ⟨gb194, 5, none⟩) (Kd.Q_far (p := ⟨gb194, 4, none⟩) (Kd.Q_far (p := ⟨gb194, 3, none⟩) (Kd.Q_far (p := ⟨gb194, 2, none⟩) (Kd.Q_far (p := ⟨gb194, 1, none⟩) (Kd.Q_far (p := ⟨gb194, 0, none⟩) (Kd.Q_types HO189.out BK194.out (by decide)) (fun _ hk => hk.2) (.int .i64 t184)) (fun _ hk => hk.2) (.int .i64 t185)) (fun _ hk => hk.2) (.int .i64 t186)) (fun _ hk => hk.2) (.slice Ao10 t187.length co10)) (fun _ hk => hk.2) (.int .i64 t190)) (fun _ hk => hk.2) (.int .i64 t191)) (fun _ h_ => h_.1))) (Kd.Q_base ho0) hb); have n2_ := Aside0.mk (Kd.Q_lower (Kd.Q_new' (Kd.Q_new' ho0 (Kd.R_lt (by (with_reducible repeat (first | apply Kd.R_alloc | apply Kd.R_drewN | apply Kd.R_drew)); exact (Kd.R_mono (Kd.R_far (p := ⟨gb194, 5, none⟩) (Kd.R_far (p := ⟨gb194, 4, none⟩) (Kd.R_far (p := ⟨gb194, 3, none⟩) (Kd.R_far (p := ⟨gb194, 2, none⟩) (Kd.R_far (p := ⟨gb194, 1, none⟩) (Kd.R_far (p := ⟨gb194, 0, none⟩) (Kd.R_types HO181.out BK194.out (by decide)) (fun _ hk => hk.2) (.int .i64 t184)) (fun _ hk => hk.2) (.int .i64 t185)) (fun _ hk => hk.2) (.int .i64 t186)) (fun _ hk => hk.2) (.slice Ao10 t187.length co10)) (fun _ hk => hk.2) (.int .i64 t190)) (fun _ hk => hk.2) (.int .i64 t191)) (fun _ h_ => h_.1))))) (Kd.Q_lt (by (with_reducible repeat (first | apply Kd.Q_alloc | apply Kd.Q_drewN | apply Kd.Q_drew)); exact (Kd.Q_mono (Kd.Q_far (p := ⟨gb194, 5, none⟩) (Kd.Q_far (p := ⟨gb194, 4, none⟩) (Kd.Q_far (p := ⟨gb194, 3, none⟩) (Kd.Q_far (p := ⟨gb194, 2, none⟩) (Kd.Q_far (p := ⟨gb194, 1, none⟩) (Kd.Q_far (p := ⟨gb194, 0, none⟩) (Kd.Q_types HO189.out BK194.out (by decide)) (fun _ hk => hk.2) (.int .i64 t184)) (fun _ hk => hk.2) (.int .i64 t185)) (fun _ hk => hk.2) (.int .i64 t186)) (fun _ hk => hk.2) (.slice Ao10 t187.length co10)) (fun _ hk => hk.2) (.int .i64 t190)) (fun _ hk => hk.2) (.int .i64 t191)) (fun _ h_ => h_.1))))) (below_size (by repeat (first | (with_reducible first | exact HB.out | apply below_alloc | apply pw_below_drewN | apply below_drew1 | refine below_set ?_ GE194.out) | exact HB.out)))); have n3_ := Aside0.mk (blk_below (g := gb194) (o := .cells #[.int .i64 t184, .int .i64 t185, .int .i64 t186, .slice Ao10 t187.length co10, .int .i64 t190, .int .i64 t191] 29 (0, 0)) (by (with_reducible repeat (first | refine blk_drewN ?_ _ | refine blk_drew ?_ | refine blk_alloc ?_ _)); refine blk_put (cs := #[.int .i64 t184, .int .i64 t185, .int .i64 t186, .slice Ao10 t187.length co10, .int .i64 t190, .int .i64 0]) ?_ 5 _ rfl; (with_reducible repeat (first | refine blk_drewN ?_ _ | refine blk_drew ?_ | refine blk_alloc ?_ _)); refine blk_put (cs := #[.int .i64 t184, .int .i64 t185, .int .i64 t186, .slice Ao10 t187.length co10, .int .i64 0, .int .i64 0]) ?_ 4 _ rfl; (with_reducible repeat (first | refine blk_drewN ?_ _ | refine blk_drew ?_ | refine blk_alloc ?_ _)); refine blk_put (cs := #[.int .i64 t184, .int .i64 t185, .int .i64 t186, .slice none 0 0, .int .i64 0, .int .i64 0]) ?_ 3 _ rfl; (with_reducible repeat (first | refine blk_drewN ?_ _ | refine blk_drew ?_ | refine blk_alloc ?_ _)); refine blk_put (cs := #[.int .i64 t184, .int .i64 t185, .int .i64 0, .slice none 0 0, .int .i64 0, .int .i64 0]) ?_ 2 _ rfl; (with_reducible repeat (first | refine blk_drewN ?_ _ | refine blk_drew ?_ | refine blk_alloc ?_ _)); refine blk_put (cs := #[.int .i64 t184, .int .i64 0, .int .i64 0, .slice none 0 0, .int .i64 0, .int .i64 0]) ?_ 1 _ rfl; (with_reducible repeat (first | refine blk_drewN ?_ _ | refine blk_drew ?_ | refine blk_alloc ?_ _)); refine blk_put (cs := #[.int .i64 0, .int .i64 0, .int .i64 0, .slice none 0 0, .int .i64 0, .int .i64 0]) ?_ 0 _ rfl; (with_reducible repeat (first | refine blk_drewN ?_ _ | refine blk_drew ?_ | refine blk_alloc ?_ _)); exact BK194.out) hb); have n4_ := Aside0.mk (below_step (by repeat (first | (with_reducible first | exact HB.out | apply below_alloc | apply pw_below_drewN | apply below_drew1 | refine below_set ?_ GE194.out) | exact HB.out)) hb); clear HO181; clear HO189; clear BK194; clear HB; have HO181 := n0_; have HO189 := n1_; have HO200 := n2_; have BK194 := n3_; have HB := n4_; clear n0_ n1_ n2_ n3_ n4_; (try clear hb); (try clear hb2); (try clear hk); (try clear hi); (try clear ho0); have hcz12_0 : w11.cell? ⟨gb194, 0, none⟩ = some (.int .i64 t184) := (blk_cell BK194.out 0).trans rfl; have hcz12_1 : w11.cell? ⟨gb194, 1, none⟩ = some (.int .i64 t185) := (blk_cell BK194.out 1).trans rfl; have hcz12_2 : w11.cell? ⟨gb194, 2, none⟩ = some (.int .i64 t186) := (blk_cell BK194.out 2).trans rfl; have hcz12_3 : w11.cell? ⟨gb194, 3, none⟩ = some (.slice Ao10 t187.length co10) := (blk_cell BK194.out 3).trans rfl; have hcz12_4 : w11.cell? ⟨gb194, 4, none⟩ = some (.int .i64 t190) := (blk_cell BK194.out 4).trans rfl; have hcz12_5 : w11.cell? ⟨gb194, 5, none⟩ = some (.int .i64 t191) := (blk_cell BK194.out 5).trans rfl; have hfz12_0 := blk_frozen BK194.out 0; have hfz12_1 := blk_frozen BK194.out 1; have hfz12_2 := blk_frozen BK194.out 2; have hfz12_3 := blk_frozen BK194.out 3; have hfz12_4 := blk_frozen BK194.out 4; have hfz12_5 := blk_frozen BK194.out 5; obtain ⟨Ao13, co13, eo13, _⟩ := Kd.Q_slice HO200.out; subst eo13))
  (try simp only [Act.put, List.setIfInBounds_toArray, List.set_cons_zero, List.set_cons_succ])
  go_cut [45] (fun v45 wc => ∃ (kq : Nat) (x45_3 : Bool), v45 = .bool x45_3 ∧ Aside0 (folkmootlaw20_good.j0 kq t193 x45_3 t195 t196 t197 t198 t201 t202 = some r) ∧ Aside0 (kq ≤ k) ∧ Aside0 (Kd.Q k59 59 wc w.heap.size (fun _ => True) (.slice Ao13 t198.length co13) t198) ∧ Aside0 (wc.heap[gb194]? = some (.cells #[.int .i64 t195, .int .i64 t196, .int .i64 t197, (.slice Ao13 t198.length co13), .int .i64 t201, .int .i64 t202] 29 (0, 0))) ∧ Aside0 (Below w.heap.size w wc))
  case first =>
    have H := HC4.out
    clear HC4
    by_cases c14 : t193 = 0
    · rw [if_pos c14] at H
      have c14b0 : (t193 == 0) = true := beq_iff_eq.mpr c14
      have c14b1 : (t193 != 0) = false := bne_eq_false_iff_eq.mpr c14
      clear c14
      (first | rw [c14b0] | (simp only [i64_w, i32_w]; rw [c14b0]) | skip)
      by_cases c15 : t204 = 0
      · rw [if_pos c15] at H
        have c15b0 : (t204 == 0) = true := beq_iff_eq.mpr c15
        have c15b1 : (t204 != 0) = false := bne_eq_false_iff_eq.mpr c15
        clear c15
        by_cases c16 : t192 = 1
        · rw [if_pos c16] at H
          have c16b0 : (t192 == 1) = true := beq_iff_eq.mpr c16
          have c16b1 : (t192 != 1) = false := bne_eq_false_iff_eq.mpr c16
          clear c16
          by_cases c17 : t203 = true
          · subst c17
            have H1 : ((lease_Good.f k t195 t196 t197 t198 t201 t202).bind fun t205 => (if t205 = true then ((lease_Check.f k t195 t196 t197 t198 t201 t202).bind fun t206 => (folkmootlaw20_good.j0 k t193 (t206 != 0) t195 t196 t197 t198 t201 t202)) else (folkmootlaw20_good.j0 k t193 true t195 t196 t197 t198 t201 t202))) = some r := by rw [if_pos rfl] at H; exact H
            clear H
            have H := H1
            clear H1
            replace H := Option.bind_eq_some_iff.mp H
            obtain ⟨t205, A180, H⟩ := H
            replace H : (if t205 = true then ((lease_Check.f k t195 t196 t197 t198 t201 t202).bind fun t206 => (folkmootlaw20_good.j0 k t193 (t206 != 0) t195 t196 t197 t198 t201 t202)) else (folkmootlaw20_good.j0 k t193 true t195 t196 t197 t198 t201 t202)) = some r := H
            have A18 := Aside0.mk A180
            clear A180
            by_cases c19 : t205 = true
            · subst c19
              have H1 : ((lease_Check.f k t195 t196 t197 t198 t201 t202).bind fun t206 => (folkmootlaw20_good.j0 k t193 (t206 != 0) t195 t196 t197 t198 t201 t202)) = some r := by rw [if_pos rfl] at H; exact H
              clear H
              have H := H1
              clear H1
              replace H := Option.bind_eq_some_iff.mp H
              obtain ⟨t206, A200, H⟩ := H
              replace H : (folkmootlaw20_good.j0 k t193 (t206 != 0) t195 t196 t197 t198 t201 t202) = some r := H
              have A20 := Aside0.mk A200
              clear A200
              have H' := Aside0.mk H
              clear H
              have hcz21_0 : w11.cell? ⟨gb194, 0, none⟩ = some (.int .i64 t184) := (blk_cell BK194.out 0).trans rfl
              have hcz21_1 : w11.cell? ⟨gb194, 1, none⟩ = some (.int .i64 t185) := (blk_cell BK194.out 1).trans rfl
              have hcz21_2 : w11.cell? ⟨gb194, 2, none⟩ = some (.int .i64 t186) := (blk_cell BK194.out 2).trans rfl
              have hcz21_3 : w11.cell? ⟨gb194, 3, none⟩ = some (.slice Ao10 t187.length co10) := (blk_cell BK194.out 3).trans rfl
              have hcz21_4 : w11.cell? ⟨gb194, 4, none⟩ = some (.int .i64 t190) := (blk_cell BK194.out 4).trans rfl
              have hcz21_5 : w11.cell? ⟨gb194, 5, none⟩ = some (.int .i64 t191) := (blk_cell BK194.out 5).trans rfl
              have hfz21_0 := blk_frozen BK194.out 0
              have hfz21_1 := blk_frozen BK194.out 1
              have hfz21_2 := blk_frozen BK194.out 2
              have hfz21_3 := blk_frozen BK194.out 3
              have hfz21_4 := blk_frozen BK194.out 4
              have hfz21_5 := blk_frozen BK194.out 5
              go_wp2_with (first | (go_at_call 18; (with_reducible refine (lease_Good.calls k t195 t196 t197 _ _ t198 t201 t202 true _ ?side1 ?side2 A18.out).mono ?_); (case side1 => refine (Kd.Q_reads' (e := 59) (base := w.heap.size) (ok := fun k_ => ((True ∧ some k_ ≠ (.slice Ao6 t179.length co6 : Value).ownBlock) ∧ some k_ ≠ (.slice Ao10 t187.length co10 : Value).ownBlock)) (n := t198.length) (c := co13) ?_).2.2; exact (by (with_reducible repeat (first | apply Kd.Q_alloc | apply Kd.Q_drewN | apply Kd.Q_drew)); exact (Kd.Q_mono (Kd.Q_far (p := ⟨gb194, 5, none⟩) (Kd.Q_far (p := ⟨gb194, 4, none⟩) (Kd.Q_far (p := ⟨gb194, 3, none⟩) (Kd.Q_far (p := ⟨gb194, 2, none⟩) (Kd.Q_far (p := ⟨gb194, 1, none⟩) (Kd.Q_far (p := ⟨gb194, 0, none⟩) (Kd.Q_types HO200.out BK194.out (by decide)) (fun _ hk => hk.2) (.int .i64 t195)) (fun _ hk => hk.2) (.int .i64 t196)) (fun _ hk => hk.2) (.int .i64 t197)) (fun _ hk => hk.2) (.slice Ao13 t198.length co13)) (fun _ hk => hk.2) (.int .i64 t201)) (fun _ hk => hk.2) (.int .i64 t202)) (fun _ h_ => h_.1)))); (case side2 => exact (Kd.Q_reads' HO200.out).2.1); rintro e w22 ⟨rfl, hb⟩; have n0_ := Aside0.mk (Kd.R_below (by (with_reducible repeat (first | apply Kd.R_alloc | apply Kd.R_drewN | apply Kd.R_drew)); exact (Kd.R_mono (Kd.R_far (p := ⟨gb194, 5, none⟩) (Kd.R_far (p := ⟨gb194, 4, none⟩) (Kd.R_far (p := ⟨gb194, 3, none⟩) (Kd.R_far (p := ⟨gb194, 2, none⟩) (Kd.R_far (p := ⟨gb194, 1, none⟩) (Kd.R_far (p := ⟨gb194, 0, none⟩) (Kd.R_types HO181.out BK194.out (by decide)) (fun _ hk => hk.2) (.int .i64 t195)) (fun _ hk => hk.2) (.int .i64 t196)) (fun _ hk => hk.2) (.int .i64 t197)) (fun _ hk => hk.2) (.slice Ao13 t198.length co13)) (fun _ hk => hk.2) (.int .i64 t201)) (fun _ hk => hk.2) (.int .i64 t202)) (fun _ h_ => h_.1))) hb); have n1_ := Aside0.mk (Kd.Q_below (by (with_reducible repeat (first | apply Kd.Q_alloc | apply Kd.Q_drewN | apply Kd.Q_drew)); exact (Kd.Q_mono (Kd.Q_far (p := ⟨gb194, 5, none⟩) (Kd.Q_far (p := ⟨gb194, 4, none⟩) (Kd.Q_far (p := ⟨gb194, 3, none⟩) (Kd.Q_far (p := ⟨gb194, 2, none⟩) (Kd.Q_far (p := ⟨gb194, 1, none⟩) (Kd.Q_far (p := ⟨gb194, 0, none⟩) (Kd.Q_types HO189.out BK194.out (by decide)) (fun _ hk => hk.2) (.int .i64 t195)) (fun _ hk => hk.2) (.int .i64 t196)) (fun _ hk => hk.2) (.int .i64 t197)) (fun _ hk => hk.2) (.slice Ao13 t198.length co13)) (fun _ hk => hk.2) (.int .i64 t201)) (fun _ hk => hk.2) (.int .i64 t202)) (fun _ h_ => h_.1))) hb); have n2_ := Aside0.mk (Kd.Q_below (by (with_reducible repeat (first | apply Kd.Q_alloc | apply Kd.Q_drewN | apply Kd.Q_drew)); exact (Kd.Q_mono (Kd.Q_far (p := ⟨gb194, 5, none⟩) (Kd.Q_far (p := ⟨gb194, 4, none⟩) (Kd.Q_far (p := ⟨gb194, 3, none⟩) (Kd.Q_far (p := ⟨gb194, 2, none⟩) (Kd.Q_far (p := ⟨gb194, 1, none⟩) (Kd.Q_far (p := ⟨gb194, 0, none⟩) (Kd.Q_types HO200.out BK194.out (by decide)) (fun _ hk => hk.2) (.int .i64 t195)) (fun _ hk => hk.2) (.int .i64 t196)) (fun _ hk => hk.2) (.int .i64 t197)) (fun _ hk => hk.2) (.slice Ao13 t198.length co13)) (fun _ hk => hk.2) (.int .i64 t201)) (fun _ hk => hk.2) (.int .i64 t202)) (fun _ h_ => h_.1))) hb); have n3_ := Aside0.mk (blk_below (g := gb194) (o := .cells #[.int .i64 t195, .int .i64 t196, .int .i64 t197, .slice Ao13 t198.length co13, .int .i64 t201, .int .i64 t202] 29 (0, 0)) (by (with_reducible repeat (first | refine blk_drewN ?_ _ | refine blk_drew ?_ | refine blk_alloc ?_ _)); refine blk_put (cs := #[.int .i64 t195, .int .i64 t196, .int .i64 t197, .slice Ao13 t198.length co13, .int .i64 t201, .int .i64 t191]) ?_ 5 _ rfl; (with_reducible repeat (first | refine blk_drewN ?_ _ | refine blk_drew ?_ | refine blk_alloc ?_ _)); refine blk_put (cs := #[.int .i64 t195, .int .i64 t196, .int .i64 t197, .slice Ao13 t198.length co13, .int .i64 t190, .int .i64 t191]) ?_ 4 _ rfl; (with_reducible repeat (first | refine blk_drewN ?_ _ | refine blk_drew ?_ | refine blk_alloc ?_ _)); refine blk_put (cs := #[.int .i64 t195, .int .i64 t196, .int .i64 t197, .slice Ao10 t187.length co10, .int .i64 t190, .int .i64 t191]) ?_ 3 _ rfl; (with_reducible repeat (first | refine blk_drewN ?_ _ | refine blk_drew ?_ | refine blk_alloc ?_ _)); refine blk_put (cs := #[.int .i64 t195, .int .i64 t196, .int .i64 t186, .slice Ao10 t187.length co10, .int .i64 t190, .int .i64 t191]) ?_ 2 _ rfl; (with_reducible repeat (first | refine blk_drewN ?_ _ | refine blk_drew ?_ | refine blk_alloc ?_ _)); refine blk_put (cs := #[.int .i64 t195, .int .i64 t185, .int .i64 t186, .slice Ao10 t187.length co10, .int .i64 t190, .int .i64 t191]) ?_ 1 _ rfl; (with_reducible repeat (first | refine blk_drewN ?_ _ | refine blk_drew ?_ | refine blk_alloc ?_ _)); refine blk_put (cs := #[.int .i64 t184, .int .i64 t185, .int .i64 t186, .slice Ao10 t187.length co10, .int .i64 t190, .int .i64 t191]) ?_ 0 _ rfl; (with_reducible repeat (first | refine blk_drewN ?_ _ | refine blk_drew ?_ | refine blk_alloc ?_ _)); exact BK194.out) hb); have n4_ := Aside0.mk (below_step (by repeat (first | (with_reducible first | exact HB.out | apply below_alloc | apply pw_below_drewN | apply below_drew1 | refine below_set ?_ GE194.out) | exact HB.out)) hb); clear HO181; clear HO189; clear HO200; clear BK194; clear HB; have HO181 := n0_; have HO189 := n1_; have HO200 := n2_; have BK194 := n3_; have HB := n4_; clear n0_ n1_ n2_ n3_ n4_; (try clear hb); (try clear hb2); (try clear hk); (try clear hi); have hcz23_0 : w22.cell? ⟨gb194, 0, none⟩ = some (.int .i64 t195) := (blk_cell BK194.out 0).trans rfl; have hcz23_1 : w22.cell? ⟨gb194, 1, none⟩ = some (.int .i64 t196) := (blk_cell BK194.out 1).trans rfl; have hcz23_2 : w22.cell? ⟨gb194, 2, none⟩ = some (.int .i64 t197) := (blk_cell BK194.out 2).trans rfl; have hcz23_3 : w22.cell? ⟨gb194, 3, none⟩ = some (.slice Ao13 t198.length co13) := (blk_cell BK194.out 3).trans rfl; have hcz23_4 : w22.cell? ⟨gb194, 4, none⟩ = some (.int .i64 t201) := (blk_cell BK194.out 4).trans rfl; have hcz23_5 : w22.cell? ⟨gb194, 5, none⟩ = some (.int .i64 t202) := (blk_cell BK194.out 5).trans rfl; have hfz23_0 := blk_frozen BK194.out 0; have hfz23_1 := blk_frozen BK194.out 1; have hfz23_2 := blk_frozen BK194.out 2; have hfz23_3 := blk_frozen BK194.out 3; have hfz23_4 := blk_frozen BK194.out 4; have hfz23_5 := blk_frozen BK194.out 5) | (go_at_call 13; (with_reducible refine (lease_Check.calls k t195 t196 t197 _ _ t198 t201 t202 t206 _ ?side1 ?side2 A20.out).mono ?_); (case side1 => repeat (first | exact (Kd.Q_reads' HO200.out).2.2 | (with_reducible refine Kd.C_alloc ?_ _) | (with_reducible refine Kd.C_drewN ?_ _) | (with_reducible refine Kd.C_drew ?_))); (case side2 => exact (Kd.Q_reads' HO200.out).2.1); rintro e w24 ⟨rfl, hb⟩; have n0_ := Aside0.mk (Kd.R_below (by (with_reducible repeat (first | apply Kd.R_alloc | apply Kd.R_drewN | apply Kd.R_drew)); exact HO181.out) hb); have n1_ := Aside0.mk (Kd.Q_below (by (with_reducible repeat (first | apply Kd.Q_alloc | apply Kd.Q_drewN | apply Kd.Q_drew)); exact HO189.out) hb); have n2_ := Aside0.mk (Kd.Q_below (by (with_reducible repeat (first | apply Kd.Q_alloc | apply Kd.Q_drewN | apply Kd.Q_drew)); exact HO200.out) hb); have n3_ := Aside0.mk (blk_below (g := gb194) (o := .cells #[.int .i64 t195, .int .i64 t196, .int .i64 t197, .slice Ao13 t198.length co13, .int .i64 t201, .int .i64 t202] 29 (0, 0)) (by (with_reducible repeat (first | refine blk_drewN ?_ _ | refine blk_drew ?_ | refine blk_alloc ?_ _)); exact BK194.out) hb); have n4_ := Aside0.mk (below_step (by repeat (first | (with_reducible first | exact HB.out | apply below_alloc | apply pw_below_drewN | apply below_drew1 | refine below_set ?_ GE194.out) | exact HB.out)) hb); clear HO181; clear HO189; clear HO200; clear BK194; clear HB; have HO181 := n0_; have HO189 := n1_; have HO200 := n2_; have BK194 := n3_; have HB := n4_; clear n0_ n1_ n2_ n3_ n4_; (try clear hb); (try clear hb2); (try clear hk); (try clear hi)))
              go_meet
              case rel => exact ⟨_, ((t206 != 0)), (by first | rfl | (simp; done) | (simp [*]; done)), H', ⟨by first | omega | exact Nat.le_refl _⟩, ⟨by (with_reducible repeat (first | apply Kd.Q_alloc | apply Kd.Q_drewN | apply Kd.Q_drew)); exact Kd.Q_mono HO200.out (fun _ hk => trivial)⟩, ⟨by (with_reducible repeat (first | refine blk_drewN ?_ _ | refine blk_drew ?_ | refine blk_alloc ?_ _)); exact BK194.out⟩, ⟨by repeat (first | (with_reducible first | exact HB.out | apply below_alloc | apply pw_below_drewN | apply below_drew1 | refine below_set ?_ GE194.out) | exact HB.out)⟩⟩
            · replace c19 := Bool.eq_false_iff.mpr c19
              subst c19
              have H1 : (folkmootlaw20_good.j0 k t193 true t195 t196 t197 t198 t201 t202) = some r := by rw [if_neg (show ¬ (false = true) by decide)] at H; exact H
              clear H
              have H := H1
              clear H1
              have H' := Aside0.mk H
              clear H
              have hcz25_0 : w11.cell? ⟨gb194, 0, none⟩ = some (.int .i64 t184) := (blk_cell BK194.out 0).trans rfl
              have hcz25_1 : w11.cell? ⟨gb194, 1, none⟩ = some (.int .i64 t185) := (blk_cell BK194.out 1).trans rfl
              have hcz25_2 : w11.cell? ⟨gb194, 2, none⟩ = some (.int .i64 t186) := (blk_cell BK194.out 2).trans rfl
              have hcz25_3 : w11.cell? ⟨gb194, 3, none⟩ = some (.slice Ao10 t187.length co10) := (blk_cell BK194.out 3).trans rfl
              have hcz25_4 : w11.cell? ⟨gb194, 4, none⟩ = some (.int .i64 t190) := (blk_cell BK194.out 4).trans rfl
              have hcz25_5 : w11.cell? ⟨gb194, 5, none⟩ = some (.int .i64 t191) := (blk_cell BK194.out 5).trans rfl
              have hfz25_0 := blk_frozen BK194.out 0
              have hfz25_1 := blk_frozen BK194.out 1
              have hfz25_2 := blk_frozen BK194.out 2
              have hfz25_3 := blk_frozen BK194.out 3
              have hfz25_4 := blk_frozen BK194.out 4
              have hfz25_5 := blk_frozen BK194.out 5
              go_wp2_with (first | (go_at_call 18; (with_reducible refine (lease_Good.calls k t195 t196 t197 _ _ t198 t201 t202 false _ ?side1 ?side2 A18.out).mono ?_); (case side1 => refine (Kd.Q_reads' (e := 59) (base := w.heap.size) (ok := fun k_ => ((True ∧ some k_ ≠ (.slice Ao6 t179.length co6 : Value).ownBlock) ∧ some k_ ≠ (.slice Ao10 t187.length co10 : Value).ownBlock)) (n := t198.length) (c := co13) ?_).2.2; exact (by (with_reducible repeat (first | apply Kd.Q_alloc | apply Kd.Q_drewN | apply Kd.Q_drew)); exact (Kd.Q_mono (Kd.Q_far (p := ⟨gb194, 5, none⟩) (Kd.Q_far (p := ⟨gb194, 4, none⟩) (Kd.Q_far (p := ⟨gb194, 3, none⟩) (Kd.Q_far (p := ⟨gb194, 2, none⟩) (Kd.Q_far (p := ⟨gb194, 1, none⟩) (Kd.Q_far (p := ⟨gb194, 0, none⟩) (Kd.Q_types HO200.out BK194.out (by decide)) (fun _ hk => hk.2) (.int .i64 t195)) (fun _ hk => hk.2) (.int .i64 t196)) (fun _ hk => hk.2) (.int .i64 t197)) (fun _ hk => hk.2) (.slice Ao13 t198.length co13)) (fun _ hk => hk.2) (.int .i64 t201)) (fun _ hk => hk.2) (.int .i64 t202)) (fun _ h_ => h_.1)))); (case side2 => exact (Kd.Q_reads' HO200.out).2.1); rintro e w26 ⟨rfl, hb⟩; have n0_ := Aside0.mk (Kd.R_below (by (with_reducible repeat (first | apply Kd.R_alloc | apply Kd.R_drewN | apply Kd.R_drew)); exact (Kd.R_mono (Kd.R_far (p := ⟨gb194, 5, none⟩) (Kd.R_far (p := ⟨gb194, 4, none⟩) (Kd.R_far (p := ⟨gb194, 3, none⟩) (Kd.R_far (p := ⟨gb194, 2, none⟩) (Kd.R_far (p := ⟨gb194, 1, none⟩) (Kd.R_far (p := ⟨gb194, 0, none⟩) (Kd.R_types HO181.out BK194.out (by decide)) (fun _ hk => hk.2) (.int .i64 t195)) (fun _ hk => hk.2) (.int .i64 t196)) (fun _ hk => hk.2) (.int .i64 t197)) (fun _ hk => hk.2) (.slice Ao13 t198.length co13)) (fun _ hk => hk.2) (.int .i64 t201)) (fun _ hk => hk.2) (.int .i64 t202)) (fun _ h_ => h_.1))) hb); have n1_ := Aside0.mk (Kd.Q_below (by (with_reducible repeat (first | apply Kd.Q_alloc | apply Kd.Q_drewN | apply Kd.Q_drew)); exact (Kd.Q_mono (Kd.Q_far (p := ⟨gb194, 5, none⟩) (Kd.Q_far (p := ⟨gb194, 4, none⟩) (Kd.Q_far (p := ⟨gb194, 3, none⟩) (Kd.Q_far (p := ⟨gb194, 2, none⟩) (Kd.Q_far (p := ⟨gb194, 1, none⟩) (Kd.Q_far (p := ⟨gb194, 0, none⟩) (Kd.Q_types HO189.out BK194.out (by decide)) (fun _ hk => hk.2) (.int .i64 t195)) (fun _ hk => hk.2) (.int .i64 t196)) (fun _ hk => hk.2) (.int .i64 t197)) (fun _ hk => hk.2) (.slice Ao13 t198.length co13)) (fun _ hk => hk.2) (.int .i64 t201)) (fun _ hk => hk.2) (.int .i64 t202)) (fun _ h_ => h_.1))) hb); have n2_ := Aside0.mk (Kd.Q_below (by (with_reducible repeat (first | apply Kd.Q_alloc | apply Kd.Q_drewN | apply Kd.Q_drew)); exact (Kd.Q_mono (Kd.Q_far (p := ⟨gb194, 5, none⟩) (Kd.Q_far (p := ⟨gb194, 4, none⟩) (Kd.Q_far (p := ⟨gb194, 3, none⟩) (Kd.Q_far (p := ⟨gb194, 2, none⟩) (Kd.Q_far (p := ⟨gb194, 1, none⟩) (Kd.Q_far (p := ⟨gb194, 0, none⟩) (Kd.Q_types HO200.out BK194.out (by decide)) (fun _ hk => hk.2) (.int .i64 t195)) (fun _ hk => hk.2) (.int .i64 t196)) (fun _ hk => hk.2) (.int .i64 t197)) (fun _ hk => hk.2) (.slice Ao13 t198.length co13)) (fun _ hk => hk.2) (.int .i64 t201)) (fun _ hk => hk.2) (.int .i64 t202)) (fun _ h_ => h_.1))) hb); have n3_ := Aside0.mk (blk_below (g := gb194) (o := .cells #[.int .i64 t195, .int .i64 t196, .int .i64 t197, .slice Ao13 t198.length co13, .int .i64 t201, .int .i64 t202] 29 (0, 0)) (by (with_reducible repeat (first | refine blk_drewN ?_ _ | refine blk_drew ?_ | refine blk_alloc ?_ _)); refine blk_put (cs := #[.int .i64 t195, .int .i64 t196, .int .i64 t197, .slice Ao13 t198.length co13, .int .i64 t201, .int .i64 t191]) ?_ 5 _ rfl; (with_reducible repeat (first | refine blk_drewN ?_ _ | refine blk_drew ?_ | refine blk_alloc ?_ _)); refine blk_put (cs := #[.int .i64 t195, .int .i64 t196, .int .i64 t197, .slice Ao13 t198.length co13, .int .i64 t190, .int .i64 t191]) ?_ 4 _ rfl; (with_reducible repeat (first | refine blk_drewN ?_ _ | refine blk_drew ?_ | refine blk_alloc ?_ _)); refine blk_put (cs := #[.int .i64 t195, .int .i64 t196, .int .i64 t197, .slice Ao10 t187.length co10, .int .i64 t190, .int .i64 t191]) ?_ 3 _ rfl; (with_reducible repeat (first | refine blk_drewN ?_ _ | refine blk_drew ?_ | refine blk_alloc ?_ _)); refine blk_put (cs := #[.int .i64 t195, .int .i64 t196, .int .i64 t186, .slice Ao10 t187.length co10, .int .i64 t190, .int .i64 t191]) ?_ 2 _ rfl; (with_reducible repeat (first | refine blk_drewN ?_ _ | refine blk_drew ?_ | refine blk_alloc ?_ _)); refine blk_put (cs := #[.int .i64 t195, .int .i64 t185, .int .i64 t186, .slice Ao10 t187.length co10, .int .i64 t190, .int .i64 t191]) ?_ 1 _ rfl; (with_reducible repeat (first | refine blk_drewN ?_ _ | refine blk_drew ?_ | refine blk_alloc ?_ _)); refine blk_put (cs := #[.int .i64 t184, .int .i64 t185, .int .i64 t186, .slice Ao10 t187.length co10, .int .i64 t190, .int .i64 t191]) ?_ 0 _ rfl; (with_reducible repeat (first | refine blk_drewN ?_ _ | refine blk_drew ?_ | refine blk_alloc ?_ _)); exact BK194.out) hb); have n4_ := Aside0.mk (below_step (by repeat (first | (with_reducible first | exact HB.out | apply below_alloc | apply pw_below_drewN | apply below_drew1 | refine below_set ?_ GE194.out) | exact HB.out)) hb); clear HO181; clear HO189; clear HO200; clear BK194; clear HB; have HO181 := n0_; have HO189 := n1_; have HO200 := n2_; have BK194 := n3_; have HB := n4_; clear n0_ n1_ n2_ n3_ n4_; (try clear hb); (try clear hb2); (try clear hk); (try clear hi)))
              go_meet
              case rel => exact ⟨_, (true), (by first | rfl | (simp; done) | (simp [*]; done)), H', ⟨by first | omega | exact Nat.le_refl _⟩, ⟨by (with_reducible repeat (first | apply Kd.Q_alloc | apply Kd.Q_drewN | apply Kd.Q_drew)); exact Kd.Q_mono HO200.out (fun _ hk => trivial)⟩, ⟨by (with_reducible repeat (first | refine blk_drewN ?_ _ | refine blk_drew ?_ | refine blk_alloc ?_ _)); exact BK194.out⟩, ⟨by repeat (first | (with_reducible first | exact HB.out | apply below_alloc | apply pw_below_drewN | apply below_drew1 | refine below_set ?_ GE194.out) | exact HB.out)⟩⟩
          · replace c17 := Bool.eq_false_iff.mpr c17
            subst c17
            have H1 : (folkmootlaw20_good.j0 k t193 true t195 t196 t197 t198 t201 t202) = some r := by rw [if_neg (show ¬ (false = true) by decide)] at H; exact H
            clear H
            have H := H1
            clear H1
            have H' := Aside0.mk H
            clear H
            go_wp2
            go_meet
            case rel => exact ⟨_, (true), (by first | rfl | (simp; done) | (simp [*]; done)), H', ⟨by first | omega | exact Nat.le_refl _⟩, ⟨by (with_reducible repeat (first | apply Kd.Q_alloc | apply Kd.Q_drewN | apply Kd.Q_drew)); exact Kd.Q_mono (Kd.Q_far (p := ⟨gb194, 5, none⟩) (Kd.Q_far (p := ⟨gb194, 4, none⟩) (Kd.Q_far (p := ⟨gb194, 3, none⟩) (Kd.Q_far (p := ⟨gb194, 2, none⟩) (Kd.Q_far (p := ⟨gb194, 1, none⟩) (Kd.Q_far (p := ⟨gb194, 0, none⟩) (Kd.Q_types HO200.out BK194.out (by decide)) (fun _ hk => hk.2) (.int .i64 t195)) (fun _ hk => hk.2) (.int .i64 t196)) (fun _ hk => hk.2) (.int .i64 t197)) (fun _ hk => hk.2) (.slice Ao13 t198.length co13)) (fun _ hk => hk.2) (.int .i64 t201)) (fun _ hk => hk.2) (.int .i64 t202)) (fun _ hk => trivial)⟩, ⟨by (with_reducible repeat (first | refine blk_drewN ?_ _ | refine blk_drew ?_ | refine blk_alloc ?_ _)); refine blk_put (cs := #[.int .i64 t195, .int .i64 t196, .int .i64 t197, .slice Ao13 t198.length co13, .int .i64 t201, .int .i64 t191]) ?_ 5 _ rfl; (with_reducible repeat (first | refine blk_drewN ?_ _ | refine blk_drew ?_ | refine blk_alloc ?_ _)); refine blk_put (cs := #[.int .i64 t195, .int .i64 t196, .int .i64 t197, .slice Ao13 t198.length co13, .int .i64 t190, .int .i64 t191]) ?_ 4 _ rfl; (with_reducible repeat (first | refine blk_drewN ?_ _ | refine blk_drew ?_ | refine blk_alloc ?_ _)); refine blk_put (cs := #[.int .i64 t195, .int .i64 t196, .int .i64 t197, .slice Ao10 t187.length co10, .int .i64 t190, .int .i64 t191]) ?_ 3 _ rfl; (with_reducible repeat (first | refine blk_drewN ?_ _ | refine blk_drew ?_ | refine blk_alloc ?_ _)); refine blk_put (cs := #[.int .i64 t195, .int .i64 t196, .int .i64 t186, .slice Ao10 t187.length co10, .int .i64 t190, .int .i64 t191]) ?_ 2 _ rfl; (with_reducible repeat (first | refine blk_drewN ?_ _ | refine blk_drew ?_ | refine blk_alloc ?_ _)); refine blk_put (cs := #[.int .i64 t195, .int .i64 t185, .int .i64 t186, .slice Ao10 t187.length co10, .int .i64 t190, .int .i64 t191]) ?_ 1 _ rfl; (with_reducible repeat (first | refine blk_drewN ?_ _ | refine blk_drew ?_ | refine blk_alloc ?_ _)); refine blk_put (cs := #[.int .i64 t184, .int .i64 t185, .int .i64 t186, .slice Ao10 t187.length co10, .int .i64 t190, .int .i64 t191]) ?_ 0 _ rfl; (with_reducible repeat (first | refine blk_drewN ?_ _ | refine blk_drew ?_ | refine blk_alloc ?_ _)); exact BK194.out⟩, ⟨by repeat (first | (with_reducible first | exact HB.out | apply below_alloc | apply pw_below_drewN | apply below_drew1 | refine below_set ?_ GE194.out) | exact HB.out)⟩⟩
        · rw [if_neg c16] at H
          have c16b0 : (t192 == 1) = false := beq_eq_false_iff_ne.mpr c16
          have c16b1 : (t192 != 1) = true := bne_iff_ne.mpr c16
          have H' := Aside0.mk H
          clear H
          go_wp2
          go_meet
          case rel => exact ⟨_, (true), (by first | rfl | (simp; done) | (simp [*]; done)), H', ⟨by first | omega | exact Nat.le_refl _⟩, ⟨by (with_reducible repeat (first | apply Kd.Q_alloc | apply Kd.Q_drewN | apply Kd.Q_drew)); exact Kd.Q_mono (Kd.Q_far (p := ⟨gb194, 5, none⟩) (Kd.Q_far (p := ⟨gb194, 4, none⟩) (Kd.Q_far (p := ⟨gb194, 3, none⟩) (Kd.Q_far (p := ⟨gb194, 2, none⟩) (Kd.Q_far (p := ⟨gb194, 1, none⟩) (Kd.Q_far (p := ⟨gb194, 0, none⟩) (Kd.Q_types HO200.out BK194.out (by decide)) (fun _ hk => hk.2) (.int .i64 t195)) (fun _ hk => hk.2) (.int .i64 t196)) (fun _ hk => hk.2) (.int .i64 t197)) (fun _ hk => hk.2) (.slice Ao13 t198.length co13)) (fun _ hk => hk.2) (.int .i64 t201)) (fun _ hk => hk.2) (.int .i64 t202)) (fun _ hk => trivial)⟩, ⟨by (with_reducible repeat (first | refine blk_drewN ?_ _ | refine blk_drew ?_ | refine blk_alloc ?_ _)); refine blk_put (cs := #[.int .i64 t195, .int .i64 t196, .int .i64 t197, .slice Ao13 t198.length co13, .int .i64 t201, .int .i64 t191]) ?_ 5 _ rfl; (with_reducible repeat (first | refine blk_drewN ?_ _ | refine blk_drew ?_ | refine blk_alloc ?_ _)); refine blk_put (cs := #[.int .i64 t195, .int .i64 t196, .int .i64 t197, .slice Ao13 t198.length co13, .int .i64 t190, .int .i64 t191]) ?_ 4 _ rfl; (with_reducible repeat (first | refine blk_drewN ?_ _ | refine blk_drew ?_ | refine blk_alloc ?_ _)); refine blk_put (cs := #[.int .i64 t195, .int .i64 t196, .int .i64 t197, .slice Ao10 t187.length co10, .int .i64 t190, .int .i64 t191]) ?_ 3 _ rfl; (with_reducible repeat (first | refine blk_drewN ?_ _ | refine blk_drew ?_ | refine blk_alloc ?_ _)); refine blk_put (cs := #[.int .i64 t195, .int .i64 t196, .int .i64 t186, .slice Ao10 t187.length co10, .int .i64 t190, .int .i64 t191]) ?_ 2 _ rfl; (with_reducible repeat (first | refine blk_drewN ?_ _ | refine blk_drew ?_ | refine blk_alloc ?_ _)); refine blk_put (cs := #[.int .i64 t195, .int .i64 t185, .int .i64 t186, .slice Ao10 t187.length co10, .int .i64 t190, .int .i64 t191]) ?_ 1 _ rfl; (with_reducible repeat (first | refine blk_drewN ?_ _ | refine blk_drew ?_ | refine blk_alloc ?_ _)); refine blk_put (cs := #[.int .i64 t184, .int .i64 t185, .int .i64 t186, .slice Ao10 t187.length co10, .int .i64 t190, .int .i64 t191]) ?_ 0 _ rfl; (with_reducible repeat (first | refine blk_drewN ?_ _ | refine blk_drew ?_ | refine blk_alloc ?_ _)); exact BK194.out⟩, ⟨by repeat (first | (with_reducible first | exact HB.out | apply below_alloc | apply pw_below_drewN | apply below_drew1 | refine below_set ?_ GE194.out) | exact HB.out)⟩⟩
      · rw [if_neg c15] at H
        have c15b0 : (t204 == 0) = false := beq_eq_false_iff_ne.mpr c15
        have c15b1 : (t204 != 0) = true := bne_iff_ne.mpr c15
        have H' := Aside0.mk H
        clear H
        go_wp2
        go_meet
        case rel => exact ⟨_, (true), (by first | rfl | (simp; done) | (simp [*]; done)), H', ⟨by first | omega | exact Nat.le_refl _⟩, ⟨by (with_reducible repeat (first | apply Kd.Q_alloc | apply Kd.Q_drewN | apply Kd.Q_drew)); exact Kd.Q_mono (Kd.Q_far (p := ⟨gb194, 5, none⟩) (Kd.Q_far (p := ⟨gb194, 4, none⟩) (Kd.Q_far (p := ⟨gb194, 3, none⟩) (Kd.Q_far (p := ⟨gb194, 2, none⟩) (Kd.Q_far (p := ⟨gb194, 1, none⟩) (Kd.Q_far (p := ⟨gb194, 0, none⟩) (Kd.Q_types HO200.out BK194.out (by decide)) (fun _ hk => hk.2) (.int .i64 t195)) (fun _ hk => hk.2) (.int .i64 t196)) (fun _ hk => hk.2) (.int .i64 t197)) (fun _ hk => hk.2) (.slice Ao13 t198.length co13)) (fun _ hk => hk.2) (.int .i64 t201)) (fun _ hk => hk.2) (.int .i64 t202)) (fun _ hk => trivial)⟩, ⟨by (with_reducible repeat (first | refine blk_drewN ?_ _ | refine blk_drew ?_ | refine blk_alloc ?_ _)); refine blk_put (cs := #[.int .i64 t195, .int .i64 t196, .int .i64 t197, .slice Ao13 t198.length co13, .int .i64 t201, .int .i64 t191]) ?_ 5 _ rfl; (with_reducible repeat (first | refine blk_drewN ?_ _ | refine blk_drew ?_ | refine blk_alloc ?_ _)); refine blk_put (cs := #[.int .i64 t195, .int .i64 t196, .int .i64 t197, .slice Ao13 t198.length co13, .int .i64 t190, .int .i64 t191]) ?_ 4 _ rfl; (with_reducible repeat (first | refine blk_drewN ?_ _ | refine blk_drew ?_ | refine blk_alloc ?_ _)); refine blk_put (cs := #[.int .i64 t195, .int .i64 t196, .int .i64 t197, .slice Ao10 t187.length co10, .int .i64 t190, .int .i64 t191]) ?_ 3 _ rfl; (with_reducible repeat (first | refine blk_drewN ?_ _ | refine blk_drew ?_ | refine blk_alloc ?_ _)); refine blk_put (cs := #[.int .i64 t195, .int .i64 t196, .int .i64 t186, .slice Ao10 t187.length co10, .int .i64 t190, .int .i64 t191]) ?_ 2 _ rfl; (with_reducible repeat (first | refine blk_drewN ?_ _ | refine blk_drew ?_ | refine blk_alloc ?_ _)); refine blk_put (cs := #[.int .i64 t195, .int .i64 t185, .int .i64 t186, .slice Ao10 t187.length co10, .int .i64 t190, .int .i64 t191]) ?_ 1 _ rfl; (with_reducible repeat (first | refine blk_drewN ?_ _ | refine blk_drew ?_ | refine blk_alloc ?_ _)); refine blk_put (cs := #[.int .i64 t184, .int .i64 t185, .int .i64 t186, .slice Ao10 t187.length co10, .int .i64 t190, .int .i64 t191]) ?_ 0 _ rfl; (with_reducible repeat (first | refine blk_drewN ?_ _ | refine blk_drew ?_ | refine blk_alloc ?_ _)); exact BK194.out⟩, ⟨by repeat (first | (with_reducible first | exact HB.out | apply below_alloc | apply pw_below_drewN | apply below_drew1 | refine below_set ?_ GE194.out) | exact HB.out)⟩⟩
    · rw [if_neg c14] at H
      have c14b0 : (t193 == 0) = false := beq_eq_false_iff_ne.mpr c14
      have c14b1 : (t193 != 0) = true := bne_iff_ne.mpr c14
      (first | rw [c14b0] | (simp only [i64_w, i32_w]; rw [c14b0]) | skip)
      have H' := Aside0.mk H
      clear H
      go_wp2
      go_meet
      case rel => exact ⟨_, (true), (by first | rfl | (simp; done) | (simp [*]; done)), H', ⟨by first | omega | exact Nat.le_refl _⟩, ⟨by (with_reducible repeat (first | apply Kd.Q_alloc | apply Kd.Q_drewN | apply Kd.Q_drew)); exact Kd.Q_mono (Kd.Q_far (p := ⟨gb194, 5, none⟩) (Kd.Q_far (p := ⟨gb194, 4, none⟩) (Kd.Q_far (p := ⟨gb194, 3, none⟩) (Kd.Q_far (p := ⟨gb194, 2, none⟩) (Kd.Q_far (p := ⟨gb194, 1, none⟩) (Kd.Q_far (p := ⟨gb194, 0, none⟩) (Kd.Q_types HO200.out BK194.out (by decide)) (fun _ hk => hk.2) (.int .i64 t195)) (fun _ hk => hk.2) (.int .i64 t196)) (fun _ hk => hk.2) (.int .i64 t197)) (fun _ hk => hk.2) (.slice Ao13 t198.length co13)) (fun _ hk => hk.2) (.int .i64 t201)) (fun _ hk => hk.2) (.int .i64 t202)) (fun _ hk => trivial)⟩, ⟨by (with_reducible repeat (first | refine blk_drewN ?_ _ | refine blk_drew ?_ | refine blk_alloc ?_ _)); refine blk_put (cs := #[.int .i64 t195, .int .i64 t196, .int .i64 t197, .slice Ao13 t198.length co13, .int .i64 t201, .int .i64 t191]) ?_ 5 _ rfl; (with_reducible repeat (first | refine blk_drewN ?_ _ | refine blk_drew ?_ | refine blk_alloc ?_ _)); refine blk_put (cs := #[.int .i64 t195, .int .i64 t196, .int .i64 t197, .slice Ao13 t198.length co13, .int .i64 t190, .int .i64 t191]) ?_ 4 _ rfl; (with_reducible repeat (first | refine blk_drewN ?_ _ | refine blk_drew ?_ | refine blk_alloc ?_ _)); refine blk_put (cs := #[.int .i64 t195, .int .i64 t196, .int .i64 t197, .slice Ao10 t187.length co10, .int .i64 t190, .int .i64 t191]) ?_ 3 _ rfl; (with_reducible repeat (first | refine blk_drewN ?_ _ | refine blk_drew ?_ | refine blk_alloc ?_ _)); refine blk_put (cs := #[.int .i64 t195, .int .i64 t196, .int .i64 t186, .slice Ao10 t187.length co10, .int .i64 t190, .int .i64 t191]) ?_ 2 _ rfl; (with_reducible repeat (first | refine blk_drewN ?_ _ | refine blk_drew ?_ | refine blk_alloc ?_ _)); refine blk_put (cs := #[.int .i64 t195, .int .i64 t185, .int .i64 t186, .slice Ao10 t187.length co10, .int .i64 t190, .int .i64 t191]) ?_ 1 _ rfl; (with_reducible repeat (first | refine blk_drewN ?_ _ | refine blk_drew ?_ | refine blk_alloc ?_ _)); refine blk_put (cs := #[.int .i64 t184, .int .i64 t185, .int .i64 t186, .slice Ao10 t187.length co10, .int .i64 t190, .int .i64 t191]) ?_ 0 _ rfl; (with_reducible repeat (first | refine blk_drewN ?_ _ | refine blk_drew ?_ | refine blk_alloc ?_ _)); exact BK194.out⟩, ⟨by repeat (first | (with_reducible first | exact HB.out | apply below_alloc | apply pw_below_drewN | apply below_drew1 | refine below_set ?_ GE194.out) | exact HB.out)⟩⟩
  case rest =>
    clear HC4
    try clear c1
    try clear c2
    try clear p2
    try clear c14
    try clear c14b0
    try clear c14b1
    try clear c15
    try clear c15b0
    try clear c15b1
    try clear c16
    try clear c16b0
    try clear c16b1
    try clear c17
    try clear c19
    try clear c21
    try clear c23
    try clear hcz12_0
    try clear hcz12_1
    try clear hcz12_2
    try clear hcz12_3
    try clear hcz12_4
    try clear hcz12_5
    try clear hcz21_0
    try clear hcz21_1
    try clear hcz21_2
    try clear hcz21_3
    try clear hcz21_4
    try clear hcz21_5
    try clear hcz23_0
    try clear hcz23_1
    try clear hcz23_2
    try clear hcz23_3
    try clear hcz23_4
    try clear hcz23_5
    try clear hcz25_0
    try clear hcz25_1
    try clear hcz25_2
    try clear hcz25_3
    try clear hcz25_4
    try clear hcz25_5
    try clear hcz9_0
    try clear hcz9_1
    try clear hcz9_2
    try clear hcz9_3
    try clear hcz9_4
    try clear hcz9_5
    try clear hfz12_0
    try clear hfz12_1
    try clear hfz12_2
    try clear hfz12_3
    try clear hfz12_4
    try clear hfz12_5
    try clear hfz21_0
    try clear hfz21_1
    try clear hfz21_2
    try clear hfz21_3
    try clear hfz21_4
    try clear hfz21_5
    try clear hfz23_0
    try clear hfz23_1
    try clear hfz23_2
    try clear hfz23_3
    try clear hfz23_4
    try clear hfz23_5
    try clear hfz25_0
    try clear hfz25_1
    try clear hfz25_2
    try clear hfz25_3
    try clear hfz25_4
    try clear hfz25_5
    try clear hfz9_0
    try clear hfz9_1
    try clear hfz9_2
    try clear hfz9_3
    try clear hfz9_4
    try clear hfz9_5
    obtain ⟨kq, x45_3, rfl, HA, HJ3, HO_195003, BK194, HB⟩ := hcut
    cases kq with
    | zero => exact absurd HA.out (by simp [folkmootlaw20_good.j0])
    | succ kj3 =>
      have H := HA.out
      clear HA
      simp only [folkmootlaw20_good.j0] at H
      by_cases c27 : x45_3 = true
      · subst c27
        have H1 : (some false) = some r := by rw [if_pos rfl] at H; exact H
        clear H
        have H := H1
        clear H1
        obtain rfl := Option.some.inj H
        go_wp2
        go_ret
        exact ⟨by first | rfl | (simp [errW_none, errW_some] <;> rfl) | (simp [*, errW_none, errW_some] <;> rfl), by repeat (first | (with_reducible first | exact HB.out | apply below_alloc | apply pw_below_drewN | apply below_drew1 | refine below_set ?_ GE194.out) | exact HB.out)⟩
      · replace c27 := Bool.eq_false_iff.mpr c27
        subst c27
        have H1 : (folkmootlaw20_good.l0 kj3 t193 0 t195 t196 t197 t198 t201 t202) = some r := by rw [if_neg (show ¬ (false = true) by decide)] at H; exact H
        clear H
        have H := H1
        clear H1
        have H' := Aside0.mk H
        clear H
        go_wp2
        go_loopg [3, 6] kj3 (fun kq v3 v6 w' => ∃ (x3_2 : Int) (x6_2 : Int) (x195000_2 : Int) (x195001_2 : Int) (x195002_2 : Int) (x195003_2 : List (S59)) (x195004_2 : Int) (x195005_2 : Int) (u195003 : Value), v3 = .int .i64 x3_2 ∧ v6 = .int .i64 x6_2 ∧ Aside0 (folkmootlaw20_good.l0 kq x3_2 x6_2 x195000_2 x195001_2 x195002_2 x195003_2 x195004_2 x195005_2 = some r) ∧ Aside0 (kq ≤ kj3) ∧ Aside0 (Kd.Q k59 59 w' w.heap.size (fun _ => True) u195003 x195003_2) ∧ Aside0 (w'.heap[gb194]? = some (.cells #[.int .i64 x195000_2, .int .i64 x195001_2, .int .i64 x195002_2, u195003, .int .i64 x195004_2, .int .i64 x195005_2] 29 (0, 0))) ∧ Aside0 (Below w.heap.size w w'))
        case atStart => exact ⟨(t193), (0), (t195), (t196), (t197), (t198), (t201), (t202), (.slice Ao13 t198.length co13), (by first | rfl | (simp; done) | (simp [*]; done)), (by first | rfl | (simp; done) | (simp [*]; done)), H', ⟨Nat.le_refl _⟩, ⟨by (with_reducible repeat (first | apply Kd.Q_alloc | apply Kd.Q_drewN | apply Kd.Q_drew)); exact HO_195003.out⟩, ⟨by (with_reducible repeat (first | refine blk_drewN ?_ _ | refine blk_drew ?_ | refine blk_alloc ?_ _)); exact BK194.out⟩, ⟨by repeat (first | (with_reducible first | exact HB.out | apply below_alloc | apply pw_below_drewN | apply below_drew1 | refine below_set ?_ GE194.out) | exact HB.out)⟩⟩
        case round =>
          clear H'
          try clear c1
          try clear c2
          try clear p2
          try clear c14
          try clear c14b0
          try clear c14b1
          try clear c15
          try clear c15b0
          try clear c15b1
          try clear c16
          try clear c16b0
          try clear c16b1
          try clear c17
          try clear c19
          try clear c21
          try clear c23
          try clear c27
          try clear hcz12_0
          try clear hcz12_1
          try clear hcz12_2
          try clear hcz12_3
          try clear hcz12_4
          try clear hcz12_5
          try clear hcz21_0
          try clear hcz21_1
          try clear hcz21_2
          try clear hcz21_3
          try clear hcz21_4
          try clear hcz21_5
          try clear hcz23_0
          try clear hcz23_1
          try clear hcz23_2
          try clear hcz23_3
          try clear hcz23_4
          try clear hcz23_5
          try clear hcz25_0
          try clear hcz25_1
          try clear hcz25_2
          try clear hcz25_3
          try clear hcz25_4
          try clear hcz25_5
          try clear hcz9_0
          try clear hcz9_1
          try clear hcz9_2
          try clear hcz9_3
          try clear hcz9_4
          try clear hcz9_5
          try clear hfz12_0
          try clear hfz12_1
          try clear hfz12_2
          try clear hfz12_3
          try clear hfz12_4
          try clear hfz12_5
          try clear hfz21_0
          try clear hfz21_1
          try clear hfz21_2
          try clear hfz21_3
          try clear hfz21_4
          try clear hfz21_5
          try clear hfz23_0
          try clear hfz23_1
          try clear hfz23_2
          try clear hfz23_3
          try clear hfz23_4
          try clear hfz23_5
          try clear hfz25_0
          try clear hfz25_1
          try clear hfz25_2
          try clear hfz25_3
          try clear hfz25_4
          try clear hfz25_5
          try clear hfz9_0
          try clear hfz9_1
          try clear hfz9_2
          try clear hfz9_3
          try clear hfz9_4
          try clear hfz9_5
          try clear p2
          obtain ⟨x3_2, x6_2, x195000_2, x195001_2, x195002_2, x195003_2, x195004_2, x195005_2, u195003, rfl, rfl, HA, HK2, HO_195003, BK194, HB⟩ := hrel
          cases gk with
          | zero => exact absurd HA.out (by simp [folkmootlaw20_good.l0])
          | succ k2 =>
            have H := HA.out
            clear HA
            simp only [folkmootlaw20_good.l0] at H
            by_cases c28 : x6_2 < 7
            · rw [if_pos c28] at H
              have c28b0 : decide (x6_2 < 7) = true := decide_eq_true c28
              clear c28
              replace H := Option.bind_eq_some_iff.mp H
              obtain ⟨⟨t207, t208, t209, t210, t213, t214, t215⟩, A290, H⟩ := H
              replace H : (folkmootlaw20_good.l0 k2 t215 (wrap64 (x6_2 + 1)) t207 t208 t209 t210 t213 t214) = some r := H
              have A29 := Aside0.mk A290
              clear A290
              have H' := Aside0.mk H
              clear H
              have hcz30_0 : wr.cell? ⟨gb194, 0, none⟩ = some (.int .i64 x195000_2) := (blk_cell BK194.out 0).trans rfl
              have hcz30_1 : wr.cell? ⟨gb194, 1, none⟩ = some (.int .i64 x195001_2) := (blk_cell BK194.out 1).trans rfl
              have hcz30_2 : wr.cell? ⟨gb194, 2, none⟩ = some (.int .i64 x195002_2) := (blk_cell BK194.out 2).trans rfl
              have hcz30_3 : wr.cell? ⟨gb194, 3, none⟩ = some (u195003) := (blk_cell BK194.out 3).trans rfl
              have hcz30_4 : wr.cell? ⟨gb194, 4, none⟩ = some (.int .i64 x195004_2) := (blk_cell BK194.out 4).trans rfl
              have hcz30_5 : wr.cell? ⟨gb194, 5, none⟩ = some (.int .i64 x195005_2) := (blk_cell BK194.out 5).trans rfl
              have hfz30_0 := blk_frozen BK194.out 0
              have hfz30_1 := blk_frozen BK194.out 1
              have hfz30_2 := blk_frozen BK194.out 2
              have hfz30_3 := blk_frozen BK194.out 3
              have hfz30_4 := blk_frozen BK194.out 4
              have hfz30_5 := blk_frozen BK194.out 5
              obtain ⟨Ao31, co31, eo31, _⟩ := Kd.Q_slice HO_195003.out
              subst eo31
              go_wp2_with (first | ((with_reducible refine gate_callee (f := 14) rfl ?_); refine goesL_ (some 52) rfl rfl Try.func14 (by kernel_rfl) rfl #[.agg #[.int .i64 x195000_2, .int .i64 x195001_2, .int .i64 x195002_2, .slice Ao31 x195003_2.length co31, .int .i64 x195004_2, .int .i64 x195005_2]] rfl (by (try simp only [List.map_toArray, List.map_cons, List.map_nil]); first | done | rfl | (simp only [List.length_drop, List.length_take]; rfl)) ?_; (with_reducible refine (lease_Tick.calls k2 x195000_2 x195001_2 x195002_2 _ _ x195003_2 x195004_2 x195005_2 t207 t208 t209 t210 t213 t214 t215 _ ?side1 ?side2 A29.out).mono ?_); (case side1 => repeat (first | exact (Kd.Q_reads' HO_195003.out).2.2 | (with_reducible refine Kd.C_alloc ?_ _) | (with_reducible refine Kd.C_drewN ?_ _) | (with_reducible refine Kd.C_drew ?_))); (case side2 => exact (Kd.Q_reads' HO_195003.out).2.1); rintro e w32 ⟨v211, rfl, ho0, hb⟩; refine ⟨_, rfl, ?_⟩; have n0_ := Aside0.mk (Kd.Q_elder' (by (with_reducible repeat (first | apply Kd.Q_alloc | apply Kd.Q_drewN | apply Kd.Q_drew)); exact HO_195003.out) (Kd.R_base ho0) hb); have n1_ := Aside0.mk (Kd.R_lower (Kd.R_new' ho0 (Kd.Q_lt (by (with_reducible repeat (first | apply Kd.Q_alloc | apply Kd.Q_drewN | apply Kd.Q_drew)); exact HO_195003.out))) (below_size (by repeat (first | (with_reducible first | exact HB.out | apply below_alloc | apply pw_below_drewN | apply below_drew1 | refine below_set ?_ GE194.out) | exact HB.out)))); have n2_ := Aside0.mk (blk_below (g := gb194) (o := .cells #[.int .i64 x195000_2, .int .i64 x195001_2, .int .i64 x195002_2, .slice Ao31 x195003_2.length co31, .int .i64 x195004_2, .int .i64 x195005_2] 29 (0, 0)) (by (with_reducible repeat (first | refine blk_drewN ?_ _ | refine blk_drew ?_ | refine blk_alloc ?_ _)); exact BK194.out) hb); have n3_ := Aside0.mk (below_step (by repeat (first | (with_reducible first | exact HB.out | apply below_alloc | apply pw_below_drewN | apply below_drew1 | refine below_set ?_ GE194.out) | exact HB.out)) hb); clear HO_195003; clear BK194; clear HB; have HO_195003 := n0_; have HO212 := n1_; have BK194 := n2_; have HB := n3_; clear n0_ n1_ n2_ n3_; (try clear hb); (try clear hb2); (try clear hk); (try clear hi); (try clear ho0); have hcz33_0 : w32.cell? ⟨gb194, 0, none⟩ = some (.int .i64 x195000_2) := (blk_cell BK194.out 0).trans rfl; have hcz33_1 : w32.cell? ⟨gb194, 1, none⟩ = some (.int .i64 x195001_2) := (blk_cell BK194.out 1).trans rfl; have hcz33_2 : w32.cell? ⟨gb194, 2, none⟩ = some (.int .i64 x195002_2) := (blk_cell BK194.out 2).trans rfl; have hcz33_3 : w32.cell? ⟨gb194, 3, none⟩ = some (.slice Ao31 x195003_2.length co31) := (blk_cell BK194.out 3).trans rfl; have hcz33_4 : w32.cell? ⟨gb194, 4, none⟩ = some (.int .i64 x195004_2) := (blk_cell BK194.out 4).trans rfl; have hcz33_5 : w32.cell? ⟨gb194, 5, none⟩ = some (.int .i64 x195005_2) := (blk_cell BK194.out 5).trans rfl; have hfz33_0 := blk_frozen BK194.out 0; have hfz33_1 := blk_frozen BK194.out 1; have hfz33_2 := blk_frozen BK194.out 2; have hfz33_3 := blk_frozen BK194.out 3; have hfz33_4 := blk_frozen BK194.out 4; have hfz33_5 := blk_frozen BK194.out 5; obtain ⟨Ao34, co34, eo34⟩ := Kd.R_slice HO212.out; subst eo34))
              go_roundg k2
              case measure => have := HJ3.out; have := HK2.out; omega
              case rel => exact ⟨(t215), (wrap64 (x6_2 + 1)), (t207), (t208), (t209), (t210), (t213), (t214), (.slice Ao34 t210.length co34), (by first | rfl | (simp; done) | (simp [*]; done)), (by first | rfl | (simp; done) | (simp [*]; done)), H', ⟨by have := HJ3.out; have := HK2.out; omega⟩, ⟨Kd.Q_of_R (by (with_reducible repeat (first | apply Kd.R_alloc | apply Kd.R_drewN | apply Kd.R_drew)); exact Kd.R_mono (Kd.R_far (p := ⟨gb194, 5, none⟩) (Kd.R_far (p := ⟨gb194, 4, none⟩) (Kd.R_far (p := ⟨gb194, 3, none⟩) (Kd.R_far (p := ⟨gb194, 2, none⟩) (Kd.R_far (p := ⟨gb194, 1, none⟩) (Kd.R_far (p := ⟨gb194, 0, none⟩) (Kd.R_types HO212.out BK194.out (by decide)) (fun _ hk => hk.2) (.int .i64 t207)) (fun _ hk => hk.2) (.int .i64 t208)) (fun _ hk => hk.2) (.int .i64 t209)) (fun _ hk => hk.2) (.slice Ao34 t210.length co34)) (fun _ hk => hk.2) (.int .i64 t213)) (fun _ hk => hk.2) (.int .i64 t214)) (fun _ hk => trivial))⟩, ⟨by (with_reducible repeat (first | refine blk_drewN ?_ _ | refine blk_drew ?_ | refine blk_alloc ?_ _)); refine blk_put (cs := #[.int .i64 t207, .int .i64 t208, .int .i64 t209, .slice Ao34 t210.length co34, .int .i64 t213, .int .i64 x195005_2]) ?_ 5 _ rfl; (with_reducible repeat (first | refine blk_drewN ?_ _ | refine blk_drew ?_ | refine blk_alloc ?_ _)); refine blk_put (cs := #[.int .i64 t207, .int .i64 t208, .int .i64 t209, .slice Ao34 t210.length co34, .int .i64 x195004_2, .int .i64 x195005_2]) ?_ 4 _ rfl; (with_reducible repeat (first | refine blk_drewN ?_ _ | refine blk_drew ?_ | refine blk_alloc ?_ _)); refine blk_put (cs := #[.int .i64 t207, .int .i64 t208, .int .i64 t209, .slice Ao31 x195003_2.length co31, .int .i64 x195004_2, .int .i64 x195005_2]) ?_ 3 _ rfl; (with_reducible repeat (first | refine blk_drewN ?_ _ | refine blk_drew ?_ | refine blk_alloc ?_ _)); refine blk_put (cs := #[.int .i64 t207, .int .i64 t208, .int .i64 x195002_2, .slice Ao31 x195003_2.length co31, .int .i64 x195004_2, .int .i64 x195005_2]) ?_ 2 _ rfl; (with_reducible repeat (first | refine blk_drewN ?_ _ | refine blk_drew ?_ | refine blk_alloc ?_ _)); refine blk_put (cs := #[.int .i64 t207, .int .i64 x195001_2, .int .i64 x195002_2, .slice Ao31 x195003_2.length co31, .int .i64 x195004_2, .int .i64 x195005_2]) ?_ 1 _ rfl; (with_reducible repeat (first | refine blk_drewN ?_ _ | refine blk_drew ?_ | refine blk_alloc ?_ _)); refine blk_put (cs := #[.int .i64 x195000_2, .int .i64 x195001_2, .int .i64 x195002_2, .slice Ao31 x195003_2.length co31, .int .i64 x195004_2, .int .i64 x195005_2]) ?_ 0 _ rfl; (with_reducible repeat (first | refine blk_drewN ?_ _ | refine blk_drew ?_ | refine blk_alloc ?_ _)); exact BK194.out⟩, ⟨by repeat (first | (with_reducible first | exact HB.out | apply below_alloc | apply pw_below_drewN | apply below_drew1 | refine below_set ?_ GE194.out) | exact HB.out)⟩⟩
            · rw [if_neg c28] at H
              have c28b0 : decide (x6_2 < 7) = false := decide_eq_false c28
              clear c28
              replace H := Option.bind_eq_some_iff.mp H
              obtain ⟨⟨t216, t217, t218, t219, t222, t223, t224⟩, A350, H⟩ := H
              replace H : (if x3_2 = 0 then (if t224 = 0 then ((lease_Good.f k2 x195000_2 x195001_2 x195002_2 x195003_2 x195004_2 x195005_2).bind fun t226 => (if t226 = true then ((lease_Good.f k2 t216 t217 t218 t219 t222 t223).bind fun t227 => (some (!t227))) else (none))) else (none)) else (none)) = some r := H
              have A35 := Aside0.mk A350
              clear A350
              by_cases c36 : x3_2 = 0
              · rw [if_pos c36] at H
                have c36b0 : (x3_2 == 0) = true := beq_iff_eq.mpr c36
                have c36b1 : (x3_2 != 0) = false := bne_eq_false_iff_eq.mpr c36
                clear c36
                by_cases c37 : t224 = 0
                · rw [if_pos c37] at H
                  have c37b0 : (t224 == 0) = true := beq_iff_eq.mpr c37
                  have c37b1 : (t224 != 0) = false := bne_eq_false_iff_eq.mpr c37
                  clear c37
                  replace H := Option.bind_eq_some_iff.mp H
                  obtain ⟨t226, A380, H⟩ := H
                  replace H : (if t226 = true then ((lease_Good.f k2 t216 t217 t218 t219 t222 t223).bind fun t227 => (some (!t227))) else (none)) = some r := H
                  have A38 := Aside0.mk A380
                  clear A380
                  by_cases c39 : t226 = true
                  · subst c39
                    have H1 : ((lease_Good.f k2 t216 t217 t218 t219 t222 t223).bind fun t227 => (some (!t227))) = some r := by rw [if_pos rfl] at H; exact H
                    clear H
                    have H := H1
                    clear H1
                    replace H := Option.bind_eq_some_iff.mp H
                    obtain ⟨t227, A400, H⟩ := H
                    replace H : (some (!t227)) = some r := H
                    have A40 := Aside0.mk A400
                    clear A400
                    obtain rfl := Option.some.inj H
                    have hcz41_0 : wr.cell? ⟨gb194, 0, none⟩ = some (.int .i64 x195000_2) := (blk_cell BK194.out 0).trans rfl
                    have hcz41_1 : wr.cell? ⟨gb194, 1, none⟩ = some (.int .i64 x195001_2) := (blk_cell BK194.out 1).trans rfl
                    have hcz41_2 : wr.cell? ⟨gb194, 2, none⟩ = some (.int .i64 x195002_2) := (blk_cell BK194.out 2).trans rfl
                    have hcz41_3 : wr.cell? ⟨gb194, 3, none⟩ = some (u195003) := (blk_cell BK194.out 3).trans rfl
                    have hcz41_4 : wr.cell? ⟨gb194, 4, none⟩ = some (.int .i64 x195004_2) := (blk_cell BK194.out 4).trans rfl
                    have hcz41_5 : wr.cell? ⟨gb194, 5, none⟩ = some (.int .i64 x195005_2) := (blk_cell BK194.out 5).trans rfl
                    have hfz41_0 := blk_frozen BK194.out 0
                    have hfz41_1 := blk_frozen BK194.out 1
                    have hfz41_2 := blk_frozen BK194.out 2
                    have hfz41_3 := blk_frozen BK194.out 3
                    have hfz41_4 := blk_frozen BK194.out 4
                    have hfz41_5 := blk_frozen BK194.out 5
                    obtain ⟨Ao42, co42, eo42, _⟩ := Kd.Q_slice HO_195003.out
                    subst eo42
                    go_wp2_with (first | ((with_reducible refine gate_callee (f := 14) rfl ?_); refine goesL_ (some 57) rfl rfl Try.func14 (by kernel_rfl) rfl #[.agg #[.int .i64 x195000_2, .int .i64 x195001_2, .int .i64 x195002_2, .slice Ao42 x195003_2.length co42, .int .i64 x195004_2, .int .i64 x195005_2]] rfl (by (try simp only [List.map_toArray, List.map_cons, List.map_nil]); first | done | rfl | (simp only [List.length_drop, List.length_take]; rfl)) ?_; (with_reducible refine (lease_Tick.calls k2 x195000_2 x195001_2 x195002_2 _ _ x195003_2 x195004_2 x195005_2 t216 t217 t218 t219 t222 t223 t224 _ ?side1 ?side2 A35.out).mono ?_); (case side1 => repeat (first | exact (Kd.Q_reads' HO_195003.out).2.2 | (with_reducible refine Kd.C_alloc ?_ _) | (with_reducible refine Kd.C_drewN ?_ _) | (with_reducible refine Kd.C_drew ?_))); (case side2 => exact (Kd.Q_reads' HO_195003.out).2.1); rintro e w43 ⟨v220, rfl, ho0, hb⟩; refine ⟨_, rfl, ?_⟩; have n0_ := Aside0.mk (Kd.Q_elder' (by (with_reducible repeat (first | apply Kd.Q_alloc | apply Kd.Q_drewN | apply Kd.Q_drew)); exact HO_195003.out) (Kd.R_base ho0) hb); have n1_ := Aside0.mk (Kd.R_lower (Kd.R_new' ho0 (Kd.Q_lt (by (with_reducible repeat (first | apply Kd.Q_alloc | apply Kd.Q_drewN | apply Kd.Q_drew)); exact HO_195003.out))) (below_size (by repeat (first | (with_reducible first | exact HB.out | apply below_alloc | apply pw_below_drewN | apply below_drew1 | refine below_set ?_ GE194.out) | exact HB.out)))); have n2_ := Aside0.mk (blk_below (g := gb194) (o := .cells #[.int .i64 x195000_2, .int .i64 x195001_2, .int .i64 x195002_2, .slice Ao42 x195003_2.length co42, .int .i64 x195004_2, .int .i64 x195005_2] 29 (0, 0)) (by (with_reducible repeat (first | refine blk_drewN ?_ _ | refine blk_drew ?_ | refine blk_alloc ?_ _)); exact BK194.out) hb); have n3_ := Aside0.mk (below_step (by repeat (first | (with_reducible first | exact HB.out | apply below_alloc | apply pw_below_drewN | apply below_drew1 | refine below_set ?_ GE194.out) | exact HB.out)) hb); clear HO_195003; clear BK194; clear HB; have HO_195003 := n0_; have HO221 := n1_; have BK194 := n2_; have HB := n3_; clear n0_ n1_ n2_ n3_; (try clear hb); (try clear hb2); (try clear hk); (try clear hi); (try clear ho0)) | ((with_reducible refine gate_dst (N := 7) rfl ?_); refine box_event ?hg (N := 7) ?hd (cs := #[.int .i64 0, .int .i64 0, .int .i64 0, .slice none 0 0, .int .i64 0, .int .i64 0]) (t := 29) ?hr ?_; (case hd => rfl); (case hg => rfl); (case hr => first | (go_simp; done) | (go_simp; rfl)); intro gb225 hg w44 hbox hb; have n0_ := Aside0.mk (Kd.Q_below (by (with_reducible repeat (first | apply Kd.Q_alloc | apply Kd.Q_drewN | apply Kd.Q_drew)); exact HO_195003.out) hb); have n1_ := Aside0.mk (Kd.R_below (by (with_reducible repeat (first | apply Kd.R_alloc | apply Kd.R_drewN | apply Kd.R_drew)); exact HO221.out) hb); have n2_ := Aside0.mk (blk_below (g := gb194) (o := .cells #[.int .i64 x195000_2, .int .i64 x195001_2, .int .i64 x195002_2, .slice Ao42 x195003_2.length co42, .int .i64 x195004_2, .int .i64 x195005_2] 29 (0, 0)) (by (with_reducible repeat (first | refine blk_drewN ?_ _ | refine blk_drew ?_ | refine blk_alloc ?_ _)); exact BK194.out) hb); have n3_ := Aside0.mk (below_step (by repeat (first | (with_reducible first | exact HB.out | apply below_alloc | apply pw_below_drewN | apply below_drew1 | refine below_set ?_ GE194.out) | exact HB.out)) hb); have n4_ := Aside0.mk (hbox); have n5_ := Aside0.mk ((by rw [hg]; exact (below_size (by repeat (first | (with_reducible first | exact HB.out | apply below_alloc | apply pw_below_drewN | apply below_drew1 | refine below_set ?_ GE194.out) | exact HB.out))) : w.heap.size ≤ gb225)); have n6_ := Aside0.mk ((by rw [hg]; exact (below_size (by repeat (first | (with_reducible first | exact HB.out | apply below_alloc | apply pw_below_drewN | apply below_drew1 | refine below_set ?_ GE194.out) | exact HB.out))) : w.heap.size ≤ gb225)); have n7_ := Aside0.mk ((by rw [hg]; exact Nat.ne_of_lt (blk_lt (g := gb194) (o := .cells #[.int .i64 x195000_2, .int .i64 x195001_2, .int .i64 x195002_2, .slice Ao42 x195003_2.length co42, .int .i64 x195004_2, .int .i64 x195005_2] 29 (0, 0)) (by (with_reducible repeat (first | refine blk_drewN ?_ _ | refine blk_drew ?_ | refine blk_alloc ?_ _)); exact BK194.out)) : gb194 ≠ gb225)); have n8_ := Aside0.mk ((by rw [hg]; exact Nat.ne_of_gt (blk_lt (g := gb194) (o := .cells #[.int .i64 x195000_2, .int .i64 x195001_2, .int .i64 x195002_2, .slice Ao42 x195003_2.length co42, .int .i64 x195004_2, .int .i64 x195005_2] 29 (0, 0)) (by (with_reducible repeat (first | refine blk_drewN ?_ _ | refine blk_drew ?_ | refine blk_alloc ?_ _)); exact BK194.out)) : gb225 ≠ gb194)); clear HO_195003; clear HO221; clear BK194; clear HB; have HO_195003 := n0_; have HO221 := n1_; have BK194 := n2_; have HB := n3_; have BK225 := n4_; have GW225 := n5_; have GE225 := n6_; have NB194_225 := n7_; have NB225_194 := n8_; clear n0_ n1_ n2_ n3_ n4_ n5_ n6_ n7_ n8_; clear hb hbox hg; have hnb45 := NB225_194.out; have hnc45 := NB194_225.out; have hcz46_0 : w44.cell? ⟨gb225, 0, none⟩ = some (.int .i64 0) := (blk_cell BK225.out 0).trans rfl; have hcz46_1 : w44.cell? ⟨gb225, 1, none⟩ = some (.int .i64 0) := (blk_cell BK225.out 1).trans rfl; have hcz46_2 : w44.cell? ⟨gb225, 2, none⟩ = some (.int .i64 0) := (blk_cell BK225.out 2).trans rfl; have hcz46_3 : w44.cell? ⟨gb225, 3, none⟩ = some (.slice none 0 0) := (blk_cell BK225.out 3).trans rfl; have hcz46_4 : w44.cell? ⟨gb225, 4, none⟩ = some (.int .i64 0) := (blk_cell BK225.out 4).trans rfl; have hcz46_5 : w44.cell? ⟨gb225, 5, none⟩ = some (.int .i64 0) := (blk_cell BK225.out 5).trans rfl; have hfz46_0 := blk_frozen BK225.out 0; have hfz46_1 := blk_frozen BK225.out 1; have hfz46_2 := blk_frozen BK225.out 2; have hfz46_3 := blk_frozen BK225.out 3; have hfz46_4 := blk_frozen BK225.out 4; have hfz46_5 := blk_frozen BK225.out 5; obtain ⟨Ao47, co47, eo47⟩ := Kd.R_slice HO221.out; subst eo47; have hcz48_0 : w44.cell? ⟨gb194, 0, none⟩ = some (.int .i64 x195000_2) := (blk_cell BK194.out 0).trans rfl; have hcz48_1 : w44.cell? ⟨gb194, 1, none⟩ = some (.int .i64 x195001_2) := (blk_cell BK194.out 1).trans rfl; have hcz48_2 : w44.cell? ⟨gb194, 2, none⟩ = some (.int .i64 x195002_2) := (blk_cell BK194.out 2).trans rfl; have hcz48_3 : w44.cell? ⟨gb194, 3, none⟩ = some (.slice Ao42 x195003_2.length co42) := (blk_cell BK194.out 3).trans rfl; have hcz48_4 : w44.cell? ⟨gb194, 4, none⟩ = some (.int .i64 x195004_2) := (blk_cell BK194.out 4).trans rfl; have hcz48_5 : w44.cell? ⟨gb194, 5, none⟩ = some (.int .i64 x195005_2) := (blk_cell BK194.out 5).trans rfl; have hfz48_0 := blk_frozen BK194.out 0; have hfz48_1 := blk_frozen BK194.out 1; have hfz48_2 := blk_frozen BK194.out 2; have hfz48_3 := blk_frozen BK194.out 3; have hfz48_4 := blk_frozen BK194.out 4; have hfz48_5 := blk_frozen BK194.out 5) | (go_at_call 18; (with_reducible refine (lease_Good.calls k2 x195000_2 x195001_2 x195002_2 _ _ x195003_2 x195004_2 x195005_2 true _ ?side1 ?side2 A38.out).mono ?_); (case side1 => refine (Kd.Q_reads' (e := 59) (base := w.heap.size) (ok := fun k_ => (True ∧ some k_ ≠ (.slice Ao47 t219.length co47 : Value).ownBlock)) (n := x195003_2.length) (c := co42) ?_).2.2; exact (by (with_reducible repeat (first | apply Kd.Q_alloc | apply Kd.Q_drewN | apply Kd.Q_drew)); exact (Kd.Q_mono (Kd.Q_far (p := ⟨gb225, 5, none⟩) (Kd.Q_far (p := ⟨gb225, 4, none⟩) (Kd.Q_far (p := ⟨gb225, 3, none⟩) (Kd.Q_far (p := ⟨gb225, 2, none⟩) (Kd.Q_far (p := ⟨gb225, 1, none⟩) (Kd.Q_far (p := ⟨gb225, 0, none⟩) (Kd.Q_types HO_195003.out BK225.out (by decide)) (fun _ hk => hk.2) (.int .i64 t216)) (fun _ hk => hk.2) (.int .i64 t217)) (fun _ hk => hk.2) (.int .i64 t218)) (fun _ hk => hk.2) (.slice Ao47 t219.length co47)) (fun _ hk => hk.2) (.int .i64 t222)) (fun _ hk => hk.2) (.int .i64 t223)) (fun _ h_ => h_.1)))); (case side2 => exact (Kd.Q_reads' HO_195003.out).2.1); rintro e w49 ⟨rfl, hb⟩; have n0_ := Aside0.mk (Kd.Q_below (by (with_reducible repeat (first | apply Kd.Q_alloc | apply Kd.Q_drewN | apply Kd.Q_drew)); exact (Kd.Q_mono (Kd.Q_far (p := ⟨gb225, 5, none⟩) (Kd.Q_far (p := ⟨gb225, 4, none⟩) (Kd.Q_far (p := ⟨gb225, 3, none⟩) (Kd.Q_far (p := ⟨gb225, 2, none⟩) (Kd.Q_far (p := ⟨gb225, 1, none⟩) (Kd.Q_far (p := ⟨gb225, 0, none⟩) (Kd.Q_types HO_195003.out BK225.out (by decide)) (fun _ hk => hk.2) (.int .i64 t216)) (fun _ hk => hk.2) (.int .i64 t217)) (fun _ hk => hk.2) (.int .i64 t218)) (fun _ hk => hk.2) (.slice Ao47 t219.length co47)) (fun _ hk => hk.2) (.int .i64 t222)) (fun _ hk => hk.2) (.int .i64 t223)) (fun _ h_ => h_.1))) hb); have n1_ := Aside0.mk (Kd.R_below (by (with_reducible repeat (first | apply Kd.R_alloc | apply Kd.R_drewN | apply Kd.R_drew)); exact (Kd.R_mono (Kd.R_far (p := ⟨gb225, 5, none⟩) (Kd.R_far (p := ⟨gb225, 4, none⟩) (Kd.R_far (p := ⟨gb225, 3, none⟩) (Kd.R_far (p := ⟨gb225, 2, none⟩) (Kd.R_far (p := ⟨gb225, 1, none⟩) (Kd.R_far (p := ⟨gb225, 0, none⟩) (Kd.R_types HO221.out BK225.out (by decide)) (fun _ hk => hk.2) (.int .i64 t216)) (fun _ hk => hk.2) (.int .i64 t217)) (fun _ hk => hk.2) (.int .i64 t218)) (fun _ hk => hk.2) (.slice Ao47 t219.length co47)) (fun _ hk => hk.2) (.int .i64 t222)) (fun _ hk => hk.2) (.int .i64 t223)) (fun _ h_ => h_.1))) hb); have n2_ := Aside0.mk (blk_below (g := gb194) (o := .cells #[.int .i64 x195000_2, .int .i64 x195001_2, .int .i64 x195002_2, .slice Ao42 x195003_2.length co42, .int .i64 x195004_2, .int .i64 x195005_2] 29 (0, 0)) (by (with_reducible repeat (first | refine blk_drewN ?_ _ | refine blk_drew ?_ | refine blk_alloc ?_ _)); refine blk_far ?_ NB194_225.out _; (with_reducible repeat (first | refine blk_drewN ?_ _ | refine blk_drew ?_ | refine blk_alloc ?_ _)); refine blk_far ?_ NB194_225.out _; (with_reducible repeat (first | refine blk_drewN ?_ _ | refine blk_drew ?_ | refine blk_alloc ?_ _)); refine blk_far ?_ NB194_225.out _; (with_reducible repeat (first | refine blk_drewN ?_ _ | refine blk_drew ?_ | refine blk_alloc ?_ _)); refine blk_far ?_ NB194_225.out _; (with_reducible repeat (first | refine blk_drewN ?_ _ | refine blk_drew ?_ | refine blk_alloc ?_ _)); refine blk_far ?_ NB194_225.out _; (with_reducible repeat (first | refine blk_drewN ?_ _ | refine blk_drew ?_ | refine blk_alloc ?_ _)); refine blk_far ?_ NB194_225.out _; (with_reducible repeat (first | refine blk_drewN ?_ _ | refine blk_drew ?_ | refine blk_alloc ?_ _)); exact BK194.out) hb); have n3_ := Aside0.mk (blk_below (g := gb225) (o := .cells #[.int .i64 t216, .int .i64 t217, .int .i64 t218, .slice Ao47 t219.length co47, .int .i64 t222, .int .i64 t223] 29 (0, 0)) (by (with_reducible repeat (first | refine blk_drewN ?_ _ | refine blk_drew ?_ | refine blk_alloc ?_ _)); refine blk_put (cs := #[.int .i64 t216, .int .i64 t217, .int .i64 t218, .slice Ao47 t219.length co47, .int .i64 t222, .int .i64 0]) ?_ 5 _ rfl; (with_reducible repeat (first | refine blk_drewN ?_ _ | refine blk_drew ?_ | refine blk_alloc ?_ _)); refine blk_put (cs := #[.int .i64 t216, .int .i64 t217, .int .i64 t218, .slice Ao47 t219.length co47, .int .i64 0, .int .i64 0]) ?_ 4 _ rfl; (with_reducible repeat (first | refine blk_drewN ?_ _ | refine blk_drew ?_ | refine blk_alloc ?_ _)); refine blk_put (cs := #[.int .i64 t216, .int .i64 t217, .int .i64 t218, .slice none 0 0, .int .i64 0, .int .i64 0]) ?_ 3 _ rfl; (with_reducible repeat (first | refine blk_drewN ?_ _ | refine blk_drew ?_ | refine blk_alloc ?_ _)); refine blk_put (cs := #[.int .i64 t216, .int .i64 t217, .int .i64 0, .slice none 0 0, .int .i64 0, .int .i64 0]) ?_ 2 _ rfl; (with_reducible repeat (first | refine blk_drewN ?_ _ | refine blk_drew ?_ | refine blk_alloc ?_ _)); refine blk_put (cs := #[.int .i64 t216, .int .i64 0, .int .i64 0, .slice none 0 0, .int .i64 0, .int .i64 0]) ?_ 1 _ rfl; (with_reducible repeat (first | refine blk_drewN ?_ _ | refine blk_drew ?_ | refine blk_alloc ?_ _)); refine blk_put (cs := #[.int .i64 0, .int .i64 0, .int .i64 0, .slice none 0 0, .int .i64 0, .int .i64 0]) ?_ 0 _ rfl; (with_reducible repeat (first | refine blk_drewN ?_ _ | refine blk_drew ?_ | refine blk_alloc ?_ _)); exact BK225.out) hb); have n4_ := Aside0.mk (below_step (by repeat (first | (with_reducible first | exact HB.out | apply below_alloc | apply pw_below_drewN | apply below_drew1 | refine below_set ?_ GE194.out | refine below_set ?_ GE225.out) | exact HB.out)) hb); clear HO_195003; clear HO221; clear BK194; clear BK225; clear HB; have HO_195003 := n0_; have HO221 := n1_; have BK194 := n2_; have BK225 := n3_; have HB := n4_; clear n0_ n1_ n2_ n3_ n4_; (try clear hb); (try clear hb2); (try clear hk); (try clear hi); have hcz50_0 : w49.cell? ⟨gb225, 0, none⟩ = some (.int .i64 t216) := (blk_cell BK225.out 0).trans rfl; have hcz50_1 : w49.cell? ⟨gb225, 1, none⟩ = some (.int .i64 t217) := (blk_cell BK225.out 1).trans rfl; have hcz50_2 : w49.cell? ⟨gb225, 2, none⟩ = some (.int .i64 t218) := (blk_cell BK225.out 2).trans rfl; have hcz50_3 : w49.cell? ⟨gb225, 3, none⟩ = some (.slice Ao47 t219.length co47) := (blk_cell BK225.out 3).trans rfl; have hcz50_4 : w49.cell? ⟨gb225, 4, none⟩ = some (.int .i64 t222) := (blk_cell BK225.out 4).trans rfl; have hcz50_5 : w49.cell? ⟨gb225, 5, none⟩ = some (.int .i64 t223) := (blk_cell BK225.out 5).trans rfl; have hfz50_0 := blk_frozen BK225.out 0; have hfz50_1 := blk_frozen BK225.out 1; have hfz50_2 := blk_frozen BK225.out 2; have hfz50_3 := blk_frozen BK225.out 3; have hfz50_4 := blk_frozen BK225.out 4; have hfz50_5 := blk_frozen BK225.out 5) | (go_at_call 18; (with_reducible refine (lease_Good.calls k2 t216 t217 t218 _ _ t219 t222 t223 t227 _ ?side1 ?side2 A40.out).mono ?_); (case side1 => repeat (first | exact (Kd.R_reads' HO221.out).2.2 | (with_reducible refine Kd.C_alloc ?_ _) | (with_reducible refine Kd.C_drewN ?_ _) | (with_reducible refine Kd.C_drew ?_))); (case side2 => exact (Kd.R_reads' HO221.out).2.1); rintro e w51 ⟨rfl, hb⟩; have n0_ := Aside0.mk (Kd.Q_below (by (with_reducible repeat (first | apply Kd.Q_alloc | apply Kd.Q_drewN | apply Kd.Q_drew)); exact HO_195003.out) hb); have n1_ := Aside0.mk (Kd.R_below (by (with_reducible repeat (first | apply Kd.R_alloc | apply Kd.R_drewN | apply Kd.R_drew)); exact HO221.out) hb); have n2_ := Aside0.mk (blk_below (g := gb194) (o := .cells #[.int .i64 x195000_2, .int .i64 x195001_2, .int .i64 x195002_2, .slice Ao42 x195003_2.length co42, .int .i64 x195004_2, .int .i64 x195005_2] 29 (0, 0)) (by (with_reducible repeat (first | refine blk_drewN ?_ _ | refine blk_drew ?_ | refine blk_alloc ?_ _)); exact BK194.out) hb); have n3_ := Aside0.mk (blk_below (g := gb225) (o := .cells #[.int .i64 t216, .int .i64 t217, .int .i64 t218, .slice Ao47 t219.length co47, .int .i64 t222, .int .i64 t223] 29 (0, 0)) (by (with_reducible repeat (first | refine blk_drewN ?_ _ | refine blk_drew ?_ | refine blk_alloc ?_ _)); exact BK225.out) hb); have n4_ := Aside0.mk (below_step (by repeat (first | (with_reducible first | exact HB.out | apply below_alloc | apply pw_below_drewN | apply below_drew1 | refine below_set ?_ GE194.out | refine below_set ?_ GE225.out) | exact HB.out)) hb); clear HO_195003; clear HO221; clear BK194; clear BK225; clear HB; have HO_195003 := n0_; have HO221 := n1_; have BK194 := n2_; have BK225 := n3_; have HB := n4_; clear n0_ n1_ n2_ n3_ n4_; (try clear hb); (try clear hb2); (try clear hk); (try clear hi)))
                    go_ret
                    exact ⟨by first | rfl | (simp [errW_none, errW_some] <;> rfl) | (simp [*, errW_none, errW_some] <;> rfl), by repeat (first | (with_reducible first | exact HB.out | apply below_alloc | apply pw_below_drewN | apply below_drew1 | refine below_set ?_ GE194.out | refine below_set ?_ GE225.out) | exact HB.out)⟩
                  · replace c39 := Bool.eq_false_iff.mpr c39
                    subst c39
                    have H1 : (none) = some r := by rw [if_neg (show ¬ (false = true) by decide)] at H; exact H
                    clear H
                    have H := H1
                    clear H1
                    exact absurd H (by simp)
                · rw [if_neg c37] at H
                  exact absurd H (by simp)
              · rw [if_neg c36] at H
                exact absurd H (by simp)

/-! ### lease_rising: function 41 -/
def lease_rising.l0 : Nat → List Int → Int → List Int → Int → Int → Option (Bool)
  | 0, _, _, _, _, _ => none
  | k + 1, x0, x3, x6, x7, x8 => if x8 < x7 then (if 0 ≤ x8 then (if x8 < (x6.length : Int) then (if (rd x6 x8) ≤ x3 then (some false) else (lease_rising.l0 k x0 (rd x6 x8) x6 x7 (wrap64 (x8 + 1)))) else (none)) else (none)) else (some (decide ((x0.length : Int) ≤ 100)))
def lease_rising.f (k : Nat) (l0 : List Int) : Option (Bool) := lease_rising.l0 k l0 0 l0 (l0.length : Int) 0
theorem lease_rising.mono_l : ∀ k, (∀ y0 y1 y2 y3 y4, LeO (lease_rising.l0 k y0 y1 y2 y3 y4) (lease_rising.l0 (k + 1) y0 y1 y2 y3 y4))
  | 0 => fun _ _ _ _ _ r h => by simp [lease_rising.l0] at h
  | k + 1 => by
    have ih0 := lease_rising.mono_l k
    · intro y0 y1 y2 y3 y4
      unfold lease_rising.l0
      repeat' first
      | (with_reducible exact ih0 _ _ _ _ _)
      | (with_reducible exact LeO.refl _)
      | (with_reducible exact LeO.none _)
      | (with_reducible refine LeO.ite ?_ ?_)
      | (with_reducible refine LeO.bind ?_ (fun _ => ?_))
      | exact ih0 _ _ _ _ _
      | exact LeO.none _
      | refine LeO.ite ?_ ?_
      | refine LeO.bind ?_ (fun _ => ?_)
theorem lease_rising.mono : ∀ a0 k, LeO (lease_rising.f k a0) (lease_rising.f (k + 1) a0) := by
  intro a0 k
  have ih0 := lease_rising.mono_l k
  unfold lease_rising.f
  repeat' first
      | (with_reducible exact ih0 _ _ _ _ _)
      | (with_reducible exact LeO.refl _)
      | (with_reducible exact LeO.none _)
      | (with_reducible refine LeO.ite ?_ ?_)
      | (with_reducible refine LeO.bind ?_ (fun _ => ?_))
      | exact ih0 _ _ _ _ _
      | exact LeO.none _
      | refine LeO.ite ?_ ?_
      | refine LeO.bind ?_ (fun _ => ?_)
set_option maxHeartbeats 8000000 in
set_option maxRecDepth 100000 in
theorem lease_rising.calls (k : Nat) (A0 : Option Addr) (c0 : Nat) (l0 : List Int) (r : Bool) (w : World) (hr0 : Kd.C (Kd.int .i64) w A0 l0.length l0) (hc0 : l0.length ≤ c0) (h : lease_rising.f k l0 = some r) :
    Calls Try.prog 41 #[.slice A0 l0.length c0] w fun e w' => e = .returned (.bool r) ∧ Drawn0 w w' := by
  have HR0 := Aside0.mk hr0
  have HC0 := Aside0.mk hc0
  clear hr0 hc0
  have H : (lease_rising.l0 k l0 0 l0 (l0.length : Int) 0) = some r := h
  clear h
  have H' := Aside0.mk H
  clear H
  go_enter Try.func41, Try.ntmps41
  go_wp2
  go_loopg [3, 8] k (fun kq v3 v8 w' => ∃ (x3_1 : Int) (x8_1 : Int), v3 = .int .i64 x3_1 ∧ v8 = .int .i64 x8_1 ∧ Aside0 (lease_rising.l0 kq l0 x3_1 l0 (l0.length : Int) x8_1 = some r) ∧ Aside0 (kq ≤ k) ∧ Drawn0 w w')
  case atStart => exact ⟨(0), (0), (by first | rfl | (simp; done) | (simp [*]; done)), (by first | rfl | (simp; done) | (simp [*]; done)), H', ⟨Nat.le_refl _⟩, by repeat (first | exact Drawn0.refl _ | apply Drawn0.step)⟩
  case round =>
    clear H'
    obtain ⟨x3_1, x8_1, rfl, rfl, HA, HK1, ⟨m1, rfl⟩⟩ := hrel
    cases gk with
    | zero => exact absurd HA.out (by simp [lease_rising.l0])
    | succ k1 =>
      have H := HA.out
      clear HA
      simp only [lease_rising.l0] at H
      by_cases c2 : x8_1 < (l0.length : Int)
      · rw [if_pos c2] at H
        have c2b0 : decide (x8_1 < (l0.length : Int)) = true := decide_eq_true c2
        clear c2
        by_cases c3 : 0 ≤ x8_1
        · rw [if_pos c3] at H
          have c3b0 : decide (0 ≤ x8_1) = true := decide_eq_true c3
          clear c3
          by_cases c4 : x8_1 < (l0.length : Int)
          · rw [if_pos c4] at H
            have c4b0 : decide (x8_1 < (l0.length : Int)) = true := decide_eq_true c4
            clear c4
            by_cases c5 : (rd l0 x8_1) ≤ x3_1
            · rw [if_pos c5] at H
              have c5b0 : decide ((rd l0 x8_1) ≤ x3_1) = true := decide_eq_true c5
              clear c5
              obtain rfl := Option.some.inj H
              have p228 : 0 ≤ (x8_1 : Int) := of_decide_eq_true (by first | (with_reducible assumption) | assumption)
              have q228 : x8_1 < (l0.length : Int) := of_decide_eq_true (by first | (with_reducible assumption) | assumption)
              obtain ⟨ad228, e228, hx228_0⟩ := Kd.at_int HR0.out x8_1 p228 q228
              cases e228
              replace p228 := eq_true p228
              replace q228 := eq_true q228
              go_wp2
              go_ret
              exact ⟨by first | rfl | (simp; done) | (simp [*]; done), by repeat (first | exact Drawn0.refl _ | apply Drawn0.step)⟩
            · rw [if_neg c5] at H
              have c5b0 : decide ((rd l0 x8_1) ≤ x3_1) = false := decide_eq_false c5
              clear c5
              have H' := Aside0.mk H
              clear H
              have p228 : 0 ≤ (x8_1 : Int) := of_decide_eq_true (by first | (with_reducible assumption) | assumption)
              have q228 : x8_1 < (l0.length : Int) := of_decide_eq_true (by first | (with_reducible assumption) | assumption)
              obtain ⟨ad228, e228, hx228_0⟩ := Kd.at_int HR0.out x8_1 p228 q228
              cases e228
              replace p228 := eq_true p228
              replace q228 := eq_true q228
              go_wp2
              go_roundg k1
              case measure => have := HK1.out; omega
              case rel => exact ⟨(rd l0 x8_1), (wrap64 (x8_1 + 1)), (by first | rfl | (simp; done) | (simp [*]; done)), (by first | rfl | (simp; done) | (simp [*]; done)), H', ⟨by have := HK1.out; omega⟩, by repeat (first | exact Drawn0.refl _ | apply Drawn0.step)⟩
          · rw [if_neg c4] at H
            exact absurd H (by simp)
        · rw [if_neg c3] at H
          exact absurd H (by simp)
      · rw [if_neg c2] at H
        have c2b0 : decide (x8_1 < (l0.length : Int)) = false := decide_eq_false c2
        clear c2
        obtain rfl := Option.some.inj H
        go_wp2
        go_ret
        exact ⟨by first | rfl | (simp; done) | (simp [*]; done), by repeat (first | exact Drawn0.refl _ | apply Drawn0.step)⟩

/-! ### slices_Index_int_int: function 54 -/
def slices_Index_int_int.l0 : Nat → List Int → Int → Int → Int → Option (Int)
  | 0, _, _, _, _ => none
  | k + 1, x0, x1, x7, x8 => if x8 < x7 then (if 0 ≤ x8 then (if x8 < (x0.length : Int) then (if x1 = (rd x0 x8) then (some x8) else (slices_Index_int_int.l0 k x0 x1 x7 (wrap64 (x8 + 1)))) else (none)) else (none)) else (some (-1))
def slices_Index_int_int.f (k : Nat) (l0 : List Int) (a1 : Int) : Option (Int) := slices_Index_int_int.l0 k l0 a1 (l0.length : Int) 0
theorem slices_Index_int_int.mono_l : ∀ k, (∀ y0 y1 y2 y3, LeO (slices_Index_int_int.l0 k y0 y1 y2 y3) (slices_Index_int_int.l0 (k + 1) y0 y1 y2 y3))
  | 0 => fun _ _ _ _ r h => by simp [slices_Index_int_int.l0] at h
  | k + 1 => by
    have ih0 := slices_Index_int_int.mono_l k
    · intro y0 y1 y2 y3
      unfold slices_Index_int_int.l0
      repeat' first
      | (with_reducible exact ih0 _ _ _ _)
      | (with_reducible exact LeO.refl _)
      | (with_reducible exact LeO.none _)
      | (with_reducible refine LeO.ite ?_ ?_)
      | (with_reducible refine LeO.bind ?_ (fun _ => ?_))
      | exact ih0 _ _ _ _
      | exact LeO.none _
      | refine LeO.ite ?_ ?_
      | refine LeO.bind ?_ (fun _ => ?_)
theorem slices_Index_int_int.mono : ∀ a0 a1 k, LeO (slices_Index_int_int.f k a0 a1) (slices_Index_int_int.f (k + 1) a0 a1) := by
  intro a0 a1 k
  have ih0 := slices_Index_int_int.mono_l k
  unfold slices_Index_int_int.f
  repeat' first
      | (with_reducible exact ih0 _ _ _ _)
      | (with_reducible exact LeO.refl _)
      | (with_reducible exact LeO.none _)
      | (with_reducible refine LeO.ite ?_ ?_)
      | (with_reducible refine LeO.bind ?_ (fun _ => ?_))
      | exact ih0 _ _ _ _
      | exact LeO.none _
      | refine LeO.ite ?_ ?_
      | refine LeO.bind ?_ (fun _ => ?_)
set_option maxHeartbeats 8000000 in
set_option maxRecDepth 100000 in
theorem slices_Index_int_int.calls (k : Nat) (A0 : Option Addr) (c0 : Nat) (l0 : List Int) (a1 : Int) (r : Int) (w : World) (hr0 : Kd.C (Kd.int .i64) w A0 l0.length l0) (hc0 : l0.length ≤ c0) (h : slices_Index_int_int.f k l0 a1 = some r) :
    Calls Try.prog 54 #[.slice A0 l0.length c0, .int .i64 a1] w fun e w' => e = .returned (.int .i64 r) ∧ Drawn0 w w' := by
  have HR0 := Aside0.mk hr0
  have HC0 := Aside0.mk hc0
  clear hr0 hc0
  have H : (slices_Index_int_int.l0 k l0 a1 (l0.length : Int) 0) = some r := h
  clear h
  have H' := Aside0.mk H
  clear H
  go_enter Try.func54, Try.ntmps54
  go_wp2
  go_loopg [8] k (fun kq v8 w' => ∃ (x8_1 : Int), v8 = .int .i64 x8_1 ∧ Aside0 (slices_Index_int_int.l0 kq l0 a1 (l0.length : Int) x8_1 = some r) ∧ Aside0 (kq ≤ k) ∧ Drawn0 w w')
  case atStart => exact ⟨(0), (by first | rfl | (simp; done) | (simp [*]; done)), H', ⟨Nat.le_refl _⟩, by repeat (first | exact Drawn0.refl _ | apply Drawn0.step)⟩
  case round =>
    clear H'
    try clear p2
    obtain ⟨x8_1, rfl, HA, HK1, ⟨m1, rfl⟩⟩ := hrel
    cases gk with
    | zero => exact absurd HA.out (by simp [slices_Index_int_int.l0])
    | succ k1 =>
      have H := HA.out
      clear HA
      simp only [slices_Index_int_int.l0] at H
      by_cases c3 : x8_1 < (l0.length : Int)
      · rw [if_pos c3] at H
        have c3b0 : decide (x8_1 < (l0.length : Int)) = true := decide_eq_true c3
        clear c3
        by_cases c4 : 0 ≤ x8_1
        · rw [if_pos c4] at H
          have c4b0 : decide (0 ≤ x8_1) = true := decide_eq_true c4
          clear c4
          by_cases c5 : x8_1 < (l0.length : Int)
          · rw [if_pos c5] at H
            have c5b0 : decide (x8_1 < (l0.length : Int)) = true := decide_eq_true c5
            clear c5
            by_cases c6 : a1 = (rd l0 x8_1)
            · rw [if_pos c6] at H
              have c6b0 : (a1 == (rd l0 x8_1)) = true := beq_iff_eq.mpr c6
              have c6b1 : (a1 != (rd l0 x8_1)) = false := bne_eq_false_iff_eq.mpr c6
              clear c6
              obtain rfl := Option.some.inj H
              have p229 : 0 ≤ (x8_1 : Int) := of_decide_eq_true (by first | (with_reducible assumption) | assumption)
              have q229 : x8_1 < (l0.length : Int) := of_decide_eq_true (by first | (with_reducible assumption) | assumption)
              obtain ⟨ad229, e229, hx229_0⟩ := Kd.at_int HR0.out x8_1 p229 q229
              cases e229
              replace p229 := eq_true p229
              replace q229 := eq_true q229
              go_wp2
              go_ret
              exact ⟨by first | rfl | (simp; done) | (simp [*]; done), by repeat (first | exact Drawn0.refl _ | apply Drawn0.step)⟩
            · rw [if_neg c6] at H
              have c6b0 : (a1 == (rd l0 x8_1)) = false := beq_eq_false_iff_ne.mpr c6
              have c6b1 : (a1 != (rd l0 x8_1)) = true := bne_iff_ne.mpr c6
              have H' := Aside0.mk H
              clear H
              have p229 : 0 ≤ (x8_1 : Int) := of_decide_eq_true (by first | (with_reducible assumption) | assumption)
              have q229 : x8_1 < (l0.length : Int) := of_decide_eq_true (by first | (with_reducible assumption) | assumption)
              obtain ⟨ad229, e229, hx229_0⟩ := Kd.at_int HR0.out x8_1 p229 q229
              cases e229
              replace p229 := eq_true p229
              replace q229 := eq_true q229
              go_wp2
              go_roundg k1
              case measure => have := HK1.out; omega
              case rel => exact ⟨(wrap64 (x8_1 + 1)), (by first | rfl | (simp; done) | (simp [*]; done)), H', ⟨by have := HK1.out; omega⟩, by repeat (first | exact Drawn0.refl _ | apply Drawn0.step)⟩
          · rw [if_neg c5] at H
            exact absurd H (by simp)
        · rw [if_neg c4] at H
          exact absurd H (by simp)
      · rw [if_neg c3] at H
        have c3b0 : decide (x8_1 < (l0.length : Int)) = false := decide_eq_false c3
        clear c3
        obtain rfl := Option.some.inj H
        go_wp2
        go_ret
        exact ⟨by first | rfl | (simp; done) | (simp [*]; done), by repeat (first | exact Drawn0.refl _ | apply Drawn0.step)⟩

/-! ### slices_Contains_int_int: function 46 -/
def slices_Contains_int_int.f (k : Nat) (l0 : List Int) (a1 : Int) : Option (Bool) := (slices_Index_int_int.f k l0 a1).bind fun t230 => (some (decide (t230 ≥ 0)))
theorem slices_Contains_int_int.mono : ∀ a0 a1 k, LeO (slices_Contains_int_int.f k a0 a1) (slices_Contains_int_int.f (k + 1) a0 a1) := by
  intro a0 a1 k
  unfold slices_Contains_int_int.f
  repeat' first
      | (with_reducible exact slices_Index_int_int.mono _ _ _)
      | (with_reducible exact LeO.refl _)
      | (with_reducible exact LeO.none _)
      | (with_reducible refine LeO.ite ?_ ?_)
      | (with_reducible refine LeO.bind ?_ (fun _ => ?_))
      | exact slices_Index_int_int.mono _ _ _
      | exact LeO.none _
      | refine LeO.ite ?_ ?_
      | refine LeO.bind ?_ (fun _ => ?_)
set_option maxHeartbeats 8000000 in
set_option maxRecDepth 100000 in
theorem slices_Contains_int_int.calls (k : Nat) (A0 : Option Addr) (c0 : Nat) (l0 : List Int) (a1 : Int) (r : Bool) (w : World) (hr0 : Kd.C (Kd.int .i64) w A0 l0.length l0) (hc0 : l0.length ≤ c0) (h : slices_Contains_int_int.f k l0 a1 = some r) :
    Calls Try.prog 46 #[.slice A0 l0.length c0, .int .i64 a1] w fun e w' => e = .returned (.bool r) ∧ Drawn0 w w' := by
  have HR0 := Aside0.mk hr0
  have HC0 := Aside0.mk hc0
  clear hr0 hc0
  have H : ((slices_Index_int_int.f k l0 a1).bind fun t230 => (some (decide (t230 ≥ 0)))) = some r := h
  clear h
  replace H := Option.bind_eq_some_iff.mp H
  obtain ⟨t230, A30, H⟩ := H
  replace H : (some (decide (t230 ≥ 0))) = some r := H
  have A3 := Aside0.mk A30
  clear A30
  obtain rfl := Option.some.inj H
  go_enter Try.func46, Try.ntmps46
  go_wp2_with (first | ((with_reducible refine gate_callee (f := 54) rfl ?_); refine goesL_ (some 7) rfl rfl Try.func54 (by kernel_rfl) rfl #[.slice A0 l0.length c0, .int .i64 a1] rfl (by (try simp only [List.map_toArray, List.map_cons, List.map_nil]); first | done | rfl | (simp only [List.length_drop, List.length_take]; rfl)) ?_; (with_reducible refine (slices_Index_int_int.calls k _ _ l0 a1 t230 _ ?side1 ?side2 A3.out).mono ?_); (case side1 => repeat (first | exact HR0.out | (with_reducible refine Kd.C_alloc ?_ _) | (with_reducible refine Kd.C_drewN ?_ _) | (with_reducible refine Kd.C_drew ?_))); (case side2 => exact HC0.out); rintro e w' ⟨rfl, ⟨nd, rfl⟩⟩; refine ⟨_, rfl, ?_⟩))
  go_ret
  exact ⟨by first | rfl | (simp; done) | (simp [*]; done), by repeat (first | exact Drawn0.refl _ | apply Drawn0.step)⟩

end Go.Proofs.Ytmoahkdadeiahaa.O
