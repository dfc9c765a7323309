-- WRITTEN BY a program of this session's (wip/gprint.py, over the kit's print), with functions given by hand among them. Not trusted: Lean checks it.
import Derived.Test.YtmoahkdadeiahaaT0
import Derived.Test.YtmoahkdadeiahaaT2
import Derived.Test.YtmoahkdadeiahaaT4
import Derived.Test.YtmoahkdadeiahaaT5
namespace Go.Proofs.Ytmoahkdadeiahaa.T
open Go.RowKit Go.Proofs.YtmoahkdadeiahaaW.PrintWords Go.Proofs.YtmoahkdadeiahaaW.PrintLast Go.Proofs.YtmoahkdadeiahaaW.PrintMore
attribute [local go_sem] max2_int min2_int max_two min_two max_three min_three max_four min_four   -- for this text's walks alone
set_option linter.unusedVariables false
set_option linter.unusedSimpArgs false

/-! ### folkmootlaw20_one: function 28 -/
def folkmootlaw20_one.f  : Option (Int × Int × Int × (List (S59)) × Int × Int) := some (11, 0, 0, ([] : List (S59)), 0, 0)
set_option maxHeartbeats 8000000 in
set_option maxRecDepth 100000 in
theorem folkmootlaw20_one.calls  (r1 : Int) (r2 : Int) (r3 : Int) (r4 : List (S59)) (r5 : Int) (r6 : Int) (w : World) (h : folkmootlaw20_one.f  = some (r1, r2, r3, r4, r5, r6)) :
    Calls Try.prog 28 #[] w fun e w' => ∃ v3_ : Value, e = .returned (.agg #[.int .i64 r1, .int .i64 r2, .int .i64 r3, v3_, .int .i64 r5, .int .i64 r6]) ∧ Kd.R k59 59 w' w.heap.size (fun _ => True) v3_ r4 ∧ Below w.heap.size w w' := by
  have hu29 := Try.underlying29
  have HB := Aside0.mk (Below.refl w.heap.size w)
  have H : (some (11, 0, 0, ([] : List (S59)), 0, 0)) = some (r1, r2, r3, r4, r5, r6) := h
  clear h
  simp only [Option.some.injEq, Prod.mk.injEq] at H
  obtain ⟨rfl, rfl, rfl, rfl, rfl, rfl⟩ := H
  go_enter Try.func28, Try.ntmps28
  go_wp2_with (first | ((with_reducible refine gate_dst (N := 0) rfl ?_); refine box_event ?hg (N := 0) ?hd (cs := #[.int .i64 0, .int .i64 0, .int .i64 0, .slice none 0 0, .int .i64 0, .int .i64 0]) (t := 29) ?hr ?_; (case hd => rfl); (case hg => rfl); (case hr => first | (go_simp; done) | (go_simp; rfl)); intro gb155 hg w1 hbox hb; have n0_ := Aside0.mk (below_step (by repeat (first | (with_reducible first | exact HB.out | apply below_alloc | apply pw_below_drewN | apply below_drew1) | exact HB.out)) hb); have n1_ := Aside0.mk (hbox); have n2_ := Aside0.mk ((by rw [hg]; exact (below_size (by repeat (first | (with_reducible first | exact HB.out | apply below_alloc | apply pw_below_drewN | apply below_drew1) | exact HB.out))) : w.heap.size ≤ gb155)); have n3_ := Aside0.mk ((by rw [hg]; exact (below_size (by repeat (first | (with_reducible first | exact HB.out | apply below_alloc | apply pw_below_drewN | apply below_drew1) | exact HB.out))) : w.heap.size ≤ gb155)); clear HB; have HB := n0_; have BK155 := n1_; have GW155 := n2_; have GE155 := n3_; clear n0_ n1_ n2_ n3_; clear hb hbox hg; have hcz2_0 : w1.cell? ⟨gb155, 0, none⟩ = some (.int .i64 0) := (blk_cell BK155.out 0).trans rfl; have hcz2_1 : w1.cell? ⟨gb155, 1, none⟩ = some (.int .i64 0) := (blk_cell BK155.out 1).trans rfl; have hcz2_2 : w1.cell? ⟨gb155, 2, none⟩ = some (.int .i64 0) := (blk_cell BK155.out 2).trans rfl; have hcz2_3 : w1.cell? ⟨gb155, 3, none⟩ = some (.slice none 0 0) := (blk_cell BK155.out 3).trans rfl; have hcz2_4 : w1.cell? ⟨gb155, 4, none⟩ = some (.int .i64 0) := (blk_cell BK155.out 4).trans rfl; have hcz2_5 : w1.cell? ⟨gb155, 5, none⟩ = some (.int .i64 0) := (blk_cell BK155.out 5).trans rfl; have hfz2_0 := blk_frozen BK155.out 0; have hfz2_1 := blk_frozen BK155.out 1; have hfz2_2 := blk_frozen BK155.out 2; have hfz2_3 := blk_frozen BK155.out 3; have hfz2_4 := blk_frozen BK155.out 4; have hfz2_5 := blk_frozen BK155.out 5))
  refine bodyPost_ret (results_cell_row rfl _ _ gb155 29 #[.int .i64 11, .int .i64 0, .int .i64 0, .slice none 0 0, .int .i64 0, .int .i64 0] (0, 0) _ rfl (by (with_reducible repeat (first | refine blk_drewN ?_ _ | refine blk_drew ?_ | refine blk_alloc ?_ _)); refine blk_put (cs := #[.int .i64 11, .int .i64 0, .int .i64 0, .slice none 0 0, .int .i64 0, .int .i64 0]) ?_ 5 _ rfl; (with_reducible repeat (first | refine blk_drewN ?_ _ | refine blk_drew ?_ | refine blk_alloc ?_ _)); refine blk_put (cs := #[.int .i64 11, .int .i64 0, .int .i64 0, .slice none 0 0, .int .i64 0, .int .i64 0]) ?_ 4 _ rfl; (with_reducible repeat (first | refine blk_drewN ?_ _ | refine blk_drew ?_ | refine blk_alloc ?_ _)); refine blk_put (cs := #[.int .i64 11, .int .i64 0, .int .i64 0, .slice none 0 0, .int .i64 0, .int .i64 0]) ?_ 3 _ rfl; (with_reducible repeat (first | refine blk_drewN ?_ _ | refine blk_drew ?_ | refine blk_alloc ?_ _)); refine blk_put (cs := #[.int .i64 11, .int .i64 0, .int .i64 0, .slice none 0 0, .int .i64 0, .int .i64 0]) ?_ 2 _ rfl; (with_reducible repeat (first | refine blk_drewN ?_ _ | refine blk_drew ?_ | refine blk_alloc ?_ _)); refine blk_put (cs := #[.int .i64 11, .int .i64 0, .int .i64 0, .slice none 0 0, .int .i64 0, .int .i64 0]) ?_ 1 _ rfl; (with_reducible repeat (first | refine blk_drewN ?_ _ | refine blk_drew ?_ | refine blk_alloc ?_ _)); refine blk_put (cs := #[.int .i64 0, .int .i64 0, .int .i64 0, .slice none 0 0, .int .i64 0, .int .i64 0]) ?_ 0 _ rfl; (with_reducible repeat (first | refine blk_drewN ?_ _ | refine blk_drew ?_ | refine blk_alloc ?_ _)); exact BK155.out) Try.underlying29 rfl (by kernel_rfl)) rfl ?_
  exact ⟨_, by first | rfl | (simp [errW_none, errW_some] <;> rfl) | (simp [*, errW_none, errW_some] <;> rfl), by first | exact Kd.R_nil _ _ _ _ _ | exact Kd.N_nil _ _ _ _ _ | exact Kd.V_nil _ _ _ _ _ | exact Kd.Q_nil _ _ _ _ _ | exact Kd.S_nil _ _ _ _ _, by repeat (first | (with_reducible first | exact HB.out | apply below_alloc | apply pw_below_drewN | apply below_drew1 | refine below_set ?_ GE155.out) | exact HB.out)⟩

/-! ### folkmootlaw20_good: function 16 -/
mutual
def folkmootlaw20_good.j0 : Nat → Int → Bool → Int → Int → Int → List (S59) → Int → Int → Option (Bool)
  | 0, _, _, _, _, _, _, _, _ => none
  | k + 1, x3, x45, x175000, x175001, x175002, x175003, x175004, x175005 => if x45 = true then (some false) else (folkmootlaw20_good.l0 k x3 0 x175000 x175001 x175002 x175003 x175004 x175005)
def folkmootlaw20_good.l0 : Nat → Int → Int → Int → Int → Int → List (S59) → Int → Int → Option (Bool)
  | 0, _, _, _, _, _, _, _, _ => none
  | k + 1, x3, x6, x175000, x175001, x175002, x175003, x175004, x175005 => if x6 < 7 then ((lease_Tick.f k x175000 x175001 x175002 x175003 x175004 x175005).bind fun bt187 => (folkmootlaw20_good.l0 k bt187.2.2.2.2.2.2 (wrap64 (x6 + 1)) bt187.1 bt187.2.1 bt187.2.2.1 bt187.2.2.2.1 bt187.2.2.2.2.1 bt187.2.2.2.2.2.1)) else ((lease_Tick.f k x175000 x175001 x175002 x175003 x175004 x175005).bind fun bt196 => (if x3 = 0 then (if bt196.2.2.2.2.2.2 = 0 then ((lease_Good.f k x175000 x175001 x175002 x175003 x175004 x175005).bind fun t206 => (if t206 = true then ((lease_Good.f k bt196.1 bt196.2.1 bt196.2.2.1 bt196.2.2.2.1 bt196.2.2.2.2.1 bt196.2.2.2.2.2.1).bind fun t207 => (some (!t207))) else (none))) else (none)) else (none)))
end
def folkmootlaw20_good.f (k : Nat)  : Option (Bool) := (folkmootlaw20_one.f).bind fun bt156 => ((lease_Ask.f k bt156.1 bt156.2.1 bt156.2.2.1 bt156.2.2.2.1 bt156.2.2.2.2.1 bt156.2.2.2.2.2).bind fun bt164 => ((lease_Take.f k bt164.1 bt164.2.1 bt164.2.2.1 bt164.2.2.2.1 bt164.2.2.2.2.1 bt164.2.2.2.2.2.1 bt164.2.2.2.2.2.2.1 5).bind fun bt175 => (if bt164.2.2.2.2.2.2.2 = 0 then (if bt175.2.2.2.2.2.2.2 = 0 then (if bt164.2.2.2.2.2.2.1 = 1 then (if bt175.2.2.2.2.2.2.1 = true then ((lease_Good.f k bt175.1 bt175.2.1 bt175.2.2.1 bt175.2.2.2.1 bt175.2.2.2.2.1 bt175.2.2.2.2.2.1).bind fun t185 => (if t185 = true then ((lease_Check.f k bt175.1 bt175.2.1 bt175.2.2.1 bt175.2.2.2.1 bt175.2.2.2.2.1 bt175.2.2.2.2.2.1).bind fun t186 => (folkmootlaw20_good.j0 k bt164.2.2.2.2.2.2.2 (t186 != 0) bt175.1 bt175.2.1 bt175.2.2.1 bt175.2.2.2.1 bt175.2.2.2.2.1 bt175.2.2.2.2.2.1)) else (folkmootlaw20_good.j0 k bt164.2.2.2.2.2.2.2 true bt175.1 bt175.2.1 bt175.2.2.1 bt175.2.2.2.1 bt175.2.2.2.2.1 bt175.2.2.2.2.2.1))) else (folkmootlaw20_good.j0 k bt164.2.2.2.2.2.2.2 true bt175.1 bt175.2.1 bt175.2.2.1 bt175.2.2.2.1 bt175.2.2.2.2.1 bt175.2.2.2.2.2.1)) else (folkmootlaw20_good.j0 k bt164.2.2.2.2.2.2.2 true bt175.1 bt175.2.1 bt175.2.2.1 bt175.2.2.2.1 bt175.2.2.2.2.1 bt175.2.2.2.2.2.1)) else (folkmootlaw20_good.j0 k bt164.2.2.2.2.2.2.2 true bt175.1 bt175.2.1 bt175.2.2.1 bt175.2.2.2.1 bt175.2.2.2.2.1 bt175.2.2.2.2.2.1)) else (folkmootlaw20_good.j0 k bt164.2.2.2.2.2.2.2 true bt175.1 bt175.2.1 bt175.2.2.1 bt175.2.2.2.1 bt175.2.2.2.2.1 bt175.2.2.2.2.2.1))))
theorem folkmootlaw20_good.mono_l : ∀ k, (∀ y0 y1 y2 y3 y4 y5 y6 y7, LeO (folkmootlaw20_good.j0 k y0 y1 y2 y3 y4 y5 y6 y7) (folkmootlaw20_good.j0 (k + 1) y0 y1 y2 y3 y4 y5 y6 y7)) ∧ (∀ y0 y1 y2 y3 y4 y5 y6 y7, LeO (folkmootlaw20_good.l0 k y0 y1 y2 y3 y4 y5 y6 y7) (folkmootlaw20_good.l0 (k + 1) y0 y1 y2 y3 y4 y5 y6 y7))
  | 0 => ⟨fun _ _ _ _ _ _ _ _ r h => by simp [folkmootlaw20_good.j0] at h, fun _ _ _ _ _ _ _ _ r h => by simp [folkmootlaw20_good.l0] at h⟩
  | k + 1 => by
    obtain ⟨ih0, ih1⟩ := folkmootlaw20_good.mono_l k
    refine ⟨?_, ?_⟩
    · intro y0 y1 y2 y3 y4 y5 y6 y7
      unfold folkmootlaw20_good.j0
      repeat' first
      | (with_reducible exact ih0 _ _ _ _ _ _ _ _)
      | (with_reducible exact ih1 _ _ _ _ _ _ _ _)
      | (with_reducible exact lease_Ask.mono _ _ _ _ _ _ _)
      | (with_reducible exact lease_Check.mono _ _ _ _ _ _ _)
      | (with_reducible exact lease_Good.mono _ _ _ _ _ _ _)
      | (with_reducible exact lease_Take.mono _ _ _ _ _ _ _ _ _)
      | (with_reducible exact lease_Tick.mono _ _ _ _ _ _ _)
      | (with_reducible exact LeO.refl _)
      | (with_reducible exact LeO.none _)
      | (with_reducible refine LeO.ite ?_ ?_)
      | (with_reducible refine LeO.bind ?_ (fun _ => ?_))
      | exact ih0 _ _ _ _ _ _ _ _
      | exact ih1 _ _ _ _ _ _ _ _
      | exact lease_Ask.mono _ _ _ _ _ _ _
      | exact lease_Check.mono _ _ _ _ _ _ _
      | exact lease_Good.mono _ _ _ _ _ _ _
      | exact lease_Take.mono _ _ _ _ _ _ _ _ _
      | exact lease_Tick.mono _ _ _ _ _ _ _
      | exact LeO.none _
      | refine LeO.ite ?_ ?_
      | refine LeO.bind ?_ (fun _ => ?_)
    · intro y0 y1 y2 y3 y4 y5 y6 y7
      unfold folkmootlaw20_good.l0
      repeat' first
      | (with_reducible exact ih0 _ _ _ _ _ _ _ _)
      | (with_reducible exact ih1 _ _ _ _ _ _ _ _)
      | (with_reducible exact lease_Ask.mono _ _ _ _ _ _ _)
      | (with_reducible exact lease_Check.mono _ _ _ _ _ _ _)
      | (with_reducible exact lease_Good.mono _ _ _ _ _ _ _)
      | (with_reducible exact lease_Take.mono _ _ _ _ _ _ _ _ _)
      | (with_reducible exact lease_Tick.mono _ _ _ _ _ _ _)
      | (with_reducible exact LeO.refl _)
      | (with_reducible exact LeO.none _)
      | (with_reducible refine LeO.ite ?_ ?_)
      | (with_reducible refine LeO.bind ?_ (fun _ => ?_))
      | exact ih0 _ _ _ _ _ _ _ _
      | exact ih1 _ _ _ _ _ _ _ _
      | exact lease_Ask.mono _ _ _ _ _ _ _
      | exact lease_Check.mono _ _ _ _ _ _ _
      | exact lease_Good.mono _ _ _ _ _ _ _
      | exact lease_Take.mono _ _ _ _ _ _ _ _ _
      | exact lease_Tick.mono _ _ _ _ _ _ _
      | exact LeO.none _
      | refine LeO.ite ?_ ?_
      | refine LeO.bind ?_ (fun _ => ?_)
theorem folkmootlaw20_good.mono : ∀ k, LeO (folkmootlaw20_good.f k ) (folkmootlaw20_good.f (k + 1) ) := by
  intro  k
  obtain ⟨ih0, ih1⟩ := folkmootlaw20_good.mono_l k
  unfold folkmootlaw20_good.f
  repeat' first
      | (with_reducible exact ih0 _ _ _ _ _ _ _ _)
      | (with_reducible exact ih1 _ _ _ _ _ _ _ _)
      | (with_reducible exact lease_Ask.mono _ _ _ _ _ _ _)
      | (with_reducible exact lease_Check.mono _ _ _ _ _ _ _)
      | (with_reducible exact lease_Good.mono _ _ _ _ _ _ _)
      | (with_reducible exact lease_Take.mono _ _ _ _ _ _ _ _ _)
      | (with_reducible exact lease_Tick.mono _ _ _ _ _ _ _)
      | (with_reducible exact LeO.refl _)
      | (with_reducible exact LeO.none _)
      | (with_reducible refine LeO.ite ?_ ?_)
      | (with_reducible refine LeO.bind ?_ (fun _ => ?_))
      | exact ih0 _ _ _ _ _ _ _ _
      | exact ih1 _ _ _ _ _ _ _ _
      | exact lease_Ask.mono _ _ _ _ _ _ _
      | exact lease_Check.mono _ _ _ _ _ _ _
      | exact lease_Good.mono _ _ _ _ _ _ _
      | exact lease_Take.mono _ _ _ _ _ _ _ _ _
      | exact lease_Tick.mono _ _ _ _ _ _ _
      | exact LeO.none _
      | refine LeO.ite ?_ ?_
      | refine LeO.bind ?_ (fun _ => ?_)
set_option maxHeartbeats 8000000 in
set_option maxRecDepth 100000 in
theorem folkmootlaw20_good.calls (k : Nat)  (r : Bool) (w : World) (h : folkmootlaw20_good.f k  = some r) :
    Calls Try.prog 16 #[] w fun e w' => e = .returned (.bool r) ∧ Below w.heap.size w w' := by
  have hu29 := Try.underlying29
  have HB := Aside0.mk (Below.refl w.heap.size w)
  have H : ((folkmootlaw20_one.f).bind fun bt156 => ((lease_Ask.f k bt156.1 bt156.2.1 bt156.2.2.1 bt156.2.2.2.1 bt156.2.2.2.2.1 bt156.2.2.2.2.2).bind fun bt164 => ((lease_Take.f k bt164.1 bt164.2.1 bt164.2.2.1 bt164.2.2.2.1 bt164.2.2.2.2.1 bt164.2.2.2.2.2.1 bt164.2.2.2.2.2.2.1 5).bind fun bt175 => (if bt164.2.2.2.2.2.2.2 = 0 then (if bt175.2.2.2.2.2.2.2 = 0 then (if bt164.2.2.2.2.2.2.1 = 1 then (if bt175.2.2.2.2.2.2.1 = true then ((lease_Good.f k bt175.1 bt175.2.1 bt175.2.2.1 bt175.2.2.2.1 bt175.2.2.2.2.1 bt175.2.2.2.2.2.1).bind fun t185 => (if t185 = true then ((lease_Check.f k bt175.1 bt175.2.1 bt175.2.2.1 bt175.2.2.2.1 bt175.2.2.2.2.1 bt175.2.2.2.2.2.1).bind fun t186 => (folkmootlaw20_good.j0 k bt164.2.2.2.2.2.2.2 (t186 != 0) bt175.1 bt175.2.1 bt175.2.2.1 bt175.2.2.2.1 bt175.2.2.2.2.1 bt175.2.2.2.2.2.1)) else (folkmootlaw20_good.j0 k bt164.2.2.2.2.2.2.2 true bt175.1 bt175.2.1 bt175.2.2.1 bt175.2.2.2.1 bt175.2.2.2.2.1 bt175.2.2.2.2.2.1))) else (folkmootlaw20_good.j0 k bt164.2.2.2.2.2.2.2 true bt175.1 bt175.2.1 bt175.2.2.1 bt175.2.2.2.1 bt175.2.2.2.2.1 bt175.2.2.2.2.2.1)) else (folkmootlaw20_good.j0 k bt164.2.2.2.2.2.2.2 true bt175.1 bt175.2.1 bt175.2.2.1 bt175.2.2.2.1 bt175.2.2.2.2.1 bt175.2.2.2.2.2.1)) else (folkmootlaw20_good.j0 k bt164.2.2.2.2.2.2.2 true bt175.1 bt175.2.1 bt175.2.2.1 bt175.2.2.2.1 bt175.2.2.2.2.1 bt175.2.2.2.2.2.1)) else (folkmootlaw20_good.j0 k bt164.2.2.2.2.2.2.2 true bt175.1 bt175.2.1 bt175.2.2.1 bt175.2.2.2.1 bt175.2.2.2.2.1 bt175.2.2.2.2.2.1))))) = some r := h
  clear h
  replace H := Option.bind_eq_some_iff.mp H
  obtain ⟨⟨t156, t157, t158, t159, t162, t163⟩, A10, H⟩ := H
  replace H : ((lease_Ask.f k t156 t157 t158 t159 t162 t163).bind fun bt164 => ((lease_Take.f k bt164.1 bt164.2.1 bt164.2.2.1 bt164.2.2.2.1 bt164.2.2.2.2.1 bt164.2.2.2.2.2.1 bt164.2.2.2.2.2.2.1 5).bind fun bt175 => (if bt164.2.2.2.2.2.2.2 = 0 then (if bt175.2.2.2.2.2.2.2 = 0 then (if bt164.2.2.2.2.2.2.1 = 1 then (if bt175.2.2.2.2.2.2.1 = true then ((lease_Good.f k bt175.1 bt175.2.1 bt175.2.2.1 bt175.2.2.2.1 bt175.2.2.2.2.1 bt175.2.2.2.2.2.1).bind fun t185 => (if t185 = true then ((lease_Check.f k bt175.1 bt175.2.1 bt175.2.2.1 bt175.2.2.2.1 bt175.2.2.2.2.1 bt175.2.2.2.2.2.1).bind fun t186 => (folkmootlaw20_good.j0 k bt164.2.2.2.2.2.2.2 (t186 != 0) bt175.1 bt175.2.1 bt175.2.2.1 bt175.2.2.2.1 bt175.2.2.2.2.1 bt175.2.2.2.2.2.1)) else (folkmootlaw20_good.j0 k bt164.2.2.2.2.2.2.2 true bt175.1 bt175.2.1 bt175.2.2.1 bt175.2.2.2.1 bt175.2.2.2.2.1 bt175.2.2.2.2.2.1))) else (folkmootlaw20_good.j0 k bt164.2.2.2.2.2.2.2 true bt175.1 bt175.2.1 bt175.2.2.1 bt175.2.2.2.1 bt175.2.2.2.2.1 bt175.2.2.2.2.2.1)) else (folkmootlaw20_good.j0 k bt164.2.2.2.2.2.2.2 true bt175.1 bt175.2.1 bt175.2.2.1 bt175.2.2.2.1 bt175.2.2.2.2.1 bt175.2.2.2.2.2.1)) else (folkmootlaw20_good.j0 k bt164.2.2.2.2.2.2.2 true bt175.1 bt175.2.1 bt175.2.2.1 bt175.2.2.2.1 bt175.2.2.2.2.1 bt175.2.2.2.2.2.1)) else (folkmootlaw20_good.j0 k bt164.2.2.2.2.2.2.2 true bt175.1 bt175.2.1 bt175.2.2.1 bt175.2.2.2.1 bt175.2.2.2.2.1 bt175.2.2.2.2.2.1)))) = some r := H
  have A1 := Aside0.mk A10
  clear A10
  replace H := Option.bind_eq_some_iff.mp H
  obtain ⟨⟨t164, t165, t166, t167, t170, t171, t172, t173⟩, A20, H⟩ := H
  replace H : ((lease_Take.f k t164 t165 t166 t167 t170 t171 t172 5).bind fun bt175 => (if t173 = 0 then (if bt175.2.2.2.2.2.2.2 = 0 then (if t172 = 1 then (if bt175.2.2.2.2.2.2.1 = true then ((lease_Good.f k bt175.1 bt175.2.1 bt175.2.2.1 bt175.2.2.2.1 bt175.2.2.2.2.1 bt175.2.2.2.2.2.1).bind fun t185 => (if t185 = true then ((lease_Check.f k bt175.1 bt175.2.1 bt175.2.2.1 bt175.2.2.2.1 bt175.2.2.2.2.1 bt175.2.2.2.2.2.1).bind fun t186 => (folkmootlaw20_good.j0 k t173 (t186 != 0) bt175.1 bt175.2.1 bt175.2.2.1 bt175.2.2.2.1 bt175.2.2.2.2.1 bt175.2.2.2.2.2.1)) else (folkmootlaw20_good.j0 k t173 true bt175.1 bt175.2.1 bt175.2.2.1 bt175.2.2.2.1 bt175.2.2.2.2.1 bt175.2.2.2.2.2.1))) else (folkmootlaw20_good.j0 k t173 true bt175.1 bt175.2.1 bt175.2.2.1 bt175.2.2.2.1 bt175.2.2.2.2.1 bt175.2.2.2.2.2.1)) else (folkmootlaw20_good.j0 k t173 true bt175.1 bt175.2.1 bt175.2.2.1 bt175.2.2.2.1 bt175.2.2.2.2.1 bt175.2.2.2.2.2.1)) else (folkmootlaw20_good.j0 k t173 true bt175.1 bt175.2.1 bt175.2.2.1 bt175.2.2.2.1 bt175.2.2.2.2.1 bt175.2.2.2.2.2.1)) else (folkmootlaw20_good.j0 k t173 true bt175.1 bt175.2.1 bt175.2.2.1 bt175.2.2.2.1 bt175.2.2.2.2.1 bt175.2.2.2.2.2.1))) = some r := H
  have A2 := Aside0.mk A20
  clear A20
  replace H := Option.bind_eq_some_iff.mp H
  obtain ⟨⟨t175, t176, t177, t178, t181, t182, t183, t184⟩, A30, H⟩ := H
  replace H : (if t173 = 0 then (if t184 = 0 then (if t172 = 1 then (if t183 = true then ((lease_Good.f k t175 t176 t177 t178 t181 t182).bind fun t185 => (if t185 = true then ((lease_Check.f k t175 t176 t177 t178 t181 t182).bind fun t186 => (folkmootlaw20_good.j0 k t173 (t186 != 0) t175 t176 t177 t178 t181 t182)) else (folkmootlaw20_good.j0 k t173 true t175 t176 t177 t178 t181 t182))) else (folkmootlaw20_good.j0 k t173 true t175 t176 t177 t178 t181 t182)) else (folkmootlaw20_good.j0 k t173 true t175 t176 t177 t178 t181 t182)) else (folkmootlaw20_good.j0 k t173 true t175 t176 t177 t178 t181 t182)) else (folkmootlaw20_good.j0 k t173 true t175 t176 t177 t178 t181 t182)) = some r := H
  have A3 := Aside0.mk A30
  clear A30
  have HC4 := Aside0.mk H
  clear H
  go_enter Try.func16, Try.ntmps16
  go_upto_region 3 with (first | ((with_reducible refine gate_callee (f := 28) rfl ?_); refine goesL_ (some 10) rfl rfl Try.func28 (by kernel_rfl) rfl #[] rfl (by (try simp only [List.map_toArray, List.map_cons, List.map_nil]); first | done | rfl | (simp only [List.length_drop, List.length_take]; rfl)) ?_; (with_reducible refine (folkmootlaw20_one.calls  t156 t157 t158 t159 t162 t163 _ A1.out).mono ?_); rintro e w5 ⟨v160, rfl, ho0, hb⟩; refine ⟨_, rfl, ?_⟩; have n0_ := Aside0.mk (Kd.R_lower ho0 (below_size (by repeat (first | (with_reducible first | exact HB.out | apply below_alloc | apply pw_below_drewN | apply below_drew1) | exact HB.out)))); have n1_ := Aside0.mk (below_step (by repeat (first | (with_reducible first | exact HB.out | apply below_alloc | apply pw_below_drewN | apply below_drew1) | exact HB.out)) hb); clear HB; have HO161 := n0_; have HB := n1_; clear n0_ n1_; (try clear hb); (try clear hb2); (try clear hk); (try clear hi); (try clear ho0); obtain ⟨Ao6, co6, eo6⟩ := Kd.R_slice HO161.out; subst eo6) | ((with_reducible refine gate_callee (f := 21) rfl ?_); refine goesL_ (some 11) rfl rfl Try.func21 (by kernel_rfl) rfl #[.agg #[.int .i64 t156, .int .i64 t157, .int .i64 t158, .slice Ao6 t159.length co6, .int .i64 t162, .int .i64 t163]] rfl (by (try simp only [List.map_toArray, List.map_cons, List.map_nil]); first | done | rfl | (simp only [List.length_drop, List.length_take]; rfl)) ?_; (with_reducible refine (lease_Ask.calls k t156 t157 t158 _ _ t159 t162 t163 t164 t165 t166 t167 t170 t171 t172 t173 _ ?side1 ?side2 A2.out).mono ?_); (case side1 => repeat (first | exact (Kd.R_reads' HO161.out).2.2 | (with_reducible refine Kd.C_alloc ?_ _) | (with_reducible refine Kd.C_drewN ?_ _) | (with_reducible refine Kd.C_drew ?_))); (case side2 => exact (Kd.R_reads' HO161.out).2.1); rintro e w7 ⟨v168, rfl, ho0, hb⟩; refine ⟨_, rfl, ?_⟩; have n0_ := Aside0.mk (Kd.R_elder' (by (with_reducible repeat (first | apply Kd.R_alloc | apply Kd.R_drewN | apply Kd.R_drew)); exact HO161.out) (Kd.Q_base ho0) hb); have n1_ := Aside0.mk (Kd.Q_lower (Kd.Q_new' ho0 (Kd.R_lt (by (with_reducible repeat (first | apply Kd.R_alloc | apply Kd.R_drewN | apply Kd.R_drew)); exact HO161.out))) (below_size (by repeat (first | (with_reducible first | exact HB.out | apply below_alloc | apply pw_below_drewN | apply below_drew1) | exact HB.out)))); have n2_ := Aside0.mk (below_step (by repeat (first | (with_reducible first | exact HB.out | apply below_alloc | apply pw_below_drewN | apply below_drew1) | exact HB.out)) hb); clear HO161; clear HB; have HO161 := n0_; have HO169 := n1_; have HB := n2_; clear n0_ n1_ n2_; (try clear hb); (try clear hb2); (try clear hk); (try clear hi); (try clear ho0)) | ((with_reducible refine gate_dst (N := 1) rfl ?_); refine box_event ?hg (N := 1) ?hd (cs := #[.int .i64 0, .int .i64 0, .int .i64 0, .slice none 0 0, .int .i64 0, .int .i64 0]) (t := 29) ?hr ?_; (case hd => rfl); (case hg => rfl); (case hr => first | (go_simp; done) | (go_simp; rfl)); intro gb174 hg w8 hbox hb; have n0_ := Aside0.mk (Kd.R_below (by (with_reducible repeat (first | apply Kd.R_alloc | apply Kd.R_drewN | apply Kd.R_drew)); exact HO161.out) hb); have n1_ := Aside0.mk (Kd.Q_below (by (with_reducible repeat (first | apply Kd.Q_alloc | apply Kd.Q_drewN | apply Kd.Q_drew)); exact HO169.out) hb); have n2_ := Aside0.mk (below_step (by repeat (first | (with_reducible first | exact HB.out | apply below_alloc | apply pw_below_drewN | apply below_drew1) | exact HB.out)) hb); have n3_ := Aside0.mk (hbox); have n4_ := Aside0.mk ((by rw [hg]; exact (below_size (by repeat (first | (with_reducible first | exact HB.out | apply below_alloc | apply pw_below_drewN | apply below_drew1) | exact HB.out))) : w.heap.size ≤ gb174)); have n5_ := Aside0.mk ((by rw [hg]; exact (below_size (by repeat (first | (with_reducible first | exact HB.out | apply below_alloc | apply pw_below_drewN | apply below_drew1) | exact HB.out))) : w.heap.size ≤ gb174)); clear HO161; clear HO169; clear HB; have HO161 := n0_; have HO169 := n1_; have HB := n2_; have BK174 := n3_; have GW174 := n4_; have GE174 := n5_; clear n0_ n1_ n2_ n3_ n4_ n5_; clear hb hbox hg; have hcz9_0 : w8.cell? ⟨gb174, 0, none⟩ = some (.int .i64 0) := (blk_cell BK174.out 0).trans rfl; have hcz9_1 : w8.cell? ⟨gb174, 1, none⟩ = some (.int .i64 0) := (blk_cell BK174.out 1).trans rfl; have hcz9_2 : w8.cell? ⟨gb174, 2, none⟩ = some (.int .i64 0) := (blk_cell BK174.out 2).trans rfl; have hcz9_3 : w8.cell? ⟨gb174, 3, none⟩ = some (.slice none 0 0) := (blk_cell BK174.out 3).trans rfl; have hcz9_4 : w8.cell? ⟨gb174, 4, none⟩ = some (.int .i64 0) := (blk_cell BK174.out 4).trans rfl; have hcz9_5 : w8.cell? ⟨gb174, 5, none⟩ = some (.int .i64 0) := (blk_cell BK174.out 5).trans rfl; have hfz9_0 := blk_frozen BK174.out 0; have hfz9_1 := blk_frozen BK174.out 1; have hfz9_2 := blk_frozen BK174.out 2; have hfz9_3 := blk_frozen BK174.out 3; have hfz9_4 := blk_frozen BK174.out 4; have hfz9_5 := blk_frozen BK174.out 5; obtain ⟨Ao10, co10, eo10, _⟩ := Kd.Q_slice HO169.out; subst eo10) | ((with_reducible refine gate_callee (f := 23) rfl ?_); refine goesL_ (some 18) rfl rfl Try.func23 (by kernel_rfl) rfl #[.agg #[.int .i64 t164, .int .i64 t165, .int .i64 t166, .slice Ao10 t167.length co10, .int .i64 t170, .int .i64 t171], .int .i64 t172, .int .i64 5] rfl (by (try simp only [List.map_toArray, List.map_cons, List.map_nil]); first | done | rfl | (simp only [List.length_drop, List.length_take]; rfl)) ?_; (with_reducible refine (lease_Take.calls k t164 t165 t166 _ _ t167 t170 t171 t172 5 t175 t176 t177 t178 t181 t182 t183 t184 _ ?side1 ?side2 A3.out).mono ?_); (case side1 => refine (Kd.Q_reads' (e := 59) (base := w.heap.size) (ok := fun k_ => (True ∧ some k_ ≠ (.slice Ao6 t159.length co6 : Value).ownBlock)) (n := t167.length) (c := co10) ?_).2.2; exact (by (with_reducible repeat (first | apply Kd.Q_alloc | apply Kd.Q_drewN | apply Kd.Q_drew)); exact (Kd.Q_mono (Kd.Q_far (p := ⟨gb174, 5, none⟩) (Kd.Q_far (p := ⟨gb174, 4, none⟩) (Kd.Q_far (p := ⟨gb174, 3, none⟩) (Kd.Q_far (p := ⟨gb174, 2, none⟩) (Kd.Q_far (p := ⟨gb174, 1, none⟩) (Kd.Q_far (p := ⟨gb174, 0, none⟩) (Kd.Q_types HO169.out BK174.out (by decide)) (fun _ hk => hk.2) (.int .i64 t164)) (fun _ hk => hk.2) (.int .i64 t165)) (fun _ hk => hk.2) (.int .i64 t166)) (fun _ hk => hk.2) (.slice Ao10 t167.length co10)) (fun _ hk => hk.2) (.int .i64 t170)) (fun _ hk => hk.2) (.int .i64 t171)) (fun _ h_ => h_.1)))); (case side2 => exact (Kd.Q_reads' HO169.out).2.1); rintro e w11 ⟨v179, rfl, ho0, hb⟩; refine ⟨_, rfl, ?_⟩; have n0_ := Aside0.mk (Kd.R_elder' (by (with_reducible repeat (first | apply Kd.R_alloc | apply Kd.R_drewN | apply Kd.R_drew)); exact (Kd.R_mono (Kd.R_far (p := ⟨gb174, 5, none⟩) (Kd.R_far (p := ⟨gb174, 4, none⟩) (Kd.R_far (p := ⟨gb174, 3, none⟩) (Kd.R_far (p := ⟨gb174, 2, none⟩) (Kd.R_far (p := ⟨gb174, 1, none⟩) (Kd.R_far (p := ⟨gb174, 0, none⟩) (Kd.R_types HO161.out BK174.out (by decide)) (fun _ hk => hk.2) (.int .i64 t164)) (fun _ hk => hk.2) (.int .i64 t165)) (fun _ hk => hk.2) (.int .i64 t166)) (fun _ hk => hk.2) (.slice Ao10 t167.length co10)) (fun _ hk => hk.2) (.int .i64 t170)) (fun _ hk => hk.2) (.int .i64 t171)) (fun _ h_ => h_.1))) (Kd.Q_base ho0) hb); have n1_ := Aside0.mk (Kd.Q_elder' (by (with_reducible repeat (first | apply Kd.Q_alloc | apply Kd.Q_drewN | apply Kd.Q_drew)); exact (Kd.Q_mono (Kd.Q_far (p := ⟨gb174, 5, none⟩) (Kd.Q_far (p := ⟨gb174, 4, none⟩) (Kd.Q_far (p := ⟨gb174, 3, none⟩) (Kd.Q_far (p := ⟨gb174, 2, none⟩) (Kd.Q_far (p := ⟨gb174, 1, none⟩) (Kd.Q_far (p := ⟨gb174, 0, none⟩) (Kd.Q_types HO169.out BK174.out (by decide)) (fun _ hk => hk.2) (.int .i64 t164)) (fun _ hk => hk.2) (.int .i64 t165)) (fun _ hk => hk.2) (.int .i64 t166)) (fun _ hk => hk.2) (.slice Ao10 t167.length co10)) (fun _ hk => hk.2) (.int .i64 t170)) (fun _ hk => hk.2) (.int .i64 t171)) (fun _ h_ => h_.1))) (Kd.Q_base ho0) hb); have n2_ := Aside0.mk (Kd.Q_lower (Kd.Q_new' (Kd.Q_new' ho0 (Kd.R_lt (by (with_reducible repeat (first | apply Kd.R_alloc | apply Kd.R_drewN | apply Kd.R_drew)); exact (Kd.R_mono (Kd.R_far (p := ⟨gb174, 5, none⟩) (Kd.R_far (p := ⟨gb174, 4, none⟩) (Kd.R_far (p := ⟨gb174, 3, none⟩) (Kd.R_far (p := ⟨gb174, 2, none⟩) (Kd.R_far (p := ⟨gb174, 1, none⟩) (Kd.R_far (p := ⟨gb174, 0, none⟩) (Kd.R_types HO161.out BK174.out (by decide)) (fun _ hk => hk.2) (.int .i64 t164)) (fun _ hk => hk.2) (.int .i64 t165)) (fun _ hk => hk.2) (.int .i64 t166)) (fun _ hk => hk.2) (.slice Ao10 t167.length co10)) (fun _ hk => hk.2) (.int .i64 t170)) (fun _ hk => hk.2) (.int .i64 t171)) (fun _ h_ => h_.1))))) (Kd.Q_lt (by (with_reducible repeat (first | apply Kd.Q_alloc | apply Kd.Q_drewN | apply Kd.Q_drew)); exact (Kd.Q_mono (Kd.Q_far (p := ⟨gb174, 5, none⟩) (Kd.Q_far (p := ⟨gb174, 4, none⟩) (Kd.Q_far (p := ⟨gb174, 3, none⟩) (Kd.Q_far (p := ⟨gb174, 2, none⟩) (Kd.Q_far (p := ⟨gb174, 1, none⟩) (Kd.Q_far (p := ⟨gb174, 0, none⟩) (Kd.Q_types HO169.out BK174.out (by decide)) (fun _ hk => hk.2) (.int .i64 t164)) (fun _ hk => hk.2) (.int .i64 t165)) (fun _ hk => hk.2) (.int .i64 t166)) (fun _ hk => hk.2) (.slice Ao10 t167.length co10)) (fun _ hk => hk.2) (.int .i64 t170)) (fun _ hk => hk.2) (.int .i64 t171)) (fun _ h_ => h_.1))))) (below_size (by repeat (first | (with_reducible first | exact HB.out | apply below_alloc | apply pw_below_drewN | apply below_drew1 | refine below_set ?_ GE174.out) | exact HB.out)))); have n3_ := Aside0.mk (blk_below (g := gb174) (o := .cells #[.int .i64 t164, .int .i64 t165, .int .i64 t166, .slice Ao10 t167.length co10, .int .i64 t170, .int .i64 t171] 29 (0, 0)) (by (with_reducible repeat (first | refine blk_drewN ?_ _ | refine blk_drew ?_ | refine blk_alloc ?_ _)); refine blk_put (cs := #[.int .i64 t164, .int .i64 t165, .int .i64 t166, .slice Ao10 t167.length co10, .int .i64 t170, .int .i64 0]) ?_ 5 _ rfl; (with_reducible repeat (first | refine blk_drewN ?_ _ | refine blk_drew ?_ | refine blk_alloc ?_ _)); refine blk_put (cs := #[.int .i64 t164, .int .i64 t165, .int .i64 t166, .slice Ao10 t167.length co10, .int .i64 0, .int .i64 0]) ?_ 4 _ rfl; (with_reducible repeat (first | refine blk_drewN ?_ _ | refine blk_drew ?_ | refine blk_alloc ?_ _)); refine blk_put (cs := #[.int .i64 t164, .int .i64 t165, .int .i64 t166, .slice none 0 0, .int .i64 0, .int .i64 0]) ?_ 3 _ rfl; (with_reducible repeat (first | refine blk_drewN ?_ _ | refine blk_drew ?_ | refine blk_alloc ?_ _)); refine blk_put (cs := #[.int .i64 t164, .int .i64 t165, .int .i64 0, .slice none 0 0, .int .i64 0, .int .i64 0]) ?_ 2 _ rfl; (with_reducible repeat (first | refine blk_drewN ?_ _ | refine blk_drew ?_ | refine blk_alloc ?_ _)); refine blk_put (cs := #[.int .i64 t164, .int .i64 0, .int .i64 0, .slice none 0 0, .int .i64 0, .int .i64 0]) ?_ 1 _ rfl; (with_reducible repeat (first | refine blk_drewN ?_ _ | refine blk_drew ?_ | refine blk_alloc ?_ _)); refine blk_put (cs := #[.int .i64 0, .int .i64 0, .int .i64 0, .slice none 0 0, .int .i64 0, .int .i64 0]) ?_ 0 _ rfl; (with_reducible repeat (first | refine blk_drewN ?_ _ | refine blk_drew ?_ | refine blk_alloc ?_ _)); exact BK174.out) hb); have n4_ := Aside0.mk (below_step (by repeat (first | (with_reducible first | exact HB.out | apply below_alloc | apply pw_below_drewN | apply below_drew1 | refine below_set ?_ GE174.out) | exact HB.out)) hb); clear HO161; clear HO169; clear BK174; clear HB; have HO161 := n0_; have HO169 := n1_; have HO180 := n2_; have BK174 := n3_; have HB := n4_; clear n0_ n1_ n2_ n3_ n4_; (try clear hb); (try clear hb2); (try clear hk); (try clear hi); (try clear ho0); have hcz12_0 : w11.cell? ⟨gb174, 0, none⟩ = some (.int .i64 t164) := (blk_cell BK174.out 0).trans rfl; have hcz12_1 : w11.cell? ⟨gb174, 1, none⟩ = some (.int .i64 t165) := (blk_cell BK174.out 1).trans rfl; have hcz12_2 : w11.cell? ⟨gb174, 2, none⟩ = some (.int .i64 t166) := (blk_cell BK174.out 2).trans rfl; have hcz12_3 : w11.cell? ⟨gb174, 3, none⟩ = some (.slice Ao10 t167.length co10) := (blk_cell BK174.out 3).trans rfl; have hcz12_4 : w11.cell? ⟨gb174, 4, none⟩ = some (.int .i64 t170) := (blk_cell BK174.out 4).trans rfl; have hcz12_5 : w11.cell? ⟨gb174, 5, none⟩ = some (.int .i64 t171) := (blk_cell BK174.out 5).trans rfl; have hfz12_0 := blk_frozen BK174.out 0; have hfz12_1 := blk_frozen BK174.out 1; have hfz12_2 := blk_frozen BK174.out 2; have hfz12_3 := blk_frozen BK174.out 3; have hfz12_4 := blk_frozen BK174.out 4; have hfz12_5 := blk_frozen BK174.out 5; obtain ⟨Ao13, co13, eo13, _⟩ := Kd.Q_slice HO180.out; subst eo13))
  (try simp only [Act.put, List.setIfInBounds_toArray, List.set_cons_zero, List.set_cons_succ])
  go_cut [45] (fun v45 wc => ∃ (kq : Nat) (x45_3 : Bool), v45 = .bool x45_3 ∧ Aside0 (folkmootlaw20_good.j0 kq t173 x45_3 t175 t176 t177 t178 t181 t182 = some r) ∧ Aside0 (kq ≤ k) ∧ Aside0 (Kd.Q k59 59 wc w.heap.size (fun _ => True) (.slice Ao13 t178.length co13) t178) ∧ Aside0 (wc.heap[gb174]? = some (.cells #[.int .i64 t175, .int .i64 t176, .int .i64 t177, (.slice Ao13 t178.length co13), .int .i64 t181, .int .i64 t182] 29 (0, 0))) ∧ Aside0 (Below w.heap.size w wc))
  case first =>
    have H := HC4.out
    clear HC4
    by_cases c14 : t173 = 0
    · rw [if_pos c14] at H
      have c14b0 : (t173 == 0) = true := beq_iff_eq.mpr c14
      have c14b1 : (t173 != 0) = false := bne_eq_false_iff_eq.mpr c14
      clear c14
      (first | rw [c14b0] | (simp only [i64_w, i32_w]; rw [c14b0]) | skip)
      by_cases c15 : t184 = 0
      · rw [if_pos c15] at H
        have c15b0 : (t184 == 0) = true := beq_iff_eq.mpr c15
        have c15b1 : (t184 != 0) = false := bne_eq_false_iff_eq.mpr c15
        clear c15
        by_cases c16 : t172 = 1
        · rw [if_pos c16] at H
          have c16b0 : (t172 == 1) = true := beq_iff_eq.mpr c16
          have c16b1 : (t172 != 1) = false := bne_eq_false_iff_eq.mpr c16
          clear c16
          by_cases c17 : t183 = true
          · subst c17
            have H1 : ((lease_Good.f k t175 t176 t177 t178 t181 t182).bind fun t185 => (if t185 = true then ((lease_Check.f k t175 t176 t177 t178 t181 t182).bind fun t186 => (folkmootlaw20_good.j0 k t173 (t186 != 0) t175 t176 t177 t178 t181 t182)) else (folkmootlaw20_good.j0 k t173 true t175 t176 t177 t178 t181 t182))) = some r := by rw [if_pos rfl] at H; exact H
            clear H
            have H := H1
            clear H1
            replace H := Option.bind_eq_some_iff.mp H
            obtain ⟨t185, A180, H⟩ := H
            replace H : (if t185 = true then ((lease_Check.f k t175 t176 t177 t178 t181 t182).bind fun t186 => (folkmootlaw20_good.j0 k t173 (t186 != 0) t175 t176 t177 t178 t181 t182)) else (folkmootlaw20_good.j0 k t173 true t175 t176 t177 t178 t181 t182)) = some r := H
            have A18 := Aside0.mk A180
            clear A180
            by_cases c19 : t185 = true
            · subst c19
              have H1 : ((lease_Check.f k t175 t176 t177 t178 t181 t182).bind fun t186 => (folkmootlaw20_good.j0 k t173 (t186 != 0) t175 t176 t177 t178 t181 t182)) = some r := by rw [if_pos rfl] at H; exact H
              clear H
              have H := H1
              clear H1
              replace H := Option.bind_eq_some_iff.mp H
              obtain ⟨t186, A200, H⟩ := H
              replace H : (folkmootlaw20_good.j0 k t173 (t186 != 0) t175 t176 t177 t178 t181 t182) = some r := H
              have A20 := Aside0.mk A200
              clear A200
              have H' := Aside0.mk H
              clear H
              have hcz21_0 : w11.cell? ⟨gb174, 0, none⟩ = some (.int .i64 t164) := (blk_cell BK174.out 0).trans rfl
              have hcz21_1 : w11.cell? ⟨gb174, 1, none⟩ = some (.int .i64 t165) := (blk_cell BK174.out 1).trans rfl
              have hcz21_2 : w11.cell? ⟨gb174, 2, none⟩ = some (.int .i64 t166) := (blk_cell BK174.out 2).trans rfl
              have hcz21_3 : w11.cell? ⟨gb174, 3, none⟩ = some (.slice Ao10 t167.length co10) := (blk_cell BK174.out 3).trans rfl
              have hcz21_4 : w11.cell? ⟨gb174, 4, none⟩ = some (.int .i64 t170) := (blk_cell BK174.out 4).trans rfl
              have hcz21_5 : w11.cell? ⟨gb174, 5, none⟩ = some (.int .i64 t171) := (blk_cell BK174.out 5).trans rfl
              have hfz21_0 := blk_frozen BK174.out 0
              have hfz21_1 := blk_frozen BK174.out 1
              have hfz21_2 := blk_frozen BK174.out 2
              have hfz21_3 := blk_frozen BK174.out 3
              have hfz21_4 := blk_frozen BK174.out 4
              have hfz21_5 := blk_frozen BK174.out 5
              go_wp2_with (first | (go_at_call 18; (with_reducible refine (lease_Good.calls k t175 t176 t177 _ _ t178 t181 t182 true _ ?side1 ?side2 A18.out).mono ?_); (case side1 => refine (Kd.Q_reads' (e := 59) (base := w.heap.size) (ok := fun k_ => ((True ∧ some k_ ≠ (.slice Ao6 t159.length co6 : Value).ownBlock) ∧ some k_ ≠ (.slice Ao10 t167.length co10 : Value).ownBlock)) (n := t178.length) (c := co13) ?_).2.2; exact (by (with_reducible repeat (first | apply Kd.Q_alloc | apply Kd.Q_drewN | apply Kd.Q_drew)); exact (Kd.Q_mono (Kd.Q_far (p := ⟨gb174, 5, none⟩) (Kd.Q_far (p := ⟨gb174, 4, none⟩) (Kd.Q_far (p := ⟨gb174, 3, none⟩) (Kd.Q_far (p := ⟨gb174, 2, none⟩) (Kd.Q_far (p := ⟨gb174, 1, none⟩) (Kd.Q_far (p := ⟨gb174, 0, none⟩) (Kd.Q_types HO180.out BK174.out (by decide)) (fun _ hk => hk.2) (.int .i64 t175)) (fun _ hk => hk.2) (.int .i64 t176)) (fun _ hk => hk.2) (.int .i64 t177)) (fun _ hk => hk.2) (.slice Ao13 t178.length co13)) (fun _ hk => hk.2) (.int .i64 t181)) (fun _ hk => hk.2) (.int .i64 t182)) (fun _ h_ => h_.1)))); (case side2 => exact (Kd.Q_reads' HO180.out).2.1); rintro e w22 ⟨rfl, hb⟩; have n0_ := Aside0.mk (Kd.R_below (by (with_reducible repeat (first | apply Kd.R_alloc | apply Kd.R_drewN | apply Kd.R_drew)); exact (Kd.R_mono (Kd.R_far (p := ⟨gb174, 5, none⟩) (Kd.R_far (p := ⟨gb174, 4, none⟩) (Kd.R_far (p := ⟨gb174, 3, none⟩) (Kd.R_far (p := ⟨gb174, 2, none⟩) (Kd.R_far (p := ⟨gb174, 1, none⟩) (Kd.R_far (p := ⟨gb174, 0, none⟩) (Kd.R_types HO161.out BK174.out (by decide)) (fun _ hk => hk.2) (.int .i64 t175)) (fun _ hk => hk.2) (.int .i64 t176)) (fun _ hk => hk.2) (.int .i64 t177)) (fun _ hk => hk.2) (.slice Ao13 t178.length co13)) (fun _ hk => hk.2) (.int .i64 t181)) (fun _ hk => hk.2) (.int .i64 t182)) (fun _ h_ => h_.1))) hb); have n1_ := Aside0.mk (Kd.Q_below (by (with_reducible repeat (first | apply Kd.Q_alloc | apply Kd.Q_drewN | apply Kd.Q_drew)); exact (Kd.Q_mono (Kd.Q_far (p := ⟨gb174, 5, none⟩) (Kd.Q_far (p := ⟨gb174, 4, none⟩) (Kd.Q_far (p := ⟨gb174, 3, none⟩) (Kd.Q_far (p := ⟨gb174, 2, none⟩) (Kd.Q_far (p := ⟨gb174, 1, none⟩) (Kd.Q_far (p := ⟨gb174, 0, none⟩) (Kd.Q_types HO169.out BK174.out (by decide)) (fun _ hk => hk.2) (.int .i64 t175)) (fun _ hk => hk.2) (.int .i64 t176)) (fun _ hk => hk.2) (.int .i64 t177)) (fun _ hk => hk.2) (.slice Ao13 t178.length co13)) (fun _ hk => hk.2) (.int .i64 t181)) (fun _ hk => hk.2) (.int .i64 t182)) (fun _ h_ => h_.1))) hb); have n2_ := Aside0.mk (Kd.Q_below (by (with_reducible repeat (first | apply Kd.Q_alloc | apply Kd.Q_drewN | apply Kd.Q_drew)); exact (Kd.Q_mono (Kd.Q_far (p := ⟨gb174, 5, none⟩) (Kd.Q_far (p := ⟨gb174, 4, none⟩) (Kd.Q_far (p := ⟨gb174, 3, none⟩) (Kd.Q_far (p := ⟨gb174, 2, none⟩) (Kd.Q_far (p := ⟨gb174, 1, none⟩) (Kd.Q_far (p := ⟨gb174, 0, none⟩) (Kd.Q_types HO180.out BK174.out (by decide)) (fun _ hk => hk.2) (.int .i64 t175)) (fun _ hk => hk.2) (.int .i64 t176)) (fun _ hk => hk.2) (.int .i64 t177)) (fun _ hk => hk.2) (.slice Ao13 t178.length co13)) (fun _ hk => hk.2) (.int .i64 t181)) (fun _ hk => hk.2) (.int .i64 t182)) (fun _ h_ => h_.1))) hb); have n3_ := Aside0.mk (blk_below (g := gb174) (o := .cells #[.int .i64 t175, .int .i64 t176, .int .i64 t177, .slice Ao13 t178.length co13, .int .i64 t181, .int .i64 t182] 29 (0, 0)) (by (with_reducible repeat (first | refine blk_drewN ?_ _ | refine blk_drew ?_ | refine blk_alloc ?_ _)); refine blk_put (cs := #[.int .i64 t175, .int .i64 t176, .int .i64 t177, .slice Ao13 t178.length co13, .int .i64 t181, .int .i64 t171]) ?_ 5 _ rfl; (with_reducible repeat (first | refine blk_drewN ?_ _ | refine blk_drew ?_ | refine blk_alloc ?_ _)); refine blk_put (cs := #[.int .i64 t175, .int .i64 t176, .int .i64 t177, .slice Ao13 t178.length co13, .int .i64 t170, .int .i64 t171]) ?_ 4 _ rfl; (with_reducible repeat (first | refine blk_drewN ?_ _ | refine blk_drew ?_ | refine blk_alloc ?_ _)); refine blk_put (cs := #[.int .i64 t175, .int .i64 t176, .int .i64 t177, .slice Ao10 t167.length co10, .int .i64 t170, .int .i64 t171]) ?_ 3 _ rfl; (with_reducible repeat (first | refine blk_drewN ?_ _ | refine blk_drew ?_ | refine blk_alloc ?_ _)); refine blk_put (cs := #[.int .i64 t175, .int .i64 t176, .int .i64 t166, .slice Ao10 t167.length co10, .int .i64 t170, .int .i64 t171]) ?_ 2 _ rfl; (with_reducible repeat (first | refine blk_drewN ?_ _ | refine blk_drew ?_ | refine blk_alloc ?_ _)); refine blk_put (cs := #[.int .i64 t175, .int .i64 t165, .int .i64 t166, .slice Ao10 t167.length co10, .int .i64 t170, .int .i64 t171]) ?_ 1 _ rfl; (with_reducible repeat (first | refine blk_drewN ?_ _ | refine blk_drew ?_ | refine blk_alloc ?_ _)); refine blk_put (cs := #[.int .i64 t164, .int .i64 t165, .int .i64 t166, .slice Ao10 t167.length co10, .int .i64 t170, .int .i64 t171]) ?_ 0 _ rfl; (with_reducible repeat (first | refine blk_drewN ?_ _ | refine blk_drew ?_ | refine blk_alloc ?_ _)); exact BK174.out) hb); have n4_ := Aside0.mk (below_step (by repeat (first | (with_reducible first | exact HB.out | apply below_alloc | apply pw_below_drewN | apply below_drew1 | refine below_set ?_ GE174.out) | exact HB.out)) hb); clear HO161; clear HO169; clear HO180; clear BK174; clear HB; have HO161 := n0_; have HO169 := n1_; have HO180 := n2_; have BK174 := n3_; have HB := n4_; clear n0_ n1_ n2_ n3_ n4_; (try clear hb); (try clear hb2); (try clear hk); (try clear hi); have hcz23_0 : w22.cell? ⟨gb174, 0, none⟩ = some (.int .i64 t175) := (blk_cell BK174.out 0).trans rfl; have hcz23_1 : w22.cell? ⟨gb174, 1, none⟩ = some (.int .i64 t176) := (blk_cell BK174.out 1).trans rfl; have hcz23_2 : w22.cell? ⟨gb174, 2, none⟩ = some (.int .i64 t177) := (blk_cell BK174.out 2).trans rfl; have hcz23_3 : w22.cell? ⟨gb174, 3, none⟩ = some (.slice Ao13 t178.length co13) := (blk_cell BK174.out 3).trans rfl; have hcz23_4 : w22.cell? ⟨gb174, 4, none⟩ = some (.int .i64 t181) := (blk_cell BK174.out 4).trans rfl; have hcz23_5 : w22.cell? ⟨gb174, 5, none⟩ = some (.int .i64 t182) := (blk_cell BK174.out 5).trans rfl; have hfz23_0 := blk_frozen BK174.out 0; have hfz23_1 := blk_frozen BK174.out 1; have hfz23_2 := blk_frozen BK174.out 2; have hfz23_3 := blk_frozen BK174.out 3; have hfz23_4 := blk_frozen BK174.out 4; have hfz23_5 := blk_frozen BK174.out 5) | (go_at_call 13; (with_reducible refine (lease_Check.calls k t175 t176 t177 _ _ t178 t181 t182 t186 _ ?side1 ?side2 A20.out).mono ?_); (case side1 => repeat (first | exact (Kd.Q_reads' HO180.out).2.2 | (with_reducible refine Kd.C_alloc ?_ _) | (with_reducible refine Kd.C_drewN ?_ _) | (with_reducible refine Kd.C_drew ?_))); (case side2 => exact (Kd.Q_reads' HO180.out).2.1); rintro e w24 ⟨rfl, hb⟩; have n0_ := Aside0.mk (Kd.R_below (by (with_reducible repeat (first | apply Kd.R_alloc | apply Kd.R_drewN | apply Kd.R_drew)); exact HO161.out) hb); have n1_ := Aside0.mk (Kd.Q_below (by (with_reducible repeat (first | apply Kd.Q_alloc | apply Kd.Q_drewN | apply Kd.Q_drew)); exact HO169.out) hb); have n2_ := Aside0.mk (Kd.Q_below (by (with_reducible repeat (first | apply Kd.Q_alloc | apply Kd.Q_drewN | apply Kd.Q_drew)); exact HO180.out) hb); have n3_ := Aside0.mk (blk_below (g := gb174) (o := .cells #[.int .i64 t175, .int .i64 t176, .int .i64 t177, .slice Ao13 t178.length co13, .int .i64 t181, .int .i64 t182] 29 (0, 0)) (by (with_reducible repeat (first | refine blk_drewN ?_ _ | refine blk_drew ?_ | refine blk_alloc ?_ _)); exact BK174.out) hb); have n4_ := Aside0.mk (below_step (by repeat (first | (with_reducible first | exact HB.out | apply below_alloc | apply pw_below_drewN | apply below_drew1 | refine below_set ?_ GE174.out) | exact HB.out)) hb); clear HO161; clear HO169; clear HO180; clear BK174; clear HB; have HO161 := n0_; have HO169 := n1_; have HO180 := n2_; have BK174 := n3_; have HB := n4_; clear n0_ n1_ n2_ n3_ n4_; (try clear hb); (try clear hb2); (try clear hk); (try clear hi)))
              go_meet
              case rel => exact ⟨_, ((t186 != 0)), (by first | rfl | (simp; done) | (simp [*]; done)), H', ⟨by first | omega | exact Nat.le_refl _⟩, ⟨by (with_reducible repeat (first | apply Kd.Q_alloc | apply Kd.Q_drewN | apply Kd.Q_drew)); exact Kd.Q_mono HO180.out (fun _ hk => trivial)⟩, ⟨by (with_reducible repeat (first | refine blk_drewN ?_ _ | refine blk_drew ?_ | refine blk_alloc ?_ _)); exact BK174.out⟩, ⟨by repeat (first | (with_reducible first | exact HB.out | apply below_alloc | apply pw_below_drewN | apply below_drew1 | refine below_set ?_ GE174.out) | exact HB.out)⟩⟩
            · replace c19 := Bool.eq_false_iff.mpr c19
              subst c19
              have H1 : (folkmootlaw20_good.j0 k t173 true t175 t176 t177 t178 t181 t182) = some r := by rw [if_neg (show ¬ (false = true) by decide)] at H; exact H
              clear H
              have H := H1
              clear H1
              have H' := Aside0.mk H
              clear H
              have hcz25_0 : w11.cell? ⟨gb174, 0, none⟩ = some (.int .i64 t164) := (blk_cell BK174.out 0).trans rfl
              have hcz25_1 : w11.cell? ⟨gb174, 1, none⟩ = some (.int .i64 t165) := (blk_cell BK174.out 1).trans rfl
              have hcz25_2 : w11.cell? ⟨gb174, 2, none⟩ = some (.int .i64 t166) := (blk_cell BK174.out 2).trans rfl
              have hcz25_3 : w11.cell? ⟨gb174, 3, none⟩ = some (.slice Ao10 t167.length co10) := (blk_cell BK174.out 3).trans rfl
              have hcz25_4 : w11.cell? ⟨gb174, 4, none⟩ = some (.int .i64 t170) := (blk_cell BK174.out 4).trans rfl
              have hcz25_5 : w11.cell? ⟨gb174, 5, none⟩ = some (.int .i64 t171) := (blk_cell BK174.out 5).trans rfl
              have hfz25_0 := blk_frozen BK174.out 0
              have hfz25_1 := blk_frozen BK174.out 1
              have hfz25_2 := blk_frozen BK174.out 2
              have hfz25_3 := blk_frozen BK174.out 3
              have hfz25_4 := blk_frozen BK174.out 4
              have hfz25_5 := blk_frozen BK174.out 5
              go_wp2_with (first | (go_at_call 18; (with_reducible refine (lease_Good.calls k t175 t176 t177 _ _ t178 t181 t182 false _ ?side1 ?side2 A18.out).mono ?_); (case side1 => refine (Kd.Q_reads' (e := 59) (base := w.heap.size) (ok := fun k_ => ((True ∧ some k_ ≠ (.slice Ao6 t159.length co6 : Value).ownBlock) ∧ some k_ ≠ (.slice Ao10 t167.length co10 : Value).ownBlock)) (n := t178.length) (c := co13) ?_).2.2; exact (by (with_reducible repeat (first | apply Kd.Q_alloc | apply Kd.Q_drewN | apply Kd.Q_drew)); exact (Kd.Q_mono (Kd.Q_far (p := ⟨gb174, 5, none⟩) (Kd.Q_far (p := ⟨gb174, 4, none⟩) (Kd.Q_far (p := ⟨gb174, 3, none⟩) (Kd.Q_far (p := ⟨gb174, 2, none⟩) (Kd.Q_far (p := ⟨gb174, 1, none⟩) (Kd.Q_far (p := ⟨gb174, 0, none⟩) (Kd.Q_types HO180.out BK174.out (by decide)) (fun _ hk => hk.2) (.int .i64 t175)) (fun _ hk => hk.2) (.int .i64 t176)) (fun _ hk => hk.2) (.int .i64 t177)) (fun _ hk => hk.2) (.slice Ao13 t178.length co13)) (fun _ hk => hk.2) (.int .i64 t181)) (fun _ hk => hk.2) (.int .i64 t182)) (fun _ h_ => h_.1)))); (case side2 => exact (Kd.Q_reads' HO180.out).2.1); rintro e w26 ⟨rfl, hb⟩; have n0_ := Aside0.mk (Kd.R_below (by (with_reducible repeat (first | apply Kd.R_alloc | apply Kd.R_drewN | apply Kd.R_drew)); exact (Kd.R_mono (Kd.R_far (p := ⟨gb174, 5, none⟩) (Kd.R_far (p := ⟨gb174, 4, none⟩) (Kd.R_far (p := ⟨gb174, 3, none⟩) (Kd.R_far (p := ⟨gb174, 2, none⟩) (Kd.R_far (p := ⟨gb174, 1, none⟩) (Kd.R_far (p := ⟨gb174, 0, none⟩) (Kd.R_types HO161.out BK174.out (by decide)) (fun _ hk => hk.2) (.int .i64 t175)) (fun _ hk => hk.2) (.int .i64 t176)) (fun _ hk => hk.2) (.int .i64 t177)) (fun _ hk => hk.2) (.slice Ao13 t178.length co13)) (fun _ hk => hk.2) (.int .i64 t181)) (fun _ hk => hk.2) (.int .i64 t182)) (fun _ h_ => h_.1))) hb); have n1_ := Aside0.mk (Kd.Q_below (by (with_reducible repeat (first | apply Kd.Q_alloc | apply Kd.Q_drewN | apply Kd.Q_drew)); exact (Kd.Q_mono (Kd.Q_far (p := ⟨gb174, 5, none⟩) (Kd.Q_far (p := ⟨gb174, 4, none⟩) (Kd.Q_far (p := ⟨gb174, 3, none⟩) (Kd.Q_far (p := ⟨gb174, 2, none⟩) (Kd.Q_far (p := ⟨gb174, 1, none⟩) (Kd.Q_far (p := ⟨gb174, 0, none⟩) (Kd.Q_types HO169.out BK174.out (by decide)) (fun _ hk => hk.2) (.int .i64 t175)) (fun _ hk => hk.2) (.int .i64 t176)) (fun _ hk => hk.2) (.int .i64 t177)) (fun _ hk => hk.2) (.slice Ao13 t178.length co13)) (fun _ hk => hk.2) (.int .i64 t181)) (fun _ hk => hk.2) (.int .i64 t182)) (fun _ h_ => h_.1))) hb); have n2_ := Aside0.mk (Kd.Q_below (by (with_reducible repeat (first | apply Kd.Q_alloc | apply Kd.Q_drewN | apply Kd.Q_drew)); exact (Kd.Q_mono (Kd.Q_far (p := ⟨gb174, 5, none⟩) (Kd.Q_far (p := ⟨gb174, 4, none⟩) (Kd.Q_far (p := ⟨gb174, 3, none⟩) (Kd.Q_far (p := ⟨gb174, 2, none⟩) (Kd.Q_far (p := ⟨gb174, 1, none⟩) (Kd.Q_far (p := ⟨gb174, 0, none⟩) (Kd.Q_types HO180.out BK174.out (by decide)) (fun _ hk => hk.2) (.int .i64 t175)) (fun _ hk => hk.2) (.int .i64 t176)) (fun _ hk => hk.2) (.int .i64 t177)) (fun _ hk => hk.2) (.slice Ao13 t178.length co13)) (fun _ hk => hk.2) (.int .i64 t181)) (fun _ hk => hk.2) (.int .i64 t182)) (fun _ h_ => h_.1))) hb); have n3_ := Aside0.mk (blk_below (g := gb174) (o := .cells #[.int .i64 t175, .int .i64 t176, .int .i64 t177, .slice Ao13 t178.length co13, .int .i64 t181, .int .i64 t182] 29 (0, 0)) (by (with_reducible repeat (first | refine blk_drewN ?_ _ | refine blk_drew ?_ | refine blk_alloc ?_ _)); refine blk_put (cs := #[.int .i64 t175, .int .i64 t176, .int .i64 t177, .slice Ao13 t178.length co13, .int .i64 t181, .int .i64 t171]) ?_ 5 _ rfl; (with_reducible repeat (first | refine blk_drewN ?_ _ | refine blk_drew ?_ | refine blk_alloc ?_ _)); refine blk_put (cs := #[.int .i64 t175, .int .i64 t176, .int .i64 t177, .slice Ao13 t178.length co13, .int .i64 t170, .int .i64 t171]) ?_ 4 _ rfl; (with_reducible repeat (first | refine blk_drewN ?_ _ | refine blk_drew ?_ | refine blk_alloc ?_ _)); refine blk_put (cs := #[.int .i64 t175, .int .i64 t176, .int .i64 t177, .slice Ao10 t167.length co10, .int .i64 t170, .int .i64 t171]) ?_ 3 _ rfl; (with_reducible repeat (first | refine blk_drewN ?_ _ | refine blk_drew ?_ | refine blk_alloc ?_ _)); refine blk_put (cs := #[.int .i64 t175, .int .i64 t176, .int .i64 t166, .slice Ao10 t167.length co10, .int .i64 t170, .int .i64 t171]) ?_ 2 _ rfl; (with_reducible repeat (first | refine blk_drewN ?_ _ | refine blk_drew ?_ | refine blk_alloc ?_ _)); refine blk_put (cs := #[.int .i64 t175, .int .i64 t165, .int .i64 t166, .slice Ao10 t167.length co10, .int .i64 t170, .int .i64 t171]) ?_ 1 _ rfl; (with_reducible repeat (first | refine blk_drewN ?_ _ | refine blk_drew ?_ | refine blk_alloc ?_ _)); refine blk_put (cs := #[.int .i64 t164, .int .i64 t165, .int .i64 t166, .slice Ao10 t167.length co10, .int .i64 t170, .int .i64 t171]) ?_ 0 _ rfl; (with_reducible repeat (first | refine blk_drewN ?_ _ | refine blk_drew ?_ | refine blk_alloc ?_ _)); exact BK174.out) hb); have n4_ := Aside0.mk (below_step (by repeat (first | (with_reducible first | exact HB.out | apply below_alloc | apply pw_below_drewN | apply below_drew1 | refine below_set ?_ GE174.out) | exact HB.out)) hb); clear HO161; clear HO169; clear HO180; clear BK174; clear HB; have HO161 := n0_; have HO169 := n1_; have HO180 := n2_; have BK174 := n3_; have HB := n4_; clear n0_ n1_ n2_ n3_ n4_; (try clear hb); (try clear hb2); (try clear hk); (try clear hi)))
              go_meet
              case rel => exact ⟨_, (true), (by first | rfl | (simp; done) | (simp [*]; done)), H', ⟨by first | omega | exact Nat.le_refl _⟩, ⟨by (with_reducible repeat (first | apply Kd.Q_alloc | apply Kd.Q_drewN | apply Kd.Q_drew)); exact Kd.Q_mono HO180.out (fun _ hk => trivial)⟩, ⟨by (with_reducible repeat (first | refine blk_drewN ?_ _ | refine blk_drew ?_ | refine blk_alloc ?_ _)); exact BK174.out⟩, ⟨by repeat (first | (with_reducible first | exact HB.out | apply below_alloc | apply pw_below_drewN | apply below_drew1 | refine below_set ?_ GE174.out) | exact HB.out)⟩⟩
          · replace c17 := Bool.eq_false_iff.mpr c17
            subst c17
            have H1 : (folkmootlaw20_good.j0 k t173 true t175 t176 t177 t178 t181 t182) = some r := by rw [if_neg (show ¬ (false = true) by decide)] at H; exact H
            clear H
            have H := H1
            clear H1
            have H' := Aside0.mk H
            clear H
            go_wp2
            go_meet
            case rel => exact ⟨_, (true), (by first | rfl | (simp; done) | (simp [*]; done)), H', ⟨by first | omega | exact Nat.le_refl _⟩, ⟨by (with_reducible repeat (first | apply Kd.Q_alloc | apply Kd.Q_drewN | apply Kd.Q_drew)); exact Kd.Q_mono (Kd.Q_far (p := ⟨gb174, 5, none⟩) (Kd.Q_far (p := ⟨gb174, 4, none⟩) (Kd.Q_far (p := ⟨gb174, 3, none⟩) (Kd.Q_far (p := ⟨gb174, 2, none⟩) (Kd.Q_far (p := ⟨gb174, 1, none⟩) (Kd.Q_far (p := ⟨gb174, 0, none⟩) (Kd.Q_types HO180.out BK174.out (by decide)) (fun _ hk => hk.2) (.int .i64 t175)) (fun _ hk => hk.2) (.int .i64 t176)) (fun _ hk => hk.2) (.int .i64 t177)) (fun _ hk => hk.2) (.slice Ao13 t178.length co13)) (fun _ hk => hk.2) (.int .i64 t181)) (fun _ hk => hk.2) (.int .i64 t182)) (fun _ hk => trivial)⟩, ⟨by (with_reducible repeat (first | refine blk_drewN ?_ _ | refine blk_drew ?_ | refine blk_alloc ?_ _)); refine blk_put (cs := #[.int .i64 t175, .int .i64 t176, .int .i64 t177, .slice Ao13 t178.length co13, .int .i64 t181, .int .i64 t171]) ?_ 5 _ rfl; (with_reducible repeat (first | refine blk_drewN ?_ _ | refine blk_drew ?_ | refine blk_alloc ?_ _)); refine blk_put (cs := #[.int .i64 t175, .int .i64 t176, .int .i64 t177, .slice Ao13 t178.length co13, .int .i64 t170, .int .i64 t171]) ?_ 4 _ rfl; (with_reducible repeat (first | refine blk_drewN ?_ _ | refine blk_drew ?_ | refine blk_alloc ?_ _)); refine blk_put (cs := #[.int .i64 t175, .int .i64 t176, .int .i64 t177, .slice Ao10 t167.length co10, .int .i64 t170, .int .i64 t171]) ?_ 3 _ rfl; (with_reducible repeat (first | refine blk_drewN ?_ _ | refine blk_drew ?_ | refine blk_alloc ?_ _)); refine blk_put (cs := #[.int .i64 t175, .int .i64 t176, .int .i64 t166, .slice Ao10 t167.length co10, .int .i64 t170, .int .i64 t171]) ?_ 2 _ rfl; (with_reducible repeat (first | refine blk_drewN ?_ _ | refine blk_drew ?_ | refine blk_alloc ?_ _)); refine blk_put (cs := #[.int .i64 t175, .int .i64 t165, .int .i64 t166, .slice Ao10 t167.length co10, .int .i64 t170, .int .i64 t171]) ?_ 1 _ rfl; (with_reducible repeat (first | refine blk_drewN ?_ _ | refine blk_drew ?_ | refine blk_alloc ?_ _)); refine blk_put (cs := #[.int .i64 t164, .int .i64 t165, .int .i64 t166, .slice Ao10 t167.length co10, .int .i64 t170, .int .i64 t171]) ?_ 0 _ rfl; (with_reducible repeat (first | refine blk_drewN ?_ _ | refine blk_drew ?_ | refine blk_alloc ?_ _)); exact BK174.out⟩, ⟨by repeat (first | (with_reducible first | exact HB.out | apply below_alloc | apply pw_below_drewN | apply below_drew1 | refine below_set ?_ GE174.out) | exact HB.out)⟩⟩
        · rw [if_neg c16] at H
          have c16b0 : (t172 == 1) = false := beq_eq_false_iff_ne.mpr c16
          have c16b1 : (t172 != 1) = true := bne_iff_ne.mpr c16
          have H' := Aside0.mk H
          clear H
          go_wp2
          go_meet
          case rel => exact ⟨_, (true), (by first | rfl | (simp; done) | (simp [*]; done)), H', ⟨by first | omega | exact Nat.le_refl _⟩, ⟨by (with_reducible repeat (first | apply Kd.Q_alloc | apply Kd.Q_drewN | apply Kd.Q_drew)); exact Kd.Q_mono (Kd.Q_far (p := ⟨gb174, 5, none⟩) (Kd.Q_far (p := ⟨gb174, 4, none⟩) (Kd.Q_far (p := ⟨gb174, 3, none⟩) (Kd.Q_far (p := ⟨gb174, 2, none⟩) (Kd.Q_far (p := ⟨gb174, 1, none⟩) (Kd.Q_far (p := ⟨gb174, 0, none⟩) (Kd.Q_types HO180.out BK174.out (by decide)) (fun _ hk => hk.2) (.int .i64 t175)) (fun _ hk => hk.2) (.int .i64 t176)) (fun _ hk => hk.2) (.int .i64 t177)) (fun _ hk => hk.2) (.slice Ao13 t178.length co13)) (fun _ hk => hk.2) (.int .i64 t181)) (fun _ hk => hk.2) (.int .i64 t182)) (fun _ hk => trivial)⟩, ⟨by (with_reducible repeat (first | refine blk_drewN ?_ _ | refine blk_drew ?_ | refine blk_alloc ?_ _)); refine blk_put (cs := #[.int .i64 t175, .int .i64 t176, .int .i64 t177, .slice Ao13 t178.length co13, .int .i64 t181, .int .i64 t171]) ?_ 5 _ rfl; (with_reducible repeat (first | refine blk_drewN ?_ _ | refine blk_drew ?_ | refine blk_alloc ?_ _)); refine blk_put (cs := #[.int .i64 t175, .int .i64 t176, .int .i64 t177, .slice Ao13 t178.length co13, .int .i64 t170, .int .i64 t171]) ?_ 4 _ rfl; (with_reducible repeat (first | refine blk_drewN ?_ _ | refine blk_drew ?_ | refine blk_alloc ?_ _)); refine blk_put (cs := #[.int .i64 t175, .int .i64 t176, .int .i64 t177, .slice Ao10 t167.length co10, .int .i64 t170, .int .i64 t171]) ?_ 3 _ rfl; (with_reducible repeat (first | refine blk_drewN ?_ _ | refine blk_drew ?_ | refine blk_alloc ?_ _)); refine blk_put (cs := #[.int .i64 t175, .int .i64 t176, .int .i64 t166, .slice Ao10 t167.length co10, .int .i64 t170, .int .i64 t171]) ?_ 2 _ rfl; (with_reducible repeat (first | refine blk_drewN ?_ _ | refine blk_drew ?_ | refine blk_alloc ?_ _)); refine blk_put (cs := #[.int .i64 t175, .int .i64 t165, .int .i64 t166, .slice Ao10 t167.length co10, .int .i64 t170, .int .i64 t171]) ?_ 1 _ rfl; (with_reducible repeat (first | refine blk_drewN ?_ _ | refine blk_drew ?_ | refine blk_alloc ?_ _)); refine blk_put (cs := #[.int .i64 t164, .int .i64 t165, .int .i64 t166, .slice Ao10 t167.length co10, .int .i64 t170, .int .i64 t171]) ?_ 0 _ rfl; (with_reducible repeat (first | refine blk_drewN ?_ _ | refine blk_drew ?_ | refine blk_alloc ?_ _)); exact BK174.out⟩, ⟨by repeat (first | (with_reducible first | exact HB.out | apply below_alloc | apply pw_below_drewN | apply below_drew1 | refine below_set ?_ GE174.out) | exact HB.out)⟩⟩
      · rw [if_neg c15] at H
        have c15b0 : (t184 == 0) = false := beq_eq_false_iff_ne.mpr c15
        have c15b1 : (t184 != 0) = true := bne_iff_ne.mpr c15
        have H' := Aside0.mk H
        clear H
        go_wp2
        go_meet
        case rel => exact ⟨_, (true), (by first | rfl | (simp; done) | (simp [*]; done)), H', ⟨by first | omega | exact Nat.le_refl _⟩, ⟨by (with_reducible repeat (first | apply Kd.Q_alloc | apply Kd.Q_drewN | apply Kd.Q_drew)); exact Kd.Q_mono (Kd.Q_far (p := ⟨gb174, 5, none⟩) (Kd.Q_far (p := ⟨gb174, 4, none⟩) (Kd.Q_far (p := ⟨gb174, 3, none⟩) (Kd.Q_far (p := ⟨gb174, 2, none⟩) (Kd.Q_far (p := ⟨gb174, 1, none⟩) (Kd.Q_far (p := ⟨gb174, 0, none⟩) (Kd.Q_types HO180.out BK174.out (by decide)) (fun _ hk => hk.2) (.int .i64 t175)) (fun _ hk => hk.2) (.int .i64 t176)) (fun _ hk => hk.2) (.int .i64 t177)) (fun _ hk => hk.2) (.slice Ao13 t178.length co13)) (fun _ hk => hk.2) (.int .i64 t181)) (fun _ hk => hk.2) (.int .i64 t182)) (fun _ hk => trivial)⟩, ⟨by (with_reducible repeat (first | refine blk_drewN ?_ _ | refine blk_drew ?_ | refine blk_alloc ?_ _)); refine blk_put (cs := #[.int .i64 t175, .int .i64 t176, .int .i64 t177, .slice Ao13 t178.length co13, .int .i64 t181, .int .i64 t171]) ?_ 5 _ rfl; (with_reducible repeat (first | refine blk_drewN ?_ _ | refine blk_drew ?_ | refine blk_alloc ?_ _)); refine blk_put (cs := #[.int .i64 t175, .int .i64 t176, .int .i64 t177, .slice Ao13 t178.length co13, .int .i64 t170, .int .i64 t171]) ?_ 4 _ rfl; (with_reducible repeat (first | refine blk_drewN ?_ _ | refine blk_drew ?_ | refine blk_alloc ?_ _)); refine blk_put (cs := #[.int .i64 t175, .int .i64 t176, .int .i64 t177, .slice Ao10 t167.length co10, .int .i64 t170, .int .i64 t171]) ?_ 3 _ rfl; (with_reducible repeat (first | refine blk_drewN ?_ _ | refine blk_drew ?_ | refine blk_alloc ?_ _)); refine blk_put (cs := #[.int .i64 t175, .int .i64 t176, .int .i64 t166, .slice Ao10 t167.length co10, .int .i64 t170, .int .i64 t171]) ?_ 2 _ rfl; (with_reducible repeat (first | refine blk_drewN ?_ _ | refine blk_drew ?_ | refine blk_alloc ?_ _)); refine blk_put (cs := #[.int .i64 t175, .int .i64 t165, .int .i64 t166, .slice Ao10 t167.length co10, .int .i64 t170, .int .i64 t171]) ?_ 1 _ rfl; (with_reducible repeat (first | refine blk_drewN ?_ _ | refine blk_drew ?_ | refine blk_alloc ?_ _)); refine blk_put (cs := #[.int .i64 t164, .int .i64 t165, .int .i64 t166, .slice Ao10 t167.length co10, .int .i64 t170, .int .i64 t171]) ?_ 0 _ rfl; (with_reducible repeat (first | refine blk_drewN ?_ _ | refine blk_drew ?_ | refine blk_alloc ?_ _)); exact BK174.out⟩, ⟨by repeat (first | (with_reducible first | exact HB.out | apply below_alloc | apply pw_below_drewN | apply below_drew1 | refine below_set ?_ GE174.out) | exact HB.out)⟩⟩
    · rw [if_neg c14] at H
      have c14b0 : (t173 == 0) = false := beq_eq_false_iff_ne.mpr c14
      have c14b1 : (t173 != 0) = true := bne_iff_ne.mpr c14
      (first | rw [c14b0] | (simp only [i64_w, i32_w]; rw [c14b0]) | skip)
      have H' := Aside0.mk H
      clear H
      go_wp2
      go_meet
      case rel => exact ⟨_, (true), (by first | rfl | (simp; done) | (simp [*]; done)), H', ⟨by first | omega | exact Nat.le_refl _⟩, ⟨by (with_reducible repeat (first | apply Kd.Q_alloc | apply Kd.Q_drewN | apply Kd.Q_drew)); exact Kd.Q_mono (Kd.Q_far (p := ⟨gb174, 5, none⟩) (Kd.Q_far (p := ⟨gb174, 4, none⟩) (Kd.Q_far (p := ⟨gb174, 3, none⟩) (Kd.Q_far (p := ⟨gb174, 2, none⟩) (Kd.Q_far (p := ⟨gb174, 1, none⟩) (Kd.Q_far (p := ⟨gb174, 0, none⟩) (Kd.Q_types HO180.out BK174.out (by decide)) (fun _ hk => hk.2) (.int .i64 t175)) (fun _ hk => hk.2) (.int .i64 t176)) (fun _ hk => hk.2) (.int .i64 t177)) (fun _ hk => hk.2) (.slice Ao13 t178.length co13)) (fun _ hk => hk.2) (.int .i64 t181)) (fun _ hk => hk.2) (.int .i64 t182)) (fun _ hk => trivial)⟩, ⟨by (with_reducible repeat (first | refine blk_drewN ?_ _ | refine blk_drew ?_ | refine blk_alloc ?_ _)); refine blk_put (cs := #[.int .i64 t175, .int .i64 t176, .int .i64 t177, .slice Ao13 t178.length co13, .int .i64 t181, .int .i64 t171]) ?_ 5 _ rfl; (with_reducible repeat (first | refine blk_drewN ?_ _ | refine blk_drew ?_ | refine blk_alloc ?_ _)); refine blk_put (cs := #[.int .i64 t175, .int .i64 t176, .int .i64 t177, .slice Ao13 t178.length co13, .int .i64 t170, .int .i64 t171]) ?_ 4 _ rfl; (with_reducible repeat (first | refine blk_drewN ?_ _ | refine blk_drew ?_ | refine blk_alloc ?_ _)); refine blk_put (cs := #[.int .i64 t175, .int .i64 t176, .int .i64 t177, .slice Ao10 t167.length co10, .int .i64 t170, .int .i64 t171]) ?_ 3 _ rfl; (with_reducible repeat (first | refine blk_drewN ?_ _ | refine blk_drew ?_ | refine blk_alloc ?_ _)); refine blk_put (cs := #[.int .i64 t175, .int .i64 t176, .int .i64 t166, .slice Ao10 t167.length co10, .int .i64 t170, .int .i64 t171]) ?_ 2 _ rfl; (with_reducible repeat (first | refine blk_drewN ?_ _ | refine blk_drew ?_ | refine blk_alloc ?_ _)); refine blk_put (cs := #[.int .i64 t175, .int .i64 t165, .int .i64 t166, .slice Ao10 t167.length co10, .int .i64 t170, .int .i64 t171]) ?_ 1 _ rfl; (with_reducible repeat (first | refine blk_drewN ?_ _ | refine blk_drew ?_ | refine blk_alloc ?_ _)); refine blk_put (cs := #[.int .i64 t164, .int .i64 t165, .int .i64 t166, .slice Ao10 t167.length co10, .int .i64 t170, .int .i64 t171]) ?_ 0 _ rfl; (with_reducible repeat (first | refine blk_drewN ?_ _ | refine blk_drew ?_ | refine blk_alloc ?_ _)); exact BK174.out⟩, ⟨by repeat (first | (with_reducible first | exact HB.out | apply below_alloc | apply pw_below_drewN | apply below_drew1 | refine below_set ?_ GE174.out) | exact HB.out)⟩⟩
  case rest =>
    clear HC4
    try clear c1
    try clear c2
    try clear p2
    try clear c14
    try clear c14b0
    try clear c14b1
    try clear c15
    try clear c15b0
    try clear c15b1
    try clear c16
    try clear c16b0
    try clear c16b1
    try clear c17
    try clear c19
    try clear c21
    try clear c23
    try clear hcz12_0
    try clear hcz12_1
    try clear hcz12_2
    try clear hcz12_3
    try clear hcz12_4
    try clear hcz12_5
    try clear hcz21_0
    try clear hcz21_1
    try clear hcz21_2
    try clear hcz21_3
    try clear hcz21_4
    try clear hcz21_5
    try clear hcz23_0
    try clear hcz23_1
    try clear hcz23_2
    try clear hcz23_3
    try clear hcz23_4
    try clear hcz23_5
    try clear hcz25_0
    try clear hcz25_1
    try clear hcz25_2
    try clear hcz25_3
    try clear hcz25_4
    try clear hcz25_5
    try clear hcz9_0
    try clear hcz9_1
    try clear hcz9_2
    try clear hcz9_3
    try clear hcz9_4
    try clear hcz9_5
    try clear hfz12_0
    try clear hfz12_1
    try clear hfz12_2
    try clear hfz12_3
    try clear hfz12_4
    try clear hfz12_5
    try clear hfz21_0
    try clear hfz21_1
    try clear hfz21_2
    try clear hfz21_3
    try clear hfz21_4
    try clear hfz21_5
    try clear hfz23_0
    try clear hfz23_1
    try clear hfz23_2
    try clear hfz23_3
    try clear hfz23_4
    try clear hfz23_5
    try clear hfz25_0
    try clear hfz25_1
    try clear hfz25_2
    try clear hfz25_3
    try clear hfz25_4
    try clear hfz25_5
    try clear hfz9_0
    try clear hfz9_1
    try clear hfz9_2
    try clear hfz9_3
    try clear hfz9_4
    try clear hfz9_5
    obtain ⟨kq, x45_3, rfl, HA, HJ3, HO_175003, BK174, HB⟩ := hcut
    cases kq with
    | zero => exact absurd HA.out (by simp [folkmootlaw20_good.j0])
    | succ kj3 =>
      have H := HA.out
      clear HA
      simp only [folkmootlaw20_good.j0] at H
      by_cases c27 : x45_3 = true
      · subst c27
        have H1 : (some false) = some r := by rw [if_pos rfl] at H; exact H
        clear H
        have H := H1
        clear H1
        obtain rfl := Option.some.inj H
        go_wp2
        go_ret
        exact ⟨by first | rfl | (simp [errW_none, errW_some] <;> rfl) | (simp [*, errW_none, errW_some] <;> rfl), by repeat (first | (with_reducible first | exact HB.out | apply below_alloc | apply pw_below_drewN | apply below_drew1 | refine below_set ?_ GE174.out) | exact HB.out)⟩
      · replace c27 := Bool.eq_false_iff.mpr c27
        subst c27
        have H1 : (folkmootlaw20_good.l0 kj3 t173 0 t175 t176 t177 t178 t181 t182) = some r := by rw [if_neg (show ¬ (false = true) by decide)] at H; exact H
        clear H
        have H := H1
        clear H1
        have H' := Aside0.mk H
        clear H
        go_wp2
        go_loopg [3, 6] kj3 (fun kq v3 v6 w' => ∃ (x3_2 : Int) (x6_2 : Int) (x175000_2 : Int) (x175001_2 : Int) (x175002_2 : Int) (x175003_2 : List (S59)) (x175004_2 : Int) (x175005_2 : Int) (u175003 : Value), v3 = .int .i64 x3_2 ∧ v6 = .int .i64 x6_2 ∧ Aside0 (folkmootlaw20_good.l0 kq x3_2 x6_2 x175000_2 x175001_2 x175002_2 x175003_2 x175004_2 x175005_2 = some r) ∧ Aside0 (kq ≤ kj3) ∧ Aside0 (Kd.Q k59 59 w' w.heap.size (fun _ => True) u175003 x175003_2) ∧ Aside0 (w'.heap[gb174]? = some (.cells #[.int .i64 x175000_2, .int .i64 x175001_2, .int .i64 x175002_2, u175003, .int .i64 x175004_2, .int .i64 x175005_2] 29 (0, 0))) ∧ Aside0 (Below w.heap.size w w'))
        case atStart => exact ⟨(t173), (0), (t175), (t176), (t177), (t178), (t181), (t182), (.slice Ao13 t178.length co13), (by first | rfl | (simp; done) | (simp [*]; done)), (by first | rfl | (simp; done) | (simp [*]; done)), H', ⟨Nat.le_refl _⟩, ⟨by (with_reducible repeat (first | apply Kd.Q_alloc | apply Kd.Q_drewN | apply Kd.Q_drew)); exact HO_175003.out⟩, ⟨by (with_reducible repeat (first | refine blk_drewN ?_ _ | refine blk_drew ?_ | refine blk_alloc ?_ _)); exact BK174.out⟩, ⟨by repeat (first | (with_reducible first | exact HB.out | apply below_alloc | apply pw_below_drewN | apply below_drew1 | refine below_set ?_ GE174.out) | exact HB.out)⟩⟩
        case round =>
          clear H'
          try clear c1
          try clear c2
          try clear p2
          try clear c14
          try clear c14b0
          try clear c14b1
          try clear c15
          try clear c15b0
          try clear c15b1
          try clear c16
          try clear c16b0
          try clear c16b1
          try clear c17
          try clear c19
          try clear c21
          try clear c23
          try clear c27
          try clear hcz12_0
          try clear hcz12_1
          try clear hcz12_2
          try clear hcz12_3
          try clear hcz12_4
          try clear hcz12_5
          try clear hcz21_0
          try clear hcz21_1
          try clear hcz21_2
          try clear hcz21_3
          try clear hcz21_4
          try clear hcz21_5
          try clear hcz23_0
          try clear hcz23_1
          try clear hcz23_2
          try clear hcz23_3
          try clear hcz23_4
          try clear hcz23_5
          try clear hcz25_0
          try clear hcz25_1
          try clear hcz25_2
          try clear hcz25_3
          try clear hcz25_4
          try clear hcz25_5
          try clear hcz9_0
          try clear hcz9_1
          try clear hcz9_2
          try clear hcz9_3
          try clear hcz9_4
          try clear hcz9_5
          try clear hfz12_0
          try clear hfz12_1
          try clear hfz12_2
          try clear hfz12_3
          try clear hfz12_4
          try clear hfz12_5
          try clear hfz21_0
          try clear hfz21_1
          try clear hfz21_2
          try clear hfz21_3
          try clear hfz21_4
          try clear hfz21_5
          try clear hfz23_0
          try clear hfz23_1
          try clear hfz23_2
          try clear hfz23_3
          try clear hfz23_4
          try clear hfz23_5
          try clear hfz25_0
          try clear hfz25_1
          try clear hfz25_2
          try clear hfz25_3
          try clear hfz25_4
          try clear hfz25_5
          try clear hfz9_0
          try clear hfz9_1
          try clear hfz9_2
          try clear hfz9_3
          try clear hfz9_4
          try clear hfz9_5
          try clear p2
          obtain ⟨x3_2, x6_2, x175000_2, x175001_2, x175002_2, x175003_2, x175004_2, x175005_2, u175003, rfl, rfl, HA, HK2, HO_175003, BK174, HB⟩ := hrel
          cases gk with
          | zero => exact absurd HA.out (by simp [folkmootlaw20_good.l0])
          | succ k2 =>
            have H := HA.out
            clear HA
            simp only [folkmootlaw20_good.l0] at H
            by_cases c28 : x6_2 < 7
            · rw [if_pos c28] at H
              have c28b0 : decide (x6_2 < 7) = true := decide_eq_true c28
              clear c28
              replace H := Option.bind_eq_some_iff.mp H
              obtain ⟨⟨t187, t188, t189, t190, t193, t194, t195⟩, A290, H⟩ := H
              replace H : (folkmootlaw20_good.l0 k2 t195 (wrap64 (x6_2 + 1)) t187 t188 t189 t190 t193 t194) = some r := H
              have A29 := Aside0.mk A290
              clear A290
              have H' := Aside0.mk H
              clear H
              have hcz30_0 : wr.cell? ⟨gb174, 0, none⟩ = some (.int .i64 x175000_2) := (blk_cell BK174.out 0).trans rfl
              have hcz30_1 : wr.cell? ⟨gb174, 1, none⟩ = some (.int .i64 x175001_2) := (blk_cell BK174.out 1).trans rfl
              have hcz30_2 : wr.cell? ⟨gb174, 2, none⟩ = some (.int .i64 x175002_2) := (blk_cell BK174.out 2).trans rfl
              have hcz30_3 : wr.cell? ⟨gb174, 3, none⟩ = some (u175003) := (blk_cell BK174.out 3).trans rfl
              have hcz30_4 : wr.cell? ⟨gb174, 4, none⟩ = some (.int .i64 x175004_2) := (blk_cell BK174.out 4).trans rfl
              have hcz30_5 : wr.cell? ⟨gb174, 5, none⟩ = some (.int .i64 x175005_2) := (blk_cell BK174.out 5).trans rfl
              have hfz30_0 := blk_frozen BK174.out 0
              have hfz30_1 := blk_frozen BK174.out 1
              have hfz30_2 := blk_frozen BK174.out 2
              have hfz30_3 := blk_frozen BK174.out 3
              have hfz30_4 := blk_frozen BK174.out 4
              have hfz30_5 := blk_frozen BK174.out 5
              obtain ⟨Ao31, co31, eo31, _⟩ := Kd.Q_slice HO_175003.out
              subst eo31
              go_wp2_with (first | ((with_reducible refine gate_callee (f := 14) rfl ?_); refine goesL_ (some 52) rfl rfl Try.func14 (by kernel_rfl) rfl #[.agg #[.int .i64 x175000_2, .int .i64 x175001_2, .int .i64 x175002_2, .slice Ao31 x175003_2.length co31, .int .i64 x175004_2, .int .i64 x175005_2]] rfl (by (try simp only [List.map_toArray, List.map_cons, List.map_nil]); first | done | rfl | (simp only [List.length_drop, List.length_take]; rfl)) ?_; (with_reducible refine (lease_Tick.calls k2 x175000_2 x175001_2 x175002_2 _ _ x175003_2 x175004_2 x175005_2 t187 t188 t189 t190 t193 t194 t195 _ ?side1 ?side2 A29.out).mono ?_); (case side1 => repeat (first | exact (Kd.Q_reads' HO_175003.out).2.2 | (with_reducible refine Kd.C_alloc ?_ _) | (with_reducible refine Kd.C_drewN ?_ _) | (with_reducible refine Kd.C_drew ?_))); (case side2 => exact (Kd.Q_reads' HO_175003.out).2.1); rintro e w32 ⟨v191, rfl, ho0, hb⟩; refine ⟨_, rfl, ?_⟩; have n0_ := Aside0.mk (Kd.Q_elder' (by (with_reducible repeat (first | apply Kd.Q_alloc | apply Kd.Q_drewN | apply Kd.Q_drew)); exact HO_175003.out) (Kd.R_base ho0) hb); have n1_ := Aside0.mk (Kd.R_lower (Kd.R_new' ho0 (Kd.Q_lt (by (with_reducible repeat (first | apply Kd.Q_alloc | apply Kd.Q_drewN | apply Kd.Q_drew)); exact HO_175003.out))) (below_size (by repeat (first | (with_reducible first | exact HB.out | apply below_alloc | apply pw_below_drewN | apply below_drew1 | refine below_set ?_ GE174.out) | exact HB.out)))); have n2_ := Aside0.mk (blk_below (g := gb174) (o := .cells #[.int .i64 x175000_2, .int .i64 x175001_2, .int .i64 x175002_2, .slice Ao31 x175003_2.length co31, .int .i64 x175004_2, .int .i64 x175005_2] 29 (0, 0)) (by (with_reducible repeat (first | refine blk_drewN ?_ _ | refine blk_drew ?_ | refine blk_alloc ?_ _)); exact BK174.out) hb); have n3_ := Aside0.mk (below_step (by repeat (first | (with_reducible first | exact HB.out | apply below_alloc | apply pw_below_drewN | apply below_drew1 | refine below_set ?_ GE174.out) | exact HB.out)) hb); clear HO_175003; clear BK174; clear HB; have HO_175003 := n0_; have HO192 := n1_; have BK174 := n2_; have HB := n3_; clear n0_ n1_ n2_ n3_; (try clear hb); (try clear hb2); (try clear hk); (try clear hi); (try clear ho0); have hcz33_0 : w32.cell? ⟨gb174, 0, none⟩ = some (.int .i64 x175000_2) := (blk_cell BK174.out 0).trans rfl; have hcz33_1 : w32.cell? ⟨gb174, 1, none⟩ = some (.int .i64 x175001_2) := (blk_cell BK174.out 1).trans rfl; have hcz33_2 : w32.cell? ⟨gb174, 2, none⟩ = some (.int .i64 x175002_2) := (blk_cell BK174.out 2).trans rfl; have hcz33_3 : w32.cell? ⟨gb174, 3, none⟩ = some (.slice Ao31 x175003_2.length co31) := (blk_cell BK174.out 3).trans rfl; have hcz33_4 : w32.cell? ⟨gb174, 4, none⟩ = some (.int .i64 x175004_2) := (blk_cell BK174.out 4).trans rfl; have hcz33_5 : w32.cell? ⟨gb174, 5, none⟩ = some (.int .i64 x175005_2) := (blk_cell BK174.out 5).trans rfl; have hfz33_0 := blk_frozen BK174.out 0; have hfz33_1 := blk_frozen BK174.out 1; have hfz33_2 := blk_frozen BK174.out 2; have hfz33_3 := blk_frozen BK174.out 3; have hfz33_4 := blk_frozen BK174.out 4; have hfz33_5 := blk_frozen BK174.out 5; obtain ⟨Ao34, co34, eo34⟩ := Kd.R_slice HO192.out; subst eo34))
              go_roundg k2
              case measure => have := HJ3.out; have := HK2.out; omega
              case rel => exact ⟨(t195), (wrap64 (x6_2 + 1)), (t187), (t188), (t189), (t190), (t193), (t194), (.slice Ao34 t190.length co34), (by first | rfl | (simp; done) | (simp [*]; done)), (by first | rfl | (simp; done) | (simp [*]; done)), H', ⟨by have := HJ3.out; have := HK2.out; omega⟩, ⟨Kd.Q_of_R (by (with_reducible repeat (first | apply Kd.R_alloc | apply Kd.R_drewN | apply Kd.R_drew)); exact Kd.R_mono (Kd.R_far (p := ⟨gb174, 5, none⟩) (Kd.R_far (p := ⟨gb174, 4, none⟩) (Kd.R_far (p := ⟨gb174, 3, none⟩) (Kd.R_far (p := ⟨gb174, 2, none⟩) (Kd.R_far (p := ⟨gb174, 1, none⟩) (Kd.R_far (p := ⟨gb174, 0, none⟩) (Kd.R_types HO192.out BK174.out (by decide)) (fun _ hk => hk.2) (.int .i64 t187)) (fun _ hk => hk.2) (.int .i64 t188)) (fun _ hk => hk.2) (.int .i64 t189)) (fun _ hk => hk.2) (.slice Ao34 t190.length co34)) (fun _ hk => hk.2) (.int .i64 t193)) (fun _ hk => hk.2) (.int .i64 t194)) (fun _ hk => trivial))⟩, ⟨by (with_reducible repeat (first | refine blk_drewN ?_ _ | refine blk_drew ?_ | refine blk_alloc ?_ _)); refine blk_put (cs := #[.int .i64 t187, .int .i64 t188, .int .i64 t189, .slice Ao34 t190.length co34, .int .i64 t193, .int .i64 x175005_2]) ?_ 5 _ rfl; (with_reducible repeat (first | refine blk_drewN ?_ _ | refine blk_drew ?_ | refine blk_alloc ?_ _)); refine blk_put (cs := #[.int .i64 t187, .int .i64 t188, .int .i64 t189, .slice Ao34 t190.length co34, .int .i64 x175004_2, .int .i64 x175005_2]) ?_ 4 _ rfl; (with_reducible repeat (first | refine blk_drewN ?_ _ | refine blk_drew ?_ | refine blk_alloc ?_ _)); refine blk_put (cs := #[.int .i64 t187, .int .i64 t188, .int .i64 t189, .slice Ao31 x175003_2.length co31, .int .i64 x175004_2, .int .i64 x175005_2]) ?_ 3 _ rfl; (with_reducible repeat (first | refine blk_drewN ?_ _ | refine blk_drew ?_ | refine blk_alloc ?_ _)); refine blk_put (cs := #[.int .i64 t187, .int .i64 t188, .int .i64 x175002_2, .slice Ao31 x175003_2.length co31, .int .i64 x175004_2, .int .i64 x175005_2]) ?_ 2 _ rfl; (with_reducible repeat (first | refine blk_drewN ?_ _ | refine blk_drew ?_ | refine blk_alloc ?_ _)); refine blk_put (cs := #[.int .i64 t187, .int .i64 x175001_2, .int .i64 x175002_2, .slice Ao31 x175003_2.length co31, .int .i64 x175004_2, .int .i64 x175005_2]) ?_ 1 _ rfl; (with_reducible repeat (first | refine blk_drewN ?_ _ | refine blk_drew ?_ | refine blk_alloc ?_ _)); refine blk_put (cs := #[.int .i64 x175000_2, .int .i64 x175001_2, .int .i64 x175002_2, .slice Ao31 x175003_2.length co31, .int .i64 x175004_2, .int .i64 x175005_2]) ?_ 0 _ rfl; (with_reducible repeat (first | refine blk_drewN ?_ _ | refine blk_drew ?_ | refine blk_alloc ?_ _)); exact BK174.out⟩, ⟨by repeat (first | (with_reducible first | exact HB.out | apply below_alloc | apply pw_below_drewN | apply below_drew1 | refine below_set ?_ GE174.out) | exact HB.out)⟩⟩
            · rw [if_neg c28] at H
              have c28b0 : decide (x6_2 < 7) = false := decide_eq_false c28
              clear c28
              replace H := Option.bind_eq_some_iff.mp H
              obtain ⟨⟨t196, t197, t198, t199, t202, t203, t204⟩, A350, H⟩ := H
              replace H : (if x3_2 = 0 then (if t204 = 0 then ((lease_Good.f k2 x175000_2 x175001_2 x175002_2 x175003_2 x175004_2 x175005_2).bind fun t206 => (if t206 = true then ((lease_Good.f k2 t196 t197 t198 t199 t202 t203).bind fun t207 => (some (!t207))) else (none))) else (none)) else (none)) = some r := H
              have A35 := Aside0.mk A350
              clear A350
              by_cases c36 : x3_2 = 0
              · rw [if_pos c36] at H
                have c36b0 : (x3_2 == 0) = true := beq_iff_eq.mpr c36
                have c36b1 : (x3_2 != 0) = false := bne_eq_false_iff_eq.mpr c36
                clear c36
                by_cases c37 : t204 = 0
                · rw [if_pos c37] at H
                  have c37b0 : (t204 == 0) = true := beq_iff_eq.mpr c37
                  have c37b1 : (t204 != 0) = false := bne_eq_false_iff_eq.mpr c37
                  clear c37
                  replace H := Option.bind_eq_some_iff.mp H
                  obtain ⟨t206, A380, H⟩ := H
                  replace H : (if t206 = true then ((lease_Good.f k2 t196 t197 t198 t199 t202 t203).bind fun t207 => (some (!t207))) else (none)) = some r := H
                  have A38 := Aside0.mk A380
                  clear A380
                  by_cases c39 : t206 = true
                  · subst c39
                    have H1 : ((lease_Good.f k2 t196 t197 t198 t199 t202 t203).bind fun t207 => (some (!t207))) = some r := by rw [if_pos rfl] at H; exact H
                    clear H
                    have H := H1
                    clear H1
                    replace H := Option.bind_eq_some_iff.mp H
                    obtain ⟨t207, A400, H⟩ := H
                    replace H : (some (!t207)) = some r := H
                    have A40 := Aside0.mk A400
                    clear A400
                    obtain rfl := Option.some.inj H
                    have hcz41_0 : wr.cell? ⟨gb174, 0, none⟩ = some (.int .i64 x175000_2) := (blk_cell BK174.out 0).trans rfl
                    have hcz41_1 : wr.cell? ⟨gb174, 1, none⟩ = some (.int .i64 x175001_2) := (blk_cell BK174.out 1).trans rfl
                    have hcz41_2 : wr.cell? ⟨gb174, 2, none⟩ = some (.int .i64 x175002_2) := (blk_cell BK174.out 2).trans rfl
                    have hcz41_3 : wr.cell? ⟨gb174, 3, none⟩ = some (u175003) := (blk_cell BK174.out 3).trans rfl
                    have hcz41_4 : wr.cell? ⟨gb174, 4, none⟩ = some (.int .i64 x175004_2) := (blk_cell BK174.out 4).trans rfl
                    have hcz41_5 : wr.cell? ⟨gb174, 5, none⟩ = some (.int .i64 x175005_2) := (blk_cell BK174.out 5).trans rfl
                    have hfz41_0 := blk_frozen BK174.out 0
                    have hfz41_1 := blk_frozen BK174.out 1
                    have hfz41_2 := blk_frozen BK174.out 2
                    have hfz41_3 := blk_frozen BK174.out 3
                    have hfz41_4 := blk_frozen BK174.out 4
                    have hfz41_5 := blk_frozen BK174.out 5
                    obtain ⟨Ao42, co42, eo42, _⟩ := Kd.Q_slice HO_175003.out
                    subst eo42
                    go_wp2_with (first | ((with_reducible refine gate_callee (f := 14) rfl ?_); refine goesL_ (some 57) rfl rfl Try.func14 (by kernel_rfl) rfl #[.agg #[.int .i64 x175000_2, .int .i64 x175001_2, .int .i64 x175002_2, .slice Ao42 x175003_2.length co42, .int .i64 x175004_2, .int .i64 x175005_2]] rfl (by (try simp only [List.map_toArray, List.map_cons, List.map_nil]); first | done | rfl | (simp only [List.length_drop, List.length_take]; rfl)) ?_; (with_reducible refine (lease_Tick.calls k2 x175000_2 x175001_2 x175002_2 _ _ x175003_2 x175004_2 x175005_2 t196 t197 t198 t199 t202 t203 t204 _ ?side1 ?side2 A35.out).mono ?_); (case side1 => repeat (first | exact (Kd.Q_reads' HO_175003.out).2.2 | (with_reducible refine Kd.C_alloc ?_ _) | (with_reducible refine Kd.C_drewN ?_ _) | (with_reducible refine Kd.C_drew ?_))); (case side2 => exact (Kd.Q_reads' HO_175003.out).2.1); rintro e w43 ⟨v200, rfl, ho0, hb⟩; refine ⟨_, rfl, ?_⟩; have n0_ := Aside0.mk (Kd.Q_elder' (by (with_reducible repeat (first | apply Kd.Q_alloc | apply Kd.Q_drewN | apply Kd.Q_drew)); exact HO_175003.out) (Kd.R_base ho0) hb); have n1_ := Aside0.mk (Kd.R_lower (Kd.R_new' ho0 (Kd.Q_lt (by (with_reducible repeat (first | apply Kd.Q_alloc | apply Kd.Q_drewN | apply Kd.Q_drew)); exact HO_175003.out))) (below_size (by repeat (first | (with_reducible first | exact HB.out | apply below_alloc | apply pw_below_drewN | apply below_drew1 | refine below_set ?_ GE174.out) | exact HB.out)))); have n2_ := Aside0.mk (blk_below (g := gb174) (o := .cells #[.int .i64 x175000_2, .int .i64 x175001_2, .int .i64 x175002_2, .slice Ao42 x175003_2.length co42, .int .i64 x175004_2, .int .i64 x175005_2] 29 (0, 0)) (by (with_reducible repeat (first | refine blk_drewN ?_ _ | refine blk_drew ?_ | refine blk_alloc ?_ _)); exact BK174.out) hb); have n3_ := Aside0.mk (below_step (by repeat (first | (with_reducible first | exact HB.out | apply below_alloc | apply pw_below_drewN | apply below_drew1 | refine below_set ?_ GE174.out) | exact HB.out)) hb); clear HO_175003; clear BK174; clear HB; have HO_175003 := n0_; have HO201 := n1_; have BK174 := n2_; have HB := n3_; clear n0_ n1_ n2_ n3_; (try clear hb); (try clear hb2); (try clear hk); (try clear hi); (try clear ho0)) | ((with_reducible refine gate_dst (N := 7) rfl ?_); refine box_event ?hg (N := 7) ?hd (cs := #[.int .i64 0, .int .i64 0, .int .i64 0, .slice none 0 0, .int .i64 0, .int .i64 0]) (t := 29) ?hr ?_; (case hd => rfl); (case hg => rfl); (case hr => first | (go_simp; done) | (go_simp; rfl)); intro gb205 hg w44 hbox hb; have n0_ := Aside0.mk (Kd.Q_below (by (with_reducible repeat (first | apply Kd.Q_alloc | apply Kd.Q_drewN | apply Kd.Q_drew)); exact HO_175003.out) hb); have n1_ := Aside0.mk (Kd.R_below (by (with_reducible repeat (first | apply Kd.R_alloc | apply Kd.R_drewN | apply Kd.R_drew)); exact HO201.out) hb); have n2_ := Aside0.mk (blk_below (g := gb174) (o := .cells #[.int .i64 x175000_2, .int .i64 x175001_2, .int .i64 x175002_2, .slice Ao42 x175003_2.length co42, .int .i64 x175004_2, .int .i64 x175005_2] 29 (0, 0)) (by (with_reducible repeat (first | refine blk_drewN ?_ _ | refine blk_drew ?_ | refine blk_alloc ?_ _)); exact BK174.out) hb); have n3_ := Aside0.mk (below_step (by repeat (first | (with_reducible first | exact HB.out | apply below_alloc | apply pw_below_drewN | apply below_drew1 | refine below_set ?_ GE174.out) | exact HB.out)) hb); have n4_ := Aside0.mk (hbox); have n5_ := Aside0.mk ((by rw [hg]; exact (below_size (by repeat (first | (with_reducible first | exact HB.out | apply below_alloc | apply pw_below_drewN | apply below_drew1 | refine below_set ?_ GE174.out) | exact HB.out))) : w.heap.size ≤ gb205)); have n6_ := Aside0.mk ((by rw [hg]; exact (below_size (by repeat (first | (with_reducible first | exact HB.out | apply below_alloc | apply pw_below_drewN | apply below_drew1 | refine below_set ?_ GE174.out) | exact HB.out))) : w.heap.size ≤ gb205)); have n7_ := Aside0.mk ((by rw [hg]; exact Nat.ne_of_lt (blk_lt (g := gb174) (o := .cells #[.int .i64 x175000_2, .int .i64 x175001_2, .int .i64 x175002_2, .slice Ao42 x175003_2.length co42, .int .i64 x175004_2, .int .i64 x175005_2] 29 (0, 0)) (by (with_reducible repeat (first | refine blk_drewN ?_ _ | refine blk_drew ?_ | refine blk_alloc ?_ _)); exact BK174.out)) : gb174 ≠ gb205)); have n8_ := Aside0.mk ((by rw [hg]; exact Nat.ne_of_gt (blk_lt (g := gb174) (o := .cells #[.int .i64 x175000_2, .int .i64 x175001_2, .int .i64 x175002_2, .slice Ao42 x175003_2.length co42, .int .i64 x175004_2, .int .i64 x175005_2] 29 (0, 0)) (by (with_reducible repeat (first | refine blk_drewN ?_ _ | refine blk_drew ?_ | refine blk_alloc ?_ _)); exact BK174.out)) : gb205 ≠ gb174)); clear HO_175003; clear HO201; clear BK174; clear HB; have HO_175003 := n0_; have HO201 := n1_; have BK174 := n2_; have HB := n3_; have BK205 := n4_; have GW205 := n5_; have GE205 := n6_; have NB174_205 := n7_; have NB205_174 := n8_; clear n0_ n1_ n2_ n3_ n4_ n5_ n6_ n7_ n8_; clear hb hbox hg; have hnb45 := NB205_174.out; have hnc45 := NB174_205.out; have hcz46_0 : w44.cell? ⟨gb205, 0, none⟩ = some (.int .i64 0) := (blk_cell BK205.out 0).trans rfl; have hcz46_1 : w44.cell? ⟨gb205, 1, none⟩ = some (.int .i64 0) := (blk_cell BK205.out 1).trans rfl; have hcz46_2 : w44.cell? ⟨gb205, 2, none⟩ = some (.int .i64 0) := (blk_cell BK205.out 2).trans rfl; have hcz46_3 : w44.cell? ⟨gb205, 3, none⟩ = some (.slice none 0 0) := (blk_cell BK205.out 3).trans rfl; have hcz46_4 : w44.cell? ⟨gb205, 4, none⟩ = some (.int .i64 0) := (blk_cell BK205.out 4).trans rfl; have hcz46_5 : w44.cell? ⟨gb205, 5, none⟩ = some (.int .i64 0) := (blk_cell BK205.out 5).trans rfl; have hfz46_0 := blk_frozen BK205.out 0; have hfz46_1 := blk_frozen BK205.out 1; have hfz46_2 := blk_frozen BK205.out 2; have hfz46_3 := blk_frozen BK205.out 3; have hfz46_4 := blk_frozen BK205.out 4; have hfz46_5 := blk_frozen BK205.out 5; obtain ⟨Ao47, co47, eo47⟩ := Kd.R_slice HO201.out; subst eo47; have hcz48_0 : w44.cell? ⟨gb174, 0, none⟩ = some (.int .i64 x175000_2) := (blk_cell BK174.out 0).trans rfl; have hcz48_1 : w44.cell? ⟨gb174, 1, none⟩ = some (.int .i64 x175001_2) := (blk_cell BK174.out 1).trans rfl; have hcz48_2 : w44.cell? ⟨gb174, 2, none⟩ = some (.int .i64 x175002_2) := (blk_cell BK174.out 2).trans rfl; have hcz48_3 : w44.cell? ⟨gb174, 3, none⟩ = some (.slice Ao42 x175003_2.length co42) := (blk_cell BK174.out 3).trans rfl; have hcz48_4 : w44.cell? ⟨gb174, 4, none⟩ = some (.int .i64 x175004_2) := (blk_cell BK174.out 4).trans rfl; have hcz48_5 : w44.cell? ⟨gb174, 5, none⟩ = some (.int .i64 x175005_2) := (blk_cell BK174.out 5).trans rfl; have hfz48_0 := blk_frozen BK174.out 0; have hfz48_1 := blk_frozen BK174.out 1; have hfz48_2 := blk_frozen BK174.out 2; have hfz48_3 := blk_frozen BK174.out 3; have hfz48_4 := blk_frozen BK174.out 4; have hfz48_5 := blk_frozen BK174.out 5) | (go_at_call 18; (with_reducible refine (lease_Good.calls k2 x175000_2 x175001_2 x175002_2 _ _ x175003_2 x175004_2 x175005_2 true _ ?side1 ?side2 A38.out).mono ?_); (case side1 => refine (Kd.Q_reads' (e := 59) (base := w.heap.size) (ok := fun k_ => (True ∧ some k_ ≠ (.slice Ao47 t199.length co47 : Value).ownBlock)) (n := x175003_2.length) (c := co42) ?_).2.2; exact (by (with_reducible repeat (first | apply Kd.Q_alloc | apply Kd.Q_drewN | apply Kd.Q_drew)); exact (Kd.Q_mono (Kd.Q_far (p := ⟨gb205, 5, none⟩) (Kd.Q_far (p := ⟨gb205, 4, none⟩) (Kd.Q_far (p := ⟨gb205, 3, none⟩) (Kd.Q_far (p := ⟨gb205, 2, none⟩) (Kd.Q_far (p := ⟨gb205, 1, none⟩) (Kd.Q_far (p := ⟨gb205, 0, none⟩) (Kd.Q_types HO_175003.out BK205.out (by decide)) (fun _ hk => hk.2) (.int .i64 t196)) (fun _ hk => hk.2) (.int .i64 t197)) (fun _ hk => hk.2) (.int .i64 t198)) (fun _ hk => hk.2) (.slice Ao47 t199.length co47)) (fun _ hk => hk.2) (.int .i64 t202)) (fun _ hk => hk.2) (.int .i64 t203)) (fun _ h_ => h_.1)))); (case side2 => exact (Kd.Q_reads' HO_175003.out).2.1); rintro e w49 ⟨rfl, hb⟩; have n0_ := Aside0.mk (Kd.Q_below (by (with_reducible repeat (first | apply Kd.Q_alloc | apply Kd.Q_drewN | apply Kd.Q_drew)); exact (Kd.Q_mono (Kd.Q_far (p := ⟨gb205, 5, none⟩) (Kd.Q_far (p := ⟨gb205, 4, none⟩) (Kd.Q_far (p := ⟨gb205, 3, none⟩) (Kd.Q_far (p := ⟨gb205, 2, none⟩) (Kd.Q_far (p := ⟨gb205, 1, none⟩) (Kd.Q_far (p := ⟨gb205, 0, none⟩) (Kd.Q_types HO_175003.out BK205.out (by decide)) (fun _ hk => hk.2) (.int .i64 t196)) (fun _ hk => hk.2) (.int .i64 t197)) (fun _ hk => hk.2) (.int .i64 t198)) (fun _ hk => hk.2) (.slice Ao47 t199.length co47)) (fun _ hk => hk.2) (.int .i64 t202)) (fun _ hk => hk.2) (.int .i64 t203)) (fun _ h_ => h_.1))) hb); have n1_ := Aside0.mk (Kd.R_below (by (with_reducible repeat (first | apply Kd.R_alloc | apply Kd.R_drewN | apply Kd.R_drew)); exact (Kd.R_mono (Kd.R_far (p := ⟨gb205, 5, none⟩) (Kd.R_far (p := ⟨gb205, 4, none⟩) (Kd.R_far (p := ⟨gb205, 3, none⟩) (Kd.R_far (p := ⟨gb205, 2, none⟩) (Kd.R_far (p := ⟨gb205, 1, none⟩) (Kd.R_far (p := ⟨gb205, 0, none⟩) (Kd.R_types HO201.out BK205.out (by decide)) (fun _ hk => hk.2) (.int .i64 t196)) (fun _ hk => hk.2) (.int .i64 t197)) (fun _ hk => hk.2) (.int .i64 t198)) (fun _ hk => hk.2) (.slice Ao47 t199.length co47)) (fun _ hk => hk.2) (.int .i64 t202)) (fun _ hk => hk.2) (.int .i64 t203)) (fun _ h_ => h_.1))) hb); have n2_ := Aside0.mk (blk_below (g := gb174) (o := .cells #[.int .i64 x175000_2, .int .i64 x175001_2, .int .i64 x175002_2, .slice Ao42 x175003_2.length co42, .int .i64 x175004_2, .int .i64 x175005_2] 29 (0, 0)) (by (with_reducible repeat (first | refine blk_drewN ?_ _ | refine blk_drew ?_ | refine blk_alloc ?_ _)); refine blk_far ?_ NB174_205.out _; (with_reducible repeat (first | refine blk_drewN ?_ _ | refine blk_drew ?_ | refine blk_alloc ?_ _)); refine blk_far ?_ NB174_205.out _; (with_reducible repeat (first | refine blk_drewN ?_ _ | refine blk_drew ?_ | refine blk_alloc ?_ _)); refine blk_far ?_ NB174_205.out _; (with_reducible repeat (first | refine blk_drewN ?_ _ | refine blk_drew ?_ | refine blk_alloc ?_ _)); refine blk_far ?_ NB174_205.out _; (with_reducible repeat (first | refine blk_drewN ?_ _ | refine blk_drew ?_ | refine blk_alloc ?_ _)); refine blk_far ?_ NB174_205.out _; (with_reducible repeat (first | refine blk_drewN ?_ _ | refine blk_drew ?_ | refine blk_alloc ?_ _)); refine blk_far ?_ NB174_205.out _; (with_reducible repeat (first | refine blk_drewN ?_ _ | refine blk_drew ?_ | refine blk_alloc ?_ _)); exact BK174.out) hb); have n3_ := Aside0.mk (blk_below (g := gb205) (o := .cells #[.int .i64 t196, .int .i64 t197, .int .i64 t198, .slice Ao47 t199.length co47, .int .i64 t202, .int .i64 t203] 29 (0, 0)) (by (with_reducible repeat (first | refine blk_drewN ?_ _ | refine blk_drew ?_ | refine blk_alloc ?_ _)); refine blk_put (cs := #[.int .i64 t196, .int .i64 t197, .int .i64 t198, .slice Ao47 t199.length co47, .int .i64 t202, .int .i64 0]) ?_ 5 _ rfl; (with_reducible repeat (first | refine blk_drewN ?_ _ | refine blk_drew ?_ | refine blk_alloc ?_ _)); refine blk_put (cs := #[.int .i64 t196, .int .i64 t197, .int .i64 t198, .slice Ao47 t199.length co47, .int .i64 0, .int .i64 0]) ?_ 4 _ rfl; (with_reducible repeat (first | refine blk_drewN ?_ _ | refine blk_drew ?_ | refine blk_alloc ?_ _)); refine blk_put (cs := #[.int .i64 t196, .int .i64 t197, .int .i64 t198, .slice none 0 0, .int .i64 0, .int .i64 0]) ?_ 3 _ rfl; (with_reducible repeat (first | refine blk_drewN ?_ _ | refine blk_drew ?_ | refine blk_alloc ?_ _)); refine blk_put (cs := #[.int .i64 t196, .int .i64 t197, .int .i64 0, .slice none 0 0, .int .i64 0, .int .i64 0]) ?_ 2 _ rfl; (with_reducible repeat (first | refine blk_drewN ?_ _ | refine blk_drew ?_ | refine blk_alloc ?_ _)); refine blk_put (cs := #[.int .i64 t196, .int .i64 0, .int .i64 0, .slice none 0 0, .int .i64 0, .int .i64 0]) ?_ 1 _ rfl; (with_reducible repeat (first | refine blk_drewN ?_ _ | refine blk_drew ?_ | refine blk_alloc ?_ _)); refine blk_put (cs := #[.int .i64 0, .int .i64 0, .int .i64 0, .slice none 0 0, .int .i64 0, .int .i64 0]) ?_ 0 _ rfl; (with_reducible repeat (first | refine blk_drewN ?_ _ | refine blk_drew ?_ | refine blk_alloc ?_ _)); exact BK205.out) hb); have n4_ := Aside0.mk (below_step (by repeat (first | (with_reducible first | exact HB.out | apply below_alloc | apply pw_below_drewN | apply below_drew1 | refine below_set ?_ GE174.out | refine below_set ?_ GE205.out) | exact HB.out)) hb); clear HO_175003; clear HO201; clear BK174; clear BK205; clear HB; have HO_175003 := n0_; have HO201 := n1_; have BK174 := n2_; have BK205 := n3_; have HB := n4_; clear n0_ n1_ n2_ n3_ n4_; (try clear hb); (try clear hb2); (try clear hk); (try clear hi); have hcz50_0 : w49.cell? ⟨gb205, 0, none⟩ = some (.int .i64 t196) := (blk_cell BK205.out 0).trans rfl; have hcz50_1 : w49.cell? ⟨gb205, 1, none⟩ = some (.int .i64 t197) := (blk_cell BK205.out 1).trans rfl; have hcz50_2 : w49.cell? ⟨gb205, 2, none⟩ = some (.int .i64 t198) := (blk_cell BK205.out 2).trans rfl; have hcz50_3 : w49.cell? ⟨gb205, 3, none⟩ = some (.slice Ao47 t199.length co47) := (blk_cell BK205.out 3).trans rfl; have hcz50_4 : w49.cell? ⟨gb205, 4, none⟩ = some (.int .i64 t202) := (blk_cell BK205.out 4).trans rfl; have hcz50_5 : w49.cell? ⟨gb205, 5, none⟩ = some (.int .i64 t203) := (blk_cell BK205.out 5).trans rfl; have hfz50_0 := blk_frozen BK205.out 0; have hfz50_1 := blk_frozen BK205.out 1; have hfz50_2 := blk_frozen BK205.out 2; have hfz50_3 := blk_frozen BK205.out 3; have hfz50_4 := blk_frozen BK205.out 4; have hfz50_5 := blk_frozen BK205.out 5) | (go_at_call 18; (with_reducible refine (lease_Good.calls k2 t196 t197 t198 _ _ t199 t202 t203 t207 _ ?side1 ?side2 A40.out).mono ?_); (case side1 => repeat (first | exact (Kd.R_reads' HO201.out).2.2 | (with_reducible refine Kd.C_alloc ?_ _) | (with_reducible refine Kd.C_drewN ?_ _) | (with_reducible refine Kd.C_drew ?_))); (case side2 => exact (Kd.R_reads' HO201.out).2.1); rintro e w51 ⟨rfl, hb⟩; have n0_ := Aside0.mk (Kd.Q_below (by (with_reducible repeat (first | apply Kd.Q_alloc | apply Kd.Q_drewN | apply Kd.Q_drew)); exact HO_175003.out) hb); have n1_ := Aside0.mk (Kd.R_below (by (with_reducible repeat (first | apply Kd.R_alloc | apply Kd.R_drewN | apply Kd.R_drew)); exact HO201.out) hb); have n2_ := Aside0.mk (blk_below (g := gb174) (o := .cells #[.int .i64 x175000_2, .int .i64 x175001_2, .int .i64 x175002_2, .slice Ao42 x175003_2.length co42, .int .i64 x175004_2, .int .i64 x175005_2] 29 (0, 0)) (by (with_reducible repeat (first | refine blk_drewN ?_ _ | refine blk_drew ?_ | refine blk_alloc ?_ _)); exact BK174.out) hb); have n3_ := Aside0.mk (blk_below (g := gb205) (o := .cells #[.int .i64 t196, .int .i64 t197, .int .i64 t198, .slice Ao47 t199.length co47, .int .i64 t202, .int .i64 t203] 29 (0, 0)) (by (with_reducible repeat (first | refine blk_drewN ?_ _ | refine blk_drew ?_ | refine blk_alloc ?_ _)); exact BK205.out) hb); have n4_ := Aside0.mk (below_step (by repeat (first | (with_reducible first | exact HB.out | apply below_alloc | apply pw_below_drewN | apply below_drew1 | refine below_set ?_ GE174.out | refine below_set ?_ GE205.out) | exact HB.out)) hb); clear HO_175003; clear HO201; clear BK174; clear BK205; clear HB; have HO_175003 := n0_; have HO201 := n1_; have BK174 := n2_; have BK205 := n3_; have HB := n4_; clear n0_ n1_ n2_ n3_ n4_; (try clear hb); (try clear hb2); (try clear hk); (try clear hi)))
                    go_ret
                    exact ⟨by first | rfl | (simp [errW_none, errW_some] <;> rfl) | (simp [*, errW_none, errW_some] <;> rfl), by repeat (first | (with_reducible first | exact HB.out | apply below_alloc | apply pw_below_drewN | apply below_drew1 | refine below_set ?_ GE174.out | refine below_set ?_ GE205.out) | exact HB.out)⟩
                  · replace c39 := Bool.eq_false_iff.mpr c39
                    subst c39
                    have H1 : (none) = some r := by rw [if_neg (show ¬ (false = true) by decide)] at H; exact H
                    clear H
                    have H := H1
                    clear H1
                    exact absurd H (by simp)
                · rw [if_neg c37] at H
                  exact absurd H (by simp)
              · rw [if_neg c36] at H
                exact absurd H (by simp)

/-! ### folkmootref20_within: function 36 -/
def folkmootref20_within.f (a0 : Int) (a1 : Int) : Option (Bool) := if a0 ≥ 0 then (some (decide (a0 ≤ a1))) else (some false)
set_option maxHeartbeats 8000000 in
set_option maxRecDepth 100000 in
theorem folkmootref20_within.calls (a0 : Int) (a1 : Int) (r : Bool) (w : World) (h : folkmootref20_within.f a0 a1 = some r) :
    Calls Try.prog 36 #[.int .i64 a0, .int .i64 a1] w fun e w' => e = .returned (.bool r) ∧ Drawn0 w w' := by
  have H : (if a0 ≥ 0 then (some (decide (a0 ≤ a1))) else (some false)) = some r := h
  clear h
  by_cases c3 : a0 ≥ 0
  · rw [if_pos c3] at H
    have c3b0 : decide (0 ≤ a0) = true := decide_eq_true c3
    clear c3
    obtain rfl := Option.some.inj H
    go_enter Try.func36, Try.ntmps36
    go_wp2
    go_ret
    exact ⟨by first | rfl | (simp; done) | (simp [*]; done), by repeat (first | exact Drawn0.refl _ | apply Drawn0.step)⟩
  · rw [if_neg c3] at H
    have c3b0 : decide (0 ≤ a0) = false := decide_eq_false c3
    clear c3
    obtain rfl := Option.some.inj H
    go_enter Try.func36, Try.ntmps36
    go_wp2
    go_ret
    exact ⟨by first | rfl | (simp; done) | (simp [*]; done), by repeat (first | exact Drawn0.refl _ | apply Drawn0.step)⟩

end Go.Proofs.Ytmoahkdadeiahaa.T
