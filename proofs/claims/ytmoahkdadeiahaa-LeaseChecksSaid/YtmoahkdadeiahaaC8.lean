-- WRITTEN BY a program of this session's (wip/gprint.py, over the kit's print), with functions given by hand among them. Not trusted: Lean checks it.
import Derived.Test.YtmoahkdadeiahaaC0
import Derived.Test.YtmoahkdadeiahaaC2
import Derived.Test.YtmoahkdadeiahaaC4
import Derived.Test.YtmoahkdadeiahaaC5
import Derived.Test.YtmoahkdadeiahaaC6
import Derived.Test.YtmoahkdadeiahaaC7
namespace Go.Proofs.Ytmoahkdadeiahaa.C
open Go.RowKit Go.Proofs.YtmoahkdadeiahaaW.PrintWords Go.Proofs.YtmoahkdadeiahaaW.PrintLast Go.Proofs.YtmoahkdadeiahaaW.PrintMore
attribute [local go_sem] max2_int min2_int max_two min_two max_three min_three max_four min_four   -- for this text's walks alone
set_option linter.unusedVariables false
set_option linter.unusedSimpArgs false

/-! ### folkmootlaw20_one: function 28 -/
def folkmootlaw20_one.f  : Option (Int × Int × Int × (List (S59)) × Int × Int) := some (11, 0, 0, ([] : List (S59)), 0, 0)
set_option maxHeartbeats 8000000 in
set_option maxRecDepth 100000 in
theorem folkmootlaw20_one.calls  (r1 : Int) (r2 : Int) (r3 : Int) (r4 : List (S59)) (r5 : Int) (r6 : Int) (w : World) (h : folkmootlaw20_one.f  = some (r1, r2, r3, r4, r5, r6)) :
    Calls Try.prog 28 #[] w fun e w' => ∃ v3_ : Value, e = .returned (.agg #[.int .i64 r1, .int .i64 r2, .int .i64 r3, v3_, .int .i64 r5, .int .i64 r6]) ∧ Kd.R k59 59 w' w.heap.size (fun _ => True) v3_ r4 ∧ Below w.heap.size w w' := by
  have hu29 := Try.underlying29
  have HB := Aside0.mk (Below.refl w.heap.size w)
  have H : (some (11, 0, 0, ([] : List (S59)), 0, 0)) = some (r1, r2, r3, r4, r5, r6) := h
  clear h
  simp only [Option.some.injEq, Prod.mk.injEq] at H
  obtain ⟨rfl, rfl, rfl, rfl, rfl, rfl⟩ := H
  go_enter Try.func28, Try.ntmps28
  go_wp2_with (first | ((with_reducible refine gate_dst (N := 0) rfl ?_); refine box_event ?hg (N := 0) ?hd (cs := #[.int .i64 0, .int .i64 0, .int .i64 0, .slice none 0 0, .int .i64 0, .int .i64 0]) (t := 29) ?hr ?_; (case hd => rfl); (case hg => rfl); (case hr => first | (go_simp; done) | (go_simp; rfl)); intro gb167 hg w1 hbox hb; have n0_ := Aside0.mk (below_step (by repeat (first | (with_reducible first | exact HB.out | apply below_alloc | apply pw_below_drewN | apply below_drew1) | exact HB.out)) hb); have n1_ := Aside0.mk (hbox); have n2_ := Aside0.mk ((by rw [hg]; exact (below_size (by repeat (first | (with_reducible first | exact HB.out | apply below_alloc | apply pw_below_drewN | apply below_drew1) | exact HB.out))) : w.heap.size ≤ gb167)); have n3_ := Aside0.mk ((by rw [hg]; exact (below_size (by repeat (first | (with_reducible first | exact HB.out | apply below_alloc | apply pw_below_drewN | apply below_drew1) | exact HB.out))) : w.heap.size ≤ gb167)); clear HB; have HB := n0_; have BK167 := n1_; have GW167 := n2_; have GE167 := n3_; clear n0_ n1_ n2_ n3_; clear hb hbox hg; have hcz2_0 : w1.cell? ⟨gb167, 0, none⟩ = some (.int .i64 0) := (blk_cell BK167.out 0).trans rfl; have hcz2_1 : w1.cell? ⟨gb167, 1, none⟩ = some (.int .i64 0) := (blk_cell BK167.out 1).trans rfl; have hcz2_2 : w1.cell? ⟨gb167, 2, none⟩ = some (.int .i64 0) := (blk_cell BK167.out 2).trans rfl; have hcz2_3 : w1.cell? ⟨gb167, 3, none⟩ = some (.slice none 0 0) := (blk_cell BK167.out 3).trans rfl; have hcz2_4 : w1.cell? ⟨gb167, 4, none⟩ = some (.int .i64 0) := (blk_cell BK167.out 4).trans rfl; have hcz2_5 : w1.cell? ⟨gb167, 5, none⟩ = some (.int .i64 0) := (blk_cell BK167.out 5).trans rfl; have hfz2_0 := blk_frozen BK167.out 0; have hfz2_1 := blk_frozen BK167.out 1; have hfz2_2 := blk_frozen BK167.out 2; have hfz2_3 := blk_frozen BK167.out 3; have hfz2_4 := blk_frozen BK167.out 4; have hfz2_5 := blk_frozen BK167.out 5))
  refine bodyPost_ret (results_cell_row rfl _ _ gb167 29 #[.int .i64 11, .int .i64 0, .int .i64 0, .slice none 0 0, .int .i64 0, .int .i64 0] (0, 0) _ rfl (by (with_reducible repeat (first | refine blk_drewN ?_ _ | refine blk_drew ?_ | refine blk_alloc ?_ _)); refine blk_put (cs := #[.int .i64 11, .int .i64 0, .int .i64 0, .slice none 0 0, .int .i64 0, .int .i64 0]) ?_ 5 _ rfl; (with_reducible repeat (first | refine blk_drewN ?_ _ | refine blk_drew ?_ | refine blk_alloc ?_ _)); refine blk_put (cs := #[.int .i64 11, .int .i64 0, .int .i64 0, .slice none 0 0, .int .i64 0, .int .i64 0]) ?_ 4 _ rfl; (with_reducible repeat (first | refine blk_drewN ?_ _ | refine blk_drew ?_ | refine blk_alloc ?_ _)); refine blk_put (cs := #[.int .i64 11, .int .i64 0, .int .i64 0, .slice none 0 0, .int .i64 0, .int .i64 0]) ?_ 3 _ rfl; (with_reducible repeat (first | refine blk_drewN ?_ _ | refine blk_drew ?_ | refine blk_alloc ?_ _)); refine blk_put (cs := #[.int .i64 11, .int .i64 0, .int .i64 0, .slice none 0 0, .int .i64 0, .int .i64 0]) ?_ 2 _ rfl; (with_reducible repeat (first | refine blk_drewN ?_ _ | refine blk_drew ?_ | refine blk_alloc ?_ _)); refine blk_put (cs := #[.int .i64 11, .int .i64 0, .int .i64 0, .slice none 0 0, .int .i64 0, .int .i64 0]) ?_ 1 _ rfl; (with_reducible repeat (first | refine blk_drewN ?_ _ | refine blk_drew ?_ | refine blk_alloc ?_ _)); refine blk_put (cs := #[.int .i64 0, .int .i64 0, .int .i64 0, .slice none 0 0, .int .i64 0, .int .i64 0]) ?_ 0 _ rfl; (with_reducible repeat (first | refine blk_drewN ?_ _ | refine blk_drew ?_ | refine blk_alloc ?_ _)); exact BK167.out) Try.underlying29 rfl (by kernel_rfl)) rfl ?_
  exact ⟨_, by first | rfl | (simp [errW_none, errW_some] <;> rfl) | (simp [*, errW_none, errW_some] <;> rfl), by first | exact Kd.R_nil _ _ _ _ _ | exact Kd.N_nil _ _ _ _ _ | exact Kd.V_nil _ _ _ _ _ | exact Kd.Q_nil _ _ _ _ _ | exact Kd.S_nil _ _ _ _ _, by repeat (first | (with_reducible first | exact HB.out | apply below_alloc | apply pw_below_drewN | apply below_drew1 | refine below_set ?_ GE167.out) | exact HB.out)⟩

/-! ### folkmootlaw20_good: function 16 -/
mutual
def folkmootlaw20_good.j0 : Nat → Int → Bool → Int → Int → Int → List (S59) → Int → Int → Option (Bool)
  | 0, _, _, _, _, _, _, _, _ => none
  | k + 1, x3, x45, x187000, x187001, x187002, x187003, x187004, x187005 => if x45 = true then (some false) else (folkmootlaw20_good.l0 k x3 0 x187000 x187001 x187002 x187003 x187004 x187005)
def folkmootlaw20_good.l0 : Nat → Int → Int → Int → Int → Int → List (S59) → Int → Int → Option (Bool)
  | 0, _, _, _, _, _, _, _, _ => none
  | k + 1, x3, x6, x187000, x187001, x187002, x187003, x187004, x187005 => if x6 < 7 then ((lease_Tick.f k x187000 x187001 x187002 x187003 x187004 x187005).bind fun bt199 => (folkmootlaw20_good.l0 k bt199.2.2.2.2.2.2 (wrap64 (x6 + 1)) bt199.1 bt199.2.1 bt199.2.2.1 bt199.2.2.2.1 bt199.2.2.2.2.1 bt199.2.2.2.2.2.1)) else ((lease_Tick.f k x187000 x187001 x187002 x187003 x187004 x187005).bind fun bt208 => (if x3 = 0 then (if bt208.2.2.2.2.2.2 = 0 then ((lease_Good.f k x187000 x187001 x187002 x187003 x187004 x187005).bind fun t218 => (if t218 = true then ((lease_Good.f k bt208.1 bt208.2.1 bt208.2.2.1 bt208.2.2.2.1 bt208.2.2.2.2.1 bt208.2.2.2.2.2.1).bind fun t219 => (some (!t219))) else (none))) else (none)) else (none)))
end
def folkmootlaw20_good.f (k : Nat)  : Option (Bool) := (folkmootlaw20_one.f).bind fun bt168 => ((lease_Ask.f k bt168.1 bt168.2.1 bt168.2.2.1 bt168.2.2.2.1 bt168.2.2.2.2.1 bt168.2.2.2.2.2).bind fun bt176 => ((lease_Take.f k bt176.1 bt176.2.1 bt176.2.2.1 bt176.2.2.2.1 bt176.2.2.2.2.1 bt176.2.2.2.2.2.1 bt176.2.2.2.2.2.2.1 5).bind fun bt187 => (if bt176.2.2.2.2.2.2.2 = 0 then (if bt187.2.2.2.2.2.2.2 = 0 then (if bt176.2.2.2.2.2.2.1 = 1 then (if bt187.2.2.2.2.2.2.1 = true then ((lease_Good.f k bt187.1 bt187.2.1 bt187.2.2.1 bt187.2.2.2.1 bt187.2.2.2.2.1 bt187.2.2.2.2.2.1).bind fun t197 => (if t197 = true then ((lease_Check.f k bt187.1 bt187.2.1 bt187.2.2.1 bt187.2.2.2.1 bt187.2.2.2.2.1 bt187.2.2.2.2.2.1).bind fun t198 => (folkmootlaw20_good.j0 k bt176.2.2.2.2.2.2.2 (t198 != 0) bt187.1 bt187.2.1 bt187.2.2.1 bt187.2.2.2.1 bt187.2.2.2.2.1 bt187.2.2.2.2.2.1)) else (folkmootlaw20_good.j0 k bt176.2.2.2.2.2.2.2 true bt187.1 bt187.2.1 bt187.2.2.1 bt187.2.2.2.1 bt187.2.2.2.2.1 bt187.2.2.2.2.2.1))) else (folkmootlaw20_good.j0 k bt176.2.2.2.2.2.2.2 true bt187.1 bt187.2.1 bt187.2.2.1 bt187.2.2.2.1 bt187.2.2.2.2.1 bt187.2.2.2.2.2.1)) else (folkmootlaw20_good.j0 k bt176.2.2.2.2.2.2.2 true bt187.1 bt187.2.1 bt187.2.2.1 bt187.2.2.2.1 bt187.2.2.2.2.1 bt187.2.2.2.2.2.1)) else (folkmootlaw20_good.j0 k bt176.2.2.2.2.2.2.2 true bt187.1 bt187.2.1 bt187.2.2.1 bt187.2.2.2.1 bt187.2.2.2.2.1 bt187.2.2.2.2.2.1)) else (folkmootlaw20_good.j0 k bt176.2.2.2.2.2.2.2 true bt187.1 bt187.2.1 bt187.2.2.1 bt187.2.2.2.1 bt187.2.2.2.2.1 bt187.2.2.2.2.2.1))))
theorem folkmootlaw20_good.mono_l : ∀ k, (∀ y0 y1 y2 y3 y4 y5 y6 y7, LeO (folkmootlaw20_good.j0 k y0 y1 y2 y3 y4 y5 y6 y7) (folkmootlaw20_good.j0 (k + 1) y0 y1 y2 y3 y4 y5 y6 y7)) ∧ (∀ y0 y1 y2 y3 y4 y5 y6 y7, LeO (folkmootlaw20_good.l0 k y0 y1 y2 y3 y4 y5 y6 y7) (folkmootlaw20_good.l0 (k + 1) y0 y1 y2 y3 y4 y5 y6 y7))
  | 0 => ⟨fun _ _ _ _ _ _ _ _ r h => by simp [folkmootlaw20_good.j0] at h, fun _ _ _ _ _ _ _ _ r h => by simp [folkmootlaw20_good.l0] at h⟩
  | k + 1 => by
    obtain ⟨ih0, ih1⟩ := folkmootlaw20_good.mono_l k
    refine ⟨?_, ?_⟩
    · intro y0 y1 y2 y3 y4 y5 y6 y7
      unfold folkmootlaw20_good.j0
      repeat' first
      | (with_reducible exact ih0 _ _ _ _ _ _ _ _)
      | (with_reducible exact ih1 _ _ _ _ _ _ _ _)
      | (with_reducible exact lease_Ask.mono _ _ _ _ _ _ _)
      | (with_reducible exact lease_Check.mono _ _ _ _ _ _ _)
      | (with_reducible exact lease_Good.mono _ _ _ _ _ _ _)
      | (with_reducible exact lease_Take.mono _ _ _ _ _ _ _ _ _)
      | (with_reducible exact lease_Tick.mono _ _ _ _ _ _ _)
      | (with_reducible exact LeO.refl _)
      | (with_reducible exact LeO.none _)
      | (with_reducible refine LeO.ite ?_ ?_)
      | (with_reducible refine LeO.bind ?_ (fun _ => ?_))
      | exact ih0 _ _ _ _ _ _ _ _
      | exact ih1 _ _ _ _ _ _ _ _
      | exact lease_Ask.mono _ _ _ _ _ _ _
      | exact lease_Check.mono _ _ _ _ _ _ _
      | exact lease_Good.mono _ _ _ _ _ _ _
      | exact lease_Take.mono _ _ _ _ _ _ _ _ _
      | exact lease_Tick.mono _ _ _ _ _ _ _
      | exact LeO.none _
      | refine LeO.ite ?_ ?_
      | refine LeO.bind ?_ (fun _ => ?_)
    · intro y0 y1 y2 y3 y4 y5 y6 y7
      unfold folkmootlaw20_good.l0
      repeat' first
      | (with_reducible exact ih0 _ _ _ _ _ _ _ _)
      | (with_reducible exact ih1 _ _ _ _ _ _ _ _)
      | (with_reducible exact lease_Ask.mono _ _ _ _ _ _ _)
      | (with_reducible exact lease_Check.mono _ _ _ _ _ _ _)
      | (with_reducible exact lease_Good.mono _ _ _ _ _ _ _)
      | (with_reducible exact lease_Take.mono _ _ _ _ _ _ _ _ _)
      | (with_reducible exact lease_Tick.mono _ _ _ _ _ _ _)
      | (with_reducible exact LeO.refl _)
      | (with_reducible exact LeO.none _)
      | (with_reducible refine LeO.ite ?_ ?_)
      | (with_reducible refine LeO.bind ?_ (fun _ => ?_))
      | exact ih0 _ _ _ _ _ _ _ _
      | exact ih1 _ _ _ _ _ _ _ _
      | exact lease_Ask.mono _ _ _ _ _ _ _
      | exact lease_Check.mono _ _ _ _ _ _ _
      | exact lease_Good.mono _ _ _ _ _ _ _
      | exact lease_Take.mono _ _ _ _ _ _ _ _ _
      | exact lease_Tick.mono _ _ _ _ _ _ _
      | exact LeO.none _
      | refine LeO.ite ?_ ?_
      | refine LeO.bind ?_ (fun _ => ?_)
theorem folkmootlaw20_good.mono : ∀ k, LeO (folkmootlaw20_good.f k ) (folkmootlaw20_good.f (k + 1) ) := by
  intro  k
  obtain ⟨ih0, ih1⟩ := folkmootlaw20_good.mono_l k
  unfold folkmootlaw20_good.f
  repeat' first
      | (with_reducible exact ih0 _ _ _ _ _ _ _ _)
      | (with_reducible exact ih1 _ _ _ _ _ _ _ _)
      | (with_reducible exact lease_Ask.mono _ _ _ _ _ _ _)
      | (with_reducible exact lease_Check.mono _ _ _ _ _ _ _)
      | (with_reducible exact lease_Good.mono _ _ _ _ _ _ _)
      | (with_reducible exact lease_Take.mono _ _ _ _ _ _ _ _ _)
      | (with_reducible exact lease_Tick.mono _ _ _ _ _ _ _)
      | (with_reducible exact LeO.refl _)
      | (with_reducible exact LeO.none _)
      | (with_reducible refine LeO.ite ?_ ?_)
      | (with_reducible refine LeO.bind ?_ (fun _ => ?_))
      | exact ih0 _ _ _ _ _ _ _ _
      | exact ih1 _ _ _ _ _ _ _ _
      | exact lease_Ask.mono _ _ _ _ _ _ _
      | exact lease_Check.mono _ _ _ _ _ _ _
      | exact lease_Good.mono _ _ _ _ _ _ _
      | exact lease_Take.mono _ _ _ _ _ _ _ _ _
      | exact lease_Tick.mono _ _ _ _ _ _ _
      | exact LeO.none _
      | refine LeO.ite ?_ ?_
      | refine LeO.bind ?_ (fun _ => ?_)
set_option maxHeartbeats 8000000 in
set_option maxRecDepth 100000 in
theorem folkmootlaw20_good.calls (k : Nat)  (r : Bool) (w : World) (h : folkmootlaw20_good.f k  = some r) :
    Calls Try.prog 16 #[] w fun e w' => e = .returned (.bool r) ∧ Below w.heap.size w w' := by
  have hu29 := Try.underlying29
  have HB := Aside0.mk (Below.refl w.heap.size w)
  have H : ((folkmootlaw20_one.f).bind fun bt168 => ((lease_Ask.f k bt168.1 bt168.2.1 bt168.2.2.1 bt168.2.2.2.1 bt168.2.2.2.2.1 bt168.2.2.2.2.2).bind fun bt176 => ((lease_Take.f k bt176.1 bt176.2.1 bt176.2.2.1 bt176.2.2.2.1 bt176.2.2.2.2.1 bt176.2.2.2.2.2.1 bt176.2.2.2.2.2.2.1 5).bind fun bt187 => (if bt176.2.2.2.2.2.2.2 = 0 then (if bt187.2.2.2.2.2.2.2 = 0 then (if bt176.2.2.2.2.2.2.1 = 1 then (if bt187.2.2.2.2.2.2.1 = true then ((lease_Good.f k bt187.1 bt187.2.1 bt187.2.2.1 bt187.2.2.2.1 bt187.2.2.2.2.1 bt187.2.2.2.2.2.1).bind fun t197 => (if t197 = true then ((lease_Check.f k bt187.1 bt187.2.1 bt187.2.2.1 bt187.2.2.2.1 bt187.2.2.2.2.1 bt187.2.2.2.2.2.1).bind fun t198 => (folkmootlaw20_good.j0 k bt176.2.2.2.2.2.2.2 (t198 != 0) bt187.1 bt187.2.1 bt187.2.2.1 bt187.2.2.2.1 bt187.2.2.2.2.1 bt187.2.2.2.2.2.1)) else (folkmootlaw20_good.j0 k bt176.2.2.2.2.2.2.2 true bt187.1 bt187.2.1 bt187.2.2.1 bt187.2.2.2.1 bt187.2.2.2.2.1 bt187.2.2.2.2.2.1))) else (folkmootlaw20_good.j0 k bt176.2.2.2.2.2.2.2 true bt187.1 bt187.2.1 bt187.2.2.1 bt187.2.2.2.1 bt187.2.2.2.2.1 bt187.2.2.2.2.2.1)) else (folkmootlaw20_good.j0 k bt176.2.2.2.2.2.2.2 true bt187.1 bt187.2.1 bt187.2.2.1 bt187.2.2.2.1 bt187.2.2.2.2.1 bt187.2.2.2.2.2.1)) else (folkmootlaw20_good.j0 k bt176.2.2.2.2.2.2.2 true bt187.1 bt187.2.1 bt187.2.2.1 bt187.2.2.2.1 bt187.2.2.2.2.1 bt187.2.2.2.2.2.1)) else (folkmootlaw20_good.j0 k bt176.2.2.2.2.2.2.2 true bt187.1 bt187.2.1 bt187.2.2.1 bt187.2.2.2.1 bt187.2.2.2.2.1 bt187.2.2.2.2.2.1))))) = some r := h
  clear h
  replace H := Option.bind_eq_some_iff.mp H
  obtain ⟨⟨t168, t169, t170, t171, t174, t175⟩, A10, H⟩ := H
  replace H : ((lease_Ask.f k t168 t169 t170 t171 t174 t175).bind fun bt176 => ((lease_Take.f k bt176.1 bt176.2.1 bt176.2.2.1 bt176.2.2.2.1 bt176.2.2.2.2.1 bt176.2.2.2.2.2.1 bt176.2.2.2.2.2.2.1 5).bind fun bt187 => (if bt176.2.2.2.2.2.2.2 = 0 then (if bt187.2.2.2.2.2.2.2 = 0 then (if bt176.2.2.2.2.2.2.1 = 1 then (if bt187.2.2.2.2.2.2.1 = true then ((lease_Good.f k bt187.1 bt187.2.1 bt187.2.2.1 bt187.2.2.2.1 bt187.2.2.2.2.1 bt187.2.2.2.2.2.1).bind fun t197 => (if t197 = true then ((lease_Check.f k bt187.1 bt187.2.1 bt187.2.2.1 bt187.2.2.2.1 bt187.2.2.2.2.1 bt187.2.2.2.2.2.1).bind fun t198 => (folkmootlaw20_good.j0 k bt176.2.2.2.2.2.2.2 (t198 != 0) bt187.1 bt187.2.1 bt187.2.2.1 bt187.2.2.2.1 bt187.2.2.2.2.1 bt187.2.2.2.2.2.1)) else (folkmootlaw20_good.j0 k bt176.2.2.2.2.2.2.2 true bt187.1 bt187.2.1 bt187.2.2.1 bt187.2.2.2.1 bt187.2.2.2.2.1 bt187.2.2.2.2.2.1))) else (folkmootlaw20_good.j0 k bt176.2.2.2.2.2.2.2 true bt187.1 bt187.2.1 bt187.2.2.1 bt187.2.2.2.1 bt187.2.2.2.2.1 bt187.2.2.2.2.2.1)) else (folkmootlaw20_good.j0 k bt176.2.2.2.2.2.2.2 true bt187.1 bt187.2.1 bt187.2.2.1 bt187.2.2.2.1 bt187.2.2.2.2.1 bt187.2.2.2.2.2.1)) else (folkmootlaw20_good.j0 k bt176.2.2.2.2.2.2.2 true bt187.1 bt187.2.1 bt187.2.2.1 bt187.2.2.2.1 bt187.2.2.2.2.1 bt187.2.2.2.2.2.1)) else (folkmootlaw20_good.j0 k bt176.2.2.2.2.2.2.2 true bt187.1 bt187.2.1 bt187.2.2.1 bt187.2.2.2.1 bt187.2.2.2.2.1 bt187.2.2.2.2.2.1)))) = some r := H
  have A1 := Aside0.mk A10
  clear A10
  replace H := Option.bind_eq_some_iff.mp H
  obtain ⟨⟨t176, t177, t178, t179, t182, t183, t184, t185⟩, A20, H⟩ := H
  replace H : ((lease_Take.f k t176 t177 t178 t179 t182 t183 t184 5).bind fun bt187 => (if t185 = 0 then (if bt187.2.2.2.2.2.2.2 = 0 then (if t184 = 1 then (if bt187.2.2.2.2.2.2.1 = true then ((lease_Good.f k bt187.1 bt187.2.1 bt187.2.2.1 bt187.2.2.2.1 bt187.2.2.2.2.1 bt187.2.2.2.2.2.1).bind fun t197 => (if t197 = true then ((lease_Check.f k bt187.1 bt187.2.1 bt187.2.2.1 bt187.2.2.2.1 bt187.2.2.2.2.1 bt187.2.2.2.2.2.1).bind fun t198 => (folkmootlaw20_good.j0 k t185 (t198 != 0) bt187.1 bt187.2.1 bt187.2.2.1 bt187.2.2.2.1 bt187.2.2.2.2.1 bt187.2.2.2.2.2.1)) else (folkmootlaw20_good.j0 k t185 true bt187.1 bt187.2.1 bt187.2.2.1 bt187.2.2.2.1 bt187.2.2.2.2.1 bt187.2.2.2.2.2.1))) else (folkmootlaw20_good.j0 k t185 true bt187.1 bt187.2.1 bt187.2.2.1 bt187.2.2.2.1 bt187.2.2.2.2.1 bt187.2.2.2.2.2.1)) else (folkmootlaw20_good.j0 k t185 true bt187.1 bt187.2.1 bt187.2.2.1 bt187.2.2.2.1 bt187.2.2.2.2.1 bt187.2.2.2.2.2.1)) else (folkmootlaw20_good.j0 k t185 true bt187.1 bt187.2.1 bt187.2.2.1 bt187.2.2.2.1 bt187.2.2.2.2.1 bt187.2.2.2.2.2.1)) else (folkmootlaw20_good.j0 k t185 true bt187.1 bt187.2.1 bt187.2.2.1 bt187.2.2.2.1 bt187.2.2.2.2.1 bt187.2.2.2.2.2.1))) = some r := H
  have A2 := Aside0.mk A20
  clear A20
  replace H := Option.bind_eq_some_iff.mp H
  obtain ⟨⟨t187, t188, t189, t190, t193, t194, t195, t196⟩, A30, H⟩ := H
  replace H : (if t185 = 0 then (if t196 = 0 then (if t184 = 1 then (if t195 = true then ((lease_Good.f k t187 t188 t189 t190 t193 t194).bind fun t197 => (if t197 = true then ((lease_Check.f k t187 t188 t189 t190 t193 t194).bind fun t198 => (folkmootlaw20_good.j0 k t185 (t198 != 0) t187 t188 t189 t190 t193 t194)) else (folkmootlaw20_good.j0 k t185 true t187 t188 t189 t190 t193 t194))) else (folkmootlaw20_good.j0 k t185 true t187 t188 t189 t190 t193 t194)) else (folkmootlaw20_good.j0 k t185 true t187 t188 t189 t190 t193 t194)) else (folkmootlaw20_good.j0 k t185 true t187 t188 t189 t190 t193 t194)) else (folkmootlaw20_good.j0 k t185 true t187 t188 t189 t190 t193 t194)) = some r := H
  have A3 := Aside0.mk A30
  clear A30
  have HC4 := Aside0.mk H
  clear H
  go_enter Try.func16, Try.ntmps16
  go_upto_region 3 with (first | ((with_reducible refine gate_callee (f := 28) rfl ?_); refine goesL_ (some 10) rfl rfl Try.func28 (by kernel_rfl) rfl #[] rfl (by (try simp only [List.map_toArray, List.map_cons, List.map_nil]); first | done | rfl | (simp only [List.length_drop, List.length_take]; rfl)) ?_; (with_reducible refine (folkmootlaw20_one.calls  t168 t169 t170 t171 t174 t175 _ A1.out).mono ?_); rintro e w5 ⟨v172, rfl, ho0, hb⟩; refine ⟨_, rfl, ?_⟩; have n0_ := Aside0.mk (Kd.R_lower ho0 (below_size (by repeat (first | (with_reducible first | exact HB.out | apply below_alloc | apply pw_below_drewN | apply below_drew1) | exact HB.out)))); have n1_ := Aside0.mk (below_step (by repeat (first | (with_reducible first | exact HB.out | apply below_alloc | apply pw_below_drewN | apply below_drew1) | exact HB.out)) hb); clear HB; have HO173 := n0_; have HB := n1_; clear n0_ n1_; (try clear hb); (try clear hb2); (try clear hk); (try clear hi); (try clear ho0); obtain ⟨Ao6, co6, eo6⟩ := Kd.R_slice HO173.out; subst eo6) | ((with_reducible refine gate_callee (f := 21) rfl ?_); refine goesL_ (some 11) rfl rfl Try.func21 (by kernel_rfl) rfl #[.agg #[.int .i64 t168, .int .i64 t169, .int .i64 t170, .slice Ao6 t171.length co6, .int .i64 t174, .int .i64 t175]] rfl (by (try simp only [List.map_toArray, List.map_cons, List.map_nil]); first | done | rfl | (simp only [List.length_drop, List.length_take]; rfl)) ?_; (with_reducible refine (lease_Ask.calls k t168 t169 t170 _ _ t171 t174 t175 t176 t177 t178 t179 t182 t183 t184 t185 _ ?side1 ?side2 A2.out).mono ?_); (case side1 => repeat (first | exact (Kd.R_reads' HO173.out).2.2 | (with_reducible refine Kd.C_alloc ?_ _) | (with_reducible refine Kd.C_drewN ?_ _) | (with_reducible refine Kd.C_drew ?_))); (case side2 => exact (Kd.R_reads' HO173.out).2.1); rintro e w7 ⟨v180, rfl, ho0, hb⟩; refine ⟨_, rfl, ?_⟩; have n0_ := Aside0.mk (Kd.R_elder' (by (with_reducible repeat (first | apply Kd.R_alloc | apply Kd.R_drewN | apply Kd.R_drew)); exact HO173.out) (Kd.Q_base ho0) hb); have n1_ := Aside0.mk (Kd.Q_lower (Kd.Q_new' ho0 (Kd.R_lt (by (with_reducible repeat (first | apply Kd.R_alloc | apply Kd.R_drewN | apply Kd.R_drew)); exact HO173.out))) (below_size (by repeat (first | (with_reducible first | exact HB.out | apply below_alloc | apply pw_below_drewN | apply below_drew1) | exact HB.out)))); have n2_ := Aside0.mk (below_step (by repeat (first | (with_reducible first | exact HB.out | apply below_alloc | apply pw_below_drewN | apply below_drew1) | exact HB.out)) hb); clear HO173; clear HB; have HO173 := n0_; have HO181 := n1_; have HB := n2_; clear n0_ n1_ n2_; (try clear hb); (try clear hb2); (try clear hk); (try clear hi); (try clear ho0)) | ((with_reducible refine gate_dst (N := 1) rfl ?_); refine box_event ?hg (N := 1) ?hd (cs := #[.int .i64 0, .int .i64 0, .int .i64 0, .slice none 0 0, .int .i64 0, .int .i64 0]) (t := 29) ?hr ?_; (case hd => rfl); (case hg => rfl); (case hr => first | (go_simp; done) | (go_simp; rfl)); intro gb186 hg w8 hbox hb; have n0_ := Aside0.mk (Kd.R_below (by (with_reducible repeat (first | apply Kd.R_alloc | apply Kd.R_drewN | apply Kd.R_drew)); exact HO173.out) hb); have n1_ := Aside0.mk (Kd.Q_below (by (with_reducible repeat (first | apply Kd.Q_alloc | apply Kd.Q_drewN | apply Kd.Q_drew)); exact HO181.out) hb); have n2_ := Aside0.mk (below_step (by repeat (first | (with_reducible first | exact HB.out | apply below_alloc | apply pw_below_drewN | apply below_drew1) | exact HB.out)) hb); have n3_ := Aside0.mk (hbox); have n4_ := Aside0.mk ((by rw [hg]; exact (below_size (by repeat (first | (with_reducible first | exact HB.out | apply below_alloc | apply pw_below_drewN | apply below_drew1) | exact HB.out))) : w.heap.size ≤ gb186)); have n5_ := Aside0.mk ((by rw [hg]; exact (below_size (by repeat (first | (with_reducible first | exact HB.out | apply below_alloc | apply pw_below_drewN | apply below_drew1) | exact HB.out))) : w.heap.size ≤ gb186)); clear HO173; clear HO181; clear HB; have HO173 := n0_; have HO181 := n1_; have HB := n2_; have BK186 := n3_; have GW186 := n4_; have GE186 := n5_; clear n0_ n1_ n2_ n3_ n4_ n5_; clear hb hbox hg; have hcz9_0 : w8.cell? ⟨gb186, 0, none⟩ = some (.int .i64 0) := (blk_cell BK186.out 0).trans rfl; have hcz9_1 : w8.cell? ⟨gb186, 1, none⟩ = some (.int .i64 0) := (blk_cell BK186.out 1).trans rfl; have hcz9_2 : w8.cell? ⟨gb186, 2, none⟩ = some (.int .i64 0) := (blk_cell BK186.out 2).trans rfl; have hcz9_3 : w8.cell? ⟨gb186, 3, none⟩ = some (.slice none 0 0) := (blk_cell BK186.out 3).trans rfl; have hcz9_4 : w8.cell? ⟨gb186, 4, none⟩ = some (.int .i64 0) := (blk_cell BK186.out 4).trans rfl; have hcz9_5 : w8.cell? ⟨gb186, 5, none⟩ = some (.int .i64 0) := (blk_cell BK186.out 5).trans rfl; have hfz9_0 := blk_frozen BK186.out 0; have hfz9_1 := blk_frozen BK186.out 1; have hfz9_2 := blk_frozen BK186.out 2; have hfz9_3 := blk_frozen BK186.out 3; have hfz9_4 := blk_frozen BK186.out 4; have hfz9_5 := blk_frozen BK186.out 5; obtain ⟨Ao10, co10, eo10, _⟩ := Kd.Q_slice HO181.out; subst eo10) | ((with_reducible refine gate_callee (f := 23) rfl ?_); refine goesL_ (some 18) rfl rfl Try.func23 (by kernel_rfl) rfl #[.agg #[.int .i64 t176, .int .i64 t177, .int .i64 t178, .slice Ao10 t179.length co10, .int .i64 t182, .int .i64 t183], .int .i64 t184, .int .i64 5] rfl (by (try simp only [List.map_toArray, List.map_cons, List.map_nil]); first | done | rfl | (simp only [List.length_drop, List.length_take]; rfl)) ?_; (with_reducible refine (lease_Take.calls k t176 t177 t178 _ _ t179 t182 t183 t184 5 t187 t188 t189 t190 t193 t194 t195 t196 _ ?side1 ?side2 A3.out).mono ?_); (case side1 => refine (Kd.Q_reads' (e := 59) (base := w.heap.size) (ok := fun k_ => (True ∧ some k_ ≠ (.slice Ao6 t171.length co6 : Value).ownBlock)) (n := t179.length) (c := co10) ?_).2.2; exact (by (with_reducible repeat (first | apply Kd.Q_alloc | apply Kd.Q_drewN | apply Kd.Q_drew)); exact (Kd.Q_mono (Kd.Q_far (p := ⟨gb186, 5, none⟩) (Kd.Q_far (p := ⟨gb186, 4, none⟩) (Kd.Q_far (p := ⟨gb186, 3, none⟩) (Kd.Q_far (p := ⟨gb186, 2, none⟩) (Kd.Q_far (p := ⟨gb186, 1, none⟩) (Kd.Q_far (p := ⟨gb186, 0, none⟩) (Kd.Q_types HO181.out BK186.out (by decide)) (fun _ hk => hk.2) (.int .i64 t176)) (fun _ hk => hk.2) (.int .i64 t177)) (fun _ hk => hk.2) (.int .i64 t178)) (fun _ hk => hk.2) (.slice Ao10 t179.length co10)) (fun _ hk => hk.2) (.int .i64 t182)) (fun _ hk => hk.2) (.int .i64 t183)) (fun _ h_ => h_.1)))); (case side2 => exact (Kd.Q_reads' HO181.out).2.1); rintro e w11 ⟨v191, rfl, ho0, hb⟩; refine ⟨_, rfl, ?_⟩; have n0_ := Aside0.mk (Kd.R_elder' (by (with_reducible repeat (first | apply Kd.R_alloc | apply Kd.R_drewN | apply Kd.R_drew)); exact (Kd.R_mono (Kd.R_far (p := ⟨gb186, 5, none⟩) (Kd.R_far (p := ⟨gb186, 4, none⟩) (Kd.R_far (p := ⟨gb186, 3, none⟩) (Kd.R_far (p := ⟨gb186, 2, none⟩) (Kd.R_far (p := ⟨gb186, 1, none⟩) (Kd.R_far (p := ⟨gb186, 0, none⟩) (Kd.R_types HO173.out BK186.out (by decide)) (fun _ hk => hk.2) (.int .i64 t176)) (fun _ hk => hk.2) (.int .i64 t177)) (fun _ hk => hk.2) (.int .i64 t178)) (fun _ hk => hk.2) (.slice Ao10 t179.length co10)) (fun _ hk => hk.2) (.int .i64 t182)) (fun _ hk => hk.2) (.int .i64 t183)) (fun _ h_ => h_.1))) (Kd.Q_base ho0) hb); have n1_ := Aside0.mk (Kd.Q_elder' (by (with_reducible repeat (first | apply Kd.Q_alloc | apply Kd.Q_drewN | apply Kd.Q_drew)); exact (Kd.Q_mono (Kd.Q_far (p := ⟨gb186, 5, none⟩) (Kd.Q_far (p := ⟨gb186, 4, none⟩) (Kd.Q_far (p := ⟨gb186, 3, none⟩) (Kd.Q_far (p := ⟨gb186, 2, none⟩) (Kd.Q_far (p := ⟨gb186, 1, none⟩) (Kd.Q_far (p := ⟨gb186, 0, none⟩) (Kd.Q_types HO181.out BK186.out (by decide)) (fun _ hk => hk.2) (.int .i64 t176)) (fun _ hk => hk.2) (.int .i64 t177)) (fun _ hk => hk.2) (.int .i64 t178)) (fun _ hk => hk.2) (.slice Ao10 t179.length co10)) (fun _ hk => hk.2) (.int .i64 t182)) (fun _ hk => hk.2) (.int .i64 t183)) (fun _ h_ => h_.1))) (Kd.Q_base ho0) hb); have n2_ := Aside0.mk (Kd.Q_lower (Kd.Q_new' (Kd.Q_new' ho0 (Kd.R_lt (by (with_reducible repeat (first | apply Kd.R_alloc | apply Kd.R_drewN | apply Kd.R_drew)); exact (Kd.R_mono (Kd.R_far (p := ⟨gb186, 5, none⟩) (Kd.R_far (p := ⟨gb186, 4, none⟩) (Kd.R_far (p := ⟨gb186, 3, none⟩) (Kd.R_far (p := ⟨gb186, 2, none⟩) (Kd.R_far (p := ⟨gb186, 1, none⟩) (Kd.R_far (p := ⟨gb186, 0, none⟩) (Kd.R_types HO173.out BK186.out (by decide)) (fun _ hk => hk.2) (.int .i64 t176)) (fun _ hk => hk.2) (.int .i64 t177)) (fun _ hk => hk.2) (.int .i64 t178)) (fun _ hk => hk.2) (.slice Ao10 t179.length co10)) (fun _ hk => hk.2) (.int .i64 t182)) (fun _ hk => hk.2) (.int .i64 t183)) (fun _ h_ => h_.1))))) (Kd.Q_lt (by (with_reducible repeat (first | apply Kd.Q_alloc | apply Kd.Q_drewN | apply Kd.Q_drew)); exact (Kd.Q_mono (Kd.Q_far (p := ⟨gb186, 5, none⟩) (Kd.Q_far (p := ⟨gb186, 4, none⟩) (Kd.Q_far (p := ⟨gb186, 3, none⟩) (Kd.Q_far (p := ⟨gb186, 2, none⟩) (Kd.Q_far (p := ⟨gb186, 1, none⟩) (Kd.Q_far (p := ⟨gb186, 0, none⟩) (Kd.Q_types HO181.out BK186.out (by decide)) (fun _ hk => hk.2) (.int .i64 t176)) (fun _ hk => hk.2) (.int .i64 t177)) (fun _ hk => hk.2) (.int .i64 t178)) (fun _ hk => hk.2) (.slice Ao10 t179.length co10)) (fun _ hk => hk.2) (.int .i64 t182)) (fun _ hk => hk.2) (.int .i64 t183)) (fun _ h_ => h_.1))))) (below_size (by repeat (first | (with_reducible first | exact HB.out | apply below_alloc | apply pw_below_drewN | apply below_drew1 | refine below_set ?_ GE186.out) | exact HB.out)))); have n3_ := Aside0.mk (blk_below (g := gb186) (o := .cells #[.int .i64 t176, .int .i64 t177, .int .i64 t178, .slice Ao10 t179.length co10, .int .i64 t182, .int .i64 t183] 29 (0, 0)) (by (with_reducible repeat (first | refine blk_drewN ?_ _ | refine blk_drew ?_ | refine blk_alloc ?_ _)); refine blk_put (cs := #[.int .i64 t176, .int .i64 t177, .int .i64 t178, .slice Ao10 t179.length co10, .int .i64 t182, .int .i64 0]) ?_ 5 _ rfl; (with_reducible repeat (first | refine blk_drewN ?_ _ | refine blk_drew ?_ | refine blk_alloc ?_ _)); refine blk_put (cs := #[.int .i64 t176, .int .i64 t177, .int .i64 t178, .slice Ao10 t179.length co10, .int .i64 0, .int .i64 0]) ?_ 4 _ rfl; (with_reducible repeat (first | refine blk_drewN ?_ _ | refine blk_drew ?_ | refine blk_alloc ?_ _)); refine blk_put (cs := #[.int .i64 t176, .int .i64 t177, .int .i64 t178, .slice none 0 0, .int .i64 0, .int .i64 0]) ?_ 3 _ rfl; (with_reducible repeat (first | refine blk_drewN ?_ _ | refine blk_drew ?_ | refine blk_alloc ?_ _)); refine blk_put (cs := #[.int .i64 t176, .int .i64 t177, .int .i64 0, .slice none 0 0, .int .i64 0, .int .i64 0]) ?_ 2 _ rfl; (with_reducible repeat (first | refine blk_drewN ?_ _ | refine blk_drew ?_ | refine blk_alloc ?_ _)); refine blk_put (cs := #[.int .i64 t176, .int .i64 0, .int .i64 0, .slice none 0 0, .int .i64 0, .int .i64 0]) ?_ 1 _ rfl; (with_reducible repeat (first | refine blk_drewN ?_ _ | refine blk_drew ?_ | refine blk_alloc ?_ _)); refine blk_put (cs := #[.int .i64 0, .int .i64 0, .int .i64 0, .slice none 0 0, .int .i64 0, .int .i64 0]) ?_ 0 _ rfl; (with_reducible repeat (first | refine blk_drewN ?_ _ | refine blk_drew ?_ | refine blk_alloc ?_ _)); exact BK186.out) hb); have n4_ := Aside0.mk (below_step (by repeat (first | (with_reducible first | exact HB.out | apply below_alloc | apply pw_below_drewN | apply below_drew1 | refine below_set ?_ GE186.out) | exact HB.out)) hb); clear HO173; clear HO181; clear BK186; clear HB; have HO173 := n0_; have HO181 := n1_; have HO192 := n2_; have BK186 := n3_; have HB := n4_; clear n0_ n1_ n2_ n3_ n4_; (try clear hb); (try clear hb2); (try clear hk); (try clear hi); (try clear ho0); have hcz12_0 : w11.cell? ⟨gb186, 0, none⟩ = some (.int .i64 t176) := (blk_cell BK186.out 0).trans rfl; have hcz12_1 : w11.cell? ⟨gb186, 1, none⟩ = some (.int .i64 t177) := (blk_cell BK186.out 1).trans rfl; have hcz12_2 : w11.cell? ⟨gb186, 2, none⟩ = some (.int .i64 t178) := (blk_cell BK186.out 2).trans rfl; have hcz12_3 : w11.cell? ⟨gb186, 3, none⟩ = some (.slice Ao10 t179.length co10) := (blk_cell BK186.out 3).trans rfl; have hcz12_4 : w11.cell? ⟨gb186, 4, none⟩ = some (.int .i64 t182) := (blk_cell BK186.out 4).trans rfl; have hcz12_5 : w11.cell? ⟨gb186, 5, none⟩ = some (.int .i64 t183) := (blk_cell BK186.out 5).trans rfl; have hfz12_0 := blk_frozen BK186.out 0; have hfz12_1 := blk_frozen BK186.out 1; have hfz12_2 := blk_frozen BK186.out 2; have hfz12_3 := blk_frozen BK186.out 3; have hfz12_4 := blk_frozen BK186.out 4; have hfz12_5 := blk_frozen BK186.out 5; obtain ⟨Ao13, co13, eo13, _⟩ := Kd.Q_slice HO192.out; subst eo13))
  (try simp only [Act.put, List.setIfInBounds_toArray, List.set_cons_zero, List.set_cons_succ])
  go_cut [45] (fun v45 wc => ∃ (kq : Nat) (x45_3 : Bool), v45 = .bool x45_3 ∧ Aside0 (folkmootlaw20_good.j0 kq t185 x45_3 t187 t188 t189 t190 t193 t194 = some r) ∧ Aside0 (kq ≤ k) ∧ Aside0 (Kd.Q k59 59 wc w.heap.size (fun _ => True) (.slice Ao13 t190.length co13) t190) ∧ Aside0 (wc.heap[gb186]? = some (.cells #[.int .i64 t187, .int .i64 t188, .int .i64 t189, (.slice Ao13 t190.length co13), .int .i64 t193, .int .i64 t194] 29 (0, 0))) ∧ Aside0 (Below w.heap.size w wc))
  case first =>
    have H := HC4.out
    clear HC4
    by_cases c14 : t185 = 0
    · rw [if_pos c14] at H
      have c14b0 : (t185 == 0) = true := beq_iff_eq.mpr c14
      have c14b1 : (t185 != 0) = false := bne_eq_false_iff_eq.mpr c14
      clear c14
      (first | rw [c14b0] | (simp only [i64_w, i32_w]; rw [c14b0]) | skip)
      by_cases c15 : t196 = 0
      · rw [if_pos c15] at H
        have c15b0 : (t196 == 0) = true := beq_iff_eq.mpr c15
        have c15b1 : (t196 != 0) = false := bne_eq_false_iff_eq.mpr c15
        clear c15
        by_cases c16 : t184 = 1
        · rw [if_pos c16] at H
          have c16b0 : (t184 == 1) = true := beq_iff_eq.mpr c16
          have c16b1 : (t184 != 1) = false := bne_eq_false_iff_eq.mpr c16
          clear c16
          by_cases c17 : t195 = true
          · subst c17
            have H1 : ((lease_Good.f k t187 t188 t189 t190 t193 t194).bind fun t197 => (if t197 = true then ((lease_Check.f k t187 t188 t189 t190 t193 t194).bind fun t198 => (folkmootlaw20_good.j0 k t185 (t198 != 0) t187 t188 t189 t190 t193 t194)) else (folkmootlaw20_good.j0 k t185 true t187 t188 t189 t190 t193 t194))) = some r := by rw [if_pos rfl] at H; exact H
            clear H
            have H := H1
            clear H1
            replace H := Option.bind_eq_some_iff.mp H
            obtain ⟨t197, A180, H⟩ := H
            replace H : (if t197 = true then ((lease_Check.f k t187 t188 t189 t190 t193 t194).bind fun t198 => (folkmootlaw20_good.j0 k t185 (t198 != 0) t187 t188 t189 t190 t193 t194)) else (folkmootlaw20_good.j0 k t185 true t187 t188 t189 t190 t193 t194)) = some r := H
            have A18 := Aside0.mk A180
            clear A180
            by_cases c19 : t197 = true
            · subst c19
              have H1 : ((lease_Check.f k t187 t188 t189 t190 t193 t194).bind fun t198 => (folkmootlaw20_good.j0 k t185 (t198 != 0) t187 t188 t189 t190 t193 t194)) = some r := by rw [if_pos rfl] at H; exact H
              clear H
              have H := H1
              clear H1
              replace H := Option.bind_eq_some_iff.mp H
              obtain ⟨t198, A200, H⟩ := H
              replace H : (folkmootlaw20_good.j0 k t185 (t198 != 0) t187 t188 t189 t190 t193 t194) = some r := H
              have A20 := Aside0.mk A200
              clear A200
              have H' := Aside0.mk H
              clear H
              have hcz21_0 : w11.cell? ⟨gb186, 0, none⟩ = some (.int .i64 t176) := (blk_cell BK186.out 0).trans rfl
              have hcz21_1 : w11.cell? ⟨gb186, 1, none⟩ = some (.int .i64 t177) := (blk_cell BK186.out 1).trans rfl
              have hcz21_2 : w11.cell? ⟨gb186, 2, none⟩ = some (.int .i64 t178) := (blk_cell BK186.out 2).trans rfl
              have hcz21_3 : w11.cell? ⟨gb186, 3, none⟩ = some (.slice Ao10 t179.length co10) := (blk_cell BK186.out 3).trans rfl
              have hcz21_4 : w11.cell? ⟨gb186, 4, none⟩ = some (.int .i64 t182) := (blk_cell BK186.out 4).trans rfl
              have hcz21_5 : w11.cell? ⟨gb186, 5, none⟩ = some (.int .i64 t183) := (blk_cell BK186.out 5).trans rfl
              have hfz21_0 := blk_frozen BK186.out 0
              have hfz21_1 := blk_frozen BK186.out 1
              have hfz21_2 := blk_frozen BK186.out 2
              have hfz21_3 := blk_frozen BK186.out 3
              have hfz21_4 := blk_frozen BK186.out 4
              have hfz21_5 := blk_frozen BK186.out 5
              go_wp2_with (first | (go_at_call 18; (with_reducible refine (lease_Good.calls k t187 t188 t189 _ _ t190 t193 t194 true _ ?side1 ?side2 A18.out).mono ?_); (case side1 => refine (Kd.Q_reads' (e := 59) (base := w.heap.size) (ok := fun k_ => ((True ∧ some k_ ≠ (.slice Ao6 t171.length co6 : Value).ownBlock) ∧ some k_ ≠ (.slice Ao10 t179.length co10 : Value).ownBlock)) (n := t190.length) (c := co13) ?_).2.2; exact (by (with_reducible repeat (first | apply Kd.Q_alloc | apply Kd.Q_drewN | apply Kd.Q_drew)); exact (Kd.Q_mono (Kd.Q_far (p := ⟨gb186, 5, none⟩) (Kd.Q_far (p := ⟨gb186, 4, none⟩) (Kd.Q_far (p := ⟨gb186, 3, none⟩) (Kd.Q_far (p := ⟨gb186, 2, none⟩) (Kd.Q_far (p := ⟨gb186, 1, none⟩) (Kd.Q_far (p := ⟨gb186, 0, none⟩) (Kd.Q_types HO192.out BK186.out (by decide)) (fun _ hk => hk.2) (.int .i64 t187)) (fun _ hk => hk.2) (.int .i64 t188)) (fun _ hk => hk.2) (.int .i64 t189)) (fun _ hk => hk.2) (.slice Ao13 t190.length co13)) (fun _ hk => hk.2) (.int .i64 t193)) (fun _ hk => hk.2) (.int .i64 t194)) (fun _ h_ => h_.1)))); (case side2 => exact (Kd.Q_reads' HO192.out).2.1); rintro e w22 ⟨rfl, hb⟩; have n0_ := Aside0.mk (Kd.R_below (by (with_reducible repeat (first | apply Kd.R_alloc | apply Kd.R_drewN | apply Kd.R_drew)); exact (Kd.R_mono (Kd.R_far (p := ⟨gb186, 5, none⟩) (Kd.R_far (p := ⟨gb186, 4, none⟩) (Kd.R_far (p := ⟨gb186, 3, none⟩) (Kd.R_far (p := ⟨gb186, 2, none⟩) (Kd.R_far (p := ⟨gb186, 1, none⟩) (Kd.R_far (p := ⟨gb186, 0, none⟩) (Kd.R_types HO173.out BK186.out (by decide)) (fun _ hk => hk.2) (.int .i64 t187)) (fun _ hk => hk.2) (.int .i64 t188)) (fun _ hk => hk.2) (.int .i64 t189)) (fun _ hk => hk.2) (.slice Ao13 t190.length co13)) (fun _ hk => hk.2) (.int .i64 t193)) (fun _ hk => hk.2) (.int .i64 t194)) (fun _ h_ => h_.1))) hb); have n1_ := Aside0.mk (Kd.Q_below (by (with_reducible repeat (first | apply Kd.Q_alloc | apply Kd.Q_drewN | apply Kd.Q_drew)); exact (Kd.Q_mono (Kd.Q_far (p := ⟨gb186, 5, none⟩) (Kd.Q_far (p := ⟨gb186, 4, none⟩) (Kd.Q_far (p := ⟨gb186, 3, none⟩) (Kd.Q_far (p := ⟨gb186, 2, none⟩) (Kd.Q_far (p := ⟨gb186, 1, none⟩) (Kd.Q_far (p := ⟨gb186, 0, none⟩) (Kd.Q_types HO181.out BK186.out (by decide)) (fun _ hk => hk.2) (.int .i64 t187)) (fun _ hk => hk.2) (.int .i64 t188)) (fun _ hk => hk.2) (.int .i64 t189)) (fun _ hk => hk.2) (.slice Ao13 t190.length co13)) (fun _ hk => hk.2) (.int .i64 t193)) (fun _ hk => hk.2) (.int .i64 t194)) (fun _ h_ => h_.1))) hb); have n2_ := Aside0.mk (Kd.Q_below (by (with_reducible repeat (first | apply Kd.Q_alloc | apply Kd.Q_drewN | apply Kd.Q_drew)); exact (Kd.Q_mono (Kd.Q_far (p := ⟨gb186, 5, none⟩) (Kd.Q_far (p := ⟨gb186, 4, none⟩) (Kd.Q_far (p := ⟨gb186, 3, none⟩) (Kd.Q_far (p := ⟨gb186, 2, none⟩) (Kd.Q_far (p := ⟨gb186, 1, none⟩) (Kd.Q_far (p := ⟨gb186, 0, none⟩) (Kd.Q_types HO192.out BK186.out (by decide)) (fun _ hk => hk.2) (.int .i64 t187)) (fun _ hk => hk.2) (.int .i64 t188)) (fun _ hk => hk.2) (.int .i64 t189)) (fun _ hk => hk.2) (.slice Ao13 t190.length co13)) (fun _ hk => hk.2) (.int .i64 t193)) (fun _ hk => hk.2) (.int .i64 t194)) (fun _ h_ => h_.1))) hb); have n3_ := Aside0.mk (blk_below (g := gb186) (o := .cells #[.int .i64 t187, .int .i64 t188, .int .i64 t189, .slice Ao13 t190.length co13, .int .i64 t193, .int .i64 t194] 29 (0, 0)) (by (with_reducible repeat (first | refine blk_drewN ?_ _ | refine blk_drew ?_ | refine blk_alloc ?_ _)); refine blk_put (cs := #[.int .i64 t187, .int .i64 t188, .int .i64 t189, .slice Ao13 t190.length co13, .int .i64 t193, .int .i64 t183]) ?_ 5 _ rfl; (with_reducible repeat (first | refine blk_drewN ?_ _ | refine blk_drew ?_ | refine blk_alloc ?_ _)); refine blk_put (cs := #[.int .i64 t187, .int .i64 t188, .int .i64 t189, .slice Ao13 t190.length co13, .int .i64 t182, .int .i64 t183]) ?_ 4 _ rfl; (with_reducible repeat (first | refine blk_drewN ?_ _ | refine blk_drew ?_ | refine blk_alloc ?_ _)); refine blk_put (cs := #[.int .i64 t187, .int .i64 t188, .int .i64 t189, .slice Ao10 t179.length co10, .int .i64 t182, .int .i64 t183]) ?_ 3 _ rfl; (with_reducible repeat (first | refine blk_drewN ?_ _ | refine blk_drew ?_ | refine blk_alloc ?_ _)); refine blk_put (cs := #[.int .i64 t187, .int .i64 t188, .int .i64 t178, .slice Ao10 t179.length co10, .int .i64 t182, .int .i64 t183]) ?_ 2 _ rfl; (with_reducible repeat (first | refine blk_drewN ?_ _ | refine blk_drew ?_ | refine blk_alloc ?_ _)); refine blk_put (cs := #[.int .i64 t187, .int .i64 t177, .int .i64 t178, .slice Ao10 t179.length co10, .int .i64 t182, .int .i64 t183]) ?_ 1 _ rfl; (with_reducible repeat (first | refine blk_drewN ?_ _ | refine blk_drew ?_ | refine blk_alloc ?_ _)); refine blk_put (cs := #[.int .i64 t176, .int .i64 t177, .int .i64 t178, .slice Ao10 t179.length co10, .int .i64 t182, .int .i64 t183]) ?_ 0 _ rfl; (with_reducible repeat (first | refine blk_drewN ?_ _ | refine blk_drew ?_ | refine blk_alloc ?_ _)); exact BK186.out) hb); have n4_ := Aside0.mk (below_step (by repeat (first | (with_reducible first | exact HB.out | apply below_alloc | apply pw_below_drewN | apply below_drew1 | refine below_set ?_ GE186.out) | exact HB.out)) hb); clear HO173; clear HO181; clear HO192; clear BK186; clear HB; have HO173 := n0_; have HO181 := n1_; have HO192 := n2_; have BK186 := n3_; have HB := n4_; clear n0_ n1_ n2_ n3_ n4_; (try clear hb); (try clear hb2); (try clear hk); (try clear hi); have hcz23_0 : w22.cell? ⟨gb186, 0, none⟩ = some (.int .i64 t187) := (blk_cell BK186.out 0).trans rfl; have hcz23_1 : w22.cell? ⟨gb186, 1, none⟩ = some (.int .i64 t188) := (blk_cell BK186.out 1).trans rfl; have hcz23_2 : w22.cell? ⟨gb186, 2, none⟩ = some (.int .i64 t189) := (blk_cell BK186.out 2).trans rfl; have hcz23_3 : w22.cell? ⟨gb186, 3, none⟩ = some (.slice Ao13 t190.length co13) := (blk_cell BK186.out 3).trans rfl; have hcz23_4 : w22.cell? ⟨gb186, 4, none⟩ = some (.int .i64 t193) := (blk_cell BK186.out 4).trans rfl; have hcz23_5 : w22.cell? ⟨gb186, 5, none⟩ = some (.int .i64 t194) := (blk_cell BK186.out 5).trans rfl; have hfz23_0 := blk_frozen BK186.out 0; have hfz23_1 := blk_frozen BK186.out 1; have hfz23_2 := blk_frozen BK186.out 2; have hfz23_3 := blk_frozen BK186.out 3; have hfz23_4 := blk_frozen BK186.out 4; have hfz23_5 := blk_frozen BK186.out 5) | (go_at_call 13; (with_reducible refine (lease_Check.calls k t187 t188 t189 _ _ t190 t193 t194 t198 _ ?side1 ?side2 A20.out).mono ?_); (case side1 => repeat (first | exact (Kd.Q_reads' HO192.out).2.2 | (with_reducible refine Kd.C_alloc ?_ _) | (with_reducible refine Kd.C_drewN ?_ _) | (with_reducible refine Kd.C_drew ?_))); (case side2 => exact (Kd.Q_reads' HO192.out).2.1); rintro e w24 ⟨rfl, hb⟩; have n0_ := Aside0.mk (Kd.R_below (by (with_reducible repeat (first | apply Kd.R_alloc | apply Kd.R_drewN | apply Kd.R_drew)); exact HO173.out) hb); have n1_ := Aside0.mk (Kd.Q_below (by (with_reducible repeat (first | apply Kd.Q_alloc | apply Kd.Q_drewN | apply Kd.Q_drew)); exact HO181.out) hb); have n2_ := Aside0.mk (Kd.Q_below (by (with_reducible repeat (first | apply Kd.Q_alloc | apply Kd.Q_drewN | apply Kd.Q_drew)); exact HO192.out) hb); have n3_ := Aside0.mk (blk_below (g := gb186) (o := .cells #[.int .i64 t187, .int .i64 t188, .int .i64 t189, .slice Ao13 t190.length co13, .int .i64 t193, .int .i64 t194] 29 (0, 0)) (by (with_reducible repeat (first | refine blk_drewN ?_ _ | refine blk_drew ?_ | refine blk_alloc ?_ _)); exact BK186.out) hb); have n4_ := Aside0.mk (below_step (by repeat (first | (with_reducible first | exact HB.out | apply below_alloc | apply pw_below_drewN | apply below_drew1 | refine below_set ?_ GE186.out) | exact HB.out)) hb); clear HO173; clear HO181; clear HO192; clear BK186; clear HB; have HO173 := n0_; have HO181 := n1_; have HO192 := n2_; have BK186 := n3_; have HB := n4_; clear n0_ n1_ n2_ n3_ n4_; (try clear hb); (try clear hb2); (try clear hk); (try clear hi)))
              go_meet
              case rel => exact ⟨_, ((t198 != 0)), (by first | rfl | (simp; done) | (simp [*]; done)), H', ⟨by first | omega | exact Nat.le_refl _⟩, ⟨by (with_reducible repeat (first | apply Kd.Q_alloc | apply Kd.Q_drewN | apply Kd.Q_drew)); exact Kd.Q_mono HO192.out (fun _ hk => trivial)⟩, ⟨by (with_reducible repeat (first | refine blk_drewN ?_ _ | refine blk_drew ?_ | refine blk_alloc ?_ _)); exact BK186.out⟩, ⟨by repeat (first | (with_reducible first | exact HB.out | apply below_alloc | apply pw_below_drewN | apply below_drew1 | refine below_set ?_ GE186.out) | exact HB.out)⟩⟩
            · replace c19 := Bool.eq_false_iff.mpr c19
              subst c19
              have H1 : (folkmootlaw20_good.j0 k t185 true t187 t188 t189 t190 t193 t194) = some r := by rw [if_neg (show ¬ (false = true) by decide)] at H; exact H
              clear H
              have H := H1
              clear H1
              have H' := Aside0.mk H
              clear H
              have hcz25_0 : w11.cell? ⟨gb186, 0, none⟩ = some (.int .i64 t176) := (blk_cell BK186.out 0).trans rfl
              have hcz25_1 : w11.cell? ⟨gb186, 1, none⟩ = some (.int .i64 t177) := (blk_cell BK186.out 1).trans rfl
              have hcz25_2 : w11.cell? ⟨gb186, 2, none⟩ = some (.int .i64 t178) := (blk_cell BK186.out 2).trans rfl
              have hcz25_3 : w11.cell? ⟨gb186, 3, none⟩ = some (.slice Ao10 t179.length co10) := (blk_cell BK186.out 3).trans rfl
              have hcz25_4 : w11.cell? ⟨gb186, 4, none⟩ = some (.int .i64 t182) := (blk_cell BK186.out 4).trans rfl
              have hcz25_5 : w11.cell? ⟨gb186, 5, none⟩ = some (.int .i64 t183) := (blk_cell BK186.out 5).trans rfl
              have hfz25_0 := blk_frozen BK186.out 0
              have hfz25_1 := blk_frozen BK186.out 1
              have hfz25_2 := blk_frozen BK186.out 2
              have hfz25_3 := blk_frozen BK186.out 3
              have hfz25_4 := blk_frozen BK186.out 4
              have hfz25_5 := blk_frozen BK186.out 5
              go_wp2_with (first | (go_at_call 18; (with_reducible refine (lease_Good.calls k t187 t188 t189 _ _ t190 t193 t194 false _ ?side1 ?side2 A18.out).mono ?_); (case side1 => refine (Kd.Q_reads' (e := 59) (base := w.heap.size) (ok := fun k_ => ((True ∧ some k_ ≠ (.slice Ao6 t171.length co6 : Value).ownBlock) ∧ some k_ ≠ (.slice Ao10 t179.length co10 : Value).ownBlock)) (n := t190.length) (c := co13) ?_).2.2; exact (by (with_reducible repeat (first | apply Kd.Q_alloc | apply Kd.Q_drewN | apply Kd.Q_drew)); exact (Kd.Q_mono (Kd.Q_far (p := ⟨gb186, 5, none⟩) (Kd.Q_far (p := ⟨gb186, 4, none⟩) (Kd.Q_far (p := ⟨gb186, 3, none⟩) (Kd.Q_far (p := ⟨gb186, 2, none⟩) (Kd.Q_far (p := ⟨gb186, 1, none⟩) (Kd.Q_far (p := ⟨gb186, 0, none⟩) (Kd.Q_types HO192.out BK186.out (by decide)) (fun _ hk => hk.2) (.int .i64 t187)) (fun _ hk => hk.2) (.int .i64 t188)) (fun _ hk => hk.2) (.int .i64 t189)) (fun _ hk => hk.2) (.slice Ao13 t190.length co13)) (fun _ hk => hk.2) (.int .i64 t193)) (fun _ hk => hk.2) (.int .i64 t194)) (fun _ h_ => h_.1)))); (case side2 => exact (Kd.Q_reads' HO192.out).2.1); rintro e w26 ⟨rfl, hb⟩; have n0_ := Aside0.mk (Kd.R_below (by (with_reducible repeat (first | apply Kd.R_alloc | apply Kd.R_drewN | apply Kd.R_drew)); exact (Kd.R_mono (Kd.R_far (p := ⟨gb186, 5, none⟩) (Kd.R_far (p := ⟨gb186, 4, none⟩) (Kd.R_far (p := ⟨gb186, 3, none⟩) (Kd.R_far (p := ⟨gb186, 2, none⟩) (Kd.R_far (p := ⟨gb186, 1, none⟩) (Kd.R_far (p := ⟨gb186, 0, none⟩) (Kd.R_types HO173.out BK186.out (by decide)) (fun _ hk => hk.2) (.int .i64 t187)) (fun _ hk => hk.2) (.int .i64 t188)) (fun _ hk => hk.2) (.int .i64 t189)) (fun _ hk => hk.2) (.slice Ao13 t190.length co13)) (fun _ hk => hk.2) (.int .i64 t193)) (fun _ hk => hk.2) (.int .i64 t194)) (fun _ h_ => h_.1))) hb); have n1_ := Aside0.mk (Kd.Q_below (by (with_reducible repeat (first | apply Kd.Q_alloc | apply Kd.Q_drewN | apply Kd.Q_drew)); exact (Kd.Q_mono (Kd.Q_far (p := ⟨gb186, 5, none⟩) (Kd.Q_far (p := ⟨gb186, 4, none⟩) (Kd.Q_far (p := ⟨gb186, 3, none⟩) (Kd.Q_far (p := ⟨gb186, 2, none⟩) (Kd.Q_far (p := ⟨gb186, 1, none⟩) (Kd.Q_far (p := ⟨gb186, 0, none⟩) (Kd.Q_types HO181.out BK186.out (by decide)) (fun _ hk => hk.2) (.int .i64 t187)) (fun _ hk => hk.2) (.int .i64 t188)) (fun _ hk => hk.2) (.int .i64 t189)) (fun _ hk => hk.2) (.slice Ao13 t190.length co13)) (fun _ hk => hk.2) (.int .i64 t193)) (fun _ hk => hk.2) (.int .i64 t194)) (fun _ h_ => h_.1))) hb); have n2_ := Aside0.mk (Kd.Q_below (by (with_reducible repeat (first | apply Kd.Q_alloc | apply Kd.Q_drewN | apply Kd.Q_drew)); exact (Kd.Q_mono (Kd.Q_far (p := ⟨gb186, 5, none⟩) (Kd.Q_far (p := ⟨gb186, 4, none⟩) (Kd.Q_far (p := ⟨gb186, 3, none⟩) (Kd.Q_far (p := ⟨gb186, 2, none⟩) (Kd.Q_far (p := ⟨gb186, 1, none⟩) (Kd.Q_far (p := ⟨gb186, 0, none⟩) (Kd.Q_types HO192.out BK186.out (by decide)) (fun _ hk => hk.2) (.int .i64 t187)) (fun _ hk => hk.2) (.int .i64 t188)) (fun _ hk => hk.2) (.int .i64 t189)) (fun _ hk => hk.2) (.slice Ao13 t190.length co13)) (fun _ hk => hk.2) (.int .i64 t193)) (fun _ hk => hk.2) (.int .i64 t194)) (fun _ h_ => h_.1))) hb); have n3_ := Aside0.mk (blk_below (g := gb186) (o := .cells #[.int .i64 t187, .int .i64 t188, .int .i64 t189, .slice Ao13 t190.length co13, .int .i64 t193, .int .i64 t194] 29 (0, 0)) (by (with_reducible repeat (first | refine blk_drewN ?_ _ | refine blk_drew ?_ | refine blk_alloc ?_ _)); refine blk_put (cs := #[.int .i64 t187, .int .i64 t188, .int .i64 t189, .slice Ao13 t190.length co13, .int .i64 t193, .int .i64 t183]) ?_ 5 _ rfl; (with_reducible repeat (first | refine blk_drewN ?_ _ | refine blk_drew ?_ | refine blk_alloc ?_ _)); refine blk_put (cs := #[.int .i64 t187, .int .i64 t188, .int .i64 t189, .slice Ao13 t190.length co13, .int .i64 t182, .int .i64 t183]) ?_ 4 _ rfl; (with_reducible repeat (first | refine blk_drewN ?_ _ | refine blk_drew ?_ | refine blk_alloc ?_ _)); refine blk_put (cs := #[.int .i64 t187, .int .i64 t188, .int .i64 t189, .slice Ao10 t179.length co10, .int .i64 t182, .int .i64 t183]) ?_ 3 _ rfl; (with_reducible repeat (first | refine blk_drewN ?_ _ | refine blk_drew ?_ | refine blk_alloc ?_ _)); refine blk_put (cs := #[.int .i64 t187, .int .i64 t188, .int .i64 t178, .slice Ao10 t179.length co10, .int .i64 t182, .int .i64 t183]) ?_ 2 _ rfl; (with_reducible repeat (first | refine blk_drewN ?_ _ | refine blk_drew ?_ | refine blk_alloc ?_ _)); refine blk_put (cs := #[.int .i64 t187, .int .i64 t177, .int .i64 t178, .slice Ao10 t179.length co10, .int .i64 t182, .int .i64 t183]) ?_ 1 _ rfl; (with_reducible repeat (first | refine blk_drewN ?_ _ | refine blk_drew ?_ | refine blk_alloc ?_ _)); refine blk_put (cs := #[.int .i64 t176, .int .i64 t177, .int .i64 t178, .slice Ao10 t179.length co10, .int .i64 t182, .int .i64 t183]) ?_ 0 _ rfl; (with_reducible repeat (first | refine blk_drewN ?_ _ | refine blk_drew ?_ | refine blk_alloc ?_ _)); exact BK186.out) hb); have n4_ := Aside0.mk (below_step (by repeat (first | (with_reducible first | exact HB.out | apply below_alloc | apply pw_below_drewN | apply below_drew1 | refine below_set ?_ GE186.out) | exact HB.out)) hb); clear HO173; clear HO181; clear HO192; clear BK186; clear HB; have HO173 := n0_; have HO181 := n1_; have HO192 := n2_; have BK186 := n3_; have HB := n4_; clear n0_ n1_ n2_ n3_ n4_; (try clear hb); (try clear hb2); (try clear hk); (try clear hi)))
              go_meet
              case rel => exact ⟨_, (true), (by first | rfl | (simp; done) | (simp [*]; done)), H', ⟨by first | omega | exact Nat.le_refl _⟩, ⟨by (with_reducible repeat (first | apply Kd.Q_alloc | apply Kd.Q_drewN | apply Kd.Q_drew)); exact Kd.Q_mono HO192.out (fun _ hk => trivial)⟩, ⟨by (with_reducible repeat (first | refine blk_drewN ?_ _ | refine blk_drew ?_ | refine blk_alloc ?_ _)); exact BK186.out⟩, ⟨by repeat (first | (with_reducible first | exact HB.out | apply below_alloc | apply pw_below_drewN | apply below_drew1 | refine below_set ?_ GE186.out) | exact HB.out)⟩⟩
          · replace c17 := Bool.eq_false_iff.mpr c17
            subst c17
            have H1 : (folkmootlaw20_good.j0 k t185 true t187 t188 t189 t190 t193 t194) = some r := by rw [if_neg (show ¬ (false = true) by decide)] at H; exact H
            clear H
            have H := H1
            clear H1
            have H' := Aside0.mk H
            clear H
            go_wp2
            go_meet
            case rel => exact ⟨_, (true), (by first | rfl | (simp; done) | (simp [*]; done)), H', ⟨by first | omega | exact Nat.le_refl _⟩, ⟨by (with_reducible repeat (first | apply Kd.Q_alloc | apply Kd.Q_drewN | apply Kd.Q_drew)); exact Kd.Q_mono (Kd.Q_far (p := ⟨gb186, 5, none⟩) (Kd.Q_far (p := ⟨gb186, 4, none⟩) (Kd.Q_far (p := ⟨gb186, 3, none⟩) (Kd.Q_far (p := ⟨gb186, 2, none⟩) (Kd.Q_far (p := ⟨gb186, 1, none⟩) (Kd.Q_far (p := ⟨gb186, 0, none⟩) (Kd.Q_types HO192.out BK186.out (by decide)) (fun _ hk => hk.2) (.int .i64 t187)) (fun _ hk => hk.2) (.int .i64 t188)) (fun _ hk => hk.2) (.int .i64 t189)) (fun _ hk => hk.2) (.slice Ao13 t190.length co13)) (fun _ hk => hk.2) (.int .i64 t193)) (fun _ hk => hk.2) (.int .i64 t194)) (fun _ hk => trivial)⟩, ⟨by (with_reducible repeat (first | refine blk_drewN ?_ _ | refine blk_drew ?_ | refine blk_alloc ?_ _)); refine blk_put (cs := #[.int .i64 t187, .int .i64 t188, .int .i64 t189, .slice Ao13 t190.length co13, .int .i64 t193, .int .i64 t183]) ?_ 5 _ rfl; (with_reducible repeat (first | refine blk_drewN ?_ _ | refine blk_drew ?_ | refine blk_alloc ?_ _)); refine blk_put (cs := #[.int .i64 t187, .int .i64 t188, .int .i64 t189, .slice Ao13 t190.length co13, .int .i64 t182, .int .i64 t183]) ?_ 4 _ rfl; (with_reducible repeat (first | refine blk_drewN ?_ _ | refine blk_drew ?_ | refine blk_alloc ?_ _)); refine blk_put (cs := #[.int .i64 t187, .int .i64 t188, .int .i64 t189, .slice Ao10 t179.length co10, .int .i64 t182, .int .i64 t183]) ?_ 3 _ rfl; (with_reducible repeat (first | refine blk_drewN ?_ _ | refine blk_drew ?_ | refine blk_alloc ?_ _)); refine blk_put (cs := #[.int .i64 t187, .int .i64 t188, .int .i64 t178, .slice Ao10 t179.length co10, .int .i64 t182, .int .i64 t183]) ?_ 2 _ rfl; (with_reducible repeat (first | refine blk_drewN ?_ _ | refine blk_drew ?_ | refine blk_alloc ?_ _)); refine blk_put (cs := #[.int .i64 t187, .int .i64 t177, .int .i64 t178, .slice Ao10 t179.length co10, .int .i64 t182, .int .i64 t183]) ?_ 1 _ rfl; (with_reducible repeat (first | refine blk_drewN ?_ _ | refine blk_drew ?_ | refine blk_alloc ?_ _)); refine blk_put (cs := #[.int .i64 t176, .int .i64 t177, .int .i64 t178, .slice Ao10 t179.length co10, .int .i64 t182, .int .i64 t183]) ?_ 0 _ rfl; (with_reducible repeat (first | refine blk_drewN ?_ _ | refine blk_drew ?_ | refine blk_alloc ?_ _)); exact BK186.out⟩, ⟨by repeat (first | (with_reducible first | exact HB.out | apply below_alloc | apply pw_below_drewN | apply below_drew1 | refine below_set ?_ GE186.out) | exact HB.out)⟩⟩
        · rw [if_neg c16] at H
          have c16b0 : (t184 == 1) = false := beq_eq_false_iff_ne.mpr c16
          have c16b1 : (t184 != 1) = true := bne_iff_ne.mpr c16
          have H' := Aside0.mk H
          clear H
          go_wp2
          go_meet
          case rel => exact ⟨_, (true), (by first | rfl | (simp; done) | (simp [*]; done)), H', ⟨by first | omega | exact Nat.le_refl _⟩, ⟨by (with_reducible repeat (first | apply Kd.Q_alloc | apply Kd.Q_drewN | apply Kd.Q_drew)); exact Kd.Q_mono (Kd.Q_far (p := ⟨gb186, 5, none⟩) (Kd.Q_far (p := ⟨gb186, 4, none⟩) (Kd.Q_far (p := ⟨gb186, 3, none⟩) (Kd.Q_far (p := ⟨gb186, 2, none⟩) (Kd.Q_far (p := ⟨gb186, 1, none⟩) (Kd.Q_far (p := ⟨gb186, 0, none⟩) (Kd.Q_types HO192.out BK186.out (by decide)) (fun _ hk => hk.2) (.int .i64 t187)) (fun _ hk => hk.2) (.int .i64 t188)) (fun _ hk => hk.2) (.int .i64 t189)) (fun _ hk => hk.2) (.slice Ao13 t190.length co13)) (fun _ hk => hk.2) (.int .i64 t193)) (fun _ hk => hk.2) (.int .i64 t194)) (fun _ hk => trivial)⟩, ⟨by (with_reducible repeat (first | refine blk_drewN ?_ _ | refine blk_drew ?_ | refine blk_alloc ?_ _)); refine blk_put (cs := #[.int .i64 t187, .int .i64 t188, .int .i64 t189, .slice Ao13 t190.length co13, .int .i64 t193, .int .i64 t183]) ?_ 5 _ rfl; (with_reducible repeat (first | refine blk_drewN ?_ _ | refine blk_drew ?_ | refine blk_alloc ?_ _)); refine blk_put (cs := #[.int .i64 t187, .int .i64 t188, .int .i64 t189, .slice Ao13 t190.length co13, .int .i64 t182, .int .i64 t183]) ?_ 4 _ rfl; (with_reducible repeat (first | refine blk_drewN ?_ _ | refine blk_drew ?_ | refine blk_alloc ?_ _)); refine blk_put (cs := #[.int .i64 t187, .int .i64 t188, .int .i64 t189, .slice Ao10 t179.length co10, .int .i64 t182, .int .i64 t183]) ?_ 3 _ rfl; (with_reducible repeat (first | refine blk_drewN ?_ _ | refine blk_drew ?_ | refine blk_alloc ?_ _)); refine blk_put (cs := #[.int .i64 t187, .int .i64 t188, .int .i64 t178, .slice Ao10 t179.length co10, .int .i64 t182, .int .i64 t183]) ?_ 2 _ rfl; (with_reducible repeat (first | refine blk_drewN ?_ _ | refine blk_drew ?_ | refine blk_alloc ?_ _)); refine blk_put (cs := #[.int .i64 t187, .int .i64 t177, .int .i64 t178, .slice Ao10 t179.length co10, .int .i64 t182, .int .i64 t183]) ?_ 1 _ rfl; (with_reducible repeat (first | refine blk_drewN ?_ _ | refine blk_drew ?_ | refine blk_alloc ?_ _)); refine blk_put (cs := #[.int .i64 t176, .int .i64 t177, .int .i64 t178, .slice Ao10 t179.length co10, .int .i64 t182, .int .i64 t183]) ?_ 0 _ rfl; (with_reducible repeat (first | refine blk_drewN ?_ _ | refine blk_drew ?_ | refine blk_alloc ?_ _)); exact BK186.out⟩, ⟨by repeat (first | (with_reducible first | exact HB.out | apply below_alloc | apply pw_below_drewN | apply below_drew1 | refine below_set ?_ GE186.out) | exact HB.out)⟩⟩
      · rw [if_neg c15] at H
        have c15b0 : (t196 == 0) = false := beq_eq_false_iff_ne.mpr c15
        have c15b1 : (t196 != 0) = true := bne_iff_ne.mpr c15
        have H' := Aside0.mk H
        clear H
        go_wp2
        go_meet
        case rel => exact ⟨_, (true), (by first | rfl | (simp; done) | (simp [*]; done)), H', ⟨by first | omega | exact Nat.le_refl _⟩, ⟨by (with_reducible repeat (first | apply Kd.Q_alloc | apply Kd.Q_drewN | apply Kd.Q_drew)); exact Kd.Q_mono (Kd.Q_far (p := ⟨gb186, 5, none⟩) (Kd.Q_far (p := ⟨gb186, 4, none⟩) (Kd.Q_far (p := ⟨gb186, 3, none⟩) (Kd.Q_far (p := ⟨gb186, 2, none⟩) (Kd.Q_far (p := ⟨gb186, 1, none⟩) (Kd.Q_far (p := ⟨gb186, 0, none⟩) (Kd.Q_types HO192.out BK186.out (by decide)) (fun _ hk => hk.2) (.int .i64 t187)) (fun _ hk => hk.2) (.int .i64 t188)) (fun _ hk => hk.2) (.int .i64 t189)) (fun _ hk => hk.2) (.slice Ao13 t190.length co13)) (fun _ hk => hk.2) (.int .i64 t193)) (fun _ hk => hk.2) (.int .i64 t194)) (fun _ hk => trivial)⟩, ⟨by (with_reducible repeat (first | refine blk_drewN ?_ _ | refine blk_drew ?_ | refine blk_alloc ?_ _)); refine blk_put (cs := #[.int .i64 t187, .int .i64 t188, .int .i64 t189, .slice Ao13 t190.length co13, .int .i64 t193, .int .i64 t183]) ?_ 5 _ rfl; (with_reducible repeat (first | refine blk_drewN ?_ _ | refine blk_drew ?_ | refine blk_alloc ?_ _)); refine blk_put (cs := #[.int .i64 t187, .int .i64 t188, .int .i64 t189, .slice Ao13 t190.length co13, .int .i64 t182, .int .i64 t183]) ?_ 4 _ rfl; (with_reducible repeat (first | refine blk_drewN ?_ _ | refine blk_drew ?_ | refine blk_alloc ?_ _)); refine blk_put (cs := #[.int .i64 t187, .int .i64 t188, .int .i64 t189, .slice Ao10 t179.length co10, .int .i64 t182, .int .i64 t183]) ?_ 3 _ rfl; (with_reducible repeat (first | refine blk_drewN ?_ _ | refine blk_drew ?_ | refine blk_alloc ?_ _)); refine blk_put (cs := #[.int .i64 t187, .int .i64 t188, .int .i64 t178, .slice Ao10 t179.length co10, .int .i64 t182, .int .i64 t183]) ?_ 2 _ rfl; (with_reducible repeat (first | refine blk_drewN ?_ _ | refine blk_drew ?_ | refine blk_alloc ?_ _)); refine blk_put (cs := #[.int .i64 t187, .int .i64 t177, .int .i64 t178, .slice Ao10 t179.length co10, .int .i64 t182, .int .i64 t183]) ?_ 1 _ rfl; (with_reducible repeat (first | refine blk_drewN ?_ _ | refine blk_drew ?_ | refine blk_alloc ?_ _)); refine blk_put (cs := #[.int .i64 t176, .int .i64 t177, .int .i64 t178, .slice Ao10 t179.length co10, .int .i64 t182, .int .i64 t183]) ?_ 0 _ rfl; (with_reducible repeat (first | refine blk_drewN ?_ _ | refine blk_drew ?_ | refine blk_alloc ?_ _)); exact BK186.out⟩, ⟨by repeat (first | (with_reducible first | exact HB.out | apply below_alloc | apply pw_below_drewN | apply below_drew1 | refine below_set ?_ GE186.out) | exact HB.out)⟩⟩
    · rw [if_neg c14] at H
      have c14b0 : (t185 == 0) = false := beq_eq_false_iff_ne.mpr c14
      have c14b1 : (t185 != 0) = true := bne_iff_ne.mpr c14
      (first | rw [c14b0] | (simp only [i64_w, i32_w]; rw [c14b0]) | skip)
      have H' := Aside0.mk H
      clear H
      go_wp2
      go_meet
      case rel => exact ⟨_, (true), (by first | rfl | (simp; done) | (simp [*]; done)), H', ⟨by first | omega | exact Nat.le_refl _⟩, ⟨by (with_reducible repeat (first | apply Kd.Q_alloc | apply Kd.Q_drewN | apply Kd.Q_drew)); exact Kd.Q_mono (Kd.Q_far (p := ⟨gb186, 5, none⟩) (Kd.Q_far (p := ⟨gb186, 4, none⟩) (Kd.Q_far (p := ⟨gb186, 3, none⟩) (Kd.Q_far (p := ⟨gb186, 2, none⟩) (Kd.Q_far (p := ⟨gb186, 1, none⟩) (Kd.Q_far (p := ⟨gb186, 0, none⟩) (Kd.Q_types HO192.out BK186.out (by decide)) (fun _ hk => hk.2) (.int .i64 t187)) (fun _ hk => hk.2) (.int .i64 t188)) (fun _ hk => hk.2) (.int .i64 t189)) (fun _ hk => hk.2) (.slice Ao13 t190.length co13)) (fun _ hk => hk.2) (.int .i64 t193)) (fun _ hk => hk.2) (.int .i64 t194)) (fun _ hk => trivial)⟩, ⟨by (with_reducible repeat (first | refine blk_drewN ?_ _ | refine blk_drew ?_ | refine blk_alloc ?_ _)); refine blk_put (cs := #[.int .i64 t187, .int .i64 t188, .int .i64 t189, .slice Ao13 t190.length co13, .int .i64 t193, .int .i64 t183]) ?_ 5 _ rfl; (with_reducible repeat (first | refine blk_drewN ?_ _ | refine blk_drew ?_ | refine blk_alloc ?_ _)); refine blk_put (cs := #[.int .i64 t187, .int .i64 t188, .int .i64 t189, .slice Ao13 t190.length co13, .int .i64 t182, .int .i64 t183]) ?_ 4 _ rfl; (with_reducible repeat (first | refine blk_drewN ?_ _ | refine blk_drew ?_ | refine blk_alloc ?_ _)); refine blk_put (cs := #[.int .i64 t187, .int .i64 t188, .int .i64 t189, .slice Ao10 t179.length co10, .int .i64 t182, .int .i64 t183]) ?_ 3 _ rfl; (with_reducible repeat (first | refine blk_drewN ?_ _ | refine blk_drew ?_ | refine blk_alloc ?_ _)); refine blk_put (cs := #[.int .i64 t187, .int .i64 t188, .int .i64 t178, .slice Ao10 t179.length co10, .int .i64 t182, .int .i64 t183]) ?_ 2 _ rfl; (with_reducible repeat (first | refine blk_drewN ?_ _ | refine blk_drew ?_ | refine blk_alloc ?_ _)); refine blk_put (cs := #[.int .i64 t187, .int .i64 t177, .int .i64 t178, .slice Ao10 t179.length co10, .int .i64 t182, .int .i64 t183]) ?_ 1 _ rfl; (with_reducible repeat (first | refine blk_drewN ?_ _ | refine blk_drew ?_ | refine blk_alloc ?_ _)); refine blk_put (cs := #[.int .i64 t176, .int .i64 t177, .int .i64 t178, .slice Ao10 t179.length co10, .int .i64 t182, .int .i64 t183]) ?_ 0 _ rfl; (with_reducible repeat (first | refine blk_drewN ?_ _ | refine blk_drew ?_ | refine blk_alloc ?_ _)); exact BK186.out⟩, ⟨by repeat (first | (with_reducible first | exact HB.out | apply below_alloc | apply pw_below_drewN | apply below_drew1 | refine below_set ?_ GE186.out) | exact HB.out)⟩⟩
  case rest =>
    clear HC4
    try clear c1
    try clear c2
    try clear p2
    try clear c14
    try clear c14b0
    try clear c14b1
    try clear c15
    try clear c15b0
    try clear c15b1
    try clear c16
    try clear c16b0
    try clear c16b1
    try clear c17
    try clear c19
    try clear c21
    try clear c23
    try clear hcz12_0
    try clear hcz12_1
    try clear hcz12_2
    try clear hcz12_3
    try clear hcz12_4
    try clear hcz12_5
    try clear hcz21_0
    try clear hcz21_1
    try clear hcz21_2
    try clear hcz21_3
    try clear hcz21_4
    try clear hcz21_5
    try clear hcz23_0
    try clear hcz23_1
    try clear hcz23_2
    try clear hcz23_3
    try clear hcz23_4
    try clear hcz23_5
    try clear hcz25_0
    try clear hcz25_1
    try clear hcz25_2
    try clear hcz25_3
    try clear hcz25_4
    try clear hcz25_5
    try clear hcz9_0
    try clear hcz9_1
    try clear hcz9_2
    try clear hcz9_3
    try clear hcz9_4
    try clear hcz9_5
    try clear hfz12_0
    try clear hfz12_1
    try clear hfz12_2
    try clear hfz12_3
    try clear hfz12_4
    try clear hfz12_5
    try clear hfz21_0
    try clear hfz21_1
    try clear hfz21_2
    try clear hfz21_3
    try clear hfz21_4
    try clear hfz21_5
    try clear hfz23_0
    try clear hfz23_1
    try clear hfz23_2
    try clear hfz23_3
    try clear hfz23_4
    try clear hfz23_5
    try clear hfz25_0
    try clear hfz25_1
    try clear hfz25_2
    try clear hfz25_3
    try clear hfz25_4
    try clear hfz25_5
    try clear hfz9_0
    try clear hfz9_1
    try clear hfz9_2
    try clear hfz9_3
    try clear hfz9_4
    try clear hfz9_5
    obtain ⟨kq, x45_3, rfl, HA, HJ3, HO_187003, BK186, HB⟩ := hcut
    cases kq with
    | zero => exact absurd HA.out (by simp [folkmootlaw20_good.j0])
    | succ kj3 =>
      have H := HA.out
      clear HA
      simp only [folkmootlaw20_good.j0] at H
      by_cases c27 : x45_3 = true
      · subst c27
        have H1 : (some false) = some r := by rw [if_pos rfl] at H; exact H
        clear H
        have H := H1
        clear H1
        obtain rfl := Option.some.inj H
        go_wp2
        go_ret
        exact ⟨by first | rfl | (simp [errW_none, errW_some] <;> rfl) | (simp [*, errW_none, errW_some] <;> rfl), by repeat (first | (with_reducible first | exact HB.out | apply below_alloc | apply pw_below_drewN | apply below_drew1 | refine below_set ?_ GE186.out) | exact HB.out)⟩
      · replace c27 := Bool.eq_false_iff.mpr c27
        subst c27
        have H1 : (folkmootlaw20_good.l0 kj3 t185 0 t187 t188 t189 t190 t193 t194) = some r := by rw [if_neg (show ¬ (false = true) by decide)] at H; exact H
        clear H
        have H := H1
        clear H1
        have H' := Aside0.mk H
        clear H
        go_wp2
        go_loopg [3, 6] kj3 (fun kq v3 v6 w' => ∃ (x3_2 : Int) (x6_2 : Int) (x187000_2 : Int) (x187001_2 : Int) (x187002_2 : Int) (x187003_2 : List (S59)) (x187004_2 : Int) (x187005_2 : Int) (u187003 : Value), v3 = .int .i64 x3_2 ∧ v6 = .int .i64 x6_2 ∧ Aside0 (folkmootlaw20_good.l0 kq x3_2 x6_2 x187000_2 x187001_2 x187002_2 x187003_2 x187004_2 x187005_2 = some r) ∧ Aside0 (kq ≤ kj3) ∧ Aside0 (Kd.Q k59 59 w' w.heap.size (fun _ => True) u187003 x187003_2) ∧ Aside0 (w'.heap[gb186]? = some (.cells #[.int .i64 x187000_2, .int .i64 x187001_2, .int .i64 x187002_2, u187003, .int .i64 x187004_2, .int .i64 x187005_2] 29 (0, 0))) ∧ Aside0 (Below w.heap.size w w'))
        case atStart => exact ⟨(t185), (0), (t187), (t188), (t189), (t190), (t193), (t194), (.slice Ao13 t190.length co13), (by first | rfl | (simp; done) | (simp [*]; done)), (by first | rfl | (simp; done) | (simp [*]; done)), H', ⟨Nat.le_refl _⟩, ⟨by (with_reducible repeat (first | apply Kd.Q_alloc | apply Kd.Q_drewN | apply Kd.Q_drew)); exact HO_187003.out⟩, ⟨by (with_reducible repeat (first | refine blk_drewN ?_ _ | refine blk_drew ?_ | refine blk_alloc ?_ _)); exact BK186.out⟩, ⟨by repeat (first | (with_reducible first | exact HB.out | apply below_alloc | apply pw_below_drewN | apply below_drew1 | refine below_set ?_ GE186.out) | exact HB.out)⟩⟩
        case round =>
          clear H'
          try clear c1
          try clear c2
          try clear p2
          try clear c14
          try clear c14b0
          try clear c14b1
          try clear c15
          try clear c15b0
          try clear c15b1
          try clear c16
          try clear c16b0
          try clear c16b1
          try clear c17
          try clear c19
          try clear c21
          try clear c23
          try clear c27
          try clear hcz12_0
          try clear hcz12_1
          try clear hcz12_2
          try clear hcz12_3
          try clear hcz12_4
          try clear hcz12_5
          try clear hcz21_0
          try clear hcz21_1
          try clear hcz21_2
          try clear hcz21_3
          try clear hcz21_4
          try clear hcz21_5
          try clear hcz23_0
          try clear hcz23_1
          try clear hcz23_2
          try clear hcz23_3
          try clear hcz23_4
          try clear hcz23_5
          try clear hcz25_0
          try clear hcz25_1
          try clear hcz25_2
          try clear hcz25_3
          try clear hcz25_4
          try clear hcz25_5
          try clear hcz9_0
          try clear hcz9_1
          try clear hcz9_2
          try clear hcz9_3
          try clear hcz9_4
          try clear hcz9_5
          try clear hfz12_0
          try clear hfz12_1
          try clear hfz12_2
          try clear hfz12_3
          try clear hfz12_4
          try clear hfz12_5
          try clear hfz21_0
          try clear hfz21_1
          try clear hfz21_2
          try clear hfz21_3
          try clear hfz21_4
          try clear hfz21_5
          try clear hfz23_0
          try clear hfz23_1
          try clear hfz23_2
          try clear hfz23_3
          try clear hfz23_4
          try clear hfz23_5
          try clear hfz25_0
          try clear hfz25_1
          try clear hfz25_2
          try clear hfz25_3
          try clear hfz25_4
          try clear hfz25_5
          try clear hfz9_0
          try clear hfz9_1
          try clear hfz9_2
          try clear hfz9_3
          try clear hfz9_4
          try clear hfz9_5
          try clear p2
          obtain ⟨x3_2, x6_2, x187000_2, x187001_2, x187002_2, x187003_2, x187004_2, x187005_2, u187003, rfl, rfl, HA, HK2, HO_187003, BK186, HB⟩ := hrel
          cases gk with
          | zero => exact absurd HA.out (by simp [folkmootlaw20_good.l0])
          | succ k2 =>
            have H := HA.out
            clear HA
            simp only [folkmootlaw20_good.l0] at H
            by_cases c28 : x6_2 < 7
            · rw [if_pos c28] at H
              have c28b0 : decide (x6_2 < 7) = true := decide_eq_true c28
              clear c28
              replace H := Option.bind_eq_some_iff.mp H
              obtain ⟨⟨t199, t200, t201, t202, t205, t206, t207⟩, A290, H⟩ := H
              replace H : (folkmootlaw20_good.l0 k2 t207 (wrap64 (x6_2 + 1)) t199 t200 t201 t202 t205 t206) = some r := H
              have A29 := Aside0.mk A290
              clear A290
              have H' := Aside0.mk H
              clear H
              have hcz30_0 : wr.cell? ⟨gb186, 0, none⟩ = some (.int .i64 x187000_2) := (blk_cell BK186.out 0).trans rfl
              have hcz30_1 : wr.cell? ⟨gb186, 1, none⟩ = some (.int .i64 x187001_2) := (blk_cell BK186.out 1).trans rfl
              have hcz30_2 : wr.cell? ⟨gb186, 2, none⟩ = some (.int .i64 x187002_2) := (blk_cell BK186.out 2).trans rfl
              have hcz30_3 : wr.cell? ⟨gb186, 3, none⟩ = some (u187003) := (blk_cell BK186.out 3).trans rfl
              have hcz30_4 : wr.cell? ⟨gb186, 4, none⟩ = some (.int .i64 x187004_2) := (blk_cell BK186.out 4).trans rfl
              have hcz30_5 : wr.cell? ⟨gb186, 5, none⟩ = some (.int .i64 x187005_2) := (blk_cell BK186.out 5).trans rfl
              have hfz30_0 := blk_frozen BK186.out 0
              have hfz30_1 := blk_frozen BK186.out 1
              have hfz30_2 := blk_frozen BK186.out 2
              have hfz30_3 := blk_frozen BK186.out 3
              have hfz30_4 := blk_frozen BK186.out 4
              have hfz30_5 := blk_frozen BK186.out 5
              obtain ⟨Ao31, co31, eo31, _⟩ := Kd.Q_slice HO_187003.out
              subst eo31
              go_wp2_with (first | ((with_reducible refine gate_callee (f := 14) rfl ?_); refine goesL_ (some 52) rfl rfl Try.func14 (by kernel_rfl) rfl #[.agg #[.int .i64 x187000_2, .int .i64 x187001_2, .int .i64 x187002_2, .slice Ao31 x187003_2.length co31, .int .i64 x187004_2, .int .i64 x187005_2]] rfl (by (try simp only [List.map_toArray, List.map_cons, List.map_nil]); first | done | rfl | (simp only [List.length_drop, List.length_take]; rfl)) ?_; (with_reducible refine (lease_Tick.calls k2 x187000_2 x187001_2 x187002_2 _ _ x187003_2 x187004_2 x187005_2 t199 t200 t201 t202 t205 t206 t207 _ ?side1 ?side2 A29.out).mono ?_); (case side1 => repeat (first | exact (Kd.Q_reads' HO_187003.out).2.2 | (with_reducible refine Kd.C_alloc ?_ _) | (with_reducible refine Kd.C_drewN ?_ _) | (with_reducible refine Kd.C_drew ?_))); (case side2 => exact (Kd.Q_reads' HO_187003.out).2.1); rintro e w32 ⟨v203, rfl, ho0, hb⟩; refine ⟨_, rfl, ?_⟩; have n0_ := Aside0.mk (Kd.Q_elder' (by (with_reducible repeat (first | apply Kd.Q_alloc | apply Kd.Q_drewN | apply Kd.Q_drew)); exact HO_187003.out) (Kd.R_base ho0) hb); have n1_ := Aside0.mk (Kd.R_lower (Kd.R_new' ho0 (Kd.Q_lt (by (with_reducible repeat (first | apply Kd.Q_alloc | apply Kd.Q_drewN | apply Kd.Q_drew)); exact HO_187003.out))) (below_size (by repeat (first | (with_reducible first | exact HB.out | apply below_alloc | apply pw_below_drewN | apply below_drew1 | refine below_set ?_ GE186.out) | exact HB.out)))); have n2_ := Aside0.mk (blk_below (g := gb186) (o := .cells #[.int .i64 x187000_2, .int .i64 x187001_2, .int .i64 x187002_2, .slice Ao31 x187003_2.length co31, .int .i64 x187004_2, .int .i64 x187005_2] 29 (0, 0)) (by (with_reducible repeat (first | refine blk_drewN ?_ _ | refine blk_drew ?_ | refine blk_alloc ?_ _)); exact BK186.out) hb); have n3_ := Aside0.mk (below_step (by repeat (first | (with_reducible first | exact HB.out | apply below_alloc | apply pw_below_drewN | apply below_drew1 | refine below_set ?_ GE186.out) | exact HB.out)) hb); clear HO_187003; clear BK186; clear HB; have HO_187003 := n0_; have HO204 := n1_; have BK186 := n2_; have HB := n3_; clear n0_ n1_ n2_ n3_; (try clear hb); (try clear hb2); (try clear hk); (try clear hi); (try clear ho0); have hcz33_0 : w32.cell? ⟨gb186, 0, none⟩ = some (.int .i64 x187000_2) := (blk_cell BK186.out 0).trans rfl; have hcz33_1 : w32.cell? ⟨gb186, 1, none⟩ = some (.int .i64 x187001_2) := (blk_cell BK186.out 1).trans rfl; have hcz33_2 : w32.cell? ⟨gb186, 2, none⟩ = some (.int .i64 x187002_2) := (blk_cell BK186.out 2).trans rfl; have hcz33_3 : w32.cell? ⟨gb186, 3, none⟩ = some (.slice Ao31 x187003_2.length co31) := (blk_cell BK186.out 3).trans rfl; have hcz33_4 : w32.cell? ⟨gb186, 4, none⟩ = some (.int .i64 x187004_2) := (blk_cell BK186.out 4).trans rfl; have hcz33_5 : w32.cell? ⟨gb186, 5, none⟩ = some (.int .i64 x187005_2) := (blk_cell BK186.out 5).trans rfl; have hfz33_0 := blk_frozen BK186.out 0; have hfz33_1 := blk_frozen BK186.out 1; have hfz33_2 := blk_frozen BK186.out 2; have hfz33_3 := blk_frozen BK186.out 3; have hfz33_4 := blk_frozen BK186.out 4; have hfz33_5 := blk_frozen BK186.out 5; obtain ⟨Ao34, co34, eo34⟩ := Kd.R_slice HO204.out; subst eo34))
              go_roundg k2
              case measure => have := HJ3.out; have := HK2.out; omega
              case rel => exact ⟨(t207), (wrap64 (x6_2 + 1)), (t199), (t200), (t201), (t202), (t205), (t206), (.slice Ao34 t202.length co34), (by first | rfl | (simp; done) | (simp [*]; done)), (by first | rfl | (simp; done) | (simp [*]; done)), H', ⟨by have := HJ3.out; have := HK2.out; omega⟩, ⟨Kd.Q_of_R (by (with_reducible repeat (first | apply Kd.R_alloc | apply Kd.R_drewN | apply Kd.R_drew)); exact Kd.R_mono (Kd.R_far (p := ⟨gb186, 5, none⟩) (Kd.R_far (p := ⟨gb186, 4, none⟩) (Kd.R_far (p := ⟨gb186, 3, none⟩) (Kd.R_far (p := ⟨gb186, 2, none⟩) (Kd.R_far (p := ⟨gb186, 1, none⟩) (Kd.R_far (p := ⟨gb186, 0, none⟩) (Kd.R_types HO204.out BK186.out (by decide)) (fun _ hk => hk.2) (.int .i64 t199)) (fun _ hk => hk.2) (.int .i64 t200)) (fun _ hk => hk.2) (.int .i64 t201)) (fun _ hk => hk.2) (.slice Ao34 t202.length co34)) (fun _ hk => hk.2) (.int .i64 t205)) (fun _ hk => hk.2) (.int .i64 t206)) (fun _ hk => trivial))⟩, ⟨by (with_reducible repeat (first | refine blk_drewN ?_ _ | refine blk_drew ?_ | refine blk_alloc ?_ _)); refine blk_put (cs := #[.int .i64 t199, .int .i64 t200, .int .i64 t201, .slice Ao34 t202.length co34, .int .i64 t205, .int .i64 x187005_2]) ?_ 5 _ rfl; (with_reducible repeat (first | refine blk_drewN ?_ _ | refine blk_drew ?_ | refine blk_alloc ?_ _)); refine blk_put (cs := #[.int .i64 t199, .int .i64 t200, .int .i64 t201, .slice Ao34 t202.length co34, .int .i64 x187004_2, .int .i64 x187005_2]) ?_ 4 _ rfl; (with_reducible repeat (first | refine blk_drewN ?_ _ | refine blk_drew ?_ | refine blk_alloc ?_ _)); refine blk_put (cs := #[.int .i64 t199, .int .i64 t200, .int .i64 t201, .slice Ao31 x187003_2.length co31, .int .i64 x187004_2, .int .i64 x187005_2]) ?_ 3 _ rfl; (with_reducible repeat (first | refine blk_drewN ?_ _ | refine blk_drew ?_ | refine blk_alloc ?_ _)); refine blk_put (cs := #[.int .i64 t199, .int .i64 t200, .int .i64 x187002_2, .slice Ao31 x187003_2.length co31, .int .i64 x187004_2, .int .i64 x187005_2]) ?_ 2 _ rfl; (with_reducible repeat (first | refine blk_drewN ?_ _ | refine blk_drew ?_ | refine blk_alloc ?_ _)); refine blk_put (cs := #[.int .i64 t199, .int .i64 x187001_2, .int .i64 x187002_2, .slice Ao31 x187003_2.length co31, .int .i64 x187004_2, .int .i64 x187005_2]) ?_ 1 _ rfl; (with_reducible repeat (first | refine blk_drewN ?_ _ | refine blk_drew ?_ | refine blk_alloc ?_ _)); refine blk_put (cs := #[.int .i64 x187000_2, .int .i64 x187001_2, .int .i64 x187002_2, .slice Ao31 x187003_2.length co31, .int .i64 x187004_2, .int .i64 x187005_2]) ?_ 0 _ rfl; (with_reducible repeat (first | refine blk_drewN ?_ _ | refine blk_drew ?_ | refine blk_alloc ?_ _)); exact BK186.out⟩, ⟨by repeat (first | (with_reducible first | exact HB.out | apply below_alloc | apply pw_below_drewN | apply below_drew1 | refine below_set ?_ GE186.out) | exact HB.out)⟩⟩
            · rw [if_neg c28] at H
              have c28b0 : decide (x6_2 < 7) = false := decide_eq_false c28
              clear c28
              replace H := Option.bind_eq_some_iff.mp H
              obtain ⟨⟨t208, t209, t210, t211, t214, t215, t216⟩, A350, H⟩ := H
              replace H : (if x3_2 = 0 then (if t216 = 0 then ((lease_Good.f k2 x187000_2 x187001_2 x187002_2 x187003_2 x187004_2 x187005_2).bind fun t218 => (if t218 = true then ((lease_Good.f k2 t208 t209 t210 t211 t214 t215).bind fun t219 => (some (!t219))) else (none))) else (none)) else (none)) = some r := H
              have A35 := Aside0.mk A350
              clear A350
              by_cases c36 : x3_2 = 0
              · rw [if_pos c36] at H
                have c36b0 : (x3_2 == 0) = true := beq_iff_eq.mpr c36
                have c36b1 : (x3_2 != 0) = false := bne_eq_false_iff_eq.mpr c36
                clear c36
                by_cases c37 : t216 = 0
                · rw [if_pos c37] at H
                  have c37b0 : (t216 == 0) = true := beq_iff_eq.mpr c37
                  have c37b1 : (t216 != 0) = false := bne_eq_false_iff_eq.mpr c37
                  clear c37
                  replace H := Option.bind_eq_some_iff.mp H
                  obtain ⟨t218, A380, H⟩ := H
                  replace H : (if t218 = true then ((lease_Good.f k2 t208 t209 t210 t211 t214 t215).bind fun t219 => (some (!t219))) else (none)) = some r := H
                  have A38 := Aside0.mk A380
                  clear A380
                  by_cases c39 : t218 = true
                  · subst c39
                    have H1 : ((lease_Good.f k2 t208 t209 t210 t211 t214 t215).bind fun t219 => (some (!t219))) = some r := by rw [if_pos rfl] at H; exact H
                    clear H
                    have H := H1
                    clear H1
                    replace H := Option.bind_eq_some_iff.mp H
                    obtain ⟨t219, A400, H⟩ := H
                    replace H : (some (!t219)) = some r := H
                    have A40 := Aside0.mk A400
                    clear A400
                    obtain rfl := Option.some.inj H
                    have hcz41_0 : wr.cell? ⟨gb186, 0, none⟩ = some (.int .i64 x187000_2) := (blk_cell BK186.out 0).trans rfl
                    have hcz41_1 : wr.cell? ⟨gb186, 1, none⟩ = some (.int .i64 x187001_2) := (blk_cell BK186.out 1).trans rfl
                    have hcz41_2 : wr.cell? ⟨gb186, 2, none⟩ = some (.int .i64 x187002_2) := (blk_cell BK186.out 2).trans rfl
                    have hcz41_3 : wr.cell? ⟨gb186, 3, none⟩ = some (u187003) := (blk_cell BK186.out 3).trans rfl
                    have hcz41_4 : wr.cell? ⟨gb186, 4, none⟩ = some (.int .i64 x187004_2) := (blk_cell BK186.out 4).trans rfl
                    have hcz41_5 : wr.cell? ⟨gb186, 5, none⟩ = some (.int .i64 x187005_2) := (blk_cell BK186.out 5).trans rfl
                    have hfz41_0 := blk_frozen BK186.out 0
                    have hfz41_1 := blk_frozen BK186.out 1
                    have hfz41_2 := blk_frozen BK186.out 2
                    have hfz41_3 := blk_frozen BK186.out 3
                    have hfz41_4 := blk_frozen BK186.out 4
                    have hfz41_5 := blk_frozen BK186.out 5
                    obtain ⟨Ao42, co42, eo42, _⟩ := Kd.Q_slice HO_187003.out
                    subst eo42
                    go_wp2_with (first | ((with_reducible refine gate_callee (f := 14) rfl ?_); refine goesL_ (some 57) rfl rfl Try.func14 (by kernel_rfl) rfl #[.agg #[.int .i64 x187000_2, .int .i64 x187001_2, .int .i64 x187002_2, .slice Ao42 x187003_2.length co42, .int .i64 x187004_2, .int .i64 x187005_2]] rfl (by (try simp only [List.map_toArray, List.map_cons, List.map_nil]); first | done | rfl | (simp only [List.length_drop, List.length_take]; rfl)) ?_; (with_reducible refine (lease_Tick.calls k2 x187000_2 x187001_2 x187002_2 _ _ x187003_2 x187004_2 x187005_2 t208 t209 t210 t211 t214 t215 t216 _ ?side1 ?side2 A35.out).mono ?_); (case side1 => repeat (first | exact (Kd.Q_reads' HO_187003.out).2.2 | (with_reducible refine Kd.C_alloc ?_ _) | (with_reducible refine Kd.C_drewN ?_ _) | (with_reducible refine Kd.C_drew ?_))); (case side2 => exact (Kd.Q_reads' HO_187003.out).2.1); rintro e w43 ⟨v212, rfl, ho0, hb⟩; refine ⟨_, rfl, ?_⟩; have n0_ := Aside0.mk (Kd.Q_elder' (by (with_reducible repeat (first | apply Kd.Q_alloc | apply Kd.Q_drewN | apply Kd.Q_drew)); exact HO_187003.out) (Kd.R_base ho0) hb); have n1_ := Aside0.mk (Kd.R_lower (Kd.R_new' ho0 (Kd.Q_lt (by (with_reducible repeat (first | apply Kd.Q_alloc | apply Kd.Q_drewN | apply Kd.Q_drew)); exact HO_187003.out))) (below_size (by repeat (first | (with_reducible first | exact HB.out | apply below_alloc | apply pw_below_drewN | apply below_drew1 | refine below_set ?_ GE186.out) | exact HB.out)))); have n2_ := Aside0.mk (blk_below (g := gb186) (o := .cells #[.int .i64 x187000_2, .int .i64 x187001_2, .int .i64 x187002_2, .slice Ao42 x187003_2.length co42, .int .i64 x187004_2, .int .i64 x187005_2] 29 (0, 0)) (by (with_reducible repeat (first | refine blk_drewN ?_ _ | refine blk_drew ?_ | refine blk_alloc ?_ _)); exact BK186.out) hb); have n3_ := Aside0.mk (below_step (by repeat (first | (with_reducible first | exact HB.out | apply below_alloc | apply pw_below_drewN | apply below_drew1 | refine below_set ?_ GE186.out) | exact HB.out)) hb); clear HO_187003; clear BK186; clear HB; have HO_187003 := n0_; have HO213 := n1_; have BK186 := n2_; have HB := n3_; clear n0_ n1_ n2_ n3_; (try clear hb); (try clear hb2); (try clear hk); (try clear hi); (try clear ho0)) | ((with_reducible refine gate_dst (N := 7) rfl ?_); refine box_event ?hg (N := 7) ?hd (cs := #[.int .i64 0, .int .i64 0, .int .i64 0, .slice none 0 0, .int .i64 0, .int .i64 0]) (t := 29) ?hr ?_; (case hd => rfl); (case hg => rfl); (case hr => first | (go_simp; done) | (go_simp; rfl)); intro gb217 hg w44 hbox hb; have n0_ := Aside0.mk (Kd.Q_below (by (with_reducible repeat (first | apply Kd.Q_alloc | apply Kd.Q_drewN | apply Kd.Q_drew)); exact HO_187003.out) hb); have n1_ := Aside0.mk (Kd.R_below (by (with_reducible repeat (first | apply Kd.R_alloc | apply Kd.R_drewN | apply Kd.R_drew)); exact HO213.out) hb); have n2_ := Aside0.mk (blk_below (g := gb186) (o := .cells #[.int .i64 x187000_2, .int .i64 x187001_2, .int .i64 x187002_2, .slice Ao42 x187003_2.length co42, .int .i64 x187004_2, .int .i64 x187005_2] 29 (0, 0)) (by (with_reducible repeat (first | refine blk_drewN ?_ _ | refine blk_drew ?_ | refine blk_alloc ?_ _)); exact BK186.out) hb); have n3_ := Aside0.mk (below_step (by repeat (first | (with_reducible first | exact HB.out | apply below_alloc | apply pw_below_drewN | apply below_drew1 | refine below_set ?_ GE186.out) | exact HB.out)) hb); have n4_ := Aside0.mk (hbox); have n5_ := Aside0.mk ((by rw [hg]; exact (below_size (by repeat (first | (with_reducible first | exact HB.out | apply below_alloc | apply pw_below_drewN | apply below_drew1 | refine below_set ?_ GE186.out) | exact HB.out))) : w.heap.size ≤ gb217)); have n6_ := Aside0.mk ((by rw [hg]; exact (below_size (by repeat (first | (with_reducible first | exact HB.out | apply below_alloc | apply pw_below_drewN | apply below_drew1 | refine below_set ?_ GE186.out) | exact HB.out))) : w.heap.size ≤ gb217)); have n7_ := Aside0.mk ((by rw [hg]; exact Nat.ne_of_lt (blk_lt (g := gb186) (o := .cells #[.int .i64 x187000_2, .int .i64 x187001_2, .int .i64 x187002_2, .slice Ao42 x187003_2.length co42, .int .i64 x187004_2, .int .i64 x187005_2] 29 (0, 0)) (by (with_reducible repeat (first | refine blk_drewN ?_ _ | refine blk_drew ?_ | refine blk_alloc ?_ _)); exact BK186.out)) : gb186 ≠ gb217)); have n8_ := Aside0.mk ((by rw [hg]; exact Nat.ne_of_gt (blk_lt (g := gb186) (o := .cells #[.int .i64 x187000_2, .int .i64 x187001_2, .int .i64 x187002_2, .slice Ao42 x187003_2.length co42, .int .i64 x187004_2, .int .i64 x187005_2] 29 (0, 0)) (by (with_reducible repeat (first | refine blk_drewN ?_ _ | refine blk_drew ?_ | refine blk_alloc ?_ _)); exact BK186.out)) : gb217 ≠ gb186)); clear HO_187003; clear HO213; clear BK186; clear HB; have HO_187003 := n0_; have HO213 := n1_; have BK186 := n2_; have HB := n3_; have BK217 := n4_; have GW217 := n5_; have GE217 := n6_; have NB186_217 := n7_; have NB217_186 := n8_; clear n0_ n1_ n2_ n3_ n4_ n5_ n6_ n7_ n8_; clear hb hbox hg; have hnb45 := NB217_186.out; have hnc45 := NB186_217.out; have hcz46_0 : w44.cell? ⟨gb217, 0, none⟩ = some (.int .i64 0) := (blk_cell BK217.out 0).trans rfl; have hcz46_1 : w44.cell? ⟨gb217, 1, none⟩ = some (.int .i64 0) := (blk_cell BK217.out 1).trans rfl; have hcz46_2 : w44.cell? ⟨gb217, 2, none⟩ = some (.int .i64 0) := (blk_cell BK217.out 2).trans rfl; have hcz46_3 : w44.cell? ⟨gb217, 3, none⟩ = some (.slice none 0 0) := (blk_cell BK217.out 3).trans rfl; have hcz46_4 : w44.cell? ⟨gb217, 4, none⟩ = some (.int .i64 0) := (blk_cell BK217.out 4).trans rfl; have hcz46_5 : w44.cell? ⟨gb217, 5, none⟩ = some (.int .i64 0) := (blk_cell BK217.out 5).trans rfl; have hfz46_0 := blk_frozen BK217.out 0; have hfz46_1 := blk_frozen BK217.out 1; have hfz46_2 := blk_frozen BK217.out 2; have hfz46_3 := blk_frozen BK217.out 3; have hfz46_4 := blk_frozen BK217.out 4; have hfz46_5 := blk_frozen BK217.out 5; obtain ⟨Ao47, co47, eo47⟩ := Kd.R_slice HO213.out; subst eo47; have hcz48_0 : w44.cell? ⟨gb186, 0, none⟩ = some (.int .i64 x187000_2) := (blk_cell BK186.out 0).trans rfl; have hcz48_1 : w44.cell? ⟨gb186, 1, none⟩ = some (.int .i64 x187001_2) := (blk_cell BK186.out 1).trans rfl; have hcz48_2 : w44.cell? ⟨gb186, 2, none⟩ = some (.int .i64 x187002_2) := (blk_cell BK186.out 2).trans rfl; have hcz48_3 : w44.cell? ⟨gb186, 3, none⟩ = some (.slice Ao42 x187003_2.length co42) := (blk_cell BK186.out 3).trans rfl; have hcz48_4 : w44.cell? ⟨gb186, 4, none⟩ = some (.int .i64 x187004_2) := (blk_cell BK186.out 4).trans rfl; have hcz48_5 : w44.cell? ⟨gb186, 5, none⟩ = some (.int .i64 x187005_2) := (blk_cell BK186.out 5).trans rfl; have hfz48_0 := blk_frozen BK186.out 0; have hfz48_1 := blk_frozen BK186.out 1; have hfz48_2 := blk_frozen BK186.out 2; have hfz48_3 := blk_frozen BK186.out 3; have hfz48_4 := blk_frozen BK186.out 4; have hfz48_5 := blk_frozen BK186.out 5) | (go_at_call 18; (with_reducible refine (lease_Good.calls k2 x187000_2 x187001_2 x187002_2 _ _ x187003_2 x187004_2 x187005_2 true _ ?side1 ?side2 A38.out).mono ?_); (case side1 => refine (Kd.Q_reads' (e := 59) (base := w.heap.size) (ok := fun k_ => (True ∧ some k_ ≠ (.slice Ao47 t211.length co47 : Value).ownBlock)) (n := x187003_2.length) (c := co42) ?_).2.2; exact (by (with_reducible repeat (first | apply Kd.Q_alloc | apply Kd.Q_drewN | apply Kd.Q_drew)); exact (Kd.Q_mono (Kd.Q_far (p := ⟨gb217, 5, none⟩) (Kd.Q_far (p := ⟨gb217, 4, none⟩) (Kd.Q_far (p := ⟨gb217, 3, none⟩) (Kd.Q_far (p := ⟨gb217, 2, none⟩) (Kd.Q_far (p := ⟨gb217, 1, none⟩) (Kd.Q_far (p := ⟨gb217, 0, none⟩) (Kd.Q_types HO_187003.out BK217.out (by decide)) (fun _ hk => hk.2) (.int .i64 t208)) (fun _ hk => hk.2) (.int .i64 t209)) (fun _ hk => hk.2) (.int .i64 t210)) (fun _ hk => hk.2) (.slice Ao47 t211.length co47)) (fun _ hk => hk.2) (.int .i64 t214)) (fun _ hk => hk.2) (.int .i64 t215)) (fun _ h_ => h_.1)))); (case side2 => exact (Kd.Q_reads' HO_187003.out).2.1); rintro e w49 ⟨rfl, hb⟩; have n0_ := Aside0.mk (Kd.Q_below (by (with_reducible repeat (first | apply Kd.Q_alloc | apply Kd.Q_drewN | apply Kd.Q_drew)); exact (Kd.Q_mono (Kd.Q_far (p := ⟨gb217, 5, none⟩) (Kd.Q_far (p := ⟨gb217, 4, none⟩) (Kd.Q_far (p := ⟨gb217, 3, none⟩) (Kd.Q_far (p := ⟨gb217, 2, none⟩) (Kd.Q_far (p := ⟨gb217, 1, none⟩) (Kd.Q_far (p := ⟨gb217, 0, none⟩) (Kd.Q_types HO_187003.out BK217.out (by decide)) (fun _ hk => hk.2) (.int .i64 t208)) (fun _ hk => hk.2) (.int .i64 t209)) (fun _ hk => hk.2) (.int .i64 t210)) (fun _ hk => hk.2) (.slice Ao47 t211.length co47)) (fun _ hk => hk.2) (.int .i64 t214)) (fun _ hk => hk.2) (.int .i64 t215)) (fun _ h_ => h_.1))) hb); have n1_ := Aside0.mk (Kd.R_below (by (with_reducible repeat (first | apply Kd.R_alloc | apply Kd.R_drewN | apply Kd.R_drew)); exact (Kd.R_mono (Kd.R_far (p := ⟨gb217, 5, none⟩) (Kd.R_far (p := ⟨gb217, 4, none⟩) (Kd.R_far (p := ⟨gb217, 3, none⟩) (Kd.R_far (p := ⟨gb217, 2, none⟩) (Kd.R_far (p := ⟨gb217, 1, none⟩) (Kd.R_far (p := ⟨gb217, 0, none⟩) (Kd.R_types HO213.out BK217.out (by decide)) (fun _ hk => hk.2) (.int .i64 t208)) (fun _ hk => hk.2) (.int .i64 t209)) (fun _ hk => hk.2) (.int .i64 t210)) (fun _ hk => hk.2) (.slice Ao47 t211.length co47)) (fun _ hk => hk.2) (.int .i64 t214)) (fun _ hk => hk.2) (.int .i64 t215)) (fun _ h_ => h_.1))) hb); have n2_ := Aside0.mk (blk_below (g := gb186) (o := .cells #[.int .i64 x187000_2, .int .i64 x187001_2, .int .i64 x187002_2, .slice Ao42 x187003_2.length co42, .int .i64 x187004_2, .int .i64 x187005_2] 29 (0, 0)) (by (with_reducible repeat (first | refine blk_drewN ?_ _ | refine blk_drew ?_ | refine blk_alloc ?_ _)); refine blk_far ?_ NB186_217.out _; (with_reducible repeat (first | refine blk_drewN ?_ _ | refine blk_drew ?_ | refine blk_alloc ?_ _)); refine blk_far ?_ NB186_217.out _; (with_reducible repeat (first | refine blk_drewN ?_ _ | refine blk_drew ?_ | refine blk_alloc ?_ _)); refine blk_far ?_ NB186_217.out _; (with_reducible repeat (first | refine blk_drewN ?_ _ | refine blk_drew ?_ | refine blk_alloc ?_ _)); refine blk_far ?_ NB186_217.out _; (with_reducible repeat (first | refine blk_drewN ?_ _ | refine blk_drew ?_ | refine blk_alloc ?_ _)); refine blk_far ?_ NB186_217.out _; (with_reducible repeat (first | refine blk_drewN ?_ _ | refine blk_drew ?_ | refine blk_alloc ?_ _)); refine blk_far ?_ NB186_217.out _; (with_reducible repeat (first | refine blk_drewN ?_ _ | refine blk_drew ?_ | refine blk_alloc ?_ _)); exact BK186.out) hb); have n3_ := Aside0.mk (blk_below (g := gb217) (o := .cells #[.int .i64 t208, .int .i64 t209, .int .i64 t210, .slice Ao47 t211.length co47, .int .i64 t214, .int .i64 t215] 29 (0, 0)) (by (with_reducible repeat (first | refine blk_drewN ?_ _ | refine blk_drew ?_ | refine blk_alloc ?_ _)); refine blk_put (cs := #[.int .i64 t208, .int .i64 t209, .int .i64 t210, .slice Ao47 t211.length co47, .int .i64 t214, .int .i64 0]) ?_ 5 _ rfl; (with_reducible repeat (first | refine blk_drewN ?_ _ | refine blk_drew ?_ | refine blk_alloc ?_ _)); refine blk_put (cs := #[.int .i64 t208, .int .i64 t209, .int .i64 t210, .slice Ao47 t211.length co47, .int .i64 0, .int .i64 0]) ?_ 4 _ rfl; (with_reducible repeat (first | refine blk_drewN ?_ _ | refine blk_drew ?_ | refine blk_alloc ?_ _)); refine blk_put (cs := #[.int .i64 t208, .int .i64 t209, .int .i64 t210, .slice none 0 0, .int .i64 0, .int .i64 0]) ?_ 3 _ rfl; (with_reducible repeat (first | refine blk_drewN ?_ _ | refine blk_drew ?_ | refine blk_alloc ?_ _)); refine blk_put (cs := #[.int .i64 t208, .int .i64 t209, .int .i64 0, .slice none 0 0, .int .i64 0, .int .i64 0]) ?_ 2 _ rfl; (with_reducible repeat (first | refine blk_drewN ?_ _ | refine blk_drew ?_ | refine blk_alloc ?_ _)); refine blk_put (cs := #[.int .i64 t208, .int .i64 0, .int .i64 0, .slice none 0 0, .int .i64 0, .int .i64 0]) ?_ 1 _ rfl; (with_reducible repeat (first | refine blk_drewN ?_ _ | refine blk_drew ?_ | refine blk_alloc ?_ _)); refine blk_put (cs := #[.int .i64 0, .int .i64 0, .int .i64 0, .slice none 0 0, .int .i64 0, .int .i64 0]) ?_ 0 _ rfl; (with_reducible repeat (first | refine blk_drewN ?_ _ | refine blk_drew ?_ | refine blk_alloc ?_ _)); exact BK217.out) hb); have n4_ := Aside0.mk (below_step (by repeat (first | (with_reducible first | exact HB.out | apply below_alloc | apply pw_below_drewN | apply below_drew1 | refine below_set ?_ GE186.out | refine below_set ?_ GE217.out) | exact HB.out)) hb); clear HO_187003; clear HO213; clear BK186; clear BK217; clear HB; have HO_187003 := n0_; have HO213 := n1_; have BK186 := n2_; have BK217 := n3_; have HB := n4_; clear n0_ n1_ n2_ n3_ n4_; (try clear hb); (try clear hb2); (try clear hk); (try clear hi); have hcz50_0 : w49.cell? ⟨gb217, 0, none⟩ = some (.int .i64 t208) := (blk_cell BK217.out 0).trans rfl; have hcz50_1 : w49.cell? ⟨gb217, 1, none⟩ = some (.int .i64 t209) := (blk_cell BK217.out 1).trans rfl; have hcz50_2 : w49.cell? ⟨gb217, 2, none⟩ = some (.int .i64 t210) := (blk_cell BK217.out 2).trans rfl; have hcz50_3 : w49.cell? ⟨gb217, 3, none⟩ = some (.slice Ao47 t211.length co47) := (blk_cell BK217.out 3).trans rfl; have hcz50_4 : w49.cell? ⟨gb217, 4, none⟩ = some (.int .i64 t214) := (blk_cell BK217.out 4).trans rfl; have hcz50_5 : w49.cell? ⟨gb217, 5, none⟩ = some (.int .i64 t215) := (blk_cell BK217.out 5).trans rfl; have hfz50_0 := blk_frozen BK217.out 0; have hfz50_1 := blk_frozen BK217.out 1; have hfz50_2 := blk_frozen BK217.out 2; have hfz50_3 := blk_frozen BK217.out 3; have hfz50_4 := blk_frozen BK217.out 4; have hfz50_5 := blk_frozen BK217.out 5) | (go_at_call 18; (with_reducible refine (lease_Good.calls k2 t208 t209 t210 _ _ t211 t214 t215 t219 _ ?side1 ?side2 A40.out).mono ?_); (case side1 => repeat (first | exact (Kd.R_reads' HO213.out).2.2 | (with_reducible refine Kd.C_alloc ?_ _) | (with_reducible refine Kd.C_drewN ?_ _) | (with_reducible refine Kd.C_drew ?_))); (case side2 => exact (Kd.R_reads' HO213.out).2.1); rintro e w51 ⟨rfl, hb⟩; have n0_ := Aside0.mk (Kd.Q_below (by (with_reducible repeat (first | apply Kd.Q_alloc | apply Kd.Q_drewN | apply Kd.Q_drew)); exact HO_187003.out) hb); have n1_ := Aside0.mk (Kd.R_below (by (with_reducible repeat (first | apply Kd.R_alloc | apply Kd.R_drewN | apply Kd.R_drew)); exact HO213.out) hb); have n2_ := Aside0.mk (blk_below (g := gb186) (o := .cells #[.int .i64 x187000_2, .int .i64 x187001_2, .int .i64 x187002_2, .slice Ao42 x187003_2.length co42, .int .i64 x187004_2, .int .i64 x187005_2] 29 (0, 0)) (by (with_reducible repeat (first | refine blk_drewN ?_ _ | refine blk_drew ?_ | refine blk_alloc ?_ _)); exact BK186.out) hb); have n3_ := Aside0.mk (blk_below (g := gb217) (o := .cells #[.int .i64 t208, .int .i64 t209, .int .i64 t210, .slice Ao47 t211.length co47, .int .i64 t214, .int .i64 t215] 29 (0, 0)) (by (with_reducible repeat (first | refine blk_drewN ?_ _ | refine blk_drew ?_ | refine blk_alloc ?_ _)); exact BK217.out) hb); have n4_ := Aside0.mk (below_step (by repeat (first | (with_reducible first | exact HB.out | apply below_alloc | apply pw_below_drewN | apply below_drew1 | refine below_set ?_ GE186.out | refine below_set ?_ GE217.out) | exact HB.out)) hb); clear HO_187003; clear HO213; clear BK186; clear BK217; clear HB; have HO_187003 := n0_; have HO213 := n1_; have BK186 := n2_; have BK217 := n3_; have HB := n4_; clear n0_ n1_ n2_ n3_ n4_; (try clear hb); (try clear hb2); (try clear hk); (try clear hi)))
                    go_ret
                    exact ⟨by first | rfl | (simp [errW_none, errW_some] <;> rfl) | (simp [*, errW_none, errW_some] <;> rfl), by repeat (first | (with_reducible first | exact HB.out | apply below_alloc | apply pw_below_drewN | apply below_drew1 | refine below_set ?_ GE186.out | refine below_set ?_ GE217.out) | exact HB.out)⟩
                  · replace c39 := Bool.eq_false_iff.mpr c39
                    subst c39
                    have H1 : (none) = some r := by rw [if_neg (show ¬ (false = true) by decide)] at H; exact H
                    clear H
                    have H := H1
                    clear H1
                    exact absurd H (by simp)
                · rw [if_neg c37] at H
                  exact absurd H (by simp)
              · rw [if_neg c36] at H
                exact absurd H (by simp)

/-! ### folkmootref20_Good: function 19 -/
def folkmootref20_Good.f (a0_0 : Int) (a0_1 : Int) (a0_2 : Int) (l0_3 : List (S59)) (a0_4 : Int) (a0_5 : Int) : Option (Bool) := (folkmootref20_Right.f a0_0 a0_1 a0_2 l0_3 a0_4 a0_5).bind fun t221 => (if t221 = true then (if a0_4 = 0 then (some false) else (some (decide ((wrap64 (a0_1 - a0_5)) < 8)))) else (some false))
set_option maxHeartbeats 8000000 in
set_option maxRecDepth 100000 in
theorem folkmootref20_Good.calls (a0_0 : Int) (a0_1 : Int) (a0_2 : Int) (A0_3 : Option Addr) (c0_3 : Nat) (l0_3 : List (S59)) (a0_4 : Int) (a0_5 : Int) (r : Bool) (w : World) (hr0_3 : Kd.C k59 w A0_3 l0_3.length l0_3) (hc0_3 : l0_3.length ≤ c0_3) (h : folkmootref20_Good.f a0_0 a0_1 a0_2 l0_3 a0_4 a0_5 = some r) :
    Calls Try.prog 19 #[.agg #[.int .i64 a0_0, .int .i64 a0_1, .int .i64 a0_2, .slice A0_3 l0_3.length c0_3, .int .i64 a0_4, .int .i64 a0_5]] w fun e w' => e = .returned (.bool r) ∧ Below w.heap.size w w' := by
  have hu29 := Try.underlying29
  have HR0_3 := Aside0.mk hr0_3
  have HC0_3 := Aside0.mk hc0_3
  clear hr0_3 hc0_3
  have HB := Aside0.mk (Below.refl w.heap.size w)
  have H : ((folkmootref20_Right.f a0_0 a0_1 a0_2 l0_3 a0_4 a0_5).bind fun t221 => (if t221 = true then (if a0_4 = 0 then (some false) else (some (decide ((wrap64 (a0_1 - a0_5)) < 8)))) else (some false))) = some r := h
  clear h
  replace H := Option.bind_eq_some_iff.mp H
  obtain ⟨t221, A20, H⟩ := H
  replace H : (if t221 = true then (if a0_4 = 0 then (some false) else (some (decide ((wrap64 (a0_1 - a0_5)) < 8)))) else (some false)) = some r := H
  have A2 := Aside0.mk A20
  clear A20
  by_cases c3 : t221 = true
  · subst c3
    have H1 : (if a0_4 = 0 then (some false) else (some (decide ((wrap64 (a0_1 - a0_5)) < 8)))) = some r := by rw [if_pos rfl] at H; exact H
    clear H
    have H := H1
    clear H1
    by_cases c4 : a0_4 = 0
    · rw [if_pos c4] at H
      have c4b0 : (a0_4 == 0) = true := beq_iff_eq.mpr c4
      have c4b1 : (a0_4 != 0) = false := bne_eq_false_iff_eq.mpr c4
      clear c4
      obtain rfl := Option.some.inj H
      go_enter Try.func19, Try.ntmps19
      go_wp2_with (first | ((with_reducible refine gate_dst (N := 1) rfl ?_); refine box_event ?hg (N := 1) ?hd (cs := #[.int .i64 a0_0, .int .i64 a0_1, .int .i64 a0_2, .slice A0_3 l0_3.length c0_3, .int .i64 a0_4, .int .i64 a0_5]) (t := 29) ?hr ?_; (case hd => rfl); (case hg => rfl); (case hr => first | (go_simp; done) | (go_simp; rfl)); intro gb220 hg w5 hbox hb; have n0_ := Aside0.mk (below_step (by repeat (first | (with_reducible first | exact HB.out | apply below_alloc | apply pw_below_drewN | apply below_drew1) | exact HB.out)) hb); have n1_ := Aside0.mk (hbox); have n2_ := Aside0.mk ((by rw [hg]; exact (below_size (by repeat (first | (with_reducible first | exact HB.out | apply below_alloc | apply pw_below_drewN | apply below_drew1) | exact HB.out))) : w.heap.size ≤ gb220)); have n3_ := Aside0.mk ((by rw [hg]; exact (below_size (by repeat (first | (with_reducible first | exact HB.out | apply below_alloc | apply pw_below_drewN | apply below_drew1) | exact HB.out))) : w.heap.size ≤ gb220)); clear HB; have HB := n0_; have BK220 := n1_; have GW220 := n2_; have GE220 := n3_; clear n0_ n1_ n2_ n3_; clear hb hbox hg; have hcz6_0 : w5.cell? ⟨gb220, 0, none⟩ = some (.int .i64 a0_0) := (blk_cell BK220.out 0).trans rfl; have hcz6_1 : w5.cell? ⟨gb220, 1, none⟩ = some (.int .i64 a0_1) := (blk_cell BK220.out 1).trans rfl; have hcz6_2 : w5.cell? ⟨gb220, 2, none⟩ = some (.int .i64 a0_2) := (blk_cell BK220.out 2).trans rfl; have hcz6_3 : w5.cell? ⟨gb220, 3, none⟩ = some (.slice A0_3 l0_3.length c0_3) := (blk_cell BK220.out 3).trans rfl; have hcz6_4 : w5.cell? ⟨gb220, 4, none⟩ = some (.int .i64 a0_4) := (blk_cell BK220.out 4).trans rfl; have hcz6_5 : w5.cell? ⟨gb220, 5, none⟩ = some (.int .i64 a0_5) := (blk_cell BK220.out 5).trans rfl; have hfz6_0 := blk_frozen BK220.out 0; have hfz6_1 := blk_frozen BK220.out 1; have hfz6_2 := blk_frozen BK220.out 2; have hfz6_3 := blk_frozen BK220.out 3; have hfz6_4 := blk_frozen BK220.out 4; have hfz6_5 := blk_frozen BK220.out 5) | ((with_reducible refine gate_callee (f := 17) rfl ?_); refine goesL_ (some 4) rfl rfl Try.func17 (by kernel_rfl) rfl #[.agg #[.int .i64 a0_0, .int .i64 a0_1, .int .i64 a0_2, .slice A0_3 l0_3.length c0_3, .int .i64 a0_4, .int .i64 a0_5]] rfl (by (try simp only [List.map_toArray, List.map_cons, List.map_nil]); first | done | rfl | (simp only [List.length_drop, List.length_take]; rfl)) ?_; (with_reducible refine (folkmootref20_Right.calls a0_0 a0_1 a0_2 _ _ l0_3 a0_4 a0_5 true _ ?side1 ?side2 A2.out).mono ?_); (case side1 => repeat (first | exact (Kd.C_below HR0_3.out HB.out) | (with_reducible refine Kd.C_alloc ?_ _) | (with_reducible refine Kd.C_drewN ?_ _) | (with_reducible refine Kd.C_drew ?_))); (case side2 => exact HC0_3.out); rintro e w7 ⟨rfl, hb⟩; refine ⟨_, rfl, ?_⟩; have n0_ := Aside0.mk (blk_below (g := gb220) (o := .cells #[.int .i64 a0_0, .int .i64 a0_1, .int .i64 a0_2, .slice A0_3 l0_3.length c0_3, .int .i64 a0_4, .int .i64 a0_5] 29 (0, 0)) (by (with_reducible repeat (first | refine blk_drewN ?_ _ | refine blk_drew ?_ | refine blk_alloc ?_ _)); exact BK220.out) hb); have n1_ := Aside0.mk (below_step (by repeat (first | (with_reducible first | exact HB.out | apply below_alloc | apply pw_below_drewN | apply below_drew1 | refine below_set ?_ GE220.out) | exact HB.out)) hb); clear BK220; clear HB; have BK220 := n0_; have HB := n1_; clear n0_ n1_; (try clear hb); (try clear hb2); (try clear hk); (try clear hi); have hcz8_0 : w7.cell? ⟨gb220, 0, none⟩ = some (.int .i64 a0_0) := (blk_cell BK220.out 0).trans rfl; have hcz8_1 : w7.cell? ⟨gb220, 1, none⟩ = some (.int .i64 a0_1) := (blk_cell BK220.out 1).trans rfl; have hcz8_2 : w7.cell? ⟨gb220, 2, none⟩ = some (.int .i64 a0_2) := (blk_cell BK220.out 2).trans rfl; have hcz8_3 : w7.cell? ⟨gb220, 3, none⟩ = some (.slice A0_3 l0_3.length c0_3) := (blk_cell BK220.out 3).trans rfl; have hcz8_4 : w7.cell? ⟨gb220, 4, none⟩ = some (.int .i64 a0_4) := (blk_cell BK220.out 4).trans rfl; have hcz8_5 : w7.cell? ⟨gb220, 5, none⟩ = some (.int .i64 a0_5) := (blk_cell BK220.out 5).trans rfl; have hfz8_0 := blk_frozen BK220.out 0; have hfz8_1 := blk_frozen BK220.out 1; have hfz8_2 := blk_frozen BK220.out 2; have hfz8_3 := blk_frozen BK220.out 3; have hfz8_4 := blk_frozen BK220.out 4; have hfz8_5 := blk_frozen BK220.out 5))
      go_ret
      exact ⟨by first | rfl | (simp [errW_none, errW_some] <;> rfl) | (simp [*, errW_none, errW_some] <;> rfl), by repeat (first | (with_reducible first | exact HB.out | apply below_alloc | apply pw_below_drewN | apply below_drew1 | refine below_set ?_ GE220.out) | exact HB.out)⟩
    · rw [if_neg c4] at H
      have c4b0 : (a0_4 == 0) = false := beq_eq_false_iff_ne.mpr c4
      have c4b1 : (a0_4 != 0) = true := bne_iff_ne.mpr c4
      obtain rfl := Option.some.inj H
      go_enter Try.func19, Try.ntmps19
      go_wp2_with (first | ((with_reducible refine gate_dst (N := 1) rfl ?_); refine box_event ?hg (N := 1) ?hd (cs := #[.int .i64 a0_0, .int .i64 a0_1, .int .i64 a0_2, .slice A0_3 l0_3.length c0_3, .int .i64 a0_4, .int .i64 a0_5]) (t := 29) ?hr ?_; (case hd => rfl); (case hg => rfl); (case hr => first | (go_simp; done) | (go_simp; rfl)); intro gb220 hg w9 hbox hb; have n0_ := Aside0.mk (below_step (by repeat (first | (with_reducible first | exact HB.out | apply below_alloc | apply pw_below_drewN | apply below_drew1) | exact HB.out)) hb); have n1_ := Aside0.mk (hbox); have n2_ := Aside0.mk ((by rw [hg]; exact (below_size (by repeat (first | (with_reducible first | exact HB.out | apply below_alloc | apply pw_below_drewN | apply below_drew1) | exact HB.out))) : w.heap.size ≤ gb220)); have n3_ := Aside0.mk ((by rw [hg]; exact (below_size (by repeat (first | (with_reducible first | exact HB.out | apply below_alloc | apply pw_below_drewN | apply below_drew1) | exact HB.out))) : w.heap.size ≤ gb220)); clear HB; have HB := n0_; have BK220 := n1_; have GW220 := n2_; have GE220 := n3_; clear n0_ n1_ n2_ n3_; clear hb hbox hg; have hcz10_0 : w9.cell? ⟨gb220, 0, none⟩ = some (.int .i64 a0_0) := (blk_cell BK220.out 0).trans rfl; have hcz10_1 : w9.cell? ⟨gb220, 1, none⟩ = some (.int .i64 a0_1) := (blk_cell BK220.out 1).trans rfl; have hcz10_2 : w9.cell? ⟨gb220, 2, none⟩ = some (.int .i64 a0_2) := (blk_cell BK220.out 2).trans rfl; have hcz10_3 : w9.cell? ⟨gb220, 3, none⟩ = some (.slice A0_3 l0_3.length c0_3) := (blk_cell BK220.out 3).trans rfl; have hcz10_4 : w9.cell? ⟨gb220, 4, none⟩ = some (.int .i64 a0_4) := (blk_cell BK220.out 4).trans rfl; have hcz10_5 : w9.cell? ⟨gb220, 5, none⟩ = some (.int .i64 a0_5) := (blk_cell BK220.out 5).trans rfl; have hfz10_0 := blk_frozen BK220.out 0; have hfz10_1 := blk_frozen BK220.out 1; have hfz10_2 := blk_frozen BK220.out 2; have hfz10_3 := blk_frozen BK220.out 3; have hfz10_4 := blk_frozen BK220.out 4; have hfz10_5 := blk_frozen BK220.out 5) | ((with_reducible refine gate_callee (f := 17) rfl ?_); refine goesL_ (some 4) rfl rfl Try.func17 (by kernel_rfl) rfl #[.agg #[.int .i64 a0_0, .int .i64 a0_1, .int .i64 a0_2, .slice A0_3 l0_3.length c0_3, .int .i64 a0_4, .int .i64 a0_5]] rfl (by (try simp only [List.map_toArray, List.map_cons, List.map_nil]); first | done | rfl | (simp only [List.length_drop, List.length_take]; rfl)) ?_; (with_reducible refine (folkmootref20_Right.calls a0_0 a0_1 a0_2 _ _ l0_3 a0_4 a0_5 true _ ?side1 ?side2 A2.out).mono ?_); (case side1 => repeat (first | exact (Kd.C_below HR0_3.out HB.out) | (with_reducible refine Kd.C_alloc ?_ _) | (with_reducible refine Kd.C_drewN ?_ _) | (with_reducible refine Kd.C_drew ?_))); (case side2 => exact HC0_3.out); rintro e w11 ⟨rfl, hb⟩; refine ⟨_, rfl, ?_⟩; have n0_ := Aside0.mk (blk_below (g := gb220) (o := .cells #[.int .i64 a0_0, .int .i64 a0_1, .int .i64 a0_2, .slice A0_3 l0_3.length c0_3, .int .i64 a0_4, .int .i64 a0_5] 29 (0, 0)) (by (with_reducible repeat (first | refine blk_drewN ?_ _ | refine blk_drew ?_ | refine blk_alloc ?_ _)); exact BK220.out) hb); have n1_ := Aside0.mk (below_step (by repeat (first | (with_reducible first | exact HB.out | apply below_alloc | apply pw_below_drewN | apply below_drew1 | refine below_set ?_ GE220.out) | exact HB.out)) hb); clear BK220; clear HB; have BK220 := n0_; have HB := n1_; clear n0_ n1_; (try clear hb); (try clear hb2); (try clear hk); (try clear hi); have hcz12_0 : w11.cell? ⟨gb220, 0, none⟩ = some (.int .i64 a0_0) := (blk_cell BK220.out 0).trans rfl; have hcz12_1 : w11.cell? ⟨gb220, 1, none⟩ = some (.int .i64 a0_1) := (blk_cell BK220.out 1).trans rfl; have hcz12_2 : w11.cell? ⟨gb220, 2, none⟩ = some (.int .i64 a0_2) := (blk_cell BK220.out 2).trans rfl; have hcz12_3 : w11.cell? ⟨gb220, 3, none⟩ = some (.slice A0_3 l0_3.length c0_3) := (blk_cell BK220.out 3).trans rfl; have hcz12_4 : w11.cell? ⟨gb220, 4, none⟩ = some (.int .i64 a0_4) := (blk_cell BK220.out 4).trans rfl; have hcz12_5 : w11.cell? ⟨gb220, 5, none⟩ = some (.int .i64 a0_5) := (blk_cell BK220.out 5).trans rfl; have hfz12_0 := blk_frozen BK220.out 0; have hfz12_1 := blk_frozen BK220.out 1; have hfz12_2 := blk_frozen BK220.out 2; have hfz12_3 := blk_frozen BK220.out 3; have hfz12_4 := blk_frozen BK220.out 4; have hfz12_5 := blk_frozen BK220.out 5))
      go_ret
      exact ⟨by first | rfl | (simp [errW_none, errW_some] <;> rfl) | (simp [*, errW_none, errW_some] <;> rfl), by repeat (first | (with_reducible first | exact HB.out | apply below_alloc | apply pw_below_drewN | apply below_drew1 | refine below_set ?_ GE220.out) | exact HB.out)⟩
  · replace c3 := Bool.eq_false_iff.mpr c3
    subst c3
    have H1 : (some false) = some r := by rw [if_neg (show ¬ (false = true) by decide)] at H; exact H
    clear H
    have H := H1
    clear H1
    obtain rfl := Option.some.inj H
    go_enter Try.func19, Try.ntmps19
    go_wp2_with (first | ((with_reducible refine gate_dst (N := 1) rfl ?_); refine box_event ?hg (N := 1) ?hd (cs := #[.int .i64 a0_0, .int .i64 a0_1, .int .i64 a0_2, .slice A0_3 l0_3.length c0_3, .int .i64 a0_4, .int .i64 a0_5]) (t := 29) ?hr ?_; (case hd => rfl); (case hg => rfl); (case hr => first | (go_simp; done) | (go_simp; rfl)); intro gb220 hg w13 hbox hb; have n0_ := Aside0.mk (below_step (by repeat (first | (with_reducible first | exact HB.out | apply below_alloc | apply pw_below_drewN | apply below_drew1) | exact HB.out)) hb); have n1_ := Aside0.mk (hbox); have n2_ := Aside0.mk ((by rw [hg]; exact (below_size (by repeat (first | (with_reducible first | exact HB.out | apply below_alloc | apply pw_below_drewN | apply below_drew1) | exact HB.out))) : w.heap.size ≤ gb220)); have n3_ := Aside0.mk ((by rw [hg]; exact (below_size (by repeat (first | (with_reducible first | exact HB.out | apply below_alloc | apply pw_below_drewN | apply below_drew1) | exact HB.out))) : w.heap.size ≤ gb220)); clear HB; have HB := n0_; have BK220 := n1_; have GW220 := n2_; have GE220 := n3_; clear n0_ n1_ n2_ n3_; clear hb hbox hg; have hcz14_0 : w13.cell? ⟨gb220, 0, none⟩ = some (.int .i64 a0_0) := (blk_cell BK220.out 0).trans rfl; have hcz14_1 : w13.cell? ⟨gb220, 1, none⟩ = some (.int .i64 a0_1) := (blk_cell BK220.out 1).trans rfl; have hcz14_2 : w13.cell? ⟨gb220, 2, none⟩ = some (.int .i64 a0_2) := (blk_cell BK220.out 2).trans rfl; have hcz14_3 : w13.cell? ⟨gb220, 3, none⟩ = some (.slice A0_3 l0_3.length c0_3) := (blk_cell BK220.out 3).trans rfl; have hcz14_4 : w13.cell? ⟨gb220, 4, none⟩ = some (.int .i64 a0_4) := (blk_cell BK220.out 4).trans rfl; have hcz14_5 : w13.cell? ⟨gb220, 5, none⟩ = some (.int .i64 a0_5) := (blk_cell BK220.out 5).trans rfl; have hfz14_0 := blk_frozen BK220.out 0; have hfz14_1 := blk_frozen BK220.out 1; have hfz14_2 := blk_frozen BK220.out 2; have hfz14_3 := blk_frozen BK220.out 3; have hfz14_4 := blk_frozen BK220.out 4; have hfz14_5 := blk_frozen BK220.out 5) | ((with_reducible refine gate_callee (f := 17) rfl ?_); refine goesL_ (some 4) rfl rfl Try.func17 (by kernel_rfl) rfl #[.agg #[.int .i64 a0_0, .int .i64 a0_1, .int .i64 a0_2, .slice A0_3 l0_3.length c0_3, .int .i64 a0_4, .int .i64 a0_5]] rfl (by (try simp only [List.map_toArray, List.map_cons, List.map_nil]); first | done | rfl | (simp only [List.length_drop, List.length_take]; rfl)) ?_; (with_reducible refine (folkmootref20_Right.calls a0_0 a0_1 a0_2 _ _ l0_3 a0_4 a0_5 false _ ?side1 ?side2 A2.out).mono ?_); (case side1 => repeat (first | exact (Kd.C_below HR0_3.out HB.out) | (with_reducible refine Kd.C_alloc ?_ _) | (with_reducible refine Kd.C_drewN ?_ _) | (with_reducible refine Kd.C_drew ?_))); (case side2 => exact HC0_3.out); rintro e w15 ⟨rfl, hb⟩; refine ⟨_, rfl, ?_⟩; have n0_ := Aside0.mk (blk_below (g := gb220) (o := .cells #[.int .i64 a0_0, .int .i64 a0_1, .int .i64 a0_2, .slice A0_3 l0_3.length c0_3, .int .i64 a0_4, .int .i64 a0_5] 29 (0, 0)) (by (with_reducible repeat (first | refine blk_drewN ?_ _ | refine blk_drew ?_ | refine blk_alloc ?_ _)); exact BK220.out) hb); have n1_ := Aside0.mk (below_step (by repeat (first | (with_reducible first | exact HB.out | apply below_alloc | apply pw_below_drewN | apply below_drew1 | refine below_set ?_ GE220.out) | exact HB.out)) hb); clear BK220; clear HB; have BK220 := n0_; have HB := n1_; clear n0_ n1_; (try clear hb); (try clear hb2); (try clear hk); (try clear hi)))
    go_ret
    exact ⟨by first | rfl | (simp [errW_none, errW_some] <;> rfl) | (simp [*, errW_none, errW_some] <;> rfl), by repeat (first | (with_reducible first | exact HB.out | apply below_alloc | apply pw_below_drewN | apply below_drew1 | refine below_set ?_ GE220.out) | exact HB.out)⟩

end Go.Proofs.Ytmoahkdadeiahaa.C
