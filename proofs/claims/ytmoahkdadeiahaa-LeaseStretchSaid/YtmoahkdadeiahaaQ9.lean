-- WRITTEN BY a program of this session's (wip/gprint.py, over the kit's print), with functions given by hand among them. Not trusted: Lean checks it.
import Derived.Test.YtmoahkdadeiahaaQ0
import Derived.Test.YtmoahkdadeiahaaQ7
import Derived.Test.YtmoahkdadeiahaaQ8
namespace Go.Proofs.Ytmoahkdadeiahaa.Q
open Go.RowKit Go.Proofs.YtmoahkdadeiahaaW.PrintWords Go.Proofs.YtmoahkdadeiahaaW.PrintLast Go.Proofs.YtmoahkdadeiahaaW.PrintMore
attribute [local go_sem] max2_int min2_int max_two min_two max_three min_three max_four min_four   -- for this text's walks alone
set_option linter.unusedVariables false
set_option linter.unusedSimpArgs false

/-! ### lease_Again: function 25 -/
def lease_Again.f (k : Nat) (a0_0 : Int) (a0_1 : Int) (a0_2 : Int) (l0_3 : List (S59)) (a0_4 : Int) (a0_5 : Int) : Option (Int × Int × Int × (List (S59)) × Int × Int × Int) := (lease_Check.f k a0_0 a0_1 a0_2 l0_3 a0_4 a0_5).bind fun t188 => (if t188 = 0 then (some (a0_0, 0, a0_2, ([] : List (S59)), 0, 0, 0)) else (some (0, 0, 0, ([] : List (S59)), 0, 0, 1)))
theorem lease_Again.mono : ∀ a0 a1 a2 a3 a4 a5 k, LeO (lease_Again.f k a0 a1 a2 a3 a4 a5) (lease_Again.f (k + 1) a0 a1 a2 a3 a4 a5) := by
  intro a0 a1 a2 a3 a4 a5 k
  unfold lease_Again.f
  repeat' first
      | (with_reducible exact lease_Check.mono _ _ _ _ _ _ _)
      | (with_reducible exact LeO.refl _)
      | (with_reducible exact LeO.none _)
      | (with_reducible refine LeO.ite ?_ ?_)
      | (with_reducible refine LeO.bind ?_ (fun _ => ?_))
      | exact lease_Check.mono _ _ _ _ _ _ _
      | exact LeO.none _
      | refine LeO.ite ?_ ?_
      | refine LeO.bind ?_ (fun _ => ?_)
set_option maxHeartbeats 8000000 in
set_option maxRecDepth 100000 in
theorem lease_Again.calls (k : Nat) (a0_0 : Int) (a0_1 : Int) (a0_2 : Int) (A0_3 : Option Addr) (c0_3 : Nat) (l0_3 : List (S59)) (a0_4 : Int) (a0_5 : Int) (r1 : Int) (r2 : Int) (r3 : Int) (r4 : List (S59)) (r5 : Int) (r6 : Int) (r7 : Int) (w : World) (hr0_3 : Kd.C k59 w A0_3 l0_3.length l0_3) (hc0_3 : l0_3.length ≤ c0_3) (h : lease_Again.f k a0_0 a0_1 a0_2 l0_3 a0_4 a0_5 = some (r1, r2, r3, r4, r5, r6, r7)) :
    Calls Try.prog 25 #[.agg #[.int .i64 a0_0, .int .i64 a0_1, .int .i64 a0_2, .slice A0_3 l0_3.length c0_3, .int .i64 a0_4, .int .i64 a0_5]] w fun e w' => ∃ v3_ : Value, e = .returned (.tuple #[.agg #[.int .i64 r1, .int .i64 r2, .int .i64 r3, v3_, .int .i64 r5, .int .i64 r6], .int .i64 r7]) ∧ Kd.R k59 59 w' w.heap.size (fun _ => True) v3_ r4 ∧ Below w.heap.size w w' := by
  have hu29 := Try.underlying29
  have HR0_3 := Aside0.mk hr0_3
  have HC0_3 := Aside0.mk hc0_3
  clear hr0_3 hc0_3
  have HB := Aside0.mk (Below.refl w.heap.size w)
  have H : ((lease_Check.f k a0_0 a0_1 a0_2 l0_3 a0_4 a0_5).bind fun t188 => (if t188 = 0 then (some (a0_0, 0, a0_2, ([] : List (S59)), 0, 0, 0)) else (some (0, 0, 0, ([] : List (S59)), 0, 0, 1)))) = some (r1, r2, r3, r4, r5, r6, r7) := h
  clear h
  replace H := Option.bind_eq_some_iff.mp H
  obtain ⟨t188, A20, H⟩ := H
  replace H : (if t188 = 0 then (some (a0_0, 0, a0_2, ([] : List (S59)), 0, 0, 0)) else (some (0, 0, 0, ([] : List (S59)), 0, 0, 1))) = some (r1, r2, r3, r4, r5, r6, r7) := H
  have A2 := Aside0.mk A20
  clear A20
  by_cases c3 : t188 = 0
  · rw [if_pos c3] at H
    have c3b0 : (t188 == 0) = true := beq_iff_eq.mpr c3
    have c3b1 : (t188 != 0) = false := bne_eq_false_iff_eq.mpr c3
    clear c3
    simp only [Option.some.injEq, Prod.mk.injEq] at H
    obtain ⟨rfl, rfl, rfl, rfl, rfl, rfl, rfl⟩ := H
    go_enter Try.func25, Try.ntmps25
    go_wp2_with (first | ((with_reducible refine gate_dst (N := 1) rfl ?_); refine box_event ?hg (N := 1) ?hd (cs := #[.int .i64 a0_0, .int .i64 a0_1, .int .i64 a0_2, .slice A0_3 l0_3.length c0_3, .int .i64 a0_4, .int .i64 a0_5]) (t := 29) ?hr ?_; (case hd => rfl); (case hg => rfl); (case hr => first | (go_simp; done) | (go_simp; rfl)); intro gb186 hg w4 hbox hb; have n0_ := Aside0.mk (below_step (by repeat (first | (with_reducible first | exact HB.out | apply below_alloc | apply pw_below_drewN | apply below_drew1) | exact HB.out)) hb); have n1_ := Aside0.mk (hbox); have n2_ := Aside0.mk ((by rw [hg]; exact (below_size (by repeat (first | (with_reducible first | exact HB.out | apply below_alloc | apply pw_below_drewN | apply below_drew1) | exact HB.out))) : w.heap.size ≤ gb186)); have n3_ := Aside0.mk ((by rw [hg]; exact (below_size (by repeat (first | (with_reducible first | exact HB.out | apply below_alloc | apply pw_below_drewN | apply below_drew1) | exact HB.out))) : w.heap.size ≤ gb186)); clear HB; have HB := n0_; have BK186 := n1_; have GW186 := n2_; have GE186 := n3_; clear n0_ n1_ n2_ n3_; clear hb hbox hg) | ((with_reducible refine gate_dst (N := 2) rfl ?_); refine box_event ?hg (N := 2) ?hd (cs := #[.int .i64 0, .int .i64 0, .int .i64 0, .slice none 0 0, .int .i64 0, .int .i64 0]) (t := 29) ?hr ?_; (case hd => rfl); (case hg => rfl); (case hr => first | (go_simp; done) | (go_simp; rfl)); intro gb187 hg w5 hbox hb; have n0_ := Aside0.mk (blk_below (g := gb186) (o := .cells #[.int .i64 a0_0, .int .i64 a0_1, .int .i64 a0_2, .slice A0_3 l0_3.length c0_3, .int .i64 a0_4, .int .i64 a0_5] 29 (0, 0)) (by (with_reducible repeat (first | refine blk_drewN ?_ _ | refine blk_drew ?_ | refine blk_alloc ?_ _)); exact BK186.out) hb); have n1_ := Aside0.mk (below_step (by repeat (first | (with_reducible first | exact HB.out | apply below_alloc | apply pw_below_drewN | apply below_drew1 | refine below_set ?_ GE186.out) | exact HB.out)) hb); have n2_ := Aside0.mk (hbox); have n3_ := Aside0.mk ((by rw [hg]; exact (below_size (by repeat (first | (with_reducible first | exact HB.out | apply below_alloc | apply pw_below_drewN | apply below_drew1 | refine below_set ?_ GE186.out) | exact HB.out))) : w.heap.size ≤ gb187)); have n4_ := Aside0.mk ((by rw [hg]; exact (below_size (by repeat (first | (with_reducible first | exact HB.out | apply below_alloc | apply pw_below_drewN | apply below_drew1 | refine below_set ?_ GE186.out) | exact HB.out))) : w.heap.size ≤ gb187)); have n5_ := Aside0.mk ((by rw [hg]; exact Nat.ne_of_lt (blk_lt (g := gb186) (o := .cells #[.int .i64 a0_0, .int .i64 a0_1, .int .i64 a0_2, .slice A0_3 l0_3.length c0_3, .int .i64 a0_4, .int .i64 a0_5] 29 (0, 0)) (by (with_reducible repeat (first | refine blk_drewN ?_ _ | refine blk_drew ?_ | refine blk_alloc ?_ _)); exact BK186.out)) : gb186 ≠ gb187)); have n6_ := Aside0.mk ((by rw [hg]; exact Nat.ne_of_gt (blk_lt (g := gb186) (o := .cells #[.int .i64 a0_0, .int .i64 a0_1, .int .i64 a0_2, .slice A0_3 l0_3.length c0_3, .int .i64 a0_4, .int .i64 a0_5] 29 (0, 0)) (by (with_reducible repeat (first | refine blk_drewN ?_ _ | refine blk_drew ?_ | refine blk_alloc ?_ _)); exact BK186.out)) : gb187 ≠ gb186)); clear BK186; clear HB; have BK186 := n0_; have HB := n1_; have BK187 := n2_; have GW187 := n3_; have GE187 := n4_; have NB186_187 := n5_; have NB187_186 := n6_; clear n0_ n1_ n2_ n3_ n4_ n5_ n6_; clear hb hbox hg; have hnb6 := NB186_187.out; have hnc6 := NB187_186.out; have hcz7_0 : w5.cell? ⟨gb186, 0, none⟩ = some (.int .i64 a0_0) := (blk_cell BK186.out 0).trans rfl; have hcz7_1 : w5.cell? ⟨gb186, 1, none⟩ = some (.int .i64 a0_1) := (blk_cell BK186.out 1).trans rfl; have hcz7_2 : w5.cell? ⟨gb186, 2, none⟩ = some (.int .i64 a0_2) := (blk_cell BK186.out 2).trans rfl; have hcz7_3 : w5.cell? ⟨gb186, 3, none⟩ = some (.slice A0_3 l0_3.length c0_3) := (blk_cell BK186.out 3).trans rfl; have hcz7_4 : w5.cell? ⟨gb186, 4, none⟩ = some (.int .i64 a0_4) := (blk_cell BK186.out 4).trans rfl; have hcz7_5 : w5.cell? ⟨gb186, 5, none⟩ = some (.int .i64 a0_5) := (blk_cell BK186.out 5).trans rfl; have hfz7_0 := blk_frozen BK186.out 0; have hfz7_1 := blk_frozen BK186.out 1; have hfz7_2 := blk_frozen BK186.out 2; have hfz7_3 := blk_frozen BK186.out 3; have hfz7_4 := blk_frozen BK186.out 4; have hfz7_5 := blk_frozen BK186.out 5) | ((with_reducible refine gate_callee (f := 13) rfl ?_); refine goesL_ (some 5) rfl rfl Try.func13 (by kernel_rfl) rfl #[.agg #[.int .i64 a0_0, .int .i64 a0_1, .int .i64 a0_2, .slice A0_3 l0_3.length c0_3, .int .i64 a0_4, .int .i64 a0_5]] rfl (by (try simp only [List.map_toArray, List.map_cons, List.map_nil]); first | done | rfl | (simp only [List.length_drop, List.length_take]; rfl)) ?_; (with_reducible refine (lease_Check.calls k a0_0 a0_1 a0_2 _ _ l0_3 a0_4 a0_5 t188 _ ?side1 ?side2 A2.out).mono ?_); (case side1 => repeat (first | exact (Kd.C_below HR0_3.out HB.out) | (with_reducible refine Kd.C_alloc ?_ _) | (with_reducible refine Kd.C_drewN ?_ _) | (with_reducible refine Kd.C_drew ?_))); (case side2 => exact HC0_3.out); rintro e w8 ⟨rfl, hb⟩; refine ⟨_, rfl, ?_⟩; have n0_ := Aside0.mk (blk_below (g := gb186) (o := .cells #[.int .i64 a0_0, .int .i64 a0_1, .int .i64 a0_2, .slice A0_3 l0_3.length c0_3, .int .i64 a0_4, .int .i64 a0_5] 29 (0, 0)) (by (with_reducible repeat (first | refine blk_drewN ?_ _ | refine blk_drew ?_ | refine blk_alloc ?_ _)); exact BK186.out) hb); have n1_ := Aside0.mk (blk_below (g := gb187) (o := .cells #[.int .i64 0, .int .i64 0, .int .i64 0, .slice none 0 0, .int .i64 0, .int .i64 0] 29 (0, 0)) (by (with_reducible repeat (first | refine blk_drewN ?_ _ | refine blk_drew ?_ | refine blk_alloc ?_ _)); exact BK187.out) hb); have n2_ := Aside0.mk (below_step (by repeat (first | (with_reducible first | exact HB.out | apply below_alloc | apply pw_below_drewN | apply below_drew1 | refine below_set ?_ GE186.out | refine below_set ?_ GE187.out) | exact HB.out)) hb); clear BK186; clear BK187; clear HB; have BK186 := n0_; have BK187 := n1_; have HB := n2_; clear n0_ n1_ n2_; (try clear hb); (try clear hb2); (try clear hk); (try clear hi); have hcz9_0 : w8.cell? ⟨gb186, 0, none⟩ = some (.int .i64 a0_0) := (blk_cell BK186.out 0).trans rfl; have hcz9_1 : w8.cell? ⟨gb186, 1, none⟩ = some (.int .i64 a0_1) := (blk_cell BK186.out 1).trans rfl; have hcz9_2 : w8.cell? ⟨gb186, 2, none⟩ = some (.int .i64 a0_2) := (blk_cell BK186.out 2).trans rfl; have hcz9_3 : w8.cell? ⟨gb186, 3, none⟩ = some (.slice A0_3 l0_3.length c0_3) := (blk_cell BK186.out 3).trans rfl; have hcz9_4 : w8.cell? ⟨gb186, 4, none⟩ = some (.int .i64 a0_4) := (blk_cell BK186.out 4).trans rfl; have hcz9_5 : w8.cell? ⟨gb186, 5, none⟩ = some (.int .i64 a0_5) := (blk_cell BK186.out 5).trans rfl; have hfz9_0 := blk_frozen BK186.out 0; have hfz9_1 := blk_frozen BK186.out 1; have hfz9_2 := blk_frozen BK186.out 2; have hfz9_3 := blk_frozen BK186.out 3; have hfz9_4 := blk_frozen BK186.out 4; have hfz9_5 := blk_frozen BK186.out 5; have hcz10_0 : w8.cell? ⟨gb187, 0, none⟩ = some (.int .i64 0) := (blk_cell BK187.out 0).trans rfl; have hcz10_1 : w8.cell? ⟨gb187, 1, none⟩ = some (.int .i64 0) := (blk_cell BK187.out 1).trans rfl; have hcz10_2 : w8.cell? ⟨gb187, 2, none⟩ = some (.int .i64 0) := (blk_cell BK187.out 2).trans rfl; have hcz10_3 : w8.cell? ⟨gb187, 3, none⟩ = some (.slice none 0 0) := (blk_cell BK187.out 3).trans rfl; have hcz10_4 : w8.cell? ⟨gb187, 4, none⟩ = some (.int .i64 0) := (blk_cell BK187.out 4).trans rfl; have hcz10_5 : w8.cell? ⟨gb187, 5, none⟩ = some (.int .i64 0) := (blk_cell BK187.out 5).trans rfl; have hfz10_0 := blk_frozen BK187.out 0; have hfz10_1 := blk_frozen BK187.out 1; have hfz10_2 := blk_frozen BK187.out 2; have hfz10_3 := blk_frozen BK187.out 3; have hfz10_4 := blk_frozen BK187.out 4; have hfz10_5 := blk_frozen BK187.out 5))
    refine bodyPost_ret (results_ct rfl _ _ gb187 29 #[.int .i64 a0_0, .int .i64 0, .int .i64 a0_2, .slice none 0 0, .int .i64 0, .int .i64 0] (0, 0) _ rfl (by (with_reducible repeat (first | refine blk_drewN ?_ _ | refine blk_drew ?_ | refine blk_alloc ?_ _)); refine blk_put (cs := #[.int .i64 a0_0, .int .i64 0, .int .i64 a0_2, .slice none 0 0, .int .i64 0, .int .i64 0]) ?_ 5 _ rfl; (with_reducible repeat (first | refine blk_drewN ?_ _ | refine blk_drew ?_ | refine blk_alloc ?_ _)); refine blk_put (cs := #[.int .i64 a0_0, .int .i64 0, .int .i64 a0_2, .slice none 0 0, .int .i64 0, .int .i64 0]) ?_ 4 _ rfl; (with_reducible repeat (first | refine blk_drewN ?_ _ | refine blk_drew ?_ | refine blk_alloc ?_ _)); refine blk_put (cs := #[.int .i64 a0_0, .int .i64 0, .int .i64 a0_2, .slice none 0 0, .int .i64 0, .int .i64 0]) ?_ 3 _ rfl; (with_reducible repeat (first | refine blk_drewN ?_ _ | refine blk_drew ?_ | refine blk_alloc ?_ _)); refine blk_put (cs := #[.int .i64 a0_0, .int .i64 0, .int .i64 0, .slice none 0 0, .int .i64 0, .int .i64 0]) ?_ 2 _ rfl; (with_reducible repeat (first | refine blk_drewN ?_ _ | refine blk_drew ?_ | refine blk_alloc ?_ _)); refine blk_put (cs := #[.int .i64 a0_0, .int .i64 0, .int .i64 0, .slice none 0 0, .int .i64 0, .int .i64 0]) ?_ 1 _ rfl; (with_reducible repeat (first | refine blk_drewN ?_ _ | refine blk_drew ?_ | refine blk_alloc ?_ _)); refine blk_put (cs := #[.int .i64 0, .int .i64 0, .int .i64 0, .slice none 0 0, .int .i64 0, .int .i64 0]) ?_ 0 _ rfl; (with_reducible repeat (first | refine blk_drewN ?_ _ | refine blk_drew ?_ | refine blk_alloc ?_ _)); exact BK187.out) Try.underlying29 rfl (by kernel_rfl)) rfl ?_
    exact ⟨_, by first | rfl | (simp [errW_none, errW_some] <;> rfl) | (simp [*, errW_none, errW_some] <;> rfl), by first | exact Kd.R_nil _ _ _ _ _ | exact Kd.N_nil _ _ _ _ _ | exact Kd.V_nil _ _ _ _ _ | exact Kd.Q_nil _ _ _ _ _ | exact Kd.S_nil _ _ _ _ _, by repeat (first | (with_reducible first | exact HB.out | apply below_alloc | apply pw_below_drewN | apply below_drew1 | refine below_set ?_ GE186.out | refine below_set ?_ GE187.out) | exact HB.out)⟩
  · rw [if_neg c3] at H
    have c3b0 : (t188 == 0) = false := beq_eq_false_iff_ne.mpr c3
    have c3b1 : (t188 != 0) = true := bne_iff_ne.mpr c3
    simp only [Option.some.injEq, Prod.mk.injEq] at H
    obtain ⟨rfl, rfl, rfl, rfl, rfl, rfl, rfl⟩ := H
    go_enter Try.func25, Try.ntmps25
    go_wp2_with (first | ((with_reducible refine gate_dst (N := 1) rfl ?_); refine box_event ?hg (N := 1) ?hd (cs := #[.int .i64 a0_0, .int .i64 a0_1, .int .i64 a0_2, .slice A0_3 l0_3.length c0_3, .int .i64 a0_4, .int .i64 a0_5]) (t := 29) ?hr ?_; (case hd => rfl); (case hg => rfl); (case hr => first | (go_simp; done) | (go_simp; rfl)); intro gb186 hg w11 hbox hb; have n0_ := Aside0.mk (below_step (by repeat (first | (with_reducible first | exact HB.out | apply below_alloc | apply pw_below_drewN | apply below_drew1) | exact HB.out)) hb); have n1_ := Aside0.mk (hbox); have n2_ := Aside0.mk ((by rw [hg]; exact (below_size (by repeat (first | (with_reducible first | exact HB.out | apply below_alloc | apply pw_below_drewN | apply below_drew1) | exact HB.out))) : w.heap.size ≤ gb186)); have n3_ := Aside0.mk ((by rw [hg]; exact (below_size (by repeat (first | (with_reducible first | exact HB.out | apply below_alloc | apply pw_below_drewN | apply below_drew1) | exact HB.out))) : w.heap.size ≤ gb186)); clear HB; have HB := n0_; have BK186 := n1_; have GW186 := n2_; have GE186 := n3_; clear n0_ n1_ n2_ n3_; clear hb hbox hg) | ((with_reducible refine gate_dst (N := 2) rfl ?_); refine box_event ?hg (N := 2) ?hd (cs := #[.int .i64 0, .int .i64 0, .int .i64 0, .slice none 0 0, .int .i64 0, .int .i64 0]) (t := 29) ?hr ?_; (case hd => rfl); (case hg => rfl); (case hr => first | (go_simp; done) | (go_simp; rfl)); intro gb187 hg w12 hbox hb; have n0_ := Aside0.mk (blk_below (g := gb186) (o := .cells #[.int .i64 a0_0, .int .i64 a0_1, .int .i64 a0_2, .slice A0_3 l0_3.length c0_3, .int .i64 a0_4, .int .i64 a0_5] 29 (0, 0)) (by (with_reducible repeat (first | refine blk_drewN ?_ _ | refine blk_drew ?_ | refine blk_alloc ?_ _)); exact BK186.out) hb); have n1_ := Aside0.mk (below_step (by repeat (first | (with_reducible first | exact HB.out | apply below_alloc | apply pw_below_drewN | apply below_drew1 | refine below_set ?_ GE186.out) | exact HB.out)) hb); have n2_ := Aside0.mk (hbox); have n3_ := Aside0.mk ((by rw [hg]; exact (below_size (by repeat (first | (with_reducible first | exact HB.out | apply below_alloc | apply pw_below_drewN | apply below_drew1 | refine below_set ?_ GE186.out) | exact HB.out))) : w.heap.size ≤ gb187)); have n4_ := Aside0.mk ((by rw [hg]; exact (below_size (by repeat (first | (with_reducible first | exact HB.out | apply below_alloc | apply pw_below_drewN | apply below_drew1 | refine below_set ?_ GE186.out) | exact HB.out))) : w.heap.size ≤ gb187)); have n5_ := Aside0.mk ((by rw [hg]; exact Nat.ne_of_lt (blk_lt (g := gb186) (o := .cells #[.int .i64 a0_0, .int .i64 a0_1, .int .i64 a0_2, .slice A0_3 l0_3.length c0_3, .int .i64 a0_4, .int .i64 a0_5] 29 (0, 0)) (by (with_reducible repeat (first | refine blk_drewN ?_ _ | refine blk_drew ?_ | refine blk_alloc ?_ _)); exact BK186.out)) : gb186 ≠ gb187)); have n6_ := Aside0.mk ((by rw [hg]; exact Nat.ne_of_gt (blk_lt (g := gb186) (o := .cells #[.int .i64 a0_0, .int .i64 a0_1, .int .i64 a0_2, .slice A0_3 l0_3.length c0_3, .int .i64 a0_4, .int .i64 a0_5] 29 (0, 0)) (by (with_reducible repeat (first | refine blk_drewN ?_ _ | refine blk_drew ?_ | refine blk_alloc ?_ _)); exact BK186.out)) : gb187 ≠ gb186)); clear BK186; clear HB; have BK186 := n0_; have HB := n1_; have BK187 := n2_; have GW187 := n3_; have GE187 := n4_; have NB186_187 := n5_; have NB187_186 := n6_; clear n0_ n1_ n2_ n3_ n4_ n5_ n6_; clear hb hbox hg; have hnb13 := NB186_187.out; have hnc13 := NB187_186.out; have hcz14_0 : w12.cell? ⟨gb186, 0, none⟩ = some (.int .i64 a0_0) := (blk_cell BK186.out 0).trans rfl; have hcz14_1 : w12.cell? ⟨gb186, 1, none⟩ = some (.int .i64 a0_1) := (blk_cell BK186.out 1).trans rfl; have hcz14_2 : w12.cell? ⟨gb186, 2, none⟩ = some (.int .i64 a0_2) := (blk_cell BK186.out 2).trans rfl; have hcz14_3 : w12.cell? ⟨gb186, 3, none⟩ = some (.slice A0_3 l0_3.length c0_3) := (blk_cell BK186.out 3).trans rfl; have hcz14_4 : w12.cell? ⟨gb186, 4, none⟩ = some (.int .i64 a0_4) := (blk_cell BK186.out 4).trans rfl; have hcz14_5 : w12.cell? ⟨gb186, 5, none⟩ = some (.int .i64 a0_5) := (blk_cell BK186.out 5).trans rfl; have hfz14_0 := blk_frozen BK186.out 0; have hfz14_1 := blk_frozen BK186.out 1; have hfz14_2 := blk_frozen BK186.out 2; have hfz14_3 := blk_frozen BK186.out 3; have hfz14_4 := blk_frozen BK186.out 4; have hfz14_5 := blk_frozen BK186.out 5) | ((with_reducible refine gate_callee (f := 13) rfl ?_); refine goesL_ (some 5) rfl rfl Try.func13 (by kernel_rfl) rfl #[.agg #[.int .i64 a0_0, .int .i64 a0_1, .int .i64 a0_2, .slice A0_3 l0_3.length c0_3, .int .i64 a0_4, .int .i64 a0_5]] rfl (by (try simp only [List.map_toArray, List.map_cons, List.map_nil]); first | done | rfl | (simp only [List.length_drop, List.length_take]; rfl)) ?_; (with_reducible refine (lease_Check.calls k a0_0 a0_1 a0_2 _ _ l0_3 a0_4 a0_5 t188 _ ?side1 ?side2 A2.out).mono ?_); (case side1 => repeat (first | exact (Kd.C_below HR0_3.out HB.out) | (with_reducible refine Kd.C_alloc ?_ _) | (with_reducible refine Kd.C_drewN ?_ _) | (with_reducible refine Kd.C_drew ?_))); (case side2 => exact HC0_3.out); rintro e w15 ⟨rfl, hb⟩; refine ⟨_, rfl, ?_⟩; have n0_ := Aside0.mk (blk_below (g := gb186) (o := .cells #[.int .i64 a0_0, .int .i64 a0_1, .int .i64 a0_2, .slice A0_3 l0_3.length c0_3, .int .i64 a0_4, .int .i64 a0_5] 29 (0, 0)) (by (with_reducible repeat (first | refine blk_drewN ?_ _ | refine blk_drew ?_ | refine blk_alloc ?_ _)); exact BK186.out) hb); have n1_ := Aside0.mk (blk_below (g := gb187) (o := .cells #[.int .i64 0, .int .i64 0, .int .i64 0, .slice none 0 0, .int .i64 0, .int .i64 0] 29 (0, 0)) (by (with_reducible repeat (first | refine blk_drewN ?_ _ | refine blk_drew ?_ | refine blk_alloc ?_ _)); exact BK187.out) hb); have n2_ := Aside0.mk (below_step (by repeat (first | (with_reducible first | exact HB.out | apply below_alloc | apply pw_below_drewN | apply below_drew1 | refine below_set ?_ GE186.out | refine below_set ?_ GE187.out) | exact HB.out)) hb); clear BK186; clear BK187; clear HB; have BK186 := n0_; have BK187 := n1_; have HB := n2_; clear n0_ n1_ n2_; (try clear hb); (try clear hb2); (try clear hk); (try clear hi); have hcz16_0 : w15.cell? ⟨gb187, 0, none⟩ = some (.int .i64 0) := (blk_cell BK187.out 0).trans rfl; have hcz16_1 : w15.cell? ⟨gb187, 1, none⟩ = some (.int .i64 0) := (blk_cell BK187.out 1).trans rfl; have hcz16_2 : w15.cell? ⟨gb187, 2, none⟩ = some (.int .i64 0) := (blk_cell BK187.out 2).trans rfl; have hcz16_3 : w15.cell? ⟨gb187, 3, none⟩ = some (.slice none 0 0) := (blk_cell BK187.out 3).trans rfl; have hcz16_4 : w15.cell? ⟨gb187, 4, none⟩ = some (.int .i64 0) := (blk_cell BK187.out 4).trans rfl; have hcz16_5 : w15.cell? ⟨gb187, 5, none⟩ = some (.int .i64 0) := (blk_cell BK187.out 5).trans rfl; have hfz16_0 := blk_frozen BK187.out 0; have hfz16_1 := blk_frozen BK187.out 1; have hfz16_2 := blk_frozen BK187.out 2; have hfz16_3 := blk_frozen BK187.out 3; have hfz16_4 := blk_frozen BK187.out 4; have hfz16_5 := blk_frozen BK187.out 5))
    refine bodyPost_ret (results_ct rfl _ _ gb187 29 #[.int .i64 0, .int .i64 0, .int .i64 0, .slice none 0 0, .int .i64 0, .int .i64 0] (0, 0) _ rfl (by (with_reducible repeat (first | refine blk_drewN ?_ _ | refine blk_drew ?_ | refine blk_alloc ?_ _)); refine blk_put (cs := #[.int .i64 0, .int .i64 0, .int .i64 0, .slice none 0 0, .int .i64 0, .int .i64 0]) ?_ 5 _ rfl; (with_reducible repeat (first | refine blk_drewN ?_ _ | refine blk_drew ?_ | refine blk_alloc ?_ _)); refine blk_put (cs := #[.int .i64 0, .int .i64 0, .int .i64 0, .slice none 0 0, .int .i64 0, .int .i64 0]) ?_ 4 _ rfl; (with_reducible repeat (first | refine blk_drewN ?_ _ | refine blk_drew ?_ | refine blk_alloc ?_ _)); refine blk_put (cs := #[.int .i64 0, .int .i64 0, .int .i64 0, .slice none 0 0, .int .i64 0, .int .i64 0]) ?_ 3 _ rfl; (with_reducible repeat (first | refine blk_drewN ?_ _ | refine blk_drew ?_ | refine blk_alloc ?_ _)); refine blk_put (cs := #[.int .i64 0, .int .i64 0, .int .i64 0, .slice none 0 0, .int .i64 0, .int .i64 0]) ?_ 2 _ rfl; (with_reducible repeat (first | refine blk_drewN ?_ _ | refine blk_drew ?_ | refine blk_alloc ?_ _)); refine blk_put (cs := #[.int .i64 0, .int .i64 0, .int .i64 0, .slice none 0 0, .int .i64 0, .int .i64 0]) ?_ 1 _ rfl; (with_reducible repeat (first | refine blk_drewN ?_ _ | refine blk_drew ?_ | refine blk_alloc ?_ _)); refine blk_put (cs := #[.int .i64 0, .int .i64 0, .int .i64 0, .slice none 0 0, .int .i64 0, .int .i64 0]) ?_ 0 _ rfl; (with_reducible repeat (first | refine blk_drewN ?_ _ | refine blk_drew ?_ | refine blk_alloc ?_ _)); exact BK187.out) Try.underlying29 rfl (by kernel_rfl)) rfl ?_
    exact ⟨_, by first | rfl | (simp [errW_none, errW_some] <;> rfl) | (simp [*, errW_none, errW_some] <;> rfl), by first | exact Kd.R_nil _ _ _ _ _ | exact Kd.N_nil _ _ _ _ _ | exact Kd.V_nil _ _ _ _ _ | exact Kd.Q_nil _ _ _ _ _ | exact Kd.S_nil _ _ _ _ _, by repeat (first | (with_reducible first | exact HB.out | apply below_alloc | apply pw_below_drewN | apply below_drew1 | refine below_set ?_ GE186.out | refine below_set ?_ GE187.out) | exact HB.out)⟩

/-! ### lease_rising: function 41 -/
def lease_rising.l0 : Nat → List Int → Int → List Int → Int → Int → Option (Bool)
  | 0, _, _, _, _, _ => none
  | k + 1, x0, x3, x6, x7, x8 => if x8 < x7 then (if 0 ≤ x8 then (if x8 < (x6.length : Int) then (if (rd x6 x8) ≤ x3 then (some false) else (lease_rising.l0 k x0 (rd x6 x8) x6 x7 (wrap64 (x8 + 1)))) else (none)) else (none)) else (some (decide ((x0.length : Int) ≤ 100)))
def lease_rising.f (k : Nat) (l0 : List Int) : Option (Bool) := lease_rising.l0 k l0 0 l0 (l0.length : Int) 0
theorem lease_rising.mono_l : ∀ k, (∀ y0 y1 y2 y3 y4, LeO (lease_rising.l0 k y0 y1 y2 y3 y4) (lease_rising.l0 (k + 1) y0 y1 y2 y3 y4))
  | 0 => fun _ _ _ _ _ r h => by simp [lease_rising.l0] at h
  | k + 1 => by
    have ih0 := lease_rising.mono_l k
    · intro y0 y1 y2 y3 y4
      unfold lease_rising.l0
      repeat' first
      | (with_reducible exact ih0 _ _ _ _ _)
      | (with_reducible exact LeO.refl _)
      | (with_reducible exact LeO.none _)
      | (with_reducible refine LeO.ite ?_ ?_)
      | (with_reducible refine LeO.bind ?_ (fun _ => ?_))
      | exact ih0 _ _ _ _ _
      | exact LeO.none _
      | refine LeO.ite ?_ ?_
      | refine LeO.bind ?_ (fun _ => ?_)
theorem lease_rising.mono : ∀ a0 k, LeO (lease_rising.f k a0) (lease_rising.f (k + 1) a0) := by
  intro a0 k
  have ih0 := lease_rising.mono_l k
  unfold lease_rising.f
  repeat' first
      | (with_reducible exact ih0 _ _ _ _ _)
      | (with_reducible exact LeO.refl _)
      | (with_reducible exact LeO.none _)
      | (with_reducible refine LeO.ite ?_ ?_)
      | (with_reducible refine LeO.bind ?_ (fun _ => ?_))
      | exact ih0 _ _ _ _ _
      | exact LeO.none _
      | refine LeO.ite ?_ ?_
      | refine LeO.bind ?_ (fun _ => ?_)
set_option maxHeartbeats 8000000 in
set_option maxRecDepth 100000 in
theorem lease_rising.calls (k : Nat) (A0 : Option Addr) (c0 : Nat) (l0 : List Int) (r : Bool) (w : World) (hr0 : Kd.C (Kd.int .i64) w A0 l0.length l0) (hc0 : l0.length ≤ c0) (h : lease_rising.f k l0 = some r) :
    Calls Try.prog 41 #[.slice A0 l0.length c0] w fun e w' => e = .returned (.bool r) ∧ Drawn0 w w' := by
  have HR0 := Aside0.mk hr0
  have HC0 := Aside0.mk hc0
  clear hr0 hc0
  have H : (lease_rising.l0 k l0 0 l0 (l0.length : Int) 0) = some r := h
  clear h
  have H' := Aside0.mk H
  clear H
  go_enter Try.func41, Try.ntmps41
  go_wp2
  go_loopg [3, 8] k (fun kq v3 v8 w' => ∃ (x3_1 : Int) (x8_1 : Int), v3 = .int .i64 x3_1 ∧ v8 = .int .i64 x8_1 ∧ Aside0 (lease_rising.l0 kq l0 x3_1 l0 (l0.length : Int) x8_1 = some r) ∧ Aside0 (kq ≤ k) ∧ Drawn0 w w')
  case atStart => exact ⟨(0), (0), (by first | rfl | (simp; done) | (simp [*]; done)), (by first | rfl | (simp; done) | (simp [*]; done)), H', ⟨Nat.le_refl _⟩, by repeat (first | exact Drawn0.refl _ | apply Drawn0.step)⟩
  case round =>
    clear H'
    obtain ⟨x3_1, x8_1, rfl, rfl, HA, HK1, ⟨m1, rfl⟩⟩ := hrel
    cases gk with
    | zero => exact absurd HA.out (by simp [lease_rising.l0])
    | succ k1 =>
      have H := HA.out
      clear HA
      simp only [lease_rising.l0] at H
      by_cases c2 : x8_1 < (l0.length : Int)
      · rw [if_pos c2] at H
        have c2b0 : decide (x8_1 < (l0.length : Int)) = true := decide_eq_true c2
        clear c2
        by_cases c3 : 0 ≤ x8_1
        · rw [if_pos c3] at H
          have c3b0 : decide (0 ≤ x8_1) = true := decide_eq_true c3
          clear c3
          by_cases c4 : x8_1 < (l0.length : Int)
          · rw [if_pos c4] at H
            have c4b0 : decide (x8_1 < (l0.length : Int)) = true := decide_eq_true c4
            clear c4
            by_cases c5 : (rd l0 x8_1) ≤ x3_1
            · rw [if_pos c5] at H
              have c5b0 : decide ((rd l0 x8_1) ≤ x3_1) = true := decide_eq_true c5
              clear c5
              obtain rfl := Option.some.inj H
              have p189 : 0 ≤ (x8_1 : Int) := of_decide_eq_true (by first | (with_reducible assumption) | assumption)
              have q189 : x8_1 < (l0.length : Int) := of_decide_eq_true (by first | (with_reducible assumption) | assumption)
              obtain ⟨ad189, e189, hx189_0⟩ := Kd.at_int HR0.out x8_1 p189 q189
              cases e189
              replace p189 := eq_true p189
              replace q189 := eq_true q189
              go_wp2
              go_ret
              exact ⟨by first | rfl | (simp; done) | (simp [*]; done), by repeat (first | exact Drawn0.refl _ | apply Drawn0.step)⟩
            · rw [if_neg c5] at H
              have c5b0 : decide ((rd l0 x8_1) ≤ x3_1) = false := decide_eq_false c5
              clear c5
              have H' := Aside0.mk H
              clear H
              have p189 : 0 ≤ (x8_1 : Int) := of_decide_eq_true (by first | (with_reducible assumption) | assumption)
              have q189 : x8_1 < (l0.length : Int) := of_decide_eq_true (by first | (with_reducible assumption) | assumption)
              obtain ⟨ad189, e189, hx189_0⟩ := Kd.at_int HR0.out x8_1 p189 q189
              cases e189
              replace p189 := eq_true p189
              replace q189 := eq_true q189
              go_wp2
              go_roundg k1
              case measure => have := HK1.out; omega
              case rel => exact ⟨(rd l0 x8_1), (wrap64 (x8_1 + 1)), (by first | rfl | (simp; done) | (simp [*]; done)), (by first | rfl | (simp; done) | (simp [*]; done)), H', ⟨by have := HK1.out; omega⟩, by repeat (first | exact Drawn0.refl _ | apply Drawn0.step)⟩
          · rw [if_neg c4] at H
            exact absurd H (by simp)
        · rw [if_neg c3] at H
          exact absurd H (by simp)
      · rw [if_neg c2] at H
        have c2b0 : decide (x8_1 < (l0.length : Int)) = false := decide_eq_false c2
        clear c2
        obtain rfl := Option.some.inj H
        go_wp2
        go_ret
        exact ⟨by first | rfl | (simp; done) | (simp [*]; done), by repeat (first | exact Drawn0.refl _ | apply Drawn0.step)⟩

/-! ### folkmootlaw20_same: function 20 -/
mutual
def folkmootlaw20_same.j0 : Nat → Bool → Int → Int → Int → List (S59) → Int → Int → Int → Int → Int → List (S59) → Int → Int → Int → Int → Int → List (S59) → Int → Int → Option (Bool × (List (S59)))
  | 0, _, _, _, _, _, _, _, _, _, _, _, _, _, _, _, _, _, _, _ => none
  | k + 1, x13, x191000, x191001, x191002, x191003, x191004, x191005, x193000, x193001, x193002, x193003, x193004, x193005, x194000, x194001, x194002, x194003, x194004, x194005 => folkmootlaw20_same.l0 k x13 0 x191000 x191001 x191002 x191003 x191004 x191005 x193000 x193001 x193002 x193003 x193004 x193005 x194000 x194001 x194002 x194003 x194004 x194005
def folkmootlaw20_same.l0 : Nat → Bool → Int → Int → Int → Int → List (S59) → Int → Int → Int → Int → Int → List (S59) → Int → Int → Int → Int → Int → List (S59) → Int → Int → Option (Bool × (List (S59)))
  | 0, _, _, _, _, _, _, _, _, _, _, _, _, _, _, _, _, _, _, _, _ => none
  | k + 1, x13, x14, x191000, x191001, x191002, x191003, x191004, x191005, x193000, x193001, x193002, x193003, x193004, x193005, x194000, x194001, x194002, x194003, x194004, x194005 => if x14 < (x191003.length : Int) then (if 0 ≤ x14 then (folkmootlaw20_same.l0 k x13 (wrap64 (x14 + 1)) x191000 x191001 x191002 (x191003.set (x14 : Int).toNat (⟨77, (rd_T59 x191003 x14).f1⟩ : S59)) x191004 x191005 x193000 x193001 x193002 x193003 x193004 x193005 x194000 x194001 x194002 x194003 x194004 x194005) else (none)) else (if x13 = true then ((folkmootref20_Same.f k x193000 x193001 x193002 x193003 x193004 x193005 x194000 x194001 x194002 x194003 x194004 x194005).bind fun t196 => (some (t196, x191003))) else (some (false, x191003)))
end
def folkmootlaw20_same.f (k : Nat) (a0_0 : Int) (a0_1 : Int) (a0_2 : Int) (l0_3 : List (S59)) (a0_4 : Int) (a0_5 : Int) (a1 : Int) (a2_0 : Int) (a2_1 : Int) (a2_2 : Int) (l2_3 : List (S59)) (a2_4 : Int) (a2_5 : Int) (a3 : Int) (a4_0 : Int) (a4_1 : Int) (a4_2 : Int) (l4_3 : List (S59)) (a4_4 : Int) (a4_5 : Int) (a5_0 : Int) (a5_1 : Int) (a5_2 : Int) (l5_3 : List (S59)) (a5_4 : Int) (a5_5 : Int) : Option (Bool × (List (S59))) := if a1 = a3 then ((folkmootref20_Same.f k a0_0 a0_1 a0_2 l0_3 a0_4 a0_5 a2_0 a2_1 a2_2 l2_3 a2_4 a2_5).bind fun t194 => (folkmootlaw20_same.j0 k t194 a0_0 a0_1 a0_2 l0_3 a0_4 a0_5 a4_0 a4_1 a4_2 l4_3 a4_4 a4_5 a5_0 a5_1 a5_2 l5_3 a5_4 a5_5)) else (folkmootlaw20_same.j0 k false a0_0 a0_1 a0_2 l0_3 a0_4 a0_5 a4_0 a4_1 a4_2 l4_3 a4_4 a4_5 a5_0 a5_1 a5_2 l5_3 a5_4 a5_5)
theorem folkmootlaw20_same.mono_l : ∀ k, (∀ y0 y1 y2 y3 y4 y5 y6 y7 y8 y9 y10 y11 y12 y13 y14 y15 y16 y17 y18, LeO (folkmootlaw20_same.j0 k y0 y1 y2 y3 y4 y5 y6 y7 y8 y9 y10 y11 y12 y13 y14 y15 y16 y17 y18) (folkmootlaw20_same.j0 (k + 1) y0 y1 y2 y3 y4 y5 y6 y7 y8 y9 y10 y11 y12 y13 y14 y15 y16 y17 y18)) ∧ (∀ y0 y1 y2 y3 y4 y5 y6 y7 y8 y9 y10 y11 y12 y13 y14 y15 y16 y17 y18 y19, LeO (folkmootlaw20_same.l0 k y0 y1 y2 y3 y4 y5 y6 y7 y8 y9 y10 y11 y12 y13 y14 y15 y16 y17 y18 y19) (folkmootlaw20_same.l0 (k + 1) y0 y1 y2 y3 y4 y5 y6 y7 y8 y9 y10 y11 y12 y13 y14 y15 y16 y17 y18 y19))
  | 0 => ⟨fun _ _ _ _ _ _ _ _ _ _ _ _ _ _ _ _ _ _ _ r h => by simp [folkmootlaw20_same.j0] at h, fun _ _ _ _ _ _ _ _ _ _ _ _ _ _ _ _ _ _ _ _ r h => by simp [folkmootlaw20_same.l0] at h⟩
  | k + 1 => by
    obtain ⟨ih0, ih1⟩ := folkmootlaw20_same.mono_l k
    refine ⟨?_, ?_⟩
    · intro y0 y1 y2 y3 y4 y5 y6 y7 y8 y9 y10 y11 y12 y13 y14 y15 y16 y17 y18
      unfold folkmootlaw20_same.j0
      repeat' first
      | (with_reducible exact ih0 _ _ _ _ _ _ _ _ _ _ _ _ _ _ _ _ _ _ _)
      | (with_reducible exact ih1 _ _ _ _ _ _ _ _ _ _ _ _ _ _ _ _ _ _ _ _)
      | (with_reducible exact folkmootref20_Same.mono _ _ _ _ _ _ _ _ _ _ _ _ _)
      | (with_reducible exact LeO.refl _)
      | (with_reducible exact LeO.none _)
      | (with_reducible refine LeO.ite ?_ ?_)
      | (with_reducible refine LeO.bind ?_ (fun _ => ?_))
      | exact ih0 _ _ _ _ _ _ _ _ _ _ _ _ _ _ _ _ _ _ _
      | exact ih1 _ _ _ _ _ _ _ _ _ _ _ _ _ _ _ _ _ _ _ _
      | exact folkmootref20_Same.mono _ _ _ _ _ _ _ _ _ _ _ _ _
      | exact LeO.none _
      | refine LeO.ite ?_ ?_
      | refine LeO.bind ?_ (fun _ => ?_)
    · intro y0 y1 y2 y3 y4 y5 y6 y7 y8 y9 y10 y11 y12 y13 y14 y15 y16 y17 y18 y19
      unfold folkmootlaw20_same.l0
      repeat' first
      | (with_reducible exact ih0 _ _ _ _ _ _ _ _ _ _ _ _ _ _ _ _ _ _ _)
      | (with_reducible exact ih1 _ _ _ _ _ _ _ _ _ _ _ _ _ _ _ _ _ _ _ _)
      | (with_reducible exact folkmootref20_Same.mono _ _ _ _ _ _ _ _ _ _ _ _ _)
      | (with_reducible exact LeO.refl _)
      | (with_reducible exact LeO.none _)
      | (with_reducible refine LeO.ite ?_ ?_)
      | (with_reducible refine LeO.bind ?_ (fun _ => ?_))
      | exact ih0 _ _ _ _ _ _ _ _ _ _ _ _ _ _ _ _ _ _ _
      | exact ih1 _ _ _ _ _ _ _ _ _ _ _ _ _ _ _ _ _ _ _ _
      | exact folkmootref20_Same.mono _ _ _ _ _ _ _ _ _ _ _ _ _
      | exact LeO.none _
      | refine LeO.ite ?_ ?_
      | refine LeO.bind ?_ (fun _ => ?_)
theorem folkmootlaw20_same.mono : ∀ a0 a1 a2 a3 a4 a5 a6 a7 a8 a9 a10 a11 a12 a13 a14 a15 a16 a17 a18 a19 a20 a21 a22 a23 a24 a25 k, LeO (folkmootlaw20_same.f k a0 a1 a2 a3 a4 a5 a6 a7 a8 a9 a10 a11 a12 a13 a14 a15 a16 a17 a18 a19 a20 a21 a22 a23 a24 a25) (folkmootlaw20_same.f (k + 1) a0 a1 a2 a3 a4 a5 a6 a7 a8 a9 a10 a11 a12 a13 a14 a15 a16 a17 a18 a19 a20 a21 a22 a23 a24 a25) := by
  intro a0 a1 a2 a3 a4 a5 a6 a7 a8 a9 a10 a11 a12 a13 a14 a15 a16 a17 a18 a19 a20 a21 a22 a23 a24 a25 k
  obtain ⟨ih0, ih1⟩ := folkmootlaw20_same.mono_l k
  unfold folkmootlaw20_same.f
  repeat' first
      | (with_reducible exact ih0 _ _ _ _ _ _ _ _ _ _ _ _ _ _ _ _ _ _ _)
      | (with_reducible exact ih1 _ _ _ _ _ _ _ _ _ _ _ _ _ _ _ _ _ _ _ _)
      | (with_reducible exact folkmootref20_Same.mono _ _ _ _ _ _ _ _ _ _ _ _ _)
      | (with_reducible exact LeO.refl _)
      | (with_reducible exact LeO.none _)
      | (with_reducible refine LeO.ite ?_ ?_)
      | (with_reducible refine LeO.bind ?_ (fun _ => ?_))
      | exact ih0 _ _ _ _ _ _ _ _ _ _ _ _ _ _ _ _ _ _ _
      | exact ih1 _ _ _ _ _ _ _ _ _ _ _ _ _ _ _ _ _ _ _ _
      | exact folkmootref20_Same.mono _ _ _ _ _ _ _ _ _ _ _ _ _
      | exact LeO.none _
      | refine LeO.ite ?_ ?_
      | refine LeO.bind ?_ (fun _ => ?_)
set_option maxHeartbeats 8000000 in
set_option maxRecDepth 100000 in
theorem folkmootlaw20_same.calls (k : Nat) (a0_0 : Int) (a0_1 : Int) (a0_2 : Int) (P0_3_ : Nat → Prop) (u9000_ : Value) (l0_3 : List (S59)) (a0_4 : Int) (a0_5 : Int) (a1 : Int) (a2_0 : Int) (a2_1 : Int) (a2_2 : Int) (A2_3 : Option Addr) (c2_3 : Nat) (l2_3 : List (S59)) (a2_4 : Int) (a2_5 : Int) (a3 : Int) (a4_0 : Int) (a4_1 : Int) (a4_2 : Int) (A4_3 : Option Addr) (c4_3 : Nat) (l4_3 : List (S59)) (a4_4 : Int) (a4_5 : Int) (a5_0 : Int) (a5_1 : Int) (a5_2 : Int) (A5_3 : Option Addr) (c5_3 : Nat) (l5_3 : List (S59)) (a5_4 : Int) (a5_5 : Int) (r1 : Bool) (r2 : List (S59)) (w0 w : World) (hB : Below w0.heap.size w0 w) (ho0_3 : Kd.R k59 59 w w0.heap.size P0_3_ u9000_ l0_3) (hr2_3 : ∀ W_, Kept w W_ (fun k_ => P0_3_ k_) → Kd.C k59 W_ A2_3 l2_3.length l2_3) (hc2_3 : l2_3.length ≤ c2_3) (hr4_3 : ∀ W_, Kept w W_ (fun k_ => P0_3_ k_) → Kd.C k59 W_ A4_3 l4_3.length l4_3) (hc4_3 : l4_3.length ≤ c4_3) (hr5_3 : ∀ W_, Kept w W_ (fun k_ => P0_3_ k_) → Kd.C k59 W_ A5_3 l5_3.length l5_3) (hc5_3 : l5_3.length ≤ c5_3) (h : folkmootlaw20_same.f k a0_0 a0_1 a0_2 l0_3 a0_4 a0_5 a1 a2_0 a2_1 a2_2 l2_3 a2_4 a2_5 a3 a4_0 a4_1 a4_2 l4_3 a4_4 a4_5 a5_0 a5_1 a5_2 l5_3 a5_4 a5_5 = some (r1, r2)) :
    Calls Try.prog 20 #[.agg #[.int .i64 a0_0, .int .i64 a0_1, .int .i64 a0_2, u9000_, .int .i64 a0_4, .int .i64 a0_5], .int .i64 a1, .agg #[.int .i64 a2_0, .int .i64 a2_1, .int .i64 a2_2, .slice A2_3 l2_3.length c2_3, .int .i64 a2_4, .int .i64 a2_5], .int .i64 a3, .agg #[.int .i64 a4_0, .int .i64 a4_1, .int .i64 a4_2, .slice A4_3 l4_3.length c4_3, .int .i64 a4_4, .int .i64 a4_5], .agg #[.int .i64 a5_0, .int .i64 a5_1, .int .i64 a5_2, .slice A5_3 l5_3.length c5_3, .int .i64 a5_4, .int .i64 a5_5]] w fun e w' => e = .returned (.bool r1) ∧ Kd.R k59 59 w' w0.heap.size (fun k_ => (P0_3_ k_ ∨ w.heap.size ≤ k_)) u9000_ r2 ∧ Below w0.heap.size w0 w' ∧ Kept w w' (fun k_ => P0_3_ k_) := by
  have hu29 := Try.underlying29
  have HO0_3 := Aside0.mk (show Kd.R k59 59 w w0.heap.size (fun k_ => (P0_3_ k_ ∨ w.heap.size ≤ k_)) u9000_ l0_3 from Kd.R_mono ho0_3 (fun k_ hk => (.inl hk)))
  have HR2_3 := Aside0.mk hr2_3
  have HC2_3 := Aside0.mk hc2_3
  clear hr2_3 hc2_3
  have HR4_3 := Aside0.mk hr4_3
  have HC4_3 := Aside0.mk hc4_3
  clear hr4_3 hc4_3
  have HR5_3 := Aside0.mk hr5_3
  have HC5_3 := Aside0.mk hc5_3
  clear hr5_3 hc5_3
  have HK := Aside0.mk (Kept.refl w (fun k_ => P0_3_ k_))
  have HW0 := Aside0.mk hB.size
  have HB := Aside0.mk hB
  clear hB
  have H : (if a1 = a3 then ((folkmootref20_Same.f k a0_0 a0_1 a0_2 l0_3 a0_4 a0_5 a2_0 a2_1 a2_2 l2_3 a2_4 a2_5).bind fun t194 => (folkmootlaw20_same.j0 k t194 a0_0 a0_1 a0_2 l0_3 a0_4 a0_5 a4_0 a4_1 a4_2 l4_3 a4_4 a4_5 a5_0 a5_1 a5_2 l5_3 a5_4 a5_5)) else (folkmootlaw20_same.j0 k false a0_0 a0_1 a0_2 l0_3 a0_4 a0_5 a4_0 a4_1 a4_2 l4_3 a4_4 a4_5 a5_0 a5_1 a5_2 l5_3 a5_4 a5_5)) = some (r1, r2) := h
  clear h
  have HC7 := Aside0.mk H
  clear H
  obtain ⟨Ao8, co8, eo8⟩ := Kd.R_slice HO0_3.out
  subst eo8
  go_enter Try.func20, Try.ntmps20
  go_upto_region 1 with (first | ((with_reducible refine gate_dst (N := 6) rfl ?_); refine box_event ?hg (N := 6) ?hd (cs := #[.int .i64 a0_0, .int .i64 a0_1, .int .i64 a0_2, .slice Ao8 l0_3.length co8, .int .i64 a0_4, .int .i64 a0_5]) (t := 29) ?hr ?_; (case hd => rfl); (case hg => rfl); (case hr => first | (go_simp; done) | (go_simp; rfl)); intro gb190 hg w9 hbox hb; have n0_ := Aside0.mk (Kd.R_below (by (with_reducible repeat (first | apply Kd.R_alloc | apply Kd.R_drewN | apply Kd.R_drew)); exact HO0_3.out) hb); have n1_ := Aside0.mk (Kept.below (S := (fun k_ => P0_3_ k_)) (by repeat (first | (with_reducible first | exact HK.out | apply Kept.alloc | apply Kept.drewN | apply Kept.drew) | exact HK.out)) hb); have n2_ := Aside0.mk (below_step (by repeat (first | (with_reducible first | exact HB.out | apply below_alloc | apply pw_below_drewN | apply below_drew1) | exact HB.out)) hb); have n3_ := Aside0.mk (hbox); have n4_ := Aside0.mk ((by rw [hg]; exact (by first | exact HK.out.1 | exact (show Kept w _ (fun k_ => P0_3_ k_) from by repeat (first | (with_reducible first | exact HK.out | apply Kept.alloc | apply Kept.drewN | apply Kept.drew) | exact HK.out)).1) : w.heap.size ≤ gb190)); have n5_ := Aside0.mk ((by rw [hg]; exact (below_size (by repeat (first | (with_reducible first | exact HB.out | apply below_alloc | apply pw_below_drewN | apply below_drew1) | exact HB.out))) : w0.heap.size ≤ gb190)); clear HO0_3; clear HK; clear HB; have HO0_3 := n0_; have HK := n1_; have HB := n2_; have BK190 := n3_; have GW190 := n4_; have GE190 := n5_; clear n0_ n1_ n2_ n3_ n4_ n5_; clear hb hbox hg) | ((with_reducible refine gate_dst (N := 8) rfl ?_); refine box_event ?hg (N := 8) ?hd (cs := #[.int .i64 a2_0, .int .i64 a2_1, .int .i64 a2_2, .slice A2_3 l2_3.length c2_3, .int .i64 a2_4, .int .i64 a2_5]) (t := 29) ?hr ?_; (case hd => rfl); (case hg => rfl); (case hr => first | (go_simp; done) | (go_simp; rfl)); intro gb191 hg w10 hbox hb; have n0_ := Aside0.mk (Kd.R_below (by (with_reducible repeat (first | apply Kd.R_alloc | apply Kd.R_drewN | apply Kd.R_drew)); exact HO0_3.out) hb); have n1_ := Aside0.mk (blk_below (g := gb190) (o := .cells #[.int .i64 a0_0, .int .i64 a0_1, .int .i64 a0_2, .slice Ao8 l0_3.length co8, .int .i64 a0_4, .int .i64 a0_5] 29 (0, 0)) (by (with_reducible repeat (first | refine blk_drewN ?_ _ | refine blk_drew ?_ | refine blk_alloc ?_ _)); exact BK190.out) hb); have n2_ := Aside0.mk (Kept.below (S := (fun k_ => P0_3_ k_)) (by repeat (first | (with_reducible first | exact HK.out | apply Kept.alloc | apply Kept.drewN | apply Kept.drew | refine Kept.setCell ?_ (.inr GW190.out) _) | exact HK.out)) hb); have n3_ := Aside0.mk (below_step (by repeat (first | (with_reducible first | exact HB.out | apply below_alloc | apply pw_below_drewN | apply below_drew1 | refine below_set ?_ GE190.out) | exact HB.out)) hb); have n4_ := Aside0.mk (hbox); have n5_ := Aside0.mk ((by rw [hg]; exact (by first | exact HK.out.1 | exact (show Kept w _ (fun k_ => P0_3_ k_) from by repeat (first | (with_reducible first | exact HK.out | apply Kept.alloc | apply Kept.drewN | apply Kept.drew | refine Kept.setCell ?_ (.inr GW190.out) _) | exact HK.out)).1) : w.heap.size ≤ gb191)); have n6_ := Aside0.mk ((by rw [hg]; exact (below_size (by repeat (first | (with_reducible first | exact HB.out | apply below_alloc | apply pw_below_drewN | apply below_drew1 | refine below_set ?_ GE190.out) | exact HB.out))) : w0.heap.size ≤ gb191)); have n7_ := Aside0.mk ((by rw [hg]; exact Nat.ne_of_lt (blk_lt (g := gb190) (o := .cells #[.int .i64 a0_0, .int .i64 a0_1, .int .i64 a0_2, .slice Ao8 l0_3.length co8, .int .i64 a0_4, .int .i64 a0_5] 29 (0, 0)) (by (with_reducible repeat (first | refine blk_drewN ?_ _ | refine blk_drew ?_ | refine blk_alloc ?_ _)); exact BK190.out)) : gb190 ≠ gb191)); have n8_ := Aside0.mk ((by rw [hg]; exact Nat.ne_of_gt (blk_lt (g := gb190) (o := .cells #[.int .i64 a0_0, .int .i64 a0_1, .int .i64 a0_2, .slice Ao8 l0_3.length co8, .int .i64 a0_4, .int .i64 a0_5] 29 (0, 0)) (by (with_reducible repeat (first | refine blk_drewN ?_ _ | refine blk_drew ?_ | refine blk_alloc ?_ _)); exact BK190.out)) : gb191 ≠ gb190)); clear HO0_3; clear BK190; clear HK; clear HB; have HO0_3 := n0_; have BK190 := n1_; have HK := n2_; have HB := n3_; have BK191 := n4_; have GW191 := n5_; have GE191 := n6_; have NB190_191 := n7_; have NB191_190 := n8_; clear n0_ n1_ n2_ n3_ n4_ n5_ n6_ n7_ n8_; clear hb hbox hg) | ((with_reducible refine gate_dst (N := 10) rfl ?_); refine box_event ?hg (N := 10) ?hd (cs := #[.int .i64 a4_0, .int .i64 a4_1, .int .i64 a4_2, .slice A4_3 l4_3.length c4_3, .int .i64 a4_4, .int .i64 a4_5]) (t := 29) ?hr ?_; (case hd => rfl); (case hg => rfl); (case hr => first | (go_simp; done) | (go_simp; rfl)); intro gb192 hg w11 hbox hb; have n0_ := Aside0.mk (Kd.R_below (by (with_reducible repeat (first | apply Kd.R_alloc | apply Kd.R_drewN | apply Kd.R_drew)); exact HO0_3.out) hb); have n1_ := Aside0.mk (blk_below (g := gb190) (o := .cells #[.int .i64 a0_0, .int .i64 a0_1, .int .i64 a0_2, .slice Ao8 l0_3.length co8, .int .i64 a0_4, .int .i64 a0_5] 29 (0, 0)) (by (with_reducible repeat (first | refine blk_drewN ?_ _ | refine blk_drew ?_ | refine blk_alloc ?_ _)); exact BK190.out) hb); have n2_ := Aside0.mk (blk_below (g := gb191) (o := .cells #[.int .i64 a2_0, .int .i64 a2_1, .int .i64 a2_2, .slice A2_3 l2_3.length c2_3, .int .i64 a2_4, .int .i64 a2_5] 29 (0, 0)) (by (with_reducible repeat (first | refine blk_drewN ?_ _ | refine blk_drew ?_ | refine blk_alloc ?_ _)); exact BK191.out) hb); have n3_ := Aside0.mk (Kept.below (S := (fun k_ => P0_3_ k_)) (by repeat (first | (with_reducible first | exact HK.out | apply Kept.alloc | apply Kept.drewN | apply Kept.drew | refine Kept.setCell ?_ (.inr GW190.out) _ | refine Kept.setCell ?_ (.inr GW191.out) _) | exact HK.out)) hb); have n4_ := Aside0.mk (below_step (by repeat (first | (with_reducible first | exact HB.out | apply below_alloc | apply pw_below_drewN | apply below_drew1 | refine below_set ?_ GE190.out | refine below_set ?_ GE191.out) | exact HB.out)) hb); have n5_ := Aside0.mk (hbox); have n6_ := Aside0.mk ((by rw [hg]; exact (by first | exact HK.out.1 | exact (show Kept w _ (fun k_ => P0_3_ k_) from by repeat (first | (with_reducible first | exact HK.out | apply Kept.alloc | apply Kept.drewN | apply Kept.drew | refine Kept.setCell ?_ (.inr GW190.out) _ | refine Kept.setCell ?_ (.inr GW191.out) _) | exact HK.out)).1) : w.heap.size ≤ gb192)); have n7_ := Aside0.mk ((by rw [hg]; exact (below_size (by repeat (first | (with_reducible first | exact HB.out | apply below_alloc | apply pw_below_drewN | apply below_drew1 | refine below_set ?_ GE190.out | refine below_set ?_ GE191.out) | exact HB.out))) : w0.heap.size ≤ gb192)); have n8_ := Aside0.mk ((by rw [hg]; exact Nat.ne_of_lt (blk_lt (g := gb190) (o := .cells #[.int .i64 a0_0, .int .i64 a0_1, .int .i64 a0_2, .slice Ao8 l0_3.length co8, .int .i64 a0_4, .int .i64 a0_5] 29 (0, 0)) (by (with_reducible repeat (first | refine blk_drewN ?_ _ | refine blk_drew ?_ | refine blk_alloc ?_ _)); exact BK190.out)) : gb190 ≠ gb192)); have n9_ := Aside0.mk ((by rw [hg]; exact Nat.ne_of_gt (blk_lt (g := gb190) (o := .cells #[.int .i64 a0_0, .int .i64 a0_1, .int .i64 a0_2, .slice Ao8 l0_3.length co8, .int .i64 a0_4, .int .i64 a0_5] 29 (0, 0)) (by (with_reducible repeat (first | refine blk_drewN ?_ _ | refine blk_drew ?_ | refine blk_alloc ?_ _)); exact BK190.out)) : gb192 ≠ gb190)); have n10_ := Aside0.mk ((by rw [hg]; exact Nat.ne_of_lt (blk_lt (g := gb191) (o := .cells #[.int .i64 a2_0, .int .i64 a2_1, .int .i64 a2_2, .slice A2_3 l2_3.length c2_3, .int .i64 a2_4, .int .i64 a2_5] 29 (0, 0)) (by (with_reducible repeat (first | refine blk_drewN ?_ _ | refine blk_drew ?_ | refine blk_alloc ?_ _)); exact BK191.out)) : gb191 ≠ gb192)); have n11_ := Aside0.mk ((by rw [hg]; exact Nat.ne_of_gt (blk_lt (g := gb191) (o := .cells #[.int .i64 a2_0, .int .i64 a2_1, .int .i64 a2_2, .slice A2_3 l2_3.length c2_3, .int .i64 a2_4, .int .i64 a2_5] 29 (0, 0)) (by (with_reducible repeat (first | refine blk_drewN ?_ _ | refine blk_drew ?_ | refine blk_alloc ?_ _)); exact BK191.out)) : gb192 ≠ gb191)); clear HO0_3; clear BK190; clear BK191; clear HK; clear HB; have HO0_3 := n0_; have BK190 := n1_; have BK191 := n2_; have HK := n3_; have HB := n4_; have BK192 := n5_; have GW192 := n6_; have GE192 := n7_; have NB190_192 := n8_; have NB192_190 := n9_; have NB191_192 := n10_; have NB192_191 := n11_; clear n0_ n1_ n2_ n3_ n4_ n5_ n6_ n7_ n8_ n9_ n10_ n11_; clear hb hbox hg) | ((with_reducible refine gate_dst (N := 11) rfl ?_); refine box_event ?hg (N := 11) ?hd (cs := #[.int .i64 a5_0, .int .i64 a5_1, .int .i64 a5_2, .slice A5_3 l5_3.length c5_3, .int .i64 a5_4, .int .i64 a5_5]) (t := 29) ?hr ?_; (case hd => rfl); (case hg => rfl); (case hr => first | (go_simp; done) | (go_simp; rfl)); intro gb193 hg w12 hbox hb; have n0_ := Aside0.mk (Kd.R_below (by (with_reducible repeat (first | apply Kd.R_alloc | apply Kd.R_drewN | apply Kd.R_drew)); exact HO0_3.out) hb); have n1_ := Aside0.mk (blk_below (g := gb190) (o := .cells #[.int .i64 a0_0, .int .i64 a0_1, .int .i64 a0_2, .slice Ao8 l0_3.length co8, .int .i64 a0_4, .int .i64 a0_5] 29 (0, 0)) (by (with_reducible repeat (first | refine blk_drewN ?_ _ | refine blk_drew ?_ | refine blk_alloc ?_ _)); exact BK190.out) hb); have n2_ := Aside0.mk (blk_below (g := gb191) (o := .cells #[.int .i64 a2_0, .int .i64 a2_1, .int .i64 a2_2, .slice A2_3 l2_3.length c2_3, .int .i64 a2_4, .int .i64 a2_5] 29 (0, 0)) (by (with_reducible repeat (first | refine blk_drewN ?_ _ | refine blk_drew ?_ | refine blk_alloc ?_ _)); exact BK191.out) hb); have n3_ := Aside0.mk (blk_below (g := gb192) (o := .cells #[.int .i64 a4_0, .int .i64 a4_1, .int .i64 a4_2, .slice A4_3 l4_3.length c4_3, .int .i64 a4_4, .int .i64 a4_5] 29 (0, 0)) (by (with_reducible repeat (first | refine blk_drewN ?_ _ | refine blk_drew ?_ | refine blk_alloc ?_ _)); exact BK192.out) hb); have n4_ := Aside0.mk (Kept.below (S := (fun k_ => P0_3_ k_)) (by repeat (first | (with_reducible first | exact HK.out | apply Kept.alloc | apply Kept.drewN | apply Kept.drew | refine Kept.setCell ?_ (.inr GW190.out) _ | refine Kept.setCell ?_ (.inr GW191.out) _ | refine Kept.setCell ?_ (.inr GW192.out) _) | exact HK.out)) hb); have n5_ := Aside0.mk (below_step (by repeat (first | (with_reducible first | exact HB.out | apply below_alloc | apply pw_below_drewN | apply below_drew1 | refine below_set ?_ GE190.out | refine below_set ?_ GE191.out | refine below_set ?_ GE192.out) | exact HB.out)) hb); have n6_ := Aside0.mk (hbox); have n7_ := Aside0.mk ((by rw [hg]; exact (by first | exact HK.out.1 | exact (show Kept w _ (fun k_ => P0_3_ k_) from by repeat (first | (with_reducible first | exact HK.out | apply Kept.alloc | apply Kept.drewN | apply Kept.drew | refine Kept.setCell ?_ (.inr GW190.out) _ | refine Kept.setCell ?_ (.inr GW191.out) _ | refine Kept.setCell ?_ (.inr GW192.out) _) | exact HK.out)).1) : w.heap.size ≤ gb193)); have n8_ := Aside0.mk ((by rw [hg]; exact (below_size (by repeat (first | (with_reducible first | exact HB.out | apply below_alloc | apply pw_below_drewN | apply below_drew1 | refine below_set ?_ GE190.out | refine below_set ?_ GE191.out | refine below_set ?_ GE192.out) | exact HB.out))) : w0.heap.size ≤ gb193)); have n9_ := Aside0.mk ((by rw [hg]; exact Nat.ne_of_lt (blk_lt (g := gb190) (o := .cells #[.int .i64 a0_0, .int .i64 a0_1, .int .i64 a0_2, .slice Ao8 l0_3.length co8, .int .i64 a0_4, .int .i64 a0_5] 29 (0, 0)) (by (with_reducible repeat (first | refine blk_drewN ?_ _ | refine blk_drew ?_ | refine blk_alloc ?_ _)); exact BK190.out)) : gb190 ≠ gb193)); have n10_ := Aside0.mk ((by rw [hg]; exact Nat.ne_of_gt (blk_lt (g := gb190) (o := .cells #[.int .i64 a0_0, .int .i64 a0_1, .int .i64 a0_2, .slice Ao8 l0_3.length co8, .int .i64 a0_4, .int .i64 a0_5] 29 (0, 0)) (by (with_reducible repeat (first | refine blk_drewN ?_ _ | refine blk_drew ?_ | refine blk_alloc ?_ _)); exact BK190.out)) : gb193 ≠ gb190)); have n11_ := Aside0.mk ((by rw [hg]; exact Nat.ne_of_lt (blk_lt (g := gb191) (o := .cells #[.int .i64 a2_0, .int .i64 a2_1, .int .i64 a2_2, .slice A2_3 l2_3.length c2_3, .int .i64 a2_4, .int .i64 a2_5] 29 (0, 0)) (by (with_reducible repeat (first | refine blk_drewN ?_ _ | refine blk_drew ?_ | refine blk_alloc ?_ _)); exact BK191.out)) : gb191 ≠ gb193)); have n12_ := Aside0.mk ((by rw [hg]; exact Nat.ne_of_gt (blk_lt (g := gb191) (o := .cells #[.int .i64 a2_0, .int .i64 a2_1, .int .i64 a2_2, .slice A2_3 l2_3.length c2_3, .int .i64 a2_4, .int .i64 a2_5] 29 (0, 0)) (by (with_reducible repeat (first | refine blk_drewN ?_ _ | refine blk_drew ?_ | refine blk_alloc ?_ _)); exact BK191.out)) : gb193 ≠ gb191)); have n13_ := Aside0.mk ((by rw [hg]; exact Nat.ne_of_lt (blk_lt (g := gb192) (o := .cells #[.int .i64 a4_0, .int .i64 a4_1, .int .i64 a4_2, .slice A4_3 l4_3.length c4_3, .int .i64 a4_4, .int .i64 a4_5] 29 (0, 0)) (by (with_reducible repeat (first | refine blk_drewN ?_ _ | refine blk_drew ?_ | refine blk_alloc ?_ _)); exact BK192.out)) : gb192 ≠ gb193)); have n14_ := Aside0.mk ((by rw [hg]; exact Nat.ne_of_gt (blk_lt (g := gb192) (o := .cells #[.int .i64 a4_0, .int .i64 a4_1, .int .i64 a4_2, .slice A4_3 l4_3.length c4_3, .int .i64 a4_4, .int .i64 a4_5] 29 (0, 0)) (by (with_reducible repeat (first | refine blk_drewN ?_ _ | refine blk_drew ?_ | refine blk_alloc ?_ _)); exact BK192.out)) : gb193 ≠ gb192)); clear HO0_3; clear BK190; clear BK191; clear BK192; clear HK; clear HB; have HO0_3 := n0_; have BK190 := n1_; have BK191 := n2_; have BK192 := n3_; have HK := n4_; have HB := n5_; have BK193 := n6_; have GW193 := n7_; have GE193 := n8_; have NB190_193 := n9_; have NB193_190 := n10_; have NB191_193 := n11_; have NB193_191 := n12_; have NB192_193 := n13_; have NB193_192 := n14_; clear n0_ n1_ n2_ n3_ n4_ n5_ n6_ n7_ n8_ n9_ n10_ n11_ n12_ n13_ n14_; clear hb hbox hg))
  (try simp only [Act.put, List.setIfInBounds_toArray, List.set_cons_zero, List.set_cons_succ])
  go_cut [13] (fun v13 wc => ∃ (kq : Nat) (x13_6 : Bool), v13 = .bool x13_6 ∧ Aside0 (folkmootlaw20_same.j0 kq x13_6 a0_0 a0_1 a0_2 l0_3 a0_4 a0_5 a4_0 a4_1 a4_2 l4_3 a4_4 a4_5 a5_0 a5_1 a5_2 l5_3 a5_4 a5_5 = some (r1, r2)) ∧ Aside0 (kq ≤ k) ∧ Aside0 (Kd.R k59 59 wc w0.heap.size (fun k_ => (P0_3_ k_ ∨ w.heap.size ≤ k_)) (.slice Ao8 l0_3.length co8) l0_3) ∧ Aside0 (wc.heap[gb190]? = some (.cells #[.int .i64 a0_0, .int .i64 a0_1, .int .i64 a0_2, (.slice Ao8 l0_3.length co8), .int .i64 a0_4, .int .i64 a0_5] 29 (0, 0))) ∧ Aside0 (wc.heap[gb191]? = some (.cells #[.int .i64 a2_0, .int .i64 a2_1, .int .i64 a2_2, (.slice A2_3 l2_3.length c2_3), .int .i64 a2_4, .int .i64 a2_5] 29 (0, 0))) ∧ Aside0 (wc.heap[gb192]? = some (.cells #[.int .i64 a4_0, .int .i64 a4_1, .int .i64 a4_2, (.slice A4_3 l4_3.length c4_3), .int .i64 a4_4, .int .i64 a4_5] 29 (0, 0))) ∧ Aside0 (wc.heap[gb193]? = some (.cells #[.int .i64 a5_0, .int .i64 a5_1, .int .i64 a5_2, (.slice A5_3 l5_3.length c5_3), .int .i64 a5_4, .int .i64 a5_5] 29 (0, 0))) ∧ Aside0 (Kept w wc (fun k_ => P0_3_ k_)) ∧ Aside0 (Below w0.heap.size w0 wc))
  case first =>
    have H := HC7.out
    clear HC7
    by_cases c13 : a1 = a3
    · rw [if_pos c13] at H
      have c13b0 : (a1 == a3) = true := beq_iff_eq.mpr c13
      have c13b1 : (a1 != a3) = false := bne_eq_false_iff_eq.mpr c13
      clear c13
      (first | rw [c13b0] | (simp only [i64_w, i32_w]; rw [c13b0]) | skip)
      replace H := Option.bind_eq_some_iff.mp H
      obtain ⟨t194, A140, H⟩ := H
      replace H : (folkmootlaw20_same.j0 k t194 a0_0 a0_1 a0_2 l0_3 a0_4 a0_5 a4_0 a4_1 a4_2 l4_3 a4_4 a4_5 a5_0 a5_1 a5_2 l5_3 a5_4 a5_5) = some (r1, r2) := H
      have A14 := Aside0.mk A140
      clear A140
      have H' := Aside0.mk H
      clear H
      have hnb15 := NB190_191.out
      have hnc15 := NB191_190.out
      have hnb16 := NB190_192.out
      have hnc16 := NB192_190.out
      have hnb17 := NB190_193.out
      have hnc17 := NB193_190.out
      have hcz18_0 : w12.cell? ⟨gb190, 0, none⟩ = some (.int .i64 a0_0) := (blk_cell BK190.out 0).trans rfl
      have hcz18_1 : w12.cell? ⟨gb190, 1, none⟩ = some (.int .i64 a0_1) := (blk_cell BK190.out 1).trans rfl
      have hcz18_2 : w12.cell? ⟨gb190, 2, none⟩ = some (.int .i64 a0_2) := (blk_cell BK190.out 2).trans rfl
      have hcz18_3 : w12.cell? ⟨gb190, 3, none⟩ = some (.slice Ao8 l0_3.length co8) := (blk_cell BK190.out 3).trans rfl
      have hcz18_4 : w12.cell? ⟨gb190, 4, none⟩ = some (.int .i64 a0_4) := (blk_cell BK190.out 4).trans rfl
      have hcz18_5 : w12.cell? ⟨gb190, 5, none⟩ = some (.int .i64 a0_5) := (blk_cell BK190.out 5).trans rfl
      have hfz18_0 := blk_frozen BK190.out 0
      have hfz18_1 := blk_frozen BK190.out 1
      have hfz18_2 := blk_frozen BK190.out 2
      have hfz18_3 := blk_frozen BK190.out 3
      have hfz18_4 := blk_frozen BK190.out 4
      have hfz18_5 := blk_frozen BK190.out 5
      have hnb19 := NB191_192.out
      have hnc19 := NB192_191.out
      have hnb20 := NB191_193.out
      have hnc20 := NB193_191.out
      have hcz21_0 : w12.cell? ⟨gb191, 0, none⟩ = some (.int .i64 a2_0) := (blk_cell BK191.out 0).trans rfl
      have hcz21_1 : w12.cell? ⟨gb191, 1, none⟩ = some (.int .i64 a2_1) := (blk_cell BK191.out 1).trans rfl
      have hcz21_2 : w12.cell? ⟨gb191, 2, none⟩ = some (.int .i64 a2_2) := (blk_cell BK191.out 2).trans rfl
      have hcz21_3 : w12.cell? ⟨gb191, 3, none⟩ = some (.slice A2_3 l2_3.length c2_3) := (blk_cell BK191.out 3).trans rfl
      have hcz21_4 : w12.cell? ⟨gb191, 4, none⟩ = some (.int .i64 a2_4) := (blk_cell BK191.out 4).trans rfl
      have hcz21_5 : w12.cell? ⟨gb191, 5, none⟩ = some (.int .i64 a2_5) := (blk_cell BK191.out 5).trans rfl
      have hfz21_0 := blk_frozen BK191.out 0
      have hfz21_1 := blk_frozen BK191.out 1
      have hfz21_2 := blk_frozen BK191.out 2
      have hfz21_3 := blk_frozen BK191.out 3
      have hfz21_4 := blk_frozen BK191.out 4
      have hfz21_5 := blk_frozen BK191.out 5
      go_wp2_with (first | (go_at_call 37; (with_reducible refine (folkmootref20_Same.calls k a0_0 a0_1 a0_2 _ _ l0_3 a0_4 a0_5 a2_0 a2_1 a2_2 _ _ l2_3 a2_4 a2_5 t194 _ ?side1 ?side2 ?side3 ?side4 A14.out).mono ?_); (case side1 => repeat (first | exact (Kd.R_reads' HO0_3.out).2.2 | (with_reducible refine Kd.C_alloc ?_ _) | (with_reducible refine Kd.C_drewN ?_ _) | (with_reducible refine Kd.C_drew ?_))); (case side2 => exact (Kd.R_reads' HO0_3.out).2.1); (case side3 => exact Kd.C_kept_now HR2_3.out (by repeat (first | (with_reducible first | exact HK.out | apply Kept.alloc | apply Kept.drewN | apply Kept.drew | refine Kept.setCell ?_ (.inr GW190.out) _ | refine Kept.setCell ?_ (.inr GW191.out) _ | refine Kept.setCell ?_ (.inr GW192.out) _ | refine Kept.setCell ?_ (.inr GW193.out) _) | exact HK.out))); (case side4 => exact HC2_3.out); rintro e w22 ⟨rfl, hb⟩; have n0_ := Aside0.mk (Kd.R_below (by (with_reducible repeat (first | apply Kd.R_alloc | apply Kd.R_drewN | apply Kd.R_drew)); exact HO0_3.out) hb); have n1_ := Aside0.mk (blk_below (g := gb190) (o := .cells #[.int .i64 a0_0, .int .i64 a0_1, .int .i64 a0_2, .slice Ao8 l0_3.length co8, .int .i64 a0_4, .int .i64 a0_5] 29 (0, 0)) (by (with_reducible repeat (first | refine blk_drewN ?_ _ | refine blk_drew ?_ | refine blk_alloc ?_ _)); exact BK190.out) hb); have n2_ := Aside0.mk (blk_below (g := gb191) (o := .cells #[.int .i64 a2_0, .int .i64 a2_1, .int .i64 a2_2, .slice A2_3 l2_3.length c2_3, .int .i64 a2_4, .int .i64 a2_5] 29 (0, 0)) (by (with_reducible repeat (first | refine blk_drewN ?_ _ | refine blk_drew ?_ | refine blk_alloc ?_ _)); exact BK191.out) hb); have n3_ := Aside0.mk (blk_below (g := gb192) (o := .cells #[.int .i64 a4_0, .int .i64 a4_1, .int .i64 a4_2, .slice A4_3 l4_3.length c4_3, .int .i64 a4_4, .int .i64 a4_5] 29 (0, 0)) (by (with_reducible repeat (first | refine blk_drewN ?_ _ | refine blk_drew ?_ | refine blk_alloc ?_ _)); exact BK192.out) hb); have n4_ := Aside0.mk (blk_below (g := gb193) (o := .cells #[.int .i64 a5_0, .int .i64 a5_1, .int .i64 a5_2, .slice A5_3 l5_3.length c5_3, .int .i64 a5_4, .int .i64 a5_5] 29 (0, 0)) (by (with_reducible repeat (first | refine blk_drewN ?_ _ | refine blk_drew ?_ | refine blk_alloc ?_ _)); exact BK193.out) hb); have n5_ := Aside0.mk (Kept.below (S := (fun k_ => P0_3_ k_)) (by repeat (first | (with_reducible first | exact HK.out | apply Kept.alloc | apply Kept.drewN | apply Kept.drew | refine Kept.setCell ?_ (.inr GW190.out) _ | refine Kept.setCell ?_ (.inr GW191.out) _ | refine Kept.setCell ?_ (.inr GW192.out) _ | refine Kept.setCell ?_ (.inr GW193.out) _) | exact HK.out)) hb); have n6_ := Aside0.mk (below_step (by repeat (first | (with_reducible first | exact HB.out | apply below_alloc | apply pw_below_drewN | apply below_drew1 | refine below_set ?_ GE190.out | refine below_set ?_ GE191.out | refine below_set ?_ GE192.out | refine below_set ?_ GE193.out) | exact HB.out)) hb); clear HO0_3; clear BK190; clear BK191; clear BK192; clear BK193; clear HK; clear HB; have HO0_3 := n0_; have BK190 := n1_; have BK191 := n2_; have BK192 := n3_; have BK193 := n4_; have HK := n5_; have HB := n6_; clear n0_ n1_ n2_ n3_ n4_ n5_ n6_; (try clear hb); (try clear hb2); (try clear hk); (try clear hi)))
      go_meet
      case rel => exact ⟨_, (t194), (by first | rfl | (simp; done) | (simp [*]; done)), H', ⟨by first | omega | exact Nat.le_refl _⟩, ⟨by (with_reducible repeat (first | apply Kd.R_alloc | apply Kd.R_drewN | apply Kd.R_drew)); exact HO0_3.out⟩, ⟨by (with_reducible repeat (first | refine blk_drewN ?_ _ | refine blk_drew ?_ | refine blk_alloc ?_ _)); exact BK190.out⟩, ⟨by (with_reducible repeat (first | refine blk_drewN ?_ _ | refine blk_drew ?_ | refine blk_alloc ?_ _)); exact BK191.out⟩, ⟨by (with_reducible repeat (first | refine blk_drewN ?_ _ | refine blk_drew ?_ | refine blk_alloc ?_ _)); exact BK192.out⟩, ⟨by (with_reducible repeat (first | refine blk_drewN ?_ _ | refine blk_drew ?_ | refine blk_alloc ?_ _)); exact BK193.out⟩, ⟨by repeat (first | (with_reducible first | exact HK.out | apply Kept.alloc | apply Kept.drewN | apply Kept.drew | refine Kept.setCell ?_ (.inr GW190.out) _ | refine Kept.setCell ?_ (.inr GW191.out) _ | refine Kept.setCell ?_ (.inr GW192.out) _ | refine Kept.setCell ?_ (.inr GW193.out) _) | exact HK.out)⟩, ⟨by repeat (first | (with_reducible first | exact HB.out | apply below_alloc | apply pw_below_drewN | apply below_drew1 | refine below_set ?_ GE190.out | refine below_set ?_ GE191.out | refine below_set ?_ GE192.out | refine below_set ?_ GE193.out) | exact HB.out)⟩⟩
    · rw [if_neg c13] at H
      have c13b0 : (a1 == a3) = false := beq_eq_false_iff_ne.mpr c13
      have c13b1 : (a1 != a3) = true := bne_iff_ne.mpr c13
      (first | rw [c13b0] | (simp only [i64_w, i32_w]; rw [c13b0]) | skip)
      have H' := Aside0.mk H
      clear H
      go_wp2
      go_meet
      case rel => exact ⟨_, (false), (by first | rfl | (simp; done) | (simp [*]; done)), H', ⟨by first | omega | exact Nat.le_refl _⟩, ⟨by (with_reducible repeat (first | apply Kd.R_alloc | apply Kd.R_drewN | apply Kd.R_drew)); exact HO0_3.out⟩, ⟨by (with_reducible repeat (first | refine blk_drewN ?_ _ | refine blk_drew ?_ | refine blk_alloc ?_ _)); exact BK190.out⟩, ⟨by (with_reducible repeat (first | refine blk_drewN ?_ _ | refine blk_drew ?_ | refine blk_alloc ?_ _)); exact BK191.out⟩, ⟨by (with_reducible repeat (first | refine blk_drewN ?_ _ | refine blk_drew ?_ | refine blk_alloc ?_ _)); exact BK192.out⟩, ⟨by (with_reducible repeat (first | refine blk_drewN ?_ _ | refine blk_drew ?_ | refine blk_alloc ?_ _)); exact BK193.out⟩, ⟨by repeat (first | (with_reducible first | exact HK.out | apply Kept.alloc | apply Kept.drewN | apply Kept.drew | refine Kept.setCell ?_ (.inr GW190.out) _ | refine Kept.setCell ?_ (.inr GW191.out) _ | refine Kept.setCell ?_ (.inr GW192.out) _ | refine Kept.setCell ?_ (.inr GW193.out) _) | exact HK.out)⟩, ⟨by repeat (first | (with_reducible first | exact HB.out | apply below_alloc | apply pw_below_drewN | apply below_drew1 | refine below_set ?_ GE190.out | refine below_set ?_ GE191.out | refine below_set ?_ GE192.out | refine below_set ?_ GE193.out) | exact HB.out)⟩⟩
  case rest =>
    clear HC7
    try clear c1
    try clear c2
    try clear p2
    try clear c4
    try clear c5
    try clear c13
    try clear c13b0
    try clear c13b1
    try clear c15
    try clear c16
    try clear c17
    try clear c19
    try clear c20
    try clear hcz18_0
    try clear hcz18_1
    try clear hcz18_2
    try clear hcz18_3
    try clear hcz18_4
    try clear hcz18_5
    try clear hcz21_0
    try clear hcz21_1
    try clear hcz21_2
    try clear hcz21_3
    try clear hcz21_4
    try clear hcz21_5
    try clear hfz18_0
    try clear hfz18_1
    try clear hfz18_2
    try clear hfz18_3
    try clear hfz18_4
    try clear hfz18_5
    try clear hfz21_0
    try clear hfz21_1
    try clear hfz21_2
    try clear hfz21_3
    try clear hfz21_4
    try clear hfz21_5
    obtain ⟨kq, x13_6, rfl, HA, HJ6, HO_191003, BK190, BK191, BK192, BK193, HK, HB⟩ := hcut
    cases kq with
    | zero => exact absurd HA.out (by simp [folkmootlaw20_same.j0])
    | succ kj6 =>
      have H := HA.out
      clear HA
      simp only [folkmootlaw20_same.j0] at H
      have H' := Aside0.mk H
      clear H
      go_wp2
      go_loopg [14] kj6 (fun kq v14 w' => ∃ (x14_2 : Int) (x191003_2 : List (S59)), v14 = .int .i64 x14_2 ∧ Aside0 (folkmootlaw20_same.l0 kq x13_6 x14_2 a0_0 a0_1 a0_2 x191003_2 a0_4 a0_5 a4_0 a4_1 a4_2 l4_3 a4_4 a4_5 a5_0 a5_1 a5_2 l5_3 a5_4 a5_5 = some (r1, r2)) ∧ Aside0 (kq ≤ kj6) ∧ Aside0 (Kd.R k59 59 w' w0.heap.size (fun k_ => (P0_3_ k_ ∨ w.heap.size ≤ k_)) (.slice Ao8 l0_3.length co8) x191003_2) ∧ Aside0 (w'.heap[gb190]? = some (.cells #[.int .i64 a0_0, .int .i64 a0_1, .int .i64 a0_2, (.slice Ao8 l0_3.length co8), .int .i64 a0_4, .int .i64 a0_5] 29 (0, 0))) ∧ Aside0 (w'.heap[gb191]? = some (.cells #[.int .i64 a2_0, .int .i64 a2_1, .int .i64 a2_2, (.slice A2_3 l2_3.length c2_3), .int .i64 a2_4, .int .i64 a2_5] 29 (0, 0))) ∧ Aside0 (w'.heap[gb192]? = some (.cells #[.int .i64 a4_0, .int .i64 a4_1, .int .i64 a4_2, (.slice A4_3 l4_3.length c4_3), .int .i64 a4_4, .int .i64 a4_5] 29 (0, 0))) ∧ Aside0 (w'.heap[gb193]? = some (.cells #[.int .i64 a5_0, .int .i64 a5_1, .int .i64 a5_2, (.slice A5_3 l5_3.length c5_3), .int .i64 a5_4, .int .i64 a5_5] 29 (0, 0))) ∧ Aside0 (Kept w w' (fun k_ => P0_3_ k_)) ∧ Aside0 (Below w0.heap.size w0 w'))
      case atStart => exact ⟨(0), (l0_3), (by first | rfl | (simp; done) | (simp [*]; done)), H', ⟨Nat.le_refl _⟩, ⟨by (with_reducible repeat (first | apply Kd.R_alloc | apply Kd.R_drewN | apply Kd.R_drew)); exact HO_191003.out⟩, ⟨by (with_reducible repeat (first | refine blk_drewN ?_ _ | refine blk_drew ?_ | refine blk_alloc ?_ _)); exact BK190.out⟩, ⟨by (with_reducible repeat (first | refine blk_drewN ?_ _ | refine blk_drew ?_ | refine blk_alloc ?_ _)); exact BK191.out⟩, ⟨by (with_reducible repeat (first | refine blk_drewN ?_ _ | refine blk_drew ?_ | refine blk_alloc ?_ _)); exact BK192.out⟩, ⟨by (with_reducible repeat (first | refine blk_drewN ?_ _ | refine blk_drew ?_ | refine blk_alloc ?_ _)); exact BK193.out⟩, ⟨by repeat (first | (with_reducible first | exact HK.out | apply Kept.alloc | apply Kept.drewN | apply Kept.drew | refine Kept.setCell ?_ (.inr GW190.out) _ | refine Kept.setCell ?_ (.inr GW191.out) _ | refine Kept.setCell ?_ (.inr GW192.out) _ | refine Kept.setCell ?_ (.inr GW193.out) _) | exact HK.out)⟩, ⟨by repeat (first | (with_reducible first | exact HB.out | apply below_alloc | apply pw_below_drewN | apply below_drew1 | refine below_set ?_ GE190.out | refine below_set ?_ GE191.out | refine below_set ?_ GE192.out | refine below_set ?_ GE193.out) | exact HB.out)⟩⟩
      case round =>
        clear H'
        try clear c1
        try clear c2
        try clear p2
        try clear c4
        try clear c5
        try clear c13
        try clear c13b0
        try clear c13b1
        try clear c15
        try clear c16
        try clear c17
        try clear c19
        try clear c20
        try clear hcz18_0
        try clear hcz18_1
        try clear hcz18_2
        try clear hcz18_3
        try clear hcz18_4
        try clear hcz18_5
        try clear hcz21_0
        try clear hcz21_1
        try clear hcz21_2
        try clear hcz21_3
        try clear hcz21_4
        try clear hcz21_5
        try clear hfz18_0
        try clear hfz18_1
        try clear hfz18_2
        try clear hfz18_3
        try clear hfz18_4
        try clear hfz18_5
        try clear hfz21_0
        try clear hfz21_1
        try clear hfz21_2
        try clear hfz21_3
        try clear hfz21_4
        try clear hfz21_5
        try clear p2
        obtain ⟨x14_2, x191003_2, rfl, HA, HK2, HO_191003, BK190, BK191, BK192, BK193, HK, HB⟩ := hrel
        have hl191003_2 := (Kd.R_reads' HO_191003.out).1
        rw [hl191003_2] at HO_191003
        (try simp only [hl191003_2])
        (try simp only [hl191003_2] at BK190)
        (try simp only [hl191003_2] at BK191)
        (try simp only [hl191003_2] at BK192)
        (try simp only [hl191003_2] at BK193)
        cases gk with
        | zero => exact absurd HA.out (by simp [folkmootlaw20_same.l0])
        | succ k2 =>
          have H := HA.out
          clear HA
          simp only [folkmootlaw20_same.l0] at H
          by_cases c23 : x14_2 < (x191003_2.length : Int)
          · rw [if_pos c23] at H
            have c23b0 : decide (x14_2 < (x191003_2.length : Int)) = true := decide_eq_true c23
            clear c23
            by_cases c24 : 0 ≤ x14_2
            · rw [if_pos c24] at H
              have c24b0 : decide (0 ≤ x14_2) = true := decide_eq_true c24
              clear c24
              obtain ⟨y195, hy195⟩ : ∃ y_ : List (S59), y_ = (x191003_2.set (x14_2 : Int).toNat (⟨77, (rd_T59 x191003_2 x14_2).f1⟩ : S59)) := ⟨_, rfl⟩
              replace H : (folkmootlaw20_same.l0 k2 x13_6 (wrap64 (x14_2 + 1)) a0_0 a0_1 a0_2 y195 a0_4 a0_5 a4_0 a4_1 a4_2 l4_3 a4_4 a4_5 a5_0 a5_1 a5_2 l5_3 a5_4 a5_5) = some (r1, r2) := by first | (rw [hy195]; with_reducible exact H) | (have H2_ := (Option.bind_some _ _).symm.trans H; rw [hy195]; with_reducible exact H2_) | (have H2_ := (Option.bind_some _ _).symm.trans H; with_reducible exact H2_) | with_reducible exact H | (rw [hy195]; exact H) | exact H
              have Ny195 := Aside0.mk hy195
              clear hy195
              have H' := Aside0.mk H
              clear H
              have hnb26 := NB190_191.out
              have hnc26 := NB191_190.out
              have hnb27 := NB190_192.out
              have hnc27 := NB192_190.out
              have hnb28 := NB190_193.out
              have hnc28 := NB193_190.out
              have hcz29_0 : wr.cell? ⟨gb190, 0, none⟩ = some (.int .i64 a0_0) := (blk_cell BK190.out 0).trans rfl
              have hcz29_1 : wr.cell? ⟨gb190, 1, none⟩ = some (.int .i64 a0_1) := (blk_cell BK190.out 1).trans rfl
              have hcz29_2 : wr.cell? ⟨gb190, 2, none⟩ = some (.int .i64 a0_2) := (blk_cell BK190.out 2).trans rfl
              have hcz29_3 : wr.cell? ⟨gb190, 3, none⟩ = some (.slice Ao8 x191003_2.length co8) := (blk_cell BK190.out 3).trans rfl
              have hcz29_4 : wr.cell? ⟨gb190, 4, none⟩ = some (.int .i64 a0_4) := (blk_cell BK190.out 4).trans rfl
              have hcz29_5 : wr.cell? ⟨gb190, 5, none⟩ = some (.int .i64 a0_5) := (blk_cell BK190.out 5).trans rfl
              have hfz29_0 := blk_frozen BK190.out 0
              have hfz29_1 := blk_frozen BK190.out 1
              have hfz29_2 := blk_frozen BK190.out 2
              have hfz29_3 := blk_frozen BK190.out 3
              have hfz29_4 := blk_frozen BK190.out 4
              have hfz29_5 := blk_frozen BK190.out 5
              have p25 : 0 ≤ (x14_2 : Int) := of_decide_eq_true (by first | (with_reducible assumption) | assumption)
              have q25 : (x14_2 : Int) < ((x191003_2.length : Int) : Int) := of_decide_eq_true (by first | (with_reducible assumption) | assumption)
              obtain ⟨go25, co25, eo25, gb25, gl25, cl25, HG25⟩ := Kd.R_form HO_191003.out (by omega)
              (first | cases eo25 | (injection eo25 with ea_ en_ ec_; (first | subst ea_ | (injection ea_ with ea_; subst ea_)); subst ec_; clear en_))
              have GB25 := Aside0.mk gb25
              have GG25 := Aside0.mk HG25
              clear gb25 gl25 HG25
              have HMgo25 := Aside0.mk (show (P0_3_ go25 ∨ w.heap.size ≤ go25) from (HO_191003.out.1 _ rfl))
              obtain ⟨ce25, hcl25, hM25, hcc25, hfr25⟩ := Kd.R_elem HO_191003.out z59 (x14_2 : Int) p25 q25
              obtain rfl := k59_openM hM25
              have hx25_0 : wr.cell? ⟨go25, (x14_2 : Int).toNat * 2, none⟩ = some (.int .i64 ((rd_T59 x191003_2 x14_2).f0)) := hcc25 0 _ rfl
              have hx25_1 : wr.cell? ⟨go25, (x14_2 : Int).toNat * 2 + 1, none⟩ = some (.int .i64 ((rd_T59 x191003_2 x14_2).f1)) := hcc25 1 _ rfl
              have hf25_0 : wr.frozen? ⟨go25, (x14_2 : Int).toNat * 2, none⟩ = false := hfr25 0
              have hf25_1 : wr.frozen? ⟨go25, (x14_2 : Int).toNat * 2 + 1, none⟩ = false := hfr25 1
              clear hcl25 hcc25 hfr25 hM25
              replace p25 := eq_true p25
              replace q25 := eq_true q25
              have HX30 := Aside0.mk (show Kd.R k59 59 wr w0.heap.size (fun k_ => (P0_3_ k_ ∨ w.heap.size ≤ k_)) (.slice (some ⟨go25, 0, none⟩) x191003_2.length co8) x191003_2 from (by (with_reducible repeat (first | apply Kd.R_alloc | apply Kd.R_drewN | apply Kd.R_drew)); exact HO_191003.out))
              obtain ⟨ce30, hcl30, hM30, hcc30, hfr30⟩ := Kd.R_elem HX30.out z59 (x14_2 : Int) (of_decide_eq_true (by first | (with_reducible assumption) | assumption)) (by have h_ : (x14_2 : Int) < ((x191003_2.length : Int) : Int) := of_decide_eq_true (by first | (with_reducible assumption) | assumption); first | exact h_ | (have e_ := (Kd.R_reads' HO_191003.out).1; omega) | simpa using h_)
              obtain rfl := k59_openM hM30
              have HP30 := Kd.R_seg HX30.out (x14_2 : Int) (of_decide_eq_true (by first | (with_reducible assumption) | assumption)) (by have h_ : (x14_2 : Int) < ((x191003_2.length : Int) : Int) := of_decide_eq_true (by first | (with_reducible assumption) | assumption); first | exact h_ | (have e_ := (Kd.R_reads' HO_191003.out).1; omega) | simpa using h_) (seg := [.int .i64 77]) (j := 0) hcl30 hcc30 (show 1 ≤ 2 from by decide) (x' := (⟨77, (rd_T59 x191003_2 x14_2).f1⟩ : S59)) (k59_mkM _ _ _ (⟨77, (rd_T59 x191003_2 x14_2).f1⟩ : S59) ) (fun _ hk => hk)
              have hx30_0 := hcc30 0 _ rfl
              (try simp only [show (k59).sz = 2 from rfl, Nat.mul_one, Nat.add_zero] at hx30_0)
              have hf30_0 := hfr30 0
              (try simp only [show (k59).sz = 2 from rfl, Nat.mul_one, Nat.add_zero] at hf30_0)
              clear hcl30 hcc30 hfr30 hM30
              go_wp2_with (first | ((with_reducible refine gate_store (t := 3) (p := 34) rfl ?_); refine store_event (t := 3) (p := 34) (v := ?vo_w31) (w1 := (wr.setCell ⟨go25, (x14_2 : Int).toNat * 2, none⟩ (.int .i64 77))) ?hg ?ho ?hn ?hr ?_; (case ho => rfl); (case hg => rfl); (case hn => rfl); (case hr => first | (go_simp; done) | (go_simp; rfl)); intro w31 hw; have hg : wr.grownBy w31 (some go25) := (by rw [hw]; exact HP30.2); have hp_ : Kd.R k59 59 w31 w0.heap.size (fun k_ => (P0_3_ k_ ∨ w.heap.size ≤ k_)) (.slice (some ⟨go25, 0, none⟩) x191003_2.length co8) y195 := (by rw [hw, Ny195.out]; exact HP30.1); clear HP30; have n0_ := Aside0.mk (hp_); have n1_ := Aside0.mk (blk_grown (g := gb190) (o := .cells #[.int .i64 a0_0, .int .i64 a0_1, .int .i64 a0_2, .slice (some ⟨go25, 0, none⟩) x191003_2.length co8, .int .i64 a0_4, .int .i64 a0_5] 29 (0, 0)) (by (with_reducible repeat (first | refine blk_drewN ?_ _ | refine blk_drew ?_ | refine blk_alloc ?_ _)); exact BK190.out) hg (Kd.R_ne HO_191003.out BK190.out (by decide))); have n2_ := Aside0.mk (blk_grown (g := gb191) (o := .cells #[.int .i64 a2_0, .int .i64 a2_1, .int .i64 a2_2, .slice A2_3 l2_3.length c2_3, .int .i64 a2_4, .int .i64 a2_5] 29 (0, 0)) (by (with_reducible repeat (first | refine blk_drewN ?_ _ | refine blk_drew ?_ | refine blk_alloc ?_ _)); exact BK191.out) hg (Kd.R_ne HO_191003.out BK191.out (by decide))); have n3_ := Aside0.mk (blk_grown (g := gb192) (o := .cells #[.int .i64 a4_0, .int .i64 a4_1, .int .i64 a4_2, .slice A4_3 l4_3.length c4_3, .int .i64 a4_4, .int .i64 a4_5] 29 (0, 0)) (by (with_reducible repeat (first | refine blk_drewN ?_ _ | refine blk_drew ?_ | refine blk_alloc ?_ _)); exact BK192.out) hg (Kd.R_ne HO_191003.out BK192.out (by decide))); have n4_ := Aside0.mk (blk_grown (g := gb193) (o := .cells #[.int .i64 a5_0, .int .i64 a5_1, .int .i64 a5_2, .slice A5_3 l5_3.length c5_3, .int .i64 a5_4, .int .i64 a5_5] 29 (0, 0)) (by (with_reducible repeat (first | refine blk_drewN ?_ _ | refine blk_drew ?_ | refine blk_alloc ?_ _)); exact BK193.out) hg (Kd.R_ne HO_191003.out BK193.out (by decide))); have n5_ := Aside0.mk ((by rw [hw]; exact below_set (HB.out) GB25.out : Below w0.heap.size w0 w31)); have n6_ := Aside0.mk (Kept.of_grown (S := (fun k_ => P0_3_ k_)) hg (by repeat (first | (with_reducible first | exact HK.out | apply Kept.alloc | apply Kept.drewN | apply Kept.drew | refine Kept.setCell ?_ (.inr GW190.out) _ | refine Kept.setCell ?_ (.inr GW191.out) _ | refine Kept.setCell ?_ (.inr GW192.out) _ | refine Kept.setCell ?_ (.inr GW193.out) _) | exact HK.out)) (fun k_ e_ => (HO_191003.out.1 k_ e_))); clear HO_191003; clear BK190; clear BK191; clear BK192; clear BK193; clear HB; clear HK; have HO_191003 := n0_; have BK190 := n1_; have BK191 := n2_; have BK192 := n3_; have BK193 := n4_; have HB := n5_; have HK := n6_; clear n0_ n1_ n2_ n3_ n4_ n5_ n6_; clear hg hw hp_))
              (try simp only [← hl191003_2])
              go_roundg k2
              case measure => have := HJ6.out; have := HK2.out; omega
              case rel => exact ⟨(wrap64 (x14_2 + 1)), (y195), (by first | rfl | (simp; done) | (simp [*]; done)), H', ⟨by have := HJ6.out; have := HK2.out; omega⟩, ⟨by (try simp only [hl191003_2]); (with_reducible repeat (first | apply Kd.R_alloc | apply Kd.R_drewN | apply Kd.R_drew)); exact HO_191003.out⟩, ⟨by (try simp only [hl191003_2]); (with_reducible repeat (first | refine blk_drewN ?_ _ | refine blk_drew ?_ | refine blk_alloc ?_ _)); exact BK190.out⟩, ⟨by (try simp only [hl191003_2]); (with_reducible repeat (first | refine blk_drewN ?_ _ | refine blk_drew ?_ | refine blk_alloc ?_ _)); exact BK191.out⟩, ⟨by (try simp only [hl191003_2]); (with_reducible repeat (first | refine blk_drewN ?_ _ | refine blk_drew ?_ | refine blk_alloc ?_ _)); exact BK192.out⟩, ⟨by (try simp only [hl191003_2]); (with_reducible repeat (first | refine blk_drewN ?_ _ | refine blk_drew ?_ | refine blk_alloc ?_ _)); exact BK193.out⟩, ⟨by repeat (first | (with_reducible first | exact HK.out | apply Kept.alloc | apply Kept.drewN | apply Kept.drew | refine Kept.setCell ?_ (.inr GW190.out) _ | refine Kept.setCell ?_ (.inr GW191.out) _ | refine Kept.setCell ?_ (.inr GW192.out) _ | refine Kept.setCell ?_ (.inr GW193.out) _) | exact HK.out)⟩, ⟨by repeat (first | (with_reducible first | exact HB.out | apply below_alloc | apply pw_below_drewN | apply below_drew1 | refine below_set ?_ GE190.out | refine below_set ?_ GE191.out | refine below_set ?_ GE192.out | refine below_set ?_ GE193.out) | exact HB.out)⟩⟩
            · rw [if_neg c24] at H
              exact absurd H (by simp)
          · rw [if_neg c23] at H
            have c23b0 : decide (x14_2 < (x191003_2.length : Int)) = false := decide_eq_false c23
            clear c23
            by_cases c32 : x13_6 = true
            · subst c32
              have H1 : ((folkmootref20_Same.f k2 a4_0 a4_1 a4_2 l4_3 a4_4 a4_5 a5_0 a5_1 a5_2 l5_3 a5_4 a5_5).bind fun t196 => (some (t196, x191003_2))) = some (r1, r2) := by rw [if_pos rfl] at H; exact H
              clear H
              have H := H1
              clear H1
              replace H := Option.bind_eq_some_iff.mp H
              obtain ⟨t196, A330, H⟩ := H
              replace H : (some (t196, x191003_2)) = some (r1, r2) := H
              have A33 := Aside0.mk A330
              clear A330
              simp only [Option.some.injEq, Prod.mk.injEq] at H
              obtain ⟨rfl, rfl⟩ := H
              have hnb34 := NB190_191.out
              have hnc34 := NB191_190.out
              have hnb35 := NB190_192.out
              have hnc35 := NB192_190.out
              have hnb36 := NB190_193.out
              have hnc36 := NB193_190.out
              have hcz37_0 : wr.cell? ⟨gb190, 0, none⟩ = some (.int .i64 a0_0) := (blk_cell BK190.out 0).trans rfl
              have hcz37_1 : wr.cell? ⟨gb190, 1, none⟩ = some (.int .i64 a0_1) := (blk_cell BK190.out 1).trans rfl
              have hcz37_2 : wr.cell? ⟨gb190, 2, none⟩ = some (.int .i64 a0_2) := (blk_cell BK190.out 2).trans rfl
              have hcz37_3 : wr.cell? ⟨gb190, 3, none⟩ = some (.slice Ao8 x191003_2.length co8) := (blk_cell BK190.out 3).trans rfl
              have hcz37_4 : wr.cell? ⟨gb190, 4, none⟩ = some (.int .i64 a0_4) := (blk_cell BK190.out 4).trans rfl
              have hcz37_5 : wr.cell? ⟨gb190, 5, none⟩ = some (.int .i64 a0_5) := (blk_cell BK190.out 5).trans rfl
              have hfz37_0 := blk_frozen BK190.out 0
              have hfz37_1 := blk_frozen BK190.out 1
              have hfz37_2 := blk_frozen BK190.out 2
              have hfz37_3 := blk_frozen BK190.out 3
              have hfz37_4 := blk_frozen BK190.out 4
              have hfz37_5 := blk_frozen BK190.out 5
              have hnb38 := NB192_191.out
              have hnc38 := NB191_192.out
              have hnb39 := NB192_193.out
              have hnc39 := NB193_192.out
              have hcz40_0 : wr.cell? ⟨gb192, 0, none⟩ = some (.int .i64 a4_0) := (blk_cell BK192.out 0).trans rfl
              have hcz40_1 : wr.cell? ⟨gb192, 1, none⟩ = some (.int .i64 a4_1) := (blk_cell BK192.out 1).trans rfl
              have hcz40_2 : wr.cell? ⟨gb192, 2, none⟩ = some (.int .i64 a4_2) := (blk_cell BK192.out 2).trans rfl
              have hcz40_3 : wr.cell? ⟨gb192, 3, none⟩ = some (.slice A4_3 l4_3.length c4_3) := (blk_cell BK192.out 3).trans rfl
              have hcz40_4 : wr.cell? ⟨gb192, 4, none⟩ = some (.int .i64 a4_4) := (blk_cell BK192.out 4).trans rfl
              have hcz40_5 : wr.cell? ⟨gb192, 5, none⟩ = some (.int .i64 a4_5) := (blk_cell BK192.out 5).trans rfl
              have hfz40_0 := blk_frozen BK192.out 0
              have hfz40_1 := blk_frozen BK192.out 1
              have hfz40_2 := blk_frozen BK192.out 2
              have hfz40_3 := blk_frozen BK192.out 3
              have hfz40_4 := blk_frozen BK192.out 4
              have hfz40_5 := blk_frozen BK192.out 5
              have hnb41 := NB193_191.out
              have hnc41 := NB191_193.out
              have hcz42_0 : wr.cell? ⟨gb193, 0, none⟩ = some (.int .i64 a5_0) := (blk_cell BK193.out 0).trans rfl
              have hcz42_1 : wr.cell? ⟨gb193, 1, none⟩ = some (.int .i64 a5_1) := (blk_cell BK193.out 1).trans rfl
              have hcz42_2 : wr.cell? ⟨gb193, 2, none⟩ = some (.int .i64 a5_2) := (blk_cell BK193.out 2).trans rfl
              have hcz42_3 : wr.cell? ⟨gb193, 3, none⟩ = some (.slice A5_3 l5_3.length c5_3) := (blk_cell BK193.out 3).trans rfl
              have hcz42_4 : wr.cell? ⟨gb193, 4, none⟩ = some (.int .i64 a5_4) := (blk_cell BK193.out 4).trans rfl
              have hcz42_5 : wr.cell? ⟨gb193, 5, none⟩ = some (.int .i64 a5_5) := (blk_cell BK193.out 5).trans rfl
              have hfz42_0 := blk_frozen BK193.out 0
              have hfz42_1 := blk_frozen BK193.out 1
              have hfz42_2 := blk_frozen BK193.out 2
              have hfz42_3 := blk_frozen BK193.out 3
              have hfz42_4 := blk_frozen BK193.out 4
              have hfz42_5 := blk_frozen BK193.out 5
              go_wp2_with (first | (go_at_call 37; (with_reducible refine (folkmootref20_Same.calls k2 a4_0 a4_1 a4_2 _ _ l4_3 a4_4 a4_5 a5_0 a5_1 a5_2 _ _ l5_3 a5_4 a5_5 t196 _ ?side1 ?side2 ?side3 ?side4 A33.out).mono ?_); (case side1 => exact Kd.C_kept_now HR4_3.out (by repeat (first | (with_reducible first | exact HK.out | apply Kept.alloc | apply Kept.drewN | apply Kept.drew | refine Kept.setCell ?_ (.inr GW190.out) _ | refine Kept.setCell ?_ (.inr GW191.out) _ | refine Kept.setCell ?_ (.inr GW192.out) _ | refine Kept.setCell ?_ (.inr GW193.out) _) | exact HK.out))); (case side2 => exact HC4_3.out); (case side3 => exact Kd.C_kept_now HR5_3.out (by repeat (first | (with_reducible first | exact HK.out | apply Kept.alloc | apply Kept.drewN | apply Kept.drew | refine Kept.setCell ?_ (.inr GW190.out) _ | refine Kept.setCell ?_ (.inr GW191.out) _ | refine Kept.setCell ?_ (.inr GW192.out) _ | refine Kept.setCell ?_ (.inr GW193.out) _) | exact HK.out))); (case side4 => exact HC5_3.out); rintro e w43 ⟨rfl, hb⟩; have n0_ := Aside0.mk (Kd.R_below (by (with_reducible repeat (first | apply Kd.R_alloc | apply Kd.R_drewN | apply Kd.R_drew)); exact HO_191003.out) hb); have n1_ := Aside0.mk (blk_below (g := gb190) (o := .cells #[.int .i64 a0_0, .int .i64 a0_1, .int .i64 a0_2, .slice Ao8 x191003_2.length co8, .int .i64 a0_4, .int .i64 a0_5] 29 (0, 0)) (by (with_reducible repeat (first | refine blk_drewN ?_ _ | refine blk_drew ?_ | refine blk_alloc ?_ _)); exact BK190.out) hb); have n2_ := Aside0.mk (blk_below (g := gb191) (o := .cells #[.int .i64 a2_0, .int .i64 a2_1, .int .i64 a2_2, .slice A2_3 l2_3.length c2_3, .int .i64 a2_4, .int .i64 a2_5] 29 (0, 0)) (by (with_reducible repeat (first | refine blk_drewN ?_ _ | refine blk_drew ?_ | refine blk_alloc ?_ _)); exact BK191.out) hb); have n3_ := Aside0.mk (blk_below (g := gb192) (o := .cells #[.int .i64 a4_0, .int .i64 a4_1, .int .i64 a4_2, .slice A4_3 l4_3.length c4_3, .int .i64 a4_4, .int .i64 a4_5] 29 (0, 0)) (by (with_reducible repeat (first | refine blk_drewN ?_ _ | refine blk_drew ?_ | refine blk_alloc ?_ _)); exact BK192.out) hb); have n4_ := Aside0.mk (blk_below (g := gb193) (o := .cells #[.int .i64 a5_0, .int .i64 a5_1, .int .i64 a5_2, .slice A5_3 l5_3.length c5_3, .int .i64 a5_4, .int .i64 a5_5] 29 (0, 0)) (by (with_reducible repeat (first | refine blk_drewN ?_ _ | refine blk_drew ?_ | refine blk_alloc ?_ _)); exact BK193.out) hb); have n5_ := Aside0.mk (Kept.below (S := (fun k_ => P0_3_ k_)) (by repeat (first | (with_reducible first | exact HK.out | apply Kept.alloc | apply Kept.drewN | apply Kept.drew | refine Kept.setCell ?_ (.inr GW190.out) _ | refine Kept.setCell ?_ (.inr GW191.out) _ | refine Kept.setCell ?_ (.inr GW192.out) _ | refine Kept.setCell ?_ (.inr GW193.out) _) | exact HK.out)) hb); have n6_ := Aside0.mk (below_step (by repeat (first | (with_reducible first | exact HB.out | apply below_alloc | apply pw_below_drewN | apply below_drew1 | refine below_set ?_ GE190.out | refine below_set ?_ GE191.out | refine below_set ?_ GE192.out | refine below_set ?_ GE193.out) | exact HB.out)) hb); clear HO_191003; clear BK190; clear BK191; clear BK192; clear BK193; clear HK; clear HB; have HO_191003 := n0_; have BK190 := n1_; have BK191 := n2_; have BK192 := n3_; have BK193 := n4_; have HK := n5_; have HB := n6_; clear n0_ n1_ n2_ n3_ n4_ n5_ n6_; (try clear hb); (try clear hb2); (try clear hk); (try clear hi)))
              go_ret
              exact ⟨by first | rfl | (simp [errW_none, errW_some] <;> rfl) | (simp [*, errW_none, errW_some] <;> rfl), (by first | exact (by (with_reducible repeat (first | apply Kd.R_alloc | apply Kd.R_drewN | apply Kd.R_drew)); exact HO_191003.out) | (simp only [hl191003_2]; exact (by (with_reducible repeat (first | apply Kd.R_alloc | apply Kd.R_drewN | apply Kd.R_drew)); exact HO_191003.out))), by repeat (first | (with_reducible first | exact HB.out | apply below_alloc | apply pw_below_drewN | apply below_drew1 | refine below_set ?_ GE190.out | refine below_set ?_ GE191.out | refine below_set ?_ GE192.out | refine below_set ?_ GE193.out) | exact HB.out), by repeat (first | (with_reducible first | exact HK.out | apply Kept.alloc | apply Kept.drewN | apply Kept.drew | refine Kept.setCell ?_ (.inr GW190.out) _ | refine Kept.setCell ?_ (.inr GW191.out) _ | refine Kept.setCell ?_ (.inr GW192.out) _ | refine Kept.setCell ?_ (.inr GW193.out) _) | exact HK.out)⟩
            · replace c32 := Bool.eq_false_iff.mpr c32
              subst c32
              have H1 : (some (false, x191003_2)) = some (r1, r2) := by rw [if_neg (show ¬ (false = true) by decide)] at H; exact H
              clear H
              have H := H1
              clear H1
              simp only [Option.some.injEq, Prod.mk.injEq] at H
              obtain ⟨rfl, rfl⟩ := H
              have hnb44 := NB190_191.out
              have hnc44 := NB191_190.out
              have hnb45 := NB190_192.out
              have hnc45 := NB192_190.out
              have hnb46 := NB190_193.out
              have hnc46 := NB193_190.out
              have hcz47_0 : wr.cell? ⟨gb190, 0, none⟩ = some (.int .i64 a0_0) := (blk_cell BK190.out 0).trans rfl
              have hcz47_1 : wr.cell? ⟨gb190, 1, none⟩ = some (.int .i64 a0_1) := (blk_cell BK190.out 1).trans rfl
              have hcz47_2 : wr.cell? ⟨gb190, 2, none⟩ = some (.int .i64 a0_2) := (blk_cell BK190.out 2).trans rfl
              have hcz47_3 : wr.cell? ⟨gb190, 3, none⟩ = some (.slice Ao8 x191003_2.length co8) := (blk_cell BK190.out 3).trans rfl
              have hcz47_4 : wr.cell? ⟨gb190, 4, none⟩ = some (.int .i64 a0_4) := (blk_cell BK190.out 4).trans rfl
              have hcz47_5 : wr.cell? ⟨gb190, 5, none⟩ = some (.int .i64 a0_5) := (blk_cell BK190.out 5).trans rfl
              have hfz47_0 := blk_frozen BK190.out 0
              have hfz47_1 := blk_frozen BK190.out 1
              have hfz47_2 := blk_frozen BK190.out 2
              have hfz47_3 := blk_frozen BK190.out 3
              have hfz47_4 := blk_frozen BK190.out 4
              have hfz47_5 := blk_frozen BK190.out 5
              go_wp2
              go_ret
              exact ⟨by first | rfl | (simp [errW_none, errW_some] <;> rfl) | (simp [*, errW_none, errW_some] <;> rfl), (by first | exact (by (with_reducible repeat (first | apply Kd.R_alloc | apply Kd.R_drewN | apply Kd.R_drew)); exact HO_191003.out) | (simp only [hl191003_2]; exact (by (with_reducible repeat (first | apply Kd.R_alloc | apply Kd.R_drewN | apply Kd.R_drew)); exact HO_191003.out))), by repeat (first | (with_reducible first | exact HB.out | apply below_alloc | apply pw_below_drewN | apply below_drew1 | refine below_set ?_ GE190.out | refine below_set ?_ GE191.out | refine below_set ?_ GE192.out | refine below_set ?_ GE193.out) | exact HB.out), by repeat (first | (with_reducible first | exact HK.out | apply Kept.alloc | apply Kept.drewN | apply Kept.drew | refine Kept.setCell ?_ (.inr GW190.out) _ | refine Kept.setCell ?_ (.inr GW191.out) _ | refine Kept.setCell ?_ (.inr GW192.out) _ | refine Kept.setCell ?_ (.inr GW193.out) _) | exact HK.out)⟩

end Go.Proofs.Ytmoahkdadeiahaa.Q
