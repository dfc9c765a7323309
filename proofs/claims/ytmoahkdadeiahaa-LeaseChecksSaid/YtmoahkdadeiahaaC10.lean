-- WRITTEN BY a program of this session's (wip/gprint.py, over the kit's print), with functions given by hand among them. Not trusted: Lean checks it.
import Derived.Test.YtmoahkdadeiahaaC0
import Derived.Test.YtmoahkdadeiahaaC9
namespace Go.Proofs.Ytmoahkdadeiahaa.C
open Go.RowKit Go.Proofs.YtmoahkdadeiahaaW.PrintWords Go.Proofs.YtmoahkdadeiahaaW.PrintLast Go.Proofs.YtmoahkdadeiahaaW.PrintMore
attribute [local go_sem] max2_int min2_int max_two min_two max_three min_three max_four min_four   -- for this text's walks alone
set_option linter.unusedVariables false
set_option linter.unusedSimpArgs false

/-! ### folkmootlaw20_same: function 20 -/
def folkmootlaw20_same.l0 : Nat → Bool → Int → Int → Int → Int → List (S59) → Int → Int → Int → Int → Int → List (S59) → Int → Int → Int → Int → Int → List (S59) → Int → Int → Option (Bool × (List (S59)))
  | 0, _, _, _, _, _, _, _, _, _, _, _, _, _, _, _, _, _, _, _, _ => none
  | k + 1, x13, x14, x227000, x227001, x227002, x227003, x227004, x227005, x229000, x229001, x229002, x229003, x229004, x229005, x230000, x230001, x230002, x230003, x230004, x230005 => if x14 < (x227003.length : Int) then (if 0 ≤ x14 then (folkmootlaw20_same.l0 k x13 (wrap64 (x14 + 1)) x227000 x227001 x227002 (x227003.set (x14 : Int).toNat (⟨77, (rd_T59 x227003 x14).f1⟩ : S59)) x227004 x227005 x229000 x229001 x229002 x229003 x229004 x229005 x230000 x230001 x230002 x230003 x230004 x230005) else (none)) else (if x13 = true then ((folkmootref20_Same.f k x229000 x229001 x229002 x229003 x229004 x229005 x230000 x230001 x230002 x230003 x230004 x230005).bind fun t232 => (some (t232, x227003))) else (none))
def folkmootlaw20_same.f (k : Nat) (a0_0 : Int) (a0_1 : Int) (a0_2 : Int) (l0_3 : List (S59)) (a0_4 : Int) (a0_5 : Int) (a1 : Int) (a2_0 : Int) (a2_1 : Int) (a2_2 : Int) (l2_3 : List (S59)) (a2_4 : Int) (a2_5 : Int) (a3 : Int) (a4_0 : Int) (a4_1 : Int) (a4_2 : Int) (l4_3 : List (S59)) (a4_4 : Int) (a4_5 : Int) (a5_0 : Int) (a5_1 : Int) (a5_2 : Int) (l5_3 : List (S59)) (a5_4 : Int) (a5_5 : Int) : Option (Bool × (List (S59))) := if a1 = a3 then ((folkmootref20_Same.f k a0_0 a0_1 a0_2 l0_3 a0_4 a0_5 a2_0 a2_1 a2_2 l2_3 a2_4 a2_5).bind fun t230 => (folkmootlaw20_same.l0 k t230 0 a0_0 a0_1 a0_2 l0_3 a0_4 a0_5 a4_0 a4_1 a4_2 l4_3 a4_4 a4_5 a5_0 a5_1 a5_2 l5_3 a5_4 a5_5)) else (none)
theorem folkmootlaw20_same.mono_l : ∀ k, (∀ y0 y1 y2 y3 y4 y5 y6 y7 y8 y9 y10 y11 y12 y13 y14 y15 y16 y17 y18 y19, LeO (folkmootlaw20_same.l0 k y0 y1 y2 y3 y4 y5 y6 y7 y8 y9 y10 y11 y12 y13 y14 y15 y16 y17 y18 y19) (folkmootlaw20_same.l0 (k + 1) y0 y1 y2 y3 y4 y5 y6 y7 y8 y9 y10 y11 y12 y13 y14 y15 y16 y17 y18 y19))
  | 0 => fun _ _ _ _ _ _ _ _ _ _ _ _ _ _ _ _ _ _ _ _ r h => by simp [folkmootlaw20_same.l0] at h
  | k + 1 => by
    have ih0 := folkmootlaw20_same.mono_l k
    · intro y0 y1 y2 y3 y4 y5 y6 y7 y8 y9 y10 y11 y12 y13 y14 y15 y16 y17 y18 y19
      unfold folkmootlaw20_same.l0
      repeat' first
      | (with_reducible exact ih0 _ _ _ _ _ _ _ _ _ _ _ _ _ _ _ _ _ _ _ _)
      | (with_reducible exact folkmootref20_Same.mono _ _ _ _ _ _ _ _ _ _ _ _ _)
      | (with_reducible exact LeO.refl _)
      | (with_reducible exact LeO.none _)
      | (with_reducible refine LeO.ite ?_ ?_)
      | (with_reducible refine LeO.bind ?_ (fun _ => ?_))
      | exact ih0 _ _ _ _ _ _ _ _ _ _ _ _ _ _ _ _ _ _ _ _
      | exact folkmootref20_Same.mono _ _ _ _ _ _ _ _ _ _ _ _ _
      | exact LeO.none _
      | refine LeO.ite ?_ ?_
      | refine LeO.bind ?_ (fun _ => ?_)
theorem folkmootlaw20_same.mono : ∀ a0 a1 a2 a3 a4 a5 a6 a7 a8 a9 a10 a11 a12 a13 a14 a15 a16 a17 a18 a19 a20 a21 a22 a23 a24 a25 k, LeO (folkmootlaw20_same.f k a0 a1 a2 a3 a4 a5 a6 a7 a8 a9 a10 a11 a12 a13 a14 a15 a16 a17 a18 a19 a20 a21 a22 a23 a24 a25) (folkmootlaw20_same.f (k + 1) a0 a1 a2 a3 a4 a5 a6 a7 a8 a9 a10 a11 a12 a13 a14 a15 a16 a17 a18 a19 a20 a21 a22 a23 a24 a25) := by
  intro a0 a1 a2 a3 a4 a5 a6 a7 a8 a9 a10 a11 a12 a13 a14 a15 a16 a17 a18 a19 a20 a21 a22 a23 a24 a25 k
  have ih0 := folkmootlaw20_same.mono_l k
  unfold folkmootlaw20_same.f
  repeat' first
      | (with_reducible exact ih0 _ _ _ _ _ _ _ _ _ _ _ _ _ _ _ _ _ _ _ _)
      | (with_reducible exact folkmootref20_Same.mono _ _ _ _ _ _ _ _ _ _ _ _ _)
      | (with_reducible exact LeO.refl _)
      | (with_reducible exact LeO.none _)
      | (with_reducible refine LeO.ite ?_ ?_)
      | (with_reducible refine LeO.bind ?_ (fun _ => ?_))
      | exact ih0 _ _ _ _ _ _ _ _ _ _ _ _ _ _ _ _ _ _ _ _
      | exact folkmootref20_Same.mono _ _ _ _ _ _ _ _ _ _ _ _ _
      | exact LeO.none _
      | refine LeO.ite ?_ ?_
      | refine LeO.bind ?_ (fun _ => ?_)
set_option maxHeartbeats 8000000 in
set_option maxRecDepth 100000 in
theorem folkmootlaw20_same.calls (k : Nat) (a0_0 : Int) (a0_1 : Int) (a0_2 : Int) (P0_3_ : Nat → Prop) (u9000_ : Value) (l0_3 : List (S59)) (a0_4 : Int) (a0_5 : Int) (a1 : Int) (a2_0 : Int) (a2_1 : Int) (a2_2 : Int) (A2_3 : Option Addr) (c2_3 : Nat) (l2_3 : List (S59)) (a2_4 : Int) (a2_5 : Int) (a3 : Int) (a4_0 : Int) (a4_1 : Int) (a4_2 : Int) (A4_3 : Option Addr) (c4_3 : Nat) (l4_3 : List (S59)) (a4_4 : Int) (a4_5 : Int) (a5_0 : Int) (a5_1 : Int) (a5_2 : Int) (A5_3 : Option Addr) (c5_3 : Nat) (l5_3 : List (S59)) (a5_4 : Int) (a5_5 : Int) (r1 : Bool) (r2 : List (S59)) (w0 w : World) (hB : Below w0.heap.size w0 w) (ho0_3 : Kd.R k59 59 w w0.heap.size P0_3_ u9000_ l0_3) (hr2_3 : ∀ W_, Kept w W_ (fun k_ => P0_3_ k_) → Kd.C k59 W_ A2_3 l2_3.length l2_3) (hc2_3 : l2_3.length ≤ c2_3) (hr4_3 : ∀ W_, Kept w W_ (fun k_ => P0_3_ k_) → Kd.C k59 W_ A4_3 l4_3.length l4_3) (hc4_3 : l4_3.length ≤ c4_3) (hr5_3 : ∀ W_, Kept w W_ (fun k_ => P0_3_ k_) → Kd.C k59 W_ A5_3 l5_3.length l5_3) (hc5_3 : l5_3.length ≤ c5_3) (h : folkmootlaw20_same.f k a0_0 a0_1 a0_2 l0_3 a0_4 a0_5 a1 a2_0 a2_1 a2_2 l2_3 a2_4 a2_5 a3 a4_0 a4_1 a4_2 l4_3 a4_4 a4_5 a5_0 a5_1 a5_2 l5_3 a5_4 a5_5 = some (r1, r2)) :
    Calls Try.prog 20 #[.agg #[.int .i64 a0_0, .int .i64 a0_1, .int .i64 a0_2, u9000_, .int .i64 a0_4, .int .i64 a0_5], .int .i64 a1, .agg #[.int .i64 a2_0, .int .i64 a2_1, .int .i64 a2_2, .slice A2_3 l2_3.length c2_3, .int .i64 a2_4, .int .i64 a2_5], .int .i64 a3, .agg #[.int .i64 a4_0, .int .i64 a4_1, .int .i64 a4_2, .slice A4_3 l4_3.length c4_3, .int .i64 a4_4, .int .i64 a4_5], .agg #[.int .i64 a5_0, .int .i64 a5_1, .int .i64 a5_2, .slice A5_3 l5_3.length c5_3, .int .i64 a5_4, .int .i64 a5_5]] w fun e w' => e = .returned (.bool r1) ∧ Kd.R k59 59 w' w0.heap.size (fun k_ => (P0_3_ k_ ∨ w.heap.size ≤ k_)) u9000_ r2 ∧ Below w0.heap.size w0 w' ∧ Kept w w' (fun k_ => P0_3_ k_) := by
  have hu29 := Try.underlying29
  have HO0_3 := Aside0.mk (show Kd.R k59 59 w w0.heap.size (fun k_ => (P0_3_ k_ ∨ w.heap.size ≤ k_)) u9000_ l0_3 from Kd.R_mono ho0_3 (fun k_ hk => (.inl hk)))
  have HR2_3 := Aside0.mk hr2_3
  have HC2_3 := Aside0.mk hc2_3
  clear hr2_3 hc2_3
  have HR4_3 := Aside0.mk hr4_3
  have HC4_3 := Aside0.mk hc4_3
  clear hr4_3 hc4_3
  have HR5_3 := Aside0.mk hr5_3
  have HC5_3 := Aside0.mk hc5_3
  clear hr5_3 hc5_3
  have HK := Aside0.mk (Kept.refl w (fun k_ => P0_3_ k_))
  have HW0 := Aside0.mk hB.size
  have HB := Aside0.mk hB
  clear hB
  have H : (if a1 = a3 then ((folkmootref20_Same.f k a0_0 a0_1 a0_2 l0_3 a0_4 a0_5 a2_0 a2_1 a2_2 l2_3 a2_4 a2_5).bind fun t230 => (folkmootlaw20_same.l0 k t230 0 a0_0 a0_1 a0_2 l0_3 a0_4 a0_5 a4_0 a4_1 a4_2 l4_3 a4_4 a4_5 a5_0 a5_1 a5_2 l5_3 a5_4 a5_5)) else (none)) = some (r1, r2) := h
  clear h
  by_cases c7 : a1 = a3
  · rw [if_pos c7] at H
    have c7b0 : (a1 == a3) = true := beq_iff_eq.mpr c7
    have c7b1 : (a1 != a3) = false := bne_eq_false_iff_eq.mpr c7
    clear c7
    replace H := Option.bind_eq_some_iff.mp H
    obtain ⟨t230, A80, H⟩ := H
    replace H : (folkmootlaw20_same.l0 k t230 0 a0_0 a0_1 a0_2 l0_3 a0_4 a0_5 a4_0 a4_1 a4_2 l4_3 a4_4 a4_5 a5_0 a5_1 a5_2 l5_3 a5_4 a5_5) = some (r1, r2) := H
    have A8 := Aside0.mk A80
    clear A80
    have H' := Aside0.mk H
    clear H
    obtain ⟨Ao9, co9, eo9⟩ := Kd.R_slice HO0_3.out
    subst eo9
    go_enter Try.func20, Try.ntmps20
    go_wp2_with (first | ((with_reducible refine gate_dst (N := 6) rfl ?_); refine box_event ?hg (N := 6) ?hd (cs := #[.int .i64 a0_0, .int .i64 a0_1, .int .i64 a0_2, .slice Ao9 l0_3.length co9, .int .i64 a0_4, .int .i64 a0_5]) (t := 29) ?hr ?_; (case hd => rfl); (case hg => rfl); (case hr => first | (go_simp; done) | (go_simp; rfl)); intro gb226 hg w10 hbox hb; have n0_ := Aside0.mk (Kd.R_below (by (with_reducible repeat (first | apply Kd.R_alloc | apply Kd.R_drewN | apply Kd.R_drew)); exact HO0_3.out) hb); have n1_ := Aside0.mk (Kept.below (S := (fun k_ => P0_3_ k_)) (by repeat (first | (with_reducible first | exact HK.out | apply Kept.alloc | apply Kept.drewN | apply Kept.drew) | exact HK.out)) hb); have n2_ := Aside0.mk (below_step (by repeat (first | (with_reducible first | exact HB.out | apply below_alloc | apply pw_below_drewN | apply below_drew1) | exact HB.out)) hb); have n3_ := Aside0.mk (hbox); have n4_ := Aside0.mk ((by rw [hg]; exact (by first | exact HK.out.1 | exact (show Kept w _ (fun k_ => P0_3_ k_) from by repeat (first | (with_reducible first | exact HK.out | apply Kept.alloc | apply Kept.drewN | apply Kept.drew) | exact HK.out)).1) : w.heap.size ≤ gb226)); have n5_ := Aside0.mk ((by rw [hg]; exact (below_size (by repeat (first | (with_reducible first | exact HB.out | apply below_alloc | apply pw_below_drewN | apply below_drew1) | exact HB.out))) : w0.heap.size ≤ gb226)); clear HO0_3; clear HK; clear HB; have HO0_3 := n0_; have HK := n1_; have HB := n2_; have BK226 := n3_; have GW226 := n4_; have GE226 := n5_; clear n0_ n1_ n2_ n3_ n4_ n5_; clear hb hbox hg) | ((with_reducible refine gate_dst (N := 8) rfl ?_); refine box_event ?hg (N := 8) ?hd (cs := #[.int .i64 a2_0, .int .i64 a2_1, .int .i64 a2_2, .slice A2_3 l2_3.length c2_3, .int .i64 a2_4, .int .i64 a2_5]) (t := 29) ?hr ?_; (case hd => rfl); (case hg => rfl); (case hr => first | (go_simp; done) | (go_simp; rfl)); intro gb227 hg w11 hbox hb; have n0_ := Aside0.mk (Kd.R_below (by (with_reducible repeat (first | apply Kd.R_alloc | apply Kd.R_drewN | apply Kd.R_drew)); exact HO0_3.out) hb); have n1_ := Aside0.mk (blk_below (g := gb226) (o := .cells #[.int .i64 a0_0, .int .i64 a0_1, .int .i64 a0_2, .slice Ao9 l0_3.length co9, .int .i64 a0_4, .int .i64 a0_5] 29 (0, 0)) (by (with_reducible repeat (first | refine blk_drewN ?_ _ | refine blk_drew ?_ | refine blk_alloc ?_ _)); exact BK226.out) hb); have n2_ := Aside0.mk (Kept.below (S := (fun k_ => P0_3_ k_)) (by repeat (first | (with_reducible first | exact HK.out | apply Kept.alloc | apply Kept.drewN | apply Kept.drew | refine Kept.setCell ?_ (.inr GW226.out) _) | exact HK.out)) hb); have n3_ := Aside0.mk (below_step (by repeat (first | (with_reducible first | exact HB.out | apply below_alloc | apply pw_below_drewN | apply below_drew1 | refine below_set ?_ GE226.out) | exact HB.out)) hb); have n4_ := Aside0.mk (hbox); have n5_ := Aside0.mk ((by rw [hg]; exact (by first | exact HK.out.1 | exact (show Kept w _ (fun k_ => P0_3_ k_) from by repeat (first | (with_reducible first | exact HK.out | apply Kept.alloc | apply Kept.drewN | apply Kept.drew | refine Kept.setCell ?_ (.inr GW226.out) _) | exact HK.out)).1) : w.heap.size ≤ gb227)); have n6_ := Aside0.mk ((by rw [hg]; exact (below_size (by repeat (first | (with_reducible first | exact HB.out | apply below_alloc | apply pw_below_drewN | apply below_drew1 | refine below_set ?_ GE226.out) | exact HB.out))) : w0.heap.size ≤ gb227)); have n7_ := Aside0.mk ((by rw [hg]; exact Nat.ne_of_lt (blk_lt (g := gb226) (o := .cells #[.int .i64 a0_0, .int .i64 a0_1, .int .i64 a0_2, .slice Ao9 l0_3.length co9, .int .i64 a0_4, .int .i64 a0_5] 29 (0, 0)) (by (with_reducible repeat (first | refine blk_drewN ?_ _ | refine blk_drew ?_ | refine blk_alloc ?_ _)); exact BK226.out)) : gb226 ≠ gb227)); have n8_ := Aside0.mk ((by rw [hg]; exact Nat.ne_of_gt (blk_lt (g := gb226) (o := .cells #[.int .i64 a0_0, .int .i64 a0_1, .int .i64 a0_2, .slice Ao9 l0_3.length co9, .int .i64 a0_4, .int .i64 a0_5] 29 (0, 0)) (by (with_reducible repeat (first | refine blk_drewN ?_ _ | refine blk_drew ?_ | refine blk_alloc ?_ _)); exact BK226.out)) : gb227 ≠ gb226)); clear HO0_3; clear BK226; clear HK; clear HB; have HO0_3 := n0_; have BK226 := n1_; have HK := n2_; have HB := n3_; have BK227 := n4_; have GW227 := n5_; have GE227 := n6_; have NB226_227 := n7_; have NB227_226 := n8_; clear n0_ n1_ n2_ n3_ n4_ n5_ n6_ n7_ n8_; clear hb hbox hg) | ((with_reducible refine gate_dst (N := 10) rfl ?_); refine box_event ?hg (N := 10) ?hd (cs := #[.int .i64 a4_0, .int .i64 a4_1, .int .i64 a4_2, .slice A4_3 l4_3.length c4_3, .int .i64 a4_4, .int .i64 a4_5]) (t := 29) ?hr ?_; (case hd => rfl); (case hg => rfl); (case hr => first | (go_simp; done) | (go_simp; rfl)); intro gb228 hg w12 hbox hb; have n0_ := Aside0.mk (Kd.R_below (by (with_reducible repeat (first | apply Kd.R_alloc | apply Kd.R_drewN | apply Kd.R_drew)); exact HO0_3.out) hb); have n1_ := Aside0.mk (blk_below (g := gb226) (o := .cells #[.int .i64 a0_0, .int .i64 a0_1, .int .i64 a0_2, .slice Ao9 l0_3.length co9, .int .i64 a0_4, .int .i64 a0_5] 29 (0, 0)) (by (with_reducible repeat (first | refine blk_drewN ?_ _ | refine blk_drew ?_ | refine blk_alloc ?_ _)); exact BK226.out) hb); have n2_ := Aside0.mk (blk_below (g := gb227) (o := .cells #[.int .i64 a2_0, .int .i64 a2_1, .int .i64 a2_2, .slice A2_3 l2_3.length c2_3, .int .i64 a2_4, .int .i64 a2_5] 29 (0, 0)) (by (with_reducible repeat (first | refine blk_drewN ?_ _ | refine blk_drew ?_ | refine blk_alloc ?_ _)); exact BK227.out) hb); have n3_ := Aside0.mk (Kept.below (S := (fun k_ => P0_3_ k_)) (by repeat (first | (with_reducible first | exact HK.out | apply Kept.alloc | apply Kept.drewN | apply Kept.drew | refine Kept.setCell ?_ (.inr GW226.out) _ | refine Kept.setCell ?_ (.inr GW227.out) _) | exact HK.out)) hb); have n4_ := Aside0.mk (below_step (by repeat (first | (with_reducible first | exact HB.out | apply below_alloc | apply pw_below_drewN | apply below_drew1 | refine below_set ?_ GE226.out | refine below_set ?_ GE227.out) | exact HB.out)) hb); have n5_ := Aside0.mk (hbox); have n6_ := Aside0.mk ((by rw [hg]; exact (by first | exact HK.out.1 | exact (show Kept w _ (fun k_ => P0_3_ k_) from by repeat (first | (with_reducible first | exact HK.out | apply Kept.alloc | apply Kept.drewN | apply Kept.drew | refine Kept.setCell ?_ (.inr GW226.out) _ | refine Kept.setCell ?_ (.inr GW227.out) _) | exact HK.out)).1) : w.heap.size ≤ gb228)); have n7_ := Aside0.mk ((by rw [hg]; exact (below_size (by repeat (first | (with_reducible first | exact HB.out | apply below_alloc | apply pw_below_drewN | apply below_drew1 | refine below_set ?_ GE226.out | refine below_set ?_ GE227.out) | exact HB.out))) : w0.heap.size ≤ gb228)); have n8_ := Aside0.mk ((by rw [hg]; exact Nat.ne_of_lt (blk_lt (g := gb226) (o := .cells #[.int .i64 a0_0, .int .i64 a0_1, .int .i64 a0_2, .slice Ao9 l0_3.length co9, .int .i64 a0_4, .int .i64 a0_5] 29 (0, 0)) (by (with_reducible repeat (first | refine blk_drewN ?_ _ | refine blk_drew ?_ | refine blk_alloc ?_ _)); exact BK226.out)) : gb226 ≠ gb228)); have n9_ := Aside0.mk ((by rw [hg]; exact Nat.ne_of_gt (blk_lt (g := gb226) (o := .cells #[.int .i64 a0_0, .int .i64 a0_1, .int .i64 a0_2, .slice Ao9 l0_3.length co9, .int .i64 a0_4, .int .i64 a0_5] 29 (0, 0)) (by (with_reducible repeat (first | refine blk_drewN ?_ _ | refine blk_drew ?_ | refine blk_alloc ?_ _)); exact BK226.out)) : gb228 ≠ gb226)); have n10_ := Aside0.mk ((by rw [hg]; exact Nat.ne_of_lt (blk_lt (g := gb227) (o := .cells #[.int .i64 a2_0, .int .i64 a2_1, .int .i64 a2_2, .slice A2_3 l2_3.length c2_3, .int .i64 a2_4, .int .i64 a2_5] 29 (0, 0)) (by (with_reducible repeat (first | refine blk_drewN ?_ _ | refine blk_drew ?_ | refine blk_alloc ?_ _)); exact BK227.out)) : gb227 ≠ gb228)); have n11_ := Aside0.mk ((by rw [hg]; exact Nat.ne_of_gt (blk_lt (g := gb227) (o := .cells #[.int .i64 a2_0, .int .i64 a2_1, .int .i64 a2_2, .slice A2_3 l2_3.length c2_3, .int .i64 a2_4, .int .i64 a2_5] 29 (0, 0)) (by (with_reducible repeat (first | refine blk_drewN ?_ _ | refine blk_drew ?_ | refine blk_alloc ?_ _)); exact BK227.out)) : gb228 ≠ gb227)); clear HO0_3; clear BK226; clear BK227; clear HK; clear HB; have HO0_3 := n0_; have BK226 := n1_; have BK227 := n2_; have HK := n3_; have HB := n4_; have BK228 := n5_; have GW228 := n6_; have GE228 := n7_; have NB226_228 := n8_; have NB228_226 := n9_; have NB227_228 := n10_; have NB228_227 := n11_; clear n0_ n1_ n2_ n3_ n4_ n5_ n6_ n7_ n8_ n9_ n10_ n11_; clear hb hbox hg) | ((with_reducible refine gate_dst (N := 11) rfl ?_); refine box_event ?hg (N := 11) ?hd (cs := #[.int .i64 a5_0, .int .i64 a5_1, .int .i64 a5_2, .slice A5_3 l5_3.length c5_3, .int .i64 a5_4, .int .i64 a5_5]) (t := 29) ?hr ?_; (case hd => rfl); (case hg => rfl); (case hr => first | (go_simp; done) | (go_simp; rfl)); intro gb229 hg w13 hbox hb; have n0_ := Aside0.mk (Kd.R_below (by (with_reducible repeat (first | apply Kd.R_alloc | apply Kd.R_drewN | apply Kd.R_drew)); exact HO0_3.out) hb); have n1_ := Aside0.mk (blk_below (g := gb226) (o := .cells #[.int .i64 a0_0, .int .i64 a0_1, .int .i64 a0_2, .slice Ao9 l0_3.length co9, .int .i64 a0_4, .int .i64 a0_5] 29 (0, 0)) (by (with_reducible repeat (first | refine blk_drewN ?_ _ | refine blk_drew ?_ | refine blk_alloc ?_ _)); exact BK226.out) hb); have n2_ := Aside0.mk (blk_below (g := gb227) (o := .cells #[.int .i64 a2_0, .int .i64 a2_1, .int .i64 a2_2, .slice A2_3 l2_3.length c2_3, .int .i64 a2_4, .int .i64 a2_5] 29 (0, 0)) (by (with_reducible repeat (first | refine blk_drewN ?_ _ | refine blk_drew ?_ | refine blk_alloc ?_ _)); exact BK227.out) hb); have n3_ := Aside0.mk (blk_below (g := gb228) (o := .cells #[.int .i64 a4_0, .int .i64 a4_1, .int .i64 a4_2, .slice A4_3 l4_3.length c4_3, .int .i64 a4_4, .int .i64 a4_5] 29 (0, 0)) (by (with_reducible repeat (first | refine blk_drewN ?_ _ | refine blk_drew ?_ | refine blk_alloc ?_ _)); exact BK228.out) hb); have n4_ := Aside0.mk (Kept.below (S := (fun k_ => P0_3_ k_)) (by repeat (first | (with_reducible first | exact HK.out | apply Kept.alloc | apply Kept.drewN | apply Kept.drew | refine Kept.setCell ?_ (.inr GW226.out) _ | refine Kept.setCell ?_ (.inr GW227.out) _ | refine Kept.setCell ?_ (.inr GW228.out) _) | exact HK.out)) hb); have n5_ := Aside0.mk (below_step (by repeat (first | (with_reducible first | exact HB.out | apply below_alloc | apply pw_below_drewN | apply below_drew1 | refine below_set ?_ GE226.out | refine below_set ?_ GE227.out | refine below_set ?_ GE228.out) | exact HB.out)) hb); have n6_ := Aside0.mk (hbox); have n7_ := Aside0.mk ((by rw [hg]; exact (by first | exact HK.out.1 | exact (show Kept w _ (fun k_ => P0_3_ k_) from by repeat (first | (with_reducible first | exact HK.out | apply Kept.alloc | apply Kept.drewN | apply Kept.drew | refine Kept.setCell ?_ (.inr GW226.out) _ | refine Kept.setCell ?_ (.inr GW227.out) _ | refine Kept.setCell ?_ (.inr GW228.out) _) | exact HK.out)).1) : w.heap.size ≤ gb229)); have n8_ := Aside0.mk ((by rw [hg]; exact (below_size (by repeat (first | (with_reducible first | exact HB.out | apply below_alloc | apply pw_below_drewN | apply below_drew1 | refine below_set ?_ GE226.out | refine below_set ?_ GE227.out | refine below_set ?_ GE228.out) | exact HB.out))) : w0.heap.size ≤ gb229)); have n9_ := Aside0.mk ((by rw [hg]; exact Nat.ne_of_lt (blk_lt (g := gb226) (o := .cells #[.int .i64 a0_0, .int .i64 a0_1, .int .i64 a0_2, .slice Ao9 l0_3.length co9, .int .i64 a0_4, .int .i64 a0_5] 29 (0, 0)) (by (with_reducible repeat (first | refine blk_drewN ?_ _ | refine blk_drew ?_ | refine blk_alloc ?_ _)); exact BK226.out)) : gb226 ≠ gb229)); have n10_ := Aside0.mk ((by rw [hg]; exact Nat.ne_of_gt (blk_lt (g := gb226) (o := .cells #[.int .i64 a0_0, .int .i64 a0_1, .int .i64 a0_2, .slice Ao9 l0_3.length co9, .int .i64 a0_4, .int .i64 a0_5] 29 (0, 0)) (by (with_reducible repeat (first | refine blk_drewN ?_ _ | refine blk_drew ?_ | refine blk_alloc ?_ _)); exact BK226.out)) : gb229 ≠ gb226)); have n11_ := Aside0.mk ((by rw [hg]; exact Nat.ne_of_lt (blk_lt (g := gb227) (o := .cells #[.int .i64 a2_0, .int .i64 a2_1, .int .i64 a2_2, .slice A2_3 l2_3.length c2_3, .int .i64 a2_4, .int .i64 a2_5] 29 (0, 0)) (by (with_reducible repeat (first | refine blk_drewN ?_ _ | refine blk_drew ?_ | refine blk_alloc ?_ _)); exact BK227.out)) : gb227 ≠ gb229)); have n12_ := Aside0.mk ((by rw [hg]; exact Nat.ne_of_gt (blk_lt (g := gb227) (o := .cells #[.int .i64 a2_0, .int .i64 a2_1, .int .i64 a2_2, .slice A2_3 l2_3.length c2_3, .int .i64 a2_4, .int .i64 a2_5] 29 (0, 0)) (by (with_reducible repeat (first | refine blk_drewN ?_ _ | refine blk_drew ?_ | refine blk_alloc ?_ _)); exact BK227.out)) : gb229 ≠ gb227)); have n13_ := Aside0.mk ((by rw [hg]; exact Nat.ne_of_lt (blk_lt (g := gb228) (o := .cells #[.int .i64 a4_0, .int .i64 a4_1, .int .i64 a4_2, .slice A4_3 l4_3.length c4_3, .int .i64 a4_4, .int .i64 a4_5] 29 (0, 0)) (by (with_reducible repeat (first | refine blk_drewN ?_ _ | refine blk_drew ?_ | refine blk_alloc ?_ _)); exact BK228.out)) : gb228 ≠ gb229)); have n14_ := Aside0.mk ((by rw [hg]; exact Nat.ne_of_gt (blk_lt (g := gb228) (o := .cells #[.int .i64 a4_0, .int .i64 a4_1, .int .i64 a4_2, .slice A4_3 l4_3.length c4_3, .int .i64 a4_4, .int .i64 a4_5] 29 (0, 0)) (by (with_reducible repeat (first | refine blk_drewN ?_ _ | refine blk_drew ?_ | refine blk_alloc ?_ _)); exact BK228.out)) : gb229 ≠ gb228)); clear HO0_3; clear BK226; clear BK227; clear BK228; clear HK; clear HB; have HO0_3 := n0_; have BK226 := n1_; have BK227 := n2_; have BK228 := n3_; have HK := n4_; have HB := n5_; have BK229 := n6_; have GW229 := n7_; have GE229 := n8_; have NB226_229 := n9_; have NB229_226 := n10_; have NB227_229 := n11_; have NB229_227 := n12_; have NB228_229 := n13_; have NB229_228 := n14_; clear n0_ n1_ n2_ n3_ n4_ n5_ n6_ n7_ n8_ n9_ n10_ n11_ n12_ n13_ n14_; clear hb hbox hg; have hnb14 := NB226_227.out; have hnc14 := NB227_226.out; have hnb15 := NB226_228.out; have hnc15 := NB228_226.out; have hnb16 := NB226_229.out; have hnc16 := NB229_226.out; have hcz17_0 : w13.cell? ⟨gb226, 0, none⟩ = some (.int .i64 a0_0) := (blk_cell BK226.out 0).trans rfl; have hcz17_1 : w13.cell? ⟨gb226, 1, none⟩ = some (.int .i64 a0_1) := (blk_cell BK226.out 1).trans rfl; have hcz17_2 : w13.cell? ⟨gb226, 2, none⟩ = some (.int .i64 a0_2) := (blk_cell BK226.out 2).trans rfl; have hcz17_3 : w13.cell? ⟨gb226, 3, none⟩ = some (.slice Ao9 l0_3.length co9) := (blk_cell BK226.out 3).trans rfl; have hcz17_4 : w13.cell? ⟨gb226, 4, none⟩ = some (.int .i64 a0_4) := (blk_cell BK226.out 4).trans rfl; have hcz17_5 : w13.cell? ⟨gb226, 5, none⟩ = some (.int .i64 a0_5) := (blk_cell BK226.out 5).trans rfl; have hfz17_0 := blk_frozen BK226.out 0; have hfz17_1 := blk_frozen BK226.out 1; have hfz17_2 := blk_frozen BK226.out 2; have hfz17_3 := blk_frozen BK226.out 3; have hfz17_4 := blk_frozen BK226.out 4; have hfz17_5 := blk_frozen BK226.out 5; have hnb18 := NB227_228.out; have hnc18 := NB228_227.out; have hnb19 := NB227_229.out; have hnc19 := NB229_227.out; have hcz20_0 : w13.cell? ⟨gb227, 0, none⟩ = some (.int .i64 a2_0) := (blk_cell BK227.out 0).trans rfl; have hcz20_1 : w13.cell? ⟨gb227, 1, none⟩ = some (.int .i64 a2_1) := (blk_cell BK227.out 1).trans rfl; have hcz20_2 : w13.cell? ⟨gb227, 2, none⟩ = some (.int .i64 a2_2) := (blk_cell BK227.out 2).trans rfl; have hcz20_3 : w13.cell? ⟨gb227, 3, none⟩ = some (.slice A2_3 l2_3.length c2_3) := (blk_cell BK227.out 3).trans rfl; have hcz20_4 : w13.cell? ⟨gb227, 4, none⟩ = some (.int .i64 a2_4) := (blk_cell BK227.out 4).trans rfl; have hcz20_5 : w13.cell? ⟨gb227, 5, none⟩ = some (.int .i64 a2_5) := (blk_cell BK227.out 5).trans rfl; have hfz20_0 := blk_frozen BK227.out 0; have hfz20_1 := blk_frozen BK227.out 1; have hfz20_2 := blk_frozen BK227.out 2; have hfz20_3 := blk_frozen BK227.out 3; have hfz20_4 := blk_frozen BK227.out 4; have hfz20_5 := blk_frozen BK227.out 5) | (go_at_call 37; (with_reducible refine (folkmootref20_Same.calls k a0_0 a0_1 a0_2 _ _ l0_3 a0_4 a0_5 a2_0 a2_1 a2_2 _ _ l2_3 a2_4 a2_5 t230 _ ?side1 ?side2 ?side3 ?side4 A8.out).mono ?_); (case side1 => repeat (first | exact (Kd.R_reads' HO0_3.out).2.2 | (with_reducible refine Kd.C_alloc ?_ _) | (with_reducible refine Kd.C_drewN ?_ _) | (with_reducible refine Kd.C_drew ?_))); (case side2 => exact (Kd.R_reads' HO0_3.out).2.1); (case side3 => exact Kd.C_kept_now HR2_3.out (by repeat (first | (with_reducible first | exact HK.out | apply Kept.alloc | apply Kept.drewN | apply Kept.drew | refine Kept.setCell ?_ (.inr GW226.out) _ | refine Kept.setCell ?_ (.inr GW227.out) _ | refine Kept.setCell ?_ (.inr GW228.out) _ | refine Kept.setCell ?_ (.inr GW229.out) _) | exact HK.out))); (case side4 => exact HC2_3.out); rintro e w21 ⟨rfl, hb⟩; have n0_ := Aside0.mk (Kd.R_below (by (with_reducible repeat (first | apply Kd.R_alloc | apply Kd.R_drewN | apply Kd.R_drew)); exact HO0_3.out) hb); have n1_ := Aside0.mk (blk_below (g := gb226) (o := .cells #[.int .i64 a0_0, .int .i64 a0_1, .int .i64 a0_2, .slice Ao9 l0_3.length co9, .int .i64 a0_4, .int .i64 a0_5] 29 (0, 0)) (by (with_reducible repeat (first | refine blk_drewN ?_ _ | refine blk_drew ?_ | refine blk_alloc ?_ _)); exact BK226.out) hb); have n2_ := Aside0.mk (blk_below (g := gb227) (o := .cells #[.int .i64 a2_0, .int .i64 a2_1, .int .i64 a2_2, .slice A2_3 l2_3.length c2_3, .int .i64 a2_4, .int .i64 a2_5] 29 (0, 0)) (by (with_reducible repeat (first | refine blk_drewN ?_ _ | refine blk_drew ?_ | refine blk_alloc ?_ _)); exact BK227.out) hb); have n3_ := Aside0.mk (blk_below (g := gb228) (o := .cells #[.int .i64 a4_0, .int .i64 a4_1, .int .i64 a4_2, .slice A4_3 l4_3.length c4_3, .int .i64 a4_4, .int .i64 a4_5] 29 (0, 0)) (by (with_reducible repeat (first | refine blk_drewN ?_ _ | refine blk_drew ?_ | refine blk_alloc ?_ _)); exact BK228.out) hb); have n4_ := Aside0.mk (blk_below (g := gb229) (o := .cells #[.int .i64 a5_0, .int .i64 a5_1, .int .i64 a5_2, .slice A5_3 l5_3.length c5_3, .int .i64 a5_4, .int .i64 a5_5] 29 (0, 0)) (by (with_reducible repeat (first | refine blk_drewN ?_ _ | refine blk_drew ?_ | refine blk_alloc ?_ _)); exact BK229.out) hb); have n5_ := Aside0.mk (Kept.below (S := (fun k_ => P0_3_ k_)) (by repeat (first | (with_reducible first | exact HK.out | apply Kept.alloc | apply Kept.drewN | apply Kept.drew | refine Kept.setCell ?_ (.inr GW226.out) _ | refine Kept.setCell ?_ (.inr GW227.out) _ | refine Kept.setCell ?_ (.inr GW228.out) _ | refine Kept.setCell ?_ (.inr GW229.out) _) | exact HK.out)) hb); have n6_ := Aside0.mk (below_step (by repeat (first | (with_reducible first | exact HB.out | apply below_alloc | apply pw_below_drewN | apply below_drew1 | refine below_set ?_ GE226.out | refine below_set ?_ GE227.out | refine below_set ?_ GE228.out | refine below_set ?_ GE229.out) | exact HB.out)) hb); clear HO0_3; clear BK226; clear BK227; clear BK228; clear BK229; clear HK; clear HB; have HO0_3 := n0_; have BK226 := n1_; have BK227 := n2_; have BK228 := n3_; have BK229 := n4_; have HK := n5_; have HB := n6_; clear n0_ n1_ n2_ n3_ n4_ n5_ n6_; (try clear hb); (try clear hb2); (try clear hk); (try clear hi)))
    go_loopg [14] k (fun kq v14 w' => ∃ (x14_1 : Int) (x227003_1 : List (S59)), v14 = .int .i64 x14_1 ∧ Aside0 (folkmootlaw20_same.l0 kq t230 x14_1 a0_0 a0_1 a0_2 x227003_1 a0_4 a0_5 a4_0 a4_1 a4_2 l4_3 a4_4 a4_5 a5_0 a5_1 a5_2 l5_3 a5_4 a5_5 = some (r1, r2)) ∧ Aside0 (kq ≤ k) ∧ Aside0 (Kd.R k59 59 w' w0.heap.size (fun k_ => (P0_3_ k_ ∨ w.heap.size ≤ k_)) (.slice Ao9 l0_3.length co9) x227003_1) ∧ Aside0 (w'.heap[gb226]? = some (.cells #[.int .i64 a0_0, .int .i64 a0_1, .int .i64 a0_2, (.slice Ao9 l0_3.length co9), .int .i64 a0_4, .int .i64 a0_5] 29 (0, 0))) ∧ Aside0 (w'.heap[gb227]? = some (.cells #[.int .i64 a2_0, .int .i64 a2_1, .int .i64 a2_2, (.slice A2_3 l2_3.length c2_3), .int .i64 a2_4, .int .i64 a2_5] 29 (0, 0))) ∧ Aside0 (w'.heap[gb228]? = some (.cells #[.int .i64 a4_0, .int .i64 a4_1, .int .i64 a4_2, (.slice A4_3 l4_3.length c4_3), .int .i64 a4_4, .int .i64 a4_5] 29 (0, 0))) ∧ Aside0 (w'.heap[gb229]? = some (.cells #[.int .i64 a5_0, .int .i64 a5_1, .int .i64 a5_2, (.slice A5_3 l5_3.length c5_3), .int .i64 a5_4, .int .i64 a5_5] 29 (0, 0))) ∧ Aside0 (Kept w w' (fun k_ => P0_3_ k_)) ∧ Aside0 (Below w0.heap.size w0 w'))
    case atStart => exact ⟨(0), (l0_3), (by first | rfl | (simp; done) | (simp [*]; done)), H', ⟨Nat.le_refl _⟩, ⟨by (with_reducible repeat (first | apply Kd.R_alloc | apply Kd.R_drewN | apply Kd.R_drew)); exact HO0_3.out⟩, ⟨by (with_reducible repeat (first | refine blk_drewN ?_ _ | refine blk_drew ?_ | refine blk_alloc ?_ _)); exact BK226.out⟩, ⟨by (with_reducible repeat (first | refine blk_drewN ?_ _ | refine blk_drew ?_ | refine blk_alloc ?_ _)); exact BK227.out⟩, ⟨by (with_reducible repeat (first | refine blk_drewN ?_ _ | refine blk_drew ?_ | refine blk_alloc ?_ _)); exact BK228.out⟩, ⟨by (with_reducible repeat (first | refine blk_drewN ?_ _ | refine blk_drew ?_ | refine blk_alloc ?_ _)); exact BK229.out⟩, ⟨by repeat (first | (with_reducible first | exact HK.out | apply Kept.alloc | apply Kept.drewN | apply Kept.drew | refine Kept.setCell ?_ (.inr GW226.out) _ | refine Kept.setCell ?_ (.inr GW227.out) _ | refine Kept.setCell ?_ (.inr GW228.out) _ | refine Kept.setCell ?_ (.inr GW229.out) _) | exact HK.out)⟩, ⟨by repeat (first | (with_reducible first | exact HB.out | apply below_alloc | apply pw_below_drewN | apply below_drew1 | refine below_set ?_ GE226.out | refine below_set ?_ GE227.out | refine below_set ?_ GE228.out | refine below_set ?_ GE229.out) | exact HB.out)⟩⟩
    case round =>
      clear H'
      try clear c1
      try clear c2
      try clear p2
      try clear c4
      try clear c5
      try clear c7
      try clear c7b0
      try clear c7b1
      try clear c14
      try clear c15
      try clear c16
      try clear c18
      try clear c19
      try clear c20
      try clear hcz17_0
      try clear hcz17_1
      try clear hcz17_2
      try clear hcz17_3
      try clear hcz17_4
      try clear hcz17_5
      try clear hcz20_0
      try clear hcz20_1
      try clear hcz20_2
      try clear hcz20_3
      try clear hcz20_4
      try clear hcz20_5
      try clear hfz17_0
      try clear hfz17_1
      try clear hfz17_2
      try clear hfz17_3
      try clear hfz17_4
      try clear hfz17_5
      try clear hfz20_0
      try clear hfz20_1
      try clear hfz20_2
      try clear hfz20_3
      try clear hfz20_4
      try clear hfz20_5
      obtain ⟨x14_1, x227003_1, rfl, HA, HK1, HO_227003, BK226, BK227, BK228, BK229, HK, HB⟩ := hrel
      have hl227003_1 := (Kd.R_reads' HO_227003.out).1
      rw [hl227003_1] at HO_227003
      (try simp only [hl227003_1])
      (try simp only [hl227003_1] at BK226)
      (try simp only [hl227003_1] at BK227)
      (try simp only [hl227003_1] at BK228)
      (try simp only [hl227003_1] at BK229)
      cases gk with
      | zero => exact absurd HA.out (by simp [folkmootlaw20_same.l0])
      | succ k1 =>
        have H := HA.out
        clear HA
        simp only [folkmootlaw20_same.l0] at H
        by_cases c22 : x14_1 < (x227003_1.length : Int)
        · rw [if_pos c22] at H
          have c22b0 : decide (x14_1 < (x227003_1.length : Int)) = true := decide_eq_true c22
          clear c22
          by_cases c23 : 0 ≤ x14_1
          · rw [if_pos c23] at H
            have c23b0 : decide (0 ≤ x14_1) = true := decide_eq_true c23
            clear c23
            obtain ⟨y231, hy231⟩ : ∃ y_ : List (S59), y_ = (x227003_1.set (x14_1 : Int).toNat (⟨77, (rd_T59 x227003_1 x14_1).f1⟩ : S59)) := ⟨_, rfl⟩
            replace H : (folkmootlaw20_same.l0 k1 t230 (wrap64 (x14_1 + 1)) a0_0 a0_1 a0_2 y231 a0_4 a0_5 a4_0 a4_1 a4_2 l4_3 a4_4 a4_5 a5_0 a5_1 a5_2 l5_3 a5_4 a5_5) = some (r1, r2) := by first | (rw [hy231]; with_reducible exact H) | (have H2_ := (Option.bind_some _ _).symm.trans H; rw [hy231]; with_reducible exact H2_) | (have H2_ := (Option.bind_some _ _).symm.trans H; with_reducible exact H2_) | with_reducible exact H | (rw [hy231]; exact H) | exact H
            have Ny231 := Aside0.mk hy231
            clear hy231
            have H' := Aside0.mk H
            clear H
            have hnb25 := NB226_227.out
            have hnc25 := NB227_226.out
            have hnb26 := NB226_228.out
            have hnc26 := NB228_226.out
            have hnb27 := NB226_229.out
            have hnc27 := NB229_226.out
            have hcz28_0 : wr.cell? ⟨gb226, 0, none⟩ = some (.int .i64 a0_0) := (blk_cell BK226.out 0).trans rfl
            have hcz28_1 : wr.cell? ⟨gb226, 1, none⟩ = some (.int .i64 a0_1) := (blk_cell BK226.out 1).trans rfl
            have hcz28_2 : wr.cell? ⟨gb226, 2, none⟩ = some (.int .i64 a0_2) := (blk_cell BK226.out 2).trans rfl
            have hcz28_3 : wr.cell? ⟨gb226, 3, none⟩ = some (.slice Ao9 x227003_1.length co9) := (blk_cell BK226.out 3).trans rfl
            have hcz28_4 : wr.cell? ⟨gb226, 4, none⟩ = some (.int .i64 a0_4) := (blk_cell BK226.out 4).trans rfl
            have hcz28_5 : wr.cell? ⟨gb226, 5, none⟩ = some (.int .i64 a0_5) := (blk_cell BK226.out 5).trans rfl
            have hfz28_0 := blk_frozen BK226.out 0
            have hfz28_1 := blk_frozen BK226.out 1
            have hfz28_2 := blk_frozen BK226.out 2
            have hfz28_3 := blk_frozen BK226.out 3
            have hfz28_4 := blk_frozen BK226.out 4
            have hfz28_5 := blk_frozen BK226.out 5
            have p24 : 0 ≤ (x14_1 : Int) := of_decide_eq_true (by first | (with_reducible assumption) | assumption)
            have q24 : (x14_1 : Int) < ((x227003_1.length : Int) : Int) := of_decide_eq_true (by first | (with_reducible assumption) | assumption)
            obtain ⟨go24, co24, eo24, gb24, gl24, cl24, HG24⟩ := Kd.R_form HO_227003.out (by omega)
            (first | cases eo24 | (injection eo24 with ea_ en_ ec_; (first | subst ea_ | (injection ea_ with ea_; subst ea_)); subst ec_; clear en_))
            have GB24 := Aside0.mk gb24
            have GG24 := Aside0.mk HG24
            clear gb24 gl24 HG24
            have HMgo24 := Aside0.mk (show (P0_3_ go24 ∨ w.heap.size ≤ go24) from (HO_227003.out.1 _ rfl))
            obtain ⟨ce24, hcl24, hM24, hcc24, hfr24⟩ := Kd.R_elem HO_227003.out z59 (x14_1 : Int) p24 q24
            obtain rfl := k59_openM hM24
            have hx24_0 : wr.cell? ⟨go24, (x14_1 : Int).toNat * 2, none⟩ = some (.int .i64 ((rd_T59 x227003_1 x14_1).f0)) := hcc24 0 _ rfl
            have hx24_1 : wr.cell? ⟨go24, (x14_1 : Int).toNat * 2 + 1, none⟩ = some (.int .i64 ((rd_T59 x227003_1 x14_1).f1)) := hcc24 1 _ rfl
            have hf24_0 : wr.frozen? ⟨go24, (x14_1 : Int).toNat * 2, none⟩ = false := hfr24 0
            have hf24_1 : wr.frozen? ⟨go24, (x14_1 : Int).toNat * 2 + 1, none⟩ = false := hfr24 1
            clear hcl24 hcc24 hfr24 hM24
            replace p24 := eq_true p24
            replace q24 := eq_true q24
            have HX29 := Aside0.mk (show Kd.R k59 59 wr w0.heap.size (fun k_ => (P0_3_ k_ ∨ w.heap.size ≤ k_)) (.slice (some ⟨go24, 0, none⟩) x227003_1.length co9) x227003_1 from (by (with_reducible repeat (first | apply Kd.R_alloc | apply Kd.R_drewN | apply Kd.R_drew)); exact HO_227003.out))
            obtain ⟨ce29, hcl29, hM29, hcc29, hfr29⟩ := Kd.R_elem HX29.out z59 (x14_1 : Int) (of_decide_eq_true (by first | (with_reducible assumption) | assumption)) (by have h_ : (x14_1 : Int) < ((x227003_1.length : Int) : Int) := of_decide_eq_true (by first | (with_reducible assumption) | assumption); first | exact h_ | (have e_ := (Kd.R_reads' HO_227003.out).1; omega) | simpa using h_)
            obtain rfl := k59_openM hM29
            have HP29 := Kd.R_seg HX29.out (x14_1 : Int) (of_decide_eq_true (by first | (with_reducible assumption) | assumption)) (by have h_ : (x14_1 : Int) < ((x227003_1.length : Int) : Int) := of_decide_eq_true (by first | (with_reducible assumption) | assumption); first | exact h_ | (have e_ := (Kd.R_reads' HO_227003.out).1; omega) | simpa using h_) (seg := [.int .i64 77]) (j := 0) hcl29 hcc29 (show 1 ≤ 2 from by decide) (x' := (⟨77, (rd_T59 x227003_1 x14_1).f1⟩ : S59)) (k59_mkM _ _ _ (⟨77, (rd_T59 x227003_1 x14_1).f1⟩ : S59) ) (fun _ hk => hk)
            have hx29_0 := hcc29 0 _ rfl
            (try simp only [show (k59).sz = 2 from rfl, Nat.mul_one, Nat.add_zero] at hx29_0)
            have hf29_0 := hfr29 0
            (try simp only [show (k59).sz = 2 from rfl, Nat.mul_one, Nat.add_zero] at hf29_0)
            clear hcl29 hcc29 hfr29 hM29
            go_wp2_with (first | ((with_reducible refine gate_store (t := 3) (p := 34) rfl ?_); refine store_event (t := 3) (p := 34) (v := ?vo_w30) (w1 := (wr.setCell ⟨go24, (x14_1 : Int).toNat * 2, none⟩ (.int .i64 77))) ?hg ?ho ?hn ?hr ?_; (case ho => rfl); (case hg => rfl); (case hn => rfl); (case hr => first | (go_simp; done) | (go_simp; rfl)); intro w30 hw; have hg : wr.grownBy w30 (some go24) := (by rw [hw]; exact HP29.2); have hp_ : Kd.R k59 59 w30 w0.heap.size (fun k_ => (P0_3_ k_ ∨ w.heap.size ≤ k_)) (.slice (some ⟨go24, 0, none⟩) x227003_1.length co9) y231 := (by rw [hw, Ny231.out]; exact HP29.1); clear HP29; have n0_ := Aside0.mk (hp_); have n1_ := Aside0.mk (blk_grown (g := gb226) (o := .cells #[.int .i64 a0_0, .int .i64 a0_1, .int .i64 a0_2, .slice (some ⟨go24, 0, none⟩) x227003_1.length co9, .int .i64 a0_4, .int .i64 a0_5] 29 (0, 0)) (by (with_reducible repeat (first | refine blk_drewN ?_ _ | refine blk_drew ?_ | refine blk_alloc ?_ _)); exact BK226.out) hg (Kd.R_ne HO_227003.out BK226.out (by decide))); have n2_ := Aside0.mk (blk_grown (g := gb227) (o := .cells #[.int .i64 a2_0, .int .i64 a2_1, .int .i64 a2_2, .slice A2_3 l2_3.length c2_3, .int .i64 a2_4, .int .i64 a2_5] 29 (0, 0)) (by (with_reducible repeat (first | refine blk_drewN ?_ _ | refine blk_drew ?_ | refine blk_alloc ?_ _)); exact BK227.out) hg (Kd.R_ne HO_227003.out BK227.out (by decide))); have n3_ := Aside0.mk (blk_grown (g := gb228) (o := .cells #[.int .i64 a4_0, .int .i64 a4_1, .int .i64 a4_2, .slice A4_3 l4_3.length c4_3, .int .i64 a4_4, .int .i64 a4_5] 29 (0, 0)) (by (with_reducible repeat (first | refine blk_drewN ?_ _ | refine blk_drew ?_ | refine blk_alloc ?_ _)); exact BK228.out) hg (Kd.R_ne HO_227003.out BK228.out (by decide))); have n4_ := Aside0.mk (blk_grown (g := gb229) (o := .cells #[.int .i64 a5_0, .int .i64 a5_1, .int .i64 a5_2, .slice A5_3 l5_3.length c5_3, .int .i64 a5_4, .int .i64 a5_5] 29 (0, 0)) (by (with_reducible repeat (first | refine blk_drewN ?_ _ | refine blk_drew ?_ | refine blk_alloc ?_ _)); exact BK229.out) hg (Kd.R_ne HO_227003.out BK229.out (by decide))); have n5_ := Aside0.mk ((by rw [hw]; exact below_set (HB.out) GB24.out : Below w0.heap.size w0 w30)); have n6_ := Aside0.mk (Kept.of_grown (S := (fun k_ => P0_3_ k_)) hg (by repeat (first | (with_reducible first | exact HK.out | apply Kept.alloc | apply Kept.drewN | apply Kept.drew | refine Kept.setCell ?_ (.inr GW226.out) _ | refine Kept.setCell ?_ (.inr GW227.out) _ | refine Kept.setCell ?_ (.inr GW228.out) _ | refine Kept.setCell ?_ (.inr GW229.out) _) | exact HK.out)) (fun k_ e_ => (HO_227003.out.1 k_ e_))); clear HO_227003; clear BK226; clear BK227; clear BK228; clear BK229; clear HB; clear HK; have HO_227003 := n0_; have BK226 := n1_; have BK227 := n2_; have BK228 := n3_; have BK229 := n4_; have HB := n5_; have HK := n6_; clear n0_ n1_ n2_ n3_ n4_ n5_ n6_; clear hg hw hp_))
            (try simp only [← hl227003_1])
            go_roundg k1
            case measure => have := HK1.out; omega
            case rel => exact ⟨(wrap64 (x14_1 + 1)), (y231), (by first | rfl | (simp; done) | (simp [*]; done)), H', ⟨by have := HK1.out; omega⟩, ⟨by (try simp only [hl227003_1]); (with_reducible repeat (first | apply Kd.R_alloc | apply Kd.R_drewN | apply Kd.R_drew)); exact HO_227003.out⟩, ⟨by (try simp only [hl227003_1]); (with_reducible repeat (first | refine blk_drewN ?_ _ | refine blk_drew ?_ | refine blk_alloc ?_ _)); exact BK226.out⟩, ⟨by (try simp only [hl227003_1]); (with_reducible repeat (first | refine blk_drewN ?_ _ | refine blk_drew ?_ | refine blk_alloc ?_ _)); exact BK227.out⟩, ⟨by (try simp only [hl227003_1]); (with_reducible repeat (first | refine blk_drewN ?_ _ | refine blk_drew ?_ | refine blk_alloc ?_ _)); exact BK228.out⟩, ⟨by (try simp only [hl227003_1]); (with_reducible repeat (first | refine blk_drewN ?_ _ | refine blk_drew ?_ | refine blk_alloc ?_ _)); exact BK229.out⟩, ⟨by repeat (first | (with_reducible first | exact HK.out | apply Kept.alloc | apply Kept.drewN | apply Kept.drew | refine Kept.setCell ?_ (.inr GW226.out) _ | refine Kept.setCell ?_ (.inr GW227.out) _ | refine Kept.setCell ?_ (.inr GW228.out) _ | refine Kept.setCell ?_ (.inr GW229.out) _) | exact HK.out)⟩, ⟨by repeat (first | (with_reducible first | exact HB.out | apply below_alloc | apply pw_below_drewN | apply below_drew1 | refine below_set ?_ GE226.out | refine below_set ?_ GE227.out | refine below_set ?_ GE228.out | refine below_set ?_ GE229.out) | exact HB.out)⟩⟩
          · rw [if_neg c23] at H
            exact absurd H (by simp)
        · rw [if_neg c22] at H
          have c22b0 : decide (x14_1 < (x227003_1.length : Int)) = false := decide_eq_false c22
          clear c22
          by_cases c31 : t230 = true
          · subst c31
            have H1 : ((folkmootref20_Same.f k1 a4_0 a4_1 a4_2 l4_3 a4_4 a4_5 a5_0 a5_1 a5_2 l5_3 a5_4 a5_5).bind fun t232 => (some (t232, x227003_1))) = some (r1, r2) := by rw [if_pos rfl] at H; exact H
            clear H
            have H := H1
            clear H1
            replace H := Option.bind_eq_some_iff.mp H
            obtain ⟨t232, A320, H⟩ := H
            replace H : (some (t232, x227003_1)) = some (r1, r2) := H
            have A32 := Aside0.mk A320
            clear A320
            simp only [Option.some.injEq, Prod.mk.injEq] at H
            obtain ⟨rfl, rfl⟩ := H
            have hnb33 := NB226_227.out
            have hnc33 := NB227_226.out
            have hnb34 := NB226_228.out
            have hnc34 := NB228_226.out
            have hnb35 := NB226_229.out
            have hnc35 := NB229_226.out
            have hcz36_0 : wr.cell? ⟨gb226, 0, none⟩ = some (.int .i64 a0_0) := (blk_cell BK226.out 0).trans rfl
            have hcz36_1 : wr.cell? ⟨gb226, 1, none⟩ = some (.int .i64 a0_1) := (blk_cell BK226.out 1).trans rfl
            have hcz36_2 : wr.cell? ⟨gb226, 2, none⟩ = some (.int .i64 a0_2) := (blk_cell BK226.out 2).trans rfl
            have hcz36_3 : wr.cell? ⟨gb226, 3, none⟩ = some (.slice Ao9 x227003_1.length co9) := (blk_cell BK226.out 3).trans rfl
            have hcz36_4 : wr.cell? ⟨gb226, 4, none⟩ = some (.int .i64 a0_4) := (blk_cell BK226.out 4).trans rfl
            have hcz36_5 : wr.cell? ⟨gb226, 5, none⟩ = some (.int .i64 a0_5) := (blk_cell BK226.out 5).trans rfl
            have hfz36_0 := blk_frozen BK226.out 0
            have hfz36_1 := blk_frozen BK226.out 1
            have hfz36_2 := blk_frozen BK226.out 2
            have hfz36_3 := blk_frozen BK226.out 3
            have hfz36_4 := blk_frozen BK226.out 4
            have hfz36_5 := blk_frozen BK226.out 5
            have hnb37 := NB228_227.out
            have hnc37 := NB227_228.out
            have hnb38 := NB228_229.out
            have hnc38 := NB229_228.out
            have hcz39_0 : wr.cell? ⟨gb228, 0, none⟩ = some (.int .i64 a4_0) := (blk_cell BK228.out 0).trans rfl
            have hcz39_1 : wr.cell? ⟨gb228, 1, none⟩ = some (.int .i64 a4_1) := (blk_cell BK228.out 1).trans rfl
            have hcz39_2 : wr.cell? ⟨gb228, 2, none⟩ = some (.int .i64 a4_2) := (blk_cell BK228.out 2).trans rfl
            have hcz39_3 : wr.cell? ⟨gb228, 3, none⟩ = some (.slice A4_3 l4_3.length c4_3) := (blk_cell BK228.out 3).trans rfl
            have hcz39_4 : wr.cell? ⟨gb228, 4, none⟩ = some (.int .i64 a4_4) := (blk_cell BK228.out 4).trans rfl
            have hcz39_5 : wr.cell? ⟨gb228, 5, none⟩ = some (.int .i64 a4_5) := (blk_cell BK228.out 5).trans rfl
            have hfz39_0 := blk_frozen BK228.out 0
            have hfz39_1 := blk_frozen BK228.out 1
            have hfz39_2 := blk_frozen BK228.out 2
            have hfz39_3 := blk_frozen BK228.out 3
            have hfz39_4 := blk_frozen BK228.out 4
            have hfz39_5 := blk_frozen BK228.out 5
            have hnb40 := NB229_227.out
            have hnc40 := NB227_229.out
            have hcz41_0 : wr.cell? ⟨gb229, 0, none⟩ = some (.int .i64 a5_0) := (blk_cell BK229.out 0).trans rfl
            have hcz41_1 : wr.cell? ⟨gb229, 1, none⟩ = some (.int .i64 a5_1) := (blk_cell BK229.out 1).trans rfl
            have hcz41_2 : wr.cell? ⟨gb229, 2, none⟩ = some (.int .i64 a5_2) := (blk_cell BK229.out 2).trans rfl
            have hcz41_3 : wr.cell? ⟨gb229, 3, none⟩ = some (.slice A5_3 l5_3.length c5_3) := (blk_cell BK229.out 3).trans rfl
            have hcz41_4 : wr.cell? ⟨gb229, 4, none⟩ = some (.int .i64 a5_4) := (blk_cell BK229.out 4).trans rfl
            have hcz41_5 : wr.cell? ⟨gb229, 5, none⟩ = some (.int .i64 a5_5) := (blk_cell BK229.out 5).trans rfl
            have hfz41_0 := blk_frozen BK229.out 0
            have hfz41_1 := blk_frozen BK229.out 1
            have hfz41_2 := blk_frozen BK229.out 2
            have hfz41_3 := blk_frozen BK229.out 3
            have hfz41_4 := blk_frozen BK229.out 4
            have hfz41_5 := blk_frozen BK229.out 5
            go_wp2_with (first | (go_at_call 37; (with_reducible refine (folkmootref20_Same.calls k1 a4_0 a4_1 a4_2 _ _ l4_3 a4_4 a4_5 a5_0 a5_1 a5_2 _ _ l5_3 a5_4 a5_5 t232 _ ?side1 ?side2 ?side3 ?side4 A32.out).mono ?_); (case side1 => exact Kd.C_kept_now HR4_3.out (by repeat (first | (with_reducible first | exact HK.out | apply Kept.alloc | apply Kept.drewN | apply Kept.drew | refine Kept.setCell ?_ (.inr GW226.out) _ | refine Kept.setCell ?_ (.inr GW227.out) _ | refine Kept.setCell ?_ (.inr GW228.out) _ | refine Kept.setCell ?_ (.inr GW229.out) _) | exact HK.out))); (case side2 => exact HC4_3.out); (case side3 => exact Kd.C_kept_now HR5_3.out (by repeat (first | (with_reducible first | exact HK.out | apply Kept.alloc | apply Kept.drewN | apply Kept.drew | refine Kept.setCell ?_ (.inr GW226.out) _ | refine Kept.setCell ?_ (.inr GW227.out) _ | refine Kept.setCell ?_ (.inr GW228.out) _ | refine Kept.setCell ?_ (.inr GW229.out) _) | exact HK.out))); (case side4 => exact HC5_3.out); rintro e w42 ⟨rfl, hb⟩; have n0_ := Aside0.mk (Kd.R_below (by (with_reducible repeat (first | apply Kd.R_alloc | apply Kd.R_drewN | apply Kd.R_drew)); exact HO_227003.out) hb); have n1_ := Aside0.mk (blk_below (g := gb226) (o := .cells #[.int .i64 a0_0, .int .i64 a0_1, .int .i64 a0_2, .slice Ao9 x227003_1.length co9, .int .i64 a0_4, .int .i64 a0_5] 29 (0, 0)) (by (with_reducible repeat (first | refine blk_drewN ?_ _ | refine blk_drew ?_ | refine blk_alloc ?_ _)); exact BK226.out) hb); have n2_ := Aside0.mk (blk_below (g := gb227) (o := .cells #[.int .i64 a2_0, .int .i64 a2_1, .int .i64 a2_2, .slice A2_3 l2_3.length c2_3, .int .i64 a2_4, .int .i64 a2_5] 29 (0, 0)) (by (with_reducible repeat (first | refine blk_drewN ?_ _ | refine blk_drew ?_ | refine blk_alloc ?_ _)); exact BK227.out) hb); have n3_ := Aside0.mk (blk_below (g := gb228) (o := .cells #[.int .i64 a4_0, .int .i64 a4_1, .int .i64 a4_2, .slice A4_3 l4_3.length c4_3, .int .i64 a4_4, .int .i64 a4_5] 29 (0, 0)) (by (with_reducible repeat (first | refine blk_drewN ?_ _ | refine blk_drew ?_ | refine blk_alloc ?_ _)); exact BK228.out) hb); have n4_ := Aside0.mk (blk_below (g := gb229) (o := .cells #[.int .i64 a5_0, .int .i64 a5_1, .int .i64 a5_2, .slice A5_3 l5_3.length c5_3, .int .i64 a5_4, .int .i64 a5_5] 29 (0, 0)) (by (with_reducible repeat (first | refine blk_drewN ?_ _ | refine blk_drew ?_ | refine blk_alloc ?_ _)); exact BK229.out) hb); have n5_ := Aside0.mk (Kept.below (S := (fun k_ => P0_3_ k_)) (by repeat (first | (with_reducible first | exact HK.out | apply Kept.alloc | apply Kept.drewN | apply Kept.drew | refine Kept.setCell ?_ (.inr GW226.out) _ | refine Kept.setCell ?_ (.inr GW227.out) _ | refine Kept.setCell ?_ (.inr GW228.out) _ | refine Kept.setCell ?_ (.inr GW229.out) _) | exact HK.out)) hb); have n6_ := Aside0.mk (below_step (by repeat (first | (with_reducible first | exact HB.out | apply below_alloc | apply pw_below_drewN | apply below_drew1 | refine below_set ?_ GE226.out | refine below_set ?_ GE227.out | refine below_set ?_ GE228.out | refine below_set ?_ GE229.out) | exact HB.out)) hb); clear HO_227003; clear BK226; clear BK227; clear BK228; clear BK229; clear HK; clear HB; have HO_227003 := n0_; have BK226 := n1_; have BK227 := n2_; have BK228 := n3_; have BK229 := n4_; have HK := n5_; have HB := n6_; clear n0_ n1_ n2_ n3_ n4_ n5_ n6_; (try clear hb); (try clear hb2); (try clear hk); (try clear hi)))
            go_ret
            exact ⟨by first | rfl | (simp [errW_none, errW_some] <;> rfl) | (simp [*, errW_none, errW_some] <;> rfl), (by first | exact (by (with_reducible repeat (first | apply Kd.R_alloc | apply Kd.R_drewN | apply Kd.R_drew)); exact HO_227003.out) | (simp only [hl227003_1]; exact (by (with_reducible repeat (first | apply Kd.R_alloc | apply Kd.R_drewN | apply Kd.R_drew)); exact HO_227003.out))), by repeat (first | (with_reducible first | exact HB.out | apply below_alloc | apply pw_below_drewN | apply below_drew1 | refine below_set ?_ GE226.out | refine below_set ?_ GE227.out | refine below_set ?_ GE228.out | refine below_set ?_ GE229.out) | exact HB.out), by repeat (first | (with_reducible first | exact HK.out | apply Kept.alloc | apply Kept.drewN | apply Kept.drew | refine Kept.setCell ?_ (.inr GW226.out) _ | refine Kept.setCell ?_ (.inr GW227.out) _ | refine Kept.setCell ?_ (.inr GW228.out) _ | refine Kept.setCell ?_ (.inr GW229.out) _) | exact HK.out)⟩
          · replace c31 := Bool.eq_false_iff.mpr c31
            subst c31
            have H1 : (none) = some (r1, r2) := by rw [if_neg (show ¬ (false = true) by decide)] at H; exact H
            clear H
            have H := H1
            clear H1
            exact absurd H (by simp)
  · rw [if_neg c7] at H
    exact absurd H (by simp)

end Go.Proofs.Ytmoahkdadeiahaa.C
