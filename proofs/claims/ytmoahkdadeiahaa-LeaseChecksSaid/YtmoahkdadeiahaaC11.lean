-- WRITTEN BY a program of this session's (wip/gprint.py, over the kit's print), with functions given by hand among them. Not trusted: Lean checks it.
import Derived.Test.YtmoahkdadeiahaaC0
import Derived.Test.YtmoahkdadeiahaaC2
import Derived.Test.YtmoahkdadeiahaaC4
import Derived.Test.YtmoahkdadeiahaaC5
import Derived.Test.YtmoahkdadeiahaaC6
import Derived.Test.YtmoahkdadeiahaaC8
import Derived.Test.YtmoahkdadeiahaaC10
namespace Go.Proofs.Ytmoahkdadeiahaa.C
open Go.RowKit Go.Proofs.YtmoahkdadeiahaaW.PrintWords Go.Proofs.YtmoahkdadeiahaaW.PrintLast Go.Proofs.YtmoahkdadeiahaaW.PrintMore
attribute [local go_sem] max2_int min2_int max_two min_two max_three min_three max_four min_four   -- for this text's walks alone
set_option linter.unusedVariables false
set_option linter.unusedSimpArgs false

/-! ### folkmootlaw20_LeaseChecks: function 5 -/
def folkmootlaw20_LeaseChecks.f (k : Nat) (a0_0 : Int) (a0_1 : Int) (a0_2 : Int) (l0_3 : List (S59)) (a0_4 : Int) (a0_5 : Int) : Option (Bool) := if (l0_3.length : Int) > 1000 then (some true) else ((folkmootref20_Own.f a0_0 a0_1 a0_2 l0_3 a0_4 a0_5).bind fun bt234 => ((lease_Check.f k a0_0 a0_1 a0_2 l0_3 a0_4 a0_5).bind fun t243 => ((lease_Tick.f k a0_0 a0_1 a0_2 l0_3 a0_4 a0_5).bind fun bt244 => ((folkmootref20_Tick.f bt234.1 bt234.2.1 bt234.2.2.1 bt234.2.2.2.1 bt234.2.2.2.2.1 bt234.2.2.2.2.2).bind fun bt254 => ((folkmootlaw20_good.f k).bind fun t264 => (if t264 = true then ((folkmootref20_Right.f bt234.1 bt234.2.1 bt234.2.2.1 bt234.2.2.2.1 bt234.2.2.2.2.1 bt234.2.2.2.2.2).bind fun t265 => (if ((t243 == 0) == t265) = true then (if t243 = 0 then ((lease_Good.f k a0_0 a0_1 a0_2 l0_3 a0_4 a0_5).bind fun t266 => ((folkmootref20_Good.f bt234.1 bt234.2.1 bt234.2.2.1 bt234.2.2.2.1 bt234.2.2.2.2.1 bt234.2.2.2.2.2).bind fun t267 => (if (t266 == t267) = true then ((folkmootlaw20_same.f k bt244.1 bt244.2.1 bt244.2.2.1 bt244.2.2.2.1 bt244.2.2.2.2.1 bt244.2.2.2.2.2.1 bt244.2.2.2.2.2.2 bt254.1 bt254.2.1 bt254.2.2.1 bt254.2.2.2.1 bt254.2.2.2.2.1 bt254.2.2.2.2.2.1 bt254.2.2.2.2.2.2 a0_0 a0_1 a0_2 l0_3 a0_4 a0_5 bt234.1 bt234.2.1 bt234.2.2.1 bt234.2.2.2.1 bt234.2.2.2.2.1 bt234.2.2.2.2.2).bind fun bt268 => (some bt268.1)) else (none)))) else (if t243 = 1 then ((lease_Good.f k a0_0 a0_1 a0_2 l0_3 a0_4 a0_5).bind fun t270 => ((folkmootref20_Good.f bt234.1 bt234.2.1 bt234.2.2.1 bt234.2.2.2.1 bt234.2.2.2.2.1 bt234.2.2.2.2.2).bind fun t271 => (if (t270 == t271) = true then ((folkmootlaw20_same.f k bt244.1 bt244.2.1 bt244.2.2.1 bt244.2.2.2.1 bt244.2.2.2.2.1 bt244.2.2.2.2.2.1 bt244.2.2.2.2.2.2 bt254.1 bt254.2.1 bt254.2.2.1 bt254.2.2.2.1 bt254.2.2.2.2.1 bt254.2.2.2.2.2.1 bt254.2.2.2.2.2.2 a0_0 a0_1 a0_2 l0_3 a0_4 a0_5 bt234.1 bt234.2.1 bt234.2.2.1 bt234.2.2.2.1 bt234.2.2.2.2.1 bt234.2.2.2.2.2).bind fun bt272 => (some bt272.1)) else (none)))) else (none))) else (none))) else (none)))))))
theorem folkmootlaw20_LeaseChecks.mono : ∀ a0 a1 a2 a3 a4 a5 k, LeO (folkmootlaw20_LeaseChecks.f k a0 a1 a2 a3 a4 a5) (folkmootlaw20_LeaseChecks.f (k + 1) a0 a1 a2 a3 a4 a5) := by
  intro a0 a1 a2 a3 a4 a5 k
  unfold folkmootlaw20_LeaseChecks.f
  repeat' first
      | (with_reducible exact folkmootlaw20_good.mono _)
      | (with_reducible exact folkmootlaw20_same.mono _ _ _ _ _ _ _ _ _ _ _ _ _ _ _ _ _ _ _ _ _ _ _ _ _ _ _)
      | (with_reducible exact lease_Check.mono _ _ _ _ _ _ _)
      | (with_reducible exact lease_Good.mono _ _ _ _ _ _ _)
      | (with_reducible exact lease_Tick.mono _ _ _ _ _ _ _)
      | (with_reducible exact LeO.refl _)
      | (with_reducible exact LeO.none _)
      | (with_reducible refine LeO.ite ?_ ?_)
      | (with_reducible refine LeO.bind ?_ (fun _ => ?_))
      | exact folkmootlaw20_good.mono _
      | exact folkmootlaw20_same.mono _ _ _ _ _ _ _ _ _ _ _ _ _ _ _ _ _ _ _ _ _ _ _ _ _ _ _
      | exact lease_Check.mono _ _ _ _ _ _ _
      | exact lease_Good.mono _ _ _ _ _ _ _
      | exact lease_Tick.mono _ _ _ _ _ _ _
      | exact LeO.none _
      | refine LeO.ite ?_ ?_
      | refine LeO.bind ?_ (fun _ => ?_)
def folkmootlaw20_LeaseChecks.T7 : Bool × List (List Nat × List Nat) := (true, [([], []), ([0, 0], [0]), ([1], [1]), ([2, 1], [1, 2]), ([1], [1]), ([4, 1, 1], [1, 4]), ([3, 5, 1], [1, 3, 5]), ([1, 6], [1, 6]), ([7, 5], [7]), ([8], [8]), ([9, 8], [8, 9]), ([10, 8, 8], [8, 10]), ([11], [11]), ([12, 11], [11, 12]), ([11, 13, 8], [8, 11, 13]), ([8, 14], [8, 14]), ([15, 11], [15]), ([16], [16]), ([17, 16, 16], [16, 17]), ([16], [16]), ([19, 18, 16], [16, 19]), ([18, 20, 16], [16, 18, 20]), ([16, 21], [16, 21]), ([22, 20], [22]), ([23], [23]), ([23], [23]), ([23], [23]), ([23], [23]), ([23], [23]), ([23], [23]), ([24, 25, 26, 27, 28, 29, 23, 23], [23, 24, 25, 26, 27, 28, 29]), ([23, 30], [23, 30]), ([31, 30, 0, 1, 2, 3, 4, 5, 6, 7, 8, 9, 10, 11, 12, 13, 14, 15, 16, 17, 18, 19, 20, 21, 22, 23, 24, 25, 26, 27, 28, 29, 30, 31], [31])])
def folkmootlaw20_LeaseChecks.B7 : List Nat := [0, 1, 3, 7, 3, 19, 63, 127, 255, 511, 1023, 2047, 4095, 8191, 16383, 32767, 65535, 131071, 262143, 131071, 1048575, 2097151, 4194303, 8388607, 16777215, 16777215, 16777215, 16777215, 16777215, 16777215, 1073741823, 2147483647, 4294967295]
theorem folkmootlaw20_LeaseChecks.tab7 : rtab .any (opsOf Try.f5 7) = folkmootlaw20_LeaseChecks.T7 := by kernel_rfl
theorem folkmootlaw20_LeaseChecks.bits7 : waitsOk folkmootlaw20_LeaseChecks.T7.2 folkmootlaw20_LeaseChecks.B7 = true := by kernel_rfl
set_option maxHeartbeats 8000000 in
set_option maxRecDepth 100000 in
theorem folkmootlaw20_LeaseChecks.calls (k : Nat) (a0_0 : Int) (a0_1 : Int) (a0_2 : Int) (A0_3 : Option Addr) (c0_3 : Nat) (l0_3 : List (S59)) (a0_4 : Int) (a0_5 : Int) (r : Bool) (w : World) (hr0_3 : Kd.C k59 w A0_3 l0_3.length l0_3) (hc0_3 : l0_3.length ≤ c0_3) (h : folkmootlaw20_LeaseChecks.f k a0_0 a0_1 a0_2 l0_3 a0_4 a0_5 = some r) :
    Calls Try.prog 5 #[.agg #[.int .i64 a0_0, .int .i64 a0_1, .int .i64 a0_2, .slice A0_3 l0_3.length c0_3, .int .i64 a0_4, .int .i64 a0_5]] w fun e w' => e = .returned (.bool r) ∧ Below w.heap.size w w' := by
  have hu29 := Try.underlying29
  have HR0_3 := Aside0.mk hr0_3
  have HC0_3 := Aside0.mk hc0_3
  clear hr0_3 hc0_3
  have HB := Aside0.mk (Below.refl w.heap.size w)
  have H : (if (l0_3.length : Int) > 1000 then (some true) else ((folkmootref20_Own.f a0_0 a0_1 a0_2 l0_3 a0_4 a0_5).bind fun bt234 => ((lease_Check.f k a0_0 a0_1 a0_2 l0_3 a0_4 a0_5).bind fun t243 => ((lease_Tick.f k a0_0 a0_1 a0_2 l0_3 a0_4 a0_5).bind fun bt244 => ((folkmootref20_Tick.f bt234.1 bt234.2.1 bt234.2.2.1 bt234.2.2.2.1 bt234.2.2.2.2.1 bt234.2.2.2.2.2).bind fun bt254 => ((folkmootlaw20_good.f k).bind fun t264 => (if t264 = true then ((folkmootref20_Right.f bt234.1 bt234.2.1 bt234.2.2.1 bt234.2.2.2.1 bt234.2.2.2.2.1 bt234.2.2.2.2.2).bind fun t265 => (if ((t243 == 0) == t265) = true then (if t243 = 0 then ((lease_Good.f k a0_0 a0_1 a0_2 l0_3 a0_4 a0_5).bind fun t266 => ((folkmootref20_Good.f bt234.1 bt234.2.1 bt234.2.2.1 bt234.2.2.2.1 bt234.2.2.2.2.1 bt234.2.2.2.2.2).bind fun t267 => (if (t266 == t267) = true then ((folkmootlaw20_same.f k bt244.1 bt244.2.1 bt244.2.2.1 bt244.2.2.2.1 bt244.2.2.2.2.1 bt244.2.2.2.2.2.1 bt244.2.2.2.2.2.2 bt254.1 bt254.2.1 bt254.2.2.1 bt254.2.2.2.1 bt254.2.2.2.2.1 bt254.2.2.2.2.2.1 bt254.2.2.2.2.2.2 a0_0 a0_1 a0_2 l0_3 a0_4 a0_5 bt234.1 bt234.2.1 bt234.2.2.1 bt234.2.2.2.1 bt234.2.2.2.2.1 bt234.2.2.2.2.2).bind fun bt268 => (some bt268.1)) else (none)))) else (if t243 = 1 then ((lease_Good.f k a0_0 a0_1 a0_2 l0_3 a0_4 a0_5).bind fun t270 => ((folkmootref20_Good.f bt234.1 bt234.2.1 bt234.2.2.1 bt234.2.2.2.1 bt234.2.2.2.2.1 bt234.2.2.2.2.2).bind fun t271 => (if (t270 == t271) = true then ((folkmootlaw20_same.f k bt244.1 bt244.2.1 bt244.2.2.1 bt244.2.2.2.1 bt244.2.2.2.2.1 bt244.2.2.2.2.2.1 bt244.2.2.2.2.2.2 bt254.1 bt254.2.1 bt254.2.2.1 bt254.2.2.2.1 bt254.2.2.2.2.1 bt254.2.2.2.2.2.1 bt254.2.2.2.2.2.2 a0_0 a0_1 a0_2 l0_3 a0_4 a0_5 bt234.1 bt234.2.1 bt234.2.2.1 bt234.2.2.2.1 bt234.2.2.2.2.1 bt234.2.2.2.2.2).bind fun bt272 => (some bt272.1)) else (none)))) else (none))) else (none))) else (none)))))))) = some r := h
  clear h
  by_cases c2 : (l0_3.length : Int) > 1000
  · rw [if_pos c2] at H
    have c2b0 : decide (1000 < (l0_3.length : Int)) = true := decide_eq_true c2
    have c2b1 : decide (1000 < l0_3.length) = true := decide_eq_true (by omega)
    clear c2
    obtain rfl := Option.some.inj H
    go_enter Try.func5, Try.ntmps5
    go_wp2_with (first | ((with_reducible refine gate_dst (N := 1) rfl ?_); refine box_event ?hg (N := 1) ?hd (cs := #[.int .i64 a0_0, .int .i64 a0_1, .int .i64 a0_2, .slice A0_3 l0_3.length c0_3, .int .i64 a0_4, .int .i64 a0_5]) (t := 29) ?hr ?_; (case hd => rfl); (case hg => rfl); (case hr => first | (go_simp; done) | (go_simp; rfl)); intro gb233 hg w3 hbox hb; have n0_ := Aside0.mk (below_step (by repeat (first | (with_reducible first | exact HB.out | apply below_alloc | apply pw_below_drewN | apply below_drew1) | exact HB.out)) hb); have n1_ := Aside0.mk (hbox); have n2_ := Aside0.mk ((by rw [hg]; exact (below_size (by repeat (first | (with_reducible first | exact HB.out | apply below_alloc | apply pw_below_drewN | apply below_drew1) | exact HB.out))) : w.heap.size ≤ gb233)); have n3_ := Aside0.mk ((by rw [hg]; exact (below_size (by repeat (first | (with_reducible first | exact HB.out | apply below_alloc | apply pw_below_drewN | apply below_drew1) | exact HB.out))) : w.heap.size ≤ gb233)); clear HB; have HB := n0_; have BK233 := n1_; have GW233 := n2_; have GE233 := n3_; clear n0_ n1_ n2_ n3_; clear hb hbox hg; have hcz4_0 : w3.cell? ⟨gb233, 0, none⟩ = some (.int .i64 a0_0) := (blk_cell BK233.out 0).trans rfl; have hcz4_1 : w3.cell? ⟨gb233, 1, none⟩ = some (.int .i64 a0_1) := (blk_cell BK233.out 1).trans rfl; have hcz4_2 : w3.cell? ⟨gb233, 2, none⟩ = some (.int .i64 a0_2) := (blk_cell BK233.out 2).trans rfl; have hcz4_3 : w3.cell? ⟨gb233, 3, none⟩ = some (.slice A0_3 l0_3.length c0_3) := (blk_cell BK233.out 3).trans rfl; have hcz4_4 : w3.cell? ⟨gb233, 4, none⟩ = some (.int .i64 a0_4) := (blk_cell BK233.out 4).trans rfl; have hcz4_5 : w3.cell? ⟨gb233, 5, none⟩ = some (.int .i64 a0_5) := (blk_cell BK233.out 5).trans rfl; have hfz4_0 := blk_frozen BK233.out 0; have hfz4_1 := blk_frozen BK233.out 1; have hfz4_2 := blk_frozen BK233.out 2; have hfz4_3 := blk_frozen BK233.out 3; have hfz4_4 := blk_frozen BK233.out 4; have hfz4_5 := blk_frozen BK233.out 5))
    go_ret
    exact ⟨by first | rfl | (simp [errW_none, errW_some] <;> rfl) | (simp [*, errW_none, errW_some] <;> rfl), by repeat (first | (with_reducible first | exact HB.out | apply below_alloc | apply pw_below_drewN | apply below_drew1 | refine below_set ?_ GE233.out) | exact HB.out)⟩
  · rw [if_neg c2] at H
    have c2b0 : decide (1000 < (l0_3.length : Int)) = false := decide_eq_false c2
    have c2b1 : decide (1000 < l0_3.length) = false := decide_eq_false (by omega)
    clear c2
    replace H := Option.bind_eq_some_iff.mp H
    obtain ⟨⟨t234, t235, t236, t237, t240, t241⟩, A50, H⟩ := H
    replace H : ((lease_Check.f k a0_0 a0_1 a0_2 l0_3 a0_4 a0_5).bind fun t243 => ((lease_Tick.f k a0_0 a0_1 a0_2 l0_3 a0_4 a0_5).bind fun bt244 => ((folkmootref20_Tick.f t234 t235 t236 t237 t240 t241).bind fun bt254 => ((folkmootlaw20_good.f k).bind fun t264 => (if t264 = true then ((folkmootref20_Right.f t234 t235 t236 t237 t240 t241).bind fun t265 => (if ((t243 == 0) == t265) = true then (if t243 = 0 then ((lease_Good.f k a0_0 a0_1 a0_2 l0_3 a0_4 a0_5).bind fun t266 => ((folkmootref20_Good.f t234 t235 t236 t237 t240 t241).bind fun t267 => (if (t266 == t267) = true then ((folkmootlaw20_same.f k bt244.1 bt244.2.1 bt244.2.2.1 bt244.2.2.2.1 bt244.2.2.2.2.1 bt244.2.2.2.2.2.1 bt244.2.2.2.2.2.2 bt254.1 bt254.2.1 bt254.2.2.1 bt254.2.2.2.1 bt254.2.2.2.2.1 bt254.2.2.2.2.2.1 bt254.2.2.2.2.2.2 a0_0 a0_1 a0_2 l0_3 a0_4 a0_5 t234 t235 t236 t237 t240 t241).bind fun bt268 => (some bt268.1)) else (none)))) else (if t243 = 1 then ((lease_Good.f k a0_0 a0_1 a0_2 l0_3 a0_4 a0_5).bind fun t270 => ((folkmootref20_Good.f t234 t235 t236 t237 t240 t241).bind fun t271 => (if (t270 == t271) = true then ((folkmootlaw20_same.f k bt244.1 bt244.2.1 bt244.2.2.1 bt244.2.2.2.1 bt244.2.2.2.2.1 bt244.2.2.2.2.2.1 bt244.2.2.2.2.2.2 bt254.1 bt254.2.1 bt254.2.2.1 bt254.2.2.2.1 bt254.2.2.2.2.1 bt254.2.2.2.2.2.1 bt254.2.2.2.2.2.2 a0_0 a0_1 a0_2 l0_3 a0_4 a0_5 t234 t235 t236 t237 t240 t241).bind fun bt272 => (some bt272.1)) else (none)))) else (none))) else (none))) else (none)))))) = some r := H
    have A5 := Aside0.mk A50
    clear A50
    replace H := Option.bind_eq_some_iff.mp H
    obtain ⟨t243, A60, H⟩ := H
    replace H : ((lease_Tick.f k a0_0 a0_1 a0_2 l0_3 a0_4 a0_5).bind fun bt244 => ((folkmootref20_Tick.f t234 t235 t236 t237 t240 t241).bind fun bt254 => ((folkmootlaw20_good.f k).bind fun t264 => (if t264 = true then ((folkmootref20_Right.f t234 t235 t236 t237 t240 t241).bind fun t265 => (if ((t243 == 0) == t265) = true then (if t243 = 0 then ((lease_Good.f k a0_0 a0_1 a0_2 l0_3 a0_4 a0_5).bind fun t266 => ((folkmootref20_Good.f t234 t235 t236 t237 t240 t241).bind fun t267 => (if (t266 == t267) = true then ((folkmootlaw20_same.f k bt244.1 bt244.2.1 bt244.2.2.1 bt244.2.2.2.1 bt244.2.2.2.2.1 bt244.2.2.2.2.2.1 bt244.2.2.2.2.2.2 bt254.1 bt254.2.1 bt254.2.2.1 bt254.2.2.2.1 bt254.2.2.2.2.1 bt254.2.2.2.2.2.1 bt254.2.2.2.2.2.2 a0_0 a0_1 a0_2 l0_3 a0_4 a0_5 t234 t235 t236 t237 t240 t241).bind fun bt268 => (some bt268.1)) else (none)))) else (if t243 = 1 then ((lease_Good.f k a0_0 a0_1 a0_2 l0_3 a0_4 a0_5).bind fun t270 => ((folkmootref20_Good.f t234 t235 t236 t237 t240 t241).bind fun t271 => (if (t270 == t271) = true then ((folkmootlaw20_same.f k bt244.1 bt244.2.1 bt244.2.2.1 bt244.2.2.2.1 bt244.2.2.2.2.1 bt244.2.2.2.2.2.1 bt244.2.2.2.2.2.2 bt254.1 bt254.2.1 bt254.2.2.1 bt254.2.2.2.1 bt254.2.2.2.2.1 bt254.2.2.2.2.2.1 bt254.2.2.2.2.2.2 a0_0 a0_1 a0_2 l0_3 a0_4 a0_5 t234 t235 t236 t237 t240 t241).bind fun bt272 => (some bt272.1)) else (none)))) else (none))) else (none))) else (none))))) = some r := H
    have A6 := Aside0.mk A60
    clear A60
    replace H := Option.bind_eq_some_iff.mp H
    obtain ⟨⟨t244, t245, t246, t247, t250, t251, t252⟩, A70, H⟩ := H
    replace H : ((folkmootref20_Tick.f t234 t235 t236 t237 t240 t241).bind fun bt254 => ((folkmootlaw20_good.f k).bind fun t264 => (if t264 = true then ((folkmootref20_Right.f t234 t235 t236 t237 t240 t241).bind fun t265 => (if ((t243 == 0) == t265) = true then (if t243 = 0 then ((lease_Good.f k a0_0 a0_1 a0_2 l0_3 a0_4 a0_5).bind fun t266 => ((folkmootref20_Good.f t234 t235 t236 t237 t240 t241).bind fun t267 => (if (t266 == t267) = true then ((folkmootlaw20_same.f k t244 t245 t246 t247 t250 t251 t252 bt254.1 bt254.2.1 bt254.2.2.1 bt254.2.2.2.1 bt254.2.2.2.2.1 bt254.2.2.2.2.2.1 bt254.2.2.2.2.2.2 a0_0 a0_1 a0_2 l0_3 a0_4 a0_5 t234 t235 t236 t237 t240 t241).bind fun bt268 => (some bt268.1)) else (none)))) else (if t243 = 1 then ((lease_Good.f k a0_0 a0_1 a0_2 l0_3 a0_4 a0_5).bind fun t270 => ((folkmootref20_Good.f t234 t235 t236 t237 t240 t241).bind fun t271 => (if (t270 == t271) = true then ((folkmootlaw20_same.f k t244 t245 t246 t247 t250 t251 t252 bt254.1 bt254.2.1 bt254.2.2.1 bt254.2.2.2.1 bt254.2.2.2.2.1 bt254.2.2.2.2.2.1 bt254.2.2.2.2.2.2 a0_0 a0_1 a0_2 l0_3 a0_4 a0_5 t234 t235 t236 t237 t240 t241).bind fun bt272 => (some bt272.1)) else (none)))) else (none))) else (none))) else (none)))) = some r := H
    have A7 := Aside0.mk A70
    clear A70
    replace H := Option.bind_eq_some_iff.mp H
    obtain ⟨⟨t254, t255, t256, t257, t260, t261, t262⟩, A80, H⟩ := H
    replace H : ((folkmootlaw20_good.f k).bind fun t264 => (if t264 = true then ((folkmootref20_Right.f t234 t235 t236 t237 t240 t241).bind fun t265 => (if ((t243 == 0) == t265) = true then (if t243 = 0 then ((lease_Good.f k a0_0 a0_1 a0_2 l0_3 a0_4 a0_5).bind fun t266 => ((folkmootref20_Good.f t234 t235 t236 t237 t240 t241).bind fun t267 => (if (t266 == t267) = true then ((folkmootlaw20_same.f k t244 t245 t246 t247 t250 t251 t252 t254 t255 t256 t257 t260 t261 t262 a0_0 a0_1 a0_2 l0_3 a0_4 a0_5 t234 t235 t236 t237 t240 t241).bind fun bt268 => (some bt268.1)) else (none)))) else (if t243 = 1 then ((lease_Good.f k a0_0 a0_1 a0_2 l0_3 a0_4 a0_5).bind fun t270 => ((folkmootref20_Good.f t234 t235 t236 t237 t240 t241).bind fun t271 => (if (t270 == t271) = true then ((folkmootlaw20_same.f k t244 t245 t246 t247 t250 t251 t252 t254 t255 t256 t257 t260 t261 t262 a0_0 a0_1 a0_2 l0_3 a0_4 a0_5 t234 t235 t236 t237 t240 t241).bind fun bt272 => (some bt272.1)) else (none)))) else (none))) else (none))) else (none))) = some r := H
    have A8 := Aside0.mk A80
    clear A80
    replace H := Option.bind_eq_some_iff.mp H
    obtain ⟨t264, A90, H⟩ := H
    replace H : (if t264 = true then ((folkmootref20_Right.f t234 t235 t236 t237 t240 t241).bind fun t265 => (if ((t243 == 0) == t265) = true then (if t243 = 0 then ((lease_Good.f k a0_0 a0_1 a0_2 l0_3 a0_4 a0_5).bind fun t266 => ((folkmootref20_Good.f t234 t235 t236 t237 t240 t241).bind fun t267 => (if (t266 == t267) = true then ((folkmootlaw20_same.f k t244 t245 t246 t247 t250 t251 t252 t254 t255 t256 t257 t260 t261 t262 a0_0 a0_1 a0_2 l0_3 a0_4 a0_5 t234 t235 t236 t237 t240 t241).bind fun bt268 => (some bt268.1)) else (none)))) else (if t243 = 1 then ((lease_Good.f k a0_0 a0_1 a0_2 l0_3 a0_4 a0_5).bind fun t270 => ((folkmootref20_Good.f t234 t235 t236 t237 t240 t241).bind fun t271 => (if (t270 == t271) = true then ((folkmootlaw20_same.f k t244 t245 t246 t247 t250 t251 t252 t254 t255 t256 t257 t260 t261 t262 a0_0 a0_1 a0_2 l0_3 a0_4 a0_5 t234 t235 t236 t237 t240 t241).bind fun bt272 => (some bt272.1)) else (none)))) else (none))) else (none))) else (none)) = some r := H
    have A9 := Aside0.mk A90
    clear A90
    by_cases c10 : t264 = true
    · subst c10
      have H1 : ((folkmootref20_Right.f t234 t235 t236 t237 t240 t241).bind fun t265 => (if ((t243 == 0) == t265) = true then (if t243 = 0 then ((lease_Good.f k a0_0 a0_1 a0_2 l0_3 a0_4 a0_5).bind fun t266 => ((folkmootref20_Good.f t234 t235 t236 t237 t240 t241).bind fun t267 => (if (t266 == t267) = true then ((folkmootlaw20_same.f k t244 t245 t246 t247 t250 t251 t252 t254 t255 t256 t257 t260 t261 t262 a0_0 a0_1 a0_2 l0_3 a0_4 a0_5 t234 t235 t236 t237 t240 t241).bind fun bt268 => (some bt268.1)) else (none)))) else (if t243 = 1 then ((lease_Good.f k a0_0 a0_1 a0_2 l0_3 a0_4 a0_5).bind fun t270 => ((folkmootref20_Good.f t234 t235 t236 t237 t240 t241).bind fun t271 => (if (t270 == t271) = true then ((folkmootlaw20_same.f k t244 t245 t246 t247 t250 t251 t252 t254 t255 t256 t257 t260 t261 t262 a0_0 a0_1 a0_2 l0_3 a0_4 a0_5 t234 t235 t236 t237 t240 t241).bind fun bt272 => (some bt272.1)) else (none)))) else (none))) else (none))) = some r := by rw [if_pos rfl] at H; exact H
      clear H
      have H := H1
      clear H1
      replace H := Option.bind_eq_some_iff.mp H
      obtain ⟨t265, A110, H⟩ := H
      replace H : (if ((t243 == 0) == t265) = true then (if t243 = 0 then ((lease_Good.f k a0_0 a0_1 a0_2 l0_3 a0_4 a0_5).bind fun t266 => ((folkmootref20_Good.f t234 t235 t236 t237 t240 t241).bind fun t267 => (if (t266 == t267) = true then ((folkmootlaw20_same.f k t244 t245 t246 t247 t250 t251 t252 t254 t255 t256 t257 t260 t261 t262 a0_0 a0_1 a0_2 l0_3 a0_4 a0_5 t234 t235 t236 t237 t240 t241).bind fun bt268 => (some bt268.1)) else (none)))) else (if t243 = 1 then ((lease_Good.f k a0_0 a0_1 a0_2 l0_3 a0_4 a0_5).bind fun t270 => ((folkmootref20_Good.f t234 t235 t236 t237 t240 t241).bind fun t271 => (if (t270 == t271) = true then ((folkmootlaw20_same.f k t244 t245 t246 t247 t250 t251 t252 t254 t255 t256 t257 t260 t261 t262 a0_0 a0_1 a0_2 l0_3 a0_4 a0_5 t234 t235 t236 t237 t240 t241).bind fun bt272 => (some bt272.1)) else (none)))) else (none))) else (none)) = some r := H
      have A11 := Aside0.mk A110
      clear A110
      by_cases c12 : ((t243 == 0) == t265) = true
      · rw [if_pos c12] at H
        have c12b0 : ((t243 == 0) == t265) = true := c12
        (try (have c12b1 : decide ((t243 == 0) = t265) = true := by simpa using c12))
        (try (have c12b2 : ((t243 == 0) == t265) = true := by simpa using c12))
        clear c12
        by_cases c13 : t243 = 0
        · rw [if_pos c13] at H
          have c13b0 : (t243 == 0) = true := beq_iff_eq.mpr c13
          have c13b1 : (t243 != 0) = false := bne_eq_false_iff_eq.mpr c13; have c13x : t265 = true := by simpa [c13b0] using c12b0
          clear c13
          replace H := Option.bind_eq_some_iff.mp H
          obtain ⟨t266, A140, H⟩ := H
          replace H : ((folkmootref20_Good.f t234 t235 t236 t237 t240 t241).bind fun t267 => (if (t266 == t267) = true then ((folkmootlaw20_same.f k t244 t245 t246 t247 t250 t251 t252 t254 t255 t256 t257 t260 t261 t262 a0_0 a0_1 a0_2 l0_3 a0_4 a0_5 t234 t235 t236 t237 t240 t241).bind fun bt268 => (some bt268.1)) else (none))) = some r := H
          have A14 := Aside0.mk A140
          clear A140
          replace H := Option.bind_eq_some_iff.mp H
          obtain ⟨t267, A150, H⟩ := H
          replace H : (if (t266 == t267) = true then ((folkmootlaw20_same.f k t244 t245 t246 t247 t250 t251 t252 t254 t255 t256 t257 t260 t261 t262 a0_0 a0_1 a0_2 l0_3 a0_4 a0_5 t234 t235 t236 t237 t240 t241).bind fun bt268 => (some bt268.1)) else (none)) = some r := H
          have A15 := Aside0.mk A150
          clear A150
          by_cases c16 : (t266 == t267) = true
          · rw [if_pos c16] at H
            have c16b0 : (t266 == t267) = true := c16
            (try (have c16b1 : decide (t266 = t267) = true := by simpa using c16))
            (try (have c16b2 : (t266 == t267) = true := by simpa using c16))
            clear c16
            replace H := Option.bind_eq_some_iff.mp H
            obtain ⟨⟨t268, t269⟩, A170, H⟩ := H
            replace H : (some t268) = some r := H
            have A17 := Aside0.mk A170
            clear A170
            obtain rfl := Option.some.inj H
            go_enter Try.func5, Try.ntmps5
            try go_wp2_with (first | ((with_reducible refine gate_dst (N := 1) rfl ?_); refine box_event ?hg (N := 1) ?hd (cs := #[.int .i64 a0_0, .int .i64 a0_1, .int .i64 a0_2, .slice A0_3 l0_3.length c0_3, .int .i64 a0_4, .int .i64 a0_5]) (t := 29) ?hr ?_; (case hd => rfl); (case hg => rfl); (case hr => first | (go_simp; done) | (go_simp; rfl)); intro gb233 hg w18 hbox hb; have n0_ := Aside0.mk (below_step (by repeat (first | (with_reducible first | exact HB.out | apply below_alloc | apply pw_below_drewN | apply below_drew1) | exact HB.out)) hb); have n1_ := Aside0.mk (hbox); have n2_ := Aside0.mk ((by rw [hg]; exact (below_size (by repeat (first | (with_reducible first | exact HB.out | apply below_alloc | apply pw_below_drewN | apply below_drew1) | exact HB.out))) : w.heap.size ≤ gb233)); have n3_ := Aside0.mk ((by rw [hg]; exact (below_size (by repeat (first | (with_reducible first | exact HB.out | apply below_alloc | apply pw_below_drewN | apply below_drew1) | exact HB.out))) : w.heap.size ≤ gb233)); clear HB; have HB := n0_; have BK233 := n1_; have GW233 := n2_; have GE233 := n3_; clear n0_ n1_ n2_ n3_; clear hb hbox hg; have hcz19_0 : w18.cell? ⟨gb233, 0, none⟩ = some (.int .i64 a0_0) := (blk_cell BK233.out 0).trans rfl; have hcz19_1 : w18.cell? ⟨gb233, 1, none⟩ = some (.int .i64 a0_1) := (blk_cell BK233.out 1).trans rfl; have hcz19_2 : w18.cell? ⟨gb233, 2, none⟩ = some (.int .i64 a0_2) := (blk_cell BK233.out 2).trans rfl; have hcz19_3 : w18.cell? ⟨gb233, 3, none⟩ = some (.slice A0_3 l0_3.length c0_3) := (blk_cell BK233.out 3).trans rfl; have hcz19_4 : w18.cell? ⟨gb233, 4, none⟩ = some (.int .i64 a0_4) := (blk_cell BK233.out 4).trans rfl; have hcz19_5 : w18.cell? ⟨gb233, 5, none⟩ = some (.int .i64 a0_5) := (blk_cell BK233.out 5).trans rfl; have hfz19_0 := blk_frozen BK233.out 0; have hfz19_1 := blk_frozen BK233.out 1; have hfz19_2 := blk_frozen BK233.out 2; have hfz19_3 := blk_frozen BK233.out 3; have hfz19_4 := blk_frozen BK233.out 4; have hfz19_5 := blk_frozen BK233.out 5) | ((with_reducible refine gate_callee (f := 12) rfl ?_); refine goesL_ (some 14) rfl rfl Try.func12 (by kernel_rfl) rfl #[.agg #[.int .i64 a0_0, .int .i64 a0_1, .int .i64 a0_2, .slice A0_3 l0_3.length c0_3, .int .i64 a0_4, .int .i64 a0_5]] rfl (by (try simp only [List.map_toArray, List.map_cons, List.map_nil]); first | done | rfl | (simp only [List.length_drop, List.length_take]; rfl)) ?_; (with_reducible refine (folkmootref20_Own.calls a0_0 a0_1 a0_2 _ _ l0_3 a0_4 a0_5 t234 t235 t236 t237 t240 t241 _ ?side1 ?side2 A5.out).mono ?_); (case side1 => repeat (first | exact (Kd.C_below HR0_3.out HB.out) | (with_reducible refine Kd.C_alloc ?_ _) | (with_reducible refine Kd.C_drewN ?_ _) | (with_reducible refine Kd.C_drew ?_))); (case side2 => exact HC0_3.out); rintro e w20 ⟨v238, rfl, ho0, hb⟩; refine ⟨_, rfl, ?_⟩; have n0_ := Aside0.mk (Kd.R_lower ho0 (below_size (by repeat (first | (with_reducible first | exact HB.out | apply below_alloc | apply pw_below_drewN | apply below_drew1 | refine below_set ?_ GE233.out) | exact HB.out)))); have n1_ := Aside0.mk (blk_below (g := gb233) (o := .cells #[.int .i64 a0_0, .int .i64 a0_1, .int .i64 a0_2, .slice A0_3 l0_3.length c0_3, .int .i64 a0_4, .int .i64 a0_5] 29 (0, 0)) (by (with_reducible repeat (first | refine blk_drewN ?_ _ | refine blk_drew ?_ | refine blk_alloc ?_ _)); exact BK233.out) hb); have n2_ := Aside0.mk (below_step (by repeat (first | (with_reducible first | exact HB.out | apply below_alloc | apply pw_below_drewN | apply below_drew1 | refine below_set ?_ GE233.out) | exact HB.out)) hb); clear BK233; clear HB; have HO239 := n0_; have BK233 := n1_; have HB := n2_; clear n0_ n1_ n2_; (try clear hb); (try clear hb2); (try clear hk); (try clear hi); (try clear ho0)) | ((with_reducible refine gate_dst (N := 3) rfl ?_); refine box_event ?hg (N := 3) ?hd (cs := #[.int .i64 0, .int .i64 0, .int .i64 0, .slice none 0 0, .int .i64 0, .int .i64 0]) (t := 29) ?hr ?_; (case hd => rfl); (case hg => rfl); (case hr => first | (go_simp; done) | (go_simp; rfl)); intro gb242 hg w21 hbox hb; have n0_ := Aside0.mk (Kd.R_below (by (with_reducible repeat (first | apply Kd.R_alloc | apply Kd.R_drewN | apply Kd.R_drew)); exact HO239.out) hb); have n1_ := Aside0.mk (blk_below (g := gb233) (o := .cells #[.int .i64 a0_0, .int .i64 a0_1, .int .i64 a0_2, .slice A0_3 l0_3.length c0_3, .int .i64 a0_4, .int .i64 a0_5] 29 (0, 0)) (by (with_reducible repeat (first | refine blk_drewN ?_ _ | refine blk_drew ?_ | refine blk_alloc ?_ _)); exact BK233.out) hb); have n2_ := Aside0.mk (below_step (by repeat (first | (with_reducible first | exact HB.out | apply below_alloc | apply pw_below_drewN | apply below_drew1 | refine below_set ?_ GE233.out) | exact HB.out)) hb); have n3_ := Aside0.mk (hbox); have n4_ := Aside0.mk ((by rw [hg]; exact (below_size (by repeat (first | (with_reducible first | exact HB.out | apply below_alloc | apply pw_below_drewN | apply below_drew1 | refine below_set ?_ GE233.out) | exact HB.out))) : w.heap.size ≤ gb242)); have n5_ := Aside0.mk ((by rw [hg]; exact (below_size (by repeat (first | (with_reducible first | exact HB.out | apply below_alloc | apply pw_below_drewN | apply below_drew1 | refine below_set ?_ GE233.out) | exact HB.out))) : w.heap.size ≤ gb242)); have n6_ := Aside0.mk ((by rw [hg]; exact Nat.ne_of_lt (blk_lt (g := gb233) (o := .cells #[.int .i64 a0_0, .int .i64 a0_1, .int .i64 a0_2, .slice A0_3 l0_3.length c0_3, .int .i64 a0_4, .int .i64 a0_5] 29 (0, 0)) (by (with_reducible repeat (first | refine blk_drewN ?_ _ | refine blk_drew ?_ | refine blk_alloc ?_ _)); exact BK233.out)) : gb233 ≠ gb242)); have n7_ := Aside0.mk ((by rw [hg]; exact Nat.ne_of_gt (blk_lt (g := gb233) (o := .cells #[.int .i64 a0_0, .int .i64 a0_1, .int .i64 a0_2, .slice A0_3 l0_3.length c0_3, .int .i64 a0_4, .int .i64 a0_5] 29 (0, 0)) (by (with_reducible repeat (first | refine blk_drewN ?_ _ | refine blk_drew ?_ | refine blk_alloc ?_ _)); exact BK233.out)) : gb242 ≠ gb233)); clear HO239; clear BK233; clear HB; have HO239 := n0_; have BK233 := n1_; have HB := n2_; have BK242 := n3_; have GW242 := n4_; have GE242 := n5_; have NB233_242 := n6_; have NB242_233 := n7_; clear n0_ n1_ n2_ n3_ n4_ n5_ n6_ n7_; clear hb hbox hg; have hnb22 := NB242_233.out; have hnc22 := NB233_242.out; have hcz23_0 : w21.cell? ⟨gb242, 0, none⟩ = some (.int .i64 0) := (blk_cell BK242.out 0).trans rfl; have hcz23_1 : w21.cell? ⟨gb242, 1, none⟩ = some (.int .i64 0) := (blk_cell BK242.out 1).trans rfl; have hcz23_2 : w21.cell? ⟨gb242, 2, none⟩ = some (.int .i64 0) := (blk_cell BK242.out 2).trans rfl; have hcz23_3 : w21.cell? ⟨gb242, 3, none⟩ = some (.slice none 0 0) := (blk_cell BK242.out 3).trans rfl; have hcz23_4 : w21.cell? ⟨gb242, 4, none⟩ = some (.int .i64 0) := (blk_cell BK242.out 4).trans rfl; have hcz23_5 : w21.cell? ⟨gb242, 5, none⟩ = some (.int .i64 0) := (blk_cell BK242.out 5).trans rfl; have hfz23_0 := blk_frozen BK242.out 0; have hfz23_1 := blk_frozen BK242.out 1; have hfz23_2 := blk_frozen BK242.out 2; have hfz23_3 := blk_frozen BK242.out 3; have hfz23_4 := blk_frozen BK242.out 4; have hfz23_5 := blk_frozen BK242.out 5; obtain ⟨Ao24, co24, eo24⟩ := Kd.R_slice HO239.out; subst eo24; have hcz25_0 : w21.cell? ⟨gb233, 0, none⟩ = some (.int .i64 a0_0) := (blk_cell BK233.out 0).trans rfl; have hcz25_1 : w21.cell? ⟨gb233, 1, none⟩ = some (.int .i64 a0_1) := (blk_cell BK233.out 1).trans rfl; have hcz25_2 : w21.cell? ⟨gb233, 2, none⟩ = some (.int .i64 a0_2) := (blk_cell BK233.out 2).trans rfl; have hcz25_3 : w21.cell? ⟨gb233, 3, none⟩ = some (.slice A0_3 l0_3.length c0_3) := (blk_cell BK233.out 3).trans rfl; have hcz25_4 : w21.cell? ⟨gb233, 4, none⟩ = some (.int .i64 a0_4) := (blk_cell BK233.out 4).trans rfl; have hcz25_5 : w21.cell? ⟨gb233, 5, none⟩ = some (.int .i64 a0_5) := (blk_cell BK233.out 5).trans rfl; have hfz25_0 := blk_frozen BK233.out 0; have hfz25_1 := blk_frozen BK233.out 1; have hfz25_2 := blk_frozen BK233.out 2; have hfz25_3 := blk_frozen BK233.out 3; have hfz25_4 := blk_frozen BK233.out 4; have hfz25_5 := blk_frozen BK233.out 5) | ((with_reducible refine gate_callee (f := 13) rfl ?_); refine goesL_ (some 16) rfl rfl Try.func13 (by kernel_rfl) rfl #[.agg #[.int .i64 a0_0, .int .i64 a0_1, .int .i64 a0_2, .slice A0_3 l0_3.length c0_3, .int .i64 a0_4, .int .i64 a0_5]] rfl (by (try simp only [List.map_toArray, List.map_cons, List.map_nil]); first | done | rfl | (simp only [List.length_drop, List.length_take]; rfl)) ?_; (with_reducible refine (lease_Check.calls k a0_0 a0_1 a0_2 _ _ l0_3 a0_4 a0_5 t243 _ ?side1 ?side2 A6.out).mono ?_); (case side1 => exact Kd.C_below HR0_3.out (by repeat (first | (with_reducible first | exact HB.out | apply below_alloc | apply pw_below_drewN | apply below_drew1 | refine below_set ?_ GE233.out | refine below_set ?_ GE242.out) | exact HB.out))); (case side2 => exact HC0_3.out); rintro e w26 ⟨rfl, hb⟩; refine ⟨_, rfl, ?_⟩; have n0_ := Aside0.mk (Kd.R_below (by (with_reducible repeat (first | apply Kd.R_alloc | apply Kd.R_drewN | apply Kd.R_drew)); exact (Kd.R_mono (Kd.R_far (p := ⟨gb242, 5, none⟩) (Kd.R_far (p := ⟨gb242, 4, none⟩) (Kd.R_far (p := ⟨gb242, 3, none⟩) (Kd.R_far (p := ⟨gb242, 2, none⟩) (Kd.R_far (p := ⟨gb242, 1, none⟩) (Kd.R_far (p := ⟨gb242, 0, none⟩) (Kd.R_types HO239.out BK242.out (by decide)) (fun _ hk => hk.2) (.int .i64 t234)) (fun _ hk => hk.2) (.int .i64 t235)) (fun _ hk => hk.2) (.int .i64 t236)) (fun _ hk => hk.2) (.slice Ao24 t237.length co24)) (fun _ hk => hk.2) (.int .i64 t240)) (fun _ hk => hk.2) (.int .i64 t241)) (fun _ h_ => h_.1))) hb); have n1_ := Aside0.mk (blk_below (g := gb233) (o := .cells #[.int .i64 a0_0, .int .i64 a0_1, .int .i64 a0_2, .slice A0_3 l0_3.length c0_3, .int .i64 a0_4, .int .i64 a0_5] 29 (0, 0)) (by (with_reducible repeat (first | refine blk_drewN ?_ _ | refine blk_drew ?_ | refine blk_alloc ?_ _)); refine blk_far ?_ NB233_242.out _; (with_reducible repeat (first | refine blk_drewN ?_ _ | refine blk_drew ?_ | refine blk_alloc ?_ _)); refine blk_far ?_ NB233_242.out _; (with_reducible repeat (first | refine blk_drewN ?_ _ | refine blk_drew ?_ | refine blk_alloc ?_ _)); refine blk_far ?_ NB233_242.out _; (with_reducible repeat (first | refine blk_drewN ?_ _ | refine blk_drew ?_ | refine blk_alloc ?_ _)); refine blk_far ?_ NB233_242.out _; (with_reducible repeat (first | refine blk_drewN ?_ _ | refine blk_drew ?_ | refine blk_alloc ?_ _)); refine blk_far ?_ NB233_242.out _; (with_reducible repeat (first | refine blk_drewN ?_ _ | refine blk_drew ?_ | refine blk_alloc ?_ _)); refine blk_far ?_ NB233_242.out _; (with_reducible repeat (first | refine blk_drewN ?_ _ | refine blk_drew ?_ | refine blk_alloc ?_ _)); exact BK233.out) hb); have n2_ := Aside0.mk (blk_below (g := gb242) (o := .cells #[.int .i64 t234, .int .i64 t235, .int .i64 t236, .slice Ao24 t237.length co24, .int .i64 t240, .int .i64 t241] 29 (0, 0)) (by (with_reducible repeat (first | refine blk_drewN ?_ _ | refine blk_drew ?_ | refine blk_alloc ?_ _)); refine blk_put (cs := #[.int .i64 t234, .int .i64 t235, .int .i64 t236, .slice Ao24 t237.length co24, .int .i64 t240, .int .i64 0]) ?_ 5 _ rfl; (with_reducible repeat (first | refine blk_drewN ?_ _ | refine blk_drew ?_ | refine blk_alloc ?_ _)); refine blk_put (cs := #[.int .i64 t234, .int .i64 t235, .int .i64 t236, .slice Ao24 t237.length co24, .int .i64 0, .int .i64 0]) ?_ 4 _ rfl; (with_reducible repeat (first | refine blk_drewN ?_ _ | refine blk_drew ?_ | refine blk_alloc ?_ _)); refine blk_put (cs := #[.int .i64 t234, .int .i64 t235, .int .i64 t236, .slice none 0 0, .int .i64 0, .int .i64 0]) ?_ 3 _ rfl; (with_reducible repeat (first | refine blk_drewN ?_ _ | refine blk_drew ?_ | refine blk_alloc ?_ _)); refine blk_put (cs := #[.int .i64 t234, .int .i64 t235, .int .i64 0, .slice none 0 0, .int .i64 0, .int .i64 0]) ?_ 2 _ rfl; (with_reducible repeat (first | refine blk_drewN ?_ _ | refine blk_drew ?_ | refine blk_alloc ?_ _)); refine blk_put (cs := #[.int .i64 t234, .int .i64 0, .int .i64 0, .slice none 0 0, .int .i64 0, .int .i64 0]) ?_ 1 _ rfl; (with_reducible repeat (first | refine blk_drewN ?_ _ | refine blk_drew ?_ | refine blk_alloc ?_ _)); refine blk_put (cs := #[.int .i64 0, .int .i64 0, .int .i64 0, .slice none 0 0, .int .i64 0, .int .i64 0]) ?_ 0 _ rfl; (with_reducible repeat (first | refine blk_drewN ?_ _ | refine blk_drew ?_ | refine blk_alloc ?_ _)); exact BK242.out) hb); have n3_ := Aside0.mk (below_step (by repeat (first | (with_reducible first | exact HB.out | apply below_alloc | apply pw_below_drewN | apply below_drew1 | refine below_set ?_ GE233.out | refine below_set ?_ GE242.out) | exact HB.out)) hb); clear HO239; clear BK233; clear BK242; clear HB; have HO239 := n0_; have BK233 := n1_; have BK242 := n2_; have HB := n3_; clear n0_ n1_ n2_ n3_; (try clear hb); (try clear hb2); (try clear hk); (try clear hi); have hcz27_0 : w26.cell? ⟨gb233, 0, none⟩ = some (.int .i64 a0_0) := (blk_cell BK233.out 0).trans rfl; have hcz27_1 : w26.cell? ⟨gb233, 1, none⟩ = some (.int .i64 a0_1) := (blk_cell BK233.out 1).trans rfl; have hcz27_2 : w26.cell? ⟨gb233, 2, none⟩ = some (.int .i64 a0_2) := (blk_cell BK233.out 2).trans rfl; have hcz27_3 : w26.cell? ⟨gb233, 3, none⟩ = some (.slice A0_3 l0_3.length c0_3) := (blk_cell BK233.out 3).trans rfl; have hcz27_4 : w26.cell? ⟨gb233, 4, none⟩ = some (.int .i64 a0_4) := (blk_cell BK233.out 4).trans rfl; have hcz27_5 : w26.cell? ⟨gb233, 5, none⟩ = some (.int .i64 a0_5) := (blk_cell BK233.out 5).trans rfl; have hfz27_0 := blk_frozen BK233.out 0; have hfz27_1 := blk_frozen BK233.out 1; have hfz27_2 := blk_frozen BK233.out 2; have hfz27_3 := blk_frozen BK233.out 3; have hfz27_4 := blk_frozen BK233.out 4; have hfz27_5 := blk_frozen BK233.out 5) | ((with_reducible refine gate_callee (f := 14) rfl ?_); refine goesL_ (some 19) rfl rfl Try.func14 (by kernel_rfl) rfl #[.agg #[.int .i64 a0_0, .int .i64 a0_1, .int .i64 a0_2, .slice A0_3 l0_3.length c0_3, .int .i64 a0_4, .int .i64 a0_5]] rfl (by (try simp only [List.map_toArray, List.map_cons, List.map_nil]); first | done | rfl | (simp only [List.length_drop, List.length_take]; rfl)) ?_; (with_reducible refine (lease_Tick.calls k a0_0 a0_1 a0_2 _ _ l0_3 a0_4 a0_5 t244 t245 t246 t247 t250 t251 t252 _ ?side1 ?side2 A7.out).mono ?_); (case side1 => repeat (first | exact (Kd.C_below HR0_3.out HB.out) | (with_reducible refine Kd.C_alloc ?_ _) | (with_reducible refine Kd.C_drewN ?_ _) | (with_reducible refine Kd.C_drew ?_))); (case side2 => exact HC0_3.out); rintro e w28 ⟨v248, rfl, ho0, hb⟩; refine ⟨_, rfl, ?_⟩; have n0_ := Aside0.mk (Kd.R_elder' (by (with_reducible repeat (first | apply Kd.R_alloc | apply Kd.R_drewN | apply Kd.R_drew)); exact HO239.out) (Kd.R_base ho0) hb); have n1_ := Aside0.mk (Kd.R_lower (Kd.R_new' ho0 (Kd.R_lt (by (with_reducible repeat (first | apply Kd.R_alloc | apply Kd.R_drewN | apply Kd.R_drew)); exact HO239.out))) (below_size (by repeat (first | (with_reducible first | exact HB.out | apply below_alloc | apply pw_below_drewN | apply below_drew1 | refine below_set ?_ GE233.out | refine below_set ?_ GE242.out) | exact HB.out)))); have n2_ := Aside0.mk (blk_below (g := gb233) (o := .cells #[.int .i64 a0_0, .int .i64 a0_1, .int .i64 a0_2, .slice A0_3 l0_3.length c0_3, .int .i64 a0_4, .int .i64 a0_5] 29 (0, 0)) (by (with_reducible repeat (first | refine blk_drewN ?_ _ | refine blk_drew ?_ | refine blk_alloc ?_ _)); exact BK233.out) hb); have n3_ := Aside0.mk (blk_below (g := gb242) (o := .cells #[.int .i64 t234, .int .i64 t235, .int .i64 t236, .slice Ao24 t237.length co24, .int .i64 t240, .int .i64 t241] 29 (0, 0)) (by (with_reducible repeat (first | refine blk_drewN ?_ _ | refine blk_drew ?_ | refine blk_alloc ?_ _)); exact BK242.out) hb); have n4_ := Aside0.mk (below_step (by repeat (first | (with_reducible first | exact HB.out | apply below_alloc | apply pw_below_drewN | apply below_drew1 | refine below_set ?_ GE233.out | refine below_set ?_ GE242.out) | exact HB.out)) hb); clear HO239; clear BK233; clear BK242; clear HB; have HO239 := n0_; have HO249 := n1_; have BK233 := n2_; have BK242 := n3_; have HB := n4_; clear n0_ n1_ n2_ n3_ n4_; (try clear hb); (try clear hb2); (try clear hk); (try clear hi); (try clear ho0)) | ((with_reducible refine gate_dst (N := 5) rfl ?_); refine box_event ?hg (N := 5) ?hd (cs := #[.int .i64 0, .int .i64 0, .int .i64 0, .slice none 0 0, .int .i64 0, .int .i64 0]) (t := 29) ?hr ?_; (case hd => rfl); (case hg => rfl); (case hr => first | (go_simp; done) | (go_simp; rfl)); intro gb253 hg w29 hbox hb; have n0_ := Aside0.mk (Kd.R_below (by (with_reducible repeat (first | apply Kd.R_alloc | apply Kd.R_drewN | apply Kd.R_drew)); exact HO239.out) hb); have n1_ := Aside0.mk (Kd.R_below (by (with_reducible repeat (first | apply Kd.R_alloc | apply Kd.R_drewN | apply Kd.R_drew)); exact HO249.out) hb); have n2_ := Aside0.mk (blk_below (g := gb233) (o := .cells #[.int .i64 a0_0, .int .i64 a0_1, .int .i64 a0_2, .slice A0_3 l0_3.length c0_3, .int .i64 a0_4, .int .i64 a0_5] 29 (0, 0)) (by (with_reducible repeat (first | refine blk_drewN ?_ _ | refine blk_drew ?_ | refine blk_alloc ?_ _)); exact BK233.out) hb); have n3_ := Aside0.mk (blk_below (g := gb242) (o := .cells #[.int .i64 t234, .int .i64 t235, .int .i64 t236, .slice Ao24 t237.length co24, .int .i64 t240, .int .i64 t241] 29 (0, 0)) (by (with_reducible repeat (first | refine blk_drewN ?_ _ | refine blk_drew ?_ | refine blk_alloc ?_ _)); exact BK242.out) hb); have n4_ := Aside0.mk (below_step (by repeat (first | (with_reducible first | exact HB.out | apply below_alloc | apply pw_below_drewN | apply below_drew1 | refine below_set ?_ GE233.out | refine below_set ?_ GE242.out) | exact HB.out)) hb); have n5_ := Aside0.mk (hbox); have n6_ := Aside0.mk ((by rw [hg]; exact (below_size (by repeat (first | (with_reducible first | exact HB.out | apply below_alloc | apply pw_below_drewN | apply below_drew1 | refine below_set ?_ GE233.out | refine below_set ?_ GE242.out) | exact HB.out))) : w.heap.size ≤ gb253)); have n7_ := Aside0.mk ((by rw [hg]; exact (below_size (by repeat (first | (with_reducible first | exact HB.out | apply below_alloc | apply pw_below_drewN | apply below_drew1 | refine below_set ?_ GE233.out | refine below_set ?_ GE242.out) | exact HB.out))) : w.heap.size ≤ gb253)); have n8_ := Aside0.mk ((by rw [hg]; exact Nat.ne_of_lt (blk_lt (g := gb233) (o := .cells #[.int .i64 a0_0, .int .i64 a0_1, .int .i64 a0_2, .slice A0_3 l0_3.length c0_3, .int .i64 a0_4, .int .i64 a0_5] 29 (0, 0)) (by (with_reducible repeat (first | refine blk_drewN ?_ _ | refine blk_drew ?_ | refine blk_alloc ?_ _)); exact BK233.out)) : gb233 ≠ gb253)); have n9_ := Aside0.mk ((by rw [hg]; exact Nat.ne_of_gt (blk_lt (g := gb233) (o := .cells #[.int .i64 a0_0, .int .i64 a0_1, .int .i64 a0_2, .slice A0_3 l0_3.length c0_3, .int .i64 a0_4, .int .i64 a0_5] 29 (0, 0)) (by (with_reducible repeat (first | refine blk_drewN ?_ _ | refine blk_drew ?_ | refine blk_alloc ?_ _)); exact BK233.out)) : gb253 ≠ gb233)); have n10_ := Aside0.mk ((by rw [hg]; exact Nat.ne_of_lt (blk_lt (g := gb242) (o := .cells #[.int .i64 t234, .int .i64 t235, .int .i64 t236, .slice Ao24 t237.length co24, .int .i64 t240, .int .i64 t241] 29 (0, 0)) (by (with_reducible repeat (first | refine blk_drewN ?_ _ | refine blk_drew ?_ | refine blk_alloc ?_ _)); exact BK242.out)) : gb242 ≠ gb253)); have n11_ := Aside0.mk ((by rw [hg]; exact Nat.ne_of_gt (blk_lt (g := gb242) (o := .cells #[.int .i64 t234, .int .i64 t235, .int .i64 t236, .slice Ao24 t237.length co24, .int .i64 t240, .int .i64 t241] 29 (0, 0)) (by (with_reducible repeat (first | refine blk_drewN ?_ _ | refine blk_drew ?_ | refine blk_alloc ?_ _)); exact BK242.out)) : gb253 ≠ gb242)); clear HO239; clear HO249; clear BK233; clear BK242; clear HB; have HO239 := n0_; have HO249 := n1_; have BK233 := n2_; have BK242 := n3_; have HB := n4_; have BK253 := n5_; have GW253 := n6_; have GE253 := n7_; have NB233_253 := n8_; have NB253_233 := n9_; have NB242_253 := n10_; have NB253_242 := n11_; clear n0_ n1_ n2_ n3_ n4_ n5_ n6_ n7_ n8_ n9_ n10_ n11_; clear hb hbox hg; have hnb30 := NB253_233.out; have hnc30 := NB233_253.out; have hnb31 := NB253_242.out; have hnc31 := NB242_253.out; have hcz32_0 : w29.cell? ⟨gb253, 0, none⟩ = some (.int .i64 0) := (blk_cell BK253.out 0).trans rfl; have hcz32_1 : w29.cell? ⟨gb253, 1, none⟩ = some (.int .i64 0) := (blk_cell BK253.out 1).trans rfl; have hcz32_2 : w29.cell? ⟨gb253, 2, none⟩ = some (.int .i64 0) := (blk_cell BK253.out 2).trans rfl; have hcz32_3 : w29.cell? ⟨gb253, 3, none⟩ = some (.slice none 0 0) := (blk_cell BK253.out 3).trans rfl; have hcz32_4 : w29.cell? ⟨gb253, 4, none⟩ = some (.int .i64 0) := (blk_cell BK253.out 4).trans rfl; have hcz32_5 : w29.cell? ⟨gb253, 5, none⟩ = some (.int .i64 0) := (blk_cell BK253.out 5).trans rfl; have hfz32_0 := blk_frozen BK253.out 0; have hfz32_1 := blk_frozen BK253.out 1; have hfz32_2 := blk_frozen BK253.out 2; have hfz32_3 := blk_frozen BK253.out 3; have hfz32_4 := blk_frozen BK253.out 4; have hfz32_5 := blk_frozen BK253.out 5; obtain ⟨Ao33, co33, eo33⟩ := Kd.R_slice HO249.out; subst eo33; have hcz34_0 : w29.cell? ⟨gb242, 0, none⟩ = some (.int .i64 t234) := (blk_cell BK242.out 0).trans rfl; have hcz34_1 : w29.cell? ⟨gb242, 1, none⟩ = some (.int .i64 t235) := (blk_cell BK242.out 1).trans rfl; have hcz34_2 : w29.cell? ⟨gb242, 2, none⟩ = some (.int .i64 t236) := (blk_cell BK242.out 2).trans rfl; have hcz34_3 : w29.cell? ⟨gb242, 3, none⟩ = some (.slice Ao24 t237.length co24) := (blk_cell BK242.out 3).trans rfl; have hcz34_4 : w29.cell? ⟨gb242, 4, none⟩ = some (.int .i64 t240) := (blk_cell BK242.out 4).trans rfl; have hcz34_5 : w29.cell? ⟨gb242, 5, none⟩ = some (.int .i64 t241) := (blk_cell BK242.out 5).trans rfl; have hfz34_0 := blk_frozen BK242.out 0; have hfz34_1 := blk_frozen BK242.out 1; have hfz34_2 := blk_frozen BK242.out 2; have hfz34_3 := blk_frozen BK242.out 3; have hfz34_4 := blk_frozen BK242.out 4; have hfz34_5 := blk_frozen BK242.out 5) | ((with_reducible refine gate_callee (f := 15) rfl ?_); refine goesL_ (some 24) rfl rfl Try.func15 (by kernel_rfl) rfl #[.agg #[.int .i64 t234, .int .i64 t235, .int .i64 t236, .slice Ao24 t237.length co24, .int .i64 t240, .int .i64 t241]] rfl (by (try simp only [List.map_toArray, List.map_cons, List.map_nil]); first | done | rfl | (simp only [List.length_drop, List.length_take]; rfl)) ?_; (with_reducible refine (folkmootref20_Tick.calls t234 t235 t236 _ _ t237 t240 t241 t254 t255 t256 t257 t260 t261 t262 _ ?side1 ?side2 A8.out).mono ?_); (case side1 => refine (Kd.R_reads' (e := 59) (base := w.heap.size) (ok := fun k_ => (True ∧ some k_ ≠ (.slice Ao33 t247.length co33 : Value).ownBlock)) (n := t237.length) (c := co24) ?_).2.2; exact (by (with_reducible repeat (first | apply Kd.R_alloc | apply Kd.R_drewN | apply Kd.R_drew)); exact (Kd.R_mono (Kd.R_far (p := ⟨gb253, 5, none⟩) (Kd.R_far (p := ⟨gb253, 4, none⟩) (Kd.R_far (p := ⟨gb253, 3, none⟩) (Kd.R_far (p := ⟨gb253, 2, none⟩) (Kd.R_far (p := ⟨gb253, 1, none⟩) (Kd.R_far (p := ⟨gb253, 0, none⟩) (Kd.R_types HO239.out BK253.out (by decide)) (fun _ hk => hk.2) (.int .i64 t244)) (fun _ hk => hk.2) (.int .i64 t245)) (fun _ hk => hk.2) (.int .i64 t246)) (fun _ hk => hk.2) (.slice Ao33 t247.length co33)) (fun _ hk => hk.2) (.int .i64 t250)) (fun _ hk => hk.2) (.int .i64 t251)) (fun _ h_ => h_.1)))); (case side2 => exact (Kd.R_reads' HO239.out).2.1); rintro e w35 ⟨v258, rfl, ho0, hb⟩; refine ⟨_, rfl, ?_⟩; have n0_ := Aside0.mk (Kd.R_elder' (by (with_reducible repeat (first | apply Kd.R_alloc | apply Kd.R_drewN | apply Kd.R_drew)); exact (Kd.R_mono (Kd.R_far (p := ⟨gb253, 5, none⟩) (Kd.R_far (p := ⟨gb253, 4, none⟩) (Kd.R_far (p := ⟨gb253, 3, none⟩) (Kd.R_far (p := ⟨gb253, 2, none⟩) (Kd.R_far (p := ⟨gb253, 1, none⟩) (Kd.R_far (p := ⟨gb253, 0, none⟩) (Kd.R_types HO239.out BK253.out (by decide)) (fun _ hk => hk.2) (.int .i64 t244)) (fun _ hk => hk.2) (.int .i64 t245)) (fun _ hk => hk.2) (.int .i64 t246)) (fun _ hk => hk.2) (.slice Ao33 t247.length co33)) (fun _ hk => hk.2) (.int .i64 t250)) (fun _ hk => hk.2) (.int .i64 t251)) (fun _ h_ => h_.1))) (Kd.R_base ho0) hb); have n1_ := Aside0.mk (Kd.R_elder' (by (with_reducible repeat (first | apply Kd.R_alloc | apply Kd.R_drewN | apply Kd.R_drew)); exact (Kd.R_mono (Kd.R_far (p := ⟨gb253, 5, none⟩) (Kd.R_far (p := ⟨gb253, 4, none⟩) (Kd.R_far (p := ⟨gb253, 3, none⟩) (Kd.R_far (p := ⟨gb253, 2, none⟩) (Kd.R_far (p := ⟨gb253, 1, none⟩) (Kd.R_far (p := ⟨gb253, 0, none⟩) (Kd.R_types HO249.out BK253.out (by decide)) (fun _ hk => hk.2) (.int .i64 t244)) (fun _ hk => hk.2) (.int .i64 t245)) (fun _ hk => hk.2) (.int .i64 t246)) (fun _ hk => hk.2) (.slice Ao33 t247.length co33)) (fun _ hk => hk.2) (.int .i64 t250)) (fun _ hk => hk.2) (.int .i64 t251)) (fun _ h_ => h_.1))) (Kd.R_base ho0) hb); have n2_ := Aside0.mk (Kd.R_lower (Kd.R_new' (Kd.R_new' ho0 (Kd.R_lt (by (with_reducible repeat (first | apply Kd.R_alloc | apply Kd.R_drewN | apply Kd.R_drew)); exact (Kd.R_mono (Kd.R_far (p := ⟨gb253, 5, none⟩) (Kd.R_far (p := ⟨gb253, 4, none⟩) (Kd.R_far (p := ⟨gb253, 3, none⟩) (Kd.R_far (p := ⟨gb253, 2, none⟩) (Kd.R_far (p := ⟨gb253, 1, none⟩) (Kd.R_far (p := ⟨gb253, 0, none⟩) (Kd.R_types HO239.out BK253.out (by decide)) (fun _ hk => hk.2) (.int .i64 t244)) (fun _ hk => hk.2) (.int .i64 t245)) (fun _ hk => hk.2) (.int .i64 t246)) (fun _ hk => hk.2) (.slice Ao33 t247.length co33)) (fun _ hk => hk.2) (.int .i64 t250)) (fun _ hk => hk.2) (.int .i64 t251)) (fun _ h_ => h_.1))))) (Kd.R_lt (by (with_reducible repeat (first | apply Kd.R_alloc | apply Kd.R_drewN | apply Kd.R_drew)); exact (Kd.R_mono (Kd.R_far (p := ⟨gb253, 5, none⟩) (Kd.R_far (p := ⟨gb253, 4, none⟩) (Kd.R_far (p := ⟨gb253, 3, none⟩) (Kd.R_far (p := ⟨gb253, 2, none⟩) (Kd.R_far (p := ⟨gb253, 1, none⟩) (Kd.R_far (p := ⟨gb253, 0, none⟩) (Kd.R_types HO249.out BK253.out (by decide)) (fun _ hk => hk.2) (.int .i64 t244)) (fun _ hk => hk.2) (.int .i64 t245)) (fun _ hk => hk.2) (.int .i64 t246)) (fun _ hk => hk.2) (.slice Ao33 t247.length co33)) (fun _ hk => hk.2) (.int .i64 t250)) (fun _ hk => hk.2) (.int .i64 t251)) (fun _ h_ => h_.1))))) (below_size (by repeat (first | (with_reducible first | exact HB.out | apply below_alloc | apply pw_below_drewN | apply below_drew1 | refine below_set ?_ GE233.out | refine below_set ?_ GE242.out | refine below_set ?_ GE253.out) | exact HB.out)))); have n3_ := Aside0.mk (blk_below (g := gb233) (o := .cells #[.int .i64 a0_0, .int .i64 a0_1, .int .i64 a0_2, .slice A0_3 l0_3.length c0_3, .int .i64 a0_4, .int .i64 a0_5] 29 (0, 0)) (by (with_reducible repeat (first | refine blk_drewN ?_ _ | refine blk_drew ?_ | refine blk_alloc ?_ _)); refine blk_far ?_ NB233_253.out _; (with_reducible repeat (first | refine blk_drewN ?_ _ | refine blk_drew ?_ | refine blk_alloc ?_ _)); refine blk_far ?_ NB233_253.out _; (with_reducible repeat (first | refine blk_drewN ?_ _ | refine blk_drew ?_ | refine blk_alloc ?_ _)); refine blk_far ?_ NB233_253.out _; (with_reducible repeat (first | refine blk_drewN ?_ _ | refine blk_drew ?_ | refine blk_alloc ?_ _)); refine blk_far ?_ NB233_253.out _; (with_reducible repeat (first | refine blk_drewN ?_ _ | refine blk_drew ?_ | refine blk_alloc ?_ _)); refine blk_far ?_ NB233_253.out _; (with_reducible repeat (first | refine blk_drewN ?_ _ | refine blk_drew ?_ | refine blk_alloc ?_ _)); refine blk_far ?_ NB233_253.out _; (with_reducible repeat (first | refine blk_drewN ?_ _ | refine blk_drew ?_ | refine blk_alloc ?_ _)); exact BK233.out) hb); have n4_ := Aside0.mk (blk_below (g := gb242) (o := .cells #[.int .i64 t234, .int .i64 t235, .int .i64 t236, .slice Ao24 t237.length co24, .int .i64 t240, .int .i64 t241] 29 (0, 0)) (by (with_reducible repeat (first | refine blk_drewN ?_ _ | refine blk_drew ?_ | refine blk_alloc ?_ _)); refine blk_far ?_ NB242_253.out _; (with_reducible repeat (first | refine blk_drewN ?_ _ | refine blk_drew ?_ | refine blk_alloc ?_ _)); refine blk_far ?_ NB242_253.out _; (with_reducible repeat (first | refine blk_drewN ?_ _ | refine blk_drew ?_ | refine blk_alloc ?_ _)); refine blk_far ?_ NB242_253.out _; (with_reducible repeat (first | refine blk_drewN ?_ _ | refine blk_drew ?_ | refine blk_alloc ?_ _)); refine blk_far ?_ NB242_253.out _; (with_reducible repeat (first | refine blk_drewN ?_ _ | refine blk_drew ?_ | refine blk_alloc ?_ _)); refine blk_far ?_ NB242_253.out _; (with_reducible repeat (first | refine blk_drewN ?_ _ | refine blk_drew ?_ | refine blk_alloc ?_ _)); refine blk_far ?_ NB242_253.out _; (with_reducible repeat (first | refine blk_drewN ?_ _ | refine blk_drew ?_ | refine blk_alloc ?_ _)); exact BK242.out) hb); have n5_ := Aside0.mk (blk_below (g := gb253) (o := .cells #[.int .i64 t244, .int .i64 t245, .int .i64 t246, .slice Ao33 t247.length co33, .int .i64 t250, .int .i64 t251] 29 (0, 0)) (by (with_reducible repeat (first | refine blk_drewN ?_ _ | refine blk_drew ?_ | refine blk_alloc ?_ _)); refine blk_put (cs := #[.int .i64 t244, .int .i64 t245, .int .i64 t246, .slice Ao33 t247.length co33, .int .i64 t250, .int .i64 0]) ?_ 5 _ rfl; (with_reducible repeat (first | refine blk_drewN ?_ _ | refine blk_drew ?_ | refine blk_alloc ?_ _)); refine blk_put (cs := #[.int .i64 t244, .int .i64 t245, .int .i64 t246, .slice Ao33 t247.length co33, .int .i64 0, .int .i64 0]) ?_ 4 _ rfl; (with_reducible repeat (first | refine blk_drewN ?_ _ | refine blk_drew ?_ | refine blk_alloc ?_ _)); refine blk_put (cs := #[.int .i64 t244, .int .i64 t245, .int .i64 t246, .slice none 0 0, .int .i64 0, .int .i64 0]) ?_ 3 _ rfl; (with_reducible repeat (first | refine blk_drewN ?_ _ | refine blk_drew ?_ | refine blk_alloc ?_ _)); refine blk_put (cs := #[.int .i64 t244, .int .i64 t245, .int .i64 0, .slice none 0 0, .int .i64 0, .int .i64 0]) ?_ 2 _ rfl; (with_reducible repeat (first | refine blk_drewN ?_ _ | refine blk_drew ?_ | refine blk_alloc ?_ _)); refine blk_put (cs := #[.int .i64 t244, .int .i64 0, .int .i64 0, .slice none 0 0, .int .i64 0, .int .i64 0]) ?_ 1 _ rfl; (with_reducible repeat (first | refine blk_drewN ?_ _ | refine blk_drew ?_ | refine blk_alloc ?_ _)); refine blk_put (cs := #[.int .i64 0, .int .i64 0, .int .i64 0, .slice none 0 0, .int .i64 0, .int .i64 0]) ?_ 0 _ rfl; (with_reducible repeat (first | refine blk_drewN ?_ _ | refine blk_drew ?_ | refine blk_alloc ?_ _)); exact BK253.out) hb); have n6_ := Aside0.mk (below_step (by repeat (first | (with_reducible first | exact HB.out | apply below_alloc | apply pw_below_drewN | apply below_drew1 | refine below_set ?_ GE233.out | refine below_set ?_ GE242.out | refine below_set ?_ GE253.out) | exact HB.out)) hb); clear HO239; clear HO249; clear BK233; clear BK242; clear BK253; clear HB; have HO239 := n0_; have HO249 := n1_; have HO259 := n2_; have BK233 := n3_; have BK242 := n4_; have BK253 := n5_; have HB := n6_; clear n0_ n1_ n2_ n3_ n4_ n5_ n6_; (try clear hb); (try clear hb2); (try clear hk); (try clear hi); (try clear ho0)) | ((with_reducible refine gate_dst (N := 7) rfl ?_); refine box_event ?hg (N := 7) ?hd (cs := #[.int .i64 0, .int .i64 0, .int .i64 0, .slice none 0 0, .int .i64 0, .int .i64 0]) (t := 29) ?hr ?_; (case hd => rfl); (case hg => rfl); (case hr => first | (go_simp; done) | (go_simp; rfl)); intro gb263 hg w36 hbox hb; have n0_ := Aside0.mk (Kd.R_below (by (with_reducible repeat (first | apply Kd.R_alloc | apply Kd.R_drewN | apply Kd.R_drew)); exact HO239.out) hb); have n1_ := Aside0.mk (Kd.R_below (by (with_reducible repeat (first | apply Kd.R_alloc | apply Kd.R_drewN | apply Kd.R_drew)); exact HO249.out) hb); have n2_ := Aside0.mk (Kd.R_below (by (with_reducible repeat (first | apply Kd.R_alloc | apply Kd.R_drewN | apply Kd.R_drew)); exact HO259.out) hb); have n3_ := Aside0.mk (blk_below (g := gb233) (o := .cells #[.int .i64 a0_0, .int .i64 a0_1, .int .i64 a0_2, .slice A0_3 l0_3.length c0_3, .int .i64 a0_4, .int .i64 a0_5] 29 (0, 0)) (by (with_reducible repeat (first | refine blk_drewN ?_ _ | refine blk_drew ?_ | refine blk_alloc ?_ _)); exact BK233.out) hb); have n4_ := Aside0.mk (blk_below (g := gb242) (o := .cells #[.int .i64 t234, .int .i64 t235, .int .i64 t236, .slice Ao24 t237.length co24, .int .i64 t240, .int .i64 t241] 29 (0, 0)) (by (with_reducible repeat (first | refine blk_drewN ?_ _ | refine blk_drew ?_ | refine blk_alloc ?_ _)); exact BK242.out) hb); have n5_ := Aside0.mk (blk_below (g := gb253) (o := .cells #[.int .i64 t244, .int .i64 t245, .int .i64 t246, .slice Ao33 t247.length co33, .int .i64 t250, .int .i64 t251] 29 (0, 0)) (by (with_reducible repeat (first | refine blk_drewN ?_ _ | refine blk_drew ?_ | refine blk_alloc ?_ _)); exact BK253.out) hb); have n6_ := Aside0.mk (below_step (by repeat (first | (with_reducible first | exact HB.out | apply below_alloc | apply pw_below_drewN | apply below_drew1 | refine below_set ?_ GE233.out | refine below_set ?_ GE242.out | refine below_set ?_ GE253.out) | exact HB.out)) hb); have n7_ := Aside0.mk (hbox); have n8_ := Aside0.mk ((by rw [hg]; exact (below_size (by repeat (first | (with_reducible first | exact HB.out | apply below_alloc | apply pw_below_drewN | apply below_drew1 | refine below_set ?_ GE233.out | refine below_set ?_ GE242.out | refine below_set ?_ GE253.out) | exact HB.out))) : w.heap.size ≤ gb263)); have n9_ := Aside0.mk ((by rw [hg]; exact (below_size (by repeat (first | (with_reducible first | exact HB.out | apply below_alloc | apply pw_below_drewN | apply below_drew1 | refine below_set ?_ GE233.out | refine below_set ?_ GE242.out | refine below_set ?_ GE253.out) | exact HB.out))) : w.heap.size ≤ gb263)); have n10_ := Aside0.mk ((by rw [hg]; exact Nat.ne_of_lt (blk_lt (g := gb233) (o := .cells #[.int .i64 a0_0, .int .i64 a0_1, .int .i64 a0_2, .slice A0_3 l0_3.length c0_3, .int .i64 a0_4, .int .i64 a0_5] 29 (0, 0)) (by (with_reducible repeat (first | refine blk_drewN ?_ _ | refine blk_drew ?_ | refine blk_alloc ?_ _)); exact BK233.out)) : gb233 ≠ gb263)); have n11_ := Aside0.mk ((by rw [hg]; exact Nat.ne_of_gt (blk_lt (g := gb233) (o := .cells #[.int .i64 a0_0, .int .i64 a0_1, .int .i64 a0_2, .slice A0_3 l0_3.length c0_3, .int .i64 a0_4, .int .i64 a0_5] 29 (0, 0)) (by (with_reducible repeat (first | refine blk_drewN ?_ _ | refine blk_drew ?_ | refine blk_alloc ?_ _)); exact BK233.out)) : gb263 ≠ gb233)); have n12_ := Aside0.mk ((by rw [hg]; exact Nat.ne_of_lt (blk_lt (g := gb242) (o := .cells #[.int .i64 t234, .int .i64 t235, .int .i64 t236, .slice Ao24 t237.length co24, .int .i64 t240, .int .i64 t241] 29 (0, 0)) (by (with_reducible repeat (first | refine blk_drewN ?_ _ | refine blk_drew ?_ | refine blk_alloc ?_ _)); exact BK242.out)) : gb242 ≠ gb263)); have n13_ := Aside0.mk ((by rw [hg]; exact Nat.ne_of_gt (blk_lt (g := gb242) (o := .cells #[.int .i64 t234, .int .i64 t235, .int .i64 t236, .slice Ao24 t237.length co24, .int .i64 t240, .int .i64 t241] 29 (0, 0)) (by (with_reducible repeat (first | refine blk_drewN ?_ _ | refine blk_drew ?_ | refine blk_alloc ?_ _)); exact BK242.out)) : gb263 ≠ gb242)); have n14_ := Aside0.mk ((by rw [hg]; exact Nat.ne_of_lt (blk_lt (g := gb253) (o := .cells #[.int .i64 t244, .int .i64 t245, .int .i64 t246, .slice Ao33 t247.length co33, .int .i64 t250, .int .i64 t251] 29 (0, 0)) (by (with_reducible repeat (first | refine blk_drewN ?_ _ | refine blk_drew ?_ | refine blk_alloc ?_ _)); exact BK253.out)) : gb253 ≠ gb263)); have n15_ := Aside0.mk ((by rw [hg]; exact Nat.ne_of_gt (blk_lt (g := gb253) (o := .cells #[.int .i64 t244, .int .i64 t245, .int .i64 t246, .slice Ao33 t247.length co33, .int .i64 t250, .int .i64 t251] 29 (0, 0)) (by (with_reducible repeat (first | refine blk_drewN ?_ _ | refine blk_drew ?_ | refine blk_alloc ?_ _)); exact BK253.out)) : gb263 ≠ gb253)); clear HO239; clear HO249; clear HO259; clear BK233; clear BK242; clear BK253; clear HB; have HO239 := n0_; have HO249 := n1_; have HO259 := n2_; have BK233 := n3_; have BK242 := n4_; have BK253 := n5_; have HB := n6_; have BK263 := n7_; have GW263 := n8_; have GE263 := n9_; have NB233_263 := n10_; have NB263_233 := n11_; have NB242_263 := n12_; have NB263_242 := n13_; have NB253_263 := n14_; have NB263_253 := n15_; clear n0_ n1_ n2_ n3_ n4_ n5_ n6_ n7_ n8_ n9_ n10_ n11_ n12_ n13_ n14_ n15_; clear hb hbox hg; have hnb37 := NB263_233.out; have hnc37 := NB233_263.out; have hnb38 := NB263_242.out; have hnc38 := NB242_263.out; have hnb39 := NB263_253.out; have hnc39 := NB253_263.out; have hcz40_0 : w36.cell? ⟨gb263, 0, none⟩ = some (.int .i64 0) := (blk_cell BK263.out 0).trans rfl; have hcz40_1 : w36.cell? ⟨gb263, 1, none⟩ = some (.int .i64 0) := (blk_cell BK263.out 1).trans rfl; have hcz40_2 : w36.cell? ⟨gb263, 2, none⟩ = some (.int .i64 0) := (blk_cell BK263.out 2).trans rfl; have hcz40_3 : w36.cell? ⟨gb263, 3, none⟩ = some (.slice none 0 0) := (blk_cell BK263.out 3).trans rfl; have hcz40_4 : w36.cell? ⟨gb263, 4, none⟩ = some (.int .i64 0) := (blk_cell BK263.out 4).trans rfl; have hcz40_5 : w36.cell? ⟨gb263, 5, none⟩ = some (.int .i64 0) := (blk_cell BK263.out 5).trans rfl; have hfz40_0 := blk_frozen BK263.out 0; have hfz40_1 := blk_frozen BK263.out 1; have hfz40_2 := blk_frozen BK263.out 2; have hfz40_3 := blk_frozen BK263.out 3; have hfz40_4 := blk_frozen BK263.out 4; have hfz40_5 := blk_frozen BK263.out 5; obtain ⟨Ao41, co41, eo41⟩ := Kd.R_slice HO259.out; subst eo41))
            have n0_ : Aside0 (Kd.R k59 59 ((((((w36.setCell ⟨gb263, 0, none⟩ (.int .i64 t254)).setCell ⟨gb263, 1, none⟩ (.int .i64 t255)).setCell ⟨gb263, 2, none⟩ (.int .i64 t256)).setCell ⟨gb263, 3, none⟩ (.slice Ao41 t257.length co41)).setCell ⟨gb263, 4, none⟩ (.int .i64 t260)).setCell ⟨gb263, 5, none⟩ (.int .i64 t261)) w.heap.size (fun k_ => some k_ ≠ (.slice Ao33 t247.length co33 : Value).ownBlock ∧ some k_ ≠ (.slice Ao41 t257.length co41 : Value).ownBlock) (.slice Ao24 t237.length co24) t237) := ⟨by (with_reducible repeat (first | apply Kd.R_alloc | apply Kd.R_drewN | apply Kd.R_drew)); exact Kd.R_mono (Kd.R_far (p := ⟨gb263, 5, none⟩) (Kd.R_far (p := ⟨gb263, 4, none⟩) (Kd.R_far (p := ⟨gb263, 3, none⟩) (Kd.R_far (p := ⟨gb263, 2, none⟩) (Kd.R_far (p := ⟨gb263, 1, none⟩) (Kd.R_far (p := ⟨gb263, 0, none⟩) (Kd.R_types HO239.out BK263.out (by decide)) (fun _ hk => hk.2) (.int .i64 t254)) (fun _ hk => hk.2) (.int .i64 t255)) (fun _ hk => hk.2) (.int .i64 t256)) (fun _ hk => hk.2) (.slice Ao41 t257.length co41)) (fun _ hk => hk.2) (.int .i64 t260)) (fun _ hk => hk.2) (.int .i64 t261)) (fun _ hk => ⟨hk.1.1.2, hk.1.2⟩)⟩
            have n1_ : Aside0 (Kd.R k59 59 ((((((w36.setCell ⟨gb263, 0, none⟩ (.int .i64 t254)).setCell ⟨gb263, 1, none⟩ (.int .i64 t255)).setCell ⟨gb263, 2, none⟩ (.int .i64 t256)).setCell ⟨gb263, 3, none⟩ (.slice Ao41 t257.length co41)).setCell ⟨gb263, 4, none⟩ (.int .i64 t260)).setCell ⟨gb263, 5, none⟩ (.int .i64 t261)) w.heap.size (fun k_ => some k_ ≠ (.slice Ao24 t237.length co24 : Value).ownBlock ∧ some k_ ≠ (.slice Ao41 t257.length co41 : Value).ownBlock) (.slice Ao33 t247.length co33) t247) := ⟨by (with_reducible repeat (first | apply Kd.R_alloc | apply Kd.R_drewN | apply Kd.R_drew)); exact Kd.R_mono (Kd.R_far (p := ⟨gb263, 5, none⟩) (Kd.R_far (p := ⟨gb263, 4, none⟩) (Kd.R_far (p := ⟨gb263, 3, none⟩) (Kd.R_far (p := ⟨gb263, 2, none⟩) (Kd.R_far (p := ⟨gb263, 1, none⟩) (Kd.R_far (p := ⟨gb263, 0, none⟩) (Kd.R_types HO249.out BK263.out (by decide)) (fun _ hk => hk.2) (.int .i64 t254)) (fun _ hk => hk.2) (.int .i64 t255)) (fun _ hk => hk.2) (.int .i64 t256)) (fun _ hk => hk.2) (.slice Ao41 t257.length co41)) (fun _ hk => hk.2) (.int .i64 t260)) (fun _ hk => hk.2) (.int .i64 t261)) (fun _ hk => ⟨hk.1.1.2, hk.1.2⟩)⟩
            have n2_ : Aside0 (Kd.R k59 59 ((((((w36.setCell ⟨gb263, 0, none⟩ (.int .i64 t254)).setCell ⟨gb263, 1, none⟩ (.int .i64 t255)).setCell ⟨gb263, 2, none⟩ (.int .i64 t256)).setCell ⟨gb263, 3, none⟩ (.slice Ao41 t257.length co41)).setCell ⟨gb263, 4, none⟩ (.int .i64 t260)).setCell ⟨gb263, 5, none⟩ (.int .i64 t261)) w.heap.size (fun k_ => some k_ ≠ (.slice Ao24 t237.length co24 : Value).ownBlock ∧ some k_ ≠ (.slice Ao33 t247.length co33 : Value).ownBlock) (.slice Ao41 t257.length co41) t257) := ⟨by (with_reducible repeat (first | apply Kd.R_alloc | apply Kd.R_drewN | apply Kd.R_drew)); exact Kd.R_mono (Kd.R_far (p := ⟨gb263, 5, none⟩) (Kd.R_far (p := ⟨gb263, 4, none⟩) (Kd.R_far (p := ⟨gb263, 3, none⟩) (Kd.R_far (p := ⟨gb263, 2, none⟩) (Kd.R_far (p := ⟨gb263, 1, none⟩) (Kd.R_far (p := ⟨gb263, 0, none⟩) (Kd.R_types HO259.out BK263.out (by decide)) (fun _ hk => hk.2) (.int .i64 t254)) (fun _ hk => hk.2) (.int .i64 t255)) (fun _ hk => hk.2) (.int .i64 t256)) (fun _ hk => hk.2) (.slice Ao41 t257.length co41)) (fun _ hk => hk.2) (.int .i64 t260)) (fun _ hk => hk.2) (.int .i64 t261)) (fun _ hk => ⟨hk.1.1.2, hk.1.2⟩)⟩
            have n3_ : Aside0 (((((((w36.setCell ⟨gb263, 0, none⟩ (.int .i64 t254)).setCell ⟨gb263, 1, none⟩ (.int .i64 t255)).setCell ⟨gb263, 2, none⟩ (.int .i64 t256)).setCell ⟨gb263, 3, none⟩ (.slice Ao41 t257.length co41)).setCell ⟨gb263, 4, none⟩ (.int .i64 t260)).setCell ⟨gb263, 5, none⟩ (.int .i64 t261)).heap[gb233]? = some (.cells #[.int .i64 a0_0, .int .i64 a0_1, .int .i64 a0_2, .slice A0_3 l0_3.length c0_3, .int .i64 a0_4, .int .i64 a0_5] 29 (0, 0))) := ⟨by (with_reducible repeat (first | refine blk_drewN ?_ _ | refine blk_drew ?_ | refine blk_alloc ?_ _)); refine blk_far ?_ NB233_263.out _; (with_reducible repeat (first | refine blk_drewN ?_ _ | refine blk_drew ?_ | refine blk_alloc ?_ _)); refine blk_far ?_ NB233_263.out _; (with_reducible repeat (first | refine blk_drewN ?_ _ | refine blk_drew ?_ | refine blk_alloc ?_ _)); refine blk_far ?_ NB233_263.out _; (with_reducible repeat (first | refine blk_drewN ?_ _ | refine blk_drew ?_ | refine blk_alloc ?_ _)); refine blk_far ?_ NB233_263.out _; (with_reducible repeat (first | refine blk_drewN ?_ _ | refine blk_drew ?_ | refine blk_alloc ?_ _)); refine blk_far ?_ NB233_263.out _; (with_reducible repeat (first | refine blk_drewN ?_ _ | refine blk_drew ?_ | refine blk_alloc ?_ _)); refine blk_far ?_ NB233_263.out _; (with_reducible repeat (first | refine blk_drewN ?_ _ | refine blk_drew ?_ | refine blk_alloc ?_ _)); exact BK233.out⟩
            have n4_ : Aside0 (((((((w36.setCell ⟨gb263, 0, none⟩ (.int .i64 t254)).setCell ⟨gb263, 1, none⟩ (.int .i64 t255)).setCell ⟨gb263, 2, none⟩ (.int .i64 t256)).setCell ⟨gb263, 3, none⟩ (.slice Ao41 t257.length co41)).setCell ⟨gb263, 4, none⟩ (.int .i64 t260)).setCell ⟨gb263, 5, none⟩ (.int .i64 t261)).heap[gb242]? = some (.cells #[.int .i64 t234, .int .i64 t235, .int .i64 t236, .slice Ao24 t237.length co24, .int .i64 t240, .int .i64 t241] 29 (0, 0))) := ⟨by (with_reducible repeat (first | refine blk_drewN ?_ _ | refine blk_drew ?_ | refine blk_alloc ?_ _)); refine blk_far ?_ NB242_263.out _; (with_reducible repeat (first | refine blk_drewN ?_ _ | refine blk_drew ?_ | refine blk_alloc ?_ _)); refine blk_far ?_ NB242_263.out _; (with_reducible repeat (first | refine blk_drewN ?_ _ | refine blk_drew ?_ | refine blk_alloc ?_ _)); refine blk_far ?_ NB242_263.out _; (with_reducible repeat (first | refine blk_drewN ?_ _ | refine blk_drew ?_ | refine blk_alloc ?_ _)); refine blk_far ?_ NB242_263.out _; (with_reducible repeat (first | refine blk_drewN ?_ _ | refine blk_drew ?_ | refine blk_alloc ?_ _)); refine blk_far ?_ NB242_263.out _; (with_reducible repeat (first | refine blk_drewN ?_ _ | refine blk_drew ?_ | refine blk_alloc ?_ _)); refine blk_far ?_ NB242_263.out _; (with_reducible repeat (first | refine blk_drewN ?_ _ | refine blk_drew ?_ | refine blk_alloc ?_ _)); exact BK242.out⟩
            have n5_ : Aside0 (((((((w36.setCell ⟨gb263, 0, none⟩ (.int .i64 t254)).setCell ⟨gb263, 1, none⟩ (.int .i64 t255)).setCell ⟨gb263, 2, none⟩ (.int .i64 t256)).setCell ⟨gb263, 3, none⟩ (.slice Ao41 t257.length co41)).setCell ⟨gb263, 4, none⟩ (.int .i64 t260)).setCell ⟨gb263, 5, none⟩ (.int .i64 t261)).heap[gb253]? = some (.cells #[.int .i64 t244, .int .i64 t245, .int .i64 t246, .slice Ao33 t247.length co33, .int .i64 t250, .int .i64 t251] 29 (0, 0))) := ⟨by (with_reducible repeat (first | refine blk_drewN ?_ _ | refine blk_drew ?_ | refine blk_alloc ?_ _)); refine blk_far ?_ NB253_263.out _; (with_reducible repeat (first | refine blk_drewN ?_ _ | refine blk_drew ?_ | refine blk_alloc ?_ _)); refine blk_far ?_ NB253_263.out _; (with_reducible repeat (first | refine blk_drewN ?_ _ | refine blk_drew ?_ | refine blk_alloc ?_ _)); refine blk_far ?_ NB253_263.out _; (with_reducible repeat (first | refine blk_drewN ?_ _ | refine blk_drew ?_ | refine blk_alloc ?_ _)); refine blk_far ?_ NB253_263.out _; (with_reducible repeat (first | refine blk_drewN ?_ _ | refine blk_drew ?_ | refine blk_alloc ?_ _)); refine blk_far ?_ NB253_263.out _; (with_reducible repeat (first | refine blk_drewN ?_ _ | refine blk_drew ?_ | refine blk_alloc ?_ _)); refine blk_far ?_ NB253_263.out _; (with_reducible repeat (first | refine blk_drewN ?_ _ | refine blk_drew ?_ | refine blk_alloc ?_ _)); exact BK253.out⟩
            have n6_ : Aside0 (((((((w36.setCell ⟨gb263, 0, none⟩ (.int .i64 t254)).setCell ⟨gb263, 1, none⟩ (.int .i64 t255)).setCell ⟨gb263, 2, none⟩ (.int .i64 t256)).setCell ⟨gb263, 3, none⟩ (.slice Ao41 t257.length co41)).setCell ⟨gb263, 4, none⟩ (.int .i64 t260)).setCell ⟨gb263, 5, none⟩ (.int .i64 t261)).heap[gb263]? = some (.cells #[.int .i64 t254, .int .i64 t255, .int .i64 t256, .slice Ao41 t257.length co41, .int .i64 t260, .int .i64 t261] 29 (0, 0))) := ⟨by (with_reducible repeat (first | refine blk_drewN ?_ _ | refine blk_drew ?_ | refine blk_alloc ?_ _)); refine blk_put (cs := #[.int .i64 t254, .int .i64 t255, .int .i64 t256, .slice Ao41 t257.length co41, .int .i64 t260, .int .i64 0]) ?_ 5 _ rfl; (with_reducible repeat (first | refine blk_drewN ?_ _ | refine blk_drew ?_ | refine blk_alloc ?_ _)); refine blk_put (cs := #[.int .i64 t254, .int .i64 t255, .int .i64 t256, .slice Ao41 t257.length co41, .int .i64 0, .int .i64 0]) ?_ 4 _ rfl; (with_reducible repeat (first | refine blk_drewN ?_ _ | refine blk_drew ?_ | refine blk_alloc ?_ _)); refine blk_put (cs := #[.int .i64 t254, .int .i64 t255, .int .i64 t256, .slice none 0 0, .int .i64 0, .int .i64 0]) ?_ 3 _ rfl; (with_reducible repeat (first | refine blk_drewN ?_ _ | refine blk_drew ?_ | refine blk_alloc ?_ _)); refine blk_put (cs := #[.int .i64 t254, .int .i64 t255, .int .i64 0, .slice none 0 0, .int .i64 0, .int .i64 0]) ?_ 2 _ rfl; (with_reducible repeat (first | refine blk_drewN ?_ _ | refine blk_drew ?_ | refine blk_alloc ?_ _)); refine blk_put (cs := #[.int .i64 t254, .int .i64 0, .int .i64 0, .slice none 0 0, .int .i64 0, .int .i64 0]) ?_ 1 _ rfl; (with_reducible repeat (first | refine blk_drewN ?_ _ | refine blk_drew ?_ | refine blk_alloc ?_ _)); refine blk_put (cs := #[.int .i64 0, .int .i64 0, .int .i64 0, .slice none 0 0, .int .i64 0, .int .i64 0]) ?_ 0 _ rfl; (with_reducible repeat (first | refine blk_drewN ?_ _ | refine blk_drew ?_ | refine blk_alloc ?_ _)); exact BK263.out⟩
            have n7_ : Aside0 (Below w.heap.size w ((((((w36.setCell ⟨gb263, 0, none⟩ (.int .i64 t254)).setCell ⟨gb263, 1, none⟩ (.int .i64 t255)).setCell ⟨gb263, 2, none⟩ (.int .i64 t256)).setCell ⟨gb263, 3, none⟩ (.slice Ao41 t257.length co41)).setCell ⟨gb263, 4, none⟩ (.int .i64 t260)).setCell ⟨gb263, 5, none⟩ (.int .i64 t261))) := ⟨by repeat (first | (with_reducible first | exact HB.out | apply below_alloc | apply pw_below_drewN | apply below_drew1 | refine below_set ?_ GE233.out | refine below_set ?_ GE242.out | refine below_set ?_ GE253.out | refine below_set ?_ GE263.out) | exact HB.out)⟩
            (try clear HO239)
            (try clear HO249)
            (try clear HO259)
            (try clear BK233)
            (try clear BK242)
            (try clear BK253)
            (try clear BK263)
            (try clear HB)
            generalize ((((((w36.setCell ⟨gb263, 0, none⟩ (.int .i64 t254)).setCell ⟨gb263, 1, none⟩ (.int .i64 t255)).setCell ⟨gb263, 2, none⟩ (.int .i64 t256)).setCell ⟨gb263, 3, none⟩ (.slice Ao41 t257.length co41)).setCell ⟨gb263, 4, none⟩ (.int .i64 t260)).setCell ⟨gb263, 5, none⟩ (.int .i64 t261)) = w42 at n0_ n1_ n2_ n3_ n4_ n5_ n6_ n7_ ⊢
            have HO239 := n0_
            have HO249 := n1_
            have HO259 := n2_
            have BK233 := n3_
            have BK242 := n4_
            have BK253 := n5_
            have BK263 := n6_
            have HB := n7_
            clear n0_ n1_ n2_ n3_ n4_ n5_ n6_ n7_
            have n0_ := Aside0.mk (Kd.R_drew HO239.out)
            have n1_ := Aside0.mk (Kd.R_drew HO249.out)
            have n2_ := Aside0.mk (Kd.R_drew HO259.out)
            have n3_ := Aside0.mk (blk_drew BK233.out)
            have n4_ := Aside0.mk (blk_drew BK242.out)
            have n5_ := Aside0.mk (blk_drew BK253.out)
            have n6_ := Aside0.mk (blk_drew BK263.out)
            have n7_ := Aside0.mk (below_drew1 HB.out)
            clear HO239
            clear HO249
            clear HO259
            clear BK233
            clear BK242
            clear BK253
            clear BK263
            clear HB
            have HO239 := n0_
            have HO249 := n1_
            have HO259 := n2_
            have BK233 := n3_
            have BK242 := n4_
            have BK253 := n5_
            have BK263 := n6_
            have HB := n7_
            clear n0_ n1_ n2_ n3_ n4_ n5_ n6_ n7_
            refine start_ (n := 33) (S := fun w' => w'.cell? ⟨gb242, 0, none⟩ = some (.int .i64 t234) ∧ w'.cell? ⟨gb242, 1, none⟩ = some (.int .i64 t235) ∧ w'.cell? ⟨gb242, 2, none⟩ = some (.int .i64 t236) ∧ w'.cell? ⟨gb242, 3, none⟩ = some (.slice Ao24 t237.length co24) ∧ w'.cell? ⟨gb242, 4, none⟩ = some (.int .i64 t240) ∧ w'.cell? ⟨gb242, 5, none⟩ = some (.int .i64 t241) ∧ w'.cell? ⟨gb233, 0, none⟩ = some (.int .i64 a0_0) ∧ w'.cell? ⟨gb233, 1, none⟩ = some (.int .i64 a0_1) ∧ w'.cell? ⟨gb233, 2, none⟩ = some (.int .i64 a0_2) ∧ w'.cell? ⟨gb233, 3, none⟩ = some (.slice A0_3 l0_3.length c0_3) ∧ w'.cell? ⟨gb233, 4, none⟩ = some (.int .i64 a0_4) ∧ w'.cell? ⟨gb233, 5, none⟩ = some (.int .i64 a0_5) ∧ w'.cell? ⟨gb253, 0, none⟩ = some (.int .i64 t244) ∧ w'.cell? ⟨gb253, 1, none⟩ = some (.int .i64 t245) ∧ w'.cell? ⟨gb253, 2, none⟩ = some (.int .i64 t246) ∧ w'.cell? ⟨gb253, 3, none⟩ = some (.slice Ao33 t247.length co33) ∧ w'.cell? ⟨gb253, 4, none⟩ = some (.int .i64 t250) ∧ w'.cell? ⟨gb253, 5, none⟩ = some (.int .i64 t251) ∧ w'.cell? ⟨gb263, 0, none⟩ = some (.int .i64 t254) ∧ w'.cell? ⟨gb263, 1, none⟩ = some (.int .i64 t255) ∧ w'.cell? ⟨gb263, 2, none⟩ = some (.int .i64 t256) ∧ w'.cell? ⟨gb263, 3, none⟩ = some (.slice Ao41 t257.length co41) ∧ w'.cell? ⟨gb263, 4, none⟩ = some (.int .i64 t260) ∧ w'.cell? ⟨gb263, 5, none⟩ = some (.int .i64 t261)) (ds := []) #[false, false, false, false, false, false, false, false, false, false, false, false, false, false, false, false, false, false, false, false, false, false, false, false, false, false, false, false, false, false, false, false, false] (by kernel_rfl) rfl rfl ⟨(blk_cell BK242.out 0).trans rfl, (blk_cell BK242.out 1).trans rfl, (blk_cell BK242.out 2).trans rfl, (blk_cell BK242.out 3).trans rfl, (blk_cell BK242.out 4).trans rfl, (blk_cell BK242.out 5).trans rfl, (blk_cell BK233.out 0).trans rfl, (blk_cell BK233.out 1).trans rfl, (blk_cell BK233.out 2).trans rfl, (blk_cell BK233.out 3).trans rfl, (blk_cell BK233.out 4).trans rfl, (blk_cell BK233.out 5).trans rfl, (blk_cell BK253.out 0).trans rfl, (blk_cell BK253.out 1).trans rfl, (blk_cell BK253.out 2).trans rfl, (blk_cell BK253.out 3).trans rfl, (blk_cell BK253.out 4).trans rfl, (blk_cell BK253.out 5).trans rfl, (blk_cell BK263.out 0).trans rfl, (blk_cell BK263.out 1).trans rfl, (blk_cell BK263.out 2).trans rfl, (blk_cell BK263.out 3).trans rfl, (blk_cell BK263.out 4).trans rfl, (blk_cell BK263.out 5).trans rfl⟩ (fun hHeld => ?_); refine with_tabW folkmootlaw20_LeaseChecks.tab7 folkmootlaw20_LeaseChecks.bits7 (fun HT_ HW_ => ?_)
            generalize w42.drew = w43 at HO239 HO249 HO259 BK233 BK242 BK253 BK263 HB hHeld ⊢
            refine one_ (i := 0) (N := some 27) #[true, false, false, false, false, false, false, false, false, false, false, false, false, false, false, false, false, false, false, false, false, false, false, false, false, false, false, false, false, false, false, false, false] rfl rfl (one_of HT_.out (by kernel_rfl)) (by decide) (fun K hK => ?_)
            refine goes_ Try.func16 (by kernel_rfl) rfl #[] (by rfl) rfl rfl (by (try simp only [List.map_toArray, List.map_cons, List.map_nil]); first | done | rfl | (simp only [List.length_drop, List.length_take]; rfl)) ?_
            with_reducible refine (folkmootlaw20_good.calls k  true _ A9.out).mono ?_
            rintro e w44 ⟨rfl, hb⟩
            refine ⟨_, rfl, ?_⟩
            have n0_ := Aside0.mk (Kd.R_below (by (with_reducible repeat (first | apply Kd.R_alloc | apply Kd.R_drewN | apply Kd.R_drew)); exact HO239.out) hb)
            have n1_ := Aside0.mk (Kd.R_below (by (with_reducible repeat (first | apply Kd.R_alloc | apply Kd.R_drewN | apply Kd.R_drew)); exact HO249.out) hb)
            have n2_ := Aside0.mk (Kd.R_below (by (with_reducible repeat (first | apply Kd.R_alloc | apply Kd.R_drewN | apply Kd.R_drew)); exact HO259.out) hb)
            have n3_ := Aside0.mk (blk_below (g := gb233) (o := .cells #[.int .i64 a0_0, .int .i64 a0_1, .int .i64 a0_2, .slice A0_3 l0_3.length c0_3, .int .i64 a0_4, .int .i64 a0_5] 29 (0, 0)) (by (with_reducible repeat (first | refine blk_drewN ?_ _ | refine blk_drew ?_ | refine blk_alloc ?_ _)); exact BK233.out) hb)
            have n4_ := Aside0.mk (blk_below (g := gb242) (o := .cells #[.int .i64 t234, .int .i64 t235, .int .i64 t236, .slice Ao24 t237.length co24, .int .i64 t240, .int .i64 t241] 29 (0, 0)) (by (with_reducible repeat (first | refine blk_drewN ?_ _ | refine blk_drew ?_ | refine blk_alloc ?_ _)); exact BK242.out) hb)
            have n5_ := Aside0.mk (blk_below (g := gb253) (o := .cells #[.int .i64 t244, .int .i64 t245, .int .i64 t246, .slice Ao33 t247.length co33, .int .i64 t250, .int .i64 t251] 29 (0, 0)) (by (with_reducible repeat (first | refine blk_drewN ?_ _ | refine blk_drew ?_ | refine blk_alloc ?_ _)); exact BK253.out) hb)
            have n6_ := Aside0.mk (blk_below (g := gb263) (o := .cells #[.int .i64 t254, .int .i64 t255, .int .i64 t256, .slice Ao41 t257.length co41, .int .i64 t260, .int .i64 t261] 29 (0, 0)) (by (with_reducible repeat (first | refine blk_drewN ?_ _ | refine blk_drew ?_ | refine blk_alloc ?_ _)); exact BK263.out) hb)
            have n7_ := Aside0.mk (below_step (by repeat (first | (with_reducible first | exact HB.out | apply below_alloc | apply pw_below_drewN | apply below_drew1 | refine below_set ?_ GE233.out | refine below_set ?_ GE242.out | refine below_set ?_ GE253.out | refine below_set ?_ GE263.out) | exact HB.out)) hb)
            clear HO239
            clear HO249
            clear HO259
            clear BK233
            clear BK242
            clear BK253
            clear BK263
            clear HB
            have HO239 := n0_
            have HO249 := n1_
            have HO259 := n2_
            have BK233 := n3_
            have BK242 := n4_
            have BK253 := n5_
            have BK263 := n6_
            have HB := n7_
            clear n0_ n1_ n2_ n3_ n4_ n5_ n6_ n7_
            (try clear hb)
            (try clear hb2)
            (try clear hk)
            (try clear hi)
            refine hK.out _ _ ⟨(blk_cell BK242.out 0).trans rfl, (blk_cell BK242.out 1).trans rfl, (blk_cell BK242.out 2).trans rfl, (blk_cell BK242.out 3).trans rfl, (blk_cell BK242.out 4).trans rfl, (blk_cell BK242.out 5).trans rfl, (blk_cell BK233.out 0).trans rfl, (blk_cell BK233.out 1).trans rfl, (blk_cell BK233.out 2).trans rfl, (blk_cell BK233.out 3).trans rfl, (blk_cell BK233.out 4).trans rfl, (blk_cell BK233.out 5).trans rfl, (blk_cell BK253.out 0).trans rfl, (blk_cell BK253.out 1).trans rfl, (blk_cell BK253.out 2).trans rfl, (blk_cell BK253.out 3).trans rfl, (blk_cell BK253.out 4).trans rfl, (blk_cell BK253.out 5).trans rfl, (blk_cell BK263.out 0).trans rfl, (blk_cell BK263.out 1).trans rfl, (blk_cell BK263.out 2).trans rfl, (blk_cell BK263.out 3).trans rfl, (blk_cell BK263.out 4).trans rfl, (blk_cell BK263.out 5).trans rfl⟩ (fun hHeld => ?_)
            clear hK K
            refine norm_ (a' := ?_) ?_ ?_
            rotate_left
            · show Act.put _ (some 27) _ = _
              simp only [Act.put, List.setIfInBounds_toArray, List.set_cons_zero, List.set_cons_succ, i64_w, i32_w]
              rfl
            refine pure_ (i := 1) (N := some 28) (v := ?_) (a' := ?_) #[true, true, false, false, false, false, false, false, false, false, false, false, false, false, false, false, false, false, false, false, false, false, false, false, false, false, false, false, false, false, false, false, false] rfl rfl (any_of HT_.out (by kernel_rfl)) (fun _ _ _ h => h) (Or.inl ⟨by rfl, ?_⟩) ?_ ?_
            rotate_left
            · intro w'
              go_simp
              with_reducible rfl
            rotate_left
            · simp only [Act.put, List.setIfInBounds_toArray, List.set_cons_zero, List.set_cons_succ, i64_w, i32_w]
              rfl
            refine pure_ (i := 2) (N := some 29) (v := ?_) (a' := ?_) #[true, true, true, false, false, false, false, false, false, false, false, false, false, false, false, false, false, false, false, false, false, false, false, false, false, false, false, false, false, false, false, false, false] rfl rfl (any_of HT_.out (by kernel_rfl)) (fun _ _ _ h => h) (Or.inl ⟨by rfl, ?_⟩) ?_ ?_
            rotate_left
            · intro w'
              go_simp
              with_reducible rfl
            rotate_left
            · simp only [Act.put, List.setIfInBounds_toArray, List.set_cons_zero, List.set_cons_succ, i64_w, i32_w]
              rfl
            refine pure_ (i := 3) (N := some 30) (v := ?_) (a' := ?_) #[true, true, true, true, false, false, false, false, false, false, false, false, false, false, false, false, false, false, false, false, false, false, false, false, false, false, false, false, false, false, false, false, false] rfl rfl (any_of HT_.out (by kernel_rfl)) (fun _ _ _ h => h) (Or.inl ⟨by rfl, ?_⟩) ?_ ?_
            rotate_left
            · intro w'
              go_simp
              with_reducible rfl
            rotate_left
            · simp only [Act.put, List.setIfInBounds_toArray, List.set_cons_zero, List.set_cons_succ, i64_w, i32_w]
              rfl
            refine take_ (i := 4) (N := some 31) (v := ?_) (a' := ?_) #[true, true, true, true, true, false, false, false, false, false, false, false, false, false, false, false, false, false, false, false, false, false, false, false, false, false, false, false, false, false, false, false, false] rfl rfl (take_ofW HT_.out HW_.out (by kernel_rfl)) (fun _ _ _ h => h) (Or.inl ⟨by rfl, ?_⟩) hHeld ?_ ?_
            rotate_left
            · rintro w' ⟨s0, s1, s2, s3, s4, s5, s6, s7, s8, s9, s10, s11, s12, s13, s14, s15, s16, s17, s18, s19, s20, s21, s22, s23⟩
              go_simp
              with_reducible rfl
            rotate_left
            · simp only [Act.put, List.setIfInBounds_toArray, List.set_cons_zero, List.set_cons_succ, i64_w, i32_w]
              rfl
            refine one_ (i := 5) (N := some 32) #[true, true, true, true, true, true, false, false, false, false, false, false, false, false, false, false, false, false, false, false, false, false, false, false, false, false, false, false, false, false, false, false, false] rfl rfl (one_of HT_.out (by kernel_rfl)) (by decide) (fun K hK => ?_)
            refine goes_ Try.func17 (by kernel_rfl) rfl #[.agg #[.int .i64 t234, .int .i64 t235, .int .i64 t236, .slice Ao24 t237.length co24, .int .i64 t240, .int .i64 t241]] (by rfl) rfl rfl (by (try simp only [List.map_toArray, List.map_cons, List.map_nil]); first | done | rfl | (simp only [List.length_drop, List.length_take]; rfl)) ?_
            with_reducible refine (folkmootref20_Right.calls t234 t235 t236 _ _ t237 t240 t241 t265 _ ?side1 ?side2 A11.out).mono ?_
            (case side1 => repeat (first | exact (Kd.R_reads' HO239.out).2.2 | (with_reducible refine Kd.C_alloc ?_ _) | (with_reducible refine Kd.C_drewN ?_ _) | (with_reducible refine Kd.C_drew ?_)))
            (case side2 => exact (Kd.R_reads' HO239.out).2.1)
            rintro e w45 ⟨rfl, hb⟩
            refine ⟨_, rfl, ?_⟩
            have n0_ := Aside0.mk (Kd.R_below (by (with_reducible repeat (first | apply Kd.R_alloc | apply Kd.R_drewN | apply Kd.R_drew)); exact HO239.out) hb)
            have n1_ := Aside0.mk (Kd.R_below (by (with_reducible repeat (first | apply Kd.R_alloc | apply Kd.R_drewN | apply Kd.R_drew)); exact HO249.out) hb)
            have n2_ := Aside0.mk (Kd.R_below (by (with_reducible repeat (first | apply Kd.R_alloc | apply Kd.R_drewN | apply Kd.R_drew)); exact HO259.out) hb)
            have n3_ := Aside0.mk (blk_below (g := gb233) (o := .cells #[.int .i64 a0_0, .int .i64 a0_1, .int .i64 a0_2, .slice A0_3 l0_3.length c0_3, .int .i64 a0_4, .int .i64 a0_5] 29 (0, 0)) (by (with_reducible repeat (first | refine blk_drewN ?_ _ | refine blk_drew ?_ | refine blk_alloc ?_ _)); exact BK233.out) hb)
            have n4_ := Aside0.mk (blk_below (g := gb242) (o := .cells #[.int .i64 t234, .int .i64 t235, .int .i64 t236, .slice Ao24 t237.length co24, .int .i64 t240, .int .i64 t241] 29 (0, 0)) (by (with_reducible repeat (first | refine blk_drewN ?_ _ | refine blk_drew ?_ | refine blk_alloc ?_ _)); exact BK242.out) hb)
            have n5_ := Aside0.mk (blk_below (g := gb253) (o := .cells #[.int .i64 t244, .int .i64 t245, .int .i64 t246, .slice Ao33 t247.length co33, .int .i64 t250, .int .i64 t251] 29 (0, 0)) (by (with_reducible repeat (first | refine blk_drewN ?_ _ | refine blk_drew ?_ | refine blk_alloc ?_ _)); exact BK253.out) hb)
            have n6_ := Aside0.mk (blk_below (g := gb263) (o := .cells #[.int .i64 t254, .int .i64 t255, .int .i64 t256, .slice Ao41 t257.length co41, .int .i64 t260, .int .i64 t261] 29 (0, 0)) (by (with_reducible repeat (first | refine blk_drewN ?_ _ | refine blk_drew ?_ | refine blk_alloc ?_ _)); exact BK263.out) hb)
            have n7_ := Aside0.mk (below_step (by repeat (first | (with_reducible first | exact HB.out | apply below_alloc | apply pw_below_drewN | apply below_drew1 | refine below_set ?_ GE233.out | refine below_set ?_ GE242.out | refine below_set ?_ GE253.out | refine below_set ?_ GE263.out) | exact HB.out)) hb)
            clear HO239
            clear HO249
            clear HO259
            clear BK233
            clear BK242
            clear BK253
            clear BK263
            clear HB
            have HO239 := n0_
            have HO249 := n1_
            have HO259 := n2_
            have BK233 := n3_
            have BK242 := n4_
            have BK253 := n5_
            have BK263 := n6_
            have HB := n7_
            clear n0_ n1_ n2_ n3_ n4_ n5_ n6_ n7_
            (try clear hb)
            (try clear hb2)
            (try clear hk)
            (try clear hi)
            refine hK.out _ _ ⟨(blk_cell BK242.out 0).trans rfl, (blk_cell BK242.out 1).trans rfl, (blk_cell BK242.out 2).trans rfl, (blk_cell BK242.out 3).trans rfl, (blk_cell BK242.out 4).trans rfl, (blk_cell BK242.out 5).trans rfl, (blk_cell BK233.out 0).trans rfl, (blk_cell BK233.out 1).trans rfl, (blk_cell BK233.out 2).trans rfl, (blk_cell BK233.out 3).trans rfl, (blk_cell BK233.out 4).trans rfl, (blk_cell BK233.out 5).trans rfl, (blk_cell BK253.out 0).trans rfl, (blk_cell BK253.out 1).trans rfl, (blk_cell BK253.out 2).trans rfl, (blk_cell BK253.out 3).trans rfl, (blk_cell BK253.out 4).trans rfl, (blk_cell BK253.out 5).trans rfl, (blk_cell BK263.out 0).trans rfl, (blk_cell BK263.out 1).trans rfl, (blk_cell BK263.out 2).trans rfl, (blk_cell BK263.out 3).trans rfl, (blk_cell BK263.out 4).trans rfl, (blk_cell BK263.out 5).trans rfl⟩ (fun hHeld => ?_)
            clear hK K
            refine norm_ (a' := ?_) ?_ ?_
            rotate_left
            · show Act.put _ (some 32) _ = _
              simp only [Act.put, List.setIfInBounds_toArray, List.set_cons_zero, List.set_cons_succ, i64_w, i32_w]
              rfl
            refine pure_ (i := 6) (N := some 33) (v := ?_) (a' := ?_) #[true, true, true, true, true, true, true, false, false, false, false, false, false, false, false, false, false, false, false, false, false, false, false, false, false, false, false, false, false, false, false, false, false] rfl rfl (any_of HT_.out (by kernel_rfl)) (fun _ _ _ h => h) (Or.inl ⟨by rfl, ?_⟩) ?_ ?_
            rotate_left
            · intro w'
              go_simp
              with_reducible rfl
            rotate_left
            · simp only [Act.put, List.setIfInBounds_toArray, List.set_cons_zero, List.set_cons_succ, i64_w, i32_w]
              rfl
            refine pure_ (i := 7) (N := some 34) (v := ?_) (a' := ?_) #[true, true, true, true, true, true, true, true, false, false, false, false, false, false, false, false, false, false, false, false, false, false, false, false, false, false, false, false, false, false, false, false, false] rfl rfl (any_of HT_.out (by kernel_rfl)) (fun _ _ _ h => h) (Or.inl ⟨by rfl, ?_⟩) ?_ ?_
            rotate_left
            · intro w'
              go_simp
              with_reducible rfl
            rotate_left
            · simp only [Act.put, List.setIfInBounds_toArray, List.set_cons_zero, List.set_cons_succ, i64_w, i32_w]
              rfl
            refine pure_ (i := 8) (N := some 35) (v := ?_) (a' := ?_) #[true, true, true, true, true, true, true, true, true, false, false, false, false, false, false, false, false, false, false, false, false, false, false, false, false, false, false, false, false, false, false, false, false] rfl rfl (any_of HT_.out (by kernel_rfl)) (fun _ _ _ h => h) (Or.inl ⟨by rfl, ?_⟩) ?_ ?_
            rotate_left
            · intro w'
              go_simp
              with_reducible rfl
            rotate_left
            · simp only [Act.put, List.setIfInBounds_toArray, List.set_cons_zero, List.set_cons_succ, i64_w, i32_w]
              rfl
            refine pure_ (i := 9) (N := some 36) (v := ?_) (a' := ?_) #[true, true, true, true, true, true, true, true, true, true, false, false, false, false, false, false, false, false, false, false, false, false, false, false, false, false, false, false, false, false, false, false, false] rfl rfl (any_of HT_.out (by kernel_rfl)) (fun _ _ _ h => h) (Or.inl ⟨by rfl, ?_⟩) ?_ ?_
            rotate_left
            · intro w'
              go_simp
              with_reducible rfl
            rotate_left
            · simp only [Act.put, List.setIfInBounds_toArray, List.set_cons_zero, List.set_cons_succ, i64_w, i32_w]
              rfl
            refine pure_ (i := 10) (N := some 37) (v := ?_) (a' := ?_) #[true, true, true, true, true, true, true, true, true, true, true, false, false, false, false, false, false, false, false, false, false, false, false, false, false, false, false, false, false, false, false, false, false] rfl rfl (any_of HT_.out (by kernel_rfl)) (fun _ _ _ h => h) (Or.inl ⟨by rfl, ?_⟩) ?_ ?_
            rotate_left
            · intro w'
              go_simp
              with_reducible rfl
            rotate_left
            · simp only [Act.put, List.setIfInBounds_toArray, List.set_cons_zero, List.set_cons_succ, i64_w, i32_w]
              rfl
            refine pure_ (i := 11) (N := some 38) (v := ?_) (a' := ?_) #[true, true, true, true, true, true, true, true, true, true, true, true, false, false, false, false, false, false, false, false, false, false, false, false, false, false, false, false, false, false, false, false, false] rfl rfl (any_of HT_.out (by kernel_rfl)) (fun _ _ _ h => h) (Or.inl ⟨by rfl, ?_⟩) ?_ ?_
            rotate_left
            · intro w'
              go_simp
              with_reducible rfl
            rotate_left
            · simp only [Act.put, List.setIfInBounds_toArray, List.set_cons_zero, List.set_cons_succ, i64_w, i32_w]
              rfl
            refine pure_ (i := 12) (N := some 39) (v := undef) (a' := ?_) #[true, true, true, true, true, true, true, true, true, true, true, true, true, false, false, false, false, false, false, false, false, false, false, false, false, false, false, false, false, false, false, false, false] rfl rfl (any_of HT_.out (by kernel_rfl)) (fun _ _ _ h => h) (Or.inr ⟨by rfl, rfl⟩) ?_ ?_
            rotate_left
            · simp only [Act.put, List.setIfInBounds_toArray, List.set_cons_zero, List.set_cons_succ, i64_w, i32_w]
              rfl
            refine pure_ (i := 13) (N := some 40) (v := undef) (a' := ?_) #[true, true, true, true, true, true, true, true, true, true, true, true, true, true, false, false, false, false, false, false, false, false, false, false, false, false, false, false, false, false, false, false, false] rfl rfl (any_of HT_.out (by kernel_rfl)) (fun _ _ _ h => h) (Or.inr ⟨by rfl, rfl⟩) ?_ ?_
            rotate_left
            · simp only [Act.put, List.setIfInBounds_toArray, List.set_cons_zero, List.set_cons_succ, i64_w, i32_w]
              rfl
            refine pure_ (i := 14) (N := some 41) (v := ?_) (a' := ?_) #[true, true, true, true, true, true, true, true, true, true, true, true, true, true, true, false, false, false, false, false, false, false, false, false, false, false, false, false, false, false, false, false, false] rfl rfl (any_of HT_.out (by kernel_rfl)) (fun _ _ _ h => h) (Or.inl ⟨by rfl, ?_⟩) ?_ ?_
            rotate_left
            · intro w'
              go_simp
              with_reducible rfl
            rotate_left
            · simp only [Act.put, List.setIfInBounds_toArray, List.set_cons_zero, List.set_cons_succ, i64_w, i32_w]
              rfl
            refine pure_ (i := 15) (N := some 42) (v := ?_) (a' := ?_) #[true, true, true, true, true, true, true, true, true, true, true, true, true, true, true, true, false, false, false, false, false, false, false, false, false, false, false, false, false, false, false, false, false] rfl rfl (any_of HT_.out (by kernel_rfl)) (fun _ _ _ h => h) (Or.inl ⟨by rfl, ?_⟩) ?_ ?_
            rotate_left
            · intro w'
              go_simp
              with_reducible rfl
            rotate_left
            · simp only [Act.put, List.setIfInBounds_toArray, List.set_cons_zero, List.set_cons_succ, i64_w, i32_w]
              rfl
            refine pure_ (i := 16) (N := some 43) (v := ?_) (a' := ?_) #[true, true, true, true, true, true, true, true, true, true, true, true, true, true, true, true, true, false, false, false, false, false, false, false, false, false, false, false, false, false, false, false, false] rfl rfl (any_of HT_.out (by kernel_rfl)) (fun _ _ _ h => h) (Or.inl ⟨by rfl, ?_⟩) ?_ ?_
            rotate_left
            · intro w'
              go_simp
              with_reducible rfl
            rotate_left
            · simp only [Act.put, List.setIfInBounds_toArray, List.set_cons_zero, List.set_cons_succ, i64_w, i32_w]
              rfl
            refine take_ (i := 17) (N := some 44) (v := ?_) (a' := ?_) #[true, true, true, true, true, true, true, true, true, true, true, true, true, true, true, true, true, true, false, false, false, false, false, false, false, false, false, false, false, false, false, false, false] rfl rfl (take_ofW HT_.out HW_.out (by kernel_rfl)) (fun _ _ _ h => h) (Or.inl ⟨by rfl, ?_⟩) hHeld ?_ ?_
            rotate_left
            · rintro w' ⟨s0, s1, s2, s3, s4, s5, s6, s7, s8, s9, s10, s11, s12, s13, s14, s15, s16, s17, s18, s19, s20, s21, s22, s23⟩
              go_simp
              with_reducible rfl
            rotate_left
            · simp only [Act.put, List.setIfInBounds_toArray, List.set_cons_zero, List.set_cons_succ, i64_w, i32_w]
              rfl
            refine take_ (i := 19) (N := some 46) (v := ?_) (a' := ?_) #[true, true, true, true, true, true, true, true, true, true, true, true, true, true, true, true, true, true, false, true, false, false, false, false, false, false, false, false, false, false, false, false, false] rfl rfl (take_ofW HT_.out HW_.out (by kernel_rfl)) (fun _ _ _ h => h) (Or.inl ⟨by rfl, ?_⟩) hHeld ?_ ?_
            rotate_left
            · rintro w' ⟨s0, s1, s2, s3, s4, s5, s6, s7, s8, s9, s10, s11, s12, s13, s14, s15, s16, s17, s18, s19, s20, s21, s22, s23⟩
              go_simp
              with_reducible rfl
            rotate_left
            · simp only [Act.put, List.setIfInBounds_toArray, List.set_cons_zero, List.set_cons_succ, i64_w, i32_w]
              rfl
            refine one_ (i := 18) (N := some 45) #[true, true, true, true, true, true, true, true, true, true, true, true, true, true, true, true, true, true, true, true, false, false, false, false, false, false, false, false, false, false, false, false, false] rfl rfl (one_of HT_.out (by kernel_rfl)) (by decide) (fun K hK => ?_)
            refine goes_ Try.func18 (by kernel_rfl) rfl #[.agg #[.int .i64 a0_0, .int .i64 a0_1, .int .i64 a0_2, .slice A0_3 l0_3.length c0_3, .int .i64 a0_4, .int .i64 a0_5]] (by rfl) rfl rfl (by (try simp only [List.map_toArray, List.map_cons, List.map_nil]); first | done | rfl | (simp only [List.length_drop, List.length_take]; rfl)) ?_
            with_reducible refine (lease_Good.calls k a0_0 a0_1 a0_2 _ _ l0_3 a0_4 a0_5 t266 _ ?side1 ?side2 A14.out).mono ?_
            (case side1 => repeat (first | exact (Kd.C_below HR0_3.out HB.out) | (with_reducible refine Kd.C_alloc ?_ _) | (with_reducible refine Kd.C_drewN ?_ _) | (with_reducible refine Kd.C_drew ?_)))
            (case side2 => exact HC0_3.out)
            rintro e w46 ⟨rfl, hb⟩
            refine ⟨_, rfl, ?_⟩
            have n0_ := Aside0.mk (Kd.R_below (by (with_reducible repeat (first | apply Kd.R_alloc | apply Kd.R_drewN | apply Kd.R_drew)); exact HO239.out) hb)
            have n1_ := Aside0.mk (Kd.R_below (by (with_reducible repeat (first | apply Kd.R_alloc | apply Kd.R_drewN | apply Kd.R_drew)); exact HO249.out) hb)
            have n2_ := Aside0.mk (Kd.R_below (by (with_reducible repeat (first | apply Kd.R_alloc | apply Kd.R_drewN | apply Kd.R_drew)); exact HO259.out) hb)
            have n3_ := Aside0.mk (blk_below (g := gb233) (o := .cells #[.int .i64 a0_0, .int .i64 a0_1, .int .i64 a0_2, .slice A0_3 l0_3.length c0_3, .int .i64 a0_4, .int .i64 a0_5] 29 (0, 0)) (by (with_reducible repeat (first | refine blk_drewN ?_ _ | refine blk_drew ?_ | refine blk_alloc ?_ _)); exact BK233.out) hb)
            have n4_ := Aside0.mk (blk_below (g := gb242) (o := .cells #[.int .i64 t234, .int .i64 t235, .int .i64 t236, .slice Ao24 t237.length co24, .int .i64 t240, .int .i64 t241] 29 (0, 0)) (by (with_reducible repeat (first | refine blk_drewN ?_ _ | refine blk_drew ?_ | refine blk_alloc ?_ _)); exact BK242.out) hb)
            have n5_ := Aside0.mk (blk_below (g := gb253) (o := .cells #[.int .i64 t244, .int .i64 t245, .int .i64 t246, .slice Ao33 t247.length co33, .int .i64 t250, .int .i64 t251] 29 (0, 0)) (by (with_reducible repeat (first | refine blk_drewN ?_ _ | refine blk_drew ?_ | refine blk_alloc ?_ _)); exact BK253.out) hb)
            have n6_ := Aside0.mk (blk_below (g := gb263) (o := .cells #[.int .i64 t254, .int .i64 t255, .int .i64 t256, .slice Ao41 t257.length co41, .int .i64 t260, .int .i64 t261] 29 (0, 0)) (by (with_reducible repeat (first | refine blk_drewN ?_ _ | refine blk_drew ?_ | refine blk_alloc ?_ _)); exact BK263.out) hb)
            have n7_ := Aside0.mk (below_step (by repeat (first | (with_reducible first | exact HB.out | apply below_alloc | apply pw_below_drewN | apply below_drew1 | refine below_set ?_ GE233.out | refine below_set ?_ GE242.out | refine below_set ?_ GE253.out | refine below_set ?_ GE263.out) | exact HB.out)) hb)
            clear HO239
            clear HO249
            clear HO259
            clear BK233
            clear BK242
            clear BK253
            clear BK263
            clear HB
            have HO239 := n0_
            have HO249 := n1_
            have HO259 := n2_
            have BK233 := n3_
            have BK242 := n4_
            have BK253 := n5_
            have BK263 := n6_
            have HB := n7_
            clear n0_ n1_ n2_ n3_ n4_ n5_ n6_ n7_
            (try clear hb)
            (try clear hb2)
            (try clear hk)
            (try clear hi)
            refine hK.out _ _ ⟨(blk_cell BK242.out 0).trans rfl, (blk_cell BK242.out 1).trans rfl, (blk_cell BK242.out 2).trans rfl, (blk_cell BK242.out 3).trans rfl, (blk_cell BK242.out 4).trans rfl, (blk_cell BK242.out 5).trans rfl, (blk_cell BK233.out 0).trans rfl, (blk_cell BK233.out 1).trans rfl, (blk_cell BK233.out 2).trans rfl, (blk_cell BK233.out 3).trans rfl, (blk_cell BK233.out 4).trans rfl, (blk_cell BK233.out 5).trans rfl, (blk_cell BK253.out 0).trans rfl, (blk_cell BK253.out 1).trans rfl, (blk_cell BK253.out 2).trans rfl, (blk_cell BK253.out 3).trans rfl, (blk_cell BK253.out 4).trans rfl, (blk_cell BK253.out 5).trans rfl, (blk_cell BK263.out 0).trans rfl, (blk_cell BK263.out 1).trans rfl, (blk_cell BK263.out 2).trans rfl, (blk_cell BK263.out 3).trans rfl, (blk_cell BK263.out 4).trans rfl, (blk_cell BK263.out 5).trans rfl⟩ (fun hHeld => ?_)
            clear hK K
            refine norm_ (a' := ?_) ?_ ?_
            rotate_left
            · show Act.put _ (some 45) _ = _
              simp only [Act.put, List.setIfInBounds_toArray, List.set_cons_zero, List.set_cons_succ, i64_w, i32_w]
              rfl
            refine one_ (i := 20) (N := some 47) #[true, true, true, true, true, true, true, true, true, true, true, true, true, true, true, true, true, true, true, true, true, false, false, false, false, false, false, false, false, false, false, false, false] rfl rfl (one_of HT_.out (by kernel_rfl)) (by decide) (fun K hK => ?_)
            refine goes_ Try.func19 (by kernel_rfl) rfl #[.agg #[.int .i64 t234, .int .i64 t235, .int .i64 t236, .slice Ao24 t237.length co24, .int .i64 t240, .int .i64 t241]] (by rfl) rfl rfl (by (try simp only [List.map_toArray, List.map_cons, List.map_nil]); first | done | rfl | (simp only [List.length_drop, List.length_take]; rfl)) ?_
            with_reducible refine (folkmootref20_Good.calls t234 t235 t236 _ _ t237 t240 t241 t267 _ ?side1 ?side2 A15.out).mono ?_
            (case side1 => repeat (first | exact (Kd.R_reads' HO239.out).2.2 | (with_reducible refine Kd.C_alloc ?_ _) | (with_reducible refine Kd.C_drewN ?_ _) | (with_reducible refine Kd.C_drew ?_)))
            (case side2 => exact (Kd.R_reads' HO239.out).2.1)
            rintro e w47 ⟨rfl, hb⟩
            refine ⟨_, rfl, ?_⟩
            have n0_ := Aside0.mk (Kd.R_below (by (with_reducible repeat (first | apply Kd.R_alloc | apply Kd.R_drewN | apply Kd.R_drew)); exact HO239.out) hb)
            have n1_ := Aside0.mk (Kd.R_below (by (with_reducible repeat (first | apply Kd.R_alloc | apply Kd.R_drewN | apply Kd.R_drew)); exact HO249.out) hb)
            have n2_ := Aside0.mk (Kd.R_below (by (with_reducible repeat (first | apply Kd.R_alloc | apply Kd.R_drewN | apply Kd.R_drew)); exact HO259.out) hb)
            have n3_ := Aside0.mk (blk_below (g := gb233) (o := .cells #[.int .i64 a0_0, .int .i64 a0_1, .int .i64 a0_2, .slice A0_3 l0_3.length c0_3, .int .i64 a0_4, .int .i64 a0_5] 29 (0, 0)) (by (with_reducible repeat (first | refine blk_drewN ?_ _ | refine blk_drew ?_ | refine blk_alloc ?_ _)); exact BK233.out) hb)
            have n4_ := Aside0.mk (blk_below (g := gb242) (o := .cells #[.int .i64 t234, .int .i64 t235, .int .i64 t236, .slice Ao24 t237.length co24, .int .i64 t240, .int .i64 t241] 29 (0, 0)) (by (with_reducible repeat (first | refine blk_drewN ?_ _ | refine blk_drew ?_ | refine blk_alloc ?_ _)); exact BK242.out) hb)
            have n5_ := Aside0.mk (blk_below (g := gb253) (o := .cells #[.int .i64 t244, .int .i64 t245, .int .i64 t246, .slice Ao33 t247.length co33, .int .i64 t250, .int .i64 t251] 29 (0, 0)) (by (with_reducible repeat (first | refine blk_drewN ?_ _ | refine blk_drew ?_ | refine blk_alloc ?_ _)); exact BK253.out) hb)
            have n6_ := Aside0.mk (blk_below (g := gb263) (o := .cells #[.int .i64 t254, .int .i64 t255, .int .i64 t256, .slice Ao41 t257.length co41, .int .i64 t260, .int .i64 t261] 29 (0, 0)) (by (with_reducible repeat (first | refine blk_drewN ?_ _ | refine blk_drew ?_ | refine blk_alloc ?_ _)); exact BK263.out) hb)
            have n7_ := Aside0.mk (below_step (by repeat (first | (with_reducible first | exact HB.out | apply below_alloc | apply pw_below_drewN | apply below_drew1 | refine below_set ?_ GE233.out | refine below_set ?_ GE242.out | refine below_set ?_ GE253.out | refine below_set ?_ GE263.out) | exact HB.out)) hb)
            clear HO239
            clear HO249
            clear HO259
            clear BK233
            clear BK242
            clear BK253
            clear BK263
            clear HB
            have HO239 := n0_
            have HO249 := n1_
            have HO259 := n2_
            have BK233 := n3_
            have BK242 := n4_
            have BK253 := n5_
            have BK263 := n6_
            have HB := n7_
            clear n0_ n1_ n2_ n3_ n4_ n5_ n6_ n7_
            (try clear hb)
            (try clear hb2)
            (try clear hk)
            (try clear hi)
            refine hK.out _ _ ⟨(blk_cell BK242.out 0).trans rfl, (blk_cell BK242.out 1).trans rfl, (blk_cell BK242.out 2).trans rfl, (blk_cell BK242.out 3).trans rfl, (blk_cell BK242.out 4).trans rfl, (blk_cell BK242.out 5).trans rfl, (blk_cell BK233.out 0).trans rfl, (blk_cell BK233.out 1).trans rfl, (blk_cell BK233.out 2).trans rfl, (blk_cell BK233.out 3).trans rfl, (blk_cell BK233.out 4).trans rfl, (blk_cell BK233.out 5).trans rfl, (blk_cell BK253.out 0).trans rfl, (blk_cell BK253.out 1).trans rfl, (blk_cell BK253.out 2).trans rfl, (blk_cell BK253.out 3).trans rfl, (blk_cell BK253.out 4).trans rfl, (blk_cell BK253.out 5).trans rfl, (blk_cell BK263.out 0).trans rfl, (blk_cell BK263.out 1).trans rfl, (blk_cell BK263.out 2).trans rfl, (blk_cell BK263.out 3).trans rfl, (blk_cell BK263.out 4).trans rfl, (blk_cell BK263.out 5).trans rfl⟩ (fun hHeld => ?_)
            clear hK K
            refine norm_ (a' := ?_) ?_ ?_
            rotate_left
            · show Act.put _ (some 47) _ = _
              simp only [Act.put, List.setIfInBounds_toArray, List.set_cons_zero, List.set_cons_succ, i64_w, i32_w]
              rfl
            refine pure_ (i := 21) (N := some 48) (v := ?_) (a' := ?_) #[true, true, true, true, true, true, true, true, true, true, true, true, true, true, true, true, true, true, true, true, true, true, false, false, false, false, false, false, false, false, false, false, false] rfl rfl (any_of HT_.out (by kernel_rfl)) (fun _ _ _ h => h) (Or.inl ⟨by rfl, ?_⟩) ?_ ?_
            rotate_left
            · intro w'
              go_simp
              with_reducible rfl
            rotate_left
            · simp only [Act.put, List.setIfInBounds_toArray, List.set_cons_zero, List.set_cons_succ, i64_w, i32_w]
              rfl
            refine pure_ (i := 22) (N := some 49) (v := ?_) (a' := ?_) #[true, true, true, true, true, true, true, true, true, true, true, true, true, true, true, true, true, true, true, true, true, true, true, false, false, false, false, false, false, false, false, false, false] rfl rfl (any_of HT_.out (by kernel_rfl)) (fun _ _ _ h => h) (Or.inl ⟨by rfl, ?_⟩) ?_ ?_
            rotate_left
            · intro w'
              go_simp
              with_reducible rfl
            rotate_left
            · simp only [Act.put, List.setIfInBounds_toArray, List.set_cons_zero, List.set_cons_succ, i64_w, i32_w]
              rfl
            refine pure_ (i := 23) (N := some 50) (v := ?_) (a' := ?_) #[true, true, true, true, true, true, true, true, true, true, true, true, true, true, true, true, true, true, true, true, true, true, true, true, false, false, false, false, false, false, false, false, false] rfl rfl (any_of HT_.out (by kernel_rfl)) (fun _ _ _ h => h) (Or.inl ⟨by rfl, ?_⟩) ?_ ?_
            rotate_left
            · intro w'
              go_simp
              with_reducible rfl
            rotate_left
            · simp only [Act.put, List.setIfInBounds_toArray, List.set_cons_zero, List.set_cons_succ, i64_w, i32_w]
              rfl
            refine pure_ (i := 25) (N := some 52) (v := ?_) (a' := ?_) #[true, true, true, true, true, true, true, true, true, true, true, true, true, true, true, true, true, true, true, true, true, true, true, true, false, true, false, false, false, false, false, false, false] rfl rfl (any_of HT_.out (by kernel_rfl)) (fun _ _ _ h => h) (Or.inl ⟨by rfl, ?_⟩) ?_ ?_
            rotate_left
            · intro w'
              go_simp
              with_reducible rfl
            rotate_left
            · simp only [Act.put, List.setIfInBounds_toArray, List.set_cons_zero, List.set_cons_succ, i64_w, i32_w]
              rfl
            refine pure_ (i := 27) (N := some 54) (v := ?_) (a' := ?_) #[true, true, true, true, true, true, true, true, true, true, true, true, true, true, true, true, true, true, true, true, true, true, true, true, false, true, false, true, false, false, false, false, false] rfl rfl (any_of HT_.out (by kernel_rfl)) (fun _ _ _ h => h) (Or.inl ⟨by rfl, ?_⟩) ?_ ?_
            rotate_left
            · intro w'
              go_simp
              with_reducible rfl
            rotate_left
            · simp only [Act.put, List.setIfInBounds_toArray, List.set_cons_zero, List.set_cons_succ, i64_w, i32_w]
              rfl
            refine take_ (i := 24) (N := some 51) (v := ?_) (a' := ?_) #[true, true, true, true, true, true, true, true, true, true, true, true, true, true, true, true, true, true, true, true, true, true, true, true, true, true, false, true, false, false, false, false, false] rfl rfl (take_ofW HT_.out HW_.out (by kernel_rfl)) (fun _ _ _ h => h) (Or.inl ⟨by rfl, ?_⟩) hHeld ?_ ?_
            rotate_left
            · rintro w' ⟨s0, s1, s2, s3, s4, s5, s6, s7, s8, s9, s10, s11, s12, s13, s14, s15, s16, s17, s18, s19, s20, s21, s22, s23⟩
              go_simp
              with_reducible rfl
            rotate_left
            · simp only [Act.put, List.setIfInBounds_toArray, List.set_cons_zero, List.set_cons_succ, i64_w, i32_w]
              rfl
            refine take_ (i := 26) (N := some 53) (v := ?_) (a' := ?_) #[true, true, true, true, true, true, true, true, true, true, true, true, true, true, true, true, true, true, true, true, true, true, true, true, true, true, true, true, false, false, false, false, false] rfl rfl (take_ofW HT_.out HW_.out (by kernel_rfl)) (fun _ _ _ h => h) (Or.inl ⟨by rfl, ?_⟩) hHeld ?_ ?_
            rotate_left
            · rintro w' ⟨s0, s1, s2, s3, s4, s5, s6, s7, s8, s9, s10, s11, s12, s13, s14, s15, s16, s17, s18, s19, s20, s21, s22, s23⟩
              go_simp
              with_reducible rfl
            rotate_left
            · simp only [Act.put, List.setIfInBounds_toArray, List.set_cons_zero, List.set_cons_succ, i64_w, i32_w]
              rfl
            refine take_ (i := 28) (N := some 55) (v := ?_) (a' := ?_) #[true, true, true, true, true, true, true, true, true, true, true, true, true, true, true, true, true, true, true, true, true, true, true, true, true, true, true, true, true, false, false, false, false] rfl rfl (take_ofW HT_.out HW_.out (by kernel_rfl)) (fun _ _ _ h => h) (Or.inl ⟨by rfl, ?_⟩) hHeld ?_ ?_
            rotate_left
            · rintro w' ⟨s0, s1, s2, s3, s4, s5, s6, s7, s8, s9, s10, s11, s12, s13, s14, s15, s16, s17, s18, s19, s20, s21, s22, s23⟩
              go_simp
              with_reducible rfl
            rotate_left
            · simp only [Act.put, List.setIfInBounds_toArray, List.set_cons_zero, List.set_cons_succ, i64_w, i32_w]
              rfl
            refine take_ (i := 29) (N := some 56) (v := ?_) (a' := ?_) #[true, true, true, true, true, true, true, true, true, true, true, true, true, true, true, true, true, true, true, true, true, true, true, true, true, true, true, true, true, true, false, false, false] rfl rfl (take_ofW HT_.out HW_.out (by kernel_rfl)) (fun _ _ _ h => h) (Or.inl ⟨by rfl, ?_⟩) hHeld ?_ ?_
            rotate_left
            · rintro w' ⟨s0, s1, s2, s3, s4, s5, s6, s7, s8, s9, s10, s11, s12, s13, s14, s15, s16, s17, s18, s19, s20, s21, s22, s23⟩
              go_simp
              with_reducible rfl
            rotate_left
            · simp only [Act.put, List.setIfInBounds_toArray, List.set_cons_zero, List.set_cons_succ, i64_w, i32_w]
              rfl
            refine one_ (i := 30) (N := some 57) #[true, true, true, true, true, true, true, true, true, true, true, true, true, true, true, true, true, true, true, true, true, true, true, true, true, true, true, true, true, true, true, false, false] rfl rfl (one_of HT_.out (by kernel_rfl)) (by decide) (fun K hK => ?_)
            refine goes_ Try.func20 (by kernel_rfl) rfl #[.agg #[.int .i64 t244, .int .i64 t245, .int .i64 t246, .slice Ao33 t247.length co33, .int .i64 t250, .int .i64 t251], .int .i64 t252, .agg #[.int .i64 t254, .int .i64 t255, .int .i64 t256, .slice Ao41 t257.length co41, .int .i64 t260, .int .i64 t261], .int .i64 t262, .agg #[.int .i64 a0_0, .int .i64 a0_1, .int .i64 a0_2, .slice A0_3 l0_3.length c0_3, .int .i64 a0_4, .int .i64 a0_5], .agg #[.int .i64 t234, .int .i64 t235, .int .i64 t236, .slice Ao24 t237.length co24, .int .i64 t240, .int .i64 t241]] (by rfl) rfl rfl (by (try simp only [List.map_toArray, List.map_cons, List.map_nil]); first | done | rfl | (simp only [List.length_drop, List.length_take]; rfl)) ?_
            with_reducible refine (folkmootlaw20_same.calls k t244 t245 t246 (fun k_ => some k_ = (.slice Ao33 t247.length co33 : Value).ownBlock) (.slice Ao33 t247.length co33) t247 t250 t251 t252 t254 t255 t256 _ _ t257 t260 t261 t262 a0_0 a0_1 a0_2 _ _ l0_3 a0_4 a0_5 t234 t235 t236 _ _ t237 t240 t241 t268 t269 w _ ?side1 ?side2 ?side3 ?side4 ?side5 ?side6 ?side7 ?side8 A17.out).mono ?_
            (case side1 => repeat (first | (with_reducible first | exact HB.out | apply below_alloc | apply pw_below_drewN | apply below_drew1 | refine below_set ?_ GE233.out | refine below_set ?_ GE242.out | refine below_set ?_ GE253.out | refine below_set ?_ GE263.out) | exact HB.out))
            (case side2 => exact Kd.R_tight rfl HO249.out)
            (case side3 => exact Kd.C_kept_own (HO259.out) (fun k_ hk_ hs_ => (hk_.2) hs_))
            (case side4 => exact (Kd.R_reads' HO259.out).2.1)
            (case side5 => exact Kd.C_kept_came k59_heap HR0_3.out (by repeat (first | (with_reducible first | exact HB.out | apply below_alloc | apply pw_below_drewN | apply below_drew1 | refine below_set ?_ GE233.out | refine below_set ?_ GE242.out | refine below_set ?_ GE253.out | refine below_set ?_ GE263.out) | exact HB.out)) (fun k_ hs_ => (fun e_ => Kd.R_base HO249.out k_ e_.symm) hs_))
            (case side6 => exact HC0_3.out)
            (case side7 => exact Kd.C_kept_own (HO239.out) (fun k_ hk_ hs_ => (hk_.1) hs_))
            (case side8 => exact (Kd.R_reads' HO239.out).2.1)
            rintro e w48 ⟨rfl, hy0, hb, hkp⟩
            refine ⟨_, rfl, ?_⟩
            have n0_ := Aside0.mk (blk_kept (by (with_reducible repeat (first | refine blk_drewN ?_ _ | refine blk_drew ?_ | refine blk_alloc ?_ _)); exact BK233.out) hkp (fun hs_ => (fun e_ => (Kd.R_ne HO249.out BK233.out (by decide)) e_) hs_))
            have n1_ := Aside0.mk (Kd.R_mono (ok' := fun k_ => some k_ ≠ (.slice Ao33 t247.length co33 : Value).ownBlock ∧ some k_ ≠ (.slice Ao41 t257.length co41 : Value).ownBlock) (Kd.R_keptB (HO239.out) hkp (fun k_ hk_ hs_ => (hk_.1) hs_)) (fun k_ hk_ => ⟨hk_.1.1, hk_.1.2⟩))
            have n2_ := Aside0.mk (blk_kept (by (with_reducible repeat (first | refine blk_drewN ?_ _ | refine blk_drew ?_ | refine blk_alloc ?_ _)); exact BK242.out) hkp (fun hs_ => (fun e_ => (Kd.R_ne HO249.out BK242.out (by decide)) e_) hs_))
            have n3_ := Aside0.mk (Kd.R_reok rfl hy0 (fun k_ e_ => HO249.out.1 k_ e_))
            have n4_ := Aside0.mk (blk_kept (by (with_reducible repeat (first | refine blk_drewN ?_ _ | refine blk_drew ?_ | refine blk_alloc ?_ _)); exact BK253.out) hkp (fun hs_ => (fun e_ => (Kd.R_ne HO249.out BK253.out (by decide)) e_) hs_))
            have n5_ := Aside0.mk (Kd.R_mono (ok' := fun k_ => some k_ ≠ (.slice Ao24 t237.length co24 : Value).ownBlock ∧ some k_ ≠ (.slice Ao33 t247.length co33 : Value).ownBlock) (Kd.R_keptB (HO259.out) hkp (fun k_ hk_ hs_ => (hk_.2) hs_)) (fun k_ hk_ => ⟨hk_.1.1, hk_.1.2⟩))
            have n6_ := Aside0.mk (blk_kept (by (with_reducible repeat (first | refine blk_drewN ?_ _ | refine blk_drew ?_ | refine blk_alloc ?_ _)); exact BK263.out) hkp (fun hs_ => (fun e_ => (Kd.R_ne HO249.out BK263.out (by decide)) e_) hs_))
            have n7_ := Aside0.mk (hb)
            clear BK233
            clear HO239
            clear BK242
            clear HO249
            clear BK253
            clear HO259
            clear BK263
            clear HB
            have BK233 := n0_
            have HO239 := n1_
            have BK242 := n2_
            have HO249 := n3_
            have BK253 := n4_
            have HO259 := n5_
            have BK263 := n6_
            have HB := n7_
            clear n0_ n1_ n2_ n3_ n4_ n5_ n6_ n7_
            (try clear hb)
            (try clear hkp)
            (try clear hy0)
            refine hK.out _ _ ⟨(blk_cell BK242.out 0).trans rfl, (blk_cell BK242.out 1).trans rfl, (blk_cell BK242.out 2).trans rfl, (blk_cell BK242.out 3).trans rfl, (blk_cell BK242.out 4).trans rfl, (blk_cell BK242.out 5).trans rfl, (blk_cell BK233.out 0).trans rfl, (blk_cell BK233.out 1).trans rfl, (blk_cell BK233.out 2).trans rfl, (blk_cell BK233.out 3).trans rfl, (blk_cell BK233.out 4).trans rfl, (blk_cell BK233.out 5).trans rfl, (blk_cell BK253.out 0).trans rfl, (blk_cell BK253.out 1).trans rfl, (blk_cell BK253.out 2).trans rfl, (blk_cell BK253.out 3).trans rfl, (blk_cell BK253.out 4).trans rfl, (blk_cell BK253.out 5).trans rfl, (blk_cell BK263.out 0).trans rfl, (blk_cell BK263.out 1).trans rfl, (blk_cell BK263.out 2).trans rfl, (blk_cell BK263.out 3).trans rfl, (blk_cell BK263.out 4).trans rfl, (blk_cell BK263.out 5).trans rfl⟩ (fun hHeld => ?_)
            clear hK K
            refine norm_ (a' := ?_) ?_ ?_
            rotate_left
            · show Act.put _ (some 57) _ = _
              simp only [Act.put, List.setIfInBounds_toArray, List.set_cons_zero, List.set_cons_succ, i64_w, i32_w]
              rfl
            refine pure_ (i := 31) (N := some 58) (v := ?_) (a' := ?_) #[true, true, true, true, true, true, true, true, true, true, true, true, true, true, true, true, true, true, true, true, true, true, true, true, true, true, true, true, true, true, true, true, false] rfl rfl (any_of HT_.out (by kernel_rfl)) (fun _ _ _ h => h) (Or.inl ⟨by rfl, ?_⟩) ?_ ?_
            rotate_left
            · intro w'
              go_simp
              with_reducible rfl
            rotate_left
            · simp only [Act.put, List.setIfInBounds_toArray, List.set_cons_zero, List.set_cons_succ, i64_w, i32_w]
              rfl
            refine pure_ (i := 32) (N := some 2) (v := ?_) (a' := ?_) #[true, true, true, true, true, true, true, true, true, true, true, true, true, true, true, true, true, true, true, true, true, true, true, true, true, true, true, true, true, true, true, true, true] rfl rfl (any_of HT_.out (by kernel_rfl)) (fun _ _ _ h => h) (Or.inl ⟨by rfl, ?_⟩) ?_ ?_
            rotate_left
            · intro w'
              go_simp
              with_reducible rfl
            rotate_left
            · simp only [Act.put, List.setIfInBounds_toArray, List.set_cons_zero, List.set_cons_succ, i64_w, i32_w]
              rfl
            refine done_ (done_of HT_.out (by kernel_rfl)) ?_
            try go_wp2
            go_ret
            exact ⟨by first | rfl | (simp [errW_none, errW_some] <;> rfl) | (simp [*, errW_none, errW_some] <;> rfl), by repeat (first | (with_reducible first | exact HB.out | apply below_alloc | apply pw_below_drewN | apply below_drew1 | refine below_set ?_ GE233.out | refine below_set ?_ GE242.out | refine below_set ?_ GE253.out | refine below_set ?_ GE263.out) | exact HB.out)⟩
          · rw [if_neg c16] at H
            exact absurd H (by simp)
        · rw [if_neg c13] at H
          have c13b0 : (t243 == 0) = false := beq_eq_false_iff_ne.mpr c13
          have c13b1 : (t243 != 0) = true := bne_iff_ne.mpr c13; have c13x : t265 = false := by simpa [c13b0] using c12b0
          by_cases c49 : t243 = 1
          · rw [if_pos c49] at H
            have c49b0 : (t243 == 1) = true := beq_iff_eq.mpr c49
            have c49b1 : (t243 != 1) = false := bne_eq_false_iff_eq.mpr c49
            clear c49
            replace H := Option.bind_eq_some_iff.mp H
            obtain ⟨t270, A500, H⟩ := H
            replace H : ((folkmootref20_Good.f t234 t235 t236 t237 t240 t241).bind fun t271 => (if (t270 == t271) = true then ((folkmootlaw20_same.f k t244 t245 t246 t247 t250 t251 t252 t254 t255 t256 t257 t260 t261 t262 a0_0 a0_1 a0_2 l0_3 a0_4 a0_5 t234 t235 t236 t237 t240 t241).bind fun bt272 => (some bt272.1)) else (none))) = some r := H
            have A50 := Aside0.mk A500
            clear A500
            replace H := Option.bind_eq_some_iff.mp H
            obtain ⟨t271, A510, H⟩ := H
            replace H : (if (t270 == t271) = true then ((folkmootlaw20_same.f k t244 t245 t246 t247 t250 t251 t252 t254 t255 t256 t257 t260 t261 t262 a0_0 a0_1 a0_2 l0_3 a0_4 a0_5 t234 t235 t236 t237 t240 t241).bind fun bt272 => (some bt272.1)) else (none)) = some r := H
            have A51 := Aside0.mk A510
            clear A510
            by_cases c52 : (t270 == t271) = true
            · rw [if_pos c52] at H
              have c52b0 : (t270 == t271) = true := c52
              (try (have c52b1 : decide (t270 = t271) = true := by simpa using c52))
              (try (have c52b2 : (t270 == t271) = true := by simpa using c52))
              clear c52
              replace H := Option.bind_eq_some_iff.mp H
              obtain ⟨⟨t272, t273⟩, A530, H⟩ := H
              replace H : (some t272) = some r := H
              have A53 := Aside0.mk A530
              clear A530
              obtain rfl := Option.some.inj H
              go_enter Try.func5, Try.ntmps5
              try go_wp2_with (first | ((with_reducible refine gate_dst (N := 1) rfl ?_); refine box_event ?hg (N := 1) ?hd (cs := #[.int .i64 a0_0, .int .i64 a0_1, .int .i64 a0_2, .slice A0_3 l0_3.length c0_3, .int .i64 a0_4, .int .i64 a0_5]) (t := 29) ?hr ?_; (case hd => rfl); (case hg => rfl); (case hr => first | (go_simp; done) | (go_simp; rfl)); intro gb233 hg w54 hbox hb; have n0_ := Aside0.mk (below_step (by repeat (first | (with_reducible first | exact HB.out | apply below_alloc | apply pw_below_drewN | apply below_drew1) | exact HB.out)) hb); have n1_ := Aside0.mk (hbox); have n2_ := Aside0.mk ((by rw [hg]; exact (below_size (by repeat (first | (with_reducible first | exact HB.out | apply below_alloc | apply pw_below_drewN | apply below_drew1) | exact HB.out))) : w.heap.size ≤ gb233)); have n3_ := Aside0.mk ((by rw [hg]; exact (below_size (by repeat (first | (with_reducible first | exact HB.out | apply below_alloc | apply pw_below_drewN | apply below_drew1) | exact HB.out))) : w.heap.size ≤ gb233)); clear HB; have HB := n0_; have BK233 := n1_; have GW233 := n2_; have GE233 := n3_; clear n0_ n1_ n2_ n3_; clear hb hbox hg; have hcz55_0 : w54.cell? ⟨gb233, 0, none⟩ = some (.int .i64 a0_0) := (blk_cell BK233.out 0).trans rfl; have hcz55_1 : w54.cell? ⟨gb233, 1, none⟩ = some (.int .i64 a0_1) := (blk_cell BK233.out 1).trans rfl; have hcz55_2 : w54.cell? ⟨gb233, 2, none⟩ = some (.int .i64 a0_2) := (blk_cell BK233.out 2).trans rfl; have hcz55_3 : w54.cell? ⟨gb233, 3, none⟩ = some (.slice A0_3 l0_3.length c0_3) := (blk_cell BK233.out 3).trans rfl; have hcz55_4 : w54.cell? ⟨gb233, 4, none⟩ = some (.int .i64 a0_4) := (blk_cell BK233.out 4).trans rfl; have hcz55_5 : w54.cell? ⟨gb233, 5, none⟩ = some (.int .i64 a0_5) := (blk_cell BK233.out 5).trans rfl; have hfz55_0 := blk_frozen BK233.out 0; have hfz55_1 := blk_frozen BK233.out 1; have hfz55_2 := blk_frozen BK233.out 2; have hfz55_3 := blk_frozen BK233.out 3; have hfz55_4 := blk_frozen BK233.out 4; have hfz55_5 := blk_frozen BK233.out 5) | ((with_reducible refine gate_callee (f := 12) rfl ?_); refine goesL_ (some 14) rfl rfl Try.func12 (by kernel_rfl) rfl #[.agg #[.int .i64 a0_0, .int .i64 a0_1, .int .i64 a0_2, .slice A0_3 l0_3.length c0_3, .int .i64 a0_4, .int .i64 a0_5]] rfl (by (try simp only [List.map_toArray, List.map_cons, List.map_nil]); first | done | rfl | (simp only [List.length_drop, List.length_take]; rfl)) ?_; (with_reducible refine (folkmootref20_Own.calls a0_0 a0_1 a0_2 _ _ l0_3 a0_4 a0_5 t234 t235 t236 t237 t240 t241 _ ?side1 ?side2 A5.out).mono ?_); (case side1 => repeat (first | exact (Kd.C_below HR0_3.out HB.out) | (with_reducible refine Kd.C_alloc ?_ _) | (with_reducible refine Kd.C_drewN ?_ _) | (with_reducible refine Kd.C_drew ?_))); (case side2 => exact HC0_3.out); rintro e w56 ⟨v238, rfl, ho0, hb⟩; refine ⟨_, rfl, ?_⟩; have n0_ := Aside0.mk (Kd.R_lower ho0 (below_size (by repeat (first | (with_reducible first | exact HB.out | apply below_alloc | apply pw_below_drewN | apply below_drew1 | refine below_set ?_ GE233.out) | exact HB.out)))); have n1_ := Aside0.mk (blk_below (g := gb233) (o := .cells #[.int .i64 a0_0, .int .i64 a0_1, .int .i64 a0_2, .slice A0_3 l0_3.length c0_3, .int .i64 a0_4, .int .i64 a0_5] 29 (0, 0)) (by (with_reducible repeat (first | refine blk_drewN ?_ _ | refine blk_drew ?_ | refine blk_alloc ?_ _)); exact BK233.out) hb); have n2_ := Aside0.mk (below_step (by repeat (first | (with_reducible first | exact HB.out | apply below_alloc | apply pw_below_drewN | apply below_drew1 | refine below_set ?_ GE233.out) | exact HB.out)) hb); clear BK233; clear HB; have HO239 := n0_; have BK233 := n1_; have HB := n2_; clear n0_ n1_ n2_; (try clear hb); (try clear hb2); (try clear hk); (try clear hi); (try clear ho0)) | ((with_reducible refine gate_dst (N := 3) rfl ?_); refine box_event ?hg (N := 3) ?hd (cs := #[.int .i64 0, .int .i64 0, .int .i64 0, .slice none 0 0, .int .i64 0, .int .i64 0]) (t := 29) ?hr ?_; (case hd => rfl); (case hg => rfl); (case hr => first | (go_simp; done) | (go_simp; rfl)); intro gb242 hg w57 hbox hb; have n0_ := Aside0.mk (Kd.R_below (by (with_reducible repeat (first | apply Kd.R_alloc | apply Kd.R_drewN | apply Kd.R_drew)); exact HO239.out) hb); have n1_ := Aside0.mk (blk_below (g := gb233) (o := .cells #[.int .i64 a0_0, .int .i64 a0_1, .int .i64 a0_2, .slice A0_3 l0_3.length c0_3, .int .i64 a0_4, .int .i64 a0_5] 29 (0, 0)) (by (with_reducible repeat (first | refine blk_drewN ?_ _ | refine blk_drew ?_ | refine blk_alloc ?_ _)); exact BK233.out) hb); have n2_ := Aside0.mk (below_step (by repeat (first | (with_reducible first | exact HB.out | apply below_alloc | apply pw_below_drewN | apply below_drew1 | refine below_set ?_ GE233.out) | exact HB.out)) hb); have n3_ := Aside0.mk (hbox); have n4_ := Aside0.mk ((by rw [hg]; exact (below_size (by repeat (first | (with_reducible first | exact HB.out | apply below_alloc | apply pw_below_drewN | apply below_drew1 | refine below_set ?_ GE233.out) | exact HB.out))) : w.heap.size ≤ gb242)); have n5_ := Aside0.mk ((by rw [hg]; exact (below_size (by repeat (first | (with_reducible first | exact HB.out | apply below_alloc | apply pw_below_drewN | apply below_drew1 | refine below_set ?_ GE233.out) | exact HB.out))) : w.heap.size ≤ gb242)); have n6_ := Aside0.mk ((by rw [hg]; exact Nat.ne_of_lt (blk_lt (g := gb233) (o := .cells #[.int .i64 a0_0, .int .i64 a0_1, .int .i64 a0_2, .slice A0_3 l0_3.length c0_3, .int .i64 a0_4, .int .i64 a0_5] 29 (0, 0)) (by (with_reducible repeat (first | refine blk_drewN ?_ _ | refine blk_drew ?_ | refine blk_alloc ?_ _)); exact BK233.out)) : gb233 ≠ gb242)); have n7_ := Aside0.mk ((by rw [hg]; exact Nat.ne_of_gt (blk_lt (g := gb233) (o := .cells #[.int .i64 a0_0, .int .i64 a0_1, .int .i64 a0_2, .slice A0_3 l0_3.length c0_3, .int .i64 a0_4, .int .i64 a0_5] 29 (0, 0)) (by (with_reducible repeat (first | refine blk_drewN ?_ _ | refine blk_drew ?_ | refine blk_alloc ?_ _)); exact BK233.out)) : gb242 ≠ gb233)); clear HO239; clear BK233; clear HB; have HO239 := n0_; have BK233 := n1_; have HB := n2_; have BK242 := n3_; have GW242 := n4_; have GE242 := n5_; have NB233_242 := n6_; have NB242_233 := n7_; clear n0_ n1_ n2_ n3_ n4_ n5_ n6_ n7_; clear hb hbox hg; have hnb58 := NB242_233.out; have hnc58 := NB233_242.out; have hcz59_0 : w57.cell? ⟨gb242, 0, none⟩ = some (.int .i64 0) := (blk_cell BK242.out 0).trans rfl; have hcz59_1 : w57.cell? ⟨gb242, 1, none⟩ = some (.int .i64 0) := (blk_cell BK242.out 1).trans rfl; have hcz59_2 : w57.cell? ⟨gb242, 2, none⟩ = some (.int .i64 0) := (blk_cell BK242.out 2).trans rfl; have hcz59_3 : w57.cell? ⟨gb242, 3, none⟩ = some (.slice none 0 0) := (blk_cell BK242.out 3).trans rfl; have hcz59_4 : w57.cell? ⟨gb242, 4, none⟩ = some (.int .i64 0) := (blk_cell BK242.out 4).trans rfl; have hcz59_5 : w57.cell? ⟨gb242, 5, none⟩ = some (.int .i64 0) := (blk_cell BK242.out 5).trans rfl; have hfz59_0 := blk_frozen BK242.out 0; have hfz59_1 := blk_frozen BK242.out 1; have hfz59_2 := blk_frozen BK242.out 2; have hfz59_3 := blk_frozen BK242.out 3; have hfz59_4 := blk_frozen BK242.out 4; have hfz59_5 := blk_frozen BK242.out 5; obtain ⟨Ao60, co60, eo60⟩ := Kd.R_slice HO239.out; subst eo60; have hcz61_0 : w57.cell? ⟨gb233, 0, none⟩ = some (.int .i64 a0_0) := (blk_cell BK233.out 0).trans rfl; have hcz61_1 : w57.cell? ⟨gb233, 1, none⟩ = some (.int .i64 a0_1) := (blk_cell BK233.out 1).trans rfl; have hcz61_2 : w57.cell? ⟨gb233, 2, none⟩ = some (.int .i64 a0_2) := (blk_cell BK233.out 2).trans rfl; have hcz61_3 : w57.cell? ⟨gb233, 3, none⟩ = some (.slice A0_3 l0_3.length c0_3) := (blk_cell BK233.out 3).trans rfl; have hcz61_4 : w57.cell? ⟨gb233, 4, none⟩ = some (.int .i64 a0_4) := (blk_cell BK233.out 4).trans rfl; have hcz61_5 : w57.cell? ⟨gb233, 5, none⟩ = some (.int .i64 a0_5) := (blk_cell BK233.out 5).trans rfl; have hfz61_0 := blk_frozen BK233.out 0; have hfz61_1 := blk_frozen BK233.out 1; have hfz61_2 := blk_frozen BK233.out 2; have hfz61_3 := blk_frozen BK233.out 3; have hfz61_4 := blk_frozen BK233.out 4; have hfz61_5 := blk_frozen BK233.out 5) | ((with_reducible refine gate_callee (f := 13) rfl ?_); refine goesL_ (some 16) rfl rfl Try.func13 (by kernel_rfl) rfl #[.agg #[.int .i64 a0_0, .int .i64 a0_1, .int .i64 a0_2, .slice A0_3 l0_3.length c0_3, .int .i64 a0_4, .int .i64 a0_5]] rfl (by (try simp only [List.map_toArray, List.map_cons, List.map_nil]); first | done | rfl | (simp only [List.length_drop, List.length_take]; rfl)) ?_; (with_reducible refine (lease_Check.calls k a0_0 a0_1 a0_2 _ _ l0_3 a0_4 a0_5 t243 _ ?side1 ?side2 A6.out).mono ?_); (case side1 => exact Kd.C_below HR0_3.out (by repeat (first | (with_reducible first | exact HB.out | apply below_alloc | apply pw_below_drewN | apply below_drew1 | refine below_set ?_ GE233.out | refine below_set ?_ GE242.out) | exact HB.out))); (case side2 => exact HC0_3.out); rintro e w62 ⟨rfl, hb⟩; refine ⟨_, rfl, ?_⟩; have n0_ := Aside0.mk (Kd.R_below (by (with_reducible repeat (first | apply Kd.R_alloc | apply Kd.R_drewN | apply Kd.R_drew)); exact (Kd.R_mono (Kd.R_far (p := ⟨gb242, 5, none⟩) (Kd.R_far (p := ⟨gb242, 4, none⟩) (Kd.R_far (p := ⟨gb242, 3, none⟩) (Kd.R_far (p := ⟨gb242, 2, none⟩) (Kd.R_far (p := ⟨gb242, 1, none⟩) (Kd.R_far (p := ⟨gb242, 0, none⟩) (Kd.R_types HO239.out BK242.out (by decide)) (fun _ hk => hk.2) (.int .i64 t234)) (fun _ hk => hk.2) (.int .i64 t235)) (fun _ hk => hk.2) (.int .i64 t236)) (fun _ hk => hk.2) (.slice Ao60 t237.length co60)) (fun _ hk => hk.2) (.int .i64 t240)) (fun _ hk => hk.2) (.int .i64 t241)) (fun _ h_ => h_.1))) hb); have n1_ := Aside0.mk (blk_below (g := gb233) (o := .cells #[.int .i64 a0_0, .int .i64 a0_1, .int .i64 a0_2, .slice A0_3 l0_3.length c0_3, .int .i64 a0_4, .int .i64 a0_5] 29 (0, 0)) (by (with_reducible repeat (first | refine blk_drewN ?_ _ | refine blk_drew ?_ | refine blk_alloc ?_ _)); refine blk_far ?_ NB233_242.out _; (with_reducible repeat (first | refine blk_drewN ?_ _ | refine blk_drew ?_ | refine blk_alloc ?_ _)); refine blk_far ?_ NB233_242.out _; (with_reducible repeat (first | refine blk_drewN ?_ _ | refine blk_drew ?_ | refine blk_alloc ?_ _)); refine blk_far ?_ NB233_242.out _; (with_reducible repeat (first | refine blk_drewN ?_ _ | refine blk_drew ?_ | refine blk_alloc ?_ _)); refine blk_far ?_ NB233_242.out _; (with_reducible repeat (first | refine blk_drewN ?_ _ | refine blk_drew ?_ | refine blk_alloc ?_ _)); refine blk_far ?_ NB233_242.out _; (with_reducible repeat (first | refine blk_drewN ?_ _ | refine blk_drew ?_ | refine blk_alloc ?_ _)); refine blk_far ?_ NB233_242.out _; (with_reducible repeat (first | refine blk_drewN ?_ _ | refine blk_drew ?_ | refine blk_alloc ?_ _)); exact BK233.out) hb); have n2_ := Aside0.mk (blk_below (g := gb242) (o := .cells #[.int .i64 t234, .int .i64 t235, .int .i64 t236, .slice Ao60 t237.length co60, .int .i64 t240, .int .i64 t241] 29 (0, 0)) (by (with_reducible repeat (first | refine blk_drewN ?_ _ | refine blk_drew ?_ | refine blk_alloc ?_ _)); refine blk_put (cs := #[.int .i64 t234, .int .i64 t235, .int .i64 t236, .slice Ao60 t237.length co60, .int .i64 t240, .int .i64 0]) ?_ 5 _ rfl; (with_reducible repeat (first | refine blk_drewN ?_ _ | refine blk_drew ?_ | refine blk_alloc ?_ _)); refine blk_put (cs := #[.int .i64 t234, .int .i64 t235, .int .i64 t236, .slice Ao60 t237.length co60, .int .i64 0, .int .i64 0]) ?_ 4 _ rfl; (with_reducible repeat (first | refine blk_drewN ?_ _ | refine blk_drew ?_ | refine blk_alloc ?_ _)); refine blk_put (cs := #[.int .i64 t234, .int .i64 t235, .int .i64 t236, .slice none 0 0, .int .i64 0, .int .i64 0]) ?_ 3 _ rfl; (with_reducible repeat (first | refine blk_drewN ?_ _ | refine blk_drew ?_ | refine blk_alloc ?_ _)); refine blk_put (cs := #[.int .i64 t234, .int .i64 t235, .int .i64 0, .slice none 0 0, .int .i64 0, .int .i64 0]) ?_ 2 _ rfl; (with_reducible repeat (first | refine blk_drewN ?_ _ | refine blk_drew ?_ | refine blk_alloc ?_ _)); refine blk_put (cs := #[.int .i64 t234, .int .i64 0, .int .i64 0, .slice none 0 0, .int .i64 0, .int .i64 0]) ?_ 1 _ rfl; (with_reducible repeat (first | refine blk_drewN ?_ _ | refine blk_drew ?_ | refine blk_alloc ?_ _)); refine blk_put (cs := #[.int .i64 0, .int .i64 0, .int .i64 0, .slice none 0 0, .int .i64 0, .int .i64 0]) ?_ 0 _ rfl; (with_reducible repeat (first | refine blk_drewN ?_ _ | refine blk_drew ?_ | refine blk_alloc ?_ _)); exact BK242.out) hb); have n3_ := Aside0.mk (below_step (by repeat (first | (with_reducible first | exact HB.out | apply below_alloc | apply pw_below_drewN | apply below_drew1 | refine below_set ?_ GE233.out | refine below_set ?_ GE242.out) | exact HB.out)) hb); clear HO239; clear BK233; clear BK242; clear HB; have HO239 := n0_; have BK233 := n1_; have BK242 := n2_; have HB := n3_; clear n0_ n1_ n2_ n3_; (try clear hb); (try clear hb2); (try clear hk); (try clear hi); have hcz63_0 : w62.cell? ⟨gb233, 0, none⟩ = some (.int .i64 a0_0) := (blk_cell BK233.out 0).trans rfl; have hcz63_1 : w62.cell? ⟨gb233, 1, none⟩ = some (.int .i64 a0_1) := (blk_cell BK233.out 1).trans rfl; have hcz63_2 : w62.cell? ⟨gb233, 2, none⟩ = some (.int .i64 a0_2) := (blk_cell BK233.out 2).trans rfl; have hcz63_3 : w62.cell? ⟨gb233, 3, none⟩ = some (.slice A0_3 l0_3.length c0_3) := (blk_cell BK233.out 3).trans rfl; have hcz63_4 : w62.cell? ⟨gb233, 4, none⟩ = some (.int .i64 a0_4) := (blk_cell BK233.out 4).trans rfl; have hcz63_5 : w62.cell? ⟨gb233, 5, none⟩ = some (.int .i64 a0_5) := (blk_cell BK233.out 5).trans rfl; have hfz63_0 := blk_frozen BK233.out 0; have hfz63_1 := blk_frozen BK233.out 1; have hfz63_2 := blk_frozen BK233.out 2; have hfz63_3 := blk_frozen BK233.out 3; have hfz63_4 := blk_frozen BK233.out 4; have hfz63_5 := blk_frozen BK233.out 5) | ((with_reducible refine gate_callee (f := 14) rfl ?_); refine goesL_ (some 19) rfl rfl Try.func14 (by kernel_rfl) rfl #[.agg #[.int .i64 a0_0, .int .i64 a0_1, .int .i64 a0_2, .slice A0_3 l0_3.length c0_3, .int .i64 a0_4, .int .i64 a0_5]] rfl (by (try simp only [List.map_toArray, List.map_cons, List.map_nil]); first | done | rfl | (simp only [List.length_drop, List.length_take]; rfl)) ?_; (with_reducible refine (lease_Tick.calls k a0_0 a0_1 a0_2 _ _ l0_3 a0_4 a0_5 t244 t245 t246 t247 t250 t251 t252 _ ?side1 ?side2 A7.out).mono ?_); (case side1 => repeat (first | exact (Kd.C_below HR0_3.out HB.out) | (with_reducible refine Kd.C_alloc ?_ _) | (with_reducible refine Kd.C_drewN ?_ _) | (with_reducible refine Kd.C_drew ?_))); (case side2 => exact HC0_3.out); rintro e w64 ⟨v248, rfl, ho0, hb⟩; refine ⟨_, rfl, ?_⟩; have n0_ := Aside0.mk (Kd.R_elder' (by (with_reducible repeat (first | apply Kd.R_alloc | apply Kd.R_drewN | apply Kd.R_drew)); exact HO239.out) (Kd.R_base ho0) hb); have n1_ := Aside0.mk (Kd.R_lower (Kd.R_new' ho0 (Kd.R_lt (by (with_reducible repeat (first | apply Kd.R_alloc | apply Kd.R_drewN | apply Kd.R_drew)); exact HO239.out))) (below_size (by repeat (first | (with_reducible first | exact HB.out | apply below_alloc | apply pw_below_drewN | apply below_drew1 | refine below_set ?_ GE233.out | refine below_set ?_ GE242.out) | exact HB.out)))); have n2_ := Aside0.mk (blk_below (g := gb233) (o := .cells #[.int .i64 a0_0, .int .i64 a0_1, .int .i64 a0_2, .slice A0_3 l0_3.length c0_3, .int .i64 a0_4, .int .i64 a0_5] 29 (0, 0)) (by (with_reducible repeat (first | refine blk_drewN ?_ _ | refine blk_drew ?_ | refine blk_alloc ?_ _)); exact BK233.out) hb); have n3_ := Aside0.mk (blk_below (g := gb242) (o := .cells #[.int .i64 t234, .int .i64 t235, .int .i64 t236, .slice Ao60 t237.length co60, .int .i64 t240, .int .i64 t241] 29 (0, 0)) (by (with_reducible repeat (first | refine blk_drewN ?_ _ | refine blk_drew ?_ | refine blk_alloc ?_ _)); exact BK242.out) hb); have n4_ := Aside0.mk (below_step (by repeat (first | (with_reducible first | exact HB.out | apply below_alloc | apply pw_below_drewN | apply below_drew1 | refine below_set ?_ GE233.out | refine below_set ?_ GE242.out) | exact HB.out)) hb); clear HO239; clear BK233; clear BK242; clear HB; have HO239 := n0_; have HO249 := n1_; have BK233 := n2_; have BK242 := n3_; have HB := n4_; clear n0_ n1_ n2_ n3_ n4_; (try clear hb); (try clear hb2); (try clear hk); (try clear hi); (try clear ho0)) | ((with_reducible refine gate_dst (N := 5) rfl ?_); refine box_event ?hg (N := 5) ?hd (cs := #[.int .i64 0, .int .i64 0, .int .i64 0, .slice none 0 0, .int .i64 0, .int .i64 0]) (t := 29) ?hr ?_; (case hd => rfl); (case hg => rfl); (case hr => first | (go_simp; done) | (go_simp; rfl)); intro gb253 hg w65 hbox hb; have n0_ := Aside0.mk (Kd.R_below (by (with_reducible repeat (first | apply Kd.R_alloc | apply Kd.R_drewN | apply Kd.R_drew)); exact HO239.out) hb); have n1_ := Aside0.mk (Kd.R_below (by (with_reducible repeat (first | apply Kd.R_alloc | apply Kd.R_drewN | apply Kd.R_drew)); exact HO249.out) hb); have n2_ := Aside0.mk (blk_below (g := gb233) (o := .cells #[.int .i64 a0_0, .int .i64 a0_1, .int .i64 a0_2, .slice A0_3 l0_3.length c0_3, .int .i64 a0_4, .int .i64 a0_5] 29 (0, 0)) (by (with_reducible repeat (first | refine blk_drewN ?_ _ | refine blk_drew ?_ | refine blk_alloc ?_ _)); exact BK233.out) hb); have n3_ := Aside0.mk (blk_below (g := gb242) (o := .cells #[.int .i64 t234, .int .i64 t235, .int .i64 t236, .slice Ao60 t237.length co60, .int .i64 t240, .int .i64 t241] 29 (0, 0)) (by (with_reducible repeat (first | refine blk_drewN ?_ _ | refine blk_drew ?_ | refine blk_alloc ?_ _)); exact BK242.out) hb); have n4_ := Aside0.mk (below_step (by repeat (first | (with_reducible first | exact HB.out | apply below_alloc | apply pw_below_drewN | apply below_drew1 | refine below_set ?_ GE233.out | refine below_set ?_ GE242.out) | exact HB.out)) hb); have n5_ := Aside0.mk (hbox); have n6_ := Aside0.mk ((by rw [hg]; exact (below_size (by repeat (first | (with_reducible first | exact HB.out | apply below_alloc | apply pw_below_drewN | apply below_drew1 | refine below_set ?_ GE233.out | refine below_set ?_ GE242.out) | exact HB.out))) : w.heap.size ≤ gb253)); have n7_ := Aside0.mk ((by rw [hg]; exact (below_size (by repeat (first | (with_reducible first | exact HB.out | apply below_alloc | apply pw_below_drewN | apply below_drew1 | refine below_set ?_ GE233.out | refine below_set ?_ GE242.out) | exact HB.out))) : w.heap.size ≤ gb253)); have n8_ := Aside0.mk ((by rw [hg]; exact Nat.ne_of_lt (blk_lt (g := gb233) (o := .cells #[.int .i64 a0_0, .int .i64 a0_1, .int .i64 a0_2, .slice A0_3 l0_3.length c0_3, .int .i64 a0_4, .int .i64 a0_5] 29 (0, 0)) (by (with_reducible repeat (first | refine blk_drewN ?_ _ | refine blk_drew ?_ | refine blk_alloc ?_ _)); exact BK233.out)) : gb233 ≠ gb253)); have n9_ := Aside0.mk ((by rw [hg]; exact Nat.ne_of_gt (blk_lt (g := gb233) (o := .cells #[.int .i64 a0_0, .int .i64 a0_1, .int .i64 a0_2, .slice A0_3 l0_3.length c0_3, .int .i64 a0_4, .int .i64 a0_5] 29 (0, 0)) (by (with_reducible repeat (first | refine blk_drewN ?_ _ | refine blk_drew ?_ | refine blk_alloc ?_ _)); exact BK233.out)) : gb253 ≠ gb233)); have n10_ := Aside0.mk ((by rw [hg]; exact Nat.ne_of_lt (blk_lt (g := gb242) (o := .cells #[.int .i64 t234, .int .i64 t235, .int .i64 t236, .slice Ao60 t237.length co60, .int .i64 t240, .int .i64 t241] 29 (0, 0)) (by (with_reducible repeat (first | refine blk_drewN ?_ _ | refine blk_drew ?_ | refine blk_alloc ?_ _)); exact BK242.out)) : gb242 ≠ gb253)); have n11_ := Aside0.mk ((by rw [hg]; exact Nat.ne_of_gt (blk_lt (g := gb242) (o := .cells #[.int .i64 t234, .int .i64 t235, .int .i64 t236, .slice Ao60 t237.length co60, .int .i64 t240, .int .i64 t241] 29 (0, 0)) (by (with_reducible repeat (first | refine blk_drewN ?_ _ | refine blk_drew ?_ | refine blk_alloc ?_ _)); exact BK242.out)) : gb253 ≠ gb242)); clear HO239; clear HO249; clear BK233; clear BK242; clear HB; have HO239 := n0_; have HO249 := n1_; have BK233 := n2_; have BK242 := n3_; have HB := n4_; have BK253 := n5_; have GW253 := n6_; have GE253 := n7_; have NB233_253 := n8_; have NB253_233 := n9_; have NB242_253 := n10_; have NB253_242 := n11_; clear n0_ n1_ n2_ n3_ n4_ n5_ n6_ n7_ n8_ n9_ n10_ n11_; clear hb hbox hg; have hnb66 := NB253_233.out; have hnc66 := NB233_253.out; have hnb67 := NB253_242.out; have hnc67 := NB242_253.out; have hcz68_0 : w65.cell? ⟨gb253, 0, none⟩ = some (.int .i64 0) := (blk_cell BK253.out 0).trans rfl; have hcz68_1 : w65.cell? ⟨gb253, 1, none⟩ = some (.int .i64 0) := (blk_cell BK253.out 1).trans rfl; have hcz68_2 : w65.cell? ⟨gb253, 2, none⟩ = some (.int .i64 0) := (blk_cell BK253.out 2).trans rfl; have hcz68_3 : w65.cell? ⟨gb253, 3, none⟩ = some (.slice none 0 0) := (blk_cell BK253.out 3).trans rfl; have hcz68_4 : w65.cell? ⟨gb253, 4, none⟩ = some (.int .i64 0) := (blk_cell BK253.out 4).trans rfl; have hcz68_5 : w65.cell? ⟨gb253, 5, none⟩ = some (.int .i64 0) := (blk_cell BK253.out 5).trans rfl; have hfz68_0 := blk_frozen BK253.out 0; have hfz68_1 := blk_frozen BK253.out 1; have hfz68_2 := blk_frozen BK253.out 2; have hfz68_3 := blk_frozen BK253.out 3; have hfz68_4 := blk_frozen BK253.out 4; have hfz68_5 := blk_frozen BK253.out 5; obtain ⟨Ao69, co69, eo69⟩ := Kd.R_slice HO249.out; subst eo69; have hcz70_0 : w65.cell? ⟨gb242, 0, none⟩ = some (.int .i64 t234) := (blk_cell BK242.out 0).trans rfl; have hcz70_1 : w65.cell? ⟨gb242, 1, none⟩ = some (.int .i64 t235) := (blk_cell BK242.out 1).trans rfl; have hcz70_2 : w65.cell? ⟨gb242, 2, none⟩ = some (.int .i64 t236) := (blk_cell BK242.out 2).trans rfl; have hcz70_3 : w65.cell? ⟨gb242, 3, none⟩ = some (.slice Ao60 t237.length co60) := (blk_cell BK242.out 3).trans rfl; have hcz70_4 : w65.cell? ⟨gb242, 4, none⟩ = some (.int .i64 t240) := (blk_cell BK242.out 4).trans rfl; have hcz70_5 : w65.cell? ⟨gb242, 5, none⟩ = some (.int .i64 t241) := (blk_cell BK242.out 5).trans rfl; have hfz70_0 := blk_frozen BK242.out 0; have hfz70_1 := blk_frozen BK242.out 1; have hfz70_2 := blk_frozen BK242.out 2; have hfz70_3 := blk_frozen BK242.out 3; have hfz70_4 := blk_frozen BK242.out 4; have hfz70_5 := blk_frozen BK242.out 5) | ((with_reducible refine gate_callee (f := 15) rfl ?_); refine goesL_ (some 24) rfl rfl Try.func15 (by kernel_rfl) rfl #[.agg #[.int .i64 t234, .int .i64 t235, .int .i64 t236, .slice Ao60 t237.length co60, .int .i64 t240, .int .i64 t241]] rfl (by (try simp only [List.map_toArray, List.map_cons, List.map_nil]); first | done | rfl | (simp only [List.length_drop, List.length_take]; rfl)) ?_; (with_reducible refine (folkmootref20_Tick.calls t234 t235 t236 _ _ t237 t240 t241 t254 t255 t256 t257 t260 t261 t262 _ ?side1 ?side2 A8.out).mono ?_); (case side1 => refine (Kd.R_reads' (e := 59) (base := w.heap.size) (ok := fun k_ => (True ∧ some k_ ≠ (.slice Ao69 t247.length co69 : Value).ownBlock)) (n := t237.length) (c := co60) ?_).2.2; exact (by (with_reducible repeat (first | apply Kd.R_alloc | apply Kd.R_drewN | apply Kd.R_drew)); exact (Kd.R_mono (Kd.R_far (p := ⟨gb253, 5, none⟩) (Kd.R_far (p := ⟨gb253, 4, none⟩) (Kd.R_far (p := ⟨gb253, 3, none⟩) (Kd.R_far (p := ⟨gb253, 2, none⟩) (Kd.R_far (p := ⟨gb253, 1, none⟩) (Kd.R_far (p := ⟨gb253, 0, none⟩) (Kd.R_types HO239.out BK253.out (by decide)) (fun _ hk => hk.2) (.int .i64 t244)) (fun _ hk => hk.2) (.int .i64 t245)) (fun _ hk => hk.2) (.int .i64 t246)) (fun _ hk => hk.2) (.slice Ao69 t247.length co69)) (fun _ hk => hk.2) (.int .i64 t250)) (fun _ hk => hk.2) (.int .i64 t251)) (fun _ h_ => h_.1)))); (case side2 => exact (Kd.R_reads' HO239.out).2.1); rintro e w71 ⟨v258, rfl, ho0, hb⟩; refine ⟨_, rfl, ?_⟩; have n0_ := Aside0.mk (Kd.R_elder' (by (with_reducible repeat (first | apply Kd.R_alloc | apply Kd.R_drewN | apply Kd.R_drew)); exact (Kd.R_mono (Kd.R_far (p := ⟨gb253, 5, none⟩) (Kd.R_far (p := ⟨gb253, 4, none⟩) (Kd.R_far (p := ⟨gb253, 3, none⟩) (Kd.R_far (p := ⟨gb253, 2, none⟩) (Kd.R_far (p := ⟨gb253, 1, none⟩) (Kd.R_far (p := ⟨gb253, 0, none⟩) (Kd.R_types HO239.out BK253.out (by decide)) (fun _ hk => hk.2) (.int .i64 t244)) (fun _ hk => hk.2) (.int .i64 t245)) (fun _ hk => hk.2) (.int .i64 t246)) (fun _ hk => hk.2) (.slice Ao69 t247.length co69)) (fun _ hk => hk.2) (.int .i64 t250)) (fun _ hk => hk.2) (.int .i64 t251)) (fun _ h_ => h_.1))) (Kd.R_base ho0) hb); have n1_ := Aside0.mk (Kd.R_elder' (by (with_reducible repeat (first | apply Kd.R_alloc | apply Kd.R_drewN | apply Kd.R_drew)); exact (Kd.R_mono (Kd.R_far (p := ⟨gb253, 5, none⟩) (Kd.R_far (p := ⟨gb253, 4, none⟩) (Kd.R_far (p := ⟨gb253, 3, none⟩) (Kd.R_far (p := ⟨gb253, 2, none⟩) (Kd.R_far (p := ⟨gb253, 1, none⟩) (Kd.R_far (p := ⟨gb253, 0, none⟩) (Kd.R_types HO249.out BK253.out (by decide)) (fun _ hk => hk.2) (.int .i64 t244)) (fun _ hk => hk.2) (.int .i64 t245)) (fun _ hk => hk.2) (.int .i64 t246)) (fun _ hk => hk.2) (.slice Ao69 t247.length co69)) (fun _ hk => hk.2) (.int .i64 t250)) (fun _ hk => hk.2) (.int .i64 t251)) (fun _ h_ => h_.1))) (Kd.R_base ho0) hb); have n2_ := Aside0.mk (Kd.R_lower (Kd.R_new' (Kd.R_new' ho0 (Kd.R_lt (by (with_reducible repeat (first | apply Kd.R_alloc | apply Kd.R_drewN | apply Kd.R_drew)); exact (Kd.R_mono (Kd.R_far (p := ⟨gb253, 5, none⟩) (Kd.R_far (p := ⟨gb253, 4, none⟩) (Kd.R_far (p := ⟨gb253, 3, none⟩) (Kd.R_far (p := ⟨gb253, 2, none⟩) (Kd.R_far (p := ⟨gb253, 1, none⟩) (Kd.R_far (p := ⟨gb253, 0, none⟩) (Kd.R_types HO239.out BK253.out (by decide)) (fun _ hk => hk.2) (.int .i64 t244)) (fun _ hk => hk.2) (.int .i64 t245)) (fun _ hk => hk.2) (.int .i64 t246)) (fun _ hk => hk.2) (.slice Ao69 t247.length co69)) (fun _ hk => hk.2) (.int .i64 t250)) (fun _ hk => hk.2) (.int .i64 t251)) (fun _ h_ => h_.1))))) (Kd.R_lt (by (with_reducible repeat (first | apply Kd.R_alloc | apply Kd.R_drewN | apply Kd.R_drew)); exact (Kd.R_mono (Kd.R_far (p := ⟨gb253, 5, none⟩) (Kd.R_far (p := ⟨gb253, 4, none⟩) (Kd.R_far (p := ⟨gb253, 3, none⟩) (Kd.R_far (p := ⟨gb253, 2, none⟩) (Kd.R_far (p := ⟨gb253, 1, none⟩) (Kd.R_far (p := ⟨gb253, 0, none⟩) (Kd.R_types HO249.out BK253.out (by decide)) (fun _ hk => hk.2) (.int .i64 t244)) (fun _ hk => hk.2) (.int .i64 t245)) (fun _ hk => hk.2) (.int .i64 t246)) (fun _ hk => hk.2) (.slice Ao69 t247.length co69)) (fun _ hk => hk.2) (.int .i64 t250)) (fun _ hk => hk.2) (.int .i64 t251)) (fun _ h_ => h_.1))))) (below_size (by repeat (first | (with_reducible first | exact HB.out | apply below_alloc | apply pw_below_drewN | apply below_drew1 | refine below_set ?_ GE233.out | refine below_set ?_ GE242.out | refine below_set ?_ GE253.out) | exact HB.out)))); have n3_ := Aside0.mk (blk_below (g := gb233) (o := .cells #[.int .i64 a0_0, .int .i64 a0_1, .int .i64 a0_2, .slice A0_3 l0_3.length c0_3, .int .i64 a0_4, .int .i64 a0_5] 29 (0, 0)) (by (with_reducible repeat (first | refine blk_drewN ?_ _ | refine blk_drew ?_ | refine blk_alloc ?_ _)); refine blk_far ?_ NB233_253.out _; (with_reducible repeat (first | refine blk_drewN ?_ _ | refine blk_drew ?_ | refine blk_alloc ?_ _)); refine blk_far ?_ NB233_253.out _; (with_reducible repeat (first | refine blk_drewN ?_ _ | refine blk_drew ?_ | refine blk_alloc ?_ _)); refine blk_far ?_ NB233_253.out _; (with_reducible repeat (first | refine blk_drewN ?_ _ | refine blk_drew ?_ | refine blk_alloc ?_ _)); refine blk_far ?_ NB233_253.out _; (with_reducible repeat (first | refine blk_drewN ?_ _ | refine blk_drew ?_ | refine blk_alloc ?_ _)); refine blk_far ?_ NB233_253.out _; (with_reducible repeat (first | refine blk_drewN ?_ _ | refine blk_drew ?_ | refine blk_alloc ?_ _)); refine blk_far ?_ NB233_253.out _; (with_reducible repeat (first | refine blk_drewN ?_ _ | refine blk_drew ?_ | refine blk_alloc ?_ _)); exact BK233.out) hb); have n4_ := Aside0.mk (blk_below (g := gb242) (o := .cells #[.int .i64 t234, .int .i64 t235, .int .i64 t236, .slice Ao60 t237.length co60, .int .i64 t240, .int .i64 t241] 29 (0, 0)) (by (with_reducible repeat (first | refine blk_drewN ?_ _ | refine blk_drew ?_ | refine blk_alloc ?_ _)); refine blk_far ?_ NB242_253.out _; (with_reducible repeat (first | refine blk_drewN ?_ _ | refine blk_drew ?_ | refine blk_alloc ?_ _)); refine blk_far ?_ NB242_253.out _; (with_reducible repeat (first | refine blk_drewN ?_ _ | refine blk_drew ?_ | refine blk_alloc ?_ _)); refine blk_far ?_ NB242_253.out _; (with_reducible repeat (first | refine blk_drewN ?_ _ | refine blk_drew ?_ | refine blk_alloc ?_ _)); refine blk_far ?_ NB242_253.out _; (with_reducible repeat (first | refine blk_drewN ?_ _ | refine blk_drew ?_ | refine blk_alloc ?_ _)); refine blk_far ?_ NB242_253.out _; (with_reducible repeat (first | refine blk_drewN ?_ _ | refine blk_drew ?_ | refine blk_alloc ?_ _)); refine blk_far ?_ NB242_253.out _; (with_reducible repeat (first | refine blk_drewN ?_ _ | refine blk_drew ?_ | refine blk_alloc ?_ _)); exact BK242.out) hb); have n5_ := Aside0.mk (blk_below (g := gb253) (o := .cells #[.int .i64 t244, .int .i64 t245, .int .i64 t246, .slice Ao69 t247.length co69, .int .i64 t250, .int .i64 t251] 29 (0, 0)) (by (with_reducible repeat (first | refine blk_drewN ?_ _ | refine blk_drew ?_ | refine blk_alloc ?_ _)); refine blk_put (cs := #[.int .i64 t244, .int .i64 t245, .int .i64 t246, .slice Ao69 t247.length co69, .int .i64 t250, .int .i64 0]) ?_ 5 _ rfl; (with_reducible repeat (first | refine blk_drewN ?_ _ | refine blk_drew ?_ | refine blk_alloc ?_ _)); refine blk_put (cs := #[.int .i64 t244, .int .i64 t245, .int .i64 t246, .slice Ao69 t247.length co69, .int .i64 0, .int .i64 0]) ?_ 4 _ rfl; (with_reducible repeat (first | refine blk_drewN ?_ _ | refine blk_drew ?_ | refine blk_alloc ?_ _)); refine blk_put (cs := #[.int .i64 t244, .int .i64 t245, .int .i64 t246, .slice none 0 0, .int .i64 0, .int .i64 0]) ?_ 3 _ rfl; (with_reducible repeat (first | refine blk_drewN ?_ _ | refine blk_drew ?_ | refine blk_alloc ?_ _)); refine blk_put (cs := #[.int .i64 t244, .int .i64 t245, .int .i64 0, .slice none 0 0, .int .i64 0, .int .i64 0]) ?_ 2 _ rfl; (with_reducible repeat (first | refine blk_drewN ?_ _ | refine blk_drew ?_ | refine blk_alloc ?_ _)); refine blk_put (cs := #[.int .i64 t244, .int .i64 0, .int .i64 0, .slice none 0 0, .int .i64 0, .int .i64 0]) ?_ 1 _ rfl; (with_reducible repeat (first | refine blk_drewN ?_ _ | refine blk_drew ?_ | refine blk_alloc ?_ _)); refine blk_put (cs := #[.int .i64 0, .int .i64 0, .int .i64 0, .slice none 0 0, .int .i64 0, .int .i64 0]) ?_ 0 _ rfl; (with_reducible repeat (first | refine blk_drewN ?_ _ | refine blk_drew ?_ | refine blk_alloc ?_ _)); exact BK253.out) hb); have n6_ := Aside0.mk (below_step (by repeat (first | (with_reducible first | exact HB.out | apply below_alloc | apply pw_below_drewN | apply below_drew1 | refine below_set ?_ GE233.out | refine below_set ?_ GE242.out | refine below_set ?_ GE253.out) | exact HB.out)) hb); clear HO239; clear HO249; clear BK233; clear BK242; clear BK253; clear HB; have HO239 := n0_; have HO249 := n1_; have HO259 := n2_; have BK233 := n3_; have BK242 := n4_; have BK253 := n5_; have HB := n6_; clear n0_ n1_ n2_ n3_ n4_ n5_ n6_; (try clear hb); (try clear hb2); (try clear hk); (try clear hi); (try clear ho0)) | ((with_reducible refine gate_dst (N := 7) rfl ?_); refine box_event ?hg (N := 7) ?hd (cs := #[.int .i64 0, .int .i64 0, .int .i64 0, .slice none 0 0, .int .i64 0, .int .i64 0]) (t := 29) ?hr ?_; (case hd => rfl); (case hg => rfl); (case hr => first | (go_simp; done) | (go_simp; rfl)); intro gb263 hg w72 hbox hb; have n0_ := Aside0.mk (Kd.R_below (by (with_reducible repeat (first | apply Kd.R_alloc | apply Kd.R_drewN | apply Kd.R_drew)); exact HO239.out) hb); have n1_ := Aside0.mk (Kd.R_below (by (with_reducible repeat (first | apply Kd.R_alloc | apply Kd.R_drewN | apply Kd.R_drew)); exact HO249.out) hb); have n2_ := Aside0.mk (Kd.R_below (by (with_reducible repeat (first | apply Kd.R_alloc | apply Kd.R_drewN | apply Kd.R_drew)); exact HO259.out) hb); have n3_ := Aside0.mk (blk_below (g := gb233) (o := .cells #[.int .i64 a0_0, .int .i64 a0_1, .int .i64 a0_2, .slice A0_3 l0_3.length c0_3, .int .i64 a0_4, .int .i64 a0_5] 29 (0, 0)) (by (with_reducible repeat (first | refine blk_drewN ?_ _ | refine blk_drew ?_ | refine blk_alloc ?_ _)); exact BK233.out) hb); have n4_ := Aside0.mk (blk_below (g := gb242) (o := .cells #[.int .i64 t234, .int .i64 t235, .int .i64 t236, .slice Ao60 t237.length co60, .int .i64 t240, .int .i64 t241] 29 (0, 0)) (by (with_reducible repeat (first | refine blk_drewN ?_ _ | refine blk_drew ?_ | refine blk_alloc ?_ _)); exact BK242.out) hb); have n5_ := Aside0.mk (blk_below (g := gb253) (o := .cells #[.int .i64 t244, .int .i64 t245, .int .i64 t246, .slice Ao69 t247.length co69, .int .i64 t250, .int .i64 t251] 29 (0, 0)) (by (with_reducible repeat (first | refine blk_drewN ?_ _ | refine blk_drew ?_ | refine blk_alloc ?_ _)); exact BK253.out) hb); have n6_ := Aside0.mk (below_step (by repeat (first | (with_reducible first | exact HB.out | apply below_alloc | apply pw_below_drewN | apply below_drew1 | refine below_set ?_ GE233.out | refine below_set ?_ GE242.out | refine below_set ?_ GE253.out) | exact HB.out)) hb); have n7_ := Aside0.mk (hbox); have n8_ := Aside0.mk ((by rw [hg]; exact (below_size (by repeat (first | (with_reducible first | exact HB.out | apply below_alloc | apply pw_below_drewN | apply below_drew1 | refine below_set ?_ GE233.out | refine below_set ?_ GE242.out | refine below_set ?_ GE253.out) | exact HB.out))) : w.heap.size ≤ gb263)); have n9_ := Aside0.mk ((by rw [hg]; exact (below_size (by repeat (first | (with_reducible first | exact HB.out | apply below_alloc | apply pw_below_drewN | apply below_drew1 | refine below_set ?_ GE233.out | refine below_set ?_ GE242.out | refine below_set ?_ GE253.out) | exact HB.out))) : w.heap.size ≤ gb263)); have n10_ := Aside0.mk ((by rw [hg]; exact Nat.ne_of_lt (blk_lt (g := gb233) (o := .cells #[.int .i64 a0_0, .int .i64 a0_1, .int .i64 a0_2, .slice A0_3 l0_3.length c0_3, .int .i64 a0_4, .int .i64 a0_5] 29 (0, 0)) (by (with_reducible repeat (first | refine blk_drewN ?_ _ | refine blk_drew ?_ | refine blk_alloc ?_ _)); exact BK233.out)) : gb233 ≠ gb263)); have n11_ := Aside0.mk ((by rw [hg]; exact Nat.ne_of_gt (blk_lt (g := gb233) (o := .cells #[.int .i64 a0_0, .int .i64 a0_1, .int .i64 a0_2, .slice A0_3 l0_3.length c0_3, .int .i64 a0_4, .int .i64 a0_5] 29 (0, 0)) (by (with_reducible repeat (first | refine blk_drewN ?_ _ | refine blk_drew ?_ | refine blk_alloc ?_ _)); exact BK233.out)) : gb263 ≠ gb233)); have n12_ := Aside0.mk ((by rw [hg]; exact Nat.ne_of_lt (blk_lt (g := gb242) (o := .cells #[.int .i64 t234, .int .i64 t235, .int .i64 t236, .slice Ao60 t237.length co60, .int .i64 t240, .int .i64 t241] 29 (0, 0)) (by (with_reducible repeat (first | refine blk_drewN ?_ _ | refine blk_drew ?_ | refine blk_alloc ?_ _)); exact BK242.out)) : gb242 ≠ gb263)); have n13_ := Aside0.mk ((by rw [hg]; exact Nat.ne_of_gt (blk_lt (g := gb242) (o := .cells #[.int .i64 t234, .int .i64 t235, .int .i64 t236, .slice Ao60 t237.length co60, .int .i64 t240, .int .i64 t241] 29 (0, 0)) (by (with_reducible repeat (first | refine blk_drewN ?_ _ | refine blk_drew ?_ | refine blk_alloc ?_ _)); exact BK242.out)) : gb263 ≠ gb242)); have n14_ := Aside0.mk ((by rw [hg]; exact Nat.ne_of_lt (blk_lt (g := gb253) (o := .cells #[.int .i64 t244, .int .i64 t245, .int .i64 t246, .slice Ao69 t247.length co69, .int .i64 t250, .int .i64 t251] 29 (0, 0)) (by (with_reducible repeat (first | refine blk_drewN ?_ _ | refine blk_drew ?_ | refine blk_alloc ?_ _)); exact BK253.out)) : gb253 ≠ gb263)); have n15_ := Aside0.mk ((by rw [hg]; exact Nat.ne_of_gt (blk_lt (g := gb253) (o := .cells #[.int .i64 t244, .int .i64 t245, .int .i64 t246, .slice Ao69 t247.length co69, .int .i64 t250, .int .i64 t251] 29 (0, 0)) (by (with_reducible repeat (first | refine blk_drewN ?_ _ | refine blk_drew ?_ | refine blk_alloc ?_ _)); exact BK253.out)) : gb263 ≠ gb253)); clear HO239; clear HO249; clear HO259; clear BK233; clear BK242; clear BK253; clear HB; have HO239 := n0_; have HO249 := n1_; have HO259 := n2_; have BK233 := n3_; have BK242 := n4_; have BK253 := n5_; have HB := n6_; have BK263 := n7_; have GW263 := n8_; have GE263 := n9_; have NB233_263 := n10_; have NB263_233 := n11_; have NB242_263 := n12_; have NB263_242 := n13_; have NB253_263 := n14_; have NB263_253 := n15_; clear n0_ n1_ n2_ n3_ n4_ n5_ n6_ n7_ n8_ n9_ n10_ n11_ n12_ n13_ n14_ n15_; clear hb hbox hg; have hnb73 := NB263_233.out; have hnc73 := NB233_263.out; have hnb74 := NB263_242.out; have hnc74 := NB242_263.out; have hnb75 := NB263_253.out; have hnc75 := NB253_263.out; have hcz76_0 : w72.cell? ⟨gb263, 0, none⟩ = some (.int .i64 0) := (blk_cell BK263.out 0).trans rfl; have hcz76_1 : w72.cell? ⟨gb263, 1, none⟩ = some (.int .i64 0) := (blk_cell BK263.out 1).trans rfl; have hcz76_2 : w72.cell? ⟨gb263, 2, none⟩ = some (.int .i64 0) := (blk_cell BK263.out 2).trans rfl; have hcz76_3 : w72.cell? ⟨gb263, 3, none⟩ = some (.slice none 0 0) := (blk_cell BK263.out 3).trans rfl; have hcz76_4 : w72.cell? ⟨gb263, 4, none⟩ = some (.int .i64 0) := (blk_cell BK263.out 4).trans rfl; have hcz76_5 : w72.cell? ⟨gb263, 5, none⟩ = some (.int .i64 0) := (blk_cell BK263.out 5).trans rfl; have hfz76_0 := blk_frozen BK263.out 0; have hfz76_1 := blk_frozen BK263.out 1; have hfz76_2 := blk_frozen BK263.out 2; have hfz76_3 := blk_frozen BK263.out 3; have hfz76_4 := blk_frozen BK263.out 4; have hfz76_5 := blk_frozen BK263.out 5; obtain ⟨Ao77, co77, eo77⟩ := Kd.R_slice HO259.out; subst eo77))
              have n0_ : Aside0 (Kd.R k59 59 ((((((w72.setCell ⟨gb263, 0, none⟩ (.int .i64 t254)).setCell ⟨gb263, 1, none⟩ (.int .i64 t255)).setCell ⟨gb263, 2, none⟩ (.int .i64 t256)).setCell ⟨gb263, 3, none⟩ (.slice Ao77 t257.length co77)).setCell ⟨gb263, 4, none⟩ (.int .i64 t260)).setCell ⟨gb263, 5, none⟩ (.int .i64 t261)) w.heap.size (fun k_ => some k_ ≠ (.slice Ao69 t247.length co69 : Value).ownBlock ∧ some k_ ≠ (.slice Ao77 t257.length co77 : Value).ownBlock) (.slice Ao60 t237.length co60) t237) := ⟨by (with_reducible repeat (first | apply Kd.R_alloc | apply Kd.R_drewN | apply Kd.R_drew)); exact Kd.R_mono (Kd.R_far (p := ⟨gb263, 5, none⟩) (Kd.R_far (p := ⟨gb263, 4, none⟩) (Kd.R_far (p := ⟨gb263, 3, none⟩) (Kd.R_far (p := ⟨gb263, 2, none⟩) (Kd.R_far (p := ⟨gb263, 1, none⟩) (Kd.R_far (p := ⟨gb263, 0, none⟩) (Kd.R_types HO239.out BK263.out (by decide)) (fun _ hk => hk.2) (.int .i64 t254)) (fun _ hk => hk.2) (.int .i64 t255)) (fun _ hk => hk.2) (.int .i64 t256)) (fun _ hk => hk.2) (.slice Ao77 t257.length co77)) (fun _ hk => hk.2) (.int .i64 t260)) (fun _ hk => hk.2) (.int .i64 t261)) (fun _ hk => ⟨hk.1.1.2, hk.1.2⟩)⟩
              have n1_ : Aside0 (Kd.R k59 59 ((((((w72.setCell ⟨gb263, 0, none⟩ (.int .i64 t254)).setCell ⟨gb263, 1, none⟩ (.int .i64 t255)).setCell ⟨gb263, 2, none⟩ (.int .i64 t256)).setCell ⟨gb263, 3, none⟩ (.slice Ao77 t257.length co77)).setCell ⟨gb263, 4, none⟩ (.int .i64 t260)).setCell ⟨gb263, 5, none⟩ (.int .i64 t261)) w.heap.size (fun k_ => some k_ ≠ (.slice Ao60 t237.length co60 : Value).ownBlock ∧ some k_ ≠ (.slice Ao77 t257.length co77 : Value).ownBlock) (.slice Ao69 t247.length co69) t247) := ⟨by (with_reducible repeat (first | apply Kd.R_alloc | apply Kd.R_drewN | apply Kd.R_drew)); exact Kd.R_mono (Kd.R_far (p := ⟨gb263, 5, none⟩) (Kd.R_far (p := ⟨gb263, 4, none⟩) (Kd.R_far (p := ⟨gb263, 3, none⟩) (Kd.R_far (p := ⟨gb263, 2, none⟩) (Kd.R_far (p := ⟨gb263, 1, none⟩) (Kd.R_far (p := ⟨gb263, 0, none⟩) (Kd.R_types HO249.out BK263.out (by decide)) (fun _ hk => hk.2) (.int .i64 t254)) (fun _ hk => hk.2) (.int .i64 t255)) (fun _ hk => hk.2) (.int .i64 t256)) (fun _ hk => hk.2) (.slice Ao77 t257.length co77)) (fun _ hk => hk.2) (.int .i64 t260)) (fun _ hk => hk.2) (.int .i64 t261)) (fun _ hk => ⟨hk.1.1.2, hk.1.2⟩)⟩
              have n2_ : Aside0 (Kd.R k59 59 ((((((w72.setCell ⟨gb263, 0, none⟩ (.int .i64 t254)).setCell ⟨gb263, 1, none⟩ (.int .i64 t255)).setCell ⟨gb263, 2, none⟩ (.int .i64 t256)).setCell ⟨gb263, 3, none⟩ (.slice Ao77 t257.length co77)).setCell ⟨gb263, 4, none⟩ (.int .i64 t260)).setCell ⟨gb263, 5, none⟩ (.int .i64 t261)) w.heap.size (fun k_ => some k_ ≠ (.slice Ao60 t237.length co60 : Value).ownBlock ∧ some k_ ≠ (.slice Ao69 t247.length co69 : Value).ownBlock) (.slice Ao77 t257.length co77) t257) := ⟨by (with_reducible repeat (first | apply Kd.R_alloc | apply Kd.R_drewN | apply Kd.R_drew)); exact Kd.R_mono (Kd.R_far (p := ⟨gb263, 5, none⟩) (Kd.R_far (p := ⟨gb263, 4, none⟩) (Kd.R_far (p := ⟨gb263, 3, none⟩) (Kd.R_far (p := ⟨gb263, 2, none⟩) (Kd.R_far (p := ⟨gb263, 1, none⟩) (Kd.R_far (p := ⟨gb263, 0, none⟩) (Kd.R_types HO259.out BK263.out (by decide)) (fun _ hk => hk.2) (.int .i64 t254)) (fun _ hk => hk.2) (.int .i64 t255)) (fun _ hk => hk.2) (.int .i64 t256)) (fun _ hk => hk.2) (.slice Ao77 t257.length co77)) (fun _ hk => hk.2) (.int .i64 t260)) (fun _ hk => hk.2) (.int .i64 t261)) (fun _ hk => ⟨hk.1.1.2, hk.1.2⟩)⟩
              have n3_ : Aside0 (((((((w72.setCell ⟨gb263, 0, none⟩ (.int .i64 t254)).setCell ⟨gb263, 1, none⟩ (.int .i64 t255)).setCell ⟨gb263, 2, none⟩ (.int .i64 t256)).setCell ⟨gb263, 3, none⟩ (.slice Ao77 t257.length co77)).setCell ⟨gb263, 4, none⟩ (.int .i64 t260)).setCell ⟨gb263, 5, none⟩ (.int .i64 t261)).heap[gb233]? = some (.cells #[.int .i64 a0_0, .int .i64 a0_1, .int .i64 a0_2, .slice A0_3 l0_3.length c0_3, .int .i64 a0_4, .int .i64 a0_5] 29 (0, 0))) := ⟨by (with_reducible repeat (first | refine blk_drewN ?_ _ | refine blk_drew ?_ | refine blk_alloc ?_ _)); refine blk_far ?_ NB233_263.out _; (with_reducible repeat (first | refine blk_drewN ?_ _ | refine blk_drew ?_ | refine blk_alloc ?_ _)); refine blk_far ?_ NB233_263.out _; (with_reducible repeat (first | refine blk_drewN ?_ _ | refine blk_drew ?_ | refine blk_alloc ?_ _)); refine blk_far ?_ NB233_263.out _; (with_reducible repeat (first | refine blk_drewN ?_ _ | refine blk_drew ?_ | refine blk_alloc ?_ _)); refine blk_far ?_ NB233_263.out _; (with_reducible repeat (first | refine blk_drewN ?_ _ | refine blk_drew ?_ | refine blk_alloc ?_ _)); refine blk_far ?_ NB233_263.out _; (with_reducible repeat (first | refine blk_drewN ?_ _ | refine blk_drew ?_ | refine blk_alloc ?_ _)); refine blk_far ?_ NB233_263.out _; (with_reducible repeat (first | refine blk_drewN ?_ _ | refine blk_drew ?_ | refine blk_alloc ?_ _)); exact BK233.out⟩
              have n4_ : Aside0 (((((((w72.setCell ⟨gb263, 0, none⟩ (.int .i64 t254)).setCell ⟨gb263, 1, none⟩ (.int .i64 t255)).setCell ⟨gb263, 2, none⟩ (.int .i64 t256)).setCell ⟨gb263, 3, none⟩ (.slice Ao77 t257.length co77)).setCell ⟨gb263, 4, none⟩ (.int .i64 t260)).setCell ⟨gb263, 5, none⟩ (.int .i64 t261)).heap[gb242]? = some (.cells #[.int .i64 t234, .int .i64 t235, .int .i64 t236, .slice Ao60 t237.length co60, .int .i64 t240, .int .i64 t241] 29 (0, 0))) := ⟨by (with_reducible repeat (first | refine blk_drewN ?_ _ | refine blk_drew ?_ | refine blk_alloc ?_ _)); refine blk_far ?_ NB242_263.out _; (with_reducible repeat (first | refine blk_drewN ?_ _ | refine blk_drew ?_ | refine blk_alloc ?_ _)); refine blk_far ?_ NB242_263.out _; (with_reducible repeat (first | refine blk_drewN ?_ _ | refine blk_drew ?_ | refine blk_alloc ?_ _)); refine blk_far ?_ NB242_263.out _; (with_reducible repeat (first | refine blk_drewN ?_ _ | refine blk_drew ?_ | refine blk_alloc ?_ _)); refine blk_far ?_ NB242_263.out _; (with_reducible repeat (first | refine blk_drewN ?_ _ | refine blk_drew ?_ | refine blk_alloc ?_ _)); refine blk_far ?_ NB242_263.out _; (with_reducible repeat (first | refine blk_drewN ?_ _ | refine blk_drew ?_ | refine blk_alloc ?_ _)); refine blk_far ?_ NB242_263.out _; (with_reducible repeat (first | refine blk_drewN ?_ _ | refine blk_drew ?_ | refine blk_alloc ?_ _)); exact BK242.out⟩
              have n5_ : Aside0 (((((((w72.setCell ⟨gb263, 0, none⟩ (.int .i64 t254)).setCell ⟨gb263, 1, none⟩ (.int .i64 t255)).setCell ⟨gb263, 2, none⟩ (.int .i64 t256)).setCell ⟨gb263, 3, none⟩ (.slice Ao77 t257.length co77)).setCell ⟨gb263, 4, none⟩ (.int .i64 t260)).setCell ⟨gb263, 5, none⟩ (.int .i64 t261)).heap[gb253]? = some (.cells #[.int .i64 t244, .int .i64 t245, .int .i64 t246, .slice Ao69 t247.length co69, .int .i64 t250, .int .i64 t251] 29 (0, 0))) := ⟨by (with_reducible repeat (first | refine blk_drewN ?_ _ | refine blk_drew ?_ | refine blk_alloc ?_ _)); refine blk_far ?_ NB253_263.out _; (with_reducible repeat (first | refine blk_drewN ?_ _ | refine blk_drew ?_ | refine blk_alloc ?_ _)); refine blk_far ?_ NB253_263.out _; (with_reducible repeat (first | refine blk_drewN ?_ _ | refine blk_drew ?_ | refine blk_alloc ?_ _)); refine blk_far ?_ NB253_263.out _; (with_reducible repeat (first | refine blk_drewN ?_ _ | refine blk_drew ?_ | refine blk_alloc ?_ _)); refine blk_far ?_ NB253_263.out _; (with_reducible repeat (first | refine blk_drewN ?_ _ | refine blk_drew ?_ | refine blk_alloc ?_ _)); refine blk_far ?_ NB253_263.out _; (with_reducible repeat (first | refine blk_drewN ?_ _ | refine blk_drew ?_ | refine blk_alloc ?_ _)); refine blk_far ?_ NB253_263.out _; (with_reducible repeat (first | refine blk_drewN ?_ _ | refine blk_drew ?_ | refine blk_alloc ?_ _)); exact BK253.out⟩
              have n6_ : Aside0 (((((((w72.setCell ⟨gb263, 0, none⟩ (.int .i64 t254)).setCell ⟨gb263, 1, none⟩ (.int .i64 t255)).setCell ⟨gb263, 2, none⟩ (.int .i64 t256)).setCell ⟨gb263, 3, none⟩ (.slice Ao77 t257.length co77)).setCell ⟨gb263, 4, none⟩ (.int .i64 t260)).setCell ⟨gb263, 5, none⟩ (.int .i64 t261)).heap[gb263]? = some (.cells #[.int .i64 t254, .int .i64 t255, .int .i64 t256, .slice Ao77 t257.length co77, .int .i64 t260, .int .i64 t261] 29 (0, 0))) := ⟨by (with_reducible repeat (first | refine blk_drewN ?_ _ | refine blk_drew ?_ | refine blk_alloc ?_ _)); refine blk_put (cs := #[.int .i64 t254, .int .i64 t255, .int .i64 t256, .slice Ao77 t257.length co77, .int .i64 t260, .int .i64 0]) ?_ 5 _ rfl; (with_reducible repeat (first | refine blk_drewN ?_ _ | refine blk_drew ?_ | refine blk_alloc ?_ _)); refine blk_put (cs := #[.int .i64 t254, .int .i64 t255, .int .i64 t256, .slice Ao77 t257.length co77, .int .i64 0, .int .i64 0]) ?_ 4 _ rfl; (with_reducible repeat (first | refine blk_drewN ?_ _ | refine blk_drew ?_ | refine blk_alloc ?_ _)); refine blk_put (cs := #[.int .i64 t254, .int .i64 t255, .int .i64 t256, .slice none 0 0, .int .i64 0, .int .i64 0]) ?_ 3 _ rfl; (with_reducible repeat (first | refine blk_drewN ?_ _ | refine blk_drew ?_ | refine blk_alloc ?_ _)); refine blk_put (cs := #[.int .i64 t254, .int .i64 t255, .int .i64 0, .slice none 0 0, .int .i64 0, .int .i64 0]) ?_ 2 _ rfl; (with_reducible repeat (first | refine blk_drewN ?_ _ | refine blk_drew ?_ | refine blk_alloc ?_ _)); refine blk_put (cs := #[.int .i64 t254, .int .i64 0, .int .i64 0, .slice none 0 0, .int .i64 0, .int .i64 0]) ?_ 1 _ rfl; (with_reducible repeat (first | refine blk_drewN ?_ _ | refine blk_drew ?_ | refine blk_alloc ?_ _)); refine blk_put (cs := #[.int .i64 0, .int .i64 0, .int .i64 0, .slice none 0 0, .int .i64 0, .int .i64 0]) ?_ 0 _ rfl; (with_reducible repeat (first | refine blk_drewN ?_ _ | refine blk_drew ?_ | refine blk_alloc ?_ _)); exact BK263.out⟩
              have n7_ : Aside0 (Below w.heap.size w ((((((w72.setCell ⟨gb263, 0, none⟩ (.int .i64 t254)).setCell ⟨gb263, 1, none⟩ (.int .i64 t255)).setCell ⟨gb263, 2, none⟩ (.int .i64 t256)).setCell ⟨gb263, 3, none⟩ (.slice Ao77 t257.length co77)).setCell ⟨gb263, 4, none⟩ (.int .i64 t260)).setCell ⟨gb263, 5, none⟩ (.int .i64 t261))) := ⟨by repeat (first | (with_reducible first | exact HB.out | apply below_alloc | apply pw_below_drewN | apply below_drew1 | refine below_set ?_ GE233.out | refine below_set ?_ GE242.out | refine below_set ?_ GE253.out | refine below_set ?_ GE263.out) | exact HB.out)⟩
              (try clear HO239)
              (try clear HO249)
              (try clear HO259)
              (try clear BK233)
              (try clear BK242)
              (try clear BK253)
              (try clear BK263)
              (try clear HB)
              generalize ((((((w72.setCell ⟨gb263, 0, none⟩ (.int .i64 t254)).setCell ⟨gb263, 1, none⟩ (.int .i64 t255)).setCell ⟨gb263, 2, none⟩ (.int .i64 t256)).setCell ⟨gb263, 3, none⟩ (.slice Ao77 t257.length co77)).setCell ⟨gb263, 4, none⟩ (.int .i64 t260)).setCell ⟨gb263, 5, none⟩ (.int .i64 t261)) = w78 at n0_ n1_ n2_ n3_ n4_ n5_ n6_ n7_ ⊢
              have HO239 := n0_
              have HO249 := n1_
              have HO259 := n2_
              have BK233 := n3_
              have BK242 := n4_
              have BK253 := n5_
              have BK263 := n6_
              have HB := n7_
              clear n0_ n1_ n2_ n3_ n4_ n5_ n6_ n7_
              have n0_ := Aside0.mk (Kd.R_drew HO239.out)
              have n1_ := Aside0.mk (Kd.R_drew HO249.out)
              have n2_ := Aside0.mk (Kd.R_drew HO259.out)
              have n3_ := Aside0.mk (blk_drew BK233.out)
              have n4_ := Aside0.mk (blk_drew BK242.out)
              have n5_ := Aside0.mk (blk_drew BK253.out)
              have n6_ := Aside0.mk (blk_drew BK263.out)
              have n7_ := Aside0.mk (below_drew1 HB.out)
              clear HO239
              clear HO249
              clear HO259
              clear BK233
              clear BK242
              clear BK253
              clear BK263
              clear HB
              have HO239 := n0_
              have HO249 := n1_
              have HO259 := n2_
              have BK233 := n3_
              have BK242 := n4_
              have BK253 := n5_
              have BK263 := n6_
              have HB := n7_
              clear n0_ n1_ n2_ n3_ n4_ n5_ n6_ n7_
              refine start_ (n := 33) (S := fun w' => w'.cell? ⟨gb242, 0, none⟩ = some (.int .i64 t234) ∧ w'.cell? ⟨gb242, 1, none⟩ = some (.int .i64 t235) ∧ w'.cell? ⟨gb242, 2, none⟩ = some (.int .i64 t236) ∧ w'.cell? ⟨gb242, 3, none⟩ = some (.slice Ao60 t237.length co60) ∧ w'.cell? ⟨gb242, 4, none⟩ = some (.int .i64 t240) ∧ w'.cell? ⟨gb242, 5, none⟩ = some (.int .i64 t241) ∧ w'.cell? ⟨gb233, 0, none⟩ = some (.int .i64 a0_0) ∧ w'.cell? ⟨gb233, 1, none⟩ = some (.int .i64 a0_1) ∧ w'.cell? ⟨gb233, 2, none⟩ = some (.int .i64 a0_2) ∧ w'.cell? ⟨gb233, 3, none⟩ = some (.slice A0_3 l0_3.length c0_3) ∧ w'.cell? ⟨gb233, 4, none⟩ = some (.int .i64 a0_4) ∧ w'.cell? ⟨gb233, 5, none⟩ = some (.int .i64 a0_5) ∧ w'.cell? ⟨gb253, 0, none⟩ = some (.int .i64 t244) ∧ w'.cell? ⟨gb253, 1, none⟩ = some (.int .i64 t245) ∧ w'.cell? ⟨gb253, 2, none⟩ = some (.int .i64 t246) ∧ w'.cell? ⟨gb253, 3, none⟩ = some (.slice Ao69 t247.length co69) ∧ w'.cell? ⟨gb253, 4, none⟩ = some (.int .i64 t250) ∧ w'.cell? ⟨gb253, 5, none⟩ = some (.int .i64 t251) ∧ w'.cell? ⟨gb263, 0, none⟩ = some (.int .i64 t254) ∧ w'.cell? ⟨gb263, 1, none⟩ = some (.int .i64 t255) ∧ w'.cell? ⟨gb263, 2, none⟩ = some (.int .i64 t256) ∧ w'.cell? ⟨gb263, 3, none⟩ = some (.slice Ao77 t257.length co77) ∧ w'.cell? ⟨gb263, 4, none⟩ = some (.int .i64 t260) ∧ w'.cell? ⟨gb263, 5, none⟩ = some (.int .i64 t261)) (ds := []) #[false, false, false, false, false, false, false, false, false, false, false, false, false, false, false, false, false, false, false, false, false, false, false, false, false, false, false, false, false, false, false, false, false] (by kernel_rfl) rfl rfl ⟨(blk_cell BK242.out 0).trans rfl, (blk_cell BK242.out 1).trans rfl, (blk_cell BK242.out 2).trans rfl, (blk_cell BK242.out 3).trans rfl, (blk_cell BK242.out 4).trans rfl, (blk_cell BK242.out 5).trans rfl, (blk_cell BK233.out 0).trans rfl, (blk_cell BK233.out 1).trans rfl, (blk_cell BK233.out 2).trans rfl, (blk_cell BK233.out 3).trans rfl, (blk_cell BK233.out 4).trans rfl, (blk_cell BK233.out 5).trans rfl, (blk_cell BK253.out 0).trans rfl, (blk_cell BK253.out 1).trans rfl, (blk_cell BK253.out 2).trans rfl, (blk_cell BK253.out 3).trans rfl, (blk_cell BK253.out 4).trans rfl, (blk_cell BK253.out 5).trans rfl, (blk_cell BK263.out 0).trans rfl, (blk_cell BK263.out 1).trans rfl, (blk_cell BK263.out 2).trans rfl, (blk_cell BK263.out 3).trans rfl, (blk_cell BK263.out 4).trans rfl, (blk_cell BK263.out 5).trans rfl⟩ (fun hHeld => ?_); refine with_tabW folkmootlaw20_LeaseChecks.tab7 folkmootlaw20_LeaseChecks.bits7 (fun HT_ HW_ => ?_)
              generalize w78.drew = w79 at HO239 HO249 HO259 BK233 BK242 BK253 BK263 HB hHeld ⊢
              refine one_ (i := 0) (N := some 27) #[true, false, false, false, false, false, false, false, false, false, false, false, false, false, false, false, false, false, false, false, false, false, false, false, false, false, false, false, false, false, false, false, false] rfl rfl (one_of HT_.out (by kernel_rfl)) (by decide) (fun K hK => ?_)
              refine goes_ Try.func16 (by kernel_rfl) rfl #[] (by rfl) rfl rfl (by (try simp only [List.map_toArray, List.map_cons, List.map_nil]); first | done | rfl | (simp only [List.length_drop, List.length_take]; rfl)) ?_
              with_reducible refine (folkmootlaw20_good.calls k  true _ A9.out).mono ?_
              rintro e w80 ⟨rfl, hb⟩
              refine ⟨_, rfl, ?_⟩
              have n0_ := Aside0.mk (Kd.R_below (by (with_reducible repeat (first | apply Kd.R_alloc | apply Kd.R_drewN | apply Kd.R_drew)); exact HO239.out) hb)
              have n1_ := Aside0.mk (Kd.R_below (by (with_reducible repeat (first | apply Kd.R_alloc | apply Kd.R_drewN | apply Kd.R_drew)); exact HO249.out) hb)
              have n2_ := Aside0.mk (Kd.R_below (by (with_reducible repeat (first | apply Kd.R_alloc | apply Kd.R_drewN | apply Kd.R_drew)); exact HO259.out) hb)
              have n3_ := Aside0.mk (blk_below (g := gb233) (o := .cells #[.int .i64 a0_0, .int .i64 a0_1, .int .i64 a0_2, .slice A0_3 l0_3.length c0_3, .int .i64 a0_4, .int .i64 a0_5] 29 (0, 0)) (by (with_reducible repeat (first | refine blk_drewN ?_ _ | refine blk_drew ?_ | refine blk_alloc ?_ _)); exact BK233.out) hb)
              have n4_ := Aside0.mk (blk_below (g := gb242) (o := .cells #[.int .i64 t234, .int .i64 t235, .int .i64 t236, .slice Ao60 t237.length co60, .int .i64 t240, .int .i64 t241] 29 (0, 0)) (by (with_reducible repeat (first | refine blk_drewN ?_ _ | refine blk_drew ?_ | refine blk_alloc ?_ _)); exact BK242.out) hb)
              have n5_ := Aside0.mk (blk_below (g := gb253) (o := .cells #[.int .i64 t244, .int .i64 t245, .int .i64 t246, .slice Ao69 t247.length co69, .int .i64 t250, .int .i64 t251] 29 (0, 0)) (by (with_reducible repeat (first | refine blk_drewN ?_ _ | refine blk_drew ?_ | refine blk_alloc ?_ _)); exact BK253.out) hb)
              have n6_ := Aside0.mk (blk_below (g := gb263) (o := .cells #[.int .i64 t254, .int .i64 t255, .int .i64 t256, .slice Ao77 t257.length co77, .int .i64 t260, .int .i64 t261] 29 (0, 0)) (by (with_reducible repeat (first | refine blk_drewN ?_ _ | refine blk_drew ?_ | refine blk_alloc ?_ _)); exact BK263.out) hb)
              have n7_ := Aside0.mk (below_step (by repeat (first | (with_reducible first | exact HB.out | apply below_alloc | apply pw_below_drewN | apply below_drew1 | refine below_set ?_ GE233.out | refine below_set ?_ GE242.out | refine below_set ?_ GE253.out | refine below_set ?_ GE263.out) | exact HB.out)) hb)
              clear HO239
              clear HO249
              clear HO259
              clear BK233
              clear BK242
              clear BK253
              clear BK263
              clear HB
              have HO239 := n0_
              have HO249 := n1_
              have HO259 := n2_
              have BK233 := n3_
              have BK242 := n4_
              have BK253 := n5_
              have BK263 := n6_
              have HB := n7_
              clear n0_ n1_ n2_ n3_ n4_ n5_ n6_ n7_
              (try clear hb)
              (try clear hb2)
              (try clear hk)
              (try clear hi)
              refine hK.out _ _ ⟨(blk_cell BK242.out 0).trans rfl, (blk_cell BK242.out 1).trans rfl, (blk_cell BK242.out 2).trans rfl, (blk_cell BK242.out 3).trans rfl, (blk_cell BK242.out 4).trans rfl, (blk_cell BK242.out 5).trans rfl, (blk_cell BK233.out 0).trans rfl, (blk_cell BK233.out 1).trans rfl, (blk_cell BK233.out 2).trans rfl, (blk_cell BK233.out 3).trans rfl, (blk_cell BK233.out 4).trans rfl, (blk_cell BK233.out 5).trans rfl, (blk_cell BK253.out 0).trans rfl, (blk_cell BK253.out 1).trans rfl, (blk_cell BK253.out 2).trans rfl, (blk_cell BK253.out 3).trans rfl, (blk_cell BK253.out 4).trans rfl, (blk_cell BK253.out 5).trans rfl, (blk_cell BK263.out 0).trans rfl, (blk_cell BK263.out 1).trans rfl, (blk_cell BK263.out 2).trans rfl, (blk_cell BK263.out 3).trans rfl, (blk_cell BK263.out 4).trans rfl, (blk_cell BK263.out 5).trans rfl⟩ (fun hHeld => ?_)
              clear hK K
              refine norm_ (a' := ?_) ?_ ?_
              rotate_left
              · show Act.put _ (some 27) _ = _
                simp only [Act.put, List.setIfInBounds_toArray, List.set_cons_zero, List.set_cons_succ, i64_w, i32_w]
                rfl
              refine pure_ (i := 1) (N := some 28) (v := ?_) (a' := ?_) #[true, true, false, false, false, false, false, false, false, false, false, false, false, false, false, false, false, false, false, false, false, false, false, false, false, false, false, false, false, false, false, false, false] rfl rfl (any_of HT_.out (by kernel_rfl)) (fun _ _ _ h => h) (Or.inl ⟨by rfl, ?_⟩) ?_ ?_
              rotate_left
              · intro w'
                go_simp
                with_reducible rfl
              rotate_left
              · simp only [Act.put, List.setIfInBounds_toArray, List.set_cons_zero, List.set_cons_succ, i64_w, i32_w]
                rfl
              refine pure_ (i := 2) (N := some 29) (v := ?_) (a' := ?_) #[true, true, true, false, false, false, false, false, false, false, false, false, false, false, false, false, false, false, false, false, false, false, false, false, false, false, false, false, false, false, false, false, false] rfl rfl (any_of HT_.out (by kernel_rfl)) (fun _ _ _ h => h) (Or.inl ⟨by rfl, ?_⟩) ?_ ?_
              rotate_left
              · intro w'
                go_simp
                with_reducible rfl
              rotate_left
              · simp only [Act.put, List.setIfInBounds_toArray, List.set_cons_zero, List.set_cons_succ, i64_w, i32_w]
                rfl
              refine pure_ (i := 3) (N := some 30) (v := ?_) (a' := ?_) #[true, true, true, true, false, false, false, false, false, false, false, false, false, false, false, false, false, false, false, false, false, false, false, false, false, false, false, false, false, false, false, false, false] rfl rfl (any_of HT_.out (by kernel_rfl)) (fun _ _ _ h => h) (Or.inl ⟨by rfl, ?_⟩) ?_ ?_
              rotate_left
              · intro w'
                go_simp
                with_reducible rfl
              rotate_left
              · simp only [Act.put, List.setIfInBounds_toArray, List.set_cons_zero, List.set_cons_succ, i64_w, i32_w]
                rfl
              refine take_ (i := 4) (N := some 31) (v := ?_) (a' := ?_) #[true, true, true, true, true, false, false, false, false, false, false, false, false, false, false, false, false, false, false, false, false, false, false, false, false, false, false, false, false, false, false, false, false] rfl rfl (take_ofW HT_.out HW_.out (by kernel_rfl)) (fun _ _ _ h => h) (Or.inl ⟨by rfl, ?_⟩) hHeld ?_ ?_
              rotate_left
              · rintro w' ⟨s0, s1, s2, s3, s4, s5, s6, s7, s8, s9, s10, s11, s12, s13, s14, s15, s16, s17, s18, s19, s20, s21, s22, s23⟩
                go_simp
                with_reducible rfl
              rotate_left
              · simp only [Act.put, List.setIfInBounds_toArray, List.set_cons_zero, List.set_cons_succ, i64_w, i32_w]
                rfl
              refine one_ (i := 5) (N := some 32) #[true, true, true, true, true, true, false, false, false, false, false, false, false, false, false, false, false, false, false, false, false, false, false, false, false, false, false, false, false, false, false, false, false] rfl rfl (one_of HT_.out (by kernel_rfl)) (by decide) (fun K hK => ?_)
              refine goes_ Try.func17 (by kernel_rfl) rfl #[.agg #[.int .i64 t234, .int .i64 t235, .int .i64 t236, .slice Ao60 t237.length co60, .int .i64 t240, .int .i64 t241]] (by rfl) rfl rfl (by (try simp only [List.map_toArray, List.map_cons, List.map_nil]); first | done | rfl | (simp only [List.length_drop, List.length_take]; rfl)) ?_
              with_reducible refine (folkmootref20_Right.calls t234 t235 t236 _ _ t237 t240 t241 t265 _ ?side1 ?side2 A11.out).mono ?_
              (case side1 => repeat (first | exact (Kd.R_reads' HO239.out).2.2 | (with_reducible refine Kd.C_alloc ?_ _) | (with_reducible refine Kd.C_drewN ?_ _) | (with_reducible refine Kd.C_drew ?_)))
              (case side2 => exact (Kd.R_reads' HO239.out).2.1)
              rintro e w81 ⟨rfl, hb⟩
              refine ⟨_, rfl, ?_⟩
              have n0_ := Aside0.mk (Kd.R_below (by (with_reducible repeat (first | apply Kd.R_alloc | apply Kd.R_drewN | apply Kd.R_drew)); exact HO239.out) hb)
              have n1_ := Aside0.mk (Kd.R_below (by (with_reducible repeat (first | apply Kd.R_alloc | apply Kd.R_drewN | apply Kd.R_drew)); exact HO249.out) hb)
              have n2_ := Aside0.mk (Kd.R_below (by (with_reducible repeat (first | apply Kd.R_alloc | apply Kd.R_drewN | apply Kd.R_drew)); exact HO259.out) hb)
              have n3_ := Aside0.mk (blk_below (g := gb233) (o := .cells #[.int .i64 a0_0, .int .i64 a0_1, .int .i64 a0_2, .slice A0_3 l0_3.length c0_3, .int .i64 a0_4, .int .i64 a0_5] 29 (0, 0)) (by (with_reducible repeat (first | refine blk_drewN ?_ _ | refine blk_drew ?_ | refine blk_alloc ?_ _)); exact BK233.out) hb)
              have n4_ := Aside0.mk (blk_below (g := gb242) (o := .cells #[.int .i64 t234, .int .i64 t235, .int .i64 t236, .slice Ao60 t237.length co60, .int .i64 t240, .int .i64 t241] 29 (0, 0)) (by (with_reducible repeat (first | refine blk_drewN ?_ _ | refine blk_drew ?_ | refine blk_alloc ?_ _)); exact BK242.out) hb)
              have n5_ := Aside0.mk (blk_below (g := gb253) (o := .cells #[.int .i64 t244, .int .i64 t245, .int .i64 t246, .slice Ao69 t247.length co69, .int .i64 t250, .int .i64 t251] 29 (0, 0)) (by (with_reducible repeat (first | refine blk_drewN ?_ _ | refine blk_drew ?_ | refine blk_alloc ?_ _)); exact BK253.out) hb)
              have n6_ := Aside0.mk (blk_below (g := gb263) (o := .cells #[.int .i64 t254, .int .i64 t255, .int .i64 t256, .slice Ao77 t257.length co77, .int .i64 t260, .int .i64 t261] 29 (0, 0)) (by (with_reducible repeat (first | refine blk_drewN ?_ _ | refine blk_drew ?_ | refine blk_alloc ?_ _)); exact BK263.out) hb)
              have n7_ := Aside0.mk (below_step (by repeat (first | (with_reducible first | exact HB.out | apply below_alloc | apply pw_below_drewN | apply below_drew1 | refine below_set ?_ GE233.out | refine below_set ?_ GE242.out | refine below_set ?_ GE253.out | refine below_set ?_ GE263.out) | exact HB.out)) hb)
              clear HO239
              clear HO249
              clear HO259
              clear BK233
              clear BK242
              clear BK253
              clear BK263
              clear HB
              have HO239 := n0_
              have HO249 := n1_
              have HO259 := n2_
              have BK233 := n3_
              have BK242 := n4_
              have BK253 := n5_
              have BK263 := n6_
              have HB := n7_
              clear n0_ n1_ n2_ n3_ n4_ n5_ n6_ n7_
              (try clear hb)
              (try clear hb2)
              (try clear hk)
              (try clear hi)
              refine hK.out _ _ ⟨(blk_cell BK242.out 0).trans rfl, (blk_cell BK242.out 1).trans rfl, (blk_cell BK242.out 2).trans rfl, (blk_cell BK242.out 3).trans rfl, (blk_cell BK242.out 4).trans rfl, (blk_cell BK242.out 5).trans rfl, (blk_cell BK233.out 0).trans rfl, (blk_cell BK233.out 1).trans rfl, (blk_cell BK233.out 2).trans rfl, (blk_cell BK233.out 3).trans rfl, (blk_cell BK233.out 4).trans rfl, (blk_cell BK233.out 5).trans rfl, (blk_cell BK253.out 0).trans rfl, (blk_cell BK253.out 1).trans rfl, (blk_cell BK253.out 2).trans rfl, (blk_cell BK253.out 3).trans rfl, (blk_cell BK253.out 4).trans rfl, (blk_cell BK253.out 5).trans rfl, (blk_cell BK263.out 0).trans rfl, (blk_cell BK263.out 1).trans rfl, (blk_cell BK263.out 2).trans rfl, (blk_cell BK263.out 3).trans rfl, (blk_cell BK263.out 4).trans rfl, (blk_cell BK263.out 5).trans rfl⟩ (fun hHeld => ?_)
              clear hK K
              refine norm_ (a' := ?_) ?_ ?_
              rotate_left
              · show Act.put _ (some 32) _ = _
                simp only [Act.put, List.setIfInBounds_toArray, List.set_cons_zero, List.set_cons_succ, i64_w, i32_w]
                rfl
              refine pure_ (i := 6) (N := some 33) (v := ?_) (a' := ?_) #[true, true, true, true, true, true, true, false, false, false, false, false, false, false, false, false, false, false, false, false, false, false, false, false, false, false, false, false, false, false, false, false, false] rfl rfl (any_of HT_.out (by kernel_rfl)) (fun _ _ _ h => h) (Or.inl ⟨by rfl, ?_⟩) ?_ ?_
              rotate_left
              · intro w'
                go_simp
                with_reducible rfl
              rotate_left
              · simp only [Act.put, List.setIfInBounds_toArray, List.set_cons_zero, List.set_cons_succ, i64_w, i32_w]
                rfl
              refine pure_ (i := 7) (N := some 34) (v := ?_) (a' := ?_) #[true, true, true, true, true, true, true, true, false, false, false, false, false, false, false, false, false, false, false, false, false, false, false, false, false, false, false, false, false, false, false, false, false] rfl rfl (any_of HT_.out (by kernel_rfl)) (fun _ _ _ h => h) (Or.inl ⟨by rfl, ?_⟩) ?_ ?_
              rotate_left
              · intro w'
                go_simp
                with_reducible rfl
              rotate_left
              · simp only [Act.put, List.setIfInBounds_toArray, List.set_cons_zero, List.set_cons_succ, i64_w, i32_w]
                rfl
              refine pure_ (i := 8) (N := some 35) (v := ?_) (a' := ?_) #[true, true, true, true, true, true, true, true, true, false, false, false, false, false, false, false, false, false, false, false, false, false, false, false, false, false, false, false, false, false, false, false, false] rfl rfl (any_of HT_.out (by kernel_rfl)) (fun _ _ _ h => h) (Or.inl ⟨by rfl, ?_⟩) ?_ ?_
              rotate_left
              · intro w'
                go_simp
                with_reducible rfl
              rotate_left
              · simp only [Act.put, List.setIfInBounds_toArray, List.set_cons_zero, List.set_cons_succ, i64_w, i32_w]
                rfl
              refine pure_ (i := 9) (N := some 36) (v := ?_) (a' := ?_) #[true, true, true, true, true, true, true, true, true, true, false, false, false, false, false, false, false, false, false, false, false, false, false, false, false, false, false, false, false, false, false, false, false] rfl rfl (any_of HT_.out (by kernel_rfl)) (fun _ _ _ h => h) (Or.inl ⟨by rfl, ?_⟩) ?_ ?_
              rotate_left
              · intro w'
                go_simp
                with_reducible rfl
              rotate_left
              · simp only [Act.put, List.setIfInBounds_toArray, List.set_cons_zero, List.set_cons_succ, i64_w, i32_w]
                rfl
              refine pure_ (i := 10) (N := some 37) (v := ?_) (a' := ?_) #[true, true, true, true, true, true, true, true, true, true, true, false, false, false, false, false, false, false, false, false, false, false, false, false, false, false, false, false, false, false, false, false, false] rfl rfl (any_of HT_.out (by kernel_rfl)) (fun _ _ _ h => h) (Or.inl ⟨by rfl, ?_⟩) ?_ ?_
              rotate_left
              · intro w'
                go_simp
                with_reducible rfl
              rotate_left
              · simp only [Act.put, List.setIfInBounds_toArray, List.set_cons_zero, List.set_cons_succ, i64_w, i32_w]
                rfl
              refine pure_ (i := 11) (N := some 38) (v := ?_) (a' := ?_) #[true, true, true, true, true, true, true, true, true, true, true, true, false, false, false, false, false, false, false, false, false, false, false, false, false, false, false, false, false, false, false, false, false] rfl rfl (any_of HT_.out (by kernel_rfl)) (fun _ _ _ h => h) (Or.inl ⟨by rfl, ?_⟩) ?_ ?_
              rotate_left
              · intro w'
                go_simp
                with_reducible rfl
              rotate_left
              · simp only [Act.put, List.setIfInBounds_toArray, List.set_cons_zero, List.set_cons_succ, i64_w, i32_w]
                rfl
              refine pure_ (i := 12) (N := some 39) (v := ?_) (a' := ?_) #[true, true, true, true, true, true, true, true, true, true, true, true, true, false, false, false, false, false, false, false, false, false, false, false, false, false, false, false, false, false, false, false, false] rfl rfl (any_of HT_.out (by kernel_rfl)) (fun _ _ _ h => h) (Or.inl ⟨by rfl, ?_⟩) ?_ ?_
              rotate_left
              · intro w'
                go_simp
                with_reducible rfl
              rotate_left
              · simp only [Act.put, List.setIfInBounds_toArray, List.set_cons_zero, List.set_cons_succ, i64_w, i32_w]
                rfl
              refine pure_ (i := 13) (N := some 40) (v := ?_) (a' := ?_) #[true, true, true, true, true, true, true, true, true, true, true, true, true, true, false, false, false, false, false, false, false, false, false, false, false, false, false, false, false, false, false, false, false] rfl rfl (any_of HT_.out (by kernel_rfl)) (fun _ _ _ h => h) (Or.inl ⟨by rfl, ?_⟩) ?_ ?_
              rotate_left
              · intro w'
                go_simp
                with_reducible rfl
              rotate_left
              · simp only [Act.put, List.setIfInBounds_toArray, List.set_cons_zero, List.set_cons_succ, i64_w, i32_w]
                rfl
              refine pure_ (i := 14) (N := some 41) (v := ?_) (a' := ?_) #[true, true, true, true, true, true, true, true, true, true, true, true, true, true, true, false, false, false, false, false, false, false, false, false, false, false, false, false, false, false, false, false, false] rfl rfl (any_of HT_.out (by kernel_rfl)) (fun _ _ _ h => h) (Or.inl ⟨by rfl, ?_⟩) ?_ ?_
              rotate_left
              · intro w'
                go_simp
                with_reducible rfl
              rotate_left
              · simp only [Act.put, List.setIfInBounds_toArray, List.set_cons_zero, List.set_cons_succ, i64_w, i32_w]
                rfl
              refine pure_ (i := 15) (N := some 42) (v := ?_) (a' := ?_) #[true, true, true, true, true, true, true, true, true, true, true, true, true, true, true, true, false, false, false, false, false, false, false, false, false, false, false, false, false, false, false, false, false] rfl rfl (any_of HT_.out (by kernel_rfl)) (fun _ _ _ h => h) (Or.inl ⟨by rfl, ?_⟩) ?_ ?_
              rotate_left
              · intro w'
                go_simp
                with_reducible rfl
              rotate_left
              · simp only [Act.put, List.setIfInBounds_toArray, List.set_cons_zero, List.set_cons_succ, i64_w, i32_w]
                rfl
              refine pure_ (i := 16) (N := some 43) (v := ?_) (a' := ?_) #[true, true, true, true, true, true, true, true, true, true, true, true, true, true, true, true, true, false, false, false, false, false, false, false, false, false, false, false, false, false, false, false, false] rfl rfl (any_of HT_.out (by kernel_rfl)) (fun _ _ _ h => h) (Or.inl ⟨by rfl, ?_⟩) ?_ ?_
              rotate_left
              · intro w'
                go_simp
                with_reducible rfl
              rotate_left
              · simp only [Act.put, List.setIfInBounds_toArray, List.set_cons_zero, List.set_cons_succ, i64_w, i32_w]
                rfl
              refine take_ (i := 17) (N := some 44) (v := ?_) (a' := ?_) #[true, true, true, true, true, true, true, true, true, true, true, true, true, true, true, true, true, true, false, false, false, false, false, false, false, false, false, false, false, false, false, false, false] rfl rfl (take_ofW HT_.out HW_.out (by kernel_rfl)) (fun _ _ _ h => h) (Or.inl ⟨by rfl, ?_⟩) hHeld ?_ ?_
              rotate_left
              · rintro w' ⟨s0, s1, s2, s3, s4, s5, s6, s7, s8, s9, s10, s11, s12, s13, s14, s15, s16, s17, s18, s19, s20, s21, s22, s23⟩
                go_simp
                with_reducible rfl
              rotate_left
              · simp only [Act.put, List.setIfInBounds_toArray, List.set_cons_zero, List.set_cons_succ, i64_w, i32_w]
                rfl
              refine take_ (i := 19) (N := some 46) (v := ?_) (a' := ?_) #[true, true, true, true, true, true, true, true, true, true, true, true, true, true, true, true, true, true, false, true, false, false, false, false, false, false, false, false, false, false, false, false, false] rfl rfl (take_ofW HT_.out HW_.out (by kernel_rfl)) (fun _ _ _ h => h) (Or.inl ⟨by rfl, ?_⟩) hHeld ?_ ?_
              rotate_left
              · rintro w' ⟨s0, s1, s2, s3, s4, s5, s6, s7, s8, s9, s10, s11, s12, s13, s14, s15, s16, s17, s18, s19, s20, s21, s22, s23⟩
                go_simp
                with_reducible rfl
              rotate_left
              · simp only [Act.put, List.setIfInBounds_toArray, List.set_cons_zero, List.set_cons_succ, i64_w, i32_w]
                rfl
              refine one_ (i := 18) (N := some 45) #[true, true, true, true, true, true, true, true, true, true, true, true, true, true, true, true, true, true, true, true, false, false, false, false, false, false, false, false, false, false, false, false, false] rfl rfl (one_of HT_.out (by kernel_rfl)) (by decide) (fun K hK => ?_)
              refine goes_ Try.func18 (by kernel_rfl) rfl #[.agg #[.int .i64 a0_0, .int .i64 a0_1, .int .i64 a0_2, .slice A0_3 l0_3.length c0_3, .int .i64 a0_4, .int .i64 a0_5]] (by rfl) rfl rfl (by (try simp only [List.map_toArray, List.map_cons, List.map_nil]); first | done | rfl | (simp only [List.length_drop, List.length_take]; rfl)) ?_
              with_reducible refine (lease_Good.calls k a0_0 a0_1 a0_2 _ _ l0_3 a0_4 a0_5 t270 _ ?side1 ?side2 A50.out).mono ?_
              (case side1 => repeat (first | exact (Kd.C_below HR0_3.out HB.out) | (with_reducible refine Kd.C_alloc ?_ _) | (with_reducible refine Kd.C_drewN ?_ _) | (with_reducible refine Kd.C_drew ?_)))
              (case side2 => exact HC0_3.out)
              rintro e w82 ⟨rfl, hb⟩
              refine ⟨_, rfl, ?_⟩
              have n0_ := Aside0.mk (Kd.R_below (by (with_reducible repeat (first | apply Kd.R_alloc | apply Kd.R_drewN | apply Kd.R_drew)); exact HO239.out) hb)
              have n1_ := Aside0.mk (Kd.R_below (by (with_reducible repeat (first | apply Kd.R_alloc | apply Kd.R_drewN | apply Kd.R_drew)); exact HO249.out) hb)
              have n2_ := Aside0.mk (Kd.R_below (by (with_reducible repeat (first | apply Kd.R_alloc | apply Kd.R_drewN | apply Kd.R_drew)); exact HO259.out) hb)
              have n3_ := Aside0.mk (blk_below (g := gb233) (o := .cells #[.int .i64 a0_0, .int .i64 a0_1, .int .i64 a0_2, .slice A0_3 l0_3.length c0_3, .int .i64 a0_4, .int .i64 a0_5] 29 (0, 0)) (by (with_reducible repeat (first | refine blk_drewN ?_ _ | refine blk_drew ?_ | refine blk_alloc ?_ _)); exact BK233.out) hb)
              have n4_ := Aside0.mk (blk_below (g := gb242) (o := .cells #[.int .i64 t234, .int .i64 t235, .int .i64 t236, .slice Ao60 t237.length co60, .int .i64 t240, .int .i64 t241] 29 (0, 0)) (by (with_reducible repeat (first | refine blk_drewN ?_ _ | refine blk_drew ?_ | refine blk_alloc ?_ _)); exact BK242.out) hb)
              have n5_ := Aside0.mk (blk_below (g := gb253) (o := .cells #[.int .i64 t244, .int .i64 t245, .int .i64 t246, .slice Ao69 t247.length co69, .int .i64 t250, .int .i64 t251] 29 (0, 0)) (by (with_reducible repeat (first | refine blk_drewN ?_ _ | refine blk_drew ?_ | refine blk_alloc ?_ _)); exact BK253.out) hb)
              have n6_ := Aside0.mk (blk_below (g := gb263) (o := .cells #[.int .i64 t254, .int .i64 t255, .int .i64 t256, .slice Ao77 t257.length co77, .int .i64 t260, .int .i64 t261] 29 (0, 0)) (by (with_reducible repeat (first | refine blk_drewN ?_ _ | refine blk_drew ?_ | refine blk_alloc ?_ _)); exact BK263.out) hb)
              have n7_ := Aside0.mk (below_step (by repeat (first | (with_reducible first | exact HB.out | apply below_alloc | apply pw_below_drewN | apply below_drew1 | refine below_set ?_ GE233.out | refine below_set ?_ GE242.out | refine below_set ?_ GE253.out | refine below_set ?_ GE263.out) | exact HB.out)) hb)
              clear HO239
              clear HO249
              clear HO259
              clear BK233
              clear BK242
              clear BK253
              clear BK263
              clear HB
              have HO239 := n0_
              have HO249 := n1_
              have HO259 := n2_
              have BK233 := n3_
              have BK242 := n4_
              have BK253 := n5_
              have BK263 := n6_
              have HB := n7_
              clear n0_ n1_ n2_ n3_ n4_ n5_ n6_ n7_
              (try clear hb)
              (try clear hb2)
              (try clear hk)
              (try clear hi)
              refine hK.out _ _ ⟨(blk_cell BK242.out 0).trans rfl, (blk_cell BK242.out 1).trans rfl, (blk_cell BK242.out 2).trans rfl, (blk_cell BK242.out 3).trans rfl, (blk_cell BK242.out 4).trans rfl, (blk_cell BK242.out 5).trans rfl, (blk_cell BK233.out 0).trans rfl, (blk_cell BK233.out 1).trans rfl, (blk_cell BK233.out 2).trans rfl, (blk_cell BK233.out 3).trans rfl, (blk_cell BK233.out 4).trans rfl, (blk_cell BK233.out 5).trans rfl, (blk_cell BK253.out 0).trans rfl, (blk_cell BK253.out 1).trans rfl, (blk_cell BK253.out 2).trans rfl, (blk_cell BK253.out 3).trans rfl, (blk_cell BK253.out 4).trans rfl, (blk_cell BK253.out 5).trans rfl, (blk_cell BK263.out 0).trans rfl, (blk_cell BK263.out 1).trans rfl, (blk_cell BK263.out 2).trans rfl, (blk_cell BK263.out 3).trans rfl, (blk_cell BK263.out 4).trans rfl, (blk_cell BK263.out 5).trans rfl⟩ (fun hHeld => ?_)
              clear hK K
              refine norm_ (a' := ?_) ?_ ?_
              rotate_left
              · show Act.put _ (some 45) _ = _
                simp only [Act.put, List.setIfInBounds_toArray, List.set_cons_zero, List.set_cons_succ, i64_w, i32_w]
                rfl
              refine one_ (i := 20) (N := some 47) #[true, true, true, true, true, true, true, true, true, true, true, true, true, true, true, true, true, true, true, true, true, false, false, false, false, false, false, false, false, false, false, false, false] rfl rfl (one_of HT_.out (by kernel_rfl)) (by decide) (fun K hK => ?_)
              refine goes_ Try.func19 (by kernel_rfl) rfl #[.agg #[.int .i64 t234, .int .i64 t235, .int .i64 t236, .slice Ao60 t237.length co60, .int .i64 t240, .int .i64 t241]] (by rfl) rfl rfl (by (try simp only [List.map_toArray, List.map_cons, List.map_nil]); first | done | rfl | (simp only [List.length_drop, List.length_take]; rfl)) ?_
              with_reducible refine (folkmootref20_Good.calls t234 t235 t236 _ _ t237 t240 t241 t271 _ ?side1 ?side2 A51.out).mono ?_
              (case side1 => repeat (first | exact (Kd.R_reads' HO239.out).2.2 | (with_reducible refine Kd.C_alloc ?_ _) | (with_reducible refine Kd.C_drewN ?_ _) | (with_reducible refine Kd.C_drew ?_)))
              (case side2 => exact (Kd.R_reads' HO239.out).2.1)
              rintro e w83 ⟨rfl, hb⟩
              refine ⟨_, rfl, ?_⟩
              have n0_ := Aside0.mk (Kd.R_below (by (with_reducible repeat (first | apply Kd.R_alloc | apply Kd.R_drewN | apply Kd.R_drew)); exact HO239.out) hb)
              have n1_ := Aside0.mk (Kd.R_below (by (with_reducible repeat (first | apply Kd.R_alloc | apply Kd.R_drewN | apply Kd.R_drew)); exact HO249.out) hb)
              have n2_ := Aside0.mk (Kd.R_below (by (with_reducible repeat (first | apply Kd.R_alloc | apply Kd.R_drewN | apply Kd.R_drew)); exact HO259.out) hb)
              have n3_ := Aside0.mk (blk_below (g := gb233) (o := .cells #[.int .i64 a0_0, .int .i64 a0_1, .int .i64 a0_2, .slice A0_3 l0_3.length c0_3, .int .i64 a0_4, .int .i64 a0_5] 29 (0, 0)) (by (with_reducible repeat (first | refine blk_drewN ?_ _ | refine blk_drew ?_ | refine blk_alloc ?_ _)); exact BK233.out) hb)
              have n4_ := Aside0.mk (blk_below (g := gb242) (o := .cells #[.int .i64 t234, .int .i64 t235, .int .i64 t236, .slice Ao60 t237.length co60, .int .i64 t240, .int .i64 t241] 29 (0, 0)) (by (with_reducible repeat (first | refine blk_drewN ?_ _ | refine blk_drew ?_ | refine blk_alloc ?_ _)); exact BK242.out) hb)
              have n5_ := Aside0.mk (blk_below (g := gb253) (o := .cells #[.int .i64 t244, .int .i64 t245, .int .i64 t246, .slice Ao69 t247.length co69, .int .i64 t250, .int .i64 t251] 29 (0, 0)) (by (with_reducible repeat (first | refine blk_drewN ?_ _ | refine blk_drew ?_ | refine blk_alloc ?_ _)); exact BK253.out) hb)
              have n6_ := Aside0.mk (blk_below (g := gb263) (o := .cells #[.int .i64 t254, .int .i64 t255, .int .i64 t256, .slice Ao77 t257.length co77, .int .i64 t260, .int .i64 t261] 29 (0, 0)) (by (with_reducible repeat (first | refine blk_drewN ?_ _ | refine blk_drew ?_ | refine blk_alloc ?_ _)); exact BK263.out) hb)
              have n7_ := Aside0.mk (below_step (by repeat (first | (with_reducible first | exact HB.out | apply below_alloc | apply pw_below_drewN | apply below_drew1 | refine below_set ?_ GE233.out | refine below_set ?_ GE242.out | refine below_set ?_ GE253.out | refine below_set ?_ GE263.out) | exact HB.out)) hb)
              clear HO239
              clear HO249
              clear HO259
              clear BK233
              clear BK242
              clear BK253
              clear BK263
              clear HB
              have HO239 := n0_
              have HO249 := n1_
              have HO259 := n2_
              have BK233 := n3_
              have BK242 := n4_
              have BK253 := n5_
              have BK263 := n6_
              have HB := n7_
              clear n0_ n1_ n2_ n3_ n4_ n5_ n6_ n7_
              (try clear hb)
              (try clear hb2)
              (try clear hk)
              (try clear hi)
              refine hK.out _ _ ⟨(blk_cell BK242.out 0).trans rfl, (blk_cell BK242.out 1).trans rfl, (blk_cell BK242.out 2).trans rfl, (blk_cell BK242.out 3).trans rfl, (blk_cell BK242.out 4).trans rfl, (blk_cell BK242.out 5).trans rfl, (blk_cell BK233.out 0).trans rfl, (blk_cell BK233.out 1).trans rfl, (blk_cell BK233.out 2).trans rfl, (blk_cell BK233.out 3).trans rfl, (blk_cell BK233.out 4).trans rfl, (blk_cell BK233.out 5).trans rfl, (blk_cell BK253.out 0).trans rfl, (blk_cell BK253.out 1).trans rfl, (blk_cell BK253.out 2).trans rfl, (blk_cell BK253.out 3).trans rfl, (blk_cell BK253.out 4).trans rfl, (blk_cell BK253.out 5).trans rfl, (blk_cell BK263.out 0).trans rfl, (blk_cell BK263.out 1).trans rfl, (blk_cell BK263.out 2).trans rfl, (blk_cell BK263.out 3).trans rfl, (blk_cell BK263.out 4).trans rfl, (blk_cell BK263.out 5).trans rfl⟩ (fun hHeld => ?_)
              clear hK K
              refine norm_ (a' := ?_) ?_ ?_
              rotate_left
              · show Act.put _ (some 47) _ = _
                simp only [Act.put, List.setIfInBounds_toArray, List.set_cons_zero, List.set_cons_succ, i64_w, i32_w]
                rfl
              refine pure_ (i := 21) (N := some 48) (v := ?_) (a' := ?_) #[true, true, true, true, true, true, true, true, true, true, true, true, true, true, true, true, true, true, true, true, true, true, false, false, false, false, false, false, false, false, false, false, false] rfl rfl (any_of HT_.out (by kernel_rfl)) (fun _ _ _ h => h) (Or.inl ⟨by rfl, ?_⟩) ?_ ?_
              rotate_left
              · intro w'
                go_simp
                with_reducible rfl
              rotate_left
              · simp only [Act.put, List.setIfInBounds_toArray, List.set_cons_zero, List.set_cons_succ, i64_w, i32_w]
                rfl
              refine pure_ (i := 22) (N := some 49) (v := ?_) (a' := ?_) #[true, true, true, true, true, true, true, true, true, true, true, true, true, true, true, true, true, true, true, true, true, true, true, false, false, false, false, false, false, false, false, false, false] rfl rfl (any_of HT_.out (by kernel_rfl)) (fun _ _ _ h => h) (Or.inl ⟨by rfl, ?_⟩) ?_ ?_
              rotate_left
              · intro w'
                go_simp
                with_reducible rfl
              rotate_left
              · simp only [Act.put, List.setIfInBounds_toArray, List.set_cons_zero, List.set_cons_succ, i64_w, i32_w]
                rfl
              refine pure_ (i := 23) (N := some 50) (v := ?_) (a' := ?_) #[true, true, true, true, true, true, true, true, true, true, true, true, true, true, true, true, true, true, true, true, true, true, true, true, false, false, false, false, false, false, false, false, false] rfl rfl (any_of HT_.out (by kernel_rfl)) (fun _ _ _ h => h) (Or.inl ⟨by rfl, ?_⟩) ?_ ?_
              rotate_left
              · intro w'
                go_simp
                with_reducible rfl
              rotate_left
              · simp only [Act.put, List.setIfInBounds_toArray, List.set_cons_zero, List.set_cons_succ, i64_w, i32_w]
                rfl
              refine pure_ (i := 25) (N := some 52) (v := ?_) (a' := ?_) #[true, true, true, true, true, true, true, true, true, true, true, true, true, true, true, true, true, true, true, true, true, true, true, true, false, true, false, false, false, false, false, false, false] rfl rfl (any_of HT_.out (by kernel_rfl)) (fun _ _ _ h => h) (Or.inl ⟨by rfl, ?_⟩) ?_ ?_
              rotate_left
              · intro w'
                go_simp
                with_reducible rfl
              rotate_left
              · simp only [Act.put, List.setIfInBounds_toArray, List.set_cons_zero, List.set_cons_succ, i64_w, i32_w]
                rfl
              refine pure_ (i := 27) (N := some 54) (v := ?_) (a' := ?_) #[true, true, true, true, true, true, true, true, true, true, true, true, true, true, true, true, true, true, true, true, true, true, true, true, false, true, false, true, false, false, false, false, false] rfl rfl (any_of HT_.out (by kernel_rfl)) (fun _ _ _ h => h) (Or.inl ⟨by rfl, ?_⟩) ?_ ?_
              rotate_left
              · intro w'
                go_simp
                with_reducible rfl
              rotate_left
              · simp only [Act.put, List.setIfInBounds_toArray, List.set_cons_zero, List.set_cons_succ, i64_w, i32_w]
                rfl
              refine take_ (i := 24) (N := some 51) (v := ?_) (a' := ?_) #[true, true, true, true, true, true, true, true, true, true, true, true, true, true, true, true, true, true, true, true, true, true, true, true, true, true, false, true, false, false, false, false, false] rfl rfl (take_ofW HT_.out HW_.out (by kernel_rfl)) (fun _ _ _ h => h) (Or.inl ⟨by rfl, ?_⟩) hHeld ?_ ?_
              rotate_left
              · rintro w' ⟨s0, s1, s2, s3, s4, s5, s6, s7, s8, s9, s10, s11, s12, s13, s14, s15, s16, s17, s18, s19, s20, s21, s22, s23⟩
                go_simp
                with_reducible rfl
              rotate_left
              · simp only [Act.put, List.setIfInBounds_toArray, List.set_cons_zero, List.set_cons_succ, i64_w, i32_w]
                rfl
              refine take_ (i := 26) (N := some 53) (v := ?_) (a' := ?_) #[true, true, true, true, true, true, true, true, true, true, true, true, true, true, true, true, true, true, true, true, true, true, true, true, true, true, true, true, false, false, false, false, false] rfl rfl (take_ofW HT_.out HW_.out (by kernel_rfl)) (fun _ _ _ h => h) (Or.inl ⟨by rfl, ?_⟩) hHeld ?_ ?_
              rotate_left
              · rintro w' ⟨s0, s1, s2, s3, s4, s5, s6, s7, s8, s9, s10, s11, s12, s13, s14, s15, s16, s17, s18, s19, s20, s21, s22, s23⟩
                go_simp
                with_reducible rfl
              rotate_left
              · simp only [Act.put, List.setIfInBounds_toArray, List.set_cons_zero, List.set_cons_succ, i64_w, i32_w]
                rfl
              refine take_ (i := 28) (N := some 55) (v := ?_) (a' := ?_) #[true, true, true, true, true, true, true, true, true, true, true, true, true, true, true, true, true, true, true, true, true, true, true, true, true, true, true, true, true, false, false, false, false] rfl rfl (take_ofW HT_.out HW_.out (by kernel_rfl)) (fun _ _ _ h => h) (Or.inl ⟨by rfl, ?_⟩) hHeld ?_ ?_
              rotate_left
              · rintro w' ⟨s0, s1, s2, s3, s4, s5, s6, s7, s8, s9, s10, s11, s12, s13, s14, s15, s16, s17, s18, s19, s20, s21, s22, s23⟩
                go_simp
                with_reducible rfl
              rotate_left
              · simp only [Act.put, List.setIfInBounds_toArray, List.set_cons_zero, List.set_cons_succ, i64_w, i32_w]
                rfl
              refine take_ (i := 29) (N := some 56) (v := ?_) (a' := ?_) #[true, true, true, true, true, true, true, true, true, true, true, true, true, true, true, true, true, true, true, true, true, true, true, true, true, true, true, true, true, true, false, false, false] rfl rfl (take_ofW HT_.out HW_.out (by kernel_rfl)) (fun _ _ _ h => h) (Or.inl ⟨by rfl, ?_⟩) hHeld ?_ ?_
              rotate_left
              · rintro w' ⟨s0, s1, s2, s3, s4, s5, s6, s7, s8, s9, s10, s11, s12, s13, s14, s15, s16, s17, s18, s19, s20, s21, s22, s23⟩
                go_simp
                with_reducible rfl
              rotate_left
              · simp only [Act.put, List.setIfInBounds_toArray, List.set_cons_zero, List.set_cons_succ, i64_w, i32_w]
                rfl
              refine one_ (i := 30) (N := some 57) #[true, true, true, true, true, true, true, true, true, true, true, true, true, true, true, true, true, true, true, true, true, true, true, true, true, true, true, true, true, true, true, false, false] rfl rfl (one_of HT_.out (by kernel_rfl)) (by decide) (fun K hK => ?_)
              refine goes_ Try.func20 (by kernel_rfl) rfl #[.agg #[.int .i64 t244, .int .i64 t245, .int .i64 t246, .slice Ao69 t247.length co69, .int .i64 t250, .int .i64 t251], .int .i64 t252, .agg #[.int .i64 t254, .int .i64 t255, .int .i64 t256, .slice Ao77 t257.length co77, .int .i64 t260, .int .i64 t261], .int .i64 t262, .agg #[.int .i64 a0_0, .int .i64 a0_1, .int .i64 a0_2, .slice A0_3 l0_3.length c0_3, .int .i64 a0_4, .int .i64 a0_5], .agg #[.int .i64 t234, .int .i64 t235, .int .i64 t236, .slice Ao60 t237.length co60, .int .i64 t240, .int .i64 t241]] (by rfl) rfl rfl (by (try simp only [List.map_toArray, List.map_cons, List.map_nil]); first | done | rfl | (simp only [List.length_drop, List.length_take]; rfl)) ?_
              with_reducible refine (folkmootlaw20_same.calls k t244 t245 t246 (fun k_ => some k_ = (.slice Ao69 t247.length co69 : Value).ownBlock) (.slice Ao69 t247.length co69) t247 t250 t251 t252 t254 t255 t256 _ _ t257 t260 t261 t262 a0_0 a0_1 a0_2 _ _ l0_3 a0_4 a0_5 t234 t235 t236 _ _ t237 t240 t241 t272 t273 w _ ?side1 ?side2 ?side3 ?side4 ?side5 ?side6 ?side7 ?side8 A53.out).mono ?_
              (case side1 => repeat (first | (with_reducible first | exact HB.out | apply below_alloc | apply pw_below_drewN | apply below_drew1 | refine below_set ?_ GE233.out | refine below_set ?_ GE242.out | refine below_set ?_ GE253.out | refine below_set ?_ GE263.out) | exact HB.out))
              (case side2 => exact Kd.R_tight rfl HO249.out)
              (case side3 => exact Kd.C_kept_own (HO259.out) (fun k_ hk_ hs_ => (hk_.2) hs_))
              (case side4 => exact (Kd.R_reads' HO259.out).2.1)
              (case side5 => exact Kd.C_kept_came k59_heap HR0_3.out (by repeat (first | (with_reducible first | exact HB.out | apply below_alloc | apply pw_below_drewN | apply below_drew1 | refine below_set ?_ GE233.out | refine below_set ?_ GE242.out | refine below_set ?_ GE253.out | refine below_set ?_ GE263.out) | exact HB.out)) (fun k_ hs_ => (fun e_ => Kd.R_base HO249.out k_ e_.symm) hs_))
              (case side6 => exact HC0_3.out)
              (case side7 => exact Kd.C_kept_own (HO239.out) (fun k_ hk_ hs_ => (hk_.1) hs_))
              (case side8 => exact (Kd.R_reads' HO239.out).2.1)
              rintro e w84 ⟨rfl, hy0, hb, hkp⟩
              refine ⟨_, rfl, ?_⟩
              have n0_ := Aside0.mk (blk_kept (by (with_reducible repeat (first | refine blk_drewN ?_ _ | refine blk_drew ?_ | refine blk_alloc ?_ _)); exact BK233.out) hkp (fun hs_ => (fun e_ => (Kd.R_ne HO249.out BK233.out (by decide)) e_) hs_))
              have n1_ := Aside0.mk (Kd.R_mono (ok' := fun k_ => some k_ ≠ (.slice Ao69 t247.length co69 : Value).ownBlock ∧ some k_ ≠ (.slice Ao77 t257.length co77 : Value).ownBlock) (Kd.R_keptB (HO239.out) hkp (fun k_ hk_ hs_ => (hk_.1) hs_)) (fun k_ hk_ => ⟨hk_.1.1, hk_.1.2⟩))
              have n2_ := Aside0.mk (blk_kept (by (with_reducible repeat (first | refine blk_drewN ?_ _ | refine blk_drew ?_ | refine blk_alloc ?_ _)); exact BK242.out) hkp (fun hs_ => (fun e_ => (Kd.R_ne HO249.out BK242.out (by decide)) e_) hs_))
              have n3_ := Aside0.mk (Kd.R_reok rfl hy0 (fun k_ e_ => HO249.out.1 k_ e_))
              have n4_ := Aside0.mk (blk_kept (by (with_reducible repeat (first | refine blk_drewN ?_ _ | refine blk_drew ?_ | refine blk_alloc ?_ _)); exact BK253.out) hkp (fun hs_ => (fun e_ => (Kd.R_ne HO249.out BK253.out (by decide)) e_) hs_))
              have n5_ := Aside0.mk (Kd.R_mono (ok' := fun k_ => some k_ ≠ (.slice Ao60 t237.length co60 : Value).ownBlock ∧ some k_ ≠ (.slice Ao69 t247.length co69 : Value).ownBlock) (Kd.R_keptB (HO259.out) hkp (fun k_ hk_ hs_ => (hk_.2) hs_)) (fun k_ hk_ => ⟨hk_.1.1, hk_.1.2⟩))
              have n6_ := Aside0.mk (blk_kept (by (with_reducible repeat (first | refine blk_drewN ?_ _ | refine blk_drew ?_ | refine blk_alloc ?_ _)); exact BK263.out) hkp (fun hs_ => (fun e_ => (Kd.R_ne HO249.out BK263.out (by decide)) e_) hs_))
              have n7_ := Aside0.mk (hb)
              clear BK233
              clear HO239
              clear BK242
              clear HO249
              clear BK253
              clear HO259
              clear BK263
              clear HB
              have BK233 := n0_
              have HO239 := n1_
              have BK242 := n2_
              have HO249 := n3_
              have BK253 := n4_
              have HO259 := n5_
              have BK263 := n6_
              have HB := n7_
              clear n0_ n1_ n2_ n3_ n4_ n5_ n6_ n7_
              (try clear hb)
              (try clear hkp)
              (try clear hy0)
              refine hK.out _ _ ⟨(blk_cell BK242.out 0).trans rfl, (blk_cell BK242.out 1).trans rfl, (blk_cell BK242.out 2).trans rfl, (blk_cell BK242.out 3).trans rfl, (blk_cell BK242.out 4).trans rfl, (blk_cell BK242.out 5).trans rfl, (blk_cell BK233.out 0).trans rfl, (blk_cell BK233.out 1).trans rfl, (blk_cell BK233.out 2).trans rfl, (blk_cell BK233.out 3).trans rfl, (blk_cell BK233.out 4).trans rfl, (blk_cell BK233.out 5).trans rfl, (blk_cell BK253.out 0).trans rfl, (blk_cell BK253.out 1).trans rfl, (blk_cell BK253.out 2).trans rfl, (blk_cell BK253.out 3).trans rfl, (blk_cell BK253.out 4).trans rfl, (blk_cell BK253.out 5).trans rfl, (blk_cell BK263.out 0).trans rfl, (blk_cell BK263.out 1).trans rfl, (blk_cell BK263.out 2).trans rfl, (blk_cell BK263.out 3).trans rfl, (blk_cell BK263.out 4).trans rfl, (blk_cell BK263.out 5).trans rfl⟩ (fun hHeld => ?_)
              clear hK K
              refine norm_ (a' := ?_) ?_ ?_
              rotate_left
              · show Act.put _ (some 57) _ = _
                simp only [Act.put, List.setIfInBounds_toArray, List.set_cons_zero, List.set_cons_succ, i64_w, i32_w]
                rfl
              refine pure_ (i := 31) (N := some 58) (v := ?_) (a' := ?_) #[true, true, true, true, true, true, true, true, true, true, true, true, true, true, true, true, true, true, true, true, true, true, true, true, true, true, true, true, true, true, true, true, false] rfl rfl (any_of HT_.out (by kernel_rfl)) (fun _ _ _ h => h) (Or.inl ⟨by rfl, ?_⟩) ?_ ?_
              rotate_left
              · intro w'
                go_simp
                with_reducible rfl
              rotate_left
              · simp only [Act.put, List.setIfInBounds_toArray, List.set_cons_zero, List.set_cons_succ, i64_w, i32_w]
                rfl
              refine pure_ (i := 32) (N := some 2) (v := ?_) (a' := ?_) #[true, true, true, true, true, true, true, true, true, true, true, true, true, true, true, true, true, true, true, true, true, true, true, true, true, true, true, true, true, true, true, true, true] rfl rfl (any_of HT_.out (by kernel_rfl)) (fun _ _ _ h => h) (Or.inl ⟨by rfl, ?_⟩) ?_ ?_
              rotate_left
              · intro w'
                go_simp
                with_reducible rfl
              rotate_left
              · simp only [Act.put, List.setIfInBounds_toArray, List.set_cons_zero, List.set_cons_succ, i64_w, i32_w]
                rfl
              refine done_ (done_of HT_.out (by kernel_rfl)) ?_
              try go_wp2
              go_ret
              exact ⟨by first | rfl | (simp [errW_none, errW_some] <;> rfl) | (simp [*, errW_none, errW_some] <;> rfl), by repeat (first | (with_reducible first | exact HB.out | apply below_alloc | apply pw_below_drewN | apply below_drew1 | refine below_set ?_ GE233.out | refine below_set ?_ GE242.out | refine below_set ?_ GE253.out | refine below_set ?_ GE263.out) | exact HB.out)⟩
            · rw [if_neg c52] at H
              exact absurd H (by simp)
          · rw [if_neg c49] at H
            exact absurd H (by simp)
      · rw [if_neg c12] at H
        exact absurd H (by simp)
    · replace c10 := Bool.eq_false_iff.mpr c10
      subst c10
      have H1 : (none) = some r := by rw [if_neg (show ¬ (false = true) by decide)] at H; exact H
      clear H
      have H := H1
      clear H1
      exact absurd H (by simp)

end Go.Proofs.Ytmoahkdadeiahaa.C
