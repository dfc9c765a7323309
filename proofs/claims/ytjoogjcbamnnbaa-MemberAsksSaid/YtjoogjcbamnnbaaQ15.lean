-- WRITTEN BY a program of this session's (wip/gprint.py, over the kit's print), with functions given by hand among them. Not trusted: Lean checks it.
import Derived.Test.YtjoogjcbamnnbaaQ0
import Derived.Test.YtjoogjcbamnnbaaQ1
import Derived.Test.YtjoogjcbamnnbaaQ11
import Derived.Test.YtjoogjcbamnnbaaQ12
import Derived.Test.YtjoogjcbamnnbaaQ13
import Derived.Test.YtjoogjcbamnnbaaQ14
namespace Go.Proofs.Ytjoogjcbamnnbaa.Q
open Go.RowKit Go.Proofs.YtjoogjcbamnnbaaW.PrintWords Go.Proofs.YtjoogjcbamnnbaaW.PrintLast Go.Proofs.YtjoogjcbamnnbaaW.PrintMore
attribute [local go_sem] max2_int min2_int max_two min_two max_three min_three max_four min_four   -- for this text's walks alone
set_option linter.unusedVariables false
set_option linter.unusedSimpArgs false

/-! ### folkmootlaw17_MemberAsks: function 3 -/
mutual
def folkmootlaw17_MemberAsks.j0 : Nat → List Int → Int → Bool → List Int → List Int → Option (Bool)
  | 0, _, _, _, _, _ => none
  | k + 1, x1, x2, x19, x269000, x269001 => if x19 = true then (some true) else ((folkmootref15_Snap.f 0 0 x269000 x269001 (⟨#[]⟩ : ByteArray)).bind fun bt270 => ((member_Check.f k x269000 x269001).bind fun t280 => ((member_All.f k x269000 x269001).bind fun t281 => ((folkmootref17_All.f k bt270.2.2.1 bt270.2.2.2.1).bind fun t284 => ((folkmootkeep_Ints.f k t281 t284).bind fun t287 => (folkmootlaw17_MemberAsks.l0 k x1 x2 t280 t281 t287 0 x269000 x269001 bt270.2.2.1 bt270.2.2.2.1))))))
def folkmootlaw17_MemberAsks.l0 : Nat → List Int → Int → Int → List Int → Bool → Int → List Int → List Int → List Int → List Int → Option (Bool)
  | 0, _, _, _, _, _, _, _, _, _, _ => none
  | k + 1, x1, x2, x8, x9, x10, x11, x269000, x269001, x280000, x280001 => if x11 < (x9.length : Int) then (if 0 ≤ x11 then (folkmootlaw17_MemberAsks.l0 k x1 x2 x8 (x9.set (x11 : Int).toNat 77) x10 (wrap64 (x11 + 1)) x269000 x269001 x280000 x280001) else (none)) else ((folkmootref17_May.f k x280000 x280001).bind fun t289 => (if ((x8 == 0) == t289) = true then (if x8 = 0 then (folkmootlaw17_MemberAsks.j2 k x1 x2 x10 true x269000 x269001 x280000 x280001) else (folkmootlaw17_MemberAsks.j2 k x1 x2 x10 (x8 == 160) x269000 x269001 x280000 x280001)) else (none)))
def folkmootlaw17_MemberAsks.j2 : Nat → List Int → Int → Bool → Bool → List Int → List Int → List Int → List Int → Option (Bool)
  | 0, _, _, _, _, _, _, _, _ => none
  | k + 1, x1, x2, x10, x12, x269000, x269001, x280000, x280001 => (folkmootlaw17_asks.f k).bind fun t290 => (if t290 = true then (if x12 = true then (if x10 = true then ((member_Reached.f k x269000 x269001 x1).bind fun t291 => ((folkmootref17_Reached.f k x280000 x280001 x1).bind fun t292 => (if (t291 == t292) = true then ((member_Voter.f k x269000 x269001 x2).bind fun t293 => ((folkmootref17_Voter.f k x280000 x280001 x2).bind fun t294 => (if (t293 == t294) = true then ((folkmootref15_Configs.f k x269000 x269001 x280000 x280001).bind fun t295 => (some t295)) else (none)))) else (none)))) else (none)) else (none)) else (none))
end
def folkmootlaw17_MemberAsks.f (k : Nat) (l0_0 : List Int) (l0_1 : List Int) (l1 : List Int) (a2 : Int) : Option (Bool) := (folkmootlaw17_large.f l0_0 l0_1).bind fun t269 => (if t269 = true then (folkmootlaw17_MemberAsks.j0 k l1 a2 true l0_0 l0_1) else (folkmootlaw17_MemberAsks.j0 k l1 a2 (decide ((l1.length : Int) > 1000)) l0_0 l0_1))
theorem folkmootlaw17_MemberAsks.mono_l : ∀ k, (∀ y0 y1 y2 y3 y4, LeO (folkmootlaw17_MemberAsks.j0 k y0 y1 y2 y3 y4) (folkmootlaw17_MemberAsks.j0 (k + 1) y0 y1 y2 y3 y4)) ∧ (∀ y0 y1 y2 y3 y4 y5 y6 y7 y8 y9, LeO (folkmootlaw17_MemberAsks.l0 k y0 y1 y2 y3 y4 y5 y6 y7 y8 y9) (folkmootlaw17_MemberAsks.l0 (k + 1) y0 y1 y2 y3 y4 y5 y6 y7 y8 y9)) ∧ (∀ y0 y1 y2 y3 y4 y5 y6 y7, LeO (folkmootlaw17_MemberAsks.j2 k y0 y1 y2 y3 y4 y5 y6 y7) (folkmootlaw17_MemberAsks.j2 (k + 1) y0 y1 y2 y3 y4 y5 y6 y7))
  | 0 => ⟨fun _ _ _ _ _ r h => by simp [folkmootlaw17_MemberAsks.j0] at h, fun _ _ _ _ _ _ _ _ _ _ r h => by simp [folkmootlaw17_MemberAsks.l0] at h, fun _ _ _ _ _ _ _ _ r h => by simp [folkmootlaw17_MemberAsks.j2] at h⟩
  | k + 1 => by
    obtain ⟨ih0, ih1, ih2⟩ := folkmootlaw17_MemberAsks.mono_l k
    refine ⟨?_, ?_, ?_⟩
    · intro y0 y1 y2 y3 y4
      unfold folkmootlaw17_MemberAsks.j0
      repeat' first
      | (with_reducible exact ih0 _ _ _ _ _)
      | (with_reducible exact ih1 _ _ _ _ _ _ _ _ _ _)
      | (with_reducible exact ih2 _ _ _ _ _ _ _ _)
      | (with_reducible exact folkmootkeep_Ints.mono _ _ _)
      | (with_reducible exact folkmootlaw17_asks.mono _)
      | (with_reducible exact folkmootref15_Configs.mono _ _ _ _ _)
      | (with_reducible exact folkmootref17_All.mono _ _ _)
      | (with_reducible exact folkmootref17_May.mono _ _ _)
      | (with_reducible exact folkmootref17_Reached.mono _ _ _ _)
      | (with_reducible exact folkmootref17_Voter.mono _ _ _ _)
      | (with_reducible exact member_All.mono _ _ _)
      | (with_reducible exact member_Check.mono _ _ _)
      | (with_reducible exact member_Reached.mono _ _ _ _)
      | (with_reducible exact member_Voter.mono _ _ _ _)
      | (with_reducible exact LeO.refl _)
      | (with_reducible exact LeO.none _)
      | (with_reducible refine LeO.ite ?_ ?_)
      | (with_reducible refine LeO.bind ?_ (fun _ => ?_))
      | exact ih0 _ _ _ _ _
      | exact ih1 _ _ _ _ _ _ _ _ _ _
      | exact ih2 _ _ _ _ _ _ _ _
      | exact folkmootkeep_Ints.mono _ _ _
      | exact folkmootlaw17_asks.mono _
      | exact folkmootref15_Configs.mono _ _ _ _ _
      | exact folkmootref17_All.mono _ _ _
      | exact folkmootref17_May.mono _ _ _
      | exact folkmootref17_Reached.mono _ _ _ _
      | exact folkmootref17_Voter.mono _ _ _ _
      | exact member_All.mono _ _ _
      | exact member_Check.mono _ _ _
      | exact member_Reached.mono _ _ _ _
      | exact member_Voter.mono _ _ _ _
      | exact LeO.none _
      | refine LeO.ite ?_ ?_
      | refine LeO.bind ?_ (fun _ => ?_)
    · intro y0 y1 y2 y3 y4 y5 y6 y7 y8 y9
      unfold folkmootlaw17_MemberAsks.l0
      repeat' first
      | (with_reducible exact ih0 _ _ _ _ _)
      | (with_reducible exact ih1 _ _ _ _ _ _ _ _ _ _)
      | (with_reducible exact ih2 _ _ _ _ _ _ _ _)
      | (with_reducible exact folkmootkeep_Ints.mono _ _ _)
      | (with_reducible exact folkmootlaw17_asks.mono _)
      | (with_reducible exact folkmootref15_Configs.mono _ _ _ _ _)
      | (with_reducible exact folkmootref17_All.mono _ _ _)
      | (with_reducible exact folkmootref17_May.mono _ _ _)
      | (with_reducible exact folkmootref17_Reached.mono _ _ _ _)
      | (with_reducible exact folkmootref17_Voter.mono _ _ _ _)
      | (with_reducible exact member_All.mono _ _ _)
      | (with_reducible exact member_Check.mono _ _ _)
      | (with_reducible exact member_Reached.mono _ _ _ _)
      | (with_reducible exact member_Voter.mono _ _ _ _)
      | (with_reducible exact LeO.refl _)
      | (with_reducible exact LeO.none _)
      | (with_reducible refine LeO.ite ?_ ?_)
      | (with_reducible refine LeO.bind ?_ (fun _ => ?_))
      | exact ih0 _ _ _ _ _
      | exact ih1 _ _ _ _ _ _ _ _ _ _
      | exact ih2 _ _ _ _ _ _ _ _
      | exact folkmootkeep_Ints.mono _ _ _
      | exact folkmootlaw17_asks.mono _
      | exact folkmootref15_Configs.mono _ _ _ _ _
      | exact folkmootref17_All.mono _ _ _
      | exact folkmootref17_May.mono _ _ _
      | exact folkmootref17_Reached.mono _ _ _ _
      | exact folkmootref17_Voter.mono _ _ _ _
      | exact member_All.mono _ _ _
      | exact member_Check.mono _ _ _
      | exact member_Reached.mono _ _ _ _
      | exact member_Voter.mono _ _ _ _
      | exact LeO.none _
      | refine LeO.ite ?_ ?_
      | refine LeO.bind ?_ (fun _ => ?_)
    · intro y0 y1 y2 y3 y4 y5 y6 y7
      unfold folkmootlaw17_MemberAsks.j2
      repeat' first
      | (with_reducible exact ih0 _ _ _ _ _)
      | (with_reducible exact ih1 _ _ _ _ _ _ _ _ _ _)
      | (with_reducible exact ih2 _ _ _ _ _ _ _ _)
      | (with_reducible exact folkmootkeep_Ints.mono _ _ _)
      | (with_reducible exact folkmootlaw17_asks.mono _)
      | (with_reducible exact folkmootref15_Configs.mono _ _ _ _ _)
      | (with_reducible exact folkmootref17_All.mono _ _ _)
      | (with_reducible exact folkmootref17_May.mono _ _ _)
      | (with_reducible exact folkmootref17_Reached.mono _ _ _ _)
      | (with_reducible exact folkmootref17_Voter.mono _ _ _ _)
      | (with_reducible exact member_All.mono _ _ _)
      | (with_reducible exact member_Check.mono _ _ _)
      | (with_reducible exact member_Reached.mono _ _ _ _)
      | (with_reducible exact member_Voter.mono _ _ _ _)
      | (with_reducible exact LeO.refl _)
      | (with_reducible exact LeO.none _)
      | (with_reducible refine LeO.ite ?_ ?_)
      | (with_reducible refine LeO.bind ?_ (fun _ => ?_))
      | exact ih0 _ _ _ _ _
      | exact ih1 _ _ _ _ _ _ _ _ _ _
      | exact ih2 _ _ _ _ _ _ _ _
      | exact folkmootkeep_Ints.mono _ _ _
      | exact folkmootlaw17_asks.mono _
      | exact folkmootref15_Configs.mono _ _ _ _ _
      | exact folkmootref17_All.mono _ _ _
      | exact folkmootref17_May.mono _ _ _
      | exact folkmootref17_Reached.mono _ _ _ _
      | exact folkmootref17_Voter.mono _ _ _ _
      | exact member_All.mono _ _ _
      | exact member_Check.mono _ _ _
      | exact member_Reached.mono _ _ _ _
      | exact member_Voter.mono _ _ _ _
      | exact LeO.none _
      | refine LeO.ite ?_ ?_
      | refine LeO.bind ?_ (fun _ => ?_)
theorem folkmootlaw17_MemberAsks.mono : ∀ a0 a1 a2 a3 k, LeO (folkmootlaw17_MemberAsks.f k a0 a1 a2 a3) (folkmootlaw17_MemberAsks.f (k + 1) a0 a1 a2 a3) := by
  intro a0 a1 a2 a3 k
  obtain ⟨ih0, ih1, ih2⟩ := folkmootlaw17_MemberAsks.mono_l k
  unfold folkmootlaw17_MemberAsks.f
  repeat' first
      | (with_reducible exact ih0 _ _ _ _ _)
      | (with_reducible exact ih1 _ _ _ _ _ _ _ _ _ _)
      | (with_reducible exact ih2 _ _ _ _ _ _ _ _)
      | (with_reducible exact folkmootkeep_Ints.mono _ _ _)
      | (with_reducible exact folkmootlaw17_asks.mono _)
      | (with_reducible exact folkmootref15_Configs.mono _ _ _ _ _)
      | (with_reducible exact folkmootref17_All.mono _ _ _)
      | (with_reducible exact folkmootref17_May.mono _ _ _)
      | (with_reducible exact folkmootref17_Reached.mono _ _ _ _)
      | (with_reducible exact folkmootref17_Voter.mono _ _ _ _)
      | (with_reducible exact member_All.mono _ _ _)
      | (with_reducible exact member_Check.mono _ _ _)
      | (with_reducible exact member_Reached.mono _ _ _ _)
      | (with_reducible exact member_Voter.mono _ _ _ _)
      | (with_reducible exact LeO.refl _)
      | (with_reducible exact LeO.none _)
      | (with_reducible refine LeO.ite ?_ ?_)
      | (with_reducible refine LeO.bind ?_ (fun _ => ?_))
      | exact ih0 _ _ _ _ _
      | exact ih1 _ _ _ _ _ _ _ _ _ _
      | exact ih2 _ _ _ _ _ _ _ _
      | exact folkmootkeep_Ints.mono _ _ _
      | exact folkmootlaw17_asks.mono _
      | exact folkmootref15_Configs.mono _ _ _ _ _
      | exact folkmootref17_All.mono _ _ _
      | exact folkmootref17_May.mono _ _ _
      | exact folkmootref17_Reached.mono _ _ _ _
      | exact folkmootref17_Voter.mono _ _ _ _
      | exact member_All.mono _ _ _
      | exact member_Check.mono _ _ _
      | exact member_Reached.mono _ _ _ _
      | exact member_Voter.mono _ _ _ _
      | exact LeO.none _
      | refine LeO.ite ?_ ?_
      | refine LeO.bind ?_ (fun _ => ?_)
def folkmootlaw17_MemberAsks.T12 : Bool × List (List Nat × List Nat) := (true, [([], []), ([0, 0], [0]), ([1], [1]), ([1, 2], [1, 2]), ([3, 1], [3]), ([4], [4]), ([4, 5], [4, 5]), ([6, 4], [6]), ([7], [7]), ([7], [7]), ([8, 9, 7, 7], [7, 8, 9]), ([7], [7]), ([7], [7]), ([11, 12, 10, 7], [7, 11, 12]), ([10, 13, 7], [7, 10, 13]), ([7, 14], [7, 14]), ([15, 13], [15]), ([16], [16]), ([16], [16]), ([17, 18, 16, 16], [16, 17, 18]), ([16], [16]), ([16], [16]), ([20, 21, 19, 16], [16, 20, 21]), ([19, 22, 16], [16, 19, 22]), ([16, 23], [16, 23]), ([24, 22], [24]), ([25], [25]), ([25], [25]), ([26, 27, 25, 25], [25, 26, 27]), ([25, 28], [25, 28]), ([29, 28, 0, 1, 2, 3, 4, 5, 6, 7, 8, 9, 10, 11, 12, 13, 14, 15, 16, 17, 18, 19, 20, 21, 22, 23, 24, 25, 26, 27, 28, 29], [29])])
def folkmootlaw17_MemberAsks.B12 : List Nat := [0, 1, 3, 7, 15, 31, 63, 127, 255, 255, 1023, 255, 255, 8191, 16383, 32767, 65535, 131071, 131071, 524287, 131071, 131071, 4194303, 8388607, 16777215, 33554431, 67108863, 67108863, 268435455, 536870911, 1073741823]
theorem folkmootlaw17_MemberAsks.tab12 : rtab .any (opsOf Try.f3 12) = folkmootlaw17_MemberAsks.T12 := by kernel_rfl
theorem folkmootlaw17_MemberAsks.bits12 : waitsOk folkmootlaw17_MemberAsks.T12.2 folkmootlaw17_MemberAsks.B12 = true := by kernel_rfl
set_option maxHeartbeats 8000000 in
set_option maxRecDepth 100000 in
theorem folkmootlaw17_MemberAsks.calls (k : Nat) (A0_0 : Option Addr) (c0_0 : Nat) (l0_0 : List Int) (A0_1 : Option Addr) (c0_1 : Nat) (l0_1 : List Int) (A1 : Option Addr) (c1 : Nat) (l1 : List Int) (a2 : Int) (r : Bool) (w : World) (hr0_0 : Kd.C (Kd.int .i64) w A0_0 l0_0.length l0_0) (hc0_0 : l0_0.length ≤ c0_0) (hr0_1 : Kd.C (Kd.int .i64) w A0_1 l0_1.length l0_1) (hc0_1 : l0_1.length ≤ c0_1) (hr1 : Kd.C (Kd.int .i64) w A1 l1.length l1) (hc1 : l1.length ≤ c1) (h : folkmootlaw17_MemberAsks.f k l0_0 l0_1 l1 a2 = some r) :
    Calls Try.prog 3 #[.agg #[.slice A0_0 l0_0.length c0_0, .slice A0_1 l0_1.length c0_1], .slice A1 l1.length c1, .int .i64 a2] w fun e w' => e = .returned (.bool r) ∧ Below w.heap.size w w' := by
  have hu25 := Try.underlying25
  have hu28 := Try.underlying28
  have HR0_0 := Aside0.mk hr0_0
  have HC0_0 := Aside0.mk hc0_0
  clear hr0_0 hc0_0
  have HR0_1 := Aside0.mk hr0_1
  have HC0_1 := Aside0.mk hc0_1
  clear hr0_1 hc0_1
  have HR1 := Aside0.mk hr1
  have HC1 := Aside0.mk hc1
  clear hr1 hc1
  have HB := Aside0.mk (Below.refl w.heap.size w)
  have H : ((folkmootlaw17_large.f l0_0 l0_1).bind fun t269 => (if t269 = true then (folkmootlaw17_MemberAsks.j0 k l1 a2 true l0_0 l0_1) else (folkmootlaw17_MemberAsks.j0 k l1 a2 (decide ((l1.length : Int) > 1000)) l0_0 l0_1))) = some r := h
  clear h
  have HC4 := Aside0.mk H
  clear H
  go_enter Try.func3, Try.ntmps3
  go_upto_region 1 with (first | ((with_reducible refine gate_dst (N := 3) rfl ?_); (try (refine gate_guard (by rfl) ?_; dsimp only)); refine box_event ?hg (N := 3) ?hd (cs := #[.slice A0_0 l0_0.length c0_0, .slice A0_1 l0_1.length c0_1]) (t := 25) ?hr ?_; (case hd => rfl); (case hg => rfl); (case hr => first | (go_simp; done) | (go_simp; rfl)); intro gb268 hg w5 hbox hb; have n0_ := Aside0.mk (below_step (by repeat (first | (with_reducible first | exact HB.out | apply below_alloc | apply pw_below_drewN | apply below_drew1) | exact HB.out)) hb); have n1_ := Aside0.mk (hbox); have n2_ := Aside0.mk ((by rw [hg]; exact (below_size (by repeat (first | (with_reducible first | exact HB.out | apply below_alloc | apply pw_below_drewN | apply below_drew1) | exact HB.out))) : w.heap.size ≤ gb268)); have n3_ := Aside0.mk ((by rw [hg]; exact (below_size (by repeat (first | (with_reducible first | exact HB.out | apply below_alloc | apply pw_below_drewN | apply below_drew1) | exact HB.out))) : w.heap.size ≤ gb268)); clear HB; have HB := n0_; have BK268 := n1_; have GW268 := n2_; have GE268 := n3_; clear n0_ n1_ n2_ n3_; clear hb hbox hg))
  (try simp only [Act.put, List.setIfInBounds_toArray, List.set_cons_zero, List.set_cons_succ])
  go_cut [19] (fun v19 wc => ∃ (kq : Nat) (x19_3 : Bool), v19 = .bool x19_3 ∧ Aside0 (folkmootlaw17_MemberAsks.j0 kq l1 a2 x19_3 l0_0 l0_1 = some r) ∧ Aside0 (kq ≤ k) ∧ Aside0 (wc.heap[gb268]? = some (.cells #[(.slice A0_0 l0_0.length c0_0), (.slice A0_1 l0_1.length c0_1)] 25 (0, 0))) ∧ Aside0 (Below w.heap.size w wc))
  case first =>
    have H := HC4.out
    clear HC4
    replace H := Option.bind_eq_some_iff.mp H
    obtain ⟨t269, A60, H⟩ := H
    replace H : (if t269 = true then (folkmootlaw17_MemberAsks.j0 k l1 a2 true l0_0 l0_1) else (folkmootlaw17_MemberAsks.j0 k l1 a2 (decide ((l1.length : Int) > 1000)) l0_0 l0_1)) = some r := H
    have A6 := Aside0.mk A60
    clear A60
    by_cases c7 : t269 = true
    · subst c7
      have H1 : (folkmootlaw17_MemberAsks.j0 k l1 a2 true l0_0 l0_1) = some r := by rw [if_pos rfl] at H; exact H
      clear H
      have H := H1
      clear H1
      have H' := Aside0.mk H
      clear H
      have hcz8_0 : w5.cell? ⟨gb268, 0, none⟩ = some (.slice A0_0 l0_0.length c0_0) := (blk_cell BK268.out 0).trans rfl
      have hcz8_1 : w5.cell? ⟨gb268, 1, none⟩ = some (.slice A0_1 l0_1.length c0_1) := (blk_cell BK268.out 1).trans rfl
      have hfz8_0 := blk_frozen BK268.out 0
      have hfz8_1 := blk_frozen BK268.out 1
      go_wp2_with (first | ((with_reducible refine gate_callee (f := 7) rfl ?_); refine goesL_ (some 14) rfl rfl Try.func7 (by kernel_rfl) rfl #[.agg #[.slice A0_0 l0_0.length c0_0, .slice A0_1 l0_1.length c0_1]] rfl (by (try simp only [List.map_toArray, List.map_cons, List.map_nil]); first | done | rfl | (simp only [List.length_drop, List.length_take]; rfl)) ?_; (with_reducible refine (folkmootlaw17_large.calls _ _ l0_0 _ _ l0_1 true _ ?side1 ?side2 ?side3 ?side4 A6.out).mono ?_); (case side1 => repeat (first | exact (Kd.C_below HR0_0.out HB.out) | (with_reducible refine Kd.C_alloc ?_ _) | (with_reducible refine Kd.C_drewN ?_ _) | (with_reducible refine Kd.C_drew ?_))); (case side2 => exact HC0_0.out); (case side3 => repeat (first | exact (Kd.C_below HR0_1.out HB.out) | (with_reducible refine Kd.C_alloc ?_ _) | (with_reducible refine Kd.C_drewN ?_ _) | (with_reducible refine Kd.C_drew ?_))); (case side4 => exact HC0_1.out); rintro e w9 ⟨rfl, hb⟩; refine ⟨_, rfl, ?_⟩; have n0_ := Aside0.mk (blk_below (g := gb268) (o := .cells #[.slice A0_0 l0_0.length c0_0, .slice A0_1 l0_1.length c0_1] 25 (0, 0)) (by (with_reducible repeat (first | refine blk_drewN ?_ _ | refine blk_drew ?_ | refine blk_alloc ?_ _)); exact BK268.out) hb); have n1_ := Aside0.mk (below_step (by repeat (first | (with_reducible first | exact HB.out | apply below_alloc | apply pw_below_drewN | apply below_drew1 | refine below_set ?_ GE268.out) | exact HB.out)) hb); clear BK268; clear HB; have BK268 := n0_; have HB := n1_; clear n0_ n1_; (try clear hb); (try clear hb2); (try clear hk); (try clear hi)))
      go_meet
      case rel => exact ⟨_, (true), (by first | rfl | (simp; done) | (simp [*]; done)), H', ⟨by first | omega | exact Nat.le_refl _⟩, ⟨by (with_reducible repeat (first | refine blk_drewN ?_ _ | refine blk_drew ?_ | refine blk_alloc ?_ _)); exact BK268.out⟩, ⟨by repeat (first | (with_reducible first | exact HB.out | apply below_alloc | apply pw_below_drewN | apply below_drew1 | refine below_set ?_ GE268.out) | exact HB.out)⟩⟩
    · replace c7 := Bool.eq_false_iff.mpr c7
      subst c7
      have H1 : (folkmootlaw17_MemberAsks.j0 k l1 a2 (decide ((l1.length : Int) > 1000)) l0_0 l0_1) = some r := by rw [if_neg (show ¬ (false = true) by decide)] at H; exact H
      clear H
      have H := H1
      clear H1
      have H' := Aside0.mk H
      clear H
      have hcz10_0 : w5.cell? ⟨gb268, 0, none⟩ = some (.slice A0_0 l0_0.length c0_0) := (blk_cell BK268.out 0).trans rfl
      have hcz10_1 : w5.cell? ⟨gb268, 1, none⟩ = some (.slice A0_1 l0_1.length c0_1) := (blk_cell BK268.out 1).trans rfl
      have hfz10_0 := blk_frozen BK268.out 0
      have hfz10_1 := blk_frozen BK268.out 1
      go_wp2_with (first | ((with_reducible refine gate_callee (f := 7) rfl ?_); refine goesL_ (some 14) rfl rfl Try.func7 (by kernel_rfl) rfl #[.agg #[.slice A0_0 l0_0.length c0_0, .slice A0_1 l0_1.length c0_1]] rfl (by (try simp only [List.map_toArray, List.map_cons, List.map_nil]); first | done | rfl | (simp only [List.length_drop, List.length_take]; rfl)) ?_; (with_reducible refine (folkmootlaw17_large.calls _ _ l0_0 _ _ l0_1 false _ ?side1 ?side2 ?side3 ?side4 A6.out).mono ?_); (case side1 => repeat (first | exact (Kd.C_below HR0_0.out HB.out) | (with_reducible refine Kd.C_alloc ?_ _) | (with_reducible refine Kd.C_drewN ?_ _) | (with_reducible refine Kd.C_drew ?_))); (case side2 => exact HC0_0.out); (case side3 => repeat (first | exact (Kd.C_below HR0_1.out HB.out) | (with_reducible refine Kd.C_alloc ?_ _) | (with_reducible refine Kd.C_drewN ?_ _) | (with_reducible refine Kd.C_drew ?_))); (case side4 => exact HC0_1.out); rintro e w11 ⟨rfl, hb⟩; refine ⟨_, rfl, ?_⟩; have n0_ := Aside0.mk (blk_below (g := gb268) (o := .cells #[.slice A0_0 l0_0.length c0_0, .slice A0_1 l0_1.length c0_1] 25 (0, 0)) (by (with_reducible repeat (first | refine blk_drewN ?_ _ | refine blk_drew ?_ | refine blk_alloc ?_ _)); exact BK268.out) hb); have n1_ := Aside0.mk (below_step (by repeat (first | (with_reducible first | exact HB.out | apply below_alloc | apply pw_below_drewN | apply below_drew1 | refine below_set ?_ GE268.out) | exact HB.out)) hb); clear BK268; clear HB; have BK268 := n0_; have HB := n1_; clear n0_ n1_; (try clear hb); (try clear hb2); (try clear hk); (try clear hi)))
      go_meet
      case rel => exact ⟨_, (decide ((l1.length : Int) > 1000)), (by first | rfl | (simp; done) | (simp [*]; done)), H', ⟨by first | omega | exact Nat.le_refl _⟩, ⟨by (with_reducible repeat (first | refine blk_drewN ?_ _ | refine blk_drew ?_ | refine blk_alloc ?_ _)); exact BK268.out⟩, ⟨by repeat (first | (with_reducible first | exact HB.out | apply below_alloc | apply pw_below_drewN | apply below_drew1 | refine below_set ?_ GE268.out) | exact HB.out)⟩⟩
  case rest =>
    clear HC4
    try clear c1
    try clear p2
    try clear c3
    try clear c7
    try clear hcz10_0
    try clear hcz10_1
    try clear hcz8_0
    try clear hcz8_1
    try clear hfz10_0
    try clear hfz10_1
    try clear hfz8_0
    try clear hfz8_1
    obtain ⟨kq, x19_3, rfl, HA, HJ3, BK268, HB⟩ := hcut
    cases kq with
    | zero => exact absurd HA.out (by simp [folkmootlaw17_MemberAsks.j0])
    | succ kj3 =>
      have H := HA.out
      clear HA
      simp only [folkmootlaw17_MemberAsks.j0] at H
      by_cases c12 : x19_3 = true
      · subst c12
        have H1 : (some true) = some r := by rw [if_pos rfl] at H; exact H
        clear H
        have H := H1
        clear H1
        obtain rfl := Option.some.inj H
        go_wp2
        go_ret
        exact ⟨by first | rfl | (simp [errW_none, errW_some] <;> rfl) | (simp [*, errW_none, errW_some] <;> rfl), by repeat (first | (with_reducible first | exact HB.out | apply below_alloc | apply pw_below_drewN | apply below_drew1 | refine below_set ?_ GE268.out) | exact HB.out)⟩
      · replace c12 := Bool.eq_false_iff.mpr c12
        subst c12
        have H1 : ((folkmootref15_Snap.f 0 0 l0_0 l0_1 (⟨#[]⟩ : ByteArray)).bind fun bt270 => ((member_Check.f kj3 l0_0 l0_1).bind fun t280 => ((member_All.f kj3 l0_0 l0_1).bind fun t281 => ((folkmootref17_All.f kj3 bt270.2.2.1 bt270.2.2.2.1).bind fun t284 => ((folkmootkeep_Ints.f kj3 t281 t284).bind fun t287 => (folkmootlaw17_MemberAsks.l0 kj3 l1 a2 t280 t281 t287 0 l0_0 l0_1 bt270.2.2.1 bt270.2.2.2.1)))))) = some r := by rw [if_neg (show ¬ (false = true) by decide)] at H; exact H
        clear H
        have H := H1
        clear H1
        replace H := Option.bind_eq_some_iff.mp H
        obtain ⟨⟨t270, t271, t272, t275, t278⟩, A130, H⟩ := H
        replace H : ((member_Check.f kj3 l0_0 l0_1).bind fun t280 => ((member_All.f kj3 l0_0 l0_1).bind fun t281 => ((folkmootref17_All.f kj3 t272 t275).bind fun t284 => ((folkmootkeep_Ints.f kj3 t281 t284).bind fun t287 => (folkmootlaw17_MemberAsks.l0 kj3 l1 a2 t280 t281 t287 0 l0_0 l0_1 t272 t275))))) = some r := H
        have A13 := Aside0.mk A130
        clear A130
        replace H := Option.bind_eq_some_iff.mp H
        obtain ⟨t280, A140, H⟩ := H
        replace H : ((member_All.f kj3 l0_0 l0_1).bind fun t281 => ((folkmootref17_All.f kj3 t272 t275).bind fun t284 => ((folkmootkeep_Ints.f kj3 t281 t284).bind fun t287 => (folkmootlaw17_MemberAsks.l0 kj3 l1 a2 t280 t281 t287 0 l0_0 l0_1 t272 t275)))) = some r := H
        have A14 := Aside0.mk A140
        clear A140
        replace H := Option.bind_eq_some_iff.mp H
        obtain ⟨t281, A150, H⟩ := H
        replace H : ((folkmootref17_All.f kj3 t272 t275).bind fun t284 => ((folkmootkeep_Ints.f kj3 t281 t284).bind fun t287 => (folkmootlaw17_MemberAsks.l0 kj3 l1 a2 t280 t281 t287 0 l0_0 l0_1 t272 t275))) = some r := H
        have A15 := Aside0.mk A150
        clear A150
        replace H := Option.bind_eq_some_iff.mp H
        obtain ⟨t284, A160, H⟩ := H
        replace H : ((folkmootkeep_Ints.f kj3 t281 t284).bind fun t287 => (folkmootlaw17_MemberAsks.l0 kj3 l1 a2 t280 t281 t287 0 l0_0 l0_1 t272 t275)) = some r := H
        have A16 := Aside0.mk A160
        clear A160
        replace H := Option.bind_eq_some_iff.mp H
        obtain ⟨t287, A170, H⟩ := H
        replace H : (folkmootlaw17_MemberAsks.l0 kj3 l1 a2 t280 t281 t287 0 l0_0 l0_1 t272 t275) = some r := H
        have A17 := Aside0.mk A170
        clear A170
        have H' := Aside0.mk H
        clear H
        have hcz18_0 : wc.cell? ⟨gb268, 0, none⟩ = some (.slice A0_0 l0_0.length c0_0) := (blk_cell BK268.out 0).trans rfl
        have hcz18_1 : wc.cell? ⟨gb268, 1, none⟩ = some (.slice A0_1 l0_1.length c0_1) := (blk_cell BK268.out 1).trans rfl
        have hfz18_0 := blk_frozen BK268.out 0
        have hfz18_1 := blk_frozen BK268.out 1
        go_wp2_with (first | ((with_reducible refine gate_callee (f := 8) rfl ?_); refine goesL_ (some 22) rfl rfl Try.func8 (by kernel_rfl) rfl #[.agg #[.int .i64 0, .int .i64 0, .slice A0_0 l0_0.length c0_0, .slice A0_1 l0_1.length c0_1, .string (⟨#[]⟩ : ByteArray)]] rfl (by (try simp only [List.map_toArray, List.map_cons, List.map_nil]); first | done | rfl | (simp only [List.length_drop, List.length_take]; rfl)) ?_; (with_reducible refine (folkmootref15_Snap.calls 0 0 _ _ l0_0 _ _ l0_1 (⟨#[]⟩ : ByteArray) t270 t271 t272 t275 t278 _ ?side1 ?side2 ?side3 ?side4 A13.out).mono ?_); (case side1 => repeat (first | exact (Kd.C_below HR0_0.out HB.out) | (with_reducible refine Kd.C_alloc ?_ _) | (with_reducible refine Kd.C_drewN ?_ _) | (with_reducible refine Kd.C_drew ?_))); (case side2 => exact HC0_0.out); (case side3 => repeat (first | exact (Kd.C_below HR0_1.out HB.out) | (with_reducible refine Kd.C_alloc ?_ _) | (with_reducible refine Kd.C_drewN ?_ _) | (with_reducible refine Kd.C_drew ?_))); (case side4 => exact HC0_1.out); rintro e w19 ⟨v273, v276, rfl, ho0, ho1, hb⟩; refine ⟨_, rfl, ?_⟩; have n0_ := Aside0.mk (Kd.R_lower ho0 (below_size (by repeat (first | (with_reducible first | exact HB.out | apply below_alloc | apply pw_below_drewN | apply below_drew1 | refine below_set ?_ GE268.out) | exact HB.out)))); have n1_ := Aside0.mk (Kd.R_lower ho1 (below_size (by repeat (first | (with_reducible first | exact HB.out | apply below_alloc | apply pw_below_drewN | apply below_drew1 | refine below_set ?_ GE268.out) | exact HB.out)))); have n2_ := Aside0.mk (blk_below (g := gb268) (o := .cells #[.slice A0_0 l0_0.length c0_0, .slice A0_1 l0_1.length c0_1] 25 (0, 0)) (by (with_reducible repeat (first | refine blk_drewN ?_ _ | refine blk_drew ?_ | refine blk_alloc ?_ _)); exact BK268.out) hb); have n3_ := Aside0.mk (below_step (by repeat (first | (with_reducible first | exact HB.out | apply below_alloc | apply pw_below_drewN | apply below_drew1 | refine below_set ?_ GE268.out) | exact HB.out)) hb); clear BK268; clear HB; have HO274 := n0_; have HO277 := n1_; have BK268 := n2_; have HB := n3_; clear n0_ n1_ n2_ n3_; (try clear hb); (try clear hb2); (try clear hk); (try clear hi); (try clear ho0); (try clear ho1)) | ((with_reducible refine gate_dst (N := 7) rfl ?_); (try (refine gate_guard (by rfl) ?_; dsimp only)); refine box_event ?hg (N := 7) ?hd (cs := #[.slice none 0 0, .slice none 0 0]) (t := 25) ?hr ?_; (case hd => rfl); (case hg => rfl); (case hr => first | (go_simp; done) | (go_simp; rfl)); intro gb279 hg w20 hbox hb; have n0_ := Aside0.mk (Kd.R_below (by (with_reducible repeat (first | apply Kd.R_alloc | apply Kd.R_drewN | apply Kd.R_drew)); exact HO274.out) hb); have n1_ := Aside0.mk (Kd.R_below (by (with_reducible repeat (first | apply Kd.R_alloc | apply Kd.R_drewN | apply Kd.R_drew)); exact HO277.out) hb); have n2_ := Aside0.mk (blk_below (g := gb268) (o := .cells #[.slice A0_0 l0_0.length c0_0, .slice A0_1 l0_1.length c0_1] 25 (0, 0)) (by (with_reducible repeat (first | refine blk_drewN ?_ _ | refine blk_drew ?_ | refine blk_alloc ?_ _)); exact BK268.out) hb); have n3_ := Aside0.mk (below_step (by repeat (first | (with_reducible first | exact HB.out | apply below_alloc | apply pw_below_drewN | apply below_drew1 | refine below_set ?_ GE268.out) | exact HB.out)) hb); have n4_ := Aside0.mk (hbox); have n5_ := Aside0.mk ((by rw [hg]; exact (below_size (by repeat (first | (with_reducible first | exact HB.out | apply below_alloc | apply pw_below_drewN | apply below_drew1 | refine below_set ?_ GE268.out) | exact HB.out))) : w.heap.size ≤ gb279)); have n6_ := Aside0.mk ((by rw [hg]; exact (below_size (by repeat (first | (with_reducible first | exact HB.out | apply below_alloc | apply pw_below_drewN | apply below_drew1 | refine below_set ?_ GE268.out) | exact HB.out))) : w.heap.size ≤ gb279)); have n7_ := Aside0.mk ((by rw [hg]; exact Nat.ne_of_lt (blk_lt (g := gb268) (o := .cells #[.slice A0_0 l0_0.length c0_0, .slice A0_1 l0_1.length c0_1] 25 (0, 0)) (by (with_reducible repeat (first | refine blk_drewN ?_ _ | refine blk_drew ?_ | refine blk_alloc ?_ _)); exact BK268.out)) : gb268 ≠ gb279)); have n8_ := Aside0.mk ((by rw [hg]; exact Nat.ne_of_gt (blk_lt (g := gb268) (o := .cells #[.slice A0_0 l0_0.length c0_0, .slice A0_1 l0_1.length c0_1] 25 (0, 0)) (by (with_reducible repeat (first | refine blk_drewN ?_ _ | refine blk_drew ?_ | refine blk_alloc ?_ _)); exact BK268.out)) : gb279 ≠ gb268)); clear HO274; clear HO277; clear BK268; clear HB; have HO274 := n0_; have HO277 := n1_; have BK268 := n2_; have HB := n3_; have BK279 := n4_; have GW279 := n5_; have GE279 := n6_; have NB268_279 := n7_; have NB279_268 := n8_; clear n0_ n1_ n2_ n3_ n4_ n5_ n6_ n7_ n8_; clear hb hbox hg; obtain ⟨Ao21, co21, eo21⟩ := Kd.R_slice HO274.out; subst eo21; have hnb22 := NB279_268.out; have hnc22 := NB268_279.out; have hcz23_0 : w20.cell? ⟨gb279, 0, none⟩ = some (.slice none 0 0) := (blk_cell BK279.out 0).trans rfl; have hcz23_1 : w20.cell? ⟨gb279, 1, none⟩ = some (.slice none 0 0) := (blk_cell BK279.out 1).trans rfl; have hfz23_0 := blk_frozen BK279.out 0; have hfz23_1 := blk_frozen BK279.out 1; obtain ⟨Ao24, co24, eo24⟩ := Kd.R_slice HO277.out; subst eo24; have hcz25_0 : w20.cell? ⟨gb268, 0, none⟩ = some (.slice A0_0 l0_0.length c0_0) := (blk_cell BK268.out 0).trans rfl; have hcz25_1 : w20.cell? ⟨gb268, 1, none⟩ = some (.slice A0_1 l0_1.length c0_1) := (blk_cell BK268.out 1).trans rfl; have hfz25_0 := blk_frozen BK268.out 0; have hfz25_1 := blk_frozen BK268.out 1) | ((with_reducible refine gate_callee (f := 9) rfl ?_); refine goesL_ (some 25) rfl rfl Try.func9 (by kernel_rfl) rfl #[.agg #[.slice A0_0 l0_0.length c0_0, .slice A0_1 l0_1.length c0_1]] rfl (by (try simp only [List.map_toArray, List.map_cons, List.map_nil]); first | done | rfl | (simp only [List.length_drop, List.length_take]; rfl)) ?_; (with_reducible refine (member_Check.calls kj3 _ _ l0_0 _ _ l0_1 t280 _ ?side1 ?side2 ?side3 ?side4 A14.out).mono ?_); (case side1 => exact Kd.C_below HR0_0.out (by repeat (first | (with_reducible first | exact HB.out | apply below_alloc | apply pw_below_drewN | apply below_drew1 | refine below_set ?_ GE268.out | refine below_set ?_ GE279.out) | exact HB.out))); (case side2 => exact HC0_0.out); (case side3 => exact Kd.C_below HR0_1.out (by repeat (first | (with_reducible first | exact HB.out | apply below_alloc | apply pw_below_drewN | apply below_drew1 | refine below_set ?_ GE268.out | refine below_set ?_ GE279.out) | exact HB.out))); (case side4 => exact HC0_1.out); rintro e w26 ⟨rfl, hb⟩; refine ⟨_, rfl, ?_⟩; have n0_ := Aside0.mk (Kd.R_below (by (with_reducible repeat (first | apply Kd.R_alloc | apply Kd.R_drewN | apply Kd.R_drew)); exact (Kd.R_mono (Kd.R_far (p := ⟨gb279, 1, none⟩) (Kd.R_far (p := ⟨gb279, 0, none⟩) (Kd.R_types HO274.out BK279.out (by decide)) (fun _ hk => hk.2) (.slice Ao21 t272.length co21)) (fun _ hk => hk.2) (.slice Ao24 t275.length co24)) (fun _ h_ => h_.1))) hb); have n1_ := Aside0.mk (Kd.R_below (by (with_reducible repeat (first | apply Kd.R_alloc | apply Kd.R_drewN | apply Kd.R_drew)); exact (Kd.R_mono (Kd.R_far (p := ⟨gb279, 1, none⟩) (Kd.R_far (p := ⟨gb279, 0, none⟩) (Kd.R_types HO277.out BK279.out (by decide)) (fun _ hk => hk.2) (.slice Ao21 t272.length co21)) (fun _ hk => hk.2) (.slice Ao24 t275.length co24)) (fun _ h_ => h_.1))) hb); have n2_ := Aside0.mk (blk_below (g := gb268) (o := .cells #[.slice A0_0 l0_0.length c0_0, .slice A0_1 l0_1.length c0_1] 25 (0, 0)) (by (with_reducible repeat (first | refine blk_drewN ?_ _ | refine blk_drew ?_ | refine blk_alloc ?_ _)); refine blk_far ?_ NB268_279.out _; (with_reducible repeat (first | refine blk_drewN ?_ _ | refine blk_drew ?_ | refine blk_alloc ?_ _)); refine blk_far ?_ NB268_279.out _; (with_reducible repeat (first | refine blk_drewN ?_ _ | refine blk_drew ?_ | refine blk_alloc ?_ _)); exact BK268.out) hb); have n3_ := Aside0.mk (blk_below (g := gb279) (o := .cells #[.slice Ao21 t272.length co21, .slice Ao24 t275.length co24] 25 (0, 0)) (by (with_reducible repeat (first | refine blk_drewN ?_ _ | refine blk_drew ?_ | refine blk_alloc ?_ _)); refine blk_put (cs := #[.slice Ao21 t272.length co21, .slice none 0 0]) ?_ 1 _ rfl; (with_reducible repeat (first | refine blk_drewN ?_ _ | refine blk_drew ?_ | refine blk_alloc ?_ _)); refine blk_put (cs := #[.slice none 0 0, .slice none 0 0]) ?_ 0 _ rfl; (with_reducible repeat (first | refine blk_drewN ?_ _ | refine blk_drew ?_ | refine blk_alloc ?_ _)); exact BK279.out) hb); have n4_ := Aside0.mk (below_step (by repeat (first | (with_reducible first | exact HB.out | apply below_alloc | apply pw_below_drewN | apply below_drew1 | refine below_set ?_ GE268.out | refine below_set ?_ GE279.out) | exact HB.out)) hb); clear HO274; clear HO277; clear BK268; clear BK279; clear HB; have HO274 := n0_; have HO277 := n1_; have BK268 := n2_; have BK279 := n3_; have HB := n4_; clear n0_ n1_ n2_ n3_ n4_; (try clear hb); (try clear hb2); (try clear hk); (try clear hi); have hcz27_0 : w26.cell? ⟨gb268, 0, none⟩ = some (.slice A0_0 l0_0.length c0_0) := (blk_cell BK268.out 0).trans rfl; have hcz27_1 : w26.cell? ⟨gb268, 1, none⟩ = some (.slice A0_1 l0_1.length c0_1) := (blk_cell BK268.out 1).trans rfl; have hfz27_0 := blk_frozen BK268.out 0; have hfz27_1 := blk_frozen BK268.out 1) | ((with_reducible refine gate_callee (f := 10) rfl ?_); refine goesL_ (some 27) rfl rfl Try.func10 (by kernel_rfl) rfl #[.agg #[.slice A0_0 l0_0.length c0_0, .slice A0_1 l0_1.length c0_1]] rfl (by (try simp only [List.map_toArray, List.map_cons, List.map_nil]); first | done | rfl | (simp only [List.length_drop, List.length_take]; rfl)) ?_; (with_reducible refine (member_All.calls kj3 _ _ l0_0 _ _ l0_1 t281 _ ?side1 ?side2 ?side3 ?side4 A15.out).mono ?_); (case side1 => repeat (first | exact (Kd.C_below HR0_0.out HB.out) | (with_reducible refine Kd.C_alloc ?_ _) | (with_reducible refine Kd.C_drewN ?_ _) | (with_reducible refine Kd.C_drew ?_))); (case side2 => exact HC0_0.out); (case side3 => repeat (first | exact (Kd.C_below HR0_1.out HB.out) | (with_reducible refine Kd.C_alloc ?_ _) | (with_reducible refine Kd.C_drewN ?_ _) | (with_reducible refine Kd.C_drew ?_))); (case side4 => exact HC0_1.out); rintro e w28 ⟨v282, rfl, ho0, hb⟩; refine ⟨_, rfl, ?_⟩; have n0_ := Aside0.mk (Kd.R_elder' (by (with_reducible repeat (first | apply Kd.R_alloc | apply Kd.R_drewN | apply Kd.R_drew)); exact HO274.out) (Kd.R_base ho0) hb); have n1_ := Aside0.mk (Kd.R_elder' (by (with_reducible repeat (first | apply Kd.R_alloc | apply Kd.R_drewN | apply Kd.R_drew)); exact HO277.out) (Kd.R_base ho0) hb); have n2_ := Aside0.mk (Kd.R_lower (Kd.R_new' (Kd.R_new' ho0 (Kd.R_lt (by (with_reducible repeat (first | apply Kd.R_alloc | apply Kd.R_drewN | apply Kd.R_drew)); exact HO274.out))) (Kd.R_lt (by (with_reducible repeat (first | apply Kd.R_alloc | apply Kd.R_drewN | apply Kd.R_drew)); exact HO277.out))) (below_size (by repeat (first | (with_reducible first | exact HB.out | apply below_alloc | apply pw_below_drewN | apply below_drew1 | refine below_set ?_ GE268.out | refine below_set ?_ GE279.out) | exact HB.out)))); have n3_ := Aside0.mk (blk_below (g := gb268) (o := .cells #[.slice A0_0 l0_0.length c0_0, .slice A0_1 l0_1.length c0_1] 25 (0, 0)) (by (with_reducible repeat (first | refine blk_drewN ?_ _ | refine blk_drew ?_ | refine blk_alloc ?_ _)); exact BK268.out) hb); have n4_ := Aside0.mk (blk_below (g := gb279) (o := .cells #[.slice Ao21 t272.length co21, .slice Ao24 t275.length co24] 25 (0, 0)) (by (with_reducible repeat (first | refine blk_drewN ?_ _ | refine blk_drew ?_ | refine blk_alloc ?_ _)); exact BK279.out) hb); have n5_ := Aside0.mk (below_step (by repeat (first | (with_reducible first | exact HB.out | apply below_alloc | apply pw_below_drewN | apply below_drew1 | refine below_set ?_ GE268.out | refine below_set ?_ GE279.out) | exact HB.out)) hb); clear HO274; clear HO277; clear BK268; clear BK279; clear HB; have HO274 := n0_; have HO277 := n1_; have HO283 := n2_; have BK268 := n3_; have BK279 := n4_; have HB := n5_; clear n0_ n1_ n2_ n3_ n4_ n5_; (try clear hb); (try clear hb2); (try clear hk); (try clear hi); (try clear ho0); have hcz29_0 : w28.cell? ⟨gb279, 0, none⟩ = some (.slice Ao21 t272.length co21) := (blk_cell BK279.out 0).trans rfl; have hcz29_1 : w28.cell? ⟨gb279, 1, none⟩ = some (.slice Ao24 t275.length co24) := (blk_cell BK279.out 1).trans rfl; have hfz29_0 := blk_frozen BK279.out 0; have hfz29_1 := blk_frozen BK279.out 1) | ((with_reducible refine gate_callee (f := 12) rfl ?_); refine goesL_ (some 30) rfl rfl Try.func12 (by kernel_rfl) rfl #[.agg #[.slice Ao21 t272.length co21, .slice Ao24 t275.length co24]] rfl (by (try simp only [List.map_toArray, List.map_cons, List.map_nil]); first | done | rfl | (simp only [List.length_drop, List.length_take]; rfl)) ?_; (with_reducible refine (folkmootref17_All.calls kj3 _ _ t272 _ _ t275 t284 _ ?side1 ?side2 ?side3 ?side4 A16.out).mono ?_); (case side1 => repeat (first | exact (Kd.R_reads' HO274.out).2.2 | (with_reducible refine Kd.C_alloc ?_ _) | (with_reducible refine Kd.C_drewN ?_ _) | (with_reducible refine Kd.C_drew ?_))); (case side2 => exact (Kd.R_reads' HO274.out).2.1); (case side3 => repeat (first | exact (Kd.R_reads' HO277.out).2.2 | (with_reducible refine Kd.C_alloc ?_ _) | (with_reducible refine Kd.C_drewN ?_ _) | (with_reducible refine Kd.C_drew ?_))); (case side4 => exact (Kd.R_reads' HO277.out).2.1); rintro e w30 ⟨v285, rfl, ho0, hb⟩; refine ⟨_, rfl, ?_⟩; have n0_ := Aside0.mk (Kd.R_elder' (by (with_reducible repeat (first | apply Kd.R_alloc | apply Kd.R_drewN | apply Kd.R_drew)); exact HO274.out) (Kd.R_base ho0) hb); have n1_ := Aside0.mk (Kd.R_elder' (by (with_reducible repeat (first | apply Kd.R_alloc | apply Kd.R_drewN | apply Kd.R_drew)); exact HO277.out) (Kd.R_base ho0) hb); have n2_ := Aside0.mk (Kd.R_elder' (by (with_reducible repeat (first | apply Kd.R_alloc | apply Kd.R_drewN | apply Kd.R_drew)); exact HO283.out) (Kd.R_base ho0) hb); have n3_ := Aside0.mk (Kd.R_lower (Kd.R_new' (Kd.R_new' (Kd.R_new' ho0 (Kd.R_lt (by (with_reducible repeat (first | apply Kd.R_alloc | apply Kd.R_drewN | apply Kd.R_drew)); exact HO274.out))) (Kd.R_lt (by (with_reducible repeat (first | apply Kd.R_alloc | apply Kd.R_drewN | apply Kd.R_drew)); exact HO277.out))) (Kd.R_lt (by (with_reducible repeat (first | apply Kd.R_alloc | apply Kd.R_drewN | apply Kd.R_drew)); exact HO283.out))) (below_size (by repeat (first | (with_reducible first | exact HB.out | apply below_alloc | apply pw_below_drewN | apply below_drew1 | refine below_set ?_ GE268.out | refine below_set ?_ GE279.out) | exact HB.out)))); have n4_ := Aside0.mk (blk_below (g := gb268) (o := .cells #[.slice A0_0 l0_0.length c0_0, .slice A0_1 l0_1.length c0_1] 25 (0, 0)) (by (with_reducible repeat (first | refine blk_drewN ?_ _ | refine blk_drew ?_ | refine blk_alloc ?_ _)); exact BK268.out) hb); have n5_ := Aside0.mk (blk_below (g := gb279) (o := .cells #[.slice Ao21 t272.length co21, .slice Ao24 t275.length co24] 25 (0, 0)) (by (with_reducible repeat (first | refine blk_drewN ?_ _ | refine blk_drew ?_ | refine blk_alloc ?_ _)); exact BK279.out) hb); have n6_ := Aside0.mk (below_step (by repeat (first | (with_reducible first | exact HB.out | apply below_alloc | apply pw_below_drewN | apply below_drew1 | refine below_set ?_ GE268.out | refine below_set ?_ GE279.out) | exact HB.out)) hb); clear HO274; clear HO277; clear HO283; clear BK268; clear BK279; clear HB; have HO274 := n0_; have HO277 := n1_; have HO283 := n2_; have HO286 := n3_; have BK268 := n4_; have BK279 := n5_; have HB := n6_; clear n0_ n1_ n2_ n3_ n4_ n5_ n6_; (try clear hb); (try clear hb2); (try clear hk); (try clear hi); (try clear ho0); obtain ⟨Ao31, co31, eo31⟩ := Kd.R_slice HO283.out; subst eo31; obtain ⟨Ao32, co32, eo32⟩ := Kd.R_slice HO286.out; subst eo32) | ((with_reducible refine gate_callee (f := 11) rfl ?_); refine goesL_ (some 31) rfl rfl Try.func11 (by kernel_rfl) rfl #[.slice Ao31 t281.length co31, .slice Ao32 t284.length co32] rfl (by (try simp only [List.map_toArray, List.map_cons, List.map_nil]); first | done | rfl | (simp only [List.length_drop, List.length_take]; rfl)) ?_; (with_reducible refine (folkmootkeep_Ints.calls kj3 _ _ t281 _ _ t284 t287 _ ?side1 ?side2 ?side3 ?side4 A17.out).mono ?_); (case side1 => repeat (first | exact (Kd.R_reads' HO283.out).2.2 | (with_reducible refine Kd.C_alloc ?_ _) | (with_reducible refine Kd.C_drewN ?_ _) | (with_reducible refine Kd.C_drew ?_))); (case side2 => exact (Kd.R_reads' HO283.out).2.1); (case side3 => repeat (first | exact (Kd.R_reads' HO286.out).2.2 | (with_reducible refine Kd.C_alloc ?_ _) | (with_reducible refine Kd.C_drewN ?_ _) | (with_reducible refine Kd.C_drew ?_))); (case side4 => exact (Kd.R_reads' HO286.out).2.1); rintro e w' ⟨rfl, ⟨nd, rfl⟩⟩; refine ⟨_, rfl, ?_⟩))
        go_loopg [11] kj3 (fun kq v11 w' => ∃ (x9_2 : List Int) (x11_2 : Int), v11 = .int .i64 x11_2 ∧ Aside0 (folkmootlaw17_MemberAsks.l0 kq l1 a2 t280 x9_2 t287 x11_2 l0_0 l0_1 t272 t275 = some r) ∧ Aside0 (kq ≤ kj3) ∧ Aside0 (Kd.R (Kd.int .i64) 3 w' w.heap.size (fun k_ => some k_ ≠ ((.slice Ao21 t272.length co21) : Value).ownBlock ∧ some k_ ≠ ((.slice Ao24 t275.length co24) : Value).ownBlock) (.slice Ao31 t281.length co31) x9_2) ∧ Aside0 (Kd.R (Kd.int .i64) 3 w' w.heap.size (fun k_ => some k_ ≠ ((.slice Ao31 t281.length co31) : Value).ownBlock ∧ some k_ ≠ ((.slice Ao24 t275.length co24) : Value).ownBlock) (.slice Ao21 t272.length co21) t272) ∧ Aside0 (Kd.R (Kd.int .i64) 3 w' w.heap.size (fun k_ => some k_ ≠ ((.slice Ao31 t281.length co31) : Value).ownBlock ∧ some k_ ≠ ((.slice Ao21 t272.length co21) : Value).ownBlock) (.slice Ao24 t275.length co24) t275) ∧ Aside0 (w'.heap[gb268]? = some (.cells #[(.slice A0_0 l0_0.length c0_0), (.slice A0_1 l0_1.length c0_1)] 25 (0, 0))) ∧ Aside0 (w'.heap[gb279]? = some (.cells #[(.slice Ao21 t272.length co21), (.slice Ao24 t275.length co24)] 25 (0, 0))) ∧ Aside0 (Below w.heap.size w w'))
        case atStart => exact ⟨(t281), (0), (by first | rfl | (simp; done) | (simp [*]; done)), H', ⟨Nat.le_refl _⟩, ⟨by (with_reducible repeat (first | apply Kd.R_alloc | apply Kd.R_drewN | apply Kd.R_drew)); exact Kd.R_mono HO283.out (fun _ hk => ⟨hk.1.1.2, hk.1.2⟩)⟩, ⟨by (with_reducible repeat (first | apply Kd.R_alloc | apply Kd.R_drewN | apply Kd.R_drew)); exact Kd.R_mono HO274.out (fun _ hk => ⟨hk.1.2, hk.1.1⟩)⟩, ⟨by (with_reducible repeat (first | apply Kd.R_alloc | apply Kd.R_drewN | apply Kd.R_drew)); exact Kd.R_mono HO277.out (fun _ hk => ⟨hk.1.2, hk.1.1⟩)⟩, ⟨by (with_reducible repeat (first | refine blk_drewN ?_ _ | refine blk_drew ?_ | refine blk_alloc ?_ _)); exact BK268.out⟩, ⟨by (with_reducible repeat (first | refine blk_drewN ?_ _ | refine blk_drew ?_ | refine blk_alloc ?_ _)); exact BK279.out⟩, ⟨by repeat (first | (with_reducible first | exact HB.out | apply below_alloc | apply pw_below_drewN | apply below_drew1 | refine below_set ?_ GE268.out | refine below_set ?_ GE279.out) | exact HB.out)⟩⟩
        case round =>
          clear H'
          try clear c1
          try clear c2
          try clear p2
          try clear c3
          try clear c7
          try clear c8
          try clear c9
          try clear c10
          try clear c11
          try clear c12
          try clear c22
          try clear hcz10_0
          try clear hcz10_1
          try clear hcz18_0
          try clear hcz18_1
          try clear hcz23_0
          try clear hcz23_1
          try clear hcz25_0
          try clear hcz25_1
          try clear hcz27_0
          try clear hcz27_1
          try clear hcz29_0
          try clear hcz29_1
          try clear hcz8_0
          try clear hcz8_1
          try clear hfz10_0
          try clear hfz10_1
          try clear hfz18_0
          try clear hfz18_1
          try clear hfz23_0
          try clear hfz23_1
          try clear hfz25_0
          try clear hfz25_1
          try clear hfz27_0
          try clear hfz27_1
          try clear hfz29_0
          try clear hfz29_1
          try clear hfz8_0
          try clear hfz8_1
          try clear p2
          obtain ⟨x9_2, x11_2, rfl, HA, HK2, HO_9, HO_280000, HO_280001, BK268, BK279, HB⟩ := hrel
          have hl9_2 := (Kd.R_reads' HO_9.out).1
          rw [hl9_2] at HO_9
          (try simp only [hl9_2])
          (try simp only [hl9_2] at BK268)
          (try simp only [hl9_2] at BK279)
          (try simp only [hl9_2] at HO_280000)
          (try simp only [hl9_2] at HO_280001)
          cases gk with
          | zero => exact absurd HA.out (by simp [folkmootlaw17_MemberAsks.l0])
          | succ k2 =>
            have H := HA.out
            clear HA
            simp only [folkmootlaw17_MemberAsks.l0] at H
            by_cases c33 : x11_2 < (x9_2.length : Int)
            · rw [if_pos c33] at H
              have c33b0 : decide (x11_2 < (x9_2.length : Int)) = true := decide_eq_true c33
              clear c33
              by_cases c34 : 0 ≤ x11_2
              · rw [if_pos c34] at H
                have c34b0 : decide (0 ≤ x11_2) = true := decide_eq_true c34
                clear c34
                obtain ⟨y288, hy288⟩ : ∃ y_ : List Int, y_ = (x9_2.set (x11_2 : Int).toNat 77) := ⟨_, rfl⟩
                replace H : (folkmootlaw17_MemberAsks.l0 k2 l1 a2 t280 y288 t287 (wrap64 (x11_2 + 1)) l0_0 l0_1 t272 t275) = some r := by first | (rw [hy288]; with_reducible exact H) | (have H2_ := (Option.bind_some _ _).symm.trans H; rw [hy288]; with_reducible exact H2_) | (have H2_ := (Option.bind_some _ _).symm.trans H; with_reducible exact H2_) | with_reducible exact H | (rw [hy288]; exact H) | exact H
                have Ny288 := Aside0.mk hy288
                clear hy288
                have H' := Aside0.mk H
                clear H
                have p35 : 0 ≤ (x11_2 : Int) := of_decide_eq_true (by first | (with_reducible assumption) | assumption)
                have q35 : (x11_2 : Int) < ((x9_2.length : Int) : Int) := of_decide_eq_true (by first | (with_reducible assumption) | assumption)
                obtain ⟨go35, co35, eo35, gb35, gl35, cl35, HG35⟩ := Kd.R_form HO_9.out (by omega)
                (first | cases eo35 | (injection eo35 with ea_ en_ ec_; (first | subst ea_ | (injection ea_ with ea_; subst ea_)); subst ec_; clear en_))
                have GB35 := Aside0.mk gb35
                have GG35 := Aside0.mk HG35
                clear gb35 gl35 HG35
                obtain ⟨hx35_0, hf35_0⟩ := Kd.R_celln 0 HO_9.out (x11_2 : Int) p35 q35
                replace p35 := eq_true p35
                replace q35 := eq_true q35
                have HP36 := Kd.R_putg HO_9.out (x11_2 : Int) 77
                go_wp2_with (first | ((with_reducible refine gate_store (t := 3) (p := 40) rfl ?_); refine store_event (t := 3) (p := 40) (v := ?vo_w37) (w1 := (wr.setCell ⟨go35, (x11_2 : Int).toNat, none⟩ (.int .i64 77))) ?hg ?ho ?hn ?hr ?_; (case ho => rfl); (case hg => rfl); (case hn => rfl); (case hr => first | (go_simp; done) | (go_simp; rfl)); intro w37 hw; have hg : wr.grownBy w37 (some go35) := (by rw [hw]; exact HP36.2); have hp_ : Kd.R (Kd.int .i64) 3 w37 w.heap.size (fun k_ => some k_ ≠ (.slice Ao21 t272.length co21 : Value).ownBlock ∧ some k_ ≠ (.slice Ao24 t275.length co24 : Value).ownBlock) (.slice (some ⟨go35, 0, none⟩) x9_2.length co31) y288 := (by rw [hw, Ny288.out]; exact HP36.1); clear HP36; have n0_ := Aside0.mk (hp_); have n1_ := Aside0.mk (Kd.R_after (v := (.slice (some ⟨go35, 0, none⟩) x9_2.length co31)) (v1 := (.slice (some ⟨go35, 0, none⟩) x9_2.length co31)) (ok := (fun k_ => some k_ ≠ (.slice Ao24 t275.length co24 : Value).ownBlock)) (by (with_reducible repeat (first | apply Kd.R_alloc | apply Kd.R_drewN | apply Kd.R_drew)); exact Kd.R_mono HO_280000.out (fun _ hk => ⟨hk.2, hk.1⟩)) hg (.inl rfl)); have n2_ := Aside0.mk (Kd.R_after (v := (.slice (some ⟨go35, 0, none⟩) x9_2.length co31)) (v1 := (.slice (some ⟨go35, 0, none⟩) x9_2.length co31)) (ok := (fun k_ => some k_ ≠ (.slice Ao21 t272.length co21 : Value).ownBlock)) (by (with_reducible repeat (first | apply Kd.R_alloc | apply Kd.R_drewN | apply Kd.R_drew)); exact Kd.R_mono HO_280001.out (fun _ hk => ⟨hk.2, hk.1⟩)) hg (.inl rfl)); have n3_ := Aside0.mk (blk_grown (g := gb268) (o := .cells #[.slice A0_0 l0_0.length c0_0, .slice A0_1 l0_1.length c0_1] 25 (0, 0)) (by (with_reducible repeat (first | refine blk_drewN ?_ _ | refine blk_drew ?_ | refine blk_alloc ?_ _)); exact BK268.out) hg (Kd.R_ne HO_9.out BK268.out (by decide))); have n4_ := Aside0.mk (blk_grown (g := gb279) (o := .cells #[.slice Ao21 t272.length co21, .slice Ao24 t275.length co24] 25 (0, 0)) (by (with_reducible repeat (first | refine blk_drewN ?_ _ | refine blk_drew ?_ | refine blk_alloc ?_ _)); exact BK279.out) hg (Kd.R_ne HO_9.out BK279.out (by decide))); have n5_ := Aside0.mk ((by rw [hw]; exact below_set (HB.out) GB35.out : Below w.heap.size w w37)); clear HO_9; clear HO_280000; clear HO_280001; clear BK268; clear BK279; clear HB; have HO_9 := n0_; have HO_280000 := n1_; have HO_280001 := n2_; have BK268 := n3_; have BK279 := n4_; have HB := n5_; clear n0_ n1_ n2_ n3_ n4_ n5_; clear hg hw hp_))
                (try simp only [← hl9_2])
                go_roundg k2
                case measure => have := HJ3.out; have := HK2.out; omega
                case rel => exact ⟨(y288), (wrap64 (x11_2 + 1)), (by first | rfl | (simp; done) | (simp [*]; done)), H', ⟨by have := HJ3.out; have := HK2.out; omega⟩, ⟨by (try simp only [hl9_2]); (with_reducible repeat (first | apply Kd.R_alloc | apply Kd.R_drewN | apply Kd.R_drew)); exact HO_9.out⟩, ⟨by (try simp only [hl9_2]); (with_reducible repeat (first | apply Kd.R_alloc | apply Kd.R_drewN | apply Kd.R_drew)); exact Kd.R_mono HO_280000.out (fun _ hk => ⟨hk.2, hk.1⟩)⟩, ⟨by (try simp only [hl9_2]); (with_reducible repeat (first | apply Kd.R_alloc | apply Kd.R_drewN | apply Kd.R_drew)); exact Kd.R_mono HO_280001.out (fun _ hk => ⟨hk.2, hk.1⟩)⟩, ⟨by (try simp only [hl9_2]); (with_reducible repeat (first | refine blk_drewN ?_ _ | refine blk_drew ?_ | refine blk_alloc ?_ _)); exact BK268.out⟩, ⟨by (try simp only [hl9_2]); (with_reducible repeat (first | refine blk_drewN ?_ _ | refine blk_drew ?_ | refine blk_alloc ?_ _)); exact BK279.out⟩, ⟨by repeat (first | (with_reducible first | exact HB.out | apply below_alloc | apply pw_below_drewN | apply below_drew1 | refine below_set ?_ GE268.out | refine below_set ?_ GE279.out) | exact HB.out)⟩⟩
              · rw [if_neg c34] at H
                exact absurd H (by simp)
            · rw [if_neg c33] at H
              have c33b0 : decide (x11_2 < (x9_2.length : Int)) = false := decide_eq_false c33
              clear c33
              have HC38 := Aside0.mk H
              clear H
              go_upto_region 11 with (fail)
              go_cut [12] (fun v12 wc => ∃ (kq : Nat) (x12_37 : Bool), v12 = .bool x12_37 ∧ Aside0 (folkmootlaw17_MemberAsks.j2 kq l1 a2 t287 x12_37 l0_0 l0_1 t272 t275 = some r) ∧ Aside0 (kq ≤ k2) ∧ Aside0 (Kd.R (Kd.int .i64) 3 wc w.heap.size (fun k_ => some k_ ≠ ((.slice Ao24 t275.length co24) : Value).ownBlock) (.slice Ao21 t272.length co21) t272) ∧ Aside0 (Kd.R (Kd.int .i64) 3 wc w.heap.size (fun k_ => some k_ ≠ ((.slice Ao21 t272.length co21) : Value).ownBlock) (.slice Ao24 t275.length co24) t275) ∧ Aside0 (wc.heap[gb268]? = some (.cells #[(.slice A0_0 l0_0.length c0_0), (.slice A0_1 l0_1.length c0_1)] 25 (0, 0))) ∧ Aside0 (wc.heap[gb279]? = some (.cells #[(.slice Ao21 t272.length co21), (.slice Ao24 t275.length co24)] 25 (0, 0))) ∧ Aside0 (Below w.heap.size w wc))
              case first =>
                have H := HC38.out
                clear HC38
                replace H := Option.bind_eq_some_iff.mp H
                obtain ⟨t289, A390, H⟩ := H
                replace H : (if ((t280 == 0) == t289) = true then (if t280 = 0 then (folkmootlaw17_MemberAsks.j2 k2 l1 a2 t287 true l0_0 l0_1 t272 t275) else (folkmootlaw17_MemberAsks.j2 k2 l1 a2 t287 (t280 == 160) l0_0 l0_1 t272 t275)) else (none)) = some r := H
                have A39 := Aside0.mk A390
                clear A390
                by_cases c40 : ((t280 == 0) == t289) = true
                · rw [if_pos c40] at H
                  have c40b0 : ((t280 == 0) == t289) = true := c40
                  (try (have c40b1 : decide ((t280 == 0) = t289) = true := by simpa using c40))
                  (try (have c40b2 : ((t280 == 0) == t289) = true := by simpa using c40))
                  clear c40
                  (first | rw [c40b0] | (simp only [i64_w, i32_w]; rw [c40b0]) | skip)
                  by_cases c41 : t280 = 0
                  · rw [if_pos c41] at H
                    have c41b0 : (t280 == 0) = true := beq_iff_eq.mpr c41
                    have c41b1 : (t280 != 0) = false := bne_eq_false_iff_eq.mpr c41; have c41x : t289 = true := by simpa [c41b0] using c40b0
                    clear c41
                    have H' := Aside0.mk H
                    clear H
                    have hnb42 := NB279_268.out
                    have hnc42 := NB268_279.out
                    have hcz43_0 : wr.cell? ⟨gb279, 0, none⟩ = some (.slice Ao21 t272.length co21) := (blk_cell BK279.out 0).trans rfl
                    have hcz43_1 : wr.cell? ⟨gb279, 1, none⟩ = some (.slice Ao24 t275.length co24) := (blk_cell BK279.out 1).trans rfl
                    have hfz43_0 := blk_frozen BK279.out 0
                    have hfz43_1 := blk_frozen BK279.out 1
                    go_wp2_with (first | ((with_reducible refine gate_callee (f := 13) rfl ?_); refine goesL_ (some 44) rfl rfl Try.func13 (by kernel_rfl) rfl #[.agg #[.slice Ao21 t272.length co21, .slice Ao24 t275.length co24]] rfl (by (try simp only [List.map_toArray, List.map_cons, List.map_nil]); first | done | rfl | (simp only [List.length_drop, List.length_take]; rfl)) ?_; (with_reducible refine (folkmootref17_May.calls k2 _ _ t272 _ _ t275 t289 _ ?side1 ?side2 ?side3 ?side4 A39.out).mono ?_); (case side1 => repeat (first | exact (Kd.R_reads' HO_280000.out).2.2 | (with_reducible refine Kd.C_alloc ?_ _) | (with_reducible refine Kd.C_drewN ?_ _) | (with_reducible refine Kd.C_drew ?_))); (case side2 => exact (Kd.R_reads' HO_280000.out).2.1); (case side3 => repeat (first | exact (Kd.R_reads' HO_280001.out).2.2 | (with_reducible refine Kd.C_alloc ?_ _) | (with_reducible refine Kd.C_drewN ?_ _) | (with_reducible refine Kd.C_drew ?_))); (case side4 => exact (Kd.R_reads' HO_280001.out).2.1); rintro e w44 ⟨rfl, hb⟩; refine ⟨_, rfl, ?_⟩; have n0_ := Aside0.mk (Kd.R_below (by (with_reducible repeat (first | apply Kd.R_alloc | apply Kd.R_drewN | apply Kd.R_drew)); exact HO_9.out) hb); have n1_ := Aside0.mk (Kd.R_below (by (with_reducible repeat (first | apply Kd.R_alloc | apply Kd.R_drewN | apply Kd.R_drew)); exact HO_280000.out) hb); have n2_ := Aside0.mk (Kd.R_below (by (with_reducible repeat (first | apply Kd.R_alloc | apply Kd.R_drewN | apply Kd.R_drew)); exact HO_280001.out) hb); have n3_ := Aside0.mk (blk_below (g := gb268) (o := .cells #[.slice A0_0 l0_0.length c0_0, .slice A0_1 l0_1.length c0_1] 25 (0, 0)) (by (with_reducible repeat (first | refine blk_drewN ?_ _ | refine blk_drew ?_ | refine blk_alloc ?_ _)); exact BK268.out) hb); have n4_ := Aside0.mk (blk_below (g := gb279) (o := .cells #[.slice Ao21 t272.length co21, .slice Ao24 t275.length co24] 25 (0, 0)) (by (with_reducible repeat (first | refine blk_drewN ?_ _ | refine blk_drew ?_ | refine blk_alloc ?_ _)); exact BK279.out) hb); have n5_ := Aside0.mk (below_step (by repeat (first | (with_reducible first | exact HB.out | apply below_alloc | apply pw_below_drewN | apply below_drew1 | refine below_set ?_ GE268.out | refine below_set ?_ GE279.out) | exact HB.out)) hb); clear HO_9; clear HO_280000; clear HO_280001; clear BK268; clear BK279; clear HB; have HO_9 := n0_; have HO_280000 := n1_; have HO_280001 := n2_; have BK268 := n3_; have BK279 := n4_; have HB := n5_; clear n0_ n1_ n2_ n3_ n4_ n5_; (try clear hb); (try clear hb2); (try clear hk); (try clear hi)))
                    go_meet
                    case rel => exact ⟨_, (true), (by first | rfl | (simp; done) | (simp [*]; done)), H', ⟨by have := HJ3.out; have := HK2.out; first | omega | exact Nat.le_refl _⟩, ⟨by (try simp only [hl9_2]); (with_reducible repeat (first | apply Kd.R_alloc | apply Kd.R_drewN | apply Kd.R_drew)); exact Kd.R_mono HO_280000.out (fun _ hk => hk.2)⟩, ⟨by (try simp only [hl9_2]); (with_reducible repeat (first | apply Kd.R_alloc | apply Kd.R_drewN | apply Kd.R_drew)); exact Kd.R_mono HO_280001.out (fun _ hk => hk.2)⟩, ⟨by (try simp only [hl9_2]); (with_reducible repeat (first | refine blk_drewN ?_ _ | refine blk_drew ?_ | refine blk_alloc ?_ _)); exact BK268.out⟩, ⟨by (try simp only [hl9_2]); (with_reducible repeat (first | refine blk_drewN ?_ _ | refine blk_drew ?_ | refine blk_alloc ?_ _)); exact BK279.out⟩, ⟨by repeat (first | (with_reducible first | exact HB.out | apply below_alloc | apply pw_below_drewN | apply below_drew1 | refine below_set ?_ GE268.out | refine below_set ?_ GE279.out) | exact HB.out)⟩⟩
                  · rw [if_neg c41] at H
                    have c41b0 : (t280 == 0) = false := beq_eq_false_iff_ne.mpr c41
                    have c41b1 : (t280 != 0) = true := bne_iff_ne.mpr c41; have c41x : t289 = false := by simpa [c41b0] using c40b0
                    have H' := Aside0.mk H
                    clear H
                    have hnb45 := NB279_268.out
                    have hnc45 := NB268_279.out
                    have hcz46_0 : wr.cell? ⟨gb279, 0, none⟩ = some (.slice Ao21 t272.length co21) := (blk_cell BK279.out 0).trans rfl
                    have hcz46_1 : wr.cell? ⟨gb279, 1, none⟩ = some (.slice Ao24 t275.length co24) := (blk_cell BK279.out 1).trans rfl
                    have hfz46_0 := blk_frozen BK279.out 0
                    have hfz46_1 := blk_frozen BK279.out 1
                    go_wp2_with (first | ((with_reducible refine gate_callee (f := 13) rfl ?_); refine goesL_ (some 44) rfl rfl Try.func13 (by kernel_rfl) rfl #[.agg #[.slice Ao21 t272.length co21, .slice Ao24 t275.length co24]] rfl (by (try simp only [List.map_toArray, List.map_cons, List.map_nil]); first | done | rfl | (simp only [List.length_drop, List.length_take]; rfl)) ?_; (with_reducible refine (folkmootref17_May.calls k2 _ _ t272 _ _ t275 t289 _ ?side1 ?side2 ?side3 ?side4 A39.out).mono ?_); (case side1 => repeat (first | exact (Kd.R_reads' HO_280000.out).2.2 | (with_reducible refine Kd.C_alloc ?_ _) | (with_reducible refine Kd.C_drewN ?_ _) | (with_reducible refine Kd.C_drew ?_))); (case side2 => exact (Kd.R_reads' HO_280000.out).2.1); (case side3 => repeat (first | exact (Kd.R_reads' HO_280001.out).2.2 | (with_reducible refine Kd.C_alloc ?_ _) | (with_reducible refine Kd.C_drewN ?_ _) | (with_reducible refine Kd.C_drew ?_))); (case side4 => exact (Kd.R_reads' HO_280001.out).2.1); rintro e w47 ⟨rfl, hb⟩; refine ⟨_, rfl, ?_⟩; have n0_ := Aside0.mk (Kd.R_below (by (with_reducible repeat (first | apply Kd.R_alloc | apply Kd.R_drewN | apply Kd.R_drew)); exact HO_9.out) hb); have n1_ := Aside0.mk (Kd.R_below (by (with_reducible repeat (first | apply Kd.R_alloc | apply Kd.R_drewN | apply Kd.R_drew)); exact HO_280000.out) hb); have n2_ := Aside0.mk (Kd.R_below (by (with_reducible repeat (first | apply Kd.R_alloc | apply Kd.R_drewN | apply Kd.R_drew)); exact HO_280001.out) hb); have n3_ := Aside0.mk (blk_below (g := gb268) (o := .cells #[.slice A0_0 l0_0.length c0_0, .slice A0_1 l0_1.length c0_1] 25 (0, 0)) (by (with_reducible repeat (first | refine blk_drewN ?_ _ | refine blk_drew ?_ | refine blk_alloc ?_ _)); exact BK268.out) hb); have n4_ := Aside0.mk (blk_below (g := gb279) (o := .cells #[.slice Ao21 t272.length co21, .slice Ao24 t275.length co24] 25 (0, 0)) (by (with_reducible repeat (first | refine blk_drewN ?_ _ | refine blk_drew ?_ | refine blk_alloc ?_ _)); exact BK279.out) hb); have n5_ := Aside0.mk (below_step (by repeat (first | (with_reducible first | exact HB.out | apply below_alloc | apply pw_below_drewN | apply below_drew1 | refine below_set ?_ GE268.out | refine below_set ?_ GE279.out) | exact HB.out)) hb); clear HO_9; clear HO_280000; clear HO_280001; clear BK268; clear BK279; clear HB; have HO_9 := n0_; have HO_280000 := n1_; have HO_280001 := n2_; have BK268 := n3_; have BK279 := n4_; have HB := n5_; clear n0_ n1_ n2_ n3_ n4_ n5_; (try clear hb); (try clear hb2); (try clear hk); (try clear hi)))
                    go_meet
                    case rel => exact ⟨_, ((t280 == 160)), (by first | rfl | (simp; done) | (simp [*]; done)), H', ⟨by have := HJ3.out; have := HK2.out; first | omega | exact Nat.le_refl _⟩, ⟨by (try simp only [hl9_2]); (with_reducible repeat (first | apply Kd.R_alloc | apply Kd.R_drewN | apply Kd.R_drew)); exact Kd.R_mono HO_280000.out (fun _ hk => hk.2)⟩, ⟨by (try simp only [hl9_2]); (with_reducible repeat (first | apply Kd.R_alloc | apply Kd.R_drewN | apply Kd.R_drew)); exact Kd.R_mono HO_280001.out (fun _ hk => hk.2)⟩, ⟨by (try simp only [hl9_2]); (with_reducible repeat (first | refine blk_drewN ?_ _ | refine blk_drew ?_ | refine blk_alloc ?_ _)); exact BK268.out⟩, ⟨by (try simp only [hl9_2]); (with_reducible repeat (first | refine blk_drewN ?_ _ | refine blk_drew ?_ | refine blk_alloc ?_ _)); exact BK279.out⟩, ⟨by repeat (first | (with_reducible first | exact HB.out | apply below_alloc | apply pw_below_drewN | apply below_drew1 | refine below_set ?_ GE268.out | refine below_set ?_ GE279.out) | exact HB.out)⟩⟩
                · rw [if_neg c40] at H
                  exact absurd H (by simp)
              case rest =>
                clear HC38
                try clear c1
                try clear c2
                try clear p2
                try clear c3
                try clear p3
                try clear q3
                try clear hx3
                try clear hf3
                try clear c4
                try clear p6
                try clear c7
                try clear c8
                try clear c9
                try clear c10
                try clear c11
                try clear c12
                try clear c13
                try clear c22
                try clear c33
                try clear c33b0
                try clear c34
                try clear c34b0
                try clear p35
                try clear q35
                try clear hx35
                try clear hf35
                try clear c40
                try clear c40b0
                try clear c40b1
                try clear c40b2
                try clear c41
                try clear c41b0
                try clear c41b1
                try clear c42
                try clear c45
                try clear hcz10_0
                try clear hcz10_1
                try clear hcz18_0
                try clear hcz18_1
                try clear hcz23_0
                try clear hcz23_1
                try clear hcz25_0
                try clear hcz25_1
                try clear hcz27_0
                try clear hcz27_1
                try clear hcz29_0
                try clear hcz29_1
                try clear hcz43_0
                try clear hcz43_1
                try clear hcz46_0
                try clear hcz46_1
                try clear hcz8_0
                try clear hcz8_1
                try clear hfz10_0
                try clear hfz10_1
                try clear hfz18_0
                try clear hfz18_1
                try clear hfz23_0
                try clear hfz23_1
                try clear hfz25_0
                try clear hfz25_1
                try clear hfz27_0
                try clear hfz27_1
                try clear hfz29_0
                try clear hfz29_1
                try clear hfz43_0
                try clear hfz43_1
                try clear hfz46_0
                try clear hfz46_1
                try clear hfz8_0
                try clear hfz8_1
                try clear hx35_0
                try clear p2
                try clear p35
                try clear q35
                obtain ⟨kq, x12_37, rfl, HA, HJ37, HO_280000, HO_280001, BK268, BK279, HB⟩ := hcut
                cases kq with
                | zero => exact absurd HA.out (by simp [folkmootlaw17_MemberAsks.j2])
                | succ kj37 =>
                  have H := HA.out
                  clear HA
                  simp only [folkmootlaw17_MemberAsks.j2] at H
                  replace H := Option.bind_eq_some_iff.mp H
                  obtain ⟨t290, A480, H⟩ := H
                  replace H : (if t290 = true then (if x12_37 = true then (if t287 = true then ((member_Reached.f kj37 l0_0 l0_1 l1).bind fun t291 => ((folkmootref17_Reached.f kj37 t272 t275 l1).bind fun t292 => (if (t291 == t292) = true then ((member_Voter.f kj37 l0_0 l0_1 a2).bind fun t293 => ((folkmootref17_Voter.f kj37 t272 t275 a2).bind fun t294 => (if (t293 == t294) = true then ((folkmootref15_Configs.f kj37 l0_0 l0_1 t272 t275).bind fun t295 => (some t295)) else (none)))) else (none)))) else (none)) else (none)) else (none)) = some r := H
                  have A48 := Aside0.mk A480
                  clear A480
                  by_cases c49 : t290 = true
                  · subst c49
                    have H1 : (if x12_37 = true then (if t287 = true then ((member_Reached.f kj37 l0_0 l0_1 l1).bind fun t291 => ((folkmootref17_Reached.f kj37 t272 t275 l1).bind fun t292 => (if (t291 == t292) = true then ((member_Voter.f kj37 l0_0 l0_1 a2).bind fun t293 => ((folkmootref17_Voter.f kj37 t272 t275 a2).bind fun t294 => (if (t293 == t294) = true then ((folkmootref15_Configs.f kj37 l0_0 l0_1 t272 t275).bind fun t295 => (some t295)) else (none)))) else (none)))) else (none)) else (none)) = some r := by rw [if_pos rfl] at H; exact H
                    clear H
                    have H := H1
                    clear H1
                    by_cases c50 : x12_37 = true
                    · subst c50
                      have H1 : (if t287 = true then ((member_Reached.f kj37 l0_0 l0_1 l1).bind fun t291 => ((folkmootref17_Reached.f kj37 t272 t275 l1).bind fun t292 => (if (t291 == t292) = true then ((member_Voter.f kj37 l0_0 l0_1 a2).bind fun t293 => ((folkmootref17_Voter.f kj37 t272 t275 a2).bind fun t294 => (if (t293 == t294) = true then ((folkmootref15_Configs.f kj37 l0_0 l0_1 t272 t275).bind fun t295 => (some t295)) else (none)))) else (none)))) else (none)) = some r := by rw [if_pos rfl] at H; exact H
                      clear H
                      have H := H1
                      clear H1
                      by_cases c51 : t287 = true
                      · subst c51
                        have H1 : ((member_Reached.f kj37 l0_0 l0_1 l1).bind fun t291 => ((folkmootref17_Reached.f kj37 t272 t275 l1).bind fun t292 => (if (t291 == t292) = true then ((member_Voter.f kj37 l0_0 l0_1 a2).bind fun t293 => ((folkmootref17_Voter.f kj37 t272 t275 a2).bind fun t294 => (if (t293 == t294) = true then ((folkmootref15_Configs.f kj37 l0_0 l0_1 t272 t275).bind fun t295 => (some t295)) else (none)))) else (none)))) = some r := by rw [if_pos rfl] at H; exact H
                        clear H
                        have H := H1
                        clear H1
                        replace H := Option.bind_eq_some_iff.mp H
                        obtain ⟨t291, A520, H⟩ := H
                        replace H : ((folkmootref17_Reached.f kj37 t272 t275 l1).bind fun t292 => (if (t291 == t292) = true then ((member_Voter.f kj37 l0_0 l0_1 a2).bind fun t293 => ((folkmootref17_Voter.f kj37 t272 t275 a2).bind fun t294 => (if (t293 == t294) = true then ((folkmootref15_Configs.f kj37 l0_0 l0_1 t272 t275).bind fun t295 => (some t295)) else (none)))) else (none))) = some r := H
                        have A52 := Aside0.mk A520
                        clear A520
                        replace H := Option.bind_eq_some_iff.mp H
                        obtain ⟨t292, A530, H⟩ := H
                        replace H : (if (t291 == t292) = true then ((member_Voter.f kj37 l0_0 l0_1 a2).bind fun t293 => ((folkmootref17_Voter.f kj37 t272 t275 a2).bind fun t294 => (if (t293 == t294) = true then ((folkmootref15_Configs.f kj37 l0_0 l0_1 t272 t275).bind fun t295 => (some t295)) else (none)))) else (none)) = some r := H
                        have A53 := Aside0.mk A530
                        clear A530
                        by_cases c54 : (t291 == t292) = true
                        · rw [if_pos c54] at H
                          have c54b0 : (t291 == t292) = true := c54
                          (try (have c54b1 : decide (t291 = t292) = true := by simpa using c54))
                          (try (have c54b2 : (t291 == t292) = true := by simpa using c54))
                          clear c54
                          replace H := Option.bind_eq_some_iff.mp H
                          obtain ⟨t293, A550, H⟩ := H
                          replace H : ((folkmootref17_Voter.f kj37 t272 t275 a2).bind fun t294 => (if (t293 == t294) = true then ((folkmootref15_Configs.f kj37 l0_0 l0_1 t272 t275).bind fun t295 => (some t295)) else (none))) = some r := H
                          have A55 := Aside0.mk A550
                          clear A550
                          replace H := Option.bind_eq_some_iff.mp H
                          obtain ⟨t294, A560, H⟩ := H
                          replace H : (if (t293 == t294) = true then ((folkmootref15_Configs.f kj37 l0_0 l0_1 t272 t275).bind fun t295 => (some t295)) else (none)) = some r := H
                          have A56 := Aside0.mk A560
                          clear A560
                          by_cases c57 : (t293 == t294) = true
                          · rw [if_pos c57] at H
                            have c57b0 : (t293 == t294) = true := c57
                            (try (have c57b1 : decide (t293 = t294) = true := by simpa using c57))
                            (try (have c57b2 : (t293 == t294) = true := by simpa using c57))
                            clear c57
                            replace H := Option.bind_eq_some_iff.mp H
                            obtain ⟨t295, A580, H⟩ := H
                            replace H : (some t295) = some r := H
                            have A58 := Aside0.mk A580
                            clear A580
                            obtain rfl := Option.some.inj H
                            try go_wp2
                            have n0_ := Aside0.mk (Kd.R_drew HO_280000.out)
                            have n1_ := Aside0.mk (Kd.R_drew HO_280001.out)
                            have n2_ := Aside0.mk (blk_drew BK268.out)
                            have n3_ := Aside0.mk (blk_drew BK279.out)
                            have n4_ := Aside0.mk (below_drew1 HB.out)
                            clear HO_280000
                            clear HO_280001
                            clear BK268
                            clear BK279
                            clear HB
                            have HO_280000 := n0_
                            have HO_280001 := n1_
                            have BK268 := n2_
                            have BK279 := n3_
                            have HB := n4_
                            clear n0_ n1_ n2_ n3_ n4_
                            refine start_ (n := 31) (S := fun w' => w'.cell? ⟨gb268, 0, none⟩ = some (.slice A0_0 l0_0.length c0_0) ∧ w'.cell? ⟨gb268, 1, none⟩ = some (.slice A0_1 l0_1.length c0_1) ∧ w'.cell? ⟨gb279, 0, none⟩ = some (.slice Ao21 t272.length co21) ∧ w'.cell? ⟨gb279, 1, none⟩ = some (.slice Ao24 t275.length co24)) (ds := []) #[false, false, false, false, false, false, false, false, false, false, false, false, false, false, false, false, false, false, false, false, false, false, false, false, false, false, false, false, false, false, false] (by kernel_rfl) rfl rfl ⟨(blk_cell BK268.out 0).trans rfl, (blk_cell BK268.out 1).trans rfl, (blk_cell BK279.out 0).trans rfl, (blk_cell BK279.out 1).trans rfl⟩ (fun hHeld => ?_); refine with_tabW folkmootlaw17_MemberAsks.tab12 folkmootlaw17_MemberAsks.bits12 (fun HT_ HW_ => ?_)
                            generalize wc.drew = w59 at HO_280000 HO_280001 BK268 BK279 HB hHeld ⊢
                            refine one_ (i := 0) (N := some 54) #[true, false, false, false, false, false, false, false, false, false, false, false, false, false, false, false, false, false, false, false, false, false, false, false, false, false, false, false, false, false, false] rfl rfl (one_of HT_.out (by kernel_rfl)) (by decide) (fun K hK => ?_)
                            refine goes_ Try.func14 (by kernel_rfl) rfl #[] (by rfl) rfl rfl (by (try simp only [List.map_toArray, List.map_cons, List.map_nil]); first | done | rfl | (simp only [List.length_drop, List.length_take]; rfl)) ?_
                            with_reducible refine (folkmootlaw17_asks.calls kj37  true _ A48.out).mono ?_
                            rintro e w60 ⟨rfl, hb⟩
                            refine ⟨_, rfl, ?_⟩
                            have n0_ := Aside0.mk (Kd.R_below (by (with_reducible repeat (first | apply Kd.R_alloc | apply Kd.R_drewN | apply Kd.R_drew)); exact HO_280000.out) hb)
                            have n1_ := Aside0.mk (Kd.R_below (by (with_reducible repeat (first | apply Kd.R_alloc | apply Kd.R_drewN | apply Kd.R_drew)); exact HO_280001.out) hb)
                            have n2_ := Aside0.mk (blk_below (g := gb268) (o := .cells #[.slice A0_0 l0_0.length c0_0, .slice A0_1 l0_1.length c0_1] 25 (0, 0)) (by (with_reducible repeat (first | refine blk_drewN ?_ _ | refine blk_drew ?_ | refine blk_alloc ?_ _)); exact BK268.out) hb)
                            have n3_ := Aside0.mk (blk_below (g := gb279) (o := .cells #[.slice Ao21 t272.length co21, .slice Ao24 t275.length co24] 25 (0, 0)) (by (with_reducible repeat (first | refine blk_drewN ?_ _ | refine blk_drew ?_ | refine blk_alloc ?_ _)); exact BK279.out) hb)
                            have n4_ := Aside0.mk (below_step (by repeat (first | (with_reducible first | exact HB.out | apply below_alloc | apply pw_below_drewN | apply below_drew1 | refine below_set ?_ GE268.out | refine below_set ?_ GE279.out) | exact HB.out)) hb)
                            clear HO_280000
                            clear HO_280001
                            clear BK268
                            clear BK279
                            clear HB
                            have HO_280000 := n0_
                            have HO_280001 := n1_
                            have BK268 := n2_
                            have BK279 := n3_
                            have HB := n4_
                            clear n0_ n1_ n2_ n3_ n4_
                            (try clear hb)
                            (try clear hb2)
                            (try clear hk)
                            (try clear hi)
                            refine hK.out _ _ ⟨(blk_cell BK268.out 0).trans rfl, (blk_cell BK268.out 1).trans rfl, (blk_cell BK279.out 0).trans rfl, (blk_cell BK279.out 1).trans rfl⟩ (fun hHeld => ?_)
                            clear hK K
                            refine norm_ (a' := ?_) ?_ ?_
                            rotate_left
                            · show Act.put _ (some 54) _ = _
                              simp only [Act.put, List.setIfInBounds_toArray, List.set_cons_zero, List.set_cons_succ, i64_w, i32_w]
                              rfl
                            refine pure_ (i := 1) (N := some 55) (v := ?_) (a' := ?_) #[true, true, false, false, false, false, false, false, false, false, false, false, false, false, false, false, false, false, false, false, false, false, false, false, false, false, false, false, false, false, false] rfl rfl (any_of HT_.out (by kernel_rfl)) (fun _ _ _ h => h) (Or.inl ⟨by rfl, ?_⟩) ?_ ?_
                            rotate_left
                            · intro w'
                              go_simp
                              with_reducible rfl
                            rotate_left
                            · simp only [Act.put, List.setIfInBounds_toArray, List.set_cons_zero, List.set_cons_succ, i64_w, i32_w]
                              rfl
                            refine pure_ (i := 2) (N := some 56) (v := ?_) (a' := ?_) #[true, true, true, false, false, false, false, false, false, false, false, false, false, false, false, false, false, false, false, false, false, false, false, false, false, false, false, false, false, false, false] rfl rfl (any_of HT_.out (by kernel_rfl)) (fun _ _ _ h => h) (Or.inl ⟨by rfl, ?_⟩) ?_ ?_
                            rotate_left
                            · intro w'
                              go_simp
                              with_reducible rfl
                            rotate_left
                            · simp only [Act.put, List.setIfInBounds_toArray, List.set_cons_zero, List.set_cons_succ, i64_w, i32_w]
                              rfl
                            refine pure_ (i := 3) (N := some 57) (v := ?_) (a' := ?_) #[true, true, true, true, false, false, false, false, false, false, false, false, false, false, false, false, false, false, false, false, false, false, false, false, false, false, false, false, false, false, false] rfl rfl (any_of HT_.out (by kernel_rfl)) (fun _ _ _ h => h) (Or.inl ⟨by rfl, ?_⟩) ?_ ?_
                            rotate_left
                            · intro w'
                              go_simp
                              with_reducible rfl
                            rotate_left
                            · simp only [Act.put, List.setIfInBounds_toArray, List.set_cons_zero, List.set_cons_succ, i64_w, i32_w]
                              rfl
                            refine pure_ (i := 4) (N := some 58) (v := ?_) (a' := ?_) #[true, true, true, true, true, false, false, false, false, false, false, false, false, false, false, false, false, false, false, false, false, false, false, false, false, false, false, false, false, false, false] rfl rfl (any_of HT_.out (by kernel_rfl)) (fun _ _ _ h => h) (Or.inl ⟨by rfl, ?_⟩) ?_ ?_
                            rotate_left
                            · intro w'
                              go_simp
                              with_reducible rfl
                            rotate_left
                            · simp only [Act.put, List.setIfInBounds_toArray, List.set_cons_zero, List.set_cons_succ, i64_w, i32_w]
                              rfl
                            refine pure_ (i := 5) (N := some 59) (v := ?_) (a' := ?_) #[true, true, true, true, true, true, false, false, false, false, false, false, false, false, false, false, false, false, false, false, false, false, false, false, false, false, false, false, false, false, false] rfl rfl (any_of HT_.out (by kernel_rfl)) (fun _ _ _ h => h) (Or.inl ⟨by rfl, ?_⟩) ?_ ?_
                            rotate_left
                            · intro w'
                              go_simp
                              with_reducible rfl
                            rotate_left
                            · simp only [Act.put, List.setIfInBounds_toArray, List.set_cons_zero, List.set_cons_succ, i64_w, i32_w]
                              rfl
                            refine pure_ (i := 6) (N := some 60) (v := ?_) (a' := ?_) #[true, true, true, true, true, true, true, false, false, false, false, false, false, false, false, false, false, false, false, false, false, false, false, false, false, false, false, false, false, false, false] rfl rfl (any_of HT_.out (by kernel_rfl)) (fun _ _ _ h => h) (Or.inl ⟨by rfl, ?_⟩) ?_ ?_
                            rotate_left
                            · intro w'
                              go_simp
                              with_reducible rfl
                            rotate_left
                            · simp only [Act.put, List.setIfInBounds_toArray, List.set_cons_zero, List.set_cons_succ, i64_w, i32_w]
                              rfl
                            refine pure_ (i := 7) (N := some 61) (v := ?_) (a' := ?_) #[true, true, true, true, true, true, true, true, false, false, false, false, false, false, false, false, false, false, false, false, false, false, false, false, false, false, false, false, false, false, false] rfl rfl (any_of HT_.out (by kernel_rfl)) (fun _ _ _ h => h) (Or.inl ⟨by rfl, ?_⟩) ?_ ?_
                            rotate_left
                            · intro w'
                              go_simp
                              with_reducible rfl
                            rotate_left
                            · simp only [Act.put, List.setIfInBounds_toArray, List.set_cons_zero, List.set_cons_succ, i64_w, i32_w]
                              rfl
                            refine pure_ (i := 9) (N := some 63) (v := ?_) (a' := ?_) #[true, true, true, true, true, true, true, true, false, true, false, false, false, false, false, false, false, false, false, false, false, false, false, false, false, false, false, false, false, false, false] rfl rfl (any_of HT_.out (by kernel_rfl)) (fun _ _ _ h => h) (Or.inl ⟨by rfl, ?_⟩) ?_ ?_
                            rotate_left
                            · intro w'
                              go_simp
                              with_reducible rfl
                            rotate_left
                            · simp only [Act.put, List.setIfInBounds_toArray, List.set_cons_zero, List.set_cons_succ, i64_w, i32_w]
                              rfl
                            refine pure_ (i := 12) (N := some 66) (v := ?_) (a' := ?_) #[true, true, true, true, true, true, true, true, false, true, false, false, true, false, false, false, false, false, false, false, false, false, false, false, false, false, false, false, false, false, false] rfl rfl (any_of HT_.out (by kernel_rfl)) (fun _ _ _ h => h) (Or.inl ⟨by rfl, ?_⟩) ?_ ?_
                            rotate_left
                            · intro w'
                              go_simp
                              with_reducible rfl
                            rotate_left
                            · simp only [Act.put, List.setIfInBounds_toArray, List.set_cons_zero, List.set_cons_succ, i64_w, i32_w]
                              rfl
                            refine take_ (i := 8) (N := some 62) (v := ?_) (a' := ?_) #[true, true, true, true, true, true, true, true, true, true, false, false, true, false, false, false, false, false, false, false, false, false, false, false, false, false, false, false, false, false, false] rfl rfl (take_ofW HT_.out HW_.out (by kernel_rfl)) (fun _ _ _ h => h) (Or.inl ⟨by rfl, ?_⟩) hHeld ?_ ?_
                            rotate_left
                            · rintro w' ⟨s0, s1, s2, s3⟩
                              go_simp
                              with_reducible rfl
                            rotate_left
                            · simp only [Act.put, List.setIfInBounds_toArray, List.set_cons_zero, List.set_cons_succ, i64_w, i32_w]
                              rfl
                            refine take_ (i := 11) (N := some 65) (v := ?_) (a' := ?_) #[true, true, true, true, true, true, true, true, true, true, false, true, true, false, false, false, false, false, false, false, false, false, false, false, false, false, false, false, false, false, false] rfl rfl (take_ofW HT_.out HW_.out (by kernel_rfl)) (fun _ _ _ h => h) (Or.inl ⟨by rfl, ?_⟩) hHeld ?_ ?_
                            rotate_left
                            · rintro w' ⟨s0, s1, s2, s3⟩
                              go_simp
                              with_reducible rfl
                            rotate_left
                            · simp only [Act.put, List.setIfInBounds_toArray, List.set_cons_zero, List.set_cons_succ, i64_w, i32_w]
                              rfl
                            refine one_ (i := 10) (N := some 64) #[true, true, true, true, true, true, true, true, true, true, true, true, true, false, false, false, false, false, false, false, false, false, false, false, false, false, false, false, false, false, false] rfl rfl (one_of HT_.out (by kernel_rfl)) (by decide) (fun K hK => ?_)
                            refine goes_ Try.func15 (by kernel_rfl) rfl #[.agg #[.slice A0_0 l0_0.length c0_0, .slice A0_1 l0_1.length c0_1], .slice A1 l1.length c1] (by rfl) rfl rfl (by (try simp only [List.map_toArray, List.map_cons, List.map_nil]); first | done | rfl | (simp only [List.length_drop, List.length_take]; rfl)) ?_
                            with_reducible refine (member_Reached.calls kj37 _ _ l0_0 _ _ l0_1 _ _ l1 t291 _ ?side1 ?side2 ?side3 ?side4 ?side5 ?side6 A52.out).mono ?_
                            (case side1 => repeat (first | exact (Kd.C_below HR0_0.out HB.out) | (with_reducible refine Kd.C_alloc ?_ _) | (with_reducible refine Kd.C_drewN ?_ _) | (with_reducible refine Kd.C_drew ?_)))
                            (case side2 => exact HC0_0.out)
                            (case side3 => repeat (first | exact (Kd.C_below HR0_1.out HB.out) | (with_reducible refine Kd.C_alloc ?_ _) | (with_reducible refine Kd.C_drewN ?_ _) | (with_reducible refine Kd.C_drew ?_)))
                            (case side4 => exact HC0_1.out)
                            (case side5 => repeat (first | exact (Kd.C_below HR1.out HB.out) | (with_reducible refine Kd.C_alloc ?_ _) | (with_reducible refine Kd.C_drewN ?_ _) | (with_reducible refine Kd.C_drew ?_)))
                            (case side6 => exact HC1.out)
                            rintro e w61 ⟨rfl, hb⟩
                            refine ⟨_, rfl, ?_⟩
                            have n0_ := Aside0.mk (Kd.R_below (by (with_reducible repeat (first | apply Kd.R_alloc | apply Kd.R_drewN | apply Kd.R_drew)); exact HO_280000.out) hb)
                            have n1_ := Aside0.mk (Kd.R_below (by (with_reducible repeat (first | apply Kd.R_alloc | apply Kd.R_drewN | apply Kd.R_drew)); exact HO_280001.out) hb)
                            have n2_ := Aside0.mk (blk_below (g := gb268) (o := .cells #[.slice A0_0 l0_0.length c0_0, .slice A0_1 l0_1.length c0_1] 25 (0, 0)) (by (with_reducible repeat (first | refine blk_drewN ?_ _ | refine blk_drew ?_ | refine blk_alloc ?_ _)); exact BK268.out) hb)
                            have n3_ := Aside0.mk (blk_below (g := gb279) (o := .cells #[.slice Ao21 t272.length co21, .slice Ao24 t275.length co24] 25 (0, 0)) (by (with_reducible repeat (first | refine blk_drewN ?_ _ | refine blk_drew ?_ | refine blk_alloc ?_ _)); exact BK279.out) hb)
                            have n4_ := Aside0.mk (below_step (by repeat (first | (with_reducible first | exact HB.out | apply below_alloc | apply pw_below_drewN | apply below_drew1 | refine below_set ?_ GE268.out | refine below_set ?_ GE279.out) | exact HB.out)) hb)
                            clear HO_280000
                            clear HO_280001
                            clear BK268
                            clear BK279
                            clear HB
                            have HO_280000 := n0_
                            have HO_280001 := n1_
                            have BK268 := n2_
                            have BK279 := n3_
                            have HB := n4_
                            clear n0_ n1_ n2_ n3_ n4_
                            (try clear hb)
                            (try clear hb2)
                            (try clear hk)
                            (try clear hi)
                            refine hK.out _ _ ⟨(blk_cell BK268.out 0).trans rfl, (blk_cell BK268.out 1).trans rfl, (blk_cell BK279.out 0).trans rfl, (blk_cell BK279.out 1).trans rfl⟩ (fun hHeld => ?_)
                            clear hK K
                            refine norm_ (a' := ?_) ?_ ?_
                            rotate_left
                            · show Act.put _ (some 64) _ = _
                              simp only [Act.put, List.setIfInBounds_toArray, List.set_cons_zero, List.set_cons_succ, i64_w, i32_w]
                              rfl
                            refine one_ (i := 13) (N := some 67) #[true, true, true, true, true, true, true, true, true, true, true, true, true, true, false, false, false, false, false, false, false, false, false, false, false, false, false, false, false, false, false] rfl rfl (one_of HT_.out (by kernel_rfl)) (by decide) (fun K hK => ?_)
                            refine goes_ Try.func16 (by kernel_rfl) rfl #[.agg #[.slice Ao21 t272.length co21, .slice Ao24 t275.length co24], .slice A1 l1.length c1] (by rfl) rfl rfl (by (try simp only [List.map_toArray, List.map_cons, List.map_nil]); first | done | rfl | (simp only [List.length_drop, List.length_take]; rfl)) ?_
                            with_reducible refine (folkmootref17_Reached.calls kj37 _ _ t272 _ _ t275 _ _ l1 t292 _ ?side1 ?side2 ?side3 ?side4 ?side5 ?side6 A53.out).mono ?_
                            (case side1 => repeat (first | exact (Kd.R_reads' HO_280000.out).2.2 | (with_reducible refine Kd.C_alloc ?_ _) | (with_reducible refine Kd.C_drewN ?_ _) | (with_reducible refine Kd.C_drew ?_)))
                            (case side2 => exact (Kd.R_reads' HO_280000.out).2.1)
                            (case side3 => repeat (first | exact (Kd.R_reads' HO_280001.out).2.2 | (with_reducible refine Kd.C_alloc ?_ _) | (with_reducible refine Kd.C_drewN ?_ _) | (with_reducible refine Kd.C_drew ?_)))
                            (case side4 => exact (Kd.R_reads' HO_280001.out).2.1)
                            (case side5 => repeat (first | exact (Kd.C_below HR1.out HB.out) | (with_reducible refine Kd.C_alloc ?_ _) | (with_reducible refine Kd.C_drewN ?_ _) | (with_reducible refine Kd.C_drew ?_)))
                            (case side6 => exact HC1.out)
                            rintro e w62 ⟨rfl, hb⟩
                            refine ⟨_, rfl, ?_⟩
                            have n0_ := Aside0.mk (Kd.R_below (by (with_reducible repeat (first | apply Kd.R_alloc | apply Kd.R_drewN | apply Kd.R_drew)); exact HO_280000.out) hb)
                            have n1_ := Aside0.mk (Kd.R_below (by (with_reducible repeat (first | apply Kd.R_alloc | apply Kd.R_drewN | apply Kd.R_drew)); exact HO_280001.out) hb)
                            have n2_ := Aside0.mk (blk_below (g := gb268) (o := .cells #[.slice A0_0 l0_0.length c0_0, .slice A0_1 l0_1.length c0_1] 25 (0, 0)) (by (with_reducible repeat (first | refine blk_drewN ?_ _ | refine blk_drew ?_ | refine blk_alloc ?_ _)); exact BK268.out) hb)
                            have n3_ := Aside0.mk (blk_below (g := gb279) (o := .cells #[.slice Ao21 t272.length co21, .slice Ao24 t275.length co24] 25 (0, 0)) (by (with_reducible repeat (first | refine blk_drewN ?_ _ | refine blk_drew ?_ | refine blk_alloc ?_ _)); exact BK279.out) hb)
                            have n4_ := Aside0.mk (below_step (by repeat (first | (with_reducible first | exact HB.out | apply below_alloc | apply pw_below_drewN | apply below_drew1 | refine below_set ?_ GE268.out | refine below_set ?_ GE279.out) | exact HB.out)) hb)
                            clear HO_280000
                            clear HO_280001
                            clear BK268
                            clear BK279
                            clear HB
                            have HO_280000 := n0_
                            have HO_280001 := n1_
                            have BK268 := n2_
                            have BK279 := n3_
                            have HB := n4_
                            clear n0_ n1_ n2_ n3_ n4_
                            (try clear hb)
                            (try clear hb2)
                            (try clear hk)
                            (try clear hi)
                            refine hK.out _ _ ⟨(blk_cell BK268.out 0).trans rfl, (blk_cell BK268.out 1).trans rfl, (blk_cell BK279.out 0).trans rfl, (blk_cell BK279.out 1).trans rfl⟩ (fun hHeld => ?_)
                            clear hK K
                            refine norm_ (a' := ?_) ?_ ?_
                            rotate_left
                            · show Act.put _ (some 67) _ = _
                              simp only [Act.put, List.setIfInBounds_toArray, List.set_cons_zero, List.set_cons_succ, i64_w, i32_w]
                              rfl
                            refine pure_ (i := 14) (N := some 68) (v := ?_) (a' := ?_) #[true, true, true, true, true, true, true, true, true, true, true, true, true, true, true, false, false, false, false, false, false, false, false, false, false, false, false, false, false, false, false] rfl rfl (any_of HT_.out (by kernel_rfl)) (fun _ _ _ h => h) (Or.inl ⟨by rfl, ?_⟩) ?_ ?_
                            rotate_left
                            · intro w'
                              go_simp
                              with_reducible rfl
                            rotate_left
                            · simp only [Act.put, List.setIfInBounds_toArray, List.set_cons_zero, List.set_cons_succ, i64_w, i32_w]
                              rfl
                            refine pure_ (i := 15) (N := some 69) (v := ?_) (a' := ?_) #[true, true, true, true, true, true, true, true, true, true, true, true, true, true, true, true, false, false, false, false, false, false, false, false, false, false, false, false, false, false, false] rfl rfl (any_of HT_.out (by kernel_rfl)) (fun _ _ _ h => h) (Or.inl ⟨by rfl, ?_⟩) ?_ ?_
                            rotate_left
                            · intro w'
                              go_simp
                              with_reducible rfl
                            rotate_left
                            · simp only [Act.put, List.setIfInBounds_toArray, List.set_cons_zero, List.set_cons_succ, i64_w, i32_w]
                              rfl
                            refine pure_ (i := 16) (N := some 70) (v := ?_) (a' := ?_) #[true, true, true, true, true, true, true, true, true, true, true, true, true, true, true, true, true, false, false, false, false, false, false, false, false, false, false, false, false, false, false] rfl rfl (any_of HT_.out (by kernel_rfl)) (fun _ _ _ h => h) (Or.inl ⟨by rfl, ?_⟩) ?_ ?_
                            rotate_left
                            · intro w'
                              go_simp
                              with_reducible rfl
                            rotate_left
                            · simp only [Act.put, List.setIfInBounds_toArray, List.set_cons_zero, List.set_cons_succ, i64_w, i32_w]
                              rfl
                            refine pure_ (i := 18) (N := some 72) (v := ?_) (a' := ?_) #[true, true, true, true, true, true, true, true, true, true, true, true, true, true, true, true, true, false, true, false, false, false, false, false, false, false, false, false, false, false, false] rfl rfl (any_of HT_.out (by kernel_rfl)) (fun _ _ _ h => h) (Or.inl ⟨by rfl, ?_⟩) ?_ ?_
                            rotate_left
                            · intro w'
                              go_simp
                              with_reducible rfl
                            rotate_left
                            · simp only [Act.put, List.setIfInBounds_toArray, List.set_cons_zero, List.set_cons_succ, i64_w, i32_w]
                              rfl
                            refine pure_ (i := 21) (N := some 75) (v := ?_) (a' := ?_) #[true, true, true, true, true, true, true, true, true, true, true, true, true, true, true, true, true, false, true, false, false, true, false, false, false, false, false, false, false, false, false] rfl rfl (any_of HT_.out (by kernel_rfl)) (fun _ _ _ h => h) (Or.inl ⟨by rfl, ?_⟩) ?_ ?_
                            rotate_left
                            · intro w'
                              go_simp
                              with_reducible rfl
                            rotate_left
                            · simp only [Act.put, List.setIfInBounds_toArray, List.set_cons_zero, List.set_cons_succ, i64_w, i32_w]
                              rfl
                            refine take_ (i := 17) (N := some 71) (v := ?_) (a' := ?_) #[true, true, true, true, true, true, true, true, true, true, true, true, true, true, true, true, true, true, true, false, false, true, false, false, false, false, false, false, false, false, false] rfl rfl (take_ofW HT_.out HW_.out (by kernel_rfl)) (fun _ _ _ h => h) (Or.inl ⟨by rfl, ?_⟩) hHeld ?_ ?_
                            rotate_left
                            · rintro w' ⟨s0, s1, s2, s3⟩
                              go_simp
                              with_reducible rfl
                            rotate_left
                            · simp only [Act.put, List.setIfInBounds_toArray, List.set_cons_zero, List.set_cons_succ, i64_w, i32_w]
                              rfl
                            refine take_ (i := 20) (N := some 74) (v := ?_) (a' := ?_) #[true, true, true, true, true, true, true, true, true, true, true, true, true, true, true, true, true, true, true, false, true, true, false, false, false, false, false, false, false, false, false] rfl rfl (take_ofW HT_.out HW_.out (by kernel_rfl)) (fun _ _ _ h => h) (Or.inl ⟨by rfl, ?_⟩) hHeld ?_ ?_
                            rotate_left
                            · rintro w' ⟨s0, s1, s2, s3⟩
                              go_simp
                              with_reducible rfl
                            rotate_left
                            · simp only [Act.put, List.setIfInBounds_toArray, List.set_cons_zero, List.set_cons_succ, i64_w, i32_w]
                              rfl
                            refine one_ (i := 19) (N := some 73) #[true, true, true, true, true, true, true, true, true, true, true, true, true, true, true, true, true, true, true, true, true, true, false, false, false, false, false, false, false, false, false] rfl rfl (one_of HT_.out (by kernel_rfl)) (by decide) (fun K hK => ?_)
                            refine goes_ Try.func17 (by kernel_rfl) rfl #[.agg #[.slice A0_0 l0_0.length c0_0, .slice A0_1 l0_1.length c0_1], .int .i64 a2] (by rfl) rfl rfl (by (try simp only [List.map_toArray, List.map_cons, List.map_nil]); first | done | rfl | (simp only [List.length_drop, List.length_take]; rfl)) ?_
                            with_reducible refine (member_Voter.calls kj37 _ _ l0_0 _ _ l0_1 a2 t293 _ ?side1 ?side2 ?side3 ?side4 A55.out).mono ?_
                            (case side1 => repeat (first | exact (Kd.C_below HR0_0.out HB.out) | (with_reducible refine Kd.C_alloc ?_ _) | (with_reducible refine Kd.C_drewN ?_ _) | (with_reducible refine Kd.C_drew ?_)))
                            (case side2 => exact HC0_0.out)
                            (case side3 => repeat (first | exact (Kd.C_below HR0_1.out HB.out) | (with_reducible refine Kd.C_alloc ?_ _) | (with_reducible refine Kd.C_drewN ?_ _) | (with_reducible refine Kd.C_drew ?_)))
                            (case side4 => exact HC0_1.out)
                            rintro e w63 ⟨rfl, hb⟩
                            refine ⟨_, rfl, ?_⟩
                            have n0_ := Aside0.mk (Kd.R_below (by (with_reducible repeat (first | apply Kd.R_alloc | apply Kd.R_drewN | apply Kd.R_drew)); exact HO_280000.out) hb)
                            have n1_ := Aside0.mk (Kd.R_below (by (with_reducible repeat (first | apply Kd.R_alloc | apply Kd.R_drewN | apply Kd.R_drew)); exact HO_280001.out) hb)
                            have n2_ := Aside0.mk (blk_below (g := gb268) (o := .cells #[.slice A0_0 l0_0.length c0_0, .slice A0_1 l0_1.length c0_1] 25 (0, 0)) (by (with_reducible repeat (first | refine blk_drewN ?_ _ | refine blk_drew ?_ | refine blk_alloc ?_ _)); exact BK268.out) hb)
                            have n3_ := Aside0.mk (blk_below (g := gb279) (o := .cells #[.slice Ao21 t272.length co21, .slice Ao24 t275.length co24] 25 (0, 0)) (by (with_reducible repeat (first | refine blk_drewN ?_ _ | refine blk_drew ?_ | refine blk_alloc ?_ _)); exact BK279.out) hb)
                            have n4_ := Aside0.mk (below_step (by repeat (first | (with_reducible first | exact HB.out | apply below_alloc | apply pw_below_drewN | apply below_drew1 | refine below_set ?_ GE268.out | refine below_set ?_ GE279.out) | exact HB.out)) hb)
                            clear HO_280000
                            clear HO_280001
                            clear BK268
                            clear BK279
                            clear HB
                            have HO_280000 := n0_
                            have HO_280001 := n1_
                            have BK268 := n2_
                            have BK279 := n3_
                            have HB := n4_
                            clear n0_ n1_ n2_ n3_ n4_
                            (try clear hb)
                            (try clear hb2)
                            (try clear hk)
                            (try clear hi)
                            refine hK.out _ _ ⟨(blk_cell BK268.out 0).trans rfl, (blk_cell BK268.out 1).trans rfl, (blk_cell BK279.out 0).trans rfl, (blk_cell BK279.out 1).trans rfl⟩ (fun hHeld => ?_)
                            clear hK K
                            refine norm_ (a' := ?_) ?_ ?_
                            rotate_left
                            · show Act.put _ (some 73) _ = _
                              simp only [Act.put, List.setIfInBounds_toArray, List.set_cons_zero, List.set_cons_succ, i64_w, i32_w]
                              rfl
                            refine one_ (i := 22) (N := some 76) #[true, true, true, true, true, true, true, true, true, true, true, true, true, true, true, true, true, true, true, true, true, true, true, false, false, false, false, false, false, false, false] rfl rfl (one_of HT_.out (by kernel_rfl)) (by decide) (fun K hK => ?_)
                            refine goes_ Try.func18 (by kernel_rfl) rfl #[.agg #[.slice Ao21 t272.length co21, .slice Ao24 t275.length co24], .int .i64 a2] (by rfl) rfl rfl (by (try simp only [List.map_toArray, List.map_cons, List.map_nil]); first | done | rfl | (simp only [List.length_drop, List.length_take]; rfl)) ?_
                            with_reducible refine (folkmootref17_Voter.calls kj37 _ _ t272 _ _ t275 a2 t294 _ ?side1 ?side2 ?side3 ?side4 A56.out).mono ?_
                            (case side1 => repeat (first | exact (Kd.R_reads' HO_280000.out).2.2 | (with_reducible refine Kd.C_alloc ?_ _) | (with_reducible refine Kd.C_drewN ?_ _) | (with_reducible refine Kd.C_drew ?_)))
                            (case side2 => exact (Kd.R_reads' HO_280000.out).2.1)
                            (case side3 => repeat (first | exact (Kd.R_reads' HO_280001.out).2.2 | (with_reducible refine Kd.C_alloc ?_ _) | (with_reducible refine Kd.C_drewN ?_ _) | (with_reducible refine Kd.C_drew ?_)))
                            (case side4 => exact (Kd.R_reads' HO_280001.out).2.1)
                            rintro e w64 ⟨rfl, hb⟩
                            refine ⟨_, rfl, ?_⟩
                            have n0_ := Aside0.mk (Kd.R_below (by (with_reducible repeat (first | apply Kd.R_alloc | apply Kd.R_drewN | apply Kd.R_drew)); exact HO_280000.out) hb)
                            have n1_ := Aside0.mk (Kd.R_below (by (with_reducible repeat (first | apply Kd.R_alloc | apply Kd.R_drewN | apply Kd.R_drew)); exact HO_280001.out) hb)
                            have n2_ := Aside0.mk (blk_below (g := gb268) (o := .cells #[.slice A0_0 l0_0.length c0_0, .slice A0_1 l0_1.length c0_1] 25 (0, 0)) (by (with_reducible repeat (first | refine blk_drewN ?_ _ | refine blk_drew ?_ | refine blk_alloc ?_ _)); exact BK268.out) hb)
                            have n3_ := Aside0.mk (blk_below (g := gb279) (o := .cells #[.slice Ao21 t272.length co21, .slice Ao24 t275.length co24] 25 (0, 0)) (by (with_reducible repeat (first | refine blk_drewN ?_ _ | refine blk_drew ?_ | refine blk_alloc ?_ _)); exact BK279.out) hb)
                            have n4_ := Aside0.mk (below_step (by repeat (first | (with_reducible first | exact HB.out | apply below_alloc | apply pw_below_drewN | apply below_drew1 | refine below_set ?_ GE268.out | refine below_set ?_ GE279.out) | exact HB.out)) hb)
                            clear HO_280000
                            clear HO_280001
                            clear BK268
                            clear BK279
                            clear HB
                            have HO_280000 := n0_
                            have HO_280001 := n1_
                            have BK268 := n2_
                            have BK279 := n3_
                            have HB := n4_
                            clear n0_ n1_ n2_ n3_ n4_
                            (try clear hb)
                            (try clear hb2)
                            (try clear hk)
                            (try clear hi)
                            refine hK.out _ _ ⟨(blk_cell BK268.out 0).trans rfl, (blk_cell BK268.out 1).trans rfl, (blk_cell BK279.out 0).trans rfl, (blk_cell BK279.out 1).trans rfl⟩ (fun hHeld => ?_)
                            clear hK K
                            refine norm_ (a' := ?_) ?_ ?_
                            rotate_left
                            · show Act.put _ (some 76) _ = _
                              simp only [Act.put, List.setIfInBounds_toArray, List.set_cons_zero, List.set_cons_succ, i64_w, i32_w]
                              rfl
                            refine pure_ (i := 23) (N := some 77) (v := ?_) (a' := ?_) #[true, true, true, true, true, true, true, true, true, true, true, true, true, true, true, true, true, true, true, true, true, true, true, true, false, false, false, false, false, false, false] rfl rfl (any_of HT_.out (by kernel_rfl)) (fun _ _ _ h => h) (Or.inl ⟨by rfl, ?_⟩) ?_ ?_
                            rotate_left
                            · intro w'
                              go_simp
                              with_reducible rfl
                            rotate_left
                            · simp only [Act.put, List.setIfInBounds_toArray, List.set_cons_zero, List.set_cons_succ, i64_w, i32_w]
                              rfl
                            refine pure_ (i := 24) (N := some 78) (v := ?_) (a' := ?_) #[true, true, true, true, true, true, true, true, true, true, true, true, true, true, true, true, true, true, true, true, true, true, true, true, true, false, false, false, false, false, false] rfl rfl (any_of HT_.out (by kernel_rfl)) (fun _ _ _ h => h) (Or.inl ⟨by rfl, ?_⟩) ?_ ?_
                            rotate_left
                            · intro w'
                              go_simp
                              with_reducible rfl
                            rotate_left
                            · simp only [Act.put, List.setIfInBounds_toArray, List.set_cons_zero, List.set_cons_succ, i64_w, i32_w]
                              rfl
                            refine pure_ (i := 25) (N := some 79) (v := ?_) (a' := ?_) #[true, true, true, true, true, true, true, true, true, true, true, true, true, true, true, true, true, true, true, true, true, true, true, true, true, true, false, false, false, false, false] rfl rfl (any_of HT_.out (by kernel_rfl)) (fun _ _ _ h => h) (Or.inl ⟨by rfl, ?_⟩) ?_ ?_
                            rotate_left
                            · intro w'
                              go_simp
                              with_reducible rfl
                            rotate_left
                            · simp only [Act.put, List.setIfInBounds_toArray, List.set_cons_zero, List.set_cons_succ, i64_w, i32_w]
                              rfl
                            refine take_ (i := 26) (N := some 80) (v := ?_) (a' := ?_) #[true, true, true, true, true, true, true, true, true, true, true, true, true, true, true, true, true, true, true, true, true, true, true, true, true, true, true, false, false, false, false] rfl rfl (take_ofW HT_.out HW_.out (by kernel_rfl)) (fun _ _ _ h => h) (Or.inl ⟨by rfl, ?_⟩) hHeld ?_ ?_
                            rotate_left
                            · rintro w' ⟨s0, s1, s2, s3⟩
                              go_simp
                              with_reducible rfl
                            rotate_left
                            · simp only [Act.put, List.setIfInBounds_toArray, List.set_cons_zero, List.set_cons_succ, i64_w, i32_w]
                              rfl
                            refine take_ (i := 27) (N := some 81) (v := ?_) (a' := ?_) #[true, true, true, true, true, true, true, true, true, true, true, true, true, true, true, true, true, true, true, true, true, true, true, true, true, true, true, true, false, false, false] rfl rfl (take_ofW HT_.out HW_.out (by kernel_rfl)) (fun _ _ _ h => h) (Or.inl ⟨by rfl, ?_⟩) hHeld ?_ ?_
                            rotate_left
                            · rintro w' ⟨s0, s1, s2, s3⟩
                              go_simp
                              with_reducible rfl
                            rotate_left
                            · simp only [Act.put, List.setIfInBounds_toArray, List.set_cons_zero, List.set_cons_succ, i64_w, i32_w]
                              rfl
                            refine one_ (i := 28) (N := some 82) #[true, true, true, true, true, true, true, true, true, true, true, true, true, true, true, true, true, true, true, true, true, true, true, true, true, true, true, true, true, false, false] rfl rfl (one_of HT_.out (by kernel_rfl)) (by decide) (fun K hK => ?_)
                            refine goes_ Try.func19 (by kernel_rfl) rfl #[.agg #[.slice A0_0 l0_0.length c0_0, .slice A0_1 l0_1.length c0_1], .agg #[.slice Ao21 t272.length co21, .slice Ao24 t275.length co24]] (by rfl) rfl rfl (by (try simp only [List.map_toArray, List.map_cons, List.map_nil]); first | done | rfl | (simp only [List.length_drop, List.length_take]; rfl)) ?_
                            with_reducible refine (folkmootref15_Configs.calls kj37 _ _ l0_0 _ _ l0_1 _ _ t272 _ _ t275 t295 _ ?side1 ?side2 ?side3 ?side4 ?side5 ?side6 ?side7 ?side8 A58.out).mono ?_
                            (case side1 => repeat (first | exact (Kd.C_below HR0_0.out HB.out) | (with_reducible refine Kd.C_alloc ?_ _) | (with_reducible refine Kd.C_drewN ?_ _) | (with_reducible refine Kd.C_drew ?_)))
                            (case side2 => exact HC0_0.out)
                            (case side3 => repeat (first | exact (Kd.C_below HR0_1.out HB.out) | (with_reducible refine Kd.C_alloc ?_ _) | (with_reducible refine Kd.C_drewN ?_ _) | (with_reducible refine Kd.C_drew ?_)))
                            (case side4 => exact HC0_1.out)
                            (case side5 => repeat (first | exact (Kd.R_reads' HO_280000.out).2.2 | (with_reducible refine Kd.C_alloc ?_ _) | (with_reducible refine Kd.C_drewN ?_ _) | (with_reducible refine Kd.C_drew ?_)))
                            (case side6 => exact (Kd.R_reads' HO_280000.out).2.1)
                            (case side7 => repeat (first | exact (Kd.R_reads' HO_280001.out).2.2 | (with_reducible refine Kd.C_alloc ?_ _) | (with_reducible refine Kd.C_drewN ?_ _) | (with_reducible refine Kd.C_drew ?_)))
                            (case side8 => exact (Kd.R_reads' HO_280001.out).2.1)
                            rintro e w65 ⟨rfl, hb⟩
                            refine ⟨_, rfl, ?_⟩
                            have n0_ := Aside0.mk (Kd.R_below (by (with_reducible repeat (first | apply Kd.R_alloc | apply Kd.R_drewN | apply Kd.R_drew)); exact HO_280000.out) hb)
                            have n1_ := Aside0.mk (Kd.R_below (by (with_reducible repeat (first | apply Kd.R_alloc | apply Kd.R_drewN | apply Kd.R_drew)); exact HO_280001.out) hb)
                            have n2_ := Aside0.mk (blk_below (g := gb268) (o := .cells #[.slice A0_0 l0_0.length c0_0, .slice A0_1 l0_1.length c0_1] 25 (0, 0)) (by (with_reducible repeat (first | refine blk_drewN ?_ _ | refine blk_drew ?_ | refine blk_alloc ?_ _)); exact BK268.out) hb)
                            have n3_ := Aside0.mk (blk_below (g := gb279) (o := .cells #[.slice Ao21 t272.length co21, .slice Ao24 t275.length co24] 25 (0, 0)) (by (with_reducible repeat (first | refine blk_drewN ?_ _ | refine blk_drew ?_ | refine blk_alloc ?_ _)); exact BK279.out) hb)
                            have n4_ := Aside0.mk (below_step (by repeat (first | (with_reducible first | exact HB.out | apply below_alloc | apply pw_below_drewN | apply below_drew1 | refine below_set ?_ GE268.out | refine below_set ?_ GE279.out) | exact HB.out)) hb)
                            clear HO_280000
                            clear HO_280001
                            clear BK268
                            clear BK279
                            clear HB
                            have HO_280000 := n0_
                            have HO_280001 := n1_
                            have BK268 := n2_
                            have BK279 := n3_
                            have HB := n4_
                            clear n0_ n1_ n2_ n3_ n4_
                            (try clear hb)
                            (try clear hb2)
                            (try clear hk)
                            (try clear hi)
                            refine hK.out _ _ ⟨(blk_cell BK268.out 0).trans rfl, (blk_cell BK268.out 1).trans rfl, (blk_cell BK279.out 0).trans rfl, (blk_cell BK279.out 1).trans rfl⟩ (fun hHeld => ?_)
                            clear hK K
                            refine norm_ (a' := ?_) ?_ ?_
                            rotate_left
                            · show Act.put _ (some 82) _ = _
                              simp only [Act.put, List.setIfInBounds_toArray, List.set_cons_zero, List.set_cons_succ, i64_w, i32_w]
                              rfl
                            refine pure_ (i := 29) (N := some 83) (v := ?_) (a' := ?_) #[true, true, true, true, true, true, true, true, true, true, true, true, true, true, true, true, true, true, true, true, true, true, true, true, true, true, true, true, true, true, false] rfl rfl (any_of HT_.out (by kernel_rfl)) (fun _ _ _ h => h) (Or.inl ⟨by rfl, ?_⟩) ?_ ?_
                            rotate_left
                            · intro w'
                              go_simp
                              with_reducible rfl
                            rotate_left
                            · simp only [Act.put, List.setIfInBounds_toArray, List.set_cons_zero, List.set_cons_succ, i64_w, i32_w]
                              rfl
                            refine pure_ (i := 30) (N := some 6) (v := ?_) (a' := ?_) #[true, true, true, true, true, true, true, true, true, true, true, true, true, true, true, true, true, true, true, true, true, true, true, true, true, true, true, true, true, true, true] rfl rfl (any_of HT_.out (by kernel_rfl)) (fun _ _ _ h => h) (Or.inl ⟨by rfl, ?_⟩) ?_ ?_
                            rotate_left
                            · intro w'
                              go_simp
                              with_reducible rfl
                            rotate_left
                            · simp only [Act.put, List.setIfInBounds_toArray, List.set_cons_zero, List.set_cons_succ, i64_w, i32_w]
                              rfl
                            refine done_ (done_of HT_.out (by kernel_rfl)) ?_
                            try go_wp2
                            go_ret
                            exact ⟨by first | rfl | (simp [errW_none, errW_some] <;> rfl) | (simp [*, errW_none, errW_some] <;> rfl), by repeat (first | (with_reducible first | exact HB.out | apply below_alloc | apply pw_below_drewN | apply below_drew1 | refine below_set ?_ GE268.out | refine below_set ?_ GE279.out) | exact HB.out)⟩
                          · rw [if_neg c57] at H
                            exact absurd H (by simp)
                        · rw [if_neg c54] at H
                          exact absurd H (by simp)
                      · replace c51 := Bool.eq_false_iff.mpr c51
                        subst c51
                        have H1 : (none) = some r := by rw [if_neg (show ¬ (false = true) by decide)] at H; exact H
                        clear H
                        have H := H1
                        clear H1
                        exact absurd H (by simp)
                    · replace c50 := Bool.eq_false_iff.mpr c50
                      subst c50
                      have H1 : (none) = some r := by rw [if_neg (show ¬ (false = true) by decide)] at H; exact H
                      clear H
                      have H := H1
                      clear H1
                      exact absurd H (by simp)
                  · replace c49 := Bool.eq_false_iff.mpr c49
                    subst c49
                    have H1 : (none) = some r := by rw [if_neg (show ¬ (false = true) by decide)] at H; exact H
                    clear H
                    have H := H1
                    clear H1
                    exact absurd H (by simp)

end Go.Proofs.Ytjoogjcbamnnbaa.Q
