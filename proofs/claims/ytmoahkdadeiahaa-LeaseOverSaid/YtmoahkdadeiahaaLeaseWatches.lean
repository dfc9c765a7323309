/- The law's watches; and the holder's box, a waits' row, a lease's row in memory. -/
import Derived.Test.YtmoahkdadeiahaaLeaseWatch
import Derived.Test.YtmoahkdadeiahaaLeaseHoldO
import Derived.Test.YtmoahkdadeiahaaLeaseOP
import Derived.Test.YtmoahkdadeiahaaO10
namespace Go.Proofs.Ytmoahkdadeiahaa.AlarmQ
open Go.Shelf Go.Maps Go.RowKit Go.Proofs.YtmoahkdadeiahaaW.PrintWords Go.Proofs.Ytmoahkdadeiahaa.AlarmMath Go.Proofs.Ytmoahkdadeiahaa.Blk Go.Proofs.Ytmoahkdadeiahaa.AlarmP
set_option linter.unusedVariables false
set_option linter.unusedSimpArgs false
theorem addr_add (g i : Nat) : (⟨g, 0, none⟩ : Addr).add i = ⟨g, i, none⟩ := by unfold Addr.add; split <;> simp_all
theorem RowW.at2 {B : Nat} {W : World} {A : Option Addr} {c : Nat} {x : Int × Int} (h : RowW B W (.slice A 1 c) [x]) : At2 W A x := by
  rcases h.2 with ⟨_, hn⟩ | ⟨g, cap, cur, e, _, hh, hc, hm, hs, ht⟩
  · simp at hn
  · injection e with e1 e2 e3
    refine ⟨⟨g, 0, none⟩, e1, fun k hk w' hb => ?_⟩
    subst hk
    have hh' := (hb.block g (blk_lt hh)).trans hh
    simp at ht
    have t0 : cur.toList[0]? = some (.int .i64 x.1) := by
      have := congrArg (fun z : List Value => z[0]?) ht
      simpa using this
    have t1 : cur.toList[1]? = some (.int .i64 x.2) := by
      have := congrArg (fun z : List Value => z[1]?) ht
      simpa using this
    rw [addr_add]
    exact ⟨(blk_cell hh' 0).trans (by simpa using t0), (blk_cell hh' 1).trans (by simpa using t1)⟩
theorem RowW.first {B : Nat} {W : World} {A : Option Addr} {c : Nat} {x : Int × Int} (h : RowW B W (.slice A 1 c) [x]) : ∃ g, A = some ⟨g, 0, none⟩ ∧ ∀ w', Below W.heap.size W w' → w'.cell? ⟨g, 0, none⟩ = some (.int .i64 x.1) ∧ w'.cell? ⟨g, 1, none⟩ = some (.int .i64 x.2) := by
  obtain ⟨ad, e, hc⟩ := h.at2
  rcases h.2 with ⟨_, hn⟩ | ⟨g, cap, cur, e2, _⟩
  · simp at hn
  · injection e2 with e2 _ _
    refine ⟨g, e2, fun w' hb => ?_⟩
    rw [e] at e2
    injection e2 with e2
    subst e2
    have := hc 0 rfl w' hb
    rw [addr_add] at this
    exact this
theorem At2.below {W w : World} {A : Option Addr} {x : Int × Int} (h : At2 W A x) (hb : Below W.heap.size W w) : At2 w A x := by
  obtain ⟨ad, e, hc⟩ := h
  exact ⟨ad, e, fun k hk w' hb' => hc k hk w' (below_then hb hb.size hb')⟩
theorem At3.below {W w : World} {A : Option Addr} {x y z u : Int} (h : At3 W A x y z u) (hb : Below W.heap.size W w) : At3 w A x y z u := by
  obtain ⟨ad, e, hc⟩ := h
  exact ⟨ad, e, fun k hk w' hb' => hc k hk w' (below_then hb hb.size hb')⟩
theorem lease_lit {W w1 : World} {a b c d : Int} (hw : w1 = W.alloc (.cells #[.int .i64 a, .int .i64 b, .int .i64 c, .int .i64 d] 48)) : At3 w1 (some ⟨W.heap.size, 0, none⟩) a b c d := by
  refine ⟨⟨W.heap.size, 0, none⟩, rfl, fun k hk w' hb => ?_⟩
  subst hk
  have h : w1.heap[W.heap.size]? = some (.cells #[.int .i64 a, .int .i64 b, .int .i64 c, .int .i64 d] 48 (0, 0)) := by rw [hw]; exact blk_new W _
  have hh := (hb.block _ (blk_lt h)).trans h
  rw [addr_add]
  exact ⟨(blk_cell hh 0).trans rfl, (blk_cell hh 1).trans rfl, (blk_cell hh 2).trans rfl, (blk_cell hh 3).trans rfl⟩
theorem ints_one (w : World) (A0 A1 : Option Addr) (c0 c1 : Nat) (s : Int) (h0 : Kd.C (Kd.int .i64) w A0 [s].length [s]) (hc0 : [s].length ≤ c0) (h1 : Kd.C (Kd.int .i64) w A1 [s].length [s]) (hc1 : [s].length ≤ c1) :
    Calls Try.prog 40 #[.slice A0 1 c0, .slice A1 1 c1] w fun e w' => e = .returned (.bool true) ∧ ∃ n, w' = w.drewN n := by
  refine (O.folkmootkeep_Ints.calls 3 A0 c0 [s] A1 c1 [s] true w h0 hc0 h1 hc1 ?_).mono ?_
  · unfold O.folkmootkeep_Ints.f
    rw [if_pos rfl]
    simp only [O.folkmootkeep_Ints.l0]
    rw [if_pos (by simp), if_pos (by omega), if_pos (by simp), if_pos trivial, if_neg (by simp [wrap64])]
  · rintro e w' ⟨rfl, n, rfl⟩
    exact ⟨rfl, n, rfl⟩
theorem lit_one (w w1 : World) (s : Int) (hw : w1 = w.alloc (.cells #[.int .i64 s] 3)) : Kd.C (Kd.int .i64) w1 (some ⟨w.heap.size, 0, none⟩) [s].length [s] := by
  refine Kd.C_of_reads (d := (0 : Int)) (h1 := fun _ => rfl) ⟨rfl, by simp, fun _ => ⟨_, rfl, fun j hj => ?_⟩⟩
  obtain rfl : j = 0 := by simp at hj; exact hj
  rw [addr_add, hw]
  exact (blk_cell (blk_new w _) 0).trans rfl
set_option maxHeartbeats 8000000 in
set_option maxRecDepth 100000 in
theorem watches_any (W : World) : Calls Try.prog 27 #[] W fun e w' => e = .returned (.bool true) ∧ Below W.heap.size W w' := by
  go_enter Try.func27, Try.ntmps27
  go_wp2_with fail
  obtain ⟨w1, hw1⟩ : ∃ w1, w1 = W.alloc (.cells #[.int .i64 3, .int .i64 0, .int .i64 0, .int .i64 0] 48) := ⟨_, rfl⟩
  rw [← hw1]
  have HL1 := Aside0.mk (lease_lit hw1)
  have HB1 : Aside0 (Below W.heap.size W w1) := ⟨by rw [hw1]; exact below_alloc (Below.refl _ _) _⟩
  clear hw1
  refine (watch_E w1 none 0 0 3 0 10 0 0 0 _ 1 1 rfl rfl HL1.out (by omega) (by omega) (by omega) (by omega) (by omega)).mono ?_
  rintro e w2 ⟨A2, c2, A3, c3, rfl, hW2, hR2, hb2⟩
  have HW2 := Aside0.mk hW2.at2
  have HL2 := Aside0.mk (HL1.out.below hb2)
  have HBB : Aside0 (W.heap.size ≤ w1.heap.size) := ⟨HB1.out.size⟩
  have HB2 := Aside0.mk (below_then HB1.out HB1.out.size hb2)
  clear hW2 hR2 hb2 HL1 HB1
  go_wp2_with fail
  refine (watch_N w2 A2 c2 1 3 10 45 0 0 0 _ 1 1 rfl HW2.out rfl HL2.out (by omega) (by omega) (by omega) (by omega) (by omega) (by omega)).mono ?_
  rintro e w3 ⟨A4, c4, A5, c5, rfl, hW3, hR3, hb3⟩
  have HW3 := Aside0.mk (HW2.out.below hb3)
  have HL3 := Aside0.mk (HL2.out.below hb3)
  have HW3' := Aside0.mk hW3.at2
  have HB3 := Aside0.mk (below_then HB2.out HB2.out.size hb3)
  clear hW3 hR3 hb3 HW2 HL2 HB2
  go_wp2_with fail
  refine (watch_D w3 A2 c2 1 3 10 46 0 0 0 _ 1 1 rfl HW3.out rfl HL3.out (by omega) (by omega) (by omega) (by omega) (by omega) (by omega)).mono ?_
  rintro e w4 ⟨A6, c6, A7, c7, rfl, hW4, hR4, hb4⟩
  obtain ⟨g4, rfl, hc4⟩ := hW4.first
  have HW4 := Aside0.mk hc4
  clear hc4
  have HR4 := Aside0.mk hR4
  have HB4 := Aside0.mk (below_then HB3.out HB3.out.size hb4)
  clear hW4 hR4 hb4 HW3 HL3 HB3 HW3'
  obtain ⟨w5, hw5⟩ : ∃ w5, w5 = w4.alloc (.cells #[.int .i64 3] 3) := ⟨_, rfl⟩
  have HK5 := Aside0.mk (lit_one w4 w5 3 hw5)
  have hb5 : Below w4.heap.size w4 w5 := by rw [hw5]; exact below_alloc (Below.refl _ _) _
  obtain ⟨hq0, hq1, hq2⟩ := (HR4.out.below hb5).rd'
  have HQ1 := Aside0.mk hq1
  have HQ2 := Aside0.mk hq2
  have HB5 : Aside0 (Below W.heap.size W w5) := ⟨HB4.out.trans (hb5.mono (Nat.le_trans HB4.out.size (Nat.le_refl _)))⟩
  have H45 := Aside0.mk hb5
  clear hq0 hq1 hq2 hb5 HR4 HB4
  go_wp2_with fail
  rw [← hw5]
  clear hw5
  refine (ints_one w5 A7 _ c7 1 3 HQ2.out HQ1.out HK5.out (by simp)).mono ?_
  rintro e w6 ⟨rfl, n6, hw6⟩
  have HB6 : Aside0 (Below W.heap.size W w6) := ⟨by rw [hw6]; exact pw_below_drewN HB5.out _⟩
  obtain ⟨z0, z1⟩ := HW4.out w6 (by rw [hw6]; exact pw_below_drewN H45.out _)
  clear hw6
  go_wp2
  go_ret
  exact ⟨rfl, HB6.out⟩
end Go.Proofs.Ytmoahkdadeiahaa.AlarmQ
