-- WRITTEN BY a program of this session's (wip/gprint.py, over the kit's print), with functions given by hand among them. Not trusted: Lean checks it.
import Derived.Test.YtmoahkdadeiahaaO0
import Derived.Test.YtmoahkdadeiahaaO5
import Derived.Test.YtmoahkdadeiahaaO7
import Derived.BigRegion
import Derived.ChangeAlike
import Derived.RegionTactic
namespace Go.Proofs.Ytmoahkdadeiahaa.O
open Go.RowKit Go.Proofs.YtmoahkdadeiahaaW.PrintWords Go.Proofs.YtmoahkdadeiahaaW.PrintLast Go.Proofs.YtmoahkdadeiahaaW.PrintMore
attribute [local go_sem] max2_int min2_int max_two min_two max_three min_three max_four min_four   -- for this text's walks alone
set_option linter.unusedVariables false
set_option linter.unusedSimpArgs false

-- GIVEN imports=Derived.RegionTactic,Derived.ChangeAlike,Derived.BigRegion
/-! ### lease_Take: function 23, given -/
def lease_Take.f (k : Nat) (a0_0 : Int) (a0_1 : Int) (a0_2 : Int) (l0_3 : List (S59)) (a0_4 : Int) (a0_5 : Int) (a1 : Int) (a2 : Int) : Option (Int × Int × Int × (List (S59)) × Int × Int × Bool × Int) :=
  (lease_Check.f k a0_0 a0_1 a0_2 l0_3 a0_4 a0_5).bind fun t => if t = 0 then
    ((lease_own.f a0_0 a0_1 a0_2 l0_3 a0_4 a0_5).bind fun b => (api_Sent_int.f k b.2.2.2.1 a1).bind fun s =>
      if s.2 = true ∧ b.2.2.2.2.1 < a2 ∧ a2 ≤ 1000000000 then (if 0 ≤ s.1 ∧ s.1 < (b.2.2.2.1.length : Int) then some (b.1, b.2.1, b.2.2.1, b.2.2.2.1.drop (s.1.toNat + 1), a2, (rd_T59 b.2.2.2.1 s.1).f1, true, 0) else none)
      else some (b.1, b.2.1, b.2.2.1, b.2.2.2.1, b.2.2.2.2.1, b.2.2.2.2.2, false, 0))
  else some (0, 0, 0, [], 0, 0, false, 1)
theorem lease_Take.mono : ∀ a0 a1 a2 a3 a4 a5 a6 a7 k, LeO (lease_Take.f k a0 a1 a2 a3 a4 a5 a6 a7) (lease_Take.f (k + 1) a0 a1 a2 a3 a4 a5 a6 a7) := by
  intro a0 a1 a2 a3 a4 a5 a6 a7 k
  unfold lease_Take.f
  exact LeO.bind (lease_Check.mono _ _ _ _ _ _ _) (fun _ => LeO.ite (LeO.bind (LeO.refl _) (fun _ => LeO.bind (api_Sent_int.mono _ _ _) (fun _ => LeO.refl _))) (LeO.refl _))
theorem take_box (w : World) (cs : Array Value) (hcs : cs.size = 6) : ∃ W0, W0 = (w.alloc (.cells cs 29)).alloc (.cells #[.int .i64 0, .int .i64 0, .int .i64 0, .slice none 0 0, .int .i64 0, .int .i64 0] 29) ∧ W0.heap[w.heap.size]? = some (.cells cs 29 (0, 0)) ∧ W0.heap[w.heap.size + 1]? = some (.cells #[.int .i64 0, .int .i64 0, .int .i64 0, .slice none 0 0, .int .i64 0, .int .i64 0] 29 (0, 0)) ∧ Below w.heap.size w W0 ∧ W0.heap.size = w.heap.size + 2 := by
  refine ⟨_, rfl, blk_alloc (blk_new w _) _, ?_, below_alloc (below_alloc (Below.refl _ _) _) _, by simp⟩
  have := blk_new (w.alloc (.cells cs 29)) (.cells #[.int .i64 0, .int .i64 0, .int .i64 0, .slice none 0 0, .int .i64 0, .int .i64 0] 29)
  simpa using this
set_option maxHeartbeats 8000000 in
set_option maxRecDepth 100000 in
theorem lease_Take.calls (k : Nat) (a0_0 : Int) (a0_1 : Int) (a0_2 : Int) (A0_3 : Option Addr) (c0_3 : Nat) (l0_3 : List (S59)) (a0_4 : Int) (a0_5 : Int) (a1 : Int) (a2 : Int) (r1 : Int) (r2 : Int) (r3 : Int) (r4 : List (S59)) (r5 : Int) (r6 : Int) (r7 : Bool) (r8 : Int) (w : World) (hr0_3 : Kd.C k59 w A0_3 l0_3.length l0_3) (hc0_3 : l0_3.length ≤ c0_3) (h : lease_Take.f k a0_0 a0_1 a0_2 l0_3 a0_4 a0_5 a1 a2 = some (r1, r2, r3, r4, r5, r6, r7, r8)) :
    Calls Try.prog 23 #[.agg #[.int .i64 a0_0, .int .i64 a0_1, .int .i64 a0_2, .slice A0_3 l0_3.length c0_3, .int .i64 a0_4, .int .i64 a0_5], .int .i64 a1, .int .i64 a2] w fun e w' => ∃ v3_ : Value, e = .returned (.tuple #[.agg #[.int .i64 r1, .int .i64 r2, .int .i64 r3, v3_, .int .i64 r5, .int .i64 r6], .bool r7, .int .i64 r8]) ∧ Kd.Q k59 59 w' w.heap.size (fun _ => True) v3_ r4 ∧ Below w.heap.size w w' := by
  have hu1 := Try.underlying29
  have hu2 := Try.underlying59
  unfold lease_Take.f at h
  obtain ⟨t, hChk, h⟩ := Option.bind_eq_some_iff.1 h
  have HChk := Aside0.mk hChk
  have HR := Aside0.mk hr0_3
  have HC := Aside0.mk hc0_3
  obtain ⟨W0, eW0, b3, b6, hB0, hsz0⟩ := take_box w #[.int .i64 a0_0, .int .i64 a0_1, .int .i64 a0_2, .slice A0_3 l0_3.length c0_3, .int .i64 a0_4, .int .i64 a0_5] rfl
  have EW0 := Aside0.mk eW0
  have B3 := Aside0.mk b3
  have B6 := Aside0.mk b6
  have HB0 := Aside0.mk hB0
  have HS0 := Aside0.mk hsz0
  have HR0 := Aside0.mk (Kd.C_below hr0_3 hB0)
  clear hChk hr0_3 hc0_3 eW0 b3 b6 hB0 hsz0
  go_enter Try.func23, Try.ntmps23
  go_wp2_with fail
  rw [← EW0.out]
  refine (lease_Check.calls k _ _ _ _ _ l0_3 _ _ t _ HR0.out HC.out HChk.out).mono ?_
  rintro e w1 ⟨rfl, hb1⟩
  have B3' := Aside0.mk (blk_below B3.out hb1)
  have B6' := Aside0.mk (blk_below B6.out hb1)
  have HR1 := Aside0.mk (Kd.C_below HR0.out hb1)
  have HB1 := Aside0.mk (below_then HB0.out HB0.out.size hb1)
  clear hb1 B3 B6 HR0 HB0
  obtain ⟨G3, hG3⟩ : ∃ g, g = w.heap.size := ⟨_, rfl⟩
  obtain ⟨G6, hG6⟩ : ∃ g, g = w.heap.size + 1 := ⟨_, rfl⟩
  have H36 := Aside0.mk (show some G3 ≠ some G6 from fun e => by injection e with e; omega)
  have HGE3 := Aside0.mk (show w.heap.size ≤ G3 by omega)
  have HGE6 := Aside0.mk (show w.heap.size ≤ G6 by omega)
  rw [← hG6] at B6' ⊢
  rw [← hG3] at B3' ⊢
  clear hG3 hG6
  by_cases ht : t = 0
  · subst ht
    rw [if_pos rfl] at h
    obtain ⟨⟨b1, b2, b3, bS, b5, b6⟩, hOwn, h⟩ := Option.bind_eq_some_iff.1 h
    obtain ⟨⟨s1, s2⟩, hSr, h⟩ := Option.bind_eq_some_iff.1 h
    simp only at hSr h
    have HOwn := Aside0.mk hOwn
    have HSr := Aside0.mk hSr
    have HH := Aside0.mk h
    clear hOwn hSr h
    go_wp2_with (first | ((with_reducible refine gate_dst (N := 15) rfl ?_); refine wpList_load_row rfl 29 (.tmp 3) rfl _ rfl 29 _ (0, 0) _ B3'.out Try.underlying29 rfl (by kernel_rfl) ?_) | fail)
    refine (lease_own.calls _ _ _ _ _ l0_3 _ _ b1 b2 b3 bS b5 b6 _ HR1.out HC.out HOwn.out).mono ?_
    rintro e w2 ⟨v3, rfl, hO, hb2⟩
    obtain ⟨Av, cv, ev⟩ := Kd.R_slice hO
    subst ev
    have B3a := Aside0.mk (blk_below B3'.out hb2)
    have B6a := Aside0.mk (blk_below B6'.out hb2)
    have HB2 := Aside0.mk (below_then HB1.out HB1.out.size hb2)
    have HO2 := Aside0.mk (Kd.R_types (Kd.R_types (Kd.R_lower hO HB1.out.size) B3a.out (by decide)) B6a.out (by decide))
    clear hO hb2 B3' B6' HR1 HB1
    go_wp2_with (first
      | ((with_reducible refine gate_store (t := 29) (p := 3) rfl ?_); refine Go.Proofs.Ytmoahkdadeiahaa.Blk.store_blk rfl rfl 29 (.tmp 3) (.tmp 16) rfl (#[.int .i64 b1, .int .i64 b2, .int .i64 b3, .slice Av bS.length cv, .int .i64 b5, .int .i64 b6]) rfl rfl rfl B3a.out (by kernel_rfl) rfl (by intro q hq; simp at hq; rcases hq with rfl | rfl | rfl | rfl | rfl | rfl <;> rfl) ?_; intro w3 hb3 hg3; have B3b := Aside0.mk hb3; have B6b := Aside0.mk (blk_grown B6a.out hg3 (Ne.symm H36.out)); have HO3 := Aside0.mk (Kd.R_grown HO2.out hg3 (fun k hk e => by injection e with e; exact hk.1.2 e)); have HB3 := Aside0.mk (HB2.out.grown hg3 HB2.out.size (fun k hk => by injection hk with hk; rw [← hk]; exact HGE3.out)); have c3 : w3.cell? ⟨G3, 3, none⟩ = some (.slice Av bS.length cv) := (blk_cell hb3 3).trans rfl; clear hb3 hg3 B3a B6a HO2 HB2)
      | fail)
    refine (api_Sent_int.calls k _ _ bS a1 s1 s2 _ (Kd.R_reads' HO3.out).2.2 (Kd.R_reads' HO3.out).2.1 HSr.out).mono ?_
    rintro e w4 ⟨rfl, hb4⟩
    have B3c := Aside0.mk (blk_below B3b.out hb4)
    have B6c := Aside0.mk (blk_below B6b.out hb4)
    have HO4 := Aside0.mk (Kd.R_below HO3.out hb4)
    have HB4 := Aside0.mk (below_then HB3.out HB3.out.size hb4)
    have c4 : w4.cell? ⟨G3, 4, none⟩ = some (.int .i64 b5) := (blk_cell B3c.out 4).trans rfl
    clear hb4 B3b B6b HO3 HB3 c3
    by_cases hgo : s2 = true ∧ b5 < a2 ∧ a2 ≤ 1000000000
    · have hh := HH.out
      rw [if_pos hgo] at hh
      split at hh
      · rename_i hrange
        obtain ⟨hr1, hr2⟩ := hrange
        simp only [Option.some.injEq, Prod.mk.injEq] at hh
        obtain ⟨rfl, rfl, rfl, rfl, rfl, rfl, rfl, rfl⟩ := hh
        obtain ⟨g1, g2, g3⟩ := hgo
        subst g1
        have d1 : decide (a2 ≤ b5) = false := decide_eq_false (by omega)
        have d2 : decide (1000000000 < a2) = false := decide_eq_false (by omega)
        have hlen : 0 < bS.length := by omega
        obtain ⟨gS, capS, eS, hgS, hgS2, cellsS, hbS⟩ := Kd.R_form HO4.out hlen
        injection eS with eA _ eC
        subst eA; subst eC
        have hCC := (Kd.R_reads' HO4.out).2.2
        obtain ⟨ad, ead, he0, he1⟩ := at_T59 hCC s1 hr1 hr2
        injection ead with ead
        subst ead
        obtain ⟨ix, hix⟩ : ∃ ix : Nat, s1 = ix := ⟨s1.toNat, by omega⟩
        subst hix
        have hix2 : ix < bS.length := by omega
        have hlm : bS.length ≤ 9223372036854775807 := Kd.C_max hCC
        rw [add_plain] at he0 he1
        simp only [Int.toNat_natCast] at he0 he1
        have c3 : w4.cell? ⟨G3, 3, none⟩ = some (.slice (some ⟨gS, 0, none⟩) bS.length cv) := (blk_cell B3c.out 3).trans rfl
        have c5 : w4.cell? ⟨G3, 5, none⟩ = some (.int .i64 b6) := (blk_cell B3c.out 5).trans rfl
        have f3 : w4.frozen? ⟨G3, 3, none⟩ = false := blk_frozen B3c.out 3
        have f4 : w4.frozen? ⟨G3, 4, none⟩ = false := blk_frozen B3c.out 4
        have f5 : w4.frozen? ⟨G3, 5, none⟩ = false := blk_frozen B3c.out 5
        obtain ⟨i0, hi, hz0, hz1, hz2⟩ := info_parts (show (Try.prog.info? 59).map (fun i => (i.zero, i.size, i.bytes)) = some (some (.agg #[.int .i64 0, .int .i64 0]), 2, 16) by kernel_rfl)
        have hcut := cut_from (P := Try.prog) 27 59 .i64 Try.underlying27 hi 2 hz1 (some ⟨gS, 0, none⟩) bS.length cv ((ix : Int) + 1) (by omega) (by omega)
        have hQ := Kd.Q_drop (k := ((ix : Int) + 1).toNat) (Kd.Q_of_R HO4.out) (by omega)
        have hl2 : (bS.drop ((ix : Int) + 1).toNat).length = bS.length - ((ix : Int) + 1).toNat := List.length_drop
        rw [show k59.sz = 2 from rfl] at hQ
        rw [← hl2] at hQ hcut
        generalize (if cv = ((ix : Int) + 1).toNat then some (⟨gS, 0, none⟩ : Addr) else (some (⟨gS, 0, none⟩ : Addr)).map (·.add (((ix : Int) + 1).toNat * 2))) = Ad at hcut hQ
        generalize cv - ((ix : Int) + 1).toNat = cd at hcut hQ
        have HQ := Aside0.mk hQ
        clear hQ hl2 hCC hgS hgS2 hbS cellsS HH HSr
        rw [show ((ix : Int) + 1).toNat = ix + 1 by omega] at hcut HQ
        have HQ' : Aside0 (Kd.Q k59 59 w4 w.heap.size (fun k => (True ∧ k ≠ G3) ∧ k ≠ G6) (.slice Ad (bS.length - (ix + 1)) cd) (bS.drop (ix + 1))) := ⟨by rw [← List.length_drop]; exact HQ.out⟩
        go_wp2
        go_region
        go_wp2_with (first
          | ((with_reducible refine gate_dst (N := 52) rfl ?_); refine wpList_load_row rfl 29 (.tmp 3) rfl _ rfl 29 (#[.int .i64 b1, .int .i64 b2, .int .i64 b3, .slice Ad (bS.length - (ix + 1)) cd, .int .i64 a2, .int .i64 (rd_T59 bS (ix : Int)).f1]) (0, 0) _ (blk_drew (blk_put (blk_put (blk_put B3c.out 4 _ rfl) 5 _ rfl) 3 _ rfl)) Try.underlying29 rfl (by kernel_rfl) ?_)
          | ((with_reducible refine gate_store (t := 29) (p := 6) rfl ?_); refine Go.Proofs.Ytmoahkdadeiahaa.Blk.store_blk rfl rfl 29 (.tmp 6) (.tmp 52) rfl (#[.int .i64 b1, .int .i64 b2, .int .i64 b3, .slice Ad (bS.length - (ix + 1)) cd, .int .i64 a2, .int .i64 (rd_T59 bS (ix : Int)).f1]) rfl rfl rfl (blk_drew (blk_far (blk_far (blk_far B6c.out (fun e => H36.out (by rw [e])) _) (fun e => H36.out (by rw [e])) _) (fun e => H36.out (by rw [e])) _)) (by kernel_rfl) rfl (by intro q hq; simp at hq; rcases hq with rfl | rfl | rfl | rfl | rfl | rfl <;> rfl) ?_; intro w5 hb5 hg5; have B6d := Aside0.mk hb5; have HO5 := Aside0.mk (Kd.Q_grown (Kd.Q_drew (Kd.Q_far (p := ⟨G3, 3, none⟩) (Kd.Q_far (p := ⟨G3, 5, none⟩) (Kd.Q_far (p := ⟨G3, 4, none⟩) HQ'.out (fun _ hk => hk.1.2) _) (fun _ hk => hk.1.2) _) (fun _ hk => hk.1.2) _)) hg5 (fun k hk e => by injection e with e; exact hk.2 e)); have HB5 := Aside0.mk (Below.grown (below_drew (below_set (below_set (below_set HB4.out HGE3.out) HGE3.out) HGE3.out)) hg5 (by have := HB4.out.size; simpa [World.setCell] using this) (fun k hk => by injection hk with hk; rw [← hk]; exact HGE6.out)); clear hb5 hg5))
        refine bodyPost_ret (results_ctt rfl _ _ G6 29 _ (0, 0) _ rfl B6d.out Try.underlying29 rfl (by kernel_rfl)) rfl ?_
        refine ⟨_, rfl, ?_, HB5.out⟩
        exact Kd.Q_mono HO5.out (fun _ _ => trivial)
      · cases hh
    · have hh := HH.out
      rw [if_neg hgo] at hh
      simp only [Option.some.injEq, Prod.mk.injEq] at hh
      obtain ⟨rfl, rfl, rfl, rfl, rfl, rfl, rfl, rfl⟩ := hh
      have D : Aside0 (s2 = false ∨ (s2 = true ∧ decide (a2 ≤ b5) = true) ∨ (s2 = true ∧ decide (a2 ≤ b5) = false ∧ decide (1000000000 < a2) = true)) := ⟨by
        cases s2 with
        | false => exact .inl rfl
        | true =>
          by_cases e1 : a2 ≤ b5
          · exact .inr (.inl ⟨rfl, decide_eq_true e1⟩)
          · exact .inr (.inr ⟨rfl, decide_eq_false e1, decide_eq_true (by
              by_cases e2 : 1000000000 < a2
              · exact e2
              · exact absurd ⟨rfl, by omega, by omega⟩ hgo)⟩)⟩
      clear hgo HH HSr
      rcases D.out with rfl | ⟨rfl, d1⟩ | ⟨rfl, d1, d2⟩
      all_goals
        clear D
        go_wp2_with (first
          | ((with_reducible refine gate_dst (N := 36) rfl ?_); refine wpList_load_row rfl 29 (.tmp 3) rfl _ rfl 29 _ (0, 0) _ B3c.out Try.underlying29 rfl (by kernel_rfl) ?_)
          | ((with_reducible refine gate_store (t := 29) (p := 6) rfl ?_); refine Go.Proofs.Ytmoahkdadeiahaa.Blk.store_blk rfl rfl 29 (.tmp 6) (.tmp 36) rfl (#[.int .i64 b1, .int .i64 b2, .int .i64 b3, .slice Av bS.length cv, .int .i64 b5, .int .i64 b6]) rfl rfl rfl B6c.out (by kernel_rfl) rfl (by intro q hq; simp at hq; rcases hq with rfl | rfl | rfl | rfl | rfl | rfl <;> rfl) ?_; intro w5 hb5 hg5; have B6d := Aside0.mk hb5; have HO5 := Aside0.mk (Kd.R_grown HO4.out hg5 (fun k hk e => by injection e with e; exact hk.2 e)); have HB5 := Aside0.mk (HB4.out.grown hg5 HB4.out.size (fun k hk => by injection hk with hk; rw [← hk]; exact HGE6.out)); clear hb5 hg5))
        refine bodyPost_ret (results_ctt rfl _ _ G6 29 _ (0, 0) _ rfl B6d.out Try.underlying29 rfl (by kernel_rfl)) rfl ?_
        exact ⟨_, rfl, Kd.Q_mono (Kd.Q_of_R HO5.out) (fun _ _ => trivial), HB5.out⟩
  · have htb : (t == 0) = false := beq_eq_false_iff_ne.2 ht
    have htc : (t != 0) = true := bne_iff_ne.2 ht
    rw [if_neg ht] at h
    simp only [Option.some.injEq, Prod.mk.injEq] at h
    obtain ⟨rfl, rfl, rfl, rfl, rfl, rfl, rfl, rfl⟩ := h
    clear ht
    go_wp2_with (first
      | ((with_reducible refine gate_store (t := 29) (p := 6) rfl ?_); refine Go.Proofs.Ytmoahkdadeiahaa.Blk.store_blk rfl rfl 29 (.tmp 6) (.tmp 14) rfl (#[.int .i64 0, .int .i64 0, .int .i64 0, .slice none 0 0, .int .i64 0, .int .i64 0]) rfl rfl rfl B6'.out (by kernel_rfl) rfl (by intro q hq; simp at hq; rcases hq with rfl | rfl | rfl | rfl | rfl | rfl <;> rfl) ?_; intro w5 hb5 hg5; have B6d := Aside0.mk hb5; have HB5 := Aside0.mk (HB1.out.grown hg5 HB1.out.size (fun k hk => by injection hk with hk; rw [← hk]; exact HGE6.out)); clear hb5 hg5))
    refine bodyPost_ret (results_ctt rfl _ _ G6 29 _ (0, 0) _ rfl B6d.out Try.underlying29 rfl (by kernel_rfl)) rfl ?_
    exact ⟨_, rfl, Kd.Q_nil _ _ _ _ _, HB5.out⟩

end Go.Proofs.Ytmoahkdadeiahaa.O
