/- The law LeaseTakes' walk. -/
import Derived.Test.YtmoahkdadeiahaaLeaseSame
import Derived.Test.YtmoahkdadeiahaaLeaseTakeM
import Derived.Deep.Cut
import Derived.Test.YtmoahkdadeiahaaT2
import Derived.Test.YtmoahkdadeiahaaT5
import Derived.Test.YtmoahkdadeiahaaT6
import Derived.Test.YtmoahkdadeiahaaT8
namespace Go.Proofs.Ytmoahkdadeiahaa.LeaseQ
open Go.RowKit Go.Proofs.Ytmoahkdadeiahaa.T Go.Proofs.Ytmoahkdadeiahaa.Hold Go.Proofs.Ytmoahkdadeiahaa.Blk Go.Proofs.YtmoahkdadeiahaaW.PrintWords Go.Proofs.YtmoahkdadeiahaaW.PrintLast Go.Proofs.YtmoahkdadeiahaaW.PrintMore
set_option linter.unusedVariables false
set_option linter.unusedSimpArgs false
set_option maxHeartbeats 8000000 in
set_option maxRecDepth 100000 in
theorem leaseTakes_any (w : World) (a0 a1 a2 : Int) (A : Option Addr) (c : Nat) (l : List Sn) (a4 a5 ask seq : Int) (hr : Kd.C k59 w A l.length l) (hc : l.length ≤ c) :
    Calls Try.prog 7 #[.agg #[.int .i64 a0, .int .i64 a1, .int .i64 a2, .slice A l.length c, .int .i64 a4, .int .i64 a5], .int .i64 ask, .int .i64 seq] w fun e w' => e = .returned (.bool true) ∧ Below w.heap.size w w' := by
  obtain ⟨W0, hW0⟩ : ∃ W0, W0 = w.alloc (.cells #[.int .i64 a0, .int .i64 a1, .int .i64 a2, .slice A l.length c, .int .i64 a4, .int .i64 a5] 29) := ⟨_, rfl⟩
  have EW := Aside0.mk hW0
  have HB0 : Aside0 (Below w.heap.size w W0) := ⟨by rw [hW0]; exact below_alloc (Below.refl _ _) _⟩
  have HX0 : Aside0 (W0.heap[w.heap.size]? = some (.cells #[.int .i64 a0, .int .i64 a1, .int .i64 a2, .slice A l.length c, .int .i64 a4, .int .i64 a5] 29 (0, 0))) := ⟨by rw [hW0]; exact blk_new w _⟩
  have HR := Aside0.mk hr
  have HC := Aside0.mk hc
  clear hW0 hr hc
  by_cases hn : 1000 < l.length
  · go_enter Try.func7, Try.ntmps7
    go_wp2
    go_ret
    exact ⟨rfl, by rw [← EW.out]; exact HB0.out⟩
  · have hn' : l.length ≤ 1000 := by omega
    clear hn
    obtain ⟨⟨r1, r2, r3, r4, r5, r6, r7, r8⟩, FL, FR, HL⟩ := take_both a0 a1 a2 l a4 a5 ask seq (by omega) 5000 (Nat.le_refl _)
    obtain ⟨⟨s1, s2, s3, s4, s5, s6, s7⟩, GL, GR, HM⟩ := again_both a0 a1 a2 l a4 a5 (by omega) 5000 (Nat.le_refl _)
    simp only at HL HM
    replace FL := Aside0.mk FL
    replace FR := Aside0.mk FR
    replace GL := Aside0.mk GL
    replace GR := Aside0.mk GR
    have FO := Aside0.mk (own_r a0 a1 a2 l a4 a5 (by omega))
    go_enter Try.func7, Try.ntmps7
    go_wp2_with fail
    rw [← EW.out]
    refine (folkmootref20_Own.calls a0 a1 a2 A c l a4 a5 _ _ _ _ _ _ W0 (Kd.C_below HR.out HB0.out) HC.out FO.out).mono ?_
    rintro e w1 ⟨v1, rfl, hO, hb1⟩
    obtain ⟨A1, c1, rfl, hc1, _⟩ := Kd.R_reads hO
    have HO := Aside0.mk hO
    have HC1 := Aside0.mk hc1
    have HB1 := Aside0.mk (below_then HB0.out HB0.out.size hb1)
    have HX1 := Aside0.mk (blk_below HX0.out hb1)
    clear hO hc1 hb1 HX0 HB0
    go_upto_region 4 with fail
    obtain ⟨w2, hw2⟩ : ∃ w2, w2 = w1.alloc (.cells #[.int .i64 a0, .int .i64 a1, .int .i64 a2, .slice A1 l.length c1, .int .i64 a4, .int .i64 a5] 29) := ⟨_, rfl⟩
    rw [← hw2]
    have hb2 : Below w1.heap.size w1 w2 := by rw [hw2]; exact below_alloc (Below.refl _ _) _
    have hg2 : w2.heap[w1.heap.size]? = some (.cells #[.int .i64 a0, .int .i64 a1, .int .i64 a2, .slice A1 l.length c1, .int .i64 a4, .int .i64 a5] 29 (0, 0)) := by rw [hw2]; exact blk_new w1 _
    clear hw2
    have HO2 : Aside0 (Kd.R k59 59 w2 W0.heap.size (fun k => k < w2.heap.size) (.slice A1 l.length c1) l) := ⟨Kd.R_mono (Kd.R_bound (Kd.R_below HO.out hb2)) (fun k hk => hk.2.2.1)⟩
    have HB2 := Aside0.mk (below_then HB1.out HB1.out.size hb2)
    have HX2 := Aside0.mk (blk_below HX1.out hb2)
    have HG2 := Aside0.mk hg2
    have HZ := Aside0.mk HB2.out.size
    clear hb2 hg2 HO HB1 HX1
    generalize w1.heap.size = G at *
    obtain ⟨x0, x1, x2, x3, x4, x5⟩ := six HX2.out
    go_wp2_with fail
    refine (lease_Take.calls 5000 a0 a1 a2 A c l a4 a5 ask seq _ _ _ _ _ _ _ _ w2 (Kd.C_below HR.out HB2.out) HC.out FL.out).mono ?_
    rintro e w3 ⟨v3, rfl, hQ, hb3⟩
    obtain ⟨A3, c3, rfl, hc3⟩ := Kd.Q_slice hQ
    have HQ3 : Aside0 (Kd.Q k59 59 w3 w2.heap.size (fun k => k < w3.heap.size) (.slice A3 r4.length c3) r4) := ⟨Kd.Q_mono (Kd.Q_bound hQ) (fun k hk => hk.2.2.1)⟩
    have HO3 := Aside0.mk (Kd.R_below HO2.out hb3)
    have HB3 := Aside0.mk (below_then HB2.out HB2.out.size hb3)
    have HX3 := Aside0.mk (blk_below HX2.out hb3)
    have HG3 := Aside0.mk (blk_below HG2.out hb3)
    have HZ23 := Aside0.mk hb3.size
    clear hQ hc3 hb3 HO2 HB2 HX2 HG2 x0 x1 x2 x3 x4 x5
    go_upto_region 5 with fail
    obtain ⟨w4, hw4⟩ : ∃ w4, w4 = w3.alloc (.cells #[.int .i64 r1, .int .i64 r2, .int .i64 r3, .slice A3 r4.length c3, .int .i64 r5, .int .i64 r6] 29) := ⟨_, rfl⟩
    rw [← hw4]
    have hb4 : Below w3.heap.size w3 w4 := by rw [hw4]; exact below_alloc (Below.refl _ _) _
    have hg4 : w4.heap[w3.heap.size]? = some (.cells #[.int .i64 r1, .int .i64 r2, .int .i64 r3, .slice A3 r4.length c3, .int .i64 r5, .int .i64 r6] 29 (0, 0)) := by rw [hw4]; exact blk_new w3 _
    clear hw4
    have HQ4 := Aside0.mk (Kd.Q_below HQ3.out hb4)
    have HO4 := Aside0.mk (Kd.R_below HO3.out hb4)
    have HB4 := Aside0.mk (below_then HB3.out HB3.out.size hb4)
    have HX4 := Aside0.mk (blk_below HX3.out hb4)
    have HG4 := Aside0.mk (blk_below HG3.out hb4)
    have HH4 := Aside0.mk hg4
    have HZ34 := Aside0.mk hb4.size
    clear hb4 hg4 HQ3 HO3 HB3 HX3 HG3
    generalize hG3 : w3.heap.size = G3 at *
    obtain ⟨g0, g1, g2, g3, g4, g5⟩ := six HG4.out
    go_wp2_with fail
    obtain ⟨_, _, hrO⟩ := Kd.R_reads' HO4.out
    refine (folkmootref20_Take.calls 5000 a0 a1 a2 A1 c1 l a4 a5 ask seq r1 r2 r3 r4 r5 r6 r7 r8 w4 hrO HC1.out FR.out).mono ?_
    rintro e w5 ⟨v5, rfl, hR5, hb5⟩
    obtain ⟨A5, c5, rfl, hc5, _⟩ := Kd.R_reads hR5
    have HW5 : Aside0 (Kd.R k59 59 w5 w4.heap.size (fun k => k < w5.heap.size) (.slice A5 r4.length c5) r4) := ⟨Kd.R_mono (Kd.R_bound hR5) (fun k hk => hk.2.2.1)⟩
    have HQ5 := Aside0.mk (Kd.Q_below HQ4.out hb5)
    have HO5 := Aside0.mk (Kd.R_below HO4.out hb5)
    have HB5 := Aside0.mk (below_then HB4.out HB4.out.size hb5)
    have HX5 := Aside0.mk (blk_below HX4.out hb5)
    have HG5 := Aside0.mk (blk_below HG4.out hb5)
    have HH5 := Aside0.mk (blk_below HH4.out hb5)
    have HZ45 := Aside0.mk hb5.size
    clear hR5 hc5 hb5 hrO HQ4 HO4 HB4 HX4 HG4 HH4 g0 g1 g2 g3 g4 g5
    go_upto_region 6 with fail
    obtain ⟨w6, hw6⟩ : ∃ w6, w6 = w5.alloc (.cells #[.int .i64 r1, .int .i64 r2, .int .i64 r3, .slice A5 r4.length c5, .int .i64 r5, .int .i64 r6] 29) := ⟨_, rfl⟩
    rw [← hw6]
    have hb6 : Below w5.heap.size w5 w6 := by rw [hw6]; exact below_alloc (Below.refl _ _) _
    have hg6 : w6.heap[w5.heap.size]? = some (.cells #[.int .i64 r1, .int .i64 r2, .int .i64 r3, .slice A5 r4.length c5, .int .i64 r5, .int .i64 r6] 29 (0, 0)) := by rw [hw6]; exact blk_new w5 _
    clear hw6
    have HQ6 := Aside0.mk (Kd.Q_below HQ5.out hb6)
    have HW6 := Aside0.mk (Kd.R_below HW5.out hb6)
    have HO6 := Aside0.mk (Kd.R_below HO5.out hb6)
    have HB6 := Aside0.mk (below_then HB5.out HB5.out.size hb6)
    have HX6 := Aside0.mk (blk_below HX5.out hb6)
    have HG6 := Aside0.mk (blk_below HG5.out hb6)
    have HH6 := Aside0.mk (blk_below HH5.out hb6)
    have HV6 := Aside0.mk hg6
    have HZ56 := Aside0.mk hb6.size
    clear hb6 hg6 HQ5 HW5 HO5 HB5 HX5 HG5 HH5
    generalize hG5 : w5.heap.size = G5 at *
    obtain ⟨x0, x1, x2, x3, x4, x5⟩ := six HX6.out
    go_wp2_with fail
    refine (lease_Again.calls 5000 a0 a1 a2 A c l a4 a5 s1 s2 s3 s4 s5 s6 s7 w6 (Kd.C_below HR.out HB6.out) HC.out GL.out).mono ?_
    rintro e w7 ⟨v7, rfl, hR7, hb7⟩
    obtain ⟨A7, c7, rfl, hc7, _⟩ := Kd.R_reads hR7
    have HY7 : Aside0 (Kd.R k59 59 w7 w6.heap.size (fun k => w6.heap.size ≤ k ∧ k < w7.heap.size) (.slice A7 s4.length c7) s4) := ⟨Kd.R_mono (Kd.R_bound hR7) (fun k hk => ⟨hk.2.1, hk.2.2.1⟩)⟩
    have HQ7 := Aside0.mk (Kd.Q_below HQ6.out hb7)
    have HW7 := Aside0.mk (Kd.R_below HW6.out hb7)
    have HO7 := Aside0.mk (Kd.R_below HO6.out hb7)
    have HB7 := Aside0.mk (below_then HB6.out HB6.out.size hb7)
    have HX7 := Aside0.mk (blk_below HX6.out hb7)
    have HG7 := Aside0.mk (blk_below HG6.out hb7)
    have HH7 := Aside0.mk (blk_below HH6.out hb7)
    have HV7 := Aside0.mk (blk_below HV6.out hb7)
    have HZ67 := Aside0.mk hb7.size
    clear hR7 hc7 hb7 HQ6 HW6 HO6 HB6 HX6 HG6 HH6 HV6 x0 x1 x2 x3 x4 x5
    go_upto_region 7 with fail
    obtain ⟨w8, hw8⟩ : ∃ w8, w8 = w7.alloc (.cells #[.int .i64 s1, .int .i64 s2, .int .i64 s3, .slice A7 s4.length c7, .int .i64 s5, .int .i64 s6] 29) := ⟨_, rfl⟩
    rw [← hw8]
    have hb8 : Below w7.heap.size w7 w8 := by rw [hw8]; exact below_alloc (Below.refl _ _) _
    have hg8 : w8.heap[w7.heap.size]? = some (.cells #[.int .i64 s1, .int .i64 s2, .int .i64 s3, .slice A7 s4.length c7, .int .i64 s5, .int .i64 s6] 29 (0, 0)) := by rw [hw8]; exact blk_new w7 _
    clear hw8
    have HY8 := Aside0.mk (Kd.R_below HY7.out hb8)
    have HQ8 := Aside0.mk (Kd.Q_below HQ7.out hb8)
    have HW8 := Aside0.mk (Kd.R_below HW7.out hb8)
    have HO8 := Aside0.mk (Kd.R_below HO7.out hb8)
    have HB8 := Aside0.mk (below_then HB7.out HB7.out.size hb8)
    have HX8 := Aside0.mk (blk_below HX7.out hb8)
    have HG8 := Aside0.mk (blk_below HG7.out hb8)
    have HH8 := Aside0.mk (blk_below HH7.out hb8)
    have HV8 := Aside0.mk (blk_below HV7.out hb8)
    have HU8 := Aside0.mk hg8
    have HZ78 := Aside0.mk hb8.size
    clear hb8 hg8 HY7 HQ7 HW7 HO7 HB7 HX7 HG7 HH7 HV7
    generalize hG7 : w7.heap.size = G7 at *
    obtain ⟨g0, g1, g2, g3, g4, g5⟩ := six HG8.out
    go_wp2_with fail
    obtain ⟨_, _, hrO⟩ := Kd.R_reads' HO8.out
    refine (folkmootref20_Again.calls a0 a1 a2 A1 c1 l a4 a5 s1 s2 s3 s4 s5 s6 s7 w8 hrO HC1.out GR.out).mono ?_
    rintro e w9 ⟨v9, rfl, hR9, hb9⟩
    obtain ⟨A9, c9, rfl, hc9, _⟩ := Kd.R_reads hR9
    have HT9 : Aside0 (Kd.R k59 59 w9 w8.heap.size (fun k => w8.heap.size ≤ k ∧ k < w9.heap.size) (.slice A9 s4.length c9) s4) := ⟨Kd.R_mono (Kd.R_bound hR9) (fun k hk => ⟨hk.2.1, hk.2.2.1⟩)⟩
    have HY9 := Aside0.mk (Kd.R_below HY8.out hb9)
    have HQ9 := Aside0.mk (Kd.Q_below HQ8.out hb9)
    have HW9 := Aside0.mk (Kd.R_below HW8.out hb9)
    have HO9 := Aside0.mk (Kd.R_below HO8.out hb9)
    have HB9 := Aside0.mk (below_then HB8.out HB8.out.size hb9)
    have HX9 := Aside0.mk (blk_below HX8.out hb9)
    have HG9 := Aside0.mk (blk_below HG8.out hb9)
    have HH9 := Aside0.mk (blk_below HH8.out hb9)
    have HV9 := Aside0.mk (blk_below HV8.out hb9)
    have HU9 := Aside0.mk (blk_below HU8.out hb9)
    have HZ89 := Aside0.mk hb9.size
    clear hR9 hc9 hb9 hrO HY8 HQ8 HW8 HO8 HB8 HX8 HG8 HH8 HV8 HU8 g0 g1 g2 g3 g4 g5
    go_upto_region 8 with fail
    obtain ⟨w10, hw10⟩ : ∃ w10, w10 = w9.alloc (.cells #[.int .i64 s1, .int .i64 s2, .int .i64 s3, .slice A9 s4.length c9, .int .i64 s5, .int .i64 s6] 29) := ⟨_, rfl⟩
    rw [← hw10]
    have hb10 : Below w9.heap.size w9 w10 := by rw [hw10]; exact below_alloc (Below.refl _ _) _
    have hg10 : w10.heap[w9.heap.size]? = some (.cells #[.int .i64 s1, .int .i64 s2, .int .i64 s3, .slice A9 s4.length c9, .int .i64 s5, .int .i64 s6] 29 (0, 0)) := by rw [hw10]; exact blk_new w9 _
    clear hw10
    have hZ910 := hb10.size
    have HT10 := Aside0.mk (Kd.R_below HT9.out hb10)
    have HY10 := Aside0.mk (Kd.R_below HY9.out hb10)
    have HQ10 := Aside0.mk (Kd.Q_below HQ9.out hb10)
    have HW10 := Aside0.mk (Kd.R_below HW9.out hb10)
    have HO10 := Aside0.mk (Kd.R_below HO9.out hb10)
    have HB10 := Aside0.mk (below_then HB9.out HB9.out.size hb10)
    have HX10 := Aside0.mk (blk_below HX9.out hb10)
    have HG10 := Aside0.mk (blk_below HG9.out hb10)
    have HH10 := Aside0.mk (blk_below HH9.out hb10)
    have HV10 := Aside0.mk (blk_below HV9.out hb10)
    have HU10 := Aside0.mk (blk_below HU9.out hb10)
    have HS10 := Aside0.mk hg10
    have HZ910 := Aside0.mk hZ910
    clear hb10 hg10 hZ910 HT9 HY9 HQ9 HW9 HO9 HB9 HX9 HG9 HH9 HV9 HU9
    generalize hG9 : w9.heap.size = G9 at *
    have HQN : Aside0 (w2.heap.size ≤ w6.heap.size ∧ w6.heap.size ≤ w8.heap.size ∧ G3 ≤ w6.heap.size ∧ w8.heap.size ≤ G9 ∧ w8.heap.size ≤ w10.heap.size) := ⟨by have := HZ23.out; have := HZ34.out; have := HZ45.out; have := HZ56.out; have := HZ67.out; have := HZ78.out; have := HZ89.out; have := HZ910.out; omega⟩
    clear hG3 hG5 hG7 hG9 HZ23 HZ34 HZ45 HZ56 HZ67 HZ78 HZ89 HZ910
    go_wp2_with fail
    refine (folkmootlaw20_good.calls 60 true w10 good_60).mono ?_
    rintro e wa ⟨rfl, hba⟩
    have HTa := Aside0.mk (Kd.R_below HT10.out hba)
    have HYa := Aside0.mk (Kd.R_below HY10.out hba)
    have HQa := Aside0.mk (Kd.Q_below HQ10.out hba)
    obtain ⟨_, hc7, hr7⟩ := Kd.R_reads' (Kd.R_below HW10.out hba)
    have HR7 := Aside0.mk hr7
    have HC7 := Aside0.mk hc7
    have HOa := Aside0.mk (Kd.R_below HO10.out hba)
    have HBa := Aside0.mk (below_then HB10.out HB10.out.size hba)
    have HZa := Aside0.mk hba.size
    have HXa := Aside0.mk (blk_below HX10.out hba)
    have HGa := Aside0.mk (blk_below HG10.out hba)
    have HHa := Aside0.mk (blk_below HH10.out hba)
    have HVa := Aside0.mk (blk_below HV10.out hba)
    have HUa := Aside0.mk (blk_below HU10.out hba)
    have HSa := Aside0.mk (blk_below HS10.out hba)
    clear hba hr7 hc7 HT10 HY10 HQ10 HW10 HO10 HB10 HX10 HG10 HH10 HV10 HU10 HS10
    obtain ⟨x0, x1, x2, x3, x4, x5⟩ := six HXa.out
    obtain ⟨g0, g1, g2, g3, g4, g5⟩ := six HGa.out
    obtain ⟨h0, h1, h2, h3, h4, h5⟩ := six HHa.out
    obtain ⟨v0, v1, v2, v3, v4, v5⟩ := six HVa.out
    have hrr : (r7 == r7) = true := beq_self_eq_true _
    go_wp2_with fail
    have hz2 : w2.heap.size ≤ wa.heap.size := by have := HQN.out; have := HZa.out; omega
    have K3 : Aside0 (∀ w', wa.grownBy w' (A3.map (·.block)) → Below w2.heap.size wa w') := ⟨fun w' hg => (Below.refl _ wa).grown hg hz2 (fun k hk => by
      cases A3 with
      | none => cases hk
      | some a => exact Kd.Q_base HQa.out k (by simpa [Value.ownBlock] using hk))⟩
    have K3b : Aside0 (∀ k, A3.map (·.block) = some k → w2.heap.size ≤ k ∧ k < G3) := ⟨fun k hk => by
      cases A3 with
      | none => cases hk
      | some a => exact ⟨Kd.Q_base HQa.out k (by simpa [Value.ownBlock] using hk), HQa.out.1 k (by simpa [Value.ownBlock] using hk)⟩⟩
    have K3t : Aside0 (∀ (X : Nat) (cs : Array Value), wa.heap[X]? = some (.cells cs 29 (0, 0)) → some X ≠ A3.map (·.block)) := ⟨fun X cs hb e => Kd.Q_ne HQa.out hb (by decide) (by
      cases A3 with
      | none => cases e
      | some a => simpa [Value.ownBlock] using e)⟩
    refine (same_g wa w2.heap.size r1 r2 r3 r5 r6 r8 r4 A3 r4.length c3 _ HQa.out hz2 A5 c5 HR7.out HC7.out a0 a1 a2 a4 a5 l A c A1 c1 (fun w' hg => Kd.C_below HR.out (HBa.out.trans ((K3.out w' hg).mono HZ.out))) HC.out (fun w' hg => (Kd.R_reads' (Kd.R_move HOa.out (fun k hk => (K3.out w' hg).block k hk))).2.2) HC1.out HL (by omega)).mono ?_
    rintro e wb ⟨rfl, hg⟩
    have HBb : Aside0 (Below w.heap.size w wb) := ⟨HBa.out.trans ((K3.out wb hg).mono HZ.out)⟩
    have HYb : Aside0 (Kd.R k59 59 wb w6.heap.size (fun k => w6.heap.size ≤ k ∧ k < G7) (.slice A7 s4.length c7) s4) := ⟨Kd.R_grown HYa.out hg (fun k hk e => by have := K3b.out k e.symm; have := HQN.out; omega)⟩
    have HTb : Aside0 (Kd.R k59 59 wb w8.heap.size (fun k => w8.heap.size ≤ k ∧ k < G9) (.slice A9 s4.length c9) s4) := ⟨Kd.R_grown HTa.out hg (fun k hk e => by have := K3b.out k e.symm; have := HQN.out; omega)⟩
    have HOb : Aside0 (Kd.R k59 59 wb W0.heap.size (fun k => k < w2.heap.size) (.slice A1 l.length c1) l) := ⟨Kd.R_grown HOa.out hg (fun k hk e => by have := K3b.out k e.symm; omega)⟩
    have HZb : Aside0 (w6.heap.size ≤ wb.heap.size) := ⟨by have := hg.size; have := HZa.out; have := HQN.out; omega⟩
    clear x0 x1 x2 x3 x4 x5 g0 g1 g2 g3 g4 g5 h0 h1 h2 h3 h4 h5 v0 v1 v2 v3 v4 v5
    obtain ⟨x0, x1, x2, x3, x4, x5⟩ := six ((hg.block _ (blk_lt HXa.out) (K3t.out _ _ HXa.out)).trans HXa.out)
    obtain ⟨g0, g1, g2, g3, g4, g5⟩ := six ((hg.block _ (blk_lt HGa.out) (K3t.out _ _ HGa.out)).trans HGa.out)
    obtain ⟨u0, u1, u2, u3, u4, u5⟩ := six ((hg.block _ (blk_lt HUa.out) (K3t.out _ _ HUa.out)).trans HUa.out)
    obtain ⟨z0, z1, z2, z3, z4, z5⟩ := six ((hg.block _ (blk_lt HSa.out) (K3t.out _ _ HSa.out)).trans HSa.out)
    obtain ⟨_, hc9, hr9⟩ := Kd.R_reads' HTb.out
    have HR9 := Aside0.mk hr9
    have HC9 := Aside0.mk hc9
    have HQ26 := Aside0.mk HQN.out.1
    clear hg hr9 hc9 K3 K3b K3t HYa HTa HOa HBa hz2 HR7 HC7 HQa HXa HGa HHa HVa HUa HSa HQN
    go_wp2_with fail
    have K7 : Aside0 (∀ w', wb.grownBy w' (A7.map (·.block)) → Below w6.heap.size wb w') := ⟨fun w' hg => (Below.refl _ wb).grown hg HZb.out (fun k hk => by
      cases A7 with
      | none => cases hk
      | some a => exact Kd.R_base HYb.out k (by simpa [Value.ownBlock] using hk))⟩
    have hw6 : w.heap.size ≤ w6.heap.size := Nat.le_trans HZ.out HQ26.out
    refine (same_g wb w6.heap.size s1 s2 s3 s5 s6 s7 s4 A7 s4.length c7 _ (Kd.Q_of_R HYb.out) HZb.out A9 c9 HR9.out HC9.out a0 a1 a2 a4 a5 l A c A1 c1 (fun w' hg => Kd.C_below HR.out (HBb.out.trans ((K7.out w' hg).mono hw6))) HC.out (fun w' hg => (Kd.R_reads' (Kd.R_move HOb.out (fun k hk => (K7.out w' hg).block k (Nat.lt_of_lt_of_le hk HQ26.out)))).2.2) HC1.out HM (by omega)).mono ?_
    rintro e wc ⟨rfl, hg⟩
    have HBc : Aside0 (Below w.heap.size w wc) := ⟨HBb.out.trans ((K7.out wc hg).mono hw6)⟩
    clear hg
    go_wp2
    go_ret
    exact ⟨rfl, HBc.out⟩
end Go.Proofs.Ytmoahkdadeiahaa.LeaseQ
