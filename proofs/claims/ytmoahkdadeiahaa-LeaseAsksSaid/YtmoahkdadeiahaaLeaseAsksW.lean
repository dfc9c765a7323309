/- The law LeaseAsks' walk. -/
import Derived.Test.YtmoahkdadeiahaaLeaseSame
import Derived.Deep.Cut
import Derived.Test.YtmoahkdadeiahaaA2
import Derived.Test.YtmoahkdadeiahaaA4
import Derived.Test.YtmoahkdadeiahaaA6
import Derived.Test.YtmoahkdadeiahaaA8
namespace Go.Proofs.Ytmoahkdadeiahaa.LeaseQ
open Go.RowKit Go.Proofs.Ytmoahkdadeiahaa.A Go.Proofs.Ytmoahkdadeiahaa.Hold Go.Proofs.Ytmoahkdadeiahaa.Blk Go.Proofs.YtmoahkdadeiahaaW.PrintWords Go.Proofs.YtmoahkdadeiahaaW.PrintLast Go.Proofs.YtmoahkdadeiahaaW.PrintMore
set_option linter.unusedVariables false
set_option linter.unusedSimpArgs false
def askL (now ask : Int) (l : List Sn) : List Sn := (l ++ [(⟨wrap64 (ask + 1), now⟩ : Sn)]).drop (l.length + 1 - 16)
def askT (node now ask : Int) (l : List Sn) (seq at_ : Int) : Int × Int × Int × List Sn × Int × Int × Int × Int :=
  if right node now ask l seq at_ = true then (if ask ≥ 1000000000 then (0, 0, 0, [], 0, 0, 0, 2) else (node, now, wrap64 (ask + 1), askL now ask l, seq, at_, wrap64 (ask + 1), 0)) else (0, 0, 0, [], 0, 0, 0, 1)
theorem askT_len (node now ask : Int) (l : List Sn) (seq at_ : Int) (hl : l.length ≤ 1400) : (askT node now ask l seq at_).2.2.2.1.length ≤ 2000 := by
  unfold askT
  split
  · split
    · simp
    · show (askL now ask l).length ≤ 2000
      unfold askL; simp; omega
  · simp
theorem right_16 {node now ask : Int} {l : List Sn} {seq at_ : Int} (h : right node now ask l seq at_ = true) : l.length ≤ 16 := by
  unfold right headOK at h
  simp only [Bool.and_eq_true, decide_eq_true_eq] at h
  exact h.1.2.2.2.2.2.2
theorem ask_l (node now ask : Int) (l : List Sn) (seq at_ : Int) (hl : l.length ≤ 1400) (K : Nat) (hK : 3000 ≤ K) : lease_Ask.f K node now ask l seq at_ = some (askT node now ask l seq at_) := by
  unfold lease_Ask.f askT
  rw [check_f node now ask l seq at_ (by omega) K hK]
  simp only [Option.bind_some]
  by_cases hr : right node now ask l seq at_ = true
  · have h16 := right_16 hr
    rw [if_pos hr, if_pos rfl, if_pos hr]
    by_cases ha : ask ≥ 1000000000
    · rw [if_pos ha, if_pos ha]
    · rw [if_neg ha, if_neg ha, own_l _ _ _ l _ _ (by omega)]
      simp only [Option.bind_some]
      rw [if_pos (by omega)]
      have hlen : (((l ++ [(⟨wrap64 (ask + 1), now⟩ : Sn)]).length : Nat) : Int) = (l.length : Int) + 1 := by simp
      have hm : mx 0 (wrap64 (((l ++ [(⟨wrap64 (ask + 1), now⟩ : Sn)]).length : Int) - 16)) = ((l.length + 1 - 16 : Nat) : Int) := by rw [hlen]; unfold mx wrap64; omega
      rw [hm, if_pos (by omega), if_pos (by rw [hlen]; omega), Int.toNat_natCast]
      rfl
  · rw [if_neg hr, if_neg (by decide), if_neg hr]
theorem ask_r (node now ask : Int) (l : List Sn) (seq at_ : Int) (hl : l.length ≤ 1400) : folkmootref20_Ask.f node now ask l seq at_ = some (askT node now ask l seq at_) := by
  unfold folkmootref20_Ask.f askT
  rw [right_f node now ask l seq at_ hl]
  simp only [Option.bind_some]
  by_cases hr : right node now ask l seq at_ = true
  · have h16 := right_16 hr
    rw [if_pos hr, if_pos hr]
    by_cases ha : ask ≥ 1000000000
    · rw [if_pos ha, if_pos ha]
    · rw [if_neg ha, if_neg ha, own_r _ _ _ l _ _ (by omega)]
      simp only [Option.bind_some]
      rw [if_pos (by omega)]
      have hlen : (((l ++ [(⟨wrap64 (ask + 1), now⟩ : Sn)]).length : Nat) : Int) = (l.length : Int) + 1 := by simp
      unfold askL
      by_cases h : l.length = 16
      · rw [if_pos (by rw [hlen]; omega), if_pos (by rw [hlen]; omega), h]; rfl
      · rw [if_neg (by rw [hlen]; omega), show l.length + 1 - 16 = 0 by omega]; rfl
  · rw [if_neg hr, if_neg hr]
set_option maxHeartbeats 8000000 in
set_option maxRecDepth 100000 in
theorem leaseAsks_any (w : World) (a0 a1 a2 : Int) (A : Option Addr) (c : Nat) (l : List Sn) (a4 a5 : Int) (hr : Kd.C k59 w A l.length l) (hc : l.length ≤ c) :
    Calls Try.prog 6 #[.agg #[.int .i64 a0, .int .i64 a1, .int .i64 a2, .slice A l.length c, .int .i64 a4, .int .i64 a5]] w fun e w' => e = .returned (.bool true) ∧ Below w.heap.size w w' := by
  obtain ⟨W0, hW0⟩ : ∃ W0, W0 = w.alloc (.cells #[.int .i64 a0, .int .i64 a1, .int .i64 a2, .slice A l.length c, .int .i64 a4, .int .i64 a5] 29) := ⟨_, rfl⟩
  have EW := Aside0.mk hW0
  have HB0 : Aside0 (Below w.heap.size w W0) := ⟨by rw [hW0]; exact below_alloc (Below.refl _ _) _⟩
  have HX0 : Aside0 (W0.heap[w.heap.size]? = some (.cells #[.int .i64 a0, .int .i64 a1, .int .i64 a2, .slice A l.length c, .int .i64 a4, .int .i64 a5] 29 (0, 0))) := ⟨by rw [hW0]; exact blk_new w _⟩
  have HR := Aside0.mk hr
  have HC := Aside0.mk hc
  clear hW0 hr hc
  by_cases hn : 1000 < l.length
  · go_enter Try.func6, Try.ntmps6
    go_wp2
    go_ret
    exact ⟨rfl, by rw [← EW.out]; exact HB0.out⟩
  · have hn' : l.length ≤ 1000 := by omega
    clear hn
    have HL := askT_len a0 a1 a2 l a4 a5 (by omega)
    have FL := Aside0.mk (ask_l a0 a1 a2 l a4 a5 (by omega) 3000 (Nat.le_refl _))
    have FR := Aside0.mk (ask_r a0 a1 a2 l a4 a5 (by omega))
    have FO := Aside0.mk (own_r a0 a1 a2 l a4 a5 (by omega))
    generalize askT a0 a1 a2 l a4 a5 = T at FL FR HL
    obtain ⟨r1, r2, r3, r4, r5, r6, r7, r8⟩ := T
    simp only at HL
    go_enter Try.func6, Try.ntmps6
    go_wp2_with fail
    rw [← EW.out]
    refine (folkmootref20_Own.calls a0 a1 a2 A c l a4 a5 _ _ _ _ _ _ W0 (Kd.C_below HR.out HB0.out) HC.out FO.out).mono ?_
    rintro e w1 ⟨v1, rfl, hO, hb1⟩
    obtain ⟨A1, c1, rfl, hc1, _⟩ := Kd.R_reads hO
    have HO := Aside0.mk hO
    have HC1 := Aside0.mk hc1
    have HB1 := Aside0.mk (below_then HB0.out HB0.out.size hb1)
    have HX1 := Aside0.mk (blk_below HX0.out hb1)
    have HZ0 := Aside0.mk HB0.out.size
    clear hO hc1 hb1 HX0 HB0
    go_upto_region 4 with fail
    obtain ⟨w2, hw2⟩ : ∃ w2, w2 = w1.alloc (.cells #[.int .i64 a0, .int .i64 a1, .int .i64 a2, .slice A1 l.length c1, .int .i64 a4, .int .i64 a5] 29) := ⟨_, rfl⟩
    rw [← hw2]
    have hb2 : Below w1.heap.size w1 w2 := by rw [hw2]; exact below_alloc (Below.refl _ _) _
    have hg2 : w2.heap[w1.heap.size]? = some (.cells #[.int .i64 a0, .int .i64 a1, .int .i64 a2, .slice A1 l.length c1, .int .i64 a4, .int .i64 a5] 29 (0, 0)) := by rw [hw2]; exact blk_new w1 _
    clear hw2
    have HO2 : Aside0 (Kd.R k59 59 w2 W0.heap.size (fun k => k < w2.heap.size) (.slice A1 l.length c1) l) := ⟨Kd.R_mono (Kd.R_bound (Kd.R_below HO.out hb2)) (fun k hk => hk.2.2.1)⟩
    have HB2 := Aside0.mk (below_then HB1.out HB1.out.size hb2)
    have HX2 := Aside0.mk (blk_below HX1.out hb2)
    have HG2 := Aside0.mk hg2
    have HO0 := Aside0.mk (Kd.R_base HO.out)
    clear hb2 hg2 HO HB1 HX1
    generalize w1.heap.size = G at *
    obtain ⟨x0, x1, x2, x3, x4, x5⟩ := six HX2.out
    go_wp2_with fail
    refine (lease_Ask.calls 3000 a0 a1 a2 A c l a4 a5 _ _ _ _ _ _ _ _ w2 (Kd.C_below HR.out HB2.out) HC.out FL.out).mono ?_
    rintro e w3 ⟨v3, rfl, hQ, hb3⟩
    obtain ⟨A3, c3, rfl, hc3⟩ := Kd.Q_slice hQ
    have HQ3 := Aside0.mk hQ
    have HO3 := Aside0.mk (Kd.R_below HO2.out hb3)
    have HB3 := Aside0.mk (below_then HB2.out HB2.out.size hb3)
    have HX3 := Aside0.mk (blk_below HX2.out hb3)
    have HG3 := Aside0.mk (blk_below HG2.out hb3)
    have HZ2 := Aside0.mk (blk_lt HG2.out)
    have HB2z := Aside0.mk HB2.out.size
    have HZ3 := Aside0.mk hb3.size
    have HOl := Aside0.mk (Kd.R_lt HO2.out)
    clear hQ hc3 hb3 HO2 HB2 HX2 HG2 x0 x1 x2 x3 x4 x5
    go_upto_region 5 with fail
    obtain ⟨w4, hw4⟩ : ∃ w4, w4 = w3.alloc (.cells #[.int .i64 r1, .int .i64 r2, .int .i64 r3, .slice A3 r4.length c3, .int .i64 r5, .int .i64 r6] 29) := ⟨_, rfl⟩
    rw [← hw4]
    have hb4 : Below w3.heap.size w3 w4 := by rw [hw4]; exact below_alloc (Below.refl _ _) _
    have hg4 : w4.heap[w3.heap.size]? = some (.cells #[.int .i64 r1, .int .i64 r2, .int .i64 r3, .slice A3 r4.length c3, .int .i64 r5, .int .i64 r6] 29 (0, 0)) := by rw [hw4]; exact blk_new w3 _
    clear hw4
    have HQ4 := Aside0.mk (Kd.Q_below HQ3.out hb4)
    have HO4 := Aside0.mk (Kd.R_below HO3.out hb4)
    have HB4 := Aside0.mk (below_then HB3.out HB3.out.size hb4)
    have HX4 := Aside0.mk (blk_below HX3.out hb4)
    have HG4 := Aside0.mk (blk_below HG3.out hb4)
    have HH4 := Aside0.mk hg4
    clear hb4 hg4 HQ3 HO3 HB3 HX3 HG3
    generalize w3.heap.size = G3 at *
    obtain ⟨g0, g1, g2, g3, g4, g5⟩ := six HG4.out
    go_wp2_with fail
    obtain ⟨_, _, hrO⟩ := Kd.R_reads' HO4.out
    refine (folkmootref20_Ask.calls a0 a1 a2 A1 c1 l a4 a5 r1 r2 r3 r4 r5 r6 r7 r8 w4 hrO HC1.out FR.out).mono ?_
    rintro e w5 ⟨v5, rfl, hQ5, hb5⟩
    obtain ⟨A5, c5, rfl, hc5⟩ := Kd.Q_slice hQ5
    have HQ5 := Aside0.mk (Kd.Q_below HQ4.out hb5)
    have HW5 := Aside0.mk hQ5
    have HO5 := Aside0.mk (Kd.R_below HO4.out hb5)
    have HB5 := Aside0.mk (below_then HB4.out HB4.out.size hb5)
    have HX5 := Aside0.mk (blk_below HX4.out hb5)
    have HG5 := Aside0.mk (blk_below HG4.out hb5)
    have HH5 := Aside0.mk (blk_below HH4.out hb5)
    have HZ5 := Aside0.mk (Nat.le_trans HZ3.out (Nat.le_of_lt (Nat.lt_of_lt_of_le (blk_lt HH4.out) hb5.size)))
    clear hQ5 hc5 hb5 hrO HQ4 HO4 HB4 HX4 HG4 HH4 g0 g1 g2 g3 g4 g5
    go_upto_region 6 with fail
    obtain ⟨w6, hw6⟩ : ∃ w6, w6 = w5.alloc (.cells #[.int .i64 r1, .int .i64 r2, .int .i64 r3, .slice A5 r4.length c5, .int .i64 r5, .int .i64 r6] 29) := ⟨_, rfl⟩
    rw [← hw6]
    have hb6 : Below w5.heap.size w5 w6 := by rw [hw6]; exact below_alloc (Below.refl _ _) _
    have hg6 : w6.heap[w5.heap.size]? = some (.cells #[.int .i64 r1, .int .i64 r2, .int .i64 r3, .slice A5 r4.length c5, .int .i64 r5, .int .i64 r6] 29 (0, 0)) := by rw [hw6]; exact blk_new w5 _
    clear hw6
    have HQ6 := Aside0.mk (Kd.Q_below HQ5.out hb6)
    have HW6 := Aside0.mk (Kd.Q_below HW5.out hb6)
    have HO6 := Aside0.mk (Kd.R_below HO5.out hb6)
    have HB6 := Aside0.mk (below_then HB5.out HB5.out.size hb6)
    have HX6 := Aside0.mk (blk_below HX5.out hb6)
    have HG6 := Aside0.mk (blk_below HG5.out hb6)
    have HH6 := Aside0.mk (blk_below HH5.out hb6)
    have HV6 := Aside0.mk hg6
    clear hb6 hg6 HQ5 HW5 HO5 HB5 HX5 HG5 HH5
    generalize w5.heap.size = G5 at *
    go_wp2_with fail
    refine (folkmootlaw20_good.calls 60 true w6 good_60).mono ?_
    rintro e w7 ⟨rfl, hb7⟩
    have HQ7 := Aside0.mk (Kd.Q_below HQ6.out hb7)
    obtain ⟨_, hc7, hr7⟩ := Kd.Q_reads' (Kd.Q_below HW6.out hb7)
    have HR7 := Aside0.mk hr7
    have HC7 := Aside0.mk hc7
    have HO7 := Aside0.mk (Kd.R_below HO6.out hb7)
    have HB7 := Aside0.mk (below_then HB6.out HB6.out.size hb7)
    have HZ7 : Aside0 (w2.heap.size ≤ w7.heap.size) := ⟨Nat.le_trans (Nat.le_of_lt (Nat.lt_of_le_of_lt HZ5.out (blk_lt HV6.out))) hb7.size⟩
    obtain ⟨x0, x1, x2, x3, x4, x5⟩ := six (blk_below HX6.out hb7)
    obtain ⟨g0, g1, g2, g3, g4, g5⟩ := six (blk_below HG6.out hb7)
    obtain ⟨h0, h1, h2, h3, h4, h5⟩ := six (blk_below HH6.out hb7)
    obtain ⟨v0, v1, v2, v3, v4, v5⟩ := six (blk_below HV6.out hb7)
    clear hb7 hr7 hc7 HQ6 HW6 HO6 HB6 HX6 HG6 HH6 HV6
    have hrr : (r7 == r7) = true := beq_self_eq_true _
    go_wp2_with fail
    have hw2 : w.heap.size ≤ w2.heap.size := HB2z.out
    refine (same_q w7 w2.heap.size r1 r2 r3 r5 r6 r8 r4 A3 r4.length c3 _ HQ7.out HZ7.out A5 c5 HR7.out HC7.out a0 a1 a2 a4 a5 l A c A1 c1 (fun w' hb => Kd.C_below HR.out (HB7.out.trans (hb.mono hw2))) HC.out (fun w' hb => (Kd.R_reads' (Kd.R_move HO7.out (fun k hk => hb.block k hk))).2.2) HC1.out HL (by omega)).mono ?_
    rintro e w8 ⟨rfl, hb8⟩
    have HB8 : Aside0 (Below w.heap.size w w8) := ⟨HB7.out.trans (hb8.mono hw2)⟩
    clear hb8
    go_wp2
    go_ret
    exact ⟨rfl, HB8.out⟩
end Go.Proofs.Ytmoahkdadeiahaa.LeaseQ
