/- The law AlarmOnce's walk. -/
import Derived.Test.YtimpfiaolblgmaaAlarmAwake
import Derived.Test.YtimpfiaolblgmaaAlarmOP
import Derived.WalkArith
import Derived.IntWalk
namespace Go.Proofs.Ytimpfiaolblgmaa.AlarmQ
open Go.Shelf Go.Maps Go.RowKit Go.Proofs.YtimpfiaolblgmaaW.PrintWords Go.Proofs.Ytimpfiaolblgmaa.AlarmMath Go.Proofs.Ytimpfiaolblgmaa.Blk Go.Proofs.Ytimpfiaolblgmaa.AlarmP
set_option linter.unusedVariables false
set_option linter.unusedSimpArgs false
theorem wfn {k : Nat} (h : k ≤ 100000) : (Lit.int .i64 (k : Int)).wf = true := Go.WalkArith.wf_i64 (by omega)
/-- A row that came in is read at a place. -/
theorem came_at {w w' : World} {A : Option Addr} {xs : List Int} (h : Kd.C (Kd.int .i64) w A xs.length xs) (hb : Below w.heap.size w w') {j : Nat} {x : Int} (hx : xs[j]? = some x) : ∃ ad, A = some ad ∧ w'.cell? (ad.add j) = some (.int .i64 x) := by
  obtain ⟨ad, e, hc⟩ := (Kd.C_below h hb).2.2 (by have := (List.getElem?_eq_some_iff.1 hx).1; omega)
  obtain ⟨cs, h1, h2, h3⟩ := hc j x hx
  refine ⟨ad, e, ?_⟩
  have := h3 0 (.int .i64 x) (by rw [h2]; rfl)
  simpa [show (Kd.int .i64).sz = 1 from rfl] using this
set_option maxHeartbeats 8000000 in
set_option maxRecDepth 100000 in
theorem alarmOnce_any (W : World) (A : Option Addr) (c : Nat) (xs : List Int) (now : Int) (hr : Kd.C (Kd.int .i64) W A xs.length xs) (hc : xs.length ≤ c) (hw : ∀ x ∈ xs, (Lit.int .i64 x).wf = true) :
    Calls Try.prog 4 #[.slice A xs.length c, .int .i64 now] W fun e w' => e = .returned (.bool true) ∧ Below W.heap.size W w' := by
  have HR := Aside0.mk hr
  have HW := Aside0.mk hw
  clear hr hc hw
  by_cases hn : 300 < xs.length
  · go_enter Try.func4, Try.ntmps4
    go_wp2
    go_ret
    exact ⟨rfl, Below.refl _ _⟩
  · have hn' : xs.length ≤ 300 := by omega
    clear hn
    go_enter Try.func4, Try.ntmps4
    go_wp2_with fail
    refine (new_clk W).mono ?_
    rintro e w1 ⟨C, rfl, ⟨S1, hC1, hS1⟩, hb1⟩
    have HC1 := Aside0.mk hC1
    have HS1 := Aside0.mk hS1
    have HB1 := Aside0.mk hb1
    clear hC1 hS1 hb1
    go_wp2_with fail
    go_loopw [6, 7] (fun ve vi wr => ∃ (k : Nat) (l : List Al) (S : Nat → Prop), ve = .int .i64 (cnt (xs.take k) now) ∧ vi = .int .i64 k ∧ k ≤ xs.length ∧ Aside0 (Clk wr S C k l) ∧ Aside0 (∀ s, S s → W.heap.size ≤ s) ∧ Aside0 (l.Perm (enum (xs.take k))) ∧ Aside0 (Below W.heap.size W wr)) (fun _ vi _ => xs.length - (intOf vi).toNat)
    case atStart => exact ⟨0, [], S1, rfl, rfl, by omega, HC1, HS1, ⟨List.Perm.refl _⟩, HB1⟩
    case round =>
      obtain ⟨k, l, S, rfl, rfl, hk, HC, HS, HP, HB⟩ := hrel
      by_cases hlt : k < xs.length
      · obtain ⟨x, hx⟩ : ∃ x, xs[k]? = some x := ⟨_, List.getElem?_eq_getElem hlt⟩
        have HX := Aside0.mk hx
        have wx := Aside0.mk (HW.out x (List.mem_of_getElem? hx))
        obtain ⟨ad, rfl, hcell⟩ := came_at HR.out HB.out hx
        have wk := Aside0.mk (wfn (k := k) (by omega))
        have hcb : cnt (xs.take k) now ≤ 300 := Nat.le_trans (cnt_le _ _) (by simp; omega)
        have HT : Aside0 (xs.take (k + 1) = xs.take k ++ [x]) := ⟨by rw [List.take_add_one, hx]; rfl⟩
        have HCN := Aside0.mk (cnt_snoc (xs.take k) x now)
        have hk' : k < 100000 := by omega
        clear hx
        go_wp2_with fail
        refine (set_clk wr S C k l HC.out k x wk.out wx.out hk').mono ?_
        rintro e w2 ⟨rfl, ⟨S2, hC2, hS2⟩, hF2⟩
        have HC2 := Aside0.mk hC2
        have HS2 : Aside0 (∀ k, S2 k → W.heap.size ≤ k) := ⟨fun k hk => (hS2 k hk).elim (HS.out k) (fun h => Nat.le_trans HB.out.size h)⟩
        have HB2 := Aside0.mk (fr_below HB.out hF2 HS.out)
        have HP2 : Aside0 ((rSet l k x).Perm (enum (xs.take (k + 1)))) := ⟨by rw [HT.out]; have := enum_step HP.out x; rwa [List.length_take, Nat.min_eq_left (by omega)] at this⟩
        clear hC2 hS2 hF2 hcell
        obtain ⟨ad', ead, hcell⟩ := came_at HR.out HB2.out HX.out
        obtain rfl : ad = ad' := by injection ead
        clear ead
        by_cases hle : x ≤ now
        · have hd : decide (x ≤ now) = true := decide_eq_true hle
          rw [if_pos hle, ← HT.out] at HCN
          clear hle
          go_wp2_with fail
          go_roundw
          case rel => exact ⟨k + 1, _, S2, by rw [HCN.out]; go_num, by go_num, by omega, HC2, HS2, HP2, HB2⟩
          case measure => simp [intOf]; omega
        · have hd : decide (x ≤ now) = false := decide_eq_false hle
          rw [if_neg hle, ← HT.out] at HCN
          clear hle
          go_wp2_with fail
          go_roundw
          case rel => exact ⟨k + 1, _, S2, by rw [HCN.out]; go_num, by go_num, by omega, HC2, HS2, HP2, HB2⟩
          case measure => simp [intOf]; omega
      · obtain rfl : k = xs.length := by omega
        rw [List.take_length] at *
        have hcb : cnt xs now ≤ xs.length := cnt_le _ _
        go_wp2_with fail
        refine (due_clk wr S C _ l HC.out now).mono ?_
        rintro e w2 ⟨v2, rfl, hR2, hC2, hF2⟩
        have HR2 := Aside0.mk hR2
        have HC2 := Aside0.mk hC2
        have HB2 := Aside0.mk (fr_below HB.out hF2 HS.out)
        have HLT := Aside0.mk HC.out.lt
        have HDL := Aside0.mk (due_len HP.out HC.out.srt now)
        have hRL := rest_len HP.out HC.out.srt now
        have HDA : Aside0 (Clk w2 S C xs.length (rest l now) ∧ dueL (rest l now) now = []) := ⟨HC2.out, due_again HC.out.srt now⟩
        have HSD := Aside0.mk (fun (i : Nat) (p q : Al) => due_bef HC.out.srt now (i := i) (p := p) (q := q))
        have HAT := Aside0.mk (fun (i : Nat) (p : Al) => due_at HP.out now (i := i) (p := p))
        clear hR2 hC2 hF2 HC2 HC HP HB
        generalize rest l now = lr at hRL HDA
        generalize dueL l now = D at HR2 HDL HSD HAT
        obtain ⟨A2, c2, e2, hl2, hk2⟩ := HR2.out.rd
        have eL : (ids D).length = cnt xs now := (ids_len D).trans HDL.out
        rw [eL] at e2
        subst e2
        clear hl2 hk2 HDL
        have HEL := Aside0.mk eL
        clear eL
        generalize cnt xs now = m at *
        have hd1 : ((lr.length : Int) != (xs.length : Int) - (m : Int)) = false := by rw [bne_eq_false_iff_eq]; omega
        have hm : m ≤ xs.length := hcb
        clear hRL hcb
        go_wp2_with fail
        refine (len_clk w2 S C _ lr HDA.out.1).mono ?_
        rintro e w3 ⟨rfl, rfl⟩
        go_wp2_with fail
        refine (due_clk w3 S C _ lr HDA.out.1 now).mono ?_
        rintro e w4 ⟨v4, rfl, hR4, hC4, hF4⟩
        have e4 : ids (dueL lr now) = [] := by rw [HDA.out.2]; rfl
        rw [e4] at hR4
        obtain ⟨A4, c4, e4', x4, y4⟩ := hR4.rd
        subst e4'
        have HB4 := Aside0.mk (fr_below HB2.out hF4 HS.out)
        have HR4 : Aside0 (Row wr.heap.size w4 (.slice A2 m c2) (ids D)) := ⟨HR2.out.fr hF4 HLT.out⟩
        clear x4 y4 hR4 hC4 hF4 e4 HR2 HB2 HDA
        have HK4 : Aside0 (Kd.C (Kd.int .i64) w4 A2 (ids D).length (ids D)) := ⟨by
          obtain ⟨A5, c5, e5, _, h5⟩ := HR4.out.rd
          injection e5 with e5a e5b e5c
          subst e5a
          exact h5⟩
        clear HR4
        go_wp2_with fail
        go_loopw [9] (fun vi wr => ∃ k : Nat, vi = .int .i64 k ∧ k ≤ m ∧ Aside0 (Below w4.heap.size w4 wr)) (fun vi _ => m - (intOf vi).toNat)
        case atStart => exact ⟨0, rfl, by omega, ⟨Below.refl _ _⟩⟩
        case round =>
          obtain ⟨k, rfl, hk, HBr⟩ := hrel
          have HBW : Aside0 (Below W.heap.size W wr) := ⟨below_then HB4.out HB4.out.size HBr.out⟩
          by_cases hlt : k < m
          · have hkD : k < (ids D).length := by rw [HEL.out]; exact hlt
            have hkD' : k < D.length := by rw [ids_len] at hkD; exact hkD
            obtain ⟨p, hp⟩ : ∃ p, D[k]? = some p := ⟨_, List.getElem?_eq_getElem hkD'⟩
            obtain ⟨j, hj, hpj, hxj, hle⟩ := HAT.out k p hp
            obtain ⟨ad2, rfl, q2⟩ := came_at HK4.out HBr.out (j := k) (x := p.1) (by unfold ids; rw [List.getElem?_map, hp]; rfl)
            obtain ⟨ad, rfl, q1⟩ := came_at HR.out HBW.out hxj
            rw [hpj] at q2
            have hd2 : decide (now < p.2) = false := decide_eq_false (by omega)
            have HP := Aside0.mk hp
            have HPJ := Aside0.mk hpj
            clear hkD hkD' hp hpj hxj
            by_cases h0 : k = 0
            · have hz1 : decide (0 < (k : Int)) = false := decide_eq_false (by omega)
              have hz2 : decide (0 < k) = false := decide_eq_false (by omega)
              clear h0
              go_wp2_with fail
              go_quiet (fail)
              go_wp2_with fail
              go_roundw
              case rel => exact ⟨k + 1, by go_num, by omega, ⟨pw_below_drewN HBr.out _⟩⟩
              case measure => simp [intOf]; omega
            · have hkD : k - 1 < D.length := by have := ids_len D; have := HEL.out; omega
              obtain ⟨q, hq⟩ : ∃ q, D[k - 1]? = some q := ⟨_, List.getElem?_eq_getElem hkD⟩
              obtain ⟨j', hj', hqj, hxj', hle'⟩ := HAT.out (k - 1) q hq
              have hb := HSD.out (k - 1) q p hq (by rw [show k - 1 + 1 = k by omega]; exact HP.out)
              obtain ⟨ad3, ea3, q3⟩ := came_at HK4.out HBr.out (j := k - 1) (x := q.1) (by unfold ids; rw [List.getElem?_map, hq]; rfl)
              obtain ⟨ad4, ea4, q4⟩ := came_at HR.out HBW.out hxj'
              obtain rfl : ad2 = ad3 := by injection ea3
              obtain rfl : ad = ad4 := by injection ea4
              rw [hqj] at q3
              have hpj := HPJ.out
              have hz1 : decide (0 < (k : Int)) = true := decide_eq_true (by omega)
              have hz2 : decide (0 < k) = true := decide_eq_true (by omega)
              have hc1 : decide (p.2 < q.2) = false := decide_eq_false (by unfold bef at hb; omega)
              have e0 : (0 : Int) ≤ (k : Int) - 1 := by omega
              have e5 : (k : Int) - 1 < (m : Int) := by omega
              by_cases hqp : q.2 = p.2
              · have hc2 : (q.2 == p.2) = true := by rw [hqp]; exact beq_self_eq_true _
                have hc3 : decide ((j : Int) ≤ (j' : Int)) = false := decide_eq_false (by unfold bef at hb; omega)
                have hc4 : decide (j ≤ j') = false := decide_eq_false (by unfold bef at hb; omega)
                have e1 : IntKind.i64.wrap ((k : Int) - 1) = (k : Int) - 1 := IntWalk.i64_in _ (by omega)
                have e3 : ((k : Int) - 1).toNat = k - 1 := by omega
                clear h0 hkD hq hqj hxj' hle' hb ea3 ea4 hqp hpj
                go_wp2_with fail
                go_quiet (fail)
                clear e1 e3 e0 e5
                go_wp2_with fail
                go_roundw
                case rel => exact ⟨k + 1, by go_num, by omega, ⟨pw_below_drewN HBr.out _⟩⟩
                case measure => simp [intOf]; omega
              · have hc2 : (q.2 == p.2) = false := beq_eq_false_iff_ne.2 hqp
                have e1 : IntKind.i64.wrap ((k : Int) - 1) = (k : Int) - 1 := IntWalk.i64_in _ (by omega)
                have e3 : ((k : Int) - 1).toNat = k - 1 := by omega
                clear h0 hkD hq hqj hxj' hle' hb ea3 ea4 hqp hpj
                go_wp2_with fail
                go_quiet (fail)
                clear e1 e3 e0 e5
                go_wp2_with fail
                go_roundw
                case rel => exact ⟨k + 1, by go_num, by omega, ⟨pw_below_drewN HBr.out _⟩⟩
                case measure => simp [intOf]; omega
          · have hkm : k = m := by omega
            clear hlt
            go_wp2_with fail
            refine (awake_any wr).mono ?_
            rintro e w5 ⟨rfl, hb5⟩
            have HB5 : Aside0 (Below W.heap.size W w5) := ⟨below_then HBW.out HBW.out.size hb5⟩
            clear hb5
            go_wp2
            go_ret
            exact ⟨rfl, HB5.out⟩
end Go.Proofs.Ytimpfiaolblgmaa.AlarmQ
