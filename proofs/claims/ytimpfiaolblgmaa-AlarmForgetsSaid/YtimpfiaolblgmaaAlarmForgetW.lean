/- The law AlarmForgets' walk. -/
import Derived.Test.YtimpfiaolblgmaaAlarmOnceW
namespace Go.Proofs.Ytimpfiaolblgmaa.AlarmQ
open Go.Shelf Go.Maps Go.RowKit Go.Proofs.YtimpfiaolblgmaaW.PrintWords Go.Proofs.Ytimpfiaolblgmaa.AlarmMath Go.Proofs.Ytimpfiaolblgmaa.Blk Go.Proofs.Ytimpfiaolblgmaa.AlarmP
set_option linter.unusedVariables false
set_option linter.unusedSimpArgs false
/-- Two clocks that share no block hold the same; all their blocks are new since B. -/
structure Two (B : Nat) (w : World) (Ca Cb Na Nb : Nat) (la lb : List Al) (Sa Sb : Nat → Prop) : Prop where
  a : Clk w Sa Ca Na la
  b : Clk w Sb Cb Nb lb
  ne : ∀ k, Sa k → ¬ Sb k
  na : ∀ k, Sa k → B ≤ k
  nb : ∀ k, Sb k → B ≤ k
theorem Two.set_a {B : Nat} {w w' : World} {Ca Cb Na Nb : Nat} {la lb l' : List Al} {Sa Sb : Nat → Prop} {e : Ending} (h : Two B w Ca Cb Na Nb la lb Sa Sb) (hB : B ≤ w.heap.size) (hs : SetR w Sa Ca Na l' e w') : ∃ Sa', Two B w' Ca Cb (Na + 1) Nb l' lb Sa' Sb := by
  obtain ⟨_, ⟨S', hC, hS⟩, hf⟩ := hs
  refine ⟨S', hC, h.b.move hf (fun k hk hn => h.ne k hn hk), fun k hk hn => ?_, fun k hk => (hS k hk).elim (h.na k) (fun h' => Nat.le_trans hB h'), h.nb⟩
  rcases hS k hk with h1 | h1
  · exact h.ne k h1 hn
  · have := h.b.lt k hn; omega
theorem Two.set_b {B : Nat} {w w' : World} {Ca Cb Na Nb : Nat} {la lb l' : List Al} {Sa Sb : Nat → Prop} {e : Ending} (h : Two B w Ca Cb Na Nb la lb Sa Sb) (hB : B ≤ w.heap.size) (hs : SetR w Sb Cb Nb l' e w') : ∃ Sb', Two B w' Ca Cb Na (Nb + 1) la l' Sa Sb' := by
  obtain ⟨_, ⟨S', hC, hS⟩, hf⟩ := hs
  refine ⟨S', h.a.move hf (fun k hk hn => h.ne k hk hn), hC, fun k hk hn => ?_, h.na, fun k hk => (hS k hk).elim (h.nb k) (fun h' => Nat.le_trans hB h')⟩
  rcases hS k hn with h1 | h1
  · exact h.ne k hk h1
  · have := h.a.lt k hk; omega
theorem clr_none {l : List Al} {id : Int} (h : ∀ p ∈ l, p.1 ≠ id) : clr l id = 50 := by
  unfold clr
  rw [wo_none h, if_neg (by omega)]
theorem clr_set (l : List Al) (id t : Int) : clr (rSet l id t) id = 0 := by
  unfold clr
  rw [if_pos (has_len.2 ⟨(id, t), (set_perm' l id t).mem_iff.2 (List.mem_cons_self ..), rfl⟩)]
set_option maxHeartbeats 8000000 in
set_option maxRecDepth 100000 in
theorem alarmForgets_any (W : World) (A : Option Addr) (c : Nat) (xs : List Int) (id t later : Int) (hr : Kd.C (Kd.int .i64) W A xs.length xs) (hc : xs.length ≤ c) (hw : ∀ x ∈ xs, (Lit.int .i64 x).wf = true)
    (wid : (Lit.int .i64 id).wf = true) (wt : (Lit.int .i64 t).wf = true) (wl : (Lit.int .i64 later).wf = true) :
    Calls Try.prog 5 #[.slice A xs.length c, .int .i64 id, .int .i64 t, .int .i64 later] W fun e w' => e = .returned (.bool true) ∧ Below W.heap.size W w' := by
  have HR := Aside0.mk hr
  have HW := Aside0.mk hw
  have WID := Aside0.mk wid
  have WT := Aside0.mk wt
  have WL := Aside0.mk wl
  clear hr hc hw wid wt wl
  by_cases hn : 300 < xs.length
  · go_enter Try.func5, Try.ntmps5
    go_wp2
    go_ret
    exact ⟨rfl, Below.refl _ _⟩
  · have hn' : xs.length ≤ 300 := by omega
    clear hn
    go_enter Try.func5, Try.ntmps5
    go_wp2_with fail
    refine (new_clk W).mono ?_
    rintro e w1 ⟨Ca, rfl, ⟨S1, hC1, hS1⟩, hb1⟩
    have HC1 := Aside0.mk hC1
    have HS1 := Aside0.mk hS1
    have HB1 := Aside0.mk hb1
    clear hC1 hS1 hb1
    go_wp2_with fail
    refine (new_clk w1).mono ?_
    rintro e w2 ⟨Cb, rfl, ⟨S2, hC2, hS2⟩, hb2⟩
    have HT2 : Aside0 (Two W.heap.size w2 Ca Cb 0 0 [] [] S1 S2) := ⟨⟨HC1.out.below hb2, hC2, fun k hk hn => by have := HC1.out.lt k hk; have := hS2 k hn; omega, HS1.out, fun k hk => Nat.le_trans HB1.out.size (hS2 k hk)⟩⟩
    have HB2 : Aside0 (Below W.heap.size W w2) := ⟨below_then HB1.out HB1.out.size hb2⟩
    clear hC2 hS2 hb2 HC1 HS1 HB1
    go_wp2_with fail
    go_loopw [11] (fun vi wr => ∃ (k : Nat) (l : List Al) (Sa Sb : Nat → Prop), vi = .int .i64 k ∧ k ≤ xs.length ∧ Aside0 (Two W.heap.size wr Ca Cb k k l l Sa Sb) ∧ Aside0 (Below W.heap.size W wr)) (fun vi _ => xs.length - (intOf vi).toNat)
    case atStart => exact ⟨0, [], S1, S2, rfl, by omega, HT2, HB2⟩
    case round =>
      obtain ⟨k, l, Sa, Sb, rfl, hk, HT, HB⟩ := hrel
      by_cases hlt : k < xs.length
      · obtain ⟨x, hx⟩ : ∃ x, xs[k]? = some x := ⟨_, List.getElem?_eq_getElem hlt⟩
        have HX := Aside0.mk hx
        have wx := Aside0.mk (HW.out x (List.mem_of_getElem? hx))
        obtain ⟨ad, rfl, hcell⟩ := came_at HR.out HB.out hx
        have wk := Aside0.mk (wfn (k := k) (by omega))
        have hk' : k < 100000 := by omega
        clear hx
        go_wp2_with fail
        refine (set_clk wr Sa Ca k l HT.out.a k x wk.out wx.out hk').mono ?_
        rintro e w3 hs
        obtain ⟨Sa', ht3⟩ := HT.out.set_a HB.out.size hs
        obtain ⟨rfl, _, hf⟩ := hs
        have HT3 := Aside0.mk ht3
        have HB3 := Aside0.mk (fr_below HB.out hf HT.out.na)
        clear ht3 hf hcell HT HB
        obtain ⟨ad', ead, hcell⟩ := came_at HR.out HB3.out HX.out
        obtain rfl : ad = ad' := by injection ead
        clear ead
        go_wp2_with fail
        refine (set_clk w3 Sb Cb k l HT3.out.b k x wk.out wx.out hk').mono ?_
        rintro e w4 hs
        obtain ⟨Sb', ht4⟩ := HT3.out.set_b HB3.out.size hs
        obtain ⟨rfl, _, hf⟩ := hs
        have HT4 := Aside0.mk ht4
        have HB4 := Aside0.mk (fr_below HB3.out hf HT3.out.nb)
        clear ht4 hf hcell HT3 HB3
        go_wp2_with fail
        go_roundw
        case rel => exact ⟨k + 1, _, Sa', Sb', by go_num, by omega, HT4, HB4⟩
        case measure => simp [intOf]; omega
      · obtain rfl : k = xs.length := by omega
        clear hlt
        go_wp2_with fail
        refine (set_clk wr Sa Ca _ l HT.out.a id t WID.out WT.out (by omega)).mono ?_
        rintro e w3 hs
        obtain ⟨Sa', ht3⟩ := HT.out.set_a HB.out.size hs
        obtain ⟨rfl, _, hf⟩ := hs
        have HT3 := Aside0.mk ht3
        have HB3 := Aside0.mk (fr_below HB.out hf HT.out.na)
        have HSR := Aside0.mk HT.out.a.srt
        clear ht3 hf HT HB
        go_wp2_with fail
        refine (set_clk w3 Sa' Ca _ _ HT3.out.a id later WID.out WL.out (by omega)).mono ?_
        rintro e w4 hs
        rw [set_set HSR.out] at hs
        obtain ⟨Sa4, ht4⟩ := HT3.out.set_a HB3.out.size hs
        obtain ⟨rfl, _, hf⟩ := hs
        have HT4 := Aside0.mk ht4
        have HB4 := Aside0.mk (fr_below HB3.out hf HT3.out.na)
        clear ht4 hf HT3 HB3
        go_wp2_with fail
        refine (set_clk w4 Sb Cb _ l HT4.out.b id later WID.out WL.out (by omega)).mono ?_
        rintro e w5 hs
        obtain ⟨Sb5, ht5⟩ := HT4.out.set_b HB4.out.size hs
        obtain ⟨rfl, _, hf⟩ := hs
        have HT5 := Aside0.mk ht5
        have HB5 := Aside0.mk (fr_below HB4.out hf HT4.out.nb)
        have HCL := Aside0.mk (clr_set l id later)
        clear ht5 hf HT4 HB4
        generalize rSet l id later = L at HT5 HCL
        go_wp2_with fail
        refine (len_clk w5 Sa4 Ca _ L HT5.out.a).mono ?_
        rintro e w6 ⟨rfl, rfl⟩
        go_wp2_with fail
        refine (len_clk w6 Sb5 Cb _ L HT5.out.b).mono ?_
        rintro e w7 ⟨rfl, rfl⟩
        go_wp2_with fail
        refine (clear_clk w7 Sa4 Ca _ L HT5.out.a id WID.out).mono ?_
        rintro e w8 ⟨rfl, hC8, hF8⟩
        have HT8 : Aside0 (Two W.heap.size w8 Ca Cb _ _ (wo L id) L Sa4 Sb5) := ⟨⟨hC8, HT5.out.b.move hF8 (fun k hk hn => HT5.out.ne k hn hk), HT5.out.ne, HT5.out.na, HT5.out.nb⟩⟩
        have HB8 := Aside0.mk (fr_below HB5.out hF8 HT5.out.na)
        clear hC8 hF8 HT5 HB5
        rw [HCL.out]
        go_wp2_with fail
        refine (clear_clk w8 Sb5 Cb _ L HT8.out.b id WID.out).mono ?_
        rintro e w9 ⟨rfl, hC9, hF9⟩
        have HT9 : Aside0 (Two W.heap.size w9 Ca Cb _ _ (wo L id) (wo L id) Sa4 Sb5) := ⟨⟨HT8.out.a.move hF9 (fun k hk hn => HT8.out.ne k hk hn), hC9, HT8.out.ne, HT8.out.na, HT8.out.nb⟩⟩
        have HB9 := Aside0.mk (fr_below HB8.out hF9 HT8.out.nb)
        have HNO : Aside0 (∀ p ∈ wo L id, p.1 ≠ id) := ⟨fun p hp => (mem_wo.1 hp).2⟩
        clear hC9 hF9 HT8 HB8
        rw [HCL.out]
        clear HCL
        generalize wo L id = M at HT9 HNO
        go_wp2_with fail
        refine (due_clk w9 Sa4 Ca _ M HT9.out.a _).mono ?_
        rintro e w10 ⟨v10, rfl, hR10, hC10, hF10⟩
        have HLT := Aside0.mk HT9.out.b.lt
        have HNA := Aside0.mk HT9.out.na
        have hlen : (ids (dueL M 9223372036854775807)).length ≤ 100000 := by
          rw [ids_len]
          exact Nat.le_trans (List.takeWhile_sublist _).length_le HT9.out.a.len.2
        have HNR : Aside0 (∀ p ∈ rest M 9223372036854775807, p.1 ≠ id) := ⟨fun p hp => HNO.out p ((List.dropWhile_sublist _).mem hp)⟩
        have HT10 : Aside0 (Two W.heap.size w10 Ca Cb _ _ (rest M 9223372036854775807) M Sa4 Sb5) := ⟨⟨hC10, HT9.out.b.move hF10 (fun k hk hn => HT9.out.ne k hn hk), HT9.out.ne, HT9.out.na, HT9.out.nb⟩⟩
        have HB10 := Aside0.mk (fr_below HB9.out hF10 HT9.out.na)
        have HR10 := Aside0.mk hR10
        have HLEN := Aside0.mk hlen
        clear hR10 hC10 hF10 HT9 HB9 HNO hlen
        go_wp2_with fail
        refine (due_clk w10 Sb5 Cb _ M HT10.out.b _).mono ?_
        rintro e w11 ⟨v11, rfl, hR11, hC11, hF11⟩
        have HC11 : Aside0 (Clk w11 Sa4 Ca _ (rest M 9223372036854775807)) := ⟨HT10.out.a.move hF11 (fun k hk hn => HT10.out.ne k hk hn)⟩
        have HB11 := Aside0.mk (fr_below HB10.out hF11 HT10.out.nb)
        have HR10' := Aside0.mk (HR10.out.fr hF11 HLT.out)
        have HR11 := Aside0.mk hR11
        clear hR11 hC11 hF11 HR10 HT10 HB10 HLT
        generalize rest M 9223372036854775807 = R at HC11 HNR
        generalize dueL M 9223372036854775807 = D at HR10' HR11 HLEN
        obtain ⟨A10, c10, e10, l10, k10⟩ := HR10'.out.rd
        obtain ⟨A11, c11, e11, l11, k11⟩ := HR11.out.rd
        subst e10; subst e11
        have HK10 := Aside0.mk k10
        have HK11 := Aside0.mk k11
        have HL10 := Aside0.mk l10
        have HL11 := Aside0.mk l11
        clear k10 k11 l10 l11 HR10' HR11
        generalize ids D = ns at *
        go_wp2_with fail
        refine (awake_any w11).mono ?_
        rintro e w12 ⟨rfl, hb12⟩
        have HC12 := Aside0.mk (HC11.out.below hb12)
        have HB12 : Aside0 (Below W.heap.size W w12) := ⟨below_then HB11.out HB11.out.size hb12⟩
        have HK10' := Aside0.mk (Kd.C_below HK10.out hb12)
        have HK11' := Aside0.mk (Kd.C_below HK11.out hb12)
        clear hb12 HC11 HB11 HK10 HK11
        go_wp2_with fail
        refine (ints_true w12 A10 A11 c10 c11 ns HLEN.out HK10'.out HL10.out HK11'.out HL11.out).mono ?_
        rintro e w13 ⟨rfl, n13, hw13⟩
        have HC13 : Aside0 (Clk w13 Sa4 Ca _ R) := ⟨by rw [hw13]; exact HC12.out.drewN _⟩
        have HB13 : Aside0 (Below W.heap.size W w13) := ⟨by rw [hw13]; exact pw_below_drewN HB12.out _⟩
        clear hw13 HC12 HB12
        go_wp2_with fail
        refine (clear_clk w13 Sa4 Ca _ R HC13.out id WID.out).mono ?_
        rintro e w14 ⟨rfl, hC14, hF14⟩
        have HB14 := Aside0.mk (fr_below HB13.out hF14 (fun k hk => by have := HNA.out k hk; omega))
        rw [clr_none HNR.out]
        clear hC14 hF14
        go_wp2_with fail
        go_ret
        exact ⟨rfl, HB14.out⟩
end Go.Proofs.Ytimpfiaolblgmaa.AlarmQ
