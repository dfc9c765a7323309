/- The law AlarmRuns' walk. -/
import Derived.Test.YtimpfiaolblgmaaAlarmOnceW
import Derived.Deep.CutRange
import Derived.Deep.CutBlock
import Derived.Deep.DeepCutAuto
import Derived.Deep.QuietTactic
import Derived.Deep.RegionWith
import Derived.Sort.Row
namespace Go.Proofs.Ytimpfiaolblgmaa.AlarmQ
open Go.Shelf Go.Maps Go.RowKit Go.Proofs.YtimpfiaolblgmaaW.PrintWords Go.Proofs.Ytimpfiaolblgmaa.AlarmMath Go.Proofs.Ytimpfiaolblgmaa.Blk Go.Proofs.Ytimpfiaolblgmaa.AlarmP
set_option linter.unusedVariables false
set_option linter.unusedSimpArgs false
/-- The program's clock and the document's, that share no block; all their blocks are new since B. -/
structure Both (B : Nat) (w : World) (C M N : Nat) (la lm : List Al) (Sa Sm : Nat → Prop) : Prop where
  a : Clk w Sa C N la
  m : RAt w Sm M lm
  ne : ∀ k, Sa k → ¬ Sm k
  na : ∀ k, Sa k → B ≤ k
  nm : ∀ k, Sm k → B ≤ k
theorem Both.a_step {B : Nat} {w w' : World} {C M N N' : Nat} {la lm la' : List Al} {Sa Sm Sa' : Nat → Prop} (h : Both B w C M N la lm Sa Sm) (hB : B ≤ w.heap.size) (hC : Clk w' Sa' C N' la') (hS : ∀ k, Sa' k → Sa k ∨ w.heap.size ≤ k) (hf : Fr w w' Sa) : Both B w' C M N' la' lm Sa' Sm := by
  refine ⟨hC, h.m.fr hf (fun k hk hn => h.ne k hn hk), fun k hk hn => ?_, fun k hk => (hS k hk).elim (h.na k) (fun h' => Nat.le_trans hB h'), h.nm⟩
  rcases hS k hk with h1 | h1
  · exact h.ne k h1 hn
  · have := h.m.lt k hn; omega
theorem Both.m_step {B : Nat} {w w' : World} {C M N : Nat} {la lm lm' : List Al} {Sa Sm Sm' : Nat → Prop} (h : Both B w C M N la lm Sa Sm) (hB : B ≤ w.heap.size) (hC : RAt w' Sm' M lm') (hS : ∀ k, Sm' k → Sm k ∨ w.heap.size ≤ k) (hf : Fr w w' Sm) : Both B w' C M N la lm' Sa Sm' := by
  refine ⟨h.a.move hf (fun k hk hn => h.ne k hk hn), hC, fun k hk hn => ?_, h.na, fun k hk => (hS k hk).elim (h.nm k) (fun h' => Nat.le_trans hB h')⟩
  rcases hS k hn with h1 | h1
  · exact h.ne k hk h1
  · have := h.a.lt k hk; omega
theorem Both.below {B : Nat} {w w' : World} {C M N : Nat} {la lm : List Al} {Sa Sm : Nat → Prop} (h : Both B w C M N la lm Sa Sm) (hb : Below w.heap.size w w') : Both B w' C M N la lm Sa Sm := ⟨h.a.below hb, h.m.below hb, h.ne, h.na, h.nm⟩
theorem Both.more {B : Nat} {w : World} {C M N N' : Nat} {la lm : List Al} {Sa Sm : Nat → Prop} (h : Both B w C M N la lm Sa Sm) (hN : N ≤ N') : Both B w C M N' la lm Sa Sm := ⟨h.a.more hN, h.m, h.ne, h.na, h.nm⟩
def Ovr (W wr : World) (A : Option Addr) (n : Nat) : Prop := W.grownBy wr (A.map (·.block)) ∧ ∀ g, A = some ⟨g, 0, none⟩ → 0 < n → ∃ cur, wr.heap[g]? = some (.cells cur 3 (0, 0)) ∧ n ≤ cur.size
theorem Ovr.cell {W wr : World} {g n : Nat} (h : Ovr W wr (some ⟨g, 0, none⟩) n) (i : Nat) (hi : i < n) : (∃ u, wr.cell? ⟨g, i, none⟩ = some u) ∧ wr.frozen? ⟨g, i, none⟩ = false := by
  obtain ⟨cur, hh, hn⟩ := h.2 g rfl (by omega)
  refine ⟨⟨cur[i]'(by omega), ?_⟩, ?_⟩
  · simp [World.cell?, hh, Array.getElem?_eq_getElem (show i < cur.size by omega)]
  · simp [World.frozen?, hh]
theorem Ovr.set {W wr : World} {g n : Nat} (h : Ovr W wr (some ⟨g, 0, none⟩) n) (i : Nat) (u : Value) : Ovr W (wr.setCell ⟨g, i, none⟩ u) (some ⟨g, 0, none⟩) n := by
  refine ⟨⟨h.1.os, h.1.tape, h.1.output, by simpa [World.setCell] using h.1.size, fun k hk hne => ?_⟩, fun g' e hn => ?_⟩
  · rw [Below.heap_setCell _ _ _ _ (by intro e; subst e; exact hne rfl)]
    exact h.1.block k hk hne
  · obtain rfl : g = g' := by
      have := Option.some.inj e
      simpa using this
    obtain ⟨cur, hh, hc⟩ := h.2 g rfl hn
    refine ⟨cur.setIfInBounds i u, ?_, by simpa using hc⟩
    rw [Sort.setCell_eq]
    show (wr.heap.modify g (Sort.onCells _))[g]? = _
    rw [Array.getElem?_modify, if_pos rfl, hh]
    rfl
theorem Ovr.below {W wr w0 : World} {A : Option Addr} {n : Nat} (h : Ovr W wr A n) {B : Nat} (hb : Below B w0 W) (hB : B ≤ W.heap.size) (hA : ∀ a, A = some a → B ≤ a.block) : Below B w0 wr := hb.grown h.1 hB (by
  intro k hk
  cases A with
  | none => cases hk
  | some a => have := hA a rfl; simp at hk; omega)
theorem Row.ovr {B : Nat} {w : World} {A : Option Addr} {n c : Nat} {xs : List Int} (h : Row B w (.slice A n c) xs) : (0 < xs.length → ∃ g, A = some ⟨g, 0, none⟩) ∧ Ovr w w A xs.length ∧ ∀ a, A = some a → B ≤ a.block := by
  rcases h.2 with ⟨e, hn⟩ | ⟨g, cap, cur, e, hB, hh, hc, hm, hs, ht⟩
  · injection e with e1 e2 e3
    subst e1
    exact ⟨fun h => by omega, ⟨⟨rfl, rfl, rfl, Nat.le_refl _, fun _ _ _ => rfl⟩, fun _ e => by cases e⟩, fun _ e => by cases e⟩
  · injection e with e1 e2 e3
    subst e1
    refine ⟨fun _ => ⟨g, rfl⟩, ⟨⟨rfl, rfl, rfl, Nat.le_refl _, fun _ _ _ => rfl⟩, fun g' e _ => ?_⟩, fun a e => ?_⟩
    · obtain rfl : g = g' := by
        have := Option.some.inj e
        simpa using this
      exact ⟨cur, hh, by omega⟩
    · obtain rfl := Option.some.inj e
      exact hB
theorem Both.grown {B : Nat} {w w' : World} {C M N : Nat} {la lm : List Al} {Sa Sm : Nat → Prop} (h : Both B w C M N la lm Sa Sm) {r : Option Nat} (hg : w.grownBy w' r) (hr : ∀ g, r = some g → ¬ Sa g ∧ ¬ Sm g) : Both B w' C M N la lm Sa Sm :=
  ⟨h.a.grown hg (fun g e => (hr g e).1), h.m.fr (Fr.ofGrownO (S := fun k => r = some k) hg (fun g e => e)) (fun k hk e => (hr k e).2 hk), h.ne, h.na, h.nm⟩
/-- What a round leaves. -/
def After (W : World) (C M N : Nat) (w : World) : Prop := ∃ (l : List Al) (Sa Sm : Nat → Prop), Both W.heap.size w C M N l l Sa Sm ∧ Below W.heap.size W w
abbrev Op3 := Int × Int × Int
/-- The script's row: each call's three numbers. -/
def Ops (W : World) (A : Option Addr) (ops : List Op3) : Prop := ∀ k o, ops[k]? = some o → ∃ ad, A = some ad ∧ ∀ w', Below W.heap.size W w' → w'.cell? (ad.add (k * 3)) = some (.int .i64 o.1) ∧ w'.cell? ⟨(ad.add (k * 3)).block, (ad.add (k * 3)).off + 1, none⟩ = some (.int .i64 o.2.1) ∧ w'.cell? ⟨(ad.add (k * 3)).block, (ad.add (k * 3)).off + 2, none⟩ = some (.int .i64 o.2.2)
set_option maxHeartbeats 8000000 in
set_option maxRecDepth 100000 in
theorem alarmRuns_any (W : World) (A : Option Addr) (c : Nat) (ops : List Op3) (hr : Ops W A ops) (hc : ops.length ≤ c) (hw : ∀ x ∈ ops, (Lit.int .i64 x.2.1).wf = true ∧ (Lit.int .i64 x.2.2).wf = true) :
    Calls Try.prog 3 #[.slice A ops.length c] W fun e w' => e = .returned (.bool true) ∧ Below W.heap.size W w' := by
  have HR := Aside0.mk hr
  have HW := Aside0.mk hw
  clear hr hc hw
  by_cases hn : 400 < ops.length
  · go_enter Try.func3, Try.ntmps3
    go_wp2
    go_ret
    exact ⟨rfl, Below.refl _ _⟩
  · have hn' : ops.length ≤ 400 := by omega
    clear hn
    go_enter Try.func3, Try.ntmps3
    go_wp2_with fail
    refine (new_clk W).mono ?_
    rintro e w1 ⟨C, rfl, ⟨S1, hC1, hS1⟩, hb1⟩
    have HC1 := Aside0.mk hC1
    have HS1 := Aside0.mk hS1
    have HB1 := Aside0.mk hb1
    clear hC1 hS1 hb1
    go_wp2_with fail
    obtain ⟨w2, hw2⟩ : ∃ w2, w2 = w1.alloc (.cells #[.slice none 0 0] 28) := ⟨_, rfl⟩
    rw [← hw2]
    have h12 : Below w1.heap.size w1 w2 := by rw [hw2]; exact below_alloc (Below.refl _ _) _
    have hM : w2.heap[w1.heap.size]? = some (.cells #[.slice none 0 0] 28 (0, 0)) := by rw [hw2]; exact blk_new w1 _
    have H2 : Aside0 (After W C w1.heap.size 0 w2) := ⟨[], S1, (fun k => k = w1.heap.size), ⟨HC1.out.below h12, ⟨⟨none, 0, hM, ⟨Nat.le_refl _, fun h => by simp at h⟩⟩, rfl, fun k hk => by rw [hk]; exact blk_lt hM, by simp⟩, fun k hk e => by have := HC1.out.lt k hk; omega, HS1.out, fun k hk => by rw [hk]; exact HB1.out.size⟩, below_then HB1.out HB1.out.size h12⟩
    clear hw2 h12 hM HC1 HS1 HB1
    generalize w1.heap.size = M at *
    go_loopw [5] (fun vi wr => ∃ k : Nat, vi = .int .i64 k ∧ k ≤ ops.length ∧ Aside0 (After W C M k wr)) (fun vi _ => ops.length - (intOf vi).toNat)
    case atStart => exact ⟨0, rfl, by omega, H2⟩
    case round =>
      obtain ⟨k, rfl, hk, HA⟩ := hrel
      obtain ⟨l, Sa, Sm, hBo, hB⟩ := HA.out
      have HBo := Aside0.mk hBo
      have HB := Aside0.mk hB
      clear HA hBo hB
      by_cases hlt : k < ops.length
      · obtain ⟨o, ho⟩ : ∃ o, ops[k]? = some o := ⟨_, List.getElem?_eq_getElem hlt⟩
        have WO := Aside0.mk (HW.out o (List.mem_of_getElem? ho))
        obtain ⟨ad, rfl, hcell⟩ := HR.out k o ho
        obtain ⟨o0, o1, o2⟩ := hcell wr HB.out
        clear ho hcell
        go_upto_block 2 with fail
        go_cut [] from 23 to 117 (fun wc => Aside0 (After W C M (k + 1) wc))
        case first =>
          obtain ⟨wa, hwa⟩ : ∃ wa, wa = wr.alloc (.cells #[.int .i64 o.1, .int .i64 o.2.1, .int .i64 o.2.2] 30) := ⟨_, rfl⟩
          have hra : Below wr.heap.size wr wa := by rw [hwa]; exact below_alloc (Below.refl _ _) _
          have HX := Aside0.mk (show wa.heap[wr.heap.size]? = some (.cells #[.int .i64 o.1, .int .i64 o.2.1, .int .i64 o.2.2] 30 (0, 0)) by rw [hwa]; exact blk_new wr _)
          have HBa := Aside0.mk (HBo.out.below hra)
          have HBl : Aside0 (Below W.heap.size W wa) := ⟨below_then HB.out HB.out.size hra⟩
          have HZa : Aside0 (¬ Sa wr.heap.size) := ⟨fun h => by have := HBo.out.a.lt _ h; omega⟩
          have HZm : Aside0 (¬ Sm wr.heap.size) := ⟨fun h => by have := HBo.out.m.lt _ h; omega⟩
          have hlk : l.length ≤ k := HBo.out.a.len.1
          rw [← hwa]
          clear hwa hra HBo HB o0 o1 o2
          generalize wr.heap.size = Z at *
          have FX : Aside0 (∀ w' : World, w'.heap[Z]? = wa.heap[Z]? → w'.cell? ⟨Z, 0, none⟩ = some (.int .i64 o.1) ∧ w'.cell? ⟨Z, 1, none⟩ = some (.int .i64 o.2.1) ∧ w'.cell? ⟨Z, 2, none⟩ = some (.int .i64 o.2.2)) := ⟨fun w' h => by
            have hx := h.trans HX.out
            exact ⟨(blk_cell hx 0).trans rfl, (blk_cell hx 1).trans rfl, (blk_cell hx 2).trans rfl⟩⟩
          obtain ⟨x0, x1, x2⟩ := FX.out wa rfl
          have HZl := Aside0.mk (blk_lt HX.out)
          by_cases h1 : o.1 = 1
          · have hd : (o.1 == 1) = true := by rw [h1]; rfl
            clear h1
            have hwl : (wo l o.2.1).length < 100000 := Nat.lt_of_le_of_lt (wo_sub l _).length_le (by omega)
            go_wp2_with fail
            refine (set_clk wa Sa C k l HBa.out.a o.2.1 o.2.2 WO.out.1 WO.out.2 (by omega)).mono ?_
            rintro e wb ⟨rfl, ⟨Sb, hCb, hSb⟩, hfb⟩
            have HBb := Aside0.mk (HBa.out.a_step HBl.out.size hCb hSb hfb)
            have HBlb := Aside0.mk (fr_below HBl.out hfb HBa.out.na)
            have hz : wb.heap[Z]? = wa.heap[Z]? := hfb.block Z HZl.out HZa.out
            clear x0 x1 x2
            obtain ⟨x0, x1, x2⟩ := FX.out wb hz
            clear hCb hSb hfb hz HBa HBl
            go_wp2_with fail
            refine (rset_any wb Sm M l HBb.out.m o.2.1 o.2.2 hwl).mono ?_
            rintro e wc ⟨rfl, hRc, hfc⟩
            have HBc := Aside0.mk (HBb.out.m_step HBlb.out.size hRc (fun k hk => hk.1) hfc)
            have HBlc := Aside0.mk (fr_below HBlb.out hfc HBb.out.nm)
            clear hRc hfc HBb HBlb x0 x1 x2
            go_wp2_with fail
            go_meet
            exact ⟨_, _, _, HBc.out, HBlc.out⟩
          · have hd1 : (o.1 == 1) = false := beq_eq_false_iff_ne.2 h1
            clear h1
            by_cases h2 : o.1 = 2
            · have hd2 : (o.1 == 2) = true := by rw [h2]; rfl
              clear h2
              have hcc : (clr l o.2.1 != clr l o.2.1) = false := bne_self_eq_false _
              have HCC := Aside0.mk hcc
              go_wp2_with fail
              have HBd : Aside0 (Both W.heap.size wa.drew C M k l l Sa Sm) := ⟨HBa.out.below (below_drew (Below.refl _ _))⟩
              have HBld : Aside0 (Below W.heap.size W wa.drew) := ⟨below_drew HBl.out⟩
              go_region_with (first
                | (go_at_call 10; go_loud (refine (clear_clk wa.drew Sa C k l HBd.out.a o.2.1 WO.out.1).mono ?_; rintro e wb ⟨rfl, hCb, hfb⟩; have HBb := Aside0.mk (HBd.out.a_step HBld.out.size hCb (fun k hk => .inl hk) hfb); have HBlb := Aside0.mk (fr_below HBld.out hfb HBd.out.na); have hz : wb.heap[Z]? = wa.heap[Z]? := hfb.block Z HZl.out HZa.out; obtain ⟨y0, y1, y2⟩ := FX.out wb hz; clear hCb hfb hz))
                | (go_at_call 11; go_loud (refine (rclear_any wb Sm M l HBb.out.m o.2.1).mono ?_; rintro e wc ⟨rfl, hRc, hfc⟩; have HBc := Aside0.mk (HBb.out.m_step HBlb.out.size hRc (fun k hk => hk.1) hfc); have HBlc := Aside0.mk (fr_below HBlb.out hfc HBb.out.nm); clear hRc hfc)))
              all_goals (go_wp2_with fail; go_meet; exact ⟨_, _, _, HBc.out.more (Nat.le_succ _), HBlc.out⟩)
            · have hd2 : (o.1 == 2) = false := beq_eq_false_iff_ne.2 h2
              clear h2
              by_cases h3 : o.1 = 3
              · have hd3 : (o.1 == 3) = true := by rw [h3]; rfl
                clear h3
                go_wp2_with fail
                refine (due_clk wa Sa C k l HBa.out.a o.2.2).mono ?_
                rintro e wb ⟨vb, rfl, hRb, hCb, hfb⟩
                have HBb := Aside0.mk (HBa.out.a_step HBl.out.size hCb (fun k hk => .inl hk) hfb)
                have HBlb := Aside0.mk (fr_below HBl.out hfb HBa.out.na)
                have hz : wb.heap[Z]? = wa.heap[Z]? := hfb.block Z HZl.out HZa.out
                have HLT : Aside0 (∀ k, (Sa k → k < wa.heap.size) ∧ (Sm k → k < wa.heap.size)) := ⟨fun k => ⟨HBa.out.a.lt k, HBa.out.m.lt k⟩⟩
                have HRb := Aside0.mk hRb
                have HWZ := Aside0.mk HBl.out.size
                have hlen : (ids (dueL l o.2.2)).length ≤ k := by
                  rw [ids_len]
                  exact Nat.le_trans (List.takeWhile_sublist _).length_le hlk
                clear hRb hCb hfb HBa HBl x0 x1 x2
                obtain ⟨x0, x1, x2⟩ := FX.out wb hz
                clear hz
                go_wp2_with fail
                refine (rdue_any wb Sm M l HBb.out.m o.2.2).mono ?_
                rintro e wc ⟨vc, rfl, hRc, hCc, hfc⟩
                have HBc := Aside0.mk (HBb.out.m_step HBlb.out.size hCc (fun k hk => .inl hk) hfc)
                have HBlc := Aside0.mk (fr_below HBlb.out hfc HBb.out.nm)
                have HRbc := Aside0.mk (HRb.out.fr hfc (fun k hk => (HLT.out k).2 hk))
                have HRc := Aside0.mk hRc
                clear hRc hCc hfc HBb HBlb HRb x0 x1 x2
                generalize rest l o.2.2 = lr at HBc
                generalize ids (dueL l o.2.2) = ns at HRc HRbc hlen
                obtain ⟨Ab, cb, eb, lb, kb⟩ := HRbc.out.rd
                obtain ⟨Ac, cc, ec, lc, kc⟩ := HRc.out.rd
                subst eb; subst ec
                have HKb := Aside0.mk kb
                have HKc := Aside0.mk kc
                have HLb := Aside0.mk lb
                have HLc := Aside0.mk lc
                clear kb kc lb lc HRc
                go_wp2_with fail
                refine (ints_true wc Ab Ac cb cc ns (by omega) HKb.out HLb.out HKc.out HLc.out).mono ?_
                rintro e wd ⟨rfl, nd, hwd⟩
                have HBd : Aside0 (Both W.heap.size wd C M k lr lr Sa Sm) := ⟨by rw [hwd]; exact HBc.out.below (pw_below_drewN (Below.refl _ _) _)⟩
                have HBld : Aside0 (Below W.heap.size W wd) := ⟨by rw [hwd]; exact pw_below_drewN HBlc.out _⟩
                have HRd : Aside0 (Row wa.heap.size wd (.slice Ab ns.length cb) ns) := ⟨by rw [hwd]; exact own_move HRbc.out (fun _ _ => rfl)⟩
                have hcb := HLb.out
                clear hwd HBc HBlc HRbc HKb HKc HLb HLc
                obtain ⟨hA, hOv, hAb⟩ := HRd.out.ovr
                have HA := Aside0.mk hA
                have HOv := Aside0.mk hOv
                have HAb := Aside0.mk hAb
                clear hA hOv hAb HRd
                go_wp2_with fail
                go_loopw [8] (fun vi wr => ∃ j : Nat, vi = .int .i64 j ∧ j ≤ ns.length ∧ Aside0 (Ovr wd wr Ab ns.length)) (fun vi _ => ns.length - (intOf vi).toNat)
                case atStart => exact ⟨0, rfl, Nat.zero_le _, HOv⟩
                case round =>
                  obtain ⟨j, rfl, hj, HW⟩ := hrel
                  by_cases hlt : j < ns.length
                  · obtain ⟨g', rfl⟩ := HA.out (by omega)
                    obtain ⟨⟨u, hu⟩, hf⟩ := HW.out.cell j hlt
                    go_wp2
                    go_roundw
                    case rel => exact ⟨j + 1, by go_num, by omega, ⟨HW.out.set j _⟩⟩
                    case measure => simp [intOf]; omega
                  · have FIN : Aside0 (After W C M (k + 1) wr) := ⟨⟨lr, Sa, Sm, (HBd.out.grown HW.out.1 (fun g hg => by
                        cases Ab with
                        | none => cases hg
                        | some a =>
                          have h1 := HAb.out a rfl
                          simp at hg
                          subst hg
                          have h2 := HLT.out a.block
                          exact ⟨fun h => by have := h2.1 h; omega, fun h => by have := h2.2 h; omega⟩)).more (Nat.le_succ _), HW.out.below HBld.out HBld.out.size (fun a ha => Nat.le_trans HWZ.out (HAb.out a ha))⟩⟩
                    go_wp2_with fail
                    go_meet
                    exact FIN
              · have hd3 : (o.1 == 3) = false := beq_eq_false_iff_ne.2 h3
                clear h3
                go_wp2_with fail
                go_meet
                exact ⟨_, _, _, HBa.out.more (Nat.le_succ _), HBl.out⟩
        case rest =>
          obtain ⟨l', Sa', Sm', hBo', hB'⟩ := hcut.out
          have HBo' := Aside0.mk hBo'
          have HB' := Aside0.mk hB'
          clear hcut hBo' hB' o0 o1 o2
          cases l' with
          | nil =>
            go_wp2_with fail
            refine (next_clk0 wc Sa' C _ HBo'.out.a).mono ?_
            rintro e w5 ⟨rfl, rfl⟩
            go_wp2_with fail
            refine (rnext_none w5 Sm' M HBo'.out.m).mono ?_
            rintro e w6 ⟨rfl, rfl⟩
            obtain ⟨⟨A6, c6, hM6, _⟩, _, _, _⟩ := HBo'.out.m
            have m0 : w6.cell? ⟨M, 0, none⟩ = some (.slice A6 0 c6) := (blk_cell hM6 0).trans rfl
            clear hM6
            have hl0 : (((([] : List Al).length : Nat) : Int)) = 0 := rfl
            clear hl0
            go_wp2_with fail
            go_quiet ((go_at_call 17; exact Calls.quiet_of_same (len_clk _ Sa' C _ [] (HBo'.out.a.drewN _))))
            go_wp2_with fail
            go_roundw
            case rel => exact ⟨k + 1, by go_num, by omega, ⟨[], Sa', Sm', HBo'.out.below (pw_below_drewN (Below.refl _ _) _), pw_below_drewN HB'.out _⟩⟩
            case measure => simp [intOf]; omega
          | cons x l' =>
            go_wp2_with fail
            refine (next_clk1 wc Sa' C _ x l' HBo'.out.a).mono ?_
            rintro e w5 ⟨rfl, n5, hw5⟩
            have HBo5 : Aside0 (Both W.heap.size w5 C M (k + 1) (x :: l') (x :: l') Sa' Sm') := ⟨by rw [hw5]; exact HBo'.out.below (pw_below_drewN (Below.refl _ _) _)⟩
            have HB5 : Aside0 (Below W.heap.size W w5) := ⟨by rw [hw5]; exact pw_below_drewN HB'.out _⟩
            clear hw5 HBo' HB'
            go_wp2_with fail
            refine (rnext_some w5 Sm' M x l' HBo5.out.m).mono ?_
            rintro e w6 ⟨rfl, n6, hw6⟩
            have HBo6 : Aside0 (Both W.heap.size w6 C M (k + 1) (x :: l') (x :: l') Sa' Sm') := ⟨by rw [hw6]; exact HBo5.out.below (pw_below_drewN (Below.refl _ _) _)⟩
            have HB6 : Aside0 (Below W.heap.size W w6) := ⟨by rw [hw6]; exact pw_below_drewN HB5.out _⟩
            clear hw6 HBo5 HB5
            obtain ⟨g6, k6, c6, hM6, _, _, _, _⟩ := HBo6.out.m.head
            have m0 : w6.cell? ⟨M, 0, none⟩ = some (.slice (some ⟨g6, k6, none⟩) (l'.length + 1) c6) := (blk_cell hM6 0).trans rfl
            clear hM6
            have hb1 : (x.1 != x.1) = false := bne_self_eq_false _
            have hb2 : (x.2 != x.2) = false := bne_self_eq_false _
            go_wp2_with fail
            go_quiet ((go_at_call 17; exact Calls.quiet_of_same (len_clk _ Sa' C _ (x :: l') (HBo6.out.a.drewN _))))
            go_wp2_with fail
            go_roundw
            case rel => exact ⟨k + 1, by go_num, by omega, ⟨x :: l', Sa', Sm', HBo6.out.below (pw_below_drewN (Below.refl _ _) _), pw_below_drewN HB6.out _⟩⟩
            case measure => simp [intOf]; omega
      · obtain rfl : k = ops.length := by omega
        clear hlt
        go_wp2_with fail
        refine (awake_any wr).mono ?_
        rintro e w3 ⟨rfl, hb3⟩
        have HB3 : Aside0 (Below W.heap.size W w3) := ⟨below_then HB.out HB.out.size hb3⟩
        clear hb3
        go_wp2
        go_ret
        exact ⟨rfl, HB3.out⟩
end Go.Proofs.Ytimpfiaolblgmaa.AlarmQ
