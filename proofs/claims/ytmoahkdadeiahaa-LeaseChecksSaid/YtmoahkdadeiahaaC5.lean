-- WRITTEN BY a program of this session's (wip/gprint.py, over the kit's print), with functions given by hand among them. Not trusted: Lean checks it.
import Derived.Test.YtmoahkdadeiahaaC0
import Derived.BigQuiet
import Derived.BigRegion
import Derived.Deep.QuietTactic
import Derived.IntWalk
import Derived.LoopTactic
import Derived.RegionTactic
import Derived.Test.YtmoahkdadeiahaaBlk
import Derived.Test.YtmoahkdadeiahaaLeaseR
import Derived.WalkKit
namespace Go.Proofs.Ytmoahkdadeiahaa.C
open Go.RowKit Go.Proofs.YtmoahkdadeiahaaW.PrintWords Go.Proofs.YtmoahkdadeiahaaW.PrintLast Go.Proofs.YtmoahkdadeiahaaW.PrintMore
attribute [local go_sem] max2_int min2_int max_two min_two max_three min_three max_four min_four   -- for this text's walks alone
set_option linter.unusedVariables false
set_option linter.unusedSimpArgs false

-- GIVEN imports=Derived.Test.YtmoahkdadeiahaaLeaseR,Derived.Test.YtmoahkdadeiahaaBlk,Derived.WalkKit,Derived.LoopTactic,Derived.RegionTactic,Derived.BigRegion,Derived.BigQuiet,Derived.Deep.QuietTactic,Derived.IntWalk
/-! ### folkmootref20_Right: function 17, given -/
open Go.Proofs.Ytmoahkdadeiahaa.Hold in
def folkmootref20_Right.f (a0_0 : Int) (a0_1 : Int) (a0_2 : Int) (l0_3 : List (S59)) (a0_4 : Int) (a0_5 : Int) : Option (Bool) := if l0_3.length ≤ 2000 then some (right a0_0 a0_1 a0_2 l0_3 a0_4 a0_5) else none
open Go.Proofs.Ytmoahkdadeiahaa.Hold in
theorem right_within (a b : Int) (w : World) : Calls Try.prog 36 #[.int .i64 a, .int .i64 b] w fun e w' => e = .returned (.bool (win a b)) ∧ w = w' := by
  by_cases h : 0 ≤ a
  · have hd : decide (0 ≤ a) = true := decide_eq_true h
    have e1 : Aside0 (win a b = decide (a ≤ b)) := ⟨by unfold win; exact decide_eq_decide.2 (by omega)⟩
    go_enter Try.func36, Try.ntmps36
    go_wp2
    go_ret
    exact ⟨by rw [e1.out]; rfl, rfl⟩
  · have hd : decide (0 ≤ a) = false := decide_eq_false h
    have e1 : Aside0 (win a b = false) := ⟨by unfold win; exact decide_eq_false (by omega)⟩
    go_enter Try.func36, Try.ntmps36
    go_wp2
    go_ret
    exact ⟨by rw [e1.out]; rfl, rfl⟩
open Go.Proofs.Ytmoahkdadeiahaa.Hold in
theorem right_at {w w' : World} {A : Option Addr} {l : List S59} (h : Kd.C k59 w A l.length l) (hb : Below w.heap.size w w') {i : Nat} {x : S59} (hx : l[i]? = some x) : ∃ ad, A = some ad ∧ w'.cell? (ad.add (i * 2)) = some (.int .i64 x.f0) ∧ w'.cell? ⟨(ad.add (i * 2)).block, (ad.add (i * 2)).off + 1, none⟩ = some (.int .i64 x.f1) := by
  have hi : i < l.length := (List.getElem?_eq_some_iff.1 hx).1
  obtain ⟨ad, e, h0, h1⟩ := at_T59 (Kd.C_below h hb) (i : Int) (by omega) (by omega)
  have er : rd_T59 l (i : Int) = x := by rw [rd_at l i hi]; exact (List.getElem?_eq_some_iff.1 hx).2
  rw [er] at h0 h1
  exact ⟨ad, e, by simpa using h0, by simpa using h1⟩
open Go.Proofs.Ytmoahkdadeiahaa.Hold in
set_option maxHeartbeats 8000000 in
set_option maxRecDepth 100000 in
theorem right_any (a0 a1 a2 : Int) (A : Option Addr) (c : Nat) (l : List S59) (a4 a5 : Int) (w : World) (hr : Kd.C k59 w A l.length l) (hc : l.length ≤ c) (hl : l.length ≤ 2000) :
    Calls Try.prog 17 #[.agg #[.int .i64 a0, .int .i64 a1, .int .i64 a2, .slice A l.length c, .int .i64 a4, .int .i64 a5]] w fun e w' => e = .returned (.bool (right a0 a1 a2 l a4 a5)) ∧ Below w.heap.size w w' := by
  obtain ⟨W0, hW0⟩ : ∃ W0, W0 = w.alloc (.cells #[.int .i64 a0, .int .i64 a1, .int .i64 a2, .slice A l.length c, .int .i64 a4, .int .i64 a5] 29) := ⟨_, rfl⟩
  have EW := Aside0.mk hW0
  have HB0 : Aside0 (Below w.heap.size w W0) := ⟨by rw [hW0]; exact below_alloc (Below.refl _ _) _⟩
  have HX0 : Aside0 (W0.heap[w.heap.size]? = some (.cells #[.int .i64 a0, .int .i64 a1, .int .i64 a2, .slice A l.length c, .int .i64 a4, .int .i64 a5] 29 (0, 0))) := ⟨by rw [hW0]; exact blk_new w _⟩
  have HR := Aside0.mk hr
  clear hW0 hr
  have FX : Aside0 (∀ w' : World, w'.heap[w.heap.size]? = W0.heap[w.heap.size]? → w'.cell? ⟨w.heap.size, 0, none⟩ = some (.int .i64 a0) ∧ w'.cell? ⟨w.heap.size, 1, none⟩ = some (.int .i64 a1) ∧ w'.cell? ⟨w.heap.size, 2, none⟩ = some (.int .i64 a2) ∧ w'.cell? ⟨w.heap.size, 3, none⟩ = some (.slice A l.length c) ∧ w'.cell? ⟨w.heap.size, 4, none⟩ = some (.int .i64 a4) ∧ w'.cell? ⟨w.heap.size, 5, none⟩ = some (.int .i64 a5)) := ⟨fun w' h => by
    have hx := h.trans HX0.out
    exact ⟨(blk_cell hx 0).trans rfl, (blk_cell hx 1).trans rfl, (blk_cell hx 2).trans rfl, (blk_cell hx 3).trans rfl, (blk_cell hx 4).trans rfl, (blk_cell hx 5).trans rfl⟩⟩
  cases h1 : win (wrap64 (a0 - 11)) 2 with
  | false =>
    have FIN : Aside0 (right a0 a1 a2 l a4 a5 = false) := ⟨by simp [right, headOK, h1]⟩
    go_enter Try.func17, Try.ntmps17
    go_wp2_with fail
    rw [← EW.out]
    obtain ⟨x0, x1, x2, x3, x4, x5⟩ := FX.out W0 rfl
    go_wp2_with (go_at_call 36; refine (right_within _ _ _).mono ?_; rintro e w' ⟨rfl, rfl⟩)
    go_ret
    exact ⟨by rw [FIN.out]; rfl, HB0.out⟩
  | true =>
    cases h2 : win a1 1000000000 with
    | false =>
      have FIN : Aside0 (right a0 a1 a2 l a4 a5 = false) := ⟨by simp [right, headOK, h1, h2]⟩
      go_enter Try.func17, Try.ntmps17
      go_wp2_with fail
      rw [← EW.out]
      obtain ⟨x0, x1, x2, x3, x4, x5⟩ := FX.out W0 rfl
      go_wp2_with (go_at_call 36; refine (right_within _ _ _).mono ?_; rintro e w' ⟨rfl, rfl⟩)
      go_ret
      exact ⟨by rw [FIN.out]; rfl, HB0.out⟩
    | true =>
      cases h3 : win a2 1000000000 with
      | false =>
        have FIN : Aside0 (right a0 a1 a2 l a4 a5 = false) := ⟨by simp [right, headOK, h1, h2, h3]⟩
        go_enter Try.func17, Try.ntmps17
        go_wp2_with fail
        rw [← EW.out]
        obtain ⟨x0, x1, x2, x3, x4, x5⟩ := FX.out W0 rfl
        go_wp2_with (go_at_call 36; refine (right_within _ _ _).mono ?_; rintro e w' ⟨rfl, rfl⟩)
        go_ret
        exact ⟨by rw [FIN.out]; rfl, HB0.out⟩
      | true =>
        cases h4 : win a4 1000000000 with
        | false =>
          have FIN : Aside0 (right a0 a1 a2 l a4 a5 = false) := ⟨by simp [right, headOK, h1, h2, h3, h4]⟩
          go_enter Try.func17, Try.ntmps17
          go_wp2_with fail
          rw [← EW.out]
          obtain ⟨x0, x1, x2, x3, x4, x5⟩ := FX.out W0 rfl
          go_wp2_with (go_at_call 36; refine (right_within _ _ _).mono ?_; rintro e w' ⟨rfl, rfl⟩)
          go_ret
          exact ⟨by rw [FIN.out]; rfl, HB0.out⟩
        | true =>
          cases h5 : win a5 a1 with
          | false =>
            have FIN : Aside0 (right a0 a1 a2 l a4 a5 = false) := ⟨by simp [right, headOK, h1, h2, h3, h4, h5]⟩
            go_enter Try.func17, Try.ntmps17
            go_wp2_with fail
            rw [← EW.out]
            obtain ⟨x0, x1, x2, x3, x4, x5⟩ := FX.out W0 rfl
            go_wp2_with (go_at_call 36; refine (right_within _ _ _).mono ?_; rintro e w' ⟨rfl, rfl⟩)
            go_ret
            exact ⟨by rw [FIN.out]; rfl, HB0.out⟩
          | true =>
            by_cases c1 : a4 = 0 ∧ a5 ≠ 0
            · obtain ⟨c1, c2⟩ := c1
              have d1 : (a4 == 0) = true := by rw [c1]; rfl
              have d2 : (a5 != 0) = true := bne_iff_ne.2 c2
              have FIN : Aside0 (right a0 a1 a2 l a4 a5 = false) := ⟨by simp [right, headOK, h1, h2, h3, h4, h5, c1, c2]⟩
              clear c1 c2
              go_enter Try.func17, Try.ntmps17
              go_wp2_with fail
              rw [← EW.out]
              obtain ⟨x0, x1, x2, x3, x4, x5⟩ := FX.out W0 rfl
              go_wp2_with (go_at_call 36; refine (right_within _ _ _).mono ?_; rintro e w' ⟨rfl, rfl⟩)
              go_ret
              exact ⟨by rw [FIN.out]; rfl, HB0.out⟩
            · by_cases c3 : l.length ≤ 16
              · have HEAD : Aside0 (headOK a0 a1 a2 a4 a5 l.length = true) := ⟨by
                  by_cases c4 : a4 = 0
                  · by_cases c5 : a5 = 0
                    · subst c4; subst c5; simp [headOK, h1, h2, h3, h4, h5, c3]
                    · exact absurd ⟨c4, c5⟩ c1
                  · simp [headOK, h1, h2, h3, h4, h5, c3, c4]⟩
                have d3 : decide (16 < (l.length : Int)) = false := decide_eq_false (by omega)
                clear c3
                by_cases c4 : a4 = 0
                · have d1 : (a4 == 0) = true := by rw [c4]; rfl
                  have d2 : (a5 != 0) = false := by rw [bne_eq_false_iff_eq]; exact Classical.not_not.1 (fun e => c1 ⟨c4, e⟩)
                  clear c1 c4
                  go_enter Try.func17, Try.ntmps17
                  go_wp2_with fail
                  rw [← EW.out]
                  obtain ⟨x0, x1, x2, x3, x4, x5⟩ := FX.out W0 rfl
                  go_wp2_with (go_at_call 36; refine (right_within _ _ _).mono ?_; rintro e w' ⟨rfl, rfl⟩)
                  clear x0 x1 x2 x3 x4 x5 h1 h2 h3 h4 h5
                  have HZ : Aside0 (w.heap.size < W0.heap.size) := ⟨blk_lt HX0.out⟩
                  go_loopw [3] (fun vi wr => ∃ k : Nat, vi = .int .i64 k ∧ k ≤ l.length ∧ Aside0 (AtRow a2 a1 l k) ∧ Aside0 (Below W0.heap.size W0 wr)) (fun vi _ => l.length - (intOf vi).toNat)
                  case atStart => exact ⟨0, rfl, by omega, ⟨AtRow.first _ _ _⟩, ⟨Below.refl _ _⟩⟩
                  case round =>
                    obtain ⟨k, rfl, hk, HAt, HB⟩ := hrel
                    have HBW : Aside0 (Below w.heap.size w wr) := ⟨below_then HB0.out HB0.out.size HB.out⟩
                    obtain ⟨x0, x1, x2, x3, x4, x5⟩ := FX.out wr (HB.out.block _ HZ.out)
                    by_cases hlt : k < l.length
                    · obtain ⟨x, hx⟩ : ∃ x, l[k]? = some x := ⟨_, List.getElem?_eq_getElem hlt⟩
                      have HX := Aside0.mk hx
                      have hxk : l[k] = x := (List.getElem?_eq_some_iff.1 hx).2
                      have GO := Aside0.mk (fun h1 h0 h2 h3 => HAt.out.step (i := k) hlt h1 h0 h2 h3)
                      have BAD := Aside0.mk (fun hb => HAt.out.bad (i := k) hlt hb)
                      rw [hxk] at GO BAD
                      have POS := Aside0.mk HAt.out.pos
                      clear hxk HAt hx
                      obtain ⟨ad, rfl, y0, y1⟩ := right_at HR.out HBW.out HX.out
                      go_wp2_with fail
                      obtain ⟨w2, hw2⟩ : ∃ w2, w2 = wr.alloc (.cells #[.int .i64 x.f0, .int .i64 x.f1] 59) := ⟨_, rfl⟩
                      have HB2 : Aside0 (Below W0.heap.size W0 w2) := ⟨by rw [hw2]; exact below_alloc HB.out _⟩
                      have hs := (show w2.heap[wr.heap.size]? = some (.cells #[.int .i64 x.f0, .int .i64 x.f1] 59 (0, 0)) by rw [hw2]; exact blk_new wr _)
                      have s0 : w2.cell? ⟨wr.heap.size, 0, none⟩ = some (.int .i64 x.f0) := (blk_cell hs 0).trans rfl
                      have s1 : w2.cell? ⟨wr.heap.size, 1, none⟩ = some (.int .i64 x.f1) := (blk_cell hs 1).trans rfl
                      rw [← hw2]
                      clear hw2 hs x0 x1 x2 x3 x4 x5 y0 y1 HBW
                      generalize wr.heap.size = Z at s0 s1 ⊢
                      have HBW : Aside0 (Below w.heap.size w w2) := ⟨below_then HB0.out HB0.out.size HB2.out⟩
                      obtain ⟨x0, x1, x2, x3, x4, x5⟩ := FX.out w2 (HB2.out.block _ HZ.out)
                      by_cases hk0 : k = 0
                      · have z1 : decide (0 < (k : Int)) = false := decide_eq_false (by omega)
                        have z2 : decide (0 < k) = false := decide_eq_false (by omega)
                        have LO : Aside0 (lastOf l k = 0) := ⟨by rw [hk0]; rfl⟩
                        clear hk0
                        by_cases t2 : x.f0 < 1
                        · have d2 : decide (x.f0 < 1) = true := decide_eq_true t2
                          have FIN : Aside0 (right a0 a1 a2 l a4 a5 = false) := ⟨by unfold right; rw [BAD.out (fun h => by have := h.1; have := h.2.1; have := h.2.2; rw [LO.out] at *; omega), Bool.and_false]⟩
                          go_quiet (((go_at_call 36; exact Calls.quiet_of_same ((right_within _ _ _).mono (fun _ _ h => ⟨h.1, h.2.symm⟩)))))
                          go_wp2_with fail
                          go_ret
                          exact ⟨by rw [FIN.out]; rfl, pw_below_drewN HBW.out _⟩
                        · have d2 : decide (x.f0 < 1) = false := decide_eq_false t2
                          by_cases t3 : a2 < x.f0
                          · have d3' : decide (a2 < x.f0) = true := decide_eq_true t3
                            have FIN : Aside0 (right a0 a1 a2 l a4 a5 = false) := ⟨by unfold right; rw [BAD.out (fun h => by have := h.1; have := h.2.1; have := h.2.2; omega), Bool.and_false]⟩
                            go_quiet (((go_at_call 36; exact Calls.quiet_of_same ((right_within _ _ _).mono (fun _ _ h => ⟨h.1, h.2.symm⟩)))))
                            go_wp2_with fail
                            go_ret
                            exact ⟨by rw [FIN.out]; rfl, pw_below_drewN HBW.out _⟩
                          · have d3' : decide (a2 < x.f0) = false := decide_eq_false t3
                            cases t4 : win x.f1 a1 with
                            | false =>
                              have FIN : Aside0 (right a0 a1 a2 l a4 a5 = false) := ⟨by unfold right; rw [BAD.out (fun h => by have := h.1; have := h.2.1; have := h.2.2; rw [t4] at *; simp at *), Bool.and_false]⟩
                              go_quiet (((go_at_call 36; exact Calls.quiet_of_same ((right_within _ _ _).mono (fun _ _ h => ⟨h.1, h.2.symm⟩)))))
                              go_wp2_with fail
                              go_ret
                              exact ⟨by rw [FIN.out]; rfl, pw_below_drewN HBW.out _⟩
                            | true =>
                              have NX : Aside0 (AtRow a2 a1 l (k + 1)) := ⟨GO.out (by rw [LO.out]; omega) (by omega) (by omega) t4⟩
                              go_quiet (((go_at_call 36; exact Calls.quiet_of_same ((right_within _ _ _).mono (fun _ _ h => ⟨h.1, h.2.symm⟩)))))
                              go_wp2_with fail
                              go_roundw
                              case rel => exact ⟨k + 1, by go_num, by omega, NX, ⟨pw_below_drewN HB2.out _⟩⟩
                              case measure => simp [intOf]; omega
                      · have z1 : decide (0 < (k : Int)) = true := decide_eq_true (by omega)
                        have z2 : decide (0 < k) = true := decide_eq_true (by omega)
                        obtain ⟨p, hp⟩ : ∃ p, l[k - 1]? = some p := ⟨_, List.getElem?_eq_getElem (by omega)⟩
                        have LO : Aside0 (lastOf l k = p.f0) := ⟨by unfold lastOf; rw [if_neg hk0, List.getD_eq_getElem?_getD, hp]; rfl⟩
                        have hpos : 1 ≤ p.f0 := by rw [← LO.out]; exact POS.out (by omega)
                        obtain ⟨ad3, ea3, q0, q1⟩ := right_at HR.out HBW.out hp
                        obtain rfl : ad = ad3 := by injection ea3
                        have e0 : (0 : Int) ≤ (k : Int) - 1 := by omega
                        have e5 : (k : Int) - 1 < (l.length : Int) := by omega
                        clear hp ea3 hk0
                        by_cases t1 : x.f0 ≤ p.f0
                        · have d1 : decide (x.f0 ≤ p.f0) = true := decide_eq_true t1
                          have FIN : Aside0 (right a0 a1 a2 l a4 a5 = false) := ⟨by unfold right; rw [BAD.out (fun h => by have := h.1; rw [LO.out] at this; omega), Bool.and_false]⟩
                          have e1 : IntKind.i64.wrap ((k : Int) - 1) = (k : Int) - 1 := IntWalk.i64_in _ (by omega)
                          have e3 : ((k : Int) - 1).toNat = k - 1 := by omega
                          go_quiet (((go_at_call 36; exact Calls.quiet_of_same ((right_within _ _ _).mono (fun _ _ h => ⟨h.1, h.2.symm⟩)))))
                          go_wp2_with fail
                          go_ret
                          exact ⟨by rw [FIN.out]; rfl, pw_below_drewN HBW.out _⟩
                        · have d1 : decide (x.f0 ≤ p.f0) = false := decide_eq_false t1
                          have d2 : decide (x.f0 < 1) = false := decide_eq_false (by omega)
                          by_cases t3 : a2 < x.f0
                          · have d3' : decide (a2 < x.f0) = true := decide_eq_true t3
                            have FIN : Aside0 (right a0 a1 a2 l a4 a5 = false) := ⟨by unfold right; rw [BAD.out (fun h => by have := h.2.1; omega), Bool.and_false]⟩
                            have e1 : IntKind.i64.wrap ((k : Int) - 1) = (k : Int) - 1 := IntWalk.i64_in _ (by omega)
                            have e3 : ((k : Int) - 1).toNat = k - 1 := by omega
                            go_quiet (((go_at_call 36; exact Calls.quiet_of_same ((right_within _ _ _).mono (fun _ _ h => ⟨h.1, h.2.symm⟩)))))
                            go_wp2_with fail
                            go_ret
                            exact ⟨by rw [FIN.out]; rfl, pw_below_drewN HBW.out _⟩
                          · have d3' : decide (a2 < x.f0) = false := decide_eq_false t3
                            cases t4 : win x.f1 a1 with
                            | false =>
                              have FIN : Aside0 (right a0 a1 a2 l a4 a5 = false) := ⟨by unfold right; rw [BAD.out (fun h => by have := h.2.2; rw [t4] at this; cases this), Bool.and_false]⟩
                              have e1 : IntKind.i64.wrap ((k : Int) - 1) = (k : Int) - 1 := IntWalk.i64_in _ (by omega)
                              have e3 : ((k : Int) - 1).toNat = k - 1 := by omega
                              go_quiet (((go_at_call 36; exact Calls.quiet_of_same ((right_within _ _ _).mono (fun _ _ h => ⟨h.1, h.2.symm⟩)))))
                              go_wp2_with fail
                              go_ret
                              exact ⟨by rw [FIN.out]; rfl, pw_below_drewN HBW.out _⟩
                            | true =>
                              have NX : Aside0 (AtRow a2 a1 l (k + 1)) := ⟨GO.out (by rw [LO.out]; omega) (by omega) (by omega) t4⟩
                              have e1 : IntKind.i64.wrap ((k : Int) - 1) = (k : Int) - 1 := IntWalk.i64_in _ (by omega)
                              have e3 : ((k : Int) - 1).toNat = k - 1 := by omega
                              go_quiet (((go_at_call 36; exact Calls.quiet_of_same ((right_within _ _ _).mono (fun _ _ h => ⟨h.1, h.2.symm⟩)))))
                              clear e1 e3 e0 e5
                              go_wp2_with fail
                              go_roundw
                              case rel => exact ⟨k + 1, by go_num, by omega, NX, ⟨pw_below_drewN HB2.out _⟩⟩
                              case measure => simp [intOf]; omega
                    · obtain rfl : k = l.length := by omega
                      have FIN : Aside0 (right a0 a1 a2 l a4 a5 = true) := ⟨by unfold right; rw [HEAD.out, HAt.out.all]; rfl⟩
                      go_wp2_with fail
                      go_ret
                      exact ⟨by rw [FIN.out]; rfl, HBW.out⟩
                · have d1 : (a4 == 0) = false := beq_eq_false_iff_ne.2 c4
                  clear c1 c4
                  go_enter Try.func17, Try.ntmps17
                  go_wp2_with fail
                  rw [← EW.out]
                  obtain ⟨x0, x1, x2, x3, x4, x5⟩ := FX.out W0 rfl
                  go_wp2_with (go_at_call 36; refine (right_within _ _ _).mono ?_; rintro e w' ⟨rfl, rfl⟩)
                  clear x0 x1 x2 x3 x4 x5 h1 h2 h3 h4 h5
                  have HZ : Aside0 (w.heap.size < W0.heap.size) := ⟨blk_lt HX0.out⟩
                  go_loopw [3] (fun vi wr => ∃ k : Nat, vi = .int .i64 k ∧ k ≤ l.length ∧ Aside0 (AtRow a2 a1 l k) ∧ Aside0 (Below W0.heap.size W0 wr)) (fun vi _ => l.length - (intOf vi).toNat)
                  case atStart => exact ⟨0, rfl, by omega, ⟨AtRow.first _ _ _⟩, ⟨Below.refl _ _⟩⟩
                  case round =>
                    obtain ⟨k, rfl, hk, HAt, HB⟩ := hrel
                    have HBW : Aside0 (Below w.heap.size w wr) := ⟨below_then HB0.out HB0.out.size HB.out⟩
                    obtain ⟨x0, x1, x2, x3, x4, x5⟩ := FX.out wr (HB.out.block _ HZ.out)
                    by_cases hlt : k < l.length
                    · obtain ⟨x, hx⟩ : ∃ x, l[k]? = some x := ⟨_, List.getElem?_eq_getElem hlt⟩
                      have HX := Aside0.mk hx
                      have hxk : l[k] = x := (List.getElem?_eq_some_iff.1 hx).2
                      have GO := Aside0.mk (fun h1 h0 h2 h3 => HAt.out.step (i := k) hlt h1 h0 h2 h3)
                      have BAD := Aside0.mk (fun hb => HAt.out.bad (i := k) hlt hb)
                      rw [hxk] at GO BAD
                      have POS := Aside0.mk HAt.out.pos
                      clear hxk HAt hx
                      obtain ⟨ad, rfl, y0, y1⟩ := right_at HR.out HBW.out HX.out
                      go_wp2_with fail
                      obtain ⟨w2, hw2⟩ : ∃ w2, w2 = wr.alloc (.cells #[.int .i64 x.f0, .int .i64 x.f1] 59) := ⟨_, rfl⟩
                      have HB2 : Aside0 (Below W0.heap.size W0 w2) := ⟨by rw [hw2]; exact below_alloc HB.out _⟩
                      have hs := (show w2.heap[wr.heap.size]? = some (.cells #[.int .i64 x.f0, .int .i64 x.f1] 59 (0, 0)) by rw [hw2]; exact blk_new wr _)
                      have s0 : w2.cell? ⟨wr.heap.size, 0, none⟩ = some (.int .i64 x.f0) := (blk_cell hs 0).trans rfl
                      have s1 : w2.cell? ⟨wr.heap.size, 1, none⟩ = some (.int .i64 x.f1) := (blk_cell hs 1).trans rfl
                      rw [← hw2]
                      clear hw2 hs x0 x1 x2 x3 x4 x5 y0 y1 HBW
                      generalize wr.heap.size = Z at s0 s1 ⊢
                      have HBW : Aside0 (Below w.heap.size w w2) := ⟨below_then HB0.out HB0.out.size HB2.out⟩
                      obtain ⟨x0, x1, x2, x3, x4, x5⟩ := FX.out w2 (HB2.out.block _ HZ.out)
                      by_cases hk0 : k = 0
                      · have z1 : decide (0 < (k : Int)) = false := decide_eq_false (by omega)
                        have z2 : decide (0 < k) = false := decide_eq_false (by omega)
                        have LO : Aside0 (lastOf l k = 0) := ⟨by rw [hk0]; rfl⟩
                        clear hk0
                        by_cases t2 : x.f0 < 1
                        · have d2 : decide (x.f0 < 1) = true := decide_eq_true t2
                          have FIN : Aside0 (right a0 a1 a2 l a4 a5 = false) := ⟨by unfold right; rw [BAD.out (fun h => by have := h.1; have := h.2.1; have := h.2.2; rw [LO.out] at *; omega), Bool.and_false]⟩
                          go_quiet (((go_at_call 36; exact Calls.quiet_of_same ((right_within _ _ _).mono (fun _ _ h => ⟨h.1, h.2.symm⟩)))))
                          go_wp2_with fail
                          go_ret
                          exact ⟨by rw [FIN.out]; rfl, pw_below_drewN HBW.out _⟩
                        · have d2 : decide (x.f0 < 1) = false := decide_eq_false t2
                          by_cases t3 : a2 < x.f0
                          · have d3' : decide (a2 < x.f0) = true := decide_eq_true t3
                            have FIN : Aside0 (right a0 a1 a2 l a4 a5 = false) := ⟨by unfold right; rw [BAD.out (fun h => by have := h.1; have := h.2.1; have := h.2.2; omega), Bool.and_false]⟩
                            go_quiet (((go_at_call 36; exact Calls.quiet_of_same ((right_within _ _ _).mono (fun _ _ h => ⟨h.1, h.2.symm⟩)))))
                            go_wp2_with fail
                            go_ret
                            exact ⟨by rw [FIN.out]; rfl, pw_below_drewN HBW.out _⟩
                          · have d3' : decide (a2 < x.f0) = false := decide_eq_false t3
                            cases t4 : win x.f1 a1 with
                            | false =>
                              have FIN : Aside0 (right a0 a1 a2 l a4 a5 = false) := ⟨by unfold right; rw [BAD.out (fun h => by have := h.1; have := h.2.1; have := h.2.2; rw [t4] at *; simp at *), Bool.and_false]⟩
                              go_quiet (((go_at_call 36; exact Calls.quiet_of_same ((right_within _ _ _).mono (fun _ _ h => ⟨h.1, h.2.symm⟩)))))
                              go_wp2_with fail
                              go_ret
                              exact ⟨by rw [FIN.out]; rfl, pw_below_drewN HBW.out _⟩
                            | true =>
                              have NX : Aside0 (AtRow a2 a1 l (k + 1)) := ⟨GO.out (by rw [LO.out]; omega) (by omega) (by omega) t4⟩
                              go_quiet (((go_at_call 36; exact Calls.quiet_of_same ((right_within _ _ _).mono (fun _ _ h => ⟨h.1, h.2.symm⟩)))))
                              go_wp2_with fail
                              go_roundw
                              case rel => exact ⟨k + 1, by go_num, by omega, NX, ⟨pw_below_drewN HB2.out _⟩⟩
                              case measure => simp [intOf]; omega
                      · have z1 : decide (0 < (k : Int)) = true := decide_eq_true (by omega)
                        have z2 : decide (0 < k) = true := decide_eq_true (by omega)
                        obtain ⟨p, hp⟩ : ∃ p, l[k - 1]? = some p := ⟨_, List.getElem?_eq_getElem (by omega)⟩
                        have LO : Aside0 (lastOf l k = p.f0) := ⟨by unfold lastOf; rw [if_neg hk0, List.getD_eq_getElem?_getD, hp]; rfl⟩
                        have hpos : 1 ≤ p.f0 := by rw [← LO.out]; exact POS.out (by omega)
                        obtain ⟨ad3, ea3, q0, q1⟩ := right_at HR.out HBW.out hp
                        obtain rfl : ad = ad3 := by injection ea3
                        have e0 : (0 : Int) ≤ (k : Int) - 1 := by omega
                        have e5 : (k : Int) - 1 < (l.length : Int) := by omega
                        clear hp ea3 hk0
                        by_cases t1 : x.f0 ≤ p.f0
                        · have d1 : decide (x.f0 ≤ p.f0) = true := decide_eq_true t1
                          have FIN : Aside0 (right a0 a1 a2 l a4 a5 = false) := ⟨by unfold right; rw [BAD.out (fun h => by have := h.1; rw [LO.out] at this; omega), Bool.and_false]⟩
                          have e1 : IntKind.i64.wrap ((k : Int) - 1) = (k : Int) - 1 := IntWalk.i64_in _ (by omega)
                          have e3 : ((k : Int) - 1).toNat = k - 1 := by omega
                          go_quiet (((go_at_call 36; exact Calls.quiet_of_same ((right_within _ _ _).mono (fun _ _ h => ⟨h.1, h.2.symm⟩)))))
                          go_wp2_with fail
                          go_ret
                          exact ⟨by rw [FIN.out]; rfl, pw_below_drewN HBW.out _⟩
                        · have d1 : decide (x.f0 ≤ p.f0) = false := decide_eq_false t1
                          have d2 : decide (x.f0 < 1) = false := decide_eq_false (by omega)
                          by_cases t3 : a2 < x.f0
                          · have d3' : decide (a2 < x.f0) = true := decide_eq_true t3
                            have FIN : Aside0 (right a0 a1 a2 l a4 a5 = false) := ⟨by unfold right; rw [BAD.out (fun h => by have := h.2.1; omega), Bool.and_false]⟩
                            have e1 : IntKind.i64.wrap ((k : Int) - 1) = (k : Int) - 1 := IntWalk.i64_in _ (by omega)
                            have e3 : ((k : Int) - 1).toNat = k - 1 := by omega
                            go_quiet (((go_at_call 36; exact Calls.quiet_of_same ((right_within _ _ _).mono (fun _ _ h => ⟨h.1, h.2.symm⟩)))))
                            go_wp2_with fail
                            go_ret
                            exact ⟨by rw [FIN.out]; rfl, pw_below_drewN HBW.out _⟩
                          · have d3' : decide (a2 < x.f0) = false := decide_eq_false t3
                            cases t4 : win x.f1 a1 with
                            | false =>
                              have FIN : Aside0 (right a0 a1 a2 l a4 a5 = false) := ⟨by unfold right; rw [BAD.out (fun h => by have := h.2.2; rw [t4] at this; cases this), Bool.and_false]⟩
                              have e1 : IntKind.i64.wrap ((k : Int) - 1) = (k : Int) - 1 := IntWalk.i64_in _ (by omega)
                              have e3 : ((k : Int) - 1).toNat = k - 1 := by omega
                              go_quiet (((go_at_call 36; exact Calls.quiet_of_same ((right_within _ _ _).mono (fun _ _ h => ⟨h.1, h.2.symm⟩)))))
                              go_wp2_with fail
                              go_ret
                              exact ⟨by rw [FIN.out]; rfl, pw_below_drewN HBW.out _⟩
                            | true =>
                              have NX : Aside0 (AtRow a2 a1 l (k + 1)) := ⟨GO.out (by rw [LO.out]; omega) (by omega) (by omega) t4⟩
                              have e1 : IntKind.i64.wrap ((k : Int) - 1) = (k : Int) - 1 := IntWalk.i64_in _ (by omega)
                              have e3 : ((k : Int) - 1).toNat = k - 1 := by omega
                              go_quiet (((go_at_call 36; exact Calls.quiet_of_same ((right_within _ _ _).mono (fun _ _ h => ⟨h.1, h.2.symm⟩)))))
                              clear e1 e3 e0 e5
                              go_wp2_with fail
                              go_roundw
                              case rel => exact ⟨k + 1, by go_num, by omega, NX, ⟨pw_below_drewN HB2.out _⟩⟩
                              case measure => simp [intOf]; omega
                    · obtain rfl : k = l.length := by omega
                      have FIN : Aside0 (right a0 a1 a2 l a4 a5 = true) := ⟨by unfold right; rw [HEAD.out, HAt.out.all]; rfl⟩
                      go_wp2_with fail
                      go_ret
                      exact ⟨by rw [FIN.out]; rfl, HBW.out⟩
              · have d3 : decide (16 < (l.length : Int)) = true := decide_eq_true (by omega)
                have FIN : Aside0 (right a0 a1 a2 l a4 a5 = false) := ⟨by simp [right, headOK, c3]⟩
                clear c3
                by_cases c4 : a4 = 0
                · have d1 : (a4 == 0) = true := by rw [c4]; rfl
                  have d2 : (a5 != 0) = false := by rw [bne_eq_false_iff_eq]; exact Classical.not_not.1 (fun e => c1 ⟨c4, e⟩)
                  clear c1 c4
                  go_enter Try.func17, Try.ntmps17
                  go_wp2_with fail
                  rw [← EW.out]
                  obtain ⟨x0, x1, x2, x3, x4, x5⟩ := FX.out W0 rfl
                  go_wp2_with (go_at_call 36; refine (right_within _ _ _).mono ?_; rintro e w' ⟨rfl, rfl⟩)
                  go_ret
                  exact ⟨by rw [FIN.out]; rfl, HB0.out⟩
                · have d1 : (a4 == 0) = false := beq_eq_false_iff_ne.2 c4
                  clear c1 c4
                  go_enter Try.func17, Try.ntmps17
                  go_wp2_with fail
                  rw [← EW.out]
                  obtain ⟨x0, x1, x2, x3, x4, x5⟩ := FX.out W0 rfl
                  go_wp2_with (go_at_call 36; refine (right_within _ _ _).mono ?_; rintro e w' ⟨rfl, rfl⟩)
                  go_ret
                  exact ⟨by rw [FIN.out]; rfl, HB0.out⟩
open Go.Proofs.Ytmoahkdadeiahaa.Hold in
theorem folkmootref20_Right.calls (a0_0 : Int) (a0_1 : Int) (a0_2 : Int) (A0_3 : Option Addr) (c0_3 : Nat) (l0_3 : List (S59)) (a0_4 : Int) (a0_5 : Int) (r : Bool) (w : World) (hr0_3 : Kd.C k59 w A0_3 l0_3.length l0_3) (hc0_3 : l0_3.length ≤ c0_3) (h : folkmootref20_Right.f a0_0 a0_1 a0_2 l0_3 a0_4 a0_5 = some r) :
    Calls Try.prog 17 #[.agg #[.int .i64 a0_0, .int .i64 a0_1, .int .i64 a0_2, .slice A0_3 l0_3.length c0_3, .int .i64 a0_4, .int .i64 a0_5]] w fun e w' => e = .returned (.bool r) ∧ Below w.heap.size w w' := by
  unfold folkmootref20_Right.f at h
  split at h
  · rename_i hl
    obtain rfl := Option.some.inj h
    exact right_any a0_0 a0_1 a0_2 A0_3 c0_3 l0_3 a0_4 a0_5 w hr0_3 hc0_3 hl
  · cases h

end Go.Proofs.Ytmoahkdadeiahaa.C
