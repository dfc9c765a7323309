-- WRITTEN BY a program of this session's (wip/gprint.py, over the kit's print), with functions given by hand among them. Not trusted: Lean checks it.
import Derived.Test.YtmefkjdnnapkjaaQ0
import Derived.Test.YtmefkjdnnapkjaaQ1
import Derived.Test.YtmefkjdnnapkjaaQ6
import Derived.Test.YtmefkjdnnapkjaaQ7
import Derived.Test.YtmefkjdnnapkjaaQ8
import Derived.Test.YtmefkjdnnapkjaaGen
import Derived.Test.YtmefkjdnnapkjaaShelf
namespace Go.Proofs.Ytmefkjdnnapkjaa.Q
open Go.RowKit Go.Proofs.YtmefkjdnnapkjaaW.PrintWords Go.Proofs.YtmefkjdnnapkjaaW.PrintLast Go.Proofs.YtmefkjdnnapkjaaW.PrintMore
attribute [local go_sem] max2_int min2_int max_two min_two max_three min_three max_four min_four   -- for this text's walks alone
set_option linter.unusedVariables false
set_option linter.unusedSimpArgs false

-- GIVEN imports=Derived.Test.YtmefkjdnnapkjaaShelf,Derived.Test.YtmefkjdnnapkjaaGen
/-! ### sets_Common: function 26, given -/
def sets_Common.f (k : Nat) (l0 : List Int) (l1 : List Int) : Option ((List Int) × Int) := (sets_Is.f k l0).bind fun t => if t = true then ((sets_Is.f k l1).bind fun u => if u = true then (if l0.length * 8 ≤ 140737488355328 ∧ l1.length * 8 ≤ 140737488355328 then some (l0.filter fun x => l1.contains x, 0) else none) else some ([], 1)) else some ([], 1)
theorem sets_Common.mono : ∀ a0 a1 k, LeO (sets_Common.f k a0 a1) (sets_Common.f (k + 1) a0 a1) := by
  intro a0 a1 k
  unfold sets_Common.f
  exact LeO.bind (sets_Is.mono _ _) (fun _ => LeO.ite (LeO.bind (sets_Is.mono _ _) (fun _ => LeO.refl _)) (LeO.refl _))
theorem common_idx (a : List Int) (n : Int) (hb : a.length * 8 ≤ 140737488355328) (d : Nat) :
    ∀ (k i : Nat), a.length - i = d → i ≤ a.length → d < k → ∃ r, api_Set_int_38.l0 k a n (a.length : Int) (i : Int) = some r ∧ (decide (r ≥ 0) = (a.drop i).contains n) := by
  induction d with
  | zero =>
    intro k i hd hi hk
    obtain ⟨k, rfl⟩ : ∃ m, k = m + 1 := ⟨k - 1, by omega⟩
    simp only [api_Set_int_38.l0]
    rw [if_neg (by omega), List.drop_of_length_le (by omega)]
    exact ⟨_, rfl, by simp⟩
  | succ d ih =>
    intro k i hd hi hk
    obtain ⟨k, rfl⟩ : ∃ m, k = m + 1 := ⟨k - 1, by omega⟩
    have h1 : i < a.length := by omega
    have hrd : rd a (i : Int) = a[i] := by unfold rd; simp [List.getD, h1]
    have hw : wrap64 ((i : Int) + 1) = ((i + 1 : Nat) : Int) := by unfold wrap64; omega
    simp only [api_Set_int_38.l0]
    rw [if_pos (by omega), if_pos (by omega), if_pos (by omega), hrd, hw]
    rw [List.drop_eq_getElem_cons h1]
    by_cases e : n = a[i]
    · rw [if_pos e]; exact ⟨_, rfl, by subst e; rw [List.contains_cons]; simp only [BEq.rfl, Bool.true_or]; exact decide_eq_true (by omega)⟩
    · rw [if_neg e]
      obtain ⟨r, h, hr⟩ := ih k (i + 1) (by omega) (by omega) (by omega)
      exact ⟨r, h, by rw [hr, List.contains_cons, beq_eq_false_iff_ne.2 e, Bool.false_or]⟩
theorem common_has (a : List Int) (n : Int) (hb : a.length * 8 ≤ 140737488355328) : sets_Has.f (a.length + 1) a n = some (a.contains n) := by
  unfold sets_Has.f api_Set_int_30.f api_Set_int_38.f
  obtain ⟨r, h, hr⟩ := common_idx a n hb a.length (a.length + 1) 0 (by omega) (by omega) (by omega)
  rw [show ((0 : Nat) : Int) = 0 from rfl] at h
  rw [h]
  simp only [Option.bind_some]
  rw [hr]
  rfl
theorem common_del (l1 : List Int) (A1 : Option Addr) (c1 : Nat) (x : Int) (B : Nat) (W : World) (hb : l1.length * 8 ≤ 140737488355328) (hc : W.cell? ⟨B, 0, none⟩ = some (.slice A1 l1.length c1)) (hr : (Kd.int .i64).C W A1 l1.length l1) (hl : l1.length ≤ c1) :
    Calls Try.prog 37 (#[.int .i64 x] ++ #[.pointer (some ⟨B, 0, none⟩)]) W fun e w' => e = .returned (.bool (!l1.contains x)) ∧ ∃ q, w' = W.drewN q := by
  show Calls Try.prog 37 #[.int .i64 x, .pointer (some ⟨B, 0, none⟩)] W _
  have HR := Aside0.mk hr
  have HL := Aside0.mk hl
  have HH := Aside0.mk (common_has l1 x hb)
  clear hr hl hb
  generalize l1.contains x = r at HH ⊢
  go_enter Try.func37, Try.ntmps37
  go_wp2_with fail
  refine (sets_Has.calls (l1.length + 1) _ _ l1 x r _ HR.out HL.out HH.out).mono ?_
  rintro e w1 ⟨rfl, ⟨nd, rfl⟩⟩
  go_wp2
  go_ret
  exact ⟨rfl, nd, rfl⟩
theorem sets_Common.calls (k : Nat) (A0 : Option Addr) (c0 : Nat) (l0 : List Int) (A1 : Option Addr) (c1 : Nat) (l1 : List Int) (r1 : List Int) (r2 : Int) (w : World) (hr0 : Kd.C (Kd.int .i64) w A0 l0.length l0) (hc0 : l0.length ≤ c0) (hr1 : Kd.C (Kd.int .i64) w A1 l1.length l1) (hc1 : l1.length ≤ c1) (h : sets_Common.f k l0 l1 = some (r1, r2)) :
    Calls Try.prog 26 #[.slice A0 l0.length c0, .slice A1 l1.length c1] w fun e w' => ∃ v0_ : Value, e = .returned (.tuple #[v0_, .int .i64 r2]) ∧ Kd.R (Kd.int .i64) 3 w' w.heap.size (fun _ => True) v0_ r1 ∧ Below w.heap.size w w' := by
  unfold sets_Common.f at h
  obtain ⟨t, hIs, h⟩ := Option.bind_eq_some_iff.1 h
  have HIs := Aside0.mk hIs
  have HR := Aside0.mk hr0
  have HC := Aside0.mk hc0
  have HRb := Aside0.mk hr1
  have HCb := Aside0.mk hc1
  have eg : ∀ args w, (callFunc 37 args).run Try.prog w = .ok (.enter 37 args) w := enters_of Try.func37 (by kernel_rfl) rfl
  have EG := Aside0.mk eg
  clear hIs hr0 hc0 hr1 hc1 eg
  cases t with
  | false =>
    simp only [Bool.false_eq_true, if_false, Option.some.injEq, Prod.mk.injEq] at h
    obtain ⟨rfl, rfl⟩ := h
    clear EG
    go_enter Try.func26, Try.ntmps26
    go_wp2_with (go_at_call 12; refine (sets_Is.calls k _ _ l0 false _ (Kd.C_alloc HR.out _) HC.out HIs.out).mono ?_; rintro e w1 ⟨rfl, hb1⟩; have HB1 := Aside0.mk hb1; clear hb1)
    go_ret2
    exact ⟨_, rfl, Kd.R_nil _ _ _ _ _, below_then (below_alloc (Below.refl _ _) _) (by simp) HB1.out⟩
  | true =>
    simp only [if_true] at h
    obtain ⟨u, hIsb, h⟩ := Option.bind_eq_some_iff.1 h
    have HIsb := Aside0.mk hIsb
    clear hIsb
    have HB0 : Aside0 (Below w.heap.size w (w.alloc (.cells #[.slice A1 l1.length c1] 24))) := ⟨below_alloc (Below.refl _ _) _⟩
    have HN0 : Aside0 ((w.alloc (.cells #[.slice A1 l1.length c1] 24)).cell? ⟨w.heap.size, 0, none⟩ = some (.slice A1 l1.length c1)) := ⟨by simp⟩
    have HS0 : Aside0 (w.heap.size < (w.alloc (.cells #[.slice A1 l1.length c1] 24)).heap.size) := ⟨by simp⟩
    have HR0 : Aside0 ((Kd.int .i64).C (w.alloc (.cells #[.slice A1 l1.length c1] 24)) A0 l0.length l0) := ⟨Kd.C_alloc HR.out _⟩
    have HQ0 : Aside0 ((Kd.int .i64).C (w.alloc (.cells #[.slice A1 l1.length c1] 24)) A1 l1.length l1) := ⟨Kd.C_alloc HRb.out _⟩
    cases u with
    | false =>
      simp only [Bool.false_eq_true, if_false, Option.some.injEq, Prod.mk.injEq] at h
      obtain ⟨rfl, rfl⟩ := h
      clear EG
      go_enter Try.func26, Try.ntmps26
      go_wp2_with fail
      generalize (w.alloc (.cells #[.slice A1 l1.length c1] 24)) = wa at HB0 HN0 HS0 HR0 HQ0 ⊢
      refine (sets_Is.calls k _ _ l0 true _ HR0.out HC.out HIs.out).mono ?_
      rintro e w1 ⟨rfl, hb1⟩
      have hn1 := pw_cell_below hb1 HN0.out
      have HQ1 := Aside0.mk (Kd.C_below HQ0.out hb1)
      have HB1 := Aside0.mk (below_then HB0.out HB0.out.size hb1)
      clear hb1 HR0 HN0 HS0 HB0 HQ0
      go_wp2_with fail
      refine (sets_Is.calls k _ _ l1 false _ HQ1.out HCb.out HIsb.out).mono ?_
      rintro e w2 ⟨rfl, hb2⟩
      have HB2 := Aside0.mk (below_then HB1.out HB1.out.size hb2)
      clear hb2 hn1
      go_wp2_with fail
      go_ret2
      exact ⟨_, rfl, Kd.R_nil _ _ _ _ _, HB2.out⟩
    | true =>
      simp only [if_true] at h
      split at h
      · rename_i hbig
        obtain ⟨hbig, hbig2⟩ := hbig
        simp only [Option.some.injEq, Prod.mk.injEq] at h
        obtain ⟨rfl, rfl⟩ := h
        have HCl : Aside0 (api_Set_int_32.f l0 = some l0) := ⟨by unfold api_Set_int_32.f; rw [if_pos hbig]⟩
        have HBg := Aside0.mk hbig2
        clear hbig hbig2
        go_enter Try.func26, Try.ntmps26
        go_wp2_with fail
        generalize (w.alloc (.cells #[.slice A1 l1.length c1] 24)) = wa at HB0 HN0 HS0 HR0 HQ0 ⊢
        refine (sets_Is.calls k _ _ l0 true _ HR0.out HC.out HIs.out).mono ?_
        rintro e w1 ⟨rfl, hb1⟩
        have hn1 := pw_cell_below hb1 HN0.out
        have HS1 := Aside0.mk (Nat.lt_of_lt_of_le HS0.out hb1.size)
        have HR1 := Aside0.mk (Kd.C_below HR0.out hb1)
        have HQ1 := Aside0.mk (Kd.C_below HQ0.out hb1)
        have HB1 := Aside0.mk (below_then HB0.out HB0.out.size hb1)
        clear hb1 HR0 HN0 HS0 HB0 HQ0
        go_wp2_with fail
        refine (sets_Is.calls k _ _ l1 true _ HQ1.out HCb.out HIsb.out).mono ?_
        rintro e w2 ⟨rfl, hb2⟩
        have HN2 := Aside0.mk (pw_cell_below hb2 hn1)
        have HS2 := Aside0.mk (Nat.lt_of_lt_of_le HS1.out hb2.size)
        have HR2 := Aside0.mk (Kd.C_below HR1.out hb2)
        have HQ2 := Aside0.mk (Kd.C_below HQ1.out hb2)
        have HB2 := Aside0.mk (below_then HB1.out HB1.out.size hb2)
        clear hb2 hn1 HS1 HR1 HQ1 HB1
        go_wp2_with fail
        refine (api_Set_int_32.calls _ _ l0 l0 _ HR2.out HC.out HCl.out).mono ?_
        rintro e w3 ⟨v, rfl, hO, hb3⟩
        have HO := Aside0.mk hO
        have HN3 := Aside0.mk (pw_cell_below hb3 HN2.out)
        have HS3 := Aside0.mk (Nat.lt_of_lt_of_le HS2.out hb3.size)
        have HB3 := Aside0.mk (below_then HB2.out HB2.out.size hb3)
        have HG := Aside0.mk (show ∀ g, v.ownBlock = some g → w2.heap.size ≤ g from fun g hg => (Kd.R_bound hO).1 g hg |>.2.1)
        have HP := Aside0.mk (show ∀ W : World, w3.heap.size ≤ W.heap.size → (∀ k, k < w3.heap.size → some k ≠ v.ownBlock → W.heap[k]? = w3.heap[k]?) → ∀ k, k < w2.heap.size → W.heap[k]? = w2.heap[k]? from fun W _ hk k hlt => (hk k (Nat.lt_of_lt_of_le hlt hb3.size) (fun e => by have := HG.out k e.symm; omega)).trans (hb3.block k hlt))
        clear hO hb3 HR2 HB2
        go_wp2_with fail
        refine (del_own (fun x => !l1.contains x) 37 #[.pointer (some ⟨w.heap.size, 0, none⟩)] EG.out v l0 _ _ _ HO.out ?_).mono ?_
        · intro W x hsz hk
          have hW := HP.out W hsz hk
          refine common_del l1 A1 c1 x w.heap.size W HBg.out ?_ ?_ HCb.out
          · exact (World.cell?_of_block (hW w.heap.size HS2.out)).trans HN2.out
          · refine ⟨HQ2.out.1, HQ2.out.2.1, fun hn => ?_⟩
            obtain ⟨ad, e, hc⟩ := HQ2.out.2.2 hn
            refine ⟨ad, e, fun j p hj => ?_⟩
            obtain ⟨c, hs, hK, hcell⟩ := hc j p hj
            refine ⟨c, hs, hK, fun i u hu => ?_⟩
            have h1 := hcell i u hu
            exact (World.cell?_of_block (hW _ (World.block_lt_of_cell? _ _ h1))).trans h1
        rintro e w4 ⟨v4, rfl, hO4, hg4⟩
        have HO4 := Aside0.mk hO4
        have HB4 := Aside0.mk (HB3.out.grown hg4 HB3.out.size (fun g hg => by have h1 := HG.out g hg; have h2 := HS2.out; omega))
        clear hO4 hg4
        go_wp2_with fail
        go_ret2
        refine ⟨_, rfl, ?_, HB4.out⟩
        have e : (l0.filter fun x => !!l1.contains x) = l0.filter fun x => l1.contains x := by simp
        rw [← e]
        exact Kd.R_mono (Kd.R_lower HO4.out (by have := HS2.out; omega)) (fun _ _ => trivial)
      · cases h

end Go.Proofs.Ytmefkjdnnapkjaa.Q
