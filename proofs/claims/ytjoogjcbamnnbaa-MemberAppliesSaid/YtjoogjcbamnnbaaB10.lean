-- WRITTEN BY a program of this session's (wip/gprint.py, over the kit's print), with functions given by hand among them. Not trusted: Lean checks it.
import Derived.Test.YtjoogjcbamnnbaaB0
import Derived.Test.YtjoogjcbamnnbaaB3
import Derived.Test.YtjoogjcbamnnbaaB8
import Derived.Test.YtjoogjcbamnnbaaB9
import Derived.Test.YtjoogjcbamnnbaaGen
import Derived.Test.YtjoogjcbamnnbaaShelf
namespace Go.Proofs.Ytjoogjcbamnnbaa.B
open Go.RowKit Go.Proofs.YtjoogjcbamnnbaaW.PrintWords Go.Proofs.YtjoogjcbamnnbaaW.PrintLast Go.Proofs.YtjoogjcbamnnbaaW.PrintMore
attribute [local go_sem] max2_int min2_int max_two min_two max_three min_three max_four min_four   -- for this text's walks alone
set_option linter.unusedVariables false
set_option linter.unusedSimpArgs false

-- GIVEN imports=Derived.Test.YtjoogjcbamnnbaaShelf,Derived.Test.YtjoogjcbamnnbaaGen
/-! ### sets_Both: function 27, given -/
def sets_Both.f (k : Nat) (l0 : List Int) (l1 : List Int) : Option (List Int × Int) := (sets_Is.f k l0).bind fun t => (if t = true then ((sets_Is.f k l1).bind fun u => (if u = true then ((sets_merged.f k (([l0, l1] : List (List Int)))).bind fun b => (some (b.1, b.2))) else (some (([] : List Int), 1)))) else (some (([] : List Int), 1)))
theorem sets_Both.mono : ∀ a0 a1 k, LeO (sets_Both.f k a0 a1) (sets_Both.f (k + 1) a0 a1) := by
  intro a0 a1 k
  unfold sets_Both.f
  exact LeO.bind (sets_Is.mono _ _) (fun _ => LeO.ite (LeO.bind (sets_Is.mono _ _) (fun _ => LeO.ite (LeO.bind (sets_merged.mono _ _) (fun _ => LeO.refl _)) (LeO.refl _))) (LeO.refl _))
set_option maxHeartbeats 1000000 in
theorem sets_Both.calls (k : Nat) (A0 : Option Addr) (c0 : Nat) (l0 : List Int) (A1 : Option Addr) (c1 : Nat) (l1 : List Int) (r1 : List Int) (r2 : Int) (w : World) (hr0 : Kd.C (Kd.int .i64) w A0 l0.length l0) (hc0 : l0.length ≤ c0) (hr1 : Kd.C (Kd.int .i64) w A1 l1.length l1) (hc1 : l1.length ≤ c1) (h : sets_Both.f k l0 l1 = some (r1, r2)) :
    Calls Try.prog 27 #[.slice A0 l0.length c0, .slice A1 l1.length c1] w fun e w' => ∃ v0_ : Value, e = .returned (.tuple #[v0_, .int .i64 r2]) ∧ Kd.R (Kd.int .i64) 3 w' w.heap.size (fun _ => True) v0_ r1 ∧ Below w.heap.size w w' := by
  unfold sets_Both.f at h
  obtain ⟨t, hIs, h⟩ := Option.bind_eq_some_iff.1 h
  have HIs := Aside0.mk hIs
  have HR := Aside0.mk hr0
  have HC := Aside0.mk hc0
  have HRb := Aside0.mk hr1
  have HCb := Aside0.mk hc1
  clear hIs hr0 hc0 hr1 hc1
  cases t with
  | false =>
    simp only [Bool.false_eq_true, if_false, Option.some.injEq, Prod.mk.injEq] at h
    obtain ⟨rfl, rfl⟩ := h
    go_enter Try.func27, Try.ntmps27
    go_wp2_with fail
    refine (sets_Is.calls k _ _ l0 false _ HR.out HC.out HIs.out).mono ?_
    rintro e w1 ⟨rfl, hb1⟩
    have HB1 := Aside0.mk hb1
    clear hb1
    go_wp2_with fail
    go_ret2
    exact ⟨_, rfl, Kd.R_nil _ _ _ _ _, HB1.out⟩
  | true =>
    simp only [if_true] at h
    obtain ⟨u, hIsb, h⟩ := Option.bind_eq_some_iff.1 h
    have HIsb := Aside0.mk hIsb
    clear hIsb
    cases u with
    | false =>
      simp only [Bool.false_eq_true, if_false, Option.some.injEq, Prod.mk.injEq] at h
      obtain ⟨rfl, rfl⟩ := h
      go_enter Try.func27, Try.ntmps27
      go_wp2_with fail
      refine (sets_Is.calls k _ _ l0 true _ HR.out HC.out HIs.out).mono ?_
      rintro e w1 ⟨rfl, hb1⟩
      have HB1 := Aside0.mk hb1
      clear hb1
      go_wp2_with fail
      refine (sets_Is.calls k _ _ l1 false _ (Kd.C_below HRb.out HB1.out) HCb.out HIsb.out).mono ?_
      rintro e w2 ⟨rfl, hb2⟩
      have HB2 := Aside0.mk (below_then HB1.out HB1.out.size hb2)
      clear hb2
      go_wp2_with fail
      go_ret2
      exact ⟨_, rfl, Kd.R_nil _ _ _ _ _, HB2.out⟩
    | true =>
      simp only [if_true] at h
      obtain ⟨⟨b1, b2⟩, hm, h⟩ := Option.bind_eq_some_iff.1 h
      obtain ⟨rfl, rfl⟩ : b1 = r1 ∧ b2 = r2 := by simpa using h
      have HM := Aside0.mk hm
      clear hm h
      go_enter Try.func27, Try.ntmps27
      go_wp2_with fail
      refine (sets_Is.calls k _ _ l0 true _ HR.out HC.out HIs.out).mono ?_
      rintro e w1 ⟨rfl, hb1⟩
      have HB1 := Aside0.mk hb1
      clear hb1
      go_wp2_with fail
      refine (sets_Is.calls k _ _ l1 true _ (Kd.C_below HRb.out HB1.out) HCb.out HIsb.out).mono ?_
      rintro e w2 ⟨rfl, hb2⟩
      have HB2 := Aside0.mk (below_then HB1.out HB1.out.size hb2)
      clear hb2
      have HX : Aside0 (Kd.C (Kd.slice 3 (Kd.int .i64)) (w2.alloc (.cells #[.slice A0 l0.length c0, .slice A1 l1.length c1] 22)) (some ⟨w2.heap.size, 0, none⟩) 2 [l0, l1]) := ⟨rows_c (l0 := l0) (l1 := l1) (heap_alloc_new w2 _) (Kd.C_alloc (Kd.C_below HR.out HB2.out) _) HC.out (Kd.C_alloc (Kd.C_below HRb.out HB2.out) _) HCb.out⟩
      have HB3 : Aside0 (Below w.heap.size w (w2.alloc (.cells #[.slice A0 l0.length c0, .slice A1 l1.length c1] 22))) := ⟨below_then HB2.out HB2.out.size (below_alloc (Below.refl _ _) _)⟩
      go_wp2_with fail
      generalize w2.alloc (.cells #[.slice A0 l0.length c0, .slice A1 l1.length c1] 22) = w3 at HX HB3 ⊢
      refine (sets_merged.calls k _ 2 [l0, l1] b1 b2 _ HX.out (Nat.le_refl _) HM.out).mono ?_
      rintro e w4 ⟨v, rfl, hO, hb4⟩
      have HO := Aside0.mk hO
      have HB4 := Aside0.mk (below_then HB3.out HB3.out.size hb4)
      clear hO hb4
      go_wp2_with fail
      go_ret2
      exact ⟨_, rfl, Kd.R_lower HO.out HB3.out.size, HB4.out⟩

end Go.Proofs.Ytjoogjcbamnnbaa.B
