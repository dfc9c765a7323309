-- WRITTEN BY a program of this session's (wip/gprint.py, over the kit's print), with functions given by hand among them. Not trusted: Lean checks it.
import Derived.Test.YtjoogjcbamnnbaaB0
import Derived.Test.YtjoogjcbamnnbaaB3
import Derived.Test.YtjoogjcbamnnbaaB8
import Derived.Test.YtjoogjcbamnnbaaGen
import Derived.Test.YtjoogjcbamnnbaaShelf
namespace Go.Proofs.Ytjoogjcbamnnbaa.B
open Go.RowKit Go.Proofs.YtjoogjcbamnnbaaW.PrintWords Go.Proofs.YtjoogjcbamnnbaaW.PrintLast Go.Proofs.YtjoogjcbamnnbaaW.PrintMore
attribute [local go_sem] max2_int min2_int max_two min_two max_three min_three max_four min_four   -- for this text's walks alone
set_option linter.unusedVariables false
set_option linter.unusedSimpArgs false

-- GIVEN imports=Derived.Test.YtjoogjcbamnnbaaShelf,Derived.Test.YtjoogjcbamnnbaaGen
/-! ### sets_With: function 36, given -/
def sets_With.f (k : Nat) (l0 : List Int) (a1 : Int) : Option (List Int × Int) := (sets_Is.f k l0).bind fun t => (if t = true then ((sets_merged.f k (([l0, (([a1] : List Int))] : List (List Int)))).bind fun b => (some (b.1, b.2))) else (some (([] : List Int), 1)))
theorem sets_With.mono : ∀ a0 a1 k, LeO (sets_With.f k a0 a1) (sets_With.f (k + 1) a0 a1) := by
  intro a0 a1 k
  unfold sets_With.f
  exact LeO.bind (sets_Is.mono _ _) (fun _ => LeO.ite (LeO.bind (sets_merged.mono _ _) (fun _ => LeO.refl _)) (LeO.refl _))
theorem lit_ci {W : World} {b : Nat} (xs : List Int) (hx : xs.length ≤ 1000) (hh : W.heap[b]? = some (.cells (xs.map (Value.int .i64)).toArray 3 (0, 0))) : Kd.C (Kd.int .i64) W (some ⟨b, 0, none⟩) xs.length xs := by
  refine ⟨rfl, by omega, fun _ => ⟨_, rfl, fun j p hj => ⟨[.int .i64 p], rfl, rfl, fun i u hu => ?_⟩⟩⟩
  have hi : i = 0 := by
    have := (List.getElem?_eq_some_iff.1 hu).1
    simpa using this
  subst hi
  simp at hu
  subst hu
  have hjl := (List.getElem?_eq_some_iff.1 hj).1
  have e : j * (Kd.int .i64).sz + 0 = j := by simp [Kd.int, Kd.scalar]
  rw [e, add_plain]
  simp only [World.cell?, hh]
  simp [hj]
theorem rows_c {W : World} {b c0 c1 T : Nat} {A0 A1 : Option Addr} {l0 l1 : List Int} (hh : W.heap[b]? = some (.cells #[.slice A0 l0.length c0, .slice A1 l1.length c1] T (0, 0))) (h0 : Kd.C (Kd.int .i64) W A0 l0.length l0) (hc0 : l0.length ≤ c0) (h1 : Kd.C (Kd.int .i64) W A1 l1.length l1) (hc1 : l1.length ≤ c1) : Kd.C (Kd.slice 3 (Kd.int .i64)) W (some ⟨b, 0, none⟩) 2 [l0, l1] := by
  refine ⟨rfl, by omega, fun _ => ⟨_, rfl, fun j p hj => ?_⟩⟩
  match j, hj with
  | 0, hj =>
    simp at hj
    subst hj
    refine ⟨[.slice A0 l0.length c0], rfl, ⟨A0, c0, rfl, hc0, h0⟩, fun i u hu => ?_⟩
    have hi : i = 0 := by
      have := (List.getElem?_eq_some_iff.1 hu).1
      simpa using this
    subst hi
    simp at hu
    subst hu
    simp [World.cell?, hh, Addr.add]
  | 1, hj =>
    simp at hj
    subst hj
    refine ⟨[.slice A1 l1.length c1], rfl, ⟨A1, c1, rfl, hc1, h1⟩, fun i u hu => ?_⟩
    have hi : i = 0 := by
      have := (List.getElem?_eq_some_iff.1 hu).1
      simpa using this
    subst hi
    simp at hu
    subst hu
    simp [World.cell?, hh, Addr.add, Kd.slice]
  | j + 2, hj => simp at hj
set_option maxHeartbeats 1000000 in
theorem sets_With.calls (k : Nat) (A0 : Option Addr) (c0 : Nat) (l0 : List Int) (a1 : Int) (r1 : List Int) (r2 : Int) (w : World) (hr0 : Kd.C (Kd.int .i64) w A0 l0.length l0) (hc0 : l0.length ≤ c0) (h : sets_With.f k l0 a1 = some (r1, r2)) :
    Calls Try.prog 36 #[.slice A0 l0.length c0, .int .i64 a1] w fun e w' => ∃ v0_ : Value, e = .returned (.tuple #[v0_, .int .i64 r2]) ∧ Kd.R (Kd.int .i64) 3 w' w.heap.size (fun _ => True) v0_ r1 ∧ Below w.heap.size w w' := by
  unfold sets_With.f at h
  obtain ⟨t, hIs, h⟩ := Option.bind_eq_some_iff.1 h
  have HIs := Aside0.mk hIs
  have HR := Aside0.mk hr0
  have HC := Aside0.mk hc0
  clear hIs hr0 hc0
  cases t with
  | false =>
    simp only [Bool.false_eq_true, if_false, Option.some.injEq, Prod.mk.injEq] at h
    obtain ⟨rfl, rfl⟩ := h
    go_enter Try.func36, Try.ntmps36
    go_wp2_with fail
    refine (sets_Is.calls k _ _ l0 false _ HR.out HC.out HIs.out).mono ?_
    rintro e w1 ⟨rfl, hb1⟩
    have HB1 := Aside0.mk hb1
    clear hb1
    go_wp2_with fail
    go_ret2
    exact ⟨_, rfl, Kd.R_nil _ _ _ _ _, HB1.out⟩
  | true =>
    simp only [if_true] at h
    obtain ⟨⟨b1, b2⟩, hm, h⟩ := Option.bind_eq_some_iff.1 h
    obtain ⟨rfl, rfl⟩ : b1 = r1 ∧ b2 = r2 := by simpa using h
    have HM := Aside0.mk hm
    clear hm h
    go_enter Try.func36, Try.ntmps36
    go_wp2_with fail
    refine (sets_Is.calls k _ _ l0 true _ HR.out HC.out HIs.out).mono ?_
    rintro e w1 ⟨rfl, hb1⟩
    have HB1 := Aside0.mk hb1
    clear hb1
    have HX : Aside0 (Kd.C (Kd.slice 3 (Kd.int .i64)) ((w1.alloc (.cells #[.int .i64 a1] 3)).alloc (.cells #[.slice A0 l0.length c0, .slice (some ⟨w1.heap.size, 0, none⟩) 1 1] 22)) (some ⟨w1.heap.size + 1, 0, none⟩) 2 [l0, [a1]]) := ⟨by
      have e2 := heap_alloc_new (w1.alloc (.cells #[.int .i64 a1] 3)) (.cells #[.slice A0 l0.length c0, .slice (some ⟨w1.heap.size, 0, none⟩) 1 1] 22)
      rw [World.size_alloc] at e2
      refine rows_c (l0 := l0) (l1 := [a1]) e2 ?_ HC.out ?_ (Nat.le_refl _)
      · exact Kd.C_alloc (Kd.C_alloc (Kd.C_below HR.out HB1.out) _) _
      · refine Kd.C_alloc (lit_ci [a1] (by simp) ?_) _
        exact heap_alloc_new w1 _⟩
    have HB2 : Aside0 (Below w.heap.size w ((w1.alloc (.cells #[.int .i64 a1] 3)).alloc (.cells #[.slice A0 l0.length c0, .slice (some ⟨w1.heap.size, 0, none⟩) 1 1] 22))) := ⟨below_then HB1.out HB1.out.size (below_alloc (below_alloc (Below.refl _ _) _) _)⟩
    go_wp2_with fail
    generalize (w1.alloc (.cells #[.int .i64 a1] 3)).alloc (.cells #[.slice A0 l0.length c0, .slice (some ⟨w1.heap.size, 0, none⟩) 1 1] 22) = w2 at HX HB2 ⊢
    refine (sets_merged.calls k _ 2 [l0, [a1]] b1 b2 _ HX.out (Nat.le_refl _) HM.out).mono ?_
    rintro e w3 ⟨v, rfl, hO, hb3⟩
    have HO := Aside0.mk hO
    have HB3 := Aside0.mk (below_then HB2.out HB2.out.size hb3)
    clear hO hb3
    go_wp2_with fail
    go_ret2
    exact ⟨_, rfl, Kd.R_lower HO.out HB2.out.size, HB3.out⟩

end Go.Proofs.Ytjoogjcbamnnbaa.B
