-- WRITTEN BY a program of this session's (wip/gprint.py, over the kit's print), with functions given by hand among them. Not trusted: Lean checks it.
import Derived.Test.YtjoogjcbamnnbaaB0
import Derived.Test.YtjoogjcbamnnbaaB3
import Derived.Test.YtjoogjcbamnnbaaB12
import Derived.Test.YtjoogjcbamnnbaaB13
import Derived.Test.YtjoogjcbamnnbaaGen
import Derived.Test.YtjoogjcbamnnbaaShelf
namespace Go.Proofs.Ytjoogjcbamnnbaa.B
open Go.RowKit Go.Proofs.YtjoogjcbamnnbaaW.PrintWords Go.Proofs.YtjoogjcbamnnbaaW.PrintLast Go.Proofs.YtjoogjcbamnnbaaW.PrintMore
attribute [local go_sem] max2_int min2_int max_two min_two max_three min_three max_four min_four   -- for this text's walks alone
set_option linter.unusedVariables false
set_option linter.unusedSimpArgs false

-- GIVEN imports=Derived.Test.YtjoogjcbamnnbaaShelf,Derived.Test.YtjoogjcbamnnbaaGen
/-! ### sets_Without: function 35, given -/
def sets_Without.f (k : Nat) (l0 : List Int) (a1 : Int) : Option ((List Int) × Int) := (sets_Is.f k l0).bind fun t => if t = true then (if l0.length * 8 ≤ 140737488355328 then some (l0.filter fun x => !(x == a1), 0) else none) else some ([], 1)
theorem sets_Without.mono : ∀ a0 a1 k, LeO (sets_Without.f k a0 a1) (sets_Without.f (k + 1) a0 a1) := by
  intro a0 a1 k
  unfold sets_Without.f
  exact LeO.bind (sets_Is.mono _ _) (fun _ => LeO.refl _)
theorem without_del (n x : Int) (B : Nat) (W : World) (hc : W.cell? ⟨B, 0, none⟩ = some (.int .i64 n)) :
    Calls Try.prog 50 (#[.int .i64 x] ++ #[.pointer (some ⟨B, 0, none⟩)]) W fun e w' => e = .returned (.bool (x == n)) ∧ ∃ q, w' = W.drewN q := by
  show Calls Try.prog 50 #[.int .i64 x, .pointer (some ⟨B, 0, none⟩)] W _
  go_enter Try.func50, Try.ntmps50
  go_wp2
  go_ret
  exact ⟨rfl, 0, rfl⟩
theorem sets_Without.calls (k : Nat) (A0 : Option Addr) (c0 : Nat) (l0 : List Int) (a1 : Int) (r1 : List Int) (r2 : Int) (w : World) (hr0 : Kd.C (Kd.int .i64) w A0 l0.length l0) (hc0 : l0.length ≤ c0) (h : sets_Without.f k l0 a1 = some (r1, r2)) :
    Calls Try.prog 35 #[.slice A0 l0.length c0, .int .i64 a1] w fun e w' => ∃ v0_ : Value, e = .returned (.tuple #[v0_, .int .i64 r2]) ∧ Kd.R (Kd.int .i64) 3 w' w.heap.size (fun _ => True) v0_ r1 ∧ Below w.heap.size w w' := by
  unfold sets_Without.f at h
  obtain ⟨t, hIs, h⟩ := Option.bind_eq_some_iff.1 h
  have HIs := Aside0.mk hIs
  have HR := Aside0.mk hr0
  have HC := Aside0.mk hc0
  have eg : ∀ args w, (callFunc 50 args).run Try.prog w = .ok (.enter 50 args) w := enters_of Try.func50 (by kernel_rfl) rfl
  have EG := Aside0.mk eg
  clear hIs hr0 hc0 eg
  cases t with
  | false =>
    simp only [Bool.false_eq_true, if_false, Option.some.injEq, Prod.mk.injEq] at h
    obtain ⟨rfl, rfl⟩ := h
    clear EG
    go_enter Try.func35, Try.ntmps35
    go_wp2_with (go_at_call 40; refine (sets_Is.calls k _ _ l0 false _ (Kd.C_alloc HR.out _) HC.out HIs.out).mono ?_; rintro e w1 ⟨rfl, hb1⟩; have HB1 := Aside0.mk hb1; clear hb1)
    go_ret2
    exact ⟨_, rfl, Kd.R_nil _ _ _ _ _, below_then (below_alloc (Below.refl _ _) _) (by simp) HB1.out⟩
  | true =>
    simp only [if_true] at h
    split at h
    · rename_i hbig
      simp only [Option.some.injEq, Prod.mk.injEq] at h
      obtain ⟨rfl, rfl⟩ := h
      have HCl : Aside0 (api_Set_int_49.f l0 = some l0) := ⟨by unfold api_Set_int_49.f; rw [if_pos hbig]⟩
      clear hbig
      have HB0 : Aside0 (Below w.heap.size w (w.alloc (.cells #[.int .i64 a1] 3))) := ⟨below_alloc (Below.refl _ _) _⟩
      have HN0 : Aside0 ((w.alloc (.cells #[.int .i64 a1] 3)).cell? ⟨w.heap.size, 0, none⟩ = some (.int .i64 a1)) := ⟨by simp⟩
      have HS0 : Aside0 (w.heap.size < (w.alloc (.cells #[.int .i64 a1] 3)).heap.size) := ⟨by simp⟩
      have HR0 : Aside0 ((Kd.int .i64).C (w.alloc (.cells #[.int .i64 a1] 3)) A0 l0.length l0) := ⟨Kd.C_alloc HR.out _⟩
      go_enter Try.func35, Try.ntmps35
      go_wp2_with fail
      generalize (w.alloc (.cells #[.int .i64 a1] 3)) = wa at HB0 HN0 HS0 HR0 ⊢
      refine (sets_Is.calls k _ _ l0 true _ HR0.out HC.out HIs.out).mono ?_
      rintro e w1 ⟨rfl, hb1⟩
      have HR1 := Aside0.mk (Kd.C_below HR0.out hb1)
      have HN1 := Aside0.mk (pw_cell_below hb1 HN0.out)
      have HS1 := Aside0.mk (Nat.lt_of_lt_of_le HS0.out hb1.size)
      have HB1 := Aside0.mk (below_then HB0.out HB0.out.size hb1)
      clear hb1 HR0 HN0 HS0 HB0
      go_wp2_with fail
      refine (api_Set_int_49.calls _ _ l0 l0 _ HR1.out HC.out HCl.out).mono ?_
      rintro e w2 ⟨v, rfl, hO, hb2⟩
      have HO := Aside0.mk hO
      have HN2 := Aside0.mk (pw_cell_below hb2 HN1.out)
      have HS2 := Aside0.mk (Nat.lt_of_lt_of_le HS1.out hb2.size)
      have HB2 := Aside0.mk (below_then HB1.out HB1.out.size hb2)
      have HG := Aside0.mk (show ∀ g, v.ownBlock = some g → w1.heap.size ≤ g from fun g hg => (Kd.R_bound hO).1 g hg |>.2.1)
      clear hO hb2 HR1 HN1 HB1
      go_wp2_with fail
      refine (del_own (fun x => x == a1) 50 #[.pointer (some ⟨w.heap.size, 0, none⟩)] EG.out v l0 _ _ _ HO.out ?_).mono ?_
      · intro W x hsz hk
        refine without_del a1 x w.heap.size W ?_
        refine (World.cell?_of_block (hk w.heap.size HS2.out ?_)).trans HN2.out
        intro hv
        have h1 := HG.out _ hv.symm
        have h2 := HS1.out
        omega
      rintro e w3 ⟨v3, rfl, hO3, hg3⟩
      have HO3 := Aside0.mk hO3
      have HB3 := Aside0.mk (HB2.out.grown hg3 HB2.out.size (fun g hg => by have h1 := HG.out g hg; have h2 := HS1.out; omega))
      clear hO3 hg3
      go_wp2_with fail
      go_ret2
      refine ⟨_, rfl, ?_, HB3.out⟩
      exact Kd.R_mono (Kd.R_lower HO3.out (by have := HS1.out; omega)) (fun _ _ => trivial)
    · cases h

end Go.Proofs.Ytjoogjcbamnnbaa.B
