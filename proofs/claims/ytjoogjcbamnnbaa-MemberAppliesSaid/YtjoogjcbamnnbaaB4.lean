-- WRITTEN BY a program of this session's (wip/gprint.py, over the kit's print), with functions given by hand among them. Not trusted: Lean checks it.
import Derived.Test.YtjoogjcbamnnbaaB0
import Derived.Test.YtjoogjcbamnnbaaGen
import Derived.Test.YtjoogjcbamnnbaaShelf
namespace Go.Proofs.Ytjoogjcbamnnbaa.B
open Go.RowKit Go.Proofs.YtjoogjcbamnnbaaW.PrintWords Go.Proofs.YtjoogjcbamnnbaaW.PrintLast Go.Proofs.YtjoogjcbamnnbaaW.PrintMore
attribute [local go_sem] max2_int min2_int max_two min_two max_three min_three max_four min_four   -- for this text's walks alone
set_option linter.unusedVariables false
set_option linter.unusedSimpArgs false

-- GIVEN imports=Derived.Test.YtjoogjcbamnnbaaShelf,Derived.Test.YtjoogjcbamnnbaaGen
/-! ### slices_Grow_int_int: function 56, given -/
def slices_Grow_int_int.f (l0 : List Int) (a1 : Int) : Option (List Int) := if l0 = [] ∧ 0 ≤ a1 ∧ a1 * 8 ≤ 140737488355328 then some [] else none
theorem slices_Grow_int_int.calls (P0_ : Nat → Prop) (u9000_ : Value) (l0 : List Int) (a1 : Int) (r : List Int) (w0 w : World) (hB : Below w0.heap.size w0 w) (ho0 : Kd.R (Kd.int .i64) 3 w w0.heap.size P0_ u9000_ l0) (h : slices_Grow_int_int.f l0 a1 = some r) :
    Calls Try.prog 56 #[u9000_, .int .i64 a1] w fun e w' => ∃ v0_ : Value, e = .returned (v0_) ∧ Kd.R (Kd.int .i64) 3 w' w0.heap.size (fun k_ => (P0_ k_ ∨ w.heap.size ≤ k_)) v0_ r ∧ Below w0.heap.size w0 w' ∧ Kept w w' (fun k_ => P0_ k_) := by
  unfold slices_Grow_int_int.f at h
  split at h
  · rename_i hc
    obtain ⟨rfl, h0, hbig⟩ := hc
    obtain rfl := Option.some.inj h
    obtain ⟨n, rfl⟩ := Int.eq_ofNat_of_zero_le h0
    have hgrow : ∀ (base : Option Addr) (c : Nat) (cs : List Value), c < 0 + n → cs.length = c * 1 → (base = none → c = 0) → (∀ a, base = some a → ∀ j v, cs[j]? = some v → w.cell? (a.add j) = some v) →
        Calls Try.prog 56 #[.slice base 0 c, .int .i64 n] w fun e w' => ∃ v0_ : Value, e = .returned (v0_) ∧ Kd.R (Kd.int .i64) 3 w' w0.heap.size (fun k_ => (P0_ k_ ∨ w.heap.size ≤ k_)) v0_ [] ∧ Below w0.heap.size w0 w' ∧ Kept w w' (fun k_ => P0_ k_) := by
      intro base c cs hroom hcl hnil hcs
      obtain ⟨i0, hi, hz0, hz1, hz2⟩ := info_parts (show (Try.prog.info? 3).map (fun i => (i.zero, i.size, i.bytes)) = some (some (.int .i64 0), 1, 8) by kernel_rfl)
      have hg := Any8.slices_Grow_grow Try.laysGrowI i0 (.int .i64 0) hi hz0 (by omega) base 0 c n cs w (Nat.zero_le _) hroom (by rw [hz2]; omega) (by omega) (by rw [hz1]; exact hcl) hnil hcs
      refine (show Calls Try.prog 56 #[.slice base 0 c, .int .i64 n] w _ from hg).mono ?_
      rintro e w' ⟨rfl, rfl⟩
      have hBd : Below w0.heap.size w0 w.drew := below_drew hB
      refine ⟨_, rfl, ?_, below_alloc hBd _, (Kept.refl w (fun k_ => P0_ k_)).drew.alloc _⟩
      have e0 : (0 + n : Nat) = n := Nat.zero_add n
      rw [e0]
      have hge := grownCap_ge w n c 3
      have hle := grownCap_le_maxLen w n c 3 (by unfold maxLen; omega)
      have hsz : (cs.toArray ++ Builtin.zeroCells (Value.int .i64 0).cells (n - c) ++ Builtin.zeroCells (Value.int .i64 0).cells (grownCap w n c 3 - n)).size = grownCap w n c 3 := by
        simp [size_zeroCells, Value.cells, hcl]
        omega
      exact Gen.R_shut (enc := Value.int .i64) (h1 := fun _ => rfl) (xs := ([] : List Int)) (ok := fun k_ => (P0_ k_ ∨ w.heap.size ≤ k_)) (.inr (Nat.le_refl _)) hB.size (heap_alloc_new w.drew _) (Nat.zero_le _) hle hsz (by simp)
    rcases Gen.R_open ho0 with ⟨rfl, _⟩ | ⟨g, cap, cur, rfl, hb, hlt, hok, hh, hc, hm, hs, ht⟩
    · by_cases hn : n = 0
      · subst hn
        refine (show Calls Try.prog 56 #[.slice none 0 0, .int .i64 ((0 : Nat) : Int)] w _ from Any8.slices_Grow_room Try.laysGrowI none 0 0 0 w (by omega) (by omega) (by omega) (by omega)).mono ?_
        rintro e w' ⟨rfl, rfl⟩
        exact ⟨_, rfl, Kd.R_nil _ _ _ _ _, hB, Kept.refl _ _⟩
      · exact hgrow none 0 [] (by omega) rfl (fun _ => rfl) (fun _ h => by cases h)
    · by_cases hn : n ≤ cap
      · refine (show Calls Try.prog 56 #[.slice (some ⟨g, 0, none⟩) 0 cap, .int .i64 n] w _ from Any8.slices_Grow_room Try.laysGrowI (some ⟨g, 0, none⟩) 0 cap n w (by omega) (by unfold maxLen at hm; omega) (by omega) (by omega)).mono ?_
        rintro e w' ⟨rfl, rfl⟩
        exact ⟨_, rfl, Kd.R_mono ho0 (fun _ hk => .inl hk), hB, Kept.refl _ _⟩
      · refine hgrow _ cap cur.toList (by omega) (by simp [hs]) (fun h => by cases h) ?_
        rintro a ha j v hj
        obtain rfl := Option.some.inj ha
        rw [add_plain]
        simp [World.cell?, hh]
        simpa using hj
  · cases h

end Go.Proofs.Ytjoogjcbamnnbaa.B
