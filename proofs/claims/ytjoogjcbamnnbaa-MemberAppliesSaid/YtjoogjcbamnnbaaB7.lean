-- WRITTEN BY a program of this session's (wip/gprint.py, over the kit's print), with functions given by hand among them. Not trusted: Lean checks it.
import Derived.Test.YtjoogjcbamnnbaaB0
import Derived.Lib.RowBridge
import Derived.Test.YtjoogjcbamnnbaaGen
import Derived.Test.YtjoogjcbamnnbaaShelf
namespace Go.Proofs.Ytjoogjcbamnnbaa.B
open Go.RowKit Go.Proofs.YtjoogjcbamnnbaaW.PrintWords Go.Proofs.YtjoogjcbamnnbaaW.PrintLast Go.Proofs.YtjoogjcbamnnbaaW.PrintMore
attribute [local go_sem] max2_int min2_int max_two min_two max_three min_three max_four min_four   -- for this text's walks alone
set_option linter.unusedVariables false
set_option linter.unusedSimpArgs false

-- GIVEN imports=Derived.Test.YtjoogjcbamnnbaaShelf,Derived.Test.YtjoogjcbamnnbaaGen,Derived.Lib.RowBridge
/-! ### slices_Compact_int_int: function 54, given -/
def slices_Compact_int_int.f (l0 : List Int) : Option (List Int) := some (Lib.compact l0)
theorem slices_Compact_int_int.calls (P0_ : Nat → Prop) (u9000_ : Value) (l0 : List Int) (r : List Int) (w0 w : World) (hB : Below w0.heap.size w0 w) (ho0 : Kd.R (Kd.int .i64) 3 w w0.heap.size P0_ u9000_ l0) (h : slices_Compact_int_int.f l0 = some r) :
    Calls Try.prog 54 #[u9000_] w fun e w' => ∃ v0_ : Value, e = .returned (v0_) ∧ Kd.R (Kd.int .i64) 3 w' w0.heap.size (fun k_ => (P0_ k_ ∨ w.heap.size ≤ k_)) v0_ r ∧ Below w0.heap.size w0 w' ∧ Kept w w' (fun k_ => P0_ k_) := by
  obtain rfl := Option.some.inj h
  rcases Gen.R_open ho0 with ⟨rfl, rfl⟩ | ⟨g, cap, cur, rfl, hb, hlt, hok, hh, hc, hm, hs, ht⟩
  · refine (show Calls Try.prog 54 #[.slice none 0 0] w _ from Any.slices_Compact_int_empty Try.laysCompactI none 0 w).mono ?_
    rintro e w' ⟨rfl, rfl⟩
    exact ⟨_, rfl, by simpa [Lib.compact, Lib.compactUpTo] using Kd.R_nil _ _ _ _ _, hB, Kept.refl _ _⟩
  · refine (show Calls Try.prog 54 #[.slice (some ⟨g, 0, none⟩) l0.length cap] w _ from Any.slices_Compact_int Try.laysCompactI g 0 cap l0 w (Gen.holds_of hh ht) (by unfold maxLen at hm; omega) hc).mono ?_
    rintro e w' ⟨rfl, n, rfl⟩
    have hl := Lib.compact_length_le l0
    refine ⟨_, rfl, ?_, ?_, ?_⟩
    · have := Gen.R_put (enc := Value.int .i64) (h1 := fun _ => rfl) (q := n) (m := (Lib.compact l0).length) (ys := Lib.compact l0 ++ List.replicate (l0.length - (Lib.compact l0).length) 0) (os := #[]) (ok := fun k_ => (P0_ k_ ∨ w.heap.size ≤ k_)) (.inl hok) hb hh (by simp; omega) hm hs (by simp)
      rw [List.take_left, Sort.grow_empty] at this
      exact this
    · have := Gen.put_below (enc := Value.int .i64) (q := n) (ys := (Lib.compact l0 ++ List.replicate (l0.length - (Lib.compact l0).length) 0).toArray) (os := #[]) hB hB.size hb
      rw [Sort.grow_empty] at this
      exact this
    · have := Gen.put_kept (w := w) (enc := Value.int .i64) (q := n) (ys := (Lib.compact l0 ++ List.replicate (l0.length - (Lib.compact l0).length) 0).toArray) (os := #[]) (S := fun k_ => P0_ k_) hok
      rw [Sort.grow_empty] at this
      exact this

end Go.Proofs.Ytjoogjcbamnnbaa.B
