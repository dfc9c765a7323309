-- WRITTEN BY a program of this session's (wip/gprint.py, over the kit's print), with functions given by hand among them. Not trusted: Lean checks it.
import Derived.Test.YtjoogjcbamnnbaaB0
import Derived.Test.YtjoogjcbamnnbaaGen
import Derived.Test.YtjoogjcbamnnbaaShelf
namespace Go.Proofs.Ytjoogjcbamnnbaa.B
open Go.RowKit Go.Proofs.YtjoogjcbamnnbaaW.PrintWords Go.Proofs.YtjoogjcbamnnbaaW.PrintLast Go.Proofs.YtjoogjcbamnnbaaW.PrintMore
attribute [local go_sem] max2_int min2_int max_two min_two max_three min_three max_four min_four   -- for this text's walks alone
set_option linter.unusedVariables false
set_option linter.unusedSimpArgs false

-- GIVEN imports=Derived.Test.YtjoogjcbamnnbaaShelf,Derived.Test.YtjoogjcbamnnbaaGen
/-! ### slices_Sort_int_int: function 53, given -/
def slices_Sort_int_int.f (l0 : List Int) : Option (List Int) := if l0.length < 17592186044416 then some (l0.mergeSort fun x y => decide (x ≤ y)) else none
theorem slices_Sort_int_int.calls (P0_ : Nat → Prop) (u9000_ : Value) (l0 : List Int) (r : List Int) (w0 w : World) (hB : Below w0.heap.size w0 w) (ho0 : Kd.R (Kd.int .i64) 3 w w0.heap.size P0_ u9000_ l0) (h : slices_Sort_int_int.f l0 = some r) :
    Calls Try.prog 53 #[u9000_] w fun e w' => e = .returned (.tuple #[]) ∧ Kd.R (Kd.int .i64) 3 w' w0.heap.size (fun k_ => (P0_ k_ ∨ w.heap.size ≤ k_)) u9000_ r ∧ Below w0.heap.size w0 w' ∧ Kept w w' (fun k_ => P0_ k_) := by
  unfold slices_Sort_int_int.f at h
  split at h
  · rename_i hlen
    obtain rfl := Option.some.inj h
    rcases Gen.R_open ho0 with ⟨rfl, rfl⟩ | ⟨g, cap, cur, rfl, hb, hlt, hok, hh, hc, hm, hs, ht⟩
    · refine (show Calls Try.prog 53 #[.slice none 0 0] w _ from Any.slices_Sort_int_none Try.laysSortI none 0 w).mono ?_
      rintro e w' ⟨rfl, rfl⟩
      exact ⟨rfl, by simpa using Kd.R_nil _ _ _ _ _, hB, Kept.refl _ _⟩
    · refine (show Calls Try.prog 53 #[.slice (some ⟨g, 0, none⟩) l0.length cap] w _ from Any.slices_Sort_int Try.laysSortI g 0 cap l0 w (Gen.holds_of hh ht) hlt (by omega)).mono ?_
      rintro e w' ⟨rfl, n, os, rfl⟩
      have hl : (l0.mergeSort fun x y => decide (x ≤ y)).length = l0.length := List.length_mergeSort _
      refine ⟨rfl, ?_, Gen.put_below hB hB.size hb, Gen.put_kept hok⟩
      have := Gen.R_put (enc := Value.int .i64) (h1 := fun _ => rfl) (q := n) (m := l0.length) (ys := l0.mergeSort fun x y => decide (x ≤ y)) (os := os) (ok := fun k_ => (P0_ k_ ∨ w.heap.size ≤ k_)) (.inl hok) hb hh (by omega) hm hs (by omega)
      rw [List.take_of_length_le (by omega)] at this
      exact this
  · cases h

end Go.Proofs.Ytjoogjcbamnnbaa.B
