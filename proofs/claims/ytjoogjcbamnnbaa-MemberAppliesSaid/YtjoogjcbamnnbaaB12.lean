-- WRITTEN BY a program of this session's (wip/gprint.py, over the kit's print), with functions given by hand among them. Not trusted: Lean checks it.
import Derived.Test.YtjoogjcbamnnbaaB0
import Derived.Test.YtjoogjcbamnnbaaGen
import Derived.Test.YtjoogjcbamnnbaaShelf
namespace Go.Proofs.Ytjoogjcbamnnbaa.B
open Go.RowKit Go.Proofs.YtjoogjcbamnnbaaW.PrintWords Go.Proofs.YtjoogjcbamnnbaaW.PrintLast Go.Proofs.YtjoogjcbamnnbaaW.PrintMore
attribute [local go_sem] max2_int min2_int max_two min_two max_three min_three max_four min_four   -- for this text's walks alone
set_option linter.unusedVariables false
set_option linter.unusedSimpArgs false

-- GIVEN imports=Derived.Test.YtjoogjcbamnnbaaShelf,Derived.Test.YtjoogjcbamnnbaaGen
/-! ### api_Set_int_48: function 48, given -/
/-- slices.DeleteFunc over a row of the call's own, with a function that tells by its argument alone, whatever happens to the row and to what is new. -/
theorem del_own (p : Int → Bool) (g : Nat) (lb : Array Value) (eg : ∀ args w, (callFunc g args).run Try.prog w = .ok (.enter g args) w) (v : Value) (xs : List Int) (base : Nat) (ok : Nat → Prop) (w : World)
    (HO : Kd.R (Kd.int .i64) 3 w base ok v xs)
    (hp : ∀ (W : World) (x : Int), w.heap.size ≤ W.heap.size → (∀ k, k < w.heap.size → some k ≠ v.ownBlock → W.heap[k]? = w.heap[k]?) → Calls Try.prog g (#[.int .i64 x] ++ lb) W fun e w' => e = .returned (.bool (p x)) ∧ ∃ q, w' = W.drewN q) :
    Calls Try.prog 48 #[v, .func (.func g) #[] lb] w fun e w' => ∃ v0_ : Value, e = .returned v0_ ∧ Kd.R (Kd.int .i64) 3 w' base ok v0_ (xs.filter fun x => !p x) ∧ w.grownBy w' v.ownBlock := by
  rcases Gen.R_open HO with ⟨rfl, rfl⟩ | ⟨b, cap, cur, rfl, hb, hlt, hok, hh, hc, hm, hs, ht⟩
  · have hI := AnyE.slices_IndexFunc_empty (P := Try.prog) { Try.laysDeleteSet with } none 0 (.func (.func g) #[] lb) w
    clear HO hp
    go_enter Try.func48, Try.ntmps48
    go_wp2_with (go_at_call 51; refine (show Calls Try.prog 51 _ _ _ from hI).mono ?_; rintro e w' ⟨rfl, rfl⟩)
    go_ret
    exact ⟨_, rfl, Kd.R_nil _ _ _ _ _, ⟨rfl, rfl, rfl, Nat.le_refl _, fun _ _ _ => rfl⟩⟩
  · have hd := AnyE.slices_DeleteFunc (P := Try.prog) Try.laysDeleteSet (Value.int .i64) (fun _ => rfl) p g lb eg 0 Try.zeroValue3 b 0 cap xs.toArray w
      (fun W x hB => hp W x hB.size (fun k hk _ => hB.block k hk))
      (fun n os dk x _ => hp _ x (by unfold sortWorld; simp) (fun k hk hne => by
        unfold sortWorld
        exact Gen.put_old k hk (by simpa [Value.ownBlock] using hne)))
      (Gen.holds_of hh ht) (by unfold maxLen at hm; simp; omega) (by simpa using hc)
    have hl : (xs.filter fun x => !p x).length ≤ xs.length := List.length_filter_le _ _
    refine (show Calls Try.prog 48 #[.slice (some ⟨b, 0, none⟩) xs.length cap, .func (.func g) #[] lb] w _ from hd).mono ?_
    rintro e w' ⟨rfl, q, rfl⟩
    have ez : ∀ zs : List Int, Sort.putRow (Value.int .i64) (Sort.ahead w q) b 0 zs.toArray = Sort.grow (Sort.putRow (Value.int .i64) (Sort.ahead w q) b 0 zs.toArray) #[] := fun zs => (Sort.grow_empty _).symm
    refine ⟨_, rfl, ?_, ?_⟩
    · have := Gen.R_put (enc := Value.int .i64) (h1 := fun _ => rfl) (q := q) (m := (xs.filter fun x => !p x).length) (ys := (xs.filter fun x => !p x) ++ List.replicate (xs.toArray.size - (xs.filter fun x => !p x).length) 0) (os := #[]) (ok := ok) hok hb hh (by simp; omega) hm hs (by simp)
      rw [List.take_left, Sort.grow_empty] at this
      exact this
    · rw [ez]
      exact ⟨rfl, rfl, rfl, by simp, fun k hk hne => Gen.put_old k hk (by simpa [Value.ownBlock] using hne)⟩

end Go.Proofs.Ytjoogjcbamnnbaa.B
