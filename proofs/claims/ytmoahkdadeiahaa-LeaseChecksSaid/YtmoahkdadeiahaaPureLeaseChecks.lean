/- The statement LeaseChecks as a plain law over numbers and rows. -/
import Derived.Test.YtmoahkdadeiahaaLeaseHoldC
import Derived.Test.YtmoahkdadeiahaaC11
namespace Go.Proofs.Ytmoahkdadeiahaa.Pure
open Go.RowKit Go.Proofs.Ytmoahkdadeiahaa.C Go.Proofs.Ytmoahkdadeiahaa.Hold
theorem LeaseChecks : ∀ (a0_0 : Int) (a0_1 : Int) (a0_2 : Int) (l0_3 : List C.S59) (a0_4 : Int) (a0_5 : Int), (Lit.int .i64 a0_0).wf = true → (Lit.int .i64 a0_1).wf = true → (Lit.int .i64 a0_2).wf = true → l0_3.length ≤ maxLen → (∀ x ∈ l0_3, (Lit.int .i64 x.f0).wf = true ∧ (Lit.int .i64 x.f1).wf = true) → (Lit.int .i64 a0_4).wf = true → (Lit.int .i64 a0_5).wf = true → ∃ k, folkmootlaw20_LeaseChecks.f k a0_0 a0_1 a0_2 l0_3 a0_4 a0_5 = some true := by
  intro node now ask l seq at_ _ _ _ _ _ _ _
  obtain ⟨K, hK⟩ : ∃ K : Nat, 7000 ≤ K := ⟨7000, Nat.le_refl _⟩
  refine ⟨K, ?_⟩
  unfold folkmootlaw20_LeaseChecks.f
  by_cases hb : (l.length : Int) > 1000
  · rw [if_pos hb]
  · rw [if_neg hb]
    have hl : l.length ≤ 1000 := by omega
    unfold lease_Tick.f folkmootref20_Tick.f lease_Good.f folkmootref20_Good.f
    simp only [own_r _ _ _ l _ _ (show l.length ≤ 2000 by omega), own_l _ _ _ l _ _ (show l.length ≤ 2000 by omega), Option.bind_some, check_f node now ask l seq at_ (by omega) K (by omega), right_f node now ask l seq at_ (by omega), good_f K (by omega), if_true]
    cases hr : right node now ask l seq at_ with
    | false =>
      obtain ⟨r, h⟩ := law_same 0 0 0 [] 0 0 1 (by simp) node now ask l seq at_ (by omega) K (by omega)
      simp [h]
    | true =>
      by_cases h2 : now ≥ 1000000000
      · obtain ⟨r, h⟩ := law_same 0 0 0 [] 0 0 2 (by simp) node now ask l seq at_ (by omega) K (by omega)
        simp [h2, h]
        split <;> simp
      · obtain ⟨r, h⟩ := law_same node (wrap64 (now + 1)) ask l seq at_ 0 (by omega) node now ask l seq at_ (by omega) K (by omega)
        simp [h2, h]
        split <;> simp
end Go.Proofs.Ytmoahkdadeiahaa.Pure
