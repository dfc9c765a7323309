/- The statement LeaseStretch as a plain law over lists: any stretch of a steady row, ahead of whose end none stops, is steady, at every rows and places that can be read. -/
import Derived.Test.YtmoahkdadeiahaaSteady
import Derived.OpenShut
namespace Go.Proofs.Ytmoahkdadeiahaa.Pure
open Go.RowKit Go.Proofs.Ytmoahkdadeiahaa.Q Go.Proofs.YtmoahkdadeiahaaW.PrintWords Go.Proofs.YtmoahkdadeiahaaW.PrintLast Go.Proofs.Ytmoahkdadeiahaa.Steady Go.Proofs.Ytmoahkdadeiahaa.Sets Go.Proofs.Ytmoahkdadeiahaa.SetMath Go.Proofs.Ytmoahkdadeiahaa.SteadyMath
theorem wf_le {l : List Int} (h : ∀ x ∈ l, (Lit.int .i64 x).wf = true) : ∀ n ∈ l, n ≤ 9223372036854775807 := fun n hn => (Go.bounds_i64 (h n hn)).2
theorem stretch_all (nodes l : List Int) (a b : Nat) (hs : ∀ x ∈ l.take b, 0 ≤ x) (h : nodes.all (gOne l) = true) : nodes.all (gOne ((l.take b).drop a)) = true := by
  rw [List.all_eq_true] at h ⊢
  intro n hn
  have h1 := h n hn
  unfold gOne at h1 ⊢
  rw [Bool.and_eq_true, decide_eq_true_iff] at h1 ⊢
  obtain ⟨h0, h1⟩ := h1
  refine ⟨h0, ?_⟩
  rw [grun_eq n h0] at h1 ⊢
  have hx : ∀ x ∈ l.take b, x ≠ -n := fun x hx => by have := hs x hx; omega
  have h2 := rs_take n (l.take b) (l.drop b) hx (by rw [List.take_append_drop]; exact h1)
  exact rs_drop n a _ hx h2
theorem stretch_l0 (nodes l : List Int) (hn : nodes.length ≤ 100) (hl : l.length ≤ 400) (hw : ∀ n ∈ nodes, n ≤ 9223372036854775807) (a b : Nat) (hab : a ≤ b) (hb : b ≤ l.length) (hst : isSet nodes = true ∧ nodes.all (gOne l) = true) (d : Nat) :
    ∀ (k i : Nat), b - i = d → i ≤ b → d + 1000 < k → (∀ x ∈ l.take i, 0 ≤ x) → folkmootlaw20_LeaseStretch.l0 k nodes l (a : Int) (b : Int) (i : Int) = some true := by
  induction d with
  | zero =>
    intro k i hd hi hk hx
    obtain ⟨k, rfl⟩ : ∃ m, k = m + 1 := ⟨k - 1, by omega⟩
    have e : i = b := by omega
    subst e
    simp only [folkmootlaw20_LeaseStretch.l0]
    rw [if_neg (by omega), steady_true k (by omega)]
    simp only [Option.bind_some, if_true]
    rw [if_pos (by omega), if_pos (by omega), if_pos (by omega), Int.toNat_natCast, Int.toNat_natCast, steady_f nodes _ (by omega) (by simp; omega) hw k (by omega), hst.1, stretch_all nodes l a i hx hst.2]
    rfl
  | succ d ih =>
    intro k i hd hi hk hx
    obtain ⟨k, rfl⟩ : ∃ m, k = m + 1 := ⟨k - 1, by omega⟩
    have hlt : i < l.length := by omega
    simp only [folkmootlaw20_LeaseStretch.l0]
    rw [if_pos (by omega), if_pos (by omega), if_pos (by omega), rd_at l i hlt, steady_true k (by omega), wr1 i _ hlt (by omega)]
    simp only [Option.bind_some]
    by_cases c : l[i] < 0
    · rw [if_pos c]
    · rw [if_neg c]
      refine ih k (i + 1) (by omega) (by omega) (by omega) (fun x hx2 => ?_)
      rw [List.take_succ_eq_append_getElem hlt, List.mem_append, List.mem_singleton] at hx2
      rcases hx2 with h | h
      · exact hx x h
      · omega
theorem LeaseStretch : folkmootlaw20_LeaseStretch.Pure := by
  intro nodes l a b _ _ hw _ _ _ _ _
  refine ⟨2001, ?_⟩
  have hj : folkmootlaw20_LeaseStretch.j0 2001 nodes l a b true = some true := by
    rw [show (2001 : Nat) = 2000 + 1 from rfl]
    simp only [folkmootlaw20_LeaseStretch.j0]
    rw [if_pos trivial, steady_true _ (by omega)]
    rfl
  unfold folkmootlaw20_LeaseStretch.f
  rw [hj]
  by_cases h1 : (nodes.length : Int) > 100
  · rw [if_pos h1]
  rw [if_neg h1]
  by_cases h2 : (l.length : Int) > 400
  · rw [if_pos h2]
  rw [if_neg h2]
  by_cases h3 : a < 0
  · rw [if_pos h3]
  rw [if_neg h3]
  by_cases h4 : b > (l.length : Int)
  · rw [if_pos h4]
  rw [if_neg h4]
  by_cases h5 : a > b
  · rw [if_pos h5]
  rw [if_neg h5, steady_f nodes l (by omega) (by omega) (wf_le hw) _ (by omega)]
  simp only [Option.bind_some]
  cases hc : (isSet nodes && nodes.all (gOne l)) with
  | false => exact hj
  | true =>
    rw [Bool.and_eq_true] at hc
    obtain ⟨a', rfl⟩ := Int.eq_ofNat_of_zero_le (show 0 ≤ a by omega)
    obtain ⟨b', rfl⟩ := Int.eq_ofNat_of_zero_le (show 0 ≤ b by omega)
    rw [show (2001 : Nat) = 2000 + 1 from rfl]
    simp only [folkmootlaw20_LeaseStretch.j0]
    rw [if_neg (by decide)]
    exact stretch_l0 nodes l (by omega) (by omega) (wf_le hw) a' b' (by omega) (by omega) hc b' 2000 0 (by omega) (by omega) (by omega) (by simp)
end Go.Proofs.Ytmoahkdadeiahaa.Pure
