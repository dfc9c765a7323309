/- What the printed same answers where all is as it is to be. -/
import Derived.Test.YtmoahkdadeiahaaLeaseHold
import Derived.Test.YtmoahkdadeiahaaC9
import Derived.Test.YtmoahkdadeiahaaC10
namespace Go.Proofs.Ytmoahkdadeiahaa.Hold
open Go.RowKit Go.Proofs.Ytmoahkdadeiahaa.C Go.Proofs.YtmoahkdadeiahaaW.PrintWords Go.Proofs.YtmoahkdadeiahaaW.PrintLast Go.Proofs.YtmoahkdadeiahaaW.PrintMore
set_option linter.unusedVariables false
theorem wrote (a b c d e f g : Int) (u : List Sn) (vs us : Int) (h1 h2 h3 : Int) (lh : List Sn) (h4 h5 : Int) (hlh : lh.length ≤ 2000) (d0 : Nat) : ∀ (k i : Nat) (l : List Sn), l.length - i = d0 → i ≤ l.length → l.length ≤ 2000 → d0 + 2500 < k →
    ∃ r, folkmootlaw20_same.l0 k true (i : Int) a b c l d e h1 h2 h3 lh h4 h5 h1 h2 h3 lh h4 h5 = some (true, r) := by
  induction d0 with
  | zero =>
    intro k i l hd hi hl hk
    obtain ⟨k, rfl⟩ : ∃ m, k = m + 1 := ⟨k - 1, by omega⟩
    simp only [folkmootlaw20_same.l0]
    rw [if_neg (by omega), if_pos trivial, same_f _ _ _ _ _ _ hlh k (by omega)]
    exact ⟨_, rfl⟩
  | succ d0 ih =>
    intro k i l hd hi hl hk
    obtain ⟨k, rfl⟩ : ∃ m, k = m + 1 := ⟨k - 1, by omega⟩
    have hw : wrap64 ((i : Int) + 1) = ((i + 1 : Nat) : Int) := by unfold wrap64; omega
    simp only [folkmootlaw20_same.l0]
    rw [if_pos (by omega), if_pos (by omega), hw]
    exact ih k (i + 1) _ (by simp; omega) (by simp; omega) (by simpa using hl) (by omega)
theorem law_same (a b c : Int) (l : List Sn) (d e g : Int) (hl : l.length ≤ 2000) (h1 h2 h3 : Int) (lh : List Sn) (h4 h5 : Int) (hlh : lh.length ≤ 2000) (K : Nat) (hK : 6000 ≤ K) :
    ∃ r, folkmootlaw20_same.f K a b c l d e g a b c l d e g h1 h2 h3 lh h4 h5 h1 h2 h3 lh h4 h5 = some (true, r) := by
  unfold folkmootlaw20_same.f
  rw [if_pos rfl, same_f _ _ _ _ _ _ hl K (by omega)]
  simp only [Option.bind_some]
  exact wrote a b c d e 0 0 [] 0 0 h1 h2 h3 lh h4 h5 hlh l.length K 0 l (by omega) (by omega) hl (by omega)
end Go.Proofs.Ytmoahkdadeiahaa.Hold
