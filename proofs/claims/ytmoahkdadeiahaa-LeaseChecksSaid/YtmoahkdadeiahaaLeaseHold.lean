/- What the printed functions of the holder's laws compute, in plain words. -/
import Derived.Test.YtmoahkdadeiahaaC0
import Derived.Test.YtmoahkdadeiahaaLeaseR
import Derived.Test.YtmoahkdadeiahaaC2
import Derived.Test.YtmoahkdadeiahaaC4
import Derived.Test.YtmoahkdadeiahaaC5
import Derived.Test.YtmoahkdadeiahaaC6
import Derived.Test.YtmoahkdadeiahaaC8
import Derived.Test.YtmoahkdadeiahaaC9
namespace Go.Proofs.Ytmoahkdadeiahaa.Hold
open Go.RowKit Go.Proofs.Ytmoahkdadeiahaa.C Go.Proofs.YtmoahkdadeiahaaW.PrintWords Go.Proofs.YtmoahkdadeiahaaW.PrintLast Go.Proofs.YtmoahkdadeiahaaW.PrintMore
set_option linter.unusedVariables false
theorem win_l (n m : Int) : lease_within.f n m = some (win n m) := by
  unfold lease_within.f win
  by_cases h : n ≥ 0
  · rw [if_pos h]; congr 1; simp; omega
  · rw [if_neg h]; congr 1; symm; simp; omega
theorem win_r (n m : Int) : folkmootref20_within.f n m = some (win n m) := by
  unfold folkmootref20_within.f win
  by_cases h : n ≥ 0
  · rw [if_pos h]; congr 1; simp; omega
  · rw [if_neg h]; congr 1; symm; simp; omega
theorem check_l0 (l : List Sn) (hl : l.length ≤ 2000) (node now ask seq at_ : Int) (d : Nat) : ∀ (k i : Nat) (ok : Bool) (last : Int), l.length - i = d → i ≤ l.length → d < k →
    lease_Check.l0 k ok last l (l.length : Int) (i : Int) node now ask l seq at_ = some (if (ok && rowOK ask now last (l.drop i)) = true then 0 else 1) := by
  induction d with
  | zero =>
    intro k i ok last hd hi hk
    obtain ⟨k, rfl⟩ : ∃ m, k = m + 1 := ⟨k - 1, by omega⟩
    simp only [lease_Check.l0]
    rw [if_neg (by omega), List.drop_of_length_le (by omega)]
    cases ok <;> simp [rowOK]
  | succ d ih =>
    intro k i ok last hd hi hk
    obtain ⟨k, rfl⟩ : ∃ m, k = m + 1 := ⟨k - 1, by omega⟩
    have h1 : i < l.length := by omega
    have hw : wrap64 ((i : Int) + 1) = ((i + 1 : Nat) : Int) := by unfold wrap64; omega
    simp only [lease_Check.l0]
    rw [if_pos (by omega), if_pos (by omega), if_pos (by omega), rd_at l i h1, hw, List.drop_eq_getElem_cons h1]
    have R := fun ok' => ih k (i + 1) ok' l[i].f0 (by omega) (by omega) (by omega)
    simp only [win_l, Option.bind_some, R]
    rw [rowOK_cons]
    generalize rowOK ask now l[i].f0 (l.drop (i + 1)) = b
    generalize l[i].f0 = x
    generalize l[i].f1 = y
    unfold win
    by_cases c1 : last < x
    · by_cases c2 : x ≤ ask
      · cases ok <;> simp [c1, c2]
      · cases ok <;> simp [c1, c2]
    · cases ok <;> simp [c1]
theorem check_f (node now ask : Int) (l : List Sn) (seq at_ : Int) (hl : l.length ≤ 2000) (K : Nat) (hK : 3000 ≤ K) : lease_Check.f K node now ask l seq at_ = some (if right node now ask l seq at_ = true then 0 else 1) := by
  obtain ⟨K, rfl⟩ : ∃ m, K = m + 2 := ⟨K - 2, by omega⟩
  have J1 : ∀ ok : Bool, lease_Check.j1 (K + 1) ok node now ask l seq at_ = some (if (ok && rowOK ask now 0 l) = true then 0 else 1) := by
    intro ok
    have := check_l0 l hl node now ask seq at_ l.length K 0 ok 0 (by omega) (by omega) (by omega)
    simp only [lease_Check.j1]
    rw [show ((0 : Nat) : Int) = 0 from rfl] at this
    rw [this]; simp
  have J0 : ∀ ok : Bool, lease_Check.j0 (K + 2) ok node now ask l seq at_ = some (if (ok && (win at_ now && ((!decide (seq = 0) || decide (at_ = 0)) && decide (l.length ≤ 16))) && rowOK ask now 0 l) = true then 0 else 1) := by
    intro ok
    simp only [lease_Check.j0, win_l, Option.bind_some, J1]
    generalize rowOK ask now 0 l = b
    have e : decide ((l.length : Int) ≤ 16) = decide (l.length ≤ 16) := by simp; omega
    rw [e]
    cases ok
    · simp
    · cases win at_ now
      · simp
      · by_cases c1 : seq = 0
        · by_cases c2 : at_ = 0
          · simp [c1, c2]
          · simp [c1, c2]
        · simp [c1]
  unfold lease_Check.f
  simp only [win_l, Option.bind_some, J0]
  unfold right headOK
  cases win (wrap64 (node - 11)) 2
  · simp
  · cases win now 1000000000
    · simp
    · cases win ask 1000000000
      · simp
      · cases win seq 1000000000
        · simp
        · simp
theorem right_f (node now ask : Int) (l : List Sn) (seq at_ : Int) (hl : l.length ≤ 1400) : folkmootref20_Right.f node now ask l seq at_ = some (right node now ask l seq at_) := by
  unfold folkmootref20_Right.f
  rw [if_pos (by omega)]
theorem same_l0 (l : List Sn) (hl : l.length ≤ 2000) (node now ask seq at_ : Int) (d : Nat) : ∀ (k i : Nat), l.length - i = d → i ≤ l.length → d < k →
    folkmootref20_Same.l0 k (i : Int) node now ask l seq at_ node now ask l seq at_ = some true := by
  induction d with
  | zero =>
    intro k i hd hi hk
    obtain ⟨k, rfl⟩ : ∃ m, k = m + 1 := ⟨k - 1, by omega⟩
    simp only [folkmootref20_Same.l0]
    rw [if_neg (by omega)]
  | succ d ih =>
    intro k i hd hi hk
    obtain ⟨k, rfl⟩ : ∃ m, k = m + 1 := ⟨k - 1, by omega⟩
    have h1 : i < l.length := by omega
    have hw : wrap64 ((i : Int) + 1) = ((i + 1 : Nat) : Int) := by unfold wrap64; omega
    simp only [folkmootref20_Same.l0]
    rw [if_pos (by omega), if_pos (by omega), if_pos (by omega), if_neg (by simp), hw]
    exact ih k (i + 1) (by omega) (by omega) (by omega)
theorem same_f (node now ask : Int) (l : List Sn) (seq at_ : Int) (hl : l.length ≤ 2000) (K : Nat) (hK : 2500 ≤ K) : folkmootref20_Same.f K node now ask l seq at_ node now ask l seq at_ = some true := by
  obtain ⟨K, rfl⟩ : ∃ m, K = m + 1 := ⟨K - 1, by omega⟩
  have := same_l0 l hl node now ask seq at_ l.length K 0 (by omega) (by omega) (by omega)
  rw [show ((0 : Nat) : Int) = 0 from rfl] at this
  unfold folkmootref20_Same.f
  simp only [if_pos, folkmootref20_Same.j0, this]
  simp
theorem own_l (a b c : Int) (l : List Sn) (d e : Int) (hl : l.length ≤ 2000) : lease_own.f a b c l d e = some (a, b, c, l, d, e) := by
  unfold lease_own.f api_Sent.f
  rw [if_pos (by omega)]; rfl
theorem own_r (a b c : Int) (l : List Sn) (d e : Int) (hl : l.length ≤ 2000) : folkmootref20_Own.f a b c l d e = some (a, b, c, l, d, e) := by
  unfold folkmootref20_Own.f
  rw [if_pos (by simp; omega)]; simp
theorem good_60 : folkmootlaw20_good.f 60 = some true := by kernel_rfl
theorem good_f (K : Nat) (hK : 60 ≤ K) : folkmootlaw20_good.f K = some true := by
  obtain ⟨n, rfl⟩ : ∃ n, K = 60 + n := ⟨K - 60, by omega⟩
  clear hK
  induction n with
  | zero => exact good_60
  | succ n ih => exact folkmootlaw20_good.mono (60 + n) _ ih
end Go.Proofs.Ytmoahkdadeiahaa.Hold
