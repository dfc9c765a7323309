/- What the holder's functions compute at the holders of LeaseOver. -/
import Derived.Test.YtmoahkdadeiahaaLeaseR
import Derived.Test.YtmoahkdadeiahaaO3
import Derived.Test.YtmoahkdadeiahaaO4
import Derived.Test.YtmoahkdadeiahaaO5
import Derived.Test.YtmoahkdadeiahaaO7
import Derived.Test.YtmoahkdadeiahaaO8
import Derived.Test.YtmoahkdadeiahaaO9
namespace Go.Proofs.Ytmoahkdadeiahaa.Hold
open Go.RowKit Go.Proofs.Ytmoahkdadeiahaa.O Go.Proofs.YtmoahkdadeiahaaW.PrintWords Go.Proofs.YtmoahkdadeiahaaW.PrintLast Go.Proofs.YtmoahkdadeiahaaW.PrintMore
set_option linter.unusedVariables false
theorem win_l (n m : Int) : lease_within.f n m = some (win n m) := by
  unfold lease_within.f win
  by_cases h : n ≥ 0
  · rw [if_pos h]; congr 1; simp; omega
  · rw [if_neg h]; congr 1; symm; simp; omega
theorem check_l0 (l : List Sn) (hl : l.length ≤ 2000) (node now ask seq at_ : Int) (d : Nat) : ∀ (k i : Nat) (ok : Bool) (last : Int), l.length - i = d → i ≤ l.length → d < k →
    lease_Check.l0 k ok last l (l.length : Int) (i : Int) node now ask l seq at_ = some (if (ok && rowOK ask now last (l.drop i)) = true then 0 else 1) := by
  induction d with
  | zero =>
    intro k i ok last hd hi hk
    obtain ⟨k, rfl⟩ : ∃ m, k = m + 1 := ⟨k - 1, by omega⟩
    simp only [lease_Check.l0]
    rw [if_neg (by omega), List.drop_of_length_le (by omega)]
    cases ok <;> simp [rowOK]
  | succ d ih =>
    intro k i ok last hd hi hk
    obtain ⟨k, rfl⟩ : ∃ m, k = m + 1 := ⟨k - 1, by omega⟩
    have h1 : i < l.length := by omega
    have hw : wrap64 ((i : Int) + 1) = ((i + 1 : Nat) : Int) := by unfold wrap64; omega
    simp only [lease_Check.l0]
    rw [if_pos (by omega), if_pos (by omega), if_pos (by omega), rd_at l i h1, hw, List.drop_eq_getElem_cons h1]
    have R := fun ok' => ih k (i + 1) ok' l[i].f0 (by omega) (by omega) (by omega)
    simp only [win_l, Option.bind_some, R]
    rw [rowOK_cons]
    generalize rowOK ask now l[i].f0 (l.drop (i + 1)) = b
    generalize l[i].f0 = x
    generalize l[i].f1 = y
    unfold win
    by_cases c1 : last < x
    · by_cases c2 : x ≤ ask
      · cases ok <;> simp [c1, c2]
      · cases ok <;> simp [c1, c2]
    · cases ok <;> simp [c1]
theorem check_f (node now ask : Int) (l : List Sn) (seq at_ : Int) (hl : l.length ≤ 2000) (K : Nat) (hK : 3000 ≤ K) : lease_Check.f K node now ask l seq at_ = some (if right node now ask l seq at_ = true then 0 else 1) := by
  obtain ⟨K, rfl⟩ : ∃ m, K = m + 2 := ⟨K - 2, by omega⟩
  have J1 : ∀ ok : Bool, lease_Check.j1 (K + 1) ok node now ask l seq at_ = some (if (ok && rowOK ask now 0 l) = true then 0 else 1) := by
    intro ok
    have := check_l0 l hl node now ask seq at_ l.length K 0 ok 0 (by omega) (by omega) (by omega)
    simp only [lease_Check.j1]
    rw [show ((0 : Nat) : Int) = 0 from rfl] at this
    rw [this]; simp
  have J0 : ∀ ok : Bool, lease_Check.j0 (K + 2) ok node now ask l seq at_ = some (if (ok && (win at_ now && ((!decide (seq = 0) || decide (at_ = 0)) && decide (l.length ≤ 16))) && rowOK ask now 0 l) = true then 0 else 1) := by
    intro ok
    simp only [lease_Check.j0, win_l, Option.bind_some, J1]
    generalize rowOK ask now 0 l = b
    have e : decide ((l.length : Int) ≤ 16) = decide (l.length ≤ 16) := by simp; omega
    rw [e]
    cases ok
    · simp
    · cases win at_ now
      · simp
      · by_cases c1 : seq = 0
        · by_cases c2 : at_ = 0
          · simp [c1, c2]
          · simp [c1, c2]
        · simp [c1]
  unfold lease_Check.f
  simp only [win_l, Option.bind_some, J0]
  unfold right headOK
  cases win (wrap64 (node - 11)) 2
  · simp
  · cases win now 1000000000
    · simp
    · cases win ask 1000000000
      · simp
      · cases win seq 1000000000
        · simp
        · simp
theorem own_l (a b c : Int) (l : List Sn) (d e : Int) (hl : l.length ≤ 2000) : lease_own.f a b c l d e = some (a, b, c, l, d, e) := by
  unfold lease_own.f api_Sent.f
  rw [if_pos (by omega)]; rfl
theorem good_60 : folkmootlaw20_good.f 60 = some true := by kernel_rfl
/-- The holder of LeaseOver in its three plays. -/
theorem right_0 (t : Int) (h0 : 0 ≤ t) (h1 : t ≤ 1000) : right 11 t 0 [] 0 0 = true := by
  simp [right, headOK, win, rowOK, wrap64]; omega
theorem right_1 (t a : Int) (ha : 0 ≤ a) (h0 : a ≤ t) (h1 : t ≤ 1000) : right 11 t 1 [⟨1, a⟩] 0 0 = true := by
  simp [right, headOK, win, rowOK, wrap64]; omega
theorem right_2 (t a : Int) (ha : 0 ≤ a) (h0 : a ≤ t) (h1 : t ≤ 1000) : right 11 t 1 [] 7 a = true := by
  simp [right, headOK, win, rowOK, wrap64]; omega
theorem ask_0 (t : Int) (h0 : 0 ≤ t) (h1 : t ≤ 1000) : lease_Ask.f 3000 11 t 0 [] 0 0 = some (11, t, 1, [⟨1, t⟩], 0, 0, 1, 0) := by
  unfold lease_Ask.f
  rw [check_f 11 t 0 [] 0 0 (by simp) 3000 (Nat.le_refl _), right_0 t h0 h1, if_pos rfl]
  simp only [Option.bind_some]
  rw [if_pos trivial, if_neg (by omega), own_l _ _ _ _ _ _ (by simp)]
  first | kernel_rfl | (simp [mx, wrap64]; done)
theorem take_1 (t a : Int) (ha : 0 ≤ a) (h0 : a ≤ t) (h1 : t ≤ 1000) : lease_Take.f 3000 11 t 1 [⟨1, a⟩] 0 0 1 7 = some (11, t, 1, [], 7, a, true, 0) := by
  unfold lease_Take.f
  rw [check_f 11 t 1 [⟨1, a⟩] 0 0 (by simp) 3000 (Nat.le_refl _), right_1 t a ha h0 h1, if_pos rfl]
  simp only [Option.bind_some]
  rw [if_pos trivial, own_l _ _ _ _ _ _ (by simp)]
  first | kernel_rfl | (simp [mx, wrap64]; done)
theorem tick_f (n : Int) (t k : Int) (l : List Sn) (s a : Int) (hl : l.length ≤ 1000) (hr : right n t k l s a = true) (h0 : 0 ≤ t) (h1 : t ≤ 1000) : lease_Tick.f 3000 n t k l s a = some (n, t + 1, k, l, s, a, 0) := by
  unfold lease_Tick.f
  rw [check_f n t k l s a (by omega) 3000 (Nat.le_refl _), hr, if_pos rfl]
  simp only [Option.bind_some]
  rw [if_pos trivial, if_neg (by omega), own_l _ _ _ _ _ _ (by omega)]
  simp only [Option.bind_some]
  rw [show wrap64 (t + 1) = t + 1 by unfold wrap64; omega]
theorem good_no (n t k : Int) (l : List Sn) (s a : Int) (hl : l.length ≤ 1000) (hr : right n t k l s a = true) (h : s = 0 ∨ a + 8 ≤ t) (h0 : 0 ≤ a) (h1 : t ≤ 1000) (h2 : a ≤ t) : lease_Good.f 3000 n t k l s a = some false := by
  unfold lease_Good.f
  rw [check_f n t k l s a (by omega) 3000 (Nat.le_refl _), hr, if_pos rfl]
  simp only [Option.bind_some]
  rw [if_pos trivial]
  by_cases hs : s = 0
  · rw [if_pos hs]
  · rw [if_neg hs, show wrap64 (t - a) = t - a by unfold wrap64; omega, decide_eq_false (by omega)]
end Go.Proofs.Ytmoahkdadeiahaa.Hold
