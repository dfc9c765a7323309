/- What the printed Apply of the package member computes, told by the plain words of MemberMath. -/
import Derived.Test.YtjoogjcbamnnbaaMember
import Derived.Test.YtjoogjcbamnnbaaB15
import Derived.Test.YtjoogjcbamnnbaaB19
namespace Go.Proofs.Ytjoogjcbamnnbaa.Member
open Go.RowKit Go.Proofs.Ytjoogjcbamnnbaa.B Go.Proofs.YtjoogjcbamnnbaaW.PrintWords Go.Proofs.YtjoogjcbamnnbaaW.PrintLast Go.Proofs.Ytjoogjcbamnnbaa.SetMath Go.Proofs.Ytjoogjcbamnnbaa.MemberMath Go.Proofs.Ytjoogjcbamnnbaa.Sets

theorem wo_small {v l : List Int} (h : May v l) (n : Int) : isSet (wo v n) = true := setOf (wo_up h.upv n) (fun x hx => h.nv x ((mem_wo _ _ _).1 hx).1)
theorem wo_small' {v l : List Int} (h : May v l) (n : Int) : isSet (wo l n) = true := setOf (wo_up h.upl n) (fun x hx => h.nl x ((mem_wo _ _ _).1 hx).1)
theorem with_small {s : List Int} {n : Int} (hs : isSet s = true) (hb : ∀ x ∈ s, 1 ≤ x ∧ x ≤ 5) (hn : 1 ≤ n ∧ n ≤ 5) : withR s n = (mk (s ++ [n]), 0) := by
  have hm : ∀ x ∈ mk (s ++ [n]), 1 ≤ x ∧ x ≤ 5 := fun x hx => (List.mem_append.1 ((mem_mk _ _).1 hx)).elim (hb x) (fun e => by rw [List.mem_singleton.1 e]; exact hn)
  have hf := few (mk_up _) hm
  unfold withR
  rw [if_pos hs, if_neg (by omega)]
theorem wo_nil {v l : List Int} {n : Int} (h : May v l) : (wo v n).length > 0 ↔ ¬ (n ∈ v ∧ v.length ≤ 1) := by
  have hp := List.length_pos_iff.2 h.ne
  by_cases hv : n ∈ v
  · have := wo_len h.upv hv
    constructor
    · rintro h1 ⟨_, h2⟩; omega
    · intro h1
      have : ¬ v.length ≤ 1 := fun e => h1 ⟨hv, e⟩
      omega
  · rw [wo_self hv]
    exact ⟨fun _ e => hv e.1, fun _ => hp⟩
theorem not_in {l : List Int} {n : Int} : ¬ l.contains n = true ↔ n ∉ l := by simp
theorem is_in {l : List Int} {n : Int} : l.contains n = true ↔ n ∈ l := by simp
/-- The change, where the configuration may be and the node is one. -/
theorem apply_j1 {v l : List Int} (hm : May v l) (c n : Int) (hn : 1 ≤ n ∧ n ≤ 5) (k : Nat) (hk : 5000 ≤ k) (x : Bool) (hx : x = (v.contains n || l.contains n)) :
    member_Apply.j1 k (l.contains n) x c n (wo v n) (wo l n) = some (applyR v l c n) := by
  obtain ⟨k, rfl⟩ : ∃ m, k = m + 1 := ⟨k - 1, by omega⟩
  have l1 := ((isSet_iff _).1 (wo_small hm n)).2
  have l2 := ((isSet_iff _).1 (wo_small' hm n)).2
  simp only [member_Apply.j1]
  rw [with_f (wo l n) n (by omega) k (by omega), with_f (wo v n) n (by omega) k (by omega),
    with_small (wo_small hm n) (fun y hy => hm.nv y ((mem_wo _ _ _).1 hy).1) hn, with_small (wo_small' hm n) (fun y hy => hm.nl y ((mem_wo _ _ _).1 hy).1) hn]
  simp only [Option.bind_some]
  have hxs : x = true ↔ n ∈ v ∨ n ∈ l := by rw [hx, Bool.or_eq_true, is_in, is_in]
  by_cases c1 : c = 1
  · subst c1
    rw [if_pos rfl]
    by_cases h : x = true
    · rw [if_pos h, apply_neg]
      rw [goes_iff]
      rintro ⟨_, _, h1 | h1 | h1⟩
      · exact (hxs.1 h).elim h1.2.1 h1.2.2
      · exact absurd h1.1 (by decide)
      · exact absurd h1.1 (by decide)
    · rw [if_neg h, apply_pos ((goes_iff _ _ _ _).2 ⟨hm, hn, .inl ⟨rfl, fun e => h (hxs.2 (.inl e)), fun e => h (hxs.2 (.inr e))⟩⟩), if_neg (by decide), if_pos rfl]
  · rw [if_neg c1]
    by_cases c2 : c = 2
    · subst c2
      rw [if_pos rfl]
      by_cases h : l.contains n = true
      · have hin : n ∈ mk (wo v n ++ [n]) := (mem_mk _ n).2 (List.mem_append.2 (.inr (List.mem_singleton.2 rfl)))
        have hpos := List.length_pos_of_mem hin
        rw [if_pos h, if_pos (by omega), apply_pos ((goes_iff _ _ _ _).2 ⟨hm, hn, .inr (.inl ⟨rfl, is_in.1 h⟩)⟩), if_pos rfl, if_neg (by decide)]
      · rw [if_neg h, apply_neg]
        rw [goes_iff]
        rintro ⟨_, _, h1 | h1 | h1⟩
        · exact absurd h1.1 (by decide)
        · exact h (is_in.2 h1.2)
        · exact absurd h1.1 (by decide)
    · rw [if_neg c2]
      by_cases c3 : c = 3
      · subst c3
        rw [if_pos rfl]
        by_cases h : x = true
        · rw [if_pos h]
          by_cases h0 : ((wo v n).length : Int) > 0
          · have h0' : ¬ (n ∈ v ∧ v.length ≤ 1) := (wo_nil hm).1 (by omega)
            rw [if_pos h0, apply_pos ((goes_iff _ _ _ _).2 ⟨hm, hn, .inr (.inr ⟨rfl, ?_⟩)⟩), if_neg (by decide), if_neg (by decide)]
            rcases hxs.1 h with hv | hl
            · exact .inr ⟨hv, Nat.lt_of_not_le fun e => h0' ⟨hv, e⟩⟩
            · exact .inl hl
          · have h0' : ¬ ¬ (n ∈ v ∧ v.length ≤ 1) := fun e => h0 (by have := (wo_nil hm).2 e; omega)
            have h1 := Classical.not_not.1 h0'
            rw [if_neg h0, apply_neg]
            rw [goes_iff]
            rintro ⟨_, _, h2 | h2 | h2⟩
            · exact absurd h2.1 (by decide)
            · exact absurd h2.1 (by decide)
            · rcases h2.2 with h3 | h3
              · exact hm.ap n h1.1 h3
              · omega
        · rw [if_neg h, apply_neg]
          rw [goes_iff]
          rintro ⟨_, _, h2 | h2 | h2⟩
          · exact absurd h2.1 (by decide)
          · exact absurd h2.1 (by decide)
          · exact h (hxs.2 (h2.2.elim .inr (fun e => .inl e.1)))
      · rw [if_neg c3, apply_neg]
        rw [goes_iff]
        rintro ⟨_, _, h2 | h2 | h2⟩
        · exact c1 h2.1
        · exact c2 h2.1
        · exact c3 h2.1
theorem apply_f (v l : List Int) (c n : Int) (hv : v.length ≤ 2000) (hl : l.length ≤ 2000) (k : Nat) (hk : 6000 ≤ k) : member_Apply.f k v l c n = some (applyR v l c n) := by
  obtain ⟨k, rfl⟩ : ∃ m, k = m + 1 := ⟨k - 1, by omega⟩
  unfold member_Apply.f member_two_has.f
  rw [ask_f, has_f v n (by omega) (k + 1) (by omega), has_f l n (by omega) (k + 1) (by omega), may_f v l hv hl (k + 1) (by omega)]
  simp only [Option.bind_some, member_Apply.j0]
  by_cases h : may v l = true
  · have hm := (may_iff v l).1 h
    rw [if_pos h]
    by_cases h1 : n < 1
    · rw [if_pos h1, if_pos trivial, apply_neg]
      rw [goes_iff]
      rintro ⟨_, h2, _⟩
      omega
    · rw [if_neg h1]
      by_cases h5 : n > 5
      · rw [decide_eq_true h5, if_pos rfl, apply_neg]
        rw [goes_iff]
        rintro ⟨_, h2, _⟩
        omega
      · rw [decide_eq_false h5, if_neg (by decide), without_f v n (by omega) k (by omega), without_f l n (by omega) k (by omega)]
        unfold withoutR
        rw [if_pos hm.sv, if_pos hm.sl]
        simp only [Option.bind_some]
        by_cases h7 : v.contains n = true
        · rw [if_pos h7]
          exact apply_j1 hm c n (by omega) k (by omega) true (by rw [h7]; rfl)
        · rw [if_neg h7]
          exact apply_j1 hm c n (by omega) k (by omega) _ (by rw [Bool.eq_false_iff.2 h7, Bool.false_or])
  · rw [if_neg h, if_pos trivial, apply_neg]
    rw [goes_iff, ← may_iff]
    exact fun e => h e.1
/-- A change of what is not too long is not too long. -/
theorem apply_len (v l : List Int) (c n : Int) : (applyR v l c n).1.length ≤ 5 ∧ (applyR v l c n).2.1.length ≤ 5 := by
  by_cases h : goes v l c n = true
  · have hm := apply_may h
    exact ⟨few hm.upv hm.nv, few hm.upl hm.nl⟩
  · rw [apply_neg h]; exact ⟨by decide, by decide⟩
theorem applies_f (k : Nat) (hk : 6000 ≤ k) : folkmootlaw17_applies.f k = some true := by
  have g : goes [1, 2, 3] [4] 2 4 = true := by decide
  have g' : ¬ goes [1, 2, 3] [4] 2 5 = true := by decide
  have e : mk (wo [1, 2, 3] 4 ++ [4]) = [1, 2, 3, 4] := mk_self ((up_iff _).1 (by decide))
  unfold folkmootlaw17_applies.f folkmootlaw17_one.f
  simp only [Option.bind_some]
  rw [apply_f [1, 2, 3] [4] 2 4 (by decide) (by decide) k hk, apply_f [1, 2, 3] [4] 2 5 (by decide) (by decide) k hk, apply_pos g, apply_neg g', if_pos rfl, e]
  rfl
end Go.Proofs.Ytjoogjcbamnnbaa.Member
