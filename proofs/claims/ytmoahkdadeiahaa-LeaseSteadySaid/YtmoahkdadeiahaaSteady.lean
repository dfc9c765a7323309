/- What the printed lease.Steady and its reference compute: the same, told by the plain words of SteadyMath. -/
import Derived.Test.YtmoahkdadeiahaaSetsIs
import Derived.Test.YtmoahkdadeiahaaRefIs
import Derived.Test.YtmoahkdadeiahaaSteadyMath
namespace Go.Proofs.Ytmoahkdadeiahaa.Steady
open Go.RowKit Go.Proofs.Ytmoahkdadeiahaa.Q Go.Proofs.YtmoahkdadeiahaaW.PrintWords Go.Proofs.YtmoahkdadeiahaaW.PrintLast Go.Proofs.Ytmoahkdadeiahaa.SetMath Go.Proofs.Ytmoahkdadeiahaa.Sets Go.Proofs.Ytmoahkdadeiahaa.SteadyMath

theorem steady_f (nodes l : List Int) (hn : nodes.length ≤ 1000) (hl : l.length ≤ 400) (hw : ∀ n ∈ nodes, n ≤ 9223372036854775807) (k : Nat) (hk : nodes.length < k) :
    lease_Steady.f k nodes l = some (isSet nodes && nodes.all (gOne l)) := by
  unfold lease_Steady.f
  rw [if_pos ⟨hl, hw⟩, is_f nodes (by omega) k hk]
  simp only [Option.bind_some]
  cases isSet nodes with
  | true => rw [if_pos rfl, Bool.true_and]
  | false => rw [if_neg (by decide), Bool.false_and]

theorem neg_wrap (n : Int) (h1 : 1 ≤ n) (h2 : n ≤ 9223372036854775807) : wrap64 (-n) = -n := by unfold wrap64; omega
theorem two_wrap (w : Int) (h1 : 0 ≤ w) (h2 : w ≤ 1000) : wrap64 ((wrap64 (2 * w)) + 2) = 2 * w + 2 := by unfold wrap64; omega
theorem one_wrap (w : Int) (h1 : 0 ≤ w) (h2 : w ≤ 1000) : wrap64 (w + 1) = w + 1 := by unfold wrap64; omega

theorem ref_l1 (l : List Int) (n : Int) (h1 : 1 ≤ n) (h2 : n ≤ 9223372036854775807) (hl : l.length ≤ 400) (i : Nat) (hi : i < l.length) (res : Bool) (R : Nat) (hR : ∀ k', R ≤ k' → folkmootref20_steady.l0 k' l n true ((i + 1 : Nat) : Int) = some res) (d : Nat) :
    ∀ (k j : Nat) (t w : Int), l.length - j = d → j ≤ l.length → 3 * d + 3 + R ≤ k → 0 ≤ t → t ≤ j → 0 ≤ w → w ≤ j → folkmootref20_steady.l1 k l n true (i : Int) t w (j : Int) = some (stretch n t w (l.drop j) && res) := by
  induction d with
  | zero =>
    intro k j t w hd hj hk ht0 ht1 hw0 hw1
    obtain ⟨k, rfl⟩ : ∃ m, k = m + 2 := ⟨k - 2, by omega⟩
    rw [List.drop_of_length_le (by omega)]
    simp only [folkmootref20_steady.l1]
    rw [if_pos trivial, if_neg (by omega)]
    simp only [folkmootref20_steady.j2]
    rw [if_neg (by decide), wr1 i _ hi (by omega), hR k (by omega)]
    rfl
  | succ d ih =>
    intro k j t w hd hj hk ht0 ht1 hw0 hw1
    obtain ⟨k, rfl⟩ : ∃ m, k = m + 3 := ⟨k - 3, by omega⟩
    have hlt : j < l.length := by omega
    rw [List.drop_eq_getElem_cons hlt, stretch_cons]
    simp only [folkmootref20_steady.l1]
    rw [if_pos trivial, if_pos (by omega), if_pos (by omega), rd_at l j hlt, neg_wrap n h1 h2]
    simp only [folkmootref20_steady.j2]
    by_cases c1 : l[j] = -n
    · have e : (l[j] != -n) = false := by simp [c1]
      rw [if_pos c1, e, if_neg (by decide), wr1 i _ hi (by omega), hR _ (by omega)]
      rfl
    · have e : (l[j] != -n) = true := bne_iff_ne.2 c1
      rw [if_neg c1, e, if_pos rfl, if_pos (by omega), if_pos (by omega), rd_at l j hlt, one_wrap t ht0 (by omega)]
      have hj3 : ∀ (t' : Int), 0 ≤ t' → t' ≤ j + 1 → (l[j] = 0 → t' ≤ j) → folkmootref20_steady.j3 (k + 1) l n true (i : Int) t' w (j : Int) = some ((if bad t' (if l[j] = 0 then w + 1 else w) = true then false else stretch n t' (if l[j] = 0 then w + 1 else w) (l.drop (j + 1))) && res) := by
        intro t' h0 h3 h4
        simp only [folkmootref20_steady.j3]
        rw [if_pos (by omega), if_pos (by omega), rd_at l j hlt, wr1 j _ hlt (by omega), one_wrap w hw0 (by omega), two_wrap t' h0 (by omega)]
        by_cases c2 : l[j] = 0
        · rw [if_pos c2, if_pos c2, two_wrap (w + 1) (by omega) (by omega)]
          by_cases b1 : t' > 2 * (w + 1) + 2
          · have : bad t' (w + 1) = true := by unfold bad; rw [decide_eq_true b1, Bool.true_or]
            rw [if_pos b1, if_pos this]
            rfl
          · rw [if_neg b1]
            by_cases b2 : w + 1 > 2 * t' + 2
            · have : bad t' (w + 1) = true := by unfold bad; rw [decide_eq_true b2, Bool.or_true]
              rw [if_pos b2, if_pos this]
              rfl
            · have : ¬ bad t' (w + 1) = true := by rw [(bad_false _ _).2 (by omega)]; decide
              rw [if_neg b2, if_neg this]
              exact ih k (j + 1) t' (w + 1) (by omega) (by omega) (by omega) h0 (by have := h4 c2; omega) (by omega) (by omega)
        · rw [if_neg c2, if_neg c2, two_wrap w hw0 (by omega)]
          by_cases b1 : t' > 2 * w + 2
          · have : bad t' w = true := by unfold bad; rw [decide_eq_true b1, Bool.true_or]
            rw [if_pos b1, if_pos this]
            rfl
          · rw [if_neg b1]
            by_cases b2 : w > 2 * t' + 2
            · have : bad t' w = true := by unfold bad; rw [decide_eq_true b2, Bool.or_true]
              rw [if_pos b2, if_pos this]
              rfl
            · have : ¬ bad t' w = true := by rw [(bad_false _ _).2 (by omega)]; decide
              rw [if_neg b2, if_neg this]
              exact ih k (j + 1) t' w (by omega) (by omega) (by omega) h0 (by omega) (by omega) (by omega)
      by_cases c3 : l[j] = n
      · rw [if_pos c3, if_pos c3]
        exact hj3 (t + 1) (by omega) (by omega) (fun c => by omega)
      · rw [if_neg c3, if_neg c3]
        exact hj3 t ht0 (by omega) (fun _ => ht1)
theorem ref_l0 (l : List Int) (n : Int) (h1 : 1 ≤ n) (h2 : n ≤ 9223372036854775807) (hl : l.length ≤ 400) (d : Nat) :
    ∀ (k i : Nat) (up : Bool), l.length - i = d → i ≤ l.length → 2000 * d + 10 ≤ k → folkmootref20_steady.l0 k l n up (i : Int) = some (rs n up (l.drop i)) := by
  induction d with
  | zero =>
    intro k i up hd hi hk
    obtain ⟨k, rfl⟩ : ∃ m, k = m + 1 := ⟨k - 1, by omega⟩
    rw [List.drop_of_length_le (by omega)]
    simp only [folkmootref20_steady.l0]
    rw [if_neg (by omega)]
    rfl
  | succ d ih =>
    intro k i up hd hi hk
    obtain ⟨k, rfl⟩ : ∃ m, k = m + 1 := ⟨k - 1, by omega⟩
    have hlt : i < l.length := by omega
    rw [List.drop_eq_getElem_cons hlt, rs_cons]
    simp only [folkmootref20_steady.l0]
    rw [if_pos (by omega), if_pos (by omega), rd_at l i hlt, neg_wrap n h1 h2]
    by_cases c1 : l[i] = -n
    · rw [if_pos c1, if_pos c1, wr1 i _ hlt (by omega)]
      exact ih k (i + 1) (!up) (by omega) (by omega) (by omega)
    · rw [if_neg c1, if_neg c1]
      cases up with
      | true =>
        rw [if_pos rfl, ← List.drop_eq_getElem_cons hlt]
        exact ref_l1 l n h1 h2 hl i hlt _ (2000 * d + 10) (fun k' hk' => ih k' (i + 1) true (by omega) (by omega) hk') (l.length - i) k i 0 0 rfl hi (by omega) (by omega) (by omega) (by omega) (by omega)
      | false =>
        obtain ⟨k, rfl⟩ : ∃ m, k = m + 2 := ⟨k - 2, by omega⟩
        rw [if_neg (by decide), Bool.true_and]
        simp only [folkmootref20_steady.l1]
        rw [if_neg (by decide)]
        simp only [folkmootref20_steady.j2]
        rw [if_neg (by decide), wr1 i _ hlt (by omega)]
        exact ih k (i + 1) false (by omega) (by omega) (by omega)
theorem refone_f (l : List Int) (n : Int) (h1 : 1 ≤ n) (h2 : n ≤ 9223372036854775807) (hl : l.length ≤ 400) (k : Nat) (hk : 900000 ≤ k) : folkmootref20_steady.f k l n = some (rs n true l) := by
  unfold folkmootref20_steady.f
  exact ref_l0 l n h1 h2 hl l.length k 0 true (by omega) (by omega) (by omega)
theorem refall_l0 (nodes l : List Int) (hn : nodes.length ≤ 1000) (hw : ∀ n ∈ nodes, n ≤ 9223372036854775807) (B : Nat) (hB : ∀ k n, B ≤ k → 1 ≤ n → n ≤ 9223372036854775807 → folkmootref20_steady.f k l n = some (rs n true l)) (d : Nat) :
    ∀ (k i : Nat), nodes.length - i = d → i ≤ nodes.length → d + B < k → folkmootref20_Steady.l0 k nodes l (i : Int) = some ((nodes.drop i).all (gOne l)) := by
  induction d with
  | zero =>
    intro k i hd hi hk
    obtain ⟨k, rfl⟩ : ∃ m, k = m + 1 := ⟨k - 1, by omega⟩
    rw [List.drop_of_length_le (by omega)]
    simp only [folkmootref20_Steady.l0]
    rw [if_neg (by omega)]
    rfl
  | succ d ih =>
    intro k i hd hi hk
    obtain ⟨k, rfl⟩ : ∃ m, k = m + 1 := ⟨k - 1, by omega⟩
    have hlt : i < nodes.length := by omega
    have hni := hw _ (List.getElem_mem hlt)
    rw [List.drop_eq_getElem_cons hlt, List.all_cons]
    simp only [folkmootref20_Steady.l0]
    rw [if_pos (by omega), if_pos (by omega), rd_at nodes i hlt]
    unfold gOne
    by_cases c1 : nodes[i] < 1
    · rw [if_pos c1, decide_eq_false (by omega), Bool.false_and, Bool.false_and]
    · rw [if_neg c1, decide_eq_true (by omega), Bool.true_and, grun_eq _ (by omega), hB k _ (by omega) (by omega) hni]
      simp only [Option.bind_some]
      cases rs nodes[i] true l with
      | true =>
        rw [if_pos rfl, wr1 i _ hlt (by omega), Bool.true_and]
        exact ih k (i + 1) (by omega) (by omega) (by omega)
      | false =>
        rw [if_neg (by decide), Bool.false_and]
theorem refsteady_f (nodes l : List Int) (hn : nodes.length ≤ 1000) (hl : l.length ≤ 400) (hw : ∀ n ∈ nodes, n ≤ 9223372036854775807) (k : Nat) (hk : 950000 ≤ k) :
    folkmootref20_Steady.f k nodes l = some (isSet nodes && nodes.all (gOne l)) := by
  unfold folkmootref20_Steady.f
  rw [refis_f nodes (by omega) k (by omega)]
  simp only [Option.bind_some]
  cases isSet nodes with
  | true =>
    rw [if_pos rfl, Bool.true_and]
    exact refall_l0 nodes l hn hw 900000 (fun k n hk h1 h2 => refone_f l n h1 h2 hl k hk) nodes.length k 0 (by omega) (by omega) (by omega)
  | false => rw [if_neg (by decide), Bool.false_and]
theorem steady_true (k : Nat) (hk : 10 ≤ k) : folkmootlaw20_steady.f k = some true := by
  unfold folkmootlaw20_steady.f
  simp only [Option.bind_some]
  rw [steady_f [1] [1, 1] (by simp) (by simp) (by simp) k (by simp; omega), steady_f [1] [1, 1, 1] (by simp) (by simp) (by simp) k (by simp; omega), steady_f [1] [0, 0] (by simp) (by simp) (by simp) k (by simp; omega), steady_f [1] [0, 0, 0] (by simp) (by simp) (by simp) k (by simp; omega), steady_f [1] [1, 1, -1, 0, 0, 0, 0, -1, 1] (by simp) (by simp) (by simp) k (by simp; omega)]
  decide
end Go.Proofs.Ytmoahkdadeiahaa.Steady
