-- WRITTEN BY a program of this session's (wip/gprint.py, over the kit's print), with functions given by hand among them. Not trusted: Lean checks it.
import Derived.Test.YtmoahkdadeiahaaO0
import Derived.Test.YtmoahkdadeiahaaO1
import Derived.Test.YtmoahkdadeiahaaO2
import Derived.Test.YtmoahkdadeiahaaSteadyMath
namespace Go.Proofs.Ytmoahkdadeiahaa.O
open Go.RowKit Go.Proofs.YtmoahkdadeiahaaW.PrintWords Go.Proofs.YtmoahkdadeiahaaW.PrintLast Go.Proofs.YtmoahkdadeiahaaW.PrintMore
attribute [local go_sem] max2_int min2_int max_two min_two max_three min_three max_four min_four   -- for this text's walks alone
set_option linter.unusedVariables false
set_option linter.unusedSimpArgs false

-- GIVEN imports=Derived.Test.YtmoahkdadeiahaaSteadyMath
/-! ### lease_Steady: function 10, given -/
open Go.Proofs.Ytmoahkdadeiahaa.SteadyMath
def GInv (j : Nat) (s : Gs) : Prop := (0 ≤ s.t ∧ s.t ≤ j) ∧ (0 ≤ s.wd ∧ s.wd ≤ j) ∧ (-2 * (j : Int) ≤ s.le ∧ s.le ≤ 0) ∧ (-2 * (j : Int) ≤ s.mo ∧ s.mo ≤ 0)
theorem GInv.zero : GInv 0 g0 := by unfold GInv g0; simp
theorem GInv.step {j : Nat} {s : Gs} (h : GInv j s) (n x : Int) : GInv (j + 1) (gtell n x s).2 := by
  unfold GInv at *
  unfold gtell
  split
  · simp; omega
  · split
    · simp; omega
    · split
      · simp; omega
      · simp; omega
def GS (W : World) (g : Nat) (n : Int) (s : Gs) : Prop := GB W g n s.d s.le s.mo s.t s.wd
theorem tell_any (g : Nat) (n x : Int) (s : Gs) (j : Nat) (w : World) (h : GS w g n s) (h1 : 1 ≤ n) (h2 : n ≤ 9223372036854775807) (hj : j ≤ 400) (hi : GInv j s) :
    Calls Try.prog 31 #[.pointer (some ⟨g, 0, none⟩), .int .i64 x] w fun e w' => e = .returned (.bool (gtell n x s).1) ∧ GS w' g n (gtell n x s).2 ∧ w.grownBy w' (some g) := by
  obtain ⟨⟨i1, i2⟩, ⟨i3, i4⟩, ⟨i5, i6⟩, i7, i8⟩ := hi
  unfold gtell
  by_cases c1 : x = -n
  · subst c1
    rw [if_pos rfl]
    exact tell_turn g n s.le s.mo s.t s.wd s.d w h h1 h2
  · rw [if_neg c1]
    by_cases c2 : s.d = true ∨ (x ≠ 0 ∧ x ≠ n)
    · rw [if_pos c2]
      exact tell_idle g n s.le s.mo s.t s.wd x s.d w h h1 h2 c1 c2
    · rw [if_neg c2]
      have hd : s.d = false := by
        cases hd : s.d with
        | true => exact absurd (.inl hd) c2
        | false => rfl
      unfold GS at h
      rw [hd] at h
      by_cases c3 : x = 0
      · subst c3
        rw [if_pos rfl]
        exact tell_world g n s.le s.mo s.t s.wd w h h1 h2 ⟨by omega, by omega⟩ ⟨by omega, by omega⟩ ⟨by omega, by omega⟩ ⟨by omega, by omega⟩
      · rw [if_neg c3]
        have hx : x = n := by
          rcases Decidable.em (x = n) with e | e
          · exact e
          · exact absurd (.inr ⟨c3, e⟩) c2
        subst hx
        exact tell_tick g x s.le s.mo s.t s.wd w h h1 h2 ⟨by omega, by omega⟩ ⟨by omega, by omega⟩ ⟨by omega, by omega⟩ ⟨by omega, by omega⟩

def lease_Steady.f (k : Nat) (l0 : List Int) (l1 : List Int) : Option (Bool) :=
  if l1.length ≤ 400 ∧ (∀ n ∈ l0, n ≤ 9223372036854775807) then (sets_Is.f k l0).bind fun t => if t = true then some (l0.all (gOne l1)) else some false else none
theorem lease_Steady.mono : ∀ a0 a1 k, LeO (lease_Steady.f k a0 a1) (lease_Steady.f (k + 1) a0 a1) := by
  intro a0 a1 k
  unfold lease_Steady.f
  exact LeO.ite (LeO.bind (sets_Is.mono _ _) (fun _ => LeO.refl _)) (LeO.refl _)

theorem cell_int {w : World} {A : Option Addr} {n : Nat} {xs : List Int} (h : Kd.C (Kd.int .i64) w A n xs) (j : Nat) (hj : j < xs.length) : ∃ ad, A = some ad ∧ w.cell? (ad.add j) = some (.int .i64 (xs[j]'hj)) := by
  have e := h.1
  obtain ⟨ad, he, hc⟩ := h.2.2 (by omega)
  obtain ⟨c, _, hK, hcell⟩ := hc j xs[j] (List.getElem?_eq_getElem hj)
  have hK' : c = [Value.int .i64 xs[j]] := hK
  subst hK'
  have h2 := hcell 0 (Value.int .i64 xs[j]) rfl
  have : j * (Kd.int .i64).sz + 0 = j := by simp [Kd.int, Kd.scalar]
  rw [this] at h2
  exact ⟨ad, he, h2⟩
set_option maxHeartbeats 4000000 in
set_option maxRecDepth 100000 in
theorem lease_Steady.calls (k : Nat) (A0 : Option Addr) (c0 : Nat) (l0 : List Int) (A1 : Option Addr) (c1 : Nat) (l1 : List Int) (r : Bool) (w : World) (hr0 : Kd.C (Kd.int .i64) w A0 l0.length l0) (hc0 : l0.length ≤ c0) (hr1 : Kd.C (Kd.int .i64) w A1 l1.length l1) (hc1 : l1.length ≤ c1) (h : lease_Steady.f k l0 l1 = some r) :
    Calls Try.prog 10 #[.slice A0 l0.length c0, .slice A1 l1.length c1] w fun e w' => e = .returned (.bool r) ∧ Below w.heap.size w w' := by
  unfold lease_Steady.f at h
  split at h
  · rename_i hb
    obtain ⟨hb1, hb2⟩ := hb
    obtain ⟨t, ht, h⟩ := Option.bind_eq_some_iff.1 h
    have HT := Aside0.mk ht
    have HR := Aside0.mk hr0
    have HC := Aside0.mk hc0
    have HR1 := Aside0.mk hr1
    have HB2 := Aside0.mk hb2
    have hm0 : l0.length ≤ 9223372036854775807 := hr0.2.1
    clear ht hr0 hc0 hr1 hc1 hb2
    cases t with
    | false =>
      simp only [Bool.false_eq_true, if_false, Option.some.injEq] at h
      subst h
      go_enter Try.func10, Try.ntmps10
      go_wp2_with fail
      refine (sets_Is.calls k _ _ l0 false _ HR.out HC.out HT.out).mono ?_
      rintro e w1 ⟨rfl, hb1⟩
      have HB1 := Aside0.mk hb1
      clear hb1
      go_wp2
      go_ret
      exact ⟨rfl, HB1.out⟩
    | true =>
      simp only [if_true, Option.some.injEq] at h
      have HQ := Aside0.mk h
      clear h
      go_enter Try.func10, Try.ntmps10
      go_wp2_with fail
      refine (sets_Is.calls k _ _ l0 true _ HR.out HC.out HT.out).mono ?_
      rintro e w1 ⟨rfl, hbw⟩
      have HW1 := Aside0.mk hbw
      clear hbw
      go_wp2_with fail
      go_loopw [15] (fun i wr => ∃ i' : Nat, i' ≤ l0.length ∧ i = .int .i64 i' ∧ Aside0 (∀ j (hj : j < l0.length), j < i' → gOne l1 l0[j] = true) ∧ Aside0 (Below w.heap.size w wr)) (fun i _ => l0.length - (intOf i).toNat)
      case atStart => exact ⟨0, Nat.zero_le _, rfl, ⟨fun j hj h => absurd h (Nat.not_lt_zero _)⟩, HW1⟩
      case round =>
        obtain ⟨i, hi, rfl, HD, HB⟩ := hrel
        by_cases hlt : i < l0.length
        · obtain ⟨ad, rfl, hcell⟩ := cell_int (Kd.C_below HR.out HB.out) i hlt
          have hn2 : l0[i] ≤ 9223372036854775807 := HB2.out _ (List.getElem_mem hlt)
          have HNF : Aside0 (gOne l1 l0[i] = false → r = false) := ⟨fun hf => by
            rw [← HQ.out, List.all_eq_false]
            exact ⟨l0[i], List.getElem_mem hlt, by rw [hf]; decide⟩⟩
          have HNT : Aside0 (gOne l1 l0[i] = true → ∀ j (hj : j < l0.length), j < i + 1 → gOne l1 l0[j] = true) := ⟨fun hf j hj hlt => by
            rcases Nat.lt_or_ge j i with h | h
            · exact HD.out j hj h
            · have : j = i := by omega
              subst this
              exact hf⟩
          generalize hx : l0[i] = n at hcell hn2 HNF HNT
          clear hx
          obtain ⟨wo, rfl⟩ : ∃ wo : World, wo = wr := ⟨_, rfl⟩
          by_cases hn1 : 1 ≤ n
          · have HS0 : Aside0 (GS (wo.alloc (.cells #[.int .i64 n, .bool false, .int .i64 0, .int .i64 0, .int .i64 0, .int .i64 0] 55)) wo.heap.size n g0) := ⟨heap_alloc_new wo _⟩
            have HB0 : Aside0 (Below w.heap.size w (wo.alloc (.cells #[.int .i64 n, .bool false, .int .i64 0, .int .i64 0, .int .i64 0, .int .i64 0] 55))) := ⟨HB.out.alloc HB.out.size _⟩
            have HGs : Aside0 (wo.heap.size < (wo.alloc (.cells #[.int .i64 n, .bool false, .int .i64 0, .int .i64 0, .int .i64 0, .int .i64 0] 55)).heap.size) := ⟨by simp⟩
            have HWo := Aside0.mk HB.out.size
            go_wp2_with fail
            generalize wo.alloc (.cells #[.int .i64 n, .bool false, .int .i64 0, .int .i64 0, .int .i64 0, .int .i64 0] 55) = wi at HS0 HB0 HGs ⊢
            generalize hgg : wo.heap.size = g at HS0 HGs HWo ⊢
            clear HB HD hgg
            go_loopw [27] (fun q wr => ∃ j : Nat, j ≤ l1.length ∧ q = .int .i64 j ∧ ∃ s : Gs, Aside0 (GS wr g n s ∧ GInv j s ∧ grun n g0 l1 = grun n s (l1.drop j)) ∧ Aside0 (Below w.heap.size w wr)) (fun q _ => l1.length - (intOf q).toNat)
            case atStart => exact ⟨0, Nat.zero_le _, rfl, g0, ⟨HS0.out, GInv.zero, rfl⟩, HB0⟩
            case round =>
              obtain ⟨j, hj, rfl, s, HS, HBr⟩ := hrel
              by_cases hlj : j < l1.length
              · obtain ⟨ad1, rfl, hcx⟩ := cell_int (Kd.C_below HR1.out HBr.out) j hlj
                have HDr : Aside0 (l1.drop j = l1[j] :: l1.drop (j + 1)) := ⟨List.drop_eq_getElem_cons hlj⟩
                generalize l1[j] = x at hcx HDr
                go_wp2_with fail
                refine (tell_any g n x s j _ HS.out.1 hn1 hn2 (by omega) HS.out.2.1).mono ?_
                rintro e w2 ⟨rfl, hs2, hg2⟩
                have HS2 := Aside0.mk hs2
                have HB2r := Aside0.mk (HBr.out.grown hg2 HBr.out.size (fun k hk => by cases hk; exact HWo.out))
                clear hs2 hg2 hcx
                cases hb : (gtell n x s).1 with
                | true =>
                  have HH : Aside0 (grun n g0 l1 = grun n (gtell n x s).2 (l1.drop (j + 1))) := ⟨by rw [HS.out.2.2, HDr.out, grun, if_pos hb]⟩
                  have HI2 := Aside0.mk (HS.out.2.1.step n x)
                  clear hb HS HDr
                  go_wp2
                  go_roundw
                  case rel => exact ⟨j + 1, by omega, by go_num, _, ⟨HS2.out, HI2.out, HH.out⟩, HB2r⟩
                  case measure => simp [intOf]; omega
                | false =>
                  have HH : Aside0 (r = false) := ⟨HNF.out (by unfold gOne; rw [HS.out.2.2, HDr.out, grun, if_neg (by rw [hb]; decide), Bool.and_false])⟩
                  clear hb HS HDr HS2
                  go_wp2
                  go_ret
                  exact ⟨by rw [HH.out]; rfl, HB2r.out⟩
              · have HH : Aside0 (∀ j (hj : j < l0.length), j < i + 1 → gOne l1 l0[j] = true) := ⟨HNT.out (by
                  unfold gOne
                  rw [HS.out.2.2, List.drop_of_length_le (by omega), grun, decide_eq_true hn1]
                  rfl)⟩
                clear HS HNT HNF
                go_wp2
                go_roundw
                case rel => exact ⟨i + 1, by omega, by go_num, HH, HBr⟩
                case measure => simp [intOf]; omega
          · have HH : Aside0 (r = false) := ⟨HNF.out (by unfold gOne; rw [decide_eq_false hn1, Bool.false_and])⟩
            have HB0 : Aside0 (Below w.heap.size w (wo.alloc (.cells #[.int .i64 n, .bool false, .int .i64 0, .int .i64 0, .int .i64 0, .int .i64 0] 55))) := ⟨HB.out.alloc HB.out.size _⟩
            clear HNF HNT
            go_wp2
            go_ret
            exact ⟨by rw [HH.out]; rfl, HB0.out⟩
        · have HH : Aside0 (r = true) := ⟨by
            rw [← HQ.out, List.all_eq_true]
            intro x hx
            obtain ⟨j, hj, e⟩ := List.mem_iff_getElem.1 hx
            rw [← e]
            exact HD.out j hj (by omega)⟩
          go_wp2
          go_ret
          exact ⟨by rw [HH.out]; rfl, HB.out⟩
  · cases h

end Go.Proofs.Ytmoahkdadeiahaa.O
