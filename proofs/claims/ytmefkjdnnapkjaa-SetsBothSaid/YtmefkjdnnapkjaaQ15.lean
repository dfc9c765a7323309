-- WRITTEN BY a program of this session's (wip/gprint.py, over the kit's print), with functions given by hand among them. Not trusted: Lean checks it.
import Derived.Test.YtmefkjdnnapkjaaQ0
import Derived.Test.YtmefkjdnnapkjaaQ6
import Derived.Test.YtmefkjdnnapkjaaQ9
import Derived.Test.YtmefkjdnnapkjaaQ10
import Derived.Test.YtmefkjdnnapkjaaQ11
import Derived.Test.YtmefkjdnnapkjaaQ14
import Derived.Test.YtmefkjdnnapkjaaGen
import Derived.Test.YtmefkjdnnapkjaaShelf
namespace Go.Proofs.Ytmefkjdnnapkjaa.Q
open Go.RowKit Go.Proofs.YtmefkjdnnapkjaaW.PrintWords Go.Proofs.YtmefkjdnnapkjaaW.PrintLast Go.Proofs.YtmefkjdnnapkjaaW.PrintMore
attribute [local go_sem] max2_int min2_int max_two min_two max_three min_three max_four min_four   -- for this text's walks alone
set_option linter.unusedVariables false
set_option linter.unusedSimpArgs false

-- GIVEN imports=Derived.Test.YtmefkjdnnapkjaaShelf,Derived.Test.YtmefkjdnnapkjaaGen
/-! ### folkmootlaw04_SetsWithout: function 5, given -/
def folkmootlaw04_SetsWithout.f (k : Nat) (l0 : List Int) (a1 : Int) : Option Bool := if (l0.length : Int) > 1000 then some true else (sets_Without.f k l0 a1).bind fun p => (folkmootref04_Without.f k l0 a1).bind fun q => if folkmootkeep_Ints.f k p.1 q.1 = some true ∧ folkmootkeep_Ints.f k l0 l0 = some true ∧ folkmootlaw04_without.f k = some true ∧ p.2 = q.2 then some true else none
set_option maxHeartbeats 4000000 in
set_option maxRecDepth 100000 in
theorem folkmootlaw04_SetsWithout.calls (k : Nat) (A0 : Option Addr) (c0 : Nat) (l0 : List Int) (a1 : Int) (r : Bool) (w : World) (hr0 : Kd.C (Kd.int .i64) w A0 l0.length l0) (hc0 : l0.length ≤ c0) (h : folkmootlaw04_SetsWithout.f k l0 a1 = some r) :
    Calls Try.prog 5 #[.slice A0 l0.length c0, .int .i64 a1] w fun e w' => e = .returned (.bool r) ∧ Below w.heap.size w w' := by
  unfold folkmootlaw04_SetsWithout.f at h
  have HR := Aside0.mk hr0
  have HC := Aside0.mk hc0
  clear hr0 hc0
  split at h
  · rename_i hl
    obtain rfl := Option.some.inj h
    clear h HR HC
    go_enter Try.func5, Try.ntmps5
    go_wp2
    go_ret
    exact ⟨rfl, Below.refl _ _⟩
  · rename_i hl
    have hl' : l0.length ≤ 1000 := by omega
    clear hl
    obtain ⟨⟨p1, p2⟩, hp, h⟩ := Option.bind_eq_some_iff.1 h
    obtain ⟨⟨q1, q2⟩, hq, h⟩ := Option.bind_eq_some_iff.1 h
    split at h
    · rename_i hcs
      obtain ⟨hs, hi, ht, he⟩ := hcs
      obtain rfl := Option.some.inj h
      simp only at he hs
      subst he
      have HP := Aside0.mk hp
      have HQ := Aside0.mk hq
      have HS := Aside0.mk hs
      have HI := Aside0.mk hi
      have HT := Aside0.mk ht
      clear hp hq hs hi ht h
      go_enter Try.func5, Try.ntmps5
      go_wp2_with fail
      refine (lend A0 c0 l0 _ HR.out (by omega)).mono ?_
      rintro e w1 ⟨g, rfl, hL, hg, hb1⟩
      have HL1 := Aside0.mk hL
      have HR1 := Aside0.mk (Kd.C_below HR.out hb1)
      have HB1 := Aside0.mk hb1
      have HG1 := Aside0.mk hL.lt
      have HG := Aside0.mk hg
      have HB1s := Aside0.mk hb1.size
      clear hL hg hb1
      go_wp2_with fail
      refine (sets_Without.calls k _ _ l0 a1 p1 p2 _ (HL1.out.reads (by omega)) (Nat.le_succ _) HP.out).mono ?_
      rintro e w2 ⟨v, rfl, hO, hb2⟩
      obtain ⟨A, cap, rfl⟩ := Kd.R_slice hO
      have HO := Aside0.mk hO
      have HL2 := Aside0.mk (HL1.out.later (hb2.block g HG1.out))
      have HG2 := Aside0.mk (Nat.lt_of_lt_of_le HG1.out hb2.size)
      have HR2 := Aside0.mk (Kd.C_below HR1.out hb2)
      have HB2 := Aside0.mk (below_then HB1.out HB1.out.size hb2)
      clear hO hb2 HR1 HL1 HB1
      go_wp2_with fail
      refine (folkmootref04_Without.calls k _ _ l0 a1 q1 p2 _ HR2.out HC.out HQ.out).mono ?_
      rintro e w3 ⟨v', rfl, hO, hb3⟩
      obtain ⟨A', cap', rfl⟩ := Kd.R_slice hO
      have HO' := Aside0.mk (Kd.R_reads' hO)
      have HO3 := Aside0.mk (Kd.R_below HO.out hb3)
      have HL3 := Aside0.mk (HL2.out.later (hb3.block g HG2.out))
      have HR3 := Aside0.mk (Kd.C_below HR2.out hb3)
      have HB3 := Aside0.mk (below_then HB2.out HB2.out.size hb3)
      clear hO hb3 HR2 HL2 HB2 HO HG2
      go_wp2_with fail
      refine (folkmootkeep_Ints.calls k _ _ p1 _ _ q1 true _ (Kd.R_reads' HO3.out).2.2 (Kd.R_reads' HO3.out).2.1 HO'.out.2.2 HO'.out.2.1 HS.out).mono ?_
      rintro e w4 ⟨rfl, ⟨nd, rfl⟩⟩
      obtain ⟨hA, hOv, hAb⟩ := ovr_at (Kd.R_below HO3.out (pw_below_drewN (Below.refl _ _) nd))
      have HA := Aside0.mk hA
      have HOv := Aside0.mk hOv
      have HAb := Aside0.mk hAb
      have HL4 : Aside0 (Lent (w3.drewN nd) g l0) := ⟨HL3.out⟩
      have HR4 : Aside0 ((Kd.int .i64).C (w3.drewN nd) A0 l0.length l0) := ⟨Kd.C_drewN HR3.out nd⟩
      have HB4 : Aside0 (Below w.heap.size w (w3.drewN nd)) := ⟨pw_below_drewN HB3.out nd⟩
      have hcapn : p1.length ≤ cap := (Kd.R_reads' HO3.out).2.1
      have hcapm : p1.length ≤ 9223372036854775807 := (Kd.R_reads' HO3.out).2.2.2.1
      clear hA hOv hAb HO3 HO' HL3 HR3 HB3 hcapn
      go_wp2_with fail
      generalize w3.drewN nd = w4 at HOv HAb HL4 HR4 HB4 ⊢
      go_loopw [11] (fun i wr => ∃ j : Nat, j ≤ p1.length ∧ i = .int .i64 j ∧ Aside0 (Ovr w4 wr A p1.length)) (fun i _ => p1.length - (intOf i).toNat)
      case atStart => exact ⟨0, Nat.zero_le _, rfl, HOv⟩
      case round =>
        obtain ⟨j, hj, rfl, HW⟩ := hrel
        by_cases hlt : j < p1.length
        · obtain ⟨g', rfl⟩ := HA.out (by omega)
          obtain ⟨⟨u, hu⟩, hf⟩ := HW.out.cell j hlt
          go_wp2
          go_roundw
          case rel => exact ⟨j + 1, by omega, by go_num, ⟨HW.out.set j _⟩⟩
          case measure => simp [intOf]; omega
        · have HBr : Aside0 (Below w.heap.size w wr) := ⟨HW.out.below HB4.out HB4.out.size (fun a ha => Nat.le_trans HB1s.out (HAb.out a ha).1)⟩
          have hgr : wr.heap[g]? = w4.heap[g]? := HW.out.1.block g HL4.out.lt (fun e => by
            cases A with
            | none => cases e
            | some a =>
              have h1 := (HAb.out a rfl).1
              have h2 := HG1.out
              simp at e
              omega)
          have HLr := Aside0.mk (HL4.out.later hgr)
          have HRr : Aside0 ((Kd.int .i64).C wr A0 l0.length l0) := ⟨Kd.C_below HR.out HBr.out⟩
          clear hgr HW HL4 HR4 HB4 HOv HAb HA
          go_wp2_with fail
          refine (back _ _ l0 _ g k HLr.out HRr.out HC.out (by omega) HI.out).mono ?_
          rintro e w5 ⟨rfl, hg5⟩
          have HB5 := Aside0.mk (HBr.out.grown hg5 HBr.out.size (fun k hk => by cases hk; exact HG.out))
          clear hg5
          go_wp2_with fail
          refine (folkmootlaw04_without.calls k true _ HT.out).mono ?_
          rintro e w6 ⟨rfl, hb6⟩
          have HB6 := Aside0.mk (below_then HB5.out HB5.out.size hb6)
          clear hb6
          go_wp2
          go_ret
          exact ⟨rfl, HB6.out⟩
    · cases h

/-- THE ONE PURE STATEMENT of folkmootlaw04_SetsWithout: yours. -/
def folkmootlaw04_SetsWithout.Pure : Prop := ∀ (l0 : List Int) (a1 : Int), l0.length ≤ maxLen → l0.length * 8 ≤ 140737488351232 → (∀ x ∈ l0, (Lit.int .i64 x).wf = true) → (Lit.int .i64 a1).wf = true → ∃ k, folkmootlaw04_SetsWithout.f k l0 a1 = some true
theorem folkmootlaw04_SetsWithout.walk (P : folkmootlaw04_SetsWithout.Pure) (a0 : Option Addr) (len0 cap0 : Nat) (z0 : List Int) (a1 : Int) (w : World) (w0 : (a0 = none ∧ len0 = 0 ∧ cap0 = 0 ∧ z0 = []) ∨ ∃ x, a0 = some x ∧ len0 ≤ cap0 ∧ cap0 ≤ maxLen ∧ z0.length = cap0 ∧ (∀ i, i < z0.length → w.cell? (x.add i) = some (.int .i64 (z0.getD i 0))) ∧ ∀ n ∈ z0, (Lit.int .i64 n).wf = true) (y0 : len0 * 8 ≤ 140737488351232) (w1 : (Lit.int .i64 a1).wf = true) :
    Calls Try.prog 5 #[.slice a0 len0 cap0, .int .i64 a1] w fun e w' => e = .returned (.bool true) ∧ Below w.heap.size w w' := by
  obtain ⟨l0, rfl, hr0, hm0, hw0, hc0⟩ := ReadsInt.ofRowC w0
  obtain ⟨k, h⟩ := P l0 a1 hm0 y0 hw0 w1
  refine (folkmootlaw04_SetsWithout.calls k _ _ l0 a1 true w (Kd.C_of_reads (d := (0 : Int)) (h1 := fun _ => rfl) hr0) hc0 h).mono ?_
  rintro e w' ⟨rfl, hd⟩
  exact ⟨rfl, hd⟩

end Go.Proofs.Ytmefkjdnnapkjaa.Q
