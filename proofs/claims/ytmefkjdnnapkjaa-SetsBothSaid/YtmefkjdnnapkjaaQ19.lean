-- WRITTEN BY a program of this session's (wip/gprint.py, over the kit's print), with functions given by hand among them. Not trusted: Lean checks it.
import Derived.Test.YtmefkjdnnapkjaaQ0
import Derived.Test.YtmefkjdnnapkjaaQ6
import Derived.Test.YtmefkjdnnapkjaaQ11
import Derived.Test.YtmefkjdnnapkjaaQ16
import Derived.Test.YtmefkjdnnapkjaaQ17
import Derived.Test.YtmefkjdnnapkjaaQ18
import Derived.Test.YtmefkjdnnapkjaaGen
import Derived.Test.YtmefkjdnnapkjaaShelf
namespace Go.Proofs.Ytmefkjdnnapkjaa.Q
open Go.RowKit Go.Proofs.YtmefkjdnnapkjaaW.PrintWords Go.Proofs.YtmefkjdnnapkjaaW.PrintLast Go.Proofs.YtmefkjdnnapkjaaW.PrintMore
attribute [local go_sem] max2_int min2_int max_two min_two max_three min_three max_four min_four   -- for this text's walks alone
set_option linter.unusedVariables false
set_option linter.unusedSimpArgs false

-- GIVEN imports=Derived.Test.YtmefkjdnnapkjaaShelf,Derived.Test.YtmefkjdnnapkjaaGen
/-! ### folkmootlaw04_SetsBoth: function 8, given -/
def folkmootlaw04_SetsBoth.f (k : Nat) (l0 l1 : List Int) : Option Bool := if (l0.length : Int) > 1000 ∨ (l1.length : Int) > 1000 then some true else (sets_Both.f k l0 l1).bind fun p => (sets_Common.f k l0 l1).bind fun c => (folkmootref04_Both.f k l0 l1).bind fun q => (folkmootref04_Common.f k l0 l1).bind fun d => if (folkmootkeep_Ints.f k p.1 q.1 = some true ∧ folkmootkeep_Ints.f k c.1 d.1 = some true ∧ p.2 = q.2 ∧ c.2 = d.2) ∧ (folkmootkeep_Ints.f k l0 l0 = some true ∧ folkmootkeep_Ints.f k l1 l1 = some true) ∧ (sets_Both.f k [1, 5] [3, 5] = some ([1, 3, 5], 0) ∧ sets_Common.f k [1, 5] [3, 5] = some ([5], 0) ∧ folkmootkeep_Ints.f k [1, 3, 5] [1, 3, 5] = some true ∧ folkmootkeep_Ints.f k [5] [5] = some true) then some true else none
theorem lit_c {W : World} {b : Nat} (xs : List Int) (hx : xs.length ≤ 1000) (hh : W.heap[b]? = some (.cells (xs.map (Value.int .i64)).toArray 3 (0, 0))) : Kd.C (Kd.int .i64) W (some ⟨b, 0, none⟩) xs.length xs := by
  refine ⟨rfl, by omega, fun _ => ⟨_, rfl, fun j p hj => ⟨[.int .i64 p], rfl, rfl, fun i u hu => ?_⟩⟩⟩
  have hi : i = 0 := by
    have := (List.getElem?_eq_some_iff.1 hu).1
    simpa using this
  subst hi
  simp at hu
  subst hu
  have hjl := (List.getElem?_eq_some_iff.1 hj).1
  have e : j * (Kd.int .i64).sz + 0 = j := by simp [Kd.int, Kd.scalar]
  rw [e, add_plain]
  simp only [World.cell?, hh]
  simp [hj]
theorem lit_two (W : World) (o1 o2 : Obj) : ((W.alloc o1).alloc o2).heap[W.heap.size]? = some o1 ∧ ((W.alloc o1).alloc o2).heap[W.heap.size + 1]? = some o2 := by
  refine ⟨?_, ?_⟩
  · rw [Below.heap_alloc _ _ _ (by simp)]
    exact heap_alloc_new W o1
  · have := heap_alloc_new (W.alloc o1) o2
    simpa using this
set_option maxHeartbeats 8000000 in
set_option maxRecDepth 100000 in
theorem folkmootlaw04_SetsBoth.calls (k : Nat) (A0 : Option Addr) (c0 : Nat) (l0 : List Int) (A1 : Option Addr) (c1 : Nat) (l1 : List Int) (r : Bool) (w : World) (hr0 : Kd.C (Kd.int .i64) w A0 l0.length l0) (hc0 : l0.length ≤ c0) (hr1 : Kd.C (Kd.int .i64) w A1 l1.length l1) (hc1 : l1.length ≤ c1) (h : folkmootlaw04_SetsBoth.f k l0 l1 = some r) :
    Calls Try.prog 8 #[.slice A0 l0.length c0, .slice A1 l1.length c1] w fun e w' => e = .returned (.bool r) ∧ Below w.heap.size w w' := by
  unfold folkmootlaw04_SetsBoth.f at h
  have HR := Aside0.mk hr0
  have HC := Aside0.mk hc0
  have HR' := Aside0.mk hr1
  have HC' := Aside0.mk hc1
  clear hr0 hc0 hr1 hc1
  split at h
  · rename_i hl
    obtain rfl := Option.some.inj h
    clear h HR HC HR' HC'
    by_cases hl0 : (l0.length : Int) > 1000
    · clear hl
      go_enter Try.func8, Try.ntmps8
      go_wp2
      go_ret
      exact ⟨rfl, Below.refl _ _⟩
    · have hl1 : (l1.length : Int) > 1000 := hl.resolve_left hl0
      clear hl
      go_enter Try.func8, Try.ntmps8
      go_wp2
      go_ret
      exact ⟨rfl, Below.refl _ _⟩
  · rename_i hl
    have hl0 : l0.length ≤ 1000 := by omega
    have hl1 : l1.length ≤ 1000 := by omega
    clear hl
    obtain ⟨⟨p1, p2⟩, hp, h⟩ := Option.bind_eq_some_iff.1 h
    obtain ⟨⟨m1, m2⟩, hm, h⟩ := Option.bind_eq_some_iff.1 h
    obtain ⟨⟨q1, q2⟩, hq, h⟩ := Option.bind_eq_some_iff.1 h
    obtain ⟨⟨d1, d2⟩, hd, h⟩ := Option.bind_eq_some_iff.1 h
    split at h
    · rename_i hcs
      obtain ⟨⟨hs, hs2, he, he2⟩, ⟨hi, hi2⟩, hx1, hx2, hx3, hx4⟩ := hcs
      obtain rfl := Option.some.inj h
      simp only at he hs he2 hs2
      subst he
      subst he2
      have HP := Aside0.mk hp
      have HM := Aside0.mk hm
      have HQ := Aside0.mk hq
      have HD := Aside0.mk hd
      have HS := Aside0.mk hs
      have HS2 := Aside0.mk hs2
      have HI := Aside0.mk hi
      have HI2 := Aside0.mk hi2
      have HX1 := Aside0.mk hx1
      have HX2 := Aside0.mk hx2
      have HX3 := Aside0.mk hx3
      have HX4 := Aside0.mk hx4
      clear hp hm hq hd hs hs2 hi hi2 hx1 hx2 hx3 hx4 h
      go_enter Try.func8, Try.ntmps8
      go_wp2_with fail
      refine (lend A0 c0 l0 _ HR.out (by omega)).mono ?_
      rintro e w1 ⟨g, rfl, hL, hg, hb1⟩
      have HL1 := Aside0.mk hL
      have HB1 := Aside0.mk hb1
      have HR1' := Aside0.mk (Kd.C_below HR'.out hb1)
      have HG := Aside0.mk hg
      have HG1 := Aside0.mk hL.lt
      clear hL hg hb1
      go_wp2_with fail
      refine (lend A1 c1 l1 _ HR1'.out (by omega)).mono ?_
      rintro e wa ⟨g', rfl, hL, hg, hb⟩
      have HLa' := Aside0.mk hL
      have HLa := Aside0.mk (HL1.out.later (hb.block g HG1.out))
      have HBa := Aside0.mk (below_then HB1.out HB1.out.size hb)
      have HG' := Aside0.mk (Nat.le_trans HB1.out.size hg)
      have HNe : Aside0 (g ≠ g') := ⟨by have := HG1.out; omega⟩
      have HGa := Aside0.mk (Nat.lt_of_lt_of_le HG1.out hb.size)
      have HGa' := Aside0.mk hL.lt
      clear hL hg hb HL1 HR1' HB1 HG1
      go_wp2_with fail
      refine (sets_Both.calls k (fun _ => True) _ _ l0 (fun _ => True) _ _ l1 p1 p2 _ (v_of_c (HLa.out.reads (by omega)) (Nat.le_succ _)) (v_of_c (HLa'.out.reads (by omega)) (Nat.le_succ _)) HP.out).mono ?_
      rintro e w2 ⟨v, rfl, hO, hb2⟩
      obtain ⟨A, cap, rfl⟩ := Kd.R_slice hO
      have HO := Aside0.mk hO
      have HL2 := Aside0.mk (HLa.out.later (hb2.block g HGa.out))
      have HL2' := Aside0.mk (HLa'.out.later (hb2.block g' HGa'.out))
      have HG2 := Aside0.mk (Nat.lt_of_lt_of_le HGa.out hb2.size)
      have HG2' := Aside0.mk (Nat.lt_of_lt_of_le HGa'.out hb2.size)
      have HB2 := Aside0.mk (below_then HBa.out HBa.out.size hb2)
      have HBas := Aside0.mk HBa.out.size
      clear hO hb2 HLa HLa' HBa
      go_wp2_with fail
      refine (sets_Common.calls k _ _ l0 _ _ l1 m1 m2 _ (HL2.out.reads (by omega)) (Nat.le_succ _) (HL2'.out.reads (by omega)) (Nat.le_succ _) HM.out).mono ?_
      rintro e w3 ⟨v, rfl, hO, hb3⟩
      obtain ⟨C, capC, rfl⟩ := Kd.R_slice hO
      have HP3 := Aside0.mk (Kd.R_below HO.out hb3)
      have HM3 := Aside0.mk hO
      have HL3 := Aside0.mk (HL2.out.later (hb3.block g HG2.out))
      have HL3' := Aside0.mk (HL2'.out.later (hb3.block g' HG2'.out))
      have HG3 := Aside0.mk (Nat.lt_of_lt_of_le HG2.out hb3.size)
      have HG3' := Aside0.mk (Nat.lt_of_lt_of_le HG2'.out hb3.size)
      have HB3 := Aside0.mk (below_then HB2.out HB2.out.size hb3)
      have HB2s := Aside0.mk HB2.out.size
      have HAC : Aside0 (∀ a c, A = some a → C = some c → a.block < c.block) := ⟨fun a c ea ec => by
        have h1 := ((ovr_at HO.out).2.2 a ea).2
        have h2 := ((ovr_at HM3.out).2.2 c ec).1
        omega⟩
      clear hO hb3 HL2 HL2' HB2 HO
      go_wp2_with fail
      refine (folkmootref04_Both.calls k _ _ l0 _ _ l1 q1 p2 _ (Kd.C_below HR.out HB3.out) HC.out (Kd.C_below HR'.out HB3.out) HC'.out HQ.out).mono ?_
      rintro e w4 ⟨v, rfl, hO, hb4⟩
      obtain ⟨Aq, capq, rfl⟩ := Kd.R_slice hO
      have HP4 := Aside0.mk (Kd.R_below HP3.out hb4)
      have HM4 := Aside0.mk (Kd.R_below HM3.out hb4)
      have HQ4 := Aside0.mk (Kd.R_reads' hO)
      have HL4 := Aside0.mk (HL3.out.later (hb4.block g HG3.out))
      have HL4' := Aside0.mk (HL3'.out.later (hb4.block g' HG3'.out))
      have HG4 := Aside0.mk (Nat.lt_of_lt_of_le HG3.out hb4.size)
      have HG4' := Aside0.mk (Nat.lt_of_lt_of_le HG3'.out hb4.size)
      have HB4 := Aside0.mk (below_then HB3.out HB3.out.size hb4)
      clear hO hb4 HL3 HL3' HB3 HP3 HM3 HG3 HG3'
      go_wp2_with fail
      refine (folkmootref04_Common.calls k _ _ l0 _ _ l1 d1 m2 _ (Kd.C_below HR.out HB4.out) HC.out (Kd.C_below HR'.out HB4.out) HC'.out HD.out).mono ?_
      rintro e w5 ⟨v, rfl, hO, hb5⟩
      obtain ⟨Ad, capd, rfl⟩ := Kd.R_slice hO
      have HP5 := Aside0.mk (Kd.R_below HP4.out hb5)
      have HM5 := Aside0.mk (Kd.R_below HM4.out hb5)
      have HQ5 := Aside0.mk (Kd.C_below HQ4.out.2.2 hb5)
      have HQ5c := Aside0.mk HQ4.out.2.1
      have HD5 := Aside0.mk (Kd.R_reads' hO)
      have HL5 := Aside0.mk (HL4.out.later (hb5.block g HG4.out))
      have HL5' := Aside0.mk (HL4'.out.later (hb5.block g' HG4'.out))
      have HB5 := Aside0.mk (below_then HB4.out HB4.out.size hb5)
      clear hO hb5 HL4 HL4' HB4 HP4 HM4 HQ4 HG4 HG4'
      go_wp2_with fail
      refine (folkmootkeep_Ints.calls k _ _ p1 _ _ q1 true _ (Kd.R_reads' HP5.out).2.2 (Kd.R_reads' HP5.out).2.1 HQ5.out HQ5c.out HS.out).mono ?_
      rintro e w6 ⟨rfl, ⟨n6, rfl⟩⟩
      go_wp2_with fail
      refine (folkmootkeep_Ints.calls k _ _ m1 _ _ d1 true _ (Kd.C_drewN (Kd.R_reads' HM5.out).2.2 n6) (Kd.R_reads' HM5.out).2.1 (Kd.C_drewN HD5.out.2.2 n6) HD5.out.2.1 HS2.out).mono ?_
      rintro e w7 ⟨rfl, ⟨n7, rfl⟩⟩
      obtain ⟨hA, hOv, hAb⟩ := ovr_at (Kd.R_below HP5.out (pw_below_drewN (Below.refl _ _) (n6 + n7)))
      obtain ⟨hA2, hOv2, hAb2⟩ := ovr_at (Kd.R_below HM5.out (pw_below_drewN (Below.refl _ _) (n6 + n7)))
      have HA := Aside0.mk hA
      have HOv := Aside0.mk hOv
      have HAb := Aside0.mk hAb
      have HA2 := Aside0.mk hA2
      have HOv2 := Aside0.mk hOv2
      have HAb2 := Aside0.mk hAb2
      have HL7 : Aside0 (Lent (w5.drewN (n6 + n7)) g l0) := ⟨HL5.out⟩
      have HL7' : Aside0 (Lent (w5.drewN (n6 + n7)) g' l1) := ⟨HL5'.out⟩
      have HB7 : Aside0 (Below w.heap.size w (w5.drewN (n6 + n7))) := ⟨pw_below_drewN HB5.out (n6 + n7)⟩
      have hcapm : p1.length ≤ 9223372036854775807 := (Kd.R_reads' HP5.out).2.2.2.1
      have hcapn : m1.length ≤ 9223372036854775807 := (Kd.R_reads' HM5.out).2.2.2.1
      clear hA hOv hAb hA2 hOv2 hAb2 HP5 HM5 HL5 HL5' HB5 HQ5 HQ5c HD5
      go_wp2_with fail
      generalize w5.drewN (n6 + n7) = w7 at HOv HAb HOv2 HAb2 HL7 HL7' HB7 ⊢
      go_loopw [16] (fun i wr => ∃ j : Nat, j ≤ p1.length ∧ i = .int .i64 j ∧ Aside0 (Ovr w7 wr A p1.length)) (fun i _ => p1.length - (intOf i).toNat)
      case atStart => exact ⟨0, Nat.zero_le _, rfl, HOv⟩
      case round =>
        obtain ⟨j, hj, rfl, HW⟩ := hrel
        by_cases hlt : j < p1.length
        · obtain ⟨g9, rfl⟩ := HA.out (by omega)
          obtain ⟨⟨u, hu⟩, hf⟩ := HW.out.cell j hlt
          go_wp2
          go_roundw
          case rel => exact ⟨j + 1, by omega, by go_num, ⟨HW.out.set j _⟩⟩
          case measure => simp [intOf]; omega
        · have hne : ∀ k, k < w2.heap.size → w2.heap.size ≤ w7.heap.size → True := fun _ _ _ => trivial
          clear hne
          have HBr : Aside0 (Below w.heap.size w wr) := ⟨HW.out.below HB7.out HB7.out.size (fun a ha => Nat.le_trans HBas.out (HAb.out a ha).1)⟩
          have hgr : wr.heap[g]? = w7.heap[g]? := HW.out.1.block g HL7.out.lt (fun e => by
            cases A with
            | none => cases e
            | some a =>
              have h1 := (HAb.out a rfl).1
              have h2 := HGa.out
              simp at e
              omega)
          have hgr' : wr.heap[g']? = w7.heap[g']? := HW.out.1.block g' HL7'.out.lt (fun e => by
            cases A with
            | none => cases e
            | some a =>
              have h1 := (HAb.out a rfl).1
              have h2 := HGa'.out
              simp at e
              omega)
          have HLr := Aside0.mk (HL7.out.later hgr)
          have HLr' := Aside0.mk (HL7'.out.later hgr')
          have HOr : Aside0 (Ovr wr wr C m1.length) := ⟨⟨⟨rfl, rfl, rfl, Nat.le_refl _, fun _ _ _ => rfl⟩, fun c e hn => by
            obtain ⟨cur, hh, hc⟩ := HOv2.out.2 c e hn
            refine ⟨cur, (HW.out.1.block c (HAb2.out _ e).2 (fun e2 => ?_)).trans hh, hc⟩
            cases A with
            | none => cases e2
            | some a =>
              have h1 := HAC.out a _ rfl e
              simp at e2
              simp at h1
              omega⟩⟩
          have HAbr : Aside0 (∀ c, C = some c → w2.heap.size ≤ c.block) := ⟨fun c e => (HAb2.out c e).1⟩
          have HG9 := Aside0.mk (show w7.heap.size ≤ wr.heap.size from HW.out.1.size)
          clear hgr hgr' HW HL7 HL7' HB7 HOv HAb HA HOv2 HAb2 HAC
          go_wp2_with fail
          obtain ⟨wo, rfl⟩ : ∃ wo : World, wo = wr := ⟨_, rfl⟩
          go_loopw [17] (fun i wr => ∃ j : Nat, j ≤ m1.length ∧ i = .int .i64 j ∧ Aside0 (Ovr wo wr C m1.length)) (fun i _ => m1.length - (intOf i).toNat)
          case atStart => exact ⟨0, Nat.zero_le _, rfl, HOr⟩
          case round =>
            obtain ⟨j, hj, rfl, HW⟩ := hrel
            by_cases hlt : j < m1.length
            · obtain ⟨g9, rfl⟩ := HA2.out (by omega)
              obtain ⟨⟨u, hu⟩, hf⟩ := HW.out.cell j hlt
              go_wp2
              go_roundw
              case rel => exact ⟨j + 1, by omega, by go_num, ⟨HW.out.set j _⟩⟩
              case measure => simp [intOf]; omega
            · have HBt : Aside0 (Below w.heap.size w wr) := ⟨HW.out.below HBr.out HBr.out.size (fun c hc => Nat.le_trans HB2s.out (HAbr.out c hc))⟩
              have hgr : wr.heap[g]? = wo.heap[g]? := HW.out.1.block g HLr.out.lt (fun e => by
                cases C with
                | none => cases e
                | some a =>
                  have h1 := HAbr.out a rfl
                  have h2 := HG2.out
                  simp at e
                  omega)
              have hgr' : wr.heap[g']? = wo.heap[g']? := HW.out.1.block g' HLr'.out.lt (fun e => by
                cases C with
                | none => cases e
                | some a =>
                  have h1 := HAbr.out a rfl
                  have h2 := HG2'.out
                  simp at e
                  omega)
              have HLt := Aside0.mk (HLr.out.later hgr)
              have HLt' := Aside0.mk (HLr'.out.later hgr')
              clear hgr hgr' HW HLr HLr' HBr HOr HAbr HA2
              have HW1 : Aside0 (Kd.C (Kd.int .i64) ((wr.alloc (.cells #[.int .i64 1, .int .i64 5] 3)).alloc (.cells #[.int .i64 3, .int .i64 5] 3)) (some ⟨wr.heap.size, 0, none⟩) 2 [1, 5]) := ⟨lit_c [1, 5] (by simp) (lit_two wr _ _).1⟩
              have HW2 : Aside0 (Kd.C (Kd.int .i64) ((wr.alloc (.cells #[.int .i64 1, .int .i64 5] 3)).alloc (.cells #[.int .i64 3, .int .i64 5] 3)) (some ⟨wr.heap.size + 1, 0, none⟩) 2 [3, 5]) := ⟨lit_c [3, 5] (by simp) (lit_two wr _ _).2⟩
              have HBx : Aside0 (Below wr.heap.size wr ((wr.alloc (.cells #[.int .i64 1, .int .i64 5] 3)).alloc (.cells #[.int .i64 3, .int .i64 5] 3))) := ⟨below_alloc (below_alloc (Below.refl _ _) _) _⟩
              go_wp2_with fail
              generalize (wr.alloc (.cells #[.int .i64 1, .int .i64 5] 3)).alloc (.cells #[.int .i64 3, .int .i64 5] 3) = wx at HW1 HW2 HBx ⊢
              refine (sets_Both.calls k (fun _ => True) _ 2 [1, 5] (fun _ => True) _ 2 [3, 5] [1, 3, 5] 0 _ (v_of_c HW1.out (Nat.le_refl _)) (v_of_c HW2.out (Nat.le_refl _)) HX1.out).mono ?_
              rintro e wy ⟨v, rfl, hO, hby⟩
              obtain ⟨Ay, capy, rfl⟩ := Kd.R_slice hO
              have HOy := Aside0.mk (Kd.R_reads' hO)
              have HBy := Aside0.mk (below_then HBx.out HBx.out.size hby)
              clear hO hby HW1 HW2 HBx
              have HW1 : Aside0 (Kd.C (Kd.int .i64) ((wy.alloc (.cells #[.int .i64 1, .int .i64 5] 3)).alloc (.cells #[.int .i64 3, .int .i64 5] 3)) (some ⟨wy.heap.size, 0, none⟩) 2 [1, 5]) := ⟨lit_c [1, 5] (by simp) (lit_two wy _ _).1⟩
              have HW2 : Aside0 (Kd.C (Kd.int .i64) ((wy.alloc (.cells #[.int .i64 1, .int .i64 5] 3)).alloc (.cells #[.int .i64 3, .int .i64 5] 3)) (some ⟨wy.heap.size + 1, 0, none⟩) 2 [3, 5]) := ⟨lit_c [3, 5] (by simp) (lit_two wy _ _).2⟩
              have HBx : Aside0 (Below wy.heap.size wy ((wy.alloc (.cells #[.int .i64 1, .int .i64 5] 3)).alloc (.cells #[.int .i64 3, .int .i64 5] 3))) := ⟨below_alloc (below_alloc (Below.refl _ _) _) _⟩
              go_wp2_with fail
              generalize (wy.alloc (.cells #[.int .i64 1, .int .i64 5] 3)).alloc (.cells #[.int .i64 3, .int .i64 5] 3) = wx2 at HW1 HW2 HBx ⊢
              refine (sets_Common.calls k _ 2 [1, 5] _ 2 [3, 5] [5] 0 _ HW1.out (Nat.le_refl _) HW2.out (Nat.le_refl _) HX2.out).mono ?_
              rintro e wz ⟨v, rfl, hO, hbz⟩
              obtain ⟨Az, capz, rfl⟩ := Kd.R_slice hO
              have HOz := Aside0.mk (Kd.R_reads' hO)
              have HOyz := Aside0.mk (Kd.C_below (Kd.C_below HOy.out.2.2 HBx.out) hbz)
              have HBz := Aside0.mk (below_then HBy.out HBy.out.size (below_then HBx.out HBx.out.size hbz))
              clear hO hbz HW1 HW2 HBx HBy
              have HV1 : Aside0 (Kd.C (Kd.int .i64) (wz.alloc (.cells #[.int .i64 1, .int .i64 3, .int .i64 5] 3)) (some ⟨wz.heap.size, 0, none⟩) 3 [1, 3, 5]) := ⟨lit_c [1, 3, 5] (by simp) (heap_alloc_new wz _)⟩
              have HV2 : Aside0 (Below wz.heap.size wz (wz.alloc (.cells #[.int .i64 1, .int .i64 3, .int .i64 5] 3))) := ⟨below_alloc (Below.refl _ _) _⟩
              go_wp2_with fail
              generalize wz.alloc (.cells #[.int .i64 1, .int .i64 3, .int .i64 5] 3) = wv at HV1 HV2 ⊢
              refine (folkmootkeep_Ints.calls k _ _ [1, 3, 5] _ 3 [1, 3, 5] true _ (Kd.C_below HOyz.out HV2.out) HOy.out.2.1 HV1.out (Nat.le_refl _) HX3.out).mono ?_
              rintro e wv2 ⟨rfl, hdn⟩
              have HB9 := Aside0.mk (below_then HBz.out HBz.out.size (below_then HV2.out HV2.out.size hdn.below))
              have HOz9 := Aside0.mk (Kd.C_below (Kd.C_below HOz.out.2.2 HV2.out) hdn.below)
              clear hdn HV1 HV2 HOyz HBz
              have HU1 : Aside0 (Kd.C (Kd.int .i64) (wv2.alloc (.cells #[.int .i64 5] 3)) (some ⟨wv2.heap.size, 0, none⟩) 1 [5]) := ⟨lit_c [5] (by simp) (heap_alloc_new wv2 _)⟩
              have HU2 : Aside0 (Below wv2.heap.size wv2 (wv2.alloc (.cells #[.int .i64 5] 3))) := ⟨below_alloc (Below.refl _ _) _⟩
              go_wp2_with fail
              generalize wv2.alloc (.cells #[.int .i64 5] 3) = wu at HU1 HU2 ⊢
              refine (folkmootkeep_Ints.calls k _ _ [5] _ 1 [5] true _ (Kd.C_below HOz9.out HU2.out) HOz.out.2.1 HU1.out (Nat.le_refl _) HX4.out).mono ?_
              rintro e wu2 ⟨rfl, hdn⟩
              have hbu := below_then HB9.out HB9.out.size (below_then HU2.out HU2.out.size hdn.below)
              have HLu := Aside0.mk (HLt.out.later (hbu.block g HLt.out.lt))
              have HLu' := Aside0.mk (HLt'.out.later (hbu.block g' HLt'.out.lt))
              have HBu := Aside0.mk (below_then HBt.out HBt.out.size hbu)
              clear hdn hbu HU1 HU2 HOz9 HOz HB9 HBt HLt HLt'
              go_wp2_with fail
              refine (back _ _ l0 _ g k HLu.out (Kd.C_below HR.out HBu.out) HC.out (by omega) HI.out).mono ?_
              rintro e wb ⟨rfl, hgb⟩
              have HLb' := Aside0.mk (HLu'.out.later (hgb.block g' HLu'.out.lt (by intro e; exact HNe.out (Option.some.inj e).symm)))
              have HBb := Aside0.mk (HBu.out.grown hgb HBu.out.size (fun k hk => by cases hk; exact HG.out))
              clear hgb HLu HLu' HBu
              go_wp2_with fail
              refine (back _ _ l1 _ g' k HLb'.out (Kd.C_below HR'.out HBb.out) HC'.out (by omega) HI2.out).mono ?_
              rintro e wc ⟨rfl, hgb⟩
              have HBc := Aside0.mk (HBb.out.grown hgb HBb.out.size (fun k hk => by cases hk; exact HG'.out))
              clear hgb HLb' HBb
              go_wp2
              go_ret
              exact ⟨rfl, HBc.out⟩
    · cases h

/-- THE ONE PURE STATEMENT of folkmootlaw04_SetsBoth: yours. -/
def folkmootlaw04_SetsBoth.Pure : Prop := ∀ (l0 : List Int) (l1 : List Int), l0.length ≤ maxLen → l0.length * 8 ≤ 140737488351232 → (∀ x ∈ l0, (Lit.int .i64 x).wf = true) → l1.length ≤ maxLen → l1.length * 8 ≤ 140737488351232 → (∀ x ∈ l1, (Lit.int .i64 x).wf = true) → ∃ k, folkmootlaw04_SetsBoth.f k l0 l1 = some true
theorem folkmootlaw04_SetsBoth.walk (P : folkmootlaw04_SetsBoth.Pure) (a0 : Option Addr) (len0 cap0 : Nat) (z0 : List Int) (a1 : Option Addr) (len1 cap1 : Nat) (z1 : List Int) (w : World) (w0 : (a0 = none ∧ len0 = 0 ∧ cap0 = 0 ∧ z0 = []) ∨ ∃ x, a0 = some x ∧ len0 ≤ cap0 ∧ cap0 ≤ maxLen ∧ z0.length = cap0 ∧ (∀ i, i < z0.length → w.cell? (x.add i) = some (.int .i64 (z0.getD i 0))) ∧ ∀ n ∈ z0, (Lit.int .i64 n).wf = true) (y0 : len0 * 8 ≤ 140737488351232) (w1 : (a1 = none ∧ len1 = 0 ∧ cap1 = 0 ∧ z1 = []) ∨ ∃ x, a1 = some x ∧ len1 ≤ cap1 ∧ cap1 ≤ maxLen ∧ z1.length = cap1 ∧ (∀ i, i < z1.length → w.cell? (x.add i) = some (.int .i64 (z1.getD i 0))) ∧ ∀ n ∈ z1, (Lit.int .i64 n).wf = true) (y1 : len1 * 8 ≤ 140737488351232) :
    Calls Try.prog 8 #[.slice a0 len0 cap0, .slice a1 len1 cap1] w fun e w' => e = .returned (.bool true) ∧ Below w.heap.size w w' := by
  obtain ⟨l0, rfl, hr0, hm0, hw0, hc0⟩ := ReadsInt.ofRowC w0
  obtain ⟨l1, rfl, hr1, hm1, hw1, hc1⟩ := ReadsInt.ofRowC w1
  obtain ⟨k, h⟩ := P l0 l1 hm0 y0 hw0 hm1 y1 hw1
  refine (folkmootlaw04_SetsBoth.calls k _ _ l0 _ _ l1 true w (Kd.C_of_reads (d := (0 : Int)) (h1 := fun _ => rfl) hr0) hc0 (Kd.C_of_reads (d := (0 : Int)) (h1 := fun _ => rfl) hr1) hc1 h).mono ?_
  rintro e w' ⟨rfl, hd⟩
  exact ⟨rfl, hd⟩

end Go.Proofs.Ytmefkjdnnapkjaa.Q
