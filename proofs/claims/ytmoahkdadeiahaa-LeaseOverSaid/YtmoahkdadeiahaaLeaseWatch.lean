/- lease.Watch at one lease and no wait, or one: what it answers. -/
import Derived.Test.YtmoahkdadeiahaaLeaseSort
import Derived.Deep.Cut
import Derived.WalkArith
namespace Go.Proofs.Ytmoahkdadeiahaa.AlarmQ
open Go.Shelf Go.Maps Go.RowKit Go.Proofs.YtmoahkdadeiahaaW.PrintWords Go.Proofs.Ytmoahkdadeiahaa.AlarmMath Go.Proofs.Ytmoahkdadeiahaa.Blk Go.Proofs.Ytmoahkdadeiahaa.AlarmP
set_option linter.unusedVariables false
set_option linter.unusedSimpArgs false
theorem Row.rd {B : Nat} {w : World} {v : Value} {xs : List Int} (h : Row B w v xs) : ∃ A c, v = .slice A xs.length c ∧ xs.length ≤ c ∧ Kd.C (Kd.int .i64) w A xs.length xs := by
  obtain ⟨A, c, e, hl, hr⟩ := own_reads_of_le (enc := Value.int .i64) (d := (0 : Int)) h
  exact ⟨A, c, e, hl, Kd.C_of_reads (h1 := fun _ => rfl) hr⟩
theorem Row.rd' {B : Nat} {w : World} {A : Option Addr} {n c : Nat} {xs : List Int} (h : Row B w (.slice A n c) xs) : n = xs.length ∧ xs.length ≤ c ∧ Kd.C (Kd.int .i64) w A xs.length xs := by
  obtain ⟨A', c', e, hl, hk⟩ := h.rd
  injection e with e1 e2 e3
  subst e1; subst e2; subst e3
  exact ⟨rfl, hl, hk⟩
theorem Row.below {B : Nat} {w w' : World} {v : Value} {xs : List Int} (h : Row B w v xs) (hb : Below w.heap.size w w') : Row B w' v xs := own_move h (fun k hk => hb.block k (h.lt k hk).2)
theorem fr_belowB {B : Nat} {W w1 w2 : World} {S : Nat → Prop} (h : Below B W w1) (hB : B ≤ w1.heap.size) (hf : Fr w1 w2 S) (hs : ∀ k, S k → B ≤ k) : Below B W w2 :=
  h.trans ⟨hf.os, hf.tape, hf.output, hf.size, fun k hk => hf.block k (Nat.lt_of_lt_of_le hk hB) (fun hn => by have := hs k hn; omega)⟩
theorem row_at {w w' : World} {A : Option Addr} {xs : List Int} (h : Kd.C (Kd.int .i64) w A xs.length xs) (hb : Below w.heap.size w w') {j : Nat} {x : Int} (hx : xs[j]? = some x) : ∃ ad, A = some ad ∧ w'.cell? (ad.add j) = some (.int .i64 x) := by
  obtain ⟨ad, e, hc⟩ := (Kd.C_below h hb).2.2 (by have := (List.getElem?_eq_some_iff.1 hx).1; omega)
  obtain ⟨cs, h1, h2, h3⟩ := hc j x hx
  refine ⟨ad, e, ?_⟩
  have := h3 0 (.int .i64 x) (by rw [h2]; rfl)
  simpa [show (Kd.int .i64).sz = 1 from rfl] using this
/-- How a number reads in a map. -/
def intR (v : Value) : Option (DataW Unit × List MemPlace) :=
  match v with
  | .int .i64 n => some (.lit (.int .i64 n), [])
  | _ => none
theorem intR_inv {v : Value} {n : Int} {ps : List MemPlace} (h : intR v = some (.lit (.int .i64 n), ps)) : v = .int .i64 n := by
  unfold intR at h
  split at h
  · simp only [Option.some.injEq, Prod.mk.injEq, DataW.lit.injEq, Lit.int.injEq, true_and] at h
    obtain ⟨h, _⟩ := h
    subst h; rfl
  · cases h
theorem zero_num (w : World) : (zeroValue 3).run Try.prog w = .ok (.int .i64 0) w := by kernel_rfl
def mp (s n0 : Int) (k : Nat) : DataW Unit := if k = 0 then .map [] else (DataW.map [] : DataW Unit).put (.int .i64 s) (.lit (.int .i64 n0))
def lk (l : List Al) (j : Nat) : List Al := if j = 0 then [] else l
/-- A row of waits of one's own. -/
def RowW (B : Nat) (w : World) (v : Value) (xs : List (Int × Int)) : Prop := w.ownsRow B 65 2 v xs.length (xs.flatMap fun x => [.int .i64 x.1, .int .i64 x.2])
def At2 (W : World) (A : Option Addr) (x : Int × Int) : Prop := ∃ ad, A = some ad ∧ ∀ k : Nat, k = 0 → ∀ w', Below W.heap.size W w' → w'.cell? (ad.add (k * 2)) = some (.int .i64 x.1) ∧ w'.cell? ⟨(ad.add (k * 2)).block, (ad.add (k * 2)).off + 1, none⟩ = some (.int .i64 x.2)
def At3 (W : World) (A : Option Addr) (x y z u : Int) : Prop := ∃ ad, A = some ad ∧ ∀ k : Nat, k = 0 → ∀ w', Below W.heap.size W w' → w'.cell? (ad.add (k * 4)) = some (.int .i64 x) ∧ w'.cell? ⟨(ad.add (k * 4)).block, (ad.add (k * 4)).off + 1, none⟩ = some (.int .i64 y) ∧ w'.cell? ⟨(ad.add (k * 4)).block, (ad.add (k * 4)).off + 2, none⟩ = some (.int .i64 z) ∧ w'.cell? ⟨(ad.add (k * 4)).block, (ad.add (k * 4)).off + 3, none⟩ = some (.int .i64 u)
def WatchR (W : World) (s t : Int) (ds : List Int) (e : Ending) (w' : World) : Prop := ∃ A c A' c', e = .returned (.tuple #[.slice A 1 c, .slice A' ds.length c', .int .i64 0]) ∧ RowW W.heap.size w' (.slice A 1 c) [(s, t)] ∧ Row W.heap.size w' (.slice A' ds.length c') ds ∧ Below W.heap.size W w'
theorem rising_row (A : Option Addr) (c : Nat) (l : List Int) (hl : l = [] ∨ ∃ s, l = [s] ∧ 1 ≤ s) (w : World) (hr : Kd.C (Kd.int .i64) w A l.length l) (hc : l.length ≤ c) (n : Nat) (hn : n = l.length) :
    Calls Try.prog 41 #[.slice A n c] w fun e w' => e = .returned (.bool true) ∧ ∃ n, w' = w.drewN n := by
  subst hn
  refine (O.lease_rising.calls 3 A c l true w hr hc ?_).mono ?_
  · rcases hl with rfl | ⟨s, rfl, hs⟩
    · rfl
    · unfold O.lease_rising.f
      simp only [O.lease_rising.l0]
      rw [if_pos (by simp), if_pos (by omega), if_pos (by simp), if_neg (by show ¬ s ≤ 0; omega)]
      rw [if_neg (by simp [wrap64])]
      simp
  · rintro e w' ⟨rfl, n, rfl⟩
    exact ⟨rfl, n, rfl⟩
theorem contains_row (A : Option Addr) (c : Nat) (l : List Int) (s : Int) (b : Bool) (hl : (l = [] ∧ b = false) ∨ (l = [s] ∧ b = true)) (w : World) (hr : Kd.C (Kd.int .i64) w A l.length l) (hc : l.length ≤ c) (n : Nat) (hn : n = l.length) :
    Calls Try.prog 46 #[.slice A n c, .int .i64 s] w fun e w' => e = .returned (.bool b) ∧ ∃ n, w' = w.drewN n := by
  subst hn
  refine (O.slices_Contains_int_int.calls 3 A c l s b w hr hc ?_).mono ?_
  · rcases hl with ⟨rfl, rfl⟩ | ⟨rfl, rfl⟩
    · rfl
    · unfold O.slices_Contains_int_int.f O.slices_Index_int_int.f
      simp only [O.slices_Index_int_int.l0]
      rw [if_pos (by simp), if_pos (by omega), if_pos (by simp), if_pos (show s = rd [s] 0 from rfl)]
      simp
  · rintro e w' ⟨rfl, n, rfl⟩
    exact ⟨rfl, n, rfl⟩
theorem take_up (s : Int) (k N : Nat) (h : k < N) (hN : N = 1) : [s].take (k + 1) = [s].take k ++ [s] := by
  obtain rfl : k = 0 := by omega
  rfl
theorem ownsMapN_below {w w' : World} {m n : Nat} {D : DataW Unit} (h : w.ownsMap Try.prog 3 intR m n D) (hb : Below w.heap.size w w') : w'.ownsMap Try.prog 3 intR m n D := by
  obtain ⟨es, clock, h1, F, h2, h3⟩ := h
  exact ⟨es, clock, (hb.block m (blk_lt h1)).trans h1, F, h2, h3⟩
theorem own_notmap {w : World} {B n m k : Nat} {e : TypeId} {v : Value} {size : Nat} {xs : List Value} {D : DataW Unit} (h : w.ownsRow B e size v n xs) {g : Nat} (hg : v.ownBlock = some g) (hm : w.ownsMap Try.prog 3 intR m k D) : m ≠ g := by
  obtain ⟨es, clock, h1, _⟩ := hm
  obtain ⟨cells, hc⟩ := own_typed h g hg
  rintro rfl
  rw [h1] at hc; cases hc
theorem ownsMapN_grown {w w' : World} {m k B n : Nat} {D : DataW Unit} {e : TypeId} {v : Value} {size : Nat} {xs : List Value} (h : w.ownsMap Try.prog 3 intR m k D) (hg : w.grownBy w' v.ownBlock) (ho : w.ownsRow B e size v n xs) : w'.ownsMap Try.prog 3 intR m k D := by
  have h' := h
  obtain ⟨es, clock, h1, F, h2, h3⟩ := h
  exact ⟨es, clock, (hg.block m (blk_lt h1) (fun e => own_notmap ho e.symm h' rfl)).trans h1, F, h2, h3⟩
theorem own_neB {w : World} {B n : Nat} {e t : TypeId} {v : Value} {size : Nat} {xs : List Value} {X : Nat} {cs : Array Value} (hb : w.heap[X]? = some (.cells cs t (0, 0))) (h : w.ownsRow B e size v n xs) (ht : e ≠ t) : some X ≠ v.ownBlock := fun he => by
  obtain ⟨cells, hc⟩ := own_typed h X he.symm
  rw [hc] at hb
  injection hb with hb
  injection hb with _ hb
  exact ht hb
set_option maxHeartbeats 8000000 in
set_option maxRecDepth 100000 in
theorem watch_E (W : World) (A0 : Option Addr) (c0 N : Nat) (s n0 now nd ak ex : Int) (A1 : Option Addr) (c1 M : Nat) (hN : N = 0) (hM : M = 1) (hl : At3 W A1 s nd ak ex) (hs : 1 ≤ s) (hs2 : s ≤ 1000000) (h0 : 0 ≤ n0) (h1 : n0 ≤ now) (h2 : now ≤ 100000) :
    Calls Try.prog 29 #[.slice A0 N c0, .slice A1 M c1, .int .i64 now] W (WatchR W s now []) := by
  have HN := Aside0.mk hN
  have HM := Aside0.mk hM
  have HL := Aside0.mk hl
  have wids := Aside0.mk (show (Lit.int .i64 s).wf = true from Go.WalkArith.wf_i64 (by omega))
  have widn := Aside0.mk (show (Lit.int .i64 n0).wf = true from Go.WalkArith.wf_i64 (by omega))
  have widd := Aside0.mk (show (Lit.int .i64 (n0 - now)).wf = true from Go.WalkArith.wf_i64 (by omega))
  have HKEY := Aside0.mk (keyOf_int_mk (P := Try.prog) Try.underlying3 wids.out)
  have hNb : N ≤ 1 := by omega
  have hMb : M ≤ 1 := by omega
  have HDUE : Aside0 (dueL ([] : List Al) (-36) = []) := ⟨rfl⟩
  clear hN hM hl
  have hmm := @run_makeMap Try.prog
  go_enter Try.func29, Try.ntmps29
  go_wp2_with fail
  obtain ⟨w1, hw1⟩ : ∃ w1, w1 = W.alloc (.map #[] 0) := ⟨_, rfl⟩
  rw [← hw1]
  have HM1 : Aside0 (w1.ownsMap Try.prog 3 intR W.heap.size 0 (.map [])) := ⟨by rw [hw1]; exact World.ownsMap_made W Try.prog 3 intR⟩
  have HB1 : Aside0 (Below W.heap.size W w1) := ⟨by rw [hw1]; exact below_alloc (Below.refl _ _) _⟩
  have HIM := Aside0.mk HM1.out.isMap
  clear hw1 hmm
  go_loopw [9, 30] (fun v i wr => ∃ (A : Option Addr) (c k : Nat), v = .slice A k c ∧ i = .int .i64 k ∧ k ≤ N ∧ Aside0 (Row W.heap.size wr (.slice A k c) ([s].take k)) ∧ Aside0 (wr.ownsMap Try.prog 3 intR W.heap.size k (mp s n0 k)) ∧ Aside0 (Below W.heap.size W wr)) (fun _ i _ => N - (intOf i).toNat)
  case atStart => exact ⟨none, 0, 0, rfl, rfl, by omega, ⟨⟨rfl, .inl ⟨rfl, rfl⟩⟩⟩, HM1, HB1⟩
  case round =>
    obtain ⟨A9, c9, k, rfl, rfl, hk, HR9, HMP, HB⟩ := hrel
    by_cases hlt : k < N
    · exact absurd hlt (by have := HN.out; omega)
    · obtain rfl : k = N := by omega
      have HTN : Aside0 ([s].take k = []) := ⟨by have e := HN.out; subst e; rfl⟩
      have hhas : has (mp s n0 k) (.int .i64 s) = false := by have e := HN.out; subst e; rfl
      have HAT : Aside0 ((mp s n0 k).atKey (.int .i64 s) (.lit (.int .i64 0)) = .lit (.int .i64 0)) := ⟨by have e := HN.out; subst e; rfl⟩
      have HKN : Aside0 (k = ([] : List Int).length) := ⟨by have e := HN.out; subst e; rfl⟩
      have hR9 := HR9.out
      rw [HTN.out] at hR9
      have HR9' := Aside0.mk hR9
      clear hlt HR9 hR9 HTN
      obtain ⟨wA, hA⟩ : ∃ wA, wA = wr := ⟨_, rfl⟩
      subst hA
      go_wp2_with fail
      go_loopw [10, 52] (fun v i wr => ∃ (A : Option Addr) (c j : Nat), v = .slice A j c ∧ i = .int .i64 j ∧ j ≤ M ∧ Aside0 (Row wA.heap.size wr (.slice A j c) ([s].take j)) ∧ Aside0 (Below wA.heap.size wA wr)) (fun _ i _ => M - (intOf i).toNat)
      case atStart => exact ⟨none, 0, 0, rfl, rfl, by omega, ⟨⟨rfl, .inl ⟨rfl, rfl⟩⟩⟩, ⟨Below.refl _ _⟩⟩
      case round =>
        obtain ⟨A10, c10, j, rfl, rfl, hj, HR10, HB2⟩ := hrel
        have HBW : Aside0 (Below W.heap.size W wr) := ⟨below_then HB.out HB.out.size HB2.out⟩
        by_cases hlt : j < M
        · obtain ⟨ad, rfl, hcell⟩ := HL.out
          obtain ⟨x0, x1, x2, x3⟩ := hcell j (by have := HM.out; omega) wr HBW.out
          have HTK := Aside0.mk (take_up s j M hlt HM.out)
          have HKL : Aside0 (([s].take j).length = j) := ⟨by obtain rfl : j = 0 := (by have := HM.out; omega); rfl⟩
          clear hcell
          go_upto_region 14 with fail
          obtain ⟨w2, hw2⟩ : ∃ w2, w2 = wr.alloc (.cells #[.int .i64 s, .int .i64 nd, .int .i64 ak, .int .i64 ex] 48) := ⟨_, rfl⟩
          rw [← hw2]
          have hb2 : Below wr.heap.size wr w2 := by rw [hw2]; exact below_alloc (Below.refl _ _) _
          have hx := (show w2.heap[wr.heap.size]? = some (.cells #[.int .i64 s, .int .i64 nd, .int .i64 ak, .int .i64 ex] 48 (0, 0)) by rw [hw2]; exact blk_new wr _)
          have y0 : w2.cell? ⟨wr.heap.size, 0, none⟩ = some (.int .i64 s) := (blk_cell hx 0).trans rfl
          have HB3 := Aside0.mk (below_then HB2.out HB2.out.size hb2)
          have HZ3 := Aside0.mk HB3.out.size
          have HOW : Aside0 (w2.ownsRow wA.heap.size 3 1 (.slice A10 j c10) ([s].take j).length (nums .i64 ([s].take j))) := ⟨HR10.out.below hb2⟩
          clear hw2 hb2 hx HR10 HB2 HBW x0 x1 x2 x3
          generalize wr.heap.size = Z at *
          go_wp2_with (first
            | (at_builtin; (refine print_append_num (w0 := wA) wA.heap.size rfl _ _ 22 3 .i64 8 rfl Try.underlying22 (by kernel_rfl) (by decide) (.slice A10 j c10) ([s].take j) s rfl rfl HOW.out HB3.out HZ3.out (by rw [HKL.out]; omega) ?_); intro v3 w3 hown hb3 hg3 hat; rw [← HTK.out] at hown; have HR3 := Aside0.mk hown; have HB4 := Aside0.mk hb3; obtain ⟨A', c', ev⟩ := own_slice hown; subst ev; clear hown hb3 hg3 hat y0))
          have HL1 : ([s].take (j + 1)).length = j + 1 := by rw [HTK.out]; simp [HKL.out]
          have HR4 : Aside0 (Row wA.heap.size w3 (.slice A' (j + 1) c') ([s].take (j + 1))) := ⟨by have h := HR3.out; rw [HL1] at h; unfold Row; rw [HL1]; exact h⟩
          go_roundw
          case rel => exact ⟨A', c', j + 1, by (first | rfl | (have e : j = 0 := (by have := HM.out; omega); subst e; rfl)), by go_num, by omega, HR4, HB4⟩
          case measure => simp [intOf]; omega
        · obtain rfl : j = M := by omega
          have HTM : Aside0 ([s].take j = [s] ∧ j = [s].length) := ⟨by have e := HM.out; subst e; exact ⟨rfl, rfl⟩⟩
          have hR10 := HR10.out
          rw [HTM.out.1] at hR10
          have HR10' := Aside0.mk hR10
          clear hlt HR10 hR10
          go_wp2_with fail
          obtain ⟨hq0, hq1, hq2⟩ := (HR9'.out.below HB2.out).rd'; clear hq0
          refine (rising_row A9 c9 [] (.inl rfl) wr hq2 hq1 k ?_).mono ?_
          · exact HKN.out
          rintro e wB1 ⟨rfl, n1, hwB1⟩
          have HBb : Aside0 (Below wA.heap.size wA wB1) := ⟨by rw [hwB1]; exact pw_below_drewN HB2.out _⟩
          have HRb : Aside0 (Row wA.heap.size wB1 (.slice A10 j c10) [s]) := ⟨by rw [hwB1]; exact own_move HR10'.out (fun _ _ => rfl)⟩
          clear hwB1 hq1 hq2 HB2 HR10'
          go_wp2_with fail
          obtain ⟨hq0, hq1, hq2⟩ := HRb.out.rd'; clear hq0
          refine (rising_row A10 c10 [s] (.inr ⟨s, rfl, hs⟩) wB1 hq2 hq1 j HTM.out.2).mono ?_
          rintro e wB ⟨rfl, n2, hwB⟩
          have HBB : Aside0 (Below wA.heap.size wA wB) := ⟨by rw [hwB]; exact pw_below_drewN HBb.out _⟩
          have HR10 : Aside0 (Row wA.heap.size wB (.slice A10 j c10) [s]) := ⟨by rw [hwB]; exact own_move HRb.out (fun _ _ => rfl)⟩
          have HMP : Aside0 (wB.ownsMap Try.prog 3 intR W.heap.size k (mp s n0 k)) := ⟨ownsMapN_below HMP.out HBB.out⟩
          have HBW : Aside0 (Below W.heap.size W wB) := ⟨below_then HB.out HB.out.size HBB.out⟩
          clear hwB hq1 hq2 HBb HRb
          go_wp2_with fail
          refine (new_clk wB).mono ?_
          rintro e wC ⟨C, rfl, ⟨S0, hC0, hS0⟩, hbC⟩
          have HC0 := Aside0.mk hC0
          have HS0 := Aside0.mk hS0
          have HBC := Aside0.mk hbC
          clear hC0 hS0 hbC
          go_wp2_with fail
          go_loopw [73] (fun i wr => ∃ (q : Nat) (S : Nat → Prop), i = .int .i64 q ∧ q ≤ j ∧ Aside0 (Clk wr S C q (lk [] q)) ∧ Aside0 (∀ x, S x → wB.heap.size ≤ x) ∧ Aside0 (Below wB.heap.size wB wr)) (fun i _ => j - (intOf i).toNat)
          case atStart => exact ⟨0, S0, rfl, by omega, HC0, HS0, HBC⟩
          case round =>
            obtain ⟨q, S, rfl, hq, HC, HS, HBr⟩ := hrel
            have HMPr : Aside0 (wr.ownsMap Try.prog 3 intR W.heap.size k (mp s n0 k)) := ⟨ownsMapN_below HMP.out HBr.out⟩
            obtain ⟨hq0, hq1, hq2⟩ := HR10.out.rd'; clear hq0
            have HK10 := Aside0.mk hq2
            clear hq1 hq2
            by_cases hlt : q < j
            · have HQ0 : Aside0 (q = 0) := ⟨by have := HM.out; omega⟩
              obtain ⟨ad, rfl, c0⟩ := row_at HK10.out HBr.out (j := q) (x := s) (by rw [HQ0.out]; rfl)
              go_wp2_with (first | (at_lookup; refine wpList_lookup_own_ok wr rfl _ _ 66 rfl 3 3 keyed Try.underlying66 intR (zero_num _) (.lit (.int .i64 0)) [] rfl W.heap.size k (mp s n0 k) rfl HMPr.out (.int .i64 s) (.int .i64 s) rfl HKEY.out ?_; intro v' ps hv; rw [HAT.out] at hv; obtain rfl := intR_inv hv; clear hv))
              go_roundw
              case rel => exact ⟨q + 1, S, by go_num, by omega, ⟨(show Clk wr S C (q + 1) [] from (show Clk wr S C q [] by have h := HC.out; rw [HQ0.out] at h ⊢; exact h).more (Nat.le_succ _))⟩, HS, HBr⟩
              case measure => simp [intOf]; omega
            · obtain rfl : q = j := by omega
              have HLJ : Aside0 (dueL (lk [] q) (-36) = []) := ⟨by have e := HM.out; subst e; exact HDUE.out⟩
              clear hlt
              go_wp2_with fail
              refine (due_clk wr S C _ (lk [] q) HC.out (-36)).mono ?_
              rintro e wD ⟨v21, rfl, hR21, hC21, hf21⟩
              rw [HLJ.out] at hR21
              have HBD := Aside0.mk (fr_belowB HBr.out HBr.out.size hf21 HS.out)
              have hR21' : Row wr.heap.size wD v21 [] := hR21
              obtain ⟨A21, c21, rfl, hc21, hk21⟩ := hR21'.rd
              obtain ⟨K, hK⟩ : ∃ K, K = ([] : List Int).length := ⟨_, rfl⟩
              have HK := Aside0.mk hK
              have HK01 : Aside0 (K = 0 ∨ K = 1) := ⟨by rw [hK]; simp⟩
              rw [← hK]
              have HR21 : Aside0 (Row W.heap.size wD (.slice A21 K c21) []) := ⟨by rw [hK]; exact own_weaken hR21' (Nat.le_trans HBW.out.size HBr.out.size)⟩
              clear hR21 hR21' hC21 hf21 hc21 hk21 hK HMPr HC HS HBr HK10
              have HMPd : Aside0 (wD.ownsMap Try.prog 3 intR W.heap.size k (mp s n0 k)) := ⟨ownsMapN_below HMP.out HBD.out⟩
              have HBWd : Aside0 (Below W.heap.size W wD) := ⟨below_then HBW.out HBW.out.size HBD.out⟩
              go_wp2_with fail
              refine (sort_small A21 c21 K HK01.out wD).mono ?_
              rintro e w' ⟨rfl, rfl⟩
              go_wp2_with fail
              go_loopw [22, 97] (fun v i wr => ∃ (A : Option Addr) (c p : Nat), v = .slice A p c ∧ i = .int .i64 p ∧ p ≤ q ∧ Aside0 (RowW wD.heap.size wr (.slice A p c) ([(s, now)].take p)) ∧ Aside0 (Below wD.heap.size wD wr)) (fun _ i _ => q - (intOf i).toNat)
              case atStart => exact ⟨none, 0, 0, rfl, rfl, by omega, ⟨⟨rfl, .inl ⟨rfl, rfl⟩⟩⟩, ⟨Below.refl _ _⟩⟩
              case round =>
                obtain ⟨A22, c22, p, rfl, rfl, hp, HR22, HBr⟩ := hrel
                by_cases hlt : p < q
                · have HP0 : Aside0 (p = 0) := ⟨by have := HM.out; omega⟩
                  obtain ⟨hq0, hq1, hq2⟩ := HR10.out.rd'; clear hq0
                  obtain ⟨ad, rfl, c0⟩ := row_at hq2 (below_then HBD.out HBD.out.size HBr.out) (j := p) (x := s) (by rw [HP0.out]; rfl)
                  have HMPr : Aside0 (wr.ownsMap Try.prog 3 intR W.heap.size k (mp s n0 k)) := ⟨ownsMapN_below HMPd.out HBr.out⟩
                  obtain ⟨hq0, hq3, hq4⟩ := (HR21.out.below HBr.out).rd'; clear hq0
                  have HQ3 := Aside0.mk hq3
                  have HQ4 := Aside0.mk hq4
                  clear hq1 hq2 hq3 hq4
                  have HTK : Aside0 ([(s, now)].take (p + 1) = [(s, now)].take p ++ [(s, now)]) := ⟨by rw [HP0.out]; rfl⟩
                  have HKL : Aside0 (([(s, now)].take p).length = p) := ⟨by rw [HP0.out]; rfl⟩
                  have HBX := HBr
                  have HRX : Aside0 (wr.ownsRow wD.heap.size 65 2 (.slice A22 p c22) p (([(s, now)].take p).flatMap fun x => [.int .i64 x.1, .int .i64 x.2])) := ⟨by have h := HR22.out; unfold RowW at h; rw [HKL.out] at h; exact h⟩
                  go_wp2_with (first | (at_lookup; refine wpList_lookup_own_ok wr rfl _ _ 66 rfl 3 3 keyed Try.underlying66 intR (zero_num _) (.lit (.int .i64 0)) [] rfl W.heap.size k (mp s n0 k) rfl HMPr.out (.int .i64 s) (.int .i64 s) rfl HKEY.out ?_; intro v' ps hv; rw [HAT.out] at hv; obtain rfl := intR_inv hv; clear hv) | (at_builtin; (refine print_append_cells (w0 := wD) wD.heap.size rfl _ _ 44 65 (.agg #[.int .i64 0, .int .i64 0]) 2 16 rfl Try.underlying44 (by kernel_rfl) rfl (by decide) (by decide) (.slice A22 p c22) p (([(s, now)].take p).flatMap fun x => [.int .i64 x.1, .int .i64 x.2]) [.int .i64 s, .int .i64 now] rfl rfl rfl (by intro u hu; simp at hu; rcases hu with rfl | rfl <;> rfl) HRX.out HBX.out HBX.out.size (by omega) ?_); intro v3 w3 hown hb3 hg3 hat; have HR3 := Aside0.mk hown; have HB3 := Aside0.mk hb3; obtain ⟨A', c', ev⟩ := own_slice hown; subst ev; clear hown hb3 hg3 hat))
                  go_roundw
                  case rel => exact ⟨A', c', p + 1, rfl, by go_num, by omega, ⟨by have h := HR3.out; unfold RowW; rw [HTK.out, List.length_append, HKL.out, List.flatMap_append]; exact h⟩, HB3⟩
                  case measure => simp [intOf]; omega
                · obtain rfl : p = q := by omega
                  have HR21r := Aside0.mk (HR21.out.below HBr.out)
                  have HBF : Aside0 (Below W.heap.size W wr) := ⟨below_then HBWd.out HBWd.out.size HBr.out⟩
                  clear hlt
                  go_wp2_with fail
                  go_ret3
                  have e1 := HM.out
                  have e2 := HK.out
                  subst e1
                  subst e2
                  exact ⟨_, _, _, _, rfl, own_weaken HR22.out HBWd.out.size, HR21r.out, HBF.out⟩
set_option maxHeartbeats 8000000 in
set_option maxRecDepth 100000 in
theorem watch_N (W : World) (A0 : Option Addr) (c0 N : Nat) (s n0 now nd ak ex : Int) (A1 : Option Addr) (c1 M : Nat) (hN : N = 1) (hw : At2 W A0 (s, n0)) (hM : M = 1) (hl : At3 W A1 s nd ak ex) (hs : 1 ≤ s) (hs2 : s ≤ 1000000) (h0 : 0 ≤ n0) (h1 : n0 ≤ now) (h2 : now ≤ 100000) (hnow : now - n0 < 36) :
    Calls Try.prog 29 #[.slice A0 N c0, .slice A1 M c1, .int .i64 now] W (WatchR W s n0 []) := by
  have HN := Aside0.mk hN
  have HM := Aside0.mk hM
  have HL := Aside0.mk hl
  have HW := Aside0.mk hw
  have wids := Aside0.mk (show (Lit.int .i64 s).wf = true from Go.WalkArith.wf_i64 (by omega))
  have widn := Aside0.mk (show (Lit.int .i64 n0).wf = true from Go.WalkArith.wf_i64 (by omega))
  have widd := Aside0.mk (show (Lit.int .i64 (n0 - now)).wf = true from Go.WalkArith.wf_i64 (by omega))
  have HKEY := Aside0.mk (keyOf_int_mk (P := Try.prog) Try.underlying3 wids.out)
  have hNb : N ≤ 1 := by omega
  have hMb : M ≤ 1 := by omega
  have HDUE : Aside0 (dueL [(s, n0 - now)] (-36) = []) := ⟨(due_stop (l := []) (by show ¬ n0 - now ≤ -36; omega)).1⟩
  clear hN hM hl hw hnow
  have hmm := @run_makeMap Try.prog
  go_enter Try.func29, Try.ntmps29
  go_wp2_with fail
  obtain ⟨w1, hw1⟩ : ∃ w1, w1 = W.alloc (.map #[] 0) := ⟨_, rfl⟩
  rw [← hw1]
  have HM1 : Aside0 (w1.ownsMap Try.prog 3 intR W.heap.size 0 (.map [])) := ⟨by rw [hw1]; exact World.ownsMap_made W Try.prog 3 intR⟩
  have HB1 : Aside0 (Below W.heap.size W w1) := ⟨by rw [hw1]; exact below_alloc (Below.refl _ _) _⟩
  have HIM := Aside0.mk HM1.out.isMap
  clear hw1 hmm
  go_loopw [9, 30] (fun v i wr => ∃ (A : Option Addr) (c k : Nat), v = .slice A k c ∧ i = .int .i64 k ∧ k ≤ N ∧ Aside0 (Row W.heap.size wr (.slice A k c) ([s].take k)) ∧ Aside0 (wr.ownsMap Try.prog 3 intR W.heap.size k (mp s n0 k)) ∧ Aside0 (Below W.heap.size W wr)) (fun _ i _ => N - (intOf i).toNat)
  case atStart => exact ⟨none, 0, 0, rfl, rfl, by omega, ⟨⟨rfl, .inl ⟨rfl, rfl⟩⟩⟩, HM1, HB1⟩
  case round =>
    obtain ⟨A9, c9, k, rfl, rfl, hk, HR9, HMP, HB⟩ := hrel
    by_cases hlt : k < N
    · obtain ⟨ad, rfl, hcell⟩ := HW.out
      obtain ⟨x0, x1⟩ := hcell k (by have := HN.out; omega) wr HB.out
      simp only at x0 x1
      have HTK := Aside0.mk (take_up s k N hlt HN.out)
      have HMU : Aside0 ((mp s n0 k).put (.int .i64 s) (.lit (.int .i64 n0)) = mp s n0 (k + 1)) := ⟨by obtain rfl : k = 0 := (by have := HN.out; omega); rfl⟩
      have HKL : Aside0 (([s].take k).length = k) := ⟨by obtain rfl : k = 0 := (by have := HN.out; omega); rfl⟩
      clear hcell
      go_upto_region 6 with fail
      obtain ⟨w2, hw2⟩ : ∃ w2, w2 = wr.alloc (.cells #[.int .i64 s, .int .i64 n0] 65) := ⟨_, rfl⟩
      rw [← hw2]
      have hb2 : Below wr.heap.size wr w2 := by rw [hw2]; exact below_alloc (Below.refl _ _) _
      have hx := (show w2.heap[wr.heap.size]? = some (.cells #[.int .i64 s, .int .i64 n0] 65 (0, 0)) by rw [hw2]; exact blk_new wr _)
      have HX2 := Aside0.mk hx
      have HB2 := Aside0.mk (below_then HB.out HB.out.size hb2)
      have HR2 := Aside0.mk (HR9.out.below hb2)
      have HMP2 := Aside0.mk (ownsMapN_below HMP.out hb2)
      have HZ2 := Aside0.mk HB2.out.size
      clear hw2 hb2 hx HR9 HMP HB x0 x1
      generalize wr.heap.size = Z at *
      have y0 : w2.cell? ⟨Z, 0, none⟩ = some (.int .i64 s) := (blk_cell HX2.out 0).trans rfl
      have y1 : w2.cell? ⟨Z, 1, none⟩ = some (.int .i64 n0) := (blk_cell HX2.out 1).trans rfl
      go_wp2_with fail
      refine (lw_true n0 now h0 h1 w2).mono ?_
      rintro e w' ⟨rfl, rfl⟩
      have HOW : Aside0 (w2.ownsRow W.heap.size 3 1 (.slice A9 k c9) ([s].take k).length (nums .i64 ([s].take k))) := ⟨HR2.out⟩
      go_wp2_with (first
        | (at_builtin; (refine print_append_num (w0 := W) W.heap.size rfl _ _ 22 3 .i64 8 rfl Try.underlying22 (by kernel_rfl) (by decide) (.slice A9 k c9) ([s].take k) s rfl rfl HOW.out HB2.out HZ2.out (by rw [HKL.out]; omega) ?_); intro v3 w3 hown hb3 hg3 hat; rw [← HTK.out] at hown; have HR3 := Aside0.mk hown; have HB3 := Aside0.mk hb3; have HMP3 := Aside0.mk (ownsMapN_grown HMP2.out hg3 HOW.out); have z0 : w3.cell? ⟨Z, 0, none⟩ = some (.int .i64 s) := (blk_cell (blk_grown HX2.out hg3 (own_neB HX2.out HOW.out (by decide))) 0).trans rfl; have z1 : w3.cell? ⟨Z, 1, none⟩ = some (.int .i64 n0) := (blk_cell (blk_grown HX2.out hg3 (own_neB HX2.out HOW.out (by decide))) 1).trans rfl; obtain ⟨A', c', ev⟩ := own_slice hown; subst ev; clear hown hb3 hg3 hat y0 y1)
        | (at_mapUpdate; refine wpList_mapUpdate_own w3 rfl _ _ _ 66 rfl 3 3 keyed Try.underlying66 intR W.heap.size k (mp s n0 k) rfl HMP3.out (by unfold maxLen; omega) (.int .i64 s) (.int .i64 n0) (.int .i64 s) rfl rfl HKEY.out (.lit (.int .i64 n0)) [] rfl ?_; intro w4 hm4 hg4; rw [HMU.out] at hm4; have HMP4 := Aside0.mk hm4; have HG4 := Aside0.mk hg4; clear hm4 hg4))
      have HL1 : ([s].take (k + 1)).length = k + 1 := by have := HTK.out; have := HKL.out; rw [‹[s].take (k + 1) = _›]; simp [HKL.out]
      have HR4 : Aside0 (Row W.heap.size w4 (.slice A' (k + 1) c') ([s].take (k + 1))) := ⟨by have h := HR3.out; rw [HL1] at h; unfold Row; rw [HL1]; exact own_move h (fun g hg => HG4.out.block g (h.lt g hg).2 (fun e => own_notmap h hg HMP3.out (by injection e with e; exact e.symm)))⟩
      have HB4 : Aside0 (Below W.heap.size W w4) := ⟨HB3.out.grown HG4.out HB3.out.size (fun g hg => by injection hg with hg; omega)⟩
      go_roundw
      case rel => exact ⟨A', c', k + 1, by (first | rfl | (have e : k = 0 := (by have := HN.out; omega); subst e; rfl)), by go_num, by omega, HR4, HMP4, HB4⟩
      case measure => simp [intOf]; omega
    · obtain rfl : k = N := by omega
      have HTN : Aside0 ([s].take k = [s]) := ⟨by have e := HN.out; subst e; rfl⟩
      have hhas : has (mp s n0 k) (.int .i64 s) = true := by have e := HN.out; subst e; unfold mp; rw [if_neg (by omega)]; exact has_put_same HIM.out (by trivial) _
      have HAT : Aside0 ((mp s n0 k).atKey (.int .i64 s) (.lit (.int .i64 0)) = .lit (.int .i64 n0)) := ⟨by have e := HN.out; subst e; unfold mp; rw [if_neg (by omega), atKey_put_same HIM.out (by trivial)]⟩
      have HKN : Aside0 (k = ([s] : List Int).length) := ⟨by have e := HN.out; subst e; rfl⟩
      have hR9 := HR9.out
      rw [HTN.out] at hR9
      have HR9' := Aside0.mk hR9
      clear hlt HR9 hR9 HTN
      obtain ⟨wA, hA⟩ : ∃ wA, wA = wr := ⟨_, rfl⟩
      subst hA
      go_wp2_with fail
      go_loopw [10, 52] (fun v i wr => ∃ (A : Option Addr) (c j : Nat), v = .slice A j c ∧ i = .int .i64 j ∧ j ≤ M ∧ Aside0 (Row wA.heap.size wr (.slice A j c) ([s].take j)) ∧ Aside0 (Below wA.heap.size wA wr)) (fun _ i _ => M - (intOf i).toNat)
      case atStart => exact ⟨none, 0, 0, rfl, rfl, by omega, ⟨⟨rfl, .inl ⟨rfl, rfl⟩⟩⟩, ⟨Below.refl _ _⟩⟩
      case round =>
        obtain ⟨A10, c10, j, rfl, rfl, hj, HR10, HB2⟩ := hrel
        have HBW : Aside0 (Below W.heap.size W wr) := ⟨below_then HB.out HB.out.size HB2.out⟩
        by_cases hlt : j < M
        · obtain ⟨ad, rfl, hcell⟩ := HL.out
          obtain ⟨x0, x1, x2, x3⟩ := hcell j (by have := HM.out; omega) wr HBW.out
          have HTK := Aside0.mk (take_up s j M hlt HM.out)
          have HKL : Aside0 (([s].take j).length = j) := ⟨by obtain rfl : j = 0 := (by have := HM.out; omega); rfl⟩
          clear hcell
          go_upto_region 14 with fail
          obtain ⟨w2, hw2⟩ : ∃ w2, w2 = wr.alloc (.cells #[.int .i64 s, .int .i64 nd, .int .i64 ak, .int .i64 ex] 48) := ⟨_, rfl⟩
          rw [← hw2]
          have hb2 : Below wr.heap.size wr w2 := by rw [hw2]; exact below_alloc (Below.refl _ _) _
          have hx := (show w2.heap[wr.heap.size]? = some (.cells #[.int .i64 s, .int .i64 nd, .int .i64 ak, .int .i64 ex] 48 (0, 0)) by rw [hw2]; exact blk_new wr _)
          have y0 : w2.cell? ⟨wr.heap.size, 0, none⟩ = some (.int .i64 s) := (blk_cell hx 0).trans rfl
          have HB3 := Aside0.mk (below_then HB2.out HB2.out.size hb2)
          have HZ3 := Aside0.mk HB3.out.size
          have HOW : Aside0 (w2.ownsRow wA.heap.size 3 1 (.slice A10 j c10) ([s].take j).length (nums .i64 ([s].take j))) := ⟨HR10.out.below hb2⟩
          clear hw2 hb2 hx HR10 HB2 HBW x0 x1 x2 x3
          generalize wr.heap.size = Z at *
          go_wp2_with (first
            | (at_builtin; (refine print_append_num (w0 := wA) wA.heap.size rfl _ _ 22 3 .i64 8 rfl Try.underlying22 (by kernel_rfl) (by decide) (.slice A10 j c10) ([s].take j) s rfl rfl HOW.out HB3.out HZ3.out (by rw [HKL.out]; omega) ?_); intro v3 w3 hown hb3 hg3 hat; rw [← HTK.out] at hown; have HR3 := Aside0.mk hown; have HB4 := Aside0.mk hb3; obtain ⟨A', c', ev⟩ := own_slice hown; subst ev; clear hown hb3 hg3 hat y0))
          have HL1 : ([s].take (j + 1)).length = j + 1 := by rw [HTK.out]; simp [HKL.out]
          have HR4 : Aside0 (Row wA.heap.size w3 (.slice A' (j + 1) c') ([s].take (j + 1))) := ⟨by have h := HR3.out; rw [HL1] at h; unfold Row; rw [HL1]; exact h⟩
          go_roundw
          case rel => exact ⟨A', c', j + 1, by (first | rfl | (have e : j = 0 := (by have := HM.out; omega); subst e; rfl)), by go_num, by omega, HR4, HB4⟩
          case measure => simp [intOf]; omega
        · obtain rfl : j = M := by omega
          have HTM : Aside0 ([s].take j = [s] ∧ j = [s].length) := ⟨by have e := HM.out; subst e; exact ⟨rfl, rfl⟩⟩
          have hR10 := HR10.out
          rw [HTM.out.1] at hR10
          have HR10' := Aside0.mk hR10
          clear hlt HR10 hR10
          go_wp2_with fail
          obtain ⟨hq0, hq1, hq2⟩ := (HR9'.out.below HB2.out).rd'; clear hq0
          refine (rising_row A9 c9 [s] (.inr ⟨s, rfl, hs⟩) wr hq2 hq1 k ?_).mono ?_
          · exact HKN.out
          rintro e wB1 ⟨rfl, n1, hwB1⟩
          have HBb : Aside0 (Below wA.heap.size wA wB1) := ⟨by rw [hwB1]; exact pw_below_drewN HB2.out _⟩
          have HRb : Aside0 (Row wA.heap.size wB1 (.slice A10 j c10) [s]) := ⟨by rw [hwB1]; exact own_move HR10'.out (fun _ _ => rfl)⟩
          clear hwB1 hq1 hq2 HB2 HR10'
          go_wp2_with fail
          obtain ⟨hq0, hq1, hq2⟩ := HRb.out.rd'; clear hq0
          refine (rising_row A10 c10 [s] (.inr ⟨s, rfl, hs⟩) wB1 hq2 hq1 j HTM.out.2).mono ?_
          rintro e wB ⟨rfl, n2, hwB⟩
          have HBB : Aside0 (Below wA.heap.size wA wB) := ⟨by rw [hwB]; exact pw_below_drewN HBb.out _⟩
          have HR10 : Aside0 (Row wA.heap.size wB (.slice A10 j c10) [s]) := ⟨by rw [hwB]; exact own_move HRb.out (fun _ _ => rfl)⟩
          have HMP : Aside0 (wB.ownsMap Try.prog 3 intR W.heap.size k (mp s n0 k)) := ⟨ownsMapN_below HMP.out HBB.out⟩
          have HBW : Aside0 (Below W.heap.size W wB) := ⟨below_then HB.out HB.out.size HBB.out⟩
          clear hwB hq1 hq2 HBb HRb
          go_wp2_with fail
          refine (new_clk wB).mono ?_
          rintro e wC ⟨C, rfl, ⟨S0, hC0, hS0⟩, hbC⟩
          have HC0 := Aside0.mk hC0
          have HS0 := Aside0.mk hS0
          have HBC := Aside0.mk hbC
          clear hC0 hS0 hbC
          go_wp2_with fail
          go_loopw [73] (fun i wr => ∃ (q : Nat) (S : Nat → Prop), i = .int .i64 q ∧ q ≤ j ∧ Aside0 (Clk wr S C q (lk [(s, n0 - now)] q)) ∧ Aside0 (∀ x, S x → wB.heap.size ≤ x) ∧ Aside0 (Below wB.heap.size wB wr)) (fun i _ => j - (intOf i).toNat)
          case atStart => exact ⟨0, S0, rfl, by omega, HC0, HS0, HBC⟩
          case round =>
            obtain ⟨q, S, rfl, hq, HC, HS, HBr⟩ := hrel
            have HMPr : Aside0 (wr.ownsMap Try.prog 3 intR W.heap.size k (mp s n0 k)) := ⟨ownsMapN_below HMP.out HBr.out⟩
            obtain ⟨hq0, hq1, hq2⟩ := HR10.out.rd'; clear hq0
            have HK10 := Aside0.mk hq2
            clear hq1 hq2
            by_cases hlt : q < j
            · have HQ0 : Aside0 (q = 0) := ⟨by have := HM.out; omega⟩
              obtain ⟨ad, rfl, c0⟩ := row_at HK10.out HBr.out (j := q) (x := s) (by rw [HQ0.out]; rfl)
              have HLK : Aside0 (rSet (lk [(s, n0 - now)] q) s (n0 - now) = lk [(s, n0 - now)] (q + 1)) := ⟨by rw [HQ0.out]; rfl⟩
              go_wp2_with (first | (at_lookup; refine wpList_lookup_own_ok wr rfl _ _ 66 rfl 3 3 keyed Try.underlying66 intR (zero_num _) (.lit (.int .i64 0)) [] rfl W.heap.size k (mp s n0 k) rfl HMPr.out (.int .i64 s) (.int .i64 s) rfl HKEY.out ?_; intro v' ps hv; rw [HAT.out] at hv; obtain rfl := intR_inv hv; clear hv))
              refine (set_clk wr S C q (lk [(s, n0 - now)] q) HC.out s (n0 - now) wids.out widd.out (by omega)).mono ?_
              rintro e w5 ⟨rfl, ⟨S5, hC5, hS5⟩, hf5⟩
              rw [HLK.out] at hC5
              have HC5 := Aside0.mk hC5
              have HS5 : Aside0 (∀ x, S5 x → wB.heap.size ≤ x) := ⟨fun x hx => (hS5 x hx).elim (HS.out x) (fun h => Nat.le_trans HBr.out.size h)⟩
              have HB5 := Aside0.mk (fr_belowB HBr.out HBr.out.size hf5 HS.out)
              clear hC5 hS5 hf5 c0
              go_wp2_with fail
              go_roundw
              case rel => exact ⟨q + 1, S5, by go_num, by omega, HC5, HS5, HB5⟩
              case measure => simp [intOf]; omega
            · obtain rfl : q = j := by omega
              have HLJ : Aside0 (dueL (lk [(s, n0 - now)] q) (-36) = []) := ⟨by have e := HM.out; subst e; exact HDUE.out⟩
              clear hlt
              go_wp2_with fail
              refine (due_clk wr S C _ (lk [(s, n0 - now)] q) HC.out (-36)).mono ?_
              rintro e wD ⟨v21, rfl, hR21, hC21, hf21⟩
              rw [HLJ.out] at hR21
              have HBD := Aside0.mk (fr_belowB HBr.out HBr.out.size hf21 HS.out)
              have hR21' : Row wr.heap.size wD v21 [] := hR21
              obtain ⟨A21, c21, rfl, hc21, hk21⟩ := hR21'.rd
              obtain ⟨K, hK⟩ : ∃ K, K = ([] : List Int).length := ⟨_, rfl⟩
              have HK := Aside0.mk hK
              have HK01 : Aside0 (K = 0 ∨ K = 1) := ⟨by rw [hK]; simp⟩
              rw [← hK]
              have HR21 : Aside0 (Row W.heap.size wD (.slice A21 K c21) []) := ⟨by rw [hK]; exact own_weaken hR21' (Nat.le_trans HBW.out.size HBr.out.size)⟩
              clear hR21 hR21' hC21 hf21 hc21 hk21 hK HMPr HC HS HBr HK10
              have HMPd : Aside0 (wD.ownsMap Try.prog 3 intR W.heap.size k (mp s n0 k)) := ⟨ownsMapN_below HMP.out HBD.out⟩
              have HBWd : Aside0 (Below W.heap.size W wD) := ⟨below_then HBW.out HBW.out.size HBD.out⟩
              go_wp2_with fail
              refine (sort_small A21 c21 K HK01.out wD).mono ?_
              rintro e w' ⟨rfl, rfl⟩
              go_wp2_with fail
              go_loopw [22, 97] (fun v i wr => ∃ (A : Option Addr) (c p : Nat), v = .slice A p c ∧ i = .int .i64 p ∧ p ≤ q ∧ Aside0 (RowW wD.heap.size wr (.slice A p c) ([(s, n0)].take p)) ∧ Aside0 (Below wD.heap.size wD wr)) (fun _ i _ => q - (intOf i).toNat)
              case atStart => exact ⟨none, 0, 0, rfl, rfl, by omega, ⟨⟨rfl, .inl ⟨rfl, rfl⟩⟩⟩, ⟨Below.refl _ _⟩⟩
              case round =>
                obtain ⟨A22, c22, p, rfl, rfl, hp, HR22, HBr⟩ := hrel
                by_cases hlt : p < q
                · have HP0 : Aside0 (p = 0) := ⟨by have := HM.out; omega⟩
                  obtain ⟨hq0, hq1, hq2⟩ := HR10.out.rd'; clear hq0
                  obtain ⟨ad, rfl, c0⟩ := row_at hq2 (below_then HBD.out HBD.out.size HBr.out) (j := p) (x := s) (by rw [HP0.out]; rfl)
                  have HMPr : Aside0 (wr.ownsMap Try.prog 3 intR W.heap.size k (mp s n0 k)) := ⟨ownsMapN_below HMPd.out HBr.out⟩
                  obtain ⟨hq0, hq3, hq4⟩ := (HR21.out.below HBr.out).rd'; clear hq0
                  have HQ3 := Aside0.mk hq3
                  have HQ4 := Aside0.mk hq4
                  clear hq1 hq2 hq3 hq4
                  have HTK : Aside0 ([(s, n0)].take (p + 1) = [(s, n0)].take p ++ [(s, n0)]) := ⟨by rw [HP0.out]; rfl⟩
                  have HKL : Aside0 (([(s, n0)].take p).length = p) := ⟨by rw [HP0.out]; rfl⟩
                  go_wp2_with (first | (at_lookup; refine wpList_lookup_own_ok wr rfl _ _ 66 rfl 3 3 keyed Try.underlying66 intR (zero_num _) (.lit (.int .i64 0)) [] rfl W.heap.size k (mp s n0 k) rfl HMPr.out (.int .i64 s) (.int .i64 s) rfl HKEY.out ?_; intro v' ps hv; rw [HAT.out] at hv; obtain rfl := intR_inv hv; clear hv))
                  refine (contains_row A21 c21 [] s false (.inl ⟨rfl, rfl⟩) wr HQ4.out HQ3.out K HK.out).mono ?_
                  rintro e w6 ⟨rfl, n6, hw6⟩
                  have HBX : Aside0 (Below wD.heap.size wD w6) := ⟨by rw [hw6]; exact pw_below_drewN HBr.out _⟩
                  have HRX : Aside0 (w6.ownsRow wD.heap.size 65 2 (.slice A22 p c22) p (([(s, n0)].take p).flatMap fun x => [.int .i64 x.1, .int .i64 x.2])) := ⟨by have h := HR22.out; unfold RowW at h; rw [HKL.out] at h; rw [hw6]; exact own_move h (fun _ _ => rfl)⟩
                  clear hw6 c0 HR22 HBr HQ3 HQ4 HMPr
                  go_wp2_with (first | (at_builtin; (refine print_append_cells (w0 := wD) wD.heap.size rfl _ _ 44 65 (.agg #[.int .i64 0, .int .i64 0]) 2 16 rfl Try.underlying44 (by kernel_rfl) rfl (by decide) (by decide) (.slice A22 p c22) p (([(s, n0)].take p).flatMap fun x => [.int .i64 x.1, .int .i64 x.2]) [.int .i64 s, .int .i64 n0] rfl rfl rfl (by intro u hu; simp at hu; rcases hu with rfl | rfl <;> rfl) HRX.out HBX.out HBX.out.size (by omega) ?_); intro v3 w3 hown hb3 hg3 hat; have HR3 := Aside0.mk hown; have HB3 := Aside0.mk hb3; obtain ⟨A', c', ev⟩ := own_slice hown; subst ev; clear hown hb3 hg3 hat))
                  go_roundw
                  case rel => exact ⟨A', c', p + 1, rfl, by go_num, by omega, ⟨by have h := HR3.out; unfold RowW; rw [HTK.out, List.length_append, HKL.out, List.flatMap_append]; exact h⟩, HB3⟩
                  case measure => simp [intOf]; omega
                · obtain rfl : p = q := by omega
                  have HR21r := Aside0.mk (HR21.out.below HBr.out)
                  have HBF : Aside0 (Below W.heap.size W wr) := ⟨below_then HBWd.out HBWd.out.size HBr.out⟩
                  clear hlt
                  go_wp2_with fail
                  go_ret3
                  have e1 := HM.out
                  have e2 := HK.out
                  subst e1
                  subst e2
                  exact ⟨_, _, _, _, rfl, own_weaken HR22.out HBWd.out.size, HR21r.out, HBF.out⟩
set_option maxHeartbeats 8000000 in
set_option maxRecDepth 100000 in
theorem watch_D (W : World) (A0 : Option Addr) (c0 N : Nat) (s n0 now nd ak ex : Int) (A1 : Option Addr) (c1 M : Nat) (hN : N = 1) (hw : At2 W A0 (s, n0)) (hM : M = 1) (hl : At3 W A1 s nd ak ex) (hs : 1 ≤ s) (hs2 : s ≤ 1000000) (h0 : 0 ≤ n0) (h1 : n0 ≤ now) (h2 : now ≤ 100000) (hnow : 36 ≤ now - n0) :
    Calls Try.prog 29 #[.slice A0 N c0, .slice A1 M c1, .int .i64 now] W (WatchR W s now [s]) := by
  have HN := Aside0.mk hN
  have HM := Aside0.mk hM
  have HL := Aside0.mk hl
  have HW := Aside0.mk hw
  have wids := Aside0.mk (show (Lit.int .i64 s).wf = true from Go.WalkArith.wf_i64 (by omega))
  have widn := Aside0.mk (show (Lit.int .i64 n0).wf = true from Go.WalkArith.wf_i64 (by omega))
  have widd := Aside0.mk (show (Lit.int .i64 (n0 - now)).wf = true from Go.WalkArith.wf_i64 (by omega))
  have HKEY := Aside0.mk (keyOf_int_mk (P := Try.prog) Try.underlying3 wids.out)
  have hNb : N ≤ 1 := by omega
  have hMb : M ≤ 1 := by omega
  have HDUE : Aside0 (dueL [(s, n0 - now)] (-36) = [(s, n0 - now)]) := ⟨(due_cons (l := []) (by show n0 - now ≤ -36; omega)).1⟩
  clear hN hM hl hw hnow
  have hmm := @run_makeMap Try.prog
  go_enter Try.func29, Try.ntmps29
  go_wp2_with fail
  obtain ⟨w1, hw1⟩ : ∃ w1, w1 = W.alloc (.map #[] 0) := ⟨_, rfl⟩
  rw [← hw1]
  have HM1 : Aside0 (w1.ownsMap Try.prog 3 intR W.heap.size 0 (.map [])) := ⟨by rw [hw1]; exact World.ownsMap_made W Try.prog 3 intR⟩
  have HB1 : Aside0 (Below W.heap.size W w1) := ⟨by rw [hw1]; exact below_alloc (Below.refl _ _) _⟩
  have HIM := Aside0.mk HM1.out.isMap
  clear hw1 hmm
  go_loopw [9, 30] (fun v i wr => ∃ (A : Option Addr) (c k : Nat), v = .slice A k c ∧ i = .int .i64 k ∧ k ≤ N ∧ Aside0 (Row W.heap.size wr (.slice A k c) ([s].take k)) ∧ Aside0 (wr.ownsMap Try.prog 3 intR W.heap.size k (mp s n0 k)) ∧ Aside0 (Below W.heap.size W wr)) (fun _ i _ => N - (intOf i).toNat)
  case atStart => exact ⟨none, 0, 0, rfl, rfl, by omega, ⟨⟨rfl, .inl ⟨rfl, rfl⟩⟩⟩, HM1, HB1⟩
  case round =>
    obtain ⟨A9, c9, k, rfl, rfl, hk, HR9, HMP, HB⟩ := hrel
    by_cases hlt : k < N
    · obtain ⟨ad, rfl, hcell⟩ := HW.out
      obtain ⟨x0, x1⟩ := hcell k (by have := HN.out; omega) wr HB.out
      simp only at x0 x1
      have HTK := Aside0.mk (take_up s k N hlt HN.out)
      have HMU : Aside0 ((mp s n0 k).put (.int .i64 s) (.lit (.int .i64 n0)) = mp s n0 (k + 1)) := ⟨by obtain rfl : k = 0 := (by have := HN.out; omega); rfl⟩
      have HKL : Aside0 (([s].take k).length = k) := ⟨by obtain rfl : k = 0 := (by have := HN.out; omega); rfl⟩
      clear hcell
      go_upto_region 6 with fail
      obtain ⟨w2, hw2⟩ : ∃ w2, w2 = wr.alloc (.cells #[.int .i64 s, .int .i64 n0] 65) := ⟨_, rfl⟩
      rw [← hw2]
      have hb2 : Below wr.heap.size wr w2 := by rw [hw2]; exact below_alloc (Below.refl _ _) _
      have hx := (show w2.heap[wr.heap.size]? = some (.cells #[.int .i64 s, .int .i64 n0] 65 (0, 0)) by rw [hw2]; exact blk_new wr _)
      have HX2 := Aside0.mk hx
      have HB2 := Aside0.mk (below_then HB.out HB.out.size hb2)
      have HR2 := Aside0.mk (HR9.out.below hb2)
      have HMP2 := Aside0.mk (ownsMapN_below HMP.out hb2)
      have HZ2 := Aside0.mk HB2.out.size
      clear hw2 hb2 hx HR9 HMP HB x0 x1
      generalize wr.heap.size = Z at *
      have y0 : w2.cell? ⟨Z, 0, none⟩ = some (.int .i64 s) := (blk_cell HX2.out 0).trans rfl
      have y1 : w2.cell? ⟨Z, 1, none⟩ = some (.int .i64 n0) := (blk_cell HX2.out 1).trans rfl
      go_wp2_with fail
      refine (lw_true n0 now h0 h1 w2).mono ?_
      rintro e w' ⟨rfl, rfl⟩
      have HOW : Aside0 (w2.ownsRow W.heap.size 3 1 (.slice A9 k c9) ([s].take k).length (nums .i64 ([s].take k))) := ⟨HR2.out⟩
      go_wp2_with (first
        | (at_builtin; (refine print_append_num (w0 := W) W.heap.size rfl _ _ 22 3 .i64 8 rfl Try.underlying22 (by kernel_rfl) (by decide) (.slice A9 k c9) ([s].take k) s rfl rfl HOW.out HB2.out HZ2.out (by rw [HKL.out]; omega) ?_); intro v3 w3 hown hb3 hg3 hat; rw [← HTK.out] at hown; have HR3 := Aside0.mk hown; have HB3 := Aside0.mk hb3; have HMP3 := Aside0.mk (ownsMapN_grown HMP2.out hg3 HOW.out); have z0 : w3.cell? ⟨Z, 0, none⟩ = some (.int .i64 s) := (blk_cell (blk_grown HX2.out hg3 (own_neB HX2.out HOW.out (by decide))) 0).trans rfl; have z1 : w3.cell? ⟨Z, 1, none⟩ = some (.int .i64 n0) := (blk_cell (blk_grown HX2.out hg3 (own_neB HX2.out HOW.out (by decide))) 1).trans rfl; obtain ⟨A', c', ev⟩ := own_slice hown; subst ev; clear hown hb3 hg3 hat y0 y1)
        | (at_mapUpdate; refine wpList_mapUpdate_own w3 rfl _ _ _ 66 rfl 3 3 keyed Try.underlying66 intR W.heap.size k (mp s n0 k) rfl HMP3.out (by unfold maxLen; omega) (.int .i64 s) (.int .i64 n0) (.int .i64 s) rfl rfl HKEY.out (.lit (.int .i64 n0)) [] rfl ?_; intro w4 hm4 hg4; rw [HMU.out] at hm4; have HMP4 := Aside0.mk hm4; have HG4 := Aside0.mk hg4; clear hm4 hg4))
      have HL1 : ([s].take (k + 1)).length = k + 1 := by have := HTK.out; have := HKL.out; rw [‹[s].take (k + 1) = _›]; simp [HKL.out]
      have HR4 : Aside0 (Row W.heap.size w4 (.slice A' (k + 1) c') ([s].take (k + 1))) := ⟨by have h := HR3.out; rw [HL1] at h; unfold Row; rw [HL1]; exact own_move h (fun g hg => HG4.out.block g (h.lt g hg).2 (fun e => own_notmap h hg HMP3.out (by injection e with e; exact e.symm)))⟩
      have HB4 : Aside0 (Below W.heap.size W w4) := ⟨HB3.out.grown HG4.out HB3.out.size (fun g hg => by injection hg with hg; omega)⟩
      go_roundw
      case rel => exact ⟨A', c', k + 1, by (first | rfl | (have e : k = 0 := (by have := HN.out; omega); subst e; rfl)), by go_num, by omega, HR4, HMP4, HB4⟩
      case measure => simp [intOf]; omega
    · obtain rfl : k = N := by omega
      have HTN : Aside0 ([s].take k = [s]) := ⟨by have e := HN.out; subst e; rfl⟩
      have hhas : has (mp s n0 k) (.int .i64 s) = true := by have e := HN.out; subst e; unfold mp; rw [if_neg (by omega)]; exact has_put_same HIM.out (by trivial) _
      have HAT : Aside0 ((mp s n0 k).atKey (.int .i64 s) (.lit (.int .i64 0)) = .lit (.int .i64 n0)) := ⟨by have e := HN.out; subst e; unfold mp; rw [if_neg (by omega), atKey_put_same HIM.out (by trivial)]⟩
      have HKN : Aside0 (k = ([s] : List Int).length) := ⟨by have e := HN.out; subst e; rfl⟩
      have hR9 := HR9.out
      rw [HTN.out] at hR9
      have HR9' := Aside0.mk hR9
      clear hlt HR9 hR9 HTN
      obtain ⟨wA, hA⟩ : ∃ wA, wA = wr := ⟨_, rfl⟩
      subst hA
      go_wp2_with fail
      go_loopw [10, 52] (fun v i wr => ∃ (A : Option Addr) (c j : Nat), v = .slice A j c ∧ i = .int .i64 j ∧ j ≤ M ∧ Aside0 (Row wA.heap.size wr (.slice A j c) ([s].take j)) ∧ Aside0 (Below wA.heap.size wA wr)) (fun _ i _ => M - (intOf i).toNat)
      case atStart => exact ⟨none, 0, 0, rfl, rfl, by omega, ⟨⟨rfl, .inl ⟨rfl, rfl⟩⟩⟩, ⟨Below.refl _ _⟩⟩
      case round =>
        obtain ⟨A10, c10, j, rfl, rfl, hj, HR10, HB2⟩ := hrel
        have HBW : Aside0 (Below W.heap.size W wr) := ⟨below_then HB.out HB.out.size HB2.out⟩
        by_cases hlt : j < M
        · obtain ⟨ad, rfl, hcell⟩ := HL.out
          obtain ⟨x0, x1, x2, x3⟩ := hcell j (by have := HM.out; omega) wr HBW.out
          have HTK := Aside0.mk (take_up s j M hlt HM.out)
          have HKL : Aside0 (([s].take j).length = j) := ⟨by obtain rfl : j = 0 := (by have := HM.out; omega); rfl⟩
          clear hcell
          go_upto_region 14 with fail
          obtain ⟨w2, hw2⟩ : ∃ w2, w2 = wr.alloc (.cells #[.int .i64 s, .int .i64 nd, .int .i64 ak, .int .i64 ex] 48) := ⟨_, rfl⟩
          rw [← hw2]
          have hb2 : Below wr.heap.size wr w2 := by rw [hw2]; exact below_alloc (Below.refl _ _) _
          have hx := (show w2.heap[wr.heap.size]? = some (.cells #[.int .i64 s, .int .i64 nd, .int .i64 ak, .int .i64 ex] 48 (0, 0)) by rw [hw2]; exact blk_new wr _)
          have y0 : w2.cell? ⟨wr.heap.size, 0, none⟩ = some (.int .i64 s) := (blk_cell hx 0).trans rfl
          have HB3 := Aside0.mk (below_then HB2.out HB2.out.size hb2)
          have HZ3 := Aside0.mk HB3.out.size
          have HOW : Aside0 (w2.ownsRow wA.heap.size 3 1 (.slice A10 j c10) ([s].take j).length (nums .i64 ([s].take j))) := ⟨HR10.out.below hb2⟩
          clear hw2 hb2 hx HR10 HB2 HBW x0 x1 x2 x3
          generalize wr.heap.size = Z at *
          go_wp2_with (first
            | (at_builtin; (refine print_append_num (w0 := wA) wA.heap.size rfl _ _ 22 3 .i64 8 rfl Try.underlying22 (by kernel_rfl) (by decide) (.slice A10 j c10) ([s].take j) s rfl rfl HOW.out HB3.out HZ3.out (by rw [HKL.out]; omega) ?_); intro v3 w3 hown hb3 hg3 hat; rw [← HTK.out] at hown; have HR3 := Aside0.mk hown; have HB4 := Aside0.mk hb3; obtain ⟨A', c', ev⟩ := own_slice hown; subst ev; clear hown hb3 hg3 hat y0))
          have HL1 : ([s].take (j + 1)).length = j + 1 := by rw [HTK.out]; simp [HKL.out]
          have HR4 : Aside0 (Row wA.heap.size w3 (.slice A' (j + 1) c') ([s].take (j + 1))) := ⟨by have h := HR3.out; rw [HL1] at h; unfold Row; rw [HL1]; exact h⟩
          go_roundw
          case rel => exact ⟨A', c', j + 1, by (first | rfl | (have e : j = 0 := (by have := HM.out; omega); subst e; rfl)), by go_num, by omega, HR4, HB4⟩
          case measure => simp [intOf]; omega
        · obtain rfl : j = M := by omega
          have HTM : Aside0 ([s].take j = [s] ∧ j = [s].length) := ⟨by have e := HM.out; subst e; exact ⟨rfl, rfl⟩⟩
          have hR10 := HR10.out
          rw [HTM.out.1] at hR10
          have HR10' := Aside0.mk hR10
          clear hlt HR10 hR10
          go_wp2_with fail
          obtain ⟨hq0, hq1, hq2⟩ := (HR9'.out.below HB2.out).rd'; clear hq0
          refine (rising_row A9 c9 [s] (.inr ⟨s, rfl, hs⟩) wr hq2 hq1 k ?_).mono ?_
          · exact HKN.out
          rintro e wB1 ⟨rfl, n1, hwB1⟩
          have HBb : Aside0 (Below wA.heap.size wA wB1) := ⟨by rw [hwB1]; exact pw_below_drewN HB2.out _⟩
          have HRb : Aside0 (Row wA.heap.size wB1 (.slice A10 j c10) [s]) := ⟨by rw [hwB1]; exact own_move HR10'.out (fun _ _ => rfl)⟩
          clear hwB1 hq1 hq2 HB2 HR10'
          go_wp2_with fail
          obtain ⟨hq0, hq1, hq2⟩ := HRb.out.rd'; clear hq0
          refine (rising_row A10 c10 [s] (.inr ⟨s, rfl, hs⟩) wB1 hq2 hq1 j HTM.out.2).mono ?_
          rintro e wB ⟨rfl, n2, hwB⟩
          have HBB : Aside0 (Below wA.heap.size wA wB) := ⟨by rw [hwB]; exact pw_below_drewN HBb.out _⟩
          have HR10 : Aside0 (Row wA.heap.size wB (.slice A10 j c10) [s]) := ⟨by rw [hwB]; exact own_move HRb.out (fun _ _ => rfl)⟩
          have HMP : Aside0 (wB.ownsMap Try.prog 3 intR W.heap.size k (mp s n0 k)) := ⟨ownsMapN_below HMP.out HBB.out⟩
          have HBW : Aside0 (Below W.heap.size W wB) := ⟨below_then HB.out HB.out.size HBB.out⟩
          clear hwB hq1 hq2 HBb HRb
          go_wp2_with fail
          refine (new_clk wB).mono ?_
          rintro e wC ⟨C, rfl, ⟨S0, hC0, hS0⟩, hbC⟩
          have HC0 := Aside0.mk hC0
          have HS0 := Aside0.mk hS0
          have HBC := Aside0.mk hbC
          clear hC0 hS0 hbC
          go_wp2_with fail
          go_loopw [73] (fun i wr => ∃ (q : Nat) (S : Nat → Prop), i = .int .i64 q ∧ q ≤ j ∧ Aside0 (Clk wr S C q (lk [(s, n0 - now)] q)) ∧ Aside0 (∀ x, S x → wB.heap.size ≤ x) ∧ Aside0 (Below wB.heap.size wB wr)) (fun i _ => j - (intOf i).toNat)
          case atStart => exact ⟨0, S0, rfl, by omega, HC0, HS0, HBC⟩
          case round =>
            obtain ⟨q, S, rfl, hq, HC, HS, HBr⟩ := hrel
            have HMPr : Aside0 (wr.ownsMap Try.prog 3 intR W.heap.size k (mp s n0 k)) := ⟨ownsMapN_below HMP.out HBr.out⟩
            obtain ⟨hq0, hq1, hq2⟩ := HR10.out.rd'; clear hq0
            have HK10 := Aside0.mk hq2
            clear hq1 hq2
            by_cases hlt : q < j
            · have HQ0 : Aside0 (q = 0) := ⟨by have := HM.out; omega⟩
              obtain ⟨ad, rfl, c0⟩ := row_at HK10.out HBr.out (j := q) (x := s) (by rw [HQ0.out]; rfl)
              have HLK : Aside0 (rSet (lk [(s, n0 - now)] q) s (n0 - now) = lk [(s, n0 - now)] (q + 1)) := ⟨by rw [HQ0.out]; rfl⟩
              go_wp2_with (first | (at_lookup; refine wpList_lookup_own_ok wr rfl _ _ 66 rfl 3 3 keyed Try.underlying66 intR (zero_num _) (.lit (.int .i64 0)) [] rfl W.heap.size k (mp s n0 k) rfl HMPr.out (.int .i64 s) (.int .i64 s) rfl HKEY.out ?_; intro v' ps hv; rw [HAT.out] at hv; obtain rfl := intR_inv hv; clear hv))
              refine (set_clk wr S C q (lk [(s, n0 - now)] q) HC.out s (n0 - now) wids.out widd.out (by omega)).mono ?_
              rintro e w5 ⟨rfl, ⟨S5, hC5, hS5⟩, hf5⟩
              rw [HLK.out] at hC5
              have HC5 := Aside0.mk hC5
              have HS5 : Aside0 (∀ x, S5 x → wB.heap.size ≤ x) := ⟨fun x hx => (hS5 x hx).elim (HS.out x) (fun h => Nat.le_trans HBr.out.size h)⟩
              have HB5 := Aside0.mk (fr_belowB HBr.out HBr.out.size hf5 HS.out)
              clear hC5 hS5 hf5 c0
              go_wp2_with fail
              go_roundw
              case rel => exact ⟨q + 1, S5, by go_num, by omega, HC5, HS5, HB5⟩
              case measure => simp [intOf]; omega
            · obtain rfl : q = j := by omega
              have HLJ : Aside0 (dueL (lk [(s, n0 - now)] q) (-36) = [(s, n0 - now)]) := ⟨by have e := HM.out; subst e; exact HDUE.out⟩
              clear hlt
              go_wp2_with fail
              refine (due_clk wr S C _ (lk [(s, n0 - now)] q) HC.out (-36)).mono ?_
              rintro e wD ⟨v21, rfl, hR21, hC21, hf21⟩
              rw [HLJ.out] at hR21
              have HBD := Aside0.mk (fr_belowB HBr.out HBr.out.size hf21 HS.out)
              have hR21' : Row wr.heap.size wD v21 [s] := hR21
              obtain ⟨A21, c21, rfl, hc21, hk21⟩ := hR21'.rd
              obtain ⟨K, hK⟩ : ∃ K, K = ([s] : List Int).length := ⟨_, rfl⟩
              have HK := Aside0.mk hK
              have HK01 : Aside0 (K = 0 ∨ K = 1) := ⟨by rw [hK]; simp⟩
              rw [← hK]
              have HR21 : Aside0 (Row W.heap.size wD (.slice A21 K c21) [s]) := ⟨by rw [hK]; exact own_weaken hR21' (Nat.le_trans HBW.out.size HBr.out.size)⟩
              clear hR21 hR21' hC21 hf21 hc21 hk21 hK HMPr HC HS HBr HK10
              have HMPd : Aside0 (wD.ownsMap Try.prog 3 intR W.heap.size k (mp s n0 k)) := ⟨ownsMapN_below HMP.out HBD.out⟩
              have HBWd : Aside0 (Below W.heap.size W wD) := ⟨below_then HBW.out HBW.out.size HBD.out⟩
              go_wp2_with fail
              refine (sort_small A21 c21 K HK01.out wD).mono ?_
              rintro e w' ⟨rfl, rfl⟩
              go_wp2_with fail
              go_loopw [22, 97] (fun v i wr => ∃ (A : Option Addr) (c p : Nat), v = .slice A p c ∧ i = .int .i64 p ∧ p ≤ q ∧ Aside0 (RowW wD.heap.size wr (.slice A p c) ([(s, now)].take p)) ∧ Aside0 (Below wD.heap.size wD wr)) (fun _ i _ => q - (intOf i).toNat)
              case atStart => exact ⟨none, 0, 0, rfl, rfl, by omega, ⟨⟨rfl, .inl ⟨rfl, rfl⟩⟩⟩, ⟨Below.refl _ _⟩⟩
              case round =>
                obtain ⟨A22, c22, p, rfl, rfl, hp, HR22, HBr⟩ := hrel
                by_cases hlt : p < q
                · have HP0 : Aside0 (p = 0) := ⟨by have := HM.out; omega⟩
                  obtain ⟨hq0, hq1, hq2⟩ := HR10.out.rd'; clear hq0
                  obtain ⟨ad, rfl, c0⟩ := row_at hq2 (below_then HBD.out HBD.out.size HBr.out) (j := p) (x := s) (by rw [HP0.out]; rfl)
                  have HMPr : Aside0 (wr.ownsMap Try.prog 3 intR W.heap.size k (mp s n0 k)) := ⟨ownsMapN_below HMPd.out HBr.out⟩
                  obtain ⟨hq0, hq3, hq4⟩ := (HR21.out.below HBr.out).rd'; clear hq0
                  have HQ3 := Aside0.mk hq3
                  have HQ4 := Aside0.mk hq4
                  clear hq1 hq2 hq3 hq4
                  have HTK : Aside0 ([(s, now)].take (p + 1) = [(s, now)].take p ++ [(s, now)]) := ⟨by rw [HP0.out]; rfl⟩
                  have HKL : Aside0 (([(s, now)].take p).length = p) := ⟨by rw [HP0.out]; rfl⟩
                  go_wp2_with (first | (at_lookup; refine wpList_lookup_own_ok wr rfl _ _ 66 rfl 3 3 keyed Try.underlying66 intR (zero_num _) (.lit (.int .i64 0)) [] rfl W.heap.size k (mp s n0 k) rfl HMPr.out (.int .i64 s) (.int .i64 s) rfl HKEY.out ?_; intro v' ps hv; rw [HAT.out] at hv; obtain rfl := intR_inv hv; clear hv))
                  refine (contains_row A21 c21 [s] s true (.inr ⟨rfl, rfl⟩) wr HQ4.out HQ3.out K HK.out).mono ?_
                  rintro e w6 ⟨rfl, n6, hw6⟩
                  have HBX : Aside0 (Below wD.heap.size wD w6) := ⟨by rw [hw6]; exact pw_below_drewN HBr.out _⟩
                  have HRX : Aside0 (w6.ownsRow wD.heap.size 65 2 (.slice A22 p c22) p (([(s, now)].take p).flatMap fun x => [.int .i64 x.1, .int .i64 x.2])) := ⟨by have h := HR22.out; unfold RowW at h; rw [HKL.out] at h; rw [hw6]; exact own_move h (fun _ _ => rfl)⟩
                  clear hw6 c0 HR22 HBr HQ3 HQ4 HMPr
                  go_wp2_with (first | (at_builtin; (refine print_append_cells (w0 := wD) wD.heap.size rfl _ _ 44 65 (.agg #[.int .i64 0, .int .i64 0]) 2 16 rfl Try.underlying44 (by kernel_rfl) rfl (by decide) (by decide) (.slice A22 p c22) p (([(s, now)].take p).flatMap fun x => [.int .i64 x.1, .int .i64 x.2]) [.int .i64 s, .int .i64 now] rfl rfl rfl (by intro u hu; simp at hu; rcases hu with rfl | rfl <;> rfl) HRX.out HBX.out HBX.out.size (by omega) ?_); intro v3 w3 hown hb3 hg3 hat; have HR3 := Aside0.mk hown; have HB3 := Aside0.mk hb3; obtain ⟨A', c', ev⟩ := own_slice hown; subst ev; clear hown hb3 hg3 hat))
                  go_roundw
                  case rel => exact ⟨A', c', p + 1, rfl, by go_num, by omega, ⟨by have h := HR3.out; unfold RowW; rw [HTK.out, List.length_append, HKL.out, List.flatMap_append]; exact h⟩, HB3⟩
                  case measure => simp [intOf]; omega
                · obtain rfl : p = q := by omega
                  have HR21r := Aside0.mk (HR21.out.below HBr.out)
                  have HBF : Aside0 (Below W.heap.size W wr) := ⟨below_then HBWd.out HBWd.out.size HBr.out⟩
                  clear hlt
                  go_wp2_with fail
                  go_ret3
                  have e1 := HM.out
                  have e2 := HK.out
                  subst e1
                  subst e2
                  exact ⟨_, _, _, _, rfl, own_weaken HR22.out HBWd.out.size, HR21r.out, HBF.out⟩
end Go.Proofs.Ytmoahkdadeiahaa.AlarmQ
