/- The law LeaseOver's walk. -/
import Derived.Test.YtmoahkdadeiahaaLeaseWatches
import Derived.Deep.Cut
import Derived.Deep.CutRange
import Derived.Deep.DeepCutAuto
import Derived.Test.YtmoahkdadeiahaaO1
import Derived.Test.YtmoahkdadeiahaaO3
import Derived.Test.YtmoahkdadeiahaaO4
import Derived.Test.YtmoahkdadeiahaaO7
import Derived.Test.YtmoahkdadeiahaaO8
import Derived.Test.YtmoahkdadeiahaaO9
namespace Go.Proofs.Ytmoahkdadeiahaa.AlarmQ
open Go.Shelf Go.Maps Go.RowKit Go.Proofs.YtmoahkdadeiahaaW.PrintWords Go.Proofs.Ytmoahkdadeiahaa.AlarmMath Go.Proofs.Ytmoahkdadeiahaa.Blk Go.Proofs.Ytmoahkdadeiahaa.AlarmP Go.Proofs.Ytmoahkdadeiahaa.SteadyMath Go.Proofs.Ytmoahkdadeiahaa.Hold
set_option linter.unusedVariables false
set_option linter.unusedSimpArgs false
theorem steady_20 : O.folkmootlaw20_steady.f 20 = some true := by kernel_rfl
theorem steady_two (l : List Int) (hl : l.length ≤ 300) : O.lease_Steady.f 5 [2, 11] l = some (gOne l 2 && gOne l 11) := by
  unfold O.lease_Steady.f
  rw [if_pos ⟨by omega, by intro n hn; simp at hn; omega⟩, show O.sets_Is.f 5 [2, 11] = some true by kernel_rfl]
  simp
theorem lit_two (w w1 : World) (s t : Int) (hw : w1 = w.alloc (.cells #[.int .i64 s, .int .i64 t] 3)) : Kd.C (Kd.int .i64) w1 (some ⟨w.heap.size, 0, none⟩) [s, t].length [s, t] := by
  refine Kd.C_of_reads (d := (0 : Int)) (h1 := fun _ => rfl) ⟨rfl, by simp, fun _ => ⟨_, rfl, fun j hj => ?_⟩⟩
  rw [addr_add, hw]
  have h := blk_cell (blk_new w (.cells #[.int .i64 s, .int .i64 t] 3)) j
  rw [h]
  match j, hj with
  | 0, _ => rfl
  | 1, _ => rfl
def pk (p : Nat) : Int := if p = 0 then 0 else 1
def ps (p : Nat) : Int := if p = 2 then 7 else 0
def pa (p : Nat) (a : Int) : Int := if p = 2 then a else 0
def pl (p : Nat) (a : Int) : List Sn := if p = 1 then [⟨1, a⟩] else []
/-- The holder's box at X: in play p (0: it has not asked; 1: it has asked; 2: it has taken). -/
def HAt (W w : World) (X p : Nat) (t a : Int) : Prop := ∃ A c, w.heap[X]? = some (.cells #[.int .i64 11, .int .i64 t, .int .i64 (pk p), .slice A (pl p a).length c, .int .i64 (ps p), .int .i64 (pa p a)] 29 (0, 0)) ∧ Kd.Q O.k59 59 w W.heap.size (fun _ => True) (.slice A (pl p a).length c) (pl p a)
theorem HAt.below {W w w' : World} {X p : Nat} {t a : Int} (h : HAt W w X p t a) (hb : Below w.heap.size w w') : HAt W w' X p t a := by
  obtain ⟨A, c, h1, h2⟩ := h
  exact ⟨A, c, blk_below h1 hb, Kd.Q_below h2 hb⟩
/-- The leader's row of waits. -/
def WSt (W w : World) (v : Value) (one : Bool) (lo hi : Int) : Prop := (one = false ∧ ∃ A c, v = .slice A 0 c) ∨ (one = true ∧ ∃ A c n0, v = .slice A 1 c ∧ RowW W.heap.size w (.slice A 1 c) [(7, n0)] ∧ lo ≤ n0 ∧ n0 ≤ hi)
theorem WSt.below {W w w' : World} {v : Value} {one : Bool} {lo hi : Int} (h : WSt W w v one lo hi) (hb : Below w.heap.size w w') : WSt W w' v one lo hi := by
  rcases h with h | ⟨h1, A, c, n0, h2, h3, h4⟩
  · exact .inl h
  · exact .inr ⟨h1, A, c, n0, h2, own_move h3 (fun k hk => hb.block k (h3.lt k hk).2), h4⟩
theorem WSt.box {W w w' : World} {v : Value} {one : Bool} {lo hi : Int} {X : Nat} {cs : Array Value} (h : WSt W w v one lo hi) (hx : w.heap[X]? = some (.cells cs 29 (0, 0))) (hg : w.grownBy w' (some X)) : WSt W w' v one lo hi := by
  rcases h with h | ⟨h1, A, c, n0, h2, h3, h4⟩
  · exact .inl h
  · exact .inr ⟨h1, A, c, n0, h2, own_move h3 (fun k hk => hg.block k (h3.lt k hk).2 (fun e => own_neB hx h3 (by decide) (by rw [hk]; exact e.symm))), h4⟩
theorem six {w' : World} {X : Nat} {v0 v1 v2 v3 v4 v5 : Value} (h : w'.heap[X]? = some (.cells #[v0, v1, v2, v3, v4, v5] 29 (0, 0))) : w'.cell? ⟨X, 0, none⟩ = some v0 ∧ w'.cell? ⟨X, 1, none⟩ = some v1 ∧ w'.cell? ⟨X, 2, none⟩ = some v2 ∧ w'.cell? ⟨X, 3, none⟩ = some v3 ∧ w'.cell? ⟨X, 4, none⟩ = some v4 ∧ w'.cell? ⟨X, 5, none⟩ = some v5 :=
  ⟨(blk_cell h 0).trans rfl, (blk_cell h 1).trans rfl, (blk_cell h 2).trans rfl, (blk_cell h 3).trans rfl, (blk_cell h 4).trans rfl, (blk_cell h 5).trans rfl⟩
theorem cnt_mono (n : Int) (l : List Int) {i j : Nat} (h : i ≤ j) : SteadyMath.cnt n (l.take i) ≤ SteadyMath.cnt n (l.take j) := by
  have e1 : l.take i = (l.take j).take i := by rw [List.take_take, Nat.min_eq_left h]
  have e : l.take j = l.take i ++ (l.take j).drop i := by rw [e1, List.take_append_drop]
  rw [e, cnt_append]; omega
theorem cnt_300 (n : Int) (l : List Int) (i : Nat) (hl : l.length ≤ 300) : SteadyMath.cnt n (l.take i) ≤ 300 := Nat.le_trans (SteadyMath.cnt_le _ _) (by simp; omega)
def pH (an bn i : Nat) : Nat := if i ≤ an then 0 else if i ≤ bn then 1 else 2
def pM (an bn i : Nat) : Nat := if i < an then 0 else if i ≤ bn then 1 else 2
def pE (an bn i : Nat) : Nat := if i < an then 0 else if i < bn then 1 else 2
theorem pH_M {an bn i : Nat} (h : i ≠ an) : pM an bn i = pH an bn i := by unfold pM pH; repeat (split <;> try omega)
theorem pM_E {an bn i : Nat} (h : i ≠ bn) : pE an bn i = pM an bn i := by unfold pM pE; repeat (split <;> try omega)
theorem pH_E {an bn i : Nat} : pH an bn (i + 1) = pE an bn i := by unfold pH pE; repeat (split <;> try omega)
theorem pE_le {an bn i : Nat} : pE an bn i = 0 ∨ pE an bn i = 1 ∨ pE an bn i = 2 := by unfold pE; repeat (split <;> try omega)
theorem pE_2 {an bn i : Nat} (h : pE an bn i ≠ 0) : an ≤ i := by unfold pE at h; split at h <;> omega
theorem right_p (p : Nat) (t a : Int) (hp : p = 0 ∨ p = 1 ∨ p = 2) (ha : 0 ≤ a) (h0 : 0 ≤ t) (h1 : t ≤ 1000) (h : p ≠ 0 → a ≤ t) : right 11 t (pk p) (pl p a) (ps p) (pa p a) = true := by
  rcases hp with rfl | rfl | rfl
  · exact right_0 t h0 h1
  · exact right_1 t a ha (h (by omega)) h1
  · exact right_2 t a ha (h (by omega)) h1
theorem pl_len (p : Nat) (a : Int) : (pl p a).length ≤ 1 := by unfold pl; split <;> simp
theorem WSt.hi {W w : World} {v : Value} {one : Bool} {lo h1 h2 : Int} (h : WSt W w v one lo h1) (hh : h1 ≤ h2) : WSt W w v one lo h2 := by
  rcases h with h | ⟨a, A, c, n0, b, d, e, f⟩
  · exact .inl h
  · exact .inr ⟨a, A, c, n0, b, d, e, Int.le_trans f hh⟩
theorem good_p (p : Nat) (t a : Int) (hp : p = 0 ∨ p = 1 ∨ p = 2) (ha : 0 ≤ a) (h8 : a + 8 ≤ t) (h1 : t ≤ 1000) : O.lease_Good.f 3000 11 t (pk p) (pl p a) (ps p) (pa p a) = some false := by
  refine good_no 11 t (pk p) (pl p a) (ps p) (pa p a) (by have := pl_len p a; omega) (right_p p t a hp ha (by omega) h1 (fun _ => by omega)) ?_ ?_ h1 ?_
  · rcases hp with rfl | rfl | rfl
    · exact .inl rfl
    · exact .inl rfl
    · exact .inr h8
  · rcases hp with rfl | rfl | rfl
    · exact Int.le_refl 0
    · exact Int.le_refl 0
    · exact ha
  · rcases hp with rfl | rfl | rfl
    · show (0 : Int) ≤ t; omega
    · show (0 : Int) ≤ t; omega
    · show a ≤ t; omega
theorem tick_p (p : Nat) (t a : Int) (hp : p = 0 ∨ p = 1 ∨ p = 2) (ha : 0 ≤ a) (h0 : 0 ≤ t) (h1 : t ≤ 1000) (h : p ≠ 0 → a ≤ t) : O.lease_Tick.f 3000 11 t (pk p) (pl p a) (ps p) (pa p a) = some (11, t + 1, pk p, pl p a, ps p, pa p a, 0) :=
  tick_f 11 t (pk p) (pl p a) (ps p) (pa p a) (by have := pl_len p a; omega) (right_p p t a hp ha h0 h1 h) h0 h1
theorem take_snocO (l : List Int) (i : Nat) (x : Int) (hx : l[i]? = some x) : l.take (i + 1) = l.take i ++ [x] := by rw [List.take_add_one, hx]; rfl
theorem cnt_take (n : Int) (l : List Int) (i : Nat) (x : Int) (hx : l[i]? = some x) : SteadyMath.cnt n (l.take (i + 1)) = SteadyMath.cnt n (l.take i) + (if x = n then 1 else 0) := by rw [take_snocO l i x hx, cnt_snoc]
theorem ns_take (l : List Int) (i : Nat) (x : Int) (hx : l[i]? = some x) (h : ∀ y ∈ l.take i, y ≠ -2 ∧ y ≠ -11) (h1 : x ≠ -2) (h2 : x ≠ -11) : ∀ y ∈ l.take (i + 1), y ≠ -2 ∧ y ≠ -11 := by
  rw [take_snocO l i x hx]
  intro y hy
  rcases List.mem_append.1 hy with hy | hy
  · exact h y hy
  · rw [List.mem_singleton] at hy; subst hy; exact ⟨h1, h2⟩
/-- The box is written over. -/
theorem HAt.put {W w w' : World} {X p q : Nat} {t t' a a' : Int} {A A' : Option Addr} {n c c' : Nat} {cs : Array Value} (hx : w.heap[X]? = some (.cells cs 29 (0, 0))) (hQ : Kd.Q O.k59 59 w W.heap.size (fun _ => True) (.slice A' (pl q a').length c') (pl q a'))
    (hb : w'.heap[X]? = some (.cells #[.int .i64 11, .int .i64 t', .int .i64 (pk q), .slice A' (pl q a').length c', .int .i64 (ps q), .int .i64 (pa q a')] 29 (0, 0))) (hg : w.grownBy w' (some X)) : HAt W w' X q t' a' := by
  refine ⟨A', c', hb, Kd.Q_mono (Kd.Q_grown (Kd.Q_types hQ hx (by decide)) hg (fun k hk e => hk.2 (by injection e))) (fun _ _ => trivial)⟩
set_option maxHeartbeats 16000000 in
set_option maxRecDepth 100000 in
theorem leaseOver_any (W : World) (A : Option Addr) (c : Nat) (l : List Int) (a b d : Int) (hr : Kd.C (Kd.int .i64) W A l.length l) (hc : l.length ≤ c) (wa : (Lit.int .i64 a).wf = true) (wb : (Lit.int .i64 b).wf = true) (wd : (Lit.int .i64 d).wf = true) :
    Calls Try.prog 8 #[.slice A l.length c, .int .i64 a, .int .i64 b, .int .i64 d] W fun e w' => e = .returned (.bool true) ∧ Below W.heap.size W w' := by
  have HR := Aside0.mk hr
  have HC := Aside0.mk hc
  clear hr hc wa wb wd
  go_enter Try.func8, Try.ntmps8
  go_upto_region 1 with fail
  go_cut [59] from 25 to 58 (fun v wc => ∃ bb : Bool, v = .bool bb ∧ Aside0 (bb = false → l.length ≤ 300 ∧ 0 ≤ a ∧ a ≤ b ∧ a ≤ d ∧ b ≤ l.length ∧ d ≤ l.length ∧ gOne l 2 = true ∧ gOne l 11 = true) ∧ Aside0 (Below W.heap.size W wc))
  case first =>
    by_cases h0 : 300 < (l.length : Int)
    · have e0 : decide (300 < (l.length : Int)) = true := decide_eq_true h0
      clear h0
      go_wp2_with fail
      go_meet
      exact ⟨true, rfl, ⟨fun h => by cases h⟩, ⟨Below.refl _ _⟩⟩
    · have e0 : decide (300 < (l.length : Int)) = false := decide_eq_false h0
      by_cases h1 : a < 0
      · have e1 : decide (a < 0) = true := decide_eq_true h1
        clear h1
        go_wp2_with fail
        go_meet
        exact ⟨true, rfl, ⟨fun h => by cases h⟩, ⟨Below.refl _ _⟩⟩
      · have e1 : decide (a < 0) = false := decide_eq_false h1
        by_cases h2 : b < a
        · have e2 : decide (b < a) = true := decide_eq_true h2
          clear h2
          go_wp2_with fail
          go_meet
          exact ⟨true, rfl, ⟨fun h => by cases h⟩, ⟨Below.refl _ _⟩⟩
        · have e2 : decide (b < a) = false := decide_eq_false h2
          by_cases h3 : d < a
          · have e3 : decide (d < a) = true := decide_eq_true h3
            clear h3
            go_wp2_with fail
            go_meet
            exact ⟨true, rfl, ⟨fun h => by cases h⟩, ⟨Below.refl _ _⟩⟩
          · have e3 : decide (d < a) = false := decide_eq_false h3
            by_cases h4 : (l.length : Int) < b
            · have e4 : decide ((l.length : Int) < b) = true := decide_eq_true h4
              clear h4
              go_wp2_with fail
              go_meet
              exact ⟨true, rfl, ⟨fun h => by cases h⟩, ⟨Below.refl _ _⟩⟩
            · have e4 : decide ((l.length : Int) < b) = false := decide_eq_false h4
              by_cases h5 : (l.length : Int) < d
              · have e5 : decide ((l.length : Int) < d) = true := decide_eq_true h5
                clear h5
                go_wp2_with fail
                go_meet
                exact ⟨true, rfl, ⟨fun h => by cases h⟩, ⟨Below.refl _ _⟩⟩
              · have e5 : decide ((l.length : Int) < d) = false := decide_eq_false h5
                have OK := Aside0.mk (show l.length ≤ 300 ∧ 0 ≤ a ∧ a ≤ b ∧ a ≤ d ∧ b ≤ l.length ∧ d ≤ l.length by omega)
                have hst := steady_two l (by omega)
                have HST := Aside0.mk hst
                clear h0 h1 h2 h3 h4 h5 hst
                go_wp2_with fail
                obtain ⟨w1, hw1⟩ : ∃ w1, w1 = W.alloc (.cells #[.int .i64 2, .int .i64 11] 3) := ⟨_, rfl⟩
                rw [← hw1]
                have HK := Aside0.mk (lit_two W w1 2 11 hw1)
                have HB1 : Aside0 (Below W.heap.size W w1) := ⟨by rw [hw1]; exact below_alloc (Below.refl _ _) _⟩
                clear hw1
                refine (O.lease_Steady.calls 5 _ 2 [2, 11] A c l _ w1 HK.out (by simp) (Kd.C_below HR.out HB1.out) HC.out HST.out).mono ?_
                rintro e w2 ⟨rfl, hb2⟩
                have HB2 : Aside0 (Below W.heap.size W w2) := ⟨below_then HB1.out HB1.out.size hb2⟩
                clear hb2
                cases hg : (gOne l 2 && gOne l 11) with
                | true =>
                  have HG := Aside0.mk hg
                  clear hg
                  go_wp2_with fail
                  go_meet
                  exact ⟨false, rfl, ⟨fun _ => by have o := OK.out; have g := HG.out; rw [Bool.and_eq_true] at g; exact ⟨o.1, o.2.1, o.2.2.1, o.2.2.2.1, o.2.2.2.2.1, o.2.2.2.2.2, g.1, g.2⟩⟩, HB2⟩
                | false =>
                  go_wp2_with fail
                  go_meet
                  exact ⟨true, rfl, ⟨fun h => by cases h⟩, HB2⟩
  case rest =>
    obtain ⟨bb, rfl, HOK, HB⟩ := hcut
    cases bb with
    | true =>
      go_wp2_with fail
      refine (O.folkmootlaw20_steady.calls 20 true wc steady_20).mono ?_
      rintro e t1 ⟨rfl, hbt1⟩
      have HT1 := Aside0.mk (below_then HB.out HB.out.size hbt1)
      clear hbt1
      go_wp2_with fail
      refine (O.folkmootlaw20_good.calls 60 true t1 good_60).mono ?_
      rintro e t2 ⟨rfl, hbt2⟩
      have HT2 := Aside0.mk (below_then HT1.out HT1.out.size hbt2)
      clear hbt2
      go_wp2_with fail
      refine (watches_any t2).mono ?_
      rintro e t3 ⟨rfl, hbt3⟩
      have HT3 := Aside0.mk (below_then HT2.out HT2.out.size hbt3)
      clear hbt3
      go_wp2
      go_ret
      exact ⟨rfl, HT3.out⟩
    | false =>
      obtain ⟨o1, o2, o3, o4, o5, o6, g2, g11⟩ := HOK.out rfl
      obtain ⟨an, rfl⟩ := Int.eq_ofNat_of_zero_le o2
      obtain ⟨bn, rfl⟩ := Int.eq_ofNat_of_zero_le (Int.le_trans o2 o3)
      obtain ⟨dn, rfl⟩ := Int.eq_ofNat_of_zero_le (Int.le_trans o2 o4)
      have hl300 : l.length ≤ 300 := o1
      have hab : an ≤ bn := by omega
      have had : an ≤ dn := by omega
      have hbl : bn ≤ l.length := by omega
      have hdl : dn ≤ l.length := by omega
      have RS2 : Aside0 (rs 2 true l = true) := ⟨by unfold gOne at g2; rw [Bool.and_eq_true] at g2; rw [← grun_eq 2 (by omega)]; exact g2.2⟩
      have RS11 : Aside0 (rs 11 true l = true) := ⟨by unfold gOne at g11; rw [Bool.and_eq_true] at g11; rw [← grun_eq 11 (by omega)]; exact g11.2⟩
      have HABD := Aside0.mk (And.intro hab (And.intro had (And.intro hbl hdl)))
      clear o1 o2 o3 o4 o5 o6 g2 g11 HOK hab had hbl hdl
      go_wp2_with fail
      refine (O.folkmootlaw20_one.calls 11 0 0 [] 0 0 wc ?_).mono ?_
      · kernel_rfl
      rintro e w3 ⟨v3, rfl, hR3, hb3⟩
      obtain ⟨A3, c3, rfl, hc3, _⟩ := Kd.R_reads hR3
      go_upto_region 4 with fail
      generalize hw4 : World.alloc w3 _ = w4
      have hb4 : Below w3.heap.size w3 w4 := by rw [← hw4]; exact below_alloc (Below.refl _ _) _
      have hx4 : w4.heap[w3.heap.size]? = some (.cells #[.int .i64 11, .int .i64 0, .int .i64 0, .slice A3 0 c3, .int .i64 0, .int .i64 0] 29 (0, 0)) := by rw [← hw4]; exact blk_new w3 _
      have HB3 := Aside0.mk (below_then HB.out HB.out.size hb3)
      have HB4 := Aside0.mk (below_then HB3.out HB3.out.size hb4)
      have HXW0 := Aside0.mk HB3.out.size
      have HH4 : Aside0 (HAt W w4 w3.heap.size (pH an bn 0) (SteadyMath.cnt 11 (l.take 0) : Nat) (SteadyMath.cnt 11 (l.take an) : Nat)) := ⟨⟨A3, c3, hx4, Kd.Q_below (Kd.Q_of_R (Kd.R_lower (Kd.R_mono hR3 (fun _ _ => trivial)) HB.out.size)) hb4⟩⟩
      clear hw4 hb4 hx4 hR3 hb3 hc3 HB HB3
      have HXW : Aside0 (W.heap.size ≤ w3.heap.size) := ⟨HXW0.out⟩
      generalize w3.heap.size = X at *
      go_wp2_with fail
      go_loopw [10, 11, 12, 13] (fun v10 v11 v12 v13 wr => ∃ (i : Nat) (ov : Bool) (vv : Value), vv = v10 ∧ v13 = .int .i64 i ∧ i ≤ l.length ∧ v11 = .int .i64 (SteadyMath.cnt 2 (l.take i) : Nat) ∧ v12 = .bool ov ∧ Aside0 (ov = true → SteadyMath.cnt 2 (l.take dn) + 36 ≤ SteadyMath.cnt 2 (l.take i)) ∧ Aside0 (WSt W wr vv (decide (dn < i)) (SteadyMath.cnt 2 (l.take dn) : Nat) (SteadyMath.cnt 2 (l.take i) : Nat)) ∧ Aside0 (HAt W wr X (pH an bn i) (SteadyMath.cnt 11 (l.take i) : Nat) (SteadyMath.cnt 11 (l.take an) : Nat)) ∧ Aside0 (Below W.heap.size W wr) ∧ Aside0 (∀ x ∈ l.take i, x ≠ -2 ∧ x ≠ -11)) (fun _ _ _ v13 _ => l.length + 1 - (intOf v13).toNat)
      case atStart => exact ⟨0, false, _, rfl, rfl, Nat.zero_le _, rfl, rfl, ⟨fun h => by cases h⟩, ⟨.inl ⟨by simp, none, 0, rfl⟩⟩, HH4, HB4, ⟨fun x hx => by simp at hx⟩⟩
      case round =>
        obtain ⟨i, ov, vv, rfl, rfl, hi, rfl, rfl, HOV, HWS, HH, HB, HNS⟩ := hrel
        have hn2 : SteadyMath.cnt 2 (l.take i) ≤ 300 := cnt_300 _ _ _ hl300
        have hn11 : SteadyMath.cnt 11 (l.take i) ≤ 300 := cnt_300 _ _ _ hl300
        have hd0 : decide ((i : Int) ≤ (l.length : Int)) = true := decide_eq_true (by omega)
        go_upto_if 76 with fail
        go_cut [] from 68 to 163 (fun wc => Aside0 (HAt W wc X (pM an bn i) (SteadyMath.cnt 11 (l.take i) : Nat) (SteadyMath.cnt 11 (l.take an) : Nat)) ∧ Aside0 (WSt W wc vv (decide (dn < i)) (SteadyMath.cnt 2 (l.take dn) : Nat) (SteadyMath.cnt 2 (l.take i) : Nat)) ∧ Aside0 (Below W.heap.size W wc))
        case first =>
          by_cases hia : i = an
          · have hd : ((i : Int) == (an : Int)) = true := by rw [hia]; exact beq_self_eq_true _
            have hd' : (i == an) = true := by rw [hia]; exact beq_self_eq_true _
            have HIA := Aside0.mk hia
            have hH := HH.out
            rw [show pH an bn i = 0 by unfold pH; rw [if_pos (by omega)]] at hH
            obtain ⟨A5, c5, hx5, hq5⟩ := hH
            have HX5 : Aside0 (wr.heap[X]? = some (.cells #[.int .i64 11, .int .i64 (SteadyMath.cnt 11 (l.take i) : Nat), .int .i64 0, .slice A5 0 c5, .int .i64 0, .int .i64 0] 29 (0, 0))) := ⟨hx5⟩
            have HQ5 : Aside0 (Kd.Q O.k59 59 wr W.heap.size (fun _ => True) (.slice A5 0 c5) []) := ⟨hq5⟩
            clear hx5 hq5 hia HH
            obtain ⟨x0, x1, x2, x3, x4, x5⟩ := six HX5.out
            obtain ⟨qq0, hcq, hkq⟩ := Kd.Q_reads' HQ5.out
            have HCQ := Aside0.mk hcq
            have HKQ := Aside0.mk hkq
            clear qq0 hcq hkq
            generalize hT : SteadyMath.cnt 11 (l.take i) = T at *
            have HT := Aside0.mk hT
            clear hT
            go_wp2_with fail
            refine (O.lease_Ask.calls 3000 11 (T : Int) 0 A5 c5 [] 0 0 _ _ _ _ _ _ _ _ wr HKQ.out HCQ.out (ask_0 (T : Int) (by omega) (by omega))).mono ?_
            rintro e w5 ⟨v5, rfl, hQ6, hb5⟩
            obtain ⟨A6, c6, rfl, hc6⟩ := Kd.Q_slice hQ6
            go_upto_region 12 with fail
            generalize hw6 : World.alloc w5 _ = w6
            have hb6 : Below w5.heap.size w5 w6 := by rw [← hw6]; exact below_alloc (Below.refl _ _) _
            have hz6 : w6.heap[w5.heap.size]? = some (.cells #[.int .i64 11, .int .i64 (T : Int), .int .i64 1, .slice A6 1 c6, .int .i64 0, .int .i64 0] 29 (0, 0)) := by rw [← hw6]; exact blk_new w5 _
            have HX6 := Aside0.mk (blk_below (blk_below HX5.out hb5) hb6)
            have HQ6 : Aside0 (Kd.Q O.k59 59 w6 W.heap.size (fun _ => True) (.slice A6 1 c6) [⟨1, (T : Int)⟩]) := ⟨Kd.Q_below (Kd.Q_lower hQ6 HB.out.size) hb6⟩
            have HWS6 := Aside0.mk ((HWS.out.below hb5).below hb6)
            have HB5 := Aside0.mk (below_then HB.out HB.out.size hb5)
            have HB6 := Aside0.mk (below_then HB5.out HB5.out.size hb6)
            have HZ6 := Aside0.mk hz6
            clear hw6 hb6 hz6 hb5 hc6 hQ6 HWS HB HB5 HX5 HQ5 x0 x1 x2 x3 x4 x5
            generalize w5.heap.size = Z at *
            obtain ⟨z0, z1, z2, z3, z4, z5⟩ := six HZ6.out
            go_wp2_with (first
              | ((with_reducible refine gate_store (t := 29) (p := 9) rfl ?_); refine store_blk rfl rfl 29 (.tmp 9) (.tmp 89) rfl (#[.int .i64 11, .int .i64 (T : Int), .int .i64 1, .slice A6 1 c6, .int .i64 0, .int .i64 0]) rfl rfl rfl HX6.out (by kernel_rfl) rfl (by intro q hq; simp at hq; rcases hq with rfl | rfl | rfl | rfl | rfl | rfl <;> rfl) ?_; intro w7 hb7 hg7; have HB7 := Aside0.mk hb7; have HG7 := Aside0.mk hg7; clear hb7 hg7))
            go_meet
            refine ⟨⟨?_⟩, ⟨HWS6.out.box HX6.out HG7.out⟩, ⟨HB6.out.grown HG7.out HB6.out.size (fun k hk => by injection hk with hk; subst hk; exact HXW.out)⟩⟩
            have e1 : pM an bn i = 1 := by have := HIA.out; have := HABD.out; unfold pM; rw [if_neg (by omega), if_pos (by omega)]
            have e2 : (SteadyMath.cnt 11 (l.take an) : Nat) = T := by rw [← HIA.out]; exact HT.out
            rw [e1, e2]
            exact HAt.put (q := 1) (a' := (T : Int)) (a := 0) (p := 0) (t := 0) (A := none) (n := 0) (c := 0) HX6.out HQ6.out HB7.out HG7.out
          · have hd : ((i : Int) == (an : Int)) = false := beq_eq_false_iff_ne.2 (by omega)
            have hd' : (i == an) = false := beq_eq_false_iff_ne.2 hia
            have e1 := Aside0.mk (pH_M (bn := bn) hia)
            clear hia
            go_wp2_with fail
            go_meet
            exact ⟨by rw [e1.out]; exact HH, HWS, HB⟩
        case rest =>
          obtain ⟨HH1, HWS1, HB1⟩ := hcut
          clear HH HWS HB
          go_upto_if 92 with fail
          go_cut [] from 68 to 163 (fun wc => Aside0 (HAt W wc X (pE an bn i) (SteadyMath.cnt 11 (l.take i) : Nat) (SteadyMath.cnt 11 (l.take an) : Nat)) ∧ Aside0 (WSt W wc vv (decide (dn < i)) (SteadyMath.cnt 2 (l.take dn) : Nat) (SteadyMath.cnt 2 (l.take i) : Nat)) ∧ Aside0 (Below W.heap.size W wc))
          case first =>
            obtain ⟨wr, hwr⟩ : ∃ wr, wr = wc := ⟨_, rfl⟩
            subst hwr
            by_cases hia : i = bn
            · have hd : ((i : Int) == (bn : Int)) = true := by rw [hia]; exact beq_self_eq_true _
              have hd' : (i == bn) = true := by rw [hia]; exact beq_self_eq_true _
              have HIA := Aside0.mk hia
              have hH := HH1.out
              have hmo : SteadyMath.cnt 11 (l.take an) ≤ SteadyMath.cnt 11 (l.take i) := cnt_mono 11 l (by have := HABD.out; omega)
              rw [show pM an bn i = 1 by have := HABD.out; unfold pM; rw [if_neg (by omega), if_pos (by omega)]] at hH
              generalize hU : SteadyMath.cnt 11 (l.take an) = U at *
              obtain ⟨A5, c5, hx5, hq5⟩ := hH
              have HX5 : Aside0 (wr.heap[X]? = some (.cells #[.int .i64 11, .int .i64 (SteadyMath.cnt 11 (l.take i) : Nat), .int .i64 1, .slice A5 1 c5, .int .i64 0, .int .i64 0] 29 (0, 0))) := ⟨hx5⟩
              have HQ5 : Aside0 (Kd.Q O.k59 59 wr W.heap.size (fun _ => True) (.slice A5 1 c5) [⟨1, (U : Int)⟩]) := ⟨hq5⟩
              clear hx5 hq5 hia HH1
              obtain ⟨x0, x1, x2, x3, x4, x5⟩ := six HX5.out
              obtain ⟨qq0, hcq, hkq⟩ := Kd.Q_reads' HQ5.out
              have HCQ := Aside0.mk hcq
              have HKQ := Aside0.mk hkq
              clear qq0 hcq hkq hU
              generalize hT : SteadyMath.cnt 11 (l.take i) = T at *
              clear hT
              go_wp2_with fail
              refine (O.lease_Take.calls 3000 11 (T : Int) 1 A5 c5 [⟨1, (U : Int)⟩] 0 0 1 7 _ _ _ _ _ _ _ _ wr HKQ.out HCQ.out (take_1 (T : Int) (U : Int) (by omega) (by omega) (by omega))).mono ?_
              rintro e w5 ⟨v5, rfl, hQ6, hb5⟩
              obtain ⟨A6, c6, rfl, hc6⟩ := Kd.Q_slice hQ6
              go_upto_region 17 with fail
              generalize hw6 : World.alloc w5 _ = w6
              have hb6 : Below w5.heap.size w5 w6 := by rw [← hw6]; exact below_alloc (Below.refl _ _) _
              have hz6 : w6.heap[w5.heap.size]? = some (.cells #[.int .i64 11, .int .i64 (T : Int), .int .i64 1, .slice A6 0 c6, .int .i64 7, .int .i64 (U : Int)] 29 (0, 0)) := by rw [← hw6]; exact blk_new w5 _
              have HX6 := Aside0.mk (blk_below (blk_below HX5.out hb5) hb6)
              have HQ6 : Aside0 (Kd.Q O.k59 59 w6 W.heap.size (fun _ => True) (.slice A6 0 c6) []) := ⟨Kd.Q_below (Kd.Q_lower hQ6 HB1.out.size) hb6⟩
              have HWS6 := Aside0.mk ((HWS1.out.below hb5).below hb6)
              have HB5 := Aside0.mk (below_then HB1.out HB1.out.size hb5)
              have HB6 := Aside0.mk (below_then HB5.out HB5.out.size hb6)
              have HZ6 := Aside0.mk hz6
              clear hw6 hb6 hz6 hb5 hc6 hQ6 HWS1 HB1 HB5 HX5 HQ5 x0 x1 x2 x3 x4 x5
              generalize w5.heap.size = Z at *
              obtain ⟨z0, z1, z2, z3, z4, z5⟩ := six HZ6.out
              go_wp2_with (first
                | ((with_reducible refine gate_store (t := 29) (p := 9) rfl ?_); refine store_blk rfl rfl 29 (.tmp 9) (.tmp 105) rfl (#[.int .i64 11, .int .i64 (T : Int), .int .i64 1, .slice A6 0 c6, .int .i64 7, .int .i64 (U : Int)]) rfl rfl rfl HX6.out (by kernel_rfl) rfl (by intro q hq; simp at hq; rcases hq with rfl | rfl | rfl | rfl | rfl | rfl <;> rfl) ?_; intro w7 hb7 hg7; have HB7 := Aside0.mk hb7; have HG7 := Aside0.mk hg7; clear hb7 hg7))
              go_meet
              refine ⟨⟨?_⟩, ⟨HWS6.out.box HX6.out HG7.out⟩, ⟨HB6.out.grown HG7.out HB6.out.size (fun k hk => by injection hk with hk; subst hk; exact HXW.out)⟩⟩
              have e1 : pE an bn i = 2 := by have := HIA.out; have := HABD.out; unfold pE; rw [if_neg (by omega), if_neg (by omega)]
              rw [e1]
              exact HAt.put (q := 2) (a' := (U : Int)) (a := 0) (p := 0) (t := 0) (A := none) (n := 0) (c := 0) HX6.out HQ6.out HB7.out HG7.out
            · have hd : ((i : Int) == (bn : Int)) = false := beq_eq_false_iff_ne.2 (by omega)
              have hd' : (i == bn) = false := beq_eq_false_iff_ne.2 hia
              have e1 := Aside0.mk (pM_E (an := an) hia)
              clear hia
              go_wp2_with fail
              go_meet
              exact ⟨by rw [e1.out]; exact HH1, HWS1, HB1⟩
          case rest =>
            obtain ⟨HH2, HWS2, HB2⟩ := hcut
            clear HH1 HWS1 HB1
            go_upto_if 108 with fail
            go_cut [10, 12] from 68 to 163 (fun v10 v12 wc => ∃ (v' : Value) (ov' : Bool), v' = v10 ∧ v12 = .bool ov' ∧ Aside0 (ov' = true → SteadyMath.cnt 2 (l.take dn) + 36 ≤ SteadyMath.cnt 2 (l.take i) ∧ dn ≤ i) ∧ Aside0 (HAt W wc X (pE an bn i) (SteadyMath.cnt 11 (l.take i) : Nat) (SteadyMath.cnt 11 (l.take an) : Nat)) ∧ Aside0 (WSt W wc v' (decide (dn < i + 1)) (SteadyMath.cnt 2 (l.take dn) : Nat) (SteadyMath.cnt 2 (l.take i) : Nat)) ∧ Aside0 (Below W.heap.size W wc))
            case first =>
              by_cases hid : dn ≤ i
              · have hd : decide ((dn : Int) ≤ (i : Int)) = true := decide_eq_true (by omega)
                have hd1 : decide (dn ≤ i) = true := decide_eq_true hid
                have HID := Aside0.mk hid
                have hmd : SteadyMath.cnt 2 (l.take dn) ≤ SteadyMath.cnt 2 (l.take i) := cnt_mono 2 l hid
                have e1 : Aside0 (decide (dn < i + 1) = true) := ⟨decide_eq_true (by omega)⟩
                generalize hN : SteadyMath.cnt 2 (l.take i) = N2 at *
                generalize hM : SteadyMath.cnt 2 (l.take dn) = M2 at *
                have HNM := Aside0.mk (And.intro hN hM)
                clear hN hM
                rcases HWS2.out with ⟨hone, A8, c8, hv8⟩ | ⟨hone, A8, c8, n0, hv8, hR8, hlo, hhi⟩
                · have HE : Aside0 (dn = i) := ⟨by have h1 := of_decide_eq_false hone; have := HID.out; omega⟩
                  subst hv8
                  clear hone HWS2
                  go_wp2_with fail
                  generalize hw5 : World.alloc wc _ = w5
                  have HL5 := Aside0.mk (lease_lit hw5.symm)
                  have hb5 : Below wc.heap.size wc w5 := by rw [← hw5]; exact below_alloc (Below.refl _ _) _
                  have HB5 := Aside0.mk (below_then HB2.out HB2.out.size hb5)
                  have HH5 := Aside0.mk (HH2.out.below hb5)
                  clear hw5 hb5 HB2 HH2
                  refine (watch_E w5 A8 c8 0 7 0 (N2 : Int) 11 1 0 _ 1 1 rfl rfl HL5.out (by omega) (by omega) (by omega) (by omega) (by omega)).mono ?_
                  rintro e w6 ⟨A9, c9, A10, c10, rfl, hW6, hR6, hb6⟩
                  have HH6 := Aside0.mk (HH5.out.below hb6)
                  have HB6 := Aside0.mk (below_then HB5.out HB5.out.size hb6)
                  have HW6 : Aside0 (WSt W w6 (.slice A9 1 c9) true (M2 : Int) (N2 : Int)) := ⟨.inr ⟨rfl, A9, c9, (N2 : Int), rfl, own_weaken hW6 HB5.out.size, by omega, by omega⟩⟩
                  have HOV' : Aside0 (ov = true → M2 + 36 ≤ N2 ∧ dn ≤ i) := ⟨fun h => ⟨HOV.out h, HID.out⟩⟩
                  clear hW6 hR6 hb6 HH5 HB5 HL5
                  cases ov with
                  | true =>
                    go_wp2_with fail
                    go_meet
                    exact ⟨_, true, rfl, rfl, (by first | exact HOV' | exact ⟨fun _ => HOV'.out (by trivial)⟩ | exact ⟨fun _ => HOV'.out⟩ | exact ⟨fun h => by cases h⟩), HH6, by rw [e1.out]; exact HW6, HB6⟩
                  | false =>
                    go_wp2_with fail
                    go_meet
                    exact ⟨_, false, rfl, rfl, (by first | exact HOV' | exact ⟨fun _ => HOV'.out (by trivial)⟩ | exact ⟨fun _ => HOV'.out⟩ | exact ⟨fun h => by cases h⟩), HH6, by rw [e1.out]; exact HW6, HB6⟩
                · subst hv8
                  by_cases h36 : (N2 : Int) - n0 < 36
                  · have HR8 := Aside0.mk hR8.at2
                    clear hone HWS2 hR8
                    go_wp2_with fail
                    generalize hw5 : World.alloc wc _ = w5
                    have HL5 := Aside0.mk (lease_lit hw5.symm)
                    have hb5 : Below wc.heap.size wc w5 := by rw [← hw5]; exact below_alloc (Below.refl _ _) _
                    have HR5 := Aside0.mk (HR8.out.below hb5)
                    have HB5 := Aside0.mk (below_then HB2.out HB2.out.size hb5)
                    have HH5 := Aside0.mk (HH2.out.below hb5)
                    clear hw5 hb5 HB2 HH2 HR8
                    refine (watch_N w5 A8 c8 1 7 n0 (N2 : Int) 11 1 0 _ 1 1 rfl HR5.out rfl HL5.out (by omega) (by omega) (by omega) (by omega) (by omega) h36).mono ?_
                    rintro e w6 ⟨A9, c9, A10, c10, rfl, hW6, hR6, hb6⟩
                    have HH6 := Aside0.mk (HH5.out.below hb6)
                    have HB6 := Aside0.mk (below_then HB5.out HB5.out.size hb6)
                    have HW6 : Aside0 (WSt W w6 (.slice A9 1 c9) true (M2 : Int) (N2 : Int)) := ⟨.inr ⟨rfl, A9, c9, n0, rfl, own_weaken hW6 HB5.out.size, by omega, by omega⟩⟩
                    have HOV' : Aside0 (ov = true → M2 + 36 ≤ N2 ∧ dn ≤ i) := ⟨fun h => ⟨HOV.out h, HID.out⟩⟩
                    clear hW6 hR6 hb6 HH5 HB5 HL5 HR5 h36
                    cases ov with
                    | true =>
                      go_wp2_with fail
                      go_meet
                      exact ⟨_, true, rfl, rfl, (by first | exact HOV' | exact ⟨fun _ => HOV'.out (by trivial)⟩ | exact ⟨fun _ => HOV'.out⟩ | exact ⟨fun h => by cases h⟩), HH6, by rw [e1.out]; exact HW6, HB6⟩
                    | false =>
                      go_wp2_with fail
                      go_meet
                      exact ⟨_, false, rfl, rfl, (by first | exact HOV' | exact ⟨fun _ => HOV'.out (by trivial)⟩ | exact ⟨fun _ => HOV'.out⟩ | exact ⟨fun h => by cases h⟩), HH6, by rw [e1.out]; exact HW6, HB6⟩
                  · have HR8 := Aside0.mk hR8.at2
                    clear hone HWS2 hR8
                    go_wp2_with fail
                    generalize hw5 : World.alloc wc _ = w5
                    have HL5 := Aside0.mk (lease_lit hw5.symm)
                    have hb5 : Below wc.heap.size wc w5 := by rw [← hw5]; exact below_alloc (Below.refl _ _) _
                    have HR5 := Aside0.mk (HR8.out.below hb5)
                    have HB5 := Aside0.mk (below_then HB2.out HB2.out.size hb5)
                    have HH5 := Aside0.mk (HH2.out.below hb5)
                    clear hw5 hb5 HB2 HH2 HR8
                    refine (watch_D w5 A8 c8 1 7 n0 (N2 : Int) 11 1 0 _ 1 1 rfl HR5.out rfl HL5.out (by omega) (by omega) (by omega) (by omega) (by omega) (by omega)).mono ?_
                    rintro e w6 ⟨A9, c9, A10, c10, rfl, hW6, hR6, hb6⟩
                    have HH6 := Aside0.mk (HH5.out.below hb6)
                    have HB6 := Aside0.mk (below_then HB5.out HB5.out.size hb6)
                    have HW6 : Aside0 (WSt W w6 (.slice A9 1 c9) true (M2 : Int) (N2 : Int)) := ⟨.inr ⟨rfl, A9, c9, (N2 : Int), rfl, own_weaken hW6 HB5.out.size, by omega, by omega⟩⟩
                    have HOV' : Aside0 (true = true → M2 + 36 ≤ N2 ∧ dn ≤ i) := ⟨fun h => ⟨by omega, HID.out⟩⟩
                    clear hW6 hR6 hb6 HH5 HB5 HL5 HR5 h36
                    cases ov with
                    | true =>
                      go_wp2_with fail
                      go_meet
                      exact ⟨_, true, rfl, rfl, (by first | exact HOV' | exact ⟨fun _ => HOV'.out (by trivial)⟩ | exact ⟨fun _ => HOV'.out⟩ | exact ⟨fun h => by cases h⟩), HH6, by rw [e1.out]; exact HW6, HB6⟩
                    | false =>
                      go_wp2_with fail
                      go_meet
                      exact ⟨_, true, rfl, rfl, (by first | exact HOV' | exact ⟨fun _ => HOV'.out (by trivial)⟩ | exact ⟨fun _ => HOV'.out⟩ | exact ⟨fun h => by cases h⟩), HH6, by rw [e1.out]; exact HW6, HB6⟩
              · have hd : decide ((dn : Int) ≤ (i : Int)) = false := decide_eq_false (by omega)
                have hd1 : decide (dn ≤ i) = false := decide_eq_false hid
                have e1 : Aside0 (decide (dn < i + 1) = decide (dn < i)) := ⟨decide_eq_decide.2 (by omega)⟩
                have HOV' : Aside0 (ov = true → SteadyMath.cnt 2 (l.take dn) + 36 ≤ SteadyMath.cnt 2 (l.take i) ∧ dn ≤ i) := ⟨fun h => by have := HOV.out h; have := cnt_mono 2 l (show i ≤ dn by omega); omega⟩
                go_wp2_with fail
                go_meet
                exact ⟨_, ov, rfl, rfl, (by first | exact HOV' | exact ⟨fun _ => HOV'.out (by trivial)⟩ | exact ⟨fun _ => HOV'.out⟩ | exact ⟨fun h => by cases h⟩), HH2, by rw [e1.out]; exact HWS2, HB2⟩
            case rest =>
              obtain ⟨v', ov', rfl, rfl, HOV3, HH3, HWS3, HB3⟩ := hcut
              clear HH2 HWS2 HB2 HOV
              go_upto_region 26 with fail
              go_cut [131] from 68 to 163 (fun v131 wc => v131 = .bool false ∧ Aside0 (HAt W wc X (pE an bn i) (SteadyMath.cnt 11 (l.take i) : Nat) (SteadyMath.cnt 11 (l.take an) : Nat)) ∧ Aside0 (WSt W wc v' (decide (dn < i + 1)) (SteadyMath.cnt 2 (l.take dn) : Nat) (SteadyMath.cnt 2 (l.take i) : Nat)) ∧ Aside0 (Below W.heap.size W wc))
              case first =>
                cases ov' with
                | false =>
                  go_wp2_with fail
                  go_meet
                  exact ⟨rfl, HH3, HWS3, HB3⟩
                | true =>
                  have hov := HOV3.out (by trivial)
                  have h8 : SteadyMath.cnt 11 (l.take an) + 8 ≤ SteadyMath.cnt 11 (l.take i) := over_late l RS2.out RS11.out an dn i HABD.out.2.1 hov.2 hi HNS.out hov.1
                  clear hov
                  obtain ⟨A5, c5, hx5, hq5⟩ := HH3.out
                  have hpp : pE an bn i = 0 ∨ pE an bn i = 1 ∨ pE an bn i = 2 := pE_le
                  have HG := Aside0.mk (good_p (pE an bn i) (SteadyMath.cnt 11 (l.take i) : Nat) (SteadyMath.cnt 11 (l.take an) : Nat) hpp (by omega) (by omega) (by omega))
                  have HX5 := Aside0.mk hx5
                  have HQ5 := Aside0.mk hq5
                  clear hx5 hq5 hpp h8
                  obtain ⟨x0, x1, x2, x3, x4, x5⟩ := six HX5.out
                  obtain ⟨qq0, hcq, hkq⟩ := Kd.Q_reads' HQ5.out
                  have HCQ := Aside0.mk hcq
                  have HKQ := Aside0.mk hkq
                  clear qq0 hcq hkq
                  go_wp2_with fail
                  refine (O.lease_Good.calls 3000 11 (SteadyMath.cnt 11 (l.take i) : Nat) _ A5 c5 _ _ _ false wc HKQ.out HCQ.out HG.out).mono ?_
                  rintro e w5 ⟨rfl, hb5⟩
                  have HB5 := Aside0.mk (below_then HB3.out HB3.out.size hb5)
                  have HH5 := Aside0.mk (HH3.out.below hb5)
                  have HWS5 := Aside0.mk (HWS3.out.below hb5)
                  clear hb5 HB3 HH3 HWS3 HX5 HQ5 HCQ HKQ HG x0 x1 x2 x3 x4 x5
                  go_wp2_with fail
                  go_meet
                  exact ⟨rfl, HH5, HWS5, HB5⟩
              case rest =>
                obtain ⟨rfl, HH5, HWS5, HB5⟩ := hcut
                clear HH3 HWS3 HB3
                by_cases hil : i = l.length
                · have hd : ((i : Int) == (l.length : Int)) = true := by rw [hil]; exact beq_self_eq_true _
                  have hd' : (i == l.length) = true := by rw [hil]; exact beq_self_eq_true _
                  clear hil HOV3 HH5 HWS5 HNS
                  go_wp2_with fail
                  refine (O.folkmootlaw20_steady.calls 20 true wc steady_20).mono ?_
                  rintro e t1 ⟨rfl, hbt1⟩
                  have HT1 := Aside0.mk (below_then HB5.out HB5.out.size hbt1)
                  clear hbt1
                  go_wp2_with fail
                  refine (O.folkmootlaw20_good.calls 60 true t1 good_60).mono ?_
                  rintro e t2 ⟨rfl, hbt2⟩
                  have HT2 := Aside0.mk (below_then HT1.out HT1.out.size hbt2)
                  clear hbt2
                  go_wp2_with fail
                  refine (watches_any t2).mono ?_
                  rintro e t3 ⟨rfl, hbt3⟩
                  have HT3 := Aside0.mk (below_then HT2.out HT2.out.size hbt3)
                  clear hbt3
                  go_wp2
                  go_ret
                  exact ⟨rfl, HT3.out⟩
                · have hil2 : i < l.length := by omega
                  have hd : ((i : Int) == (l.length : Int)) = false := beq_eq_false_iff_ne.2 (by omega)
                  have hd' : (i == l.length) = false := beq_eq_false_iff_ne.2 hil
                  clear hil
                  obtain ⟨x, hx⟩ : ∃ x, l[i]? = some x := ⟨l[i], List.getElem?_eq_getElem hil2⟩
                  obtain ⟨ad, rfl, c0⟩ := row_at HR.out HB5.out hx
                  have HX := Aside0.mk hx
                  have H2 := Aside0.mk (cnt_take 2 l i x hx)
                  have H11 := Aside0.mk (cnt_take 11 l i x hx)
                  clear hx
                  have HOV4 : Aside0 (ov' = true → SteadyMath.cnt 2 (l.take dn) + 36 ≤ SteadyMath.cnt 2 (l.take (i + 1))) := ⟨fun h => Nat.le_trans (HOV3.out h).1 (cnt_mono 2 l (Nat.le_succ i))⟩
                  have HWS6 : Aside0 (WSt W wc v' (decide (dn < i + 1)) (SteadyMath.cnt 2 (l.take dn) : Nat) (SteadyMath.cnt 2 (l.take (i + 1)) : Nat)) := ⟨HWS5.out.hi (by have := cnt_mono 2 l (show i ≤ i + 1 by omega); omega)⟩
                  clear HOV3 HWS5
                  by_cases h11 : x = 11
                  · subst h11
                    have hle : pE an bn i ≠ 0 → SteadyMath.cnt 11 (l.take an) ≤ SteadyMath.cnt 11 (l.take i) := fun h => cnt_mono 11 l (pE_2 h)
                    have HG := Aside0.mk (tick_p (pE an bn i) (SteadyMath.cnt 11 (l.take i) : Nat) (SteadyMath.cnt 11 (l.take an) : Nat) pE_le (by omega) (by omega) (by omega) (fun h => by have := hle h; omega))
                    clear hle
                    obtain ⟨A5, c5, hx5, hq5⟩ := HH5.out
                    have HX5 := Aside0.mk hx5
                    have HQ5 := Aside0.mk hq5
                    clear hx5 hq5
                    obtain ⟨x0, x1, x2, x3, x4, x5⟩ := six HX5.out
                    obtain ⟨qq0, hcq, hkq⟩ := Kd.Q_reads' HQ5.out
                    have HCQ := Aside0.mk hcq
                    have HKQ := Aside0.mk hkq
                    clear qq0 hcq hkq HH5
                    go_wp2_with fail
                    refine (O.lease_Tick.calls 3000 11 (SteadyMath.cnt 11 (l.take i) : Nat) _ A5 c5 _ _ _ _ _ _ _ _ _ _ wc HKQ.out HCQ.out HG.out).mono ?_
                    rintro e w5 ⟨v5, rfl, hR6, hb5⟩
                    obtain ⟨A6, c6, rfl, hc6, hk6⟩ := Kd.R_reads hR6
                    go_upto_region 32 with fail
                    generalize hw6 : World.alloc w5 _ = w6
                    have hb6 : Below w5.heap.size w5 w6 := by rw [← hw6]; exact below_alloc (Below.refl _ _) _
                    have hz6 : w6.heap[w5.heap.size]? = some (.cells #[.int .i64 11, .int .i64 ((SteadyMath.cnt 11 (l.take i) : Nat) + 1), .int .i64 (pk (pE an bn i)), .slice A6 (pl (pE an bn i) (SteadyMath.cnt 11 (l.take an) : Nat)).length c6, .int .i64 (ps (pE an bn i)), .int .i64 (pa (pE an bn i) (SteadyMath.cnt 11 (l.take an) : Nat))] 29 (0, 0)) := by rw [← hw6]; exact blk_new w5 _
                    have HX6 := Aside0.mk (blk_below (blk_below HX5.out hb5) hb6)
                    have HQ6 : Aside0 (Kd.Q O.k59 59 w6 W.heap.size (fun _ => True) (.slice A6 (pl (pE an bn i) (SteadyMath.cnt 11 (l.take an) : Nat)).length c6) (pl (pE an bn i) (SteadyMath.cnt 11 (l.take an) : Nat))) := ⟨Kd.Q_below (Kd.Q_of_R (Kd.R_lower (Kd.R_mono hR6 (fun _ _ => trivial)) HB5.out.size)) hb6⟩
                    have HWS7 := Aside0.mk ((HWS6.out.below hb5).below hb6)
                    have HB6 := Aside0.mk (below_then HB5.out HB5.out.size hb5)
                    have HB7 := Aside0.mk (below_then HB6.out HB6.out.size hb6)
                    have HZ6 := Aside0.mk hz6
                    clear hw6 hb6 hz6 hb5 hc6 hk6 hR6 HWS6 HB5 HB6 HX5 HQ5 HG HCQ HKQ x0 x1 x2 x3 x4 x5 c0
                    generalize w5.heap.size = Z at *
                    obtain ⟨z0, z1, z2, z3, z4, z5⟩ := six HZ6.out
                    go_wp2_with (first
                      | ((with_reducible refine gate_store (t := 29) (p := 9) rfl ?_); refine store_blk rfl rfl 29 (.tmp 9) (.tmp 149) rfl (#[.int .i64 11, .int .i64 ((SteadyMath.cnt 11 (l.take i) : Nat) + 1), .int .i64 (pk (pE an bn i)), .slice A6 (pl (pE an bn i) (SteadyMath.cnt 11 (l.take an) : Nat)).length c6, .int .i64 (ps (pE an bn i)), .int .i64 (pa (pE an bn i) (SteadyMath.cnt 11 (l.take an) : Nat))]) rfl rfl rfl HX6.out (by kernel_rfl) rfl (by intro q hq; simp at hq; rcases hq with rfl | rfl | rfl | rfl | rfl | rfl <;> rfl) ?_; intro w7 hb7 hg7; have HY7 := Aside0.mk hb7; have HG7 := Aside0.mk hg7; clear hb7 hg7))
                    have e2 : SteadyMath.cnt 2 (l.take (i + 1)) = SteadyMath.cnt 2 (l.take i) := by rw [H2.out]; rfl
                    have e11 : ((SteadyMath.cnt 11 (l.take (i + 1)) : Nat) : Int) = (SteadyMath.cnt 11 (l.take i) : Nat) + 1 := by rw [H11.out]; rfl
                    have HHN : HAt W w7 X (pH an bn (i + 1)) (SteadyMath.cnt 11 (l.take (i + 1)) : Nat) (SteadyMath.cnt 11 (l.take an) : Nat) := by
                      rw [pH_E, e11]
                      exact HAt.put (q := pE an bn i) (a' := (SteadyMath.cnt 11 (l.take an) : Nat)) (a := 0) (p := 0) (t := 0) (A := none) (n := 0) (c := 0) HX6.out HQ6.out HY7.out HG7.out
                    go_roundw
                    case rel => exact ⟨i + 1, ov', _, rfl, by go_num, by omega, by rw [e2], rfl, HOV4, ⟨HWS7.out.box HX6.out HG7.out⟩, ⟨HHN⟩, ⟨HB7.out.grown HG7.out HB7.out.size (fun k hk => by injection hk with hk; subst hk; exact HXW.out)⟩, ⟨ns_take l i 11 HX.out HNS.out (by decide) (by decide)⟩⟩
                    case measure => simp [intOf]; omega
                  · by_cases h2 : x = 2
                    · subst h2
                      clear h11
                      go_wp2_with fail
                      go_roundw
                      case rel => exact ⟨i + 1, ov', _, rfl, by go_num, by omega, by rw [H2.out]; go_num, rfl, HOV4, HWS6, ⟨by rw [pH_E, H11.out]; exact HH5.out⟩, HB5, ⟨ns_take l i 2 HX.out HNS.out (by decide) (by decide)⟩⟩
                      case measure => simp [intOf]; omega
                    · by_cases hm2 : x = -2
                      · subst hm2
                        clear h11 h2 HOV4 HWS6 HH5 HNS
                        go_wp2_with fail
                        refine (O.folkmootlaw20_steady.calls 20 true wc steady_20).mono ?_
                        rintro e t1 ⟨rfl, hbt1⟩
                        have HT1 := Aside0.mk (below_then HB5.out HB5.out.size hbt1)
                        clear hbt1
                        go_wp2_with fail
                        refine (O.folkmootlaw20_good.calls 60 true t1 good_60).mono ?_
                        rintro e t2 ⟨rfl, hbt2⟩
                        have HT2 := Aside0.mk (below_then HT1.out HT1.out.size hbt2)
                        clear hbt2
                        go_wp2_with fail
                        refine (watches_any t2).mono ?_
                        rintro e t3 ⟨rfl, hbt3⟩
                        have HT3 := Aside0.mk (below_then HT2.out HT2.out.size hbt3)
                        clear hbt3
                        go_wp2
                        go_ret
                        exact ⟨rfl, HT3.out⟩
                      · by_cases hm11 : x = -11
                        · subst hm11
                          clear h11 h2 hm2 HOV4 HWS6 HH5 HNS
                          go_wp2_with fail
                          refine (O.folkmootlaw20_steady.calls 20 true wc steady_20).mono ?_
                          rintro e t1 ⟨rfl, hbt1⟩
                          have HT1 := Aside0.mk (below_then HB5.out HB5.out.size hbt1)
                          clear hbt1
                          go_wp2_with fail
                          refine (O.folkmootlaw20_good.calls 60 true t1 good_60).mono ?_
                          rintro e t2 ⟨rfl, hbt2⟩
                          have HT2 := Aside0.mk (below_then HT1.out HT1.out.size hbt2)
                          clear hbt2
                          go_wp2_with fail
                          refine (watches_any t2).mono ?_
                          rintro e t3 ⟨rfl, hbt3⟩
                          have HT3 := Aside0.mk (below_then HT2.out HT2.out.size hbt3)
                          clear hbt3
                          go_wp2
                          go_ret
                          exact ⟨rfl, HT3.out⟩
                        · have q11 : (x == 11) = false := beq_eq_false_iff_ne.2 h11
                          have q2 : (x == 2) = false := beq_eq_false_iff_ne.2 h2
                          have qm2 : (x == -2) = false := beq_eq_false_iff_ne.2 hm2
                          have qm11 : (x == -11) = false := beq_eq_false_iff_ne.2 hm11
                          have HNE := Aside0.mk (And.intro h11 (And.intro h2 (And.intro hm2 hm11)))
                          clear h11 h2 hm2 hm11
                          go_wp2_with fail
                          go_roundw
                          case rel => exact ⟨i + 1, ov', _, rfl, by go_num, by omega, by rw [H2.out, if_neg HNE.out.2.1]; rfl, rfl, HOV4, HWS6, ⟨by rw [pH_E, H11.out, if_neg HNE.out.1]; exact HH5.out⟩, HB5, ⟨ns_take l i x HX.out HNS.out HNE.out.2.2.1 HNE.out.2.2.2⟩⟩
                          case measure => simp [intOf]; omega
end Go.Proofs.Ytmoahkdadeiahaa.AlarmQ
