/- The laws' same: an answer is what is wanted, what was handed in is as it was: true; only what came out is written over. -/
import Derived.Test.YtmoahkdadeiahaaLeaseHold
import Derived.Test.YtmoahkdadeiahaaBlk
import Derived.WalkKit
import Derived.LoopTactic
import Derived.RegionTactic
import Derived.Test.YtmoahkdadeiahaaT9
namespace Go.Proofs.Ytmoahkdadeiahaa.LeaseQ
open Go.RowKit Go.Proofs.Ytmoahkdadeiahaa.T Go.Proofs.Ytmoahkdadeiahaa.Hold Go.Proofs.Ytmoahkdadeiahaa.Blk Go.Proofs.YtmoahkdadeiahaaW.PrintWords Go.Proofs.YtmoahkdadeiahaaW.PrintLast Go.Proofs.YtmoahkdadeiahaaW.PrintMore
set_option linter.unusedVariables false
set_option linter.unusedSimpArgs false
/-- A holder as a value. -/
def hv (a0 a1 a2 : Int) (v : Value) (a4 a5 : Int) : Value := .agg #[.int .i64 a0, .int .i64 a1, .int .i64 a2, v, .int .i64 a4, .int .i64 a5]
theorem same_any (a0 a1 a2 : Int) (A : Option Addr) (c : Nat) (l : List Sn) (a4 a5 : Int) (A' : Option Addr) (c' : Nat) (w : World) (hr : Kd.C k59 w A l.length l) (hc : l.length ≤ c) (hr' : Kd.C k59 w A' l.length l) (hc' : l.length ≤ c') (hl : l.length ≤ 2000) :
    Calls Try.prog 37 #[hv a0 a1 a2 (.slice A l.length c) a4 a5, hv a0 a1 a2 (.slice A' l.length c') a4 a5] w fun e w' => e = .returned (.bool true) ∧ Below w.heap.size w w' :=
  folkmootref20_Same.calls 2500 a0 a1 a2 A c l a4 a5 a0 a1 a2 A' c' l a4 a5 true w hr hc hr' hc' (same_f a0 a1 a2 l a4 a5 hl 2500 (Nat.le_refl _))
/-- What is written over: a row's cells. -/
structure OvQ (W wr : World) (A : Option Addr) (n : Nat) : Prop where
  g : W.grownBy wr (A.map (·.block))
  c : ∀ g off, A = some ⟨g, off, none⟩ → 0 < n → ∃ cur, wr.heap[g]? = some (.cells cur 59 (0, 0)) ∧ off + n * 2 ≤ cur.size
theorem OvQ.cell {W wr : World} {g off n : Nat} (h : OvQ W wr (some ⟨g, off, none⟩) n) (i : Nat) (hi : i < n) : (∃ u, wr.cell? ⟨g, off + i * 2, none⟩ = some u) ∧ wr.frozen? ⟨g, off + i * 2, none⟩ = false := by
  obtain ⟨cur, hh, hn⟩ := h.c g off rfl (by omega)
  refine ⟨⟨cur[off + i * 2]'(by omega), ?_⟩, blk_frozen hh _⟩
  rw [blk_cell hh]
  exact Array.getElem?_eq_getElem _
theorem OvQ.set {W wr : World} {g off n : Nat} (h : OvQ W wr (some ⟨g, off, none⟩) n) (i : Nat) (u : Value) : OvQ W (wr.setCell ⟨g, i, none⟩ u) (some ⟨g, off, none⟩) n := by
  refine ⟨⟨h.g.os, h.g.tape, h.g.output, by simpa [World.setCell] using h.g.size, fun k hk hne => ?_⟩, fun g' off' e hn => ?_⟩
  · rw [Below.heap_setCell _ _ _ _ (by intro e; subst e; exact hne rfl)]
    exact h.g.block k hk hne
  · injection e with e; injection e with e1 e2
    subst e1; subst e2
    obtain ⟨cur, hh, hc⟩ := h.c g off rfl hn
    exact ⟨_, blk_set hh i u, by simpa using hc⟩
theorem OvQ.of {W : World} {base : Nat} {ok : Nat → Prop} {A : Option Addr} {n c : Nat} {xs : List Sn} (h : Kd.Q k59 59 W base ok (.slice A n c) xs) : OvQ W W A xs.length ∧ (0 < xs.length → ∃ g off, A = some ⟨g, off, none⟩) ∧ ∀ a, A = some a → base ≤ a.block ∧ a.block < W.heap.size := by
  have hl := Kd.Q_lt h
  have hb := Kd.Q_base h
  obtain ⟨_, inner, ⟨_, ho⟩, _⟩ := h
  refine ⟨⟨⟨rfl, rfl, rfl, Nat.le_refl _, fun _ _ _ => rfl⟩, fun g off e hn => ?_⟩, fun hn => ?_, fun a e => ⟨hb _ (by rw [e]; rfl), hl _ (by rw [e]; rfl)⟩⟩
  · rcases ho with ⟨h0, _⟩ | ⟨g', off', cap, cur, ev, _, hh, hc, hm, hs, _⟩
    · omega
    · injection ev with e1 e2 e3
      rw [e] at e1
      injection e1 with e1; injection e1 with e1 e4
      subst e1; subst e4
      have e5 : (k59).sz = 2 := rfl
      rw [e5] at hs
      refine ⟨cur, hh, ?_⟩
      rw [hs, e5, Nat.add_mul]
      omega
  · rcases ho with ⟨h0, _⟩ | ⟨g', off', cap, cur, ev, _⟩
    · omega
    · injection ev with e1 e2 e3
      exact ⟨_, _, e1⟩
/-- Four boxes, one behind another. -/
theorem boxes (w : World) (b0 b1 b2 b3 : Obj) : ∃ W, W = (((w.alloc b0).alloc b1).alloc b2).alloc b3 ∧ W.heap[w.heap.size]? = some b0 ∧ W.heap[w.heap.size + 1 + 1]? = some b2 ∧ W.heap[w.heap.size + 1 + 1 + 1]? = some b3 ∧ Below w.heap.size w W ∧ W.heap.size = w.heap.size + 4 := by
  have s1 : (w.alloc b0).heap.size = w.heap.size + 1 := by simp
  have s2 : ((w.alloc b0).alloc b1).heap.size = w.heap.size + 2 := by simp
  have s3 : (((w.alloc b0).alloc b1).alloc b2).heap.size = w.heap.size + 3 := by simp
  refine ⟨_, rfl, blk_alloc (blk_alloc (blk_alloc (blk_new w _) _) _) _, ?_, ?_, below_alloc (below_alloc (below_alloc (below_alloc (Below.refl _ _) _) _) _) _, by simp⟩
  · rw [show w.heap.size + 1 + 1 = w.heap.size + 2 from rfl, ← s2]; exact blk_alloc (blk_new _ _) _
  · rw [show w.heap.size + 1 + 1 + 1 = w.heap.size + 3 from rfl, ← s3]; exact blk_new _ _
theorem six {w' : World} {X : Nat} {v0 v1 v2 v3 v4 v5 : Value} (h : w'.heap[X]? = some (.cells #[v0, v1, v2, v3, v4, v5] 29 (0, 0))) : w'.cell? ⟨X, 0, none⟩ = some v0 ∧ w'.cell? ⟨X, 1, none⟩ = some v1 ∧ w'.cell? ⟨X, 2, none⟩ = some v2 ∧ w'.cell? ⟨X, 3, none⟩ = some v3 ∧ w'.cell? ⟨X, 4, none⟩ = some v4 ∧ w'.cell? ⟨X, 5, none⟩ = some v5 :=
  ⟨(blk_cell h 0).trans rfl, (blk_cell h 1).trans rfl, (blk_cell h 2).trans rfl, (blk_cell h 3).trans rfl, (blk_cell h 4).trans rfl, (blk_cell h 5).trans rfl⟩
set_option maxHeartbeats 8000000 in
set_option maxRecDepth 100000 in
theorem same_g (w : World) (B : Nat) (n0 n1 n2 n4 n5 e : Int) (l : List Sn) (A : Option Addr) (n c : Nat) (P : Nat → Prop) (hQ : Kd.Q k59 59 w B P (.slice A n c) l) (hB : B ≤ w.heap.size) (A2 : Option Addr) (c2 : Nat) (hr2 : Kd.C k59 w A2 l.length l) (hc2 : l.length ≤ c2)
    (m0 m1 m2 m4 m5 : Int) (lh : List Sn) (A4 : Option Addr) (c4 : Nat) (A5 : Option Addr) (c5 : Nat) (hr4 : ∀ w', w.grownBy w' (A.map (·.block)) → Kd.C k59 w' A4 lh.length lh) (hc4 : lh.length ≤ c4) (hr5 : ∀ w', w.grownBy w' (A.map (·.block)) → Kd.C k59 w' A5 lh.length lh) (hc5 : lh.length ≤ c5) (hl : l.length ≤ 2000) (hlh : lh.length ≤ 2000) :
    Calls Try.prog 20 #[hv n0 n1 n2 (.slice A n c) n4 n5, .int .i64 e, hv n0 n1 n2 (.slice A2 l.length c2) n4 n5, .int .i64 e, hv m0 m1 m2 (.slice A4 lh.length c4) m4 m5, hv m0 m1 m2 (.slice A5 lh.length c5) m4 m5] w fun e' w' => e' = .returned (.bool true) ∧ w.grownBy w' (A.map (·.block)) := by
  obtain ⟨hn, hc, hrA⟩ := Kd.Q_reads' hQ
  subst hn
  obtain ⟨W4, hW4, hx, hh, ho, hb4, hs4⟩ := boxes w (.cells #[.int .i64 n0, .int .i64 n1, .int .i64 n2, .slice A l.length c, .int .i64 n4, .int .i64 n5] 29) (.cells #[.int .i64 n0, .int .i64 n1, .int .i64 n2, .slice A2 l.length c2, .int .i64 n4, .int .i64 n5] 29) (.cells #[.int .i64 m0, .int .i64 m1, .int .i64 m2, .slice A4 lh.length c4, .int .i64 m4, .int .i64 m5] 29) (.cells #[.int .i64 m0, .int .i64 m1, .int .i64 m2, .slice A5 lh.length c5, .int .i64 m4, .int .i64 m5] 29)
  have EW := Aside0.mk hW4
  have HX := Aside0.mk hx
  have HH := Aside0.mk hh
  have HO := Aside0.mk ho
  have HB4 := Aside0.mk hb4
  have HS4 := Aside0.mk hs4
  have HQ := Aside0.mk hQ
  have HR2 := Aside0.mk hr2
  have HRA := Aside0.mk hrA
  have HR4 := Aside0.mk hr4
  have HR5 := Aside0.mk hr5
  have HC := Aside0.mk hc
  have HC2 := Aside0.mk hc2
  have HC4 := Aside0.mk hc4
  have HC5 := Aside0.mk hc5
  have HBB := Aside0.mk hB
  clear hW4 hx hh ho hb4 hs4 hQ hr2 hrA hr4 hr5 hc hc2 hc4 hc5 hB
  unfold hv
  go_enter Try.func20, Try.ntmps20
  go_wp2_with fail
  rw [← EW.out]
  refine (same_any n0 n1 n2 A c l n4 n5 A2 c2 W4 (Kd.C_below HRA.out HB4.out) HC.out (Kd.C_below HR2.out HB4.out) HC2.out hl).mono ?_
  rintro e' w5 ⟨rfl, hb5⟩
  have HB5 := Aside0.mk (below_then HB4.out HB4.out.size hb5)
  have HX5 := Aside0.mk (blk_below HX.out hb5)
  have HH5 := Aside0.mk (blk_below HH.out hb5)
  have HO5 := Aside0.mk (blk_below HO.out hb5)
  obtain ⟨hov, hov2, hov3⟩ := OvQ.of (Kd.Q_below (Kd.Q_below HQ.out HB4.out) hb5)
  have HOV := Aside0.mk hov
  have HOV2 := Aside0.mk hov2
  have HLT : Aside0 (∀ a, A = some a → B ≤ a.block ∧ a.block < w.heap.size) := ⟨fun a e => ⟨(hov3 a e).1, Kd.Q_lt HQ.out _ (by rw [e]; rfl)⟩⟩
  clear hov hov2 hov3 hb5 HX HH HO HB4 HR2 HRA HQ
  go_wp2_with fail
  go_loopw [14] (fun vi wr => ∃ k : Nat, vi = .int .i64 k ∧ k ≤ l.length ∧ Aside0 (OvQ w5 wr A l.length)) (fun vi _ => l.length - (intOf vi).toNat)
  case atStart => exact ⟨0, rfl, by omega, HOV⟩
  case round =>
    obtain ⟨k, rfl, hk, HW⟩ := hrel
    have KP : Aside0 (∀ (X : Nat) (ob : Obj), w.heap.size ≤ X → w5.heap[X]? = some ob → wr.heap[X]? = some ob) := ⟨fun X ob hX hb => (HW.out.g.block X (blk_lt hb) (fun e => by
      cases A with
      | none => cases e
      | some a => have := (HLT.out a rfl).2; simp at e; omega)).trans hb⟩
    obtain ⟨x0, x1, x2, x3, x4, x5⟩ := six (KP.out _ _ (Nat.le_refl _) HX5.out)
    by_cases hlt : k < l.length
    · obtain ⟨g, off, rfl⟩ := HOV2.out (by omega)
      obtain ⟨⟨u, hu⟩, hf⟩ := HW.out.cell k hlt
      go_wp2
      go_roundw
      case rel => exact ⟨k + 1, by go_num, by omega, ⟨HW.out.set _ _⟩⟩
      case measure => simp [intOf]; omega
    · have HBr : Aside0 (w.grownBy wr (A.map (·.block))) := ⟨World.grownBy.trans (grown_of_below HB5.out _) HW.out.g⟩
      obtain ⟨h0, h1, h2, h3, h4, h5⟩ := six (KP.out _ _ (by omega) HH5.out)
      obtain ⟨o0, o1, o2, o3, o4, o5⟩ := six (KP.out _ _ (by omega) HO5.out)
      clear HW KP
      go_wp2_with fail
      refine (same_any m0 m1 m2 A4 c4 lh m4 m5 A5 c5 wr (HR4.out _ HBr.out) HC4.out (HR5.out _ HBr.out) HC5.out hlh).mono ?_
      rintro e' w6 ⟨rfl, hb6⟩
      have HB6 : Aside0 (w.grownBy w6 (A.map (·.block))) := ⟨World.grownBy.trans HBr.out (grown_of_below hb6 _)⟩
      clear hb6
      go_wp2
      go_ret
      exact ⟨rfl, HB6.out⟩
theorem same_q (w : World) (B : Nat) (n0 n1 n2 n4 n5 e : Int) (l : List Sn) (A : Option Addr) (n c : Nat) (P : Nat → Prop) (hQ : Kd.Q k59 59 w B P (.slice A n c) l) (hB : B ≤ w.heap.size) (A2 : Option Addr) (c2 : Nat) (hr2 : Kd.C k59 w A2 l.length l) (hc2 : l.length ≤ c2)
    (m0 m1 m2 m4 m5 : Int) (lh : List Sn) (A4 : Option Addr) (c4 : Nat) (A5 : Option Addr) (c5 : Nat) (hr4 : ∀ w', Below B w w' → Kd.C k59 w' A4 lh.length lh) (hc4 : lh.length ≤ c4) (hr5 : ∀ w', Below B w w' → Kd.C k59 w' A5 lh.length lh) (hc5 : lh.length ≤ c5) (hl : l.length ≤ 2000) (hlh : lh.length ≤ 2000) :
    Calls Try.prog 20 #[hv n0 n1 n2 (.slice A n c) n4 n5, .int .i64 e, hv n0 n1 n2 (.slice A2 l.length c2) n4 n5, .int .i64 e, hv m0 m1 m2 (.slice A4 lh.length c4) m4 m5, hv m0 m1 m2 (.slice A5 lh.length c5) m4 m5] w fun e' w' => e' = .returned (.bool true) ∧ Below B w w' := by
  have key : ∀ w', w.grownBy w' (A.map (·.block)) → Below B w w' := fun w' hg => (Below.refl B w).grown hg hB (fun k hk => by
    cases A with
    | none => cases hk
    | some a => exact Kd.Q_base hQ k (by simpa [Value.ownBlock] using hk))
  exact (same_g w B n0 n1 n2 n4 n5 e l A n c P hQ hB A2 c2 hr2 hc2 m0 m1 m2 m4 m5 lh A4 c4 A5 c5 (fun w' h => hr4 w' (key w' h)) hc4 (fun w' h => hr5 w' (key w' h)) hc5 hl hlh).mono (fun _ _ h => ⟨h.1, key _ h.2⟩)
end Go.Proofs.Ytmoahkdadeiahaa.LeaseQ
