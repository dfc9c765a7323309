-- WRITTEN BY a program of this session's (wip/gprint.py, over the kit's print), with functions given by hand among them. Not trusted: Lean checks it.
import Derived.Test.YtmefkjdnnapkjaaQ0
import Derived.Test.YtmefkjdnnapkjaaQ6
import Derived.Laws.CopyOwn
import Derived.Test.YtmefkjdnnapkjaaGen
import Derived.Test.YtmefkjdnnapkjaaShelf
namespace Go.Proofs.Ytmefkjdnnapkjaa.Q
open Go.RowKit Go.Proofs.YtmefkjdnnapkjaaW.PrintWords Go.Proofs.YtmefkjdnnapkjaaW.PrintLast Go.Proofs.YtmefkjdnnapkjaaW.PrintMore
attribute [local go_sem] max2_int min2_int max_two min_two max_three min_three max_four min_four   -- for this text's walks alone
set_option linter.unusedVariables false
set_option linter.unusedSimpArgs false

-- GIVEN imports=Derived.Test.YtmefkjdnnapkjaaShelf,Derived.Test.YtmefkjdnnapkjaaGen,Derived.Laws.CopyOwn
/-! ### folkmootkeep_LendInts: function 16, given -/
theorem v_of_c {w : World} {A : Option Addr} {n c : Nat} {xs : List Int} (h : Kd.C (Kd.int .i64) w A n xs) (hc : n ≤ c) : Kd.V (Kd.int .i64) 3 w w.heap.size (fun _ => True) (.slice A n c) xs := by
  have e : xs.length = n := h.1
  subst e
  exact ⟨A, c, rfl, hc, fun W' hW => (Kd.heap_int .i64).C (fun k hlt => hW k trivial hlt) h⟩

/-! #### a list that is lent with a mark behind it -/
def Lent (w : World) (g : Nat) (l : List Int) : Prop := w.heap[g]? = some (.cells (l.map (Value.int .i64) ++ [Value.int .i64 (-77)]).toArray 3 (0, 0))
theorem Lent.reads {w : World} {g : Nat} {l : List Int} (h : Lent w g l) (hb : l.length * 8 ≤ 140737488355328) : (Kd.int .i64).C w (some ⟨g, 0, none⟩) l.length l := by
  refine ⟨rfl, by omega, fun _ => ⟨_, rfl, fun j p hj => ⟨[.int .i64 p], rfl, rfl, fun i u hu => ?_⟩⟩⟩
  have hi : i = 0 := by
    have := (List.getElem?_eq_some_iff.1 hu).1
    simpa using this
  subst hi
  simp at hu
  subst hu
  have hjl := (List.getElem?_eq_some_iff.1 hj).1
  have e : j * (Kd.int .i64).sz + 0 = j := by simp [Kd.int, Kd.scalar]
  rw [e, add_plain]
  unfold Lent at h
  simp only [World.cell?, h]
  simp [List.getElem?_append_left (show j < (l.map (Value.int .i64)).length by simpa using hjl), hj]
theorem Lent.later {w w' : World} {g : Nat} {l : List Int} (h : Lent w g l) (hk : w'.heap[g]? = w.heap[g]?) : Lent w' g l := hk.trans h
theorem Lent.lt {w : World} {g : Nat} {l : List Int} (h : Lent w g l) : g < w.heap.size := (Array.getElem?_eq_some_iff.1 h).1
theorem Lent.mark {w : World} {g : Nat} {l : List Int} (h : Lent w g l) : w.cell? ⟨g, l.length, none⟩ = some (.int .i64 (-77)) := by
  unfold Lent at h
  simp [World.cell?, h]

/-! #### a row of the call's own that is written over -/
def Ovr (W wr : World) (A : Option Addr) (n : Nat) : Prop := W.grownBy wr (A.map (·.block)) ∧ ∀ g, A = some ⟨g, 0, none⟩ → 0 < n → ∃ cur, wr.heap[g]? = some (.cells cur 3 (0, 0)) ∧ n ≤ cur.size
theorem Ovr.cell {W wr : World} {g n : Nat} (h : Ovr W wr (some ⟨g, 0, none⟩) n) (i : Nat) (hi : i < n) : (∃ u, wr.cell? ⟨g, i, none⟩ = some u) ∧ wr.frozen? ⟨g, i, none⟩ = false := by
  obtain ⟨cur, hh, hn⟩ := h.2 g rfl (by omega)
  refine ⟨⟨cur[i]'(by omega), ?_⟩, ?_⟩
  · simp [World.cell?, hh, Array.getElem?_eq_getElem (show i < cur.size by omega)]
  · simp [World.frozen?, hh]
theorem Ovr.set {W wr : World} {g n : Nat} (h : Ovr W wr (some ⟨g, 0, none⟩) n) (i : Nat) (u : Value) : Ovr W (wr.setCell ⟨g, i, none⟩ u) (some ⟨g, 0, none⟩) n := by
  refine ⟨⟨h.1.os, h.1.tape, h.1.output, by simpa [World.setCell] using h.1.size, fun k hk hne => ?_⟩, fun g' e hn => ?_⟩
  · rw [Below.heap_setCell _ _ _ _ (by intro e; subst e; exact hne rfl)]
    exact h.1.block k hk hne
  · obtain rfl : g = g' := by
      have := Option.some.inj e
      simpa using this
    obtain ⟨cur, hh, hc⟩ := h.2 g rfl hn
    refine ⟨cur.setIfInBounds i u, ?_, by simpa using hc⟩
    rw [Sort.setCell_eq]
    show (wr.heap.modify g (Sort.onCells _))[g]? = _
    rw [Array.getElem?_modify, if_pos rfl, hh]
    rfl
theorem Ovr.below {W wr w0 : World} {A : Option Addr} {n : Nat} (h : Ovr W wr A n) {B : Nat} (hb : Below B w0 W) (hB : B ≤ W.heap.size) (hA : ∀ a, A = some a → B ≤ a.block) : Below B w0 wr := hb.grown h.1 hB (by
  intro k hk
  cases A with
  | none => cases hk
  | some a => have := hA a rfl; simp at hk; omega)
/-- A row of the call's own, as what may be written over. -/
theorem ovr_of {W : World} {base : Nat} {ok : Nat → Prop} {v : Value} {xs : List Int} (h : Kd.R (Kd.int .i64) 3 W base ok v xs) : ∃ A cap, v = .slice A xs.length cap ∧ (0 < xs.length → ∃ g, A = some ⟨g, 0, none⟩) ∧ Ovr W W A xs.length ∧ (∀ a, A = some a → base ≤ a.block ∧ a.block < W.heap.size) := by
  rcases Gen.R_open h with ⟨rfl, rfl⟩ | ⟨g, cap, cur, rfl, hb, hlt, hok, hh, hc, hm, hs, ht⟩
  · exact ⟨none, 0, rfl, fun h => absurd h (by simp), ⟨⟨rfl, rfl, rfl, Nat.le_refl _, fun _ _ _ => rfl⟩, fun _ e => by cases e⟩, fun _ e => by cases e⟩
  · refine ⟨_, cap, rfl, fun _ => ⟨g, rfl⟩, ⟨⟨rfl, rfl, rfl, Nat.le_refl _, fun _ _ _ => rfl⟩, fun g' e _ => ?_⟩, fun a e => ?_⟩
    · obtain rfl : g = g' := by
        have := Option.some.inj e
        simpa using this
      exact ⟨cur, hh, by omega⟩
    · obtain rfl := Option.some.inj e
      exact ⟨hb, hlt⟩

theorem ovr_at {W : World} {base : Nat} {ok : Nat → Prop} {A : Option Addr} {n cap : Nat} {xs : List Int} (h : Kd.R (Kd.int .i64) 3 W base ok (.slice A n cap) xs) : (0 < xs.length → ∃ g, A = some ⟨g, 0, none⟩) ∧ Ovr W W A xs.length ∧ (∀ a, A = some a → base ≤ a.block ∧ a.block < W.heap.size) := by
  obtain ⟨A', cap', e, h1, h2, h3⟩ := ovr_of h
  injection e with e1 e2 e3
  subst e1
  exact ⟨h1, h2, h3⟩

set_option maxHeartbeats 1000000 in
theorem lend (A0 : Option Addr) (c0 : Nat) (l0 : List Int) (w : World) (hr0 : Kd.C (Kd.int .i64) w A0 l0.length l0) (hb : l0.length * 8 ≤ 140737488351232) :
    Calls Try.prog 16 #[.slice A0 l0.length c0] w fun e w' => ∃ g, e = .returned (.slice (some ⟨g, 0, none⟩) l0.length (l0.length + 1)) ∧ Lent w' g l0 ∧ w.heap.size ≤ g ∧ Below w.heap.size w w' := by
  have HR := Aside0.mk hr0
  clear hr0
  obtain ⟨i0, hi, hz0, hz1, hz2⟩ := info_parts (show (Try.prog.info? 3).map (fun i => (i.zero, i.size, i.bytes)) = some (some (.int .i64 0), 1, 8) by kernel_rfl)
  have hb2 : i0.bytes * (l0.length + 1) ≤ 281474976710656 := by rw [hz2]; omega
  go_enter Try.func16, Try.ntmps16
  go_wp2_with (at_make; refine wpList_make_full _ rfl (.tmp 6) (.tmp 6) 22 rfl w.heap.size 3 i0 (.int .i64 0) 1 Try.underlying22 hi hz0 hz1 .i64 .i64 _ _ (l0.length + 1) rfl rfl (by omega) (by omega) hb2 (by unfold maxLen; omega) (Nat.le_refl _) ?_)
  intro w1 hown hgrow
  obtain ⟨cur, hh, hcs⟩ : ∃ cur : Array Value, w1.heap[w.heap.size]? = some (.cells cur 3 (0, 0)) ∧ cur.size = l0.length + 1 := by
    rcases hown.2 with ⟨h, _⟩ | ⟨g, cap, cur, he, _, hh, _, _, hs, _⟩
    · cases h
    · injection he with h1 h2 h3
      injection h1 with h1
      injection h1 with h1
      subst h1; subst h3
      exact ⟨cur, hh, by simpa using hs⟩
  have HB1 : Aside0 (Below w.heap.size w w1) := ⟨(Below.refl _ w).grown hgrow (Nat.le_refl _) (fun k hk => by cases hk)⟩
  have HH := Aside0.mk hh
  clear hown hgrow hh
  have hCR := Aside0.mk (Kd.C_below HR.out HB1.out)
  go_wp2_with (with_reducible refine wpList_copy_splice rfl (.tmp 8) (.tmp 9) 22 22 rfl 3 Try.underlying22 (by rw [hi]; simp [hz1]) _ _ _ _ _ _ rfl rfl w.heap.size 0 cur.toList 3 (by simpa using HH.out) (l0.map (Value.int .i64)) ?c1 ?c2 ?c3 ?c4 w.heap.size w HB1.out (Nat.le_refl _) ?_)
  case c1 => simp
  case c2 =>
    intro hpos
    obtain ⟨ad, e, hc⟩ := hCR.out.2.2 (by simpa using hpos)
    refine ⟨ad, e, fun j u hj => ?_⟩
    have hjl : j < l0.length := (List.getElem?_eq_some_iff.1 hj).1
    obtain ⟨c, _, hK, hcell⟩ := hc j u hj
    have hK' : c = [Value.int .i64 u] := hK
    subst hK'
    have h2 := hcell 0 (Value.int .i64 u) rfl
    have : j * (Kd.int .i64).sz + 0 = j := by simp [Kd.int, Kd.scalar]
    rw [this] at h2
    exact h2
  case c3 => simp; omega
  case c4 => intro u hu; simp at hu; obtain ⟨x, _, rfl⟩ := hu; rfl
  intro w2 hh2 hb2
  have HH2 : Aside0 (w2.heap[w.heap.size]? = some (.cells (splice cur.toList 0 (l0.map (Value.int .i64))).toArray 3 (0, 0))) := ⟨hh2.out⟩
  have HB2 := Aside0.mk hb2
  have hsp : (splice cur.toList 0 (l0.map (Value.int .i64))) = l0.map (Value.int .i64) ++ cur.toList.drop l0.length := by simp [splice]
  have hc1 : w2.cell? ⟨w.heap.size, l0.length, none⟩ = some (cur[l0.length]'(by omega)) := by
    simp only [World.cell?, HH2.out, hsp]
    simp [List.getElem?_append_right, hcs]
  have hf1 : w2.frozen? ⟨w.heap.size, l0.length, none⟩ = false := by simp [World.frozen?, HH2.out]
  have HSP := Aside0.mk hsp
  clear hh2 hb2 HH HB1 hCR hsp
  go_wp2
  go_ret
  refine ⟨w.heap.size, rfl, ?_, Nat.le_refl _, HB2.out.setCell (by simp) _⟩
  unfold Lent
  rw [Sort.setCell_eq]
  show (w2.heap.modify w.heap.size (Sort.onCells _))[w.heap.size]? = _
  rw [Array.getElem?_modify, if_pos rfl, HH2.out, HSP.out]
  simp only [Option.map_some, Sort.onCells]
  congr 2
  apply Array.ext_getElem?
  intro j
  rw [Array.getElem?_setIfInBounds]
  simp only [List.getElem?_toArray, List.size_toArray, List.length_append, List.length_map, List.length_drop, Array.length_toList]
  by_cases hj : l0.length = j
  · subst hj
    rw [if_pos rfl, if_pos (by omega), List.getElem?_append_right (by simp)]
    simp
  · rw [if_neg hj]
    by_cases hj2 : j < l0.length
    · rw [List.getElem?_append_left (by simpa using hj2), List.getElem?_append_left (by simpa using hj2)]
    · rw [List.getElem?_append_right (by simp; omega), List.getElem?_append_right (by simp; omega)]
      rw [List.getElem?_eq_none (by simp; omega), List.getElem?_eq_none (by simp; omega)]

set_option maxHeartbeats 1000000 in
theorem back (A1 : Option Addr) (c1 : Nat) (l : List Int) (w : World) (g k : Nat) (hL : Lent w g l) (hr1 : Kd.C (Kd.int .i64) w A1 l.length l) (hc1 : l.length ≤ c1) (hb : l.length * 8 ≤ 140737488351232) (hint : folkmootkeep_Ints.f k l l = some true) :
    Calls Try.prog 20 #[.slice (some ⟨g, 0, none⟩) l.length (l.length + 1), .slice A1 l.length c1] w fun e w' => e = .returned (.bool true) ∧ w.grownBy w' (some g) := by
  have HL := Aside0.mk hL
  have HR := Aside0.mk hr1
  have HC := Aside0.mk hc1
  have HI := Aside0.mk hint
  have hm := hL.mark
  clear hL hr1 hc1 hint
  go_enter Try.func20, Try.ntmps20
  go_wp2_with fail
  refine (folkmootkeep_Ints.calls k _ _ l _ _ l true _ (HL.out.reads (by omega)) (Nat.le_succ _) HR.out HC.out HI.out).mono ?_
  rintro e w1 ⟨rfl, ⟨nd, rfl⟩⟩
  go_wp2_with fail
  have HO : Aside0 (Ovr w (w.drewN nd) (some ⟨g, 0, none⟩) (l.length + 1)) := ⟨⟨⟨rfl, rfl, rfl, Nat.le_refl _, fun _ _ _ => rfl⟩, fun g' e _ => by
    obtain rfl : g = g' := by
      have := Option.some.inj e
      simpa using this
    exact ⟨_, HL.out, by simp⟩⟩⟩
  clear hm
  go_loopw [7] (fun i wr => ∃ j : Nat, j ≤ l.length + 1 ∧ i = .int .i64 j ∧ Aside0 (Ovr w wr (some ⟨g, 0, none⟩) (l.length + 1))) (fun i _ => l.length + 1 - (intOf i).toNat)
  case atStart => exact ⟨0, Nat.zero_le _, rfl, HO⟩
  case round =>
    obtain ⟨j, hj, rfl, HW⟩ := hrel
    by_cases hlt : j < l.length + 1
    · obtain ⟨⟨u, hu⟩, hf⟩ := HW.out.cell j hlt
      go_wp2
      go_roundw
      case rel => exact ⟨j + 1, by omega, by go_num, ⟨HW.out.set j _⟩⟩
      case measure => simp [intOf]; omega
    · go_wp2
      go_ret
      exact ⟨rfl, HW.out.1⟩

end Go.Proofs.Ytmefkjdnnapkjaa.Q
