/- What the queue's methods do, and how they are reached through the interface. -/
import Derived.Test.YtmoahkdadeiahaaAlarmQ
namespace Go.Proofs.Ytmoahkdadeiahaa.AlarmQ
open Go.RowKit Go.Proofs.YtmoahkdadeiahaaW.PrintWords Go.Proofs.Ytmoahkdadeiahaa.AlarmMath Go.Proofs.Ytmoahkdadeiahaa.Blk
set_option linter.unusedVariables false
set_option linter.unusedSimpArgs false
theorem reach (W : World) (C : Nat) (A : Option Addr) (n c : Nat) (name : String) (f : Nat) (hm : ((Try.prog.info? 85).bind fun i => (i.methods.find? (·.name == name)).map fun m => (m.path.size, m.func)) = some (0, some (f, false))) (hc : W.cell? ⟨C, 0, none⟩ = some (.slice A n c)) :
    (method (Try.prog.types.size + 100) 85 (.pointer (some ⟨C, 0, none⟩)) name).run Try.prog W = .ok (f, .slice A n c) W := by
  obtain ⟨i, hi, h2⟩ := Option.bind_eq_some_iff.1 hm
  obtain ⟨m, hm, h3⟩ := Option.map_eq_some_iff.1 h2
  simp only [Prod.mk.injEq] at h3
  obtain ⟨h4, h5⟩ := h3
  have h6 : m.path = #[] := Array.eq_empty_of_size_eq_zero h4
  have hu := Try.underlying85
  have hl : (loadVar 77 ⟨C, 0, none⟩).run Try.prog W = .ok (.slice A n c) W := by go_simp
  have hw : ∀ (nm : String) (p : Addr) (W : World), (Builtin.ssaWrapNilChk_ #[85] 85 #[.pointer (some p), strVal "", strVal nm]).run Try.prog W = .ok (.pointer (some p)) W := fun _ _ _ => rfl
  rw [method.eq_2]
  simp [typeInfo, hi, hm, h6, h5, follow, receiverAt, run_underlying hu, hw, asAddr, hl, Place.get, Result.andThen]
theorem reach_ptr (W : World) (C : Nat) (name : String) (f : Nat) (hm : ((Try.prog.info? 85).bind fun i => (i.methods.find? (·.name == name)).map fun m => (m.path.size, m.func)) = some (0, some (f, true))) :
    (method (Try.prog.types.size + 100) 85 (.pointer (some ⟨C, 0, none⟩)) name).run Try.prog W = .ok (f, .pointer (some ⟨C, 0, none⟩)) W := by
  obtain ⟨i, hi, h2⟩ := Option.bind_eq_some_iff.1 hm
  obtain ⟨m, hm, h3⟩ := Option.map_eq_some_iff.1 h2
  simp only [Prod.mk.injEq] at h3
  obtain ⟨h4, h5⟩ := h3
  have h6 : m.path = #[] := Array.eq_empty_of_size_eq_zero h4
  have hu := Try.underlying85
  rw [method.eq_2]
  simp [typeInfo, hi, hm, h6, h5, follow, receiverAt, run_underlying hu, Place.get, Result.andThen]
theorem reach_Len (W : World) (C : Nat) (A : Option Addr) (n c : Nat) (hc : W.cell? ⟨C, 0, none⟩ = some (.slice A n c)) : (method (Try.prog.types.size + 100) 85 (.pointer (some ⟨C, 0, none⟩)) "Len").run Try.prog W = .ok (94, .slice A n c) W :=
  reach W C A n c "Len" _ (by kernel_rfl) hc
theorem reach_Less (W : World) (C : Nat) (A : Option Addr) (n c : Nat) (hc : W.cell? ⟨C, 0, none⟩ = some (.slice A n c)) : (method (Try.prog.types.size + 100) 85 (.pointer (some ⟨C, 0, none⟩)) "Less").run Try.prog W = .ok (95, .slice A n c) W :=
  reach W C A n c "Less" _ (by kernel_rfl) hc
theorem reach_Swap (W : World) (C : Nat) (A : Option Addr) (n c : Nat) (hc : W.cell? ⟨C, 0, none⟩ = some (.slice A n c)) : (method (Try.prog.types.size + 100) 85 (.pointer (some ⟨C, 0, none⟩)) "Swap").run Try.prog W = .ok (96, .slice A n c) W :=
  reach W C A n c "Swap" _ (by kernel_rfl) hc
theorem reach_Push (W : World) (C : Nat) : (method (Try.prog.types.size + 100) 85 (.pointer (some ⟨C, 0, none⟩)) "Push").run Try.prog W = .ok (98, .pointer (some ⟨C, 0, none⟩)) W :=
  reach_ptr W C "Push" _ (by kernel_rfl)
theorem reach_Pop (W : World) (C : Nat) : (method (Try.prog.types.size + 100) 85 (.pointer (some ⟨C, 0, none⟩)) "Pop").run Try.prog W = .ok (97, .pointer (some ⟨C, 0, none⟩)) W :=
  reach_ptr W C "Pop" _ (by kernel_rfl)
theorem len_any (W : World) (A : Option Addr) (n c : Nat) : Calls Try.prog 94 #[.slice A n c] W fun e w' => e = .returned (.int .i64 n) ∧ w' = W := by
  go_enter Try.func94, Try.ntmps94
  go_wp2
  go_ret
  exact ⟨rfl, rfl⟩
set_option maxHeartbeats 2000000 in
theorem less_any (W : World) (S : Nat → Prop) (C m : Nat) (v : Value) (q : List It) (i j : Nat) (hQ : QAt W S C m v q) (hi : i < q.length) (hj : j < q.length) :
    Calls Try.prog 95 #[v, .int .i64 i, .int .i64 j] W fun e w' => e = .returned (.bool (lt (at_ q i) (at_ q j))) ∧ ∃ n, w' = W.drewN n := by
  obtain ⟨g, cap, cur, rfl, hS, hh, hc, hm, hs, hcur⟩ := hQ.blk (by omega)
  have b := hQ.bd
  have ci : W.cell? ⟨g, i, none⟩ = some (.pointer (some ⟨(at_ q i).1, 0, none⟩)) := (blk_cell hh i).trans (hcur i hi)
  have cj : W.cell? ⟨g, j, none⟩ = some (.pointer (some ⟨(at_ q j).1, 0, none⟩)) := (blk_cell hh j).trans (hcur j hj)
  have i0 : W.cell? ⟨(at_ q i).1, 0, none⟩ = some (.int .i64 (at_ q i).2.1) := (blk_cell (hQ.its i hi) 0).trans rfl
  have i1 : W.cell? ⟨(at_ q i).1, 1, none⟩ = some (.int .i64 (at_ q i).2.2) := (blk_cell (hQ.its i hi) 1).trans rfl
  have j0 : W.cell? ⟨(at_ q j).1, 0, none⟩ = some (.int .i64 (at_ q j).2.1) := (blk_cell (hQ.its j hj) 0).trans rfl
  have j1 : W.cell? ⟨(at_ q j).1, 1, none⟩ = some (.int .i64 (at_ q j).2.2) := (blk_cell (hQ.its j hj) 1).trans rfl
  clear hQ hh hcur hs hm hc
  generalize q.length = len at *
  unfold lt
  generalize (at_ q i).1 = bi at *
  generalize (at_ q j).1 = bj at *
  generalize (at_ q i).2.1 = x1 at *
  generalize (at_ q i).2.2 = x2 at *
  generalize (at_ q j).2.1 = y1 at *
  generalize (at_ q j).2.2 = y2 at *
  by_cases h1 : x2 < y2
  · have h1b : decide (x2 < y2) = true := decide_eq_true h1
    go_enter Try.func95, Try.ntmps95
    go_wp2
    go_quiet (fail)
    go_wp2
    go_ret
    exact ⟨by simp [h1], _, rfl⟩
  · have h1b : decide (x2 < y2) = false := decide_eq_false h1
    by_cases h2 : x2 = y2
    · have h2b : (x2 == y2) = true := beq_iff_eq.2 h2
      clear h2
      go_enter Try.func95, Try.ntmps95
      go_wp2
      go_quiet (fail)
      go_wp2
      go_ret
      exact ⟨by simp_all, _, rfl⟩
    · have h2b : (x2 == y2) = false := beq_eq_false_iff_ne.2 h2
      go_enter Try.func95, Try.ntmps95
      go_wp2
      go_quiet (fail)
      go_wp2
      go_ret
      exact ⟨by simp_all, _, rfl⟩
/-! ### Swap -/
theorem QAt.swapped {W w2 : World} {S : Nat → Prop} {C m : Nat} {q : List It} {i j g cap : Nat} {cur : Array Value} (hQ : QAt W S C m (.slice (some ⟨g, 0, none⟩) q.length cap) q) (hi : i < q.length) (hj : j < q.length) (hij : i ≠ j)
    (hh : W.heap[g]? = some (.cells cur 80 (0, 0))) (hs : cur.size = cap)
    (hg : w2.heap[g]? = some (.cells ((cur.setIfInBounds i (ptr (at_ q j))).setIfInBounds j (ptr (at_ q i))) 80 (0, 0)))
    (hbi : w2.heap[(at_ q j).1]? = some (.cells (itc (at_ q j) i) 83 (0, 0))) (hbj : w2.heap[(at_ q i).1]? = some (.cells (itc (at_ q i) j) 83 (0, 0)))
    (hr : ∀ k, k ≠ g → k ≠ (at_ q i).1 → k ≠ (at_ q j).1 → w2.heap[k]? = W.heap[k]?) : QAt w2 S C m (.slice (some ⟨g, 0, none⟩) q.length cap) (sw q i j) := by
  have key : ∀ a b, a < q.length → b < q.length → a ≠ b → (at_ q a).1 ≠ (at_ q b).1 := by
    intro a b ha hb hne e
    have h1 := List.pairwise_iff_getElem.1 hQ.nd
    rw [at_get ha, at_get hb] at e
    rcases Nat.lt_or_gt_of_ne hne with h | h
    · exact h1 a b (by simpa using ha) (by simpa using hb) h (by simpa using e)
    · exact h1 b a (by simpa using hb) (by simpa using ha) h (by simpa using e.symm)
  have hne : ∀ a, a < q.length → (at_ q a).1 ≠ g := fun a ha e => by
    have h1 := hQ.its a ha
    rw [e, hh] at h1
    injection h1 with h1
    injection h1 with _ h1
    exact absurd h1 (by decide)
  have hCi : ∀ a, a < q.length → C ≠ (at_ q a).1 := fun a ha e => by
    have h1 := hQ.its a ha
    rw [← e, hQ.cC] at h1
    injection h1 with h1
    injection h1 with _ h1
    exact absurd h1 (by decide)
  have hCg : C ≠ g := fun e => by
    have h1 := hQ.cC
    rw [e, hh] at h1
    injection h1 with h1
    injection h1 with _ h1
    exact absurd h1 (by decide)
  have Sw := sw_at q i j hi hj
  refine ⟨(hr C hCg (hCi i hi) (hCi j hj)).trans hQ.cC, ?_, ?_, ?_, hQ.sC, hQ.sv, ?_, by rw [sw_len]; exact hQ.bd⟩
  · rcases hQ.row.2 with ⟨e, _⟩ | ⟨g', cap', cur', e, hb, hh', hc, hm, hsz, ht⟩
    · cases e
    · injection e with e1 e2 e3
      injection e1 with e1
      injection e1 with e1
      subst e1; subst e3
      rw [hh] at hh'
      injection hh' with hh'
      injection hh' with hh'
      subst hh'
      rw [sw_len]
      refine ⟨by simp [sw_len], .inr ⟨g, cap, _, rfl, hb, hg, hc, hm, by simpa using hsz, ?_⟩⟩
      rw [Nat.mul_one] at ht ⊢
      apply List.ext_getElem?
      intro k
      rw [List.getElem?_take, List.getElem?_map]
      by_cases hk : k < q.length
      · rw [if_pos hk]
        have h1 : cur[k]? = some (ptr (at_ q k)) := by
          have h2 : (cur.toList.take q.length)[k]? = some (ptr (at_ q k)) := by rw [ht, List.getElem?_map, List.getElem?_eq_getElem hk, at_get hk]; rfl
          rw [List.getElem?_take, if_pos hk] at h2
          simpa using h2
        have hk2 : k < (sw q i j).length := by rw [sw_len]; exact hk
        rw [List.getElem?_eq_getElem hk2, ← at_get hk2, Sw k]
        simp only [Array.getElem?_toList, Array.getElem?_setIfInBounds, Option.map_some, Array.size_setIfInBounds]
        by_cases c1 : j = k
        · subst c1
          rw [if_pos rfl, if_pos (by omega), if_pos rfl]
        · rw [if_neg c1]
          by_cases c2 : i = k
          · subst c2
            rw [if_pos rfl, if_pos (by omega), if_neg (fun e => c1 e.symm), if_pos rfl]
          · rw [if_neg c2, if_neg (fun e => c1 e.symm), if_neg (fun e => c2 e.symm), h1]
      · rw [if_neg hk, List.getElem?_eq_none (by rw [sw_len]; omega)]; rfl
  · intro a ha
    rw [sw_len] at ha
    rw [Sw a]
    by_cases c1 : a = j
    · subst c1; rw [if_pos rfl]; exact hbj
    · rw [if_neg c1]
      by_cases c2 : a = i
      · subst c2; rw [if_pos rfl]; exact hbi
      · rw [if_neg c2]
        exact (hr _ (hne a ha) (key a i ha hi c2) (key a j ha hj c1)).trans (hQ.its a ha)
  · exact ((sw_perm q i j hi hj).map _).nodup_iff.2 hQ.nd
  · intro a ha
    rw [sw_len] at ha
    rw [Sw a]
    split
    · exact hQ.si i hi
    · split
      · exact hQ.si j hj
      · exact hQ.si a ha
end Go.Proofs.Ytmoahkdadeiahaa.AlarmQ
