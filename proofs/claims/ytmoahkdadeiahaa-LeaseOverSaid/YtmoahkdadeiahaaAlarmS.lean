/- Swap, Push, Pop of the queue. -/
import Derived.Test.YtmoahkdadeiahaaAlarmM
namespace Go.Proofs.Ytmoahkdadeiahaa.AlarmQ
open Go.RowKit Go.Proofs.YtmoahkdadeiahaaW.PrintWords Go.Proofs.Ytmoahkdadeiahaa.AlarmMath Go.Proofs.Ytmoahkdadeiahaa.Blk
set_option linter.unusedVariables false
set_option linter.unusedSimpArgs false
set_option maxHeartbeats 2000000 in
theorem swap_any (W : World) (S : Nat → Prop) (C m : Nat) (v : Value) (q : List It) (i j : Nat) (hQ : QAt W S C m v q) (hi : i < q.length) (hj : j < q.length) (hij : i ≠ j) :
    Calls Try.prog 96 #[v, .int .i64 i, .int .i64 j] W fun e w' => e = .returned (.tuple #[]) ∧ QAt w' S C m v (sw q i j) ∧ Fr W w' S := by
  obtain ⟨g, cap, cur, rfl, hS, hh, hc, hm, hs, hcur⟩ := hQ.blk (by omega)
  have b := hQ.bd
  have ci : W.cell? ⟨g, i, none⟩ = some (.pointer (some ⟨(at_ q i).1, 0, none⟩)) := (blk_cell hh i).trans (hcur i hi)
  have cj : W.cell? ⟨g, j, none⟩ = some (.pointer (some ⟨(at_ q j).1, 0, none⟩)) := (blk_cell hh j).trans (hcur j hj)
  have fi : W.frozen? ⟨g, i, none⟩ = false := blk_frozen hh i
  have fj : W.frozen? ⟨g, j, none⟩ = false := blk_frozen hh j
  have hbg : ∀ a, a < q.length → (at_ q a).1 ≠ g := fun a ha e => by
    have h1 := hQ.its a ha
    rw [e, hh] at h1
    injection h1 with h1
    injection h1 with _ h1
    exact absurd h1 (by decide)
  have hbb : (at_ q i).1 ≠ (at_ q j).1 := by
    intro e
    have h1 := List.pairwise_iff_getElem.1 hQ.nd
    rw [at_get hi, at_get hj] at e
    rcases Nat.lt_or_gt_of_ne hij with h | h
    · exact h1 i j (by simpa using hi) (by simpa using hj) h (by simpa using e)
    · exact h1 j i (by simpa using hj) (by simpa using hi) h (by simpa using e.symm)
  have hbgi := hbg i hi
  have hbgj := hbg j hj
  have hBi := hQ.its i hi
  have hBj := hQ.its j hj
  -- the world behind the exchange, and behind the first place
  obtain ⟨W2, eW2⟩ : ∃ W2, W2 = (W.setCell ⟨g, i, none⟩ (.pointer (some ⟨(at_ q j).1, 0, none⟩))).setCell ⟨g, j, none⟩ (.pointer (some ⟨(at_ q i).1, 0, none⟩)) := ⟨_, rfl⟩
  have h2 : W2.heap[g]? = some (.cells ((cur.setIfInBounds i (ptr (at_ q j))).setIfInBounds j (ptr (at_ q i))) 80 (0, 0)) := by rw [eW2]; exact blk_set (blk_set hh i _) j _
  have h2r : ∀ k, k ≠ g → W2.heap[k]? = W.heap[k]? := fun k hk => by rw [eW2]; exact (Below.heap_setCell _ ⟨g, j, none⟩ _ k hk).trans (Below.heap_setCell _ ⟨g, i, none⟩ _ k hk)
  have h2i := (h2r _ hbgi).trans hBi
  have h2j := (h2r _ hbgj).trans hBj
  have ck : (W.setCell ⟨g, i, none⟩ (.pointer (some ⟨(at_ q j).1, 0, none⟩))).cell? ⟨g, j, none⟩ = some (.pointer (some ⟨(at_ q j).1, 0, none⟩)) := by
    rw [blk_cell (blk_set hh i _) j, Array.getElem?_setIfInBounds, if_neg hij]; exact hcur j hj
  have k1 : W2.cell? ⟨g, i, none⟩ = some (.pointer (some ⟨(at_ q j).1, 0, none⟩)) := by
    rw [blk_cell h2 i, Array.getElem?_setIfInBounds, if_neg (Ne.symm hij), Array.getElem?_setIfInBounds, if_pos rfl, if_pos (by omega)]; rfl
  have k2 : W2.cell? ⟨g, j, none⟩ = some (.pointer (some ⟨(at_ q i).1, 0, none⟩)) := by
    rw [blk_cell h2 j, Array.getElem?_setIfInBounds, if_pos rfl, if_pos (by simp; omega)]; rfl
  have k3 : W2.cell? ⟨(at_ q i).1, 2, none⟩ = some (.int .i64 i) := (blk_cell h2i 2).trans rfl
  have k4 : W2.cell? ⟨(at_ q j).1, 2, none⟩ = some (.int .i64 j) := (blk_cell h2j 2).trans rfl
  have k5 : W2.frozen? ⟨(at_ q i).1, 2, none⟩ = false := blk_frozen h2i 2
  have k6 : W2.frozen? ⟨(at_ q j).1, 2, none⟩ = false := blk_frozen h2j 2
  obtain ⟨W3, eW3⟩ : ∃ W3, W3 = W2.setCell ⟨(at_ q j).1, 2, none⟩ (.int .i64 i) := ⟨_, rfl⟩
  have k7 : W3.cell? ⟨(at_ q i).1, 2, none⟩ = some (.int .i64 i) := by rw [eW3, World.cell?_of_block (Below.heap_setCell W2 ⟨(at_ q j).1, 2, none⟩ _ _ hbb)]; exact k3
  have FIN : Aside0 (∀ n1 n2 : Nat, QAt (((((W2.drewN n1).setCell ⟨(at_ q j).1, 2, none⟩ (.int .i64 i)).setCell ⟨(at_ q i).1, 2, none⟩ (.int .i64 j)).drewN n2)) S C m (.slice (some ⟨g, 0, none⟩) q.length cap) (sw q i j) ∧
      Fr W (((((W2.drewN n1).setCell ⟨(at_ q j).1, 2, none⟩ (.int .i64 i)).setCell ⟨(at_ q i).1, 2, none⟩ (.int .i64 j)).drewN n2)) S) := ⟨fun n1 n2 => by
    have h3 : ∀ k, k ≠ g → k ≠ (at_ q i).1 → k ≠ (at_ q j).1 → ((((W2.drewN n1).setCell ⟨(at_ q j).1, 2, none⟩ (.int .i64 i)).setCell ⟨(at_ q i).1, 2, none⟩ (.int .i64 j)).drewN n2).heap[k]? = W.heap[k]? := fun k hk hki hkj =>
      (Below.heap_setCell _ ⟨(at_ q i).1, 2, none⟩ _ k hki).trans ((Below.heap_setCell _ ⟨(at_ q j).1, 2, none⟩ _ k hkj).trans (h2r k hk))
    refine ⟨hQ.swapped hi hj hij hh hs ?_ ?_ ?_ h3, ⟨by rw [eW2]; rfl, by rw [eW2]; rfl, by rw [eW2]; rfl, by rw [eW2]; simp [World.setCell], fun k _ hn => h3 k (fun e => hn (e ▸ hS)) (fun e => hn (e ▸ hQ.si i hi)) (fun e => hn (e ▸ hQ.si j hj))⟩⟩
    · exact blk_drewN (blk_far (blk_far (blk_drewN h2 n1) (Ne.symm hbgj) _) (Ne.symm hbgi) _) n2
    · exact blk_drewN (blk_far (blk_put (blk_drewN h2j n1) 2 _ rfl) (Ne.symm hbb) _) n2
    · exact blk_drewN (blk_put (blk_far (blk_drewN h2i n1) hbb _) 2 _ rfl) n2⟩
  clear hQ hh hcur hij hbg h2 h2r h2i h2j hBi hBj hs hm hc
  generalize hlen : q.length = len at *
  clear hlen
  generalize (at_ q i).1 = bi at *
  generalize (at_ q j).1 = bj at *
  have EW2 := Aside0.mk eW2
  have EW3 := Aside0.mk eW3
  rw [EW3.out] at k7
  rw [EW2.out] at k1 k2 k3 k4 k5 k6 k7
  clear eW2 eW3
  go_enter Try.func96, Try.ntmps96
  go_wp2
  go_region
  go_wp2
  go_region
  rw [← EW2.out]
  go_end0
  exact ⟨rfl, FIN.out 0 2⟩
/-! ### Push and Pop -/
theorem QAt.vneT {W : World} {S : Nat → Prop} {C m : Nat} {v : Value} {q : List It} (h : QAt W S C m v q) {b : Nat} {cs : Array Value} {t : TypeId} (hb : W.heap[b]? = some (.cells cs t (0, 0))) (ht : 80 ≠ t) : some b ≠ v.ownBlock := fun e => by
  obtain ⟨cells, hc⟩ := own_typed h.row b e.symm
  rw [hb] at hc
  injection hc with hc
  injection hc with _ hc
  exact ht hc.symm
theorem at_snoc (q : List It) (x : It) (i : Nat) (hi : i < q.length) : at_ (q ++ [x]) i = at_ q i := by
  rw [at_get (by simp; omega), at_get hi, List.getElem_append_left hi]
theorem at_snoc_last (q : List It) (x : It) : at_ (q ++ [x]) q.length = x := by
  rw [at_get (by simp)]; simp
theorem QAt.vne {W : World} {S : Nat → Prop} {C m : Nat} {v : Value} {q : List It} (h : QAt W S C m v q) {b : Nat} {cs : Array Value} (hb : W.heap[b]? = some (.cells cs 83 (0, 0))) : v.ownBlock = none ∨ v.ownBlock ≠ some b := by
  refine .inr (fun e => ?_)
  obtain ⟨cells, hc⟩ := own_typed h.row b e
  rw [hb] at hc
  injection hc with hc
  injection hc with _ hc
  exact absurd hc (by decide)
set_option maxHeartbeats 2000000 in
theorem push_any (W : World) (S : Nat → Prop) (C m : Nat) (v : Value) (q : List It) (x : It) (p : Int) (hQ : QAt W S C m v q) (hx : W.heap[x.1]? = some (.cells #[.int .i64 x.2.1, .int .i64 x.2.2, .int .i64 p] 83 (0, 0))) (hS : S x.1)
    (hnew : ∀ i, i < q.length → (at_ q i).1 ≠ x.1) (hroom : q.length < 100000) :
    Calls Try.prog 98 #[.pointer (some ⟨C, 0, none⟩), .iface 80 (.pointer (some ⟨x.1, 0, none⟩))] W fun e w' => e = .returned (.tuple #[]) ∧ ∃ v', QAt w' (fun k => S k ∨ W.heap.size ≤ k) C m v' (q ++ [x]) ∧ Fr W w' S := by
  obtain ⟨A, c, rfl, hc⟩ := hQ.form
  have c0 := hQ.c0
  have f0 : W.frozen? ⟨C, 0, none⟩ = false := blk_frozen hQ.cC 0
  have x2 : W.cell? ⟨x.1, 2, none⟩ = some (.int .i64 p) := (blk_cell hx 2).trans rfl
  have xf : W.frozen? ⟨x.1, 2, none⟩ = false := blk_frozen hx 2
  have hCx : C ≠ x.1 := fun e => by
    have h1 := hx
    rw [← e, hQ.cC] at h1
    injection h1 with h1
    injection h1 with _ h1
    exact absurd h1 (by decide)
  have b := hQ.bd
  have HQ := Aside0.mk hQ
  have HX := Aside0.mk hx
  have HN := Aside0.mk hnew
  have HCX := Aside0.mk hCx
  clear hQ hx hnew hCx
  obtain ⟨i0, hi, hz0, hz1, hz2⟩ := info_parts (show (Try.prog.info? 80).map (fun i => (i.zero, i.size, i.bytes)) = some (some (.pointer none), 1, 8) by kernel_rfl)
  have hta : ∀ xt w, (Instr.typeAssert (.iface 80 (.pointer (some ⟨x.1, 0, none⟩))) xt 80 false).run Try.prog w = .ok (.pointer (some ⟨x.1, 0, none⟩)) w := fun xt w => by
    simp [Instr.typeAssert, run_underlying Try.underlying80, Result.andThen]
  have FIN : Aside0 (∀ (w1 w2 w3 : World) (v' : Value), w1.heap[x.1]? = some (.cells (itc x q.length) 83 (0, 0)) → W.grownBy w1 (some x.1) → w2.ownsRow 0 80 1 v' (q.length + 1) (q.map ptr ++ [ptr x]) → w1.grownBy w2 (Value.slice A q.length c).ownBlock →
      (v'.ownBlock = (Value.slice A q.length c).ownBlock ∨ ∃ b, v'.ownBlock = some b ∧ w1.heap.size ≤ b) → w3.heap[C]? = some (.cells #[v', .map (some m)] 79 (0, 0)) → w2.grownBy w3 (some C) →
      QAt w3 (fun k => S k ∨ W.heap.size ≤ k) C m v' (q ++ [x]) ∧ Fr W w3 S) := ⟨by
    intro w1 w2 w3 v' hb1 hg1 hown hg2 hat hb3 hg3
    have hQ := HQ.out
    have F1 : Fr W w1 S := Fr.ofGrown hg1 hS
    have F2 : Fr w1 w2 S := Fr.ofGrownO hg2 (fun g hg => hQ.sv g hg)
    have F3 : Fr w2 w3 S := Fr.ofGrown hg3 hQ.sC
    have hrow1 := hQ.row.kept hg1 (hQ.vne HX.out)
    have hCv : w2.heap[C]? = some (.cells #[.slice A q.length c, .map (some m)] 79 (0, 0)) := blk_grown (blk_grown hQ.cC hg1 (by intro e; injection e with e; exact HCX.out e)) hg2 (hQ.vneT hQ.cC (by decide))
    have hCv' : some C ≠ v'.ownBlock := fun e => by
      obtain ⟨cells, h1⟩ := own_typed hown C e.symm
      rw [hCv] at h1
      injection h1 with h1
      injection h1 with _ h1
      exact absurd h1 (by decide)
    have hlen : (q ++ [x]).length = q.length + 1 := by simp
    refine ⟨⟨hb3, ?_, ?_, ?_, .inl hQ.sC, ?_, ?_, by rw [hlen]; omega⟩, (F1.trans F2 (fun _ _ h => h)).trans F3 (fun _ _ h => h)⟩
    · rw [hlen, List.map_append]
      exact hown.kept hg3 (.inr (fun e => hCv' e.symm))
    · intro i hi
      rw [hlen] at hi
      by_cases c1 : i < q.length
      · rw [at_snoc q x i c1]
        have h1 := hQ.its i c1
        refine blk_grown (blk_grown (blk_grown h1 hg1 (by intro e; injection e with e; exact HN.out i c1 e)) hg2 (hQ.vneT h1 (by decide))) hg3 ?_
        intro e; injection e with e
        rw [e, hQ.cC] at h1
        injection h1 with h1
        injection h1 with _ h1
        exact absurd h1 (by decide)
      · have e : i = q.length := by omega
        subst e
        rw [at_snoc_last]
        exact blk_grown (blk_grown hb1 hg2 (hQ.vneT HX.out (by decide))) hg3 (by intro e; injection e with e; exact HCX.out e.symm)
    · rw [List.map_append, List.nodup_append]
      refine ⟨hQ.nd, by simp, ?_⟩
      intro a ha b hb e
      simp only [List.map_cons, List.map_nil, List.mem_singleton] at hb
      subst hb; subst e
      obtain ⟨y, hy, hyx⟩ := List.mem_map.1 ha
      obtain ⟨i, hi, hy2⟩ := List.getElem_of_mem hy
      exact HN.out i hi (by rw [at_get hi, hy2]; exact hyx)
    · intro g hg
      rcases hat with h | ⟨b, h, hb⟩
      · exact .inl (hQ.sv g (by rw [← h]; exact hg))
      · rw [h] at hg
        injection hg with hg
        subst hg
        exact .inr (Nat.le_trans hg1.size hb)
    · intro i hi
      rw [hlen] at hi
      by_cases c1 : i < q.length
      · rw [at_snoc q x i c1]; exact .inl (hQ.si i c1)
      · have e : i = q.length := by omega
        subst e
        rw [at_snoc_last]; exact .inl hS⟩
  go_enter Try.func98, Try.ntmps98
  go_wp2_with (first
    | ((with_reducible refine gate_store (t := 3) (p := 13) rfl ?_); refine store_cell rfl rfl 3 (.tmp 13) (.tmp 11) rfl (itc x q.length) rfl rfl rfl rfl HX.out (by kernel_rfl) (by simp) rfl ?_; intro w1 hb1 hg1; have HB1 := Aside0.mk hb1; have HG1 := Aside0.mk hg1; have c01 : w1.cell? ⟨C, 0, none⟩ = some (.slice A q.length c) := (blk_cell (blk_grown HQ.out.cC hg1 (by intro e; injection e with e; exact HCX.out e)) 0).trans rfl; have f01 : w1.frozen? ⟨C, 0, none⟩ = false := blk_frozen (blk_grown HQ.out.cC hg1 (by intro e; injection e with e; exact HCX.out e)) 0; clear hb1 hg1 x2 xf c0 f0)
    | (at_builtin; go_loud (refine print_append_cells (w0 := w1) 0 rfl _ _ 77 80 (.pointer none) 1 8 rfl Try.underlying77 (by kernel_rfl) rfl (by decide) (by decide) (.slice A q.length c) q.length (q.map ptr) [ptr x] rfl rfl rfl (by intro u hu; simp at hu; subst hu; rfl) (HQ.out.row.kept HG1.out (HQ.out.vne HX.out)) (Below.refl 0 w1) (Nat.zero_le _) (by omega) ?_); intro v' w2 hown hb2 hg2 hat; have HOWN := Aside0.mk hown; have HG2 := Aside0.mk hg2; have HAT := Aside0.mk hat; have hCv : w2.heap[C]? = some (.cells #[.slice A q.length c, .map (some m)] 79 (0, 0)) := blk_grown (blk_grown HQ.out.cC HG1.out (by intro e; injection e with e; exact HCX.out e)) hg2 (HQ.out.vneT HQ.out.cC (by decide)); have HCV := Aside0.mk hCv; obtain ⟨A', c', ev⟩ := own_slice hown; subst ev; clear hown hb2 hg2 hat hCv c01 f01)
    | ((with_reducible refine gate_store (t := 77) (p := 21) rfl ?_); refine store_cell rfl rfl 77 (.tmp 21) (.tmp 20) rfl (#[.slice A' (q.length + 1) c', .map (some m)]) rfl rfl rfl rfl HCV.out (by kernel_rfl) (by simp) rfl ?_; intro w3 hb3 hg3; have HB3 := Aside0.mk hb3; have HG3 := Aside0.mk hg3; clear hb3 hg3))
  go_end0
  exact ⟨rfl, _, FIN.out _ _ _ _ HB1.out HG1.out HOWN.out HG2.out HAT.out HB3.out HG3.out⟩
theorem QAt.popped {W w2 : World} {S : Nat → Prop} {C m : Nat} {q : List It} {g cap n : Nat} (hQ : QAt W S C m (.slice (some ⟨g, 0, none⟩) q.length cap) q) (hn : q.length = n + 1)
    (hb : w2.heap[C]? = some (.cells #[.slice (some ⟨g, 0, none⟩) n cap, .map (some m)] 79 (0, 0))) (hg : W.grownBy w2 (some C)) : QAt w2 S C m (.slice (some ⟨g, 0, none⟩) n cap) (q.take n) := by
  have hlen : (q.take n).length = n := by simp; omega
  have hat : ∀ i, i < n → at_ (q.take n) i = at_ q i := fun i hi => by rw [at_get (by omega), at_get (by omega), List.getElem_take]
  refine ⟨hb, ?_, ?_, ?_, hQ.sC, fun k hk => hQ.sv k hk, ?_, by have := hQ.bd; omega⟩
  · rcases hQ.row.2 with ⟨e, _⟩ | ⟨g', cap', cur, e, h0, hh, hc, hm, hs, ht⟩
    · cases e
    · injection e with e1 e2 e3
      injection e1 with e1
      injection e1 with e1
      subst e1; subst e3
      have hne : some g ≠ some C := fun e => by
        injection e with e
        rw [e, hQ.cC] at hh
        injection hh with hh
        injection hh with _ hh
        exact absurd hh (by decide)
      rw [hlen]
      refine ⟨by rw [List.length_map, hlen, Nat.mul_one], .inr ⟨g, cap, cur, rfl, h0, blk_grown hh hg hne, by omega, hm, hs, ?_⟩⟩
      have h2 := congrArg (List.take n) ht
      rw [List.take_take, ← List.map_take, Nat.min_eq_left (by omega)] at h2
      rw [Nat.mul_one]
      exact h2
  · intro i hi
    rw [hlen] at hi
    rw [hat i hi]
    have h1 := hQ.its i (by omega)
    refine blk_grown h1 hg ?_
    intro e; injection e with e
    rw [e, hQ.cC] at h1
    injection h1 with h1
    injection h1 with _ h1
    exact absurd h1 (by decide)
  · rw [List.map_take]
    exact hQ.nd.sublist (List.take_sublist _ _)
  · intro i hi
    rw [hlen] at hi
    rw [hat i hi]
    exact hQ.si i (by omega)
set_option maxHeartbeats 2000000 in
theorem pop_any (W : World) (S : Nat → Prop) (C m : Nat) (v : Value) (q : List It) (n : Nat) (hQ : QAt W S C m v q) (hn : q.length = n + 1) :
    Calls Try.prog 97 #[.pointer (some ⟨C, 0, none⟩)] W fun e w' => (∃ x, e = .returned x) ∧ ∃ v', QAt w' S C m v' (q.take n) ∧ Fr W w' S := by
  obtain ⟨g, cap, cur, rfl, hS, hh, hc, hm, hs, hcur⟩ := hQ.blk (by omega)
  have b := hQ.bd
  have c0 := hQ.c0
  have f0 : W.frozen? ⟨C, 0, none⟩ = false := blk_frozen hQ.cC 0
  have ci : W.cell? ⟨g, n, none⟩ = some (.pointer (some ⟨(at_ q n).1, 0, none⟩)) := (blk_cell hh n).trans (hcur n (by omega))
  have HQ := Aside0.mk hQ
  have HN := Aside0.mk hn
  rw [hn] at c0 hc
  have FIN : Aside0 (∀ w2, w2.heap[C]? = some (.cells #[.slice (some ⟨g, 0, none⟩) n cap, .map (some m)] 79 (0, 0)) → W.grownBy w2 (some C) → QAt w2 S C m (.slice (some ⟨g, 0, none⟩) n cap) (q.take n) ∧ Fr W w2 S) :=
    ⟨fun w2 hb hg => ⟨hQ.popped hn hb hg, Fr.ofGrown hg hQ.sC⟩⟩
  have hbC := hQ.cC
  rw [hn] at hbC
  have HBC := Aside0.mk hbC
  rw [hn] at b
  have hcm : cap ≤ 9223372036854775807 := by unfold maxLen at hm; exact hm
  clear hQ hn hh hcur hs hm hbC
  obtain ⟨i0, hi, hz0, hz1, hz2⟩ := info_parts (show (Try.prog.info? 80).map (fun i => (i.zero, i.size, i.bytes)) = some (some (.pointer none), 1, 8) by kernel_rfl)
  have hcut : ∀ w : World, (Instr.slice 77 (.slice (some ⟨g, 0, none⟩) (n + 1) cap) none (some (.int .i64 (n : Int))) none).run Try.prog w = .ok (.slice (some ⟨g, 0, none⟩) n cap) w := fun w => by
    have hel : Try.prog.elem 77 = 80 := by simp [Program.elem, Try.underlying77]
    have hu : Try.prog.underlying 77 = some (.slice (Try.prog.elem 77)) := by rw [hel]; exact Try.underlying77
    rw [run_slice_h w 77 _ (n + 1) cap hu .i64 (n : Int) (by omega) (by omega), hel]
    simp [sizeOf, typeInfo, hi, hz1, sliced, Result.andThen, Addr.add]
  go_enter Try.func97, Try.ntmps97
  go_wp2_with (first
    | ((with_reducible refine gate_store (t := 77) (p := 22) rfl ?_); refine store_cell rfl rfl 77 (.tmp 22) (.tmp 21) rfl (#[.slice (some ⟨g, 0, none⟩) n cap, .map (some m)]) rfl rfl rfl rfl HBC.out (by kernel_rfl) (by simp) rfl ?_; intro w3 hb3 hg3; have HB3 := Aside0.mk hb3; have HG3 := Aside0.mk hg3; clear hb3 hg3))
  go_ret
  exact ⟨⟨_, rfl⟩, _, FIN.out _ HB3.out HG3.out⟩
end Go.Proofs.Ytmoahkdadeiahaa.AlarmQ
