/- The document's clock: Set. -/
import Derived.Test.YtimpfiaolblgmaaAlarmRef
import Derived.Test.YtimpfiaolblgmaaX1
namespace Go.Proofs.Ytimpfiaolblgmaa.AlarmQ
open Go.Shelf Go.Maps Go.RowKit Go.Proofs.YtimpfiaolblgmaaW.PrintWords Go.Proofs.Ytimpfiaolblgmaa.AlarmMath Go.Proofs.Ytimpfiaolblgmaa.Blk Go.Proofs.Ytimpfiaolblgmaa.AlarmP
set_option linter.unusedVariables false
set_option linter.unusedSimpArgs false
theorem before_any (a b : Al) (w : World) : Calls Try.prog 22 #[.agg #[.int .i64 a.1, .int .i64 a.2], .agg #[.int .i64 b.1, .int .i64 b.2]] w fun e w' => e = .returned (.bool (befB a b)) ∧ Below w.heap.size w w' := by
  refine X.folkmootref06_before.calls a.1 a.2 b.1 b.2 (befB a b) w ?_
  unfold X.folkmootref06_before.f befB
  by_cases h : a.2 < b.2
  · rw [if_pos h]; simp [h]
  · rw [if_neg h]
    by_cases h2 : a.2 = b.2
    · rw [if_pos h2]; simp [h, h2]
    · rw [if_neg h2]; simp [h, h2]
def RSetR (W : World) (S : Nat → Prop) (M : Nat) (l : List Al) (id t : Int) (e : Ending) (w' : World) : Prop :=
  e = .returned (.tuple #[]) ∧ RAt w' (fun k => (S k ∨ W.heap.size ≤ k) ∧ k < w'.heap.size) M (rSet l id t) ∧ Fr W w' S
theorem insA_len (x : Al) (l : List Al) : (insA x l).length = l.length + 1 := by have := (insA_perm x l).length_eq; simpa using this
theorem insA_in {x y : Al} {l : List Al} (h : befB x y = true) : insA x (y :: l) = x :: y :: l := by unfold insA; rw [if_pos h]
theorem insA_on {x y : Al} {l : List Al} (h : befB x y = false) : insA x (y :: l) = y :: insA x l := by rw [insA, if_neg (by rw [h]; simp)]
def tl (b : Bool) (x : Al) (l : List Al) : List Al := if b then l else insA x l
theorem tl_t (x : Al) (l : List Al) : tl true x l = l := rfl
theorem tl_f (x : Al) (l : List Al) : tl false x l = insA x l := rfl
set_option maxHeartbeats 8000000 in
theorem rset_any (W : World) (S : Nat → Prop) (M : Nat) (l : List Al) (hC : RAt W S M l) (id t : Int) (hb : (wo l id).length < 100000) :
    Calls Try.prog 9 #[.pointer (some ⟨M, 0, none⟩), .int .i64 id, .int .i64 t] W (RSetR W S M l id t) := by
  have HC := Aside0.mk hC
  clear hC
  go_enter Try.func9, Try.ntmps9
  go_wp2_with fail
  refine (without_any W S M l HC.out id).mono ?_
  rintro e w1 ⟨rfl, hR1, hF1⟩
  have HF1 := Aside0.mk hF1
  generalize hl' : wo l id = l' at *
  have HL := Aside0.mk hl'
  obtain ⟨⟨A, c, hM, hRd⟩, hSM, hlt, hbd⟩ := hR1
  have HM := Aside0.mk hM
  have HRd := Aside0.mk hRd
  have HSM := Aside0.mk hSM
  have HLT := Aside0.mk hlt
  clear hl' hF1 hM hRd hSM hlt hbd HC
  go_wp2_with fail
  obtain ⟨w2, hw2⟩ : ∃ w2, w2 = w1.alloc (.cells #[.int .i64 id, .int .i64 t] 60) := ⟨_, rfl⟩
  have h12 : Below w1.heap.size w1 w2 := by rw [hw2]; exact below_alloc (Below.refl _ _) _
  have HX := Aside0.mk (show w2.heap[w1.heap.size]? = some (.cells #[.int .i64 id, .int .i64 t] 60 (0, 0)) by rw [hw2]; exact blk_new w1 _)
  have HM2 : Aside0 (w2.heap[M]? = some (.cells #[.slice A l'.length c] 28 (0, 0))) := ⟨(h12.block M HSM.out.2).trans HM.out⟩
  have HRd2 : Aside0 (RdI w2 (fun k => (S k ∨ W.heap.size ≤ k) ∧ k < w1.heap.size) M A c l') := ⟨HRd.out.move h12.size (fun k _ _ hk => h12.block k hk)⟩
  have HF2 : Aside0 (Fr W w2 S) := ⟨HF1.out.trans (Fr.ofBelow h12 S) (fun _ _ h => h)⟩
  have HZ12 := Aside0.mk h12.size
  have HXl := Aside0.mk (blk_lt HX.out)
  have HMl := Aside0.mk (blk_lt HM2.out)
  rw [← hw2]
  clear hw2 h12 HM HRd HF1
  generalize w1.heap.size = B at *
  go_loopw [7, 8, 9] (fun v b i wr => ∃ (A1 : Option Addr) (c1 n : Nat) (l1 : List Al) (bb : Bool), v = .slice A1 l1.length c1 ∧ b = .bool bb ∧ i = .int .i64 n ∧ n ≤ l'.length ∧ l1.length ≤ n + bb.toNat ∧ Aside0 (l1 ++ tl bb (id, t) (l'.drop n) = insA (id, t) l') ∧ Aside0 (RowI w2.heap.size wr v l1) ∧ Aside0 (Below w2.heap.size w2 wr)) (fun _ _ i _ => l'.length - (intOf i).toNat)
  case atStart => exact ⟨none, 0, 0, [], false, rfl, rfl, rfl, by omega, by simp, ⟨by rw [tl_f]; rfl⟩, ⟨⟨rfl, .inl ⟨rfl, rfl⟩⟩⟩, ⟨Below.refl _ _⟩⟩
  case round =>
    obtain ⟨A1, c1, n, l1, bb, rfl, rfl, rfl, hn, hl1, HE, HV, HB⟩ := hrel
    have FACT : Aside0 (∀ wr', Below w2.heap.size w2 wr' → wr'.heap[M]? = some (.cells #[.slice A l'.length c] 28 (0, 0)) ∧ wr'.cell? ⟨M, 0, none⟩ = some (.slice A l'.length c) ∧ wr'.frozen? ⟨M, 0, none⟩ = false ∧ wr'.cell? ⟨B, 0, none⟩ = some (.int .i64 id) ∧ wr'.cell? ⟨B, 1, none⟩ = some (.int .i64 t)) := ⟨by
      intro wr' hb
      have hMr := (hb.block M HMl.out).trans HM2.out
      have hXr := (hb.block B HXl.out).trans HX.out
      exact ⟨hMr, (blk_cell hMr 0).trans rfl, blk_frozen hMr 0, (blk_cell hXr 0).trans rfl, (blk_cell hXr 1).trans rfl⟩⟩
    obtain ⟨hMr, m0, mf, x0, x1⟩ := FACT.out wr HB.out
    have HMr := Aside0.mk hMr
    clear hMr
    by_cases hlt : n < l'.length
    · obtain ⟨g, k0, rfl, hSg, hgM, hgl, hc⟩ := HRd2.out.at_ (by omega)
      obtain ⟨c0, c1'⟩ := hc n l'[n] (List.getElem?_eq_getElem hlt)
      have HD := Aside0.mk (List.drop_eq_getElem_cons hlt)
      generalize l'[n] = y at c0 c1' HD
      have ITEM : Aside0 (∀ wr', Below w2.heap.size w2 wr' → wr'.cell? ⟨g, k0 + n * 2, none⟩ = some (.int .i64 y.1) ∧ wr'.cell? ⟨g, k0 + n * 2 + 1, none⟩ = some (.int .i64 y.2)) := ⟨by
        intro wr' hb
        exact ⟨(hb.cell (p := ⟨g, k0 + n * 2, none⟩) (w := w2) hgl).trans c0, (hb.cell (p := ⟨g, k0 + n * 2 + 1, none⟩) (w := w2) hgl).trans c1'⟩⟩
      obtain ⟨i0, i1⟩ := ITEM.out wr HB.out
      clear c0 c1' hc hSg hgM hgl
      have HZ := Aside0.mk HB.out.size
      cases bb with
      | true =>
        have hl1 : l1.length ≤ n + 1 := hl1
        go_wp2_with fail
        go_quiet (fail)
        generalize hw3 : World.drewN _ _ = w3
        have HV3 : Aside0 (RowI w2.heap.size w3 (.slice A1 l1.length c1) l1) := ⟨by rw [← hw3]; exact own_move HV.out (fun _ _ => rfl)⟩
        have HB3 : Aside0 (Below w2.heap.size w2 w3) := ⟨by rw [← hw3]; exact pw_below_drewN HB.out _⟩
        have HZ3 := Aside0.mk HB3.out.size
        clear hw3 m0 mf x0 x1 i0 i1 HMr
        obtain ⟨hMr, m0, mf, x0, x1⟩ := FACT.out w3 HB3.out
        obtain ⟨i0, i1⟩ := ITEM.out w3 HB3.out
        clear hMr
        go_wp2_with (at_builtin; (refine print_append_cells (w0 := w2) w2.heap.size rfl _ _ 26 60 (.agg #[.int .i64 0, .int .i64 0]) 2 16 rfl Try.underlying26 (by kernel_rfl) rfl (by decide) (by decide) (.slice A1 l1.length c1) l1.length (cellsI l1) [.int .i64 y.1, .int .i64 y.2] rfl rfl rfl (by intro u hu; simp at hu; rcases hu with rfl | rfl <;> rfl) HV3.out HB3.out HZ3.out (by omega) ?_; intro v4 w4 hown hb2 hg2 hat; rw [← cellsI_snoc] at hown; have HV4 : Aside0 (RowI w2.heap.size w4 v4 (l1 ++ [y])) := ⟨by unfold RowI; simp only [List.length_append, List.length_cons, List.length_nil]; exact hown⟩; have HB4 := Aside0.mk hb2; have HZ4 := Aside0.mk hb2.size; obtain ⟨A4, c4, ev⟩ := own_slice hown; subst ev; clear hown hb2 hg2 hat))
        go_roundw
        case rel => exact ⟨A4, c4, n + 1, l1 ++ [y], true, by simp, rfl, by go_num, by omega, by simp; omega, ⟨by rw [List.append_assoc]; have := HE.out; rw [tl_t, HD.out] at this; rw [tl_t]; exact this⟩, ⟨by have := HV4.out; simpa using this⟩, HB4⟩
        case measure => simp [intOf]; omega
      | false =>
        have hl1 : l1.length ≤ n := hl1
        cases hbf : befB (id, t) y with
        | true =>
          have HBF := Aside0.mk hbf
          clear hbf
          go_wp2_with fail
          go_still_tail 11, (by kernel_rfl)
          change wpList _ _ _ _ _ wr.drew
          generalize hw3 : wr.drew = w3
          have HV3 : Aside0 (RowI w2.heap.size w3 (.slice A1 l1.length c1) l1) := ⟨by rw [← hw3]; exact own_move HV.out (fun _ _ => rfl)⟩
          have HB3 : Aside0 (Below w2.heap.size w2 w3) := ⟨by rw [← hw3]; exact below_drew HB.out⟩
          clear hw3 m0 mf x0 x1 i0 i1 HMr
          go_wp2_with fail
          refine (before_any (id, t) y w3).mono ?_
          rintro e w4 ⟨rfl, hb4⟩
          have HB4 := Aside0.mk (below_then HB3.out HB3.out.size hb4)
          have HV4 : Aside0 (RowI w2.heap.size w4 (.slice A1 l1.length c1) l1) := ⟨own_move HV3.out (fun k hk => hb4.block k (HV3.out.lt k hk).2)⟩
          have HZ4 := Aside0.mk HB4.out.size
          rw [HBF.out]
          clear hb4 HV3 HB3 HV HB
          obtain ⟨hMr, m0, mf, x0, x1⟩ := FACT.out w4 HB4.out
          obtain ⟨i0, i1⟩ := ITEM.out w4 HB4.out
          clear hMr
          go_wp2_with (at_builtin; (first | (refine print_append_cells (w0 := w2) w2.heap.size rfl _ _ 26 60 (.agg #[.int .i64 0, .int .i64 0]) 2 16 rfl Try.underlying26 (by kernel_rfl) rfl (by decide) (by decide) (.slice A1 l1.length c1) l1.length (cellsI l1) [.int .i64 id, .int .i64 t] rfl rfl rfl (by intro u hu; simp at hu; rcases hu with rfl | rfl <;> rfl) HV4.out HB4.out HZ4.out (by omega) ?_; intro v5 w5 hown hb2 hg2 hat; rw [show cellsI l1 ++ [.int .i64 id, .int .i64 t] = cellsI (l1 ++ [(id, t)]) from (cellsI_snoc l1 (id, t)).symm] at hown; have HV5 : Aside0 (RowI w2.heap.size w5 v5 (l1 ++ [(id, t)])) := ⟨by unfold RowI; simp only [List.length_append, List.length_cons, List.length_nil]; exact hown⟩; have HB5 := Aside0.mk hb2; have HZ5 := Aside0.mk hb2.size; obtain ⟨A5, c5, ev⟩ := own_slice hown; subst ev; clear hown hb2 hg2 hat; clear m0 mf x0 x1 i0 i1; obtain ⟨hMr, m0, mf, x0, x1⟩ := FACT.out w5 HB5.out; obtain ⟨i0, i1⟩ := ITEM.out w5 HB5.out; clear hMr; have HV5' : Aside0 (w5.ownsRow w2.heap.size 60 2 (.slice A5 (l1.length + 1) c5) (l1.length + 1) (cellsI (l1 ++ [(id, t)]))) := ⟨by have := HV5.out; unfold RowI at this; simpa using this⟩) | (refine print_append_cells (w0 := w2) w2.heap.size rfl _ _ 26 60 (.agg #[.int .i64 0, .int .i64 0]) 2 16 rfl Try.underlying26 (by kernel_rfl) rfl (by decide) (by decide) (.slice A5 (l1.length + 1) c5) (l1.length + 1) (cellsI (l1 ++ [(id, t)])) [.int .i64 y.1, .int .i64 y.2] rfl rfl rfl (by intro u hu; simp at hu; rcases hu with rfl | rfl <;> rfl) HV5'.out HB5.out HZ5.out (by omega) ?_; intro v6 w6 hown hb2 hg2 hat; rw [← cellsI_snoc] at hown; have HV6 : Aside0 (RowI w2.heap.size w6 v6 ((l1 ++ [(id, t)]) ++ [y])) := ⟨by unfold RowI; simp only [List.length_append, List.length_cons, List.length_nil]; exact hown⟩; have HB6 := Aside0.mk hb2; have HZ6 := Aside0.mk hb2.size; obtain ⟨A6, c6, ev⟩ := own_slice hown; subst ev; clear hown hb2 hg2 hat)))
          go_roundw
          case rel => exact ⟨A6, c6, n + 1, (l1 ++ [(id, t)]) ++ [y], true, by simp, rfl, by go_num, by omega, by simp; omega, ⟨by have := HE.out; rw [tl_f, HD.out, insA_in HBF.out] at this; rw [tl_t]; simpa using this⟩, ⟨by have := HV6.out; simpa using this⟩, HB6⟩
          case measure => simp [intOf]; omega
        | false =>
          have HBF := Aside0.mk hbf
          clear hbf
          go_wp2_with fail
          go_still_tail 11, (by kernel_rfl)
          change wpList _ _ _ _ _ wr.drew
          generalize hw3 : wr.drew = w3
          have HV3 : Aside0 (RowI w2.heap.size w3 (.slice A1 l1.length c1) l1) := ⟨by rw [← hw3]; exact own_move HV.out (fun _ _ => rfl)⟩
          have HB3 : Aside0 (Below w2.heap.size w2 w3) := ⟨by rw [← hw3]; exact below_drew HB.out⟩
          clear hw3 m0 mf x0 x1 i0 i1 HMr
          go_wp2_with fail
          refine (before_any (id, t) y w3).mono ?_
          rintro e w4 ⟨rfl, hb4⟩
          have HB4 := Aside0.mk (below_then HB3.out HB3.out.size hb4)
          have HV4 : Aside0 (RowI w2.heap.size w4 (.slice A1 l1.length c1) l1) := ⟨own_move HV3.out (fun k hk => hb4.block k (HV3.out.lt k hk).2)⟩
          have HZ4 := Aside0.mk HB4.out.size
          rw [HBF.out]
          clear hb4 HV3 HB3 HV HB
          obtain ⟨hMr, m0, mf, x0, x1⟩ := FACT.out w4 HB4.out
          obtain ⟨i0, i1⟩ := ITEM.out w4 HB4.out
          clear hMr
          go_wp2_with (at_builtin; (refine print_append_cells (w0 := w2) w2.heap.size rfl _ _ 26 60 (.agg #[.int .i64 0, .int .i64 0]) 2 16 rfl Try.underlying26 (by kernel_rfl) rfl (by decide) (by decide) (.slice A1 l1.length c1) l1.length (cellsI l1) [.int .i64 y.1, .int .i64 y.2] rfl rfl rfl (by intro u hu; simp at hu; rcases hu with rfl | rfl <;> rfl) HV4.out HB4.out HZ4.out (by omega) ?_; intro v5 w5 hown hb2 hg2 hat; rw [← cellsI_snoc] at hown; have HV5 : Aside0 (RowI w2.heap.size w5 v5 (l1 ++ [y])) := ⟨by unfold RowI; simp only [List.length_append, List.length_cons, List.length_nil]; exact hown⟩; have HB5 := Aside0.mk hb2; have HZ5 := Aside0.mk hb2.size; obtain ⟨A5, c5, ev⟩ := own_slice hown; subst ev; clear hown hb2 hg2 hat))
          go_roundw
          case rel => exact ⟨A5, c5, n + 1, l1 ++ [y], false, by simp, rfl, by go_num, by omega, by simp; omega, ⟨by have := HE.out; rw [tl_f, HD.out, insA_on HBF.out] at this; rw [tl_f]; simpa using this⟩, ⟨by have := HV5.out; simpa using this⟩, HB5⟩
          case measure => simp [intOf]; omega
    · obtain rfl : n = l'.length := by omega
      have HZ := Aside0.mk HB.out.size
      have HBZ := Aside0.mk HXl.out
      have LAST : Aside0 (∀ (wr w' : World) (A' : Option Addr) (c' : Nat) (l2 : List Al), l2 = insA (id, t) l' → l2.length ≤ 100000 → RowI w2.heap.size wr (.slice A' l2.length c') l2 → Below w2.heap.size w2 wr → w'.heap[M]? = some (.cells #[.slice A' l2.length c'] 28 (0, 0)) → wr.grownBy w' (some M) → RSetR W S M l id t (.returned (.tuple #[])) w') := ⟨by
        intro wr w' A' c' l2 e hl2 hv hb h3 g3
        subst e
        have r := RAt.row (S := fun k => (S k ∨ W.heap.size ≤ k) ∧ k < w2.heap.size) (fun k hk => hk.2) ⟨HSM.out.1, HMl.out⟩ hb.size hv hl2 h3 g3
        have e2 : rSet l id t = insA (id, t) l' := by rw [← HL.out]; rfl
        unfold RSetR
        rw [e2]
        refine ⟨rfl, r.mono (fun k hk => ⟨?_, hk.2⟩) (fun k hk => hk.2), (HF2.out.trans (Fr.ofBelow hb S) (fun _ _ h => h)).trans (Fr.ofGrown (S := fun k => k = M) g3 rfl) (fun k hk e => ?_)⟩
        · rcases hk.1 with h | h
          · exact h.1
          · exact .inr (Nat.le_trans HF2.out.size h)
        · subst e
          exact HSM.out.1.resolve_right (by omega)⟩
      cases bb with
      | true =>
        have hl1 : l1.length ≤ l'.length + 1 := hl1
        have HE' : Aside0 (l1 = insA (id, t) l') := ⟨by have := HE.out; rw [tl_t, List.drop_length, List.append_nil] at this; exact this⟩
        clear HE
        go_wp2_with (first
          | ((with_reducible refine gate_store (t := 26) (p := 61) rfl ?_); refine store_cell rfl rfl 26 (.tmp 61) (.tmp 59) rfl (#[.slice A1 l1.length c1]) rfl rfl rfl rfl HMr.out (by kernel_rfl) (by simp) rfl ?_; intro w3 hb3 hg3; have HB3 := Aside0.mk hb3; have HG3 := Aside0.mk hg3; clear hb3 hg3))
        go_end0
        exact LAST.out _ _ _ _ _ HE'.out (by omega) HV.out HB.out HB3.out HG3.out
      | false =>
        have hl1 : l1.length ≤ l'.length := hl1
        have HE' : Aside0 (l1 ++ [(id, t)] = insA (id, t) l') := ⟨by have := HE.out; rw [tl_f, List.drop_length] at this; exact this⟩
        clear HE
        go_wp2_with (first
          | (at_builtin; (refine print_append_cells (w0 := w2) w2.heap.size rfl _ _ 26 60 (.agg #[.int .i64 0, .int .i64 0]) 2 16 rfl Try.underlying26 (by kernel_rfl) rfl (by decide) (by decide) (.slice A1 l1.length c1) l1.length (cellsI l1) [.int .i64 id, .int .i64 t] rfl rfl rfl (by intro u hu; simp at hu; rcases hu with rfl | rfl <;> rfl) HV.out HB.out HZ.out (by omega) ?_; intro v3 w3 hown hb2 hg2 hat; rw [show cellsI l1 ++ [.int .i64 id, .int .i64 t] = cellsI (l1 ++ [(id, t)]) from (cellsI_snoc l1 (id, t)).symm] at hown; have HV3 : Aside0 (RowI w2.heap.size w3 v3 (l1 ++ [(id, t)])) := ⟨by unfold RowI; simp only [List.length_append, List.length_cons, List.length_nil]; exact hown⟩; have HB3 := Aside0.mk hb2; have HZ3 := Aside0.mk hb2.size; obtain ⟨A3, c3, ev⟩ := own_slice hown; subst ev; clear hown hb2 hg2 hat; clear m0 mf x0 x1; obtain ⟨hMr, m0, mf, x0, x1⟩ := FACT.out w3 HB3.out; have HMr := Aside0.mk hMr; clear hMr))
          | ((with_reducible refine gate_store (t := 26) (p := 61) rfl ?_); refine store_cell rfl rfl 26 (.tmp 61) (.tmp 59) rfl (#[.slice A3 (l1.length + 1) c3]) rfl rfl rfl rfl HMr.out (by kernel_rfl) (by simp) rfl ?_; intro w4 hb3 hg3; have HB4 := Aside0.mk hb3; have HG4 := Aside0.mk hg3; clear hb3 hg3))
        go_end0
        exact LAST.out _ _ _ _ _ HE'.out (by simp; omega) (by have := HV3.out; simpa using this) HB3.out (by have := HB4.out; simpa using this) HG4.out
end Go.Proofs.Ytimpfiaolblgmaa.AlarmQ
