/- The document's clock: a row of items behind a pointer; without, before, Set, Clear, Next, Due over lists. -/
import Derived.Test.YtimpfiaolblgmaaAlarmDue
namespace Go.Proofs.Ytimpfiaolblgmaa.AlarmQ
open Go.Shelf Go.Maps Go.RowKit Go.Proofs.YtimpfiaolblgmaaW.PrintWords Go.Proofs.Ytimpfiaolblgmaa.AlarmMath Go.Proofs.Ytimpfiaolblgmaa.Blk Go.Proofs.Ytimpfiaolblgmaa.AlarmP
set_option linter.unusedVariables false
set_option linter.unusedSimpArgs false
/-- A row of items of one's own, made since B. -/
def cellsI (xs : List Al) : List Value := xs.flatMap fun x => [.int .i64 x.1, .int .i64 x.2]
def RowI (B : Nat) (w : World) (v : Value) (xs : List Al) : Prop := w.ownsRow B 60 2 v xs.length (cellsI xs)
theorem cellsI_snoc (xs : List Al) (x : Al) : cellsI (xs ++ [x]) = cellsI xs ++ [.int .i64 x.1, .int .i64 x.2] := by simp [cellsI]
theorem cellsI_len (xs : List Al) : (cellsI xs).length = xs.length * 2 := by
  induction xs with
  | nil => rfl
  | cons x xs ih => show (_ :: _ :: cellsI xs).length = _; simp [ih]; omega
theorem cellsI_at : ∀ (xs : List Al) (i : Nat) (x : Al), xs[i]? = some x → (cellsI xs)[i * 2]? = some (.int .i64 x.1) ∧ (cellsI xs)[i * 2 + 1]? = some (.int .i64 x.2) := by
  intro xs
  induction xs with
  | nil => intro i x h; simp at h
  | cons y xs ih =>
    intro i x h
    have e : cellsI (y :: xs) = .int .i64 y.1 :: .int .i64 y.2 :: cellsI xs := rfl
    rw [e]
    cases i with
    | zero =>
      simp at h; subst h
      exact ⟨rfl, rfl⟩
    | succ i =>
      have := ih i x (by simpa using h)
      rw [show (i + 1) * 2 = i * 2 + 2 by omega]
      exact ⟨this.1, this.2⟩
/-- A row of items that is read. -/
structure RdI (w : World) (S : Nat → Prop) (M : Nat) (A : Option Addr) (c : Nat) (l : List Al) : Prop where
  le : l.length ≤ c
  at_ : 0 < l.length → ∃ g k, A = some ⟨g, k, none⟩ ∧ S g ∧ g ≠ M ∧ g < w.heap.size ∧ ∀ i x, l[i]? = some x → w.cell? ⟨g, k + i * 2, none⟩ = some (.int .i64 x.1) ∧ w.cell? ⟨g, k + i * 2 + 1, none⟩ = some (.int .i64 x.2)
theorem RowI.rd {B : Nat} {w : World} {A : Option Addr} {n c : Nat} {l : List Al} {S : Nat → Prop} {M : Nat} (h : RowI B w (.slice A n c) l) (hS : ∀ k, B ≤ k → S k) (hM : M < B) : n = l.length ∧ RdI w S M A c l := by
  rcases h.2 with ⟨e, hn⟩ | ⟨g, cap, cur, e, hB, hh, hc, hm, hs, ht⟩
  · injection e with e1 e2 e3
    subst e1; subst e2; subst e3
    exact ⟨hn.symm, ⟨by omega, fun h0 => by omega⟩⟩
  · injection e with e1 e2 e3
    subst e1; subst e2; subst e3
    refine ⟨rfl, ⟨hc, fun h0 => ⟨g, 0, rfl, hS g hB, by omega, blk_lt hh, fun i x hi => ?_⟩⟩⟩
    have hil : i < l.length := (List.getElem?_eq_some_iff.1 hi).1
    obtain ⟨a1, a2⟩ := cellsI_at l i x hi
    rw [← ht, List.getElem?_take, if_pos (by omega)] at a1 a2
    rw [Nat.zero_add]
    exact ⟨(blk_cell hh _).trans (by simpa using a1), (blk_cell hh _).trans (by simpa using a2)⟩
theorem RdI.move {w w' : World} {S : Nat → Prop} {M : Nat} {A : Option Addr} {c : Nat} {l : List Al} (h : RdI w S M A c l) (hz : w.heap.size ≤ w'.heap.size) (hb : ∀ k, S k → k ≠ M → k < w.heap.size → w'.heap[k]? = w.heap[k]?) : RdI w' S M A c l := by
  refine ⟨h.le, fun h0 => ?_⟩
  obtain ⟨g, k, e, hS, hM, hlt, hc⟩ := h.at_ h0
  refine ⟨g, k, e, hS, hM, Nat.lt_of_lt_of_le hlt hz, fun i x hi => ?_⟩
  obtain ⟨c1, c2⟩ := hc i x hi
  have hbl := hb g hS hM hlt
  have mv : ∀ (j : Nat) (u : Value), w.cell? ⟨g, j, none⟩ = some u → w'.cell? ⟨g, j, none⟩ = some u := fun j u hu => by
    unfold World.cell? at *
    simpa [hbl] using hu
  exact ⟨mv _ _ c1, mv _ _ c2⟩
theorem RdI.tail {w : World} {S : Nat → Prop} {M g k c : Nat} {x : Al} {l : List Al} (h : RdI w S M (some ⟨g, k, none⟩) c (x :: l)) : RdI w S M (some ⟨g, k + 2, none⟩) (c - 1) l := by
  refine ⟨by have := h.le; simp at this; omega, fun h0 => ?_⟩
  obtain ⟨g', k', e, hS, hM, hlt, hc⟩ := h.at_ (by simp)
  injection e with e; injection e with e1 e2
  subst e1; subst e2
  refine ⟨g, k + 2, rfl, hS, hM, hlt, fun i y hi => ?_⟩
  have := hc (i + 1) y (by simpa using hi)
  rw [show k + (i + 1) * 2 = k + 2 + i * 2 by omega] at this
  exact this
/-- The document's clock at block M reads l; its blocks are among S. -/
structure RAt (w : World) (S : Nat → Prop) (M : Nat) (l : List Al) : Prop where
  ex : ∃ A c, w.heap[M]? = some (.cells #[.slice A l.length c] 28 (0, 0)) ∧ RdI w S M A c l
  sM : S M
  lt : ∀ k, S k → k < w.heap.size
  bd : l.length ≤ 100000
theorem RAt.move {w w' : World} {S : Nat → Prop} {M : Nat} {l : List Al} (h : RAt w S M l) (hz : w.heap.size ≤ w'.heap.size) (hb : ∀ k, S k → k < w.heap.size → w'.heap[k]? = w.heap[k]?) : RAt w' S M l := by
  obtain ⟨⟨A, c, h1, h2⟩, h3, h4, h5⟩ := h
  exact ⟨⟨A, c, (hb M h3 (h4 M h3)).trans h1, h2.move hz (fun k hk _ hlt => hb k hk hlt)⟩, h3, fun k hk => Nat.lt_of_lt_of_le (h4 k hk) hz, h5⟩
theorem RAt.mono {w : World} {S S' : Nat → Prop} {M : Nat} {l : List Al} (h : RAt w S M l) (hs : ∀ k, S k → S' k) (hl : ∀ k, S' k → k < w.heap.size) : RAt w S' M l := by
  obtain ⟨⟨A, c, h1, h2⟩, h3, h4, h5⟩ := h
  refine ⟨⟨A, c, h1, ⟨h2.le, fun h0 => ?_⟩⟩, hs M h3, hl, h5⟩
  obtain ⟨g, k, e, g1, g2, g3, g4⟩ := h2.at_ h0
  exact ⟨g, k, e, hs g g1, g2, g3, g4⟩
theorem RAt.below {w w' : World} {S : Nat → Prop} {M : Nat} {l : List Al} (h : RAt w S M l) (hb : Below w.heap.size w w') : RAt w' S M l := h.move hb.size (fun k _ hk => hb.block k hk)
theorem RAt.fr {w w' : World} {S T : Nat → Prop} {M : Nat} {l : List Al} (h : RAt w S M l) (hf : Fr w w' T) (hd : ∀ k, S k → ¬ T k) : RAt w' S M l := h.move hf.size (fun k hk hlt => hf.block k hlt (hd k hk))
/-- The row is another one: made since. -/
theorem RAt.row {w w' : World} {S : Nat → Prop} {B M : Nat} {A : Option Addr} {n c : Nat} {l' : List Al} (hS : ∀ k, S k → k < B) (hM : S M) (hz : B ≤ w.heap.size) (hR : RowI B w (.slice A n c) l') (hb' : l'.length ≤ 100000)
    (hblk : w'.heap[M]? = some (.cells #[.slice A l'.length c] 28 (0, 0))) (hg : w.grownBy w' (some M)) : RAt w' (fun k => (S k ∨ B ≤ k) ∧ k < w'.heap.size) M l' := by
  have hR' : RowI B w' (.slice A n c) l' := own_move hR (fun k hk => hg.block k (hR.lt k hk).2 (fun e => by injection e with e; subst e; have := own_base hR _ hk; have := hS _ hM; omega))
  obtain ⟨_, hr⟩ := hR'.rd (S := fun k => (S k ∨ B ≤ k)) (fun k hk => .inr hk) (hS M hM)
  refine ⟨⟨A, c, hblk, ⟨hr.le, fun h0 => ?_⟩⟩, ⟨.inl hM, blk_lt hblk⟩, fun k hk => hk.2, hb'⟩
  obtain ⟨g, k, e, h1, h2, h3, h4⟩ := hr.at_ h0
  exact ⟨g, k, e, ⟨h1, h3⟩, h2, h3, h4⟩
def WoR (W : World) (S : Nat → Prop) (M : Nat) (l : List Al) (id : Int) (e : Ending) (w' : World) : Prop :=
  e = .returned (.bool (decide ((wo l id).length < l.length))) ∧ RAt w' (fun k => (S k ∨ W.heap.size ≤ k) ∧ k < w'.heap.size) M (wo l id) ∧ Fr W w' S
theorem wo_take (l : List Al) (id : Int) (n : Nat) (h : n < l.length) : wo (l.take (n + 1)) id = wo (l.take n) id ++ (if l[n].1 ≠ id then [l[n]] else []) := by
  unfold wo
  rw [List.take_succ_eq_append_getElem h, List.filter_append]
  congr 1
  by_cases c : l[n].1 = id <;> simp [c]
theorem wo_le (l : List Al) (id : Int) (n : Nat) : (wo (l.take n) id).length ≤ l.length := Nat.le_trans (List.length_filter_le _ _) (by simp; omega)
set_option maxHeartbeats 4000000 in
theorem without_any (W : World) (S : Nat → Prop) (M : Nat) (l : List Al) (hC : RAt W S M l) (id : Int) :
    Calls Try.prog 21 #[.pointer (some ⟨M, 0, none⟩), .int .i64 id] W (WoR W S M l id) := by
  obtain ⟨⟨A, c, hM, hR⟩, hSM, hlt, hbd⟩ := hC
  have HM := Aside0.mk hM
  have HR := Aside0.mk hR
  have HS := Aside0.mk hSM
  have HLT := Aside0.mk hlt
  clear hM hR hSM hlt
  go_enter Try.func21, Try.ntmps21
  go_wp2
  go_loopw [5, 6] (fun v i wr => ∃ (A1 : Option Addr) (c1 n : Nat) (l1 : List Al), v = .slice A1 l1.length c1 ∧ i = .int .i64 n ∧ n ≤ l.length ∧ l1.length ≤ n ∧ Aside0 (l1 = wo (l.take n) id) ∧ Aside0 (RowI W.heap.size wr v l1) ∧ Aside0 (Below W.heap.size W wr)) (fun _ i _ => l.length - (intOf i).toNat)
  case atStart => exact ⟨none, 0, 0, [], rfl, rfl, by omega, by simp, ⟨rfl⟩, ⟨⟨rfl, .inl ⟨rfl, rfl⟩⟩⟩, ⟨Below.refl _ _⟩⟩
  case round =>
    obtain ⟨A1, c1, n, l1, rfl, rfl, hn, hl1, HE, HV, HB⟩ := hrel
    have hMr := (HB.out.block M (blk_lt HM.out)).trans HM.out
    have m0 : wr.cell? ⟨M, 0, none⟩ = some (.slice A l.length c) := (blk_cell hMr 0).trans rfl
    have mf := blk_frozen hMr 0
    have HMr := Aside0.mk hMr
    clear hMr
    by_cases hlt : n < l.length
    · obtain ⟨g, k0, rfl, hSg, hgM, hgl, hc⟩ := HR.out.at_ (by omega)
      obtain ⟨c0, c1'⟩ := hc n l[n] (List.getElem?_eq_getElem hlt)
      have i0 := HB.out.cell (p := ⟨g, k0 + n * 2, none⟩) (w := W) hgl
      have i1 := HB.out.cell (p := ⟨g, k0 + n * 2 + 1, none⟩) (w := W) hgl
      rw [c0] at i0
      rw [c1'] at i1
      clear c0 c1' hc hSg hgM hgl
      have HX := Aside0.mk (wo_take l id n hlt)
      generalize l[n] = x at i0 i1 HX
      by_cases hx : x.1 = id
      · have hd : (x.1 != id) = false := by simp [hx]
        rw [if_neg (fun h => h hx)] at HX
        clear hx
        go_wp2
        go_roundw
        case rel => exact ⟨A1, c1, n + 1, l1, rfl, by go_num, by omega, by omega, ⟨by rw [HX.out, List.append_nil]; exact HE.out⟩, HV, HB⟩
        case measure => simp [intOf]; omega
      · have hd : (x.1 != id) = true := by simp [hx]
        rw [if_pos hx] at HX
        have hbz := HB.out.size
        clear hx
        go_wp2_with (at_builtin; go_loud (refine print_append_cells (w0 := W) W.heap.size rfl _ _ 26 60 (.agg #[.int .i64 0, .int .i64 0]) 2 16 rfl Try.underlying26 (by kernel_rfl) rfl (by decide) (by decide) (.slice A1 l1.length c1) l1.length (cellsI l1) [.int .i64 x.1, .int .i64 x.2] rfl rfl rfl (by intro u hu; simp at hu; rcases hu with rfl | rfl <;> rfl) HV.out HB.out hbz (by omega) ?_); intro v2 w2 hown hb2 hg2 hat; rw [← cellsI_snoc] at hown; have HR2 : Aside0 (RowI W.heap.size w2 v2 (l1 ++ [x])) := ⟨by unfold RowI; rw [List.length_append]; exact hown⟩; have HB2 := Aside0.mk hb2; obtain ⟨A', c', ev⟩ := own_slice hown; subst ev; clear hown hb2 hg2 hat)
        go_roundw
        case rel => exact ⟨A', c', n + 1, l1 ++ [x], by simp, by go_num, by omega, by simp; omega, ⟨by rw [HX.out, HE.out]⟩, ⟨by have := HR2.out; simpa using this⟩, HB2⟩
        case measure => simp [intOf]; omega
    · obtain rfl : n = l.length := by omega
      have HE' : Aside0 (l1 = wo l id) := ⟨by have := HE.out; rwa [List.take_length] at this⟩
      clear HE
      go_wp2_with (first
        | ((with_reducible refine gate_store (t := 26) (p := 48) rfl ?_); refine store_cell rfl rfl 26 (.tmp 48) (.tmp 46) rfl (#[.slice A1 l1.length c1]) rfl rfl rfl rfl HMr.out (by kernel_rfl) (by simp) rfl ?_; intro w3 hb3 hg3; have HB3 := Aside0.mk hb3; have HG3 := Aside0.mk hg3; clear hb3 hg3))
      go_ret
      have e1 := HE'.out
      subst e1
      refine ⟨rfl, RAt.row HLT.out HS.out HB.out.size HV.out (Nat.le_trans hl1 hbd) HB3.out HG3.out, ?_⟩
      exact (Fr.ofBelow HB.out S).trans (Fr.ofGrown HG3.out HS.out) (fun _ _ h => h)
end Go.Proofs.Ytimpfiaolblgmaa.AlarmQ
