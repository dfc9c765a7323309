/- Whole blocks and single cells stored in one step of a walk: the world behind it is a letter. They hold over every program. -/
import Derived.Test.YtmoahkdadeiahaaWWords
import Derived.Laws.Rows
namespace Go.Proofs.Ytmoahkdadeiahaa.Blk
open Go.RowKit Go.Proofs.YtmoahkdadeiahaaW.PrintWords
section
variable {P : Program} {ops : Array Oper} {rest : List Oper} {o : Oper} {a : Act} {Q : Exit → Act → World → Prop} {W : World}
/-- A struct is read out of a whole block. -/
theorem load_row_e (hgd : o.guard = none) (ty : TypeId) (x : Operand) (ho : o.op = .load ty x) {g : Nat} (hx : a.eval x = .pointer (some ⟨g, 0, none⟩)) {t : TypeId} {cs cs' : Array Value} {d : TypeDesc} (hg : W.heap[g]? = some (.cells cs t (0, 0)))
    (he : cs = cs') (hu : P.underlying ty = some d) (hd : (match d with | .struct _ | .array _ _ => true | _ => false) = true) (hi : (P.info? ty).map (·.size) = some cs'.size)
    (h : wpList P ops Q rest (a.put o.dst (.agg cs')) W) : wpList P ops Q (o :: rest) a W := by
  subst he
  exact wpList_load_row hgd ty x ho g hx t cs (0, 0) d hg hu hd hi h
/-- One cell is read out of a block. -/
theorem load_cell_e (hgd : o.guard = none) (ty : TypeId) (x : Operand) (ho : o.op = .load ty x) {g j : Nat} (hx : a.eval x = .pointer (some ⟨g, j, none⟩)) {t : TypeId} {cs : Array Value} {u : Value} {d : TypeDesc} (hg : W.heap[g]? = some (.cells cs t (0, 0)))
    (he : cs[j]? = some u) (hu : P.underlying ty = some d) (hd : (match d with | .struct _ | .array _ _ => false | _ => true) = true)
    (h : wpList P ops Q rest (a.put o.dst u) W) : wpList P ops Q (o :: rest) a W := by
  have hc : W.cell? ⟨g, j, none⟩ = some u := (blk_cell hg j).trans he
  have hagg : (isAgg ty).run P W = .ok false W := by
    unfold isAgg
    rw [Sem.run_bind, run_underlying hu W]
    cases d <;> simp_all
  have hrun : (loadVar ty ⟨g, j, none⟩).run P W = .ok u W := by
    simp [loadVar, Sem.run_bind, hagg, run_load, hc]
  refine wpList_plain hgd fun K hK => ?_
  unfold Oper.wp execOp
  simp only [ho, hx, Instr.loadAt, Instr.sureAddr, Sem.run_bind, Sem.run_pure, Result.andThen_ok, hrun]
  exact hK _ _ h
/-- A run of cells of a block is written; g's block behind it, the rest of memory as it was. -/
theorem store_seg (hgd : o.guard = none) (hN : o.dst = none) (t : TypeId) (p x : Operand) (ho : o.op = .store t p x) {g j : Nat} {cs : Array Value} (cs' : Array Value) {ty : TypeId} {u : Value} {seg : List Value}
    (hp : a.eval p = .pointer (some ⟨g, j, none⟩)) (hx : a.eval x = u) (hu : u.cells.toList = seg) (hb : W.heap[g]? = some (.cells cs ty (0, 0))) (ht : (P.info? t).map (·.size) = some seg.length)
    (hfit : j + seg.length ≤ cs.size) (h1 : ∀ q ∈ seg, q.oneCell' = true) (he : cs'.toList = cs.toList.take j ++ seg ++ cs.toList.drop (j + seg.length))
    (h : ∀ w', w'.heap[g]? = some (.cells cs' ty (0, 0)) → W.grownBy w' (some g) → wpList P ops Q rest a w') : wpList P ops Q (o :: rest) a W := by
  have hrun := run_store_run (P := P) t u seg hb hu ht hfit h1
  obtain ⟨cur', h3, h4, h5⟩ := setCells_row seg j W cs hb hfit
  obtain ⟨s1, s2, s3, s4⟩ := setCells_same g seg j W
  have e : cur' = cs' := by
    have : cur'.toList = cs'.toList := h5.trans he.symm
    exact Array.toList_inj.1 this
  subst e
  have hg : W.grownBy (W.setCells g j seg) (some g) := ⟨s1, s2, s3, by rw [s4]; exact Nat.le_refl _, fun k _ hk => setCells_far _ _ k (fun e => hk (by rw [e]))⟩
  refine wpList_plain hgd fun K hK => ?_
  unfold Oper.wp execOp
  simp only [ho, hp, hx, Sem.run_bind, Sem.run_pure, Result.andThen_ok, hrun]
  show K (a.put o.dst undef) _
  rw [hN]
  exact hK _ _ (h _ h3 hg)
/-- A struct is written over a whole block. -/
theorem store_blk (hgd : o.guard = none) (hN : o.dst = none) (t : TypeId) (p x : Operand) (ho : o.op = .store t p x) {g : Nat} {cs : Array Value} (cs' : Array Value) {ty : TypeId}
    (hp : a.eval p = .pointer (some ⟨g, 0, none⟩)) (hx : a.eval x = .agg cs') (hu : (Value.agg cs').cells = cs') (hb : W.heap[g]? = some (.cells cs ty (0, 0))) (ht : (P.info? t).map (·.size) = some cs'.size)
    (hs : cs'.size = cs.size) (h1 : ∀ q ∈ cs'.toList, q.oneCell' = true)
    (h : ∀ w', w'.heap[g]? = some (.cells cs' ty (0, 0)) → W.grownBy w' (some g) → wpList P ops Q rest a w') : wpList P ops Q (o :: rest) a W :=
  store_seg hgd hN t p x ho (j := 0) cs' hp hx (seg := cs'.toList) (by rw [hu]) hb (by simpa using ht) (by simp; omega) h1 (by simp; omega) h
/-- One cell is written. -/
theorem store_cell (hgd : o.guard = none) (hN : o.dst = none) (t : TypeId) (p x : Operand) (ho : o.op = .store t p x) {g j : Nat} {cs : Array Value} (cs' : Array Value) {ty : TypeId} {u : Value}
    (hp : a.eval p = .pointer (some ⟨g, j, none⟩)) (hx : a.eval x = u) (h1 : u.oneCell' = true) (hu : u.cells = #[u]) (hb : W.heap[g]? = some (.cells cs ty (0, 0))) (ht : (P.info? t).map (·.size) = some 1)
    (hfit : j < cs.size) (he : cs.setIfInBounds j u = cs')
    (h : ∀ w', w'.heap[g]? = some (.cells cs' ty (0, 0)) → W.grownBy w' (some g) → wpList P ops Q rest a w') : wpList P ops Q (o :: rest) a W := by
  subst he
  refine store_seg hgd hN t p x ho (j := j) _ hp hx (seg := [u]) (by rw [hu]) hb ht (by simp only [List.length_singleton]; omega) (by simpa using h1) ?_ h
  rw [Array.toList_setIfInBounds, List.set_eq_take_append_cons_drop, if_pos (by simpa using hfit)]
  simp
end
end Go.Proofs.Ytmoahkdadeiahaa.Blk
