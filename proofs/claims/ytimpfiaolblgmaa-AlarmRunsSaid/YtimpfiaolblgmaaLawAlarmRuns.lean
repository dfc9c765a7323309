-- WRITTEN BY a program of this session's (wip/row.py). Not trusted: Lean checks it.
import Derived.Test.YtimpfiaolblgmaaRows
import Derived.Test.YtimpfiaolblgmaaR1
import Derived.Test.YtimpfiaolblgmaaPureAlarmRuns
import Derived.Deep.Slices
import Derived.Deep.Strs
import Derived.ChangeSame
import Derived.WalkKit
import Derived.ProofKit
import Derived.OpenShut
import Derived.ShutString
import Derived.ChangeOld
import Derived.Below
import Derived.SizedLaws
import Derived.Lib.SmallJoins
import Derived.Test.YtimpfiaolblgmaaWSized
namespace Go.Proofs.Ytimpfiaolblgmaa.alarmRuns
open Go.ChangeShapes Go.WideShapes Go.ChangeAt Go.RowKit
open Go.ChangeMaps (open_string shut_string)
open Go.Proofs.YtimpfiaolblgmaaW.PrintWords Go.Proofs.YtimpfiaolblgmaaW.PrintLast Go.Proofs.YtimpfiaolblgmaaW.PrintMore
set_option linter.unusedVariables false
theorem own : ownKnob Try.prog.godebug = none := by kernel_rfl
theorem laidOut : laidOutB Try.prog = true := by kernel_rfl
def IsRow (k : IntKind) (w : World) (a : Option Addr) (len cap : Nat) (zs : List Int) : Prop :=
  (a = none ∧ len = 0 ∧ cap = 0 ∧ zs = []) ∨
  ∃ x, a = some x ∧ len ≤ cap ∧ cap ≤ maxLen ∧ zs.length = cap ∧ (∀ i, i < zs.length → w.cell? (x.add i) = some (.int k (zs.getD i 0))) ∧ ∀ n ∈ zs, (Lit.int k n).wf = true
theorem reads_row3 {H : Type} {enc : TypeId × Value → H} {w : World} {base : Nat} {held : Bool} {t e : TypeId} {g0 g1 g2 : Field} {fuel : Nat} {v : Value} {x : DataW H × List MemPlace} (ht : Try.prog.underlying t = some (.slice e)) (he : Try.prog.underlying e = some (.struct #[g0, g1, g2])) (h0 : Try.prog.underlying g0.type = some (.int .i64)) (o0 : g0.offset = 0) (k0 : Try.prog.cellsOf g0.type = 1) (h1 : Try.prog.underlying g1.type = some (.int .i64)) (o1 : g1.offset = 1) (k1 : Try.prog.cellsOf g1.type = 1) (h2 : Try.prog.underlying g2.type = some (.int .i64)) (o2 : g2.offset = 2) (k2 : Try.prog.cellsOf g2.type = 1) (hC : Try.prog.cellsOf e = 3) (h : DataW.trod enc Try.prog w base (fun _ => true) held fuel t [v] = some x) :
    ∃ (b : Option Addr) (len cap : Nat) (zs : List (Int × Int × Int)), v = .slice b len cap ∧ len ≤ cap ∧ zs.length = len ∧ len ≤ 9223372036854775807 ∧ (∀ z ∈ zs, (Lit.int .i64 z.1).wf = true ∧ (Lit.int .i64 z.2.1).wf = true ∧ (Lit.int .i64 z.2.2).wf = true) ∧ (0 < len → ∃ ad, b = some ad ∧ ∀ i z, zs[i]? = some z → w.cell? (ad.add (i * 3)) = some (.int .i64 z.1) ∧ w.cell? (ad.add (i * 3 + 1)) = some (.int .i64 z.2.1) ∧ w.cell? (ad.add (i * 3 + 2)) = some (.int .i64 z.2.2)) := by
  rcases Go.Deep.open_slice ht h with ⟨hcs, _⟩ | ⟨a, len, cap, m, n0, D, Pl, hcs, _, hl, hm, hmm, _, hi⟩
  · simp at hcs
    exact ⟨none, 0, 0, [], hcs, Nat.le_refl _, rfl, by omega, (fun z hz => by cases hz), (fun h => by omega)⟩
  · simp at hcs
    have hm2 : m = cap := by simpa using hmm
    have key : ∀ i, i < len → ∃ z : Int × Int × Int, ((Lit.int .i64 z.1).wf = true ∧ (Lit.int .i64 z.2.1).wf = true ∧ (Lit.int .i64 z.2.2).wf = true) ∧ (w.cell? (a.add (i * 3)) = some (.int .i64 z.1) ∧ w.cell? (a.add (i * 3 + 1)) = some (.int .i64 z.2.1) ∧ w.cell? (a.add (i * 3 + 2)) = some (.int .i64 z.2.2)) := by
      intro i hil
      obtain ⟨cs', hc, ht'⟩ := hi i (by omega)
      rw [hC] at hc
      obtain ⟨_, hcl, hat⟩ := World.cells?_some hc
      match cs', hcl, hat, ht' with
      | [v0, v1, v2], _, hat, ht' =>
        obtain ⟨y0, y1, y2, n, _, _, r0, r1, r2⟩ := Go.Deep.trod_struct3 he ht'
        rw [o0, k0] at r0
        rw [o1, k1] at r1
        rw [o2, k2] at r2
        obtain ⟨a0, e0, _, w0⟩ := DataW.trod_int h0 r0
        obtain ⟨a1, e1, _, w1⟩ := DataW.trod_int h1 r1
        obtain ⟨a2, e2, _, w2⟩ := DataW.trod_int h2 r2
        simp at e0 e1 e2
        subst e0; subst e1; subst e2
        have c0 := hat 0 (by decide)
        have c1 := hat 1 (by decide)
        have c2 := hat 2 (by decide)
        rw [Go.Deep.add_add] at c0 c1 c2
        exact ⟨(a0, a1, a2), ⟨w0, w1, w2⟩, ⟨by simpa using c0, by simpa using c1, by simpa using c2⟩⟩
    have f : ∀ i : Nat, ∃ z : Int × Int × Int, i < len → ((Lit.int .i64 z.1).wf = true ∧ (Lit.int .i64 z.2.1).wf = true ∧ (Lit.int .i64 z.2.2).wf = true) ∧ (w.cell? (a.add (i * 3)) = some (.int .i64 z.1) ∧ w.cell? (a.add (i * 3 + 1)) = some (.int .i64 z.2.1) ∧ w.cell? (a.add (i * 3 + 2)) = some (.int .i64 z.2.2)) := fun i => by
      by_cases hil : i < len
      · obtain ⟨z, hz⟩ := key i hil
        exact ⟨z, fun _ => hz⟩
      · exact ⟨(0, 0, 0), fun h => absurd h hil⟩
    have hfn := fun i => Classical.choose_spec (f i)
    refine ⟨some a, len, cap, (List.range len).map (fun i => Classical.choose (f i)), hcs, hl, by simp, by unfold maxLen at hm; omega, ?_, fun _ => ⟨a, rfl, ?_⟩⟩
    · intro z hz
      obtain ⟨i, hi2, rfl⟩ := List.mem_map.1 hz
      exact (hfn i (by simpa using hi2)).1
    · intro i z hz
      have hil : i < len := by have := (List.getElem?_eq_some_iff.1 hz).1; simpa using this
      rw [List.getElem?_map, List.getElem?_eq_getElem (by simpa using hil)] at hz
      simp at hz
      subst hz
      exact (hfn i hil).2
theorem c_of_row30 {w : World} {b : Option Addr} {len : Nat} {zs : List (Int × Int × Int)} (hl : zs.length = len) (hm : len ≤ 9223372036854775807) (h : 0 < len → ∃ ad, b = some ad ∧ ∀ i z, zs[i]? = some z → w.cell? (ad.add (i * 3)) = some (.int .i64 z.1) ∧ w.cell? (ad.add (i * 3 + 1)) = some (.int .i64 z.2.1) ∧ w.cell? (ad.add (i * 3 + 2)) = some (.int .i64 z.2.2)) : Kd.C R.k30 w b (zs.map fun z => (⟨z.1, z.2.1, z.2.2⟩ : R.S30)).length (zs.map fun z => (⟨z.1, z.2.1, z.2.2⟩ : R.S30)) := by
  refine ⟨rfl, by simpa using hl ▸ hm, fun h0 => ?_⟩
  obtain ⟨ad, e, hc⟩ := h (by rw [List.length_map] at h0; omega)
  refine ⟨ad, e, fun j p hj => ?_⟩
  rw [List.getElem?_map] at hj
  obtain ⟨z, hz, rfl⟩ := Option.map_eq_some_iff.1 hj
  obtain ⟨h0, h1, h2⟩ := hc j z hz
  refine ⟨[.int .i64 z.1, .int .i64 z.2.1, .int .i64 z.2.2], rfl, R.k30_mk _ _, fun i u hu => ?_⟩
  have e2 : (R.k30).sz = 3 := rfl
  rw [e2]
  match i, hu with
  | 0, hu => simp at hu; subst hu; simpa using h0
  | 1, hu => simp at hu; subst hu; exact h1
  | 2, hu => simp at hu; subst hu; exact h2
/-- THE ONE PURE STATEMENT. -/
def PureSt : Prop := ∀ (l0 : List R.S30), l0.length ≤ maxLen → (∀ x ∈ l0, (Lit.int .i64 x.f0).wf = true ∧ (Lit.int .i64 x.f1).wf = true ∧ (Lit.int .i64 x.f2).wf = true) → R.folkmootlaw06_AlarmRuns.f l0 = some true
theorem walk (P : PureSt) (w : World) (b0 : Option Addr) (cap0 : Nat) (l0 : List R.S30) (r0 : Kd.C R.k30 w b0 l0.length l0) (c0 : l0.length ≤ cap0) (w0 : ∀ x ∈ l0, (Lit.int .i64 x.f0).wf = true ∧ (Lit.int .i64 x.f1).wf = true ∧ (Lit.int .i64 x.f2).wf = true) :
    Calls Try.prog 3 #[.slice b0 l0.length cap0] w fun e w' => e = .returned (.bool true) ∧ Below w.heap.size w w' := by
  have h := P l0 (by have := Kd.C_max r0; unfold maxLen; exact this) w0
  refine (R.folkmootlaw06_AlarmRuns.calls _ _ l0 true w r0 c0 h).mono ?_
  rintro e w' ⟨rfl, hd⟩
  exact ⟨rfl, hd⟩
set_option maxHeartbeats 1000000 in
set_option maxRecDepth 100000 in
theorem lifted (os : Os) (started : os.Started) (H : Type) (enc : TypeId × Value → H) :
    ReturnsInHanded {} Try.checked os 3 .any (Rows.alarmRunsSpec.pre6 enc Try.prog Try.f3 Rows.alarmRunsRow.domain false) (Rows.alarmRunsSpec.post enc Try.prog Try.f3 false true false false) := by
  refine returnsInHanded_of_change_sized (C := Try.checked) own started (by kernel_rfl) Try.func3
    (ChangeSpec.witness6 (enc := enc) (C := Try.checked) false ⟨#[], #[.slice none 0 0], []⟩ 8 (by kernel_rfl) (by kernel_rfl) (by kernel_rfl) (by kernel_rfl)) ?_
  intro W base args ds gs before hval0 hW hcnd hsz0 _
  have hsz : (DataW.weightsEach Try.prog (Try.f3.params.toList ++ Rows.alarmRunsSpec.plain.varTypes Try.prog) (ds ++ gs)).all (· ≤ reachBytes) = true := hsz0
  have hval : ∀ (j : Nat) t v, Try.f3.params[j]? = some t → args[j]? = some v → Value.okWide Try.prog W .any base t v := hval0
  have hW' := hW
  obtain ⟨p, q, hA0, hV, rfl, hfz, hnd⟩ := hW
  have hA : DataW.TrodAll enc Try.prog W 0 (fun _ => true) true Try.f3.params.toList args.toList ds p := hA0
  rw [Try.params3] at hA hval hsz
  obtain ⟨v0, vs0, d0, ds0, p0, q0, hargs, rfl, rfl, h0, r0⟩ := trodAll_cons hA
  obtain ⟨rfl, rfl, rfl⟩ := trodAll_nil r0
  obtain rfl : args = #[v0] := by cases args; simp_all
  obtain ⟨rfl, rfl⟩ := trodVars_none hV
  have k0 := h0
  have lt0 : ∀ x ∈ p0, x.block < W.heap.size := by obtain ⟨m, hm⟩ := k0; exact DataW.trod_lt m _ _ _ hm
  obtain ⟨fuel0, hf0⟩ := h0
  have hf0' := hf0
  obtain ⟨bb0, ll0, cc0, rfl⟩ := okWide_slice Try.underlying22 (hval 0 22 v0 rfl rfl)
  obtain ⟨b0, len0, cap0, z0, e0, c0, hl0, hm0, hw0, hz0⟩ := reads_row3 Try.underlying22 Try.underlying30 Try.underlying3 rfl (by kernel_rfl) Try.underlying3 rfl (by kernel_rfl) Try.underlying3 rfl (by kernel_rfl) (by kernel_rfl) hf0
  injection e0 with ea eb ec; replace ea := ea.symm; replace eb := eb.symm; replace ec := ec.symm; subst ea; subst eb; subst ec
  have r0 := c_of_row30 hl0 hm0 hz0
  obtain ⟨l0, el0⟩ : ∃ l, l = z0.map (fun z => (⟨z.1, z.2.1, z.2.2⟩ : R.S30)) := ⟨_, rfl⟩
  have hll0 : len0 = l0.length := by rw [el0, List.length_map]; exact hl0.symm
  have hwl0 : ∀ x ∈ l0, (Lit.int .i64 x.f0).wf = true ∧ (Lit.int .i64 x.f1).wf = true ∧ (Lit.int .i64 x.f2).wf = true := by rw [el0]; intro x hx; obtain ⟨z, hz, rfl⟩ := List.mem_map.1 hx; exact hw0 z hz
  rw [← el0] at r0
  clear hl0 hm0 hz0 hw0 el0
  subst hll0
  clear hA0 hval0 hsz0 hsz
  refine (walk Pure.AlarmRuns W b0 cap0 l0 r0 c0 hwl0).mono fun e W' ⟨he, bel⟩ => ?_
  subst he
  exact ⟨_, rfl, _, _, _, [], _, [], hW', trodAll_mk1 (shut_bool Try.underlying4 _), (trodAll_cons_mk (Below.trod laidOut (by kernel_rfl) (of_decide_eq_true (by kernel_rfl)) k0 bel lt0) trodAll_mk0), rfl, bel.frame _, fun h => by cases h⟩
theorem over : Rows.alarmRunsRow.holds Try.pinned (OpenSpec.ofChange Rows.alarmRunsSpec) :=
  OpenClaim.holds_of_wide 3 Try.f3 rfl rfl rfl rfl rfl rfl rfl ⟨rfl, rfl, rfl, rfl, rfl⟩ rfl rfl rfl rfl rfl (by kernel_rfl) Try.func3 (by kernel_rfl)
    (of_decide_eq_true (by kernel_rfl)) (by unfold Func.isWrapper; first | (rw [if_pos (by decide +kernel)]; kernel_rfl) | (rw [if_neg (by decide +kernel)]; exact ⟨rfl, rfl⟩))
    (fun os started H enc _ => lifted os started H enc)
theorem proved : Rows.AlarmRunsSaid := over
#print axioms proved
end Go.Proofs.Ytimpfiaolblgmaa.alarmRuns
namespace Go.Proofs.Ytimpfiaolblgmaa
/-- The row, under a short name, for the claim. -/
theorem alarmRuns_holds : Rows.AlarmRunsSaid := alarmRuns.proved
end Go.Proofs.Ytimpfiaolblgmaa
