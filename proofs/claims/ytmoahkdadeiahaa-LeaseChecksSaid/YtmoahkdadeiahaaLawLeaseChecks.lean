-- WRITTEN BY a program of this session's (wip/row.py). Not trusted: Lean checks it.
import Derived.Test.YtmoahkdadeiahaaRows
import Derived.Test.YtmoahkdadeiahaaC11
import Derived.Test.YtmoahkdadeiahaaPureLeaseChecks
import Derived.Deep.Slices
import Derived.Deep.Strs
import Derived.ChangeSame
import Derived.WalkKit
import Derived.ProofKit
import Derived.OpenShut
import Derived.ShutString
import Derived.ChangeOld
import Derived.Below
import Derived.SizedLaws
import Derived.Lib.SmallJoins
import Derived.Test.YtmoahkdadeiahaaWSized
namespace Go.Proofs.Ytmoahkdadeiahaa.leaseChecks
open Go.ChangeShapes Go.WideShapes Go.ChangeAt Go.RowKit
open Go.ChangeMaps (open_string shut_string)
open Go.Proofs.YtmoahkdadeiahaaW.PrintWords Go.Proofs.YtmoahkdadeiahaaW.PrintLast Go.Proofs.YtmoahkdadeiahaaW.PrintMore
set_option linter.unusedVariables false
theorem own : ownKnob Try.prog.godebug = none := by kernel_rfl
theorem laidOut : laidOutB Try.prog = true := by kernel_rfl
def IsRow (k : IntKind) (w : World) (a : Option Addr) (len cap : Nat) (zs : List Int) : Prop :=
  (a = none ∧ len = 0 ∧ cap = 0 ∧ zs = []) ∨
  ∃ x, a = some x ∧ len ≤ cap ∧ cap ≤ maxLen ∧ zs.length = cap ∧ (∀ i, i < zs.length → w.cell? (x.add i) = some (.int k (zs.getD i 0))) ∧ ∀ n ∈ zs, (Lit.int k n).wf = true
theorem reads_row2 {H : Type} {enc : TypeId × Value → H} {w : World} {base : Nat} {held : Bool} {t e : TypeId} {g0 g1 : Field} {fuel : Nat} {v : Value} {x : DataW H × List MemPlace} (ht : Try.prog.underlying t = some (.slice e)) (he : Try.prog.underlying e = some (.struct #[g0, g1])) (h0 : Try.prog.underlying g0.type = some (.int .i64)) (o0 : g0.offset = 0) (k0 : Try.prog.cellsOf g0.type = 1) (h1 : Try.prog.underlying g1.type = some (.int .i64)) (o1 : g1.offset = 1) (k1 : Try.prog.cellsOf g1.type = 1) (hC : Try.prog.cellsOf e = 2) (h : DataW.trod enc Try.prog w base (fun _ => true) held fuel t [v] = some x) :
    ∃ (b : Option Addr) (len cap : Nat) (zs : List (Int × Int)), v = .slice b len cap ∧ len ≤ cap ∧ zs.length = len ∧ len ≤ 9223372036854775807 ∧ (∀ z ∈ zs, (Lit.int .i64 z.1).wf = true ∧ (Lit.int .i64 z.2).wf = true) ∧ (0 < len → ∃ ad, b = some ad ∧ ∀ i z, zs[i]? = some z → w.cell? (ad.add (i * 2)) = some (.int .i64 z.1) ∧ w.cell? (ad.add (i * 2 + 1)) = some (.int .i64 z.2)) := by
  rcases Go.Deep.open_slice ht h with ⟨hcs, _⟩ | ⟨a, len, cap, m, n0, D, Pl, hcs, _, hl, hm, hmm, _, hi⟩
  · simp at hcs
    exact ⟨none, 0, 0, [], hcs, Nat.le_refl _, rfl, by omega, (fun z hz => by cases hz), (fun h => by omega)⟩
  · simp at hcs
    have hm2 : m = cap := by simpa using hmm
    have key : ∀ i, i < len → ∃ z : Int × Int, ((Lit.int .i64 z.1).wf = true ∧ (Lit.int .i64 z.2).wf = true) ∧ (w.cell? (a.add (i * 2)) = some (.int .i64 z.1) ∧ w.cell? (a.add (i * 2 + 1)) = some (.int .i64 z.2)) := by
      intro i hil
      obtain ⟨cs', hc, ht'⟩ := hi i (by omega)
      rw [hC] at hc
      obtain ⟨_, hcl, hat⟩ := World.cells?_some hc
      match cs', hcl, hat, ht' with
      | [v0, v1], _, hat, ht' =>
        obtain ⟨y0, y1, n, _, _, r0, r1⟩ := Go.ChangeShapes.trod_struct2 he ht'
        rw [o0, k0] at r0
        rw [o1, k1] at r1
        obtain ⟨a0, e0, _, w0⟩ := DataW.trod_int h0 r0
        obtain ⟨a1, e1, _, w1⟩ := DataW.trod_int h1 r1
        simp at e0 e1
        subst e0; subst e1
        have c0 := hat 0 (by decide)
        have c1 := hat 1 (by decide)
        rw [Go.Deep.add_add] at c0 c1
        exact ⟨(a0, a1), ⟨w0, w1⟩, ⟨by simpa using c0, by simpa using c1⟩⟩
    have f : ∀ i : Nat, ∃ z : Int × Int, i < len → ((Lit.int .i64 z.1).wf = true ∧ (Lit.int .i64 z.2).wf = true) ∧ (w.cell? (a.add (i * 2)) = some (.int .i64 z.1) ∧ w.cell? (a.add (i * 2 + 1)) = some (.int .i64 z.2)) := fun i => by
      by_cases hil : i < len
      · obtain ⟨z, hz⟩ := key i hil
        exact ⟨z, fun _ => hz⟩
      · exact ⟨(0, 0), fun h => absurd h hil⟩
    have hfn := fun i => Classical.choose_spec (f i)
    refine ⟨some a, len, cap, (List.range len).map (fun i => Classical.choose (f i)), hcs, hl, by simp, by unfold maxLen at hm; omega, ?_, fun _ => ⟨a, rfl, ?_⟩⟩
    · intro z hz
      obtain ⟨i, hi2, rfl⟩ := List.mem_map.1 hz
      exact (hfn i (by simpa using hi2)).1
    · intro i z hz
      have hil : i < len := by have := (List.getElem?_eq_some_iff.1 hz).1; simpa using this
      rw [List.getElem?_map, List.getElem?_eq_getElem (by simpa using hil)] at hz
      simp at hz
      subst hz
      exact (hfn i hil).2
theorem split6 (cs : Array Value) (h : cs.size = 6) : ∃ a_ b_ c_ d_ e_ f_ : Value, Value.agg cs = .agg #[a_, b_, c_, d_, e_, f_] := by
  obtain ⟨l⟩ := cs
  have hl : l.length = 6 := h
  match l, hl with
  | [a_, b_, c_, d_, e_, f_], _ => exact ⟨a_, b_, c_, d_, e_, f_, rfl⟩
theorem c_of_row59 {w : World} {b : Option Addr} {len : Nat} {zs : List (Int × Int)} (hl : zs.length = len) (hm : len ≤ 9223372036854775807) (h : 0 < len → ∃ ad, b = some ad ∧ ∀ i z, zs[i]? = some z → w.cell? (ad.add (i * 2)) = some (.int .i64 z.1) ∧ w.cell? (ad.add (i * 2 + 1)) = some (.int .i64 z.2)) : Kd.C C.k59 w b (zs.map fun z => (⟨z.1, z.2⟩ : C.S59)).length (zs.map fun z => (⟨z.1, z.2⟩ : C.S59)) := by
  refine ⟨rfl, by simpa using hl ▸ hm, fun h0 => ?_⟩
  obtain ⟨ad, e, hc⟩ := h (by rw [List.length_map] at h0; omega)
  refine ⟨ad, e, fun j p hj => ?_⟩
  rw [List.getElem?_map] at hj
  obtain ⟨z, hz, rfl⟩ := Option.map_eq_some_iff.1 hj
  obtain ⟨h0, h1⟩ := hc j z hz
  refine ⟨[.int .i64 z.1, .int .i64 z.2], rfl, C.k59_mk _ _, fun i u hu => ?_⟩
  have e2 : (C.k59).sz = 2 := rfl
  rw [e2]
  match i, hu with
  | 0, hu => simp at hu; subst hu; simpa using h0
  | 1, hu => simp at hu; subst hu; exact h1
/-- THE ONE PURE STATEMENT. -/
def PureSt : Prop := ∀ (a0_0 : Int) (a0_1 : Int) (a0_2 : Int) (l0_3 : List C.S59) (a0_4 : Int) (a0_5 : Int), (Lit.int .i64 a0_0).wf = true → (Lit.int .i64 a0_1).wf = true → (Lit.int .i64 a0_2).wf = true → l0_3.length ≤ maxLen → (∀ x ∈ l0_3, (Lit.int .i64 x.f0).wf = true ∧ (Lit.int .i64 x.f1).wf = true) → (Lit.int .i64 a0_4).wf = true → (Lit.int .i64 a0_5).wf = true → ∃ k, C.folkmootlaw20_LeaseChecks.f k a0_0 a0_1 a0_2 l0_3 a0_4 a0_5 = some true
theorem walk (P : PureSt) (w : World) (a0_0 : Int) (w0_0 : (Lit.int .i64 a0_0).wf = true) (a0_1 : Int) (w0_1 : (Lit.int .i64 a0_1).wf = true) (a0_2 : Int) (w0_2 : (Lit.int .i64 a0_2).wf = true) (b0_3 : Option Addr) (cap0_3 : Nat) (l0_3 : List C.S59) (r0_3 : Kd.C C.k59 w b0_3 l0_3.length l0_3) (c0_3 : l0_3.length ≤ cap0_3) (w0_3 : ∀ x ∈ l0_3, (Lit.int .i64 x.f0).wf = true ∧ (Lit.int .i64 x.f1).wf = true) (a0_4 : Int) (w0_4 : (Lit.int .i64 a0_4).wf = true) (a0_5 : Int) (w0_5 : (Lit.int .i64 a0_5).wf = true) :
    Calls Try.prog 5 #[.agg #[.int .i64 a0_0, .int .i64 a0_1, .int .i64 a0_2, .slice b0_3 l0_3.length cap0_3, .int .i64 a0_4, .int .i64 a0_5]] w fun e w' => e = .returned (.bool true) ∧ Below w.heap.size w w' := by
  obtain ⟨k, h⟩ := P a0_0 a0_1 a0_2 l0_3 a0_4 a0_5 w0_0 w0_1 w0_2 (by have := Kd.C_max r0_3; unfold maxLen; exact this) w0_3 w0_4 w0_5
  refine (C.folkmootlaw20_LeaseChecks.calls k a0_0 a0_1 a0_2 _ _ l0_3 a0_4 a0_5 true w r0_3 c0_3 h).mono ?_
  rintro e w' ⟨rfl, hd⟩
  exact ⟨rfl, hd⟩
set_option maxHeartbeats 1000000 in
set_option maxRecDepth 100000 in
theorem lifted (os : Os) (started : os.Started) (H : Type) (enc : TypeId × Value → H) :
    ReturnsInHanded {} Try.checked os 5 .any (Rows.leaseChecksSpec.pre6 enc Try.prog Try.f5 Rows.leaseChecksRow.domain false) (Rows.leaseChecksSpec.post enc Try.prog Try.f5 false true false false) := by
  refine returnsInHanded_of_change_sized (C := Try.checked) own started (by kernel_rfl) Try.func5
    (ChangeSpec.witness6 (enc := enc) (C := Try.checked) false ⟨#[], #[.agg #[.int .i64 0, .int .i64 0, .int .i64 0, .slice none 0 0, .int .i64 0, .int .i64 0]], []⟩ 8 (by kernel_rfl) (by kernel_rfl) (by kernel_rfl) (by kernel_rfl)) ?_
  intro W base args ds gs before hval0 hW hcnd hsz0 _
  have hsz : (DataW.weightsEach Try.prog (Try.f5.params.toList ++ Rows.leaseChecksSpec.plain.varTypes Try.prog) (ds ++ gs)).all (· ≤ reachBytes) = true := hsz0
  have hval : ∀ (j : Nat) t v, Try.f5.params[j]? = some t → args[j]? = some v → Value.okWide Try.prog W .any base t v := hval0
  have hW' := hW
  obtain ⟨p, q, hA0, hV, rfl, hfz, hnd⟩ := hW
  have hA : DataW.TrodAll enc Try.prog W 0 (fun _ => true) true Try.f5.params.toList args.toList ds p := hA0
  rw [Try.params5] at hA hval hsz
  obtain ⟨v0, vs0, d0, ds0, p0, q0, hargs, rfl, rfl, h0, r0⟩ := trodAll_cons hA
  obtain ⟨rfl, rfl, rfl⟩ := trodAll_nil r0
  obtain rfl : args = #[v0] := by cases args; simp_all
  obtain ⟨rfl, rfl⟩ := trodVars_none hV
  have k0 := h0
  have lt0 : ∀ x ∈ p0, x.block < W.heap.size := by obtain ⟨m, hm⟩ := k0; exact DataW.trod_lt m _ _ _ hm
  obtain ⟨v0_0, v0_1, v0_2, v0_3, v0_4, v0_5, rfl⟩ : ∃ a_ b_ c_ d_ e_ f_ : Value, v0 = .agg #[a_, b_, c_, d_, e_, f_] := by
    obtain ⟨cs, rfl, hsz⟩ := okWide_struct Try.underlying29 (hval 0 29 v0 rfl rfl)
    exact split6 cs (hsz.trans (by kernel_rfl))
  obtain ⟨fuel0, hf0⟩ := h0
  obtain ⟨xs0, n0, _, _, _, hlen0, hg0⟩ := DataW.trod_struct Try.underlying29 hf0
  obtain ⟨y0_0, f0_0⟩ : ∃ y, DataW.trod enc Try.prog W 0 (fun _ => true) true n0 3 [v0_0] = some y := by
    have h1 := hg0 0 _ rfl
    have h2 : xs0[0]? = some (xs0[0]'(by rw [hlen0]; decide)) := List.getElem?_eq_getElem _
    refine ⟨_, (?_ : _ = xs0[0]?).trans h2⟩
    simpa [Value.cells, show Try.prog.cellsOf 3 = 1 by kernel_rfl] using h1
  obtain ⟨y0_1, f0_1⟩ : ∃ y, DataW.trod enc Try.prog W 0 (fun _ => true) true n0 3 [v0_1] = some y := by
    have h1 := hg0 1 _ rfl
    have h2 : xs0[1]? = some (xs0[1]'(by rw [hlen0]; decide)) := List.getElem?_eq_getElem _
    refine ⟨_, (?_ : _ = xs0[1]?).trans h2⟩
    simpa [Value.cells, show Try.prog.cellsOf 3 = 1 by kernel_rfl] using h1
  obtain ⟨y0_2, f0_2⟩ : ∃ y, DataW.trod enc Try.prog W 0 (fun _ => true) true n0 3 [v0_2] = some y := by
    have h1 := hg0 2 _ rfl
    have h2 : xs0[2]? = some (xs0[2]'(by rw [hlen0]; decide)) := List.getElem?_eq_getElem _
    refine ⟨_, (?_ : _ = xs0[2]?).trans h2⟩
    simpa [Value.cells, show Try.prog.cellsOf 3 = 1 by kernel_rfl] using h1
  obtain ⟨y0_3, f0_3⟩ : ∃ y, DataW.trod enc Try.prog W 0 (fun _ => true) true n0 27 [v0_3] = some y := by
    have h1 := hg0 3 _ rfl
    have h2 : xs0[3]? = some (xs0[3]'(by rw [hlen0]; decide)) := List.getElem?_eq_getElem _
    refine ⟨_, (?_ : _ = xs0[3]?).trans h2⟩
    simpa [Value.cells, show Try.prog.cellsOf 27 = 1 by kernel_rfl] using h1
  obtain ⟨y0_4, f0_4⟩ : ∃ y, DataW.trod enc Try.prog W 0 (fun _ => true) true n0 3 [v0_4] = some y := by
    have h1 := hg0 4 _ rfl
    have h2 : xs0[4]? = some (xs0[4]'(by rw [hlen0]; decide)) := List.getElem?_eq_getElem _
    refine ⟨_, (?_ : _ = xs0[4]?).trans h2⟩
    simpa [Value.cells, show Try.prog.cellsOf 3 = 1 by kernel_rfl] using h1
  obtain ⟨y0_5, f0_5⟩ : ∃ y, DataW.trod enc Try.prog W 0 (fun _ => true) true n0 3 [v0_5] = some y := by
    have h1 := hg0 5 _ rfl
    have h2 : xs0[5]? = some (xs0[5]'(by rw [hlen0]; decide)) := List.getElem?_eq_getElem _
    refine ⟨_, (?_ : _ = xs0[5]?).trans h2⟩
    simpa [Value.cells, show Try.prog.cellsOf 3 = 1 by kernel_rfl] using h1
  obtain ⟨a0_0, e0_0, w0_0⟩ : ∃ a : Int, v0_0 = .int .i64 a ∧ (Lit.int .i64 a).wf = true := by
    obtain ⟨a, hv, _, hw⟩ := DataW.trod_int Try.underlying3 f0_0
    exact ⟨a, by simpa using hv, hw⟩
  subst e0_0
  obtain ⟨a0_1, e0_1, w0_1⟩ : ∃ a : Int, v0_1 = .int .i64 a ∧ (Lit.int .i64 a).wf = true := by
    obtain ⟨a, hv, _, hw⟩ := DataW.trod_int Try.underlying3 f0_1
    exact ⟨a, by simpa using hv, hw⟩
  subst e0_1
  obtain ⟨a0_2, e0_2, w0_2⟩ : ∃ a : Int, v0_2 = .int .i64 a ∧ (Lit.int .i64 a).wf = true := by
    obtain ⟨a, hv, _, hw⟩ := DataW.trod_int Try.underlying3 f0_2
    exact ⟨a, by simpa using hv, hw⟩
  subst e0_2
  obtain ⟨b0_3, len0_3, cap0_3, z0_3, e0_3, c0_3, hl0_3, hm0_3, hw0_3, hz0_3⟩ := reads_row2 Try.underlying27 Try.underlying59 Try.underlying3 rfl (by kernel_rfl) Try.underlying3 rfl (by kernel_rfl) (by kernel_rfl) f0_3
  subst e0_3
  have r0_3 := c_of_row59 hl0_3 hm0_3 hz0_3
  obtain ⟨l0_3, el0_3⟩ : ∃ l, l = z0_3.map (fun z => (⟨z.1, z.2⟩ : C.S59)) := ⟨_, rfl⟩
  have hll0_3 : len0_3 = l0_3.length := by rw [el0_3, List.length_map]; exact hl0_3.symm
  have hwl0_3 : ∀ x ∈ l0_3, (Lit.int .i64 x.f0).wf = true ∧ (Lit.int .i64 x.f1).wf = true := by rw [el0_3]; intro x hx; obtain ⟨z, hz, rfl⟩ := List.mem_map.1 hx; exact hw0_3 z hz
  rw [← el0_3] at r0_3
  clear hl0_3 hm0_3 hz0_3 hw0_3 el0_3
  subst hll0_3
  obtain ⟨a0_4, e0_4, w0_4⟩ : ∃ a : Int, v0_4 = .int .i64 a ∧ (Lit.int .i64 a).wf = true := by
    obtain ⟨a, hv, _, hw⟩ := DataW.trod_int Try.underlying3 f0_4
    exact ⟨a, by simpa using hv, hw⟩
  subst e0_4
  obtain ⟨a0_5, e0_5, w0_5⟩ : ∃ a : Int, v0_5 = .int .i64 a ∧ (Lit.int .i64 a).wf = true := by
    obtain ⟨a, hv, _, hw⟩ := DataW.trod_int Try.underlying3 f0_5
    exact ⟨a, by simpa using hv, hw⟩
  subst e0_5
  clear hA0 hval0 hsz0 hsz
  refine (walk Pure.LeaseChecks W a0_0 w0_0 a0_1 w0_1 a0_2 w0_2 b0_3 cap0_3 l0_3 r0_3 c0_3 hwl0_3 a0_4 w0_4 a0_5 w0_5).mono fun e W' ⟨he, bel⟩ => ?_
  subst he
  exact ⟨_, rfl, _, _, _, [], _, [], hW', trodAll_mk1 (shut_bool Try.underlying4 _), (trodAll_cons_mk (Below.trod laidOut (by kernel_rfl) (of_decide_eq_true (by kernel_rfl)) k0 bel lt0) trodAll_mk0), rfl, bel.frame _, fun h => by cases h⟩
theorem over : Rows.leaseChecksRow.holds Try.pinned (OpenSpec.ofChange Rows.leaseChecksSpec) :=
  OpenClaim.holds_of_wide 5 Try.f5 rfl rfl rfl rfl rfl rfl rfl ⟨rfl, rfl, rfl, rfl, rfl⟩ rfl rfl rfl rfl rfl (by kernel_rfl) Try.func5 (by kernel_rfl)
    (of_decide_eq_true (by kernel_rfl)) (by unfold Func.isWrapper; first | (rw [if_pos (by decide +kernel)]; kernel_rfl) | (rw [if_neg (by decide +kernel)]; exact ⟨rfl, rfl⟩))
    (fun os started H enc _ => lifted os started H enc)
theorem proved : Rows.LeaseChecksSaid := over
#print axioms proved
end Go.Proofs.Ytmoahkdadeiahaa.leaseChecks
namespace Go.Proofs.Ytmoahkdadeiahaa
/-- The row, under a short name, for the claim. -/
theorem leaseChecks_holds : Rows.LeaseChecksSaid := leaseChecks.proved
end Go.Proofs.Ytmoahkdadeiahaa
