-- WRITTEN BY a program of this session's (wip/row.py). Not trusted: Lean checks it.
import Derived.Test.YtjoogjcbamnnbaaRows
import Derived.Test.YtjoogjcbamnnbaaB19
import Derived.Test.YtjoogjcbamnnbaaPureMemberApplies
import Derived.WalkKit
import Derived.ProofKit
import Derived.OpenShut
import Derived.ShutString
import Derived.ChangeOld
import Derived.Below
import Derived.SizedLaws
import Derived.Lib.SmallJoins
import Derived.Test.YtjoogjcbamnnbaaWSized
namespace Go.Proofs.Ytjoogjcbamnnbaa.memberApplies
open Go.ChangeShapes Go.WideShapes Go.ChangeAt Go.RowKit
open Go.ChangeMaps (open_string shut_string)
open Go.Proofs.YtjoogjcbamnnbaaW.PrintWords Go.Proofs.YtjoogjcbamnnbaaW.PrintLast Go.Proofs.YtjoogjcbamnnbaaW.PrintMore
set_option linter.unusedVariables false
theorem own : ownKnob Try.prog.godebug = none := by kernel_rfl
theorem laidOut : laidOutB Try.prog = true := by kernel_rfl
def IsRow (k : IntKind) (w : World) (a : Option Addr) (len cap : Nat) (zs : List Int) : Prop :=
  (a = none ∧ len = 0 ∧ cap = 0 ∧ zs = []) ∨
  ∃ x, a = some x ∧ len ≤ cap ∧ cap ≤ maxLen ∧ zs.length = cap ∧ (∀ i, i < zs.length → w.cell? (x.add i) = some (.int k (zs.getD i 0))) ∧ ∀ n ∈ zs, (Lit.int k n).wf = true
/-- THE ONE PURE STATEMENT. -/
def PureSt : Prop := ∀ (l0_0 : List Int) (l0_1 : List Int) (a1_0 : Int) (a1_1 : Int), l0_0.length ≤ maxLen → (∀ x ∈ l0_0, (Lit.int .i64 x).wf = true) → l0_1.length ≤ maxLen → (∀ x ∈ l0_1, (Lit.int .i64 x).wf = true) → (Lit.int .i64 a1_0).wf = true → (Lit.int .i64 a1_1).wf = true → ∃ k, B.folkmootlaw17_MemberApplies.f k l0_0 l0_1 a1_0 a1_1 = some true
theorem walk (P : PureSt) (w : World) (b0_0 : Option Addr) (len0_0 cap0_0 : Nat) (z0_0 : List Int) (w0_0 : IsRow .i64 w b0_0 len0_0 cap0_0 z0_0) (b0_1 : Option Addr) (len0_1 cap0_1 : Nat) (z0_1 : List Int) (w0_1 : IsRow .i64 w b0_1 len0_1 cap0_1 z0_1) (a1_0 : Int) (w1_0 : (Lit.int .i64 a1_0).wf = true) (a1_1 : Int) (w1_1 : (Lit.int .i64 a1_1).wf = true) :
    Calls Try.prog 4 #[.agg #[.slice b0_0 len0_0 cap0_0, .slice b0_1 len0_1 cap0_1], .agg #[.int .i64 a1_0, .int .i64 a1_1]] w fun e w' => e = .returned (.bool true) ∧ Below w.heap.size w w' := by
  obtain ⟨l0_0, rfl, hr0_0, hm0_0, hw0_0, hc0_0⟩ := ReadsInt.ofRowC w0_0
  obtain ⟨l0_1, rfl, hr0_1, hm0_1, hw0_1, hc0_1⟩ := ReadsInt.ofRowC w0_1
  obtain ⟨k, h⟩ := P l0_0 l0_1 a1_0 a1_1 hm0_0 hw0_0 hm0_1 hw0_1 w1_0 w1_1
  refine (B.folkmootlaw17_MemberApplies.calls k _ _ l0_0 _ _ l0_1 a1_0 a1_1 true w (Kd.C_of_reads (d := (0 : Int)) (h1 := fun _ => rfl) hr0_0) hc0_0 (Kd.C_of_reads (d := (0 : Int)) (h1 := fun _ => rfl) hr0_1) hc0_1 h).mono ?_
  rintro e w' ⟨rfl, hd⟩
  exact ⟨rfl, hd⟩
set_option maxRecDepth 100000 in
theorem lifted (os : Os) (started : os.Started) (H : Type) (enc : TypeId × Value → H) :
    ReturnsInHanded {} Try.checked os 4 .any (Rows.memberAppliesSpec.pre6 enc Try.prog Try.f4 Rows.memberAppliesRow.domain false) (Rows.memberAppliesSpec.post enc Try.prog Try.f4 false true false false) := by
  refine returnsInHanded_of_change_sized (C := Try.checked) own started (by kernel_rfl) Try.func4
    (ChangeSpec.witness6 (enc := enc) (C := Try.checked) false ⟨#[], #[.agg #[.slice none 0 0, .slice none 0 0], .agg #[.int .i64 0, .int .i64 0]], []⟩ 8 (by kernel_rfl) (by kernel_rfl) (by kernel_rfl) (by kernel_rfl)) ?_
  intro W base args ds gs before hval0 hW hcnd hsz0 _
  have hsz : (DataW.weightsEach Try.prog (Try.f4.params.toList ++ Rows.memberAppliesSpec.plain.varTypes Try.prog) (ds ++ gs)).all (· ≤ reachBytes) = true := hsz0
  have hval : ∀ (j : Nat) t v, Try.f4.params[j]? = some t → args[j]? = some v → Value.okWide Try.prog W .any base t v := hval0
  have hW' := hW
  obtain ⟨p, q, hA0, hV, rfl, hfz, hnd⟩ := hW
  have hA : DataW.TrodAll enc Try.prog W 0 (fun _ => true) true Try.f4.params.toList args.toList ds p := hA0
  rw [Try.params4] at hA hval hsz
  obtain ⟨v0, vs0, d0, ds0, p0, q0, hargs, rfl, rfl, h0, r0⟩ := trodAll_cons hA
  obtain ⟨v1, vs1, d1, ds1, p1, q1, rfl, rfl, rfl, h1, r1⟩ := trodAll_cons r0
  obtain ⟨rfl, rfl, rfl⟩ := trodAll_nil r1
  obtain rfl : args = #[v0, v1] := by cases args; simp_all
  obtain ⟨rfl, rfl⟩ := trodVars_none hV
  have k0 := h0
  have lt0 : ∀ x ∈ p0, x.block < W.heap.size := by obtain ⟨m, hm⟩ := k0; exact DataW.trod_lt m _ _ _ hm
  obtain ⟨v0_0, v0_1, y0_0, y0_1, n0, rfl, rfl, rfl, f0_0, f0_1⟩ := Go.Joins.open_agg2 Try.underlying25 (by kernel_rfl) (by kernel_rfl) (hval 0 25 v0 rfl rfl) h0
  obtain ⟨b0_0, len0_0, cap0_0, z0_0, e0_0, w0_0⟩ : ∃ (b : Option Addr) (len cap : Nat) (zs : List Int), v0_0 = .slice b len cap ∧ IsRow .i64 W b len cap zs := by
    rcases open_ints Try.underlying23 Try.underlying3 (by kernel_rfl) f0_0 with ⟨hcs, _⟩ | ⟨x, l, c, zs, hcs, _, hl, hm, hz, _, hcell, hwz⟩
    · simp at hcs
      exact ⟨none, 0, 0, [], hcs, .inl ⟨rfl, rfl, rfl, rfl⟩⟩
    · simp at hcs
      exact ⟨some x, l, c, zs, hcs, .inr ⟨_, rfl, hl, hm, by simpa using hz, hcell, hwz⟩⟩
  subst e0_0
  obtain ⟨b0_1, len0_1, cap0_1, z0_1, e0_1, w0_1⟩ : ∃ (b : Option Addr) (len cap : Nat) (zs : List Int), v0_1 = .slice b len cap ∧ IsRow .i64 W b len cap zs := by
    rcases open_ints Try.underlying23 Try.underlying3 (by kernel_rfl) f0_1 with ⟨hcs, _⟩ | ⟨x, l, c, zs, hcs, _, hl, hm, hz, _, hcell, hwz⟩
    · simp at hcs
      exact ⟨none, 0, 0, [], hcs, .inl ⟨rfl, rfl, rfl, rfl⟩⟩
    · simp at hcs
      exact ⟨some x, l, c, zs, hcs, .inr ⟨_, rfl, hl, hm, by simpa using hz, hcell, hwz⟩⟩
  subst e0_1
  have k1 := h1
  have lt1 : ∀ x ∈ p1, x.block < W.heap.size := by obtain ⟨m, hm⟩ := k1; exact DataW.trod_lt m _ _ _ hm
  obtain ⟨v1_0, v1_1, y1_0, y1_1, n1, rfl, rfl, rfl, f1_0, f1_1⟩ := Go.Joins.open_agg2 Try.underlying41 (by kernel_rfl) (by kernel_rfl) (hval 1 41 v1 rfl rfl) h1
  obtain ⟨a1_0, e1_0, w1_0⟩ : ∃ a : Int, v1_0 = .int .i64 a ∧ (Lit.int .i64 a).wf = true := by
    obtain ⟨a, hv, _, hw⟩ := DataW.trod_int Try.underlying39 f1_0
    exact ⟨a, by simpa using hv, hw⟩
  subst e1_0
  obtain ⟨a1_1, e1_1, w1_1⟩ : ∃ a : Int, v1_1 = .int .i64 a ∧ (Lit.int .i64 a).wf = true := by
    obtain ⟨a, hv, _, hw⟩ := DataW.trod_int Try.underlying3 f1_1
    exact ⟨a, by simpa using hv, hw⟩
  subst e1_1
  clear hA0 hval0 hsz0 hsz
  refine (walk Pure.MemberApplies W b0_0 len0_0 cap0_0 z0_0 w0_0 b0_1 len0_1 cap0_1 z0_1 w0_1 a1_0 w1_0 a1_1 w1_1).mono fun e W' ⟨he, bel⟩ => ?_
  subst he
  exact ⟨_, rfl, _, _, _, [], _, [], hW', trodAll_mk1 (shut_bool Try.underlying4 _), (trodAll_cons_mk (Below.trod laidOut (by kernel_rfl) (of_decide_eq_true (by kernel_rfl)) k0 bel lt0) (trodAll_cons_mk (Below.trod laidOut (by kernel_rfl) (of_decide_eq_true (by kernel_rfl)) k1 bel lt1) trodAll_mk0)), rfl, bel.frame _, fun h => by cases h⟩
theorem over : Rows.memberAppliesRow.holds Try.pinned (OpenSpec.ofChange Rows.memberAppliesSpec) :=
  OpenClaim.holds_of_wide 4 Try.f4 rfl rfl rfl rfl rfl rfl rfl ⟨rfl, rfl, rfl, rfl, rfl⟩ rfl rfl rfl rfl rfl (by kernel_rfl) Try.func4 (by kernel_rfl)
    (of_decide_eq_true (by kernel_rfl)) (by unfold Func.isWrapper; first | (rw [if_pos (by decide +kernel)]; kernel_rfl) | (rw [if_neg (by decide +kernel)]; exact ⟨rfl, rfl⟩))
    (fun os started H enc _ => lifted os started H enc)
theorem proved : Rows.MemberAppliesSaid := over
#print axioms proved
end Go.Proofs.Ytjoogjcbamnnbaa.memberApplies
namespace Go.Proofs.Ytjoogjcbamnnbaa
/-- The row, under a short name, for the claim. -/
theorem memberApplies_holds : Rows.MemberAppliesSaid := memberApplies.proved
end Go.Proofs.Ytjoogjcbamnnbaa
