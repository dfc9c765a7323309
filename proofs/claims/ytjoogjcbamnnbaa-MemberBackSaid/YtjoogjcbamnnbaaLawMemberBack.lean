-- WRITTEN BY a program of this session's (wip/row.py). Not trusted: Lean checks it.
import Derived.Test.YtjoogjcbamnnbaaRows
import Derived.Test.YtjoogjcbamnnbaaD17
import Derived.Test.YtjoogjcbamnnbaaPureMemberBack
import Derived.WalkKit
import Derived.ProofKit
import Derived.OpenShut
import Derived.ShutString
import Derived.ChangeOld
import Derived.Below
import Derived.SizedLaws
import Derived.Lib.SmallJoins
import Derived.Test.YtjoogjcbamnnbaaWSized
namespace Go.Proofs.Ytjoogjcbamnnbaa.memberBack
open Go.ChangeShapes Go.WideShapes Go.ChangeAt Go.RowKit
open Go.ChangeMaps (open_string shut_string)
open Go.Proofs.YtjoogjcbamnnbaaW.PrintWords Go.Proofs.YtjoogjcbamnnbaaW.PrintLast Go.Proofs.YtjoogjcbamnnbaaW.PrintMore
set_option linter.unusedVariables false
theorem own : ownKnob Try.prog.godebug = none := by kernel_rfl
theorem laidOut : laidOutB Try.prog = true := by kernel_rfl
def IsRow (k : IntKind) (w : World) (a : Option Addr) (len cap : Nat) (zs : List Int) : Prop :=
  (a = none ∧ len = 0 ∧ cap = 0 ∧ zs = []) ∨
  ∃ x, a = some x ∧ len ≤ cap ∧ cap ≤ maxLen ∧ zs.length = cap ∧ (∀ i, i < zs.length → w.cell? (x.add i) = some (.int k (zs.getD i 0))) ∧ ∀ n ∈ zs, (Lit.int k n).wf = true
/-- THE ONE PURE STATEMENT. -/
def PureSt : Prop := ∀ (l0_0 : List Int) (l0_1 : List Int) (a1 : Int), l0_0.length ≤ maxLen → (∀ x ∈ l0_0, (Lit.int .i64 x).wf = true) → l0_1.length ≤ maxLen → (∀ x ∈ l0_1, (Lit.int .i64 x).wf = true) → (Lit.int .i64 a1).wf = true → ∃ k, D.folkmootlaw17_MemberBack.f k l0_0 l0_1 a1 = some true
theorem walk (P : PureSt) (w : World) (b0_0 : Option Addr) (len0_0 cap0_0 : Nat) (z0_0 : List Int) (w0_0 : IsRow .i64 w b0_0 len0_0 cap0_0 z0_0) (b0_1 : Option Addr) (len0_1 cap0_1 : Nat) (z0_1 : List Int) (w0_1 : IsRow .i64 w b0_1 len0_1 cap0_1 z0_1) (a1 : Int) (w1 : (Lit.int .i64 a1).wf = true) :
    Calls Try.prog 6 #[.agg #[.slice b0_0 len0_0 cap0_0, .slice b0_1 len0_1 cap0_1], .int .i64 a1] w fun e w' => e = .returned (.bool true) ∧ Below w.heap.size w w' := by
  obtain ⟨l0_0, rfl, hr0_0, hm0_0, hw0_0, hc0_0⟩ := ReadsInt.ofRowC w0_0
  obtain ⟨l0_1, rfl, hr0_1, hm0_1, hw0_1, hc0_1⟩ := ReadsInt.ofRowC w0_1
  obtain ⟨k, h⟩ := P l0_0 l0_1 a1 hm0_0 hw0_0 hm0_1 hw0_1 w1
  refine (D.folkmootlaw17_MemberBack.calls k _ _ l0_0 _ _ l0_1 a1 true w (Kd.C_of_reads (d := (0 : Int)) (h1 := fun _ => rfl) hr0_0) hc0_0 (Kd.C_of_reads (d := (0 : Int)) (h1 := fun _ => rfl) hr0_1) hc0_1 h).mono ?_
  rintro e w' ⟨rfl, hd⟩
  exact ⟨rfl, hd⟩
set_option maxRecDepth 100000 in
theorem lifted (os : Os) (started : os.Started) (H : Type) (enc : TypeId × Value → H) :
    ReturnsInHanded {} Try.checked os 6 .any (Rows.memberBackSpec.pre6 enc Try.prog Try.f6 Rows.memberBackRow.domain false) (Rows.memberBackSpec.post enc Try.prog Try.f6 false true false false) := by
  refine returnsInHanded_of_change_sized (C := Try.checked) own started (by kernel_rfl) Try.func6
    (ChangeSpec.witness6 (enc := enc) (C := Try.checked) false ⟨#[], #[.agg #[.slice none 0 0, .slice none 0 0], .int .i64 0], []⟩ 8 (by kernel_rfl) (by kernel_rfl) (by kernel_rfl) (by kernel_rfl)) ?_
  intro W base args ds gs before hval0 hW hcnd hsz0 _
  have hsz : (DataW.weightsEach Try.prog (Try.f6.params.toList ++ Rows.memberBackSpec.plain.varTypes Try.prog) (ds ++ gs)).all (· ≤ reachBytes) = true := hsz0
  have hval : ∀ (j : Nat) t v, Try.f6.params[j]? = some t → args[j]? = some v → Value.okWide Try.prog W .any base t v := hval0
  have hW' := hW
  obtain ⟨p, q, hA0, hV, rfl, hfz, hnd⟩ := hW
  have hA : DataW.TrodAll enc Try.prog W 0 (fun _ => true) true Try.f6.params.toList args.toList ds p := hA0
  rw [Try.params6] at hA hval hsz
  obtain ⟨v0, vs0, d0, ds0, p0, q0, hargs, rfl, rfl, h0, r0⟩ := trodAll_cons hA
  obtain ⟨v1, vs1, d1, ds1, p1, q1, rfl, rfl, rfl, h1, r1⟩ := trodAll_cons r0
  obtain ⟨rfl, rfl, rfl⟩ := trodAll_nil r1
  obtain rfl : args = #[v0, v1] := by cases args; simp_all
  obtain ⟨rfl, rfl⟩ := trodVars_none hV
  have k0 := h0
  have lt0 : ∀ x ∈ p0, x.block < W.heap.size := by obtain ⟨m, hm⟩ := k0; exact DataW.trod_lt m _ _ _ hm
  obtain ⟨v0_0, v0_1, y0_0, y0_1, n0, rfl, rfl, rfl, f0_0, f0_1⟩ := Go.Joins.open_agg2 Try.underlying25 (by kernel_rfl) (by kernel_rfl) (hval 0 25 v0 rfl rfl) h0
  obtain ⟨b0_0, len0_0, cap0_0, z0_0, e0_0, w0_0⟩ : ∃ (b : Option Addr) (len cap : Nat) (zs : List Int), v0_0 = .slice b len cap ∧ IsRow .i64 W b len cap zs := by
    rcases open_ints Try.underlying23 Try.underlying3 (by kernel_rfl) f0_0 with ⟨hcs, _⟩ | ⟨x, l, c, zs, hcs, _, hl, hm, hz, _, hcell, hwz⟩
    · simp at hcs
      exact ⟨none, 0, 0, [], hcs, .inl ⟨rfl, rfl, rfl, rfl⟩⟩
    · simp at hcs
      exact ⟨some x, l, c, zs, hcs, .inr ⟨_, rfl, hl, hm, by simpa using hz, hcell, hwz⟩⟩
  subst e0_0
  obtain ⟨b0_1, len0_1, cap0_1, z0_1, e0_1, w0_1⟩ : ∃ (b : Option Addr) (len cap : Nat) (zs : List Int), v0_1 = .slice b len cap ∧ IsRow .i64 W b len cap zs := by
    rcases open_ints Try.underlying23 Try.underlying3 (by kernel_rfl) f0_1 with ⟨hcs, _⟩ | ⟨x, l, c, zs, hcs, _, hl, hm, hz, _, hcell, hwz⟩
    · simp at hcs
      exact ⟨none, 0, 0, [], hcs, .inl ⟨rfl, rfl, rfl, rfl⟩⟩
    · simp at hcs
      exact ⟨some x, l, c, zs, hcs, .inr ⟨_, rfl, hl, hm, by simpa using hz, hcell, hwz⟩⟩
  subst e0_1
  obtain ⟨a1, rfl, rfl, rfl, w1⟩ := open_int Try.underlying3 (hval 1 3 v1 rfl rfl) h1
  clear hA0 hval0 hsz0 hsz
  refine (walk Pure.MemberBack W b0_0 len0_0 cap0_0 z0_0 w0_0 b0_1 len0_1 cap0_1 z0_1 w0_1 a1 w1).mono fun e W' ⟨he, bel⟩ => ?_
  subst he
  exact ⟨_, rfl, _, _, _, [], _, [], hW', trodAll_mk1 (shut_bool Try.underlying4 _), (trodAll_cons_mk (Below.trod laidOut (by kernel_rfl) (of_decide_eq_true (by kernel_rfl)) k0 bel lt0) (trodAll_cons_mk (shut_int Try.underlying3 w1) trodAll_mk0)), rfl, bel.frame _, fun h => by cases h⟩
theorem over : Rows.memberBackRow.holds Try.pinned (OpenSpec.ofChange Rows.memberBackSpec) :=
  OpenClaim.holds_of_wide 6 Try.f6 rfl rfl rfl rfl rfl rfl rfl ⟨rfl, rfl, rfl, rfl, rfl⟩ rfl rfl rfl rfl rfl (by kernel_rfl) Try.func6 (by kernel_rfl)
    (of_decide_eq_true (by kernel_rfl)) (by unfold Func.isWrapper; first | (rw [if_pos (by decide +kernel)]; kernel_rfl) | (rw [if_neg (by decide +kernel)]; exact ⟨rfl, rfl⟩))
    (fun os started H enc _ => lifted os started H enc)
theorem proved : Rows.MemberBackSaid := over
#print axioms proved
end Go.Proofs.Ytjoogjcbamnnbaa.memberBack
namespace Go.Proofs.Ytjoogjcbamnnbaa
/-- The row, under a short name, for the claim. -/
theorem memberBack_holds : Rows.MemberBackSaid := memberBack.proved
end Go.Proofs.Ytjoogjcbamnnbaa
