/- What makes a holder right, in plain words. -/
import Derived.Test.YtmoahkdadeiahaaO0
namespace Go.Proofs.Ytmoahkdadeiahaa.Hold
open Go.RowKit Go.Proofs.Ytmoahkdadeiahaa.O Go.Proofs.YtmoahkdadeiahaaW.PrintWords Go.Proofs.YtmoahkdadeiahaaW.PrintLast Go.Proofs.YtmoahkdadeiahaaW.PrintMore
set_option linter.unusedVariables false
abbrev Sn := S59
def win (n m : Int) : Bool := decide (0 ≤ n ∧ n ≤ m)
def rowOK (ask now : Int) : Int → List Sn → Bool
  | _, [] => true
  | last, s :: r => decide (last < s.f0 ∧ s.f0 ≤ ask ∧ 0 ≤ s.f1 ∧ s.f1 ≤ now) && rowOK ask now s.f0 r
theorem rowOK_cons (ask now last : Int) (s : Sn) (r : List Sn) : rowOK ask now last (s :: r) = (decide (last < s.f0 ∧ s.f0 ≤ ask ∧ 0 ≤ s.f1 ∧ s.f1 ≤ now) && rowOK ask now s.f0 r) := rfl
def headOK (node now ask seq at_ : Int) (n : Nat) : Bool := win (wrap64 (node - 11)) 2 && (win now 1000000000 && (win ask 1000000000 && (win seq 1000000000 && (win at_ now && ((!decide (seq = 0) || decide (at_ = 0)) && decide (n ≤ 16))))))
def right (node now ask : Int) (l : List Sn) (seq at_ : Int) : Bool := headOK node now ask seq at_ l.length && rowOK ask now 0 l
theorem rd_at (l : List Sn) (i : Nat) (h : i < l.length) : rd_T59 l (i : Int) = l[i] := by unfold rd_T59; simp [List.getD, h]
def lastOf (l : List Sn) (i : Nat) : Int := if i = 0 then 0 else (l.getD (i - 1) ⟨0, 0⟩).f0
theorem lastOf_succ (l : List Sn) (i : Nat) (h : i < l.length) : lastOf l (i + 1) = l[i].f0 := by unfold lastOf; rw [if_neg (by omega)]; simp [List.getD, h]
/-- One item of the row, in its place. -/
structure AtRow (ask now : Int) (l : List Sn) (i : Nat) : Prop where
  row : rowOK ask now 0 l = rowOK ask now (lastOf l i) (l.drop i)
  pos : 0 < i → 1 ≤ lastOf l i
theorem AtRow.first (ask now : Int) (l : List Sn) : AtRow ask now l 0 := ⟨rfl, fun h => absurd h (by omega)⟩
theorem AtRow.step {ask now : Int} {l : List Sn} {i : Nat} (h : AtRow ask now l i) (hi : i < l.length) (h1 : lastOf l i < l[i].f0) (h0 : 1 ≤ l[i].f0) (h2 : l[i].f0 ≤ ask) (h3 : win l[i].f1 now = true) : AtRow ask now l (i + 1) := by
  have h3' : 0 ≤ l[i].f1 ∧ l[i].f1 ≤ now := by simpa [win] using h3
  refine ⟨?_, fun _ => by rw [lastOf_succ l i hi]; exact h0⟩
  rw [h.row, List.drop_eq_getElem_cons hi, rowOK_cons, decide_eq_true ⟨h1, h2, h3'.1, h3'.2⟩, lastOf_succ l i hi]
  rfl
theorem AtRow.bad {ask now : Int} {l : List Sn} {i : Nat} (h : AtRow ask now l i) (hi : i < l.length) (hb : ¬ (lastOf l i < l[i].f0 ∧ l[i].f0 ≤ ask ∧ win l[i].f1 now = true)) : rowOK ask now 0 l = false := by
  rw [h.row, List.drop_eq_getElem_cons hi, rowOK_cons, decide_eq_false (fun e => hb ⟨e.1, e.2.1, by unfold win; exact decide_eq_true ⟨e.2.2.1, e.2.2.2⟩⟩)]
  rfl
theorem AtRow.all {ask now : Int} {l : List Sn} (h : AtRow ask now l l.length) : rowOK ask now 0 l = true := by rw [h.row, List.drop_length]; rfl
end Go.Proofs.Ytmoahkdadeiahaa.Hold
