/-
  No cell of these rows narrows 'for every input' (looked for: loops, veiled, ifaces, maps, wideKeys, modest, calm, conditions, laid).
  DERIVED. THE GIVEN ROWS OF THIS SEAT. 6 by the template 'for every input the law returns true; each argument reads behind the call as it read before'; 0 by the template 'total and deterministic' (their statements: YtmoahkdadeiahaaTotals.lean).
  GIVEN WITH THE SEED: the statements are not yours to turn. If you find one false, say at which input.
  Laid BY PROGRAM, IN A SANDBOX (cutbox-rows.mjs): the forced cells as the released guide's own fill.sh prints them over the translation c2f993964fcd5a45… (all of the seat's roots in one cut). By AI agents, Wed Nov 11 2026. No macro, syntax, notation, axiom, sorry.
-/
import Derived.Test.YtmoahkdadeiahaaChecked
import GoSem.Claim
import GoSem.ClaimJoined
import GoSem.ClaimMapViews
import Derived.JoinedTies
import Derived.KernelRfl
namespace Go.Proofs.Ytmoahkdadeiahaa
/- THE CELL 'sum', in the pinned program and in every row, IS THE sha256 OF THE DUMP (.gsa) THAT YtmoahkdadeiahaaProg.lean LOADS. Nothing in Lean hashes anything: it is a label: what it is worth is what the hold of that sum in a sandbox is worth. -/
noncomputable def Try.pinned : Pinned := { name := "ytmoahkdadeiahaa", sum := "c2f993964fcd5a456639871a513d5aa82910ad1bad27587036782e7c5b11f5f4", checked := Try.checked }
namespace Rows
def none {H : Type} : Left H := { results := [], args := [] }

/-- 'folkmootlaw20.LeaseSteady': WHATEVER THE INPUT: true; the input reads as it did. -/
def leaseSteadySpec : ChangeSpec := { name := "leaseSteady", fn := fun _ => fun
  | [d1, d2] => { results := [.lit (.bool true)], args := [d1, d2] }
  | _ => none }
def leaseSteadyRow : OpenClaim := { program := "ytmoahkdadeiahaa", sum := "c2f993964fcd5a456639871a513d5aa82910ad1bad27587036782e7c5b11f5f4", func := "folkmoot/folkmootlaw20.LeaseSteady", spec := "leaseSteady", unfollowed := true, recurses := true, apart := false }
def LeaseSteadySaid : Prop := leaseSteadyRow.holds Try.pinned (OpenSpec.ofChange leaseSteadySpec)

/-- ITS FALSE NEIGHBOUR: 'it returns false'. Refute it at one input. -/
def leaseSteadyWrong : ChangeSpec := { name := "leaseSteady", fn := fun _ => fun
  | [d1, d2] => { results := [.lit (.bool false)], args := [d1, d2] }
  | _ => none }
def LeaseSteadyWrongFalsely : Prop := leaseSteadyRow.holds Try.pinned (OpenSpec.ofChange leaseSteadyWrong)

/-- 'folkmootlaw20.LeaseStretch': WHATEVER THE INPUT: true; the input reads as it did. -/
def leaseStretchSpec : ChangeSpec := { name := "leaseStretch", fn := fun _ => fun
  | [d1, d2, d3, d4] => { results := [.lit (.bool true)], args := [d1, d2, d3, d4] }
  | _ => none }
def leaseStretchRow : OpenClaim := { program := "ytmoahkdadeiahaa", sum := "c2f993964fcd5a456639871a513d5aa82910ad1bad27587036782e7c5b11f5f4", func := "folkmoot/folkmootlaw20.LeaseStretch", spec := "leaseStretch", unfollowed := true, recurses := true, apart := false }
def LeaseStretchSaid : Prop := leaseStretchRow.holds Try.pinned (OpenSpec.ofChange leaseStretchSpec)

/-- ITS FALSE NEIGHBOUR: 'it returns false'. Refute it at one input. -/
def leaseStretchWrong : ChangeSpec := { name := "leaseStretch", fn := fun _ => fun
  | [d1, d2, d3, d4] => { results := [.lit (.bool false)], args := [d1, d2, d3, d4] }
  | _ => none }
def LeaseStretchWrongFalsely : Prop := leaseStretchRow.holds Try.pinned (OpenSpec.ofChange leaseStretchWrong)

/-- 'folkmootlaw20.LeaseChecks': WHATEVER THE INPUT: true; the input reads as it did. -/
def leaseChecksSpec : ChangeSpec := { name := "leaseChecks", fn := fun _ => fun
  | [d] => { results := [.lit (.bool true)], args := [d] }
  | _ => none }
def leaseChecksRow : OpenClaim := { program := "ytmoahkdadeiahaa", sum := "c2f993964fcd5a456639871a513d5aa82910ad1bad27587036782e7c5b11f5f4", func := "folkmoot/folkmootlaw20.LeaseChecks", spec := "leaseChecks", unfollowed := true, recurses := true, apart := false }
def LeaseChecksSaid : Prop := leaseChecksRow.holds Try.pinned (OpenSpec.ofChange leaseChecksSpec)

/-- ITS FALSE NEIGHBOUR: 'it returns false'. Refute it at one input. -/
def leaseChecksWrong : ChangeSpec := { name := "leaseChecks", fn := fun _ => fun
  | [d] => { results := [.lit (.bool false)], args := [d] }
  | _ => none }
def LeaseChecksWrongFalsely : Prop := leaseChecksRow.holds Try.pinned (OpenSpec.ofChange leaseChecksWrong)

/-- 'folkmootlaw20.LeaseAsks': WHATEVER THE INPUT: true; the input reads as it did. -/
def leaseAsksSpec : ChangeSpec := { name := "leaseAsks", fn := fun _ => fun
  | [d] => { results := [.lit (.bool true)], args := [d] }
  | _ => none }
def leaseAsksRow : OpenClaim := { program := "ytmoahkdadeiahaa", sum := "c2f993964fcd5a456639871a513d5aa82910ad1bad27587036782e7c5b11f5f4", func := "folkmoot/folkmootlaw20.LeaseAsks", spec := "leaseAsks", unfollowed := true, recurses := true, apart := false }
def LeaseAsksSaid : Prop := leaseAsksRow.holds Try.pinned (OpenSpec.ofChange leaseAsksSpec)

/-- ITS FALSE NEIGHBOUR: 'it returns false'. Refute it at one input. -/
def leaseAsksWrong : ChangeSpec := { name := "leaseAsks", fn := fun _ => fun
  | [d] => { results := [.lit (.bool false)], args := [d] }
  | _ => none }
def LeaseAsksWrongFalsely : Prop := leaseAsksRow.holds Try.pinned (OpenSpec.ofChange leaseAsksWrong)

/-- 'folkmootlaw20.LeaseTakes': WHATEVER THE INPUT: true; the input reads as it did. -/
def leaseTakesSpec : ChangeSpec := { name := "leaseTakes", fn := fun _ => fun
  | [d1, d2, d3] => { results := [.lit (.bool true)], args := [d1, d2, d3] }
  | _ => none }
def leaseTakesRow : OpenClaim := { program := "ytmoahkdadeiahaa", sum := "c2f993964fcd5a456639871a513d5aa82910ad1bad27587036782e7c5b11f5f4", func := "folkmoot/folkmootlaw20.LeaseTakes", spec := "leaseTakes", unfollowed := true, recurses := true, apart := false }
def LeaseTakesSaid : Prop := leaseTakesRow.holds Try.pinned (OpenSpec.ofChange leaseTakesSpec)

/-- ITS FALSE NEIGHBOUR: 'it returns false'. Refute it at one input. -/
def leaseTakesWrong : ChangeSpec := { name := "leaseTakes", fn := fun _ => fun
  | [d1, d2, d3] => { results := [.lit (.bool false)], args := [d1, d2, d3] }
  | _ => none }
def LeaseTakesWrongFalsely : Prop := leaseTakesRow.holds Try.pinned (OpenSpec.ofChange leaseTakesWrong)

/-- 'folkmootlaw20.LeaseOver': WHATEVER THE INPUT: true; the input reads as it did. -/
def leaseOverSpec : ChangeSpec := { name := "leaseOver", fn := fun _ => fun
  | [d1, d2, d3, d4] => { results := [.lit (.bool true)], args := [d1, d2, d3, d4] }
  | _ => none }
def leaseOverRow : OpenClaim := { program := "ytmoahkdadeiahaa", sum := "c2f993964fcd5a456639871a513d5aa82910ad1bad27587036782e7c5b11f5f4", func := "folkmoot/folkmootlaw20.LeaseOver", spec := "leaseOver", unfollowed := true, recurses := true, apart := false }
def LeaseOverSaid : Prop := leaseOverRow.holds Try.pinned (OpenSpec.ofChange leaseOverSpec)

/-- ITS FALSE NEIGHBOUR: 'it returns false'. Refute it at one input. -/
def leaseOverWrong : ChangeSpec := { name := "leaseOver", fn := fun _ => fun
  | [d1, d2, d3, d4] => { results := [.lit (.bool false)], args := [d1, d2, d3, d4] }
  | _ => none }
def LeaseOverWrongFalsely : Prop := leaseOverRow.holds Try.pinned (OpenSpec.ofChange leaseOverWrong)

/- THE SECOND FORM. 'bulk': how many values and letters a reading holds, each counted each time it is reached (what is shared counts as often as it is met; a slice's spare places count too). A statement '..UptoSaid' is the law's where the arguments, and the package variables that the reading takes, are together of bulk at most 1048576: NARROWER than '..Said'. Prove '..Said' where nothing that the law and all that it calls make is longer than what came in: it says more and counts as full. Else prove '..UptoSaid'. A law counts once. -/
mutual
def uptoBulk {H : Type} : DataW H → Nat
  | .lit (.string bytes) => bytes.length + 1
  | .lit _ => 1
  | .nil => 1
  | .ptr d => uptoBulk d + 1
  | .slice elems spare => uptoBulkAll elems + uptoBulkAll spare + 1
  | .agg parts => uptoBulkAll parts + 1
  | .iface _ d => uptoBulk d + 1
  | .map entries => uptoBulkEntries entries + 1
  | .held _ => 1
def uptoBulkAll {H : Type} : List (DataW H) → Nat
  | [] => 0
  | d :: r => uptoBulk d + uptoBulkAll r
def uptoBulkEntries {H : Type} : List (Lit × DataW H) → Nat
  | [] => 0
  | x :: r => uptoBulkEntry x + uptoBulkEntries r
def uptoBulkEntry {H : Type} : Lit × DataW H → Nat
  | (.string bytes, d) => bytes.length + uptoBulk d + 1
  | (_, d) => uptoBulk d + 1
 end
def uptoSmall : (H : Type) → List (DataW H) → Bool := fun _ ds => decide (uptoBulkAll ds ≤ 1048576)
def OpenSpec.upto (s : _root_.Go.ChangeSpec) : _root_.Go.OpenSpec := { _root_.Go.OpenSpec.ofChange s with cond := some uptoSmall }

/-- 'folkmootlaw20.LeaseSteady', WHERE WHAT IT READS IS OF BULK AT MOST 1048576: true; the input reads as it did. -/
def leaseSteadyUptoRow : OpenClaim := { program := "ytmoahkdadeiahaa", sum := "c2f993964fcd5a456639871a513d5aa82910ad1bad27587036782e7c5b11f5f4", func := "folkmoot/folkmootlaw20.LeaseSteady", spec := "leaseSteady", unfollowed := true, recurses := true, apart := false, narrowed := true }
def LeaseSteadyUptoSaid : Prop := leaseSteadyUptoRow.holds Try.pinned (OpenSpec.upto leaseSteadySpec)

/-- 'folkmootlaw20.LeaseStretch', WHERE WHAT IT READS IS OF BULK AT MOST 1048576: true; the input reads as it did. -/
def leaseStretchUptoRow : OpenClaim := { program := "ytmoahkdadeiahaa", sum := "c2f993964fcd5a456639871a513d5aa82910ad1bad27587036782e7c5b11f5f4", func := "folkmoot/folkmootlaw20.LeaseStretch", spec := "leaseStretch", unfollowed := true, recurses := true, apart := false, narrowed := true }
def LeaseStretchUptoSaid : Prop := leaseStretchUptoRow.holds Try.pinned (OpenSpec.upto leaseStretchSpec)

/-- 'folkmootlaw20.LeaseChecks', WHERE WHAT IT READS IS OF BULK AT MOST 1048576: true; the input reads as it did. -/
def leaseChecksUptoRow : OpenClaim := { program := "ytmoahkdadeiahaa", sum := "c2f993964fcd5a456639871a513d5aa82910ad1bad27587036782e7c5b11f5f4", func := "folkmoot/folkmootlaw20.LeaseChecks", spec := "leaseChecks", unfollowed := true, recurses := true, apart := false, narrowed := true }
def LeaseChecksUptoSaid : Prop := leaseChecksUptoRow.holds Try.pinned (OpenSpec.upto leaseChecksSpec)

/-- 'folkmootlaw20.LeaseAsks', WHERE WHAT IT READS IS OF BULK AT MOST 1048576: true; the input reads as it did. -/
def leaseAsksUptoRow : OpenClaim := { program := "ytmoahkdadeiahaa", sum := "c2f993964fcd5a456639871a513d5aa82910ad1bad27587036782e7c5b11f5f4", func := "folkmoot/folkmootlaw20.LeaseAsks", spec := "leaseAsks", unfollowed := true, recurses := true, apart := false, narrowed := true }
def LeaseAsksUptoSaid : Prop := leaseAsksUptoRow.holds Try.pinned (OpenSpec.upto leaseAsksSpec)

/-- 'folkmootlaw20.LeaseTakes', WHERE WHAT IT READS IS OF BULK AT MOST 1048576: true; the input reads as it did. -/
def leaseTakesUptoRow : OpenClaim := { program := "ytmoahkdadeiahaa", sum := "c2f993964fcd5a456639871a513d5aa82910ad1bad27587036782e7c5b11f5f4", func := "folkmoot/folkmootlaw20.LeaseTakes", spec := "leaseTakes", unfollowed := true, recurses := true, apart := false, narrowed := true }
def LeaseTakesUptoSaid : Prop := leaseTakesUptoRow.holds Try.pinned (OpenSpec.upto leaseTakesSpec)

/-- 'folkmootlaw20.LeaseOver', WHERE WHAT IT READS IS OF BULK AT MOST 1048576: true; the input reads as it did. -/
def leaseOverUptoRow : OpenClaim := { program := "ytmoahkdadeiahaa", sum := "c2f993964fcd5a456639871a513d5aa82910ad1bad27587036782e7c5b11f5f4", func := "folkmoot/folkmootlaw20.LeaseOver", spec := "leaseOver", unfollowed := true, recurses := true, apart := false, narrowed := true }
def LeaseOverUptoSaid : Prop := leaseOverUptoRow.holds Try.pinned (OpenSpec.upto leaseOverSpec)

end Rows
end Go.Proofs.Ytmoahkdadeiahaa
