/-
  No cell of these rows narrows 'for every input' (looked for: loops, veiled, ifaces, maps, wideKeys, modest, calm, conditions, laid).
  DERIVED. THE GIVEN ROWS OF THIS SEAT. 4 by the template 'for every input the law returns true; each argument reads behind the call as it read before'; 0 by the template 'total and deterministic' (their statements: YtjoogjcbamnnbaaTotals.lean).
  GIVEN WITH THE SEED: the statements are not yours to turn. If you find one false, say at which input.
  Laid BY PROGRAM, IN A SANDBOX (cutbox-rows.mjs): the forced cells as the released guide's own fill.sh prints them over the translation b068e525d29ad756… (all of the seat's roots in one cut). By AI agents, Wed Nov 11 2026. No macro, syntax, notation, axiom, sorry.
-/
import Derived.Test.YtjoogjcbamnnbaaChecked
import GoSem.Claim
import GoSem.ClaimJoined
import GoSem.ClaimMapViews
import Derived.JoinedTies
import Derived.KernelRfl
namespace Go.Proofs.Ytjoogjcbamnnbaa
/- THE CELL 'sum', in the pinned program and in every row, IS THE sha256 OF THE DUMP (.gsa) THAT YtjoogjcbamnnbaaProg.lean LOADS. Nothing in Lean hashes anything: it is a label: what it is worth is what the hold of that sum in a sandbox is worth. -/
noncomputable def Try.pinned : Pinned := { name := "ytjoogjcbamnnbaa", sum := "b068e525d29ad756e43c11903c8e645b2363761ad37f0bc280c11d8b50ae422b", checked := Try.checked }
namespace Rows
def none {H : Type} : Left H := { results := [], args := [] }

/-- 'folkmootlaw17.MemberAsks': WHATEVER THE INPUT: true; the input reads as it did. -/
def memberAsksSpec : ChangeSpec := { name := "memberAsks", fn := fun _ => fun
  | [d1, d2, d3] => { results := [.lit (.bool true)], args := [d1, d2, d3] }
  | _ => none }
def memberAsksRow : OpenClaim := { program := "ytjoogjcbamnnbaa", sum := "b068e525d29ad756e43c11903c8e645b2363761ad37f0bc280c11d8b50ae422b", func := "folkmoot/folkmootlaw17.MemberAsks", spec := "memberAsks", unfollowed := true, recurses := true, apart := false }
def MemberAsksSaid : Prop := memberAsksRow.holds Try.pinned (OpenSpec.ofChange memberAsksSpec)

/-- ITS FALSE NEIGHBOUR: 'it returns false'. Refute it at one input. -/
def memberAsksWrong : ChangeSpec := { name := "memberAsks", fn := fun _ => fun
  | [d1, d2, d3] => { results := [.lit (.bool false)], args := [d1, d2, d3] }
  | _ => none }
def MemberAsksWrongFalsely : Prop := memberAsksRow.holds Try.pinned (OpenSpec.ofChange memberAsksWrong)

/-- 'folkmootlaw17.MemberApplies': WHATEVER THE INPUT: true; the input reads as it did. -/
def memberAppliesSpec : ChangeSpec := { name := "memberApplies", fn := fun _ => fun
  | [d1, d2] => { results := [.lit (.bool true)], args := [d1, d2] }
  | _ => none }
def memberAppliesRow : OpenClaim := { program := "ytjoogjcbamnnbaa", sum := "b068e525d29ad756e43c11903c8e645b2363761ad37f0bc280c11d8b50ae422b", func := "folkmoot/folkmootlaw17.MemberApplies", spec := "memberApplies", unfollowed := true, recurses := true, apart := false }
def MemberAppliesSaid : Prop := memberAppliesRow.holds Try.pinned (OpenSpec.ofChange memberAppliesSpec)

/-- ITS FALSE NEIGHBOUR: 'it returns false'. Refute it at one input. -/
def memberAppliesWrong : ChangeSpec := { name := "memberApplies", fn := fun _ => fun
  | [d1, d2] => { results := [.lit (.bool false)], args := [d1, d2] }
  | _ => none }
def MemberAppliesWrongFalsely : Prop := memberAppliesRow.holds Try.pinned (OpenSpec.ofChange memberAppliesWrong)

/-- 'folkmootlaw17.MemberMeets': WHATEVER THE INPUT: true; the input reads as it did. -/
def memberMeetsSpec : ChangeSpec := { name := "memberMeets", fn := fun _ => fun
  | [d1, d2, d3, d4] => { results := [.lit (.bool true)], args := [d1, d2, d3, d4] }
  | _ => none }
def memberMeetsRow : OpenClaim := { program := "ytjoogjcbamnnbaa", sum := "b068e525d29ad756e43c11903c8e645b2363761ad37f0bc280c11d8b50ae422b", func := "folkmoot/folkmootlaw17.MemberMeets", spec := "memberMeets", unfollowed := true, recurses := true, apart := false }
def MemberMeetsSaid : Prop := memberMeetsRow.holds Try.pinned (OpenSpec.ofChange memberMeetsSpec)

/-- ITS FALSE NEIGHBOUR: 'it returns false'. Refute it at one input. -/
def memberMeetsWrong : ChangeSpec := { name := "memberMeets", fn := fun _ => fun
  | [d1, d2, d3, d4] => { results := [.lit (.bool false)], args := [d1, d2, d3, d4] }
  | _ => none }
def MemberMeetsWrongFalsely : Prop := memberMeetsRow.holds Try.pinned (OpenSpec.ofChange memberMeetsWrong)

/-- 'folkmootlaw17.MemberBack': WHATEVER THE INPUT: true; the input reads as it did. -/
def memberBackSpec : ChangeSpec := { name := "memberBack", fn := fun _ => fun
  | [d1, d2] => { results := [.lit (.bool true)], args := [d1, d2] }
  | _ => none }
def memberBackRow : OpenClaim := { program := "ytjoogjcbamnnbaa", sum := "b068e525d29ad756e43c11903c8e645b2363761ad37f0bc280c11d8b50ae422b", func := "folkmoot/folkmootlaw17.MemberBack", spec := "memberBack", unfollowed := true, recurses := true, apart := false }
def MemberBackSaid : Prop := memberBackRow.holds Try.pinned (OpenSpec.ofChange memberBackSpec)

/-- ITS FALSE NEIGHBOUR: 'it returns false'. Refute it at one input. -/
def memberBackWrong : ChangeSpec := { name := "memberBack", fn := fun _ => fun
  | [d1, d2] => { results := [.lit (.bool false)], args := [d1, d2] }
  | _ => none }
def MemberBackWrongFalsely : Prop := memberBackRow.holds Try.pinned (OpenSpec.ofChange memberBackWrong)

/- THE SECOND FORM. 'bulk': how many values and letters a reading holds, each counted each time it is reached (what is shared counts as often as it is met; a slice's spare places count too). A statement '..UptoSaid' is the law's where the arguments, and the package variables that the reading takes, are together of bulk at most 1048576: NARROWER than '..Said'. Prove '..Said' where nothing that the law and all that it calls make is longer than what came in: it says more and counts as full. Else prove '..UptoSaid'. A law counts once. -/
mutual
def uptoBulk {H : Type} : DataW H → Nat
  | .lit (.string bytes) => bytes.length + 1
  | .lit _ => 1
  | .nil => 1
  | .ptr d => uptoBulk d + 1
  | .slice elems spare => uptoBulkAll elems + uptoBulkAll spare + 1
  | .agg parts => uptoBulkAll parts + 1
  | .iface _ d => uptoBulk d + 1
  | .map entries => uptoBulkEntries entries + 1
  | .held _ => 1
def uptoBulkAll {H : Type} : List (DataW H) → Nat
  | [] => 0
  | d :: r => uptoBulk d + uptoBulkAll r
def uptoBulkEntries {H : Type} : List (Lit × DataW H) → Nat
  | [] => 0
  | x :: r => uptoBulkEntry x + uptoBulkEntries r
def uptoBulkEntry {H : Type} : Lit × DataW H → Nat
  | (.string bytes, d) => bytes.length + uptoBulk d + 1
  | (_, d) => uptoBulk d + 1
 end
def uptoSmall : (H : Type) → List (DataW H) → Bool := fun _ ds => decide (uptoBulkAll ds ≤ 1048576)
def OpenSpec.upto (s : _root_.Go.ChangeSpec) : _root_.Go.OpenSpec := { _root_.Go.OpenSpec.ofChange s with cond := some uptoSmall }

/-- 'folkmootlaw17.MemberAsks', WHERE WHAT IT READS IS OF BULK AT MOST 1048576: true; the input reads as it did. -/
def memberAsksUptoRow : OpenClaim := { program := "ytjoogjcbamnnbaa", sum := "b068e525d29ad756e43c11903c8e645b2363761ad37f0bc280c11d8b50ae422b", func := "folkmoot/folkmootlaw17.MemberAsks", spec := "memberAsks", unfollowed := true, recurses := true, apart := false, narrowed := true }
def MemberAsksUptoSaid : Prop := memberAsksUptoRow.holds Try.pinned (OpenSpec.upto memberAsksSpec)

/-- 'folkmootlaw17.MemberApplies', WHERE WHAT IT READS IS OF BULK AT MOST 1048576: true; the input reads as it did. -/
def memberAppliesUptoRow : OpenClaim := { program := "ytjoogjcbamnnbaa", sum := "b068e525d29ad756e43c11903c8e645b2363761ad37f0bc280c11d8b50ae422b", func := "folkmoot/folkmootlaw17.MemberApplies", spec := "memberApplies", unfollowed := true, recurses := true, apart := false, narrowed := true }
def MemberAppliesUptoSaid : Prop := memberAppliesUptoRow.holds Try.pinned (OpenSpec.upto memberAppliesSpec)

/-- 'folkmootlaw17.MemberMeets', WHERE WHAT IT READS IS OF BULK AT MOST 1048576: true; the input reads as it did. -/
def memberMeetsUptoRow : OpenClaim := { program := "ytjoogjcbamnnbaa", sum := "b068e525d29ad756e43c11903c8e645b2363761ad37f0bc280c11d8b50ae422b", func := "folkmoot/folkmootlaw17.MemberMeets", spec := "memberMeets", unfollowed := true, recurses := true, apart := false, narrowed := true }
def MemberMeetsUptoSaid : Prop := memberMeetsUptoRow.holds Try.pinned (OpenSpec.upto memberMeetsSpec)

/-- 'folkmootlaw17.MemberBack', WHERE WHAT IT READS IS OF BULK AT MOST 1048576: true; the input reads as it did. -/
def memberBackUptoRow : OpenClaim := { program := "ytjoogjcbamnnbaa", sum := "b068e525d29ad756e43c11903c8e645b2363761ad37f0bc280c11d8b50ae422b", func := "folkmoot/folkmootlaw17.MemberBack", spec := "memberBack", unfollowed := true, recurses := true, apart := false, narrowed := true }
def MemberBackUptoSaid : Prop := memberBackUptoRow.holds Try.pinned (OpenSpec.upto memberBackSpec)

end Rows
end Go.Proofs.Ytjoogjcbamnnbaa
