/- The clock's queue in memory, and what its methods do: Len, Less, Swap, Push, Pop. -/
import Derived.Test.YtmoahkdadeiahaaProg
import Derived.Test.YtmoahkdadeiahaaWWords
import Derived.Test.YtmoahkdadeiahaaWKept
import Derived.Test.YtmoahkdadeiahaaBlk
import Derived.Test.YtmoahkdadeiahaaAlarmMath
import Derived.WalkKit
import Derived.RegionTactic
import Derived.ChangeAlike
import Derived.BigRegion
import Derived.BigQuiet
import Derived.Deep.QuietTactic
import Derived.OwnWalk
namespace Go.Proofs.Ytmoahkdadeiahaa.AlarmQ
open Go.RowKit Go.Proofs.YtmoahkdadeiahaaW.PrintWords Go.Proofs.Ytmoahkdadeiahaa.AlarmMath Go.Proofs.Ytmoahkdadeiahaa.Blk
set_option linter.unusedVariables false
set_option linter.unusedSimpArgs false
/-- w' is w, but for blocks of S and new ones. -/
structure Fr (w w' : World) (S : Nat → Prop) : Prop where
  os : w'.os = w.os
  tape : w'.tape = w.tape
  output : w'.output = w.output
  size : w.heap.size ≤ w'.heap.size
  block : ∀ k, k < w.heap.size → ¬ S k → w'.heap[k]? = w.heap[k]?
theorem Fr.refl (w : World) (S : Nat → Prop) : Fr w w S := ⟨rfl, rfl, rfl, Nat.le_refl _, fun _ _ _ => rfl⟩
theorem Fr.trans {w w1 w2 : World} {S S' : Nat → Prop} (h : Fr w w1 S) (h' : Fr w1 w2 S') (hs : ∀ k, k < w.heap.size → S' k → S k) : Fr w w2 S :=
  ⟨h'.os.trans h.os, h'.tape.trans h.tape, h'.output.trans h.output, Nat.le_trans h.size h'.size, fun k hk hn => (h'.block k (Nat.lt_of_lt_of_le hk h.size) (fun hs' => hn (hs k hk hs'))).trans (h.block k hk hn)⟩
theorem Fr.mono {w w1 : World} {S S' : Nat → Prop} (h : Fr w w1 S) (hs : ∀ k, k < w.heap.size → S k → S' k) : Fr w w1 S' := ⟨h.os, h.tape, h.output, h.size, fun k hk hn => h.block k hk (fun h' => hn (hs k hk h'))⟩
theorem Fr.below {w w1 : World} {S : Nat → Prop} {B : Nat} (h : Fr w w1 S) (hs : ∀ k, S k → B ≤ k) (hB : B ≤ w.heap.size) : Below B w w1 :=
  ⟨h.os, h.tape, h.output, h.size, fun k hk => h.block k (Nat.lt_of_lt_of_le hk hB) (fun h' => Nat.lt_irrefl _ (Nat.lt_of_lt_of_le hk (hs k h')))⟩
theorem Fr.ofBelow {w w1 : World} (h : Below w.heap.size w w1) (S : Nat → Prop) : Fr w w1 S := ⟨h.os, h.tape, h.output, h.size, fun k hk _ => h.block k hk⟩
theorem Fr.ofGrown {w w1 : World} {g : Nat} (h : w.grownBy w1 (some g)) {S : Nat → Prop} (hS : S g) : Fr w w1 S := ⟨h.os, h.tape, h.output, h.size, fun k hk hn => h.block k hk (fun e => hn (by injection e with e; exact e ▸ hS))⟩
theorem Fr.ofGrownO {w w1 : World} {r : Option Nat} (h : w.grownBy w1 r) {S : Nat → Prop} (hS : ∀ g, r = some g → S g) : Fr w w1 S := ⟨h.os, h.tape, h.output, h.size, fun k hk hn => h.block k hk (fun e => hn (hS k e.symm))⟩
theorem Fr.drewN (w : World) (n : Nat) (S : Nat → Prop) : Fr w (w.drewN n) S := ⟨rfl, rfl, rfl, Nat.le_refl _, fun _ _ _ => rfl⟩
theorem Fr.blk {w w1 : World} {S : Nat → Prop} (h : Fr w w1 S) {g : Nat} {ob : Obj} (hb : w.heap[g]? = some ob) (hn : ¬ S g) : w1.heap[g]? = some ob := (h.block g (blk_lt hb) hn).trans hb

def ptr (x : It) : Value := .pointer (some ⟨x.1, 0, none⟩)
def itc (x : It) (i : Nat) : Array Value := #[.int .i64 x.2.1, .int .i64 x.2.2, .int .i64 (i : Int)]
/-- The queue at block C: its row v of pointers, its items each with its place; S: the blocks that are its own (and the map's, m). -/
structure QAt (w : World) (S : Nat → Prop) (C m : Nat) (v : Value) (q : List It) : Prop where
  cC : w.heap[C]? = some (.cells #[v, .map (some m)] 79 (0, 0))
  row : w.ownsRow 0 80 1 v q.length (q.map ptr)
  its : ∀ i, i < q.length → w.heap[(at_ q i).1]? = some (.cells (itc (at_ q i) i) 83 (0, 0))
  nd : (q.map (·.1)).Nodup
  sC : S C
  sv : ∀ g, v.ownBlock = some g → S g
  si : ∀ i, i < q.length → S (at_ q i).1
  bd : q.length ≤ 100000
theorem QAt.mono {w : World} {S S' : Nat → Prop} {C m : Nat} {v : Value} {q : List It} (h : QAt w S C m v q) (hs : ∀ k, S k → S' k) : QAt w S' C m v q := ⟨h.cC, h.row, h.its, h.nd, hs _ h.sC, fun g hg => hs _ (h.sv g hg), fun i hi => hs _ (h.si i hi), h.bd⟩
/-- It stays while blocks that are not its own are written. -/
theorem QAt.move {w w' : World} {S T : Nat → Prop} {C m : Nat} {v : Value} {q : List It} (h : QAt w S C m v q) (hf : Fr w w' T) (hd : ∀ k, S k → ¬ T k) : QAt w' S C m v q := by
  refine ⟨hf.blk h.cC (hd _ h.sC), own_move h.row (fun k hk => hf.block k (h.row.lt k hk).2 (hd _ (h.sv k hk))), fun i hi => hf.blk (h.its i hi) (hd _ (h.si i hi)), h.nd, h.sC, h.sv, h.si, h.bd⟩
theorem QAt.c0 {w : World} {S : Nat → Prop} {C m : Nat} {v : Value} {q : List It} (h : QAt w S C m v q) : w.cell? ⟨C, 0, none⟩ = some v := (blk_cell h.cC 0).trans rfl
theorem QAt.c1 {w : World} {S : Nat → Prop} {C m : Nat} {v : Value} {q : List It} (h : QAt w S C m v q) : w.cell? ⟨C, 1, none⟩ = some (.map (some m)) := (blk_cell h.cC 1).trans rfl
theorem QAt.form {w : World} {S : Nat → Prop} {C m : Nat} {v : Value} {q : List It} (h : QAt w S C m v q) : ∃ A c, v = .slice A q.length c ∧ q.length ≤ c := by
  rcases h.row.2 with ⟨rfl, hn⟩ | ⟨g, cap, cur, rfl, _, _, hc, _⟩
  · rw [hn]; exact ⟨none, 0, rfl, Nat.le_refl _⟩
  · exact ⟨_, cap, rfl, hc⟩
/-- Where there is an item there is a block of pointers. -/
theorem QAt.blk {w : World} {S : Nat → Prop} {C m : Nat} {v : Value} {q : List It} (h : QAt w S C m v q) (hp : 0 < q.length) : ∃ g cap cur, v = .slice (some ⟨g, 0, none⟩) q.length cap ∧ S g ∧ w.heap[g]? = some (.cells cur 80 (0, 0)) ∧ q.length ≤ cap ∧ cap ≤ maxLen ∧ cur.size = cap ∧ (∀ i, i < q.length → cur[i]? = some (ptr (at_ q i))) := by
  rcases h.row.2 with ⟨_, hn⟩ | ⟨g, cap, cur, e, _, hh, hc, hm, hs, ht⟩
  · omega
  · refine ⟨g, cap, cur, e, h.sv g (by rw [e]; rfl), hh, hc, hm, by simpa using hs, fun i hi => ?_⟩
    have h2 : (cur.toList.take (q.length * 1))[i]? = some (ptr (at_ q i)) := by
      rw [ht, List.getElem?_map, List.getElem?_eq_getElem hi, at_get hi]; rfl
    rw [List.getElem?_take, if_pos (by omega)] at h2
    simpa using h2
end Go.Proofs.Ytmoahkdadeiahaa.AlarmQ
