/- Bridges between the words of the shelf's contracts (Holds, putRow, ahead, grow) and the words of the printed contracts (Kd.R, Below, Kept). They hold over every world. -/
import Derived.Test.YtjoogjcbamnnbaaWWords
import Derived.Test.YtjoogjcbamnnbaaWKept
import Derived.Sort.Row
import Derived.Sort.Grow
namespace Go.Proofs.Ytjoogjcbamnnbaa.Gen
open Go.Sort (Holds putRow grow putCells onCells heap_grow_old)
open Go.RowKit Go.Proofs.YtjoogjcbamnnbaaW.PrintWords

section
variable {α : Type} {enc : α → Value} {h1 : ∀ x : α, (enc x).oneCell' = true} {e base : Nat} {w : World} {ok : Nat → Prop} {v : Value} {xs : List α}

/-- A row of one-cell elements: nil and empty, or a block that begins with its elements. -/
theorem R_open (h : (Kd.scalar enc h1).R e w base ok v xs) :
    (v = .slice none 0 0 ∧ xs = []) ∨ ∃ g cap cur, v = .slice (some ⟨g, 0, none⟩) xs.length cap ∧ base ≤ g ∧ g < w.heap.size ∧ ok g ∧ w.heap[g]? = some (.cells cur e (0, 0)) ∧ xs.length ≤ cap ∧ cap ≤ maxLen ∧ cur.size = cap ∧ cur.toList.take xs.length = xs.map enc := by
  obtain ⟨h0, inner, ⟨hl, ho⟩, hr⟩ := h
  have hsz : (Kd.scalar enc h1).sz = 1 := rfl
  rw [hsz] at hl ho hr
  rcases ho with ⟨rfl, hn⟩ | ⟨g, cap, cur, rfl, hb, hh, hc, hm, hs, ht⟩
  · exact .inl ⟨rfl, List.length_eq_zero_iff.1 hn⟩
  · refine .inr ⟨g, cap, cur, rfl, hb, (Array.getElem?_eq_some_iff.1 hh).1, h0 g rfl, hh, hc, hm, by simpa using hs, ?_⟩
    rw [Nat.mul_one] at ht hl
    rw [ht]
    apply List.ext_getElem (by simpa using hl)
    intro j h1 h2
    have hj : j < xs.length := by omega
    have := hr.2 j xs[j] (List.getElem?_eq_getElem hj)
    have h3 : (inner.drop (j * 1)).take 1 = [enc xs[j]] := this
    rw [Nat.mul_one, List.drop_eq_getElem_cons h1] at h3
    simp only [List.take_succ_cons, List.take_zero, List.cons.injEq, and_true] at h3
    rw [List.getElem_map]
    exact h3
theorem R_shut {g cap : Nat} {cur : Array Value} (hok : ok g) (hb : base ≤ g) (hh : w.heap[g]? = some (.cells cur e (0, 0))) (hc : xs.length ≤ cap) (hm : cap ≤ maxLen) (hs : cur.size = cap) (ht : cur.toList.take xs.length = xs.map enc) :
    (Kd.scalar enc h1).R e w base ok (.slice (some ⟨g, 0, none⟩) xs.length cap) xs := by
  refine ⟨fun k hk => by have : g = k := by simpa [Value.ownBlock] using hk
                         exact this ▸ hok, xs.map enc, ⟨by simp [Kd.scalar], .inr ⟨g, cap, cur, rfl, hb, hh, hc, hm, by simp [Kd.scalar, hs], by simp [Kd.scalar, ht]⟩⟩, ⟨by simp [Kd.scalar], fun j p hj => ?_⟩⟩
  have hj' := (List.getElem?_eq_some_iff.1 hj).1
  show ((xs.map enc).drop (j * 1)).take 1 = [enc p]
  rw [Nat.mul_one, List.drop_eq_getElem_cons (by simpa using hj')]
  have : xs[j] = p := by
    rw [List.getElem?_eq_getElem hj'] at hj
    exact Option.some.inj hj
  simp [this]

variable [Inhabited α]
theorem cur_at {cur : Array Value} (ht : cur.toList.take xs.length = xs.map enc) (j : Nat) (hj : j < xs.length) : cur[j]? = some (enc xs.toArray[j]!) := by
  have h : (cur.toList.take xs.length)[j]? = some (enc xs[j]) := by rw [ht]; simp [List.getElem?_eq_getElem hj]
  rw [List.getElem?_take, if_pos hj] at h
  rw [getElem!_pos xs.toArray j (by simpa using hj)]
  simpa using h
theorem holds_of {g : Nat} {cur : Array Value} (hh : w.heap[g]? = some (.cells cur e (0, 0))) (ht : cur.toList.take xs.length = xs.map enc) : Holds enc w g 0 xs.toArray := by
  intro j hj
  have hj' : j < xs.length := by simpa using hj
  refine ⟨?_, ?_⟩
  · rw [Nat.zero_add]
    simp [World.cell?, hh]
    have := cur_at ht j hj'
    simpa using this
  · simp [World.frozen?, hh]

theorem putCells_take (enc : α → Value) (ys : List α) (cur : Array Value) (h : ys.length ≤ cur.size) : (putCells enc 0 ys.toArray cur).toList.take ys.length = ys.map enc := by
  apply List.ext_getElem?
  intro j
  rw [List.getElem?_take]
  by_cases hj : j < ys.length
  · rw [if_pos hj, Array.getElem?_toList]
    unfold putCells
    rw [Array.getElem?_mapIdx, Array.getElem?_eq_getElem (by omega)]
    simp only [Option.map_some, Nat.zero_le, true_and, Nat.zero_add, List.size_toArray, Nat.sub_zero]
    rw [if_pos hj, getElem!_pos ys.toArray j (by simpa using hj)]
    simp [List.getElem?_eq_getElem hj]
  · rw [if_neg hj, List.getElem?_eq_none (by simpa using hj)]

/-- What the sort, Compact and DeleteFunc leave of a row. -/
theorem R_put {g cap q m : Nat} {cur : Array Value} {ys : List α} {os : Array Obj} (hok : ok g) (hb : base ≤ g) (hh : w.heap[g]? = some (.cells cur e (0, 0))) (hc : ys.length ≤ cap) (hm : cap ≤ maxLen) (hs : cur.size = cap) (hm' : m ≤ ys.length) :
    (Kd.scalar enc h1).R e (grow (putRow enc (Sort.ahead w q) g 0 ys.toArray) os) base ok (.slice (some ⟨g, 0, none⟩) m cap) (ys.take m) := by
  have hlt : g < w.heap.size := (Array.getElem?_eq_some_iff.1 hh).1
  have hh' : (grow (putRow enc (Sort.ahead w q) g 0 ys.toArray) os).heap[g]? = some (.cells (putCells enc 0 ys.toArray cur) e (0, 0)) := by
    rw [heap_grow_old _ _ (by simpa using hlt)]
    show ((Sort.ahead w q).heap.modify g (onCells _))[g]? = _
    rw [Array.getElem?_modify, if_pos rfl]
    show Option.map _ (w.heap[g]?) = _
    rw [hh]
    rfl
  have hl : (ys.take m).length = m := by simp; omega
  have hsz : (putCells enc 0 ys.toArray cur).size = cap := by simp [putCells, hs]
  have ht : (putCells enc 0 ys.toArray cur).toList.take (ys.take m).length = (ys.take m).map enc := by
    have := congrArg (List.take m) (putCells_take enc ys cur (by omega))
    rw [List.take_take, Nat.min_eq_left hm'] at this
    rw [hl, this, List.map_take]
  have := R_shut (enc := enc) (h1 := h1) (xs := ys.take m) hok hb hh' (by omega) hm hsz ht
  rw [hl] at this
  exact this
/-- .. and of the rest of memory. -/
theorem put_old {g q : Nat} {ys : Array α} {os : Array Obj} (k : Nat) (hk : k < w.heap.size) (hne : k ≠ g) : (grow (putRow enc (Sort.ahead w q) g 0 ys) os).heap[k]? = w.heap[k]? := by
  rw [heap_grow_old _ _ (by simpa using hk)]
  show ((Sort.ahead w q).heap.modify g (onCells _))[k]? = _
  rw [Array.getElem?_modify, if_neg (by omega)]
  rfl
theorem put_below {w0 : World} {g q : Nat} {ys : Array α} {os : Array Obj} {B : Nat} (h : Below B w0 w) (hB : B ≤ w.heap.size) (hg : B ≤ g) : Below B w0 (grow (putRow enc (Sort.ahead w q) g 0 ys) os) :=
  h.trans ⟨rfl, rfl, rfl, by simp, fun k hk => put_old k (by omega) (by omega)⟩
theorem put_kept {g q : Nat} {ys : Array α} {os : Array Obj} {S : Nat → Prop} (hS : S g) : Kept w (grow (putRow enc (Sort.ahead w q) g 0 ys) os) S :=
  ⟨by simp, fun i hi hn => put_old i hi (fun e => hn (e ▸ hS))⟩
end
end Go.Proofs.Ytjoogjcbamnnbaa.Gen
