/- Plain facts on rows of ticks: a clock that keeps the least it was told (a gauge) answers as looking at every stretch does. No program. -/
import Derived.Test.YtmoahkdadeiahaaSetMath
namespace Go.Proofs.Ytmoahkdadeiahaa.SteadyMath

def okB (le mo a b : Int) : Bool := decide (a - le ≤ 2) && decide (b - mo ≤ 2)
structure Gs where
  d : Bool
  le : Int
  mo : Int
  t : Int
  wd : Int
def gtell (n x : Int) (s : Gs) : Bool × Gs :=
  if x = -n then (true, ⟨!s.d, 0, 0, 0, 0⟩)
  else if s.d = true ∨ (x ≠ 0 ∧ x ≠ n) then (true, s)
  else if x = 0 then (okB s.le s.mo (s.t - 2 * (s.wd + 1)) (s.wd + 1 - 2 * s.t), ⟨false, min s.le (s.t - 2 * (s.wd + 1)), min s.mo (s.wd + 1 - 2 * s.t), s.t, s.wd + 1⟩)
  else (okB s.le s.mo (s.t + 1 - 2 * s.wd) (s.wd - 2 * (s.t + 1)), ⟨false, min s.le (s.t + 1 - 2 * s.wd), min s.mo (s.wd - 2 * (s.t + 1)), s.t + 1, s.wd⟩)
def grun (n : Int) : Gs → List Int → Bool
  | _, [] => true
  | s, x :: r => if (gtell n x s).1 = true then grun n (gtell n x s).2 r else false
def g0 : Gs := ⟨false, 0, 0, 0, 0⟩
def gOne (l : List Int) (n : Int) : Bool := decide (1 ≤ n) && grun n g0 l

def bad (t w : Int) : Bool := decide (t > 2 * w + 2) || decide (w > 2 * t + 2)
/-- A stretch from here on: so many ticks and worlds since its begin. -/
def stretch (n : Int) : Int → Int → List Int → Bool
  | _, _, [] => true
  | t, w, x :: r => if x = -n then true else if bad (if x = n then t + 1 else t) (if x = 0 then w + 1 else w) = true then false else stretch n (if x = n then t + 1 else t) (if x = 0 then w + 1 else w) r
/-- All stretches. -/
def rs (n : Int) : Bool → List Int → Bool
  | _, [] => true
  | up, x :: r => if x = -n then rs n (!up) r else (if up = true then stretch n 0 0 (x :: r) else true) && rs n up r
/-- All stretches from one begin on, told by the least. -/
def ahead (n : Int) : Int → Int → Int → Int → List Int → Bool
  | _, _, _, _, [] => true
  | le, mo, t, w, x :: r => if x = -n then true else if x = 0 then okB le mo (t - 2 * (w + 1)) (w + 1 - 2 * t) && ahead n le mo t (w + 1) r else if x = n then okB le mo (t + 1 - 2 * w) (w - 2 * (t + 1)) && ahead n le mo (t + 1) w r else ahead n le mo t w r

theorem grun_cons (n : Int) (s : Gs) (x : Int) (r : List Int) : grun n s (x :: r) = if (gtell n x s).1 = true then grun n (gtell n x s).2 r else false := by rw [grun]
theorem stretch_cons (n t w x : Int) (r : List Int) : stretch n t w (x :: r) = if x = -n then true else if bad (if x = n then t + 1 else t) (if x = 0 then w + 1 else w) = true then false else stretch n (if x = n then t + 1 else t) (if x = 0 then w + 1 else w) r := by rw [stretch]
theorem rs_cons (n : Int) (up : Bool) (x : Int) (r : List Int) : rs n up (x :: r) = if x = -n then rs n (!up) r else (if up = true then stretch n 0 0 (x :: r) else true) && rs n up r := by rw [rs]
theorem ahead_cons (n le mo t w x : Int) (r : List Int) : ahead n le mo t w (x :: r) = if x = -n then true else if x = 0 then okB le mo (t - 2 * (w + 1)) (w + 1 - 2 * t) && ahead n le mo t (w + 1) r else if x = n then okB le mo (t + 1 - 2 * w) (w - 2 * (t + 1)) && ahead n le mo (t + 1) w r else ahead n le mo t w r := by rw [ahead]

theorem okB_iff (le mo a b : Int) : okB le mo a b = true ↔ a - le ≤ 2 ∧ b - mo ≤ 2 := by
  unfold okB
  rw [Bool.and_eq_true, decide_eq_true_iff, decide_eq_true_iff]
theorem bad_false (t w : Int) : bad t w = false ↔ t ≤ 2 * w + 2 ∧ w ≤ 2 * t + 2 := by
  unfold bad
  rw [Bool.or_eq_false_iff, decide_eq_false_iff_not, decide_eq_false_iff_not]
  omega
theorem ahead_min (n : Int) : ∀ (l : List Int) (le mo le' mo' t w : Int), ahead n (min le le') (min mo mo') t w l = (ahead n le mo t w l && ahead n le' mo' t w l)
  | [], _, _, _, _, _, _ => rfl
  | x :: r, le, mo, le', mo', t, w => by
    have hok : ∀ a b, okB (min le le') (min mo mo') a b = (okB le mo a b && okB le' mo' a b) := fun a b => by
      rw [Bool.eq_iff_iff, Bool.and_eq_true, okB_iff, okB_iff, okB_iff]
      omega
    rw [ahead_cons, ahead_cons, ahead_cons]
    split
    · rfl
    · split
      · rw [hok, ahead_min n r]
        cases okB le mo (t - 2 * (w + 1)) (w + 1 - 2 * t) <;> cases okB le' mo' (t - 2 * (w + 1)) (w + 1 - 2 * t) <;> cases ahead n le mo t (w + 1) r <;> rfl
      · split
        · rw [hok, ahead_min n r]
          cases okB le mo (t + 1 - 2 * w) (w - 2 * (t + 1)) <;> cases okB le' mo' (t + 1 - 2 * w) (w - 2 * (t + 1)) <;> cases ahead n le mo (t + 1) w r <;> rfl
        · exact ahead_min n r _ _ _ _ _ _
theorem ahead_mono {n le mo le' mo' t w : Int} {l : List Int} (h1 : le ≤ le') (h2 : mo ≤ mo') (h : ahead n le mo t w l = true) : ahead n le' mo' t w l = true := by
  have := ahead_min n l le mo le' mo' t w
  rw [Int.min_eq_left h1, Int.min_eq_left h2, h, Bool.true_and] at this
  exact this.symm
theorem stretch_ahead (n : Int) (hn : 1 ≤ n) : ∀ (l : List Int) (t0 w0 dt dw : Int), stretch n dt dw l = ahead n (t0 - 2 * w0) (w0 - 2 * t0) (t0 + dt) (w0 + dw) l
    ∨ bad dt dw = true
  | [], _, _, _, _ => .inl rfl
  | x :: r, t0, w0, dt, dw => by
    cases hb : bad dt dw with
    | true => exact .inr rfl
    | false =>
      left
      have hb' := (bad_false _ _).1 hb
      rw [stretch_cons, ahead_cons]
      by_cases c1 : x = -n
      · rw [if_pos c1, if_pos c1]
      · rw [if_neg c1, if_neg c1]
        by_cases c2 : x = 0
        · have c3 : ¬ x = n := by omega
          rw [if_pos c2, if_neg c3, if_pos c2]
          rcases stretch_ahead n hn r t0 w0 dt (dw + 1) with h | h
          · cases hk : bad dt (dw + 1) with
            | true =>
              rw [if_pos rfl]
              have : okB (t0 - 2 * w0) (w0 - 2 * t0) (t0 + dt - 2 * (w0 + dw + 1)) (w0 + dw + 1 - 2 * (t0 + dt)) = false := by
                rw [← Bool.not_eq_true, okB_iff]
                intro hh
                have : bad dt (dw + 1) = false := (bad_false _ _).2 (by omega)
                rw [hk] at this
                cases this
              rw [this, Bool.false_and]
            | false =>
              have hk' := (bad_false _ _).1 hk
              rw [if_neg (by decide), h, (okB_iff _ _ _ _).2 (by omega), Bool.true_and, show w0 + (dw + 1) = w0 + dw + 1 by omega]
          · rw [if_pos h]
            have : okB (t0 - 2 * w0) (w0 - 2 * t0) (t0 + dt - 2 * (w0 + dw + 1)) (w0 + dw + 1 - 2 * (t0 + dt)) = false := by
              rw [← Bool.not_eq_true, okB_iff]
              intro hh
              have : bad dt (dw + 1) = false := (bad_false _ _).2 (by omega)
              rw [h] at this
              cases this
            rw [this, Bool.false_and]
        · rw [if_neg c2, if_neg c2]
          by_cases c3 : x = n
          · rw [if_pos c3, if_pos c3]
            rcases stretch_ahead n hn r t0 w0 (dt + 1) dw with h | h
            · cases hk : bad (dt + 1) dw with
              | true =>
                rw [if_pos rfl]
                have : okB (t0 - 2 * w0) (w0 - 2 * t0) (t0 + dt + 1 - 2 * (w0 + dw)) (w0 + dw - 2 * (t0 + dt + 1)) = false := by
                  rw [← Bool.not_eq_true, okB_iff]
                  intro hh
                  have : bad (dt + 1) dw = false := (bad_false _ _).2 (by omega)
                  rw [hk] at this
                  cases this
                rw [this, Bool.false_and]
              | false =>
                have hk' := (bad_false _ _).1 hk
                rw [if_neg (by decide), h, (okB_iff _ _ _ _).2 (by omega), Bool.true_and, show t0 + (dt + 1) = t0 + dt + 1 by omega]
            · rw [if_pos h]
              have : okB (t0 - 2 * w0) (w0 - 2 * t0) (t0 + dt + 1 - 2 * (w0 + dw)) (w0 + dw - 2 * (t0 + dt + 1)) = false := by
                rw [← Bool.not_eq_true, okB_iff]
                intro hh
                have : bad (dt + 1) dw = false := (bad_false _ _).2 (by omega)
                rw [h] at this
                cases this
              rw [this, Bool.false_and]
          · rw [if_neg c3, if_neg c3, hb, if_neg (by decide)]
            rcases stretch_ahead n hn r t0 w0 dt dw with h | h
            · exact h
            · rw [hb] at h
              cases h
theorem stretch_at {n t0 w0 dt dw : Int} {l : List Int} (hn : 1 ≤ n) (hb : bad dt dw = false) : stretch n dt dw l = ahead n (t0 - 2 * w0) (w0 - 2 * t0) (t0 + dt) (w0 + dw) l := (stretch_ahead n hn l t0 w0 dt dw).resolve_right (by rw [hb]; decide)
theorem stretch_rs (n : Int) (l : List Int) : (stretch n 0 0 l && rs n true l) = rs n true l := by
  cases l with
  | nil => rfl
  | cons x r =>
    rw [rs_cons]
    by_cases c1 : x = -n
    · rw [if_pos c1, stretch_cons, if_pos c1, Bool.true_and]
    · rw [if_neg c1, if_pos rfl]
      cases stretch n 0 0 (x :: r) <;> cases rs n true r <;> rfl

theorem grun_rs (n : Int) (hn : 1 ≤ n) : ∀ l : List Int, (∀ le mo t w : Int, le ≤ t - 2 * w → mo ≤ w - 2 * t → grun n ⟨false, le, mo, t, w⟩ l = (ahead n le mo t w l && rs n true l)) ∧ (∀ le mo t w : Int, grun n ⟨true, le, mo, t, w⟩ l = rs n false l)
  | [] => ⟨fun _ _ _ _ _ _ => rfl, fun _ _ _ _ => rfl⟩
  | x :: r => by
    obtain ⟨ih1, ih2⟩ := grun_rs n hn r
    by_cases c1 : x = -n
    · have hg : ∀ s : Gs, gtell n x s = (true, ⟨!s.d, 0, 0, 0, 0⟩) := fun s => by unfold gtell; rw [if_pos c1]
      refine ⟨fun le mo t w h1 h2 => ?_, fun le mo t w => ?_⟩
      · rw [grun_cons, hg, if_pos rfl]
        show grun n ⟨true, 0, 0, 0, 0⟩ r = _
        rw [ih2, ahead_cons, rs_cons, if_pos c1, if_pos c1]
        rfl
      · rw [grun_cons, hg, if_pos rfl]
        show grun n ⟨false, 0, 0, 0, 0⟩ r = _
        rw [ih1 0 0 0 0 (by omega) (by omega)]
        have := stretch_at (n := n) (t0 := 0) (w0 := 0) (dt := 0) (dw := 0) (l := r) hn (by decide)
        simp only [Int.mul_zero, Int.sub_zero, Int.add_zero] at this
        rw [← this, stretch_rs, rs_cons, if_pos c1]
        rfl
    · refine ⟨fun le mo t w h1 h2 => ?_, fun le mo t w => ?_⟩
      · have e4 := stretch_rs n r
        by_cases c2 : x = 0
        · have c3 : ¬ x = n := by omega
          have hg : gtell n x ⟨false, le, mo, t, w⟩ = (okB le mo (t - 2 * (w + 1)) (w + 1 - 2 * t), ⟨false, min le (t - 2 * (w + 1)), min mo (w + 1 - 2 * t), t, w + 1⟩) := by
            unfold gtell
            rw [if_neg c1, if_neg (by simp [c2]), if_pos c2]
          rw [grun_cons, hg]
          show (if okB le mo (t - 2 * (w + 1)) (w + 1 - 2 * t) = true then grun n ⟨false, min le (t - 2 * (w + 1)), min mo (w + 1 - 2 * t), t, w + 1⟩ r else false) = _
          rw [ih1 _ _ _ _ (by omega) (by omega), ahead_min]
          have e1 := stretch_at (n := n) (t0 := t) (w0 := w + 1) (dt := 0) (dw := 0) (l := r) hn (by decide)
          simp only [Int.add_zero] at e1
          rw [← e1]
          have e2 := stretch_at (n := n) (t0 := t) (w0 := w) (dt := 0) (dw := 1) (l := r) hn (by decide)
          simp only [Int.add_zero] at e2
          have e3 : stretch n 0 0 (x :: r) = stretch n 0 1 r := by
            rw [stretch_cons, if_neg c1, if_neg c3, if_pos c2, if_neg (by decide)]
            rfl
          rw [rs_cons, if_neg c1, if_pos rfl, e3, e2, ahead_cons, if_neg c1, if_pos c2]
          cases ho : okB le mo (t - 2 * (w + 1)) (w + 1 - 2 * t) with
          | false => simp
          | true =>
            cases ha : ahead n le mo t (w + 1) r with
            | false => simp
            | true =>
              rw [ahead_mono (by omega) (by omega) ha]
              simp only [if_true, Bool.true_and]
              exact e4
        · by_cases c3 : x = n
          · have hg : gtell n x ⟨false, le, mo, t, w⟩ = (okB le mo (t + 1 - 2 * w) (w - 2 * (t + 1)), ⟨false, min le (t + 1 - 2 * w), min mo (w - 2 * (t + 1)), t + 1, w⟩) := by
              unfold gtell
              rw [if_neg c1, if_neg (by simp [c3]), if_neg c2]
            rw [grun_cons, hg]
            show (if okB le mo (t + 1 - 2 * w) (w - 2 * (t + 1)) = true then grun n ⟨false, min le (t + 1 - 2 * w), min mo (w - 2 * (t + 1)), t + 1, w⟩ r else false) = _
            rw [ih1 _ _ _ _ (by omega) (by omega), ahead_min]
            have e1 := stretch_at (n := n) (t0 := t + 1) (w0 := w) (dt := 0) (dw := 0) (l := r) hn (by decide)
            simp only [Int.add_zero] at e1
            rw [← e1]
            have e2 := stretch_at (n := n) (t0 := t) (w0 := w) (dt := 1) (dw := 0) (l := r) hn (by decide)
            simp only [Int.add_zero] at e2
            have e3 : stretch n 0 0 (x :: r) = stretch n 1 0 r := by
              rw [stretch_cons, if_neg c1, if_pos c3, if_neg c2, if_neg (by decide)]
              rfl
            rw [rs_cons, if_neg c1, if_pos rfl, e3, e2, ahead_cons, if_neg c1, if_neg c2, if_pos c3]
            cases ho : okB le mo (t + 1 - 2 * w) (w - 2 * (t + 1)) with
            | false => simp
            | true =>
              cases ha : ahead n le mo (t + 1) w r with
              | false => simp
              | true =>
                rw [ahead_mono (by omega) (by omega) ha]
                simp only [if_true, Bool.true_and]
                exact e4
          · have hg : gtell n x ⟨false, le, mo, t, w⟩ = (true, ⟨false, le, mo, t, w⟩) := by
              unfold gtell
              rw [if_neg c1, if_pos (.inr ⟨c2, c3⟩)]
            rw [grun_cons, hg, if_pos rfl]
            show grun n ⟨false, le, mo, t, w⟩ r = _
            rw [ih1 le mo t w h1 h2]
            have e1 := stretch_at (n := n) (t0 := t) (w0 := w) (dt := 0) (dw := 0) (l := r) hn (by decide)
            simp only [Int.add_zero] at e1
            have e3 : stretch n 0 0 (x :: r) = stretch n 0 0 r := by
              rw [stretch_cons, if_neg c1, if_neg c3, if_neg c2, if_neg (by decide)]
            rw [rs_cons, if_neg c1, if_pos rfl, e3, stretch_rs, ahead_cons, if_neg c1, if_neg c2, if_neg c3]
      · have hg : gtell n x ⟨true, le, mo, t, w⟩ = (true, ⟨true, le, mo, t, w⟩) := by
          unfold gtell
          rw [if_neg c1, if_pos (.inl rfl)]
        rw [grun_cons, hg, if_pos rfl]
        show grun n ⟨true, le, mo, t, w⟩ r = _
        rw [ih2, rs_cons, if_neg c1, if_neg (by decide), Bool.true_and]
theorem grun_eq (n : Int) (hn : 1 ≤ n) (l : List Int) : grun n g0 l = rs n true l := by
  have h := (grun_rs n hn l).1 0 0 0 0 (by omega) (by omega)
  have e := stretch_at (n := n) (t0 := 0) (w0 := 0) (dt := 0) (dw := 0) (l := l) hn (by decide)
  simp only [Int.mul_zero, Int.sub_zero, Int.add_zero] at e
  rw [← e, stretch_rs] at h
  exact h

/-! ### stretches of steady rows -/
theorem stretch_take (n : Int) : ∀ (p q : List Int) (t w : Int), stretch n t w (p ++ q) = true → stretch n t w p = true
  | [], _, _, _, _ => rfl
  | x :: p, q, t, w, h => by
    rw [List.cons_append] at h
    rw [stretch_cons] at h ⊢
    by_cases c1 : x = -n
    · rw [if_pos c1]
    · rw [if_neg c1] at h ⊢
      generalize (if x = n then t + 1 else t) = t' at h ⊢
      generalize (if x = 0 then w + 1 else w) = w' at h ⊢
      by_cases c2 : bad t' w' = true
      · rw [if_pos c2] at h
        cases h
      · rw [if_neg c2] at h ⊢
        exact stretch_take n p q _ _ h
theorem rs_take (n : Int) : ∀ (p q : List Int), (∀ x ∈ p, x ≠ -n) → rs n true (p ++ q) = true → rs n true p = true
  | [], _, _, _ => rfl
  | x :: p, q, hp, h => by
    have c1 : ¬ x = -n := hp x (List.mem_cons_self ..)
    rw [List.cons_append] at h
    rw [rs_cons] at h ⊢
    rw [if_neg c1, if_pos rfl, Bool.and_eq_true] at h ⊢
    exact ⟨stretch_take n (x :: p) q 0 0 h.1, rs_take n p q (fun y hy => hp y (List.mem_cons_of_mem _ hy)) h.2⟩
theorem rs_drop (n : Int) : ∀ (i : Nat) (p : List Int), (∀ x ∈ p, x ≠ -n) → rs n true p = true → rs n true (p.drop i) = true
  | 0, _, _, h => h
  | i + 1, [], _, _ => rfl
  | i + 1, x :: p, hp, h => by
    have c1 : ¬ x = -n := hp x (List.mem_cons_self ..)
    rw [rs_cons] at h
    rw [if_neg c1, if_pos rfl, Bool.and_eq_true] at h
    rw [List.drop_succ_cons]
    exact rs_drop n i p (fun y hy => hp y (List.mem_cons_of_mem _ hy)) h.2
end Go.Proofs.Ytmoahkdadeiahaa.SteadyMath
