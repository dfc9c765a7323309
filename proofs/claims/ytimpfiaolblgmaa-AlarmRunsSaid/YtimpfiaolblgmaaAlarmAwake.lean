/- The laws' common parts: rows of numbers that are the same, the document's first row (awake), no clock. -/
import Derived.Test.YtimpfiaolblgmaaAlarmRefDue
namespace Go.Proofs.Ytimpfiaolblgmaa.AlarmQ
open Go.Shelf Go.Maps Go.RowKit Go.Proofs.YtimpfiaolblgmaaW.PrintWords Go.Proofs.Ytimpfiaolblgmaa.AlarmMath Go.Proofs.Ytimpfiaolblgmaa.Blk Go.Proofs.Ytimpfiaolblgmaa.AlarmP
set_option linter.unusedVariables false
set_option linter.unusedSimpArgs false
theorem Row.rd {B : Nat} {w : World} {v : Value} {xs : List Int} (h : Row B w v xs) : ∃ A c, v = .slice A xs.length c ∧ xs.length ≤ c ∧ Kd.C (Kd.int .i64) w A xs.length xs := by
  obtain ⟨A, c, e, hl, hr⟩ := own_reads_of_le (enc := Value.int .i64) (d := (0 : Int)) h
  exact ⟨A, c, e, hl, Kd.C_of_reads (h1 := fun _ => rfl) hr⟩
theorem ints_go (l : List Int) (d : Nat) : ∀ (k i : Nat), i + d = l.length → d < k → l.length ≤ 100000 → X.folkmootkeep_Ints.l0 k l l (i : Int) = some true := by
  induction d with
  | zero =>
    intro k i h hk hb
    obtain ⟨k, rfl⟩ : ∃ m, k = m + 1 := ⟨k - 1, by omega⟩
    simp only [X.folkmootkeep_Ints.l0]
    rw [if_neg (by omega)]
  | succ d ih =>
    intro k i h hk hb
    obtain ⟨k, rfl⟩ : ∃ m, k = m + 1 := ⟨k - 1, by omega⟩
    simp only [X.folkmootkeep_Ints.l0]
    rw [if_pos (by omega), if_pos (by omega), if_pos (by omega), if_pos trivial]
    rw [show wrap64 ((i : Int) + 1) = ((i + 1 : Nat) : Int) by unfold wrap64; omega]
    exact ih k (i + 1) (by omega) (by omega) hb
theorem ints_true (w : World) (A0 A1 : Option Addr) (c0 c1 : Nat) (l : List Int) (hb : l.length ≤ 100000) (h0 : Kd.C (Kd.int .i64) w A0 l.length l) (hc0 : l.length ≤ c0) (h1 : Kd.C (Kd.int .i64) w A1 l.length l) (hc1 : l.length ≤ c1) :
    Calls Try.prog 13 #[.slice A0 l.length c0, .slice A1 l.length c1] w fun e w' => e = .returned (.bool true) ∧ ∃ n, w' = w.drewN n := by
  refine (X.folkmootkeep_Ints.calls (l.length + 1) A0 c0 l A1 c1 l true w h0 hc0 h1 hc1 ?_).mono ?_
  · unfold X.folkmootkeep_Ints.f
    rw [if_pos rfl]
    exact ints_go l l.length (l.length + 1) 0 (by omega) (by omega) hb
  · rintro e w' ⟨rfl, n, rfl⟩
    exact ⟨rfl, n, rfl⟩
theorem fr_below {W w1 w2 : World} {S : Nat → Prop} (h : Below W.heap.size W w1) (hf : Fr w1 w2 S) (hs : ∀ k, S k → W.heap.size ≤ k) : Below W.heap.size W w2 :=
  ⟨hf.os.trans h.os, hf.tape.trans h.tape, hf.output.trans h.output, Nat.le_trans h.size hf.size, fun k hk => (hf.block k (Nat.lt_of_lt_of_le hk h.size) (fun hn => by have := hs k hn; omega)).trans (h.block k hk)⟩
/-- A row of one's own as a literal. -/
theorem lit_rd (w : World) (xs : List Int) (cs : Array Value) (hcs : cs.toList = nums .i64 xs) (hb : xs.length ≤ 100000) : Kd.C (Kd.int .i64) (w.alloc (.cells cs 3)) (some ⟨w.heap.size, 0, none⟩) xs.length xs := by
  refine Kd.C_of_reads (d := (0 : Int)) (h1 := fun _ => rfl) ⟨rfl, by omega, fun _ => ⟨_, rfl, fun j hj => ?_⟩⟩
  have hn := blk_cell (blk_new w (.cells cs 3)) j
  have e : (⟨w.heap.size, 0, none⟩ : Addr).add j = ⟨w.heap.size, j, none⟩ := by unfold Addr.add; split <;> simp_all
  rw [e]
  refine hn.trans ?_
  rw [← Array.getElem?_toList, hcs]
  simp [nums, List.getElem?_eq_getElem hj, List.getD_eq_getElem?_getD]
theorem due_nil (W : World) (now : Int) : Calls Try.prog 12 #[.pointer none, .int .i64 now] W fun e w' => e = .returned (.slice none 0 0) ∧ w' = W := by
  go_enter Try.func12, Try.ntmps12
  go_wp2
  go_loopw [5] (fun v wr => v = .slice none 0 0 ∧ wr = W) (fun v _ => 0)
  case atStart => exact ⟨rfl, rfl⟩
  case round =>
    obtain ⟨rfl, rfl⟩ := hrel
    go_wp2_with fail
    refine (next_nil wr).mono ?_
    rintro e w' ⟨rfl, rfl⟩
    go_wp2
    go_ret
    exact ⟨rfl, rfl⟩
set_option maxHeartbeats 4000000 in
theorem awake_any (W : World) : Calls Try.prog 18 #[] W fun e w' => e = .returned (.bool true) ∧ Below W.heap.size W w' := by
  go_enter Try.func18, Try.ntmps18
  go_wp2_with fail
  refine (new_clk W).mono ?_
  rintro e w1 ⟨C, rfl, ⟨S1, hC1, hS1⟩, hb1⟩
  have HC1 := Aside0.mk hC1
  have HS1 := Aside0.mk hS1
  have HB1 := Aside0.mk hb1
  clear hC1 hS1 hb1
  go_wp2_with fail
  refine (set_clk w1 S1 C 0 [] HC1.out 3 10 (by decide) (by decide) (by omega)).mono ?_
  rintro e w2 ⟨rfl, ⟨S2, hC2, hS2⟩, hF2⟩
  have HC2 := Aside0.mk hC2
  have HS2 : Aside0 (∀ k, S2 k → W.heap.size ≤ k) := ⟨fun k hk => (hS2 k hk).elim (HS1.out k) (fun h => Nat.le_trans HB1.out.size h)⟩
  have HB2 := Aside0.mk (fr_below HB1.out hF2 HS1.out)
  clear hC2 hS2 hF2 HC1 HS1 HB1
  go_wp2_with fail
  refine (set_clk w2 S2 C _ _ HC2.out 1 10 (by decide) (by decide) (by omega)).mono ?_
  rintro e w3 ⟨rfl, ⟨S3, hC3, hS3⟩, hF3⟩
  have HC3 := Aside0.mk hC3
  have HS3 : Aside0 (∀ k, S3 k → W.heap.size ≤ k) := ⟨fun k hk => (hS3 k hk).elim (HS2.out k) (fun h => Nat.le_trans HB2.out.size h)⟩
  have HB3 := Aside0.mk (fr_below HB2.out hF3 HS2.out)
  clear hC3 hS3 hF3 HC2 HS2 HB2
  go_wp2_with fail
  refine (set_clk w3 S3 C _ _ HC3.out 2 5 (by decide) (by decide) (by omega)).mono ?_
  rintro e w4 ⟨rfl, ⟨S4, hC4, hS4⟩, hF4⟩
  have HC4 : Aside0 (Clk w4 S4 C 3 [(2, 5), (1, 10), (3, 10)]) := ⟨hC4⟩
  have HS4 : Aside0 (∀ k, S4 k → W.heap.size ≤ k) := ⟨fun k hk => (hS4 k hk).elim (HS3.out k) (fun h => Nat.le_trans HB3.out.size h)⟩
  have HB4 := Aside0.mk (fr_below HB3.out hF4 HS3.out)
  clear hC4 hS4 hF4 HC3 HS3 HB3
  go_wp2_with fail
  refine (next_clk1 w4 S4 C _ _ _ HC4.out).mono ?_
  rintro e w5 ⟨rfl, n5, rfl⟩
  have HC5 : Aside0 (Clk (w4.drewN n5) S4 C 3 [(2, 5), (1, 10), (3, 10)]) := ⟨HC4.out.drewN n5⟩
  have HB5 : Aside0 (Below W.heap.size W (w4.drewN n5)) := ⟨pw_below_drewN HB4.out n5⟩
  clear HC4 HB4
  generalize w4.drewN n5 = w5 at *
  go_wp2_with fail
  refine (due_clk w5 S4 C _ _ HC5.out 9).mono ?_
  rintro e w6 ⟨v6, rfl, hR6, hC6, hF6⟩
  have HR6 : Aside0 (Row w5.heap.size w6 v6 [2]) := ⟨hR6⟩
  have HC6 : Aside0 (Clk w6 S4 C 3 [(1, 10), (3, 10)]) := ⟨hC6⟩
  have HB6 := Aside0.mk (fr_below HB5.out hF6 HS4.out)
  have HL5 := Aside0.mk HC5.out.lt
  clear hR6 hC6 hF6 HC5 HB5
  go_wp2_with fail
  refine (due_clk w6 S4 C _ _ HC6.out 10).mono ?_
  rintro e w7 ⟨v7, rfl, hR7, hC7, hF7⟩
  have HR7 : Aside0 (Row w6.heap.size w7 v7 [1, 3]) := ⟨hR7⟩
  have HC7 : Aside0 (Clk w7 S4 C 3 []) := ⟨hC7⟩
  have HB7 := Aside0.mk (fr_below HB6.out hF7 HS4.out)
  have HR67 : Aside0 (Row w5.heap.size w7 v6 [2]) := ⟨HR6.out.fr hF7 HL5.out⟩
  obtain ⟨A6, c6, e6, hl6, hk6⟩ := HR67.out.rd
  obtain ⟨A7, c7, e7, hl7, hk7⟩ := HR7.out.rd
  subst e6; subst e7
  have HK6 := Aside0.mk hk6
  have HK7 := Aside0.mk hk7
  have HL6 := Aside0.mk hl6
  have HL7 := Aside0.mk hl7
  clear hR7 hC7 hF7 HC6 HB6 HR6 HR67 hk6 hk7 hl6 hl7 HL5
  go_wp2_with fail
  refine (ints_true _ A6 (some ⟨w7.heap.size, 0, none⟩) c6 1 [2] (by decide) (Kd.C_below HK6.out (below_alloc (Below.refl _ _) _)) HL6.out (lit_rd w7 [2] _ rfl (by decide)) (by decide)).mono ?_
  rintro e w8 ⟨rfl, n8, hw8⟩
  have HB8 : Aside0 (Below W.heap.size W w8) := ⟨by rw [hw8]; exact pw_below_drewN (below_alloc HB7.out _) n8⟩
  have H78 : Aside0 (Below w7.heap.size w7 w8) := ⟨by rw [hw8]; exact pw_below_drewN (below_alloc (Below.refl _ _) _) n8⟩
  clear hw8
  have HK8 : Aside0 (Kd.C (Kd.int .i64) w8 A7 [(1 : Int), 3].length [1, 3]) := ⟨Kd.C_below HK7.out H78.out⟩
  have HC8 : Aside0 (Clk w8 S4 C 3 []) := ⟨HC7.out.below H78.out⟩
  clear HK7 HC7 HK6 HL6 HB7 H78
  go_wp2_with fail
  refine (ints_true _ A7 (some ⟨w8.heap.size, 0, none⟩) c7 2 [1, 3] (by decide) (Kd.C_below HK8.out (below_alloc (Below.refl _ _) _)) HL7.out (lit_rd w8 [1, 3] _ rfl (by decide)) (by decide)).mono ?_
  rintro e w9 ⟨rfl, n9, hw9⟩
  have HB9 : Aside0 (Below W.heap.size W w9) := ⟨by rw [hw9]; exact pw_below_drewN (below_alloc HB8.out _) n9⟩
  have HC9 : Aside0 (Clk w9 S4 C 3 []) := ⟨by rw [hw9]; exact HC8.out.below (pw_below_drewN (below_alloc (Below.refl _ _) _) n9)⟩
  clear hw9
  clear HK8 HC8 HB8 HL7
  go_wp2_with fail
  refine (len_clk w9 S4 C 3 [] HC9.out).mono ?_
  rintro e w10 ⟨rfl, rfl⟩
  go_wp2
  go_ret
  exact ⟨rfl, HB9.out⟩
end Go.Proofs.Ytimpfiaolblgmaa.AlarmQ
