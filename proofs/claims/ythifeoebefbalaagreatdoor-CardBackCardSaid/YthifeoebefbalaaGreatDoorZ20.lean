/- Join, whole; the reference's Clash, Join at valid cards. -/
import Derived.Test.YthifeoebefbalaaGreatDoorZ19
set_option linter.unusedVariables false
set_option linter.unusedSimpArgs false
namespace Go.Proofs.YthifeoebefbalaaGreatDoor
open Go.RowKit

def joinB (a b : Card) : Sp × Int :=
  if (isCard a && isCard b) = true then (if followsB a b = true then (joinR (says a) (says b), 0) else (⟨0, 0⟩, 5)) else (⟨0, 0⟩, 1)
theorem c55_H (a : Card) (ha : isCard a = true) : ∀ W, Hid (Calls Tryz.prog 55 #[cv a] W fun r w' => r = .returned (.agg #[.int .i64 (says a).lo, .int .i64 (says a).hi]) ∧ Below W.heap.size W w') := fun W => Lib.hid (c55_valid a W ha)
theorem c77_H (a : Card) (ha : isCard a = true) : ∀ W, Hid (Calls Tryz.prog 77 #[cv a] W fun r w' => r = .returned (.agg #[.int .i64 (says a).lo, .int .i64 (says a).hi]) ∧ Below W.heap.size W w') := fun W => Lib.hid (c77 a W ha)
theorem c52 (a b : Card) (w : World) (ha : isCard a = true) (hb : isCard b = true) : Calls Tryz.prog 52 #[cv a, cv b] w fun e w' => e = .returned (.bool (sameOf a b && !some2 a b)) ∧ Below w.heap.size w w' := by
  have H := c52v a b _ _ _ _ (sameOf a b) w (c55_H a ha) (c55_H b hb) (fun W => Lib.hid (c56 a b W))
  have hd : decide (min (says a).hi (says b).hi < max (says a).lo (says b).lo) = !some2 a b := by
    rw [some2, common]
    by_cases h : max (says a).lo (says b).lo ≤ min (says a).hi (says b).hi
    · rw [decide_eq_true h, decide_eq_false (by omega)]; rfl
    · rw [decide_eq_false h, decide_eq_true (by omega)]; rfl
  rw [hd] at H
  exact H
theorem c57 (a b : Card) (w : World) (ha : isCard a = true) (hb : isCard b = true) : Calls Tryz.prog 57 #[cv a, cv b] w fun e w' => e = .returned (spv (joinR (says a) (says b))) ∧ Below w.heap.size w w' := by
  obtain ⟨p1, p2, p3⟩ := says_le ha
  obtain ⟨q1, q2, q3⟩ := says_le hb
  exact c57v a.st a.da a.dy a.ki a.am a.fi b.st b.da b.dy b.ki b.am b.fi _ _ _ _ w (c55_H a ha) (c55_H b hb) (by omega) (by omega) (by omega) (by omega) (by omega) (by omega) (by omega) (by omega)
theorem c50 (a b : Card) (w : World) : Calls Tryz.prog 50 #[cv a, cv b] w fun e w' => e = .returned (.tuple #[spv (joinB a b).1, .int .i64 (joinB a b).2]) ∧ Below w.heap.size w w' := by
  cases h : (isCard a && isCard b) with
  | false => rw [joinB, h, if_neg Bool.false_ne_true]; exact c50_no a b w h
  | true =>
    have ha : isCard a = true := by simp_all
    have hb : isCard b = true := by simp_all
    have he : eachErr [a, b] = 0 := by rw [eachErr_two, ha, hb]; rfl
    obtain ⟨-, -, u3, u4, -⟩ := isCard_true ha
    obtain ⟨-, -, -, -, v5, v6, -⟩ := isCard_true hb
    have HF := fun W => c98 a b W (by omega) (by omega) (by omega) (by omega)
    rw [joinB, h, if_pos rfl]
    cases hf : followsB a b with
    | false =>
      rw [if_neg Bool.false_ne_true]
      rw [hf] at HF
      exact c50_none a b w he (fun W => Lib.hid (HF W))
    | true =>
      rw [if_pos rfl]
      rw [hf] at HF
      obtain ⟨p1, p2, p3⟩ := says_le ha
      obtain ⟨q1, q2, q3⟩ := says_le hb
      exact c50_yes a b _ _ _ _ w he (fun W => Lib.hid (HF W)) (c77_H a ha) (c77_H b hb) (by omega) (by omega) (by omega) (by omega) (by omega) (by omega) (by omega) (by omega)
end Go.Proofs.YthifeoebefbalaaGreatDoor

namespace Go.Proofs.YthifeoebefbalaaGreatDoor
open Go.RowKit

/-- A span's variable, known by its cells. -/
def SpanCells (W : World) (b : Nat) (s : Sp) : Prop := b < W.heap.size ∧ W.cell? ⟨b, 0, none⟩ = some (.int .i64 s.lo) ∧ W.cell? ⟨b, 1, none⟩ = some (.int .i64 s.hi) ∧ ∀ i, W.frozen? ⟨b, i, none⟩ = false
theorem keepC {W X : World} {b : Nat} {s : Sp} (hb : Below W.heap.size W X) (k : Hid (SpanCells W b s)) : Hid (SpanCells X b s) := by
  obtain ⟨h1, h2, h3, h4⟩ := k.out
  exact Lib.hid ⟨Nat.lt_of_lt_of_le h1 hb.size, by rw [hb.cell (p := ⟨b, 0, none⟩) h1, h2], by rw [hb.cell (p := ⟨b, 1, none⟩) h1, h3], fun i => by rw [hb.frozen (p := ⟨b, i, none⟩) h1, h4]⟩
theorem span_cells {W : World} {b : Nat} {s : Sp} (k : Hid (SpanCells W b s)) : W.cell? ⟨b, 0, none⟩ = some (.int .i64 s.lo) ∧ W.cell? ⟨b, 1, none⟩ = some (.int .i64 s.hi) ∧ (∀ i, W.frozen? ⟨b, i, none⟩ = false) ∧ b < W.heap.size :=
  ⟨k.out.2.1, k.out.2.2.1, k.out.2.2.2, k.out.1⟩
end Go.Proofs.YthifeoebefbalaaGreatDoor

namespace Go.Proofs.YthifeoebefbalaaGreatDoor
open Go.RowKit

set_option maxRecDepth 100000 in
set_option maxHeartbeats 8000000 in
theorem c15_na (a1 a2 a3 a4 a5 a6 b1 b2 b3 b4 b5 b6 : Int) (w : World) (HE : Hid (Env w)) (HC : Hid (Cell0 w)) (H1 : ∀ W, Hid (Calls Tryz.prog 45 #[.agg #[.int .i64 a1, .int .i64 a2, .int .i64 a3, .int .i64 a4, .int .i64 a5, .int .i64 a6], .agg #[.int .i64 b1, .int .i64 b2, .int .i64 b3, .int .i64 b4, .int .i64 b5, .int .i64 b6]] W fun r w' => r = .returned (.tuple #[.bool false, .int .i64 1]) ∧ Below W.heap.size W w')) (H2 : ∀ W, Hid (Calls Tryz.prog 47 #[.agg #[.int .i64 a1, .int .i64 a2, .int .i64 a3, .int .i64 a4, .int .i64 a5, .int .i64 a6], .agg #[.int .i64 b1, .int .i64 b2, .int .i64 b3, .int .i64 b4, .int .i64 b5, .int .i64 b6]] W fun r w' => r = .returned (.tuple #[.bool false, .int .i64 1]) ∧ Below W.heap.size W w')) (H3 : ∀ W, Hid (Calls Tryz.prog 48 #[.agg #[.int .i64 a1, .int .i64 a2, .int .i64 a3, .int .i64 a4, .int .i64 a5, .int .i64 a6], .agg #[.int .i64 b1, .int .i64 b2, .int .i64 b3, .int .i64 b4, .int .i64 b5, .int .i64 b6]] W fun r w' => r = .returned (.tuple #[.agg #[.int .i64 0, .int .i64 0], .int .i64 1]) ∧ Below W.heap.size W w')) (H4 : ∀ W, Hid (Calls Tryz.prog 49 #[.agg #[.int .i64 a1, .int .i64 a2, .int .i64 a3, .int .i64 a4, .int .i64 a5, .int .i64 a6], .agg #[.int .i64 b1, .int .i64 b2, .int .i64 b3, .int .i64 b4, .int .i64 b5, .int .i64 b6]] W fun r w' => r = .returned (.tuple #[.bool false, .int .i64 1]) ∧ Below W.heap.size W w')) (H5 : ∀ W, Hid (Calls Tryz.prog 50 #[.agg #[.int .i64 a1, .int .i64 a2, .int .i64 a3, .int .i64 a4, .int .i64 a5, .int .i64 a6], .agg #[.int .i64 b1, .int .i64 b2, .int .i64 b3, .int .i64 b4, .int .i64 b5, .int .i64 b6]] W fun r w' => r = .returned (.tuple #[.agg #[.int .i64 0, .int .i64 0], .int .i64 1]) ∧ Below W.heap.size W w')) (H6 : ∀ W, Hid (Calls Tryz.prog 37 #[.agg #[.int .i64 a1, .int .i64 a2, .int .i64 a3, .int .i64 a4, .int .i64 a5, .int .i64 a6]] W fun r w' => r = .returned (.bool false) ∧ Below W.heap.size W w')) : Calls Tryz.prog 15 #[.agg #[.int .i64 a1, .int .i64 a2, .int .i64 a3, .int .i64 a4, .int .i64 a5, .int .i64 a6], .agg #[.int .i64 b1, .int .i64 b2, .int .i64 b3, .int .i64 b4, .int .i64 b5, .int .i64 b6]] w fun e w' => e = .returned (.bool true) ∧ Below w.heap.size w w' := by
  go_enter Tryz.func15, Tryz.ntmps15
  go_wp2_with fail
  refine call_named (fun V => Below w.heap.size w V ∧ Hid (V.heap[w.heap.size]? = some (cellsOf ⟨a1, a2, a3, a4, a5, a6⟩)) ∧ Hid (V.heap[w.heap.size + 1]? = some (cellsOf ⟨b1, b2, b3, b4, b5, b6⟩))) (box_two _ _ _) ?_
  rintro X0 ⟨hB, K0, K1⟩
  refine ((H1 _).out).mono ?_
  rintro r X1 ⟨rfl, hb⟩
  replace K0 := keepB hb K0
  replace K1 := keepB hb K1
  replace hB := hB.trans (hb.mono hB.size)
  clear hb
  obtain ⟨t0_0, t0_1, t0_2, t0_3, t0_4, t0_5, t0_6, t0_7⟩ := cellsOf_at K0.out
  obtain ⟨t1_0, t1_1, t1_2, t1_3, t1_4, t1_5, t1_6, t1_7⟩ := cellsOf_at K1.out
  go_wp2_with fail
  try clear t0_0 t0_1 t0_2 t0_3 t0_4 t0_5 t0_6 t0_7 t1_0 t1_1 t1_2 t1_3 t1_4 t1_5 t1_6 t1_7
  refine ((H2 _).out).mono ?_
  rintro r X2 ⟨rfl, hb⟩
  replace K0 := keepB hb K0
  replace K1 := keepB hb K1
  replace hB := hB.trans (hb.mono hB.size)
  clear hb
  obtain ⟨t0_0, t0_1, t0_2, t0_3, t0_4, t0_5, t0_6, t0_7⟩ := cellsOf_at K0.out
  obtain ⟨t1_0, t1_1, t1_2, t1_3, t1_4, t1_5, t1_6, t1_7⟩ := cellsOf_at K1.out
  go_wp2_with fail
  try clear t0_0 t0_1 t0_2 t0_3 t0_4 t0_5 t0_6 t0_7 t1_0 t1_1 t1_2 t1_3 t1_4 t1_5 t1_6 t1_7
  refine ((H3 _).out).mono ?_
  rintro r X3 ⟨rfl, hb⟩
  replace K0 := keepB hb K0
  replace K1 := keepB hb K1
  replace hB := hB.trans (hb.mono hB.size)
  clear hb
  obtain ⟨B4, hB4⟩ : ∃ b, X3.heap.size = b := ⟨_, rfl⟩
  obtain ⟨t0_0, t0_1, t0_2, t0_3, t0_4, t0_5, t0_6, t0_7⟩ := cellsOf_at K0.out
  obtain ⟨t1_0, t1_1, t1_2, t1_3, t1_4, t1_5, t1_6, t1_7⟩ := cellsOf_at K1.out
  rw [hB4] at t0_7 t1_7
  go_wp2_with fail
  try clear t0_0 t0_1 t0_2 t0_3 t0_4 t0_5 t0_6 t0_7 t1_0 t1_1 t1_2 t1_3 t1_4 t1_5 t1_6 t1_7
  try rw [hB4]
  refine call_named (fun V => Below w.heap.size w V ∧ Hid (V.heap[w.heap.size]? = some (cellsOf ⟨a1, a2, a3, a4, a5, a6⟩)) ∧ Hid (V.heap[w.heap.size + 1]? = some (cellsOf ⟨b1, b2, b3, b4, b5, b6⟩)) ∧ Hid (V.heap[B4]? = some (spanOf ⟨0, 0⟩))) ⟨xa hB _, keepA K0 _, keepA K1 _, newA _ _ _ hB4⟩ ?_
  clear hB K0 K1 hB4
  rintro V4 ⟨hB, K0, K1, K4⟩
  refine ((H4 _).out).mono ?_
  rintro r X5 ⟨rfl, hb⟩
  replace K0 := keepB hb K0
  replace K1 := keepB hb K1
  replace K4 := keepB hb K4
  replace hB := hB.trans (hb.mono hB.size)
  clear hb
  obtain ⟨t0_0, t0_1, t0_2, t0_3, t0_4, t0_5, t0_6, t0_7⟩ := cellsOf_at K0.out
  obtain ⟨t1_0, t1_1, t1_2, t1_3, t1_4, t1_5, t1_6, t1_7⟩ := cellsOf_at K1.out
  obtain ⟨t4_0, t4_1, t4_2, t4_3⟩ := span_at' K4.out
  go_wp2_with fail
  try clear t0_0 t0_1 t0_2 t0_3 t0_4 t0_5 t0_6 t0_7 t1_0 t1_1 t1_2 t1_3 t1_4 t1_5 t1_6 t1_7 t4_0 t4_1 t4_2 t4_3
  refine ((H5 _).out).mono ?_
  rintro r X6 ⟨rfl, hb⟩
  replace K0 := keepB hb K0
  replace K1 := keepB hb K1
  replace K4 := keepB hb K4
  replace hB := hB.trans (hb.mono hB.size)
  clear hb
  obtain ⟨B7, hB7⟩ : ∃ b, X6.heap.size = b := ⟨_, rfl⟩
  obtain ⟨t0_0, t0_1, t0_2, t0_3, t0_4, t0_5, t0_6, t0_7⟩ := cellsOf_at K0.out
  obtain ⟨t1_0, t1_1, t1_2, t1_3, t1_4, t1_5, t1_6, t1_7⟩ := cellsOf_at K1.out
  obtain ⟨t4_0, t4_1, t4_2, t4_3⟩ := span_at' K4.out
  rw [hB7] at t0_7 t1_7 t4_3
  go_wp2_with fail
  try clear t0_0 t0_1 t0_2 t0_3 t0_4 t0_5 t0_6 t0_7 t1_0 t1_1 t1_2 t1_3 t1_4 t1_5 t1_6 t1_7 t4_0 t4_1 t4_2 t4_3
  try rw [hB7]
  refine call_named (fun V => Below w.heap.size w V ∧ Hid (V.heap[w.heap.size]? = some (cellsOf ⟨a1, a2, a3, a4, a5, a6⟩)) ∧ Hid (V.heap[w.heap.size + 1]? = some (cellsOf ⟨b1, b2, b3, b4, b5, b6⟩)) ∧ Hid (V.heap[B4]? = some (spanOf ⟨0, 0⟩)) ∧ Hid (V.heap[B7]? = some (spanOf ⟨0, 0⟩))) ⟨xa hB _, keepA K0 _, keepA K1 _, keepA K4 _, newA _ _ _ hB7⟩ ?_
  clear hB K0 K1 K4 hB7
  rintro V7 ⟨hB, K0, K1, K4, K7⟩
  refine ((H6 _).out).mono ?_
  rintro r X8 ⟨rfl, hb⟩
  replace K0 := keepB hb K0
  replace K1 := keepB hb K1
  replace K4 := keepB hb K4
  replace K7 := keepB hb K7
  replace hB := hB.trans (hb.mono hB.size)
  clear hb
  obtain ⟨t0_0, t0_1, t0_2, t0_3, t0_4, t0_5, t0_6, t0_7⟩ := cellsOf_at K0.out
  obtain ⟨t1_0, t1_1, t1_2, t1_3, t1_4, t1_5, t1_6, t1_7⟩ := cellsOf_at K1.out
  obtain ⟨t4_0, t4_1, t4_2, t4_3⟩ := span_at' K4.out
  obtain ⟨t7_0, t7_1, t7_2, t7_3⟩ := span_at' K7.out
  go_wp2_with fail
  try clear t0_0 t0_1 t0_2 t0_3 t0_4 t0_5 t0_6 t0_7 t1_0 t1_1 t1_2 t1_3 t1_4 t1_5 t1_6 t1_7 t4_0 t4_1 t4_2 t4_3 t7_0 t7_1 t7_2 t7_3
  refine (c22 X8 (HE.out.below hB) (HC.out.below hB HC.out.lt)).mono ?_
  rintro r X9 ⟨rfl, hb⟩
  replace K0 := keepB hb K0
  replace K1 := keepB hb K1
  replace K4 := keepB hb K4
  replace K7 := keepB hb K7
  replace hB := hB.trans (hb.mono hB.size)
  clear hb
  obtain ⟨t0_0, t0_1, t0_2, t0_3, t0_4, t0_5, t0_6, t0_7⟩ := cellsOf_at K0.out
  obtain ⟨t1_0, t1_1, t1_2, t1_3, t1_4, t1_5, t1_6, t1_7⟩ := cellsOf_at K1.out
  obtain ⟨t4_0, t4_1, t4_2, t4_3⟩ := span_at' K4.out
  obtain ⟨t7_0, t7_1, t7_2, t7_3⟩ := span_at' K7.out
  go_wp2_with fail
  go_ret
  exact ⟨rfl, hB⟩
set_option maxRecDepth 100000 in
set_option maxHeartbeats 8000000 in
theorem c15_nb (a1 a2 a3 a4 a5 a6 b1 b2 b3 b4 b5 b6 : Int) (w : World) (HE : Hid (Env w)) (HC : Hid (Cell0 w)) (H1 : ∀ W, Hid (Calls Tryz.prog 45 #[.agg #[.int .i64 a1, .int .i64 a2, .int .i64 a3, .int .i64 a4, .int .i64 a5, .int .i64 a6], .agg #[.int .i64 b1, .int .i64 b2, .int .i64 b3, .int .i64 b4, .int .i64 b5, .int .i64 b6]] W fun r w' => r = .returned (.tuple #[.bool false, .int .i64 1]) ∧ Below W.heap.size W w')) (H2 : ∀ W, Hid (Calls Tryz.prog 47 #[.agg #[.int .i64 a1, .int .i64 a2, .int .i64 a3, .int .i64 a4, .int .i64 a5, .int .i64 a6], .agg #[.int .i64 b1, .int .i64 b2, .int .i64 b3, .int .i64 b4, .int .i64 b5, .int .i64 b6]] W fun r w' => r = .returned (.tuple #[.bool false, .int .i64 1]) ∧ Below W.heap.size W w')) (H3 : ∀ W, Hid (Calls Tryz.prog 48 #[.agg #[.int .i64 a1, .int .i64 a2, .int .i64 a3, .int .i64 a4, .int .i64 a5, .int .i64 a6], .agg #[.int .i64 b1, .int .i64 b2, .int .i64 b3, .int .i64 b4, .int .i64 b5, .int .i64 b6]] W fun r w' => r = .returned (.tuple #[.agg #[.int .i64 0, .int .i64 0], .int .i64 1]) ∧ Below W.heap.size W w')) (H4 : ∀ W, Hid (Calls Tryz.prog 49 #[.agg #[.int .i64 a1, .int .i64 a2, .int .i64 a3, .int .i64 a4, .int .i64 a5, .int .i64 a6], .agg #[.int .i64 b1, .int .i64 b2, .int .i64 b3, .int .i64 b4, .int .i64 b5, .int .i64 b6]] W fun r w' => r = .returned (.tuple #[.bool false, .int .i64 1]) ∧ Below W.heap.size W w')) (H5 : ∀ W, Hid (Calls Tryz.prog 50 #[.agg #[.int .i64 a1, .int .i64 a2, .int .i64 a3, .int .i64 a4, .int .i64 a5, .int .i64 a6], .agg #[.int .i64 b1, .int .i64 b2, .int .i64 b3, .int .i64 b4, .int .i64 b5, .int .i64 b6]] W fun r w' => r = .returned (.tuple #[.agg #[.int .i64 0, .int .i64 0], .int .i64 1]) ∧ Below W.heap.size W w')) (H6 : ∀ W, Hid (Calls Tryz.prog 37 #[.agg #[.int .i64 a1, .int .i64 a2, .int .i64 a3, .int .i64 a4, .int .i64 a5, .int .i64 a6]] W fun r w' => r = .returned (.bool true) ∧ Below W.heap.size W w')) (H7 : ∀ W, Hid (Calls Tryz.prog 37 #[.agg #[.int .i64 b1, .int .i64 b2, .int .i64 b3, .int .i64 b4, .int .i64 b5, .int .i64 b6]] W fun r w' => r = .returned (.bool false) ∧ Below W.heap.size W w')) : Calls Tryz.prog 15 #[.agg #[.int .i64 a1, .int .i64 a2, .int .i64 a3, .int .i64 a4, .int .i64 a5, .int .i64 a6], .agg #[.int .i64 b1, .int .i64 b2, .int .i64 b3, .int .i64 b4, .int .i64 b5, .int .i64 b6]] w fun e w' => e = .returned (.bool true) ∧ Below w.heap.size w w' := by
  go_enter Tryz.func15, Tryz.ntmps15
  go_wp2_with fail
  refine call_named (fun V => Below w.heap.size w V ∧ Hid (V.heap[w.heap.size]? = some (cellsOf ⟨a1, a2, a3, a4, a5, a6⟩)) ∧ Hid (V.heap[w.heap.size + 1]? = some (cellsOf ⟨b1, b2, b3, b4, b5, b6⟩))) (box_two _ _ _) ?_
  rintro X0 ⟨hB, K0, K1⟩
  refine ((H1 _).out).mono ?_
  rintro r X1 ⟨rfl, hb⟩
  replace K0 := keepB hb K0
  replace K1 := keepB hb K1
  replace hB := hB.trans (hb.mono hB.size)
  clear hb
  obtain ⟨t0_0, t0_1, t0_2, t0_3, t0_4, t0_5, t0_6, t0_7⟩ := cellsOf_at K0.out
  obtain ⟨t1_0, t1_1, t1_2, t1_3, t1_4, t1_5, t1_6, t1_7⟩ := cellsOf_at K1.out
  go_wp2_with fail
  try clear t0_0 t0_1 t0_2 t0_3 t0_4 t0_5 t0_6 t0_7 t1_0 t1_1 t1_2 t1_3 t1_4 t1_5 t1_6 t1_7
  refine ((H2 _).out).mono ?_
  rintro r X2 ⟨rfl, hb⟩
  replace K0 := keepB hb K0
  replace K1 := keepB hb K1
  replace hB := hB.trans (hb.mono hB.size)
  clear hb
  obtain ⟨t0_0, t0_1, t0_2, t0_3, t0_4, t0_5, t0_6, t0_7⟩ := cellsOf_at K0.out
  obtain ⟨t1_0, t1_1, t1_2, t1_3, t1_4, t1_5, t1_6, t1_7⟩ := cellsOf_at K1.out
  go_wp2_with fail
  try clear t0_0 t0_1 t0_2 t0_3 t0_4 t0_5 t0_6 t0_7 t1_0 t1_1 t1_2 t1_3 t1_4 t1_5 t1_6 t1_7
  refine ((H3 _).out).mono ?_
  rintro r X3 ⟨rfl, hb⟩
  replace K0 := keepB hb K0
  replace K1 := keepB hb K1
  replace hB := hB.trans (hb.mono hB.size)
  clear hb
  obtain ⟨B4, hB4⟩ : ∃ b, X3.heap.size = b := ⟨_, rfl⟩
  obtain ⟨t0_0, t0_1, t0_2, t0_3, t0_4, t0_5, t0_6, t0_7⟩ := cellsOf_at K0.out
  obtain ⟨t1_0, t1_1, t1_2, t1_3, t1_4, t1_5, t1_6, t1_7⟩ := cellsOf_at K1.out
  rw [hB4] at t0_7 t1_7
  go_wp2_with fail
  try clear t0_0 t0_1 t0_2 t0_3 t0_4 t0_5 t0_6 t0_7 t1_0 t1_1 t1_2 t1_3 t1_4 t1_5 t1_6 t1_7
  try rw [hB4]
  refine call_named (fun V => Below w.heap.size w V ∧ Hid (V.heap[w.heap.size]? = some (cellsOf ⟨a1, a2, a3, a4, a5, a6⟩)) ∧ Hid (V.heap[w.heap.size + 1]? = some (cellsOf ⟨b1, b2, b3, b4, b5, b6⟩)) ∧ Hid (V.heap[B4]? = some (spanOf ⟨0, 0⟩))) ⟨xa hB _, keepA K0 _, keepA K1 _, newA _ _ _ hB4⟩ ?_
  clear hB K0 K1 hB4
  rintro V4 ⟨hB, K0, K1, K4⟩
  refine ((H4 _).out).mono ?_
  rintro r X5 ⟨rfl, hb⟩
  replace K0 := keepB hb K0
  replace K1 := keepB hb K1
  replace K4 := keepB hb K4
  replace hB := hB.trans (hb.mono hB.size)
  clear hb
  obtain ⟨t0_0, t0_1, t0_2, t0_3, t0_4, t0_5, t0_6, t0_7⟩ := cellsOf_at K0.out
  obtain ⟨t1_0, t1_1, t1_2, t1_3, t1_4, t1_5, t1_6, t1_7⟩ := cellsOf_at K1.out
  obtain ⟨t4_0, t4_1, t4_2, t4_3⟩ := span_at' K4.out
  go_wp2_with fail
  try clear t0_0 t0_1 t0_2 t0_3 t0_4 t0_5 t0_6 t0_7 t1_0 t1_1 t1_2 t1_3 t1_4 t1_5 t1_6 t1_7 t4_0 t4_1 t4_2 t4_3
  refine ((H5 _).out).mono ?_
  rintro r X6 ⟨rfl, hb⟩
  replace K0 := keepB hb K0
  replace K1 := keepB hb K1
  replace K4 := keepB hb K4
  replace hB := hB.trans (hb.mono hB.size)
  clear hb
  obtain ⟨B7, hB7⟩ : ∃ b, X6.heap.size = b := ⟨_, rfl⟩
  obtain ⟨t0_0, t0_1, t0_2, t0_3, t0_4, t0_5, t0_6, t0_7⟩ := cellsOf_at K0.out
  obtain ⟨t1_0, t1_1, t1_2, t1_3, t1_4, t1_5, t1_6, t1_7⟩ := cellsOf_at K1.out
  obtain ⟨t4_0, t4_1, t4_2, t4_3⟩ := span_at' K4.out
  rw [hB7] at t0_7 t1_7 t4_3
  go_wp2_with fail
  try clear t0_0 t0_1 t0_2 t0_3 t0_4 t0_5 t0_6 t0_7 t1_0 t1_1 t1_2 t1_3 t1_4 t1_5 t1_6 t1_7 t4_0 t4_1 t4_2 t4_3
  try rw [hB7]
  refine call_named (fun V => Below w.heap.size w V ∧ Hid (V.heap[w.heap.size]? = some (cellsOf ⟨a1, a2, a3, a4, a5, a6⟩)) ∧ Hid (V.heap[w.heap.size + 1]? = some (cellsOf ⟨b1, b2, b3, b4, b5, b6⟩)) ∧ Hid (V.heap[B4]? = some (spanOf ⟨0, 0⟩)) ∧ Hid (V.heap[B7]? = some (spanOf ⟨0, 0⟩))) ⟨xa hB _, keepA K0 _, keepA K1 _, keepA K4 _, newA _ _ _ hB7⟩ ?_
  clear hB K0 K1 K4 hB7
  rintro V7 ⟨hB, K0, K1, K4, K7⟩
  refine ((H6 _).out).mono ?_
  rintro r X8 ⟨rfl, hb⟩
  replace K0 := keepB hb K0
  replace K1 := keepB hb K1
  replace K4 := keepB hb K4
  replace K7 := keepB hb K7
  replace hB := hB.trans (hb.mono hB.size)
  clear hb
  obtain ⟨t0_0, t0_1, t0_2, t0_3, t0_4, t0_5, t0_6, t0_7⟩ := cellsOf_at K0.out
  obtain ⟨t1_0, t1_1, t1_2, t1_3, t1_4, t1_5, t1_6, t1_7⟩ := cellsOf_at K1.out
  obtain ⟨t4_0, t4_1, t4_2, t4_3⟩ := span_at' K4.out
  obtain ⟨t7_0, t7_1, t7_2, t7_3⟩ := span_at' K7.out
  go_wp2_with fail
  try clear t0_0 t0_1 t0_2 t0_3 t0_4 t0_5 t0_6 t0_7 t1_0 t1_1 t1_2 t1_3 t1_4 t1_5 t1_6 t1_7 t4_0 t4_1 t4_2 t4_3 t7_0 t7_1 t7_2 t7_3
  refine ((H7 _).out).mono ?_
  rintro r X9 ⟨rfl, hb⟩
  replace K0 := keepB hb K0
  replace K1 := keepB hb K1
  replace K4 := keepB hb K4
  replace K7 := keepB hb K7
  replace hB := hB.trans (hb.mono hB.size)
  clear hb
  obtain ⟨t0_0, t0_1, t0_2, t0_3, t0_4, t0_5, t0_6, t0_7⟩ := cellsOf_at K0.out
  obtain ⟨t1_0, t1_1, t1_2, t1_3, t1_4, t1_5, t1_6, t1_7⟩ := cellsOf_at K1.out
  obtain ⟨t4_0, t4_1, t4_2, t4_3⟩ := span_at' K4.out
  obtain ⟨t7_0, t7_1, t7_2, t7_3⟩ := span_at' K7.out
  go_wp2_with fail
  try clear t0_0 t0_1 t0_2 t0_3 t0_4 t0_5 t0_6 t0_7 t1_0 t1_1 t1_2 t1_3 t1_4 t1_5 t1_6 t1_7 t4_0 t4_1 t4_2 t4_3 t7_0 t7_1 t7_2 t7_3
  refine (c22 X9 (HE.out.below hB) (HC.out.below hB HC.out.lt)).mono ?_
  rintro r X10 ⟨rfl, hb⟩
  replace K0 := keepB hb K0
  replace K1 := keepB hb K1
  replace K4 := keepB hb K4
  replace K7 := keepB hb K7
  replace hB := hB.trans (hb.mono hB.size)
  clear hb
  obtain ⟨t0_0, t0_1, t0_2, t0_3, t0_4, t0_5, t0_6, t0_7⟩ := cellsOf_at K0.out
  obtain ⟨t1_0, t1_1, t1_2, t1_3, t1_4, t1_5, t1_6, t1_7⟩ := cellsOf_at K1.out
  obtain ⟨t4_0, t4_1, t4_2, t4_3⟩ := span_at' K4.out
  obtain ⟨t7_0, t7_1, t7_2, t7_3⟩ := span_at' K7.out
  go_wp2_with fail
  go_ret
  exact ⟨rfl, hB⟩
end Go.Proofs.YthifeoebefbalaaGreatDoor
