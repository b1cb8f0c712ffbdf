/- The law CardOfOne: the walk. -/
import Derived.Test.YthifeoebefbalaaGreatDoorZ17
set_option linter.unusedVariables false
set_option linter.unusedSimpArgs false
namespace Go.Proofs.YthifeoebefbalaaGreatDoor
open Go.RowKit

set_option maxRecDepth 100000 in
set_option maxHeartbeats 8000000 in
theorem c13_0f (a1 a2 a3 a4 a5 a6 b1 b2 b3 b4 b5 b6 c1 c2 c3 c4 c5 c6 n slo shi plo phi qlo qhi : Int) (bc ac : Bool) (w : World) (HE : Hid (Env w)) (HC : Hid (Cell0 w)) (HS : Hid (slo = max plo qlo ∧ shi = min phi qhi)) (H1 : ∀ W, Hid (Calls Tryz.prog 45 #[.agg #[.int .i64 a1, .int .i64 a2, .int .i64 a3, .int .i64 a4, .int .i64 a5, .int .i64 a6], .agg #[.int .i64 b1, .int .i64 b2, .int .i64 b3, .int .i64 b4, .int .i64 b5, .int .i64 b6]] W fun r w' => r = .returned (.tuple #[.bool false, .int .i64 0]) ∧ Below W.heap.size W w')) (H2 : ∀ W, Hid (Calls Tryz.prog 45 #[.agg #[.int .i64 b1, .int .i64 b2, .int .i64 b3, .int .i64 b4, .int .i64 b5, .int .i64 b6], .agg #[.int .i64 a1, .int .i64 a2, .int .i64 a3, .int .i64 a4, .int .i64 a5, .int .i64 a6]] W fun r w' => r = .returned (.tuple #[.bool false, .int .i64 0]) ∧ Below W.heap.size W w')) (H3 : ∀ W, Hid (Calls Tryz.prog 45 #[.agg #[.int .i64 b1, .int .i64 b2, .int .i64 b3, .int .i64 b4, .int .i64 b5, .int .i64 b6], .agg #[.int .i64 c1, .int .i64 c2, .int .i64 c3, .int .i64 c4, .int .i64 c5, .int .i64 c6]] W fun r w' => r = .returned (.tuple #[.bool bc, .int .i64 0]) ∧ Below W.heap.size W w')) (H4 : ∀ W, Hid (Calls Tryz.prog 45 #[.agg #[.int .i64 a1, .int .i64 a2, .int .i64 a3, .int .i64 a4, .int .i64 a5, .int .i64 a6], .agg #[.int .i64 c1, .int .i64 c2, .int .i64 c3, .int .i64 c4, .int .i64 c5, .int .i64 c6]] W fun r w' => r = .returned (.tuple #[.bool ac, .int .i64 0]) ∧ Below W.heap.size W w')) (H5 : ∀ W, Hid (Calls Tryz.prog 45 #[.agg #[.int .i64 a1, .int .i64 a2, .int .i64 a3, .int .i64 a4, .int .i64 a5, .int .i64 a6], .agg #[.int .i64 a1, .int .i64 a2, .int .i64 a3, .int .i64 a4, .int .i64 a5, .int .i64 a6]] W fun r w' => r = .returned (.tuple #[.bool true, .int .i64 0]) ∧ Below W.heap.size W w')) (H6 : ∀ W, Hid (Calls Tryz.prog 47 #[.agg #[.int .i64 a1, .int .i64 a2, .int .i64 a3, .int .i64 a4, .int .i64 a5, .int .i64 a6], .agg #[.int .i64 b1, .int .i64 b2, .int .i64 b3, .int .i64 b4, .int .i64 b5, .int .i64 b6]] W fun r w' => r = .returned (.tuple #[.bool false, .int .i64 0]) ∧ Below W.heap.size W w')) (H7 : ∀ W, Hid (Calls Tryz.prog 47 #[.agg #[.int .i64 b1, .int .i64 b2, .int .i64 b3, .int .i64 b4, .int .i64 b5, .int .i64 b6], .agg #[.int .i64 a1, .int .i64 a2, .int .i64 a3, .int .i64 a4, .int .i64 a5, .int .i64 a6]] W fun r w' => r = .returned (.tuple #[.bool false, .int .i64 0]) ∧ Below W.heap.size W w')) (H8 : ∀ W, Hid (Calls Tryz.prog 48 #[.agg #[.int .i64 a1, .int .i64 a2, .int .i64 a3, .int .i64 a4, .int .i64 a5, .int .i64 a6], .agg #[.int .i64 b1, .int .i64 b2, .int .i64 b3, .int .i64 b4, .int .i64 b5, .int .i64 b6]] W fun r w' => r = .returned (.tuple #[.agg #[.int .i64 slo, .int .i64 shi], .int .i64 0]) ∧ Below W.heap.size W w')) (H9 : ∀ W, Hid (Calls Tryz.prog 48 #[.agg #[.int .i64 b1, .int .i64 b2, .int .i64 b3, .int .i64 b4, .int .i64 b5, .int .i64 b6], .agg #[.int .i64 a1, .int .i64 a2, .int .i64 a3, .int .i64 a4, .int .i64 a5, .int .i64 a6]] W fun r w' => r = .returned (.tuple #[.agg #[.int .i64 slo, .int .i64 shi], .int .i64 0]) ∧ Below W.heap.size W w')) (HP : ∀ W, Hid (Calls Tryz.prog 43 #[.agg #[.int .i64 a1, .int .i64 a2, .int .i64 a3, .int .i64 a4, .int .i64 a5, .int .i64 a6]] W fun r w' => r = .returned (.tuple #[.agg #[.int .i64 plo, .int .i64 phi], .int .i64 0]) ∧ Below W.heap.size W w')) (HQ : ∀ W, Hid (Calls Tryz.prog 43 #[.agg #[.int .i64 b1, .int .i64 b2, .int .i64 b3, .int .i64 b4, .int .i64 b5, .int .i64 b6]] W fun r w' => r = .returned (.tuple #[.agg #[.int .i64 qlo, .int .i64 qhi], .int .i64 0]) ∧ Below W.heap.size W w')) : Calls Tryz.prog 13 #[.agg #[.int .i64 a1, .int .i64 a2, .int .i64 a3, .int .i64 a4, .int .i64 a5, .int .i64 a6], .agg #[.int .i64 b1, .int .i64 b2, .int .i64 b3, .int .i64 b4, .int .i64 b5, .int .i64 b6], .agg #[.int .i64 c1, .int .i64 c2, .int .i64 c3, .int .i64 c4, .int .i64 c5, .int .i64 c6], .int .i64 n] w fun e w' => e = .returned (.bool true) ∧ Below w.heap.size w w' := by
  go_enter Tryz.func13, Tryz.ntmps13
  go_wp2_with fail
  refine call_named (fun V => Below w.heap.size w V ∧ Hid (V.heap[w.heap.size]? = some (cellsOf ⟨a1, a2, a3, a4, a5, a6⟩)) ∧ Hid (V.heap[w.heap.size + 1]? = some (cellsOf ⟨b1, b2, b3, b4, b5, b6⟩)) ∧ Hid (V.heap[w.heap.size + 1 + 1]? = some (cellsOf ⟨c1, c2, c3, c4, c5, c6⟩))) (box_three _ _ _ _) ?_
  rintro X0 ⟨hB, K0, K1, K2⟩
  refine ((H1 _).out).mono ?_
  rintro r X1 ⟨rfl, hb⟩
  replace K0 := keepB hb K0
  replace K1 := keepB hb K1
  replace K2 := keepB hb K2
  replace hB := hB.trans (hb.mono hB.size)
  clear hb
  obtain ⟨t0_0, t0_1, t0_2, t0_3, t0_4, t0_5, t0_6, t0_7⟩ := cellsOf_at K0.out
  obtain ⟨t1_0, t1_1, t1_2, t1_3, t1_4, t1_5, t1_6, t1_7⟩ := cellsOf_at K1.out
  obtain ⟨t2_0, t2_1, t2_2, t2_3, t2_4, t2_5, t2_6, t2_7⟩ := cellsOf_at K2.out
  go_wp2_with fail
  try clear t0_0 t0_1 t0_2 t0_3 t0_4 t0_5 t0_6 t0_7 t1_0 t1_1 t1_2 t1_3 t1_4 t1_5 t1_6 t1_7 t2_0 t2_1 t2_2 t2_3 t2_4 t2_5 t2_6 t2_7
  refine ((H2 _).out).mono ?_
  rintro r X2 ⟨rfl, hb⟩
  replace K0 := keepB hb K0
  replace K1 := keepB hb K1
  replace K2 := keepB hb K2
  replace hB := hB.trans (hb.mono hB.size)
  clear hb
  obtain ⟨t0_0, t0_1, t0_2, t0_3, t0_4, t0_5, t0_6, t0_7⟩ := cellsOf_at K0.out
  obtain ⟨t1_0, t1_1, t1_2, t1_3, t1_4, t1_5, t1_6, t1_7⟩ := cellsOf_at K1.out
  obtain ⟨t2_0, t2_1, t2_2, t2_3, t2_4, t2_5, t2_6, t2_7⟩ := cellsOf_at K2.out
  go_wp2_with fail
  try clear t0_0 t0_1 t0_2 t0_3 t0_4 t0_5 t0_6 t0_7 t1_0 t1_1 t1_2 t1_3 t1_4 t1_5 t1_6 t1_7 t2_0 t2_1 t2_2 t2_3 t2_4 t2_5 t2_6 t2_7
  refine ((H3 _).out).mono ?_
  rintro r X3 ⟨rfl, hb⟩
  replace K0 := keepB hb K0
  replace K1 := keepB hb K1
  replace K2 := keepB hb K2
  replace hB := hB.trans (hb.mono hB.size)
  clear hb
  obtain ⟨t0_0, t0_1, t0_2, t0_3, t0_4, t0_5, t0_6, t0_7⟩ := cellsOf_at K0.out
  obtain ⟨t1_0, t1_1, t1_2, t1_3, t1_4, t1_5, t1_6, t1_7⟩ := cellsOf_at K1.out
  obtain ⟨t2_0, t2_1, t2_2, t2_3, t2_4, t2_5, t2_6, t2_7⟩ := cellsOf_at K2.out
  go_wp2_with fail
  try clear t0_0 t0_1 t0_2 t0_3 t0_4 t0_5 t0_6 t0_7 t1_0 t1_1 t1_2 t1_3 t1_4 t1_5 t1_6 t1_7 t2_0 t2_1 t2_2 t2_3 t2_4 t2_5 t2_6 t2_7
  refine ((H4 _).out).mono ?_
  rintro r X4 ⟨rfl, hb⟩
  replace K0 := keepB hb K0
  replace K1 := keepB hb K1
  replace K2 := keepB hb K2
  replace hB := hB.trans (hb.mono hB.size)
  clear hb
  obtain ⟨t0_0, t0_1, t0_2, t0_3, t0_4, t0_5, t0_6, t0_7⟩ := cellsOf_at K0.out
  obtain ⟨t1_0, t1_1, t1_2, t1_3, t1_4, t1_5, t1_6, t1_7⟩ := cellsOf_at K1.out
  obtain ⟨t2_0, t2_1, t2_2, t2_3, t2_4, t2_5, t2_6, t2_7⟩ := cellsOf_at K2.out
  go_wp2_with fail
  try clear t0_0 t0_1 t0_2 t0_3 t0_4 t0_5 t0_6 t0_7 t1_0 t1_1 t1_2 t1_3 t1_4 t1_5 t1_6 t1_7 t2_0 t2_1 t2_2 t2_3 t2_4 t2_5 t2_6 t2_7
  refine ((H5 _).out).mono ?_
  rintro r X5 ⟨rfl, hb⟩
  replace K0 := keepB hb K0
  replace K1 := keepB hb K1
  replace K2 := keepB hb K2
  replace hB := hB.trans (hb.mono hB.size)
  clear hb
  obtain ⟨t0_0, t0_1, t0_2, t0_3, t0_4, t0_5, t0_6, t0_7⟩ := cellsOf_at K0.out
  obtain ⟨t1_0, t1_1, t1_2, t1_3, t1_4, t1_5, t1_6, t1_7⟩ := cellsOf_at K1.out
  obtain ⟨t2_0, t2_1, t2_2, t2_3, t2_4, t2_5, t2_6, t2_7⟩ := cellsOf_at K2.out
  go_wp2_with fail
  try clear t0_0 t0_1 t0_2 t0_3 t0_4 t0_5 t0_6 t0_7 t1_0 t1_1 t1_2 t1_3 t1_4 t1_5 t1_6 t1_7 t2_0 t2_1 t2_2 t2_3 t2_4 t2_5 t2_6 t2_7
  refine ((H6 _).out).mono ?_
  rintro r X6 ⟨rfl, hb⟩
  replace K0 := keepB hb K0
  replace K1 := keepB hb K1
  replace K2 := keepB hb K2
  replace hB := hB.trans (hb.mono hB.size)
  clear hb
  obtain ⟨t0_0, t0_1, t0_2, t0_3, t0_4, t0_5, t0_6, t0_7⟩ := cellsOf_at K0.out
  obtain ⟨t1_0, t1_1, t1_2, t1_3, t1_4, t1_5, t1_6, t1_7⟩ := cellsOf_at K1.out
  obtain ⟨t2_0, t2_1, t2_2, t2_3, t2_4, t2_5, t2_6, t2_7⟩ := cellsOf_at K2.out
  go_wp2_with fail
  try clear t0_0 t0_1 t0_2 t0_3 t0_4 t0_5 t0_6 t0_7 t1_0 t1_1 t1_2 t1_3 t1_4 t1_5 t1_6 t1_7 t2_0 t2_1 t2_2 t2_3 t2_4 t2_5 t2_6 t2_7
  refine ((H7 _).out).mono ?_
  rintro r X7 ⟨rfl, hb⟩
  replace K0 := keepB hb K0
  replace K1 := keepB hb K1
  replace K2 := keepB hb K2
  replace hB := hB.trans (hb.mono hB.size)
  clear hb
  obtain ⟨t0_0, t0_1, t0_2, t0_3, t0_4, t0_5, t0_6, t0_7⟩ := cellsOf_at K0.out
  obtain ⟨t1_0, t1_1, t1_2, t1_3, t1_4, t1_5, t1_6, t1_7⟩ := cellsOf_at K1.out
  obtain ⟨t2_0, t2_1, t2_2, t2_3, t2_4, t2_5, t2_6, t2_7⟩ := cellsOf_at K2.out
  go_wp2_with fail
  try clear t0_0 t0_1 t0_2 t0_3 t0_4 t0_5 t0_6 t0_7 t1_0 t1_1 t1_2 t1_3 t1_4 t1_5 t1_6 t1_7 t2_0 t2_1 t2_2 t2_3 t2_4 t2_5 t2_6 t2_7
  refine ((H8 _).out).mono ?_
  rintro r X8 ⟨rfl, hb⟩
  replace K0 := keepB hb K0
  replace K1 := keepB hb K1
  replace K2 := keepB hb K2
  replace hB := hB.trans (hb.mono hB.size)
  clear hb
  obtain ⟨B9, hB9⟩ : ∃ b, X8.heap.size = b := ⟨_, rfl⟩
  obtain ⟨t0_0, t0_1, t0_2, t0_3, t0_4, t0_5, t0_6, t0_7⟩ := cellsOf_at K0.out
  obtain ⟨t1_0, t1_1, t1_2, t1_3, t1_4, t1_5, t1_6, t1_7⟩ := cellsOf_at K1.out
  obtain ⟨t2_0, t2_1, t2_2, t2_3, t2_4, t2_5, t2_6, t2_7⟩ := cellsOf_at K2.out
  rw [hB9] at t0_7 t1_7 t2_7
  go_wp2_with fail
  try clear t0_0 t0_1 t0_2 t0_3 t0_4 t0_5 t0_6 t0_7 t1_0 t1_1 t1_2 t1_3 t1_4 t1_5 t1_6 t1_7 t2_0 t2_1 t2_2 t2_3 t2_4 t2_5 t2_6 t2_7
  try rw [hB9]
  refine call_named (fun V => Below w.heap.size w V ∧ Hid (V.heap[w.heap.size]? = some (cellsOf ⟨a1, a2, a3, a4, a5, a6⟩)) ∧ Hid (V.heap[w.heap.size + 1]? = some (cellsOf ⟨b1, b2, b3, b4, b5, b6⟩)) ∧ Hid (V.heap[w.heap.size + 1 + 1]? = some (cellsOf ⟨c1, c2, c3, c4, c5, c6⟩)) ∧ Hid (V.heap[B9]? = some (spanOf ⟨slo, shi⟩))) ⟨xa hB _, keepA K0 _, keepA K1 _, keepA K2 _, newA _ _ _ hB9⟩ ?_
  clear hB K0 K1 K2 hB9
  rintro V9 ⟨hB, K0, K1, K2, K9⟩
  refine ((H9 _).out).mono ?_
  rintro r X10 ⟨rfl, hb⟩
  replace K0 := keepB hb K0
  replace K1 := keepB hb K1
  replace K2 := keepB hb K2
  replace K9 := keepB hb K9
  replace hB := hB.trans (hb.mono hB.size)
  clear hb
  obtain ⟨B11, hB11⟩ : ∃ b, X10.heap.size = b := ⟨_, rfl⟩
  obtain ⟨t0_0, t0_1, t0_2, t0_3, t0_4, t0_5, t0_6, t0_7⟩ := cellsOf_at K0.out
  obtain ⟨t1_0, t1_1, t1_2, t1_3, t1_4, t1_5, t1_6, t1_7⟩ := cellsOf_at K1.out
  obtain ⟨t2_0, t2_1, t2_2, t2_3, t2_4, t2_5, t2_6, t2_7⟩ := cellsOf_at K2.out
  obtain ⟨t9_0, t9_1, t9_2, t9_3⟩ := span_at' K9.out
  rw [hB11] at t0_7 t1_7 t2_7 t9_3
  go_wp2_with fail
  try clear t0_0 t0_1 t0_2 t0_3 t0_4 t0_5 t0_6 t0_7 t1_0 t1_1 t1_2 t1_3 t1_4 t1_5 t1_6 t1_7 t2_0 t2_1 t2_2 t2_3 t2_4 t2_5 t2_6 t2_7 t9_0 t9_1 t9_2 t9_3
  try rw [hB11]
  refine call_named (fun V => Below w.heap.size w V ∧ Hid (V.heap[w.heap.size]? = some (cellsOf ⟨a1, a2, a3, a4, a5, a6⟩)) ∧ Hid (V.heap[w.heap.size + 1]? = some (cellsOf ⟨b1, b2, b3, b4, b5, b6⟩)) ∧ Hid (V.heap[w.heap.size + 1 + 1]? = some (cellsOf ⟨c1, c2, c3, c4, c5, c6⟩)) ∧ Hid (V.heap[B9]? = some (spanOf ⟨slo, shi⟩)) ∧ Hid (V.heap[B11]? = some (spanOf ⟨slo, shi⟩))) ⟨xa hB _, keepA K0 _, keepA K1 _, keepA K2 _, keepA K9 _, newA _ _ _ hB11⟩ ?_
  clear hB K0 K1 K2 K9 hB11
  rintro V11 ⟨hB, K0, K1, K2, K9, K11⟩
  refine ((HP _).out).mono ?_
  rintro r X12 ⟨rfl, hb⟩
  replace K0 := keepB hb K0
  replace K1 := keepB hb K1
  replace K2 := keepB hb K2
  replace K9 := keepB hb K9
  replace K11 := keepB hb K11
  replace hB := hB.trans (hb.mono hB.size)
  clear hb
  obtain ⟨B13, hB13⟩ : ∃ b, X12.heap.size = b := ⟨_, rfl⟩
  obtain ⟨t0_0, t0_1, t0_2, t0_3, t0_4, t0_5, t0_6, t0_7⟩ := cellsOf_at K0.out
  obtain ⟨t1_0, t1_1, t1_2, t1_3, t1_4, t1_5, t1_6, t1_7⟩ := cellsOf_at K1.out
  obtain ⟨t2_0, t2_1, t2_2, t2_3, t2_4, t2_5, t2_6, t2_7⟩ := cellsOf_at K2.out
  obtain ⟨t9_0, t9_1, t9_2, t9_3⟩ := span_at' K9.out
  obtain ⟨t11_0, t11_1, t11_2, t11_3⟩ := span_at' K11.out
  rw [hB13] at t0_7 t1_7 t2_7 t9_3 t11_3
  go_wp2_with fail
  try clear t0_0 t0_1 t0_2 t0_3 t0_4 t0_5 t0_6 t0_7 t1_0 t1_1 t1_2 t1_3 t1_4 t1_5 t1_6 t1_7 t2_0 t2_1 t2_2 t2_3 t2_4 t2_5 t2_6 t2_7 t9_0 t9_1 t9_2 t9_3 t11_0 t11_1 t11_2 t11_3
  try rw [hB13]
  refine call_named (fun V => Below w.heap.size w V ∧ Hid (V.heap[w.heap.size]? = some (cellsOf ⟨a1, a2, a3, a4, a5, a6⟩)) ∧ Hid (V.heap[w.heap.size + 1]? = some (cellsOf ⟨b1, b2, b3, b4, b5, b6⟩)) ∧ Hid (V.heap[w.heap.size + 1 + 1]? = some (cellsOf ⟨c1, c2, c3, c4, c5, c6⟩)) ∧ Hid (V.heap[B9]? = some (spanOf ⟨slo, shi⟩)) ∧ Hid (V.heap[B11]? = some (spanOf ⟨slo, shi⟩)) ∧ Hid (V.heap[B13]? = some (spanOf ⟨plo, phi⟩))) ⟨xa hB _, keepA K0 _, keepA K1 _, keepA K2 _, keepA K9 _, keepA K11 _, newA _ _ _ hB13⟩ ?_
  clear hB K0 K1 K2 K9 K11 hB13
  rintro V13 ⟨hB, K0, K1, K2, K9, K11, K13⟩
  refine ((HQ _).out).mono ?_
  rintro r X14 ⟨rfl, hb⟩
  replace K0 := keepB hb K0
  replace K1 := keepB hb K1
  replace K2 := keepB hb K2
  replace K9 := keepB hb K9
  replace K11 := keepB hb K11
  replace K13 := keepB hb K13
  replace hB := hB.trans (hb.mono hB.size)
  clear hb
  obtain ⟨B15, hB15⟩ : ∃ b, X14.heap.size = b := ⟨_, rfl⟩
  obtain ⟨t0_0, t0_1, t0_2, t0_3, t0_4, t0_5, t0_6, t0_7⟩ := cellsOf_at K0.out
  obtain ⟨t1_0, t1_1, t1_2, t1_3, t1_4, t1_5, t1_6, t1_7⟩ := cellsOf_at K1.out
  obtain ⟨t2_0, t2_1, t2_2, t2_3, t2_4, t2_5, t2_6, t2_7⟩ := cellsOf_at K2.out
  obtain ⟨t9_0, t9_1, t9_2, t9_3⟩ := span_at' K9.out
  obtain ⟨t11_0, t11_1, t11_2, t11_3⟩ := span_at' K11.out
  obtain ⟨t13_0, t13_1, t13_2, t13_3⟩ := span_at' K13.out
  rw [hB15] at t0_7 t1_7 t2_7 t9_3 t11_3 t13_3
  go_wp2_with fail
  all_goals
    try clear t0_0 t0_1 t0_2 t0_3 t0_4 t0_5 t0_6 t0_7 t1_0 t1_1 t1_2 t1_3 t1_4 t1_5 t1_6 t1_7 t2_0 t2_1 t2_2 t2_3 t2_4 t2_5 t2_6 t2_7 t9_0 t9_1 t9_2 t9_3 t11_0 t11_1 t11_2 t11_3 t13_0 t13_1 t13_2 t13_3
    try rw [hB15]
    refine call_named (fun V => Below w.heap.size w V ∧ Hid (V.heap[w.heap.size]? = some (cellsOf ⟨a1, a2, a3, a4, a5, a6⟩)) ∧ Hid (V.heap[w.heap.size + 1]? = some (cellsOf ⟨b1, b2, b3, b4, b5, b6⟩)) ∧ Hid (V.heap[w.heap.size + 1 + 1]? = some (cellsOf ⟨c1, c2, c3, c4, c5, c6⟩)) ∧ Hid (V.heap[B9]? = some (spanOf ⟨slo, shi⟩)) ∧ Hid (V.heap[B11]? = some (spanOf ⟨slo, shi⟩)) ∧ Hid (V.heap[B13]? = some (spanOf ⟨plo, phi⟩)) ∧ Hid (V.heap[B15]? = some (spanOf ⟨qlo, qhi⟩))) ⟨xa hB _, keepA K0 _, keepA K1 _, keepA K2 _, keepA K9 _, keepA K11 _, keepA K13 _, newA _ _ _ hB15⟩ ?_
    clear hB K0 K1 K2 K9 K11 K13 hB15
    rintro V15 ⟨hB, K0, K1, K2, K9, K11, K13, K15⟩
    refine (c22 V15 (HE.out.below hB) (HC.out.below hB HC.out.lt)).mono ?_
    rintro r X16 ⟨rfl, hb⟩
    replace K0 := keepB hb K0
    replace K1 := keepB hb K1
    replace K2 := keepB hb K2
    replace K9 := keepB hb K9
    replace K11 := keepB hb K11
    replace K13 := keepB hb K13
    replace K15 := keepB hb K15
    replace hB := hB.trans (hb.mono hB.size)
    clear hb
    obtain ⟨t0_0, t0_1, t0_2, t0_3, t0_4, t0_5, t0_6, t0_7⟩ := cellsOf_at K0.out
    obtain ⟨t1_0, t1_1, t1_2, t1_3, t1_4, t1_5, t1_6, t1_7⟩ := cellsOf_at K1.out
    obtain ⟨t2_0, t2_1, t2_2, t2_3, t2_4, t2_5, t2_6, t2_7⟩ := cellsOf_at K2.out
    obtain ⟨t9_0, t9_1, t9_2, t9_3⟩ := span_at' K9.out
    obtain ⟨t11_0, t11_1, t11_2, t11_3⟩ := span_at' K11.out
    obtain ⟨t13_0, t13_1, t13_2, t13_3⟩ := span_at' K13.out
    obtain ⟨t15_0, t15_1, t15_2, t15_3⟩ := span_at' K15.out
    go_wp2_with fail
  all_goals go_ret
  all_goals exact ⟨ret_bool (by first | rfl | (exfalso; have := HS.out; omega) | (have := HS.out; simp; omega) | (simp_all; done)), hB⟩
set_option maxRecDepth 100000 in
set_option maxHeartbeats 8000000 in
theorem c13_0tf (a1 a2 a3 a4 a5 a6 b1 b2 b3 b4 b5 b6 c1 c2 c3 c4 c5 c6 n slo shi plo phi qlo qhi : Int) (bc ac : Bool) (w : World) (HE : Hid (Env w)) (HC : Hid (Cell0 w)) (HS : Hid (slo = max plo qlo ∧ shi = min phi qhi)) (H1 : ∀ W, Hid (Calls Tryz.prog 45 #[.agg #[.int .i64 a1, .int .i64 a2, .int .i64 a3, .int .i64 a4, .int .i64 a5, .int .i64 a6], .agg #[.int .i64 b1, .int .i64 b2, .int .i64 b3, .int .i64 b4, .int .i64 b5, .int .i64 b6]] W fun r w' => r = .returned (.tuple #[.bool true, .int .i64 0]) ∧ Below W.heap.size W w')) (H2 : ∀ W, Hid (Calls Tryz.prog 45 #[.agg #[.int .i64 b1, .int .i64 b2, .int .i64 b3, .int .i64 b4, .int .i64 b5, .int .i64 b6], .agg #[.int .i64 a1, .int .i64 a2, .int .i64 a3, .int .i64 a4, .int .i64 a5, .int .i64 a6]] W fun r w' => r = .returned (.tuple #[.bool true, .int .i64 0]) ∧ Below W.heap.size W w')) (H3 : ∀ W, Hid (Calls Tryz.prog 45 #[.agg #[.int .i64 b1, .int .i64 b2, .int .i64 b3, .int .i64 b4, .int .i64 b5, .int .i64 b6], .agg #[.int .i64 c1, .int .i64 c2, .int .i64 c3, .int .i64 c4, .int .i64 c5, .int .i64 c6]] W fun r w' => r = .returned (.tuple #[.bool false, .int .i64 0]) ∧ Below W.heap.size W w')) (H4 : ∀ W, Hid (Calls Tryz.prog 45 #[.agg #[.int .i64 a1, .int .i64 a2, .int .i64 a3, .int .i64 a4, .int .i64 a5, .int .i64 a6], .agg #[.int .i64 c1, .int .i64 c2, .int .i64 c3, .int .i64 c4, .int .i64 c5, .int .i64 c6]] W fun r w' => r = .returned (.tuple #[.bool ac, .int .i64 0]) ∧ Below W.heap.size W w')) (H5 : ∀ W, Hid (Calls Tryz.prog 45 #[.agg #[.int .i64 a1, .int .i64 a2, .int .i64 a3, .int .i64 a4, .int .i64 a5, .int .i64 a6], .agg #[.int .i64 a1, .int .i64 a2, .int .i64 a3, .int .i64 a4, .int .i64 a5, .int .i64 a6]] W fun r w' => r = .returned (.tuple #[.bool true, .int .i64 0]) ∧ Below W.heap.size W w')) (H6 : ∀ W, Hid (Calls Tryz.prog 47 #[.agg #[.int .i64 a1, .int .i64 a2, .int .i64 a3, .int .i64 a4, .int .i64 a5, .int .i64 a6], .agg #[.int .i64 b1, .int .i64 b2, .int .i64 b3, .int .i64 b4, .int .i64 b5, .int .i64 b6]] W fun r w' => r = .returned (.tuple #[.bool false, .int .i64 0]) ∧ Below W.heap.size W w')) (H7 : ∀ W, Hid (Calls Tryz.prog 47 #[.agg #[.int .i64 b1, .int .i64 b2, .int .i64 b3, .int .i64 b4, .int .i64 b5, .int .i64 b6], .agg #[.int .i64 a1, .int .i64 a2, .int .i64 a3, .int .i64 a4, .int .i64 a5, .int .i64 a6]] W fun r w' => r = .returned (.tuple #[.bool false, .int .i64 0]) ∧ Below W.heap.size W w')) (H8 : ∀ W, Hid (Calls Tryz.prog 48 #[.agg #[.int .i64 a1, .int .i64 a2, .int .i64 a3, .int .i64 a4, .int .i64 a5, .int .i64 a6], .agg #[.int .i64 b1, .int .i64 b2, .int .i64 b3, .int .i64 b4, .int .i64 b5, .int .i64 b6]] W fun r w' => r = .returned (.tuple #[.agg #[.int .i64 slo, .int .i64 shi], .int .i64 0]) ∧ Below W.heap.size W w')) (H9 : ∀ W, Hid (Calls Tryz.prog 48 #[.agg #[.int .i64 b1, .int .i64 b2, .int .i64 b3, .int .i64 b4, .int .i64 b5, .int .i64 b6], .agg #[.int .i64 a1, .int .i64 a2, .int .i64 a3, .int .i64 a4, .int .i64 a5, .int .i64 a6]] W fun r w' => r = .returned (.tuple #[.agg #[.int .i64 slo, .int .i64 shi], .int .i64 0]) ∧ Below W.heap.size W w')) (HP : ∀ W, Hid (Calls Tryz.prog 43 #[.agg #[.int .i64 a1, .int .i64 a2, .int .i64 a3, .int .i64 a4, .int .i64 a5, .int .i64 a6]] W fun r w' => r = .returned (.tuple #[.agg #[.int .i64 plo, .int .i64 phi], .int .i64 0]) ∧ Below W.heap.size W w')) (HQ : ∀ W, Hid (Calls Tryz.prog 43 #[.agg #[.int .i64 b1, .int .i64 b2, .int .i64 b3, .int .i64 b4, .int .i64 b5, .int .i64 b6]] W fun r w' => r = .returned (.tuple #[.agg #[.int .i64 qlo, .int .i64 qhi], .int .i64 0]) ∧ Below W.heap.size W w')) : Calls Tryz.prog 13 #[.agg #[.int .i64 a1, .int .i64 a2, .int .i64 a3, .int .i64 a4, .int .i64 a5, .int .i64 a6], .agg #[.int .i64 b1, .int .i64 b2, .int .i64 b3, .int .i64 b4, .int .i64 b5, .int .i64 b6], .agg #[.int .i64 c1, .int .i64 c2, .int .i64 c3, .int .i64 c4, .int .i64 c5, .int .i64 c6], .int .i64 n] w fun e w' => e = .returned (.bool true) ∧ Below w.heap.size w w' := by
  go_enter Tryz.func13, Tryz.ntmps13
  go_wp2_with fail
  refine call_named (fun V => Below w.heap.size w V ∧ Hid (V.heap[w.heap.size]? = some (cellsOf ⟨a1, a2, a3, a4, a5, a6⟩)) ∧ Hid (V.heap[w.heap.size + 1]? = some (cellsOf ⟨b1, b2, b3, b4, b5, b6⟩)) ∧ Hid (V.heap[w.heap.size + 1 + 1]? = some (cellsOf ⟨c1, c2, c3, c4, c5, c6⟩))) (box_three _ _ _ _) ?_
  rintro X0 ⟨hB, K0, K1, K2⟩
  refine ((H1 _).out).mono ?_
  rintro r X1 ⟨rfl, hb⟩
  replace K0 := keepB hb K0
  replace K1 := keepB hb K1
  replace K2 := keepB hb K2
  replace hB := hB.trans (hb.mono hB.size)
  clear hb
  obtain ⟨t0_0, t0_1, t0_2, t0_3, t0_4, t0_5, t0_6, t0_7⟩ := cellsOf_at K0.out
  obtain ⟨t1_0, t1_1, t1_2, t1_3, t1_4, t1_5, t1_6, t1_7⟩ := cellsOf_at K1.out
  obtain ⟨t2_0, t2_1, t2_2, t2_3, t2_4, t2_5, t2_6, t2_7⟩ := cellsOf_at K2.out
  go_wp2_with fail
  try clear t0_0 t0_1 t0_2 t0_3 t0_4 t0_5 t0_6 t0_7 t1_0 t1_1 t1_2 t1_3 t1_4 t1_5 t1_6 t1_7 t2_0 t2_1 t2_2 t2_3 t2_4 t2_5 t2_6 t2_7
  refine ((H2 _).out).mono ?_
  rintro r X2 ⟨rfl, hb⟩
  replace K0 := keepB hb K0
  replace K1 := keepB hb K1
  replace K2 := keepB hb K2
  replace hB := hB.trans (hb.mono hB.size)
  clear hb
  obtain ⟨t0_0, t0_1, t0_2, t0_3, t0_4, t0_5, t0_6, t0_7⟩ := cellsOf_at K0.out
  obtain ⟨t1_0, t1_1, t1_2, t1_3, t1_4, t1_5, t1_6, t1_7⟩ := cellsOf_at K1.out
  obtain ⟨t2_0, t2_1, t2_2, t2_3, t2_4, t2_5, t2_6, t2_7⟩ := cellsOf_at K2.out
  go_wp2_with fail
  try clear t0_0 t0_1 t0_2 t0_3 t0_4 t0_5 t0_6 t0_7 t1_0 t1_1 t1_2 t1_3 t1_4 t1_5 t1_6 t1_7 t2_0 t2_1 t2_2 t2_3 t2_4 t2_5 t2_6 t2_7
  refine ((H3 _).out).mono ?_
  rintro r X3 ⟨rfl, hb⟩
  replace K0 := keepB hb K0
  replace K1 := keepB hb K1
  replace K2 := keepB hb K2
  replace hB := hB.trans (hb.mono hB.size)
  clear hb
  obtain ⟨t0_0, t0_1, t0_2, t0_3, t0_4, t0_5, t0_6, t0_7⟩ := cellsOf_at K0.out
  obtain ⟨t1_0, t1_1, t1_2, t1_3, t1_4, t1_5, t1_6, t1_7⟩ := cellsOf_at K1.out
  obtain ⟨t2_0, t2_1, t2_2, t2_3, t2_4, t2_5, t2_6, t2_7⟩ := cellsOf_at K2.out
  go_wp2_with fail
  try clear t0_0 t0_1 t0_2 t0_3 t0_4 t0_5 t0_6 t0_7 t1_0 t1_1 t1_2 t1_3 t1_4 t1_5 t1_6 t1_7 t2_0 t2_1 t2_2 t2_3 t2_4 t2_5 t2_6 t2_7
  refine ((H4 _).out).mono ?_
  rintro r X4 ⟨rfl, hb⟩
  replace K0 := keepB hb K0
  replace K1 := keepB hb K1
  replace K2 := keepB hb K2
  replace hB := hB.trans (hb.mono hB.size)
  clear hb
  obtain ⟨t0_0, t0_1, t0_2, t0_3, t0_4, t0_5, t0_6, t0_7⟩ := cellsOf_at K0.out
  obtain ⟨t1_0, t1_1, t1_2, t1_3, t1_4, t1_5, t1_6, t1_7⟩ := cellsOf_at K1.out
  obtain ⟨t2_0, t2_1, t2_2, t2_3, t2_4, t2_5, t2_6, t2_7⟩ := cellsOf_at K2.out
  go_wp2_with fail
  try clear t0_0 t0_1 t0_2 t0_3 t0_4 t0_5 t0_6 t0_7 t1_0 t1_1 t1_2 t1_3 t1_4 t1_5 t1_6 t1_7 t2_0 t2_1 t2_2 t2_3 t2_4 t2_5 t2_6 t2_7
  refine ((H5 _).out).mono ?_
  rintro r X5 ⟨rfl, hb⟩
  replace K0 := keepB hb K0
  replace K1 := keepB hb K1
  replace K2 := keepB hb K2
  replace hB := hB.trans (hb.mono hB.size)
  clear hb
  obtain ⟨t0_0, t0_1, t0_2, t0_3, t0_4, t0_5, t0_6, t0_7⟩ := cellsOf_at K0.out
  obtain ⟨t1_0, t1_1, t1_2, t1_3, t1_4, t1_5, t1_6, t1_7⟩ := cellsOf_at K1.out
  obtain ⟨t2_0, t2_1, t2_2, t2_3, t2_4, t2_5, t2_6, t2_7⟩ := cellsOf_at K2.out
  go_wp2_with fail
  try clear t0_0 t0_1 t0_2 t0_3 t0_4 t0_5 t0_6 t0_7 t1_0 t1_1 t1_2 t1_3 t1_4 t1_5 t1_6 t1_7 t2_0 t2_1 t2_2 t2_3 t2_4 t2_5 t2_6 t2_7
  refine ((H6 _).out).mono ?_
  rintro r X6 ⟨rfl, hb⟩
  replace K0 := keepB hb K0
  replace K1 := keepB hb K1
  replace K2 := keepB hb K2
  replace hB := hB.trans (hb.mono hB.size)
  clear hb
  obtain ⟨t0_0, t0_1, t0_2, t0_3, t0_4, t0_5, t0_6, t0_7⟩ := cellsOf_at K0.out
  obtain ⟨t1_0, t1_1, t1_2, t1_3, t1_4, t1_5, t1_6, t1_7⟩ := cellsOf_at K1.out
  obtain ⟨t2_0, t2_1, t2_2, t2_3, t2_4, t2_5, t2_6, t2_7⟩ := cellsOf_at K2.out
  go_wp2_with fail
  try clear t0_0 t0_1 t0_2 t0_3 t0_4 t0_5 t0_6 t0_7 t1_0 t1_1 t1_2 t1_3 t1_4 t1_5 t1_6 t1_7 t2_0 t2_1 t2_2 t2_3 t2_4 t2_5 t2_6 t2_7
  refine ((H7 _).out).mono ?_
  rintro r X7 ⟨rfl, hb⟩
  replace K0 := keepB hb K0
  replace K1 := keepB hb K1
  replace K2 := keepB hb K2
  replace hB := hB.trans (hb.mono hB.size)
  clear hb
  obtain ⟨t0_0, t0_1, t0_2, t0_3, t0_4, t0_5, t0_6, t0_7⟩ := cellsOf_at K0.out
  obtain ⟨t1_0, t1_1, t1_2, t1_3, t1_4, t1_5, t1_6, t1_7⟩ := cellsOf_at K1.out
  obtain ⟨t2_0, t2_1, t2_2, t2_3, t2_4, t2_5, t2_6, t2_7⟩ := cellsOf_at K2.out
  go_wp2_with fail
  try clear t0_0 t0_1 t0_2 t0_3 t0_4 t0_5 t0_6 t0_7 t1_0 t1_1 t1_2 t1_3 t1_4 t1_5 t1_6 t1_7 t2_0 t2_1 t2_2 t2_3 t2_4 t2_5 t2_6 t2_7
  refine ((H8 _).out).mono ?_
  rintro r X8 ⟨rfl, hb⟩
  replace K0 := keepB hb K0
  replace K1 := keepB hb K1
  replace K2 := keepB hb K2
  replace hB := hB.trans (hb.mono hB.size)
  clear hb
  obtain ⟨B9, hB9⟩ : ∃ b, X8.heap.size = b := ⟨_, rfl⟩
  obtain ⟨t0_0, t0_1, t0_2, t0_3, t0_4, t0_5, t0_6, t0_7⟩ := cellsOf_at K0.out
  obtain ⟨t1_0, t1_1, t1_2, t1_3, t1_4, t1_5, t1_6, t1_7⟩ := cellsOf_at K1.out
  obtain ⟨t2_0, t2_1, t2_2, t2_3, t2_4, t2_5, t2_6, t2_7⟩ := cellsOf_at K2.out
  rw [hB9] at t0_7 t1_7 t2_7
  go_wp2_with fail
  try clear t0_0 t0_1 t0_2 t0_3 t0_4 t0_5 t0_6 t0_7 t1_0 t1_1 t1_2 t1_3 t1_4 t1_5 t1_6 t1_7 t2_0 t2_1 t2_2 t2_3 t2_4 t2_5 t2_6 t2_7
  try rw [hB9]
  refine call_named (fun V => Below w.heap.size w V ∧ Hid (V.heap[w.heap.size]? = some (cellsOf ⟨a1, a2, a3, a4, a5, a6⟩)) ∧ Hid (V.heap[w.heap.size + 1]? = some (cellsOf ⟨b1, b2, b3, b4, b5, b6⟩)) ∧ Hid (V.heap[w.heap.size + 1 + 1]? = some (cellsOf ⟨c1, c2, c3, c4, c5, c6⟩)) ∧ Hid (V.heap[B9]? = some (spanOf ⟨slo, shi⟩))) ⟨xa hB _, keepA K0 _, keepA K1 _, keepA K2 _, newA _ _ _ hB9⟩ ?_
  clear hB K0 K1 K2 hB9
  rintro V9 ⟨hB, K0, K1, K2, K9⟩
  refine ((H9 _).out).mono ?_
  rintro r X10 ⟨rfl, hb⟩
  replace K0 := keepB hb K0
  replace K1 := keepB hb K1
  replace K2 := keepB hb K2
  replace K9 := keepB hb K9
  replace hB := hB.trans (hb.mono hB.size)
  clear hb
  obtain ⟨B11, hB11⟩ : ∃ b, X10.heap.size = b := ⟨_, rfl⟩
  obtain ⟨t0_0, t0_1, t0_2, t0_3, t0_4, t0_5, t0_6, t0_7⟩ := cellsOf_at K0.out
  obtain ⟨t1_0, t1_1, t1_2, t1_3, t1_4, t1_5, t1_6, t1_7⟩ := cellsOf_at K1.out
  obtain ⟨t2_0, t2_1, t2_2, t2_3, t2_4, t2_5, t2_6, t2_7⟩ := cellsOf_at K2.out
  obtain ⟨t9_0, t9_1, t9_2, t9_3⟩ := span_at' K9.out
  rw [hB11] at t0_7 t1_7 t2_7 t9_3
  go_wp2_with fail
  try clear t0_0 t0_1 t0_2 t0_3 t0_4 t0_5 t0_6 t0_7 t1_0 t1_1 t1_2 t1_3 t1_4 t1_5 t1_6 t1_7 t2_0 t2_1 t2_2 t2_3 t2_4 t2_5 t2_6 t2_7 t9_0 t9_1 t9_2 t9_3
  try rw [hB11]
  refine call_named (fun V => Below w.heap.size w V ∧ Hid (V.heap[w.heap.size]? = some (cellsOf ⟨a1, a2, a3, a4, a5, a6⟩)) ∧ Hid (V.heap[w.heap.size + 1]? = some (cellsOf ⟨b1, b2, b3, b4, b5, b6⟩)) ∧ Hid (V.heap[w.heap.size + 1 + 1]? = some (cellsOf ⟨c1, c2, c3, c4, c5, c6⟩)) ∧ Hid (V.heap[B9]? = some (spanOf ⟨slo, shi⟩)) ∧ Hid (V.heap[B11]? = some (spanOf ⟨slo, shi⟩))) ⟨xa hB _, keepA K0 _, keepA K1 _, keepA K2 _, keepA K9 _, newA _ _ _ hB11⟩ ?_
  clear hB K0 K1 K2 K9 hB11
  rintro V11 ⟨hB, K0, K1, K2, K9, K11⟩
  refine ((HP _).out).mono ?_
  rintro r X12 ⟨rfl, hb⟩
  replace K0 := keepB hb K0
  replace K1 := keepB hb K1
  replace K2 := keepB hb K2
  replace K9 := keepB hb K9
  replace K11 := keepB hb K11
  replace hB := hB.trans (hb.mono hB.size)
  clear hb
  obtain ⟨B13, hB13⟩ : ∃ b, X12.heap.size = b := ⟨_, rfl⟩
  obtain ⟨t0_0, t0_1, t0_2, t0_3, t0_4, t0_5, t0_6, t0_7⟩ := cellsOf_at K0.out
  obtain ⟨t1_0, t1_1, t1_2, t1_3, t1_4, t1_5, t1_6, t1_7⟩ := cellsOf_at K1.out
  obtain ⟨t2_0, t2_1, t2_2, t2_3, t2_4, t2_5, t2_6, t2_7⟩ := cellsOf_at K2.out
  obtain ⟨t9_0, t9_1, t9_2, t9_3⟩ := span_at' K9.out
  obtain ⟨t11_0, t11_1, t11_2, t11_3⟩ := span_at' K11.out
  rw [hB13] at t0_7 t1_7 t2_7 t9_3 t11_3
  go_wp2_with fail
  try clear t0_0 t0_1 t0_2 t0_3 t0_4 t0_5 t0_6 t0_7 t1_0 t1_1 t1_2 t1_3 t1_4 t1_5 t1_6 t1_7 t2_0 t2_1 t2_2 t2_3 t2_4 t2_5 t2_6 t2_7 t9_0 t9_1 t9_2 t9_3 t11_0 t11_1 t11_2 t11_3
  try rw [hB13]
  refine call_named (fun V => Below w.heap.size w V ∧ Hid (V.heap[w.heap.size]? = some (cellsOf ⟨a1, a2, a3, a4, a5, a6⟩)) ∧ Hid (V.heap[w.heap.size + 1]? = some (cellsOf ⟨b1, b2, b3, b4, b5, b6⟩)) ∧ Hid (V.heap[w.heap.size + 1 + 1]? = some (cellsOf ⟨c1, c2, c3, c4, c5, c6⟩)) ∧ Hid (V.heap[B9]? = some (spanOf ⟨slo, shi⟩)) ∧ Hid (V.heap[B11]? = some (spanOf ⟨slo, shi⟩)) ∧ Hid (V.heap[B13]? = some (spanOf ⟨plo, phi⟩))) ⟨xa hB _, keepA K0 _, keepA K1 _, keepA K2 _, keepA K9 _, keepA K11 _, newA _ _ _ hB13⟩ ?_
  clear hB K0 K1 K2 K9 K11 hB13
  rintro V13 ⟨hB, K0, K1, K2, K9, K11, K13⟩
  refine ((HQ _).out).mono ?_
  rintro r X14 ⟨rfl, hb⟩
  replace K0 := keepB hb K0
  replace K1 := keepB hb K1
  replace K2 := keepB hb K2
  replace K9 := keepB hb K9
  replace K11 := keepB hb K11
  replace K13 := keepB hb K13
  replace hB := hB.trans (hb.mono hB.size)
  clear hb
  obtain ⟨B15, hB15⟩ : ∃ b, X14.heap.size = b := ⟨_, rfl⟩
  obtain ⟨t0_0, t0_1, t0_2, t0_3, t0_4, t0_5, t0_6, t0_7⟩ := cellsOf_at K0.out
  obtain ⟨t1_0, t1_1, t1_2, t1_3, t1_4, t1_5, t1_6, t1_7⟩ := cellsOf_at K1.out
  obtain ⟨t2_0, t2_1, t2_2, t2_3, t2_4, t2_5, t2_6, t2_7⟩ := cellsOf_at K2.out
  obtain ⟨t9_0, t9_1, t9_2, t9_3⟩ := span_at' K9.out
  obtain ⟨t11_0, t11_1, t11_2, t11_3⟩ := span_at' K11.out
  obtain ⟨t13_0, t13_1, t13_2, t13_3⟩ := span_at' K13.out
  rw [hB15] at t0_7 t1_7 t2_7 t9_3 t11_3 t13_3
  go_wp2_with fail
  all_goals
    try clear t0_0 t0_1 t0_2 t0_3 t0_4 t0_5 t0_6 t0_7 t1_0 t1_1 t1_2 t1_3 t1_4 t1_5 t1_6 t1_7 t2_0 t2_1 t2_2 t2_3 t2_4 t2_5 t2_6 t2_7 t9_0 t9_1 t9_2 t9_3 t11_0 t11_1 t11_2 t11_3 t13_0 t13_1 t13_2 t13_3
    try rw [hB15]
    refine call_named (fun V => Below w.heap.size w V ∧ Hid (V.heap[w.heap.size]? = some (cellsOf ⟨a1, a2, a3, a4, a5, a6⟩)) ∧ Hid (V.heap[w.heap.size + 1]? = some (cellsOf ⟨b1, b2, b3, b4, b5, b6⟩)) ∧ Hid (V.heap[w.heap.size + 1 + 1]? = some (cellsOf ⟨c1, c2, c3, c4, c5, c6⟩)) ∧ Hid (V.heap[B9]? = some (spanOf ⟨slo, shi⟩)) ∧ Hid (V.heap[B11]? = some (spanOf ⟨slo, shi⟩)) ∧ Hid (V.heap[B13]? = some (spanOf ⟨plo, phi⟩)) ∧ Hid (V.heap[B15]? = some (spanOf ⟨qlo, qhi⟩))) ⟨xa hB _, keepA K0 _, keepA K1 _, keepA K2 _, keepA K9 _, keepA K11 _, keepA K13 _, newA _ _ _ hB15⟩ ?_
    clear hB K0 K1 K2 K9 K11 K13 hB15
    rintro V15 ⟨hB, K0, K1, K2, K9, K11, K13, K15⟩
    refine (c22 V15 (HE.out.below hB) (HC.out.below hB HC.out.lt)).mono ?_
    rintro r X16 ⟨rfl, hb⟩
    replace K0 := keepB hb K0
    replace K1 := keepB hb K1
    replace K2 := keepB hb K2
    replace K9 := keepB hb K9
    replace K11 := keepB hb K11
    replace K13 := keepB hb K13
    replace K15 := keepB hb K15
    replace hB := hB.trans (hb.mono hB.size)
    clear hb
    obtain ⟨t0_0, t0_1, t0_2, t0_3, t0_4, t0_5, t0_6, t0_7⟩ := cellsOf_at K0.out
    obtain ⟨t1_0, t1_1, t1_2, t1_3, t1_4, t1_5, t1_6, t1_7⟩ := cellsOf_at K1.out
    obtain ⟨t2_0, t2_1, t2_2, t2_3, t2_4, t2_5, t2_6, t2_7⟩ := cellsOf_at K2.out
    obtain ⟨t9_0, t9_1, t9_2, t9_3⟩ := span_at' K9.out
    obtain ⟨t11_0, t11_1, t11_2, t11_3⟩ := span_at' K11.out
    obtain ⟨t13_0, t13_1, t13_2, t13_3⟩ := span_at' K13.out
    obtain ⟨t15_0, t15_1, t15_2, t15_3⟩ := span_at' K15.out
    go_wp2_with fail
  all_goals go_ret
  all_goals exact ⟨ret_bool (by first | rfl | (exfalso; have := HS.out; omega) | (have := HS.out; simp; omega) | (simp_all; done)), hB⟩
set_option maxRecDepth 100000 in
set_option maxHeartbeats 8000000 in
theorem c13_0tt (a1 a2 a3 a4 a5 a6 b1 b2 b3 b4 b5 b6 c1 c2 c3 c4 c5 c6 n slo shi plo phi qlo qhi : Int) (bc ac : Bool) (w : World) (HE : Hid (Env w)) (HC : Hid (Cell0 w)) (HS : Hid (slo = max plo qlo ∧ shi = min phi qhi)) (H1 : ∀ W, Hid (Calls Tryz.prog 45 #[.agg #[.int .i64 a1, .int .i64 a2, .int .i64 a3, .int .i64 a4, .int .i64 a5, .int .i64 a6], .agg #[.int .i64 b1, .int .i64 b2, .int .i64 b3, .int .i64 b4, .int .i64 b5, .int .i64 b6]] W fun r w' => r = .returned (.tuple #[.bool true, .int .i64 0]) ∧ Below W.heap.size W w')) (H2 : ∀ W, Hid (Calls Tryz.prog 45 #[.agg #[.int .i64 b1, .int .i64 b2, .int .i64 b3, .int .i64 b4, .int .i64 b5, .int .i64 b6], .agg #[.int .i64 a1, .int .i64 a2, .int .i64 a3, .int .i64 a4, .int .i64 a5, .int .i64 a6]] W fun r w' => r = .returned (.tuple #[.bool true, .int .i64 0]) ∧ Below W.heap.size W w')) (H3 : ∀ W, Hid (Calls Tryz.prog 45 #[.agg #[.int .i64 b1, .int .i64 b2, .int .i64 b3, .int .i64 b4, .int .i64 b5, .int .i64 b6], .agg #[.int .i64 c1, .int .i64 c2, .int .i64 c3, .int .i64 c4, .int .i64 c5, .int .i64 c6]] W fun r w' => r = .returned (.tuple #[.bool true, .int .i64 0]) ∧ Below W.heap.size W w')) (H4 : ∀ W, Hid (Calls Tryz.prog 45 #[.agg #[.int .i64 a1, .int .i64 a2, .int .i64 a3, .int .i64 a4, .int .i64 a5, .int .i64 a6], .agg #[.int .i64 c1, .int .i64 c2, .int .i64 c3, .int .i64 c4, .int .i64 c5, .int .i64 c6]] W fun r w' => r = .returned (.tuple #[.bool true, .int .i64 0]) ∧ Below W.heap.size W w')) (H5 : ∀ W, Hid (Calls Tryz.prog 45 #[.agg #[.int .i64 a1, .int .i64 a2, .int .i64 a3, .int .i64 a4, .int .i64 a5, .int .i64 a6], .agg #[.int .i64 a1, .int .i64 a2, .int .i64 a3, .int .i64 a4, .int .i64 a5, .int .i64 a6]] W fun r w' => r = .returned (.tuple #[.bool true, .int .i64 0]) ∧ Below W.heap.size W w')) (H6 : ∀ W, Hid (Calls Tryz.prog 47 #[.agg #[.int .i64 a1, .int .i64 a2, .int .i64 a3, .int .i64 a4, .int .i64 a5, .int .i64 a6], .agg #[.int .i64 b1, .int .i64 b2, .int .i64 b3, .int .i64 b4, .int .i64 b5, .int .i64 b6]] W fun r w' => r = .returned (.tuple #[.bool false, .int .i64 0]) ∧ Below W.heap.size W w')) (H7 : ∀ W, Hid (Calls Tryz.prog 47 #[.agg #[.int .i64 b1, .int .i64 b2, .int .i64 b3, .int .i64 b4, .int .i64 b5, .int .i64 b6], .agg #[.int .i64 a1, .int .i64 a2, .int .i64 a3, .int .i64 a4, .int .i64 a5, .int .i64 a6]] W fun r w' => r = .returned (.tuple #[.bool false, .int .i64 0]) ∧ Below W.heap.size W w')) (H8 : ∀ W, Hid (Calls Tryz.prog 48 #[.agg #[.int .i64 a1, .int .i64 a2, .int .i64 a3, .int .i64 a4, .int .i64 a5, .int .i64 a6], .agg #[.int .i64 b1, .int .i64 b2, .int .i64 b3, .int .i64 b4, .int .i64 b5, .int .i64 b6]] W fun r w' => r = .returned (.tuple #[.agg #[.int .i64 slo, .int .i64 shi], .int .i64 0]) ∧ Below W.heap.size W w')) (H9 : ∀ W, Hid (Calls Tryz.prog 48 #[.agg #[.int .i64 b1, .int .i64 b2, .int .i64 b3, .int .i64 b4, .int .i64 b5, .int .i64 b6], .agg #[.int .i64 a1, .int .i64 a2, .int .i64 a3, .int .i64 a4, .int .i64 a5, .int .i64 a6]] W fun r w' => r = .returned (.tuple #[.agg #[.int .i64 slo, .int .i64 shi], .int .i64 0]) ∧ Below W.heap.size W w')) (HP : ∀ W, Hid (Calls Tryz.prog 43 #[.agg #[.int .i64 a1, .int .i64 a2, .int .i64 a3, .int .i64 a4, .int .i64 a5, .int .i64 a6]] W fun r w' => r = .returned (.tuple #[.agg #[.int .i64 plo, .int .i64 phi], .int .i64 0]) ∧ Below W.heap.size W w')) (HQ : ∀ W, Hid (Calls Tryz.prog 43 #[.agg #[.int .i64 b1, .int .i64 b2, .int .i64 b3, .int .i64 b4, .int .i64 b5, .int .i64 b6]] W fun r w' => r = .returned (.tuple #[.agg #[.int .i64 qlo, .int .i64 qhi], .int .i64 0]) ∧ Below W.heap.size W w')) : Calls Tryz.prog 13 #[.agg #[.int .i64 a1, .int .i64 a2, .int .i64 a3, .int .i64 a4, .int .i64 a5, .int .i64 a6], .agg #[.int .i64 b1, .int .i64 b2, .int .i64 b3, .int .i64 b4, .int .i64 b5, .int .i64 b6], .agg #[.int .i64 c1, .int .i64 c2, .int .i64 c3, .int .i64 c4, .int .i64 c5, .int .i64 c6], .int .i64 n] w fun e w' => e = .returned (.bool true) ∧ Below w.heap.size w w' := by
  go_enter Tryz.func13, Tryz.ntmps13
  go_wp2_with fail
  refine call_named (fun V => Below w.heap.size w V ∧ Hid (V.heap[w.heap.size]? = some (cellsOf ⟨a1, a2, a3, a4, a5, a6⟩)) ∧ Hid (V.heap[w.heap.size + 1]? = some (cellsOf ⟨b1, b2, b3, b4, b5, b6⟩)) ∧ Hid (V.heap[w.heap.size + 1 + 1]? = some (cellsOf ⟨c1, c2, c3, c4, c5, c6⟩))) (box_three _ _ _ _) ?_
  rintro X0 ⟨hB, K0, K1, K2⟩
  refine ((H1 _).out).mono ?_
  rintro r X1 ⟨rfl, hb⟩
  replace K0 := keepB hb K0
  replace K1 := keepB hb K1
  replace K2 := keepB hb K2
  replace hB := hB.trans (hb.mono hB.size)
  clear hb
  obtain ⟨t0_0, t0_1, t0_2, t0_3, t0_4, t0_5, t0_6, t0_7⟩ := cellsOf_at K0.out
  obtain ⟨t1_0, t1_1, t1_2, t1_3, t1_4, t1_5, t1_6, t1_7⟩ := cellsOf_at K1.out
  obtain ⟨t2_0, t2_1, t2_2, t2_3, t2_4, t2_5, t2_6, t2_7⟩ := cellsOf_at K2.out
  go_wp2_with fail
  try clear t0_0 t0_1 t0_2 t0_3 t0_4 t0_5 t0_6 t0_7 t1_0 t1_1 t1_2 t1_3 t1_4 t1_5 t1_6 t1_7 t2_0 t2_1 t2_2 t2_3 t2_4 t2_5 t2_6 t2_7
  refine ((H2 _).out).mono ?_
  rintro r X2 ⟨rfl, hb⟩
  replace K0 := keepB hb K0
  replace K1 := keepB hb K1
  replace K2 := keepB hb K2
  replace hB := hB.trans (hb.mono hB.size)
  clear hb
  obtain ⟨t0_0, t0_1, t0_2, t0_3, t0_4, t0_5, t0_6, t0_7⟩ := cellsOf_at K0.out
  obtain ⟨t1_0, t1_1, t1_2, t1_3, t1_4, t1_5, t1_6, t1_7⟩ := cellsOf_at K1.out
  obtain ⟨t2_0, t2_1, t2_2, t2_3, t2_4, t2_5, t2_6, t2_7⟩ := cellsOf_at K2.out
  go_wp2_with fail
  try clear t0_0 t0_1 t0_2 t0_3 t0_4 t0_5 t0_6 t0_7 t1_0 t1_1 t1_2 t1_3 t1_4 t1_5 t1_6 t1_7 t2_0 t2_1 t2_2 t2_3 t2_4 t2_5 t2_6 t2_7
  refine ((H3 _).out).mono ?_
  rintro r X3 ⟨rfl, hb⟩
  replace K0 := keepB hb K0
  replace K1 := keepB hb K1
  replace K2 := keepB hb K2
  replace hB := hB.trans (hb.mono hB.size)
  clear hb
  obtain ⟨t0_0, t0_1, t0_2, t0_3, t0_4, t0_5, t0_6, t0_7⟩ := cellsOf_at K0.out
  obtain ⟨t1_0, t1_1, t1_2, t1_3, t1_4, t1_5, t1_6, t1_7⟩ := cellsOf_at K1.out
  obtain ⟨t2_0, t2_1, t2_2, t2_3, t2_4, t2_5, t2_6, t2_7⟩ := cellsOf_at K2.out
  go_wp2_with fail
  try clear t0_0 t0_1 t0_2 t0_3 t0_4 t0_5 t0_6 t0_7 t1_0 t1_1 t1_2 t1_3 t1_4 t1_5 t1_6 t1_7 t2_0 t2_1 t2_2 t2_3 t2_4 t2_5 t2_6 t2_7
  refine ((H4 _).out).mono ?_
  rintro r X4 ⟨rfl, hb⟩
  replace K0 := keepB hb K0
  replace K1 := keepB hb K1
  replace K2 := keepB hb K2
  replace hB := hB.trans (hb.mono hB.size)
  clear hb
  obtain ⟨t0_0, t0_1, t0_2, t0_3, t0_4, t0_5, t0_6, t0_7⟩ := cellsOf_at K0.out
  obtain ⟨t1_0, t1_1, t1_2, t1_3, t1_4, t1_5, t1_6, t1_7⟩ := cellsOf_at K1.out
  obtain ⟨t2_0, t2_1, t2_2, t2_3, t2_4, t2_5, t2_6, t2_7⟩ := cellsOf_at K2.out
  go_wp2_with fail
  try clear t0_0 t0_1 t0_2 t0_3 t0_4 t0_5 t0_6 t0_7 t1_0 t1_1 t1_2 t1_3 t1_4 t1_5 t1_6 t1_7 t2_0 t2_1 t2_2 t2_3 t2_4 t2_5 t2_6 t2_7
  refine ((H5 _).out).mono ?_
  rintro r X5 ⟨rfl, hb⟩
  replace K0 := keepB hb K0
  replace K1 := keepB hb K1
  replace K2 := keepB hb K2
  replace hB := hB.trans (hb.mono hB.size)
  clear hb
  obtain ⟨t0_0, t0_1, t0_2, t0_3, t0_4, t0_5, t0_6, t0_7⟩ := cellsOf_at K0.out
  obtain ⟨t1_0, t1_1, t1_2, t1_3, t1_4, t1_5, t1_6, t1_7⟩ := cellsOf_at K1.out
  obtain ⟨t2_0, t2_1, t2_2, t2_3, t2_4, t2_5, t2_6, t2_7⟩ := cellsOf_at K2.out
  go_wp2_with fail
  try clear t0_0 t0_1 t0_2 t0_3 t0_4 t0_5 t0_6 t0_7 t1_0 t1_1 t1_2 t1_3 t1_4 t1_5 t1_6 t1_7 t2_0 t2_1 t2_2 t2_3 t2_4 t2_5 t2_6 t2_7
  refine ((H6 _).out).mono ?_
  rintro r X6 ⟨rfl, hb⟩
  replace K0 := keepB hb K0
  replace K1 := keepB hb K1
  replace K2 := keepB hb K2
  replace hB := hB.trans (hb.mono hB.size)
  clear hb
  obtain ⟨t0_0, t0_1, t0_2, t0_3, t0_4, t0_5, t0_6, t0_7⟩ := cellsOf_at K0.out
  obtain ⟨t1_0, t1_1, t1_2, t1_3, t1_4, t1_5, t1_6, t1_7⟩ := cellsOf_at K1.out
  obtain ⟨t2_0, t2_1, t2_2, t2_3, t2_4, t2_5, t2_6, t2_7⟩ := cellsOf_at K2.out
  go_wp2_with fail
  try clear t0_0 t0_1 t0_2 t0_3 t0_4 t0_5 t0_6 t0_7 t1_0 t1_1 t1_2 t1_3 t1_4 t1_5 t1_6 t1_7 t2_0 t2_1 t2_2 t2_3 t2_4 t2_5 t2_6 t2_7
  refine ((H7 _).out).mono ?_
  rintro r X7 ⟨rfl, hb⟩
  replace K0 := keepB hb K0
  replace K1 := keepB hb K1
  replace K2 := keepB hb K2
  replace hB := hB.trans (hb.mono hB.size)
  clear hb
  obtain ⟨t0_0, t0_1, t0_2, t0_3, t0_4, t0_5, t0_6, t0_7⟩ := cellsOf_at K0.out
  obtain ⟨t1_0, t1_1, t1_2, t1_3, t1_4, t1_5, t1_6, t1_7⟩ := cellsOf_at K1.out
  obtain ⟨t2_0, t2_1, t2_2, t2_3, t2_4, t2_5, t2_6, t2_7⟩ := cellsOf_at K2.out
  go_wp2_with fail
  try clear t0_0 t0_1 t0_2 t0_3 t0_4 t0_5 t0_6 t0_7 t1_0 t1_1 t1_2 t1_3 t1_4 t1_5 t1_6 t1_7 t2_0 t2_1 t2_2 t2_3 t2_4 t2_5 t2_6 t2_7
  refine ((H8 _).out).mono ?_
  rintro r X8 ⟨rfl, hb⟩
  replace K0 := keepB hb K0
  replace K1 := keepB hb K1
  replace K2 := keepB hb K2
  replace hB := hB.trans (hb.mono hB.size)
  clear hb
  obtain ⟨B9, hB9⟩ : ∃ b, X8.heap.size = b := ⟨_, rfl⟩
  obtain ⟨t0_0, t0_1, t0_2, t0_3, t0_4, t0_5, t0_6, t0_7⟩ := cellsOf_at K0.out
  obtain ⟨t1_0, t1_1, t1_2, t1_3, t1_4, t1_5, t1_6, t1_7⟩ := cellsOf_at K1.out
  obtain ⟨t2_0, t2_1, t2_2, t2_3, t2_4, t2_5, t2_6, t2_7⟩ := cellsOf_at K2.out
  rw [hB9] at t0_7 t1_7 t2_7
  go_wp2_with fail
  try clear t0_0 t0_1 t0_2 t0_3 t0_4 t0_5 t0_6 t0_7 t1_0 t1_1 t1_2 t1_3 t1_4 t1_5 t1_6 t1_7 t2_0 t2_1 t2_2 t2_3 t2_4 t2_5 t2_6 t2_7
  try rw [hB9]
  refine call_named (fun V => Below w.heap.size w V ∧ Hid (V.heap[w.heap.size]? = some (cellsOf ⟨a1, a2, a3, a4, a5, a6⟩)) ∧ Hid (V.heap[w.heap.size + 1]? = some (cellsOf ⟨b1, b2, b3, b4, b5, b6⟩)) ∧ Hid (V.heap[w.heap.size + 1 + 1]? = some (cellsOf ⟨c1, c2, c3, c4, c5, c6⟩)) ∧ Hid (V.heap[B9]? = some (spanOf ⟨slo, shi⟩))) ⟨xa hB _, keepA K0 _, keepA K1 _, keepA K2 _, newA _ _ _ hB9⟩ ?_
  clear hB K0 K1 K2 hB9
  rintro V9 ⟨hB, K0, K1, K2, K9⟩
  refine ((H9 _).out).mono ?_
  rintro r X10 ⟨rfl, hb⟩
  replace K0 := keepB hb K0
  replace K1 := keepB hb K1
  replace K2 := keepB hb K2
  replace K9 := keepB hb K9
  replace hB := hB.trans (hb.mono hB.size)
  clear hb
  obtain ⟨B11, hB11⟩ : ∃ b, X10.heap.size = b := ⟨_, rfl⟩
  obtain ⟨t0_0, t0_1, t0_2, t0_3, t0_4, t0_5, t0_6, t0_7⟩ := cellsOf_at K0.out
  obtain ⟨t1_0, t1_1, t1_2, t1_3, t1_4, t1_5, t1_6, t1_7⟩ := cellsOf_at K1.out
  obtain ⟨t2_0, t2_1, t2_2, t2_3, t2_4, t2_5, t2_6, t2_7⟩ := cellsOf_at K2.out
  obtain ⟨t9_0, t9_1, t9_2, t9_3⟩ := span_at' K9.out
  rw [hB11] at t0_7 t1_7 t2_7 t9_3
  go_wp2_with fail
  try clear t0_0 t0_1 t0_2 t0_3 t0_4 t0_5 t0_6 t0_7 t1_0 t1_1 t1_2 t1_3 t1_4 t1_5 t1_6 t1_7 t2_0 t2_1 t2_2 t2_3 t2_4 t2_5 t2_6 t2_7 t9_0 t9_1 t9_2 t9_3
  try rw [hB11]
  refine call_named (fun V => Below w.heap.size w V ∧ Hid (V.heap[w.heap.size]? = some (cellsOf ⟨a1, a2, a3, a4, a5, a6⟩)) ∧ Hid (V.heap[w.heap.size + 1]? = some (cellsOf ⟨b1, b2, b3, b4, b5, b6⟩)) ∧ Hid (V.heap[w.heap.size + 1 + 1]? = some (cellsOf ⟨c1, c2, c3, c4, c5, c6⟩)) ∧ Hid (V.heap[B9]? = some (spanOf ⟨slo, shi⟩)) ∧ Hid (V.heap[B11]? = some (spanOf ⟨slo, shi⟩))) ⟨xa hB _, keepA K0 _, keepA K1 _, keepA K2 _, keepA K9 _, newA _ _ _ hB11⟩ ?_
  clear hB K0 K1 K2 K9 hB11
  rintro V11 ⟨hB, K0, K1, K2, K9, K11⟩
  refine ((HP _).out).mono ?_
  rintro r X12 ⟨rfl, hb⟩
  replace K0 := keepB hb K0
  replace K1 := keepB hb K1
  replace K2 := keepB hb K2
  replace K9 := keepB hb K9
  replace K11 := keepB hb K11
  replace hB := hB.trans (hb.mono hB.size)
  clear hb
  obtain ⟨B13, hB13⟩ : ∃ b, X12.heap.size = b := ⟨_, rfl⟩
  obtain ⟨t0_0, t0_1, t0_2, t0_3, t0_4, t0_5, t0_6, t0_7⟩ := cellsOf_at K0.out
  obtain ⟨t1_0, t1_1, t1_2, t1_3, t1_4, t1_5, t1_6, t1_7⟩ := cellsOf_at K1.out
  obtain ⟨t2_0, t2_1, t2_2, t2_3, t2_4, t2_5, t2_6, t2_7⟩ := cellsOf_at K2.out
  obtain ⟨t9_0, t9_1, t9_2, t9_3⟩ := span_at' K9.out
  obtain ⟨t11_0, t11_1, t11_2, t11_3⟩ := span_at' K11.out
  rw [hB13] at t0_7 t1_7 t2_7 t9_3 t11_3
  go_wp2_with fail
  try clear t0_0 t0_1 t0_2 t0_3 t0_4 t0_5 t0_6 t0_7 t1_0 t1_1 t1_2 t1_3 t1_4 t1_5 t1_6 t1_7 t2_0 t2_1 t2_2 t2_3 t2_4 t2_5 t2_6 t2_7 t9_0 t9_1 t9_2 t9_3 t11_0 t11_1 t11_2 t11_3
  try rw [hB13]
  refine call_named (fun V => Below w.heap.size w V ∧ Hid (V.heap[w.heap.size]? = some (cellsOf ⟨a1, a2, a3, a4, a5, a6⟩)) ∧ Hid (V.heap[w.heap.size + 1]? = some (cellsOf ⟨b1, b2, b3, b4, b5, b6⟩)) ∧ Hid (V.heap[w.heap.size + 1 + 1]? = some (cellsOf ⟨c1, c2, c3, c4, c5, c6⟩)) ∧ Hid (V.heap[B9]? = some (spanOf ⟨slo, shi⟩)) ∧ Hid (V.heap[B11]? = some (spanOf ⟨slo, shi⟩)) ∧ Hid (V.heap[B13]? = some (spanOf ⟨plo, phi⟩))) ⟨xa hB _, keepA K0 _, keepA K1 _, keepA K2 _, keepA K9 _, keepA K11 _, newA _ _ _ hB13⟩ ?_
  clear hB K0 K1 K2 K9 K11 hB13
  rintro V13 ⟨hB, K0, K1, K2, K9, K11, K13⟩
  refine ((HQ _).out).mono ?_
  rintro r X14 ⟨rfl, hb⟩
  replace K0 := keepB hb K0
  replace K1 := keepB hb K1
  replace K2 := keepB hb K2
  replace K9 := keepB hb K9
  replace K11 := keepB hb K11
  replace K13 := keepB hb K13
  replace hB := hB.trans (hb.mono hB.size)
  clear hb
  obtain ⟨B15, hB15⟩ : ∃ b, X14.heap.size = b := ⟨_, rfl⟩
  obtain ⟨t0_0, t0_1, t0_2, t0_3, t0_4, t0_5, t0_6, t0_7⟩ := cellsOf_at K0.out
  obtain ⟨t1_0, t1_1, t1_2, t1_3, t1_4, t1_5, t1_6, t1_7⟩ := cellsOf_at K1.out
  obtain ⟨t2_0, t2_1, t2_2, t2_3, t2_4, t2_5, t2_6, t2_7⟩ := cellsOf_at K2.out
  obtain ⟨t9_0, t9_1, t9_2, t9_3⟩ := span_at' K9.out
  obtain ⟨t11_0, t11_1, t11_2, t11_3⟩ := span_at' K11.out
  obtain ⟨t13_0, t13_1, t13_2, t13_3⟩ := span_at' K13.out
  rw [hB15] at t0_7 t1_7 t2_7 t9_3 t11_3 t13_3
  go_wp2_with fail
  all_goals
    try clear t0_0 t0_1 t0_2 t0_3 t0_4 t0_5 t0_6 t0_7 t1_0 t1_1 t1_2 t1_3 t1_4 t1_5 t1_6 t1_7 t2_0 t2_1 t2_2 t2_3 t2_4 t2_5 t2_6 t2_7 t9_0 t9_1 t9_2 t9_3 t11_0 t11_1 t11_2 t11_3 t13_0 t13_1 t13_2 t13_3
    try rw [hB15]
    refine call_named (fun V => Below w.heap.size w V ∧ Hid (V.heap[w.heap.size]? = some (cellsOf ⟨a1, a2, a3, a4, a5, a6⟩)) ∧ Hid (V.heap[w.heap.size + 1]? = some (cellsOf ⟨b1, b2, b3, b4, b5, b6⟩)) ∧ Hid (V.heap[w.heap.size + 1 + 1]? = some (cellsOf ⟨c1, c2, c3, c4, c5, c6⟩)) ∧ Hid (V.heap[B9]? = some (spanOf ⟨slo, shi⟩)) ∧ Hid (V.heap[B11]? = some (spanOf ⟨slo, shi⟩)) ∧ Hid (V.heap[B13]? = some (spanOf ⟨plo, phi⟩)) ∧ Hid (V.heap[B15]? = some (spanOf ⟨qlo, qhi⟩))) ⟨xa hB _, keepA K0 _, keepA K1 _, keepA K2 _, keepA K9 _, keepA K11 _, keepA K13 _, newA _ _ _ hB15⟩ ?_
    clear hB K0 K1 K2 K9 K11 K13 hB15
    rintro V15 ⟨hB, K0, K1, K2, K9, K11, K13, K15⟩
    refine (c22 V15 (HE.out.below hB) (HC.out.below hB HC.out.lt)).mono ?_
    rintro r X16 ⟨rfl, hb⟩
    replace K0 := keepB hb K0
    replace K1 := keepB hb K1
    replace K2 := keepB hb K2
    replace K9 := keepB hb K9
    replace K11 := keepB hb K11
    replace K13 := keepB hb K13
    replace K15 := keepB hb K15
    replace hB := hB.trans (hb.mono hB.size)
    clear hb
    obtain ⟨t0_0, t0_1, t0_2, t0_3, t0_4, t0_5, t0_6, t0_7⟩ := cellsOf_at K0.out
    obtain ⟨t1_0, t1_1, t1_2, t1_3, t1_4, t1_5, t1_6, t1_7⟩ := cellsOf_at K1.out
    obtain ⟨t2_0, t2_1, t2_2, t2_3, t2_4, t2_5, t2_6, t2_7⟩ := cellsOf_at K2.out
    obtain ⟨t9_0, t9_1, t9_2, t9_3⟩ := span_at' K9.out
    obtain ⟨t11_0, t11_1, t11_2, t11_3⟩ := span_at' K11.out
    obtain ⟨t13_0, t13_1, t13_2, t13_3⟩ := span_at' K13.out
    obtain ⟨t15_0, t15_1, t15_2, t15_3⟩ := span_at' K15.out
    go_wp2_with fail
  all_goals go_ret
  all_goals exact ⟨ret_bool (by first | rfl | (exfalso; have := HS.out; omega) | (have := HS.out; simp; omega) | (simp_all; done)), hB⟩
end Go.Proofs.YthifeoebefbalaaGreatDoor

namespace Go.Proofs.YthifeoebefbalaaGreatDoor
open Go.RowKit

theorem dec_comm (x y : Int) : decide (x = y) = decide (y = x) := by
  by_cases h : x = y
  · rw [decide_eq_true h, decide_eq_true h.symm]
  · rw [decide_eq_false h, decide_eq_false (fun k => h k.symm)]
theorem sameOf_comm (a b : Card) : sameOf b a = sameOf a b := by
  rw [sameOf, sameOf, dec_comm b.st, dec_comm b.da, dec_comm b.dy]
theorem sameSays_comm (a b : Card) : sameSays b a = sameSays a b := by
  rw [sameSays, sameSays, dec_comm (says b).lo, dec_comm (says b).hi]
theorem alikeB_comm (a b : Card) : alikeB b a = alikeB a b := by rw [alikeB, alikeB, sameOf_comm, sameSays_comm]
theorem common_comm (s t : Sp) : common t s = common s t := by
  rw [common, common]
  congr 1
  · omega
  · omega
theorem some2_comm (a b : Card) : some2 b a = some2 a b := by rw [some2, some2, common_comm]
theorem bothR_comm (a b : Card) : bothR b a = bothR a b := by
  rw [bothR, bothR, sameOf_comm, some2_comm, common_comm, Bool.and_comm]
theorem pairE_comm (a b : Card) : pairE b a = pairE a b := by rw [pairE, pairE, Bool.and_comm]
theorem alikeB_self (a : Card) : alikeB a a = true := by simp [alikeB, sameOf, sameSays]
theorem alikeB_trans {a b c : Card} (h : alikeB a b = true) (k : alikeB b c = true) : alikeB a c = true := by
  simp only [alikeB, sameOf, sameSays, Bool.and_eq_true, decide_eq_true_eq] at *
  omega
theorem says_le {c : Card} (h : isCard c = true) : 0 ≤ (says c).lo ∧ (says c).lo ≤ (says c).hi ∧ (says c).hi ≤ 1073741824 := by
  obtain ⟨-, -, -, -, -, -, h7, h8, h9, -⟩ := isCard_true h
  unfold says
  by_cases k2 : c.ki = 2
  · rw [if_pos k2]; simp
  · rw [if_neg k2]
    by_cases k3 : c.ki = 3
    · rw [if_pos k3]; simp
    · rw [if_neg k3]
      by_cases k4 : c.ki = 4
      · rw [if_pos k4]; simp
      · rw [if_neg k4]
        obtain ⟨g1, g2, g3, g4, -⟩ := h9 (by omega)
        simp only
        omega
theorem alike_some {a b : Card} (ha : isCard a = true) (h : alikeB a b = true) : some2 a b = true := by
  have := says_le ha
  simp only [alikeB, sameOf, sameSays, Bool.and_eq_true, decide_eq_true_eq] at h
  rw [some2]
  apply decide_eq_true
  simp only [common]
  omega
theorem c45_H (a b : Card) {p : Bool} {e : Int} (hp : (isCard a && isCard b && alikeB a b) = p) (he : pairE a b = e) : ∀ W, Hid (Calls Tryz.prog 45 #[cv a, cv b] W fun r w' => r = .returned (.tuple #[.bool p, .int .i64 e]) ∧ Below W.heap.size W w') := fun W => Lib.hid (by
  have H := c45 a b W
  rw [hp, he] at H
  exact H)
theorem c47_H (a b : Card) {p : Bool} {e : Int} (hp : clashB a b = p) (he : pairE a b = e) : ∀ W, Hid (Calls Tryz.prog 47 #[cv a, cv b] W fun r w' => r = .returned (.tuple #[.bool p, .int .i64 e]) ∧ Below W.heap.size W w') := fun W => Lib.hid (by
  have H := c47_any a b W
  rw [hp, he] at H
  exact H)
theorem c48_H (a b : Card) {x y e : Int} (hp : bothR a b = (⟨x, y⟩, e)) : ∀ W, Hid (Calls Tryz.prog 48 #[cv a, cv b] W fun r w' => r = .returned (.tuple #[.agg #[.int .i64 x, .int .i64 y], .int .i64 e]) ∧ Below W.heap.size W w') := fun W => Lib.hid (by
  have H := c48 a b W
  rw [hp] at H
  exact H)
theorem c43_H (a : Card) {x y : Int} (h1 : isCard a = true) (hp : says a = ⟨x, y⟩) : ∀ W, Hid (Calls Tryz.prog 43 #[cv a] W fun r w' => r = .returned (.tuple #[.agg #[.int .i64 x, .int .i64 y], .int .i64 0]) ∧ Below W.heap.size W w') := fun W => Lib.hid (by
  have H := c43 a W h1
  rw [hp] at H
  exact H)
theorem pair_ok {a b : Card} (ha : isCard a = true) (hb : isCard b = true) : pairE a b = 0 := by rw [pairE, ha, hb]; rfl
theorem pair_al {a b : Card} (ha : isCard a = true) (hb : isCard b = true) : (isCard a && isCard b && alikeB a b) = alikeB a b := by rw [ha, hb]; rfl
theorem pair_cl {a b : Card} (ha : isCard a = true) (hb : isCard b = true) : clashB a b = (sameOf a b && !some2 a b) := by rw [clashB, ha, hb]; rfl

theorem c13 (a1 a2 a3 a4 a5 a6 b1 b2 b3 b4 b5 b6 c1 c2 c3 c4 c5 c6 n : Int) (w : World) (hE : Env w) (hC : Cell0 w) : Calls Tryz.prog 13 #[.agg #[.int .i64 a1, .int .i64 a2, .int .i64 a3, .int .i64 a4, .int .i64 a5, .int .i64 a6], .agg #[.int .i64 b1, .int .i64 b2, .int .i64 b3, .int .i64 b4, .int .i64 b5, .int .i64 b6], .agg #[.int .i64 c1, .int .i64 c2, .int .i64 c3, .int .i64 c4, .int .i64 c5, .int .i64 c6], .int .i64 n] w fun e w' => e = .returned (.bool true) ∧ Below w.heap.size w w' := by
  have HE := Lib.hid hE
  have HC := Lib.hid hC
  clear hE hC
  by_cases hab : isCard ⟨a1, a2, a3, a4, a5, a6⟩ = true ∧ isCard ⟨b1, b2, b3, b4, b5, b6⟩ = true
  · obtain ⟨ha, hb⟩ := hab
    by_cases hc : isCard ⟨c1, c2, c3, c4, c5, c6⟩ = true
    · have K1 := c45_H ⟨a1, a2, a3, a4, a5, a6⟩ ⟨b1, b2, b3, b4, b5, b6⟩ (pair_al ha hb) (pair_ok ha hb)
      have K2 := c45_H ⟨b1, b2, b3, b4, b5, b6⟩ ⟨a1, a2, a3, a4, a5, a6⟩ ((pair_al hb ha).trans (alikeB_comm _ _)) (pair_ok hb ha)
      have K3 := c45_H ⟨b1, b2, b3, b4, b5, b6⟩ ⟨c1, c2, c3, c4, c5, c6⟩ (pair_al hb hc) (pair_ok hb hc)
      have K4 := c45_H ⟨a1, a2, a3, a4, a5, a6⟩ ⟨c1, c2, c3, c4, c5, c6⟩ (pair_al ha hc) (pair_ok ha hc)
      have K5 := c45_H ⟨a1, a2, a3, a4, a5, a6⟩ ⟨a1, a2, a3, a4, a5, a6⟩ ((pair_al ha ha).trans (alikeB_self _)) (pair_ok ha ha)
      have K6 := c47_H ⟨a1, a2, a3, a4, a5, a6⟩ ⟨b1, b2, b3, b4, b5, b6⟩ (pair_cl ha hb) (pair_ok ha hb)
      have K7 := c47_H ⟨b1, b2, b3, b4, b5, b6⟩ ⟨a1, a2, a3, a4, a5, a6⟩ ((pair_cl hb ha).trans (by rw [sameOf_comm, some2_comm])) (pair_ok hb ha)
      obtain ⟨⟨plo, phi⟩, hp⟩ : ∃ s, says ⟨a1, a2, a3, a4, a5, a6⟩ = s := ⟨_, rfl⟩
      obtain ⟨⟨qlo, qhi⟩, hq⟩ : ∃ s, says ⟨b1, b2, b3, b4, b5, b6⟩ = s := ⟨_, rfl⟩
      have KP := c43_H ⟨a1, a2, a3, a4, a5, a6⟩ ha hp
      have KQ := c43_H ⟨b1, b2, b3, b4, b5, b6⟩ hb hq
      have hst := @alike_some ⟨a1, a2, a3, a4, a5, a6⟩ ⟨b1, b2, b3, b4, b5, b6⟩ ha
      have htr := @alikeB_trans ⟨a1, a2, a3, a4, a5, a6⟩ ⟨b1, b2, b3, b4, b5, b6⟩ ⟨c1, c2, c3, c4, c5, c6⟩
      have hcm : common (says ⟨a1, a2, a3, a4, a5, a6⟩) (says ⟨b1, b2, b3, b4, b5, b6⟩) = ⟨max plo qlo, min phi qhi⟩ := by rw [hp, hq]; rfl
      have hab0 : alikeB ⟨a1, a2, a3, a4, a5, a6⟩ ⟨b1, b2, b3, b4, b5, b6⟩ = true → sameOf ⟨a1, a2, a3, a4, a5, a6⟩ ⟨b1, b2, b3, b4, b5, b6⟩ = true := fun h => by rw [alikeB, Bool.and_eq_true] at h; exact h.1
      have hsm : some2 ⟨a1, a2, a3, a4, a5, a6⟩ ⟨b1, b2, b3, b4, b5, b6⟩ = decide (max plo qlo ≤ min phi qhi) := by rw [some2, hcm]
      cases hs : sameOf ⟨a1, a2, a3, a4, a5, a6⟩ ⟨b1, b2, b3, b4, b5, b6⟩ with
      | false =>
        have hal : alikeB ⟨a1, a2, a3, a4, a5, a6⟩ ⟨b1, b2, b3, b4, b5, b6⟩ = false := by rw [alikeB, hs]; rfl
        have hbo : bothR ⟨a1, a2, a3, a4, a5, a6⟩ ⟨b1, b2, b3, b4, b5, b6⟩ = (⟨0, 0⟩, 5) := by rw [bothR, ha, hb, hs]; rfl
        rw [hal] at K1 K2
        rw [hs] at K6 K7
        exact c13_5 (n := n) (HE := HE) (HC := HC) (H1 := K1) (H2 := K2) (H3 := K3) (H4 := K4) (H5 := K5) (H6 := K6) (H7 := K7) (H8 := c48_H ⟨a1, a2, a3, a4, a5, a6⟩ ⟨b1, b2, b3, b4, b5, b6⟩ hbo) (H9 := c48_H ⟨b1, b2, b3, b4, b5, b6⟩ ⟨a1, a2, a3, a4, a5, a6⟩ ((bothR_comm ⟨a1, a2, a3, a4, a5, a6⟩ ⟨b1, b2, b3, b4, b5, b6⟩).trans hbo)) (HP := KP) (HQ := KQ)
      | true =>
        rw [hs] at K6 K7
        cases hm : some2 ⟨a1, a2, a3, a4, a5, a6⟩ ⟨b1, b2, b3, b4, b5, b6⟩ with
        | false =>
          rw [hm] at K6 K7
          have hal : alikeB ⟨a1, a2, a3, a4, a5, a6⟩ ⟨b1, b2, b3, b4, b5, b6⟩ = false := by
            cases h : alikeB ⟨a1, a2, a3, a4, a5, a6⟩ ⟨b1, b2, b3, b4, b5, b6⟩ with
            | false => rfl
            | true => rw [hst h] at hm; cases hm
          have hbo : bothR ⟨a1, a2, a3, a4, a5, a6⟩ ⟨b1, b2, b3, b4, b5, b6⟩ = (⟨0, 0⟩, 9) := by rw [bothR, ha, hb, hs, hm]; rfl
          rw [hal] at K1 K2
          rw [hsm] at hm
          exact c13_9 (n := n) (plo := plo) (phi := phi) (qlo := qlo) (qhi := qhi) (HE := HE) (HC := HC) (HS := Lib.hid (by have := of_decide_eq_false hm; omega)) (H1 := K1) (H2 := K2) (H3 := K3) (H4 := K4) (H5 := K5) (H6 := K6) (H7 := K7) (H8 := c48_H ⟨a1, a2, a3, a4, a5, a6⟩ ⟨b1, b2, b3, b4, b5, b6⟩ hbo) (H9 := c48_H ⟨b1, b2, b3, b4, b5, b6⟩ ⟨a1, a2, a3, a4, a5, a6⟩ ((bothR_comm ⟨a1, a2, a3, a4, a5, a6⟩ ⟨b1, b2, b3, b4, b5, b6⟩).trans hbo)) (HP := KP) (HQ := KQ)
        | true =>
          rw [hm] at K6 K7
          have hbo : bothR ⟨a1, a2, a3, a4, a5, a6⟩ ⟨b1, b2, b3, b4, b5, b6⟩ = (⟨max plo qlo, min phi qhi⟩, 0) := by rw [bothR, ha, hb, hs, hm, hcm]; rfl
          cases h1 : alikeB ⟨a1, a2, a3, a4, a5, a6⟩ ⟨b1, b2, b3, b4, b5, b6⟩ with
          | false =>
            rw [h1] at K1 K2
            exact c13_0f (n := n) (HE := HE) (HC := HC) (HS := Lib.hid ⟨rfl, rfl⟩) (H1 := K1) (H2 := K2) (H3 := K3) (H4 := K4) (H5 := K5) (H6 := K6) (H7 := K7) (H8 := c48_H ⟨a1, a2, a3, a4, a5, a6⟩ ⟨b1, b2, b3, b4, b5, b6⟩ hbo) (H9 := c48_H ⟨b1, b2, b3, b4, b5, b6⟩ ⟨a1, a2, a3, a4, a5, a6⟩ ((bothR_comm ⟨a1, a2, a3, a4, a5, a6⟩ ⟨b1, b2, b3, b4, b5, b6⟩).trans hbo)) (HP := KP) (HQ := KQ)
          | true =>
            rw [h1] at K1 K2
            cases h2 : alikeB ⟨b1, b2, b3, b4, b5, b6⟩ ⟨c1, c2, c3, c4, c5, c6⟩ with
            | false =>
              rw [h2] at K3
              exact c13_0tf (n := n) (bc := false) (HE := HE) (HC := HC) (HS := Lib.hid ⟨rfl, rfl⟩) (H1 := K1) (H2 := K2) (H3 := K3) (H4 := K4) (H5 := K5) (H6 := K6) (H7 := K7) (H8 := c48_H ⟨a1, a2, a3, a4, a5, a6⟩ ⟨b1, b2, b3, b4, b5, b6⟩ hbo) (H9 := c48_H ⟨b1, b2, b3, b4, b5, b6⟩ ⟨a1, a2, a3, a4, a5, a6⟩ ((bothR_comm ⟨a1, a2, a3, a4, a5, a6⟩ ⟨b1, b2, b3, b4, b5, b6⟩).trans hbo)) (HP := KP) (HQ := KQ)
            | true =>
              rw [h2] at K3
              rw [htr h1 h2] at K4
              exact c13_0tt (n := n) (bc := false) (ac := false) (HE := HE) (HC := HC) (HS := Lib.hid ⟨rfl, rfl⟩) (H1 := K1) (H2 := K2) (H3 := K3) (H4 := K4) (H5 := K5) (H6 := K6) (H7 := K7) (H8 := c48_H ⟨a1, a2, a3, a4, a5, a6⟩ ⟨b1, b2, b3, b4, b5, b6⟩ hbo) (H9 := c48_H ⟨b1, b2, b3, b4, b5, b6⟩ ⟨a1, a2, a3, a4, a5, a6⟩ ((bothR_comm ⟨a1, a2, a3, a4, a5, a6⟩ ⟨b1, b2, b3, b4, b5, b6⟩).trans hbo)) (HP := KP) (HQ := KQ)
    · exact c13_g (n := n) (g := 0) (HE := HE) (HC := HC) (H1 := c45_H ⟨a1, a2, a3, a4, a5, a6⟩ ⟨b1, b2, b3, b4, b5, b6⟩ rfl (pair_ok ha hb)) (H2 := c45_H ⟨b1, b2, b3, b4, b5, b6⟩ ⟨a1, a2, a3, a4, a5, a6⟩ rfl (pair_ok hb ha)) (H3 := c45_H ⟨b1, b2, b3, b4, b5, b6⟩ ⟨c1, c2, c3, c4, c5, c6⟩ rfl (by rw [pairE, hb]; simp [hc])) (H4 := c45_H ⟨a1, a2, a3, a4, a5, a6⟩ ⟨c1, c2, c3, c4, c5, c6⟩ rfl rfl) (H5 := c45_H ⟨a1, a2, a3, a4, a5, a6⟩ ⟨a1, a2, a3, a4, a5, a6⟩ rfl rfl)
  · have hn : pairE ⟨a1, a2, a3, a4, a5, a6⟩ ⟨b1, b2, b3, b4, b5, b6⟩ = 1 := by rw [pairE, if_neg (by rw [Bool.and_eq_true]; exact hab)]
    exact c13_e (n := n) (HE := HE) (HC := HC) (H1 := c45_H ⟨a1, a2, a3, a4, a5, a6⟩ ⟨b1, b2, b3, b4, b5, b6⟩ rfl hn) (H2 := c45_H ⟨b1, b2, b3, b4, b5, b6⟩ ⟨a1, a2, a3, a4, a5, a6⟩ rfl ((pairE_comm _ _).trans hn)) (H3 := c45_H ⟨b1, b2, b3, b4, b5, b6⟩ ⟨c1, c2, c3, c4, c5, c6⟩ rfl rfl) (H4 := c45_H ⟨a1, a2, a3, a4, a5, a6⟩ ⟨c1, c2, c3, c4, c5, c6⟩ rfl rfl) (H5 := c45_H ⟨a1, a2, a3, a4, a5, a6⟩ ⟨a1, a2, a3, a4, a5, a6⟩ rfl rfl)
theorem w13 (a1 a2 a3 a4 a5 a6 b1 b2 b3 b4 b5 b6 c1 c2 c3 c4 c5 c6 n : Int) (w : World) (_ : intIn a1) (_ : intIn a2) (_ : intIn a3) (_ : intIn a4) (_ : intIn a5) (_ : intIn a6) (_ : intIn b1) (_ : intIn b2) (_ : intIn b3) (_ : intIn b4) (_ : intIn b5) (_ : intIn b6) (_ : intIn c1) (_ : intIn c2) (_ : intIn c3) (_ : intIn c4) (_ : intIn c5) (_ : intIn c6) (_ : intIn n) (hE : Env w) (hC : Cell0 w) : Calls Tryz.prog 13 #[.agg #[.int .i64 a1, .int .i64 a2, .int .i64 a3, .int .i64 a4, .int .i64 a5, .int .i64 a6], .agg #[.int .i64 b1, .int .i64 b2, .int .i64 b3, .int .i64 b4, .int .i64 b5, .int .i64 b6], .agg #[.int .i64 c1, .int .i64 c2, .int .i64 c3, .int .i64 c4, .int .i64 c5, .int .i64 c6], .int .i64 n] w fun e w' => e = .returned (.bool true) ∧ Below w.heap.size w w' := c13 a1 a2 a3 a4 a5 a6 b1 b2 b3 b4 b5 b6 c1 c2 c3 c4 c5 c6 n w hE hC
end Go.Proofs.YthifeoebefbalaaGreatDoor
