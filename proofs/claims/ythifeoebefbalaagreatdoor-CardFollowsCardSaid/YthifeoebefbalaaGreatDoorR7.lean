/- The law CardFollows: the walk. -/
import Derived.Test.YthifeoebefbalaaGreatDoorZ20
namespace Go.Proofs.YthifeoebefbalaaGreatDoor
open Go.RowKit

theorem wp_named {P : Program} {c : Code} {a : Act} {W : World} {Q : Exit → Act → World → Prop} (F : World → Prop) (h : F W) (k : ∀ V, F V → c.wp P Q a V) : c.wp P Q a W := k W h
set_option maxRecDepth 100000 in
set_option maxHeartbeats 8000000 in
theorem c16_e (a1 a2 a3 a4 a5 a6 b1 b2 b3 b4 b5 b6 c1 c2 c3 c4 c5 c6 n f : Int) (ab bc : Bool) (w : World) (HE : Hid (Env w)) (HC : Hid (Cell0 w)) (H1 : ∀ W, Hid (Calls Tryz.prog 49 #[.agg #[.int .i64 a1, .int .i64 a2, .int .i64 a3, .int .i64 a4, .int .i64 a5, .int .i64 a6], .agg #[.int .i64 b1, .int .i64 b2, .int .i64 b3, .int .i64 b4, .int .i64 b5, .int .i64 b6]] W fun r w' => r = .returned (.tuple #[.bool ab, .int .i64 1]) ∧ Below W.heap.size W w')) (H2 : ∀ W, Hid (Calls Tryz.prog 49 #[.agg #[.int .i64 b1, .int .i64 b2, .int .i64 b3, .int .i64 b4, .int .i64 b5, .int .i64 b6], .agg #[.int .i64 c1, .int .i64 c2, .int .i64 c3, .int .i64 c4, .int .i64 c5, .int .i64 c6]] W fun r w' => r = .returned (.tuple #[.bool bc, .int .i64 f]) ∧ Below W.heap.size W w')) : Calls Tryz.prog 16 #[.agg #[.int .i64 a1, .int .i64 a2, .int .i64 a3, .int .i64 a4, .int .i64 a5, .int .i64 a6], .agg #[.int .i64 b1, .int .i64 b2, .int .i64 b3, .int .i64 b4, .int .i64 b5, .int .i64 b6], .agg #[.int .i64 c1, .int .i64 c2, .int .i64 c3, .int .i64 c4, .int .i64 c5, .int .i64 c6], .int .i64 n] w fun e w' => e = .returned (.bool true) ∧ Below w.heap.size w w' := by
  go_enter Tryz.func16, Tryz.ntmps16
  go_wp2_with fail
  refine call_named (fun V => Below w.heap.size w V ∧ Hid (V.heap[w.heap.size]? = some (cellsOf ⟨a1, a2, a3, a4, a5, a6⟩)) ∧ Hid (V.heap[w.heap.size + 1]? = some (cellsOf ⟨b1, b2, b3, b4, b5, b6⟩)) ∧ Hid (V.heap[w.heap.size + 1 + 1]? = some (cellsOf ⟨c1, c2, c3, c4, c5, c6⟩))) (box_three _ _ _ _) ?_
  rintro X0 ⟨hB, K0, K1, K2⟩
  refine ((H1 _).out).mono ?_
  rintro r X1 ⟨rfl, hb⟩
  replace K0 := keepB hb K0
  replace K1 := keepB hb K1
  replace K2 := keepB hb K2
  replace hB := hB.trans (hb.mono hB.size)
  clear hb
  obtain ⟨t0_0, t0_1, t0_2, t0_3, t0_4, t0_5, t0_6, t0_7⟩ := cellsOf_at K0.out
  obtain ⟨t1_0, t1_1, t1_2, t1_3, t1_4, t1_5, t1_6, t1_7⟩ := cellsOf_at K1.out
  obtain ⟨t2_0, t2_1, t2_2, t2_3, t2_4, t2_5, t2_6, t2_7⟩ := cellsOf_at K2.out
  go_wp2_with fail
  try clear t0_0 t0_1 t0_2 t0_3 t0_4 t0_5 t0_6 t0_7 t1_0 t1_1 t1_2 t1_3 t1_4 t1_5 t1_6 t1_7 t2_0 t2_1 t2_2 t2_3 t2_4 t2_5 t2_6 t2_7
  refine ((H2 _).out).mono ?_
  rintro r X2 ⟨rfl, hb⟩
  replace K0 := keepB hb K0
  replace K1 := keepB hb K1
  replace K2 := keepB hb K2
  replace hB := hB.trans (hb.mono hB.size)
  clear hb
  obtain ⟨t0_0, t0_1, t0_2, t0_3, t0_4, t0_5, t0_6, t0_7⟩ := cellsOf_at K0.out
  obtain ⟨t1_0, t1_1, t1_2, t1_3, t1_4, t1_5, t1_6, t1_7⟩ := cellsOf_at K1.out
  obtain ⟨t2_0, t2_1, t2_2, t2_3, t2_4, t2_5, t2_6, t2_7⟩ := cellsOf_at K2.out
  go_wp2_with fail
  try clear t0_0 t0_1 t0_2 t0_3 t0_4 t0_5 t0_6 t0_7 t1_0 t1_1 t1_2 t1_3 t1_4 t1_5 t1_6 t1_7 t2_0 t2_1 t2_2 t2_3 t2_4 t2_5 t2_6 t2_7
  refine (c22 X2 (HE.out.below hB) (HC.out.below hB HC.out.lt)).mono ?_
  rintro r X3 ⟨rfl, hb⟩
  replace K0 := keepB hb K0
  replace K1 := keepB hb K1
  replace K2 := keepB hb K2
  replace hB := hB.trans (hb.mono hB.size)
  clear hb
  obtain ⟨t0_0, t0_1, t0_2, t0_3, t0_4, t0_5, t0_6, t0_7⟩ := cellsOf_at K0.out
  obtain ⟨t1_0, t1_1, t1_2, t1_3, t1_4, t1_5, t1_6, t1_7⟩ := cellsOf_at K1.out
  obtain ⟨t2_0, t2_1, t2_2, t2_3, t2_4, t2_5, t2_6, t2_7⟩ := cellsOf_at K2.out
  go_wp2_with fail
  go_ret
  exact ⟨rfl, hB⟩
set_option maxRecDepth 100000 in
set_option maxHeartbeats 8000000 in
theorem c16_f (a1 a2 a3 a4 a5 a6 b1 b2 b3 b4 b5 b6 c1 c2 c3 c4 c5 c6 n : Int) (ab bc : Bool) (w : World) (HE : Hid (Env w)) (HC : Hid (Cell0 w)) (H1 : ∀ W, Hid (Calls Tryz.prog 49 #[.agg #[.int .i64 a1, .int .i64 a2, .int .i64 a3, .int .i64 a4, .int .i64 a5, .int .i64 a6], .agg #[.int .i64 b1, .int .i64 b2, .int .i64 b3, .int .i64 b4, .int .i64 b5, .int .i64 b6]] W fun r w' => r = .returned (.tuple #[.bool ab, .int .i64 0]) ∧ Below W.heap.size W w')) (H2 : ∀ W, Hid (Calls Tryz.prog 49 #[.agg #[.int .i64 b1, .int .i64 b2, .int .i64 b3, .int .i64 b4, .int .i64 b5, .int .i64 b6], .agg #[.int .i64 c1, .int .i64 c2, .int .i64 c3, .int .i64 c4, .int .i64 c5, .int .i64 c6]] W fun r w' => r = .returned (.tuple #[.bool bc, .int .i64 1]) ∧ Below W.heap.size W w')) : Calls Tryz.prog 16 #[.agg #[.int .i64 a1, .int .i64 a2, .int .i64 a3, .int .i64 a4, .int .i64 a5, .int .i64 a6], .agg #[.int .i64 b1, .int .i64 b2, .int .i64 b3, .int .i64 b4, .int .i64 b5, .int .i64 b6], .agg #[.int .i64 c1, .int .i64 c2, .int .i64 c3, .int .i64 c4, .int .i64 c5, .int .i64 c6], .int .i64 n] w fun e w' => e = .returned (.bool true) ∧ Below w.heap.size w w' := by
  go_enter Tryz.func16, Tryz.ntmps16
  go_wp2_with fail
  refine call_named (fun V => Below w.heap.size w V ∧ Hid (V.heap[w.heap.size]? = some (cellsOf ⟨a1, a2, a3, a4, a5, a6⟩)) ∧ Hid (V.heap[w.heap.size + 1]? = some (cellsOf ⟨b1, b2, b3, b4, b5, b6⟩)) ∧ Hid (V.heap[w.heap.size + 1 + 1]? = some (cellsOf ⟨c1, c2, c3, c4, c5, c6⟩))) (box_three _ _ _ _) ?_
  rintro X0 ⟨hB, K0, K1, K2⟩
  refine ((H1 _).out).mono ?_
  rintro r X1 ⟨rfl, hb⟩
  replace K0 := keepB hb K0
  replace K1 := keepB hb K1
  replace K2 := keepB hb K2
  replace hB := hB.trans (hb.mono hB.size)
  clear hb
  obtain ⟨t0_0, t0_1, t0_2, t0_3, t0_4, t0_5, t0_6, t0_7⟩ := cellsOf_at K0.out
  obtain ⟨t1_0, t1_1, t1_2, t1_3, t1_4, t1_5, t1_6, t1_7⟩ := cellsOf_at K1.out
  obtain ⟨t2_0, t2_1, t2_2, t2_3, t2_4, t2_5, t2_6, t2_7⟩ := cellsOf_at K2.out
  go_wp2_with fail
  try clear t0_0 t0_1 t0_2 t0_3 t0_4 t0_5 t0_6 t0_7 t1_0 t1_1 t1_2 t1_3 t1_4 t1_5 t1_6 t1_7 t2_0 t2_1 t2_2 t2_3 t2_4 t2_5 t2_6 t2_7
  refine ((H2 _).out).mono ?_
  rintro r X2 ⟨rfl, hb⟩
  replace K0 := keepB hb K0
  replace K1 := keepB hb K1
  replace K2 := keepB hb K2
  replace hB := hB.trans (hb.mono hB.size)
  clear hb
  obtain ⟨t0_0, t0_1, t0_2, t0_3, t0_4, t0_5, t0_6, t0_7⟩ := cellsOf_at K0.out
  obtain ⟨t1_0, t1_1, t1_2, t1_3, t1_4, t1_5, t1_6, t1_7⟩ := cellsOf_at K1.out
  obtain ⟨t2_0, t2_1, t2_2, t2_3, t2_4, t2_5, t2_6, t2_7⟩ := cellsOf_at K2.out
  go_wp2_with fail
  try clear t0_0 t0_1 t0_2 t0_3 t0_4 t0_5 t0_6 t0_7 t1_0 t1_1 t1_2 t1_3 t1_4 t1_5 t1_6 t1_7 t2_0 t2_1 t2_2 t2_3 t2_4 t2_5 t2_6 t2_7
  refine (c22 X2 (HE.out.below hB) (HC.out.below hB HC.out.lt)).mono ?_
  rintro r X3 ⟨rfl, hb⟩
  replace K0 := keepB hb K0
  replace K1 := keepB hb K1
  replace K2 := keepB hb K2
  replace hB := hB.trans (hb.mono hB.size)
  clear hb
  obtain ⟨t0_0, t0_1, t0_2, t0_3, t0_4, t0_5, t0_6, t0_7⟩ := cellsOf_at K0.out
  obtain ⟨t1_0, t1_1, t1_2, t1_3, t1_4, t1_5, t1_6, t1_7⟩ := cellsOf_at K1.out
  obtain ⟨t2_0, t2_1, t2_2, t2_3, t2_4, t2_5, t2_6, t2_7⟩ := cellsOf_at K2.out
  go_wp2_with fail
  go_ret
  exact ⟨rfl, hB⟩
set_option maxRecDepth 100000 in
set_option maxHeartbeats 8000000 in
theorem c16_n (a1 a2 a3 a4 a5 a6 b1 b2 b3 b4 b5 b6 c1 c2 c3 c4 c5 c6 n : Int) (ab bc : Bool) (w : World) (HE : Hid (Env w)) (HC : Hid (Cell0 w)) (H1 : ∀ W, Hid (Calls Tryz.prog 49 #[.agg #[.int .i64 a1, .int .i64 a2, .int .i64 a3, .int .i64 a4, .int .i64 a5, .int .i64 a6], .agg #[.int .i64 b1, .int .i64 b2, .int .i64 b3, .int .i64 b4, .int .i64 b5, .int .i64 b6]] W fun r w' => r = .returned (.tuple #[.bool false, .int .i64 0]) ∧ Below W.heap.size W w')) (H2 : ∀ W, Hid (Calls Tryz.prog 49 #[.agg #[.int .i64 b1, .int .i64 b2, .int .i64 b3, .int .i64 b4, .int .i64 b5, .int .i64 b6], .agg #[.int .i64 c1, .int .i64 c2, .int .i64 c3, .int .i64 c4, .int .i64 c5, .int .i64 c6]] W fun r w' => r = .returned (.tuple #[.bool bc, .int .i64 0]) ∧ Below W.heap.size W w')) : Calls Tryz.prog 16 #[.agg #[.int .i64 a1, .int .i64 a2, .int .i64 a3, .int .i64 a4, .int .i64 a5, .int .i64 a6], .agg #[.int .i64 b1, .int .i64 b2, .int .i64 b3, .int .i64 b4, .int .i64 b5, .int .i64 b6], .agg #[.int .i64 c1, .int .i64 c2, .int .i64 c3, .int .i64 c4, .int .i64 c5, .int .i64 c6], .int .i64 n] w fun e w' => e = .returned (.bool true) ∧ Below w.heap.size w w' := by
  go_enter Tryz.func16, Tryz.ntmps16
  go_wp2_with fail
  refine call_named (fun V => Below w.heap.size w V ∧ Hid (V.heap[w.heap.size]? = some (cellsOf ⟨a1, a2, a3, a4, a5, a6⟩)) ∧ Hid (V.heap[w.heap.size + 1]? = some (cellsOf ⟨b1, b2, b3, b4, b5, b6⟩)) ∧ Hid (V.heap[w.heap.size + 1 + 1]? = some (cellsOf ⟨c1, c2, c3, c4, c5, c6⟩))) (box_three _ _ _ _) ?_
  rintro X0 ⟨hB, K0, K1, K2⟩
  refine ((H1 _).out).mono ?_
  rintro r X1 ⟨rfl, hb⟩
  replace K0 := keepB hb K0
  replace K1 := keepB hb K1
  replace K2 := keepB hb K2
  replace hB := hB.trans (hb.mono hB.size)
  clear hb
  obtain ⟨t0_0, t0_1, t0_2, t0_3, t0_4, t0_5, t0_6, t0_7⟩ := cellsOf_at K0.out
  obtain ⟨t1_0, t1_1, t1_2, t1_3, t1_4, t1_5, t1_6, t1_7⟩ := cellsOf_at K1.out
  obtain ⟨t2_0, t2_1, t2_2, t2_3, t2_4, t2_5, t2_6, t2_7⟩ := cellsOf_at K2.out
  go_wp2_with fail
  try clear t0_0 t0_1 t0_2 t0_3 t0_4 t0_5 t0_6 t0_7 t1_0 t1_1 t1_2 t1_3 t1_4 t1_5 t1_6 t1_7 t2_0 t2_1 t2_2 t2_3 t2_4 t2_5 t2_6 t2_7
  refine ((H2 _).out).mono ?_
  rintro r X2 ⟨rfl, hb⟩
  replace K0 := keepB hb K0
  replace K1 := keepB hb K1
  replace K2 := keepB hb K2
  replace hB := hB.trans (hb.mono hB.size)
  clear hb
  obtain ⟨t0_0, t0_1, t0_2, t0_3, t0_4, t0_5, t0_6, t0_7⟩ := cellsOf_at K0.out
  obtain ⟨t1_0, t1_1, t1_2, t1_3, t1_4, t1_5, t1_6, t1_7⟩ := cellsOf_at K1.out
  obtain ⟨t2_0, t2_1, t2_2, t2_3, t2_4, t2_5, t2_6, t2_7⟩ := cellsOf_at K2.out
  go_wp2_with fail
  try clear t0_0 t0_1 t0_2 t0_3 t0_4 t0_5 t0_6 t0_7 t1_0 t1_1 t1_2 t1_3 t1_4 t1_5 t1_6 t1_7 t2_0 t2_1 t2_2 t2_3 t2_4 t2_5 t2_6 t2_7
  refine (c22 X2 (HE.out.below hB) (HC.out.below hB HC.out.lt)).mono ?_
  rintro r X3 ⟨rfl, hb⟩
  replace K0 := keepB hb K0
  replace K1 := keepB hb K1
  replace K2 := keepB hb K2
  replace hB := hB.trans (hb.mono hB.size)
  clear hb
  obtain ⟨t0_0, t0_1, t0_2, t0_3, t0_4, t0_5, t0_6, t0_7⟩ := cellsOf_at K0.out
  obtain ⟨t1_0, t1_1, t1_2, t1_3, t1_4, t1_5, t1_6, t1_7⟩ := cellsOf_at K1.out
  obtain ⟨t2_0, t2_1, t2_2, t2_3, t2_4, t2_5, t2_6, t2_7⟩ := cellsOf_at K2.out
  go_wp2_with fail
  go_ret
  exact ⟨rfl, hB⟩
set_option maxRecDepth 100000 in
set_option maxHeartbeats 8000000 in
theorem c16_yf (a1 a2 a3 a4 a5 a6 b1 b2 b3 b4 b5 b6 c1 c2 c3 c4 c5 c6 n x1 x2 pl ph qh : Int) (w : World) (p1 : 0 ≤ ph) (p2 : ph ≤ 60000) (HE : Hid (Env w)) (HC : Hid (Cell0 w)) (H1 : ∀ W, Hid (Calls Tryz.prog 49 #[.agg #[.int .i64 a1, .int .i64 a2, .int .i64 a3, .int .i64 a4, .int .i64 a5, .int .i64 a6], .agg #[.int .i64 b1, .int .i64 b2, .int .i64 b3, .int .i64 b4, .int .i64 b5, .int .i64 b6]] W fun r w' => r = .returned (.tuple #[.bool true, .int .i64 0]) ∧ Below W.heap.size W w')) (H2 : ∀ W, Hid (Calls Tryz.prog 49 #[.agg #[.int .i64 b1, .int .i64 b2, .int .i64 b3, .int .i64 b4, .int .i64 b5, .int .i64 b6], .agg #[.int .i64 c1, .int .i64 c2, .int .i64 c3, .int .i64 c4, .int .i64 c5, .int .i64 c6]] W fun r w' => r = .returned (.tuple #[.bool false, .int .i64 0]) ∧ Below W.heap.size W w')) (H3 : ∀ W, Hid (Calls Tryz.prog 50 #[.agg #[.int .i64 a1, .int .i64 a2, .int .i64 a3, .int .i64 a4, .int .i64 a5, .int .i64 a6], .agg #[.int .i64 b1, .int .i64 b2, .int .i64 b3, .int .i64 b4, .int .i64 b5, .int .i64 b6]] W fun r w' => r = .returned (.tuple #[.agg #[.int .i64 x1, .int .i64 x2], .int .i64 0]) ∧ Below W.heap.size W w')) (H4 : ∀ W, Hid (Calls Tryz.prog 58 #[.int .i64 a2, .int .i64 a3, .int .i64 n] W fun r w' => r = .returned (.tuple #[.agg #[.int .i64 pl, .int .i64 ph], .int .i64 0]) ∧ Below W.heap.size W w')) (H5 : ∀ W, Hid (Calls Tryz.prog 58 #[.int .i64 b2, .int .i64 b3, .int .i64 n] W fun r w' => r = .returned (.tuple #[.agg #[.int .i64 (ph + 1), .int .i64 qh], .int .i64 0]) ∧ Below W.heap.size W w')) : Calls Tryz.prog 16 #[.agg #[.int .i64 a1, .int .i64 a2, .int .i64 a3, .int .i64 a4, .int .i64 a5, .int .i64 a6], .agg #[.int .i64 b1, .int .i64 b2, .int .i64 b3, .int .i64 b4, .int .i64 b5, .int .i64 b6], .agg #[.int .i64 c1, .int .i64 c2, .int .i64 c3, .int .i64 c4, .int .i64 c5, .int .i64 c6], .int .i64 n] w fun e w' => e = .returned (.bool true) ∧ Below w.heap.size w w' := by
  go_enter Tryz.func16, Tryz.ntmps16
  go_wp2_with fail
  refine call_named (fun V => Below w.heap.size w V ∧ Hid (V.heap[w.heap.size]? = some (cellsOf ⟨a1, a2, a3, a4, a5, a6⟩)) ∧ Hid (V.heap[w.heap.size + 1]? = some (cellsOf ⟨b1, b2, b3, b4, b5, b6⟩)) ∧ Hid (V.heap[w.heap.size + 1 + 1]? = some (cellsOf ⟨c1, c2, c3, c4, c5, c6⟩))) (box_three _ _ _ _) ?_
  rintro X0 ⟨hB, K0, K1, K2⟩
  refine ((H1 _).out).mono ?_
  rintro r X1 ⟨rfl, hb⟩
  replace K0 := keepB hb K0
  replace K1 := keepB hb K1
  replace K2 := keepB hb K2
  replace hB := hB.trans (hb.mono hB.size)
  clear hb
  obtain ⟨t0_0, t0_1, t0_2, t0_3, t0_4, t0_5, t0_6, t0_7⟩ := cellsOf_at K0.out
  obtain ⟨t1_0, t1_1, t1_2, t1_3, t1_4, t1_5, t1_6, t1_7⟩ := cellsOf_at K1.out
  obtain ⟨t2_0, t2_1, t2_2, t2_3, t2_4, t2_5, t2_6, t2_7⟩ := cellsOf_at K2.out
  go_wp2_with fail
  try clear t0_0 t0_1 t0_2 t0_3 t0_4 t0_5 t0_6 t0_7 t1_0 t1_1 t1_2 t1_3 t1_4 t1_5 t1_6 t1_7 t2_0 t2_1 t2_2 t2_3 t2_4 t2_5 t2_6 t2_7
  refine ((H2 _).out).mono ?_
  rintro r X2 ⟨rfl, hb⟩
  replace K0 := keepB hb K0
  replace K1 := keepB hb K1
  replace K2 := keepB hb K2
  replace hB := hB.trans (hb.mono hB.size)
  clear hb
  obtain ⟨t0_0, t0_1, t0_2, t0_3, t0_4, t0_5, t0_6, t0_7⟩ := cellsOf_at K0.out
  obtain ⟨t1_0, t1_1, t1_2, t1_3, t1_4, t1_5, t1_6, t1_7⟩ := cellsOf_at K1.out
  obtain ⟨t2_0, t2_1, t2_2, t2_3, t2_4, t2_5, t2_6, t2_7⟩ := cellsOf_at K2.out
  go_wp2_with fail
  try clear t0_0 t0_1 t0_2 t0_3 t0_4 t0_5 t0_6 t0_7 t1_0 t1_1 t1_2 t1_3 t1_4 t1_5 t1_6 t1_7 t2_0 t2_1 t2_2 t2_3 t2_4 t2_5 t2_6 t2_7
  refine ((H3 _).out).mono ?_
  rintro r X3 ⟨rfl, hb⟩
  replace K0 := keepB hb K0
  replace K1 := keepB hb K1
  replace K2 := keepB hb K2
  replace hB := hB.trans (hb.mono hB.size)
  clear hb
  obtain ⟨B4, hB4⟩ : ∃ b, X3.heap.size = b := ⟨_, rfl⟩
  obtain ⟨t0_0, t0_1, t0_2, t0_3, t0_4, t0_5, t0_6, t0_7⟩ := cellsOf_at K0.out
  obtain ⟨t1_0, t1_1, t1_2, t1_3, t1_4, t1_5, t1_6, t1_7⟩ := cellsOf_at K1.out
  obtain ⟨t2_0, t2_1, t2_2, t2_3, t2_4, t2_5, t2_6, t2_7⟩ := cellsOf_at K2.out
  rw [hB4] at t0_7 t1_7 t2_7
  go_wp2_with fail
  try clear t0_0 t0_1 t0_2 t0_3 t0_4 t0_5 t0_6 t0_7 t1_0 t1_1 t1_2 t1_3 t1_4 t1_5 t1_6 t1_7 t2_0 t2_1 t2_2 t2_3 t2_4 t2_5 t2_6 t2_7
  try rw [hB4]
  refine call_named (fun V => Below w.heap.size w V ∧ Hid (V.heap[w.heap.size]? = some (cellsOf ⟨a1, a2, a3, a4, a5, a6⟩)) ∧ Hid (V.heap[w.heap.size + 1]? = some (cellsOf ⟨b1, b2, b3, b4, b5, b6⟩)) ∧ Hid (V.heap[w.heap.size + 1 + 1]? = some (cellsOf ⟨c1, c2, c3, c4, c5, c6⟩)) ∧ Hid (V.heap[B4]? = some (spanOf ⟨x1, x2⟩))) ⟨xa hB _, keepA K0 _, keepA K1 _, keepA K2 _, newA _ _ _ hB4⟩ ?_
  clear hB K0 K1 K2 hB4
  rintro V4 ⟨hB, K0, K1, K2, K4⟩
  refine ((H4 _).out).mono ?_
  rintro r X5 ⟨rfl, hb⟩
  replace K0 := keepB hb K0
  replace K1 := keepB hb K1
  replace K2 := keepB hb K2
  replace K4 := keepB hb K4
  replace hB := hB.trans (hb.mono hB.size)
  clear hb
  obtain ⟨B6, hB6⟩ : ∃ b, X5.heap.size = b := ⟨_, rfl⟩
  obtain ⟨t0_0, t0_1, t0_2, t0_3, t0_4, t0_5, t0_6, t0_7⟩ := cellsOf_at K0.out
  obtain ⟨t1_0, t1_1, t1_2, t1_3, t1_4, t1_5, t1_6, t1_7⟩ := cellsOf_at K1.out
  obtain ⟨t2_0, t2_1, t2_2, t2_3, t2_4, t2_5, t2_6, t2_7⟩ := cellsOf_at K2.out
  obtain ⟨t4_0, t4_1, t4_2, t4_3⟩ := span_at' K4.out
  rw [hB6] at t0_7 t1_7 t2_7 t4_3
  go_wp2_with fail
  try clear t0_0 t0_1 t0_2 t0_3 t0_4 t0_5 t0_6 t0_7 t1_0 t1_1 t1_2 t1_3 t1_4 t1_5 t1_6 t1_7 t2_0 t2_1 t2_2 t2_3 t2_4 t2_5 t2_6 t2_7 t4_0 t4_1 t4_2 t4_3
  try rw [hB6]
  refine call_named (fun V => Below w.heap.size w V ∧ Hid (V.heap[w.heap.size]? = some (cellsOf ⟨a1, a2, a3, a4, a5, a6⟩)) ∧ Hid (V.heap[w.heap.size + 1]? = some (cellsOf ⟨b1, b2, b3, b4, b5, b6⟩)) ∧ Hid (V.heap[w.heap.size + 1 + 1]? = some (cellsOf ⟨c1, c2, c3, c4, c5, c6⟩)) ∧ Hid (V.heap[B4]? = some (spanOf ⟨x1, x2⟩)) ∧ Hid (V.heap[B6]? = some (spanOf ⟨pl, ph⟩))) ⟨xa hB _, keepA K0 _, keepA K1 _, keepA K2 _, keepA K4 _, newA _ _ _ hB6⟩ ?_
  clear hB K0 K1 K2 K4 hB6
  rintro V6 ⟨hB, K0, K1, K2, K4, K6⟩
  refine ((H5 _).out).mono ?_
  rintro r X7 ⟨rfl, hb⟩
  replace K0 := keepB hb K0
  replace K1 := keepB hb K1
  replace K2 := keepB hb K2
  replace K4 := keepB hb K4
  replace K6 := keepB hb K6
  replace hB := hB.trans (hb.mono hB.size)
  clear hb
  obtain ⟨B8, hB8⟩ : ∃ b, X7.heap.size = b := ⟨_, rfl⟩
  obtain ⟨t0_0, t0_1, t0_2, t0_3, t0_4, t0_5, t0_6, t0_7⟩ := cellsOf_at K0.out
  obtain ⟨t1_0, t1_1, t1_2, t1_3, t1_4, t1_5, t1_6, t1_7⟩ := cellsOf_at K1.out
  obtain ⟨t2_0, t2_1, t2_2, t2_3, t2_4, t2_5, t2_6, t2_7⟩ := cellsOf_at K2.out
  obtain ⟨t4_0, t4_1, t4_2, t4_3⟩ := span_at' K4.out
  obtain ⟨t6_0, t6_1, t6_2, t6_3⟩ := span_at' K6.out
  rw [hB8] at t0_7 t1_7 t2_7 t4_3 t6_3
  go_wp2_with fail
  try clear t0_0 t0_1 t0_2 t0_3 t0_4 t0_5 t0_6 t0_7 t1_0 t1_1 t1_2 t1_3 t1_4 t1_5 t1_6 t1_7 t2_0 t2_1 t2_2 t2_3 t2_4 t2_5 t2_6 t2_7 t4_0 t4_1 t4_2 t4_3 t6_0 t6_1 t6_2 t6_3
  try rw [hB8]
  refine call_named (fun V => Below w.heap.size w V ∧ Hid (V.heap[w.heap.size]? = some (cellsOf ⟨a1, a2, a3, a4, a5, a6⟩)) ∧ Hid (V.heap[w.heap.size + 1]? = some (cellsOf ⟨b1, b2, b3, b4, b5, b6⟩)) ∧ Hid (V.heap[w.heap.size + 1 + 1]? = some (cellsOf ⟨c1, c2, c3, c4, c5, c6⟩)) ∧ Hid (V.heap[B4]? = some (spanOf ⟨x1, x2⟩)) ∧ Hid (V.heap[B6]? = some (spanOf ⟨pl, ph⟩)) ∧ Hid (V.heap[B8]? = some (spanOf ⟨ph + 1, qh⟩))) ⟨xa hB _, keepA K0 _, keepA K1 _, keepA K2 _, keepA K4 _, keepA K6 _, newA _ _ _ hB8⟩ ?_
  clear hB K0 K1 K2 K4 K6 hB8
  rintro V8 ⟨hB, K0, K1, K2, K4, K6, K8⟩
  refine (c22 V8 (HE.out.below hB) (HC.out.below hB HC.out.lt)).mono ?_
  rintro r X9 ⟨rfl, hb⟩
  replace K0 := keepB hb K0
  replace K1 := keepB hb K1
  replace K2 := keepB hb K2
  replace K4 := keepB hb K4
  replace K6 := keepB hb K6
  replace K8 := keepB hb K8
  replace hB := hB.trans (hb.mono hB.size)
  clear hb
  obtain ⟨t0_0, t0_1, t0_2, t0_3, t0_4, t0_5, t0_6, t0_7⟩ := cellsOf_at K0.out
  obtain ⟨t1_0, t1_1, t1_2, t1_3, t1_4, t1_5, t1_6, t1_7⟩ := cellsOf_at K1.out
  obtain ⟨t2_0, t2_1, t2_2, t2_3, t2_4, t2_5, t2_6, t2_7⟩ := cellsOf_at K2.out
  obtain ⟨t4_0, t4_1, t4_2, t4_3⟩ := span_at' K4.out
  obtain ⟨t6_0, t6_1, t6_2, t6_3⟩ := span_at' K6.out
  obtain ⟨t8_0, t8_1, t8_2, t8_3⟩ := span_at' K8.out
  go_wp2_with fail
  go_ret
  exact ⟨rfl, hB⟩
set_option maxRecDepth 100000 in
set_option maxHeartbeats 8000000 in
theorem c16_hf (a1 a2 a3 a4 a5 a6 b1 b2 b3 b4 b5 b6 c1 c2 c3 c4 c5 c6 n x1 x2 pl ph qh ql h i : Int) (w : World) (hh : h ≠ 0) (p1 : 0 ≤ ph) (p2 : ph ≤ 60000) (HE : Hid (Env w)) (HC : Hid (Cell0 w)) (H1 : ∀ W, Hid (Calls Tryz.prog 49 #[.agg #[.int .i64 a1, .int .i64 a2, .int .i64 a3, .int .i64 a4, .int .i64 a5, .int .i64 a6], .agg #[.int .i64 b1, .int .i64 b2, .int .i64 b3, .int .i64 b4, .int .i64 b5, .int .i64 b6]] W fun r w' => r = .returned (.tuple #[.bool true, .int .i64 0]) ∧ Below W.heap.size W w')) (H2 : ∀ W, Hid (Calls Tryz.prog 49 #[.agg #[.int .i64 b1, .int .i64 b2, .int .i64 b3, .int .i64 b4, .int .i64 b5, .int .i64 b6], .agg #[.int .i64 c1, .int .i64 c2, .int .i64 c3, .int .i64 c4, .int .i64 c5, .int .i64 c6]] W fun r w' => r = .returned (.tuple #[.bool false, .int .i64 0]) ∧ Below W.heap.size W w')) (H3 : ∀ W, Hid (Calls Tryz.prog 50 #[.agg #[.int .i64 a1, .int .i64 a2, .int .i64 a3, .int .i64 a4, .int .i64 a5, .int .i64 a6], .agg #[.int .i64 b1, .int .i64 b2, .int .i64 b3, .int .i64 b4, .int .i64 b5, .int .i64 b6]] W fun r w' => r = .returned (.tuple #[.agg #[.int .i64 x1, .int .i64 x2], .int .i64 0]) ∧ Below W.heap.size W w')) (H4 : ∀ W, Hid (Calls Tryz.prog 58 #[.int .i64 a2, .int .i64 a3, .int .i64 n] W fun r w' => r = .returned (.tuple #[.agg #[.int .i64 pl, .int .i64 ph], .int .i64 h]) ∧ Below W.heap.size W w')) (H5 : ∀ W, Hid (Calls Tryz.prog 58 #[.int .i64 b2, .int .i64 b3, .int .i64 n] W fun r w' => r = .returned (.tuple #[.agg #[.int .i64 ql, .int .i64 qh], .int .i64 i]) ∧ Below W.heap.size W w')) : Calls Tryz.prog 16 #[.agg #[.int .i64 a1, .int .i64 a2, .int .i64 a3, .int .i64 a4, .int .i64 a5, .int .i64 a6], .agg #[.int .i64 b1, .int .i64 b2, .int .i64 b3, .int .i64 b4, .int .i64 b5, .int .i64 b6], .agg #[.int .i64 c1, .int .i64 c2, .int .i64 c3, .int .i64 c4, .int .i64 c5, .int .i64 c6], .int .i64 n] w fun e w' => e = .returned (.bool true) ∧ Below w.heap.size w w' := by
  go_enter Tryz.func16, Tryz.ntmps16
  go_wp2_with fail
  refine call_named (fun V => Below w.heap.size w V ∧ Hid (V.heap[w.heap.size]? = some (cellsOf ⟨a1, a2, a3, a4, a5, a6⟩)) ∧ Hid (V.heap[w.heap.size + 1]? = some (cellsOf ⟨b1, b2, b3, b4, b5, b6⟩)) ∧ Hid (V.heap[w.heap.size + 1 + 1]? = some (cellsOf ⟨c1, c2, c3, c4, c5, c6⟩))) (box_three _ _ _ _) ?_
  rintro X0 ⟨hB, K0, K1, K2⟩
  refine ((H1 _).out).mono ?_
  rintro r X1 ⟨rfl, hb⟩
  replace K0 := keepB hb K0
  replace K1 := keepB hb K1
  replace K2 := keepB hb K2
  replace hB := hB.trans (hb.mono hB.size)
  clear hb
  obtain ⟨t0_0, t0_1, t0_2, t0_3, t0_4, t0_5, t0_6, t0_7⟩ := cellsOf_at K0.out
  obtain ⟨t1_0, t1_1, t1_2, t1_3, t1_4, t1_5, t1_6, t1_7⟩ := cellsOf_at K1.out
  obtain ⟨t2_0, t2_1, t2_2, t2_3, t2_4, t2_5, t2_6, t2_7⟩ := cellsOf_at K2.out
  go_wp2_with fail
  try clear t0_0 t0_1 t0_2 t0_3 t0_4 t0_5 t0_6 t0_7 t1_0 t1_1 t1_2 t1_3 t1_4 t1_5 t1_6 t1_7 t2_0 t2_1 t2_2 t2_3 t2_4 t2_5 t2_6 t2_7
  refine ((H2 _).out).mono ?_
  rintro r X2 ⟨rfl, hb⟩
  replace K0 := keepB hb K0
  replace K1 := keepB hb K1
  replace K2 := keepB hb K2
  replace hB := hB.trans (hb.mono hB.size)
  clear hb
  obtain ⟨t0_0, t0_1, t0_2, t0_3, t0_4, t0_5, t0_6, t0_7⟩ := cellsOf_at K0.out
  obtain ⟨t1_0, t1_1, t1_2, t1_3, t1_4, t1_5, t1_6, t1_7⟩ := cellsOf_at K1.out
  obtain ⟨t2_0, t2_1, t2_2, t2_3, t2_4, t2_5, t2_6, t2_7⟩ := cellsOf_at K2.out
  go_wp2_with fail
  try clear t0_0 t0_1 t0_2 t0_3 t0_4 t0_5 t0_6 t0_7 t1_0 t1_1 t1_2 t1_3 t1_4 t1_5 t1_6 t1_7 t2_0 t2_1 t2_2 t2_3 t2_4 t2_5 t2_6 t2_7
  refine ((H3 _).out).mono ?_
  rintro r X3 ⟨rfl, hb⟩
  replace K0 := keepB hb K0
  replace K1 := keepB hb K1
  replace K2 := keepB hb K2
  replace hB := hB.trans (hb.mono hB.size)
  clear hb
  obtain ⟨B4, hB4⟩ : ∃ b, X3.heap.size = b := ⟨_, rfl⟩
  obtain ⟨t0_0, t0_1, t0_2, t0_3, t0_4, t0_5, t0_6, t0_7⟩ := cellsOf_at K0.out
  obtain ⟨t1_0, t1_1, t1_2, t1_3, t1_4, t1_5, t1_6, t1_7⟩ := cellsOf_at K1.out
  obtain ⟨t2_0, t2_1, t2_2, t2_3, t2_4, t2_5, t2_6, t2_7⟩ := cellsOf_at K2.out
  rw [hB4] at t0_7 t1_7 t2_7
  go_wp2_with fail
  try clear t0_0 t0_1 t0_2 t0_3 t0_4 t0_5 t0_6 t0_7 t1_0 t1_1 t1_2 t1_3 t1_4 t1_5 t1_6 t1_7 t2_0 t2_1 t2_2 t2_3 t2_4 t2_5 t2_6 t2_7
  try rw [hB4]
  refine call_named (fun V => Below w.heap.size w V ∧ Hid (V.heap[w.heap.size]? = some (cellsOf ⟨a1, a2, a3, a4, a5, a6⟩)) ∧ Hid (V.heap[w.heap.size + 1]? = some (cellsOf ⟨b1, b2, b3, b4, b5, b6⟩)) ∧ Hid (V.heap[w.heap.size + 1 + 1]? = some (cellsOf ⟨c1, c2, c3, c4, c5, c6⟩)) ∧ Hid (V.heap[B4]? = some (spanOf ⟨x1, x2⟩))) ⟨xa hB _, keepA K0 _, keepA K1 _, keepA K2 _, newA _ _ _ hB4⟩ ?_
  clear hB K0 K1 K2 hB4
  rintro V4 ⟨hB, K0, K1, K2, K4⟩
  refine ((H4 _).out).mono ?_
  rintro r X5 ⟨rfl, hb⟩
  replace K0 := keepB hb K0
  replace K1 := keepB hb K1
  replace K2 := keepB hb K2
  replace K4 := keepB hb K4
  replace hB := hB.trans (hb.mono hB.size)
  clear hb
  obtain ⟨B6, hB6⟩ : ∃ b, X5.heap.size = b := ⟨_, rfl⟩
  obtain ⟨t0_0, t0_1, t0_2, t0_3, t0_4, t0_5, t0_6, t0_7⟩ := cellsOf_at K0.out
  obtain ⟨t1_0, t1_1, t1_2, t1_3, t1_4, t1_5, t1_6, t1_7⟩ := cellsOf_at K1.out
  obtain ⟨t2_0, t2_1, t2_2, t2_3, t2_4, t2_5, t2_6, t2_7⟩ := cellsOf_at K2.out
  obtain ⟨t4_0, t4_1, t4_2, t4_3⟩ := span_at' K4.out
  rw [hB6] at t0_7 t1_7 t2_7 t4_3
  go_wp2_with fail
  try clear t0_0 t0_1 t0_2 t0_3 t0_4 t0_5 t0_6 t0_7 t1_0 t1_1 t1_2 t1_3 t1_4 t1_5 t1_6 t1_7 t2_0 t2_1 t2_2 t2_3 t2_4 t2_5 t2_6 t2_7 t4_0 t4_1 t4_2 t4_3
  try rw [hB6]
  refine call_named (fun V => Below w.heap.size w V ∧ Hid (V.heap[w.heap.size]? = some (cellsOf ⟨a1, a2, a3, a4, a5, a6⟩)) ∧ Hid (V.heap[w.heap.size + 1]? = some (cellsOf ⟨b1, b2, b3, b4, b5, b6⟩)) ∧ Hid (V.heap[w.heap.size + 1 + 1]? = some (cellsOf ⟨c1, c2, c3, c4, c5, c6⟩)) ∧ Hid (V.heap[B4]? = some (spanOf ⟨x1, x2⟩)) ∧ Hid (V.heap[B6]? = some (spanOf ⟨pl, ph⟩))) ⟨xa hB _, keepA K0 _, keepA K1 _, keepA K2 _, keepA K4 _, newA _ _ _ hB6⟩ ?_
  clear hB K0 K1 K2 K4 hB6
  rintro V6 ⟨hB, K0, K1, K2, K4, K6⟩
  refine ((H5 _).out).mono ?_
  rintro r X7 ⟨rfl, hb⟩
  replace K0 := keepB hb K0
  replace K1 := keepB hb K1
  replace K2 := keepB hb K2
  replace K4 := keepB hb K4
  replace K6 := keepB hb K6
  replace hB := hB.trans (hb.mono hB.size)
  clear hb
  obtain ⟨B8, hB8⟩ : ∃ b, X7.heap.size = b := ⟨_, rfl⟩
  obtain ⟨t0_0, t0_1, t0_2, t0_3, t0_4, t0_5, t0_6, t0_7⟩ := cellsOf_at K0.out
  obtain ⟨t1_0, t1_1, t1_2, t1_3, t1_4, t1_5, t1_6, t1_7⟩ := cellsOf_at K1.out
  obtain ⟨t2_0, t2_1, t2_2, t2_3, t2_4, t2_5, t2_6, t2_7⟩ := cellsOf_at K2.out
  obtain ⟨t4_0, t4_1, t4_2, t4_3⟩ := span_at' K4.out
  obtain ⟨t6_0, t6_1, t6_2, t6_3⟩ := span_at' K6.out
  rw [hB8] at t0_7 t1_7 t2_7 t4_3 t6_3
  go_wp2_with fail
  try clear t0_0 t0_1 t0_2 t0_3 t0_4 t0_5 t0_6 t0_7 t1_0 t1_1 t1_2 t1_3 t1_4 t1_5 t1_6 t1_7 t2_0 t2_1 t2_2 t2_3 t2_4 t2_5 t2_6 t2_7 t4_0 t4_1 t4_2 t4_3 t6_0 t6_1 t6_2 t6_3
  try rw [hB8]
  refine call_named (fun V => Below w.heap.size w V ∧ Hid (V.heap[w.heap.size]? = some (cellsOf ⟨a1, a2, a3, a4, a5, a6⟩)) ∧ Hid (V.heap[w.heap.size + 1]? = some (cellsOf ⟨b1, b2, b3, b4, b5, b6⟩)) ∧ Hid (V.heap[w.heap.size + 1 + 1]? = some (cellsOf ⟨c1, c2, c3, c4, c5, c6⟩)) ∧ Hid (V.heap[B4]? = some (spanOf ⟨x1, x2⟩)) ∧ Hid (V.heap[B6]? = some (spanOf ⟨pl, ph⟩)) ∧ Hid (V.heap[B8]? = some (spanOf ⟨ql, qh⟩))) ⟨xa hB _, keepA K0 _, keepA K1 _, keepA K2 _, keepA K4 _, keepA K6 _, newA _ _ _ hB8⟩ ?_
  clear hB K0 K1 K2 K4 K6 hB8
  rintro V8 ⟨hB, K0, K1, K2, K4, K6, K8⟩
  refine (c22 V8 (HE.out.below hB) (HC.out.below hB HC.out.lt)).mono ?_
  rintro r X9 ⟨rfl, hb⟩
  replace K0 := keepB hb K0
  replace K1 := keepB hb K1
  replace K2 := keepB hb K2
  replace K4 := keepB hb K4
  replace K6 := keepB hb K6
  replace K8 := keepB hb K8
  replace hB := hB.trans (hb.mono hB.size)
  clear hb
  obtain ⟨t0_0, t0_1, t0_2, t0_3, t0_4, t0_5, t0_6, t0_7⟩ := cellsOf_at K0.out
  obtain ⟨t1_0, t1_1, t1_2, t1_3, t1_4, t1_5, t1_6, t1_7⟩ := cellsOf_at K1.out
  obtain ⟨t2_0, t2_1, t2_2, t2_3, t2_4, t2_5, t2_6, t2_7⟩ := cellsOf_at K2.out
  obtain ⟨t4_0, t4_1, t4_2, t4_3⟩ := span_at' K4.out
  obtain ⟨t6_0, t6_1, t6_2, t6_3⟩ := span_at' K6.out
  obtain ⟨t8_0, t8_1, t8_2, t8_3⟩ := span_at' K8.out
  go_wp2_with fail
  go_ret
  exact ⟨rfl, hB⟩
set_option maxRecDepth 100000 in
set_option maxHeartbeats 8000000 in
theorem c16_if (a1 a2 a3 a4 a5 a6 b1 b2 b3 b4 b5 b6 c1 c2 c3 c4 c5 c6 n x1 x2 pl ph qh ql i : Int) (w : World) (hi : i ≠ 0) (p1 : 0 ≤ ph) (p2 : ph ≤ 60000) (HE : Hid (Env w)) (HC : Hid (Cell0 w)) (H1 : ∀ W, Hid (Calls Tryz.prog 49 #[.agg #[.int .i64 a1, .int .i64 a2, .int .i64 a3, .int .i64 a4, .int .i64 a5, .int .i64 a6], .agg #[.int .i64 b1, .int .i64 b2, .int .i64 b3, .int .i64 b4, .int .i64 b5, .int .i64 b6]] W fun r w' => r = .returned (.tuple #[.bool true, .int .i64 0]) ∧ Below W.heap.size W w')) (H2 : ∀ W, Hid (Calls Tryz.prog 49 #[.agg #[.int .i64 b1, .int .i64 b2, .int .i64 b3, .int .i64 b4, .int .i64 b5, .int .i64 b6], .agg #[.int .i64 c1, .int .i64 c2, .int .i64 c3, .int .i64 c4, .int .i64 c5, .int .i64 c6]] W fun r w' => r = .returned (.tuple #[.bool false, .int .i64 0]) ∧ Below W.heap.size W w')) (H3 : ∀ W, Hid (Calls Tryz.prog 50 #[.agg #[.int .i64 a1, .int .i64 a2, .int .i64 a3, .int .i64 a4, .int .i64 a5, .int .i64 a6], .agg #[.int .i64 b1, .int .i64 b2, .int .i64 b3, .int .i64 b4, .int .i64 b5, .int .i64 b6]] W fun r w' => r = .returned (.tuple #[.agg #[.int .i64 x1, .int .i64 x2], .int .i64 0]) ∧ Below W.heap.size W w')) (H4 : ∀ W, Hid (Calls Tryz.prog 58 #[.int .i64 a2, .int .i64 a3, .int .i64 n] W fun r w' => r = .returned (.tuple #[.agg #[.int .i64 pl, .int .i64 ph], .int .i64 0]) ∧ Below W.heap.size W w')) (H5 : ∀ W, Hid (Calls Tryz.prog 58 #[.int .i64 b2, .int .i64 b3, .int .i64 n] W fun r w' => r = .returned (.tuple #[.agg #[.int .i64 ql, .int .i64 qh], .int .i64 i]) ∧ Below W.heap.size W w')) : Calls Tryz.prog 16 #[.agg #[.int .i64 a1, .int .i64 a2, .int .i64 a3, .int .i64 a4, .int .i64 a5, .int .i64 a6], .agg #[.int .i64 b1, .int .i64 b2, .int .i64 b3, .int .i64 b4, .int .i64 b5, .int .i64 b6], .agg #[.int .i64 c1, .int .i64 c2, .int .i64 c3, .int .i64 c4, .int .i64 c5, .int .i64 c6], .int .i64 n] w fun e w' => e = .returned (.bool true) ∧ Below w.heap.size w w' := by
  go_enter Tryz.func16, Tryz.ntmps16
  go_wp2_with fail
  refine call_named (fun V => Below w.heap.size w V ∧ Hid (V.heap[w.heap.size]? = some (cellsOf ⟨a1, a2, a3, a4, a5, a6⟩)) ∧ Hid (V.heap[w.heap.size + 1]? = some (cellsOf ⟨b1, b2, b3, b4, b5, b6⟩)) ∧ Hid (V.heap[w.heap.size + 1 + 1]? = some (cellsOf ⟨c1, c2, c3, c4, c5, c6⟩))) (box_three _ _ _ _) ?_
  rintro X0 ⟨hB, K0, K1, K2⟩
  refine ((H1 _).out).mono ?_
  rintro r X1 ⟨rfl, hb⟩
  replace K0 := keepB hb K0
  replace K1 := keepB hb K1
  replace K2 := keepB hb K2
  replace hB := hB.trans (hb.mono hB.size)
  clear hb
  obtain ⟨t0_0, t0_1, t0_2, t0_3, t0_4, t0_5, t0_6, t0_7⟩ := cellsOf_at K0.out
  obtain ⟨t1_0, t1_1, t1_2, t1_3, t1_4, t1_5, t1_6, t1_7⟩ := cellsOf_at K1.out
  obtain ⟨t2_0, t2_1, t2_2, t2_3, t2_4, t2_5, t2_6, t2_7⟩ := cellsOf_at K2.out
  go_wp2_with fail
  try clear t0_0 t0_1 t0_2 t0_3 t0_4 t0_5 t0_6 t0_7 t1_0 t1_1 t1_2 t1_3 t1_4 t1_5 t1_6 t1_7 t2_0 t2_1 t2_2 t2_3 t2_4 t2_5 t2_6 t2_7
  refine ((H2 _).out).mono ?_
  rintro r X2 ⟨rfl, hb⟩
  replace K0 := keepB hb K0
  replace K1 := keepB hb K1
  replace K2 := keepB hb K2
  replace hB := hB.trans (hb.mono hB.size)
  clear hb
  obtain ⟨t0_0, t0_1, t0_2, t0_3, t0_4, t0_5, t0_6, t0_7⟩ := cellsOf_at K0.out
  obtain ⟨t1_0, t1_1, t1_2, t1_3, t1_4, t1_5, t1_6, t1_7⟩ := cellsOf_at K1.out
  obtain ⟨t2_0, t2_1, t2_2, t2_3, t2_4, t2_5, t2_6, t2_7⟩ := cellsOf_at K2.out
  go_wp2_with fail
  try clear t0_0 t0_1 t0_2 t0_3 t0_4 t0_5 t0_6 t0_7 t1_0 t1_1 t1_2 t1_3 t1_4 t1_5 t1_6 t1_7 t2_0 t2_1 t2_2 t2_3 t2_4 t2_5 t2_6 t2_7
  refine ((H3 _).out).mono ?_
  rintro r X3 ⟨rfl, hb⟩
  replace K0 := keepB hb K0
  replace K1 := keepB hb K1
  replace K2 := keepB hb K2
  replace hB := hB.trans (hb.mono hB.size)
  clear hb
  obtain ⟨B4, hB4⟩ : ∃ b, X3.heap.size = b := ⟨_, rfl⟩
  obtain ⟨t0_0, t0_1, t0_2, t0_3, t0_4, t0_5, t0_6, t0_7⟩ := cellsOf_at K0.out
  obtain ⟨t1_0, t1_1, t1_2, t1_3, t1_4, t1_5, t1_6, t1_7⟩ := cellsOf_at K1.out
  obtain ⟨t2_0, t2_1, t2_2, t2_3, t2_4, t2_5, t2_6, t2_7⟩ := cellsOf_at K2.out
  rw [hB4] at t0_7 t1_7 t2_7
  go_wp2_with fail
  try clear t0_0 t0_1 t0_2 t0_3 t0_4 t0_5 t0_6 t0_7 t1_0 t1_1 t1_2 t1_3 t1_4 t1_5 t1_6 t1_7 t2_0 t2_1 t2_2 t2_3 t2_4 t2_5 t2_6 t2_7
  try rw [hB4]
  refine call_named (fun V => Below w.heap.size w V ∧ Hid (V.heap[w.heap.size]? = some (cellsOf ⟨a1, a2, a3, a4, a5, a6⟩)) ∧ Hid (V.heap[w.heap.size + 1]? = some (cellsOf ⟨b1, b2, b3, b4, b5, b6⟩)) ∧ Hid (V.heap[w.heap.size + 1 + 1]? = some (cellsOf ⟨c1, c2, c3, c4, c5, c6⟩)) ∧ Hid (V.heap[B4]? = some (spanOf ⟨x1, x2⟩))) ⟨xa hB _, keepA K0 _, keepA K1 _, keepA K2 _, newA _ _ _ hB4⟩ ?_
  clear hB K0 K1 K2 hB4
  rintro V4 ⟨hB, K0, K1, K2, K4⟩
  refine ((H4 _).out).mono ?_
  rintro r X5 ⟨rfl, hb⟩
  replace K0 := keepB hb K0
  replace K1 := keepB hb K1
  replace K2 := keepB hb K2
  replace K4 := keepB hb K4
  replace hB := hB.trans (hb.mono hB.size)
  clear hb
  obtain ⟨B6, hB6⟩ : ∃ b, X5.heap.size = b := ⟨_, rfl⟩
  obtain ⟨t0_0, t0_1, t0_2, t0_3, t0_4, t0_5, t0_6, t0_7⟩ := cellsOf_at K0.out
  obtain ⟨t1_0, t1_1, t1_2, t1_3, t1_4, t1_5, t1_6, t1_7⟩ := cellsOf_at K1.out
  obtain ⟨t2_0, t2_1, t2_2, t2_3, t2_4, t2_5, t2_6, t2_7⟩ := cellsOf_at K2.out
  obtain ⟨t4_0, t4_1, t4_2, t4_3⟩ := span_at' K4.out
  rw [hB6] at t0_7 t1_7 t2_7 t4_3
  go_wp2_with fail
  try clear t0_0 t0_1 t0_2 t0_3 t0_4 t0_5 t0_6 t0_7 t1_0 t1_1 t1_2 t1_3 t1_4 t1_5 t1_6 t1_7 t2_0 t2_1 t2_2 t2_3 t2_4 t2_5 t2_6 t2_7 t4_0 t4_1 t4_2 t4_3
  try rw [hB6]
  refine call_named (fun V => Below w.heap.size w V ∧ Hid (V.heap[w.heap.size]? = some (cellsOf ⟨a1, a2, a3, a4, a5, a6⟩)) ∧ Hid (V.heap[w.heap.size + 1]? = some (cellsOf ⟨b1, b2, b3, b4, b5, b6⟩)) ∧ Hid (V.heap[w.heap.size + 1 + 1]? = some (cellsOf ⟨c1, c2, c3, c4, c5, c6⟩)) ∧ Hid (V.heap[B4]? = some (spanOf ⟨x1, x2⟩)) ∧ Hid (V.heap[B6]? = some (spanOf ⟨pl, ph⟩))) ⟨xa hB _, keepA K0 _, keepA K1 _, keepA K2 _, keepA K4 _, newA _ _ _ hB6⟩ ?_
  clear hB K0 K1 K2 K4 hB6
  rintro V6 ⟨hB, K0, K1, K2, K4, K6⟩
  refine ((H5 _).out).mono ?_
  rintro r X7 ⟨rfl, hb⟩
  replace K0 := keepB hb K0
  replace K1 := keepB hb K1
  replace K2 := keepB hb K2
  replace K4 := keepB hb K4
  replace K6 := keepB hb K6
  replace hB := hB.trans (hb.mono hB.size)
  clear hb
  obtain ⟨B8, hB8⟩ : ∃ b, X7.heap.size = b := ⟨_, rfl⟩
  obtain ⟨t0_0, t0_1, t0_2, t0_3, t0_4, t0_5, t0_6, t0_7⟩ := cellsOf_at K0.out
  obtain ⟨t1_0, t1_1, t1_2, t1_3, t1_4, t1_5, t1_6, t1_7⟩ := cellsOf_at K1.out
  obtain ⟨t2_0, t2_1, t2_2, t2_3, t2_4, t2_5, t2_6, t2_7⟩ := cellsOf_at K2.out
  obtain ⟨t4_0, t4_1, t4_2, t4_3⟩ := span_at' K4.out
  obtain ⟨t6_0, t6_1, t6_2, t6_3⟩ := span_at' K6.out
  rw [hB8] at t0_7 t1_7 t2_7 t4_3 t6_3
  go_wp2_with fail
  try clear t0_0 t0_1 t0_2 t0_3 t0_4 t0_5 t0_6 t0_7 t1_0 t1_1 t1_2 t1_3 t1_4 t1_5 t1_6 t1_7 t2_0 t2_1 t2_2 t2_3 t2_4 t2_5 t2_6 t2_7 t4_0 t4_1 t4_2 t4_3 t6_0 t6_1 t6_2 t6_3
  try rw [hB8]
  refine call_named (fun V => Below w.heap.size w V ∧ Hid (V.heap[w.heap.size]? = some (cellsOf ⟨a1, a2, a3, a4, a5, a6⟩)) ∧ Hid (V.heap[w.heap.size + 1]? = some (cellsOf ⟨b1, b2, b3, b4, b5, b6⟩)) ∧ Hid (V.heap[w.heap.size + 1 + 1]? = some (cellsOf ⟨c1, c2, c3, c4, c5, c6⟩)) ∧ Hid (V.heap[B4]? = some (spanOf ⟨x1, x2⟩)) ∧ Hid (V.heap[B6]? = some (spanOf ⟨pl, ph⟩)) ∧ Hid (V.heap[B8]? = some (spanOf ⟨ql, qh⟩))) ⟨xa hB _, keepA K0 _, keepA K1 _, keepA K2 _, keepA K4 _, keepA K6 _, newA _ _ _ hB8⟩ ?_
  clear hB K0 K1 K2 K4 K6 hB8
  rintro V8 ⟨hB, K0, K1, K2, K4, K6, K8⟩
  refine (c22 V8 (HE.out.below hB) (HC.out.below hB HC.out.lt)).mono ?_
  rintro r X9 ⟨rfl, hb⟩
  replace K0 := keepB hb K0
  replace K1 := keepB hb K1
  replace K2 := keepB hb K2
  replace K4 := keepB hb K4
  replace K6 := keepB hb K6
  replace K8 := keepB hb K8
  replace hB := hB.trans (hb.mono hB.size)
  clear hb
  obtain ⟨t0_0, t0_1, t0_2, t0_3, t0_4, t0_5, t0_6, t0_7⟩ := cellsOf_at K0.out
  obtain ⟨t1_0, t1_1, t1_2, t1_3, t1_4, t1_5, t1_6, t1_7⟩ := cellsOf_at K1.out
  obtain ⟨t2_0, t2_1, t2_2, t2_3, t2_4, t2_5, t2_6, t2_7⟩ := cellsOf_at K2.out
  obtain ⟨t4_0, t4_1, t4_2, t4_3⟩ := span_at' K4.out
  obtain ⟨t6_0, t6_1, t6_2, t6_3⟩ := span_at' K6.out
  obtain ⟨t8_0, t8_1, t8_2, t8_3⟩ := span_at' K8.out
  go_wp2_with fail
  go_ret
  exact ⟨rfl, hB⟩
set_option maxRecDepth 100000 in
set_option maxHeartbeats 8000000 in
theorem c16_yt (a1 a2 a3 a4 a5 a6 b1 b2 b3 b4 b5 b6 c1 c2 c3 c4 c5 c6 n x1 x2 pl ph qh y1 y2 s1 s2 t1 t2 r1 r2 : Int) (w : World) (p1 : 0 ≤ ph) (p2 : ph ≤ 60000) (HE : Hid (Env w)) (HC : Hid (Cell0 w)) (H1 : ∀ W, Hid (Calls Tryz.prog 49 #[.agg #[.int .i64 a1, .int .i64 a2, .int .i64 a3, .int .i64 a4, .int .i64 a5, .int .i64 a6], .agg #[.int .i64 b1, .int .i64 b2, .int .i64 b3, .int .i64 b4, .int .i64 b5, .int .i64 b6]] W fun r w' => r = .returned (.tuple #[.bool true, .int .i64 0]) ∧ Below W.heap.size W w')) (H2 : ∀ W, Hid (Calls Tryz.prog 49 #[.agg #[.int .i64 b1, .int .i64 b2, .int .i64 b3, .int .i64 b4, .int .i64 b5, .int .i64 b6], .agg #[.int .i64 c1, .int .i64 c2, .int .i64 c3, .int .i64 c4, .int .i64 c5, .int .i64 c6]] W fun r w' => r = .returned (.tuple #[.bool true, .int .i64 0]) ∧ Below W.heap.size W w')) (H3 : ∀ W, Hid (Calls Tryz.prog 50 #[.agg #[.int .i64 a1, .int .i64 a2, .int .i64 a3, .int .i64 a4, .int .i64 a5, .int .i64 a6], .agg #[.int .i64 b1, .int .i64 b2, .int .i64 b3, .int .i64 b4, .int .i64 b5, .int .i64 b6]] W fun r w' => r = .returned (.tuple #[.agg #[.int .i64 x1, .int .i64 x2], .int .i64 0]) ∧ Below W.heap.size W w')) (H4 : ∀ W, Hid (Calls Tryz.prog 58 #[.int .i64 a2, .int .i64 a3, .int .i64 n] W fun r w' => r = .returned (.tuple #[.agg #[.int .i64 pl, .int .i64 ph], .int .i64 0]) ∧ Below W.heap.size W w')) (H5 : ∀ W, Hid (Calls Tryz.prog 58 #[.int .i64 b2, .int .i64 b3, .int .i64 n] W fun r w' => r = .returned (.tuple #[.agg #[.int .i64 (ph + 1), .int .i64 qh], .int .i64 0]) ∧ Below W.heap.size W w')) (H6 : ∀ W, Hid (Calls Tryz.prog 50 #[.agg #[.int .i64 b1, .int .i64 b2, .int .i64 b3, .int .i64 b4, .int .i64 b5, .int .i64 b6], .agg #[.int .i64 c1, .int .i64 c2, .int .i64 c3, .int .i64 c4, .int .i64 c5, .int .i64 c6]] W fun r w' => r = .returned (.tuple #[.agg #[.int .i64 y1, .int .i64 y2], .int .i64 0]) ∧ Below W.heap.size W w')) (H7 : ∀ W, Hid (Calls Tryz.prog 43 #[.agg #[.int .i64 a1, .int .i64 a2, .int .i64 a3, .int .i64 a4, .int .i64 a5, .int .i64 a6]] W fun r w' => r = .returned (.tuple #[.agg #[.int .i64 s1, .int .i64 s2], .int .i64 0]) ∧ Below W.heap.size W w')) (H8 : ∀ W, Hid (Calls Tryz.prog 43 #[.agg #[.int .i64 c1, .int .i64 c2, .int .i64 c3, .int .i64 c4, .int .i64 c5, .int .i64 c6]] W fun r w' => r = .returned (.tuple #[.agg #[.int .i64 t1, .int .i64 t2], .int .i64 0]) ∧ Below W.heap.size W w')) (H9 : ∀ W, Hid (Calls Tryz.prog 59 #[.agg #[.int .i64 x1, .int .i64 x2], .agg #[.int .i64 t1, .int .i64 t2]] W fun r w' => r = .returned (.agg #[.int .i64 r1, .int .i64 r2]) ∧ Below W.heap.size W w')) (HA : ∀ W, Hid (Calls Tryz.prog 59 #[.agg #[.int .i64 s1, .int .i64 s2], .agg #[.int .i64 y1, .int .i64 y2]] W fun r w' => r = .returned (.agg #[.int .i64 r1, .int .i64 r2]) ∧ Below W.heap.size W w')) : Calls Tryz.prog 16 #[.agg #[.int .i64 a1, .int .i64 a2, .int .i64 a3, .int .i64 a4, .int .i64 a5, .int .i64 a6], .agg #[.int .i64 b1, .int .i64 b2, .int .i64 b3, .int .i64 b4, .int .i64 b5, .int .i64 b6], .agg #[.int .i64 c1, .int .i64 c2, .int .i64 c3, .int .i64 c4, .int .i64 c5, .int .i64 c6], .int .i64 n] w fun e w' => e = .returned (.bool true) ∧ Below w.heap.size w w' := by
  go_enter Tryz.func16, Tryz.ntmps16
  go_wp2_with fail
  refine call_named (fun V => Below w.heap.size w V ∧ Hid (V.heap[w.heap.size]? = some (cellsOf ⟨a1, a2, a3, a4, a5, a6⟩)) ∧ Hid (V.heap[w.heap.size + 1]? = some (cellsOf ⟨b1, b2, b3, b4, b5, b6⟩)) ∧ Hid (V.heap[w.heap.size + 1 + 1]? = some (cellsOf ⟨c1, c2, c3, c4, c5, c6⟩))) (box_three _ _ _ _) ?_
  rintro X0 ⟨hB, K0, K1, K2⟩
  refine ((H1 _).out).mono ?_
  rintro r X1 ⟨rfl, hb⟩
  replace K0 := keepB hb K0
  replace K1 := keepB hb K1
  replace K2 := keepB hb K2
  replace hB := hB.trans (hb.mono hB.size)
  clear hb
  obtain ⟨t0_0, t0_1, t0_2, t0_3, t0_4, t0_5, t0_6, t0_7⟩ := cellsOf_at K0.out
  obtain ⟨t1_0, t1_1, t1_2, t1_3, t1_4, t1_5, t1_6, t1_7⟩ := cellsOf_at K1.out
  obtain ⟨t2_0, t2_1, t2_2, t2_3, t2_4, t2_5, t2_6, t2_7⟩ := cellsOf_at K2.out
  go_wp2_with fail
  try clear t0_0 t0_1 t0_2 t0_3 t0_4 t0_5 t0_6 t0_7 t1_0 t1_1 t1_2 t1_3 t1_4 t1_5 t1_6 t1_7 t2_0 t2_1 t2_2 t2_3 t2_4 t2_5 t2_6 t2_7
  refine ((H2 _).out).mono ?_
  rintro r X2 ⟨rfl, hb⟩
  replace K0 := keepB hb K0
  replace K1 := keepB hb K1
  replace K2 := keepB hb K2
  replace hB := hB.trans (hb.mono hB.size)
  clear hb
  obtain ⟨t0_0, t0_1, t0_2, t0_3, t0_4, t0_5, t0_6, t0_7⟩ := cellsOf_at K0.out
  obtain ⟨t1_0, t1_1, t1_2, t1_3, t1_4, t1_5, t1_6, t1_7⟩ := cellsOf_at K1.out
  obtain ⟨t2_0, t2_1, t2_2, t2_3, t2_4, t2_5, t2_6, t2_7⟩ := cellsOf_at K2.out
  go_wp2_with fail
  try clear t0_0 t0_1 t0_2 t0_3 t0_4 t0_5 t0_6 t0_7 t1_0 t1_1 t1_2 t1_3 t1_4 t1_5 t1_6 t1_7 t2_0 t2_1 t2_2 t2_3 t2_4 t2_5 t2_6 t2_7
  refine ((H3 _).out).mono ?_
  rintro r X3 ⟨rfl, hb⟩
  replace K0 := keepB hb K0
  replace K1 := keepB hb K1
  replace K2 := keepB hb K2
  replace hB := hB.trans (hb.mono hB.size)
  clear hb
  obtain ⟨B4, hB4⟩ : ∃ b, X3.heap.size = b := ⟨_, rfl⟩
  obtain ⟨t0_0, t0_1, t0_2, t0_3, t0_4, t0_5, t0_6, t0_7⟩ := cellsOf_at K0.out
  obtain ⟨t1_0, t1_1, t1_2, t1_3, t1_4, t1_5, t1_6, t1_7⟩ := cellsOf_at K1.out
  obtain ⟨t2_0, t2_1, t2_2, t2_3, t2_4, t2_5, t2_6, t2_7⟩ := cellsOf_at K2.out
  rw [hB4] at t0_7 t1_7 t2_7
  go_wp2_with fail
  try clear t0_0 t0_1 t0_2 t0_3 t0_4 t0_5 t0_6 t0_7 t1_0 t1_1 t1_2 t1_3 t1_4 t1_5 t1_6 t1_7 t2_0 t2_1 t2_2 t2_3 t2_4 t2_5 t2_6 t2_7
  try rw [hB4]
  refine call_named (fun V => Below w.heap.size w V ∧ Hid (V.heap[w.heap.size]? = some (cellsOf ⟨a1, a2, a3, a4, a5, a6⟩)) ∧ Hid (V.heap[w.heap.size + 1]? = some (cellsOf ⟨b1, b2, b3, b4, b5, b6⟩)) ∧ Hid (V.heap[w.heap.size + 1 + 1]? = some (cellsOf ⟨c1, c2, c3, c4, c5, c6⟩)) ∧ Hid (V.heap[B4]? = some (spanOf ⟨x1, x2⟩))) ⟨xa hB _, keepA K0 _, keepA K1 _, keepA K2 _, newA _ _ _ hB4⟩ ?_
  clear hB K0 K1 K2 hB4
  rintro V4 ⟨hB, K0, K1, K2, K4⟩
  refine ((H4 _).out).mono ?_
  rintro r X5 ⟨rfl, hb⟩
  replace K0 := keepB hb K0
  replace K1 := keepB hb K1
  replace K2 := keepB hb K2
  replace K4 := keepB hb K4
  replace hB := hB.trans (hb.mono hB.size)
  clear hb
  obtain ⟨B6, hB6⟩ : ∃ b, X5.heap.size = b := ⟨_, rfl⟩
  obtain ⟨t0_0, t0_1, t0_2, t0_3, t0_4, t0_5, t0_6, t0_7⟩ := cellsOf_at K0.out
  obtain ⟨t1_0, t1_1, t1_2, t1_3, t1_4, t1_5, t1_6, t1_7⟩ := cellsOf_at K1.out
  obtain ⟨t2_0, t2_1, t2_2, t2_3, t2_4, t2_5, t2_6, t2_7⟩ := cellsOf_at K2.out
  obtain ⟨t4_0, t4_1, t4_2, t4_3⟩ := span_at' K4.out
  rw [hB6] at t0_7 t1_7 t2_7 t4_3
  go_wp2_with fail
  try clear t0_0 t0_1 t0_2 t0_3 t0_4 t0_5 t0_6 t0_7 t1_0 t1_1 t1_2 t1_3 t1_4 t1_5 t1_6 t1_7 t2_0 t2_1 t2_2 t2_3 t2_4 t2_5 t2_6 t2_7 t4_0 t4_1 t4_2 t4_3
  try rw [hB6]
  refine call_named (fun V => Below w.heap.size w V ∧ Hid (V.heap[w.heap.size]? = some (cellsOf ⟨a1, a2, a3, a4, a5, a6⟩)) ∧ Hid (V.heap[w.heap.size + 1]? = some (cellsOf ⟨b1, b2, b3, b4, b5, b6⟩)) ∧ Hid (V.heap[w.heap.size + 1 + 1]? = some (cellsOf ⟨c1, c2, c3, c4, c5, c6⟩)) ∧ Hid (V.heap[B4]? = some (spanOf ⟨x1, x2⟩)) ∧ Hid (V.heap[B6]? = some (spanOf ⟨pl, ph⟩))) ⟨xa hB _, keepA K0 _, keepA K1 _, keepA K2 _, keepA K4 _, newA _ _ _ hB6⟩ ?_
  clear hB K0 K1 K2 K4 hB6
  rintro V6 ⟨hB, K0, K1, K2, K4, K6⟩
  refine ((H5 _).out).mono ?_
  rintro r X7 ⟨rfl, hb⟩
  replace K0 := keepB hb K0
  replace K1 := keepB hb K1
  replace K2 := keepB hb K2
  replace K4 := keepB hb K4
  replace K6 := keepB hb K6
  replace hB := hB.trans (hb.mono hB.size)
  clear hb
  obtain ⟨B8, hB8⟩ : ∃ b, X7.heap.size = b := ⟨_, rfl⟩
  obtain ⟨t0_0, t0_1, t0_2, t0_3, t0_4, t0_5, t0_6, t0_7⟩ := cellsOf_at K0.out
  obtain ⟨t1_0, t1_1, t1_2, t1_3, t1_4, t1_5, t1_6, t1_7⟩ := cellsOf_at K1.out
  obtain ⟨t2_0, t2_1, t2_2, t2_3, t2_4, t2_5, t2_6, t2_7⟩ := cellsOf_at K2.out
  obtain ⟨t4_0, t4_1, t4_2, t4_3⟩ := span_at' K4.out
  obtain ⟨t6_0, t6_1, t6_2, t6_3⟩ := span_at' K6.out
  rw [hB8] at t0_7 t1_7 t2_7 t4_3 t6_3
  go_wp2_with fail
  try clear t0_0 t0_1 t0_2 t0_3 t0_4 t0_5 t0_6 t0_7 t1_0 t1_1 t1_2 t1_3 t1_4 t1_5 t1_6 t1_7 t2_0 t2_1 t2_2 t2_3 t2_4 t2_5 t2_6 t2_7 t4_0 t4_1 t4_2 t4_3 t6_0 t6_1 t6_2 t6_3
  try rw [hB8]
  refine call_named (fun V => Below w.heap.size w V ∧ Hid (V.heap[w.heap.size]? = some (cellsOf ⟨a1, a2, a3, a4, a5, a6⟩)) ∧ Hid (V.heap[w.heap.size + 1]? = some (cellsOf ⟨b1, b2, b3, b4, b5, b6⟩)) ∧ Hid (V.heap[w.heap.size + 1 + 1]? = some (cellsOf ⟨c1, c2, c3, c4, c5, c6⟩)) ∧ Hid (V.heap[B4]? = some (spanOf ⟨x1, x2⟩)) ∧ Hid (V.heap[B6]? = some (spanOf ⟨pl, ph⟩)) ∧ Hid (V.heap[B8]? = some (spanOf ⟨ph + 1, qh⟩))) ⟨xa hB _, keepA K0 _, keepA K1 _, keepA K2 _, keepA K4 _, keepA K6 _, newA _ _ _ hB8⟩ ?_
  clear hB K0 K1 K2 K4 K6 hB8
  rintro V8 ⟨hB, K0, K1, K2, K4, K6, K8⟩
  refine ((H6 _).out).mono ?_
  rintro r X9 ⟨rfl, hb⟩
  replace K0 := keepB hb K0
  replace K1 := keepB hb K1
  replace K2 := keepB hb K2
  replace K4 := keepB hb K4
  replace K6 := keepB hb K6
  replace K8 := keepB hb K8
  replace hB := hB.trans (hb.mono hB.size)
  clear hb
  obtain ⟨B10, hB10⟩ : ∃ b, X9.heap.size = b := ⟨_, rfl⟩
  obtain ⟨t0_0, t0_1, t0_2, t0_3, t0_4, t0_5, t0_6, t0_7⟩ := cellsOf_at K0.out
  obtain ⟨t1_0, t1_1, t1_2, t1_3, t1_4, t1_5, t1_6, t1_7⟩ := cellsOf_at K1.out
  obtain ⟨t2_0, t2_1, t2_2, t2_3, t2_4, t2_5, t2_6, t2_7⟩ := cellsOf_at K2.out
  obtain ⟨t4_0, t4_1, t4_2, t4_3⟩ := span_at' K4.out
  obtain ⟨t6_0, t6_1, t6_2, t6_3⟩ := span_at' K6.out
  obtain ⟨t8_0, t8_1, t8_2, t8_3⟩ := span_at' K8.out
  rw [hB10] at t0_7 t1_7 t2_7 t4_3 t6_3 t8_3
  go_wp2_with fail
  try clear t0_0 t0_1 t0_2 t0_3 t0_4 t0_5 t0_6 t0_7 t1_0 t1_1 t1_2 t1_3 t1_4 t1_5 t1_6 t1_7 t2_0 t2_1 t2_2 t2_3 t2_4 t2_5 t2_6 t2_7 t4_0 t4_1 t4_2 t4_3 t6_0 t6_1 t6_2 t6_3 t8_0 t8_1 t8_2 t8_3
  try rw [hB10]
  refine call_named (fun V => Below w.heap.size w V ∧ Hid (V.heap[w.heap.size]? = some (cellsOf ⟨a1, a2, a3, a4, a5, a6⟩)) ∧ Hid (V.heap[w.heap.size + 1]? = some (cellsOf ⟨b1, b2, b3, b4, b5, b6⟩)) ∧ Hid (V.heap[w.heap.size + 1 + 1]? = some (cellsOf ⟨c1, c2, c3, c4, c5, c6⟩)) ∧ Hid (V.heap[B4]? = some (spanOf ⟨x1, x2⟩)) ∧ Hid (V.heap[B6]? = some (spanOf ⟨pl, ph⟩)) ∧ Hid (V.heap[B8]? = some (spanOf ⟨ph + 1, qh⟩)) ∧ Hid (V.heap[B10]? = some (spanOf ⟨y1, y2⟩))) ⟨xa hB _, keepA K0 _, keepA K1 _, keepA K2 _, keepA K4 _, keepA K6 _, keepA K8 _, newA _ _ _ hB10⟩ ?_
  clear hB K0 K1 K2 K4 K6 K8 hB10
  rintro V10 ⟨hB, K0, K1, K2, K4, K6, K8, K10⟩
  refine ((H7 _).out).mono ?_
  rintro r X11 ⟨rfl, hb⟩
  replace K0 := keepB hb K0
  replace K1 := keepB hb K1
  replace K2 := keepB hb K2
  replace K4 := keepB hb K4
  replace K6 := keepB hb K6
  replace K8 := keepB hb K8
  replace K10 := keepB hb K10
  replace hB := hB.trans (hb.mono hB.size)
  clear hb
  obtain ⟨B12, hB12⟩ : ∃ b, X11.heap.size = b := ⟨_, rfl⟩
  obtain ⟨t0_0, t0_1, t0_2, t0_3, t0_4, t0_5, t0_6, t0_7⟩ := cellsOf_at K0.out
  obtain ⟨t1_0, t1_1, t1_2, t1_3, t1_4, t1_5, t1_6, t1_7⟩ := cellsOf_at K1.out
  obtain ⟨t2_0, t2_1, t2_2, t2_3, t2_4, t2_5, t2_6, t2_7⟩ := cellsOf_at K2.out
  obtain ⟨t4_0, t4_1, t4_2, t4_3⟩ := span_at' K4.out
  obtain ⟨t6_0, t6_1, t6_2, t6_3⟩ := span_at' K6.out
  obtain ⟨t8_0, t8_1, t8_2, t8_3⟩ := span_at' K8.out
  obtain ⟨t10_0, t10_1, t10_2, t10_3⟩ := span_at' K10.out
  rw [hB12] at t0_7 t1_7 t2_7 t4_3 t6_3 t8_3 t10_3
  go_wp2_with fail
  try clear t0_0 t0_1 t0_2 t0_3 t0_4 t0_5 t0_6 t0_7 t1_0 t1_1 t1_2 t1_3 t1_4 t1_5 t1_6 t1_7 t2_0 t2_1 t2_2 t2_3 t2_4 t2_5 t2_6 t2_7 t4_0 t4_1 t4_2 t4_3 t6_0 t6_1 t6_2 t6_3 t8_0 t8_1 t8_2 t8_3 t10_0 t10_1 t10_2 t10_3
  try rw [hB12]
  refine call_named (fun V => Below w.heap.size w V ∧ Hid (V.heap[w.heap.size]? = some (cellsOf ⟨a1, a2, a3, a4, a5, a6⟩)) ∧ Hid (V.heap[w.heap.size + 1]? = some (cellsOf ⟨b1, b2, b3, b4, b5, b6⟩)) ∧ Hid (V.heap[w.heap.size + 1 + 1]? = some (cellsOf ⟨c1, c2, c3, c4, c5, c6⟩)) ∧ Hid (V.heap[B4]? = some (spanOf ⟨x1, x2⟩)) ∧ Hid (V.heap[B6]? = some (spanOf ⟨pl, ph⟩)) ∧ Hid (V.heap[B8]? = some (spanOf ⟨ph + 1, qh⟩)) ∧ Hid (V.heap[B10]? = some (spanOf ⟨y1, y2⟩)) ∧ Hid (V.heap[B12]? = some (spanOf ⟨s1, s2⟩))) ⟨xa hB _, keepA K0 _, keepA K1 _, keepA K2 _, keepA K4 _, keepA K6 _, keepA K8 _, keepA K10 _, newA _ _ _ hB12⟩ ?_
  clear hB K0 K1 K2 K4 K6 K8 K10 hB12
  rintro V12 ⟨hB, K0, K1, K2, K4, K6, K8, K10, K12⟩
  refine ((H8 _).out).mono ?_
  rintro r X13 ⟨rfl, hb⟩
  replace K0 := keepB hb K0
  replace K1 := keepB hb K1
  replace K2 := keepB hb K2
  replace K4 := keepB hb K4
  replace K6 := keepB hb K6
  replace K8 := keepB hb K8
  replace K10 := keepB hb K10
  replace K12 := keepB hb K12
  replace hB := hB.trans (hb.mono hB.size)
  clear hb
  obtain ⟨B14, hB14⟩ : ∃ b, X13.heap.size = b := ⟨_, rfl⟩
  obtain ⟨t0_0, t0_1, t0_2, t0_3, t0_4, t0_5, t0_6, t0_7⟩ := cellsOf_at K0.out
  obtain ⟨t1_0, t1_1, t1_2, t1_3, t1_4, t1_5, t1_6, t1_7⟩ := cellsOf_at K1.out
  obtain ⟨t2_0, t2_1, t2_2, t2_3, t2_4, t2_5, t2_6, t2_7⟩ := cellsOf_at K2.out
  obtain ⟨t4_0, t4_1, t4_2, t4_3⟩ := span_at' K4.out
  obtain ⟨t6_0, t6_1, t6_2, t6_3⟩ := span_at' K6.out
  obtain ⟨t8_0, t8_1, t8_2, t8_3⟩ := span_at' K8.out
  obtain ⟨t10_0, t10_1, t10_2, t10_3⟩ := span_at' K10.out
  obtain ⟨t12_0, t12_1, t12_2, t12_3⟩ := span_at' K12.out
  rw [hB14] at t0_7 t1_7 t2_7 t4_3 t6_3 t8_3 t10_3 t12_3
  go_wp2_with fail
  try clear t0_0 t0_1 t0_2 t0_3 t0_4 t0_5 t0_6 t0_7 t1_0 t1_1 t1_2 t1_3 t1_4 t1_5 t1_6 t1_7 t2_0 t2_1 t2_2 t2_3 t2_4 t2_5 t2_6 t2_7 t4_0 t4_1 t4_2 t4_3 t6_0 t6_1 t6_2 t6_3 t8_0 t8_1 t8_2 t8_3 t10_0 t10_1 t10_2 t10_3 t12_0 t12_1 t12_2 t12_3
  try rw [hB14]
  refine wp_named (fun V => Below w.heap.size w V ∧ Hid (V.heap[w.heap.size]? = some (cellsOf ⟨a1, a2, a3, a4, a5, a6⟩)) ∧ Hid (V.heap[w.heap.size + 1]? = some (cellsOf ⟨b1, b2, b3, b4, b5, b6⟩)) ∧ Hid (V.heap[w.heap.size + 1 + 1]? = some (cellsOf ⟨c1, c2, c3, c4, c5, c6⟩)) ∧ Hid (V.heap[B4]? = some (spanOf ⟨x1, x2⟩)) ∧ Hid (V.heap[B6]? = some (spanOf ⟨pl, ph⟩)) ∧ Hid (V.heap[B8]? = some (spanOf ⟨ph + 1, qh⟩)) ∧ Hid (V.heap[B10]? = some (spanOf ⟨y1, y2⟩)) ∧ Hid (V.heap[B12]? = some (spanOf ⟨s1, s2⟩)) ∧ Hid (V.heap[B14]? = some (spanOf ⟨t1, t2⟩))) ⟨xa hB _, keepA K0 _, keepA K1 _, keepA K2 _, keepA K4 _, keepA K6 _, keepA K8 _, keepA K10 _, keepA K12 _, newA _ _ _ hB14⟩ ?_
  clear hB K0 K1 K2 K4 K6 K8 K10 K12 hB14
  rintro V14 ⟨hB, K0, K1, K2, K4, K6, K8, K10, K12, K14⟩
  obtain ⟨t0_0, t0_1, t0_2, t0_3, t0_4, t0_5, t0_6, t0_7⟩ := cellsOf_at K0.out
  obtain ⟨t1_0, t1_1, t1_2, t1_3, t1_4, t1_5, t1_6, t1_7⟩ := cellsOf_at K1.out
  obtain ⟨t2_0, t2_1, t2_2, t2_3, t2_4, t2_5, t2_6, t2_7⟩ := cellsOf_at K2.out
  obtain ⟨t4_0, t4_1, t4_2, t4_3⟩ := span_at' K4.out
  obtain ⟨t6_0, t6_1, t6_2, t6_3⟩ := span_at' K6.out
  obtain ⟨t8_0, t8_1, t8_2, t8_3⟩ := span_at' K8.out
  obtain ⟨t10_0, t10_1, t10_2, t10_3⟩ := span_at' K10.out
  obtain ⟨t12_0, t12_1, t12_2, t12_3⟩ := span_at' K12.out
  obtain ⟨t14_0, t14_1, t14_2, t14_3⟩ := span_at' K14.out
  refine wp_region_gw (by kernel_rfl) (by kernel_rfl) ?_
  repeat (go_big_quiet_step (first | (go_at_call 22; exact gw_call (c22 _ (HE.out.below (hB.trans ((gw_below _ _).mono hB.size))) (HC.out.below (hB.trans ((gw_below _ _).mono hB.size)) HC.out.lt))) | (go_at_call 59; with_reducible exact gw_call (H9 _).out) | (go_at_call 59; with_reducible exact gw_call (HA _).out)))
  refine wpQuiet_nil ?_
  rintro _ ⟨Y15, rfl⟩
  try clear t0_0 t0_1 t0_2 t0_3 t0_4 t0_5 t0_6 t0_7 t1_0 t1_1 t1_2 t1_3 t1_4 t1_5 t1_6 t1_7 t2_0 t2_1 t2_2 t2_3 t2_4 t2_5 t2_6 t2_7 t4_0 t4_1 t4_2 t4_3 t6_0 t6_1 t6_2 t6_3 t8_0 t8_1 t8_2 t8_3 t10_0 t10_1 t10_2 t10_3 t12_0 t12_1 t12_2 t12_3 t14_0 t14_1 t14_2 t14_3
  replace K0 := keepB (gw_below V14 Y15) K0
  replace K1 := keepB (gw_below V14 Y15) K1
  replace K2 := keepB (gw_below V14 Y15) K2
  replace K4 := keepB (gw_below V14 Y15) K4
  replace K6 := keepB (gw_below V14 Y15) K6
  replace K8 := keepB (gw_below V14 Y15) K8
  replace K10 := keepB (gw_below V14 Y15) K10
  replace K12 := keepB (gw_below V14 Y15) K12
  replace K14 := keepB (gw_below V14 Y15) K14
  replace hB := hB.trans ((gw_below V14 Y15).mono hB.size)
  obtain ⟨Z16, hZ16⟩ : ∃ V, gw V14 Y15 = V := ⟨_, rfl⟩
  rw [hZ16] at hB K0 K1 K2 K4 K6 K8 K10 K12 K14 ⊢
  clear hZ16
  obtain ⟨t0_0, t0_1, t0_2, t0_3, t0_4, t0_5, t0_6, t0_7⟩ := cellsOf_at K0.out
  obtain ⟨t1_0, t1_1, t1_2, t1_3, t1_4, t1_5, t1_6, t1_7⟩ := cellsOf_at K1.out
  obtain ⟨t2_0, t2_1, t2_2, t2_3, t2_4, t2_5, t2_6, t2_7⟩ := cellsOf_at K2.out
  obtain ⟨t4_0, t4_1, t4_2, t4_3⟩ := span_at' K4.out
  obtain ⟨t6_0, t6_1, t6_2, t6_3⟩ := span_at' K6.out
  obtain ⟨t8_0, t8_1, t8_2, t8_3⟩ := span_at' K8.out
  obtain ⟨t10_0, t10_1, t10_2, t10_3⟩ := span_at' K10.out
  obtain ⟨t12_0, t12_1, t12_2, t12_3⟩ := span_at' K12.out
  obtain ⟨t14_0, t14_1, t14_2, t14_3⟩ := span_at' K14.out
  go_wp2_with fail
  go_ret
  exact ⟨rfl, hB⟩
set_option maxRecDepth 100000 in
set_option maxHeartbeats 8000000 in
theorem c16_ht (a1 a2 a3 a4 a5 a6 b1 b2 b3 b4 b5 b6 c1 c2 c3 c4 c5 c6 n x1 x2 pl ph qh ql h i y1 y2 s1 s2 t1 t2 r1 r2 : Int) (w : World) (hh : h ≠ 0) (p1 : 0 ≤ ph) (p2 : ph ≤ 60000) (HE : Hid (Env w)) (HC : Hid (Cell0 w)) (H1 : ∀ W, Hid (Calls Tryz.prog 49 #[.agg #[.int .i64 a1, .int .i64 a2, .int .i64 a3, .int .i64 a4, .int .i64 a5, .int .i64 a6], .agg #[.int .i64 b1, .int .i64 b2, .int .i64 b3, .int .i64 b4, .int .i64 b5, .int .i64 b6]] W fun r w' => r = .returned (.tuple #[.bool true, .int .i64 0]) ∧ Below W.heap.size W w')) (H2 : ∀ W, Hid (Calls Tryz.prog 49 #[.agg #[.int .i64 b1, .int .i64 b2, .int .i64 b3, .int .i64 b4, .int .i64 b5, .int .i64 b6], .agg #[.int .i64 c1, .int .i64 c2, .int .i64 c3, .int .i64 c4, .int .i64 c5, .int .i64 c6]] W fun r w' => r = .returned (.tuple #[.bool true, .int .i64 0]) ∧ Below W.heap.size W w')) (H3 : ∀ W, Hid (Calls Tryz.prog 50 #[.agg #[.int .i64 a1, .int .i64 a2, .int .i64 a3, .int .i64 a4, .int .i64 a5, .int .i64 a6], .agg #[.int .i64 b1, .int .i64 b2, .int .i64 b3, .int .i64 b4, .int .i64 b5, .int .i64 b6]] W fun r w' => r = .returned (.tuple #[.agg #[.int .i64 x1, .int .i64 x2], .int .i64 0]) ∧ Below W.heap.size W w')) (H4 : ∀ W, Hid (Calls Tryz.prog 58 #[.int .i64 a2, .int .i64 a3, .int .i64 n] W fun r w' => r = .returned (.tuple #[.agg #[.int .i64 pl, .int .i64 ph], .int .i64 h]) ∧ Below W.heap.size W w')) (H5 : ∀ W, Hid (Calls Tryz.prog 58 #[.int .i64 b2, .int .i64 b3, .int .i64 n] W fun r w' => r = .returned (.tuple #[.agg #[.int .i64 ql, .int .i64 qh], .int .i64 i]) ∧ Below W.heap.size W w')) (H6 : ∀ W, Hid (Calls Tryz.prog 50 #[.agg #[.int .i64 b1, .int .i64 b2, .int .i64 b3, .int .i64 b4, .int .i64 b5, .int .i64 b6], .agg #[.int .i64 c1, .int .i64 c2, .int .i64 c3, .int .i64 c4, .int .i64 c5, .int .i64 c6]] W fun r w' => r = .returned (.tuple #[.agg #[.int .i64 y1, .int .i64 y2], .int .i64 0]) ∧ Below W.heap.size W w')) (H7 : ∀ W, Hid (Calls Tryz.prog 43 #[.agg #[.int .i64 a1, .int .i64 a2, .int .i64 a3, .int .i64 a4, .int .i64 a5, .int .i64 a6]] W fun r w' => r = .returned (.tuple #[.agg #[.int .i64 s1, .int .i64 s2], .int .i64 0]) ∧ Below W.heap.size W w')) (H8 : ∀ W, Hid (Calls Tryz.prog 43 #[.agg #[.int .i64 c1, .int .i64 c2, .int .i64 c3, .int .i64 c4, .int .i64 c5, .int .i64 c6]] W fun r w' => r = .returned (.tuple #[.agg #[.int .i64 t1, .int .i64 t2], .int .i64 0]) ∧ Below W.heap.size W w')) (H9 : ∀ W, Hid (Calls Tryz.prog 59 #[.agg #[.int .i64 x1, .int .i64 x2], .agg #[.int .i64 t1, .int .i64 t2]] W fun r w' => r = .returned (.agg #[.int .i64 r1, .int .i64 r2]) ∧ Below W.heap.size W w')) (HA : ∀ W, Hid (Calls Tryz.prog 59 #[.agg #[.int .i64 s1, .int .i64 s2], .agg #[.int .i64 y1, .int .i64 y2]] W fun r w' => r = .returned (.agg #[.int .i64 r1, .int .i64 r2]) ∧ Below W.heap.size W w')) : Calls Tryz.prog 16 #[.agg #[.int .i64 a1, .int .i64 a2, .int .i64 a3, .int .i64 a4, .int .i64 a5, .int .i64 a6], .agg #[.int .i64 b1, .int .i64 b2, .int .i64 b3, .int .i64 b4, .int .i64 b5, .int .i64 b6], .agg #[.int .i64 c1, .int .i64 c2, .int .i64 c3, .int .i64 c4, .int .i64 c5, .int .i64 c6], .int .i64 n] w fun e w' => e = .returned (.bool true) ∧ Below w.heap.size w w' := by
  go_enter Tryz.func16, Tryz.ntmps16
  go_wp2_with fail
  refine call_named (fun V => Below w.heap.size w V ∧ Hid (V.heap[w.heap.size]? = some (cellsOf ⟨a1, a2, a3, a4, a5, a6⟩)) ∧ Hid (V.heap[w.heap.size + 1]? = some (cellsOf ⟨b1, b2, b3, b4, b5, b6⟩)) ∧ Hid (V.heap[w.heap.size + 1 + 1]? = some (cellsOf ⟨c1, c2, c3, c4, c5, c6⟩))) (box_three _ _ _ _) ?_
  rintro X0 ⟨hB, K0, K1, K2⟩
  refine ((H1 _).out).mono ?_
  rintro r X1 ⟨rfl, hb⟩
  replace K0 := keepB hb K0
  replace K1 := keepB hb K1
  replace K2 := keepB hb K2
  replace hB := hB.trans (hb.mono hB.size)
  clear hb
  obtain ⟨t0_0, t0_1, t0_2, t0_3, t0_4, t0_5, t0_6, t0_7⟩ := cellsOf_at K0.out
  obtain ⟨t1_0, t1_1, t1_2, t1_3, t1_4, t1_5, t1_6, t1_7⟩ := cellsOf_at K1.out
  obtain ⟨t2_0, t2_1, t2_2, t2_3, t2_4, t2_5, t2_6, t2_7⟩ := cellsOf_at K2.out
  go_wp2_with fail
  try clear t0_0 t0_1 t0_2 t0_3 t0_4 t0_5 t0_6 t0_7 t1_0 t1_1 t1_2 t1_3 t1_4 t1_5 t1_6 t1_7 t2_0 t2_1 t2_2 t2_3 t2_4 t2_5 t2_6 t2_7
  refine ((H2 _).out).mono ?_
  rintro r X2 ⟨rfl, hb⟩
  replace K0 := keepB hb K0
  replace K1 := keepB hb K1
  replace K2 := keepB hb K2
  replace hB := hB.trans (hb.mono hB.size)
  clear hb
  obtain ⟨t0_0, t0_1, t0_2, t0_3, t0_4, t0_5, t0_6, t0_7⟩ := cellsOf_at K0.out
  obtain ⟨t1_0, t1_1, t1_2, t1_3, t1_4, t1_5, t1_6, t1_7⟩ := cellsOf_at K1.out
  obtain ⟨t2_0, t2_1, t2_2, t2_3, t2_4, t2_5, t2_6, t2_7⟩ := cellsOf_at K2.out
  go_wp2_with fail
  try clear t0_0 t0_1 t0_2 t0_3 t0_4 t0_5 t0_6 t0_7 t1_0 t1_1 t1_2 t1_3 t1_4 t1_5 t1_6 t1_7 t2_0 t2_1 t2_2 t2_3 t2_4 t2_5 t2_6 t2_7
  refine ((H3 _).out).mono ?_
  rintro r X3 ⟨rfl, hb⟩
  replace K0 := keepB hb K0
  replace K1 := keepB hb K1
  replace K2 := keepB hb K2
  replace hB := hB.trans (hb.mono hB.size)
  clear hb
  obtain ⟨B4, hB4⟩ : ∃ b, X3.heap.size = b := ⟨_, rfl⟩
  obtain ⟨t0_0, t0_1, t0_2, t0_3, t0_4, t0_5, t0_6, t0_7⟩ := cellsOf_at K0.out
  obtain ⟨t1_0, t1_1, t1_2, t1_3, t1_4, t1_5, t1_6, t1_7⟩ := cellsOf_at K1.out
  obtain ⟨t2_0, t2_1, t2_2, t2_3, t2_4, t2_5, t2_6, t2_7⟩ := cellsOf_at K2.out
  rw [hB4] at t0_7 t1_7 t2_7
  go_wp2_with fail
  try clear t0_0 t0_1 t0_2 t0_3 t0_4 t0_5 t0_6 t0_7 t1_0 t1_1 t1_2 t1_3 t1_4 t1_5 t1_6 t1_7 t2_0 t2_1 t2_2 t2_3 t2_4 t2_5 t2_6 t2_7
  try rw [hB4]
  refine call_named (fun V => Below w.heap.size w V ∧ Hid (V.heap[w.heap.size]? = some (cellsOf ⟨a1, a2, a3, a4, a5, a6⟩)) ∧ Hid (V.heap[w.heap.size + 1]? = some (cellsOf ⟨b1, b2, b3, b4, b5, b6⟩)) ∧ Hid (V.heap[w.heap.size + 1 + 1]? = some (cellsOf ⟨c1, c2, c3, c4, c5, c6⟩)) ∧ Hid (V.heap[B4]? = some (spanOf ⟨x1, x2⟩))) ⟨xa hB _, keepA K0 _, keepA K1 _, keepA K2 _, newA _ _ _ hB4⟩ ?_
  clear hB K0 K1 K2 hB4
  rintro V4 ⟨hB, K0, K1, K2, K4⟩
  refine ((H4 _).out).mono ?_
  rintro r X5 ⟨rfl, hb⟩
  replace K0 := keepB hb K0
  replace K1 := keepB hb K1
  replace K2 := keepB hb K2
  replace K4 := keepB hb K4
  replace hB := hB.trans (hb.mono hB.size)
  clear hb
  obtain ⟨B6, hB6⟩ : ∃ b, X5.heap.size = b := ⟨_, rfl⟩
  obtain ⟨t0_0, t0_1, t0_2, t0_3, t0_4, t0_5, t0_6, t0_7⟩ := cellsOf_at K0.out
  obtain ⟨t1_0, t1_1, t1_2, t1_3, t1_4, t1_5, t1_6, t1_7⟩ := cellsOf_at K1.out
  obtain ⟨t2_0, t2_1, t2_2, t2_3, t2_4, t2_5, t2_6, t2_7⟩ := cellsOf_at K2.out
  obtain ⟨t4_0, t4_1, t4_2, t4_3⟩ := span_at' K4.out
  rw [hB6] at t0_7 t1_7 t2_7 t4_3
  go_wp2_with fail
  try clear t0_0 t0_1 t0_2 t0_3 t0_4 t0_5 t0_6 t0_7 t1_0 t1_1 t1_2 t1_3 t1_4 t1_5 t1_6 t1_7 t2_0 t2_1 t2_2 t2_3 t2_4 t2_5 t2_6 t2_7 t4_0 t4_1 t4_2 t4_3
  try rw [hB6]
  refine call_named (fun V => Below w.heap.size w V ∧ Hid (V.heap[w.heap.size]? = some (cellsOf ⟨a1, a2, a3, a4, a5, a6⟩)) ∧ Hid (V.heap[w.heap.size + 1]? = some (cellsOf ⟨b1, b2, b3, b4, b5, b6⟩)) ∧ Hid (V.heap[w.heap.size + 1 + 1]? = some (cellsOf ⟨c1, c2, c3, c4, c5, c6⟩)) ∧ Hid (V.heap[B4]? = some (spanOf ⟨x1, x2⟩)) ∧ Hid (V.heap[B6]? = some (spanOf ⟨pl, ph⟩))) ⟨xa hB _, keepA K0 _, keepA K1 _, keepA K2 _, keepA K4 _, newA _ _ _ hB6⟩ ?_
  clear hB K0 K1 K2 K4 hB6
  rintro V6 ⟨hB, K0, K1, K2, K4, K6⟩
  refine ((H5 _).out).mono ?_
  rintro r X7 ⟨rfl, hb⟩
  replace K0 := keepB hb K0
  replace K1 := keepB hb K1
  replace K2 := keepB hb K2
  replace K4 := keepB hb K4
  replace K6 := keepB hb K6
  replace hB := hB.trans (hb.mono hB.size)
  clear hb
  obtain ⟨B8, hB8⟩ : ∃ b, X7.heap.size = b := ⟨_, rfl⟩
  obtain ⟨t0_0, t0_1, t0_2, t0_3, t0_4, t0_5, t0_6, t0_7⟩ := cellsOf_at K0.out
  obtain ⟨t1_0, t1_1, t1_2, t1_3, t1_4, t1_5, t1_6, t1_7⟩ := cellsOf_at K1.out
  obtain ⟨t2_0, t2_1, t2_2, t2_3, t2_4, t2_5, t2_6, t2_7⟩ := cellsOf_at K2.out
  obtain ⟨t4_0, t4_1, t4_2, t4_3⟩ := span_at' K4.out
  obtain ⟨t6_0, t6_1, t6_2, t6_3⟩ := span_at' K6.out
  rw [hB8] at t0_7 t1_7 t2_7 t4_3 t6_3
  go_wp2_with fail
  try clear t0_0 t0_1 t0_2 t0_3 t0_4 t0_5 t0_6 t0_7 t1_0 t1_1 t1_2 t1_3 t1_4 t1_5 t1_6 t1_7 t2_0 t2_1 t2_2 t2_3 t2_4 t2_5 t2_6 t2_7 t4_0 t4_1 t4_2 t4_3 t6_0 t6_1 t6_2 t6_3
  try rw [hB8]
  refine call_named (fun V => Below w.heap.size w V ∧ Hid (V.heap[w.heap.size]? = some (cellsOf ⟨a1, a2, a3, a4, a5, a6⟩)) ∧ Hid (V.heap[w.heap.size + 1]? = some (cellsOf ⟨b1, b2, b3, b4, b5, b6⟩)) ∧ Hid (V.heap[w.heap.size + 1 + 1]? = some (cellsOf ⟨c1, c2, c3, c4, c5, c6⟩)) ∧ Hid (V.heap[B4]? = some (spanOf ⟨x1, x2⟩)) ∧ Hid (V.heap[B6]? = some (spanOf ⟨pl, ph⟩)) ∧ Hid (V.heap[B8]? = some (spanOf ⟨ql, qh⟩))) ⟨xa hB _, keepA K0 _, keepA K1 _, keepA K2 _, keepA K4 _, keepA K6 _, newA _ _ _ hB8⟩ ?_
  clear hB K0 K1 K2 K4 K6 hB8
  rintro V8 ⟨hB, K0, K1, K2, K4, K6, K8⟩
  refine ((H6 _).out).mono ?_
  rintro r X9 ⟨rfl, hb⟩
  replace K0 := keepB hb K0
  replace K1 := keepB hb K1
  replace K2 := keepB hb K2
  replace K4 := keepB hb K4
  replace K6 := keepB hb K6
  replace K8 := keepB hb K8
  replace hB := hB.trans (hb.mono hB.size)
  clear hb
  obtain ⟨B10, hB10⟩ : ∃ b, X9.heap.size = b := ⟨_, rfl⟩
  obtain ⟨t0_0, t0_1, t0_2, t0_3, t0_4, t0_5, t0_6, t0_7⟩ := cellsOf_at K0.out
  obtain ⟨t1_0, t1_1, t1_2, t1_3, t1_4, t1_5, t1_6, t1_7⟩ := cellsOf_at K1.out
  obtain ⟨t2_0, t2_1, t2_2, t2_3, t2_4, t2_5, t2_6, t2_7⟩ := cellsOf_at K2.out
  obtain ⟨t4_0, t4_1, t4_2, t4_3⟩ := span_at' K4.out
  obtain ⟨t6_0, t6_1, t6_2, t6_3⟩ := span_at' K6.out
  obtain ⟨t8_0, t8_1, t8_2, t8_3⟩ := span_at' K8.out
  rw [hB10] at t0_7 t1_7 t2_7 t4_3 t6_3 t8_3
  go_wp2_with fail
  try clear t0_0 t0_1 t0_2 t0_3 t0_4 t0_5 t0_6 t0_7 t1_0 t1_1 t1_2 t1_3 t1_4 t1_5 t1_6 t1_7 t2_0 t2_1 t2_2 t2_3 t2_4 t2_5 t2_6 t2_7 t4_0 t4_1 t4_2 t4_3 t6_0 t6_1 t6_2 t6_3 t8_0 t8_1 t8_2 t8_3
  try rw [hB10]
  refine call_named (fun V => Below w.heap.size w V ∧ Hid (V.heap[w.heap.size]? = some (cellsOf ⟨a1, a2, a3, a4, a5, a6⟩)) ∧ Hid (V.heap[w.heap.size + 1]? = some (cellsOf ⟨b1, b2, b3, b4, b5, b6⟩)) ∧ Hid (V.heap[w.heap.size + 1 + 1]? = some (cellsOf ⟨c1, c2, c3, c4, c5, c6⟩)) ∧ Hid (V.heap[B4]? = some (spanOf ⟨x1, x2⟩)) ∧ Hid (V.heap[B6]? = some (spanOf ⟨pl, ph⟩)) ∧ Hid (V.heap[B8]? = some (spanOf ⟨ql, qh⟩)) ∧ Hid (V.heap[B10]? = some (spanOf ⟨y1, y2⟩))) ⟨xa hB _, keepA K0 _, keepA K1 _, keepA K2 _, keepA K4 _, keepA K6 _, keepA K8 _, newA _ _ _ hB10⟩ ?_
  clear hB K0 K1 K2 K4 K6 K8 hB10
  rintro V10 ⟨hB, K0, K1, K2, K4, K6, K8, K10⟩
  refine ((H7 _).out).mono ?_
  rintro r X11 ⟨rfl, hb⟩
  replace K0 := keepB hb K0
  replace K1 := keepB hb K1
  replace K2 := keepB hb K2
  replace K4 := keepB hb K4
  replace K6 := keepB hb K6
  replace K8 := keepB hb K8
  replace K10 := keepB hb K10
  replace hB := hB.trans (hb.mono hB.size)
  clear hb
  obtain ⟨B12, hB12⟩ : ∃ b, X11.heap.size = b := ⟨_, rfl⟩
  obtain ⟨t0_0, t0_1, t0_2, t0_3, t0_4, t0_5, t0_6, t0_7⟩ := cellsOf_at K0.out
  obtain ⟨t1_0, t1_1, t1_2, t1_3, t1_4, t1_5, t1_6, t1_7⟩ := cellsOf_at K1.out
  obtain ⟨t2_0, t2_1, t2_2, t2_3, t2_4, t2_5, t2_6, t2_7⟩ := cellsOf_at K2.out
  obtain ⟨t4_0, t4_1, t4_2, t4_3⟩ := span_at' K4.out
  obtain ⟨t6_0, t6_1, t6_2, t6_3⟩ := span_at' K6.out
  obtain ⟨t8_0, t8_1, t8_2, t8_3⟩ := span_at' K8.out
  obtain ⟨t10_0, t10_1, t10_2, t10_3⟩ := span_at' K10.out
  rw [hB12] at t0_7 t1_7 t2_7 t4_3 t6_3 t8_3 t10_3
  go_wp2_with fail
  try clear t0_0 t0_1 t0_2 t0_3 t0_4 t0_5 t0_6 t0_7 t1_0 t1_1 t1_2 t1_3 t1_4 t1_5 t1_6 t1_7 t2_0 t2_1 t2_2 t2_3 t2_4 t2_5 t2_6 t2_7 t4_0 t4_1 t4_2 t4_3 t6_0 t6_1 t6_2 t6_3 t8_0 t8_1 t8_2 t8_3 t10_0 t10_1 t10_2 t10_3
  try rw [hB12]
  refine call_named (fun V => Below w.heap.size w V ∧ Hid (V.heap[w.heap.size]? = some (cellsOf ⟨a1, a2, a3, a4, a5, a6⟩)) ∧ Hid (V.heap[w.heap.size + 1]? = some (cellsOf ⟨b1, b2, b3, b4, b5, b6⟩)) ∧ Hid (V.heap[w.heap.size + 1 + 1]? = some (cellsOf ⟨c1, c2, c3, c4, c5, c6⟩)) ∧ Hid (V.heap[B4]? = some (spanOf ⟨x1, x2⟩)) ∧ Hid (V.heap[B6]? = some (spanOf ⟨pl, ph⟩)) ∧ Hid (V.heap[B8]? = some (spanOf ⟨ql, qh⟩)) ∧ Hid (V.heap[B10]? = some (spanOf ⟨y1, y2⟩)) ∧ Hid (V.heap[B12]? = some (spanOf ⟨s1, s2⟩))) ⟨xa hB _, keepA K0 _, keepA K1 _, keepA K2 _, keepA K4 _, keepA K6 _, keepA K8 _, keepA K10 _, newA _ _ _ hB12⟩ ?_
  clear hB K0 K1 K2 K4 K6 K8 K10 hB12
  rintro V12 ⟨hB, K0, K1, K2, K4, K6, K8, K10, K12⟩
  refine ((H8 _).out).mono ?_
  rintro r X13 ⟨rfl, hb⟩
  replace K0 := keepB hb K0
  replace K1 := keepB hb K1
  replace K2 := keepB hb K2
  replace K4 := keepB hb K4
  replace K6 := keepB hb K6
  replace K8 := keepB hb K8
  replace K10 := keepB hb K10
  replace K12 := keepB hb K12
  replace hB := hB.trans (hb.mono hB.size)
  clear hb
  obtain ⟨B14, hB14⟩ : ∃ b, X13.heap.size = b := ⟨_, rfl⟩
  obtain ⟨t0_0, t0_1, t0_2, t0_3, t0_4, t0_5, t0_6, t0_7⟩ := cellsOf_at K0.out
  obtain ⟨t1_0, t1_1, t1_2, t1_3, t1_4, t1_5, t1_6, t1_7⟩ := cellsOf_at K1.out
  obtain ⟨t2_0, t2_1, t2_2, t2_3, t2_4, t2_5, t2_6, t2_7⟩ := cellsOf_at K2.out
  obtain ⟨t4_0, t4_1, t4_2, t4_3⟩ := span_at' K4.out
  obtain ⟨t6_0, t6_1, t6_2, t6_3⟩ := span_at' K6.out
  obtain ⟨t8_0, t8_1, t8_2, t8_3⟩ := span_at' K8.out
  obtain ⟨t10_0, t10_1, t10_2, t10_3⟩ := span_at' K10.out
  obtain ⟨t12_0, t12_1, t12_2, t12_3⟩ := span_at' K12.out
  rw [hB14] at t0_7 t1_7 t2_7 t4_3 t6_3 t8_3 t10_3 t12_3
  go_wp2_with fail
  try clear t0_0 t0_1 t0_2 t0_3 t0_4 t0_5 t0_6 t0_7 t1_0 t1_1 t1_2 t1_3 t1_4 t1_5 t1_6 t1_7 t2_0 t2_1 t2_2 t2_3 t2_4 t2_5 t2_6 t2_7 t4_0 t4_1 t4_2 t4_3 t6_0 t6_1 t6_2 t6_3 t8_0 t8_1 t8_2 t8_3 t10_0 t10_1 t10_2 t10_3 t12_0 t12_1 t12_2 t12_3
  try rw [hB14]
  refine wp_named (fun V => Below w.heap.size w V ∧ Hid (V.heap[w.heap.size]? = some (cellsOf ⟨a1, a2, a3, a4, a5, a6⟩)) ∧ Hid (V.heap[w.heap.size + 1]? = some (cellsOf ⟨b1, b2, b3, b4, b5, b6⟩)) ∧ Hid (V.heap[w.heap.size + 1 + 1]? = some (cellsOf ⟨c1, c2, c3, c4, c5, c6⟩)) ∧ Hid (V.heap[B4]? = some (spanOf ⟨x1, x2⟩)) ∧ Hid (V.heap[B6]? = some (spanOf ⟨pl, ph⟩)) ∧ Hid (V.heap[B8]? = some (spanOf ⟨ql, qh⟩)) ∧ Hid (V.heap[B10]? = some (spanOf ⟨y1, y2⟩)) ∧ Hid (V.heap[B12]? = some (spanOf ⟨s1, s2⟩)) ∧ Hid (V.heap[B14]? = some (spanOf ⟨t1, t2⟩))) ⟨xa hB _, keepA K0 _, keepA K1 _, keepA K2 _, keepA K4 _, keepA K6 _, keepA K8 _, keepA K10 _, keepA K12 _, newA _ _ _ hB14⟩ ?_
  clear hB K0 K1 K2 K4 K6 K8 K10 K12 hB14
  rintro V14 ⟨hB, K0, K1, K2, K4, K6, K8, K10, K12, K14⟩
  obtain ⟨t0_0, t0_1, t0_2, t0_3, t0_4, t0_5, t0_6, t0_7⟩ := cellsOf_at K0.out
  obtain ⟨t1_0, t1_1, t1_2, t1_3, t1_4, t1_5, t1_6, t1_7⟩ := cellsOf_at K1.out
  obtain ⟨t2_0, t2_1, t2_2, t2_3, t2_4, t2_5, t2_6, t2_7⟩ := cellsOf_at K2.out
  obtain ⟨t4_0, t4_1, t4_2, t4_3⟩ := span_at' K4.out
  obtain ⟨t6_0, t6_1, t6_2, t6_3⟩ := span_at' K6.out
  obtain ⟨t8_0, t8_1, t8_2, t8_3⟩ := span_at' K8.out
  obtain ⟨t10_0, t10_1, t10_2, t10_3⟩ := span_at' K10.out
  obtain ⟨t12_0, t12_1, t12_2, t12_3⟩ := span_at' K12.out
  obtain ⟨t14_0, t14_1, t14_2, t14_3⟩ := span_at' K14.out
  refine wp_region_gw (by kernel_rfl) (by kernel_rfl) ?_
  repeat (go_big_quiet_step (first | (go_at_call 22; exact gw_call (c22 _ (HE.out.below (hB.trans ((gw_below _ _).mono hB.size))) (HC.out.below (hB.trans ((gw_below _ _).mono hB.size)) HC.out.lt))) | (go_at_call 59; with_reducible exact gw_call (H9 _).out) | (go_at_call 59; with_reducible exact gw_call (HA _).out)))
  refine wpQuiet_nil ?_
  rintro _ ⟨Y15, rfl⟩
  try clear t0_0 t0_1 t0_2 t0_3 t0_4 t0_5 t0_6 t0_7 t1_0 t1_1 t1_2 t1_3 t1_4 t1_5 t1_6 t1_7 t2_0 t2_1 t2_2 t2_3 t2_4 t2_5 t2_6 t2_7 t4_0 t4_1 t4_2 t4_3 t6_0 t6_1 t6_2 t6_3 t8_0 t8_1 t8_2 t8_3 t10_0 t10_1 t10_2 t10_3 t12_0 t12_1 t12_2 t12_3 t14_0 t14_1 t14_2 t14_3
  replace K0 := keepB (gw_below V14 Y15) K0
  replace K1 := keepB (gw_below V14 Y15) K1
  replace K2 := keepB (gw_below V14 Y15) K2
  replace K4 := keepB (gw_below V14 Y15) K4
  replace K6 := keepB (gw_below V14 Y15) K6
  replace K8 := keepB (gw_below V14 Y15) K8
  replace K10 := keepB (gw_below V14 Y15) K10
  replace K12 := keepB (gw_below V14 Y15) K12
  replace K14 := keepB (gw_below V14 Y15) K14
  replace hB := hB.trans ((gw_below V14 Y15).mono hB.size)
  obtain ⟨Z16, hZ16⟩ : ∃ V, gw V14 Y15 = V := ⟨_, rfl⟩
  rw [hZ16] at hB K0 K1 K2 K4 K6 K8 K10 K12 K14 ⊢
  clear hZ16
  obtain ⟨t0_0, t0_1, t0_2, t0_3, t0_4, t0_5, t0_6, t0_7⟩ := cellsOf_at K0.out
  obtain ⟨t1_0, t1_1, t1_2, t1_3, t1_4, t1_5, t1_6, t1_7⟩ := cellsOf_at K1.out
  obtain ⟨t2_0, t2_1, t2_2, t2_3, t2_4, t2_5, t2_6, t2_7⟩ := cellsOf_at K2.out
  obtain ⟨t4_0, t4_1, t4_2, t4_3⟩ := span_at' K4.out
  obtain ⟨t6_0, t6_1, t6_2, t6_3⟩ := span_at' K6.out
  obtain ⟨t8_0, t8_1, t8_2, t8_3⟩ := span_at' K8.out
  obtain ⟨t10_0, t10_1, t10_2, t10_3⟩ := span_at' K10.out
  obtain ⟨t12_0, t12_1, t12_2, t12_3⟩ := span_at' K12.out
  obtain ⟨t14_0, t14_1, t14_2, t14_3⟩ := span_at' K14.out
  go_wp2_with fail
  go_ret
  exact ⟨rfl, hB⟩
set_option maxRecDepth 100000 in
set_option maxHeartbeats 8000000 in
theorem c16_it (a1 a2 a3 a4 a5 a6 b1 b2 b3 b4 b5 b6 c1 c2 c3 c4 c5 c6 n x1 x2 pl ph qh ql i y1 y2 s1 s2 t1 t2 r1 r2 : Int) (w : World) (hi : i ≠ 0) (p1 : 0 ≤ ph) (p2 : ph ≤ 60000) (HE : Hid (Env w)) (HC : Hid (Cell0 w)) (H1 : ∀ W, Hid (Calls Tryz.prog 49 #[.agg #[.int .i64 a1, .int .i64 a2, .int .i64 a3, .int .i64 a4, .int .i64 a5, .int .i64 a6], .agg #[.int .i64 b1, .int .i64 b2, .int .i64 b3, .int .i64 b4, .int .i64 b5, .int .i64 b6]] W fun r w' => r = .returned (.tuple #[.bool true, .int .i64 0]) ∧ Below W.heap.size W w')) (H2 : ∀ W, Hid (Calls Tryz.prog 49 #[.agg #[.int .i64 b1, .int .i64 b2, .int .i64 b3, .int .i64 b4, .int .i64 b5, .int .i64 b6], .agg #[.int .i64 c1, .int .i64 c2, .int .i64 c3, .int .i64 c4, .int .i64 c5, .int .i64 c6]] W fun r w' => r = .returned (.tuple #[.bool true, .int .i64 0]) ∧ Below W.heap.size W w')) (H3 : ∀ W, Hid (Calls Tryz.prog 50 #[.agg #[.int .i64 a1, .int .i64 a2, .int .i64 a3, .int .i64 a4, .int .i64 a5, .int .i64 a6], .agg #[.int .i64 b1, .int .i64 b2, .int .i64 b3, .int .i64 b4, .int .i64 b5, .int .i64 b6]] W fun r w' => r = .returned (.tuple #[.agg #[.int .i64 x1, .int .i64 x2], .int .i64 0]) ∧ Below W.heap.size W w')) (H4 : ∀ W, Hid (Calls Tryz.prog 58 #[.int .i64 a2, .int .i64 a3, .int .i64 n] W fun r w' => r = .returned (.tuple #[.agg #[.int .i64 pl, .int .i64 ph], .int .i64 0]) ∧ Below W.heap.size W w')) (H5 : ∀ W, Hid (Calls Tryz.prog 58 #[.int .i64 b2, .int .i64 b3, .int .i64 n] W fun r w' => r = .returned (.tuple #[.agg #[.int .i64 ql, .int .i64 qh], .int .i64 i]) ∧ Below W.heap.size W w')) (H6 : ∀ W, Hid (Calls Tryz.prog 50 #[.agg #[.int .i64 b1, .int .i64 b2, .int .i64 b3, .int .i64 b4, .int .i64 b5, .int .i64 b6], .agg #[.int .i64 c1, .int .i64 c2, .int .i64 c3, .int .i64 c4, .int .i64 c5, .int .i64 c6]] W fun r w' => r = .returned (.tuple #[.agg #[.int .i64 y1, .int .i64 y2], .int .i64 0]) ∧ Below W.heap.size W w')) (H7 : ∀ W, Hid (Calls Tryz.prog 43 #[.agg #[.int .i64 a1, .int .i64 a2, .int .i64 a3, .int .i64 a4, .int .i64 a5, .int .i64 a6]] W fun r w' => r = .returned (.tuple #[.agg #[.int .i64 s1, .int .i64 s2], .int .i64 0]) ∧ Below W.heap.size W w')) (H8 : ∀ W, Hid (Calls Tryz.prog 43 #[.agg #[.int .i64 c1, .int .i64 c2, .int .i64 c3, .int .i64 c4, .int .i64 c5, .int .i64 c6]] W fun r w' => r = .returned (.tuple #[.agg #[.int .i64 t1, .int .i64 t2], .int .i64 0]) ∧ Below W.heap.size W w')) (H9 : ∀ W, Hid (Calls Tryz.prog 59 #[.agg #[.int .i64 x1, .int .i64 x2], .agg #[.int .i64 t1, .int .i64 t2]] W fun r w' => r = .returned (.agg #[.int .i64 r1, .int .i64 r2]) ∧ Below W.heap.size W w')) (HA : ∀ W, Hid (Calls Tryz.prog 59 #[.agg #[.int .i64 s1, .int .i64 s2], .agg #[.int .i64 y1, .int .i64 y2]] W fun r w' => r = .returned (.agg #[.int .i64 r1, .int .i64 r2]) ∧ Below W.heap.size W w')) : Calls Tryz.prog 16 #[.agg #[.int .i64 a1, .int .i64 a2, .int .i64 a3, .int .i64 a4, .int .i64 a5, .int .i64 a6], .agg #[.int .i64 b1, .int .i64 b2, .int .i64 b3, .int .i64 b4, .int .i64 b5, .int .i64 b6], .agg #[.int .i64 c1, .int .i64 c2, .int .i64 c3, .int .i64 c4, .int .i64 c5, .int .i64 c6], .int .i64 n] w fun e w' => e = .returned (.bool true) ∧ Below w.heap.size w w' := by
  go_enter Tryz.func16, Tryz.ntmps16
  go_wp2_with fail
  refine call_named (fun V => Below w.heap.size w V ∧ Hid (V.heap[w.heap.size]? = some (cellsOf ⟨a1, a2, a3, a4, a5, a6⟩)) ∧ Hid (V.heap[w.heap.size + 1]? = some (cellsOf ⟨b1, b2, b3, b4, b5, b6⟩)) ∧ Hid (V.heap[w.heap.size + 1 + 1]? = some (cellsOf ⟨c1, c2, c3, c4, c5, c6⟩))) (box_three _ _ _ _) ?_
  rintro X0 ⟨hB, K0, K1, K2⟩
  refine ((H1 _).out).mono ?_
  rintro r X1 ⟨rfl, hb⟩
  replace K0 := keepB hb K0
  replace K1 := keepB hb K1
  replace K2 := keepB hb K2
  replace hB := hB.trans (hb.mono hB.size)
  clear hb
  obtain ⟨t0_0, t0_1, t0_2, t0_3, t0_4, t0_5, t0_6, t0_7⟩ := cellsOf_at K0.out
  obtain ⟨t1_0, t1_1, t1_2, t1_3, t1_4, t1_5, t1_6, t1_7⟩ := cellsOf_at K1.out
  obtain ⟨t2_0, t2_1, t2_2, t2_3, t2_4, t2_5, t2_6, t2_7⟩ := cellsOf_at K2.out
  go_wp2_with fail
  try clear t0_0 t0_1 t0_2 t0_3 t0_4 t0_5 t0_6 t0_7 t1_0 t1_1 t1_2 t1_3 t1_4 t1_5 t1_6 t1_7 t2_0 t2_1 t2_2 t2_3 t2_4 t2_5 t2_6 t2_7
  refine ((H2 _).out).mono ?_
  rintro r X2 ⟨rfl, hb⟩
  replace K0 := keepB hb K0
  replace K1 := keepB hb K1
  replace K2 := keepB hb K2
  replace hB := hB.trans (hb.mono hB.size)
  clear hb
  obtain ⟨t0_0, t0_1, t0_2, t0_3, t0_4, t0_5, t0_6, t0_7⟩ := cellsOf_at K0.out
  obtain ⟨t1_0, t1_1, t1_2, t1_3, t1_4, t1_5, t1_6, t1_7⟩ := cellsOf_at K1.out
  obtain ⟨t2_0, t2_1, t2_2, t2_3, t2_4, t2_5, t2_6, t2_7⟩ := cellsOf_at K2.out
  go_wp2_with fail
  try clear t0_0 t0_1 t0_2 t0_3 t0_4 t0_5 t0_6 t0_7 t1_0 t1_1 t1_2 t1_3 t1_4 t1_5 t1_6 t1_7 t2_0 t2_1 t2_2 t2_3 t2_4 t2_5 t2_6 t2_7
  refine ((H3 _).out).mono ?_
  rintro r X3 ⟨rfl, hb⟩
  replace K0 := keepB hb K0
  replace K1 := keepB hb K1
  replace K2 := keepB hb K2
  replace hB := hB.trans (hb.mono hB.size)
  clear hb
  obtain ⟨B4, hB4⟩ : ∃ b, X3.heap.size = b := ⟨_, rfl⟩
  obtain ⟨t0_0, t0_1, t0_2, t0_3, t0_4, t0_5, t0_6, t0_7⟩ := cellsOf_at K0.out
  obtain ⟨t1_0, t1_1, t1_2, t1_3, t1_4, t1_5, t1_6, t1_7⟩ := cellsOf_at K1.out
  obtain ⟨t2_0, t2_1, t2_2, t2_3, t2_4, t2_5, t2_6, t2_7⟩ := cellsOf_at K2.out
  rw [hB4] at t0_7 t1_7 t2_7
  go_wp2_with fail
  try clear t0_0 t0_1 t0_2 t0_3 t0_4 t0_5 t0_6 t0_7 t1_0 t1_1 t1_2 t1_3 t1_4 t1_5 t1_6 t1_7 t2_0 t2_1 t2_2 t2_3 t2_4 t2_5 t2_6 t2_7
  try rw [hB4]
  refine call_named (fun V => Below w.heap.size w V ∧ Hid (V.heap[w.heap.size]? = some (cellsOf ⟨a1, a2, a3, a4, a5, a6⟩)) ∧ Hid (V.heap[w.heap.size + 1]? = some (cellsOf ⟨b1, b2, b3, b4, b5, b6⟩)) ∧ Hid (V.heap[w.heap.size + 1 + 1]? = some (cellsOf ⟨c1, c2, c3, c4, c5, c6⟩)) ∧ Hid (V.heap[B4]? = some (spanOf ⟨x1, x2⟩))) ⟨xa hB _, keepA K0 _, keepA K1 _, keepA K2 _, newA _ _ _ hB4⟩ ?_
  clear hB K0 K1 K2 hB4
  rintro V4 ⟨hB, K0, K1, K2, K4⟩
  refine ((H4 _).out).mono ?_
  rintro r X5 ⟨rfl, hb⟩
  replace K0 := keepB hb K0
  replace K1 := keepB hb K1
  replace K2 := keepB hb K2
  replace K4 := keepB hb K4
  replace hB := hB.trans (hb.mono hB.size)
  clear hb
  obtain ⟨B6, hB6⟩ : ∃ b, X5.heap.size = b := ⟨_, rfl⟩
  obtain ⟨t0_0, t0_1, t0_2, t0_3, t0_4, t0_5, t0_6, t0_7⟩ := cellsOf_at K0.out
  obtain ⟨t1_0, t1_1, t1_2, t1_3, t1_4, t1_5, t1_6, t1_7⟩ := cellsOf_at K1.out
  obtain ⟨t2_0, t2_1, t2_2, t2_3, t2_4, t2_5, t2_6, t2_7⟩ := cellsOf_at K2.out
  obtain ⟨t4_0, t4_1, t4_2, t4_3⟩ := span_at' K4.out
  rw [hB6] at t0_7 t1_7 t2_7 t4_3
  go_wp2_with fail
  try clear t0_0 t0_1 t0_2 t0_3 t0_4 t0_5 t0_6 t0_7 t1_0 t1_1 t1_2 t1_3 t1_4 t1_5 t1_6 t1_7 t2_0 t2_1 t2_2 t2_3 t2_4 t2_5 t2_6 t2_7 t4_0 t4_1 t4_2 t4_3
  try rw [hB6]
  refine call_named (fun V => Below w.heap.size w V ∧ Hid (V.heap[w.heap.size]? = some (cellsOf ⟨a1, a2, a3, a4, a5, a6⟩)) ∧ Hid (V.heap[w.heap.size + 1]? = some (cellsOf ⟨b1, b2, b3, b4, b5, b6⟩)) ∧ Hid (V.heap[w.heap.size + 1 + 1]? = some (cellsOf ⟨c1, c2, c3, c4, c5, c6⟩)) ∧ Hid (V.heap[B4]? = some (spanOf ⟨x1, x2⟩)) ∧ Hid (V.heap[B6]? = some (spanOf ⟨pl, ph⟩))) ⟨xa hB _, keepA K0 _, keepA K1 _, keepA K2 _, keepA K4 _, newA _ _ _ hB6⟩ ?_
  clear hB K0 K1 K2 K4 hB6
  rintro V6 ⟨hB, K0, K1, K2, K4, K6⟩
  refine ((H5 _).out).mono ?_
  rintro r X7 ⟨rfl, hb⟩
  replace K0 := keepB hb K0
  replace K1 := keepB hb K1
  replace K2 := keepB hb K2
  replace K4 := keepB hb K4
  replace K6 := keepB hb K6
  replace hB := hB.trans (hb.mono hB.size)
  clear hb
  obtain ⟨B8, hB8⟩ : ∃ b, X7.heap.size = b := ⟨_, rfl⟩
  obtain ⟨t0_0, t0_1, t0_2, t0_3, t0_4, t0_5, t0_6, t0_7⟩ := cellsOf_at K0.out
  obtain ⟨t1_0, t1_1, t1_2, t1_3, t1_4, t1_5, t1_6, t1_7⟩ := cellsOf_at K1.out
  obtain ⟨t2_0, t2_1, t2_2, t2_3, t2_4, t2_5, t2_6, t2_7⟩ := cellsOf_at K2.out
  obtain ⟨t4_0, t4_1, t4_2, t4_3⟩ := span_at' K4.out
  obtain ⟨t6_0, t6_1, t6_2, t6_3⟩ := span_at' K6.out
  rw [hB8] at t0_7 t1_7 t2_7 t4_3 t6_3
  go_wp2_with fail
  try clear t0_0 t0_1 t0_2 t0_3 t0_4 t0_5 t0_6 t0_7 t1_0 t1_1 t1_2 t1_3 t1_4 t1_5 t1_6 t1_7 t2_0 t2_1 t2_2 t2_3 t2_4 t2_5 t2_6 t2_7 t4_0 t4_1 t4_2 t4_3 t6_0 t6_1 t6_2 t6_3
  try rw [hB8]
  refine call_named (fun V => Below w.heap.size w V ∧ Hid (V.heap[w.heap.size]? = some (cellsOf ⟨a1, a2, a3, a4, a5, a6⟩)) ∧ Hid (V.heap[w.heap.size + 1]? = some (cellsOf ⟨b1, b2, b3, b4, b5, b6⟩)) ∧ Hid (V.heap[w.heap.size + 1 + 1]? = some (cellsOf ⟨c1, c2, c3, c4, c5, c6⟩)) ∧ Hid (V.heap[B4]? = some (spanOf ⟨x1, x2⟩)) ∧ Hid (V.heap[B6]? = some (spanOf ⟨pl, ph⟩)) ∧ Hid (V.heap[B8]? = some (spanOf ⟨ql, qh⟩))) ⟨xa hB _, keepA K0 _, keepA K1 _, keepA K2 _, keepA K4 _, keepA K6 _, newA _ _ _ hB8⟩ ?_
  clear hB K0 K1 K2 K4 K6 hB8
  rintro V8 ⟨hB, K0, K1, K2, K4, K6, K8⟩
  refine ((H6 _).out).mono ?_
  rintro r X9 ⟨rfl, hb⟩
  replace K0 := keepB hb K0
  replace K1 := keepB hb K1
  replace K2 := keepB hb K2
  replace K4 := keepB hb K4
  replace K6 := keepB hb K6
  replace K8 := keepB hb K8
  replace hB := hB.trans (hb.mono hB.size)
  clear hb
  obtain ⟨B10, hB10⟩ : ∃ b, X9.heap.size = b := ⟨_, rfl⟩
  obtain ⟨t0_0, t0_1, t0_2, t0_3, t0_4, t0_5, t0_6, t0_7⟩ := cellsOf_at K0.out
  obtain ⟨t1_0, t1_1, t1_2, t1_3, t1_4, t1_5, t1_6, t1_7⟩ := cellsOf_at K1.out
  obtain ⟨t2_0, t2_1, t2_2, t2_3, t2_4, t2_5, t2_6, t2_7⟩ := cellsOf_at K2.out
  obtain ⟨t4_0, t4_1, t4_2, t4_3⟩ := span_at' K4.out
  obtain ⟨t6_0, t6_1, t6_2, t6_3⟩ := span_at' K6.out
  obtain ⟨t8_0, t8_1, t8_2, t8_3⟩ := span_at' K8.out
  rw [hB10] at t0_7 t1_7 t2_7 t4_3 t6_3 t8_3
  go_wp2_with fail
  try clear t0_0 t0_1 t0_2 t0_3 t0_4 t0_5 t0_6 t0_7 t1_0 t1_1 t1_2 t1_3 t1_4 t1_5 t1_6 t1_7 t2_0 t2_1 t2_2 t2_3 t2_4 t2_5 t2_6 t2_7 t4_0 t4_1 t4_2 t4_3 t6_0 t6_1 t6_2 t6_3 t8_0 t8_1 t8_2 t8_3
  try rw [hB10]
  refine call_named (fun V => Below w.heap.size w V ∧ Hid (V.heap[w.heap.size]? = some (cellsOf ⟨a1, a2, a3, a4, a5, a6⟩)) ∧ Hid (V.heap[w.heap.size + 1]? = some (cellsOf ⟨b1, b2, b3, b4, b5, b6⟩)) ∧ Hid (V.heap[w.heap.size + 1 + 1]? = some (cellsOf ⟨c1, c2, c3, c4, c5, c6⟩)) ∧ Hid (V.heap[B4]? = some (spanOf ⟨x1, x2⟩)) ∧ Hid (V.heap[B6]? = some (spanOf ⟨pl, ph⟩)) ∧ Hid (V.heap[B8]? = some (spanOf ⟨ql, qh⟩)) ∧ Hid (V.heap[B10]? = some (spanOf ⟨y1, y2⟩))) ⟨xa hB _, keepA K0 _, keepA K1 _, keepA K2 _, keepA K4 _, keepA K6 _, keepA K8 _, newA _ _ _ hB10⟩ ?_
  clear hB K0 K1 K2 K4 K6 K8 hB10
  rintro V10 ⟨hB, K0, K1, K2, K4, K6, K8, K10⟩
  refine ((H7 _).out).mono ?_
  rintro r X11 ⟨rfl, hb⟩
  replace K0 := keepB hb K0
  replace K1 := keepB hb K1
  replace K2 := keepB hb K2
  replace K4 := keepB hb K4
  replace K6 := keepB hb K6
  replace K8 := keepB hb K8
  replace K10 := keepB hb K10
  replace hB := hB.trans (hb.mono hB.size)
  clear hb
  obtain ⟨B12, hB12⟩ : ∃ b, X11.heap.size = b := ⟨_, rfl⟩
  obtain ⟨t0_0, t0_1, t0_2, t0_3, t0_4, t0_5, t0_6, t0_7⟩ := cellsOf_at K0.out
  obtain ⟨t1_0, t1_1, t1_2, t1_3, t1_4, t1_5, t1_6, t1_7⟩ := cellsOf_at K1.out
  obtain ⟨t2_0, t2_1, t2_2, t2_3, t2_4, t2_5, t2_6, t2_7⟩ := cellsOf_at K2.out
  obtain ⟨t4_0, t4_1, t4_2, t4_3⟩ := span_at' K4.out
  obtain ⟨t6_0, t6_1, t6_2, t6_3⟩ := span_at' K6.out
  obtain ⟨t8_0, t8_1, t8_2, t8_3⟩ := span_at' K8.out
  obtain ⟨t10_0, t10_1, t10_2, t10_3⟩ := span_at' K10.out
  rw [hB12] at t0_7 t1_7 t2_7 t4_3 t6_3 t8_3 t10_3
  go_wp2_with fail
  try clear t0_0 t0_1 t0_2 t0_3 t0_4 t0_5 t0_6 t0_7 t1_0 t1_1 t1_2 t1_3 t1_4 t1_5 t1_6 t1_7 t2_0 t2_1 t2_2 t2_3 t2_4 t2_5 t2_6 t2_7 t4_0 t4_1 t4_2 t4_3 t6_0 t6_1 t6_2 t6_3 t8_0 t8_1 t8_2 t8_3 t10_0 t10_1 t10_2 t10_3
  try rw [hB12]
  refine call_named (fun V => Below w.heap.size w V ∧ Hid (V.heap[w.heap.size]? = some (cellsOf ⟨a1, a2, a3, a4, a5, a6⟩)) ∧ Hid (V.heap[w.heap.size + 1]? = some (cellsOf ⟨b1, b2, b3, b4, b5, b6⟩)) ∧ Hid (V.heap[w.heap.size + 1 + 1]? = some (cellsOf ⟨c1, c2, c3, c4, c5, c6⟩)) ∧ Hid (V.heap[B4]? = some (spanOf ⟨x1, x2⟩)) ∧ Hid (V.heap[B6]? = some (spanOf ⟨pl, ph⟩)) ∧ Hid (V.heap[B8]? = some (spanOf ⟨ql, qh⟩)) ∧ Hid (V.heap[B10]? = some (spanOf ⟨y1, y2⟩)) ∧ Hid (V.heap[B12]? = some (spanOf ⟨s1, s2⟩))) ⟨xa hB _, keepA K0 _, keepA K1 _, keepA K2 _, keepA K4 _, keepA K6 _, keepA K8 _, keepA K10 _, newA _ _ _ hB12⟩ ?_
  clear hB K0 K1 K2 K4 K6 K8 K10 hB12
  rintro V12 ⟨hB, K0, K1, K2, K4, K6, K8, K10, K12⟩
  refine ((H8 _).out).mono ?_
  rintro r X13 ⟨rfl, hb⟩
  replace K0 := keepB hb K0
  replace K1 := keepB hb K1
  replace K2 := keepB hb K2
  replace K4 := keepB hb K4
  replace K6 := keepB hb K6
  replace K8 := keepB hb K8
  replace K10 := keepB hb K10
  replace K12 := keepB hb K12
  replace hB := hB.trans (hb.mono hB.size)
  clear hb
  obtain ⟨B14, hB14⟩ : ∃ b, X13.heap.size = b := ⟨_, rfl⟩
  obtain ⟨t0_0, t0_1, t0_2, t0_3, t0_4, t0_5, t0_6, t0_7⟩ := cellsOf_at K0.out
  obtain ⟨t1_0, t1_1, t1_2, t1_3, t1_4, t1_5, t1_6, t1_7⟩ := cellsOf_at K1.out
  obtain ⟨t2_0, t2_1, t2_2, t2_3, t2_4, t2_5, t2_6, t2_7⟩ := cellsOf_at K2.out
  obtain ⟨t4_0, t4_1, t4_2, t4_3⟩ := span_at' K4.out
  obtain ⟨t6_0, t6_1, t6_2, t6_3⟩ := span_at' K6.out
  obtain ⟨t8_0, t8_1, t8_2, t8_3⟩ := span_at' K8.out
  obtain ⟨t10_0, t10_1, t10_2, t10_3⟩ := span_at' K10.out
  obtain ⟨t12_0, t12_1, t12_2, t12_3⟩ := span_at' K12.out
  rw [hB14] at t0_7 t1_7 t2_7 t4_3 t6_3 t8_3 t10_3 t12_3
  go_wp2_with fail
  try clear t0_0 t0_1 t0_2 t0_3 t0_4 t0_5 t0_6 t0_7 t1_0 t1_1 t1_2 t1_3 t1_4 t1_5 t1_6 t1_7 t2_0 t2_1 t2_2 t2_3 t2_4 t2_5 t2_6 t2_7 t4_0 t4_1 t4_2 t4_3 t6_0 t6_1 t6_2 t6_3 t8_0 t8_1 t8_2 t8_3 t10_0 t10_1 t10_2 t10_3 t12_0 t12_1 t12_2 t12_3
  try rw [hB14]
  refine wp_named (fun V => Below w.heap.size w V ∧ Hid (V.heap[w.heap.size]? = some (cellsOf ⟨a1, a2, a3, a4, a5, a6⟩)) ∧ Hid (V.heap[w.heap.size + 1]? = some (cellsOf ⟨b1, b2, b3, b4, b5, b6⟩)) ∧ Hid (V.heap[w.heap.size + 1 + 1]? = some (cellsOf ⟨c1, c2, c3, c4, c5, c6⟩)) ∧ Hid (V.heap[B4]? = some (spanOf ⟨x1, x2⟩)) ∧ Hid (V.heap[B6]? = some (spanOf ⟨pl, ph⟩)) ∧ Hid (V.heap[B8]? = some (spanOf ⟨ql, qh⟩)) ∧ Hid (V.heap[B10]? = some (spanOf ⟨y1, y2⟩)) ∧ Hid (V.heap[B12]? = some (spanOf ⟨s1, s2⟩)) ∧ Hid (V.heap[B14]? = some (spanOf ⟨t1, t2⟩))) ⟨xa hB _, keepA K0 _, keepA K1 _, keepA K2 _, keepA K4 _, keepA K6 _, keepA K8 _, keepA K10 _, keepA K12 _, newA _ _ _ hB14⟩ ?_
  clear hB K0 K1 K2 K4 K6 K8 K10 K12 hB14
  rintro V14 ⟨hB, K0, K1, K2, K4, K6, K8, K10, K12, K14⟩
  obtain ⟨t0_0, t0_1, t0_2, t0_3, t0_4, t0_5, t0_6, t0_7⟩ := cellsOf_at K0.out
  obtain ⟨t1_0, t1_1, t1_2, t1_3, t1_4, t1_5, t1_6, t1_7⟩ := cellsOf_at K1.out
  obtain ⟨t2_0, t2_1, t2_2, t2_3, t2_4, t2_5, t2_6, t2_7⟩ := cellsOf_at K2.out
  obtain ⟨t4_0, t4_1, t4_2, t4_3⟩ := span_at' K4.out
  obtain ⟨t6_0, t6_1, t6_2, t6_3⟩ := span_at' K6.out
  obtain ⟨t8_0, t8_1, t8_2, t8_3⟩ := span_at' K8.out
  obtain ⟨t10_0, t10_1, t10_2, t10_3⟩ := span_at' K10.out
  obtain ⟨t12_0, t12_1, t12_2, t12_3⟩ := span_at' K12.out
  obtain ⟨t14_0, t14_1, t14_2, t14_3⟩ := span_at' K14.out
  refine wp_region_gw (by kernel_rfl) (by kernel_rfl) ?_
  repeat (go_big_quiet_step (first | (go_at_call 22; exact gw_call (c22 _ (HE.out.below (hB.trans ((gw_below _ _).mono hB.size))) (HC.out.below (hB.trans ((gw_below _ _).mono hB.size)) HC.out.lt))) | (go_at_call 59; with_reducible exact gw_call (H9 _).out) | (go_at_call 59; with_reducible exact gw_call (HA _).out)))
  refine wpQuiet_nil ?_
  rintro _ ⟨Y15, rfl⟩
  try clear t0_0 t0_1 t0_2 t0_3 t0_4 t0_5 t0_6 t0_7 t1_0 t1_1 t1_2 t1_3 t1_4 t1_5 t1_6 t1_7 t2_0 t2_1 t2_2 t2_3 t2_4 t2_5 t2_6 t2_7 t4_0 t4_1 t4_2 t4_3 t6_0 t6_1 t6_2 t6_3 t8_0 t8_1 t8_2 t8_3 t10_0 t10_1 t10_2 t10_3 t12_0 t12_1 t12_2 t12_3 t14_0 t14_1 t14_2 t14_3
  replace K0 := keepB (gw_below V14 Y15) K0
  replace K1 := keepB (gw_below V14 Y15) K1
  replace K2 := keepB (gw_below V14 Y15) K2
  replace K4 := keepB (gw_below V14 Y15) K4
  replace K6 := keepB (gw_below V14 Y15) K6
  replace K8 := keepB (gw_below V14 Y15) K8
  replace K10 := keepB (gw_below V14 Y15) K10
  replace K12 := keepB (gw_below V14 Y15) K12
  replace K14 := keepB (gw_below V14 Y15) K14
  replace hB := hB.trans ((gw_below V14 Y15).mono hB.size)
  obtain ⟨Z16, hZ16⟩ : ∃ V, gw V14 Y15 = V := ⟨_, rfl⟩
  rw [hZ16] at hB K0 K1 K2 K4 K6 K8 K10 K12 K14 ⊢
  clear hZ16
  obtain ⟨t0_0, t0_1, t0_2, t0_3, t0_4, t0_5, t0_6, t0_7⟩ := cellsOf_at K0.out
  obtain ⟨t1_0, t1_1, t1_2, t1_3, t1_4, t1_5, t1_6, t1_7⟩ := cellsOf_at K1.out
  obtain ⟨t2_0, t2_1, t2_2, t2_3, t2_4, t2_5, t2_6, t2_7⟩ := cellsOf_at K2.out
  obtain ⟨t4_0, t4_1, t4_2, t4_3⟩ := span_at' K4.out
  obtain ⟨t6_0, t6_1, t6_2, t6_3⟩ := span_at' K6.out
  obtain ⟨t8_0, t8_1, t8_2, t8_3⟩ := span_at' K8.out
  obtain ⟨t10_0, t10_1, t10_2, t10_3⟩ := span_at' K10.out
  obtain ⟨t12_0, t12_1, t12_2, t12_3⟩ := span_at' K12.out
  obtain ⟨t14_0, t14_1, t14_2, t14_3⟩ := span_at' K14.out
  go_wp2_with fail
  go_ret
  exact ⟨rfl, hB⟩
end Go.Proofs.YthifeoebefbalaaGreatDoor
