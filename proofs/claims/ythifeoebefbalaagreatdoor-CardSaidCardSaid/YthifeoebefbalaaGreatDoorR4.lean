/- The law CardSaid: the walk. -/
import Derived.Test.YthifeoebefbalaaGreatDoorZ20
namespace Go.Proofs.YthifeoebefbalaaGreatDoor
open Go.RowKit

theorem box_one (w : World) (p : Obj) : Below w.heap.size w (w.alloc p) ∧ Hid ((w.alloc p).heap[w.heap.size]? = some p) := ⟨xa (xr _) _, newA _ _ _ rfl⟩
set_option maxRecDepth 100000 in
set_option maxHeartbeats 8000000 in
theorem c11_no (c1 c2 c3 c4 c5 c6 fine : Int) (w : World) (HE : Hid (Env w)) (HC : Hid (Cell0 w)) (H1 : ∀ W, Hid (Calls Tryz.prog 43 #[.agg #[.int .i64 c1, .int .i64 c2, .int .i64 c3, .int .i64 c4, .int .i64 c5, .int .i64 c6]] W fun r w' => r = .returned (.tuple #[.agg #[.int .i64 0, .int .i64 0], .int .i64 1]) ∧ Below W.heap.size W w')) (HK : ∀ W, Hid (Calls Tryz.prog 44 #[.agg #[.int .i64 c1, .int .i64 c2, .int .i64 c3, .int .i64 c4, .int .i64 c5, .int .i64 c6]] W fun r w' => r = .returned (.int .i64 1) ∧ Below W.heap.size W w')) : Calls Tryz.prog 11 #[.agg #[.int .i64 c1, .int .i64 c2, .int .i64 c3, .int .i64 c4, .int .i64 c5, .int .i64 c6], .int .i64 fine] w fun e w' => e = .returned (.bool true) ∧ Below w.heap.size w w' := by
  go_enter Tryz.func11, Tryz.ntmps11
  go_wp2_with fail
  refine call_named (fun V => Below w.heap.size w V ∧ Hid (V.heap[w.heap.size]? = some (cellsOf ⟨c1, c2, c3, c4, c5, c6⟩))) (⟨xa (xr _) _, newA _ _ _ rfl⟩) ?_
  rintro X0 ⟨hB, K0⟩
  refine ((H1 _).out).mono ?_
  rintro r X1 ⟨rfl, hb⟩
  replace K0 := keepB hb K0
  replace hB := hB.trans (hb.mono hB.size)
  clear hb
  obtain ⟨B2, hB2⟩ : ∃ b, X1.heap.size = b := ⟨_, rfl⟩
  obtain ⟨t0_0, t0_1, t0_2, t0_3, t0_4, t0_5, t0_6, t0_7⟩ := cellsOf_at K0.out
  rw [hB2] at t0_7
  go_wp2_with fail
  try clear t0_0 t0_1 t0_2 t0_3 t0_4 t0_5 t0_6 t0_7
  try rw [hB2]
  refine call_named (fun V => Below w.heap.size w V ∧ Hid (V.heap[w.heap.size]? = some (cellsOf ⟨c1, c2, c3, c4, c5, c6⟩)) ∧ Hid (V.heap[B2]? = some (spanOf ⟨0, 0⟩))) ⟨xa hB _, keepA K0 _, newA _ _ _ hB2⟩ ?_
  clear hB K0 hB2
  rintro V2 ⟨hB, K0, K2⟩
  refine (c22 V2 (HE.out.below hB) (HC.out.below hB HC.out.lt)).mono ?_
  rintro r X3 ⟨rfl, hb⟩
  replace K0 := keepB hb K0
  replace K2 := keepB hb K2
  replace hB := hB.trans (hb.mono hB.size)
  clear hb
  obtain ⟨t0_0, t0_1, t0_2, t0_3, t0_4, t0_5, t0_6, t0_7⟩ := cellsOf_at K0.out
  obtain ⟨t2_0, t2_1, t2_2, t2_3⟩ := span_at' K2.out
  go_wp2_with fail
  try clear t0_0 t0_1 t0_2 t0_3 t0_4 t0_5 t0_6 t0_7 t2_0 t2_1 t2_2 t2_3
  refine ((HK _).out).mono ?_
  rintro r X4 ⟨rfl, hb⟩
  replace K0 := keepB hb K0
  replace K2 := keepB hb K2
  replace hB := hB.trans (hb.mono hB.size)
  clear hb
  obtain ⟨t0_0, t0_1, t0_2, t0_3, t0_4, t0_5, t0_6, t0_7⟩ := cellsOf_at K0.out
  obtain ⟨t2_0, t2_1, t2_2, t2_3⟩ := span_at' K2.out
  go_wp2_with fail
  go_ret
  exact ⟨rfl, hB⟩
set_option maxRecDepth 100000 in
set_option maxHeartbeats 8000000 in
theorem c11_k (c1 c2 c3 c4 c5 c6 fine s1 s2 x1 x2 x3 x4 x5 x6 u1 u2 i : Int) (w : World) (q1 : 0 ≤ s1) (q2 : s1 ≤ s2) (hk : c4 ≠ 1) (HE : Hid (Env w)) (HC : Hid (Cell0 w)) (H1 : ∀ W, Hid (Calls Tryz.prog 43 #[.agg #[.int .i64 c1, .int .i64 c2, .int .i64 c3, .int .i64 c4, .int .i64 c5, .int .i64 c6]] W fun r w' => r = .returned (.tuple #[.agg #[.int .i64 s1, .int .i64 s2], .int .i64 0]) ∧ Below W.heap.size W w')) (H2 : ∀ W, Hid (Calls Tryz.prog 25 #[.int .i64 c1, .int .i64 c2, .int .i64 c3, .agg #[.int .i64 s1, .int .i64 s2]] W fun r w' => r = .returned (.tuple #[.agg #[.int .i64 x1, .int .i64 x2, .int .i64 x3, .int .i64 x4, .int .i64 x5, .int .i64 x6], .int .i64 0]) ∧ Below W.heap.size W w')) (H3 : ∀ W, Hid (Calls Tryz.prog 43 #[.agg #[.int .i64 x1, .int .i64 x2, .int .i64 x3, .int .i64 x4, .int .i64 x5, .int .i64 x6]] W fun r w' => r = .returned (.tuple #[.agg #[.int .i64 s1, .int .i64 s2], .int .i64 0]) ∧ Below W.heap.size W w')) (H4 : ∀ W, Hid (Calls Tryz.prog 45 #[.agg #[.int .i64 c1, .int .i64 c2, .int .i64 c3, .int .i64 c4, .int .i64 c5, .int .i64 c6], .agg #[.int .i64 x1, .int .i64 x2, .int .i64 x3, .int .i64 x4, .int .i64 x5, .int .i64 x6]] W fun r w' => r = .returned (.tuple #[.bool true, .int .i64 0]) ∧ Below W.heap.size W w')) (H5 : ∀ W, Hid (Calls Tryz.prog 43 #[.agg #[.int .i64 c1, .int .i64 c2, .int .i64 c3, .int .i64 c4, .int .i64 c5, .int .i64 fine]] W fun r w' => r = .returned (.tuple #[.agg #[.int .i64 u1, .int .i64 u2], .int .i64 i]) ∧ Below W.heap.size W w')) : Calls Tryz.prog 11 #[.agg #[.int .i64 c1, .int .i64 c2, .int .i64 c3, .int .i64 c4, .int .i64 c5, .int .i64 c6], .int .i64 fine] w fun e w' => e = .returned (.bool true) ∧ Below w.heap.size w w' := by
  go_enter Tryz.func11, Tryz.ntmps11
  go_wp2_with fail
  refine call_named (fun V => Below w.heap.size w V ∧ Hid (V.heap[w.heap.size]? = some (cellsOf ⟨c1, c2, c3, c4, c5, c6⟩))) (⟨xa (xr _) _, newA _ _ _ rfl⟩) ?_
  rintro X0 ⟨hB, K0⟩
  refine ((H1 _).out).mono ?_
  rintro r X1 ⟨rfl, hb⟩
  replace K0 := keepB hb K0
  replace hB := hB.trans (hb.mono hB.size)
  clear hb
  obtain ⟨B2, hB2⟩ : ∃ b, X1.heap.size = b := ⟨_, rfl⟩
  obtain ⟨t0_0, t0_1, t0_2, t0_3, t0_4, t0_5, t0_6, t0_7⟩ := cellsOf_at K0.out
  rw [hB2] at t0_7
  go_wp2_with fail
  try clear t0_0 t0_1 t0_2 t0_3 t0_4 t0_5 t0_6 t0_7
  try rw [hB2]
  refine call_named (fun V => Below w.heap.size w V ∧ Hid (V.heap[w.heap.size]? = some (cellsOf ⟨c1, c2, c3, c4, c5, c6⟩)) ∧ Hid (V.heap[B2]? = some (spanOf ⟨s1, s2⟩))) ⟨xa hB _, keepA K0 _, newA _ _ _ hB2⟩ ?_
  clear hB K0 hB2
  rintro V2 ⟨hB, K0, K2⟩
  refine ((H2 _).out).mono ?_
  rintro r X3 ⟨rfl, hb⟩
  replace K0 := keepB hb K0
  replace K2 := keepB hb K2
  replace hB := hB.trans (hb.mono hB.size)
  clear hb
  obtain ⟨B4, hB4⟩ : ∃ b, X3.heap.size = b := ⟨_, rfl⟩
  obtain ⟨t0_0, t0_1, t0_2, t0_3, t0_4, t0_5, t0_6, t0_7⟩ := cellsOf_at K0.out
  obtain ⟨t2_0, t2_1, t2_2, t2_3⟩ := span_at' K2.out
  rw [hB4] at t0_7 t2_3
  go_wp2_with fail
  try clear t0_0 t0_1 t0_2 t0_3 t0_4 t0_5 t0_6 t0_7 t2_0 t2_1 t2_2 t2_3
  try rw [hB4]
  refine call_named (fun V => Below w.heap.size w V ∧ Hid (V.heap[w.heap.size]? = some (cellsOf ⟨c1, c2, c3, c4, c5, c6⟩)) ∧ Hid (V.heap[B2]? = some (spanOf ⟨s1, s2⟩)) ∧ Hid (V.heap[B4]? = some (cellsOf ⟨x1, x2, x3, x4, x5, x6⟩))) ⟨xa hB _, keepA K0 _, keepA K2 _, newA _ _ _ hB4⟩ ?_
  clear hB K0 K2 hB4
  rintro V4 ⟨hB, K0, K2, K4⟩
  refine ((H3 _).out).mono ?_
  rintro r X5 ⟨rfl, hb⟩
  replace K0 := keepB hb K0
  replace K2 := keepB hb K2
  replace K4 := keepB hb K4
  replace hB := hB.trans (hb.mono hB.size)
  clear hb
  obtain ⟨B6, hB6⟩ : ∃ b, X5.heap.size = b := ⟨_, rfl⟩
  obtain ⟨t0_0, t0_1, t0_2, t0_3, t0_4, t0_5, t0_6, t0_7⟩ := cellsOf_at K0.out
  obtain ⟨t2_0, t2_1, t2_2, t2_3⟩ := span_at' K2.out
  obtain ⟨t4_0, t4_1, t4_2, t4_3, t4_4, t4_5, t4_6, t4_7⟩ := cellsOf_at K4.out
  rw [hB6] at t0_7 t2_3 t4_7
  go_wp2_with fail
  try clear t0_0 t0_1 t0_2 t0_3 t0_4 t0_5 t0_6 t0_7 t2_0 t2_1 t2_2 t2_3 t4_0 t4_1 t4_2 t4_3 t4_4 t4_5 t4_6 t4_7
  try rw [hB6]
  refine call_named (fun V => Below w.heap.size w V ∧ Hid (V.heap[w.heap.size]? = some (cellsOf ⟨c1, c2, c3, c4, c5, c6⟩)) ∧ Hid (V.heap[B2]? = some (spanOf ⟨s1, s2⟩)) ∧ Hid (V.heap[B4]? = some (cellsOf ⟨x1, x2, x3, x4, x5, x6⟩)) ∧ Hid (V.heap[B6]? = some (spanOf ⟨s1, s2⟩))) ⟨xa hB _, keepA K0 _, keepA K2 _, keepA K4 _, newA _ _ _ hB6⟩ ?_
  clear hB K0 K2 K4 hB6
  rintro V6 ⟨hB, K0, K2, K4, K6⟩
  refine ((H4 _).out).mono ?_
  rintro r X7 ⟨rfl, hb⟩
  replace K0 := keepB hb K0
  replace K2 := keepB hb K2
  replace K4 := keepB hb K4
  replace K6 := keepB hb K6
  replace hB := hB.trans (hb.mono hB.size)
  clear hb
  obtain ⟨B8, hB8⟩ : ∃ b, X7.heap.size = b := ⟨_, rfl⟩
  obtain ⟨t0_0, t0_1, t0_2, t0_3, t0_4, t0_5, t0_6, t0_7⟩ := cellsOf_at K0.out
  obtain ⟨t2_0, t2_1, t2_2, t2_3⟩ := span_at' K2.out
  obtain ⟨t4_0, t4_1, t4_2, t4_3, t4_4, t4_5, t4_6, t4_7⟩ := cellsOf_at K4.out
  obtain ⟨t6_0, t6_1, t6_2, t6_3⟩ := span_at' K6.out
  rw [hB8] at t0_7 t2_3 t4_7 t6_3
  go_wp2_with fail
  try clear t0_0 t0_1 t0_2 t0_3 t0_4 t0_5 t0_6 t0_7 t2_0 t2_1 t2_2 t2_3 t4_0 t4_1 t4_2 t4_3 t4_4 t4_5 t4_6 t4_7 t6_0 t6_1 t6_2 t6_3
  try rw [hB8]
  refine call_named (fun V => Below w.heap.size w V ∧ Hid (V.heap[w.heap.size]? = some (cellsOf ⟨c1, c2, c3, c4, c5, c6⟩)) ∧ Hid (V.heap[B2]? = some (spanOf ⟨s1, s2⟩)) ∧ Hid (V.heap[B4]? = some (cellsOf ⟨x1, x2, x3, x4, x5, x6⟩)) ∧ Hid (V.heap[B6]? = some (spanOf ⟨s1, s2⟩)) ∧ Hid (V.heap[B8]? = some (cellsOf ⟨c1, c2, c3, c4, c5, fine⟩))) ⟨xa hB _, keepA K0 _, keepA K2 _, keepA K4 _, keepA K6 _, newA _ _ _ hB8⟩ ?_
  clear hB K0 K2 K4 K6 hB8
  rintro V8 ⟨hB, K0, K2, K4, K6, K8⟩
  refine ((H5 _).out).mono ?_
  rintro r X9 ⟨rfl, hb⟩
  replace K0 := keepB hb K0
  replace K2 := keepB hb K2
  replace K4 := keepB hb K4
  replace K6 := keepB hb K6
  replace K8 := keepB hb K8
  replace hB := hB.trans (hb.mono hB.size)
  clear hb
  obtain ⟨B10, hB10⟩ : ∃ b, X9.heap.size = b := ⟨_, rfl⟩
  obtain ⟨t0_0, t0_1, t0_2, t0_3, t0_4, t0_5, t0_6, t0_7⟩ := cellsOf_at K0.out
  obtain ⟨t2_0, t2_1, t2_2, t2_3⟩ := span_at' K2.out
  obtain ⟨t4_0, t4_1, t4_2, t4_3, t4_4, t4_5, t4_6, t4_7⟩ := cellsOf_at K4.out
  obtain ⟨t6_0, t6_1, t6_2, t6_3⟩ := span_at' K6.out
  obtain ⟨t8_0, t8_1, t8_2, t8_3, t8_4, t8_5, t8_6, t8_7⟩ := cellsOf_at K8.out
  rw [hB10] at t0_7 t2_3 t4_7 t6_3 t8_7
  go_wp2_with fail
  try clear t0_0 t0_1 t0_2 t0_3 t0_4 t0_5 t0_6 t0_7 t2_0 t2_1 t2_2 t2_3 t4_0 t4_1 t4_2 t4_3 t4_4 t4_5 t4_6 t4_7 t6_0 t6_1 t6_2 t6_3 t8_0 t8_1 t8_2 t8_3 t8_4 t8_5 t8_6 t8_7
  try rw [hB10]
  refine call_named (fun V => Below w.heap.size w V ∧ Hid (V.heap[w.heap.size]? = some (cellsOf ⟨c1, c2, c3, c4, c5, c6⟩)) ∧ Hid (V.heap[B2]? = some (spanOf ⟨s1, s2⟩)) ∧ Hid (V.heap[B4]? = some (cellsOf ⟨x1, x2, x3, x4, x5, x6⟩)) ∧ Hid (V.heap[B6]? = some (spanOf ⟨s1, s2⟩)) ∧ Hid (V.heap[B8]? = some (cellsOf ⟨c1, c2, c3, c4, c5, fine⟩)) ∧ Hid (V.heap[B10]? = some (spanOf ⟨u1, u2⟩))) ⟨xa hB _, keepA K0 _, keepA K2 _, keepA K4 _, keepA K6 _, keepA K8 _, newA _ _ _ hB10⟩ ?_
  clear hB K0 K2 K4 K6 K8 hB10
  rintro V10 ⟨hB, K0, K2, K4, K6, K8, K10⟩
  refine (c22 V10 (HE.out.below hB) (HC.out.below hB HC.out.lt)).mono ?_
  rintro r X11 ⟨rfl, hb⟩
  replace K0 := keepB hb K0
  replace K2 := keepB hb K2
  replace K4 := keepB hb K4
  replace K6 := keepB hb K6
  replace K8 := keepB hb K8
  replace K10 := keepB hb K10
  replace hB := hB.trans (hb.mono hB.size)
  clear hb
  obtain ⟨t0_0, t0_1, t0_2, t0_3, t0_4, t0_5, t0_6, t0_7⟩ := cellsOf_at K0.out
  obtain ⟨t2_0, t2_1, t2_2, t2_3⟩ := span_at' K2.out
  obtain ⟨t4_0, t4_1, t4_2, t4_3, t4_4, t4_5, t4_6, t4_7⟩ := cellsOf_at K4.out
  obtain ⟨t6_0, t6_1, t6_2, t6_3⟩ := span_at' K6.out
  obtain ⟨t8_0, t8_1, t8_2, t8_3, t8_4, t8_5, t8_6, t8_7⟩ := cellsOf_at K8.out
  obtain ⟨t10_0, t10_1, t10_2, t10_3⟩ := span_at' K10.out
  go_wp2_with fail
  go_ret
  exact ⟨rfl, hB⟩
set_option maxRecDepth 100000 in
set_option maxHeartbeats 8000000 in
theorem c11_f (c1 c2 c3 c5 c6 fine s1 s2 x1 x2 x3 x4 x5 x6 u1 u2 i : Int) (w : World) (q1 : 0 ≤ s1) (q2 : s1 ≤ s2) (q3 : s1 ≤ c5) (q4 : c5 ≤ s2) (q5 : x6 ≤ c6) (q6 : c6 < fine) (HE : Hid (Env w)) (HC : Hid (Cell0 w)) (H1 : ∀ W, Hid (Calls Tryz.prog 43 #[.agg #[.int .i64 c1, .int .i64 c2, .int .i64 c3, .int .i64 1, .int .i64 c5, .int .i64 c6]] W fun r w' => r = .returned (.tuple #[.agg #[.int .i64 s1, .int .i64 s2], .int .i64 0]) ∧ Below W.heap.size W w')) (H2 : ∀ W, Hid (Calls Tryz.prog 25 #[.int .i64 c1, .int .i64 c2, .int .i64 c3, .agg #[.int .i64 s1, .int .i64 s2]] W fun r w' => r = .returned (.tuple #[.agg #[.int .i64 x1, .int .i64 x2, .int .i64 x3, .int .i64 x4, .int .i64 x5, .int .i64 x6], .int .i64 0]) ∧ Below W.heap.size W w')) (H3 : ∀ W, Hid (Calls Tryz.prog 43 #[.agg #[.int .i64 x1, .int .i64 x2, .int .i64 x3, .int .i64 x4, .int .i64 x5, .int .i64 x6]] W fun r w' => r = .returned (.tuple #[.agg #[.int .i64 s1, .int .i64 s2], .int .i64 0]) ∧ Below W.heap.size W w')) (H4 : ∀ W, Hid (Calls Tryz.prog 45 #[.agg #[.int .i64 c1, .int .i64 c2, .int .i64 c3, .int .i64 1, .int .i64 c5, .int .i64 c6], .agg #[.int .i64 x1, .int .i64 x2, .int .i64 x3, .int .i64 x4, .int .i64 x5, .int .i64 x6]] W fun r w' => r = .returned (.tuple #[.bool true, .int .i64 0]) ∧ Below W.heap.size W w')) (H5 : ∀ W, Hid (Calls Tryz.prog 43 #[.agg #[.int .i64 c1, .int .i64 c2, .int .i64 c3, .int .i64 1, .int .i64 c5, .int .i64 fine]] W fun r w' => r = .returned (.tuple #[.agg #[.int .i64 u1, .int .i64 u2], .int .i64 i]) ∧ Below W.heap.size W w')) : Calls Tryz.prog 11 #[.agg #[.int .i64 c1, .int .i64 c2, .int .i64 c3, .int .i64 1, .int .i64 c5, .int .i64 c6], .int .i64 fine] w fun e w' => e = .returned (.bool true) ∧ Below w.heap.size w w' := by
  go_enter Tryz.func11, Tryz.ntmps11
  go_wp2_with fail
  refine call_named (fun V => Below w.heap.size w V ∧ Hid (V.heap[w.heap.size]? = some (cellsOf ⟨c1, c2, c3, 1, c5, c6⟩))) (⟨xa (xr _) _, newA _ _ _ rfl⟩) ?_
  rintro X0 ⟨hB, K0⟩
  refine ((H1 _).out).mono ?_
  rintro r X1 ⟨rfl, hb⟩
  replace K0 := keepB hb K0
  replace hB := hB.trans (hb.mono hB.size)
  clear hb
  obtain ⟨B2, hB2⟩ : ∃ b, X1.heap.size = b := ⟨_, rfl⟩
  obtain ⟨t0_0, t0_1, t0_2, t0_3, t0_4, t0_5, t0_6, t0_7⟩ := cellsOf_at K0.out
  rw [hB2] at t0_7
  go_wp2_with fail
  try clear t0_0 t0_1 t0_2 t0_3 t0_4 t0_5 t0_6 t0_7
  try rw [hB2]
  refine call_named (fun V => Below w.heap.size w V ∧ Hid (V.heap[w.heap.size]? = some (cellsOf ⟨c1, c2, c3, 1, c5, c6⟩)) ∧ Hid (V.heap[B2]? = some (spanOf ⟨s1, s2⟩))) ⟨xa hB _, keepA K0 _, newA _ _ _ hB2⟩ ?_
  clear hB K0 hB2
  rintro V2 ⟨hB, K0, K2⟩
  refine ((H2 _).out).mono ?_
  rintro r X3 ⟨rfl, hb⟩
  replace K0 := keepB hb K0
  replace K2 := keepB hb K2
  replace hB := hB.trans (hb.mono hB.size)
  clear hb
  obtain ⟨B4, hB4⟩ : ∃ b, X3.heap.size = b := ⟨_, rfl⟩
  obtain ⟨t0_0, t0_1, t0_2, t0_3, t0_4, t0_5, t0_6, t0_7⟩ := cellsOf_at K0.out
  obtain ⟨t2_0, t2_1, t2_2, t2_3⟩ := span_at' K2.out
  rw [hB4] at t0_7 t2_3
  go_wp2_with fail
  try clear t0_0 t0_1 t0_2 t0_3 t0_4 t0_5 t0_6 t0_7 t2_0 t2_1 t2_2 t2_3
  try rw [hB4]
  refine call_named (fun V => Below w.heap.size w V ∧ Hid (V.heap[w.heap.size]? = some (cellsOf ⟨c1, c2, c3, 1, c5, c6⟩)) ∧ Hid (V.heap[B2]? = some (spanOf ⟨s1, s2⟩)) ∧ Hid (V.heap[B4]? = some (cellsOf ⟨x1, x2, x3, x4, x5, x6⟩))) ⟨xa hB _, keepA K0 _, keepA K2 _, newA _ _ _ hB4⟩ ?_
  clear hB K0 K2 hB4
  rintro V4 ⟨hB, K0, K2, K4⟩
  refine ((H3 _).out).mono ?_
  rintro r X5 ⟨rfl, hb⟩
  replace K0 := keepB hb K0
  replace K2 := keepB hb K2
  replace K4 := keepB hb K4
  replace hB := hB.trans (hb.mono hB.size)
  clear hb
  obtain ⟨B6, hB6⟩ : ∃ b, X5.heap.size = b := ⟨_, rfl⟩
  obtain ⟨t0_0, t0_1, t0_2, t0_3, t0_4, t0_5, t0_6, t0_7⟩ := cellsOf_at K0.out
  obtain ⟨t2_0, t2_1, t2_2, t2_3⟩ := span_at' K2.out
  obtain ⟨t4_0, t4_1, t4_2, t4_3, t4_4, t4_5, t4_6, t4_7⟩ := cellsOf_at K4.out
  rw [hB6] at t0_7 t2_3 t4_7
  go_wp2_with fail
  try clear t0_0 t0_1 t0_2 t0_3 t0_4 t0_5 t0_6 t0_7 t2_0 t2_1 t2_2 t2_3 t4_0 t4_1 t4_2 t4_3 t4_4 t4_5 t4_6 t4_7
  try rw [hB6]
  refine call_named (fun V => Below w.heap.size w V ∧ Hid (V.heap[w.heap.size]? = some (cellsOf ⟨c1, c2, c3, 1, c5, c6⟩)) ∧ Hid (V.heap[B2]? = some (spanOf ⟨s1, s2⟩)) ∧ Hid (V.heap[B4]? = some (cellsOf ⟨x1, x2, x3, x4, x5, x6⟩)) ∧ Hid (V.heap[B6]? = some (spanOf ⟨s1, s2⟩))) ⟨xa hB _, keepA K0 _, keepA K2 _, keepA K4 _, newA _ _ _ hB6⟩ ?_
  clear hB K0 K2 K4 hB6
  rintro V6 ⟨hB, K0, K2, K4, K6⟩
  refine ((H4 _).out).mono ?_
  rintro r X7 ⟨rfl, hb⟩
  replace K0 := keepB hb K0
  replace K2 := keepB hb K2
  replace K4 := keepB hb K4
  replace K6 := keepB hb K6
  replace hB := hB.trans (hb.mono hB.size)
  clear hb
  obtain ⟨B8, hB8⟩ : ∃ b, X7.heap.size = b := ⟨_, rfl⟩
  obtain ⟨t0_0, t0_1, t0_2, t0_3, t0_4, t0_5, t0_6, t0_7⟩ := cellsOf_at K0.out
  obtain ⟨t2_0, t2_1, t2_2, t2_3⟩ := span_at' K2.out
  obtain ⟨t4_0, t4_1, t4_2, t4_3, t4_4, t4_5, t4_6, t4_7⟩ := cellsOf_at K4.out
  obtain ⟨t6_0, t6_1, t6_2, t6_3⟩ := span_at' K6.out
  rw [hB8] at t0_7 t2_3 t4_7 t6_3
  go_wp2_with fail
  try clear t0_0 t0_1 t0_2 t0_3 t0_4 t0_5 t0_6 t0_7 t2_0 t2_1 t2_2 t2_3 t4_0 t4_1 t4_2 t4_3 t4_4 t4_5 t4_6 t4_7 t6_0 t6_1 t6_2 t6_3
  try rw [hB8]
  refine call_named (fun V => Below w.heap.size w V ∧ Hid (V.heap[w.heap.size]? = some (cellsOf ⟨c1, c2, c3, 1, c5, c6⟩)) ∧ Hid (V.heap[B2]? = some (spanOf ⟨s1, s2⟩)) ∧ Hid (V.heap[B4]? = some (cellsOf ⟨x1, x2, x3, x4, x5, x6⟩)) ∧ Hid (V.heap[B6]? = some (spanOf ⟨s1, s2⟩)) ∧ Hid (V.heap[B8]? = some (cellsOf ⟨c1, c2, c3, 1, c5, fine⟩))) ⟨xa hB _, keepA K0 _, keepA K2 _, keepA K4 _, keepA K6 _, newA _ _ _ hB8⟩ ?_
  clear hB K0 K2 K4 K6 hB8
  rintro V8 ⟨hB, K0, K2, K4, K6, K8⟩
  refine ((H5 _).out).mono ?_
  rintro r X9 ⟨rfl, hb⟩
  replace K0 := keepB hb K0
  replace K2 := keepB hb K2
  replace K4 := keepB hb K4
  replace K6 := keepB hb K6
  replace K8 := keepB hb K8
  replace hB := hB.trans (hb.mono hB.size)
  clear hb
  obtain ⟨B10, hB10⟩ : ∃ b, X9.heap.size = b := ⟨_, rfl⟩
  obtain ⟨t0_0, t0_1, t0_2, t0_3, t0_4, t0_5, t0_6, t0_7⟩ := cellsOf_at K0.out
  obtain ⟨t2_0, t2_1, t2_2, t2_3⟩ := span_at' K2.out
  obtain ⟨t4_0, t4_1, t4_2, t4_3, t4_4, t4_5, t4_6, t4_7⟩ := cellsOf_at K4.out
  obtain ⟨t6_0, t6_1, t6_2, t6_3⟩ := span_at' K6.out
  obtain ⟨t8_0, t8_1, t8_2, t8_3, t8_4, t8_5, t8_6, t8_7⟩ := cellsOf_at K8.out
  rw [hB10] at t0_7 t2_3 t4_7 t6_3 t8_7
  go_wp2_with fail
  try clear t0_0 t0_1 t0_2 t0_3 t0_4 t0_5 t0_6 t0_7 t2_0 t2_1 t2_2 t2_3 t4_0 t4_1 t4_2 t4_3 t4_4 t4_5 t4_6 t4_7 t6_0 t6_1 t6_2 t6_3 t8_0 t8_1 t8_2 t8_3 t8_4 t8_5 t8_6 t8_7
  try rw [hB10]
  refine call_named (fun V => Below w.heap.size w V ∧ Hid (V.heap[w.heap.size]? = some (cellsOf ⟨c1, c2, c3, 1, c5, c6⟩)) ∧ Hid (V.heap[B2]? = some (spanOf ⟨s1, s2⟩)) ∧ Hid (V.heap[B4]? = some (cellsOf ⟨x1, x2, x3, x4, x5, x6⟩)) ∧ Hid (V.heap[B6]? = some (spanOf ⟨s1, s2⟩)) ∧ Hid (V.heap[B8]? = some (cellsOf ⟨c1, c2, c3, 1, c5, fine⟩)) ∧ Hid (V.heap[B10]? = some (spanOf ⟨u1, u2⟩))) ⟨xa hB _, keepA K0 _, keepA K2 _, keepA K4 _, keepA K6 _, keepA K8 _, newA _ _ _ hB10⟩ ?_
  clear hB K0 K2 K4 K6 K8 hB10
  rintro V10 ⟨hB, K0, K2, K4, K6, K8, K10⟩
  refine (c22 V10 (HE.out.below hB) (HC.out.below hB HC.out.lt)).mono ?_
  rintro r X11 ⟨rfl, hb⟩
  replace K0 := keepB hb K0
  replace K2 := keepB hb K2
  replace K4 := keepB hb K4
  replace K6 := keepB hb K6
  replace K8 := keepB hb K8
  replace K10 := keepB hb K10
  replace hB := hB.trans (hb.mono hB.size)
  clear hb
  obtain ⟨t0_0, t0_1, t0_2, t0_3, t0_4, t0_5, t0_6, t0_7⟩ := cellsOf_at K0.out
  obtain ⟨t2_0, t2_1, t2_2, t2_3⟩ := span_at' K2.out
  obtain ⟨t4_0, t4_1, t4_2, t4_3, t4_4, t4_5, t4_6, t4_7⟩ := cellsOf_at K4.out
  obtain ⟨t6_0, t6_1, t6_2, t6_3⟩ := span_at' K6.out
  obtain ⟨t8_0, t8_1, t8_2, t8_3, t8_4, t8_5, t8_6, t8_7⟩ := cellsOf_at K8.out
  obtain ⟨t10_0, t10_1, t10_2, t10_3⟩ := span_at' K10.out
  go_wp2_with fail
  go_ret
  exact ⟨rfl, hB⟩
set_option maxRecDepth 100000 in
set_option maxHeartbeats 8000000 in
theorem c11_i (c1 c2 c3 c5 c6 fine s1 s2 x1 x2 x3 x4 x5 x6 u1 u2 : Int) (w : World) (q1 : 0 ≤ s1) (q2 : s1 ≤ s2) (q3 : s1 ≤ c5) (q4 : c5 ≤ s2) (q5 : x6 ≤ c6) (q6 : fine ≤ c6) (HE : Hid (Env w)) (HC : Hid (Cell0 w)) (H1 : ∀ W, Hid (Calls Tryz.prog 43 #[.agg #[.int .i64 c1, .int .i64 c2, .int .i64 c3, .int .i64 1, .int .i64 c5, .int .i64 c6]] W fun r w' => r = .returned (.tuple #[.agg #[.int .i64 s1, .int .i64 s2], .int .i64 0]) ∧ Below W.heap.size W w')) (H2 : ∀ W, Hid (Calls Tryz.prog 25 #[.int .i64 c1, .int .i64 c2, .int .i64 c3, .agg #[.int .i64 s1, .int .i64 s2]] W fun r w' => r = .returned (.tuple #[.agg #[.int .i64 x1, .int .i64 x2, .int .i64 x3, .int .i64 x4, .int .i64 x5, .int .i64 x6], .int .i64 0]) ∧ Below W.heap.size W w')) (H3 : ∀ W, Hid (Calls Tryz.prog 43 #[.agg #[.int .i64 x1, .int .i64 x2, .int .i64 x3, .int .i64 x4, .int .i64 x5, .int .i64 x6]] W fun r w' => r = .returned (.tuple #[.agg #[.int .i64 s1, .int .i64 s2], .int .i64 0]) ∧ Below W.heap.size W w')) (H4 : ∀ W, Hid (Calls Tryz.prog 45 #[.agg #[.int .i64 c1, .int .i64 c2, .int .i64 c3, .int .i64 1, .int .i64 c5, .int .i64 c6], .agg #[.int .i64 x1, .int .i64 x2, .int .i64 x3, .int .i64 x4, .int .i64 x5, .int .i64 x6]] W fun r w' => r = .returned (.tuple #[.bool true, .int .i64 0]) ∧ Below W.heap.size W w')) (H5 : ∀ W, Hid (Calls Tryz.prog 43 #[.agg #[.int .i64 c1, .int .i64 c2, .int .i64 c3, .int .i64 1, .int .i64 c5, .int .i64 fine]] W fun r w' => r = .returned (.tuple #[.agg #[.int .i64 u1, .int .i64 u2], .int .i64 1]) ∧ Below W.heap.size W w')) : Calls Tryz.prog 11 #[.agg #[.int .i64 c1, .int .i64 c2, .int .i64 c3, .int .i64 1, .int .i64 c5, .int .i64 c6], .int .i64 fine] w fun e w' => e = .returned (.bool true) ∧ Below w.heap.size w w' := by
  go_enter Tryz.func11, Tryz.ntmps11
  go_wp2_with fail
  refine call_named (fun V => Below w.heap.size w V ∧ Hid (V.heap[w.heap.size]? = some (cellsOf ⟨c1, c2, c3, 1, c5, c6⟩))) (⟨xa (xr _) _, newA _ _ _ rfl⟩) ?_
  rintro X0 ⟨hB, K0⟩
  refine ((H1 _).out).mono ?_
  rintro r X1 ⟨rfl, hb⟩
  replace K0 := keepB hb K0
  replace hB := hB.trans (hb.mono hB.size)
  clear hb
  obtain ⟨B2, hB2⟩ : ∃ b, X1.heap.size = b := ⟨_, rfl⟩
  obtain ⟨t0_0, t0_1, t0_2, t0_3, t0_4, t0_5, t0_6, t0_7⟩ := cellsOf_at K0.out
  rw [hB2] at t0_7
  go_wp2_with fail
  try clear t0_0 t0_1 t0_2 t0_3 t0_4 t0_5 t0_6 t0_7
  try rw [hB2]
  refine call_named (fun V => Below w.heap.size w V ∧ Hid (V.heap[w.heap.size]? = some (cellsOf ⟨c1, c2, c3, 1, c5, c6⟩)) ∧ Hid (V.heap[B2]? = some (spanOf ⟨s1, s2⟩))) ⟨xa hB _, keepA K0 _, newA _ _ _ hB2⟩ ?_
  clear hB K0 hB2
  rintro V2 ⟨hB, K0, K2⟩
  refine ((H2 _).out).mono ?_
  rintro r X3 ⟨rfl, hb⟩
  replace K0 := keepB hb K0
  replace K2 := keepB hb K2
  replace hB := hB.trans (hb.mono hB.size)
  clear hb
  obtain ⟨B4, hB4⟩ : ∃ b, X3.heap.size = b := ⟨_, rfl⟩
  obtain ⟨t0_0, t0_1, t0_2, t0_3, t0_4, t0_5, t0_6, t0_7⟩ := cellsOf_at K0.out
  obtain ⟨t2_0, t2_1, t2_2, t2_3⟩ := span_at' K2.out
  rw [hB4] at t0_7 t2_3
  go_wp2_with fail
  try clear t0_0 t0_1 t0_2 t0_3 t0_4 t0_5 t0_6 t0_7 t2_0 t2_1 t2_2 t2_3
  try rw [hB4]
  refine call_named (fun V => Below w.heap.size w V ∧ Hid (V.heap[w.heap.size]? = some (cellsOf ⟨c1, c2, c3, 1, c5, c6⟩)) ∧ Hid (V.heap[B2]? = some (spanOf ⟨s1, s2⟩)) ∧ Hid (V.heap[B4]? = some (cellsOf ⟨x1, x2, x3, x4, x5, x6⟩))) ⟨xa hB _, keepA K0 _, keepA K2 _, newA _ _ _ hB4⟩ ?_
  clear hB K0 K2 hB4
  rintro V4 ⟨hB, K0, K2, K4⟩
  refine ((H3 _).out).mono ?_
  rintro r X5 ⟨rfl, hb⟩
  replace K0 := keepB hb K0
  replace K2 := keepB hb K2
  replace K4 := keepB hb K4
  replace hB := hB.trans (hb.mono hB.size)
  clear hb
  obtain ⟨B6, hB6⟩ : ∃ b, X5.heap.size = b := ⟨_, rfl⟩
  obtain ⟨t0_0, t0_1, t0_2, t0_3, t0_4, t0_5, t0_6, t0_7⟩ := cellsOf_at K0.out
  obtain ⟨t2_0, t2_1, t2_2, t2_3⟩ := span_at' K2.out
  obtain ⟨t4_0, t4_1, t4_2, t4_3, t4_4, t4_5, t4_6, t4_7⟩ := cellsOf_at K4.out
  rw [hB6] at t0_7 t2_3 t4_7
  go_wp2_with fail
  try clear t0_0 t0_1 t0_2 t0_3 t0_4 t0_5 t0_6 t0_7 t2_0 t2_1 t2_2 t2_3 t4_0 t4_1 t4_2 t4_3 t4_4 t4_5 t4_6 t4_7
  try rw [hB6]
  refine call_named (fun V => Below w.heap.size w V ∧ Hid (V.heap[w.heap.size]? = some (cellsOf ⟨c1, c2, c3, 1, c5, c6⟩)) ∧ Hid (V.heap[B2]? = some (spanOf ⟨s1, s2⟩)) ∧ Hid (V.heap[B4]? = some (cellsOf ⟨x1, x2, x3, x4, x5, x6⟩)) ∧ Hid (V.heap[B6]? = some (spanOf ⟨s1, s2⟩))) ⟨xa hB _, keepA K0 _, keepA K2 _, keepA K4 _, newA _ _ _ hB6⟩ ?_
  clear hB K0 K2 K4 hB6
  rintro V6 ⟨hB, K0, K2, K4, K6⟩
  refine ((H4 _).out).mono ?_
  rintro r X7 ⟨rfl, hb⟩
  replace K0 := keepB hb K0
  replace K2 := keepB hb K2
  replace K4 := keepB hb K4
  replace K6 := keepB hb K6
  replace hB := hB.trans (hb.mono hB.size)
  clear hb
  obtain ⟨B8, hB8⟩ : ∃ b, X7.heap.size = b := ⟨_, rfl⟩
  obtain ⟨t0_0, t0_1, t0_2, t0_3, t0_4, t0_5, t0_6, t0_7⟩ := cellsOf_at K0.out
  obtain ⟨t2_0, t2_1, t2_2, t2_3⟩ := span_at' K2.out
  obtain ⟨t4_0, t4_1, t4_2, t4_3, t4_4, t4_5, t4_6, t4_7⟩ := cellsOf_at K4.out
  obtain ⟨t6_0, t6_1, t6_2, t6_3⟩ := span_at' K6.out
  rw [hB8] at t0_7 t2_3 t4_7 t6_3
  go_wp2_with fail
  try clear t0_0 t0_1 t0_2 t0_3 t0_4 t0_5 t0_6 t0_7 t2_0 t2_1 t2_2 t2_3 t4_0 t4_1 t4_2 t4_3 t4_4 t4_5 t4_6 t4_7 t6_0 t6_1 t6_2 t6_3
  try rw [hB8]
  refine call_named (fun V => Below w.heap.size w V ∧ Hid (V.heap[w.heap.size]? = some (cellsOf ⟨c1, c2, c3, 1, c5, c6⟩)) ∧ Hid (V.heap[B2]? = some (spanOf ⟨s1, s2⟩)) ∧ Hid (V.heap[B4]? = some (cellsOf ⟨x1, x2, x3, x4, x5, x6⟩)) ∧ Hid (V.heap[B6]? = some (spanOf ⟨s1, s2⟩)) ∧ Hid (V.heap[B8]? = some (cellsOf ⟨c1, c2, c3, 1, c5, fine⟩))) ⟨xa hB _, keepA K0 _, keepA K2 _, keepA K4 _, keepA K6 _, newA _ _ _ hB8⟩ ?_
  clear hB K0 K2 K4 K6 hB8
  rintro V8 ⟨hB, K0, K2, K4, K6, K8⟩
  refine ((H5 _).out).mono ?_
  rintro r X9 ⟨rfl, hb⟩
  replace K0 := keepB hb K0
  replace K2 := keepB hb K2
  replace K4 := keepB hb K4
  replace K6 := keepB hb K6
  replace K8 := keepB hb K8
  replace hB := hB.trans (hb.mono hB.size)
  clear hb
  obtain ⟨B10, hB10⟩ : ∃ b, X9.heap.size = b := ⟨_, rfl⟩
  obtain ⟨t0_0, t0_1, t0_2, t0_3, t0_4, t0_5, t0_6, t0_7⟩ := cellsOf_at K0.out
  obtain ⟨t2_0, t2_1, t2_2, t2_3⟩ := span_at' K2.out
  obtain ⟨t4_0, t4_1, t4_2, t4_3, t4_4, t4_5, t4_6, t4_7⟩ := cellsOf_at K4.out
  obtain ⟨t6_0, t6_1, t6_2, t6_3⟩ := span_at' K6.out
  obtain ⟨t8_0, t8_1, t8_2, t8_3, t8_4, t8_5, t8_6, t8_7⟩ := cellsOf_at K8.out
  rw [hB10] at t0_7 t2_3 t4_7 t6_3 t8_7
  go_wp2_with fail
  try clear t0_0 t0_1 t0_2 t0_3 t0_4 t0_5 t0_6 t0_7 t2_0 t2_1 t2_2 t2_3 t4_0 t4_1 t4_2 t4_3 t4_4 t4_5 t4_6 t4_7 t6_0 t6_1 t6_2 t6_3 t8_0 t8_1 t8_2 t8_3 t8_4 t8_5 t8_6 t8_7
  try rw [hB10]
  refine call_named (fun V => Below w.heap.size w V ∧ Hid (V.heap[w.heap.size]? = some (cellsOf ⟨c1, c2, c3, 1, c5, c6⟩)) ∧ Hid (V.heap[B2]? = some (spanOf ⟨s1, s2⟩)) ∧ Hid (V.heap[B4]? = some (cellsOf ⟨x1, x2, x3, x4, x5, x6⟩)) ∧ Hid (V.heap[B6]? = some (spanOf ⟨s1, s2⟩)) ∧ Hid (V.heap[B8]? = some (cellsOf ⟨c1, c2, c3, 1, c5, fine⟩)) ∧ Hid (V.heap[B10]? = some (spanOf ⟨u1, u2⟩))) ⟨xa hB _, keepA K0 _, keepA K2 _, keepA K4 _, keepA K6 _, keepA K8 _, newA _ _ _ hB10⟩ ?_
  clear hB K0 K2 K4 K6 K8 hB10
  rintro V10 ⟨hB, K0, K2, K4, K6, K8, K10⟩
  refine (c22 V10 (HE.out.below hB) (HC.out.below hB HC.out.lt)).mono ?_
  rintro r X11 ⟨rfl, hb⟩
  replace K0 := keepB hb K0
  replace K2 := keepB hb K2
  replace K4 := keepB hb K4
  replace K6 := keepB hb K6
  replace K8 := keepB hb K8
  replace K10 := keepB hb K10
  replace hB := hB.trans (hb.mono hB.size)
  clear hb
  obtain ⟨t0_0, t0_1, t0_2, t0_3, t0_4, t0_5, t0_6, t0_7⟩ := cellsOf_at K0.out
  obtain ⟨t2_0, t2_1, t2_2, t2_3⟩ := span_at' K2.out
  obtain ⟨t4_0, t4_1, t4_2, t4_3, t4_4, t4_5, t4_6, t4_7⟩ := cellsOf_at K4.out
  obtain ⟨t6_0, t6_1, t6_2, t6_3⟩ := span_at' K6.out
  obtain ⟨t8_0, t8_1, t8_2, t8_3, t8_4, t8_5, t8_6, t8_7⟩ := cellsOf_at K8.out
  obtain ⟨t10_0, t10_1, t10_2, t10_3⟩ := span_at' K10.out
  go_wp2_with fail
  go_ret
  exact ⟨rfl, hB⟩
set_option maxRecDepth 100000 in
set_option maxHeartbeats 8000000 in
theorem c11_u (c1 c2 c3 c5 c6 fine s1 s2 x1 x2 x3 x4 x5 x6 u1 u2 : Int) (w : World) (q1 : 0 ≤ s1) (q2 : s1 ≤ s2) (q3 : s1 ≤ c5) (q4 : c5 ≤ s2) (q5 : x6 ≤ c6) (q6 : fine ≤ c6) (q7 : s1 ≤ u1) (q8 : u2 ≤ s2) (HE : Hid (Env w)) (HC : Hid (Cell0 w)) (H1 : ∀ W, Hid (Calls Tryz.prog 43 #[.agg #[.int .i64 c1, .int .i64 c2, .int .i64 c3, .int .i64 1, .int .i64 c5, .int .i64 c6]] W fun r w' => r = .returned (.tuple #[.agg #[.int .i64 s1, .int .i64 s2], .int .i64 0]) ∧ Below W.heap.size W w')) (H2 : ∀ W, Hid (Calls Tryz.prog 25 #[.int .i64 c1, .int .i64 c2, .int .i64 c3, .agg #[.int .i64 s1, .int .i64 s2]] W fun r w' => r = .returned (.tuple #[.agg #[.int .i64 x1, .int .i64 x2, .int .i64 x3, .int .i64 x4, .int .i64 x5, .int .i64 x6], .int .i64 0]) ∧ Below W.heap.size W w')) (H3 : ∀ W, Hid (Calls Tryz.prog 43 #[.agg #[.int .i64 x1, .int .i64 x2, .int .i64 x3, .int .i64 x4, .int .i64 x5, .int .i64 x6]] W fun r w' => r = .returned (.tuple #[.agg #[.int .i64 s1, .int .i64 s2], .int .i64 0]) ∧ Below W.heap.size W w')) (H4 : ∀ W, Hid (Calls Tryz.prog 45 #[.agg #[.int .i64 c1, .int .i64 c2, .int .i64 c3, .int .i64 1, .int .i64 c5, .int .i64 c6], .agg #[.int .i64 x1, .int .i64 x2, .int .i64 x3, .int .i64 x4, .int .i64 x5, .int .i64 x6]] W fun r w' => r = .returned (.tuple #[.bool true, .int .i64 0]) ∧ Below W.heap.size W w')) (H5 : ∀ W, Hid (Calls Tryz.prog 43 #[.agg #[.int .i64 c1, .int .i64 c2, .int .i64 c3, .int .i64 1, .int .i64 c5, .int .i64 fine]] W fun r w' => r = .returned (.tuple #[.agg #[.int .i64 u1, .int .i64 u2], .int .i64 0]) ∧ Below W.heap.size W w')) : Calls Tryz.prog 11 #[.agg #[.int .i64 c1, .int .i64 c2, .int .i64 c3, .int .i64 1, .int .i64 c5, .int .i64 c6], .int .i64 fine] w fun e w' => e = .returned (.bool true) ∧ Below w.heap.size w w' := by
  go_enter Tryz.func11, Tryz.ntmps11
  go_wp2_with fail
  refine call_named (fun V => Below w.heap.size w V ∧ Hid (V.heap[w.heap.size]? = some (cellsOf ⟨c1, c2, c3, 1, c5, c6⟩))) (⟨xa (xr _) _, newA _ _ _ rfl⟩) ?_
  rintro X0 ⟨hB, K0⟩
  refine ((H1 _).out).mono ?_
  rintro r X1 ⟨rfl, hb⟩
  replace K0 := keepB hb K0
  replace hB := hB.trans (hb.mono hB.size)
  clear hb
  obtain ⟨B2, hB2⟩ : ∃ b, X1.heap.size = b := ⟨_, rfl⟩
  obtain ⟨t0_0, t0_1, t0_2, t0_3, t0_4, t0_5, t0_6, t0_7⟩ := cellsOf_at K0.out
  rw [hB2] at t0_7
  go_wp2_with fail
  try clear t0_0 t0_1 t0_2 t0_3 t0_4 t0_5 t0_6 t0_7
  try rw [hB2]
  refine call_named (fun V => Below w.heap.size w V ∧ Hid (V.heap[w.heap.size]? = some (cellsOf ⟨c1, c2, c3, 1, c5, c6⟩)) ∧ Hid (V.heap[B2]? = some (spanOf ⟨s1, s2⟩))) ⟨xa hB _, keepA K0 _, newA _ _ _ hB2⟩ ?_
  clear hB K0 hB2
  rintro V2 ⟨hB, K0, K2⟩
  refine ((H2 _).out).mono ?_
  rintro r X3 ⟨rfl, hb⟩
  replace K0 := keepB hb K0
  replace K2 := keepB hb K2
  replace hB := hB.trans (hb.mono hB.size)
  clear hb
  obtain ⟨B4, hB4⟩ : ∃ b, X3.heap.size = b := ⟨_, rfl⟩
  obtain ⟨t0_0, t0_1, t0_2, t0_3, t0_4, t0_5, t0_6, t0_7⟩ := cellsOf_at K0.out
  obtain ⟨t2_0, t2_1, t2_2, t2_3⟩ := span_at' K2.out
  rw [hB4] at t0_7 t2_3
  go_wp2_with fail
  try clear t0_0 t0_1 t0_2 t0_3 t0_4 t0_5 t0_6 t0_7 t2_0 t2_1 t2_2 t2_3
  try rw [hB4]
  refine call_named (fun V => Below w.heap.size w V ∧ Hid (V.heap[w.heap.size]? = some (cellsOf ⟨c1, c2, c3, 1, c5, c6⟩)) ∧ Hid (V.heap[B2]? = some (spanOf ⟨s1, s2⟩)) ∧ Hid (V.heap[B4]? = some (cellsOf ⟨x1, x2, x3, x4, x5, x6⟩))) ⟨xa hB _, keepA K0 _, keepA K2 _, newA _ _ _ hB4⟩ ?_
  clear hB K0 K2 hB4
  rintro V4 ⟨hB, K0, K2, K4⟩
  refine ((H3 _).out).mono ?_
  rintro r X5 ⟨rfl, hb⟩
  replace K0 := keepB hb K0
  replace K2 := keepB hb K2
  replace K4 := keepB hb K4
  replace hB := hB.trans (hb.mono hB.size)
  clear hb
  obtain ⟨B6, hB6⟩ : ∃ b, X5.heap.size = b := ⟨_, rfl⟩
  obtain ⟨t0_0, t0_1, t0_2, t0_3, t0_4, t0_5, t0_6, t0_7⟩ := cellsOf_at K0.out
  obtain ⟨t2_0, t2_1, t2_2, t2_3⟩ := span_at' K2.out
  obtain ⟨t4_0, t4_1, t4_2, t4_3, t4_4, t4_5, t4_6, t4_7⟩ := cellsOf_at K4.out
  rw [hB6] at t0_7 t2_3 t4_7
  go_wp2_with fail
  try clear t0_0 t0_1 t0_2 t0_3 t0_4 t0_5 t0_6 t0_7 t2_0 t2_1 t2_2 t2_3 t4_0 t4_1 t4_2 t4_3 t4_4 t4_5 t4_6 t4_7
  try rw [hB6]
  refine call_named (fun V => Below w.heap.size w V ∧ Hid (V.heap[w.heap.size]? = some (cellsOf ⟨c1, c2, c3, 1, c5, c6⟩)) ∧ Hid (V.heap[B2]? = some (spanOf ⟨s1, s2⟩)) ∧ Hid (V.heap[B4]? = some (cellsOf ⟨x1, x2, x3, x4, x5, x6⟩)) ∧ Hid (V.heap[B6]? = some (spanOf ⟨s1, s2⟩))) ⟨xa hB _, keepA K0 _, keepA K2 _, keepA K4 _, newA _ _ _ hB6⟩ ?_
  clear hB K0 K2 K4 hB6
  rintro V6 ⟨hB, K0, K2, K4, K6⟩
  refine ((H4 _).out).mono ?_
  rintro r X7 ⟨rfl, hb⟩
  replace K0 := keepB hb K0
  replace K2 := keepB hb K2
  replace K4 := keepB hb K4
  replace K6 := keepB hb K6
  replace hB := hB.trans (hb.mono hB.size)
  clear hb
  obtain ⟨B8, hB8⟩ : ∃ b, X7.heap.size = b := ⟨_, rfl⟩
  obtain ⟨t0_0, t0_1, t0_2, t0_3, t0_4, t0_5, t0_6, t0_7⟩ := cellsOf_at K0.out
  obtain ⟨t2_0, t2_1, t2_2, t2_3⟩ := span_at' K2.out
  obtain ⟨t4_0, t4_1, t4_2, t4_3, t4_4, t4_5, t4_6, t4_7⟩ := cellsOf_at K4.out
  obtain ⟨t6_0, t6_1, t6_2, t6_3⟩ := span_at' K6.out
  rw [hB8] at t0_7 t2_3 t4_7 t6_3
  go_wp2_with fail
  try clear t0_0 t0_1 t0_2 t0_3 t0_4 t0_5 t0_6 t0_7 t2_0 t2_1 t2_2 t2_3 t4_0 t4_1 t4_2 t4_3 t4_4 t4_5 t4_6 t4_7 t6_0 t6_1 t6_2 t6_3
  try rw [hB8]
  refine call_named (fun V => Below w.heap.size w V ∧ Hid (V.heap[w.heap.size]? = some (cellsOf ⟨c1, c2, c3, 1, c5, c6⟩)) ∧ Hid (V.heap[B2]? = some (spanOf ⟨s1, s2⟩)) ∧ Hid (V.heap[B4]? = some (cellsOf ⟨x1, x2, x3, x4, x5, x6⟩)) ∧ Hid (V.heap[B6]? = some (spanOf ⟨s1, s2⟩)) ∧ Hid (V.heap[B8]? = some (cellsOf ⟨c1, c2, c3, 1, c5, fine⟩))) ⟨xa hB _, keepA K0 _, keepA K2 _, keepA K4 _, keepA K6 _, newA _ _ _ hB8⟩ ?_
  clear hB K0 K2 K4 K6 hB8
  rintro V8 ⟨hB, K0, K2, K4, K6, K8⟩
  refine ((H5 _).out).mono ?_
  rintro r X9 ⟨rfl, hb⟩
  replace K0 := keepB hb K0
  replace K2 := keepB hb K2
  replace K4 := keepB hb K4
  replace K6 := keepB hb K6
  replace K8 := keepB hb K8
  replace hB := hB.trans (hb.mono hB.size)
  clear hb
  obtain ⟨B10, hB10⟩ : ∃ b, X9.heap.size = b := ⟨_, rfl⟩
  obtain ⟨t0_0, t0_1, t0_2, t0_3, t0_4, t0_5, t0_6, t0_7⟩ := cellsOf_at K0.out
  obtain ⟨t2_0, t2_1, t2_2, t2_3⟩ := span_at' K2.out
  obtain ⟨t4_0, t4_1, t4_2, t4_3, t4_4, t4_5, t4_6, t4_7⟩ := cellsOf_at K4.out
  obtain ⟨t6_0, t6_1, t6_2, t6_3⟩ := span_at' K6.out
  obtain ⟨t8_0, t8_1, t8_2, t8_3, t8_4, t8_5, t8_6, t8_7⟩ := cellsOf_at K8.out
  rw [hB10] at t0_7 t2_3 t4_7 t6_3 t8_7
  go_wp2_with fail
  try clear t0_0 t0_1 t0_2 t0_3 t0_4 t0_5 t0_6 t0_7 t2_0 t2_1 t2_2 t2_3 t4_0 t4_1 t4_2 t4_3 t4_4 t4_5 t4_6 t4_7 t6_0 t6_1 t6_2 t6_3 t8_0 t8_1 t8_2 t8_3 t8_4 t8_5 t8_6 t8_7
  try rw [hB10]
  refine call_named (fun V => Below w.heap.size w V ∧ Hid (V.heap[w.heap.size]? = some (cellsOf ⟨c1, c2, c3, 1, c5, c6⟩)) ∧ Hid (V.heap[B2]? = some (spanOf ⟨s1, s2⟩)) ∧ Hid (V.heap[B4]? = some (cellsOf ⟨x1, x2, x3, x4, x5, x6⟩)) ∧ Hid (V.heap[B6]? = some (spanOf ⟨s1, s2⟩)) ∧ Hid (V.heap[B8]? = some (cellsOf ⟨c1, c2, c3, 1, c5, fine⟩)) ∧ Hid (V.heap[B10]? = some (spanOf ⟨u1, u2⟩))) ⟨xa hB _, keepA K0 _, keepA K2 _, keepA K4 _, keepA K6 _, keepA K8 _, newA _ _ _ hB10⟩ ?_
  clear hB K0 K2 K4 K6 K8 hB10
  rintro V10 ⟨hB, K0, K2, K4, K6, K8, K10⟩
  refine (c22 V10 (HE.out.below hB) (HC.out.below hB HC.out.lt)).mono ?_
  rintro r X11 ⟨rfl, hb⟩
  replace K0 := keepB hb K0
  replace K2 := keepB hb K2
  replace K4 := keepB hb K4
  replace K6 := keepB hb K6
  replace K8 := keepB hb K8
  replace K10 := keepB hb K10
  replace hB := hB.trans (hb.mono hB.size)
  clear hb
  obtain ⟨t0_0, t0_1, t0_2, t0_3, t0_4, t0_5, t0_6, t0_7⟩ := cellsOf_at K0.out
  obtain ⟨t2_0, t2_1, t2_2, t2_3⟩ := span_at' K2.out
  obtain ⟨t4_0, t4_1, t4_2, t4_3, t4_4, t4_5, t4_6, t4_7⟩ := cellsOf_at K4.out
  obtain ⟨t6_0, t6_1, t6_2, t6_3⟩ := span_at' K6.out
  obtain ⟨t8_0, t8_1, t8_2, t8_3, t8_4, t8_5, t8_6, t8_7⟩ := cellsOf_at K8.out
  obtain ⟨t10_0, t10_1, t10_2, t10_3⟩ := span_at' K10.out
  go_wp2_with fail
  go_ret
  exact ⟨rfl, hB⟩
end Go.Proofs.YthifeoebefbalaaGreatDoor
