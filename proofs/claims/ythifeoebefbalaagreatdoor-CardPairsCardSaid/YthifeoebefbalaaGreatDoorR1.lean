/- The law CardPairs: the walk at valid cards. -/
import Derived.Test.YthifeoebefbalaaGreatDoorZ20
namespace Go.Proofs.YthifeoebefbalaaGreatDoor
open Go.RowKit

set_option maxRecDepth 100000 in
set_option maxHeartbeats 8000000 in
theorem c15_d0 (a1 a2 a3 a4 a5 a6 b1 b2 b3 b4 b5 b6 l1 h1 l2 h2 m1 m2 j1 j2 : Int) (p u : Bool) (w : World) (HE : Hid (Env w)) (HC : Hid (Cell0 w)) (H1 : ∀ W, Hid (Calls Tryz.prog 45 #[.agg #[.int .i64 a1, .int .i64 a2, .int .i64 a3, .int .i64 a4, .int .i64 a5, .int .i64 a6], .agg #[.int .i64 b1, .int .i64 b2, .int .i64 b3, .int .i64 b4, .int .i64 b5, .int .i64 b6]] W fun r w' => r = .returned (.tuple #[.bool p, .int .i64 0]) ∧ Below W.heap.size W w')) (H2 : ∀ W, Hid (Calls Tryz.prog 47 #[.agg #[.int .i64 a1, .int .i64 a2, .int .i64 a3, .int .i64 a4, .int .i64 a5, .int .i64 a6], .agg #[.int .i64 b1, .int .i64 b2, .int .i64 b3, .int .i64 b4, .int .i64 b5, .int .i64 b6]] W fun r w' => r = .returned (.tuple #[.bool u, .int .i64 0]) ∧ Below W.heap.size W w')) (H3 : ∀ W, Hid (Calls Tryz.prog 48 #[.agg #[.int .i64 a1, .int .i64 a2, .int .i64 a3, .int .i64 a4, .int .i64 a5, .int .i64 a6], .agg #[.int .i64 b1, .int .i64 b2, .int .i64 b3, .int .i64 b4, .int .i64 b5, .int .i64 b6]] W fun r w' => r = .returned (.tuple #[.agg #[.int .i64 0, .int .i64 0], .int .i64 5]) ∧ Below W.heap.size W w')) (H4 : ∀ W, Hid (Calls Tryz.prog 49 #[.agg #[.int .i64 a1, .int .i64 a2, .int .i64 a3, .int .i64 a4, .int .i64 a5, .int .i64 a6], .agg #[.int .i64 b1, .int .i64 b2, .int .i64 b3, .int .i64 b4, .int .i64 b5, .int .i64 b6]] W fun r w' => r = .returned (.tuple #[.bool false, .int .i64 0]) ∧ Below W.heap.size W w')) (H5 : ∀ W, Hid (Calls Tryz.prog 50 #[.agg #[.int .i64 a1, .int .i64 a2, .int .i64 a3, .int .i64 a4, .int .i64 a5, .int .i64 a6], .agg #[.int .i64 b1, .int .i64 b2, .int .i64 b3, .int .i64 b4, .int .i64 b5, .int .i64 b6]] W fun r w' => r = .returned (.tuple #[.agg #[.int .i64 0, .int .i64 0], .int .i64 5]) ∧ Below W.heap.size W w')) (H6 : ∀ W, Hid (Calls Tryz.prog 37 #[.agg #[.int .i64 a1, .int .i64 a2, .int .i64 a3, .int .i64 a4, .int .i64 a5, .int .i64 a6]] W fun r w' => r = .returned (.bool true) ∧ Below W.heap.size W w')) (H7 : ∀ W, Hid (Calls Tryz.prog 37 #[.agg #[.int .i64 b1, .int .i64 b2, .int .i64 b3, .int .i64 b4, .int .i64 b5, .int .i64 b6]] W fun r w' => r = .returned (.bool true) ∧ Below W.heap.size W w')) (H8 : ∀ W, Hid (Calls Tryz.prog 51 #[.agg #[.int .i64 a1, .int .i64 a2, .int .i64 a3, .int .i64 a4, .int .i64 a5, .int .i64 a6], .agg #[.int .i64 b1, .int .i64 b2, .int .i64 b3, .int .i64 b4, .int .i64 b5, .int .i64 b6]] W fun r w' => r = .returned (.bool p) ∧ Below W.heap.size W w')) (H9 : ∀ W, Hid (Calls Tryz.prog 52 #[.agg #[.int .i64 a1, .int .i64 a2, .int .i64 a3, .int .i64 a4, .int .i64 a5, .int .i64 a6], .agg #[.int .i64 b1, .int .i64 b2, .int .i64 b3, .int .i64 b4, .int .i64 b5, .int .i64 b6]] W fun r w' => r = .returned (.bool u) ∧ Below W.heap.size W w')) (HF : ∀ W, Hid (Calls Tryz.prog 53 #[.agg #[.int .i64 a1, .int .i64 a2, .int .i64 a3, .int .i64 a4, .int .i64 a5, .int .i64 a6], .agg #[.int .i64 b1, .int .i64 b2, .int .i64 b3, .int .i64 b4, .int .i64 b5, .int .i64 b6]] W fun r w' => r = .returned (.bool false) ∧ Below W.heap.size W w')) (HA : ∀ W, Hid (Calls Tryz.prog 55 #[.agg #[.int .i64 a1, .int .i64 a2, .int .i64 a3, .int .i64 a4, .int .i64 a5, .int .i64 a6]] W fun r w' => r = .returned (.agg #[.int .i64 l1, .int .i64 h1]) ∧ Below W.heap.size W w')) (HB : ∀ W, Hid (Calls Tryz.prog 55 #[.agg #[.int .i64 b1, .int .i64 b2, .int .i64 b3, .int .i64 b4, .int .i64 b5, .int .i64 b6]] W fun r w' => r = .returned (.agg #[.int .i64 l2, .int .i64 h2]) ∧ Below W.heap.size W w')) (HM : ∀ W, Hid (Calls Tryz.prog 54 #[.agg #[.int .i64 l1, .int .i64 h1], .agg #[.int .i64 l2, .int .i64 h2]] W fun r w' => r = .returned (.agg #[.int .i64 m1, .int .i64 m2]) ∧ Below W.heap.size W w')) (HO : ∀ W, Hid (Calls Tryz.prog 56 #[.agg #[.int .i64 a1, .int .i64 a2, .int .i64 a3, .int .i64 a4, .int .i64 a5, .int .i64 a6], .agg #[.int .i64 b1, .int .i64 b2, .int .i64 b3, .int .i64 b4, .int .i64 b5, .int .i64 b6]] W fun r w' => r = .returned (.bool false) ∧ Below W.heap.size W w')) (HJ : ∀ W, Hid (Calls Tryz.prog 57 #[.agg #[.int .i64 a1, .int .i64 a2, .int .i64 a3, .int .i64 a4, .int .i64 a5, .int .i64 a6], .agg #[.int .i64 b1, .int .i64 b2, .int .i64 b3, .int .i64 b4, .int .i64 b5, .int .i64 b6]] W fun r w' => r = .returned (.agg #[.int .i64 j1, .int .i64 j2]) ∧ Below W.heap.size W w')) : Calls Tryz.prog 15 #[.agg #[.int .i64 a1, .int .i64 a2, .int .i64 a3, .int .i64 a4, .int .i64 a5, .int .i64 a6], .agg #[.int .i64 b1, .int .i64 b2, .int .i64 b3, .int .i64 b4, .int .i64 b5, .int .i64 b6]] w fun e w' => e = .returned (.bool true) ∧ Below w.heap.size w w' := by
  go_enter Tryz.func15, Tryz.ntmps15
  go_wp2_with fail
  refine call_named (fun V => Below w.heap.size w V ∧ Hid (V.heap[w.heap.size]? = some (cellsOf ⟨a1, a2, a3, a4, a5, a6⟩)) ∧ Hid (V.heap[w.heap.size + 1]? = some (cellsOf ⟨b1, b2, b3, b4, b5, b6⟩))) (box_two _ _ _) ?_
  rintro X0 ⟨hB, K0, K1⟩
  refine ((H1 _).out).mono ?_
  rintro r X1 ⟨rfl, hb⟩
  replace K0 := keepB hb K0
  replace K1 := keepB hb K1
  replace hB := hB.trans (hb.mono hB.size)
  clear hb
  obtain ⟨t0_0, t0_1, t0_2, t0_3, t0_4, t0_5, t0_6, t0_7⟩ := cellsOf_at K0.out
  obtain ⟨t1_0, t1_1, t1_2, t1_3, t1_4, t1_5, t1_6, t1_7⟩ := cellsOf_at K1.out
  go_wp2_with fail
  try clear t0_0 t0_1 t0_2 t0_3 t0_4 t0_5 t0_6 t0_7 t1_0 t1_1 t1_2 t1_3 t1_4 t1_5 t1_6 t1_7
  refine ((H2 _).out).mono ?_
  rintro r X2 ⟨rfl, hb⟩
  replace K0 := keepB hb K0
  replace K1 := keepB hb K1
  replace hB := hB.trans (hb.mono hB.size)
  clear hb
  obtain ⟨t0_0, t0_1, t0_2, t0_3, t0_4, t0_5, t0_6, t0_7⟩ := cellsOf_at K0.out
  obtain ⟨t1_0, t1_1, t1_2, t1_3, t1_4, t1_5, t1_6, t1_7⟩ := cellsOf_at K1.out
  go_wp2_with fail
  try clear t0_0 t0_1 t0_2 t0_3 t0_4 t0_5 t0_6 t0_7 t1_0 t1_1 t1_2 t1_3 t1_4 t1_5 t1_6 t1_7
  refine ((H3 _).out).mono ?_
  rintro r X3 ⟨rfl, hb⟩
  replace K0 := keepB hb K0
  replace K1 := keepB hb K1
  replace hB := hB.trans (hb.mono hB.size)
  clear hb
  obtain ⟨B4, hB4⟩ : ∃ b, X3.heap.size = b := ⟨_, rfl⟩
  obtain ⟨t0_0, t0_1, t0_2, t0_3, t0_4, t0_5, t0_6, t0_7⟩ := cellsOf_at K0.out
  obtain ⟨t1_0, t1_1, t1_2, t1_3, t1_4, t1_5, t1_6, t1_7⟩ := cellsOf_at K1.out
  rw [hB4] at t0_7 t1_7
  go_wp2_with fail
  try clear t0_0 t0_1 t0_2 t0_3 t0_4 t0_5 t0_6 t0_7 t1_0 t1_1 t1_2 t1_3 t1_4 t1_5 t1_6 t1_7
  try rw [hB4]
  refine call_named (fun V => Below w.heap.size w V ∧ Hid (V.heap[w.heap.size]? = some (cellsOf ⟨a1, a2, a3, a4, a5, a6⟩)) ∧ Hid (V.heap[w.heap.size + 1]? = some (cellsOf ⟨b1, b2, b3, b4, b5, b6⟩)) ∧ Hid (V.heap[B4]? = some (spanOf ⟨0, 0⟩))) ⟨xa hB _, keepA K0 _, keepA K1 _, newA _ _ _ hB4⟩ ?_
  clear hB K0 K1 hB4
  rintro V4 ⟨hB, K0, K1, K4⟩
  refine ((H4 _).out).mono ?_
  rintro r X5 ⟨rfl, hb⟩
  replace K0 := keepB hb K0
  replace K1 := keepB hb K1
  replace K4 := keepB hb K4
  replace hB := hB.trans (hb.mono hB.size)
  clear hb
  obtain ⟨t0_0, t0_1, t0_2, t0_3, t0_4, t0_5, t0_6, t0_7⟩ := cellsOf_at K0.out
  obtain ⟨t1_0, t1_1, t1_2, t1_3, t1_4, t1_5, t1_6, t1_7⟩ := cellsOf_at K1.out
  obtain ⟨t4_0, t4_1, t4_2, t4_3⟩ := span_at' K4.out
  go_wp2_with fail
  try clear t0_0 t0_1 t0_2 t0_3 t0_4 t0_5 t0_6 t0_7 t1_0 t1_1 t1_2 t1_3 t1_4 t1_5 t1_6 t1_7 t4_0 t4_1 t4_2 t4_3
  refine ((H5 _).out).mono ?_
  rintro r X6 ⟨rfl, hb⟩
  replace K0 := keepB hb K0
  replace K1 := keepB hb K1
  replace K4 := keepB hb K4
  replace hB := hB.trans (hb.mono hB.size)
  clear hb
  obtain ⟨B7, hB7⟩ : ∃ b, X6.heap.size = b := ⟨_, rfl⟩
  obtain ⟨t0_0, t0_1, t0_2, t0_3, t0_4, t0_5, t0_6, t0_7⟩ := cellsOf_at K0.out
  obtain ⟨t1_0, t1_1, t1_2, t1_3, t1_4, t1_5, t1_6, t1_7⟩ := cellsOf_at K1.out
  obtain ⟨t4_0, t4_1, t4_2, t4_3⟩ := span_at' K4.out
  rw [hB7] at t0_7 t1_7 t4_3
  go_wp2_with fail
  try clear t0_0 t0_1 t0_2 t0_3 t0_4 t0_5 t0_6 t0_7 t1_0 t1_1 t1_2 t1_3 t1_4 t1_5 t1_6 t1_7 t4_0 t4_1 t4_2 t4_3
  try rw [hB7]
  refine call_named (fun V => Below w.heap.size w V ∧ Hid (V.heap[w.heap.size]? = some (cellsOf ⟨a1, a2, a3, a4, a5, a6⟩)) ∧ Hid (V.heap[w.heap.size + 1]? = some (cellsOf ⟨b1, b2, b3, b4, b5, b6⟩)) ∧ Hid (V.heap[B4]? = some (spanOf ⟨0, 0⟩)) ∧ Hid (V.heap[B7]? = some (spanOf ⟨0, 0⟩))) ⟨xa hB _, keepA K0 _, keepA K1 _, keepA K4 _, newA _ _ _ hB7⟩ ?_
  clear hB K0 K1 K4 hB7
  rintro V7 ⟨hB, K0, K1, K4, K7⟩
  refine ((H6 _).out).mono ?_
  rintro r X8 ⟨rfl, hb⟩
  replace K0 := keepB hb K0
  replace K1 := keepB hb K1
  replace K4 := keepB hb K4
  replace K7 := keepB hb K7
  replace hB := hB.trans (hb.mono hB.size)
  clear hb
  obtain ⟨t0_0, t0_1, t0_2, t0_3, t0_4, t0_5, t0_6, t0_7⟩ := cellsOf_at K0.out
  obtain ⟨t1_0, t1_1, t1_2, t1_3, t1_4, t1_5, t1_6, t1_7⟩ := cellsOf_at K1.out
  obtain ⟨t4_0, t4_1, t4_2, t4_3⟩ := span_at' K4.out
  obtain ⟨t7_0, t7_1, t7_2, t7_3⟩ := span_at' K7.out
  go_wp2_with fail
  try clear t0_0 t0_1 t0_2 t0_3 t0_4 t0_5 t0_6 t0_7 t1_0 t1_1 t1_2 t1_3 t1_4 t1_5 t1_6 t1_7 t4_0 t4_1 t4_2 t4_3 t7_0 t7_1 t7_2 t7_3
  refine ((H7 _).out).mono ?_
  rintro r X9 ⟨rfl, hb⟩
  replace K0 := keepB hb K0
  replace K1 := keepB hb K1
  replace K4 := keepB hb K4
  replace K7 := keepB hb K7
  replace hB := hB.trans (hb.mono hB.size)
  clear hb
  obtain ⟨t0_0, t0_1, t0_2, t0_3, t0_4, t0_5, t0_6, t0_7⟩ := cellsOf_at K0.out
  obtain ⟨t1_0, t1_1, t1_2, t1_3, t1_4, t1_5, t1_6, t1_7⟩ := cellsOf_at K1.out
  obtain ⟨t4_0, t4_1, t4_2, t4_3⟩ := span_at' K4.out
  obtain ⟨t7_0, t7_1, t7_2, t7_3⟩ := span_at' K7.out
  go_wp2_with fail
  try clear t0_0 t0_1 t0_2 t0_3 t0_4 t0_5 t0_6 t0_7 t1_0 t1_1 t1_2 t1_3 t1_4 t1_5 t1_6 t1_7 t4_0 t4_1 t4_2 t4_3 t7_0 t7_1 t7_2 t7_3
  refine ((H8 _).out).mono ?_
  rintro r X10 ⟨rfl, hb⟩
  replace K0 := keepB hb K0
  replace K1 := keepB hb K1
  replace K4 := keepB hb K4
  replace K7 := keepB hb K7
  replace hB := hB.trans (hb.mono hB.size)
  clear hb
  obtain ⟨t0_0, t0_1, t0_2, t0_3, t0_4, t0_5, t0_6, t0_7⟩ := cellsOf_at K0.out
  obtain ⟨t1_0, t1_1, t1_2, t1_3, t1_4, t1_5, t1_6, t1_7⟩ := cellsOf_at K1.out
  obtain ⟨t4_0, t4_1, t4_2, t4_3⟩ := span_at' K4.out
  obtain ⟨t7_0, t7_1, t7_2, t7_3⟩ := span_at' K7.out
  go_wp2_with fail
  try clear t0_0 t0_1 t0_2 t0_3 t0_4 t0_5 t0_6 t0_7 t1_0 t1_1 t1_2 t1_3 t1_4 t1_5 t1_6 t1_7 t4_0 t4_1 t4_2 t4_3 t7_0 t7_1 t7_2 t7_3
  refine ((H9 _).out).mono ?_
  rintro r X11 ⟨rfl, hb⟩
  replace K0 := keepB hb K0
  replace K1 := keepB hb K1
  replace K4 := keepB hb K4
  replace K7 := keepB hb K7
  replace hB := hB.trans (hb.mono hB.size)
  clear hb
  obtain ⟨t0_0, t0_1, t0_2, t0_3, t0_4, t0_5, t0_6, t0_7⟩ := cellsOf_at K0.out
  obtain ⟨t1_0, t1_1, t1_2, t1_3, t1_4, t1_5, t1_6, t1_7⟩ := cellsOf_at K1.out
  obtain ⟨t4_0, t4_1, t4_2, t4_3⟩ := span_at' K4.out
  obtain ⟨t7_0, t7_1, t7_2, t7_3⟩ := span_at' K7.out
  go_wp2_with fail
  try clear t0_0 t0_1 t0_2 t0_3 t0_4 t0_5 t0_6 t0_7 t1_0 t1_1 t1_2 t1_3 t1_4 t1_5 t1_6 t1_7 t4_0 t4_1 t4_2 t4_3 t7_0 t7_1 t7_2 t7_3
  refine ((HF _).out).mono ?_
  rintro r X12 ⟨rfl, hb⟩
  replace K0 := keepB hb K0
  replace K1 := keepB hb K1
  replace K4 := keepB hb K4
  replace K7 := keepB hb K7
  replace hB := hB.trans (hb.mono hB.size)
  clear hb
  obtain ⟨t0_0, t0_1, t0_2, t0_3, t0_4, t0_5, t0_6, t0_7⟩ := cellsOf_at K0.out
  obtain ⟨t1_0, t1_1, t1_2, t1_3, t1_4, t1_5, t1_6, t1_7⟩ := cellsOf_at K1.out
  obtain ⟨t4_0, t4_1, t4_2, t4_3⟩ := span_at' K4.out
  obtain ⟨t7_0, t7_1, t7_2, t7_3⟩ := span_at' K7.out
  go_wp2_with fail
  try clear t0_0 t0_1 t0_2 t0_3 t0_4 t0_5 t0_6 t0_7 t1_0 t1_1 t1_2 t1_3 t1_4 t1_5 t1_6 t1_7 t4_0 t4_1 t4_2 t4_3 t7_0 t7_1 t7_2 t7_3
  obtain ⟨g1, g2⟩ := blk_of K0.out
  obtain ⟨g3, g4⟩ := blk_of K1.out
  refine wp_region_grows X12 (by kernel_rfl) (Grown.refl _) fun x => ?_
  refine WG_take0 (v := ?_) (a' := ?_) 0 rfl (by kernel_rfl) (by kernel_rfl) (by kernel_rfl) ⟨rfl, fun y => ?_⟩ ?_ 129 rfl (by kernel_rfl) fun x => ?_
  rotate_left 2
  · go_big_quiet_op; exact rfl
  · exact rfl
  refine WG_take0 (v := ?_) (a' := ?_) 1 rfl (by kernel_rfl) (by kernel_rfl) (by kernel_rfl) ⟨rfl, fun y => ?_⟩ ?_ 130 rfl (by kernel_rfl) fun x => ?_
  rotate_left 2
  · go_big_quiet_op
    apply Exists.intro; refine ⟨fun n => ?_, ?_⟩
    · go_at_call 55
      exact gw_call (HA _).out
    exact rfl
  · exact rfl
  refine WG_take0 (v := ?_) (a' := ?_) 2 rfl (by kernel_rfl) (by kernel_rfl) (by kernel_rfl) ⟨rfl, fun y => ?_⟩ ?_ 131 rfl (by kernel_rfl) fun x => ?_
  rotate_left 2
  · go_big_quiet_op; exact rfl
  · exact rfl
  refine WG_take0 (v := ?_) (a' := ?_) 3 rfl (by kernel_rfl) (by kernel_rfl) (by kernel_rfl) ⟨rfl, fun y => ?_⟩ ?_ 132 rfl (by kernel_rfl) fun x => ?_
  rotate_left 2
  · go_big_quiet_op
    apply Exists.intro; refine ⟨fun n => ?_, ?_⟩
    · go_at_call 55
      exact gw_call (HB _).out
    exact rfl
  · exact rfl
  refine WG_take0 (v := ?_) (a' := ?_) 4 rfl (by kernel_rfl) (by kernel_rfl) (by kernel_rfl) ⟨rfl, fun y => ?_⟩ ?_ 133 rfl (by kernel_rfl) fun x => ?_
  rotate_left 2
  · go_big_quiet_op
    apply Exists.intro; refine ⟨fun n => ?_, ?_⟩
    · go_at_call 54
      exact gw_call (HM _).out
    exact rfl
  · exact rfl
  refine WG_all [5] (by kernel_rfl) (by simp) fun i hi => ?_
  rcases List.mem_singleton.1 hi with rfl
  refine WG_op rfl rfl fun K hK => ?_
  go_big_op
  refine hK _ _ ⟨xa (Grown.gw _ _) _, fun y => ?_⟩
  obtain ⟨P13, w1, e1, e2, p1, p2, p3, p4, pF, p5⟩ := new_at (Grown.gw X12 x) #[.int .i64 0, .int .i64 0] 33 y
  rw [e1, e2]
  clear e1 e2
  refine WG_all [6] (by kernel_rfl) (by simp) fun i hi => ?_
  rcases List.mem_singleton.1 hi with rfl
  refine WG_op rfl rfl fun K hK => ?_
  go_big_op
  refine hK _ _ ⟨xs (xs p2 p1 _) p1 _, fun y => ?_⟩
  obtain ⟨W13, e3, r1, r2, r3, r4, -⟩ := stored2 p2 p1 p5 pF (.int .i64 m1) (.int .i64 m2) y
  rw [e3]
  have r8 := Nat.lt_of_lt_of_le p4 r2
  clear e3 p3 p4 p5 pF p2 p1 r2 w1 hi g1 g2 g3 g4
  refine WG_done (by kernel_rfl) ?_ _
  have K13 : Hid (SpanCells W13 P13 ⟨m1, m2⟩) := Lib.hid ⟨r8, r3 0, r3 1, r4⟩
  replace K0 := keepB r1 K0
  replace K1 := keepB r1 K1
  replace K4 := keepB r1 K4
  replace K7 := keepB r1 K7
  replace hB := hB.trans (r1.mono hB.size)
  clear r1 r3 r4 r8
  unfold NoPanic
  obtain ⟨t0_0, t0_1, t0_2, t0_3, t0_4, t0_5, t0_6, t0_7⟩ := cellsOf_at K0.out
  obtain ⟨t1_0, t1_1, t1_2, t1_3, t1_4, t1_5, t1_6, t1_7⟩ := cellsOf_at K1.out
  obtain ⟨t4_0, t4_1, t4_2, t4_3⟩ := span_at' K4.out
  obtain ⟨t7_0, t7_1, t7_2, t7_3⟩ := span_at' K7.out
  obtain ⟨t13_0, t13_1, t13_2, t13_3⟩ := span_cells K13
  go_wp2_with fail
  try clear t0_0 t0_1 t0_2 t0_3 t0_4 t0_5 t0_6 t0_7 t1_0 t1_1 t1_2 t1_3 t1_4 t1_5 t1_6 t1_7 t4_0 t4_1 t4_2 t4_3 t7_0 t7_1 t7_2 t7_3 t13_0 t13_1 t13_2 t13_3
  refine ((HO _).out).mono ?_
  rintro r X14 ⟨rfl, hb⟩
  replace K0 := keepB hb K0
  replace K1 := keepB hb K1
  replace K4 := keepB hb K4
  replace K7 := keepB hb K7
  replace K13 := keepC hb K13
  replace hB := hB.trans (hb.mono hB.size)
  clear hb
  obtain ⟨t0_0, t0_1, t0_2, t0_3, t0_4, t0_5, t0_6, t0_7⟩ := cellsOf_at K0.out
  obtain ⟨t1_0, t1_1, t1_2, t1_3, t1_4, t1_5, t1_6, t1_7⟩ := cellsOf_at K1.out
  obtain ⟨t4_0, t4_1, t4_2, t4_3⟩ := span_at' K4.out
  obtain ⟨t7_0, t7_1, t7_2, t7_3⟩ := span_at' K7.out
  obtain ⟨t13_0, t13_1, t13_2, t13_3⟩ := span_cells K13
  go_wp2_with fail
  try clear t0_0 t0_1 t0_2 t0_3 t0_4 t0_5 t0_6 t0_7 t1_0 t1_1 t1_2 t1_3 t1_4 t1_5 t1_6 t1_7 t4_0 t4_1 t4_2 t4_3 t7_0 t7_1 t7_2 t7_3 t13_0 t13_1 t13_2 t13_3
  refine (c22 X14 (HE.out.below hB) (HC.out.below hB HC.out.lt)).mono ?_
  rintro r X15 ⟨rfl, hb⟩
  replace K0 := keepB hb K0
  replace K1 := keepB hb K1
  replace K4 := keepB hb K4
  replace K7 := keepB hb K7
  replace K13 := keepC hb K13
  replace hB := hB.trans (hb.mono hB.size)
  clear hb
  obtain ⟨t0_0, t0_1, t0_2, t0_3, t0_4, t0_5, t0_6, t0_7⟩ := cellsOf_at K0.out
  obtain ⟨t1_0, t1_1, t1_2, t1_3, t1_4, t1_5, t1_6, t1_7⟩ := cellsOf_at K1.out
  obtain ⟨t4_0, t4_1, t4_2, t4_3⟩ := span_at' K4.out
  obtain ⟨t7_0, t7_1, t7_2, t7_3⟩ := span_at' K7.out
  obtain ⟨t13_0, t13_1, t13_2, t13_3⟩ := span_cells K13
  go_wp2_with fail
  go_ret
  exact ⟨rfl, hB⟩
set_option maxRecDepth 100000 in
set_option maxHeartbeats 8000000 in
theorem c15_90 (a1 a2 a3 a4 a5 a6 b1 b2 b3 b4 b5 b6 l1 h1 l2 h2 m1 m2 j1 j2 : Int) (p u : Bool) (w : World) (hm0 : m2 < m1) (HE : Hid (Env w)) (HC : Hid (Cell0 w)) (H1 : ∀ W, Hid (Calls Tryz.prog 45 #[.agg #[.int .i64 a1, .int .i64 a2, .int .i64 a3, .int .i64 a4, .int .i64 a5, .int .i64 a6], .agg #[.int .i64 b1, .int .i64 b2, .int .i64 b3, .int .i64 b4, .int .i64 b5, .int .i64 b6]] W fun r w' => r = .returned (.tuple #[.bool p, .int .i64 0]) ∧ Below W.heap.size W w')) (H2 : ∀ W, Hid (Calls Tryz.prog 47 #[.agg #[.int .i64 a1, .int .i64 a2, .int .i64 a3, .int .i64 a4, .int .i64 a5, .int .i64 a6], .agg #[.int .i64 b1, .int .i64 b2, .int .i64 b3, .int .i64 b4, .int .i64 b5, .int .i64 b6]] W fun r w' => r = .returned (.tuple #[.bool u, .int .i64 0]) ∧ Below W.heap.size W w')) (H3 : ∀ W, Hid (Calls Tryz.prog 48 #[.agg #[.int .i64 a1, .int .i64 a2, .int .i64 a3, .int .i64 a4, .int .i64 a5, .int .i64 a6], .agg #[.int .i64 b1, .int .i64 b2, .int .i64 b3, .int .i64 b4, .int .i64 b5, .int .i64 b6]] W fun r w' => r = .returned (.tuple #[.agg #[.int .i64 0, .int .i64 0], .int .i64 9]) ∧ Below W.heap.size W w')) (H4 : ∀ W, Hid (Calls Tryz.prog 49 #[.agg #[.int .i64 a1, .int .i64 a2, .int .i64 a3, .int .i64 a4, .int .i64 a5, .int .i64 a6], .agg #[.int .i64 b1, .int .i64 b2, .int .i64 b3, .int .i64 b4, .int .i64 b5, .int .i64 b6]] W fun r w' => r = .returned (.tuple #[.bool false, .int .i64 0]) ∧ Below W.heap.size W w')) (H5 : ∀ W, Hid (Calls Tryz.prog 50 #[.agg #[.int .i64 a1, .int .i64 a2, .int .i64 a3, .int .i64 a4, .int .i64 a5, .int .i64 a6], .agg #[.int .i64 b1, .int .i64 b2, .int .i64 b3, .int .i64 b4, .int .i64 b5, .int .i64 b6]] W fun r w' => r = .returned (.tuple #[.agg #[.int .i64 0, .int .i64 0], .int .i64 5]) ∧ Below W.heap.size W w')) (H6 : ∀ W, Hid (Calls Tryz.prog 37 #[.agg #[.int .i64 a1, .int .i64 a2, .int .i64 a3, .int .i64 a4, .int .i64 a5, .int .i64 a6]] W fun r w' => r = .returned (.bool true) ∧ Below W.heap.size W w')) (H7 : ∀ W, Hid (Calls Tryz.prog 37 #[.agg #[.int .i64 b1, .int .i64 b2, .int .i64 b3, .int .i64 b4, .int .i64 b5, .int .i64 b6]] W fun r w' => r = .returned (.bool true) ∧ Below W.heap.size W w')) (H8 : ∀ W, Hid (Calls Tryz.prog 51 #[.agg #[.int .i64 a1, .int .i64 a2, .int .i64 a3, .int .i64 a4, .int .i64 a5, .int .i64 a6], .agg #[.int .i64 b1, .int .i64 b2, .int .i64 b3, .int .i64 b4, .int .i64 b5, .int .i64 b6]] W fun r w' => r = .returned (.bool p) ∧ Below W.heap.size W w')) (H9 : ∀ W, Hid (Calls Tryz.prog 52 #[.agg #[.int .i64 a1, .int .i64 a2, .int .i64 a3, .int .i64 a4, .int .i64 a5, .int .i64 a6], .agg #[.int .i64 b1, .int .i64 b2, .int .i64 b3, .int .i64 b4, .int .i64 b5, .int .i64 b6]] W fun r w' => r = .returned (.bool u) ∧ Below W.heap.size W w')) (HF : ∀ W, Hid (Calls Tryz.prog 53 #[.agg #[.int .i64 a1, .int .i64 a2, .int .i64 a3, .int .i64 a4, .int .i64 a5, .int .i64 a6], .agg #[.int .i64 b1, .int .i64 b2, .int .i64 b3, .int .i64 b4, .int .i64 b5, .int .i64 b6]] W fun r w' => r = .returned (.bool false) ∧ Below W.heap.size W w')) (HA : ∀ W, Hid (Calls Tryz.prog 55 #[.agg #[.int .i64 a1, .int .i64 a2, .int .i64 a3, .int .i64 a4, .int .i64 a5, .int .i64 a6]] W fun r w' => r = .returned (.agg #[.int .i64 l1, .int .i64 h1]) ∧ Below W.heap.size W w')) (HB : ∀ W, Hid (Calls Tryz.prog 55 #[.agg #[.int .i64 b1, .int .i64 b2, .int .i64 b3, .int .i64 b4, .int .i64 b5, .int .i64 b6]] W fun r w' => r = .returned (.agg #[.int .i64 l2, .int .i64 h2]) ∧ Below W.heap.size W w')) (HM : ∀ W, Hid (Calls Tryz.prog 54 #[.agg #[.int .i64 l1, .int .i64 h1], .agg #[.int .i64 l2, .int .i64 h2]] W fun r w' => r = .returned (.agg #[.int .i64 m1, .int .i64 m2]) ∧ Below W.heap.size W w')) (HO : ∀ W, Hid (Calls Tryz.prog 56 #[.agg #[.int .i64 a1, .int .i64 a2, .int .i64 a3, .int .i64 a4, .int .i64 a5, .int .i64 a6], .agg #[.int .i64 b1, .int .i64 b2, .int .i64 b3, .int .i64 b4, .int .i64 b5, .int .i64 b6]] W fun r w' => r = .returned (.bool true) ∧ Below W.heap.size W w')) (HJ : ∀ W, Hid (Calls Tryz.prog 57 #[.agg #[.int .i64 a1, .int .i64 a2, .int .i64 a3, .int .i64 a4, .int .i64 a5, .int .i64 a6], .agg #[.int .i64 b1, .int .i64 b2, .int .i64 b3, .int .i64 b4, .int .i64 b5, .int .i64 b6]] W fun r w' => r = .returned (.agg #[.int .i64 j1, .int .i64 j2]) ∧ Below W.heap.size W w')) : Calls Tryz.prog 15 #[.agg #[.int .i64 a1, .int .i64 a2, .int .i64 a3, .int .i64 a4, .int .i64 a5, .int .i64 a6], .agg #[.int .i64 b1, .int .i64 b2, .int .i64 b3, .int .i64 b4, .int .i64 b5, .int .i64 b6]] w fun e w' => e = .returned (.bool true) ∧ Below w.heap.size w w' := by
  go_enter Tryz.func15, Tryz.ntmps15
  go_wp2_with fail
  refine call_named (fun V => Below w.heap.size w V ∧ Hid (V.heap[w.heap.size]? = some (cellsOf ⟨a1, a2, a3, a4, a5, a6⟩)) ∧ Hid (V.heap[w.heap.size + 1]? = some (cellsOf ⟨b1, b2, b3, b4, b5, b6⟩))) (box_two _ _ _) ?_
  rintro X0 ⟨hB, K0, K1⟩
  refine ((H1 _).out).mono ?_
  rintro r X1 ⟨rfl, hb⟩
  replace K0 := keepB hb K0
  replace K1 := keepB hb K1
  replace hB := hB.trans (hb.mono hB.size)
  clear hb
  obtain ⟨t0_0, t0_1, t0_2, t0_3, t0_4, t0_5, t0_6, t0_7⟩ := cellsOf_at K0.out
  obtain ⟨t1_0, t1_1, t1_2, t1_3, t1_4, t1_5, t1_6, t1_7⟩ := cellsOf_at K1.out
  go_wp2_with fail
  try clear t0_0 t0_1 t0_2 t0_3 t0_4 t0_5 t0_6 t0_7 t1_0 t1_1 t1_2 t1_3 t1_4 t1_5 t1_6 t1_7
  refine ((H2 _).out).mono ?_
  rintro r X2 ⟨rfl, hb⟩
  replace K0 := keepB hb K0
  replace K1 := keepB hb K1
  replace hB := hB.trans (hb.mono hB.size)
  clear hb
  obtain ⟨t0_0, t0_1, t0_2, t0_3, t0_4, t0_5, t0_6, t0_7⟩ := cellsOf_at K0.out
  obtain ⟨t1_0, t1_1, t1_2, t1_3, t1_4, t1_5, t1_6, t1_7⟩ := cellsOf_at K1.out
  go_wp2_with fail
  try clear t0_0 t0_1 t0_2 t0_3 t0_4 t0_5 t0_6 t0_7 t1_0 t1_1 t1_2 t1_3 t1_4 t1_5 t1_6 t1_7
  refine ((H3 _).out).mono ?_
  rintro r X3 ⟨rfl, hb⟩
  replace K0 := keepB hb K0
  replace K1 := keepB hb K1
  replace hB := hB.trans (hb.mono hB.size)
  clear hb
  obtain ⟨B4, hB4⟩ : ∃ b, X3.heap.size = b := ⟨_, rfl⟩
  obtain ⟨t0_0, t0_1, t0_2, t0_3, t0_4, t0_5, t0_6, t0_7⟩ := cellsOf_at K0.out
  obtain ⟨t1_0, t1_1, t1_2, t1_3, t1_4, t1_5, t1_6, t1_7⟩ := cellsOf_at K1.out
  rw [hB4] at t0_7 t1_7
  go_wp2_with fail
  try clear t0_0 t0_1 t0_2 t0_3 t0_4 t0_5 t0_6 t0_7 t1_0 t1_1 t1_2 t1_3 t1_4 t1_5 t1_6 t1_7
  try rw [hB4]
  refine call_named (fun V => Below w.heap.size w V ∧ Hid (V.heap[w.heap.size]? = some (cellsOf ⟨a1, a2, a3, a4, a5, a6⟩)) ∧ Hid (V.heap[w.heap.size + 1]? = some (cellsOf ⟨b1, b2, b3, b4, b5, b6⟩)) ∧ Hid (V.heap[B4]? = some (spanOf ⟨0, 0⟩))) ⟨xa hB _, keepA K0 _, keepA K1 _, newA _ _ _ hB4⟩ ?_
  clear hB K0 K1 hB4
  rintro V4 ⟨hB, K0, K1, K4⟩
  refine ((H4 _).out).mono ?_
  rintro r X5 ⟨rfl, hb⟩
  replace K0 := keepB hb K0
  replace K1 := keepB hb K1
  replace K4 := keepB hb K4
  replace hB := hB.trans (hb.mono hB.size)
  clear hb
  obtain ⟨t0_0, t0_1, t0_2, t0_3, t0_4, t0_5, t0_6, t0_7⟩ := cellsOf_at K0.out
  obtain ⟨t1_0, t1_1, t1_2, t1_3, t1_4, t1_5, t1_6, t1_7⟩ := cellsOf_at K1.out
  obtain ⟨t4_0, t4_1, t4_2, t4_3⟩ := span_at' K4.out
  go_wp2_with fail
  try clear t0_0 t0_1 t0_2 t0_3 t0_4 t0_5 t0_6 t0_7 t1_0 t1_1 t1_2 t1_3 t1_4 t1_5 t1_6 t1_7 t4_0 t4_1 t4_2 t4_3
  refine ((H5 _).out).mono ?_
  rintro r X6 ⟨rfl, hb⟩
  replace K0 := keepB hb K0
  replace K1 := keepB hb K1
  replace K4 := keepB hb K4
  replace hB := hB.trans (hb.mono hB.size)
  clear hb
  obtain ⟨B7, hB7⟩ : ∃ b, X6.heap.size = b := ⟨_, rfl⟩
  obtain ⟨t0_0, t0_1, t0_2, t0_3, t0_4, t0_5, t0_6, t0_7⟩ := cellsOf_at K0.out
  obtain ⟨t1_0, t1_1, t1_2, t1_3, t1_4, t1_5, t1_6, t1_7⟩ := cellsOf_at K1.out
  obtain ⟨t4_0, t4_1, t4_2, t4_3⟩ := span_at' K4.out
  rw [hB7] at t0_7 t1_7 t4_3
  go_wp2_with fail
  try clear t0_0 t0_1 t0_2 t0_3 t0_4 t0_5 t0_6 t0_7 t1_0 t1_1 t1_2 t1_3 t1_4 t1_5 t1_6 t1_7 t4_0 t4_1 t4_2 t4_3
  try rw [hB7]
  refine call_named (fun V => Below w.heap.size w V ∧ Hid (V.heap[w.heap.size]? = some (cellsOf ⟨a1, a2, a3, a4, a5, a6⟩)) ∧ Hid (V.heap[w.heap.size + 1]? = some (cellsOf ⟨b1, b2, b3, b4, b5, b6⟩)) ∧ Hid (V.heap[B4]? = some (spanOf ⟨0, 0⟩)) ∧ Hid (V.heap[B7]? = some (spanOf ⟨0, 0⟩))) ⟨xa hB _, keepA K0 _, keepA K1 _, keepA K4 _, newA _ _ _ hB7⟩ ?_
  clear hB K0 K1 K4 hB7
  rintro V7 ⟨hB, K0, K1, K4, K7⟩
  refine ((H6 _).out).mono ?_
  rintro r X8 ⟨rfl, hb⟩
  replace K0 := keepB hb K0
  replace K1 := keepB hb K1
  replace K4 := keepB hb K4
  replace K7 := keepB hb K7
  replace hB := hB.trans (hb.mono hB.size)
  clear hb
  obtain ⟨t0_0, t0_1, t0_2, t0_3, t0_4, t0_5, t0_6, t0_7⟩ := cellsOf_at K0.out
  obtain ⟨t1_0, t1_1, t1_2, t1_3, t1_4, t1_5, t1_6, t1_7⟩ := cellsOf_at K1.out
  obtain ⟨t4_0, t4_1, t4_2, t4_3⟩ := span_at' K4.out
  obtain ⟨t7_0, t7_1, t7_2, t7_3⟩ := span_at' K7.out
  go_wp2_with fail
  try clear t0_0 t0_1 t0_2 t0_3 t0_4 t0_5 t0_6 t0_7 t1_0 t1_1 t1_2 t1_3 t1_4 t1_5 t1_6 t1_7 t4_0 t4_1 t4_2 t4_3 t7_0 t7_1 t7_2 t7_3
  refine ((H7 _).out).mono ?_
  rintro r X9 ⟨rfl, hb⟩
  replace K0 := keepB hb K0
  replace K1 := keepB hb K1
  replace K4 := keepB hb K4
  replace K7 := keepB hb K7
  replace hB := hB.trans (hb.mono hB.size)
  clear hb
  obtain ⟨t0_0, t0_1, t0_2, t0_3, t0_4, t0_5, t0_6, t0_7⟩ := cellsOf_at K0.out
  obtain ⟨t1_0, t1_1, t1_2, t1_3, t1_4, t1_5, t1_6, t1_7⟩ := cellsOf_at K1.out
  obtain ⟨t4_0, t4_1, t4_2, t4_3⟩ := span_at' K4.out
  obtain ⟨t7_0, t7_1, t7_2, t7_3⟩ := span_at' K7.out
  go_wp2_with fail
  try clear t0_0 t0_1 t0_2 t0_3 t0_4 t0_5 t0_6 t0_7 t1_0 t1_1 t1_2 t1_3 t1_4 t1_5 t1_6 t1_7 t4_0 t4_1 t4_2 t4_3 t7_0 t7_1 t7_2 t7_3
  refine ((H8 _).out).mono ?_
  rintro r X10 ⟨rfl, hb⟩
  replace K0 := keepB hb K0
  replace K1 := keepB hb K1
  replace K4 := keepB hb K4
  replace K7 := keepB hb K7
  replace hB := hB.trans (hb.mono hB.size)
  clear hb
  obtain ⟨t0_0, t0_1, t0_2, t0_3, t0_4, t0_5, t0_6, t0_7⟩ := cellsOf_at K0.out
  obtain ⟨t1_0, t1_1, t1_2, t1_3, t1_4, t1_5, t1_6, t1_7⟩ := cellsOf_at K1.out
  obtain ⟨t4_0, t4_1, t4_2, t4_3⟩ := span_at' K4.out
  obtain ⟨t7_0, t7_1, t7_2, t7_3⟩ := span_at' K7.out
  go_wp2_with fail
  try clear t0_0 t0_1 t0_2 t0_3 t0_4 t0_5 t0_6 t0_7 t1_0 t1_1 t1_2 t1_3 t1_4 t1_5 t1_6 t1_7 t4_0 t4_1 t4_2 t4_3 t7_0 t7_1 t7_2 t7_3
  refine ((H9 _).out).mono ?_
  rintro r X11 ⟨rfl, hb⟩
  replace K0 := keepB hb K0
  replace K1 := keepB hb K1
  replace K4 := keepB hb K4
  replace K7 := keepB hb K7
  replace hB := hB.trans (hb.mono hB.size)
  clear hb
  obtain ⟨t0_0, t0_1, t0_2, t0_3, t0_4, t0_5, t0_6, t0_7⟩ := cellsOf_at K0.out
  obtain ⟨t1_0, t1_1, t1_2, t1_3, t1_4, t1_5, t1_6, t1_7⟩ := cellsOf_at K1.out
  obtain ⟨t4_0, t4_1, t4_2, t4_3⟩ := span_at' K4.out
  obtain ⟨t7_0, t7_1, t7_2, t7_3⟩ := span_at' K7.out
  go_wp2_with fail
  try clear t0_0 t0_1 t0_2 t0_3 t0_4 t0_5 t0_6 t0_7 t1_0 t1_1 t1_2 t1_3 t1_4 t1_5 t1_6 t1_7 t4_0 t4_1 t4_2 t4_3 t7_0 t7_1 t7_2 t7_3
  refine ((HF _).out).mono ?_
  rintro r X12 ⟨rfl, hb⟩
  replace K0 := keepB hb K0
  replace K1 := keepB hb K1
  replace K4 := keepB hb K4
  replace K7 := keepB hb K7
  replace hB := hB.trans (hb.mono hB.size)
  clear hb
  obtain ⟨t0_0, t0_1, t0_2, t0_3, t0_4, t0_5, t0_6, t0_7⟩ := cellsOf_at K0.out
  obtain ⟨t1_0, t1_1, t1_2, t1_3, t1_4, t1_5, t1_6, t1_7⟩ := cellsOf_at K1.out
  obtain ⟨t4_0, t4_1, t4_2, t4_3⟩ := span_at' K4.out
  obtain ⟨t7_0, t7_1, t7_2, t7_3⟩ := span_at' K7.out
  go_wp2_with fail
  try clear t0_0 t0_1 t0_2 t0_3 t0_4 t0_5 t0_6 t0_7 t1_0 t1_1 t1_2 t1_3 t1_4 t1_5 t1_6 t1_7 t4_0 t4_1 t4_2 t4_3 t7_0 t7_1 t7_2 t7_3
  obtain ⟨g1, g2⟩ := blk_of K0.out
  obtain ⟨g3, g4⟩ := blk_of K1.out
  refine wp_region_grows X12 (by kernel_rfl) (Grown.refl _) fun x => ?_
  refine WG_take0 (v := ?_) (a' := ?_) 0 rfl (by kernel_rfl) (by kernel_rfl) (by kernel_rfl) ⟨rfl, fun y => ?_⟩ ?_ 129 rfl (by kernel_rfl) fun x => ?_
  rotate_left 2
  · go_big_quiet_op; exact rfl
  · exact rfl
  refine WG_take0 (v := ?_) (a' := ?_) 1 rfl (by kernel_rfl) (by kernel_rfl) (by kernel_rfl) ⟨rfl, fun y => ?_⟩ ?_ 130 rfl (by kernel_rfl) fun x => ?_
  rotate_left 2
  · go_big_quiet_op
    apply Exists.intro; refine ⟨fun n => ?_, ?_⟩
    · go_at_call 55
      exact gw_call (HA _).out
    exact rfl
  · exact rfl
  refine WG_take0 (v := ?_) (a' := ?_) 2 rfl (by kernel_rfl) (by kernel_rfl) (by kernel_rfl) ⟨rfl, fun y => ?_⟩ ?_ 131 rfl (by kernel_rfl) fun x => ?_
  rotate_left 2
  · go_big_quiet_op; exact rfl
  · exact rfl
  refine WG_take0 (v := ?_) (a' := ?_) 3 rfl (by kernel_rfl) (by kernel_rfl) (by kernel_rfl) ⟨rfl, fun y => ?_⟩ ?_ 132 rfl (by kernel_rfl) fun x => ?_
  rotate_left 2
  · go_big_quiet_op
    apply Exists.intro; refine ⟨fun n => ?_, ?_⟩
    · go_at_call 55
      exact gw_call (HB _).out
    exact rfl
  · exact rfl
  refine WG_take0 (v := ?_) (a' := ?_) 4 rfl (by kernel_rfl) (by kernel_rfl) (by kernel_rfl) ⟨rfl, fun y => ?_⟩ ?_ 133 rfl (by kernel_rfl) fun x => ?_
  rotate_left 2
  · go_big_quiet_op
    apply Exists.intro; refine ⟨fun n => ?_, ?_⟩
    · go_at_call 54
      exact gw_call (HM _).out
    exact rfl
  · exact rfl
  refine WG_all [5] (by kernel_rfl) (by simp) fun i hi => ?_
  rcases List.mem_singleton.1 hi with rfl
  refine WG_op rfl rfl fun K hK => ?_
  go_big_op
  refine hK _ _ ⟨xa (Grown.gw _ _) _, fun y => ?_⟩
  obtain ⟨P13, w1, e1, e2, p1, p2, p3, p4, pF, p5⟩ := new_at (Grown.gw X12 x) #[.int .i64 0, .int .i64 0] 33 y
  rw [e1, e2]
  clear e1 e2
  refine WG_all [6] (by kernel_rfl) (by simp) fun i hi => ?_
  rcases List.mem_singleton.1 hi with rfl
  refine WG_op rfl rfl fun K hK => ?_
  go_big_op
  refine hK _ _ ⟨xs (xs p2 p1 _) p1 _, fun y => ?_⟩
  obtain ⟨W13, e3, r1, r2, r3, r4, -⟩ := stored2 p2 p1 p5 pF (.int .i64 m1) (.int .i64 m2) y
  rw [e3]
  have r8 := Nat.lt_of_lt_of_le p4 r2
  clear e3 p3 p4 p5 pF p2 p1 r2 w1 hi g1 g2 g3 g4
  refine WG_done (by kernel_rfl) ?_ _
  have K13 : Hid (SpanCells W13 P13 ⟨m1, m2⟩) := Lib.hid ⟨r8, r3 0, r3 1, r4⟩
  replace K0 := keepB r1 K0
  replace K1 := keepB r1 K1
  replace K4 := keepB r1 K4
  replace K7 := keepB r1 K7
  replace hB := hB.trans (r1.mono hB.size)
  clear r1 r3 r4 r8
  unfold NoPanic
  obtain ⟨t0_0, t0_1, t0_2, t0_3, t0_4, t0_5, t0_6, t0_7⟩ := cellsOf_at K0.out
  obtain ⟨t1_0, t1_1, t1_2, t1_3, t1_4, t1_5, t1_6, t1_7⟩ := cellsOf_at K1.out
  obtain ⟨t4_0, t4_1, t4_2, t4_3⟩ := span_at' K4.out
  obtain ⟨t7_0, t7_1, t7_2, t7_3⟩ := span_at' K7.out
  obtain ⟨t13_0, t13_1, t13_2, t13_3⟩ := span_cells K13
  go_wp2_with fail
  try clear t0_0 t0_1 t0_2 t0_3 t0_4 t0_5 t0_6 t0_7 t1_0 t1_1 t1_2 t1_3 t1_4 t1_5 t1_6 t1_7 t4_0 t4_1 t4_2 t4_3 t7_0 t7_1 t7_2 t7_3 t13_0 t13_1 t13_2 t13_3
  refine ((HO _).out).mono ?_
  rintro r X14 ⟨rfl, hb⟩
  replace K0 := keepB hb K0
  replace K1 := keepB hb K1
  replace K4 := keepB hb K4
  replace K7 := keepB hb K7
  replace K13 := keepC hb K13
  replace hB := hB.trans (hb.mono hB.size)
  clear hb
  obtain ⟨t0_0, t0_1, t0_2, t0_3, t0_4, t0_5, t0_6, t0_7⟩ := cellsOf_at K0.out
  obtain ⟨t1_0, t1_1, t1_2, t1_3, t1_4, t1_5, t1_6, t1_7⟩ := cellsOf_at K1.out
  obtain ⟨t4_0, t4_1, t4_2, t4_3⟩ := span_at' K4.out
  obtain ⟨t7_0, t7_1, t7_2, t7_3⟩ := span_at' K7.out
  obtain ⟨t13_0, t13_1, t13_2, t13_3⟩ := span_cells K13
  go_wp2_with fail
  try clear t0_0 t0_1 t0_2 t0_3 t0_4 t0_5 t0_6 t0_7 t1_0 t1_1 t1_2 t1_3 t1_4 t1_5 t1_6 t1_7 t4_0 t4_1 t4_2 t4_3 t7_0 t7_1 t7_2 t7_3 t13_0 t13_1 t13_2 t13_3
  refine (c22 X14 (HE.out.below hB) (HC.out.below hB HC.out.lt)).mono ?_
  rintro r X15 ⟨rfl, hb⟩
  replace K0 := keepB hb K0
  replace K1 := keepB hb K1
  replace K4 := keepB hb K4
  replace K7 := keepB hb K7
  replace K13 := keepC hb K13
  replace hB := hB.trans (hb.mono hB.size)
  clear hb
  obtain ⟨t0_0, t0_1, t0_2, t0_3, t0_4, t0_5, t0_6, t0_7⟩ := cellsOf_at K0.out
  obtain ⟨t1_0, t1_1, t1_2, t1_3, t1_4, t1_5, t1_6, t1_7⟩ := cellsOf_at K1.out
  obtain ⟨t4_0, t4_1, t4_2, t4_3⟩ := span_at' K4.out
  obtain ⟨t7_0, t7_1, t7_2, t7_3⟩ := span_at' K7.out
  obtain ⟨t13_0, t13_1, t13_2, t13_3⟩ := span_cells K13
  go_wp2_with fail
  go_ret
  exact ⟨rfl, hB⟩
set_option maxRecDepth 100000 in
set_option maxHeartbeats 8000000 in
theorem c15_00 (a1 a2 a3 a4 a5 a6 b1 b2 b3 b4 b5 b6 l1 h1 l2 h2 m1 m2 j1 j2 : Int) (p u : Bool) (w : World) (hm0 : m1 ≤ m2) (HE : Hid (Env w)) (HC : Hid (Cell0 w)) (H1 : ∀ W, Hid (Calls Tryz.prog 45 #[.agg #[.int .i64 a1, .int .i64 a2, .int .i64 a3, .int .i64 a4, .int .i64 a5, .int .i64 a6], .agg #[.int .i64 b1, .int .i64 b2, .int .i64 b3, .int .i64 b4, .int .i64 b5, .int .i64 b6]] W fun r w' => r = .returned (.tuple #[.bool p, .int .i64 0]) ∧ Below W.heap.size W w')) (H2 : ∀ W, Hid (Calls Tryz.prog 47 #[.agg #[.int .i64 a1, .int .i64 a2, .int .i64 a3, .int .i64 a4, .int .i64 a5, .int .i64 a6], .agg #[.int .i64 b1, .int .i64 b2, .int .i64 b3, .int .i64 b4, .int .i64 b5, .int .i64 b6]] W fun r w' => r = .returned (.tuple #[.bool u, .int .i64 0]) ∧ Below W.heap.size W w')) (H3 : ∀ W, Hid (Calls Tryz.prog 48 #[.agg #[.int .i64 a1, .int .i64 a2, .int .i64 a3, .int .i64 a4, .int .i64 a5, .int .i64 a6], .agg #[.int .i64 b1, .int .i64 b2, .int .i64 b3, .int .i64 b4, .int .i64 b5, .int .i64 b6]] W fun r w' => r = .returned (.tuple #[.agg #[.int .i64 m1, .int .i64 m2], .int .i64 0]) ∧ Below W.heap.size W w')) (H4 : ∀ W, Hid (Calls Tryz.prog 49 #[.agg #[.int .i64 a1, .int .i64 a2, .int .i64 a3, .int .i64 a4, .int .i64 a5, .int .i64 a6], .agg #[.int .i64 b1, .int .i64 b2, .int .i64 b3, .int .i64 b4, .int .i64 b5, .int .i64 b6]] W fun r w' => r = .returned (.tuple #[.bool false, .int .i64 0]) ∧ Below W.heap.size W w')) (H5 : ∀ W, Hid (Calls Tryz.prog 50 #[.agg #[.int .i64 a1, .int .i64 a2, .int .i64 a3, .int .i64 a4, .int .i64 a5, .int .i64 a6], .agg #[.int .i64 b1, .int .i64 b2, .int .i64 b3, .int .i64 b4, .int .i64 b5, .int .i64 b6]] W fun r w' => r = .returned (.tuple #[.agg #[.int .i64 0, .int .i64 0], .int .i64 5]) ∧ Below W.heap.size W w')) (H6 : ∀ W, Hid (Calls Tryz.prog 37 #[.agg #[.int .i64 a1, .int .i64 a2, .int .i64 a3, .int .i64 a4, .int .i64 a5, .int .i64 a6]] W fun r w' => r = .returned (.bool true) ∧ Below W.heap.size W w')) (H7 : ∀ W, Hid (Calls Tryz.prog 37 #[.agg #[.int .i64 b1, .int .i64 b2, .int .i64 b3, .int .i64 b4, .int .i64 b5, .int .i64 b6]] W fun r w' => r = .returned (.bool true) ∧ Below W.heap.size W w')) (H8 : ∀ W, Hid (Calls Tryz.prog 51 #[.agg #[.int .i64 a1, .int .i64 a2, .int .i64 a3, .int .i64 a4, .int .i64 a5, .int .i64 a6], .agg #[.int .i64 b1, .int .i64 b2, .int .i64 b3, .int .i64 b4, .int .i64 b5, .int .i64 b6]] W fun r w' => r = .returned (.bool p) ∧ Below W.heap.size W w')) (H9 : ∀ W, Hid (Calls Tryz.prog 52 #[.agg #[.int .i64 a1, .int .i64 a2, .int .i64 a3, .int .i64 a4, .int .i64 a5, .int .i64 a6], .agg #[.int .i64 b1, .int .i64 b2, .int .i64 b3, .int .i64 b4, .int .i64 b5, .int .i64 b6]] W fun r w' => r = .returned (.bool u) ∧ Below W.heap.size W w')) (HF : ∀ W, Hid (Calls Tryz.prog 53 #[.agg #[.int .i64 a1, .int .i64 a2, .int .i64 a3, .int .i64 a4, .int .i64 a5, .int .i64 a6], .agg #[.int .i64 b1, .int .i64 b2, .int .i64 b3, .int .i64 b4, .int .i64 b5, .int .i64 b6]] W fun r w' => r = .returned (.bool false) ∧ Below W.heap.size W w')) (HA : ∀ W, Hid (Calls Tryz.prog 55 #[.agg #[.int .i64 a1, .int .i64 a2, .int .i64 a3, .int .i64 a4, .int .i64 a5, .int .i64 a6]] W fun r w' => r = .returned (.agg #[.int .i64 l1, .int .i64 h1]) ∧ Below W.heap.size W w')) (HB : ∀ W, Hid (Calls Tryz.prog 55 #[.agg #[.int .i64 b1, .int .i64 b2, .int .i64 b3, .int .i64 b4, .int .i64 b5, .int .i64 b6]] W fun r w' => r = .returned (.agg #[.int .i64 l2, .int .i64 h2]) ∧ Below W.heap.size W w')) (HM : ∀ W, Hid (Calls Tryz.prog 54 #[.agg #[.int .i64 l1, .int .i64 h1], .agg #[.int .i64 l2, .int .i64 h2]] W fun r w' => r = .returned (.agg #[.int .i64 m1, .int .i64 m2]) ∧ Below W.heap.size W w')) (HO : ∀ W, Hid (Calls Tryz.prog 56 #[.agg #[.int .i64 a1, .int .i64 a2, .int .i64 a3, .int .i64 a4, .int .i64 a5, .int .i64 a6], .agg #[.int .i64 b1, .int .i64 b2, .int .i64 b3, .int .i64 b4, .int .i64 b5, .int .i64 b6]] W fun r w' => r = .returned (.bool true) ∧ Below W.heap.size W w')) (HJ : ∀ W, Hid (Calls Tryz.prog 57 #[.agg #[.int .i64 a1, .int .i64 a2, .int .i64 a3, .int .i64 a4, .int .i64 a5, .int .i64 a6], .agg #[.int .i64 b1, .int .i64 b2, .int .i64 b3, .int .i64 b4, .int .i64 b5, .int .i64 b6]] W fun r w' => r = .returned (.agg #[.int .i64 j1, .int .i64 j2]) ∧ Below W.heap.size W w')) : Calls Tryz.prog 15 #[.agg #[.int .i64 a1, .int .i64 a2, .int .i64 a3, .int .i64 a4, .int .i64 a5, .int .i64 a6], .agg #[.int .i64 b1, .int .i64 b2, .int .i64 b3, .int .i64 b4, .int .i64 b5, .int .i64 b6]] w fun e w' => e = .returned (.bool true) ∧ Below w.heap.size w w' := by
  go_enter Tryz.func15, Tryz.ntmps15
  go_wp2_with fail
  refine call_named (fun V => Below w.heap.size w V ∧ Hid (V.heap[w.heap.size]? = some (cellsOf ⟨a1, a2, a3, a4, a5, a6⟩)) ∧ Hid (V.heap[w.heap.size + 1]? = some (cellsOf ⟨b1, b2, b3, b4, b5, b6⟩))) (box_two _ _ _) ?_
  rintro X0 ⟨hB, K0, K1⟩
  refine ((H1 _).out).mono ?_
  rintro r X1 ⟨rfl, hb⟩
  replace K0 := keepB hb K0
  replace K1 := keepB hb K1
  replace hB := hB.trans (hb.mono hB.size)
  clear hb
  obtain ⟨t0_0, t0_1, t0_2, t0_3, t0_4, t0_5, t0_6, t0_7⟩ := cellsOf_at K0.out
  obtain ⟨t1_0, t1_1, t1_2, t1_3, t1_4, t1_5, t1_6, t1_7⟩ := cellsOf_at K1.out
  go_wp2_with fail
  try clear t0_0 t0_1 t0_2 t0_3 t0_4 t0_5 t0_6 t0_7 t1_0 t1_1 t1_2 t1_3 t1_4 t1_5 t1_6 t1_7
  refine ((H2 _).out).mono ?_
  rintro r X2 ⟨rfl, hb⟩
  replace K0 := keepB hb K0
  replace K1 := keepB hb K1
  replace hB := hB.trans (hb.mono hB.size)
  clear hb
  obtain ⟨t0_0, t0_1, t0_2, t0_3, t0_4, t0_5, t0_6, t0_7⟩ := cellsOf_at K0.out
  obtain ⟨t1_0, t1_1, t1_2, t1_3, t1_4, t1_5, t1_6, t1_7⟩ := cellsOf_at K1.out
  go_wp2_with fail
  try clear t0_0 t0_1 t0_2 t0_3 t0_4 t0_5 t0_6 t0_7 t1_0 t1_1 t1_2 t1_3 t1_4 t1_5 t1_6 t1_7
  refine ((H3 _).out).mono ?_
  rintro r X3 ⟨rfl, hb⟩
  replace K0 := keepB hb K0
  replace K1 := keepB hb K1
  replace hB := hB.trans (hb.mono hB.size)
  clear hb
  obtain ⟨B4, hB4⟩ : ∃ b, X3.heap.size = b := ⟨_, rfl⟩
  obtain ⟨t0_0, t0_1, t0_2, t0_3, t0_4, t0_5, t0_6, t0_7⟩ := cellsOf_at K0.out
  obtain ⟨t1_0, t1_1, t1_2, t1_3, t1_4, t1_5, t1_6, t1_7⟩ := cellsOf_at K1.out
  rw [hB4] at t0_7 t1_7
  go_wp2_with fail
  try clear t0_0 t0_1 t0_2 t0_3 t0_4 t0_5 t0_6 t0_7 t1_0 t1_1 t1_2 t1_3 t1_4 t1_5 t1_6 t1_7
  try rw [hB4]
  refine call_named (fun V => Below w.heap.size w V ∧ Hid (V.heap[w.heap.size]? = some (cellsOf ⟨a1, a2, a3, a4, a5, a6⟩)) ∧ Hid (V.heap[w.heap.size + 1]? = some (cellsOf ⟨b1, b2, b3, b4, b5, b6⟩)) ∧ Hid (V.heap[B4]? = some (spanOf ⟨m1, m2⟩))) ⟨xa hB _, keepA K0 _, keepA K1 _, newA _ _ _ hB4⟩ ?_
  clear hB K0 K1 hB4
  rintro V4 ⟨hB, K0, K1, K4⟩
  refine ((H4 _).out).mono ?_
  rintro r X5 ⟨rfl, hb⟩
  replace K0 := keepB hb K0
  replace K1 := keepB hb K1
  replace K4 := keepB hb K4
  replace hB := hB.trans (hb.mono hB.size)
  clear hb
  obtain ⟨t0_0, t0_1, t0_2, t0_3, t0_4, t0_5, t0_6, t0_7⟩ := cellsOf_at K0.out
  obtain ⟨t1_0, t1_1, t1_2, t1_3, t1_4, t1_5, t1_6, t1_7⟩ := cellsOf_at K1.out
  obtain ⟨t4_0, t4_1, t4_2, t4_3⟩ := span_at' K4.out
  go_wp2_with fail
  try clear t0_0 t0_1 t0_2 t0_3 t0_4 t0_5 t0_6 t0_7 t1_0 t1_1 t1_2 t1_3 t1_4 t1_5 t1_6 t1_7 t4_0 t4_1 t4_2 t4_3
  refine ((H5 _).out).mono ?_
  rintro r X6 ⟨rfl, hb⟩
  replace K0 := keepB hb K0
  replace K1 := keepB hb K1
  replace K4 := keepB hb K4
  replace hB := hB.trans (hb.mono hB.size)
  clear hb
  obtain ⟨B7, hB7⟩ : ∃ b, X6.heap.size = b := ⟨_, rfl⟩
  obtain ⟨t0_0, t0_1, t0_2, t0_3, t0_4, t0_5, t0_6, t0_7⟩ := cellsOf_at K0.out
  obtain ⟨t1_0, t1_1, t1_2, t1_3, t1_4, t1_5, t1_6, t1_7⟩ := cellsOf_at K1.out
  obtain ⟨t4_0, t4_1, t4_2, t4_3⟩ := span_at' K4.out
  rw [hB7] at t0_7 t1_7 t4_3
  go_wp2_with fail
  try clear t0_0 t0_1 t0_2 t0_3 t0_4 t0_5 t0_6 t0_7 t1_0 t1_1 t1_2 t1_3 t1_4 t1_5 t1_6 t1_7 t4_0 t4_1 t4_2 t4_3
  try rw [hB7]
  refine call_named (fun V => Below w.heap.size w V ∧ Hid (V.heap[w.heap.size]? = some (cellsOf ⟨a1, a2, a3, a4, a5, a6⟩)) ∧ Hid (V.heap[w.heap.size + 1]? = some (cellsOf ⟨b1, b2, b3, b4, b5, b6⟩)) ∧ Hid (V.heap[B4]? = some (spanOf ⟨m1, m2⟩)) ∧ Hid (V.heap[B7]? = some (spanOf ⟨0, 0⟩))) ⟨xa hB _, keepA K0 _, keepA K1 _, keepA K4 _, newA _ _ _ hB7⟩ ?_
  clear hB K0 K1 K4 hB7
  rintro V7 ⟨hB, K0, K1, K4, K7⟩
  refine ((H6 _).out).mono ?_
  rintro r X8 ⟨rfl, hb⟩
  replace K0 := keepB hb K0
  replace K1 := keepB hb K1
  replace K4 := keepB hb K4
  replace K7 := keepB hb K7
  replace hB := hB.trans (hb.mono hB.size)
  clear hb
  obtain ⟨t0_0, t0_1, t0_2, t0_3, t0_4, t0_5, t0_6, t0_7⟩ := cellsOf_at K0.out
  obtain ⟨t1_0, t1_1, t1_2, t1_3, t1_4, t1_5, t1_6, t1_7⟩ := cellsOf_at K1.out
  obtain ⟨t4_0, t4_1, t4_2, t4_3⟩ := span_at' K4.out
  obtain ⟨t7_0, t7_1, t7_2, t7_3⟩ := span_at' K7.out
  go_wp2_with fail
  try clear t0_0 t0_1 t0_2 t0_3 t0_4 t0_5 t0_6 t0_7 t1_0 t1_1 t1_2 t1_3 t1_4 t1_5 t1_6 t1_7 t4_0 t4_1 t4_2 t4_3 t7_0 t7_1 t7_2 t7_3
  refine ((H7 _).out).mono ?_
  rintro r X9 ⟨rfl, hb⟩
  replace K0 := keepB hb K0
  replace K1 := keepB hb K1
  replace K4 := keepB hb K4
  replace K7 := keepB hb K7
  replace hB := hB.trans (hb.mono hB.size)
  clear hb
  obtain ⟨t0_0, t0_1, t0_2, t0_3, t0_4, t0_5, t0_6, t0_7⟩ := cellsOf_at K0.out
  obtain ⟨t1_0, t1_1, t1_2, t1_3, t1_4, t1_5, t1_6, t1_7⟩ := cellsOf_at K1.out
  obtain ⟨t4_0, t4_1, t4_2, t4_3⟩ := span_at' K4.out
  obtain ⟨t7_0, t7_1, t7_2, t7_3⟩ := span_at' K7.out
  go_wp2_with fail
  try clear t0_0 t0_1 t0_2 t0_3 t0_4 t0_5 t0_6 t0_7 t1_0 t1_1 t1_2 t1_3 t1_4 t1_5 t1_6 t1_7 t4_0 t4_1 t4_2 t4_3 t7_0 t7_1 t7_2 t7_3
  refine ((H8 _).out).mono ?_
  rintro r X10 ⟨rfl, hb⟩
  replace K0 := keepB hb K0
  replace K1 := keepB hb K1
  replace K4 := keepB hb K4
  replace K7 := keepB hb K7
  replace hB := hB.trans (hb.mono hB.size)
  clear hb
  obtain ⟨t0_0, t0_1, t0_2, t0_3, t0_4, t0_5, t0_6, t0_7⟩ := cellsOf_at K0.out
  obtain ⟨t1_0, t1_1, t1_2, t1_3, t1_4, t1_5, t1_6, t1_7⟩ := cellsOf_at K1.out
  obtain ⟨t4_0, t4_1, t4_2, t4_3⟩ := span_at' K4.out
  obtain ⟨t7_0, t7_1, t7_2, t7_3⟩ := span_at' K7.out
  go_wp2_with fail
  try clear t0_0 t0_1 t0_2 t0_3 t0_4 t0_5 t0_6 t0_7 t1_0 t1_1 t1_2 t1_3 t1_4 t1_5 t1_6 t1_7 t4_0 t4_1 t4_2 t4_3 t7_0 t7_1 t7_2 t7_3
  refine ((H9 _).out).mono ?_
  rintro r X11 ⟨rfl, hb⟩
  replace K0 := keepB hb K0
  replace K1 := keepB hb K1
  replace K4 := keepB hb K4
  replace K7 := keepB hb K7
  replace hB := hB.trans (hb.mono hB.size)
  clear hb
  obtain ⟨t0_0, t0_1, t0_2, t0_3, t0_4, t0_5, t0_6, t0_7⟩ := cellsOf_at K0.out
  obtain ⟨t1_0, t1_1, t1_2, t1_3, t1_4, t1_5, t1_6, t1_7⟩ := cellsOf_at K1.out
  obtain ⟨t4_0, t4_1, t4_2, t4_3⟩ := span_at' K4.out
  obtain ⟨t7_0, t7_1, t7_2, t7_3⟩ := span_at' K7.out
  go_wp2_with fail
  try clear t0_0 t0_1 t0_2 t0_3 t0_4 t0_5 t0_6 t0_7 t1_0 t1_1 t1_2 t1_3 t1_4 t1_5 t1_6 t1_7 t4_0 t4_1 t4_2 t4_3 t7_0 t7_1 t7_2 t7_3
  refine ((HF _).out).mono ?_
  rintro r X12 ⟨rfl, hb⟩
  replace K0 := keepB hb K0
  replace K1 := keepB hb K1
  replace K4 := keepB hb K4
  replace K7 := keepB hb K7
  replace hB := hB.trans (hb.mono hB.size)
  clear hb
  obtain ⟨t0_0, t0_1, t0_2, t0_3, t0_4, t0_5, t0_6, t0_7⟩ := cellsOf_at K0.out
  obtain ⟨t1_0, t1_1, t1_2, t1_3, t1_4, t1_5, t1_6, t1_7⟩ := cellsOf_at K1.out
  obtain ⟨t4_0, t4_1, t4_2, t4_3⟩ := span_at' K4.out
  obtain ⟨t7_0, t7_1, t7_2, t7_3⟩ := span_at' K7.out
  go_wp2_with fail
  try clear t0_0 t0_1 t0_2 t0_3 t0_4 t0_5 t0_6 t0_7 t1_0 t1_1 t1_2 t1_3 t1_4 t1_5 t1_6 t1_7 t4_0 t4_1 t4_2 t4_3 t7_0 t7_1 t7_2 t7_3
  obtain ⟨g1, g2⟩ := blk_of K0.out
  obtain ⟨g3, g4⟩ := blk_of K1.out
  refine wp_region_grows X12 (by kernel_rfl) (Grown.refl _) fun x => ?_
  refine WG_take0 (v := ?_) (a' := ?_) 0 rfl (by kernel_rfl) (by kernel_rfl) (by kernel_rfl) ⟨rfl, fun y => ?_⟩ ?_ 129 rfl (by kernel_rfl) fun x => ?_
  rotate_left 2
  · go_big_quiet_op; exact rfl
  · exact rfl
  refine WG_take0 (v := ?_) (a' := ?_) 1 rfl (by kernel_rfl) (by kernel_rfl) (by kernel_rfl) ⟨rfl, fun y => ?_⟩ ?_ 130 rfl (by kernel_rfl) fun x => ?_
  rotate_left 2
  · go_big_quiet_op
    apply Exists.intro; refine ⟨fun n => ?_, ?_⟩
    · go_at_call 55
      exact gw_call (HA _).out
    exact rfl
  · exact rfl
  refine WG_take0 (v := ?_) (a' := ?_) 2 rfl (by kernel_rfl) (by kernel_rfl) (by kernel_rfl) ⟨rfl, fun y => ?_⟩ ?_ 131 rfl (by kernel_rfl) fun x => ?_
  rotate_left 2
  · go_big_quiet_op; exact rfl
  · exact rfl
  refine WG_take0 (v := ?_) (a' := ?_) 3 rfl (by kernel_rfl) (by kernel_rfl) (by kernel_rfl) ⟨rfl, fun y => ?_⟩ ?_ 132 rfl (by kernel_rfl) fun x => ?_
  rotate_left 2
  · go_big_quiet_op
    apply Exists.intro; refine ⟨fun n => ?_, ?_⟩
    · go_at_call 55
      exact gw_call (HB _).out
    exact rfl
  · exact rfl
  refine WG_take0 (v := ?_) (a' := ?_) 4 rfl (by kernel_rfl) (by kernel_rfl) (by kernel_rfl) ⟨rfl, fun y => ?_⟩ ?_ 133 rfl (by kernel_rfl) fun x => ?_
  rotate_left 2
  · go_big_quiet_op
    apply Exists.intro; refine ⟨fun n => ?_, ?_⟩
    · go_at_call 54
      exact gw_call (HM _).out
    exact rfl
  · exact rfl
  refine WG_all [5] (by kernel_rfl) (by simp) fun i hi => ?_
  rcases List.mem_singleton.1 hi with rfl
  refine WG_op rfl rfl fun K hK => ?_
  go_big_op
  refine hK _ _ ⟨xa (Grown.gw _ _) _, fun y => ?_⟩
  obtain ⟨P13, w1, e1, e2, p1, p2, p3, p4, pF, p5⟩ := new_at (Grown.gw X12 x) #[.int .i64 0, .int .i64 0] 33 y
  rw [e1, e2]
  clear e1 e2
  refine WG_all [6] (by kernel_rfl) (by simp) fun i hi => ?_
  rcases List.mem_singleton.1 hi with rfl
  refine WG_op rfl rfl fun K hK => ?_
  go_big_op
  refine hK _ _ ⟨xs (xs p2 p1 _) p1 _, fun y => ?_⟩
  obtain ⟨W13, e3, r1, r2, r3, r4, -⟩ := stored2 p2 p1 p5 pF (.int .i64 m1) (.int .i64 m2) y
  rw [e3]
  have r8 := Nat.lt_of_lt_of_le p4 r2
  clear e3 p3 p4 p5 pF p2 p1 r2 w1 hi g1 g2 g3 g4
  refine WG_done (by kernel_rfl) ?_ _
  have K13 : Hid (SpanCells W13 P13 ⟨m1, m2⟩) := Lib.hid ⟨r8, r3 0, r3 1, r4⟩
  replace K0 := keepB r1 K0
  replace K1 := keepB r1 K1
  replace K4 := keepB r1 K4
  replace K7 := keepB r1 K7
  replace hB := hB.trans (r1.mono hB.size)
  clear r1 r3 r4 r8
  unfold NoPanic
  obtain ⟨t0_0, t0_1, t0_2, t0_3, t0_4, t0_5, t0_6, t0_7⟩ := cellsOf_at K0.out
  obtain ⟨t1_0, t1_1, t1_2, t1_3, t1_4, t1_5, t1_6, t1_7⟩ := cellsOf_at K1.out
  obtain ⟨t4_0, t4_1, t4_2, t4_3⟩ := span_at' K4.out
  obtain ⟨t7_0, t7_1, t7_2, t7_3⟩ := span_at' K7.out
  obtain ⟨t13_0, t13_1, t13_2, t13_3⟩ := span_cells K13
  go_wp2_with fail
  try clear t0_0 t0_1 t0_2 t0_3 t0_4 t0_5 t0_6 t0_7 t1_0 t1_1 t1_2 t1_3 t1_4 t1_5 t1_6 t1_7 t4_0 t4_1 t4_2 t4_3 t7_0 t7_1 t7_2 t7_3 t13_0 t13_1 t13_2 t13_3
  refine ((HO _).out).mono ?_
  rintro r X14 ⟨rfl, hb⟩
  replace K0 := keepB hb K0
  replace K1 := keepB hb K1
  replace K4 := keepB hb K4
  replace K7 := keepB hb K7
  replace K13 := keepC hb K13
  replace hB := hB.trans (hb.mono hB.size)
  clear hb
  obtain ⟨t0_0, t0_1, t0_2, t0_3, t0_4, t0_5, t0_6, t0_7⟩ := cellsOf_at K0.out
  obtain ⟨t1_0, t1_1, t1_2, t1_3, t1_4, t1_5, t1_6, t1_7⟩ := cellsOf_at K1.out
  obtain ⟨t4_0, t4_1, t4_2, t4_3⟩ := span_at' K4.out
  obtain ⟨t7_0, t7_1, t7_2, t7_3⟩ := span_at' K7.out
  obtain ⟨t13_0, t13_1, t13_2, t13_3⟩ := span_cells K13
  go_wp2_with fail
  try clear t0_0 t0_1 t0_2 t0_3 t0_4 t0_5 t0_6 t0_7 t1_0 t1_1 t1_2 t1_3 t1_4 t1_5 t1_6 t1_7 t4_0 t4_1 t4_2 t4_3 t7_0 t7_1 t7_2 t7_3 t13_0 t13_1 t13_2 t13_3
  refine (c22 X14 (HE.out.below hB) (HC.out.below hB HC.out.lt)).mono ?_
  rintro r X15 ⟨rfl, hb⟩
  replace K0 := keepB hb K0
  replace K1 := keepB hb K1
  replace K4 := keepB hb K4
  replace K7 := keepB hb K7
  replace K13 := keepC hb K13
  replace hB := hB.trans (hb.mono hB.size)
  clear hb
  obtain ⟨t0_0, t0_1, t0_2, t0_3, t0_4, t0_5, t0_6, t0_7⟩ := cellsOf_at K0.out
  obtain ⟨t1_0, t1_1, t1_2, t1_3, t1_4, t1_5, t1_6, t1_7⟩ := cellsOf_at K1.out
  obtain ⟨t4_0, t4_1, t4_2, t4_3⟩ := span_at' K4.out
  obtain ⟨t7_0, t7_1, t7_2, t7_3⟩ := span_at' K7.out
  obtain ⟨t13_0, t13_1, t13_2, t13_3⟩ := span_cells K13
  go_wp2_with fail
  go_ret
  exact ⟨rfl, hB⟩
set_option maxRecDepth 100000 in
set_option maxHeartbeats 8000000 in
theorem c15_d1 (a1 a2 a3 a4 a5 a6 b1 b2 b3 b4 b5 b6 l1 h1 l2 h2 m1 m2 j1 j2 : Int) (p u : Bool) (w : World) (HE : Hid (Env w)) (HC : Hid (Cell0 w)) (H1 : ∀ W, Hid (Calls Tryz.prog 45 #[.agg #[.int .i64 a1, .int .i64 a2, .int .i64 a3, .int .i64 a4, .int .i64 a5, .int .i64 a6], .agg #[.int .i64 b1, .int .i64 b2, .int .i64 b3, .int .i64 b4, .int .i64 b5, .int .i64 b6]] W fun r w' => r = .returned (.tuple #[.bool p, .int .i64 0]) ∧ Below W.heap.size W w')) (H2 : ∀ W, Hid (Calls Tryz.prog 47 #[.agg #[.int .i64 a1, .int .i64 a2, .int .i64 a3, .int .i64 a4, .int .i64 a5, .int .i64 a6], .agg #[.int .i64 b1, .int .i64 b2, .int .i64 b3, .int .i64 b4, .int .i64 b5, .int .i64 b6]] W fun r w' => r = .returned (.tuple #[.bool u, .int .i64 0]) ∧ Below W.heap.size W w')) (H3 : ∀ W, Hid (Calls Tryz.prog 48 #[.agg #[.int .i64 a1, .int .i64 a2, .int .i64 a3, .int .i64 a4, .int .i64 a5, .int .i64 a6], .agg #[.int .i64 b1, .int .i64 b2, .int .i64 b3, .int .i64 b4, .int .i64 b5, .int .i64 b6]] W fun r w' => r = .returned (.tuple #[.agg #[.int .i64 0, .int .i64 0], .int .i64 5]) ∧ Below W.heap.size W w')) (H4 : ∀ W, Hid (Calls Tryz.prog 49 #[.agg #[.int .i64 a1, .int .i64 a2, .int .i64 a3, .int .i64 a4, .int .i64 a5, .int .i64 a6], .agg #[.int .i64 b1, .int .i64 b2, .int .i64 b3, .int .i64 b4, .int .i64 b5, .int .i64 b6]] W fun r w' => r = .returned (.tuple #[.bool true, .int .i64 0]) ∧ Below W.heap.size W w')) (H5 : ∀ W, Hid (Calls Tryz.prog 50 #[.agg #[.int .i64 a1, .int .i64 a2, .int .i64 a3, .int .i64 a4, .int .i64 a5, .int .i64 a6], .agg #[.int .i64 b1, .int .i64 b2, .int .i64 b3, .int .i64 b4, .int .i64 b5, .int .i64 b6]] W fun r w' => r = .returned (.tuple #[.agg #[.int .i64 j1, .int .i64 j2], .int .i64 0]) ∧ Below W.heap.size W w')) (H6 : ∀ W, Hid (Calls Tryz.prog 37 #[.agg #[.int .i64 a1, .int .i64 a2, .int .i64 a3, .int .i64 a4, .int .i64 a5, .int .i64 a6]] W fun r w' => r = .returned (.bool true) ∧ Below W.heap.size W w')) (H7 : ∀ W, Hid (Calls Tryz.prog 37 #[.agg #[.int .i64 b1, .int .i64 b2, .int .i64 b3, .int .i64 b4, .int .i64 b5, .int .i64 b6]] W fun r w' => r = .returned (.bool true) ∧ Below W.heap.size W w')) (H8 : ∀ W, Hid (Calls Tryz.prog 51 #[.agg #[.int .i64 a1, .int .i64 a2, .int .i64 a3, .int .i64 a4, .int .i64 a5, .int .i64 a6], .agg #[.int .i64 b1, .int .i64 b2, .int .i64 b3, .int .i64 b4, .int .i64 b5, .int .i64 b6]] W fun r w' => r = .returned (.bool p) ∧ Below W.heap.size W w')) (H9 : ∀ W, Hid (Calls Tryz.prog 52 #[.agg #[.int .i64 a1, .int .i64 a2, .int .i64 a3, .int .i64 a4, .int .i64 a5, .int .i64 a6], .agg #[.int .i64 b1, .int .i64 b2, .int .i64 b3, .int .i64 b4, .int .i64 b5, .int .i64 b6]] W fun r w' => r = .returned (.bool u) ∧ Below W.heap.size W w')) (HF : ∀ W, Hid (Calls Tryz.prog 53 #[.agg #[.int .i64 a1, .int .i64 a2, .int .i64 a3, .int .i64 a4, .int .i64 a5, .int .i64 a6], .agg #[.int .i64 b1, .int .i64 b2, .int .i64 b3, .int .i64 b4, .int .i64 b5, .int .i64 b6]] W fun r w' => r = .returned (.bool true) ∧ Below W.heap.size W w')) (HA : ∀ W, Hid (Calls Tryz.prog 55 #[.agg #[.int .i64 a1, .int .i64 a2, .int .i64 a3, .int .i64 a4, .int .i64 a5, .int .i64 a6]] W fun r w' => r = .returned (.agg #[.int .i64 l1, .int .i64 h1]) ∧ Below W.heap.size W w')) (HB : ∀ W, Hid (Calls Tryz.prog 55 #[.agg #[.int .i64 b1, .int .i64 b2, .int .i64 b3, .int .i64 b4, .int .i64 b5, .int .i64 b6]] W fun r w' => r = .returned (.agg #[.int .i64 l2, .int .i64 h2]) ∧ Below W.heap.size W w')) (HM : ∀ W, Hid (Calls Tryz.prog 54 #[.agg #[.int .i64 l1, .int .i64 h1], .agg #[.int .i64 l2, .int .i64 h2]] W fun r w' => r = .returned (.agg #[.int .i64 m1, .int .i64 m2]) ∧ Below W.heap.size W w')) (HO : ∀ W, Hid (Calls Tryz.prog 56 #[.agg #[.int .i64 a1, .int .i64 a2, .int .i64 a3, .int .i64 a4, .int .i64 a5, .int .i64 a6], .agg #[.int .i64 b1, .int .i64 b2, .int .i64 b3, .int .i64 b4, .int .i64 b5, .int .i64 b6]] W fun r w' => r = .returned (.bool false) ∧ Below W.heap.size W w')) (HJ : ∀ W, Hid (Calls Tryz.prog 57 #[.agg #[.int .i64 a1, .int .i64 a2, .int .i64 a3, .int .i64 a4, .int .i64 a5, .int .i64 a6], .agg #[.int .i64 b1, .int .i64 b2, .int .i64 b3, .int .i64 b4, .int .i64 b5, .int .i64 b6]] W fun r w' => r = .returned (.agg #[.int .i64 j1, .int .i64 j2]) ∧ Below W.heap.size W w')) : Calls Tryz.prog 15 #[.agg #[.int .i64 a1, .int .i64 a2, .int .i64 a3, .int .i64 a4, .int .i64 a5, .int .i64 a6], .agg #[.int .i64 b1, .int .i64 b2, .int .i64 b3, .int .i64 b4, .int .i64 b5, .int .i64 b6]] w fun e w' => e = .returned (.bool true) ∧ Below w.heap.size w w' := by
  go_enter Tryz.func15, Tryz.ntmps15
  go_wp2_with fail
  refine call_named (fun V => Below w.heap.size w V ∧ Hid (V.heap[w.heap.size]? = some (cellsOf ⟨a1, a2, a3, a4, a5, a6⟩)) ∧ Hid (V.heap[w.heap.size + 1]? = some (cellsOf ⟨b1, b2, b3, b4, b5, b6⟩))) (box_two _ _ _) ?_
  rintro X0 ⟨hB, K0, K1⟩
  refine ((H1 _).out).mono ?_
  rintro r X1 ⟨rfl, hb⟩
  replace K0 := keepB hb K0
  replace K1 := keepB hb K1
  replace hB := hB.trans (hb.mono hB.size)
  clear hb
  obtain ⟨t0_0, t0_1, t0_2, t0_3, t0_4, t0_5, t0_6, t0_7⟩ := cellsOf_at K0.out
  obtain ⟨t1_0, t1_1, t1_2, t1_3, t1_4, t1_5, t1_6, t1_7⟩ := cellsOf_at K1.out
  go_wp2_with fail
  try clear t0_0 t0_1 t0_2 t0_3 t0_4 t0_5 t0_6 t0_7 t1_0 t1_1 t1_2 t1_3 t1_4 t1_5 t1_6 t1_7
  refine ((H2 _).out).mono ?_
  rintro r X2 ⟨rfl, hb⟩
  replace K0 := keepB hb K0
  replace K1 := keepB hb K1
  replace hB := hB.trans (hb.mono hB.size)
  clear hb
  obtain ⟨t0_0, t0_1, t0_2, t0_3, t0_4, t0_5, t0_6, t0_7⟩ := cellsOf_at K0.out
  obtain ⟨t1_0, t1_1, t1_2, t1_3, t1_4, t1_5, t1_6, t1_7⟩ := cellsOf_at K1.out
  go_wp2_with fail
  try clear t0_0 t0_1 t0_2 t0_3 t0_4 t0_5 t0_6 t0_7 t1_0 t1_1 t1_2 t1_3 t1_4 t1_5 t1_6 t1_7
  refine ((H3 _).out).mono ?_
  rintro r X3 ⟨rfl, hb⟩
  replace K0 := keepB hb K0
  replace K1 := keepB hb K1
  replace hB := hB.trans (hb.mono hB.size)
  clear hb
  obtain ⟨B4, hB4⟩ : ∃ b, X3.heap.size = b := ⟨_, rfl⟩
  obtain ⟨t0_0, t0_1, t0_2, t0_3, t0_4, t0_5, t0_6, t0_7⟩ := cellsOf_at K0.out
  obtain ⟨t1_0, t1_1, t1_2, t1_3, t1_4, t1_5, t1_6, t1_7⟩ := cellsOf_at K1.out
  rw [hB4] at t0_7 t1_7
  go_wp2_with fail
  try clear t0_0 t0_1 t0_2 t0_3 t0_4 t0_5 t0_6 t0_7 t1_0 t1_1 t1_2 t1_3 t1_4 t1_5 t1_6 t1_7
  try rw [hB4]
  refine call_named (fun V => Below w.heap.size w V ∧ Hid (V.heap[w.heap.size]? = some (cellsOf ⟨a1, a2, a3, a4, a5, a6⟩)) ∧ Hid (V.heap[w.heap.size + 1]? = some (cellsOf ⟨b1, b2, b3, b4, b5, b6⟩)) ∧ Hid (V.heap[B4]? = some (spanOf ⟨0, 0⟩))) ⟨xa hB _, keepA K0 _, keepA K1 _, newA _ _ _ hB4⟩ ?_
  clear hB K0 K1 hB4
  rintro V4 ⟨hB, K0, K1, K4⟩
  refine ((H4 _).out).mono ?_
  rintro r X5 ⟨rfl, hb⟩
  replace K0 := keepB hb K0
  replace K1 := keepB hb K1
  replace K4 := keepB hb K4
  replace hB := hB.trans (hb.mono hB.size)
  clear hb
  obtain ⟨t0_0, t0_1, t0_2, t0_3, t0_4, t0_5, t0_6, t0_7⟩ := cellsOf_at K0.out
  obtain ⟨t1_0, t1_1, t1_2, t1_3, t1_4, t1_5, t1_6, t1_7⟩ := cellsOf_at K1.out
  obtain ⟨t4_0, t4_1, t4_2, t4_3⟩ := span_at' K4.out
  go_wp2_with fail
  try clear t0_0 t0_1 t0_2 t0_3 t0_4 t0_5 t0_6 t0_7 t1_0 t1_1 t1_2 t1_3 t1_4 t1_5 t1_6 t1_7 t4_0 t4_1 t4_2 t4_3
  refine ((H5 _).out).mono ?_
  rintro r X6 ⟨rfl, hb⟩
  replace K0 := keepB hb K0
  replace K1 := keepB hb K1
  replace K4 := keepB hb K4
  replace hB := hB.trans (hb.mono hB.size)
  clear hb
  obtain ⟨B7, hB7⟩ : ∃ b, X6.heap.size = b := ⟨_, rfl⟩
  obtain ⟨t0_0, t0_1, t0_2, t0_3, t0_4, t0_5, t0_6, t0_7⟩ := cellsOf_at K0.out
  obtain ⟨t1_0, t1_1, t1_2, t1_3, t1_4, t1_5, t1_6, t1_7⟩ := cellsOf_at K1.out
  obtain ⟨t4_0, t4_1, t4_2, t4_3⟩ := span_at' K4.out
  rw [hB7] at t0_7 t1_7 t4_3
  go_wp2_with fail
  try clear t0_0 t0_1 t0_2 t0_3 t0_4 t0_5 t0_6 t0_7 t1_0 t1_1 t1_2 t1_3 t1_4 t1_5 t1_6 t1_7 t4_0 t4_1 t4_2 t4_3
  try rw [hB7]
  refine call_named (fun V => Below w.heap.size w V ∧ Hid (V.heap[w.heap.size]? = some (cellsOf ⟨a1, a2, a3, a4, a5, a6⟩)) ∧ Hid (V.heap[w.heap.size + 1]? = some (cellsOf ⟨b1, b2, b3, b4, b5, b6⟩)) ∧ Hid (V.heap[B4]? = some (spanOf ⟨0, 0⟩)) ∧ Hid (V.heap[B7]? = some (spanOf ⟨j1, j2⟩))) ⟨xa hB _, keepA K0 _, keepA K1 _, keepA K4 _, newA _ _ _ hB7⟩ ?_
  clear hB K0 K1 K4 hB7
  rintro V7 ⟨hB, K0, K1, K4, K7⟩
  refine ((H6 _).out).mono ?_
  rintro r X8 ⟨rfl, hb⟩
  replace K0 := keepB hb K0
  replace K1 := keepB hb K1
  replace K4 := keepB hb K4
  replace K7 := keepB hb K7
  replace hB := hB.trans (hb.mono hB.size)
  clear hb
  obtain ⟨t0_0, t0_1, t0_2, t0_3, t0_4, t0_5, t0_6, t0_7⟩ := cellsOf_at K0.out
  obtain ⟨t1_0, t1_1, t1_2, t1_3, t1_4, t1_5, t1_6, t1_7⟩ := cellsOf_at K1.out
  obtain ⟨t4_0, t4_1, t4_2, t4_3⟩ := span_at' K4.out
  obtain ⟨t7_0, t7_1, t7_2, t7_3⟩ := span_at' K7.out
  go_wp2_with fail
  try clear t0_0 t0_1 t0_2 t0_3 t0_4 t0_5 t0_6 t0_7 t1_0 t1_1 t1_2 t1_3 t1_4 t1_5 t1_6 t1_7 t4_0 t4_1 t4_2 t4_3 t7_0 t7_1 t7_2 t7_3
  refine ((H7 _).out).mono ?_
  rintro r X9 ⟨rfl, hb⟩
  replace K0 := keepB hb K0
  replace K1 := keepB hb K1
  replace K4 := keepB hb K4
  replace K7 := keepB hb K7
  replace hB := hB.trans (hb.mono hB.size)
  clear hb
  obtain ⟨t0_0, t0_1, t0_2, t0_3, t0_4, t0_5, t0_6, t0_7⟩ := cellsOf_at K0.out
  obtain ⟨t1_0, t1_1, t1_2, t1_3, t1_4, t1_5, t1_6, t1_7⟩ := cellsOf_at K1.out
  obtain ⟨t4_0, t4_1, t4_2, t4_3⟩ := span_at' K4.out
  obtain ⟨t7_0, t7_1, t7_2, t7_3⟩ := span_at' K7.out
  go_wp2_with fail
  try clear t0_0 t0_1 t0_2 t0_3 t0_4 t0_5 t0_6 t0_7 t1_0 t1_1 t1_2 t1_3 t1_4 t1_5 t1_6 t1_7 t4_0 t4_1 t4_2 t4_3 t7_0 t7_1 t7_2 t7_3
  refine ((H8 _).out).mono ?_
  rintro r X10 ⟨rfl, hb⟩
  replace K0 := keepB hb K0
  replace K1 := keepB hb K1
  replace K4 := keepB hb K4
  replace K7 := keepB hb K7
  replace hB := hB.trans (hb.mono hB.size)
  clear hb
  obtain ⟨t0_0, t0_1, t0_2, t0_3, t0_4, t0_5, t0_6, t0_7⟩ := cellsOf_at K0.out
  obtain ⟨t1_0, t1_1, t1_2, t1_3, t1_4, t1_5, t1_6, t1_7⟩ := cellsOf_at K1.out
  obtain ⟨t4_0, t4_1, t4_2, t4_3⟩ := span_at' K4.out
  obtain ⟨t7_0, t7_1, t7_2, t7_3⟩ := span_at' K7.out
  go_wp2_with fail
  try clear t0_0 t0_1 t0_2 t0_3 t0_4 t0_5 t0_6 t0_7 t1_0 t1_1 t1_2 t1_3 t1_4 t1_5 t1_6 t1_7 t4_0 t4_1 t4_2 t4_3 t7_0 t7_1 t7_2 t7_3
  refine ((H9 _).out).mono ?_
  rintro r X11 ⟨rfl, hb⟩
  replace K0 := keepB hb K0
  replace K1 := keepB hb K1
  replace K4 := keepB hb K4
  replace K7 := keepB hb K7
  replace hB := hB.trans (hb.mono hB.size)
  clear hb
  obtain ⟨t0_0, t0_1, t0_2, t0_3, t0_4, t0_5, t0_6, t0_7⟩ := cellsOf_at K0.out
  obtain ⟨t1_0, t1_1, t1_2, t1_3, t1_4, t1_5, t1_6, t1_7⟩ := cellsOf_at K1.out
  obtain ⟨t4_0, t4_1, t4_2, t4_3⟩ := span_at' K4.out
  obtain ⟨t7_0, t7_1, t7_2, t7_3⟩ := span_at' K7.out
  go_wp2_with fail
  try clear t0_0 t0_1 t0_2 t0_3 t0_4 t0_5 t0_6 t0_7 t1_0 t1_1 t1_2 t1_3 t1_4 t1_5 t1_6 t1_7 t4_0 t4_1 t4_2 t4_3 t7_0 t7_1 t7_2 t7_3
  refine ((HF _).out).mono ?_
  rintro r X12 ⟨rfl, hb⟩
  replace K0 := keepB hb K0
  replace K1 := keepB hb K1
  replace K4 := keepB hb K4
  replace K7 := keepB hb K7
  replace hB := hB.trans (hb.mono hB.size)
  clear hb
  obtain ⟨t0_0, t0_1, t0_2, t0_3, t0_4, t0_5, t0_6, t0_7⟩ := cellsOf_at K0.out
  obtain ⟨t1_0, t1_1, t1_2, t1_3, t1_4, t1_5, t1_6, t1_7⟩ := cellsOf_at K1.out
  obtain ⟨t4_0, t4_1, t4_2, t4_3⟩ := span_at' K4.out
  obtain ⟨t7_0, t7_1, t7_2, t7_3⟩ := span_at' K7.out
  go_wp2_with fail
  try clear t0_0 t0_1 t0_2 t0_3 t0_4 t0_5 t0_6 t0_7 t1_0 t1_1 t1_2 t1_3 t1_4 t1_5 t1_6 t1_7 t4_0 t4_1 t4_2 t4_3 t7_0 t7_1 t7_2 t7_3
  obtain ⟨g1, g2⟩ := blk_of K0.out
  obtain ⟨g3, g4⟩ := blk_of K1.out
  refine wp_region_grows X12 (by kernel_rfl) (Grown.refl _) fun x => ?_
  refine WG_take0 (v := ?_) (a' := ?_) 0 rfl (by kernel_rfl) (by kernel_rfl) (by kernel_rfl) ⟨rfl, fun y => ?_⟩ ?_ 129 rfl (by kernel_rfl) fun x => ?_
  rotate_left 2
  · go_big_quiet_op; exact rfl
  · exact rfl
  refine WG_take0 (v := ?_) (a' := ?_) 1 rfl (by kernel_rfl) (by kernel_rfl) (by kernel_rfl) ⟨rfl, fun y => ?_⟩ ?_ 130 rfl (by kernel_rfl) fun x => ?_
  rotate_left 2
  · go_big_quiet_op
    apply Exists.intro; refine ⟨fun n => ?_, ?_⟩
    · go_at_call 55
      exact gw_call (HA _).out
    exact rfl
  · exact rfl
  refine WG_take0 (v := ?_) (a' := ?_) 2 rfl (by kernel_rfl) (by kernel_rfl) (by kernel_rfl) ⟨rfl, fun y => ?_⟩ ?_ 131 rfl (by kernel_rfl) fun x => ?_
  rotate_left 2
  · go_big_quiet_op; exact rfl
  · exact rfl
  refine WG_take0 (v := ?_) (a' := ?_) 3 rfl (by kernel_rfl) (by kernel_rfl) (by kernel_rfl) ⟨rfl, fun y => ?_⟩ ?_ 132 rfl (by kernel_rfl) fun x => ?_
  rotate_left 2
  · go_big_quiet_op
    apply Exists.intro; refine ⟨fun n => ?_, ?_⟩
    · go_at_call 55
      exact gw_call (HB _).out
    exact rfl
  · exact rfl
  refine WG_take0 (v := ?_) (a' := ?_) 4 rfl (by kernel_rfl) (by kernel_rfl) (by kernel_rfl) ⟨rfl, fun y => ?_⟩ ?_ 133 rfl (by kernel_rfl) fun x => ?_
  rotate_left 2
  · go_big_quiet_op
    apply Exists.intro; refine ⟨fun n => ?_, ?_⟩
    · go_at_call 54
      exact gw_call (HM _).out
    exact rfl
  · exact rfl
  refine WG_all [5] (by kernel_rfl) (by simp) fun i hi => ?_
  rcases List.mem_singleton.1 hi with rfl
  refine WG_op rfl rfl fun K hK => ?_
  go_big_op
  refine hK _ _ ⟨xa (Grown.gw _ _) _, fun y => ?_⟩
  obtain ⟨P13, w1, e1, e2, p1, p2, p3, p4, pF, p5⟩ := new_at (Grown.gw X12 x) #[.int .i64 0, .int .i64 0] 33 y
  rw [e1, e2]
  clear e1 e2
  refine WG_all [6] (by kernel_rfl) (by simp) fun i hi => ?_
  rcases List.mem_singleton.1 hi with rfl
  refine WG_op rfl rfl fun K hK => ?_
  go_big_op
  refine hK _ _ ⟨xs (xs p2 p1 _) p1 _, fun y => ?_⟩
  obtain ⟨W13, e3, r1, r2, r3, r4, -⟩ := stored2 p2 p1 p5 pF (.int .i64 m1) (.int .i64 m2) y
  rw [e3]
  have r8 := Nat.lt_of_lt_of_le p4 r2
  clear e3 p3 p4 p5 pF p2 p1 r2 w1 hi g1 g2 g3 g4
  refine WG_done (by kernel_rfl) ?_ _
  have K13 : Hid (SpanCells W13 P13 ⟨m1, m2⟩) := Lib.hid ⟨r8, r3 0, r3 1, r4⟩
  replace K0 := keepB r1 K0
  replace K1 := keepB r1 K1
  replace K4 := keepB r1 K4
  replace K7 := keepB r1 K7
  replace hB := hB.trans (r1.mono hB.size)
  clear r1 r3 r4 r8
  unfold NoPanic
  obtain ⟨t0_0, t0_1, t0_2, t0_3, t0_4, t0_5, t0_6, t0_7⟩ := cellsOf_at K0.out
  obtain ⟨t1_0, t1_1, t1_2, t1_3, t1_4, t1_5, t1_6, t1_7⟩ := cellsOf_at K1.out
  obtain ⟨t4_0, t4_1, t4_2, t4_3⟩ := span_at' K4.out
  obtain ⟨t7_0, t7_1, t7_2, t7_3⟩ := span_at' K7.out
  obtain ⟨t13_0, t13_1, t13_2, t13_3⟩ := span_cells K13
  go_wp2_with fail
  try clear t0_0 t0_1 t0_2 t0_3 t0_4 t0_5 t0_6 t0_7 t1_0 t1_1 t1_2 t1_3 t1_4 t1_5 t1_6 t1_7 t4_0 t4_1 t4_2 t4_3 t7_0 t7_1 t7_2 t7_3 t13_0 t13_1 t13_2 t13_3
  refine ((HO _).out).mono ?_
  rintro r X14 ⟨rfl, hb⟩
  replace K0 := keepB hb K0
  replace K1 := keepB hb K1
  replace K4 := keepB hb K4
  replace K7 := keepB hb K7
  replace K13 := keepC hb K13
  replace hB := hB.trans (hb.mono hB.size)
  clear hb
  obtain ⟨t0_0, t0_1, t0_2, t0_3, t0_4, t0_5, t0_6, t0_7⟩ := cellsOf_at K0.out
  obtain ⟨t1_0, t1_1, t1_2, t1_3, t1_4, t1_5, t1_6, t1_7⟩ := cellsOf_at K1.out
  obtain ⟨t4_0, t4_1, t4_2, t4_3⟩ := span_at' K4.out
  obtain ⟨t7_0, t7_1, t7_2, t7_3⟩ := span_at' K7.out
  obtain ⟨t13_0, t13_1, t13_2, t13_3⟩ := span_cells K13
  go_wp2_with fail
  refine wp_region_gw (by kernel_rfl) (by kernel_rfl) ?_
  repeat (go_big_quiet_step (first | (go_at_call 22; exact gw_call (c22 _ (HE.out.below (hB.trans ((gw_below _ _).mono hB.size))) (HC.out.below (hB.trans ((gw_below _ _).mono hB.size)) HC.out.lt))) | (go_at_call 57; exact gw_call (HJ _).out)))
  refine wpQuiet_nil ?_
  rintro _ ⟨Y15, rfl⟩
  try clear t0_0 t0_1 t0_2 t0_3 t0_4 t0_5 t0_6 t0_7 t1_0 t1_1 t1_2 t1_3 t1_4 t1_5 t1_6 t1_7 t4_0 t4_1 t4_2 t4_3 t7_0 t7_1 t7_2 t7_3 t13_0 t13_1 t13_2 t13_3
  replace K0 := keepB (gw_below X14 Y15) K0
  replace K1 := keepB (gw_below X14 Y15) K1
  replace K4 := keepB (gw_below X14 Y15) K4
  replace K7 := keepB (gw_below X14 Y15) K7
  replace K13 := keepC (gw_below X14 Y15) K13
  replace hB := hB.trans ((gw_below X14 Y15).mono hB.size)
  obtain ⟨Z16, hZ16⟩ : ∃ V, gw X14 Y15 = V := ⟨_, rfl⟩
  rw [hZ16] at hB K0 K1 K4 K7 K13 ⊢
  clear hZ16
  obtain ⟨t0_0, t0_1, t0_2, t0_3, t0_4, t0_5, t0_6, t0_7⟩ := cellsOf_at K0.out
  obtain ⟨t1_0, t1_1, t1_2, t1_3, t1_4, t1_5, t1_6, t1_7⟩ := cellsOf_at K1.out
  obtain ⟨t4_0, t4_1, t4_2, t4_3⟩ := span_at' K4.out
  obtain ⟨t7_0, t7_1, t7_2, t7_3⟩ := span_at' K7.out
  obtain ⟨t13_0, t13_1, t13_2, t13_3⟩ := span_cells K13
  go_wp2_with fail
  go_ret
  exact ⟨rfl, hB⟩
set_option maxRecDepth 100000 in
set_option maxHeartbeats 8000000 in
theorem c15_91 (a1 a2 a3 a4 a5 a6 b1 b2 b3 b4 b5 b6 l1 h1 l2 h2 m1 m2 j1 j2 : Int) (p u : Bool) (w : World) (hm0 : m2 < m1) (HE : Hid (Env w)) (HC : Hid (Cell0 w)) (H1 : ∀ W, Hid (Calls Tryz.prog 45 #[.agg #[.int .i64 a1, .int .i64 a2, .int .i64 a3, .int .i64 a4, .int .i64 a5, .int .i64 a6], .agg #[.int .i64 b1, .int .i64 b2, .int .i64 b3, .int .i64 b4, .int .i64 b5, .int .i64 b6]] W fun r w' => r = .returned (.tuple #[.bool p, .int .i64 0]) ∧ Below W.heap.size W w')) (H2 : ∀ W, Hid (Calls Tryz.prog 47 #[.agg #[.int .i64 a1, .int .i64 a2, .int .i64 a3, .int .i64 a4, .int .i64 a5, .int .i64 a6], .agg #[.int .i64 b1, .int .i64 b2, .int .i64 b3, .int .i64 b4, .int .i64 b5, .int .i64 b6]] W fun r w' => r = .returned (.tuple #[.bool u, .int .i64 0]) ∧ Below W.heap.size W w')) (H3 : ∀ W, Hid (Calls Tryz.prog 48 #[.agg #[.int .i64 a1, .int .i64 a2, .int .i64 a3, .int .i64 a4, .int .i64 a5, .int .i64 a6], .agg #[.int .i64 b1, .int .i64 b2, .int .i64 b3, .int .i64 b4, .int .i64 b5, .int .i64 b6]] W fun r w' => r = .returned (.tuple #[.agg #[.int .i64 0, .int .i64 0], .int .i64 9]) ∧ Below W.heap.size W w')) (H4 : ∀ W, Hid (Calls Tryz.prog 49 #[.agg #[.int .i64 a1, .int .i64 a2, .int .i64 a3, .int .i64 a4, .int .i64 a5, .int .i64 a6], .agg #[.int .i64 b1, .int .i64 b2, .int .i64 b3, .int .i64 b4, .int .i64 b5, .int .i64 b6]] W fun r w' => r = .returned (.tuple #[.bool true, .int .i64 0]) ∧ Below W.heap.size W w')) (H5 : ∀ W, Hid (Calls Tryz.prog 50 #[.agg #[.int .i64 a1, .int .i64 a2, .int .i64 a3, .int .i64 a4, .int .i64 a5, .int .i64 a6], .agg #[.int .i64 b1, .int .i64 b2, .int .i64 b3, .int .i64 b4, .int .i64 b5, .int .i64 b6]] W fun r w' => r = .returned (.tuple #[.agg #[.int .i64 j1, .int .i64 j2], .int .i64 0]) ∧ Below W.heap.size W w')) (H6 : ∀ W, Hid (Calls Tryz.prog 37 #[.agg #[.int .i64 a1, .int .i64 a2, .int .i64 a3, .int .i64 a4, .int .i64 a5, .int .i64 a6]] W fun r w' => r = .returned (.bool true) ∧ Below W.heap.size W w')) (H7 : ∀ W, Hid (Calls Tryz.prog 37 #[.agg #[.int .i64 b1, .int .i64 b2, .int .i64 b3, .int .i64 b4, .int .i64 b5, .int .i64 b6]] W fun r w' => r = .returned (.bool true) ∧ Below W.heap.size W w')) (H8 : ∀ W, Hid (Calls Tryz.prog 51 #[.agg #[.int .i64 a1, .int .i64 a2, .int .i64 a3, .int .i64 a4, .int .i64 a5, .int .i64 a6], .agg #[.int .i64 b1, .int .i64 b2, .int .i64 b3, .int .i64 b4, .int .i64 b5, .int .i64 b6]] W fun r w' => r = .returned (.bool p) ∧ Below W.heap.size W w')) (H9 : ∀ W, Hid (Calls Tryz.prog 52 #[.agg #[.int .i64 a1, .int .i64 a2, .int .i64 a3, .int .i64 a4, .int .i64 a5, .int .i64 a6], .agg #[.int .i64 b1, .int .i64 b2, .int .i64 b3, .int .i64 b4, .int .i64 b5, .int .i64 b6]] W fun r w' => r = .returned (.bool u) ∧ Below W.heap.size W w')) (HF : ∀ W, Hid (Calls Tryz.prog 53 #[.agg #[.int .i64 a1, .int .i64 a2, .int .i64 a3, .int .i64 a4, .int .i64 a5, .int .i64 a6], .agg #[.int .i64 b1, .int .i64 b2, .int .i64 b3, .int .i64 b4, .int .i64 b5, .int .i64 b6]] W fun r w' => r = .returned (.bool true) ∧ Below W.heap.size W w')) (HA : ∀ W, Hid (Calls Tryz.prog 55 #[.agg #[.int .i64 a1, .int .i64 a2, .int .i64 a3, .int .i64 a4, .int .i64 a5, .int .i64 a6]] W fun r w' => r = .returned (.agg #[.int .i64 l1, .int .i64 h1]) ∧ Below W.heap.size W w')) (HB : ∀ W, Hid (Calls Tryz.prog 55 #[.agg #[.int .i64 b1, .int .i64 b2, .int .i64 b3, .int .i64 b4, .int .i64 b5, .int .i64 b6]] W fun r w' => r = .returned (.agg #[.int .i64 l2, .int .i64 h2]) ∧ Below W.heap.size W w')) (HM : ∀ W, Hid (Calls Tryz.prog 54 #[.agg #[.int .i64 l1, .int .i64 h1], .agg #[.int .i64 l2, .int .i64 h2]] W fun r w' => r = .returned (.agg #[.int .i64 m1, .int .i64 m2]) ∧ Below W.heap.size W w')) (HO : ∀ W, Hid (Calls Tryz.prog 56 #[.agg #[.int .i64 a1, .int .i64 a2, .int .i64 a3, .int .i64 a4, .int .i64 a5, .int .i64 a6], .agg #[.int .i64 b1, .int .i64 b2, .int .i64 b3, .int .i64 b4, .int .i64 b5, .int .i64 b6]] W fun r w' => r = .returned (.bool true) ∧ Below W.heap.size W w')) (HJ : ∀ W, Hid (Calls Tryz.prog 57 #[.agg #[.int .i64 a1, .int .i64 a2, .int .i64 a3, .int .i64 a4, .int .i64 a5, .int .i64 a6], .agg #[.int .i64 b1, .int .i64 b2, .int .i64 b3, .int .i64 b4, .int .i64 b5, .int .i64 b6]] W fun r w' => r = .returned (.agg #[.int .i64 j1, .int .i64 j2]) ∧ Below W.heap.size W w')) : Calls Tryz.prog 15 #[.agg #[.int .i64 a1, .int .i64 a2, .int .i64 a3, .int .i64 a4, .int .i64 a5, .int .i64 a6], .agg #[.int .i64 b1, .int .i64 b2, .int .i64 b3, .int .i64 b4, .int .i64 b5, .int .i64 b6]] w fun e w' => e = .returned (.bool true) ∧ Below w.heap.size w w' := by
  go_enter Tryz.func15, Tryz.ntmps15
  go_wp2_with fail
  refine call_named (fun V => Below w.heap.size w V ∧ Hid (V.heap[w.heap.size]? = some (cellsOf ⟨a1, a2, a3, a4, a5, a6⟩)) ∧ Hid (V.heap[w.heap.size + 1]? = some (cellsOf ⟨b1, b2, b3, b4, b5, b6⟩))) (box_two _ _ _) ?_
  rintro X0 ⟨hB, K0, K1⟩
  refine ((H1 _).out).mono ?_
  rintro r X1 ⟨rfl, hb⟩
  replace K0 := keepB hb K0
  replace K1 := keepB hb K1
  replace hB := hB.trans (hb.mono hB.size)
  clear hb
  obtain ⟨t0_0, t0_1, t0_2, t0_3, t0_4, t0_5, t0_6, t0_7⟩ := cellsOf_at K0.out
  obtain ⟨t1_0, t1_1, t1_2, t1_3, t1_4, t1_5, t1_6, t1_7⟩ := cellsOf_at K1.out
  go_wp2_with fail
  try clear t0_0 t0_1 t0_2 t0_3 t0_4 t0_5 t0_6 t0_7 t1_0 t1_1 t1_2 t1_3 t1_4 t1_5 t1_6 t1_7
  refine ((H2 _).out).mono ?_
  rintro r X2 ⟨rfl, hb⟩
  replace K0 := keepB hb K0
  replace K1 := keepB hb K1
  replace hB := hB.trans (hb.mono hB.size)
  clear hb
  obtain ⟨t0_0, t0_1, t0_2, t0_3, t0_4, t0_5, t0_6, t0_7⟩ := cellsOf_at K0.out
  obtain ⟨t1_0, t1_1, t1_2, t1_3, t1_4, t1_5, t1_6, t1_7⟩ := cellsOf_at K1.out
  go_wp2_with fail
  try clear t0_0 t0_1 t0_2 t0_3 t0_4 t0_5 t0_6 t0_7 t1_0 t1_1 t1_2 t1_3 t1_4 t1_5 t1_6 t1_7
  refine ((H3 _).out).mono ?_
  rintro r X3 ⟨rfl, hb⟩
  replace K0 := keepB hb K0
  replace K1 := keepB hb K1
  replace hB := hB.trans (hb.mono hB.size)
  clear hb
  obtain ⟨B4, hB4⟩ : ∃ b, X3.heap.size = b := ⟨_, rfl⟩
  obtain ⟨t0_0, t0_1, t0_2, t0_3, t0_4, t0_5, t0_6, t0_7⟩ := cellsOf_at K0.out
  obtain ⟨t1_0, t1_1, t1_2, t1_3, t1_4, t1_5, t1_6, t1_7⟩ := cellsOf_at K1.out
  rw [hB4] at t0_7 t1_7
  go_wp2_with fail
  try clear t0_0 t0_1 t0_2 t0_3 t0_4 t0_5 t0_6 t0_7 t1_0 t1_1 t1_2 t1_3 t1_4 t1_5 t1_6 t1_7
  try rw [hB4]
  refine call_named (fun V => Below w.heap.size w V ∧ Hid (V.heap[w.heap.size]? = some (cellsOf ⟨a1, a2, a3, a4, a5, a6⟩)) ∧ Hid (V.heap[w.heap.size + 1]? = some (cellsOf ⟨b1, b2, b3, b4, b5, b6⟩)) ∧ Hid (V.heap[B4]? = some (spanOf ⟨0, 0⟩))) ⟨xa hB _, keepA K0 _, keepA K1 _, newA _ _ _ hB4⟩ ?_
  clear hB K0 K1 hB4
  rintro V4 ⟨hB, K0, K1, K4⟩
  refine ((H4 _).out).mono ?_
  rintro r X5 ⟨rfl, hb⟩
  replace K0 := keepB hb K0
  replace K1 := keepB hb K1
  replace K4 := keepB hb K4
  replace hB := hB.trans (hb.mono hB.size)
  clear hb
  obtain ⟨t0_0, t0_1, t0_2, t0_3, t0_4, t0_5, t0_6, t0_7⟩ := cellsOf_at K0.out
  obtain ⟨t1_0, t1_1, t1_2, t1_3, t1_4, t1_5, t1_6, t1_7⟩ := cellsOf_at K1.out
  obtain ⟨t4_0, t4_1, t4_2, t4_3⟩ := span_at' K4.out
  go_wp2_with fail
  try clear t0_0 t0_1 t0_2 t0_3 t0_4 t0_5 t0_6 t0_7 t1_0 t1_1 t1_2 t1_3 t1_4 t1_5 t1_6 t1_7 t4_0 t4_1 t4_2 t4_3
  refine ((H5 _).out).mono ?_
  rintro r X6 ⟨rfl, hb⟩
  replace K0 := keepB hb K0
  replace K1 := keepB hb K1
  replace K4 := keepB hb K4
  replace hB := hB.trans (hb.mono hB.size)
  clear hb
  obtain ⟨B7, hB7⟩ : ∃ b, X6.heap.size = b := ⟨_, rfl⟩
  obtain ⟨t0_0, t0_1, t0_2, t0_3, t0_4, t0_5, t0_6, t0_7⟩ := cellsOf_at K0.out
  obtain ⟨t1_0, t1_1, t1_2, t1_3, t1_4, t1_5, t1_6, t1_7⟩ := cellsOf_at K1.out
  obtain ⟨t4_0, t4_1, t4_2, t4_3⟩ := span_at' K4.out
  rw [hB7] at t0_7 t1_7 t4_3
  go_wp2_with fail
  try clear t0_0 t0_1 t0_2 t0_3 t0_4 t0_5 t0_6 t0_7 t1_0 t1_1 t1_2 t1_3 t1_4 t1_5 t1_6 t1_7 t4_0 t4_1 t4_2 t4_3
  try rw [hB7]
  refine call_named (fun V => Below w.heap.size w V ∧ Hid (V.heap[w.heap.size]? = some (cellsOf ⟨a1, a2, a3, a4, a5, a6⟩)) ∧ Hid (V.heap[w.heap.size + 1]? = some (cellsOf ⟨b1, b2, b3, b4, b5, b6⟩)) ∧ Hid (V.heap[B4]? = some (spanOf ⟨0, 0⟩)) ∧ Hid (V.heap[B7]? = some (spanOf ⟨j1, j2⟩))) ⟨xa hB _, keepA K0 _, keepA K1 _, keepA K4 _, newA _ _ _ hB7⟩ ?_
  clear hB K0 K1 K4 hB7
  rintro V7 ⟨hB, K0, K1, K4, K7⟩
  refine ((H6 _).out).mono ?_
  rintro r X8 ⟨rfl, hb⟩
  replace K0 := keepB hb K0
  replace K1 := keepB hb K1
  replace K4 := keepB hb K4
  replace K7 := keepB hb K7
  replace hB := hB.trans (hb.mono hB.size)
  clear hb
  obtain ⟨t0_0, t0_1, t0_2, t0_3, t0_4, t0_5, t0_6, t0_7⟩ := cellsOf_at K0.out
  obtain ⟨t1_0, t1_1, t1_2, t1_3, t1_4, t1_5, t1_6, t1_7⟩ := cellsOf_at K1.out
  obtain ⟨t4_0, t4_1, t4_2, t4_3⟩ := span_at' K4.out
  obtain ⟨t7_0, t7_1, t7_2, t7_3⟩ := span_at' K7.out
  go_wp2_with fail
  try clear t0_0 t0_1 t0_2 t0_3 t0_4 t0_5 t0_6 t0_7 t1_0 t1_1 t1_2 t1_3 t1_4 t1_5 t1_6 t1_7 t4_0 t4_1 t4_2 t4_3 t7_0 t7_1 t7_2 t7_3
  refine ((H7 _).out).mono ?_
  rintro r X9 ⟨rfl, hb⟩
  replace K0 := keepB hb K0
  replace K1 := keepB hb K1
  replace K4 := keepB hb K4
  replace K7 := keepB hb K7
  replace hB := hB.trans (hb.mono hB.size)
  clear hb
  obtain ⟨t0_0, t0_1, t0_2, t0_3, t0_4, t0_5, t0_6, t0_7⟩ := cellsOf_at K0.out
  obtain ⟨t1_0, t1_1, t1_2, t1_3, t1_4, t1_5, t1_6, t1_7⟩ := cellsOf_at K1.out
  obtain ⟨t4_0, t4_1, t4_2, t4_3⟩ := span_at' K4.out
  obtain ⟨t7_0, t7_1, t7_2, t7_3⟩ := span_at' K7.out
  go_wp2_with fail
  try clear t0_0 t0_1 t0_2 t0_3 t0_4 t0_5 t0_6 t0_7 t1_0 t1_1 t1_2 t1_3 t1_4 t1_5 t1_6 t1_7 t4_0 t4_1 t4_2 t4_3 t7_0 t7_1 t7_2 t7_3
  refine ((H8 _).out).mono ?_
  rintro r X10 ⟨rfl, hb⟩
  replace K0 := keepB hb K0
  replace K1 := keepB hb K1
  replace K4 := keepB hb K4
  replace K7 := keepB hb K7
  replace hB := hB.trans (hb.mono hB.size)
  clear hb
  obtain ⟨t0_0, t0_1, t0_2, t0_3, t0_4, t0_5, t0_6, t0_7⟩ := cellsOf_at K0.out
  obtain ⟨t1_0, t1_1, t1_2, t1_3, t1_4, t1_5, t1_6, t1_7⟩ := cellsOf_at K1.out
  obtain ⟨t4_0, t4_1, t4_2, t4_3⟩ := span_at' K4.out
  obtain ⟨t7_0, t7_1, t7_2, t7_3⟩ := span_at' K7.out
  go_wp2_with fail
  try clear t0_0 t0_1 t0_2 t0_3 t0_4 t0_5 t0_6 t0_7 t1_0 t1_1 t1_2 t1_3 t1_4 t1_5 t1_6 t1_7 t4_0 t4_1 t4_2 t4_3 t7_0 t7_1 t7_2 t7_3
  refine ((H9 _).out).mono ?_
  rintro r X11 ⟨rfl, hb⟩
  replace K0 := keepB hb K0
  replace K1 := keepB hb K1
  replace K4 := keepB hb K4
  replace K7 := keepB hb K7
  replace hB := hB.trans (hb.mono hB.size)
  clear hb
  obtain ⟨t0_0, t0_1, t0_2, t0_3, t0_4, t0_5, t0_6, t0_7⟩ := cellsOf_at K0.out
  obtain ⟨t1_0, t1_1, t1_2, t1_3, t1_4, t1_5, t1_6, t1_7⟩ := cellsOf_at K1.out
  obtain ⟨t4_0, t4_1, t4_2, t4_3⟩ := span_at' K4.out
  obtain ⟨t7_0, t7_1, t7_2, t7_3⟩ := span_at' K7.out
  go_wp2_with fail
  try clear t0_0 t0_1 t0_2 t0_3 t0_4 t0_5 t0_6 t0_7 t1_0 t1_1 t1_2 t1_3 t1_4 t1_5 t1_6 t1_7 t4_0 t4_1 t4_2 t4_3 t7_0 t7_1 t7_2 t7_3
  refine ((HF _).out).mono ?_
  rintro r X12 ⟨rfl, hb⟩
  replace K0 := keepB hb K0
  replace K1 := keepB hb K1
  replace K4 := keepB hb K4
  replace K7 := keepB hb K7
  replace hB := hB.trans (hb.mono hB.size)
  clear hb
  obtain ⟨t0_0, t0_1, t0_2, t0_3, t0_4, t0_5, t0_6, t0_7⟩ := cellsOf_at K0.out
  obtain ⟨t1_0, t1_1, t1_2, t1_3, t1_4, t1_5, t1_6, t1_7⟩ := cellsOf_at K1.out
  obtain ⟨t4_0, t4_1, t4_2, t4_3⟩ := span_at' K4.out
  obtain ⟨t7_0, t7_1, t7_2, t7_3⟩ := span_at' K7.out
  go_wp2_with fail
  try clear t0_0 t0_1 t0_2 t0_3 t0_4 t0_5 t0_6 t0_7 t1_0 t1_1 t1_2 t1_3 t1_4 t1_5 t1_6 t1_7 t4_0 t4_1 t4_2 t4_3 t7_0 t7_1 t7_2 t7_3
  obtain ⟨g1, g2⟩ := blk_of K0.out
  obtain ⟨g3, g4⟩ := blk_of K1.out
  refine wp_region_grows X12 (by kernel_rfl) (Grown.refl _) fun x => ?_
  refine WG_take0 (v := ?_) (a' := ?_) 0 rfl (by kernel_rfl) (by kernel_rfl) (by kernel_rfl) ⟨rfl, fun y => ?_⟩ ?_ 129 rfl (by kernel_rfl) fun x => ?_
  rotate_left 2
  · go_big_quiet_op; exact rfl
  · exact rfl
  refine WG_take0 (v := ?_) (a' := ?_) 1 rfl (by kernel_rfl) (by kernel_rfl) (by kernel_rfl) ⟨rfl, fun y => ?_⟩ ?_ 130 rfl (by kernel_rfl) fun x => ?_
  rotate_left 2
  · go_big_quiet_op
    apply Exists.intro; refine ⟨fun n => ?_, ?_⟩
    · go_at_call 55
      exact gw_call (HA _).out
    exact rfl
  · exact rfl
  refine WG_take0 (v := ?_) (a' := ?_) 2 rfl (by kernel_rfl) (by kernel_rfl) (by kernel_rfl) ⟨rfl, fun y => ?_⟩ ?_ 131 rfl (by kernel_rfl) fun x => ?_
  rotate_left 2
  · go_big_quiet_op; exact rfl
  · exact rfl
  refine WG_take0 (v := ?_) (a' := ?_) 3 rfl (by kernel_rfl) (by kernel_rfl) (by kernel_rfl) ⟨rfl, fun y => ?_⟩ ?_ 132 rfl (by kernel_rfl) fun x => ?_
  rotate_left 2
  · go_big_quiet_op
    apply Exists.intro; refine ⟨fun n => ?_, ?_⟩
    · go_at_call 55
      exact gw_call (HB _).out
    exact rfl
  · exact rfl
  refine WG_take0 (v := ?_) (a' := ?_) 4 rfl (by kernel_rfl) (by kernel_rfl) (by kernel_rfl) ⟨rfl, fun y => ?_⟩ ?_ 133 rfl (by kernel_rfl) fun x => ?_
  rotate_left 2
  · go_big_quiet_op
    apply Exists.intro; refine ⟨fun n => ?_, ?_⟩
    · go_at_call 54
      exact gw_call (HM _).out
    exact rfl
  · exact rfl
  refine WG_all [5] (by kernel_rfl) (by simp) fun i hi => ?_
  rcases List.mem_singleton.1 hi with rfl
  refine WG_op rfl rfl fun K hK => ?_
  go_big_op
  refine hK _ _ ⟨xa (Grown.gw _ _) _, fun y => ?_⟩
  obtain ⟨P13, w1, e1, e2, p1, p2, p3, p4, pF, p5⟩ := new_at (Grown.gw X12 x) #[.int .i64 0, .int .i64 0] 33 y
  rw [e1, e2]
  clear e1 e2
  refine WG_all [6] (by kernel_rfl) (by simp) fun i hi => ?_
  rcases List.mem_singleton.1 hi with rfl
  refine WG_op rfl rfl fun K hK => ?_
  go_big_op
  refine hK _ _ ⟨xs (xs p2 p1 _) p1 _, fun y => ?_⟩
  obtain ⟨W13, e3, r1, r2, r3, r4, -⟩ := stored2 p2 p1 p5 pF (.int .i64 m1) (.int .i64 m2) y
  rw [e3]
  have r8 := Nat.lt_of_lt_of_le p4 r2
  clear e3 p3 p4 p5 pF p2 p1 r2 w1 hi g1 g2 g3 g4
  refine WG_done (by kernel_rfl) ?_ _
  have K13 : Hid (SpanCells W13 P13 ⟨m1, m2⟩) := Lib.hid ⟨r8, r3 0, r3 1, r4⟩
  replace K0 := keepB r1 K0
  replace K1 := keepB r1 K1
  replace K4 := keepB r1 K4
  replace K7 := keepB r1 K7
  replace hB := hB.trans (r1.mono hB.size)
  clear r1 r3 r4 r8
  unfold NoPanic
  obtain ⟨t0_0, t0_1, t0_2, t0_3, t0_4, t0_5, t0_6, t0_7⟩ := cellsOf_at K0.out
  obtain ⟨t1_0, t1_1, t1_2, t1_3, t1_4, t1_5, t1_6, t1_7⟩ := cellsOf_at K1.out
  obtain ⟨t4_0, t4_1, t4_2, t4_3⟩ := span_at' K4.out
  obtain ⟨t7_0, t7_1, t7_2, t7_3⟩ := span_at' K7.out
  obtain ⟨t13_0, t13_1, t13_2, t13_3⟩ := span_cells K13
  go_wp2_with fail
  try clear t0_0 t0_1 t0_2 t0_3 t0_4 t0_5 t0_6 t0_7 t1_0 t1_1 t1_2 t1_3 t1_4 t1_5 t1_6 t1_7 t4_0 t4_1 t4_2 t4_3 t7_0 t7_1 t7_2 t7_3 t13_0 t13_1 t13_2 t13_3
  refine ((HO _).out).mono ?_
  rintro r X14 ⟨rfl, hb⟩
  replace K0 := keepB hb K0
  replace K1 := keepB hb K1
  replace K4 := keepB hb K4
  replace K7 := keepB hb K7
  replace K13 := keepC hb K13
  replace hB := hB.trans (hb.mono hB.size)
  clear hb
  obtain ⟨t0_0, t0_1, t0_2, t0_3, t0_4, t0_5, t0_6, t0_7⟩ := cellsOf_at K0.out
  obtain ⟨t1_0, t1_1, t1_2, t1_3, t1_4, t1_5, t1_6, t1_7⟩ := cellsOf_at K1.out
  obtain ⟨t4_0, t4_1, t4_2, t4_3⟩ := span_at' K4.out
  obtain ⟨t7_0, t7_1, t7_2, t7_3⟩ := span_at' K7.out
  obtain ⟨t13_0, t13_1, t13_2, t13_3⟩ := span_cells K13
  go_wp2_with fail
  refine wp_region_gw (by kernel_rfl) (by kernel_rfl) ?_
  repeat (go_big_quiet_step (first | (go_at_call 22; exact gw_call (c22 _ (HE.out.below (hB.trans ((gw_below _ _).mono hB.size))) (HC.out.below (hB.trans ((gw_below _ _).mono hB.size)) HC.out.lt))) | (go_at_call 57; exact gw_call (HJ _).out)))
  refine wpQuiet_nil ?_
  rintro _ ⟨Y15, rfl⟩
  try clear t0_0 t0_1 t0_2 t0_3 t0_4 t0_5 t0_6 t0_7 t1_0 t1_1 t1_2 t1_3 t1_4 t1_5 t1_6 t1_7 t4_0 t4_1 t4_2 t4_3 t7_0 t7_1 t7_2 t7_3 t13_0 t13_1 t13_2 t13_3
  replace K0 := keepB (gw_below X14 Y15) K0
  replace K1 := keepB (gw_below X14 Y15) K1
  replace K4 := keepB (gw_below X14 Y15) K4
  replace K7 := keepB (gw_below X14 Y15) K7
  replace K13 := keepC (gw_below X14 Y15) K13
  replace hB := hB.trans ((gw_below X14 Y15).mono hB.size)
  obtain ⟨Z16, hZ16⟩ : ∃ V, gw X14 Y15 = V := ⟨_, rfl⟩
  rw [hZ16] at hB K0 K1 K4 K7 K13 ⊢
  clear hZ16
  obtain ⟨t0_0, t0_1, t0_2, t0_3, t0_4, t0_5, t0_6, t0_7⟩ := cellsOf_at K0.out
  obtain ⟨t1_0, t1_1, t1_2, t1_3, t1_4, t1_5, t1_6, t1_7⟩ := cellsOf_at K1.out
  obtain ⟨t4_0, t4_1, t4_2, t4_3⟩ := span_at' K4.out
  obtain ⟨t7_0, t7_1, t7_2, t7_3⟩ := span_at' K7.out
  obtain ⟨t13_0, t13_1, t13_2, t13_3⟩ := span_cells K13
  go_wp2_with fail
  go_ret
  exact ⟨rfl, hB⟩
set_option maxRecDepth 100000 in
set_option maxHeartbeats 8000000 in
theorem c15_01 (a1 a2 a3 a4 a5 a6 b1 b2 b3 b4 b5 b6 l1 h1 l2 h2 m1 m2 j1 j2 : Int) (p u : Bool) (w : World) (hm0 : m1 ≤ m2) (HE : Hid (Env w)) (HC : Hid (Cell0 w)) (H1 : ∀ W, Hid (Calls Tryz.prog 45 #[.agg #[.int .i64 a1, .int .i64 a2, .int .i64 a3, .int .i64 a4, .int .i64 a5, .int .i64 a6], .agg #[.int .i64 b1, .int .i64 b2, .int .i64 b3, .int .i64 b4, .int .i64 b5, .int .i64 b6]] W fun r w' => r = .returned (.tuple #[.bool p, .int .i64 0]) ∧ Below W.heap.size W w')) (H2 : ∀ W, Hid (Calls Tryz.prog 47 #[.agg #[.int .i64 a1, .int .i64 a2, .int .i64 a3, .int .i64 a4, .int .i64 a5, .int .i64 a6], .agg #[.int .i64 b1, .int .i64 b2, .int .i64 b3, .int .i64 b4, .int .i64 b5, .int .i64 b6]] W fun r w' => r = .returned (.tuple #[.bool u, .int .i64 0]) ∧ Below W.heap.size W w')) (H3 : ∀ W, Hid (Calls Tryz.prog 48 #[.agg #[.int .i64 a1, .int .i64 a2, .int .i64 a3, .int .i64 a4, .int .i64 a5, .int .i64 a6], .agg #[.int .i64 b1, .int .i64 b2, .int .i64 b3, .int .i64 b4, .int .i64 b5, .int .i64 b6]] W fun r w' => r = .returned (.tuple #[.agg #[.int .i64 m1, .int .i64 m2], .int .i64 0]) ∧ Below W.heap.size W w')) (H4 : ∀ W, Hid (Calls Tryz.prog 49 #[.agg #[.int .i64 a1, .int .i64 a2, .int .i64 a3, .int .i64 a4, .int .i64 a5, .int .i64 a6], .agg #[.int .i64 b1, .int .i64 b2, .int .i64 b3, .int .i64 b4, .int .i64 b5, .int .i64 b6]] W fun r w' => r = .returned (.tuple #[.bool true, .int .i64 0]) ∧ Below W.heap.size W w')) (H5 : ∀ W, Hid (Calls Tryz.prog 50 #[.agg #[.int .i64 a1, .int .i64 a2, .int .i64 a3, .int .i64 a4, .int .i64 a5, .int .i64 a6], .agg #[.int .i64 b1, .int .i64 b2, .int .i64 b3, .int .i64 b4, .int .i64 b5, .int .i64 b6]] W fun r w' => r = .returned (.tuple #[.agg #[.int .i64 j1, .int .i64 j2], .int .i64 0]) ∧ Below W.heap.size W w')) (H6 : ∀ W, Hid (Calls Tryz.prog 37 #[.agg #[.int .i64 a1, .int .i64 a2, .int .i64 a3, .int .i64 a4, .int .i64 a5, .int .i64 a6]] W fun r w' => r = .returned (.bool true) ∧ Below W.heap.size W w')) (H7 : ∀ W, Hid (Calls Tryz.prog 37 #[.agg #[.int .i64 b1, .int .i64 b2, .int .i64 b3, .int .i64 b4, .int .i64 b5, .int .i64 b6]] W fun r w' => r = .returned (.bool true) ∧ Below W.heap.size W w')) (H8 : ∀ W, Hid (Calls Tryz.prog 51 #[.agg #[.int .i64 a1, .int .i64 a2, .int .i64 a3, .int .i64 a4, .int .i64 a5, .int .i64 a6], .agg #[.int .i64 b1, .int .i64 b2, .int .i64 b3, .int .i64 b4, .int .i64 b5, .int .i64 b6]] W fun r w' => r = .returned (.bool p) ∧ Below W.heap.size W w')) (H9 : ∀ W, Hid (Calls Tryz.prog 52 #[.agg #[.int .i64 a1, .int .i64 a2, .int .i64 a3, .int .i64 a4, .int .i64 a5, .int .i64 a6], .agg #[.int .i64 b1, .int .i64 b2, .int .i64 b3, .int .i64 b4, .int .i64 b5, .int .i64 b6]] W fun r w' => r = .returned (.bool u) ∧ Below W.heap.size W w')) (HF : ∀ W, Hid (Calls Tryz.prog 53 #[.agg #[.int .i64 a1, .int .i64 a2, .int .i64 a3, .int .i64 a4, .int .i64 a5, .int .i64 a6], .agg #[.int .i64 b1, .int .i64 b2, .int .i64 b3, .int .i64 b4, .int .i64 b5, .int .i64 b6]] W fun r w' => r = .returned (.bool true) ∧ Below W.heap.size W w')) (HA : ∀ W, Hid (Calls Tryz.prog 55 #[.agg #[.int .i64 a1, .int .i64 a2, .int .i64 a3, .int .i64 a4, .int .i64 a5, .int .i64 a6]] W fun r w' => r = .returned (.agg #[.int .i64 l1, .int .i64 h1]) ∧ Below W.heap.size W w')) (HB : ∀ W, Hid (Calls Tryz.prog 55 #[.agg #[.int .i64 b1, .int .i64 b2, .int .i64 b3, .int .i64 b4, .int .i64 b5, .int .i64 b6]] W fun r w' => r = .returned (.agg #[.int .i64 l2, .int .i64 h2]) ∧ Below W.heap.size W w')) (HM : ∀ W, Hid (Calls Tryz.prog 54 #[.agg #[.int .i64 l1, .int .i64 h1], .agg #[.int .i64 l2, .int .i64 h2]] W fun r w' => r = .returned (.agg #[.int .i64 m1, .int .i64 m2]) ∧ Below W.heap.size W w')) (HO : ∀ W, Hid (Calls Tryz.prog 56 #[.agg #[.int .i64 a1, .int .i64 a2, .int .i64 a3, .int .i64 a4, .int .i64 a5, .int .i64 a6], .agg #[.int .i64 b1, .int .i64 b2, .int .i64 b3, .int .i64 b4, .int .i64 b5, .int .i64 b6]] W fun r w' => r = .returned (.bool true) ∧ Below W.heap.size W w')) (HJ : ∀ W, Hid (Calls Tryz.prog 57 #[.agg #[.int .i64 a1, .int .i64 a2, .int .i64 a3, .int .i64 a4, .int .i64 a5, .int .i64 a6], .agg #[.int .i64 b1, .int .i64 b2, .int .i64 b3, .int .i64 b4, .int .i64 b5, .int .i64 b6]] W fun r w' => r = .returned (.agg #[.int .i64 j1, .int .i64 j2]) ∧ Below W.heap.size W w')) : Calls Tryz.prog 15 #[.agg #[.int .i64 a1, .int .i64 a2, .int .i64 a3, .int .i64 a4, .int .i64 a5, .int .i64 a6], .agg #[.int .i64 b1, .int .i64 b2, .int .i64 b3, .int .i64 b4, .int .i64 b5, .int .i64 b6]] w fun e w' => e = .returned (.bool true) ∧ Below w.heap.size w w' := by
  go_enter Tryz.func15, Tryz.ntmps15
  go_wp2_with fail
  refine call_named (fun V => Below w.heap.size w V ∧ Hid (V.heap[w.heap.size]? = some (cellsOf ⟨a1, a2, a3, a4, a5, a6⟩)) ∧ Hid (V.heap[w.heap.size + 1]? = some (cellsOf ⟨b1, b2, b3, b4, b5, b6⟩))) (box_two _ _ _) ?_
  rintro X0 ⟨hB, K0, K1⟩
  refine ((H1 _).out).mono ?_
  rintro r X1 ⟨rfl, hb⟩
  replace K0 := keepB hb K0
  replace K1 := keepB hb K1
  replace hB := hB.trans (hb.mono hB.size)
  clear hb
  obtain ⟨t0_0, t0_1, t0_2, t0_3, t0_4, t0_5, t0_6, t0_7⟩ := cellsOf_at K0.out
  obtain ⟨t1_0, t1_1, t1_2, t1_3, t1_4, t1_5, t1_6, t1_7⟩ := cellsOf_at K1.out
  go_wp2_with fail
  try clear t0_0 t0_1 t0_2 t0_3 t0_4 t0_5 t0_6 t0_7 t1_0 t1_1 t1_2 t1_3 t1_4 t1_5 t1_6 t1_7
  refine ((H2 _).out).mono ?_
  rintro r X2 ⟨rfl, hb⟩
  replace K0 := keepB hb K0
  replace K1 := keepB hb K1
  replace hB := hB.trans (hb.mono hB.size)
  clear hb
  obtain ⟨t0_0, t0_1, t0_2, t0_3, t0_4, t0_5, t0_6, t0_7⟩ := cellsOf_at K0.out
  obtain ⟨t1_0, t1_1, t1_2, t1_3, t1_4, t1_5, t1_6, t1_7⟩ := cellsOf_at K1.out
  go_wp2_with fail
  try clear t0_0 t0_1 t0_2 t0_3 t0_4 t0_5 t0_6 t0_7 t1_0 t1_1 t1_2 t1_3 t1_4 t1_5 t1_6 t1_7
  refine ((H3 _).out).mono ?_
  rintro r X3 ⟨rfl, hb⟩
  replace K0 := keepB hb K0
  replace K1 := keepB hb K1
  replace hB := hB.trans (hb.mono hB.size)
  clear hb
  obtain ⟨B4, hB4⟩ : ∃ b, X3.heap.size = b := ⟨_, rfl⟩
  obtain ⟨t0_0, t0_1, t0_2, t0_3, t0_4, t0_5, t0_6, t0_7⟩ := cellsOf_at K0.out
  obtain ⟨t1_0, t1_1, t1_2, t1_3, t1_4, t1_5, t1_6, t1_7⟩ := cellsOf_at K1.out
  rw [hB4] at t0_7 t1_7
  go_wp2_with fail
  try clear t0_0 t0_1 t0_2 t0_3 t0_4 t0_5 t0_6 t0_7 t1_0 t1_1 t1_2 t1_3 t1_4 t1_5 t1_6 t1_7
  try rw [hB4]
  refine call_named (fun V => Below w.heap.size w V ∧ Hid (V.heap[w.heap.size]? = some (cellsOf ⟨a1, a2, a3, a4, a5, a6⟩)) ∧ Hid (V.heap[w.heap.size + 1]? = some (cellsOf ⟨b1, b2, b3, b4, b5, b6⟩)) ∧ Hid (V.heap[B4]? = some (spanOf ⟨m1, m2⟩))) ⟨xa hB _, keepA K0 _, keepA K1 _, newA _ _ _ hB4⟩ ?_
  clear hB K0 K1 hB4
  rintro V4 ⟨hB, K0, K1, K4⟩
  refine ((H4 _).out).mono ?_
  rintro r X5 ⟨rfl, hb⟩
  replace K0 := keepB hb K0
  replace K1 := keepB hb K1
  replace K4 := keepB hb K4
  replace hB := hB.trans (hb.mono hB.size)
  clear hb
  obtain ⟨t0_0, t0_1, t0_2, t0_3, t0_4, t0_5, t0_6, t0_7⟩ := cellsOf_at K0.out
  obtain ⟨t1_0, t1_1, t1_2, t1_3, t1_4, t1_5, t1_6, t1_7⟩ := cellsOf_at K1.out
  obtain ⟨t4_0, t4_1, t4_2, t4_3⟩ := span_at' K4.out
  go_wp2_with fail
  try clear t0_0 t0_1 t0_2 t0_3 t0_4 t0_5 t0_6 t0_7 t1_0 t1_1 t1_2 t1_3 t1_4 t1_5 t1_6 t1_7 t4_0 t4_1 t4_2 t4_3
  refine ((H5 _).out).mono ?_
  rintro r X6 ⟨rfl, hb⟩
  replace K0 := keepB hb K0
  replace K1 := keepB hb K1
  replace K4 := keepB hb K4
  replace hB := hB.trans (hb.mono hB.size)
  clear hb
  obtain ⟨B7, hB7⟩ : ∃ b, X6.heap.size = b := ⟨_, rfl⟩
  obtain ⟨t0_0, t0_1, t0_2, t0_3, t0_4, t0_5, t0_6, t0_7⟩ := cellsOf_at K0.out
  obtain ⟨t1_0, t1_1, t1_2, t1_3, t1_4, t1_5, t1_6, t1_7⟩ := cellsOf_at K1.out
  obtain ⟨t4_0, t4_1, t4_2, t4_3⟩ := span_at' K4.out
  rw [hB7] at t0_7 t1_7 t4_3
  go_wp2_with fail
  try clear t0_0 t0_1 t0_2 t0_3 t0_4 t0_5 t0_6 t0_7 t1_0 t1_1 t1_2 t1_3 t1_4 t1_5 t1_6 t1_7 t4_0 t4_1 t4_2 t4_3
  try rw [hB7]
  refine call_named (fun V => Below w.heap.size w V ∧ Hid (V.heap[w.heap.size]? = some (cellsOf ⟨a1, a2, a3, a4, a5, a6⟩)) ∧ Hid (V.heap[w.heap.size + 1]? = some (cellsOf ⟨b1, b2, b3, b4, b5, b6⟩)) ∧ Hid (V.heap[B4]? = some (spanOf ⟨m1, m2⟩)) ∧ Hid (V.heap[B7]? = some (spanOf ⟨j1, j2⟩))) ⟨xa hB _, keepA K0 _, keepA K1 _, keepA K4 _, newA _ _ _ hB7⟩ ?_
  clear hB K0 K1 K4 hB7
  rintro V7 ⟨hB, K0, K1, K4, K7⟩
  refine ((H6 _).out).mono ?_
  rintro r X8 ⟨rfl, hb⟩
  replace K0 := keepB hb K0
  replace K1 := keepB hb K1
  replace K4 := keepB hb K4
  replace K7 := keepB hb K7
  replace hB := hB.trans (hb.mono hB.size)
  clear hb
  obtain ⟨t0_0, t0_1, t0_2, t0_3, t0_4, t0_5, t0_6, t0_7⟩ := cellsOf_at K0.out
  obtain ⟨t1_0, t1_1, t1_2, t1_3, t1_4, t1_5, t1_6, t1_7⟩ := cellsOf_at K1.out
  obtain ⟨t4_0, t4_1, t4_2, t4_3⟩ := span_at' K4.out
  obtain ⟨t7_0, t7_1, t7_2, t7_3⟩ := span_at' K7.out
  go_wp2_with fail
  try clear t0_0 t0_1 t0_2 t0_3 t0_4 t0_5 t0_6 t0_7 t1_0 t1_1 t1_2 t1_3 t1_4 t1_5 t1_6 t1_7 t4_0 t4_1 t4_2 t4_3 t7_0 t7_1 t7_2 t7_3
  refine ((H7 _).out).mono ?_
  rintro r X9 ⟨rfl, hb⟩
  replace K0 := keepB hb K0
  replace K1 := keepB hb K1
  replace K4 := keepB hb K4
  replace K7 := keepB hb K7
  replace hB := hB.trans (hb.mono hB.size)
  clear hb
  obtain ⟨t0_0, t0_1, t0_2, t0_3, t0_4, t0_5, t0_6, t0_7⟩ := cellsOf_at K0.out
  obtain ⟨t1_0, t1_1, t1_2, t1_3, t1_4, t1_5, t1_6, t1_7⟩ := cellsOf_at K1.out
  obtain ⟨t4_0, t4_1, t4_2, t4_3⟩ := span_at' K4.out
  obtain ⟨t7_0, t7_1, t7_2, t7_3⟩ := span_at' K7.out
  go_wp2_with fail
  try clear t0_0 t0_1 t0_2 t0_3 t0_4 t0_5 t0_6 t0_7 t1_0 t1_1 t1_2 t1_3 t1_4 t1_5 t1_6 t1_7 t4_0 t4_1 t4_2 t4_3 t7_0 t7_1 t7_2 t7_3
  refine ((H8 _).out).mono ?_
  rintro r X10 ⟨rfl, hb⟩
  replace K0 := keepB hb K0
  replace K1 := keepB hb K1
  replace K4 := keepB hb K4
  replace K7 := keepB hb K7
  replace hB := hB.trans (hb.mono hB.size)
  clear hb
  obtain ⟨t0_0, t0_1, t0_2, t0_3, t0_4, t0_5, t0_6, t0_7⟩ := cellsOf_at K0.out
  obtain ⟨t1_0, t1_1, t1_2, t1_3, t1_4, t1_5, t1_6, t1_7⟩ := cellsOf_at K1.out
  obtain ⟨t4_0, t4_1, t4_2, t4_3⟩ := span_at' K4.out
  obtain ⟨t7_0, t7_1, t7_2, t7_3⟩ := span_at' K7.out
  go_wp2_with fail
  try clear t0_0 t0_1 t0_2 t0_3 t0_4 t0_5 t0_6 t0_7 t1_0 t1_1 t1_2 t1_3 t1_4 t1_5 t1_6 t1_7 t4_0 t4_1 t4_2 t4_3 t7_0 t7_1 t7_2 t7_3
  refine ((H9 _).out).mono ?_
  rintro r X11 ⟨rfl, hb⟩
  replace K0 := keepB hb K0
  replace K1 := keepB hb K1
  replace K4 := keepB hb K4
  replace K7 := keepB hb K7
  replace hB := hB.trans (hb.mono hB.size)
  clear hb
  obtain ⟨t0_0, t0_1, t0_2, t0_3, t0_4, t0_5, t0_6, t0_7⟩ := cellsOf_at K0.out
  obtain ⟨t1_0, t1_1, t1_2, t1_3, t1_4, t1_5, t1_6, t1_7⟩ := cellsOf_at K1.out
  obtain ⟨t4_0, t4_1, t4_2, t4_3⟩ := span_at' K4.out
  obtain ⟨t7_0, t7_1, t7_2, t7_3⟩ := span_at' K7.out
  go_wp2_with fail
  try clear t0_0 t0_1 t0_2 t0_3 t0_4 t0_5 t0_6 t0_7 t1_0 t1_1 t1_2 t1_3 t1_4 t1_5 t1_6 t1_7 t4_0 t4_1 t4_2 t4_3 t7_0 t7_1 t7_2 t7_3
  refine ((HF _).out).mono ?_
  rintro r X12 ⟨rfl, hb⟩
  replace K0 := keepB hb K0
  replace K1 := keepB hb K1
  replace K4 := keepB hb K4
  replace K7 := keepB hb K7
  replace hB := hB.trans (hb.mono hB.size)
  clear hb
  obtain ⟨t0_0, t0_1, t0_2, t0_3, t0_4, t0_5, t0_6, t0_7⟩ := cellsOf_at K0.out
  obtain ⟨t1_0, t1_1, t1_2, t1_3, t1_4, t1_5, t1_6, t1_7⟩ := cellsOf_at K1.out
  obtain ⟨t4_0, t4_1, t4_2, t4_3⟩ := span_at' K4.out
  obtain ⟨t7_0, t7_1, t7_2, t7_3⟩ := span_at' K7.out
  go_wp2_with fail
  try clear t0_0 t0_1 t0_2 t0_3 t0_4 t0_5 t0_6 t0_7 t1_0 t1_1 t1_2 t1_3 t1_4 t1_5 t1_6 t1_7 t4_0 t4_1 t4_2 t4_3 t7_0 t7_1 t7_2 t7_3
  obtain ⟨g1, g2⟩ := blk_of K0.out
  obtain ⟨g3, g4⟩ := blk_of K1.out
  refine wp_region_grows X12 (by kernel_rfl) (Grown.refl _) fun x => ?_
  refine WG_take0 (v := ?_) (a' := ?_) 0 rfl (by kernel_rfl) (by kernel_rfl) (by kernel_rfl) ⟨rfl, fun y => ?_⟩ ?_ 129 rfl (by kernel_rfl) fun x => ?_
  rotate_left 2
  · go_big_quiet_op; exact rfl
  · exact rfl
  refine WG_take0 (v := ?_) (a' := ?_) 1 rfl (by kernel_rfl) (by kernel_rfl) (by kernel_rfl) ⟨rfl, fun y => ?_⟩ ?_ 130 rfl (by kernel_rfl) fun x => ?_
  rotate_left 2
  · go_big_quiet_op
    apply Exists.intro; refine ⟨fun n => ?_, ?_⟩
    · go_at_call 55
      exact gw_call (HA _).out
    exact rfl
  · exact rfl
  refine WG_take0 (v := ?_) (a' := ?_) 2 rfl (by kernel_rfl) (by kernel_rfl) (by kernel_rfl) ⟨rfl, fun y => ?_⟩ ?_ 131 rfl (by kernel_rfl) fun x => ?_
  rotate_left 2
  · go_big_quiet_op; exact rfl
  · exact rfl
  refine WG_take0 (v := ?_) (a' := ?_) 3 rfl (by kernel_rfl) (by kernel_rfl) (by kernel_rfl) ⟨rfl, fun y => ?_⟩ ?_ 132 rfl (by kernel_rfl) fun x => ?_
  rotate_left 2
  · go_big_quiet_op
    apply Exists.intro; refine ⟨fun n => ?_, ?_⟩
    · go_at_call 55
      exact gw_call (HB _).out
    exact rfl
  · exact rfl
  refine WG_take0 (v := ?_) (a' := ?_) 4 rfl (by kernel_rfl) (by kernel_rfl) (by kernel_rfl) ⟨rfl, fun y => ?_⟩ ?_ 133 rfl (by kernel_rfl) fun x => ?_
  rotate_left 2
  · go_big_quiet_op
    apply Exists.intro; refine ⟨fun n => ?_, ?_⟩
    · go_at_call 54
      exact gw_call (HM _).out
    exact rfl
  · exact rfl
  refine WG_all [5] (by kernel_rfl) (by simp) fun i hi => ?_
  rcases List.mem_singleton.1 hi with rfl
  refine WG_op rfl rfl fun K hK => ?_
  go_big_op
  refine hK _ _ ⟨xa (Grown.gw _ _) _, fun y => ?_⟩
  obtain ⟨P13, w1, e1, e2, p1, p2, p3, p4, pF, p5⟩ := new_at (Grown.gw X12 x) #[.int .i64 0, .int .i64 0] 33 y
  rw [e1, e2]
  clear e1 e2
  refine WG_all [6] (by kernel_rfl) (by simp) fun i hi => ?_
  rcases List.mem_singleton.1 hi with rfl
  refine WG_op rfl rfl fun K hK => ?_
  go_big_op
  refine hK _ _ ⟨xs (xs p2 p1 _) p1 _, fun y => ?_⟩
  obtain ⟨W13, e3, r1, r2, r3, r4, -⟩ := stored2 p2 p1 p5 pF (.int .i64 m1) (.int .i64 m2) y
  rw [e3]
  have r8 := Nat.lt_of_lt_of_le p4 r2
  clear e3 p3 p4 p5 pF p2 p1 r2 w1 hi g1 g2 g3 g4
  refine WG_done (by kernel_rfl) ?_ _
  have K13 : Hid (SpanCells W13 P13 ⟨m1, m2⟩) := Lib.hid ⟨r8, r3 0, r3 1, r4⟩
  replace K0 := keepB r1 K0
  replace K1 := keepB r1 K1
  replace K4 := keepB r1 K4
  replace K7 := keepB r1 K7
  replace hB := hB.trans (r1.mono hB.size)
  clear r1 r3 r4 r8
  unfold NoPanic
  obtain ⟨t0_0, t0_1, t0_2, t0_3, t0_4, t0_5, t0_6, t0_7⟩ := cellsOf_at K0.out
  obtain ⟨t1_0, t1_1, t1_2, t1_3, t1_4, t1_5, t1_6, t1_7⟩ := cellsOf_at K1.out
  obtain ⟨t4_0, t4_1, t4_2, t4_3⟩ := span_at' K4.out
  obtain ⟨t7_0, t7_1, t7_2, t7_3⟩ := span_at' K7.out
  obtain ⟨t13_0, t13_1, t13_2, t13_3⟩ := span_cells K13
  go_wp2_with fail
  try clear t0_0 t0_1 t0_2 t0_3 t0_4 t0_5 t0_6 t0_7 t1_0 t1_1 t1_2 t1_3 t1_4 t1_5 t1_6 t1_7 t4_0 t4_1 t4_2 t4_3 t7_0 t7_1 t7_2 t7_3 t13_0 t13_1 t13_2 t13_3
  refine ((HO _).out).mono ?_
  rintro r X14 ⟨rfl, hb⟩
  replace K0 := keepB hb K0
  replace K1 := keepB hb K1
  replace K4 := keepB hb K4
  replace K7 := keepB hb K7
  replace K13 := keepC hb K13
  replace hB := hB.trans (hb.mono hB.size)
  clear hb
  obtain ⟨t0_0, t0_1, t0_2, t0_3, t0_4, t0_5, t0_6, t0_7⟩ := cellsOf_at K0.out
  obtain ⟨t1_0, t1_1, t1_2, t1_3, t1_4, t1_5, t1_6, t1_7⟩ := cellsOf_at K1.out
  obtain ⟨t4_0, t4_1, t4_2, t4_3⟩ := span_at' K4.out
  obtain ⟨t7_0, t7_1, t7_2, t7_3⟩ := span_at' K7.out
  obtain ⟨t13_0, t13_1, t13_2, t13_3⟩ := span_cells K13
  go_wp2_with fail
  refine wp_region_gw (by kernel_rfl) (by kernel_rfl) ?_
  repeat (go_big_quiet_step (first | (go_at_call 22; exact gw_call (c22 _ (HE.out.below (hB.trans ((gw_below _ _).mono hB.size))) (HC.out.below (hB.trans ((gw_below _ _).mono hB.size)) HC.out.lt))) | (go_at_call 57; exact gw_call (HJ _).out)))
  refine wpQuiet_nil ?_
  rintro _ ⟨Y15, rfl⟩
  try clear t0_0 t0_1 t0_2 t0_3 t0_4 t0_5 t0_6 t0_7 t1_0 t1_1 t1_2 t1_3 t1_4 t1_5 t1_6 t1_7 t4_0 t4_1 t4_2 t4_3 t7_0 t7_1 t7_2 t7_3 t13_0 t13_1 t13_2 t13_3
  replace K0 := keepB (gw_below X14 Y15) K0
  replace K1 := keepB (gw_below X14 Y15) K1
  replace K4 := keepB (gw_below X14 Y15) K4
  replace K7 := keepB (gw_below X14 Y15) K7
  replace K13 := keepC (gw_below X14 Y15) K13
  replace hB := hB.trans ((gw_below X14 Y15).mono hB.size)
  obtain ⟨Z16, hZ16⟩ : ∃ V, gw X14 Y15 = V := ⟨_, rfl⟩
  rw [hZ16] at hB K0 K1 K4 K7 K13 ⊢
  clear hZ16
  obtain ⟨t0_0, t0_1, t0_2, t0_3, t0_4, t0_5, t0_6, t0_7⟩ := cellsOf_at K0.out
  obtain ⟨t1_0, t1_1, t1_2, t1_3, t1_4, t1_5, t1_6, t1_7⟩ := cellsOf_at K1.out
  obtain ⟨t4_0, t4_1, t4_2, t4_3⟩ := span_at' K4.out
  obtain ⟨t7_0, t7_1, t7_2, t7_3⟩ := span_at' K7.out
  obtain ⟨t13_0, t13_1, t13_2, t13_3⟩ := span_cells K13
  go_wp2_with fail
  go_ret
  exact ⟨rfl, hB⟩
end Go.Proofs.YthifeoebefbalaaGreatDoor
