/- The law CardAmounts: its walk. -/
import Derived.Test.YthifeoebefbalaaGreatDoorV5
set_option linter.unusedVariables false
set_option linter.unusedSimpArgs false
namespace Go.Proofs.YthifeoebefbalaaGreatDoor
open Go.RowKit

set_option maxRecDepth 100000 in
set_option maxHeartbeats 4000000 in
theorem c7_lt_lt_div (n fine : Int) (FW TW TN TF : List UInt8) (w : World) (h0 : 0 ≤ n) (h1 : n ≤ 200000) (g0 : 0 ≤ fine) (g1 : fine ≤ 255) (hn : n < 100) (hf : fine % 100 < 99) (hd : n % (1 + fine % 100) = 0) (hl1 : FW.length ≤ 4) (hl2 : TW.length ≤ 2) (hl3 : TN.length ≤ 2) (hl4 : TF.length ≤ 2) (HE : Hid (Env w)) (HC : Hid (Cell0 w)) (H32 : ∀ W, Hid (Calls Tryz.prog 32 #[.int .i64 (n / 100 % 10000)] W fun r w' => r = .returned (.string ⟨(FW).toArray⟩) ∧ Below W.heap.size W w')) (HA : ∀ W, Hid (Calls Tryz.prog 31 #[.int .i64 (n % 100)] W fun r w' => r = .returned (.string ⟨(TW).toArray⟩) ∧ Below W.heap.size W w')) (R1 : ∀ W, Cell0 W → Hid (Calls Tryz.prog 27 #[.string ⟨(53 :: 32 :: 49 :: 48 :: 32 :: 74 :: 97 :: 110 :: 32 :: 49 :: 56 :: 53 :: 48 :: 32 :: (FW ++ 46 :: TW)).toArray⟩, .agg #[.int .i64 5, .int .i64 9, .int .i64 1, .int .i64 1, .int .i64 n, .int .i64 1], .int .i64 0] W fun r w' => r = .returned (.bool true) ∧ Below W.heap.size W w')) (R2 : ∀ W, Cell0 W → Hid (Calls Tryz.prog 27 #[.string ⟨(53 :: 32 :: 49 :: 48 :: 32 :: 74 :: 97 :: 110 :: 32 :: 49 :: 56 :: 53 :: 48 :: 32 :: (FW ++ 44 :: TW)).toArray⟩, .agg #[.int .i64 5, .int .i64 9, .int .i64 1, .int .i64 1, .int .i64 n, .int .i64 1], .int .i64 0] W fun r w' => r = .returned (.bool true) ∧ Below W.heap.size W w')) (HB : ∀ W, Hid (Calls Tryz.prog 31 #[.int .i64 n] W fun r w' => r = .returned (.string ⟨(TN).toArray⟩) ∧ Below W.heap.size W w')) (R3 : ∀ W, Cell0 W → Hid (Calls Tryz.prog 27 #[.string ⟨(53 :: 32 :: 49 :: 48 :: 32 :: 74 :: 97 :: 110 :: 32 :: 49 :: 56 :: 53 :: 48 :: 32 :: 46 :: TN).toArray⟩, .agg #[.int .i64 5, .int .i64 9, .int .i64 1, .int .i64 1, .int .i64 n, .int .i64 1], .int .i64 0] W fun r w' => r = .returned (.bool true) ∧ Below W.heap.size W w')) (HF : ∀ W, Hid (Calls Tryz.prog 31 #[.int .i64 (1 + fine % 100)] W fun r w' => r = .returned (.string ⟨(TF).toArray⟩) ∧ Below W.heap.size W w')) (R4 : ∀ W, Cell0 W → Hid (Calls Tryz.prog 27 #[.string ⟨(53 :: 32 :: 49 :: 48 :: 32 :: 74 :: 97 :: 110 :: 32 :: 49 :: 56 :: 53 :: 48 :: 32 :: (FW ++ 46 :: (TW ++ 32 :: 116 :: 111 :: 32 :: 48 :: 46 :: TF))).toArray⟩, .agg #[.int .i64 5, .int .i64 9, .int .i64 1, .int .i64 1, .int .i64 n, .int .i64 (1 + fine % 100)], .int .i64 0] W fun r w' => r = .returned (.bool true) ∧ Below W.heap.size W w')) :
    Calls Tryz.prog 7 #[.int .i64 n, .int .u8 fine] w fun e w' => e = .returned (.bool true) ∧ Below w.heap.size w w' := by
  go_enter Tryz.func7, Tryz.ntmps7
  go_wp2_with fail
  refine (H32 _).out.mono ?_
  rintro r X1 ⟨rfl, hb⟩
  obtain ⟨B, hBs⟩ : ∃ b, X1.heap.size = b := ⟨_, rfl⟩
  have hge : w.heap.size ≤ B := by rw [← hBs]; exact hb.size
  go_wp2_with fail
  try rw [hBs]
  refine wp_box (fun V => Below w.heap.size w V ∧ Hid (V.heap[B]? = some (cellsOf ⟨5, 9, 1, 1, n, 1⟩))) ⟨xa hb _, newA _ _ _ hBs⟩ ?_
  clear hb hBs
  rintro V ⟨hB, K⟩
  obtain ⟨t0, t1, t2, t3, t4, t5, tF, tL⟩ := cellsOf_at K.out
  refine wp_region_gw (by kernel_rfl) (by kernel_rfl) ?_
  repeat (go_big_quiet_step (first | (go_at_call 31; with_reducible exact gw_call (HA _).out) | (go_at_call 31; with_reducible exact gw_call (HB _).out) | (go_at_call 27; with_reducible exact gw_call (R1 _ (HC.out.below (hB.trans ((gw_below _ _).mono hB.size)) HC.out.lt)).out) | (go_at_call 27; with_reducible exact gw_call (R2 _ (HC.out.below (hB.trans ((gw_below _ _).mono hB.size)) HC.out.lt)).out) | (go_at_call 27; with_reducible exact gw_call (R3 _ (HC.out.below (hB.trans ((gw_below _ _).mono hB.size)) HC.out.lt)).out)))
  refine wpQuiet_nil ?_
  rintro _ ⟨y, rfl⟩
  replace K := keepB (gw_below V y) K
  replace hB := hB.trans ((gw_below V y).mono hB.size)
  clear t0 t1 t2 t3 t4 t5 tF tL
  obtain ⟨Z, hZ⟩ : ∃ Z, gw V y = Z := ⟨_, rfl⟩
  rw [hZ] at hB K ⊢
  clear hZ
  obtain ⟨t0, t1, t2, t3, t4, t5, tF, tL⟩ := cellsOf_at K.out
  go_wp2_with fail
  refine call_named (fun V => Below w.heap.size w V ∧ Hid (V.heap[B]? = some (cellsOf ⟨5, 9, 1, 1, n, 1 + fine % 100⟩))) (am_set hB hge K.out _) ?_
  clear t0 t1 t2 t3 t4 t5 tF tL hB K
  rintro V2 ⟨hB, K⟩
  refine (HF _).out.mono ?_
  rintro r X2 ⟨rfl, hb⟩
  replace K := keepB hb K
  replace hB := hB.trans (hb.mono hB.size)
  clear hb
  obtain ⟨t0, t1, t2, t3, t4, t5, tF, tL⟩ := cellsOf_at K.out
  go_wp2_with fail
  refine wp_region_gw (by kernel_rfl) (by kernel_rfl) ?_
  repeat (go_big_quiet_step (first | (go_at_call 22; exact gw_call (c22 _ (HE.out.below (hB.trans ((gw_below _ _).mono hB.size))) (HC.out.below (hB.trans ((gw_below _ _).mono hB.size)) HC.out.lt))) | (go_at_call 31; with_reducible exact gw_call (HA _).out) | (go_at_call 27; with_reducible exact gw_call (R4 _ (HC.out.below (hB.trans ((gw_below _ _).mono hB.size)) HC.out.lt)).out)))
  refine wpQuiet_nil ?_
  rintro _ ⟨y2, rfl⟩
  go_wp2_with fail
  go_ret
  exact ⟨rfl, hB.trans ((gw_below _ _).mono hB.size)⟩
set_option maxRecDepth 100000 in
set_option maxHeartbeats 4000000 in
theorem c7_lt_lt_no (n fine : Int) (FW TW TN TF : List UInt8) (w : World) (h0 : 0 ≤ n) (h1 : n ≤ 200000) (g0 : 0 ≤ fine) (g1 : fine ≤ 255) (hn : n < 100) (hf : fine % 100 < 99) (hd : ¬ n % (1 + fine % 100) = 0) (hl1 : FW.length ≤ 4) (hl2 : TW.length ≤ 2) (hl3 : TN.length ≤ 2) (hl4 : TF.length ≤ 2) (HE : Hid (Env w)) (HC : Hid (Cell0 w)) (H32 : ∀ W, Hid (Calls Tryz.prog 32 #[.int .i64 (n / 100 % 10000)] W fun r w' => r = .returned (.string ⟨(FW).toArray⟩) ∧ Below W.heap.size W w')) (HA : ∀ W, Hid (Calls Tryz.prog 31 #[.int .i64 (n % 100)] W fun r w' => r = .returned (.string ⟨(TW).toArray⟩) ∧ Below W.heap.size W w')) (R1 : ∀ W, Cell0 W → Hid (Calls Tryz.prog 27 #[.string ⟨(53 :: 32 :: 49 :: 48 :: 32 :: 74 :: 97 :: 110 :: 32 :: 49 :: 56 :: 53 :: 48 :: 32 :: (FW ++ 46 :: TW)).toArray⟩, .agg #[.int .i64 5, .int .i64 9, .int .i64 1, .int .i64 1, .int .i64 n, .int .i64 1], .int .i64 0] W fun r w' => r = .returned (.bool true) ∧ Below W.heap.size W w')) (R2 : ∀ W, Cell0 W → Hid (Calls Tryz.prog 27 #[.string ⟨(53 :: 32 :: 49 :: 48 :: 32 :: 74 :: 97 :: 110 :: 32 :: 49 :: 56 :: 53 :: 48 :: 32 :: (FW ++ 44 :: TW)).toArray⟩, .agg #[.int .i64 5, .int .i64 9, .int .i64 1, .int .i64 1, .int .i64 n, .int .i64 1], .int .i64 0] W fun r w' => r = .returned (.bool true) ∧ Below W.heap.size W w')) (HB : ∀ W, Hid (Calls Tryz.prog 31 #[.int .i64 n] W fun r w' => r = .returned (.string ⟨(TN).toArray⟩) ∧ Below W.heap.size W w')) (R3 : ∀ W, Cell0 W → Hid (Calls Tryz.prog 27 #[.string ⟨(53 :: 32 :: 49 :: 48 :: 32 :: 74 :: 97 :: 110 :: 32 :: 49 :: 56 :: 53 :: 48 :: 32 :: 46 :: TN).toArray⟩, .agg #[.int .i64 5, .int .i64 9, .int .i64 1, .int .i64 1, .int .i64 n, .int .i64 1], .int .i64 0] W fun r w' => r = .returned (.bool true) ∧ Below W.heap.size W w')) (HF : ∀ W, Hid (Calls Tryz.prog 31 #[.int .i64 (1 + fine % 100)] W fun r w' => r = .returned (.string ⟨(TF).toArray⟩) ∧ Below W.heap.size W w')) (R4 : ∀ W, Cell0 W → Hid (Calls Tryz.prog 27 #[.string ⟨(53 :: 32 :: 49 :: 48 :: 32 :: 74 :: 97 :: 110 :: 32 :: 49 :: 56 :: 53 :: 48 :: 32 :: (FW ++ 46 :: (TW ++ 32 :: 116 :: 111 :: 32 :: 48 :: 46 :: TF))).toArray⟩, .agg #[.int .i64 0, .int .i64 0, .int .i64 0, .int .i64 0, .int .i64 0, .int .i64 0], .int .i64 3] W fun r w' => r = .returned (.bool true) ∧ Below W.heap.size W w')) :
    Calls Tryz.prog 7 #[.int .i64 n, .int .u8 fine] w fun e w' => e = .returned (.bool true) ∧ Below w.heap.size w w' := by
  go_enter Tryz.func7, Tryz.ntmps7
  go_wp2_with fail
  refine (H32 _).out.mono ?_
  rintro r X1 ⟨rfl, hb⟩
  obtain ⟨B, hBs⟩ : ∃ b, X1.heap.size = b := ⟨_, rfl⟩
  have hge : w.heap.size ≤ B := by rw [← hBs]; exact hb.size
  go_wp2_with fail
  try rw [hBs]
  refine wp_box (fun V => Below w.heap.size w V ∧ Hid (V.heap[B]? = some (cellsOf ⟨5, 9, 1, 1, n, 1⟩))) ⟨xa hb _, newA _ _ _ hBs⟩ ?_
  clear hb hBs
  rintro V ⟨hB, K⟩
  obtain ⟨t0, t1, t2, t3, t4, t5, tF, tL⟩ := cellsOf_at K.out
  refine wp_region_gw (by kernel_rfl) (by kernel_rfl) ?_
  repeat (go_big_quiet_step (first | (go_at_call 31; with_reducible exact gw_call (HA _).out) | (go_at_call 31; with_reducible exact gw_call (HB _).out) | (go_at_call 27; with_reducible exact gw_call (R1 _ (HC.out.below (hB.trans ((gw_below _ _).mono hB.size)) HC.out.lt)).out) | (go_at_call 27; with_reducible exact gw_call (R2 _ (HC.out.below (hB.trans ((gw_below _ _).mono hB.size)) HC.out.lt)).out) | (go_at_call 27; with_reducible exact gw_call (R3 _ (HC.out.below (hB.trans ((gw_below _ _).mono hB.size)) HC.out.lt)).out)))
  refine wpQuiet_nil ?_
  rintro _ ⟨y, rfl⟩
  replace K := keepB (gw_below V y) K
  replace hB := hB.trans ((gw_below V y).mono hB.size)
  clear t0 t1 t2 t3 t4 t5 tF tL
  obtain ⟨Z, hZ⟩ : ∃ Z, gw V y = Z := ⟨_, rfl⟩
  rw [hZ] at hB K ⊢
  clear hZ
  obtain ⟨t0, t1, t2, t3, t4, t5, tF, tL⟩ := cellsOf_at K.out
  go_wp2_with fail
  refine call_named (fun V => Below w.heap.size w V ∧ Hid (V.heap[B]? = some (cellsOf ⟨0, 0, 0, 0, 0, 0⟩))) (am_none hB hge K.out _) ?_
  clear t0 t1 t2 t3 t4 t5 tF tL hB K
  rintro V2 ⟨hB, K⟩
  refine (HF _).out.mono ?_
  rintro r X2 ⟨rfl, hb⟩
  replace K := keepB hb K
  replace hB := hB.trans (hb.mono hB.size)
  clear hb
  obtain ⟨t0, t1, t2, t3, t4, t5, tF, tL⟩ := cellsOf_at K.out
  go_wp2_with fail
  refine wp_region_gw (by kernel_rfl) (by kernel_rfl) ?_
  repeat (go_big_quiet_step (first | (go_at_call 22; exact gw_call (c22 _ (HE.out.below (hB.trans ((gw_below _ _).mono hB.size))) (HC.out.below (hB.trans ((gw_below _ _).mono hB.size)) HC.out.lt))) | (go_at_call 31; with_reducible exact gw_call (HA _).out) | (go_at_call 27; with_reducible exact gw_call (R4 _ (HC.out.below (hB.trans ((gw_below _ _).mono hB.size)) HC.out.lt)).out)))
  refine wpQuiet_nil ?_
  rintro _ ⟨y2, rfl⟩
  go_wp2_with fail
  go_ret
  exact ⟨rfl, hB.trans ((gw_below _ _).mono hB.size)⟩
set_option maxRecDepth 100000 in
set_option maxHeartbeats 4000000 in
theorem c7_lt_eq_div (n fine : Int) (FW TW TN : List UInt8) (w : World) (h0 : 0 ≤ n) (h1 : n ≤ 200000) (g0 : 0 ≤ fine) (g1 : fine ≤ 255) (hn : n < 100) (hf : fine % 100 = 99) (hd : n % 100 = 0) (hl1 : FW.length ≤ 4) (hl2 : TW.length ≤ 2) (hl3 : TN.length ≤ 2) (HE : Hid (Env w)) (HC : Hid (Cell0 w)) (H32 : ∀ W, Hid (Calls Tryz.prog 32 #[.int .i64 (n / 100 % 10000)] W fun r w' => r = .returned (.string ⟨(FW).toArray⟩) ∧ Below W.heap.size W w')) (HA : ∀ W, Hid (Calls Tryz.prog 31 #[.int .i64 0] W fun r w' => r = .returned (.string ⟨(TW).toArray⟩) ∧ Below W.heap.size W w')) (R1 : ∀ W, Cell0 W → Hid (Calls Tryz.prog 27 #[.string ⟨(53 :: 32 :: 49 :: 48 :: 32 :: 74 :: 97 :: 110 :: 32 :: 49 :: 56 :: 53 :: 48 :: 32 :: (FW ++ 46 :: TW)).toArray⟩, .agg #[.int .i64 5, .int .i64 9, .int .i64 1, .int .i64 1, .int .i64 n, .int .i64 1], .int .i64 0] W fun r w' => r = .returned (.bool true) ∧ Below W.heap.size W w')) (R2 : ∀ W, Cell0 W → Hid (Calls Tryz.prog 27 #[.string ⟨(53 :: 32 :: 49 :: 48 :: 32 :: 74 :: 97 :: 110 :: 32 :: 49 :: 56 :: 53 :: 48 :: 32 :: (FW ++ 44 :: TW)).toArray⟩, .agg #[.int .i64 5, .int .i64 9, .int .i64 1, .int .i64 1, .int .i64 n, .int .i64 1], .int .i64 0] W fun r w' => r = .returned (.bool true) ∧ Below W.heap.size W w')) (HB : ∀ W, Hid (Calls Tryz.prog 31 #[.int .i64 n] W fun r w' => r = .returned (.string ⟨(TN).toArray⟩) ∧ Below W.heap.size W w')) (R3 : ∀ W, Cell0 W → Hid (Calls Tryz.prog 27 #[.string ⟨(53 :: 32 :: 49 :: 48 :: 32 :: 74 :: 97 :: 110 :: 32 :: 49 :: 56 :: 53 :: 48 :: 32 :: 46 :: TN).toArray⟩, .agg #[.int .i64 5, .int .i64 9, .int .i64 1, .int .i64 1, .int .i64 n, .int .i64 1], .int .i64 0] W fun r w' => r = .returned (.bool true) ∧ Below W.heap.size W w')) (R4 : ∀ W, Cell0 W → Hid (Calls Tryz.prog 27 #[.string ⟨(53 :: 32 :: 49 :: 48 :: 32 :: 74 :: 97 :: 110 :: 32 :: 49 :: 56 :: 53 :: 48 :: 32 :: (FW ++ 46 :: (TW ++ [32, 116, 111, 32, 49]))).toArray⟩, .agg #[.int .i64 5, .int .i64 9, .int .i64 1, .int .i64 1, .int .i64 n, .int .i64 100], .int .i64 0] W fun r w' => r = .returned (.bool true) ∧ Below W.heap.size W w')) :
    Calls Tryz.prog 7 #[.int .i64 n, .int .u8 fine] w fun e w' => e = .returned (.bool true) ∧ Below w.heap.size w w' := by
  go_enter Tryz.func7, Tryz.ntmps7
  go_wp2_with fail
  refine (H32 _).out.mono ?_
  rintro r X1 ⟨rfl, hb⟩
  obtain ⟨B, hBs⟩ : ∃ b, X1.heap.size = b := ⟨_, rfl⟩
  have hge : w.heap.size ≤ B := by rw [← hBs]; exact hb.size
  go_wp2_with fail
  try rw [hBs]
  refine wp_box (fun V => Below w.heap.size w V ∧ Hid (V.heap[B]? = some (cellsOf ⟨5, 9, 1, 1, n, 1⟩))) ⟨xa hb _, newA _ _ _ hBs⟩ ?_
  clear hb hBs
  rintro V ⟨hB, K⟩
  obtain ⟨t0, t1, t2, t3, t4, t5, tF, tL⟩ := cellsOf_at K.out
  refine wp_region_gw (by kernel_rfl) (by kernel_rfl) ?_
  repeat (go_big_quiet_step (first | (go_at_call 31; with_reducible exact gw_call (HA _).out) | (go_at_call 31; with_reducible exact gw_call (HB _).out) | (go_at_call 27; with_reducible exact gw_call (R1 _ (HC.out.below (hB.trans ((gw_below _ _).mono hB.size)) HC.out.lt)).out) | (go_at_call 27; with_reducible exact gw_call (R2 _ (HC.out.below (hB.trans ((gw_below _ _).mono hB.size)) HC.out.lt)).out) | (go_at_call 27; with_reducible exact gw_call (R3 _ (HC.out.below (hB.trans ((gw_below _ _).mono hB.size)) HC.out.lt)).out)))
  refine wpQuiet_nil ?_
  rintro _ ⟨y, rfl⟩
  replace K := keepB (gw_below V y) K
  replace hB := hB.trans ((gw_below V y).mono hB.size)
  clear t0 t1 t2 t3 t4 t5 tF tL
  obtain ⟨Z, hZ⟩ : ∃ Z, gw V y = Z := ⟨_, rfl⟩
  rw [hZ] at hB K ⊢
  clear hZ
  obtain ⟨t0, t1, t2, t3, t4, t5, tF, tL⟩ := cellsOf_at K.out
  go_wp2_with fail
  refine wp_box (fun V => Below w.heap.size w V ∧ Hid (V.heap[B]? = some (cellsOf ⟨5, 9, 1, 1, n, 100⟩))) (am_set hB hge K.out _) ?_
  clear t0 t1 t2 t3 t4 t5 tF tL hB K
  rintro V2 ⟨hB, K⟩
  obtain ⟨t0, t1, t2, t3, t4, t5, tF, tL⟩ := cellsOf_at K.out
  refine wp_region_gw (by kernel_rfl) (by kernel_rfl) ?_
  repeat (go_big_quiet_step (first | (go_at_call 22; exact gw_call (c22 _ (HE.out.below (hB.trans ((gw_below _ _).mono hB.size))) (HC.out.below (hB.trans ((gw_below _ _).mono hB.size)) HC.out.lt))) | (go_at_call 31; with_reducible exact gw_call (HA _).out) | (go_at_call 27; with_reducible exact gw_call (R4 _ (HC.out.below (hB.trans ((gw_below _ _).mono hB.size)) HC.out.lt)).out)))
  refine wpQuiet_nil ?_
  rintro _ ⟨y2, rfl⟩
  go_wp2_with fail
  go_ret
  exact ⟨rfl, hB.trans ((gw_below _ _).mono hB.size)⟩
set_option maxRecDepth 100000 in
set_option maxHeartbeats 4000000 in
theorem c7_lt_eq_no (n fine : Int) (FW TW TN : List UInt8) (w : World) (h0 : 0 ≤ n) (h1 : n ≤ 200000) (g0 : 0 ≤ fine) (g1 : fine ≤ 255) (hn : n < 100) (hf : fine % 100 = 99) (hd : ¬ n % 100 = 0) (hl1 : FW.length ≤ 4) (hl2 : TW.length ≤ 2) (hl3 : TN.length ≤ 2) (HE : Hid (Env w)) (HC : Hid (Cell0 w)) (H32 : ∀ W, Hid (Calls Tryz.prog 32 #[.int .i64 (n / 100 % 10000)] W fun r w' => r = .returned (.string ⟨(FW).toArray⟩) ∧ Below W.heap.size W w')) (HA : ∀ W, Hid (Calls Tryz.prog 31 #[.int .i64 (n % 100)] W fun r w' => r = .returned (.string ⟨(TW).toArray⟩) ∧ Below W.heap.size W w')) (R1 : ∀ W, Cell0 W → Hid (Calls Tryz.prog 27 #[.string ⟨(53 :: 32 :: 49 :: 48 :: 32 :: 74 :: 97 :: 110 :: 32 :: 49 :: 56 :: 53 :: 48 :: 32 :: (FW ++ 46 :: TW)).toArray⟩, .agg #[.int .i64 5, .int .i64 9, .int .i64 1, .int .i64 1, .int .i64 n, .int .i64 1], .int .i64 0] W fun r w' => r = .returned (.bool true) ∧ Below W.heap.size W w')) (R2 : ∀ W, Cell0 W → Hid (Calls Tryz.prog 27 #[.string ⟨(53 :: 32 :: 49 :: 48 :: 32 :: 74 :: 97 :: 110 :: 32 :: 49 :: 56 :: 53 :: 48 :: 32 :: (FW ++ 44 :: TW)).toArray⟩, .agg #[.int .i64 5, .int .i64 9, .int .i64 1, .int .i64 1, .int .i64 n, .int .i64 1], .int .i64 0] W fun r w' => r = .returned (.bool true) ∧ Below W.heap.size W w')) (HB : ∀ W, Hid (Calls Tryz.prog 31 #[.int .i64 n] W fun r w' => r = .returned (.string ⟨(TN).toArray⟩) ∧ Below W.heap.size W w')) (R3 : ∀ W, Cell0 W → Hid (Calls Tryz.prog 27 #[.string ⟨(53 :: 32 :: 49 :: 48 :: 32 :: 74 :: 97 :: 110 :: 32 :: 49 :: 56 :: 53 :: 48 :: 32 :: 46 :: TN).toArray⟩, .agg #[.int .i64 5, .int .i64 9, .int .i64 1, .int .i64 1, .int .i64 n, .int .i64 1], .int .i64 0] W fun r w' => r = .returned (.bool true) ∧ Below W.heap.size W w')) (R4 : ∀ W, Cell0 W → Hid (Calls Tryz.prog 27 #[.string ⟨(53 :: 32 :: 49 :: 48 :: 32 :: 74 :: 97 :: 110 :: 32 :: 49 :: 56 :: 53 :: 48 :: 32 :: (FW ++ 46 :: (TW ++ [32, 116, 111, 32, 49]))).toArray⟩, .agg #[.int .i64 0, .int .i64 0, .int .i64 0, .int .i64 0, .int .i64 0, .int .i64 0], .int .i64 3] W fun r w' => r = .returned (.bool true) ∧ Below W.heap.size W w')) :
    Calls Tryz.prog 7 #[.int .i64 n, .int .u8 fine] w fun e w' => e = .returned (.bool true) ∧ Below w.heap.size w w' := by
  go_enter Tryz.func7, Tryz.ntmps7
  go_wp2_with fail
  refine (H32 _).out.mono ?_
  rintro r X1 ⟨rfl, hb⟩
  obtain ⟨B, hBs⟩ : ∃ b, X1.heap.size = b := ⟨_, rfl⟩
  have hge : w.heap.size ≤ B := by rw [← hBs]; exact hb.size
  go_wp2_with fail
  try rw [hBs]
  refine wp_box (fun V => Below w.heap.size w V ∧ Hid (V.heap[B]? = some (cellsOf ⟨5, 9, 1, 1, n, 1⟩))) ⟨xa hb _, newA _ _ _ hBs⟩ ?_
  clear hb hBs
  rintro V ⟨hB, K⟩
  obtain ⟨t0, t1, t2, t3, t4, t5, tF, tL⟩ := cellsOf_at K.out
  refine wp_region_gw (by kernel_rfl) (by kernel_rfl) ?_
  repeat (go_big_quiet_step (first | (go_at_call 31; with_reducible exact gw_call (HA _).out) | (go_at_call 31; with_reducible exact gw_call (HB _).out) | (go_at_call 27; with_reducible exact gw_call (R1 _ (HC.out.below (hB.trans ((gw_below _ _).mono hB.size)) HC.out.lt)).out) | (go_at_call 27; with_reducible exact gw_call (R2 _ (HC.out.below (hB.trans ((gw_below _ _).mono hB.size)) HC.out.lt)).out) | (go_at_call 27; with_reducible exact gw_call (R3 _ (HC.out.below (hB.trans ((gw_below _ _).mono hB.size)) HC.out.lt)).out)))
  refine wpQuiet_nil ?_
  rintro _ ⟨y, rfl⟩
  replace K := keepB (gw_below V y) K
  replace hB := hB.trans ((gw_below V y).mono hB.size)
  clear t0 t1 t2 t3 t4 t5 tF tL
  obtain ⟨Z, hZ⟩ : ∃ Z, gw V y = Z := ⟨_, rfl⟩
  rw [hZ] at hB K ⊢
  clear hZ
  obtain ⟨t0, t1, t2, t3, t4, t5, tF, tL⟩ := cellsOf_at K.out
  go_wp2_with fail
  refine wp_box (fun V => Below w.heap.size w V ∧ Hid (V.heap[B]? = some (cellsOf ⟨0, 0, 0, 0, 0, 0⟩))) (am_none hB hge K.out _) ?_
  clear t0 t1 t2 t3 t4 t5 tF tL hB K
  rintro V2 ⟨hB, K⟩
  obtain ⟨t0, t1, t2, t3, t4, t5, tF, tL⟩ := cellsOf_at K.out
  refine wp_region_gw (by kernel_rfl) (by kernel_rfl) ?_
  repeat (go_big_quiet_step (first | (go_at_call 22; exact gw_call (c22 _ (HE.out.below (hB.trans ((gw_below _ _).mono hB.size))) (HC.out.below (hB.trans ((gw_below _ _).mono hB.size)) HC.out.lt))) | (go_at_call 31; with_reducible exact gw_call (HA _).out) | (go_at_call 27; with_reducible exact gw_call (R4 _ (HC.out.below (hB.trans ((gw_below _ _).mono hB.size)) HC.out.lt)).out)))
  refine wpQuiet_nil ?_
  rintro _ ⟨y2, rfl⟩
  go_wp2_with fail
  go_ret
  exact ⟨rfl, hB.trans ((gw_below _ _).mono hB.size)⟩
set_option maxRecDepth 100000 in
set_option maxHeartbeats 4000000 in
theorem c7_ge_lt_div (n fine : Int) (FW TW TF : List UInt8) (w : World) (h0 : 0 ≤ n) (h1 : n ≤ 200000) (g0 : 0 ≤ fine) (g1 : fine ≤ 255) (hn : 100 ≤ n) (hf : fine % 100 < 99) (hd : n % (1 + fine % 100) = 0) (hl1 : FW.length ≤ 4) (hl2 : TW.length ≤ 2) (hl4 : TF.length ≤ 2) (HE : Hid (Env w)) (HC : Hid (Cell0 w)) (H32 : ∀ W, Hid (Calls Tryz.prog 32 #[.int .i64 (n / 100 % 10000)] W fun r w' => r = .returned (.string ⟨(FW).toArray⟩) ∧ Below W.heap.size W w')) (HA : ∀ W, Hid (Calls Tryz.prog 31 #[.int .i64 (n % 100)] W fun r w' => r = .returned (.string ⟨(TW).toArray⟩) ∧ Below W.heap.size W w')) (R1 : ∀ W, Cell0 W → Hid (Calls Tryz.prog 27 #[.string ⟨(53 :: 32 :: 49 :: 48 :: 32 :: 74 :: 97 :: 110 :: 32 :: 49 :: 56 :: 53 :: 48 :: 32 :: (FW ++ 46 :: TW)).toArray⟩, .agg #[.int .i64 5, .int .i64 9, .int .i64 1, .int .i64 1, .int .i64 n, .int .i64 1], .int .i64 0] W fun r w' => r = .returned (.bool true) ∧ Below W.heap.size W w')) (R2 : ∀ W, Cell0 W → Hid (Calls Tryz.prog 27 #[.string ⟨(53 :: 32 :: 49 :: 48 :: 32 :: 74 :: 97 :: 110 :: 32 :: 49 :: 56 :: 53 :: 48 :: 32 :: (FW ++ 44 :: TW)).toArray⟩, .agg #[.int .i64 5, .int .i64 9, .int .i64 1, .int .i64 1, .int .i64 n, .int .i64 1], .int .i64 0] W fun r w' => r = .returned (.bool true) ∧ Below W.heap.size W w')) (HF : ∀ W, Hid (Calls Tryz.prog 31 #[.int .i64 (1 + fine % 100)] W fun r w' => r = .returned (.string ⟨(TF).toArray⟩) ∧ Below W.heap.size W w')) (R4 : ∀ W, Cell0 W → Hid (Calls Tryz.prog 27 #[.string ⟨(53 :: 32 :: 49 :: 48 :: 32 :: 74 :: 97 :: 110 :: 32 :: 49 :: 56 :: 53 :: 48 :: 32 :: (FW ++ 46 :: (TW ++ 32 :: 116 :: 111 :: 32 :: 48 :: 46 :: TF))).toArray⟩, .agg #[.int .i64 5, .int .i64 9, .int .i64 1, .int .i64 1, .int .i64 n, .int .i64 (1 + fine % 100)], .int .i64 0] W fun r w' => r = .returned (.bool true) ∧ Below W.heap.size W w')) :
    Calls Tryz.prog 7 #[.int .i64 n, .int .u8 fine] w fun e w' => e = .returned (.bool true) ∧ Below w.heap.size w w' := by
  go_enter Tryz.func7, Tryz.ntmps7
  go_wp2_with fail
  refine (H32 _).out.mono ?_
  rintro r X1 ⟨rfl, hb⟩
  obtain ⟨B, hBs⟩ : ∃ b, X1.heap.size = b := ⟨_, rfl⟩
  have hge : w.heap.size ≤ B := by rw [← hBs]; exact hb.size
  go_wp2_with fail
  try rw [hBs]
  refine wp_box (fun V => Below w.heap.size w V ∧ Hid (V.heap[B]? = some (cellsOf ⟨5, 9, 1, 1, n, 1⟩))) ⟨xa hb _, newA _ _ _ hBs⟩ ?_
  clear hb hBs
  rintro V ⟨hB, K⟩
  have hdn : decide (n < 100) = false := decide_eq_false (by omega)
  obtain ⟨t0, t1, t2, t3, t4, t5, tF, tL⟩ := cellsOf_at K.out
  refine wp_region_gw (by kernel_rfl) (by kernel_rfl) ?_
  repeat (go_big_quiet_step (first | (go_at_call 31; with_reducible exact gw_call (HA _).out) | (go_at_call 27; with_reducible exact gw_call (R1 _ (HC.out.below (hB.trans ((gw_below _ _).mono hB.size)) HC.out.lt)).out) | (go_at_call 27; with_reducible exact gw_call (R2 _ (HC.out.below (hB.trans ((gw_below _ _).mono hB.size)) HC.out.lt)).out)))
  refine wpQuiet_nil ?_
  rintro _ ⟨y, rfl⟩
  replace K := keepB (gw_below V y) K
  replace hB := hB.trans ((gw_below V y).mono hB.size)
  clear t0 t1 t2 t3 t4 t5 tF tL
  obtain ⟨Z, hZ⟩ : ∃ Z, gw V y = Z := ⟨_, rfl⟩
  rw [hZ] at hB K ⊢
  clear hZ
  obtain ⟨t0, t1, t2, t3, t4, t5, tF, tL⟩ := cellsOf_at K.out
  go_wp2_with fail
  refine call_named (fun V => Below w.heap.size w V ∧ Hid (V.heap[B]? = some (cellsOf ⟨5, 9, 1, 1, n, 1 + fine % 100⟩))) (am_set hB hge K.out _) ?_
  clear t0 t1 t2 t3 t4 t5 tF tL hB K
  rintro V2 ⟨hB, K⟩
  refine (HF _).out.mono ?_
  rintro r X2 ⟨rfl, hb⟩
  replace K := keepB hb K
  replace hB := hB.trans (hb.mono hB.size)
  clear hb
  obtain ⟨t0, t1, t2, t3, t4, t5, tF, tL⟩ := cellsOf_at K.out
  go_wp2_with fail
  refine wp_region_gw (by kernel_rfl) (by kernel_rfl) ?_
  repeat (go_big_quiet_step (first | (go_at_call 22; exact gw_call (c22 _ (HE.out.below (hB.trans ((gw_below _ _).mono hB.size))) (HC.out.below (hB.trans ((gw_below _ _).mono hB.size)) HC.out.lt))) | (go_at_call 31; with_reducible exact gw_call (HA _).out) | (go_at_call 27; with_reducible exact gw_call (R4 _ (HC.out.below (hB.trans ((gw_below _ _).mono hB.size)) HC.out.lt)).out)))
  refine wpQuiet_nil ?_
  rintro _ ⟨y2, rfl⟩
  go_wp2_with fail
  go_ret
  exact ⟨rfl, hB.trans ((gw_below _ _).mono hB.size)⟩
set_option maxRecDepth 100000 in
set_option maxHeartbeats 4000000 in
theorem c7_ge_lt_no (n fine : Int) (FW TW TF : List UInt8) (w : World) (h0 : 0 ≤ n) (h1 : n ≤ 200000) (g0 : 0 ≤ fine) (g1 : fine ≤ 255) (hn : 100 ≤ n) (hf : fine % 100 < 99) (hd : ¬ n % (1 + fine % 100) = 0) (hl1 : FW.length ≤ 4) (hl2 : TW.length ≤ 2) (hl4 : TF.length ≤ 2) (HE : Hid (Env w)) (HC : Hid (Cell0 w)) (H32 : ∀ W, Hid (Calls Tryz.prog 32 #[.int .i64 (n / 100 % 10000)] W fun r w' => r = .returned (.string ⟨(FW).toArray⟩) ∧ Below W.heap.size W w')) (HA : ∀ W, Hid (Calls Tryz.prog 31 #[.int .i64 (n % 100)] W fun r w' => r = .returned (.string ⟨(TW).toArray⟩) ∧ Below W.heap.size W w')) (R1 : ∀ W, Cell0 W → Hid (Calls Tryz.prog 27 #[.string ⟨(53 :: 32 :: 49 :: 48 :: 32 :: 74 :: 97 :: 110 :: 32 :: 49 :: 56 :: 53 :: 48 :: 32 :: (FW ++ 46 :: TW)).toArray⟩, .agg #[.int .i64 5, .int .i64 9, .int .i64 1, .int .i64 1, .int .i64 n, .int .i64 1], .int .i64 0] W fun r w' => r = .returned (.bool true) ∧ Below W.heap.size W w')) (R2 : ∀ W, Cell0 W → Hid (Calls Tryz.prog 27 #[.string ⟨(53 :: 32 :: 49 :: 48 :: 32 :: 74 :: 97 :: 110 :: 32 :: 49 :: 56 :: 53 :: 48 :: 32 :: (FW ++ 44 :: TW)).toArray⟩, .agg #[.int .i64 5, .int .i64 9, .int .i64 1, .int .i64 1, .int .i64 n, .int .i64 1], .int .i64 0] W fun r w' => r = .returned (.bool true) ∧ Below W.heap.size W w')) (HF : ∀ W, Hid (Calls Tryz.prog 31 #[.int .i64 (1 + fine % 100)] W fun r w' => r = .returned (.string ⟨(TF).toArray⟩) ∧ Below W.heap.size W w')) (R4 : ∀ W, Cell0 W → Hid (Calls Tryz.prog 27 #[.string ⟨(53 :: 32 :: 49 :: 48 :: 32 :: 74 :: 97 :: 110 :: 32 :: 49 :: 56 :: 53 :: 48 :: 32 :: (FW ++ 46 :: (TW ++ 32 :: 116 :: 111 :: 32 :: 48 :: 46 :: TF))).toArray⟩, .agg #[.int .i64 0, .int .i64 0, .int .i64 0, .int .i64 0, .int .i64 0, .int .i64 0], .int .i64 3] W fun r w' => r = .returned (.bool true) ∧ Below W.heap.size W w')) :
    Calls Tryz.prog 7 #[.int .i64 n, .int .u8 fine] w fun e w' => e = .returned (.bool true) ∧ Below w.heap.size w w' := by
  go_enter Tryz.func7, Tryz.ntmps7
  go_wp2_with fail
  refine (H32 _).out.mono ?_
  rintro r X1 ⟨rfl, hb⟩
  obtain ⟨B, hBs⟩ : ∃ b, X1.heap.size = b := ⟨_, rfl⟩
  have hge : w.heap.size ≤ B := by rw [← hBs]; exact hb.size
  go_wp2_with fail
  try rw [hBs]
  refine wp_box (fun V => Below w.heap.size w V ∧ Hid (V.heap[B]? = some (cellsOf ⟨5, 9, 1, 1, n, 1⟩))) ⟨xa hb _, newA _ _ _ hBs⟩ ?_
  clear hb hBs
  rintro V ⟨hB, K⟩
  have hdn : decide (n < 100) = false := decide_eq_false (by omega)
  obtain ⟨t0, t1, t2, t3, t4, t5, tF, tL⟩ := cellsOf_at K.out
  refine wp_region_gw (by kernel_rfl) (by kernel_rfl) ?_
  repeat (go_big_quiet_step (first | (go_at_call 31; with_reducible exact gw_call (HA _).out) | (go_at_call 27; with_reducible exact gw_call (R1 _ (HC.out.below (hB.trans ((gw_below _ _).mono hB.size)) HC.out.lt)).out) | (go_at_call 27; with_reducible exact gw_call (R2 _ (HC.out.below (hB.trans ((gw_below _ _).mono hB.size)) HC.out.lt)).out)))
  refine wpQuiet_nil ?_
  rintro _ ⟨y, rfl⟩
  replace K := keepB (gw_below V y) K
  replace hB := hB.trans ((gw_below V y).mono hB.size)
  clear t0 t1 t2 t3 t4 t5 tF tL
  obtain ⟨Z, hZ⟩ : ∃ Z, gw V y = Z := ⟨_, rfl⟩
  rw [hZ] at hB K ⊢
  clear hZ
  obtain ⟨t0, t1, t2, t3, t4, t5, tF, tL⟩ := cellsOf_at K.out
  go_wp2_with fail
  refine call_named (fun V => Below w.heap.size w V ∧ Hid (V.heap[B]? = some (cellsOf ⟨0, 0, 0, 0, 0, 0⟩))) (am_none hB hge K.out _) ?_
  clear t0 t1 t2 t3 t4 t5 tF tL hB K
  rintro V2 ⟨hB, K⟩
  refine (HF _).out.mono ?_
  rintro r X2 ⟨rfl, hb⟩
  replace K := keepB hb K
  replace hB := hB.trans (hb.mono hB.size)
  clear hb
  obtain ⟨t0, t1, t2, t3, t4, t5, tF, tL⟩ := cellsOf_at K.out
  go_wp2_with fail
  refine wp_region_gw (by kernel_rfl) (by kernel_rfl) ?_
  repeat (go_big_quiet_step (first | (go_at_call 22; exact gw_call (c22 _ (HE.out.below (hB.trans ((gw_below _ _).mono hB.size))) (HC.out.below (hB.trans ((gw_below _ _).mono hB.size)) HC.out.lt))) | (go_at_call 31; with_reducible exact gw_call (HA _).out) | (go_at_call 27; with_reducible exact gw_call (R4 _ (HC.out.below (hB.trans ((gw_below _ _).mono hB.size)) HC.out.lt)).out)))
  refine wpQuiet_nil ?_
  rintro _ ⟨y2, rfl⟩
  go_wp2_with fail
  go_ret
  exact ⟨rfl, hB.trans ((gw_below _ _).mono hB.size)⟩
set_option maxRecDepth 100000 in
set_option maxHeartbeats 4000000 in
theorem c7_ge_eq_div (n fine : Int) (FW TW : List UInt8) (w : World) (h0 : 0 ≤ n) (h1 : n ≤ 200000) (g0 : 0 ≤ fine) (g1 : fine ≤ 255) (hn : 100 ≤ n) (hf : fine % 100 = 99) (hd : n % 100 = 0) (hl1 : FW.length ≤ 4) (hl2 : TW.length ≤ 2) (HE : Hid (Env w)) (HC : Hid (Cell0 w)) (H32 : ∀ W, Hid (Calls Tryz.prog 32 #[.int .i64 (n / 100 % 10000)] W fun r w' => r = .returned (.string ⟨(FW).toArray⟩) ∧ Below W.heap.size W w')) (HA : ∀ W, Hid (Calls Tryz.prog 31 #[.int .i64 0] W fun r w' => r = .returned (.string ⟨(TW).toArray⟩) ∧ Below W.heap.size W w')) (R1 : ∀ W, Cell0 W → Hid (Calls Tryz.prog 27 #[.string ⟨(53 :: 32 :: 49 :: 48 :: 32 :: 74 :: 97 :: 110 :: 32 :: 49 :: 56 :: 53 :: 48 :: 32 :: (FW ++ 46 :: TW)).toArray⟩, .agg #[.int .i64 5, .int .i64 9, .int .i64 1, .int .i64 1, .int .i64 n, .int .i64 1], .int .i64 0] W fun r w' => r = .returned (.bool true) ∧ Below W.heap.size W w')) (R2 : ∀ W, Cell0 W → Hid (Calls Tryz.prog 27 #[.string ⟨(53 :: 32 :: 49 :: 48 :: 32 :: 74 :: 97 :: 110 :: 32 :: 49 :: 56 :: 53 :: 48 :: 32 :: (FW ++ 44 :: TW)).toArray⟩, .agg #[.int .i64 5, .int .i64 9, .int .i64 1, .int .i64 1, .int .i64 n, .int .i64 1], .int .i64 0] W fun r w' => r = .returned (.bool true) ∧ Below W.heap.size W w')) (R4 : ∀ W, Cell0 W → Hid (Calls Tryz.prog 27 #[.string ⟨(53 :: 32 :: 49 :: 48 :: 32 :: 74 :: 97 :: 110 :: 32 :: 49 :: 56 :: 53 :: 48 :: 32 :: (FW ++ 46 :: (TW ++ [32, 116, 111, 32, 49]))).toArray⟩, .agg #[.int .i64 5, .int .i64 9, .int .i64 1, .int .i64 1, .int .i64 n, .int .i64 100], .int .i64 0] W fun r w' => r = .returned (.bool true) ∧ Below W.heap.size W w')) :
    Calls Tryz.prog 7 #[.int .i64 n, .int .u8 fine] w fun e w' => e = .returned (.bool true) ∧ Below w.heap.size w w' := by
  go_enter Tryz.func7, Tryz.ntmps7
  go_wp2_with fail
  refine (H32 _).out.mono ?_
  rintro r X1 ⟨rfl, hb⟩
  obtain ⟨B, hBs⟩ : ∃ b, X1.heap.size = b := ⟨_, rfl⟩
  have hge : w.heap.size ≤ B := by rw [← hBs]; exact hb.size
  go_wp2_with fail
  try rw [hBs]
  refine wp_box (fun V => Below w.heap.size w V ∧ Hid (V.heap[B]? = some (cellsOf ⟨5, 9, 1, 1, n, 1⟩))) ⟨xa hb _, newA _ _ _ hBs⟩ ?_
  clear hb hBs
  rintro V ⟨hB, K⟩
  have hdn : decide (n < 100) = false := decide_eq_false (by omega)
  obtain ⟨t0, t1, t2, t3, t4, t5, tF, tL⟩ := cellsOf_at K.out
  refine wp_region_gw (by kernel_rfl) (by kernel_rfl) ?_
  repeat (go_big_quiet_step (first | (go_at_call 31; with_reducible exact gw_call (HA _).out) | (go_at_call 27; with_reducible exact gw_call (R1 _ (HC.out.below (hB.trans ((gw_below _ _).mono hB.size)) HC.out.lt)).out) | (go_at_call 27; with_reducible exact gw_call (R2 _ (HC.out.below (hB.trans ((gw_below _ _).mono hB.size)) HC.out.lt)).out)))
  refine wpQuiet_nil ?_
  rintro _ ⟨y, rfl⟩
  replace K := keepB (gw_below V y) K
  replace hB := hB.trans ((gw_below V y).mono hB.size)
  clear t0 t1 t2 t3 t4 t5 tF tL
  obtain ⟨Z, hZ⟩ : ∃ Z, gw V y = Z := ⟨_, rfl⟩
  rw [hZ] at hB K ⊢
  clear hZ
  obtain ⟨t0, t1, t2, t3, t4, t5, tF, tL⟩ := cellsOf_at K.out
  go_wp2_with fail
  refine wp_box (fun V => Below w.heap.size w V ∧ Hid (V.heap[B]? = some (cellsOf ⟨5, 9, 1, 1, n, 100⟩))) (am_set hB hge K.out _) ?_
  clear t0 t1 t2 t3 t4 t5 tF tL hB K
  rintro V2 ⟨hB, K⟩
  obtain ⟨t0, t1, t2, t3, t4, t5, tF, tL⟩ := cellsOf_at K.out
  refine wp_region_gw (by kernel_rfl) (by kernel_rfl) ?_
  repeat (go_big_quiet_step (first | (go_at_call 22; exact gw_call (c22 _ (HE.out.below (hB.trans ((gw_below _ _).mono hB.size))) (HC.out.below (hB.trans ((gw_below _ _).mono hB.size)) HC.out.lt))) | (go_at_call 31; with_reducible exact gw_call (HA _).out) | (go_at_call 27; with_reducible exact gw_call (R4 _ (HC.out.below (hB.trans ((gw_below _ _).mono hB.size)) HC.out.lt)).out)))
  refine wpQuiet_nil ?_
  rintro _ ⟨y2, rfl⟩
  go_wp2_with fail
  go_ret
  exact ⟨rfl, hB.trans ((gw_below _ _).mono hB.size)⟩
set_option maxRecDepth 100000 in
set_option maxHeartbeats 4000000 in
theorem c7_ge_eq_no (n fine : Int) (FW TW : List UInt8) (w : World) (h0 : 0 ≤ n) (h1 : n ≤ 200000) (g0 : 0 ≤ fine) (g1 : fine ≤ 255) (hn : 100 ≤ n) (hf : fine % 100 = 99) (hd : ¬ n % 100 = 0) (hl1 : FW.length ≤ 4) (hl2 : TW.length ≤ 2) (HE : Hid (Env w)) (HC : Hid (Cell0 w)) (H32 : ∀ W, Hid (Calls Tryz.prog 32 #[.int .i64 (n / 100 % 10000)] W fun r w' => r = .returned (.string ⟨(FW).toArray⟩) ∧ Below W.heap.size W w')) (HA : ∀ W, Hid (Calls Tryz.prog 31 #[.int .i64 (n % 100)] W fun r w' => r = .returned (.string ⟨(TW).toArray⟩) ∧ Below W.heap.size W w')) (R1 : ∀ W, Cell0 W → Hid (Calls Tryz.prog 27 #[.string ⟨(53 :: 32 :: 49 :: 48 :: 32 :: 74 :: 97 :: 110 :: 32 :: 49 :: 56 :: 53 :: 48 :: 32 :: (FW ++ 46 :: TW)).toArray⟩, .agg #[.int .i64 5, .int .i64 9, .int .i64 1, .int .i64 1, .int .i64 n, .int .i64 1], .int .i64 0] W fun r w' => r = .returned (.bool true) ∧ Below W.heap.size W w')) (R2 : ∀ W, Cell0 W → Hid (Calls Tryz.prog 27 #[.string ⟨(53 :: 32 :: 49 :: 48 :: 32 :: 74 :: 97 :: 110 :: 32 :: 49 :: 56 :: 53 :: 48 :: 32 :: (FW ++ 44 :: TW)).toArray⟩, .agg #[.int .i64 5, .int .i64 9, .int .i64 1, .int .i64 1, .int .i64 n, .int .i64 1], .int .i64 0] W fun r w' => r = .returned (.bool true) ∧ Below W.heap.size W w')) (R4 : ∀ W, Cell0 W → Hid (Calls Tryz.prog 27 #[.string ⟨(53 :: 32 :: 49 :: 48 :: 32 :: 74 :: 97 :: 110 :: 32 :: 49 :: 56 :: 53 :: 48 :: 32 :: (FW ++ 46 :: (TW ++ [32, 116, 111, 32, 49]))).toArray⟩, .agg #[.int .i64 0, .int .i64 0, .int .i64 0, .int .i64 0, .int .i64 0, .int .i64 0], .int .i64 3] W fun r w' => r = .returned (.bool true) ∧ Below W.heap.size W w')) :
    Calls Tryz.prog 7 #[.int .i64 n, .int .u8 fine] w fun e w' => e = .returned (.bool true) ∧ Below w.heap.size w w' := by
  go_enter Tryz.func7, Tryz.ntmps7
  go_wp2_with fail
  refine (H32 _).out.mono ?_
  rintro r X1 ⟨rfl, hb⟩
  obtain ⟨B, hBs⟩ : ∃ b, X1.heap.size = b := ⟨_, rfl⟩
  have hge : w.heap.size ≤ B := by rw [← hBs]; exact hb.size
  go_wp2_with fail
  try rw [hBs]
  refine wp_box (fun V => Below w.heap.size w V ∧ Hid (V.heap[B]? = some (cellsOf ⟨5, 9, 1, 1, n, 1⟩))) ⟨xa hb _, newA _ _ _ hBs⟩ ?_
  clear hb hBs
  rintro V ⟨hB, K⟩
  have hdn : decide (n < 100) = false := decide_eq_false (by omega)
  obtain ⟨t0, t1, t2, t3, t4, t5, tF, tL⟩ := cellsOf_at K.out
  refine wp_region_gw (by kernel_rfl) (by kernel_rfl) ?_
  repeat (go_big_quiet_step (first | (go_at_call 31; with_reducible exact gw_call (HA _).out) | (go_at_call 27; with_reducible exact gw_call (R1 _ (HC.out.below (hB.trans ((gw_below _ _).mono hB.size)) HC.out.lt)).out) | (go_at_call 27; with_reducible exact gw_call (R2 _ (HC.out.below (hB.trans ((gw_below _ _).mono hB.size)) HC.out.lt)).out)))
  refine wpQuiet_nil ?_
  rintro _ ⟨y, rfl⟩
  replace K := keepB (gw_below V y) K
  replace hB := hB.trans ((gw_below V y).mono hB.size)
  clear t0 t1 t2 t3 t4 t5 tF tL
  obtain ⟨Z, hZ⟩ : ∃ Z, gw V y = Z := ⟨_, rfl⟩
  rw [hZ] at hB K ⊢
  clear hZ
  obtain ⟨t0, t1, t2, t3, t4, t5, tF, tL⟩ := cellsOf_at K.out
  go_wp2_with fail
  refine wp_box (fun V => Below w.heap.size w V ∧ Hid (V.heap[B]? = some (cellsOf ⟨0, 0, 0, 0, 0, 0⟩))) (am_none hB hge K.out _) ?_
  clear t0 t1 t2 t3 t4 t5 tF tL hB K
  rintro V2 ⟨hB, K⟩
  obtain ⟨t0, t1, t2, t3, t4, t5, tF, tL⟩ := cellsOf_at K.out
  refine wp_region_gw (by kernel_rfl) (by kernel_rfl) ?_
  repeat (go_big_quiet_step (first | (go_at_call 22; exact gw_call (c22 _ (HE.out.below (hB.trans ((gw_below _ _).mono hB.size))) (HC.out.below (hB.trans ((gw_below _ _).mono hB.size)) HC.out.lt))) | (go_at_call 31; with_reducible exact gw_call (HA _).out) | (go_at_call 27; with_reducible exact gw_call (R4 _ (HC.out.below (hB.trans ((gw_below _ _).mono hB.size)) HC.out.lt)).out)))
  refine wpQuiet_nil ?_
  rintro _ ⟨y2, rfl⟩
  go_wp2_with fail
  go_ret
  exact ⟨rfl, hB.trans ((gw_below _ _).mono hB.size)⟩
end Go.Proofs.YthifeoebefbalaaGreatDoor
