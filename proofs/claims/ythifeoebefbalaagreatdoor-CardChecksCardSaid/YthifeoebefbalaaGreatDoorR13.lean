/- Order, of the reference. -/
import Derived.Test.YthifeoebefbalaaGreatDoorR12
namespace Go.Proofs.YthifeoebefbalaaGreatDoor
open Go.RowKit

theorem box_four (w : World) (o1 o2 : Obj) (cx cy : Array Value) : ∃ W, ((((w.alloc o1).alloc o2).alloc (.cells cx 3)).alloc (.cells cy 3)) = W ∧ Below w.heap.size w W ∧ w.heap.size + 1 + 1 + 1 < W.heap.size ∧
    (∀ i, W.cell? ⟨w.heap.size + 1 + 1, i, none⟩ = cx[i]?) ∧ (∀ i, W.cell? ⟨w.heap.size + 1 + 1 + 1, i, none⟩ = cy[i]?) := by
  refine ⟨_, rfl, xa (xa (xa (xa (xr _) _) _) _) _, by simp, ?_, ?_⟩
  · have := ((blk_new (w := (w.alloc o1).alloc o2) (cs := cx) (T := 3) (xr _)).alloc (.cells cy 3)).cell
    simpa using this
  · have := (blk_new (w := ((w.alloc o1).alloc o2).alloc (.cells cx 3)) (cs := cy) (T := 3) (xr _)).cell
    simpa using this
set_option maxRecDepth 100000 in
set_option maxHeartbeats 8000000 in
theorem c61 (a1 a2 a3 a4 a5 a6 b1 b2 b3 b4 b5 b6 : Int) (w : World) : Calls Tryz.prog 61 #[.agg #[.int .i64 a1, .int .i64 a2, .int .i64 a3, .int .i64 a4, .int .i64 a5, .int .i64 a6], .agg #[.int .i64 b1, .int .i64 b2, .int .i64 b3, .int .i64 b4, .int .i64 b5, .int .i64 b6]] w fun e w' => e = .returned (.int .i64 (orL [Lib.compareInt a1 b1, Lib.compareInt a2 b2, Lib.compareInt a3 b3, Lib.compareInt a4 b4, Lib.compareInt a5 b5, Lib.compareInt a6 b6])) ∧ Below w.heap.size w w' := by
  obtain ⟨R, hR⟩ : ∃ R, orL [Lib.compareInt a1 b1, Lib.compareInt a2 b2, Lib.compareInt a3 b3, Lib.compareInt a4 b4, Lib.compareInt a5 b5, Lib.compareInt a6 b6] = R := ⟨_, rfl⟩
  rw [hR]
  have HR := Lib.hid hR
  clear hR
  go_enter Tryz.func61, Tryz.ntmps61
  go_wp2_with fail
  obtain ⟨W, hW, hB, hlt, hx, hy⟩ := box_four w (.cells #[Value.int .i64 a1, .int .i64 a2, .int .i64 a3, .int .i64 a4, .int .i64 a5, .int .i64 a6] 24) (.cells #[Value.int .i64 b1, .int .i64 b2, .int .i64 b3, .int .i64 b4, .int .i64 b5, .int .i64 b6] 24) #[Value.int .i64 a1, .int .i64 a2, .int .i64 a3, .int .i64 a4, .int .i64 a5, .int .i64 a6] #[Value.int .i64 b1, .int .i64 b2, .int .i64 b3, .int .i64 b4, .int .i64 b5, .int .i64 b6]
  rw [hW]
  clear hW
  have x0 : W.cell? ⟨w.heap.size + 1 + 1, 0, none⟩ = some (.int .i64 a1) := hx 0
  have y0 : W.cell? ⟨w.heap.size + 1 + 1 + 1, 0, none⟩ = some (.int .i64 b1) := hy 0
  have x1 : W.cell? ⟨w.heap.size + 1 + 1, 1, none⟩ = some (.int .i64 a2) := hx 1
  have y1 : W.cell? ⟨w.heap.size + 1 + 1 + 1, 1, none⟩ = some (.int .i64 b2) := hy 1
  have x2 : W.cell? ⟨w.heap.size + 1 + 1, 2, none⟩ = some (.int .i64 a3) := hx 2
  have y2 : W.cell? ⟨w.heap.size + 1 + 1 + 1, 2, none⟩ = some (.int .i64 b3) := hy 2
  have x3 : W.cell? ⟨w.heap.size + 1 + 1, 3, none⟩ = some (.int .i64 a4) := hx 3
  have y3 : W.cell? ⟨w.heap.size + 1 + 1 + 1, 3, none⟩ = some (.int .i64 b4) := hy 3
  have x4 : W.cell? ⟨w.heap.size + 1 + 1, 4, none⟩ = some (.int .i64 a5) := hx 4
  have y4 : W.cell? ⟨w.heap.size + 1 + 1 + 1, 4, none⟩ = some (.int .i64 b5) := hy 4
  have x5 : W.cell? ⟨w.heap.size + 1 + 1, 5, none⟩ = some (.int .i64 a6) := hx 5
  have y5 : W.cell? ⟨w.heap.size + 1 + 1 + 1, 5, none⟩ = some (.int .i64 b6) := hy 5
  have hlt2 : w.heap.size + 1 + 1 < W.heap.size := by omega
  clear hx hy
  go_loopw [7] (fun v wr => ∃ k : Nat, k ≤ 6 ∧ v = .int .i64 k ∧ Hid (orL ([Lib.compareInt a1 b1, Lib.compareInt a2 b2, Lib.compareInt a3 b3, Lib.compareInt a4 b4, Lib.compareInt a5 b5, Lib.compareInt a6 b6].drop k) = R) ∧ ∃ x, wr = gw W x) (fun v _ => (10 - intOf v).toNat)
  case atStart => exact ⟨0, by omega, rfl, HR, of_below (xr _)⟩
  case round =>
    clear HR
    obtain ⟨k, hk, rfl, HK, x, rfl⟩ := hrel
    have hcase : k = 0 ∨ k = 1 ∨ k = 2 ∨ k = 3 ∨ k = 4 ∨ k = 5 ∨ k = 6 := by omega
    rcases hcase with rfl | rfl | rfl | rfl | rfl | rfl | rfl
    · obtain ⟨d, hd⟩ : ∃ d, Lib.compareInt a1 b1 = d := ⟨_, rfl⟩
      have H := fun V => Lib.hid (c102 a1 b1 V)
      rw [hd] at H
      have HD := Lib.hid hd
      clear hd
      by_cases hz : d = 0
      · have HZ := Lib.hid (HD.out.trans hz)
        go_wp2_with fail
        refine wp_region_gwn W (by kernel_rfl) (by kernel_rfl) (gw_below _ _) ?_
        repeat (go_big_quiet_step ((go_at_call 102; exact gw_same (H _).out)))
        refine wpQuiet_nil ?_
        rintro _ ⟨x2, rfl⟩
        go_wp2_with fail
        go_roundw
        case rel => exact ⟨1, by omega, rfl, Lib.hid ((orL_zero HZ.out).symm.trans HK.out), _, rfl⟩
        case measure => simp [intOf]
      · go_wp2_with fail
        refine wp_region_gwn W (by kernel_rfl) (by kernel_rfl) (gw_below _ _) ?_
        repeat (go_big_quiet_step ((go_at_call 102; exact gw_same (H _).out)))
        refine wpQuiet_nil ?_
        rintro _ ⟨x2, rfl⟩
        go_wp2_with fail
        go_ret
        exact ⟨ret_int (HD.out.symm.trans ((orL_some (by rw [HD.out]; exact hz)).symm.trans HK.out)), below_trans hB (gw_below _ _)⟩
    · obtain ⟨d, hd⟩ : ∃ d, Lib.compareInt a2 b2 = d := ⟨_, rfl⟩
      have H := fun V => Lib.hid (c102 a2 b2 V)
      rw [hd] at H
      have HD := Lib.hid hd
      clear hd
      by_cases hz : d = 0
      · have HZ := Lib.hid (HD.out.trans hz)
        go_wp2_with fail
        refine wp_region_gwn W (by kernel_rfl) (by kernel_rfl) (gw_below _ _) ?_
        repeat (go_big_quiet_step ((go_at_call 102; exact gw_same (H _).out)))
        refine wpQuiet_nil ?_
        rintro _ ⟨x2, rfl⟩
        go_wp2_with fail
        go_roundw
        case rel => exact ⟨2, by omega, rfl, Lib.hid ((orL_zero HZ.out).symm.trans HK.out), _, rfl⟩
        case measure => simp [intOf]
      · go_wp2_with fail
        refine wp_region_gwn W (by kernel_rfl) (by kernel_rfl) (gw_below _ _) ?_
        repeat (go_big_quiet_step ((go_at_call 102; exact gw_same (H _).out)))
        refine wpQuiet_nil ?_
        rintro _ ⟨x2, rfl⟩
        go_wp2_with fail
        go_ret
        exact ⟨ret_int (HD.out.symm.trans ((orL_some (by rw [HD.out]; exact hz)).symm.trans HK.out)), below_trans hB (gw_below _ _)⟩
    · obtain ⟨d, hd⟩ : ∃ d, Lib.compareInt a3 b3 = d := ⟨_, rfl⟩
      have H := fun V => Lib.hid (c102 a3 b3 V)
      rw [hd] at H
      have HD := Lib.hid hd
      clear hd
      by_cases hz : d = 0
      · have HZ := Lib.hid (HD.out.trans hz)
        go_wp2_with fail
        refine wp_region_gwn W (by kernel_rfl) (by kernel_rfl) (gw_below _ _) ?_
        repeat (go_big_quiet_step ((go_at_call 102; exact gw_same (H _).out)))
        refine wpQuiet_nil ?_
        rintro _ ⟨x2, rfl⟩
        go_wp2_with fail
        go_roundw
        case rel => exact ⟨3, by omega, rfl, Lib.hid ((orL_zero HZ.out).symm.trans HK.out), _, rfl⟩
        case measure => simp [intOf]
      · go_wp2_with fail
        refine wp_region_gwn W (by kernel_rfl) (by kernel_rfl) (gw_below _ _) ?_
        repeat (go_big_quiet_step ((go_at_call 102; exact gw_same (H _).out)))
        refine wpQuiet_nil ?_
        rintro _ ⟨x2, rfl⟩
        go_wp2_with fail
        go_ret
        exact ⟨ret_int (HD.out.symm.trans ((orL_some (by rw [HD.out]; exact hz)).symm.trans HK.out)), below_trans hB (gw_below _ _)⟩
    · obtain ⟨d, hd⟩ : ∃ d, Lib.compareInt a4 b4 = d := ⟨_, rfl⟩
      have H := fun V => Lib.hid (c102 a4 b4 V)
      rw [hd] at H
      have HD := Lib.hid hd
      clear hd
      by_cases hz : d = 0
      · have HZ := Lib.hid (HD.out.trans hz)
        go_wp2_with fail
        refine wp_region_gwn W (by kernel_rfl) (by kernel_rfl) (gw_below _ _) ?_
        repeat (go_big_quiet_step ((go_at_call 102; exact gw_same (H _).out)))
        refine wpQuiet_nil ?_
        rintro _ ⟨x2, rfl⟩
        go_wp2_with fail
        go_roundw
        case rel => exact ⟨4, by omega, rfl, Lib.hid ((orL_zero HZ.out).symm.trans HK.out), _, rfl⟩
        case measure => simp [intOf]
      · go_wp2_with fail
        refine wp_region_gwn W (by kernel_rfl) (by kernel_rfl) (gw_below _ _) ?_
        repeat (go_big_quiet_step ((go_at_call 102; exact gw_same (H _).out)))
        refine wpQuiet_nil ?_
        rintro _ ⟨x2, rfl⟩
        go_wp2_with fail
        go_ret
        exact ⟨ret_int (HD.out.symm.trans ((orL_some (by rw [HD.out]; exact hz)).symm.trans HK.out)), below_trans hB (gw_below _ _)⟩
    · obtain ⟨d, hd⟩ : ∃ d, Lib.compareInt a5 b5 = d := ⟨_, rfl⟩
      have H := fun V => Lib.hid (c102 a5 b5 V)
      rw [hd] at H
      have HD := Lib.hid hd
      clear hd
      by_cases hz : d = 0
      · have HZ := Lib.hid (HD.out.trans hz)
        go_wp2_with fail
        refine wp_region_gwn W (by kernel_rfl) (by kernel_rfl) (gw_below _ _) ?_
        repeat (go_big_quiet_step ((go_at_call 102; exact gw_same (H _).out)))
        refine wpQuiet_nil ?_
        rintro _ ⟨x2, rfl⟩
        go_wp2_with fail
        go_roundw
        case rel => exact ⟨5, by omega, rfl, Lib.hid ((orL_zero HZ.out).symm.trans HK.out), _, rfl⟩
        case measure => simp [intOf]
      · go_wp2_with fail
        refine wp_region_gwn W (by kernel_rfl) (by kernel_rfl) (gw_below _ _) ?_
        repeat (go_big_quiet_step ((go_at_call 102; exact gw_same (H _).out)))
        refine wpQuiet_nil ?_
        rintro _ ⟨x2, rfl⟩
        go_wp2_with fail
        go_ret
        exact ⟨ret_int (HD.out.symm.trans ((orL_some (by rw [HD.out]; exact hz)).symm.trans HK.out)), below_trans hB (gw_below _ _)⟩
    · obtain ⟨d, hd⟩ : ∃ d, Lib.compareInt a6 b6 = d := ⟨_, rfl⟩
      have H := fun V => Lib.hid (c102 a6 b6 V)
      rw [hd] at H
      have HD := Lib.hid hd
      clear hd
      by_cases hz : d = 0
      · have HZ := Lib.hid (HD.out.trans hz)
        go_wp2_with fail
        refine wp_region_gwn W (by kernel_rfl) (by kernel_rfl) (gw_below _ _) ?_
        repeat (go_big_quiet_step ((go_at_call 102; exact gw_same (H _).out)))
        refine wpQuiet_nil ?_
        rintro _ ⟨x2, rfl⟩
        go_wp2_with fail
        go_roundw
        case rel => exact ⟨6, by omega, rfl, Lib.hid ((orL_zero HZ.out).symm.trans HK.out), _, rfl⟩
        case measure => simp [intOf]
      · go_wp2_with fail
        refine wp_region_gwn W (by kernel_rfl) (by kernel_rfl) (gw_below _ _) ?_
        repeat (go_big_quiet_step ((go_at_call 102; exact gw_same (H _).out)))
        refine wpQuiet_nil ?_
        rintro _ ⟨x2, rfl⟩
        go_wp2_with fail
        go_ret
        exact ⟨ret_int (HD.out.symm.trans ((orL_some (by rw [HD.out]; exact hz)).symm.trans HK.out)), below_trans hB (gw_below _ _)⟩
    · go_wp2_with fail
      go_ret
      exact ⟨ret_int HK.out, below_trans hB (gw_below _ _)⟩
end Go.Proofs.YthifeoebefbalaaGreatDoor
