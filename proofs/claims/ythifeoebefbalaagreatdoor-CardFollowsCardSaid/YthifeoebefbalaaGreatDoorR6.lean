/- The days that a card covers. -/
import Derived.Test.YthifeoebefbalaaGreatDoorZ20
namespace Go.Proofs.YthifeoebefbalaaGreatDoor
open Go.RowKit

theorem c99 (n : Int) (w : World) : Calls Tryz.prog 99 #[.int .i64 n] w fun e w' => e = .returned (.bool (decide (n = 1 ∨ n = 2))) ∧ w = w' := by
  by_cases h1 : n = 1
  all_goals by_cases h2 : n = 2
  all_goals go_enter Tryz.func99, Tryz.ntmps99
  all_goals go_wp2
  all_goals go_ret
  all_goals exact ⟨by simp [h1, h2], rfl⟩
def isSpanB (lo hi : Int) : Bool := decide (0 ≤ lo) && decide (lo ≤ hi) && decide (hi ≤ 60000)
theorem c100 (lo hi : Int) (w : World) : Calls Tryz.prog 100 #[.agg #[.int .i64 lo, .int .i64 hi]] w fun e w' => e = .returned (.bool (isSpanB lo hi)) ∧ Below w.heap.size w w' := by
  by_cases h1 : 0 ≤ lo
  all_goals by_cases h2 : lo ≤ hi
  all_goals by_cases h3 : hi ≤ 60000
  all_goals try (exfalso; omega)
  all_goals go_enter Tryz.func100, Tryz.ntmps100
  all_goals go_wp2
  all_goals go_ret
  all_goals exact ⟨by simp [isSpanB, h1, h2, h3], by repeat (first | exact xr _ | apply xa)⟩
theorem c59 (l1 h1 l2 h2 : Int) (w : World) (p1 : 0 ≤ l1) (p2 : l1 ≤ 4294967296) (p3 : 0 ≤ h1) (p4 : h1 ≤ 4294967296) (p5 : 0 ≤ l2) (p6 : l2 ≤ 4294967296) (p7 : 0 ≤ h2) (p8 : h2 ≤ 4294967296) :
    Calls Tryz.prog 59 #[.agg #[.int .i64 l1, .int .i64 h1], .agg #[.int .i64 l2, .int .i64 h2]] w fun e w' => e = .returned (.agg #[.int .i64 (l1 + l2), .int .i64 (min 1073741824 (h1 + h2))]) ∧ Below w.heap.size w w' := by
  go_enter Tryz.func59, Tryz.ntmps59
  go_wp2_with fail
  exact bodyPost_ret (v := .agg #[.int .i64 (l1 + l2), .int .i64 (min 1073741824 (h1 + h2))]) (by simp [results, Tryz.results59, go_sem]) rfl ⟨rfl, by repeat (first | exact xr _ | apply xa)⟩

theorem c58_0 (day days n : Int) (w : World) (d1 : 0 ≤ day) (d2 : day ≤ 60000) (d3 : 1 ≤ days) (d4 : days ≤ 62) (r1 : n ≠ 1) (r2 : n ≠ 2) : Calls Tryz.prog 58 #[.int .i64 day, .int .i64 days, .int .i64 n] w fun e w' => e = .returned (.tuple #[.agg #[.int .i64 0, .int .i64 0], .int .i64 1]) ∧ Below w.heap.size w w' := by
  have HD : Hid (isDay day = true) := Lib.hid (by simp [isDay, d1, d2])
  have HR : Hid (decide (n = 1 ∨ n = 2) = false) := Lib.hid (by simp [r1, r2])
  go_enter Tryz.func58, Tryz.ntmps58
  go_wp2_with (first
    | (go_at_call 80; refine (c80 _ _).mono ?_; rw [HD.out]; rintro e w1 ⟨rfl, rfl⟩)
    | (go_at_call 99; refine (c99 _ _).mono ?_; rw [HR.out]; rintro e w1 ⟨rfl, rfl⟩))
  exact bodyPost_ret (v := .tuple #[.agg #[.int .i64 0, .int .i64 0], .int .i64 1]) (by simp [results, Tryz.results58, go_sem]) rfl ⟨rfl, by repeat (first | exact xr _ | apply xa)⟩
set_option maxHeartbeats 2000000 in
set_option maxRecDepth 100000 in
theorem c58_1y (day days : Int) (w : World) (d1 : 0 ≤ day) (d2 : day ≤ 60000) (d3 : 1 ≤ days) (d4 : days ≤ 62) (h : days ≤ day + 1) : Calls Tryz.prog 58 #[.int .i64 day, .int .i64 days, .int .i64 1] w fun e w' => e = .returned (.tuple #[.agg #[.int .i64 (day - days + 1), .int .i64 day], .int .i64 0]) ∧ Below w.heap.size w w' := by
  have HD : Hid (isDay day = true) := Lib.hid (by simp [isDay, d1, d2])
  have HS : Hid (isSpanB (day - days + 1) (day) = true) := Lib.hid (by simp [isSpanB]; omega)
  go_enter Tryz.func58, Tryz.ntmps58
  go_wp2_with (first
    | (go_at_call 80; refine (c80 _ _).mono ?_; rw [HD.out]; rintro e w1 ⟨rfl, rfl⟩)
    | (go_at_call 99; refine (c99 _ _).mono ?_; rintro e w1 ⟨rfl, rfl⟩))
  refine call_named (fun V => Below w.heap.size w V ∧ Hid (V.heap[w.heap.size]? = some (spanOf ⟨0, 0⟩)) ∧ Hid (V.heap[w.heap.size + 1]? = some (spanOf ⟨day - days + 1, day⟩))) (box_two _ _ _) ?_
  rintro X0 ⟨hB, K0, K1⟩
  refine (c100 _ _ _).mono ?_
  rw [HS.out]
  rintro e X1 ⟨rfl, hb⟩
  replace K0 := keepB hb K0
  replace K1 := keepB hb K1
  replace hB := hB.trans (hb.mono hB.size)
  clear hb
  obtain ⟨t0, t1, tF, tL⟩ := span_at' K0.out
  obtain ⟨u0, u1, uF, uL⟩ := span_at' K1.out
  go_wp2_with fail
  obtain ⟨Y, hY, hYb, hYg, -⟩ := store2b K0.out (day - days + 1) (day)
  rw [hY]
  have hg := hYg w hB (Nat.le_refl _)
  obtain ⟨y0, y1, yF, yL⟩ := span_at' hYb
  clear hY hYb hYg
  exact bodyPost_ret (v := .tuple #[spv ⟨day - days + 1, day⟩, .int .i64 0]) (by simp [results, Tryz.results58, go_sem, spv, y0, y1]) rfl ⟨rfl, hg⟩
set_option maxHeartbeats 2000000 in
set_option maxRecDepth 100000 in
theorem c58_1n (day days : Int) (w : World) (d1 : 0 ≤ day) (d2 : day ≤ 60000) (d3 : 1 ≤ days) (d4 : days ≤ 62) (h : day + 1 < days) : Calls Tryz.prog 58 #[.int .i64 day, .int .i64 days, .int .i64 1] w fun e w' => e = .returned (.tuple #[.agg #[.int .i64 0, .int .i64 0], .int .i64 3]) ∧ Below w.heap.size w w' := by
  have HD : Hid (isDay day = true) := Lib.hid (by simp [isDay, d1, d2])
  have HS : Hid (isSpanB (day - days + 1) (day) = false) := Lib.hid (by simp [isSpanB]; omega)
  go_enter Tryz.func58, Tryz.ntmps58
  go_wp2_with (first
    | (go_at_call 80; refine (c80 _ _).mono ?_; rw [HD.out]; rintro e w1 ⟨rfl, rfl⟩)
    | (go_at_call 99; refine (c99 _ _).mono ?_; rintro e w1 ⟨rfl, rfl⟩))
  refine call_named (fun V => Below w.heap.size w V ∧ Hid (V.heap[w.heap.size]? = some (spanOf ⟨0, 0⟩)) ∧ Hid (V.heap[w.heap.size + 1]? = some (spanOf ⟨day - days + 1, day⟩))) (box_two _ _ _) ?_
  rintro X0 ⟨hB, K0, K1⟩
  refine (c100 _ _ _).mono ?_
  rw [HS.out]
  rintro e X1 ⟨rfl, hb⟩
  replace K0 := keepB hb K0
  replace K1 := keepB hb K1
  replace hB := hB.trans (hb.mono hB.size)
  clear hb
  obtain ⟨t0, t1, tF, tL⟩ := span_at' K0.out
  obtain ⟨u0, u1, uF, uL⟩ := span_at' K1.out
  go_wp2_with fail
  obtain ⟨Y, hY, hYb, hYg, -⟩ := store2b K0.out (0) (0)
  rw [hY]
  have hg := hYg w hB (Nat.le_refl _)
  obtain ⟨y0, y1, yF, yL⟩ := span_at' hYb
  clear hY hYb hYg
  exact bodyPost_ret (v := .tuple #[spv ⟨0, 0⟩, .int .i64 3]) (by simp [results, Tryz.results58, go_sem, spv, y0, y1]) rfl ⟨rfl, hg⟩
set_option maxHeartbeats 2000000 in
set_option maxRecDepth 100000 in
theorem c58_2y (day days : Int) (w : World) (d1 : 0 ≤ day) (d2 : day ≤ 60000) (d3 : 1 ≤ days) (d4 : days ≤ 62) (h : days ≤ day) : Calls Tryz.prog 58 #[.int .i64 day, .int .i64 days, .int .i64 2] w fun e w' => e = .returned (.tuple #[.agg #[.int .i64 (day - days), .int .i64 (day - 1)], .int .i64 0]) ∧ Below w.heap.size w w' := by
  have HD : Hid (isDay day = true) := Lib.hid (by simp [isDay, d1, d2])
  have HS : Hid (isSpanB (day - days) (day - 1) = true) := Lib.hid (by simp [isSpanB]; omega)
  go_enter Tryz.func58, Tryz.ntmps58
  go_wp2_with (first
    | (go_at_call 80; refine (c80 _ _).mono ?_; rw [HD.out]; rintro e w1 ⟨rfl, rfl⟩)
    | (go_at_call 99; refine (c99 _ _).mono ?_; rintro e w1 ⟨rfl, rfl⟩))
  refine call_named (fun V => Below w.heap.size w V ∧ Hid (V.heap[w.heap.size]? = some (spanOf ⟨0, 0⟩)) ∧ Hid (V.heap[w.heap.size + 1]? = some (spanOf ⟨day - days, day - 1⟩))) (box_two _ _ _) ?_
  rintro X0 ⟨hB, K0, K1⟩
  refine (c100 _ _ _).mono ?_
  rw [HS.out]
  rintro e X1 ⟨rfl, hb⟩
  replace K0 := keepB hb K0
  replace K1 := keepB hb K1
  replace hB := hB.trans (hb.mono hB.size)
  clear hb
  obtain ⟨t0, t1, tF, tL⟩ := span_at' K0.out
  obtain ⟨u0, u1, uF, uL⟩ := span_at' K1.out
  go_wp2_with fail
  obtain ⟨Y, hY, hYb, hYg, -⟩ := store2b K0.out (day - days) (day - 1)
  rw [hY]
  have hg := hYg w hB (Nat.le_refl _)
  obtain ⟨y0, y1, yF, yL⟩ := span_at' hYb
  clear hY hYb hYg
  exact bodyPost_ret (v := .tuple #[spv ⟨day - days, day - 1⟩, .int .i64 0]) (by simp [results, Tryz.results58, go_sem, spv, y0, y1]) rfl ⟨rfl, hg⟩
set_option maxHeartbeats 2000000 in
set_option maxRecDepth 100000 in
theorem c58_2n (day days : Int) (w : World) (d1 : 0 ≤ day) (d2 : day ≤ 60000) (d3 : 1 ≤ days) (d4 : days ≤ 62) (h : day < days) : Calls Tryz.prog 58 #[.int .i64 day, .int .i64 days, .int .i64 2] w fun e w' => e = .returned (.tuple #[.agg #[.int .i64 0, .int .i64 0], .int .i64 3]) ∧ Below w.heap.size w w' := by
  have HD : Hid (isDay day = true) := Lib.hid (by simp [isDay, d1, d2])
  have HS : Hid (isSpanB (day - days) (day - 1) = false) := Lib.hid (by simp [isSpanB]; omega)
  go_enter Tryz.func58, Tryz.ntmps58
  go_wp2_with (first
    | (go_at_call 80; refine (c80 _ _).mono ?_; rw [HD.out]; rintro e w1 ⟨rfl, rfl⟩)
    | (go_at_call 99; refine (c99 _ _).mono ?_; rintro e w1 ⟨rfl, rfl⟩))
  refine call_named (fun V => Below w.heap.size w V ∧ Hid (V.heap[w.heap.size]? = some (spanOf ⟨0, 0⟩)) ∧ Hid (V.heap[w.heap.size + 1]? = some (spanOf ⟨day - days, day - 1⟩))) (box_two _ _ _) ?_
  rintro X0 ⟨hB, K0, K1⟩
  refine (c100 _ _ _).mono ?_
  rw [HS.out]
  rintro e X1 ⟨rfl, hb⟩
  replace K0 := keepB hb K0
  replace K1 := keepB hb K1
  replace hB := hB.trans (hb.mono hB.size)
  clear hb
  obtain ⟨t0, t1, tF, tL⟩ := span_at' K0.out
  obtain ⟨u0, u1, uF, uL⟩ := span_at' K1.out
  go_wp2_with fail
  obtain ⟨Y, hY, hYb, hYg, -⟩ := store2b K0.out (0) (0)
  rw [hY]
  have hg := hYg w hB (Nat.le_refl _)
  obtain ⟨y0, y1, yF, yL⟩ := span_at' hYb
  clear hY hYb hYg
  exact bodyPost_ret (v := .tuple #[spv ⟨0, 0⟩, .int .i64 3]) (by simp [results, Tryz.results58, go_sem, spv, y0, y1]) rfl ⟨rfl, hg⟩
end Go.Proofs.YthifeoebefbalaaGreatDoor
