/- The reference: the day of a date. -/
import Derived.Test.YthifeoebefbalaaGreatDoorY1
import Derived.Test.YthifeoebefbalaaGreatDoorR9
set_option linter.unusedVariables false
set_option linter.unusedSimpArgs false
namespace Go.Proofs.YthifeoebefbalaaGreatDoor
open Go.RowKit

theorem c165 (n lo hi : Int) (w : World) : Calls Tryz.prog 165 #[.int .i64 n, .int .i64 lo, .int .i64 hi] w fun e w' => e = .returned (.bool (decide (lo ≤ n) && decide (n ≤ hi))) ∧ w = w' := by
  by_cases h1 : lo ≤ n
  all_goals by_cases h2 : n ≤ hi
  all_goals go_enter Tryz.func165, Tryz.ntmps165
  all_goals go_wp2
  all_goals go_ret
  all_goals exact ⟨by simp [h1, h2], rfl⟩
theorem c165_yes {n lo hi : Int} (h1 : lo ≤ n) (h2 : n ≤ hi) : ∀ W, Hid (Calls Tryz.prog 165 #[.int .i64 n, .int .i64 lo, .int .i64 hi] W fun e w' => e = .returned (.bool true) ∧ Below W.heap.size W w') := fun W => Lib.hid (by
  have := c165 n lo hi W
  rw [decide_eq_true h1, decide_eq_true h2] at this
  exact this.mono fun e w' ⟨h, k⟩ => ⟨h, k ▸ xr _⟩)
theorem c165_no {n lo hi : Int} (h1 : n < lo ∨ hi < n) : ∀ W, Hid (Calls Tryz.prog 165 #[.int .i64 n, .int .i64 lo, .int .i64 hi] W fun e w' => e = .returned (.bool false) ∧ Below W.heap.size W w') := fun W => Lib.hid (by
  have := c165 n lo hi W
  have e : (decide (lo ≤ n) && decide (n ≤ hi)) = false := by
    rcases h1 with h | h
    · rw [decide_eq_false (p := lo ≤ n) (by omega)]; rfl
    · rw [decide_eq_false (p := n ≤ hi) (by omega), Bool.and_false]
  rw [e] at this
  exact this.mono fun e w' ⟨h, k⟩ => ⟨h, k ▸ xr _⟩)
theorem c123r_H {n : Int} {b : Bool} (h : isDay n = b) : ∀ W, Hid (Calls Tryz.prog 123 #[.int .i64 n] W fun e w' => e = .returned (.bool b) ∧ W = w') := fun W => Lib.hid (by
  subst h
  go_enter Tryz.func123, Tryz.ntmps123
  go_wp2_with (go_at_call 165; refine (c165 _ _ _ _).mono ?_; rintro e w1 ⟨rfl, rfl⟩)
  go_ret
  exact ⟨rfl, rfl⟩)
theorem c166_H {y m L : Int} (h : mlen y m = L) (h0 : 0 ≤ y) (h1 : 1 ≤ m) (h2 : m ≤ 12) : ∀ W, Hid (Calls Tryz.prog 166 #[.int .i64 y, .int .i64 m] W fun e w' => e = .returned (.int .i64 L) ∧ Below W.heap.size W w') := fun W => Lib.hid ((h ▸ c166 y m W h0 h1 h2).mono fun e w' ⟨h, k⟩ => ⟨h, k ▸ xr _⟩)
theorem c141_H {m : Int} {b : Int} (h : dbegin m = b) (h0 : 0 ≤ m) (h1 : m ≤ 2000) : ∀ W, Hid (Calls Tryz.prog 141 #[.int .i64 m] W fun e w' => e = .returned (.int .i64 b) ∧ Below W.heap.size W w') := fun W => Lib.hid ((h ▸ c141 m W h0 h1).mono fun e w' ⟨h, k⟩ => ⟨h, k ▸ xr _⟩)
theorem dnum_no {y m d : Int} (h : dexists y m d = false) : orM (dnum y m d) = -1 := by rw [dnum, h, if_neg (by simp)]; rfl
set_option maxRecDepth 100000 in
set_option maxHeartbeats 4000000 in
theorem c121 (y m d : Int) (w : World) : Calls Tryz.prog 121 #[.agg #[.int .i64 y, .int .i64 m, .int .i64 d]] w fun e w' => e = .returned (.int .i64 (orM (dnum y m d))) ∧ Below w.heap.size w w' := by
  have hcell0 := fun x => gw_cell (w.alloc (.cells #[.int .i64 y, .int .i64 m, .int .i64 d] 41)) x (b := w.heap.size) (o := 0) (v := .int .i64 y) (by go_simp)
  have hcell1 := fun x => gw_cell (w.alloc (.cells #[.int .i64 y, .int .i64 m, .int .i64 d] 41)) x (b := w.heap.size) (o := 1) (v := .int .i64 m) (by go_simp)
  have hcell2 := fun x => gw_cell (w.alloc (.cells #[.int .i64 y, .int .i64 m, .int .i64 d] 41)) x (b := w.heap.size) (o := 2) (v := .int .i64 d) (by go_simp)
  obtain ⟨R, hR⟩ : ∃ R, orM (dnum y m d) = R := ⟨_, rfl⟩
  rw [hR]
  by_cases hy0 : ¬ (1850 ≤ y ∧ y ≤ 2014)
  · have HY := c165_no (n := y) (lo := 1850) (hi := 2014) (by omega)
    obtain rfl : -1 = R := by rw [← hR, dnum_no (by cases h : dexists y m d with | false => rfl | true => have := dexists_true.1 h; omega)]
    clear hR
    go_enter Tryz.func121, Tryz.ntmps121
    go_wp2_with fail
    refine wp_region_gw (by kernel_rfl) (by kernel_rfl) ?_
    repeat (go_big_quiet_step (first | (go_at_call 165; with_reducible exact gw_call (HY _).out)))
    refine wpQuiet_nil ?_
    rintro _ ⟨x, rfl⟩
    go_wp2
    go_ret
    exact ⟨rfl, below_trans ((Below.refl _ _).alloc (Nat.le_refl _) _) (gw_below _ _)⟩
  have hy : 1850 ≤ y ∧ y ≤ 2014 := Decidable.of_not_not hy0
  have HY := c165_yes (n := y) (lo := 1850) (hi := 2014) hy.1 hy.2
  by_cases hm0 : ¬ (1 ≤ m ∧ m ≤ 12)
  · have HM := c165_no (n := m) (lo := 1) (hi := 12) (by omega)
    obtain rfl : -1 = R := by rw [← hR, dnum_no (by cases h : dexists y m d with | false => rfl | true => have := dexists_true.1 h; omega)]
    clear hR
    go_enter Tryz.func121, Tryz.ntmps121
    go_wp2_with fail
    refine wp_region_gw (by kernel_rfl) (by kernel_rfl) ?_
    repeat (go_big_quiet_step (first | (go_at_call 165; with_reducible exact gw_call (HY _).out) | (go_at_call 165; with_reducible exact gw_call (HM _).out)))
    refine wpQuiet_nil ?_
    rintro _ ⟨x, rfl⟩
    go_wp2
    go_ret
    exact ⟨rfl, below_trans ((Below.refl _ _).alloc (Nat.le_refl _) _) (gw_below _ _)⟩
  have hm : 1 ≤ m ∧ m ≤ 12 := Decidable.of_not_not hm0
  have HM := c165_yes (n := m) (lo := 1) (hi := 12) hm.1 hm.2
  by_cases hd : d < 1
  · obtain rfl : -1 = R := by rw [← hR, dnum_no (by cases h : dexists y m d with | false => rfl | true => have := dexists_true.1 h; omega)]
    clear hR
    go_enter Tryz.func121, Tryz.ntmps121
    go_wp2_with fail
    refine wp_region_gw (by kernel_rfl) (by kernel_rfl) ?_
    repeat (go_big_quiet_step (first | (go_at_call 165; with_reducible exact gw_call (HY _).out) | (go_at_call 165; with_reducible exact gw_call (HM _).out)))
    refine wpQuiet_nil ?_
    rintro _ ⟨x, rfl⟩
    go_wp2
    go_ret
    exact ⟨rfl, below_trans ((Below.refl _ _).alloc (Nat.le_refl _) _) (gw_below _ _)⟩
  have hd' : decide (d < 1) = false := decide_eq_false hd
  obtain ⟨L, hL⟩ : ∃ L, mlen y m = L := ⟨_, rfl⟩
  have HL := c166_H hL (by omega) hm.1 hm.2
  have hLb := mlen_bd y m
  rw [hL] at hLb
  by_cases hl : L < d
  · obtain rfl : -1 = R := by rw [← hR, dnum_no (by cases h : dexists y m d with | false => rfl | true => have := dexists_true.1 h; omega)]
    clear hR hL
    go_enter Tryz.func121, Tryz.ntmps121
    go_wp2_with fail
    refine wp_region_gw (by kernel_rfl) (by kernel_rfl) ?_
    repeat (go_big_quiet_step (first | (go_at_call 165; with_reducible exact gw_call (HY _).out) | (go_at_call 165; with_reducible exact gw_call (HM _).out) | (go_at_call 166; with_reducible exact gw_call (HL _).out)))
    refine wpQuiet_nil ?_
    rintro _ ⟨x, rfl⟩
    go_wp2
    go_ret
    exact ⟨rfl, below_trans ((Below.refl _ _).alloc (Nat.le_refl _) _) (gw_below _ _)⟩
  have hl' : decide (L < d) = false := decide_eq_false hl
  have he : dexists y m d = true := dexists_true.2 ⟨hy.1, hy.2, hm.1, hm.2, by omega, by omega⟩
  have hb := dbegin_bd (12 * (y - 1850) + m - 1) (by omega) (by omega)
  obtain ⟨b, hbb⟩ : ∃ b, dbegin (12 * (y - 1850) + m - 1) = b := ⟨_, rfl⟩
  have HB := c141_H hbb (by omega) (by omega)
  rw [hbb] at hb
  have hdd : dday y m d = b + d - 1 := by rw [dday, hbb]
  by_cases hlast : 60000 < b + d - 1
  · obtain rfl : -1 = R := by
      rw [← hR, dnum, if_neg (fun h => ?_)]; rfl
      have := h.2
      rw [hdd, isDay] at this
      simp at this
      omega
    clear hR hL hbb hdd he
    go_enter Tryz.func121, Tryz.ntmps121
    go_wp2_with fail
    refine wp_region_gw (by kernel_rfl) (by kernel_rfl) ?_
    repeat (go_big_quiet_step (first | (go_at_call 165; with_reducible exact gw_call (HY _).out) | (go_at_call 165; with_reducible exact gw_call (HM _).out) | (go_at_call 166; with_reducible exact gw_call (HL _).out)))
    refine wpQuiet_nil ?_
    rintro _ ⟨x, rfl⟩
    go_wp2_with fail
    refine wp_region_gwn (w.alloc (.cells #[.int .i64 y, .int .i64 m, .int .i64 d] 41)) (by kernel_rfl) (by kernel_rfl) (gw_below _ _) ?_
    repeat (go_big_quiet_step (first | (go_at_call 141; with_reducible exact gw_call (HB _).out)))
    refine wpQuiet_nil ?_
    rintro _ ⟨x2, rfl⟩
    go_wp2
    go_ret
    exact ⟨rfl, below_trans ((Below.refl _ _).alloc (Nat.le_refl _) _) (by repeat (first | exact xr _ | apply xg))⟩
  · obtain rfl : b + d - 1 = R := by
      rw [← hR, dnum, if_pos ⟨he, by rw [hdd, isDay, decide_eq_true (by omega), decide_eq_true (by omega)]; rfl⟩, hdd]; rfl
    clear hR hL hbb hdd he
    go_enter Tryz.func121, Tryz.ntmps121
    go_wp2_with fail
    refine wp_region_gw (by kernel_rfl) (by kernel_rfl) ?_
    repeat (go_big_quiet_step (first | (go_at_call 165; with_reducible exact gw_call (HY _).out) | (go_at_call 165; with_reducible exact gw_call (HM _).out) | (go_at_call 166; with_reducible exact gw_call (HL _).out)))
    refine wpQuiet_nil ?_
    rintro _ ⟨x, rfl⟩
    go_wp2_with fail
    refine wp_region_gwn (w.alloc (.cells #[.int .i64 y, .int .i64 m, .int .i64 d] 41)) (by kernel_rfl) (by kernel_rfl) (gw_below _ _) ?_
    repeat (go_big_quiet_step (first | (go_at_call 141; with_reducible exact gw_call (HB _).out)))
    refine wpQuiet_nil ?_
    rintro _ ⟨x2, rfl⟩
    go_wp2
    go_ret
    exact ⟨rfl, below_trans ((Below.refl _ _).alloc (Nat.le_refl _) _) (by repeat (first | exact xr _ | apply xg))⟩
end Go.Proofs.YthifeoebefbalaaGreatDoor
