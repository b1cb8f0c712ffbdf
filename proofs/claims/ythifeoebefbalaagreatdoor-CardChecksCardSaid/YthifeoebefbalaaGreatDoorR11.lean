/- Order, of the program and of the reference. -/
import Derived.Test.YthifeoebefbalaaGreatDoorZ3
namespace Go.Proofs.YthifeoebefbalaaGreatDoor
open Go.RowKit

def orL : List Int → Int
  | [] => 0
  | x :: r => if x = 0 then orL r else x
def orderR (a b : Card) : Int := orL [Lib.compareInt a.st b.st, Lib.compareInt a.da b.da, Lib.compareInt a.dy b.dy, Lib.compareInt a.ki b.ki, Lib.compareInt a.am b.am, Lib.compareInt a.fi b.fi]
theorem orL_zero {x : Int} {r : List Int} (h : x = 0) : orL (x :: r) = orL r := by rw [orL, if_pos h]
theorem orL_some {x : Int} {r : List Int} (h : ¬ x = 0) : orL (x :: r) = x := by rw [orL, if_neg h]
theorem c102 (x y : Int) (w : World) : Calls Tryz.prog 102 #[.int .i64 x, .int .i64 y] w fun e w' => e = .returned (.int .i64 (Lib.compareInt x y)) ∧ w = w' := by
  by_cases h1 : x < y
  all_goals by_cases h2 : y < x
  all_goals try (exfalso; omega)
  all_goals go_enter Tryz.func102, Tryz.ntmps102
  all_goals go_wp2
  all_goals go_ret
  all_goals exact ⟨ret_int (by unfold Lib.compareInt; first | rw [if_pos (by omega)] | rw [if_neg (by omega), if_pos (by omega)] | rw [if_neg (by omega), if_neg (by omega)]), rfl⟩
set_option maxRecDepth 100000 in
set_option maxHeartbeats 4000000 in
theorem c143 (b : Nat) (x0 x1 x2 x3 x4 x5 : Int) (w : World) (_ : b < w.heap.size) (hc : ∀ i, w.cell? ⟨b, i, none⟩ = #[Value.int .i64 x0, .int .i64 x1, .int .i64 x2, .int .i64 x3, .int .i64 x4, .int .i64 x5][i]?) :
    Calls Tryz.prog 143 #[.slice (some ⟨b, 0, none⟩) 6 6] w fun e w' => e = .returned (.int .i64 (orL [x0, x1, x2, x3, x4, x5])) ∧ w = w' := by
  have k0 : w.cell? ⟨b, 0, none⟩ = some (.int .i64 x0) := hc 0
  have k1 : w.cell? ⟨b, 1, none⟩ = some (.int .i64 x1) := hc 1
  have k2 : w.cell? ⟨b, 2, none⟩ = some (.int .i64 x2) := hc 2
  have k3 : w.cell? ⟨b, 3, none⟩ = some (.int .i64 x3) := hc 3
  have k4 : w.cell? ⟨b, 4, none⟩ = some (.int .i64 x4) := hc 4
  have k5 : w.cell? ⟨b, 5, none⟩ = some (.int .i64 x5) := hc 5
  clear hc
  go_enter Tryz.func143, Tryz.ntmps143
  go_wp2
  go_loopw [8] (fun v wr => ∃ k : Nat, k ≤ 6 ∧ v = .int .i64 k ∧ Hid (orL [x0, x1, x2, x3, x4, x5] = orL ([x0, x1, x2, x3, x4, x5].drop k)) ∧ w = wr) (fun v _ => (10 - intOf v).toNat)
  case atStart => exact ⟨0, by omega, rfl, Lib.hid rfl, rfl⟩
  case round =>
    obtain ⟨k, hk, rfl, HK, rfl⟩ := hrel
    have hcase : k = 0 ∨ k = 1 ∨ k = 2 ∨ k = 3 ∨ k = 4 ∨ k = 5 ∨ k = 6 := by omega
    rcases hcase with rfl | rfl | rfl | rfl | rfl | rfl | rfl
    · by_cases hz : x0 = 0
      · go_wp2_with fail
        go_roundw
        case rel => exact ⟨1, by omega, rfl, Lib.hid (HK.out.trans (orL_zero hz)), trivial⟩
        case measure => simp [intOf]
      · go_wp2_with fail
        go_ret
        exact ⟨ret_int (HK.out.trans (orL_some hz)).symm, rfl⟩
    · by_cases hz : x1 = 0
      · go_wp2_with fail
        go_roundw
        case rel => exact ⟨2, by omega, rfl, Lib.hid (HK.out.trans (orL_zero hz)), trivial⟩
        case measure => simp [intOf]
      · go_wp2_with fail
        go_ret
        exact ⟨ret_int (HK.out.trans (orL_some hz)).symm, rfl⟩
    · by_cases hz : x2 = 0
      · go_wp2_with fail
        go_roundw
        case rel => exact ⟨3, by omega, rfl, Lib.hid (HK.out.trans (orL_zero hz)), trivial⟩
        case measure => simp [intOf]
      · go_wp2_with fail
        go_ret
        exact ⟨ret_int (HK.out.trans (orL_some hz)).symm, rfl⟩
    · by_cases hz : x3 = 0
      · go_wp2_with fail
        go_roundw
        case rel => exact ⟨4, by omega, rfl, Lib.hid (HK.out.trans (orL_zero hz)), trivial⟩
        case measure => simp [intOf]
      · go_wp2_with fail
        go_ret
        exact ⟨ret_int (HK.out.trans (orL_some hz)).symm, rfl⟩
    · by_cases hz : x4 = 0
      · go_wp2_with fail
        go_roundw
        case rel => exact ⟨5, by omega, rfl, Lib.hid (HK.out.trans (orL_zero hz)), trivial⟩
        case measure => simp [intOf]
      · go_wp2_with fail
        go_ret
        exact ⟨ret_int (HK.out.trans (orL_some hz)).symm, rfl⟩
    · by_cases hz : x5 = 0
      · go_wp2_with fail
        go_roundw
        case rel => exact ⟨6, by omega, rfl, Lib.hid (HK.out.trans (orL_zero hz)), trivial⟩
        case measure => simp [intOf]
      · go_wp2_with fail
        go_ret
        exact ⟨ret_int (HK.out.trans (orL_some hz)).symm, rfl⟩
    · go_wp2_with fail
      go_ret
      exact ⟨ret_int HK.out.symm, rfl⟩
end Go.Proofs.YthifeoebefbalaaGreatDoor
