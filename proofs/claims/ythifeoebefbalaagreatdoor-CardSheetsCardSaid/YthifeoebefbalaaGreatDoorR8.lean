/- The reference: numbers in digits. -/
import Derived.Test.YthifeoebefbalaaGreatDoorZ3
set_option linter.unusedVariables false
set_option linter.unusedSimpArgs false
namespace Go.Proofs.YthifeoebefbalaaGreatDoor
open Go.RowKit

theorem itoa_one (n : Int) (h0 : 0 ≤ n) (h1 : n < 10) : Lib.itoa n = [UInt8.ofNat (48 + n % 10).toNat] := by
  have e : (48 + n % 10).toNat = 48 + n.toNat := by omega
  rw [Lib.itoa, if_neg (by omega), Lib.decDigits_one (by omega), e]
theorem itoa_more (n : Int) (h0 : 0 ≤ n) (h1 : ¬ n < 10) : Lib.itoa n = Lib.itoa (n / 10) ++ [UInt8.ofNat (48 + n % 10).toNat] := by
  have e : (48 + n % 10).toNat = 48 + n.toNat % 10 := by omega
  have e2 : (n / 10).toNat = n.toNat / 10 := by omega
  rw [Lib.itoa, if_neg (by omega), Lib.itoa, if_neg (by omega), Lib.decDigits, dif_neg (by omega), e, e2]
/-- A byte on its own, as a text. -/
theorem one_byte (w : World) (v : Int) (h0 : 0 ≤ v) (h1 : v < 256) : (convert 111 9 (.slice (some ⟨w.heap.size, 0, none⟩) 1 1)).run Tryz.prog (w.alloc (.cells #[.int .u8 v] 5)) = .ok (.string ⟨[UInt8.ofNat v.toNat].toArray⟩) (w.alloc (.cells #[.int .u8 v] 5)) := by
  refine run_convert_bytes_back (P := Tryz.prog) _ 111 9 5 ⟨w.heap.size, 0, none⟩ 1 [UInt8.ofNat v.toNat] Tryz.underlying111 Tryz.underlying5 Tryz.underlying9 (fun j hj => ?_)
  obtain rfl : j = 0 := by simpa using hj
  have hv : ((UInt8.ofNat v.toNat).toNat : Int) = v := by simp; omega
  have h := cell_of_row (w.alloc (.cells #[.int .u8 v] 5)) w.heap.size 0 #[.int .u8 v] 5 (0, 0) (heap_alloc_new w _)
  refine h.trans ?_
  show some (Value.int .u8 v) = some (Value.int .u8 ((UInt8.ofNat v.toNat).toNat : Int))
  rw [hv]
set_option maxRecDepth 100000 in
set_option maxHeartbeats 2000000 in
theorem c89' (m : Nat) : ∀ n : Int, 0 ≤ n → n ≤ m → n ≤ 1000000000000 → ∀ w : World, Calls Tryz.prog 89 #[.int .i64 n] w fun e w' => e = .returned (.string ⟨(Lib.itoa n).toArray⟩) ∧ Below w.heap.size w w' := by
  induction m with
  | zero =>
    intro n h0 h1 h2 w
    have HS := Lib.hid (itoa_one n h0 (by omega))
    have hb8 := fun W => one_byte W (48 + n % 10) (by omega) (by omega)
    go_enter Tryz.func89, Tryz.ntmps89
    go_wp2_with fail
    go_ret
    exact ⟨ret_str (by rw [HS.out]), by repeat (first | exact xr _ | apply xa)⟩
  | succ m ih =>
    intro n h0 h1 h2 w
    have IH := Lib.hid ih
    clear ih
    have hb8 := fun W => one_byte W (48 + n % 10) (by omega) (by omega)
    by_cases hn : n < 10
    · have HS := Lib.hid (itoa_one n h0 hn)
      go_enter Tryz.func89, Tryz.ntmps89
      go_wp2_with fail
      go_ret
      exact ⟨ret_str (by rw [HS.out]), by repeat (first | exact xr _ | apply xa)⟩
    · have HS := Lib.hid (itoa_more n h0 hn)
      have hl := Lib.itoa_length_le (n / 10) (by omega) (by omega)
      go_enter Tryz.func89, Tryz.ntmps89
      go_wp2_with (go_at_call 89; refine (IH.out _ (by omega) (by omega) (by omega) _).mono ?_; rintro e w1 ⟨rfl, hb1⟩)
      go_ret
      exact ⟨ret_str (by rw [HS.out]), below_trans (by repeat (first | exact xr _ | apply xa)) hb1⟩
end Go.Proofs.YthifeoebefbalaaGreatDoor
