/- The reference: the calendar, and the text of a card. -/
import Derived.Test.YthifeoebefbalaaGreatDoorR8
set_option linter.unusedVariables false
set_option linter.unusedSimpArgs false
namespace Go.Proofs.YthifeoebefbalaaGreatDoor
open Go.RowKit

theorem c89 (n : Int) (w : World) (h0 : 0 ≤ n) (h1 : n ≤ 1000000000000) : Calls Tryz.prog 89 #[.int .i64 n] w fun e w' => e = .returned (.string ⟨(Lib.itoa n).toArray⟩) ∧ Below w.heap.size w w' :=
  c89' n.toNat n h0 (by omega) h1 w
/-- Hundredths with two digits behind the point. -/
def fixedText (n : Int) : List UInt8 := Lib.itoa (n / 100) ++ 46 :: (Lib.itoa (n / 10 % 10) ++ Lib.itoa (n % 10))
set_option maxRecDepth 100000 in
theorem c142 (n : Int) (w : World) (h0 : 0 ≤ n) (h1 : n ≤ 1000000000000) : Calls Tryz.prog 142 #[.int .i64 n] w fun e w' => e = .returned (.string ⟨(fixedText n).toArray⟩) ∧ Below w.heap.size w w' := by
  have l1 := Lib.itoa_length_le (n / 100) (by omega) (by omega)
  have l2 := Lib.itoa_length_le (n / 10 % 10) (by omega) (by omega)
  have l3 := Lib.itoa_length_le (n % 10) (by omega) (by omega)
  go_enter Tryz.func142, Tryz.ntmps142
  go_wp2_with (go_at_call 89; refine (c89 _ _ (by omega) (by omega)).mono ?_; rintro e w1 ⟨rfl, hb1⟩; obtain ⟨x1, rfl⟩ := of_below hb1)
  go_ret
  exact ⟨ret_str (by simp [fixedText]), by repeat (first | exact xr _ | apply xa | apply xg)⟩
theorem c207 (y : Int) (w : World) (h0 : 0 ≤ y) : Calls Tryz.prog 207 #[.int .i64 y] w fun e w' => e = .returned (.bool (leap y)) ∧ w = w' := by
  by_cases h1 : y % 4 = 0
  all_goals by_cases h2 : y % 100 = 0
  all_goals by_cases h3 : y % 400 = 0
  all_goals go_enter Tryz.func207, Tryz.ntmps207
  all_goals go_wp2
  all_goals go_ret
  all_goals exact ⟨by simp [leap, h1, h2, h3], rfl⟩
set_option maxRecDepth 100000 in
theorem c166 (y m : Int) (w : World) (h0 : 0 ≤ y) (h1 : 1 ≤ m) (h2 : m ≤ 12) : Calls Tryz.prog 166 #[.int .i64 y, .int .i64 m] w fun e w' => e = .returned (.int .i64 (mlen y m)) ∧ w = w' := by
  by_cases hm : m = 2
  · subst hm
    cases h3 : leap y
    all_goals
      have H3 := Lib.hid h3
      clear h3
      go_enter Tryz.func166, Tryz.ntmps166
      go_wp2_with (go_at_call 207; refine (c207 _ _ (by omega)).mono ?_; rintro e w1 ⟨rfl, rfl⟩; rw [H3.out])
      go_ret
      exact ⟨ret_int (by rw [mlen_feb, H3.out]; simp), rfl⟩
  · have hl := mlen_other y m hm
    have HL := Lib.hid hl
    clear hl
    have hc : m = 1 ∨ m = 3 ∨ m = 4 ∨ m = 5 ∨ m = 6 ∨ m = 7 ∨ m = 8 ∨ m = 9 ∨ m = 10 ∨ m = 11 ∨ m = 12 := by omega
    rcases hc with rfl | rfl | rfl | rfl | rfl | rfl | rfl | rfl | rfl | rfl | rfl
    all_goals go_enter Tryz.func166, Tryz.ntmps166
    all_goals go_wp2
    all_goals go_ret
    all_goals exact ⟨ret_int (by rw [HL.out]; rfl), rfl⟩
theorem dbegin_le (m : Nat) (h : (m : Int) ≤ 3000) : 0 ≤ dbegin m ∧ dbegin m ≤ 31 * m := by
  induction m with
  | zero => rw [show ((0 : Nat) : Int) = 0 from rfl, dbegin_0]; omega
  | succ k ih =>
    have h1 := dbegin_succ k (by omega)
    have h2 := mlen_bd (1850 + (k : Int) / 12) ((k : Int) % 12 + 1)
    have h3 := ih (by omega)
    rw [show ((k + 1 : Nat) : Int) = (k : Int) + 1 from rfl]
    omega
set_option maxRecDepth 100000 in
set_option maxHeartbeats 2000000 in
theorem c141 (m : Int) (w : World) (h0 : 0 ≤ m) (h1 : m ≤ 2000) : Calls Tryz.prog 141 #[.int .i64 m] w fun e w' => e = .returned (.int .i64 (dbegin m)) ∧ w = w' := by
  go_enter Tryz.func141, Tryz.ntmps141
  go_wp2
  go_loopw [3, 4] (fun n k wr => ∃ j : Nat, (j : Int) ≤ m ∧ k = .int .i64 j ∧ n = .int .i64 (dbegin j) ∧ w = wr) (fun _ k _ => (3000 - intOf k).toNat)
  case atStart => exact ⟨0, by omega, rfl, rfl, rfl⟩
  case round =>
    obtain ⟨j, hj, rfl, rfl, rfl⟩ := hrel
    have hc := dbegin_le j (by omega)
    by_cases hlt : (j : Int) < m
    · have hd := mlen_bd (1850 + (j : Int) / 12) ((j : Int) % 12 + 1)
      go_wp2_with (go_at_call 166; refine (c166 _ _ _ (by omega) (by omega) (by omega)).mono ?_; rintro e w1 ⟨rfl, rfl⟩)
      go_roundw
      case rel => exact ⟨j + 1, by omega, by go_num, by rw [show ((j + 1 : Nat) : Int) = (j : Int) + 1 from rfl, dbegin_succ _ (by omega)], trivial⟩
      case measure => simp [intOf]; omega
    · go_wp2
      go_ret
      have : (j : Int) = m := by omega
      subst this
      exact ⟨rfl, rfl⟩
theorem dbegin_mono (j k : Nat) (h : j ≤ k) : dbegin j ≤ dbegin k := by
  induction k with
  | zero => obtain rfl : j = 0 := by omega
            exact Int.le_refl _
  | succ k ih =>
    by_cases hj : j = k + 1
    · rw [hj]; exact Int.le_refl _
    · have h1 := dbegin_succ k (by omega)
      have h2 := mlen_bd (1850 + (k : Int) / 12) ((k : Int) % 12 + 1)
      have h3 := ih (by omega)
      rw [show ((k + 1 : Nat) : Int) = (k : Int) + 1 from rfl]
      omega
theorem mfind_unique (day : Int) (j : Nat) (h0 : 0 ≤ day) (h1 : day ≤ 60000) (h2 : dbegin j ≤ day) (h3 : day < dbegin (j + 1)) : mfind day = j := by
  obtain ⟨k1, k2⟩ := mfind_spec day h0 h1
  have hb := mfind_bd day
  obtain ⟨k, hk⟩ : ∃ k : Nat, mfind day = k := ⟨(mfind day).toNat, by omega⟩
  rw [hk] at k1 k2 ⊢
  have a1 : ¬ j + 1 ≤ k := fun h => by
    have := dbegin_mono (j + 1) k h
    rw [show ((j + 1 : Nat) : Int) = (j : Int) + 1 from rfl] at this
    omega
  have a2 : ¬ k + 1 ≤ j := fun h => by
    have := dbegin_mono (k + 1) j h
    rw [show ((k + 1 : Nat) : Int) = (k : Int) + 1 from rfl] at this
    omega
  omega
set_option maxRecDepth 100000 in
set_option maxHeartbeats 2000000 in
theorem c140 (day : Int) (w : World) (h0 : 0 ≤ day) (h1 : day ≤ 60000) : Calls Tryz.prog 140 #[.int .i64 day] w fun e w' => e = .returned (.int .i64 (mfind day)) ∧ w = w' := by
  have HU := Lib.hid (mfind_unique day)
  go_enter Tryz.func140, Tryz.ntmps140
  go_wp2
  go_loopw [0, 3] (fun n k wr => ∃ j : Nat, dbegin j ≤ day ∧ k = .int .i64 j ∧ n = .int .i64 (day - dbegin j) ∧ w = wr) (fun _ k _ => (3000 - intOf k).toNat)
  case atStart => exact ⟨0, by rw [show ((0 : Nat) : Int) = 0 from rfl, dbegin_0]; exact h0, rfl, by rw [show ((0 : Nat) : Int) = 0 from rfl, dbegin_0]; simp, rfl⟩
  case round =>
    obtain ⟨j, hj, rfl, rfl, rfl⟩ := hrel
    have h28 := dbegin_28 j
    have hc := dbegin_le j (by omega)
    have hd := mlen_bd (1850 + (j : Int) / 12) ((j : Int) % 12 + 1)
    have HN := Lib.hid (dbegin_succ j (by omega))
    by_cases hlt : mlen (1850 + (j : Int) / 12) ((j : Int) % 12 + 1) ≤ day - dbegin j
    · go_wp2_with (go_at_call 166; refine (c166 _ _ _ (by omega) (by omega) (by omega)).mono ?_; rintro e w1 ⟨rfl, rfl⟩)
      go_roundw
      case rel => exact ⟨j + 1, by rw [show ((j + 1 : Nat) : Int) = (j : Int) + 1 from rfl, HN.out]; omega, by go_num, by rw [show ((j + 1 : Nat) : Int) = (j : Int) + 1 from rfl, HN.out]; congr 1; omega, trivial⟩
      case measure => simp [intOf]; omega
    · go_wp2_with (go_at_call 166; refine (c166 _ _ _ (by omega) (by omega) (by omega)).mono ?_; rintro e w1 ⟨rfl, rfl⟩)
      go_ret
      exact ⟨ret_int (HU.out j h0 h1 hj (by rw [HN.out]; omega)).symm, rfl⟩
theorem decimal_step (q : Int) (h0 : 0 ≤ q) (h : 9 < q) (s : List UInt8) : (if q < 10 then [] else Lib.itoa (q / 10)) ++ s = (if q / 10 < 10 then [] else Lib.itoa (q / 10 / 10)) ++ (UInt8.ofNat (48 + q / 10 % 10).toNat :: s) := by
  rw [if_neg (by omega)]
  by_cases hh : q / 10 < 10
  · rw [if_pos hh, itoa_one (q / 10) (by omega) hh]; rfl
  · rw [if_neg hh, itoa_more (q / 10) (by omega) hh]; simp
theorem decimal_start (n : Int) (h0 : 0 ≤ n) : Lib.itoa n = (if n < 10 then [] else Lib.itoa (n / 10)) ++ [UInt8.ofNat (48 + n % 10).toNat] := by
  by_cases hh : n < 10
  · rw [if_pos hh, itoa_one n h0 hh]; rfl
  · rw [if_neg hh, itoa_more n h0 hh]
theorem suffix_len {l a s : List UInt8} {k : Nat} (h : l = a ++ s) (hl : l.length ≤ k) : s.length ≤ k := by rw [h, List.length_append] at hl; omega
set_option maxRecDepth 100000 in
set_option maxHeartbeats 2000000 in
theorem c139 (n : Int) (w : World) (h0 : 0 ≤ n) (h1 : n ≤ 1000000000000) : Calls Tryz.prog 139 #[.int .i64 n] w fun e w' => e = .returned (.string ⟨(Lib.itoa n).toArray⟩) ∧ Below w.heap.size w w' := by
  have hb8 := fun W => one_byte W (48 + n % 10) (by omega) (by omega)
  have HL := Lib.hid (Lib.itoa_length_le n (by omega) (by omega))
  have HST := Lib.hid (decimal_start n h0)
  go_enter Tryz.func139, Tryz.ntmps139
  go_wp2
  go_loopw [0, 3] (fun k v wr => ∃ (q : Int) (s : List UInt8), 0 ≤ q ∧ q ≤ n ∧ k = .int .i64 q ∧ v = .string ⟨s.toArray⟩ ∧ Hid (Lib.itoa n = (if q < 10 then [] else Lib.itoa (q / 10)) ++ s) ∧ Below w.heap.size w wr) (fun k _ _ => (intOf k).toNat)
  case atStart => exact ⟨n, _, h0, Int.le_refl _, rfl, rfl, HST, by repeat (first | exact xr _ | apply xa)⟩
  case round =>
    obtain ⟨q, s, hq, hqn, rfl, rfl, HQ, hb⟩ := hrel
    have hl := suffix_len HQ.out HL.out
    have hb8' := fun W => one_byte W (48 + q / 10 % 10) (by omega) (by omega)
    clear hb8 HST
    by_cases hlt : 9 < q
    · have hs := decimal_step q hq hlt s
      have HS := Lib.hid (HQ.out.trans hs)
      clear hs HQ
      go_wp2_with fail
      go_roundw
      case rel => exact ⟨q / 10, UInt8.ofNat (48 + q / 10 % 10).toNat :: s, by omega, by omega, rfl, rfl, HS, xa hb _⟩
      case measure => simp [intOf]; omega
    · go_wp2_with fail
      go_ret
      exact ⟨ret_str (by rw [HQ.out, if_pos (by omega)]; rfl), hb⟩
end Go.Proofs.YthifeoebefbalaaGreatDoor
