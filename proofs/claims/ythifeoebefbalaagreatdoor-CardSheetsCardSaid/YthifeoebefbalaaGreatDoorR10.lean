/- The reference: the text of a card. -/
import Derived.Test.YthifeoebefbalaaGreatDoorR9
set_option linter.unusedVariables false
set_option linter.unusedSimpArgs false
namespace Go.Proofs.YthifeoebefbalaaGreatDoor
open Go.RowKit

theorem hundred_digits (r : Int) (h0 : 0 ≤ r) (h1 : r < 100) : (Lib.itoa (100 + r)).drop 1 = Lib.itoa (r / 10) ++ Lib.itoa (r % 10) := by
  have e1 : (100 + r) / 10 % 10 = r / 10 % 10 := by omega
  have e2 : (100 + r) % 10 = r % 10 % 10 := by omega
  rw [itoa_more (100 + r) (by omega) (by omega), itoa_more ((100 + r) / 10) (by omega) (by omega), itoa_one ((100 + r) / 10 / 10) (by omega) (by omega), itoa_one (r / 10) (by omega) (by omega), itoa_one (r % 10) (by omega) (by omega), e1, e2]
  rfl
theorem fixed_two (n : Int) (h0 : 0 ≤ n) : fixedText n = decText n 2 := by
  have e1 : n % 100 / 10 = n / 10 % 10 := by omega
  have e2 : n % 100 % 10 = n % 10 := by omega
  rw [fixedText, decText, if_neg (by decide), hundred_digits (n % 100) (by omega) (by omega), e1, e2, itoa_one (n / 10 % 10) (by omega) (by omega), itoa_one (n % 10) (by omega) (by omega)]
  rfl
theorem tenth_one (n : Int) (h0 : 0 ≤ n) : Lib.itoa (n / 100) ++ 46 :: Lib.itoa (n / 10 % 10) = decText n 1 := by
  have e1 : n % 100 / 10 = n / 10 % 10 := by omega
  rw [decText, if_neg (by decide), hundred_digits (n % 100) (by omega) (by omega), e1, itoa_one (n / 10 % 10) (by omega) (by omega), itoa_one (n % 100 % 10) (by omega) (by omega)]
  rfl
theorem whole_zero (n : Int) : Lib.itoa (n / 100) = decText n 0 := by rw [decText, if_pos rfl, List.append_nil]
theorem c142d (n : Int) (w : World) (h0 : 0 ≤ n) (h1 : n ≤ 1000000000000) : Calls Tryz.prog 142 #[.int .i64 n] w fun e w' => e = .returned (.string ⟨(decText n 2).toArray⟩) ∧ Below w.heap.size w w' := by
  rw [← fixed_two n h0]; exact c142 n w h0 h1
set_option maxRecDepth 100000 in
set_option maxHeartbeats 2000000 in
theorem c92 (c : Card) (w : World) (h : isCard c = true) : Calls Tryz.prog 92 #[cv c] w fun e w' => e = .returned (.string ⟨(wordOf c.ki ++ cardAmount c).toArray⟩) ∧ Below w.heap.size w w' := by
  obtain ⟨h1, h2, h3, h4, h5, h6, h7, h8, h9, h10⟩ := isCard_true h
  clear h
  obtain ⟨st, da, dy, ki, am, fi⟩ := c
  unfold cv
  simp only at h7 h8 h9 h10 ⊢
  have H9 := Lib.hid h9
  clear h9 h10 h1 h2 h3 h4 h5 h6
  by_cases k2 : ki = 2
  · subst k2
    go_enter Tryz.func92, Tryz.ntmps92
    go_wp2
    go_ret
    exact ⟨ret_str (by simp [wordOf, cardAmount]), by repeat (first | exact xr _ | apply xa)⟩
  by_cases k3 : ki = 3
  · subst k3
    go_enter Tryz.func92, Tryz.ntmps92
    go_wp2
    go_ret
    exact ⟨ret_str (by simp [wordOf, cardAmount]), by repeat (first | exact xr _ | apply xa)⟩
  by_cases k4 : ki = 4
  · subst k4
    go_enter Tryz.func92, Tryz.ntmps92
    go_wp2
    go_ret
    exact ⟨ret_str (by simp [wordOf, cardAmount]), by repeat (first | exact xr _ | apply xa)⟩
  obtain rfl : ki = 1 := by omega
  obtain ⟨g1, g2, g3, g4, -⟩ := H9.out rfl
  clear H9 h7 h8 k2 k3 k4
  have l1 := Lib.itoa_length_le (am / 100) (by omega) (by omega)
  have l2 := Lib.itoa_length_le (am / 10 % 10) (by omega) (by omega)
  have l6 := decText_len am 2 g3 (by omega)
  have l7 := decText_len fi 2 (by omega) (by omega)
  by_cases f1 : fi = 1
  · subst f1
    go_enter Tryz.func92, Tryz.ntmps92
    go_wp2_with (go_at_call 142; refine (c142d _ _ (by omega) (by omega)).mono ?_; rintro e w4 ⟨rfl, hb4⟩)
    go_ret
    exact ⟨ret_str (by simp [wordOf, cardAmount]), below_trans (by repeat (first | exact xr _ | apply xa)) hb4⟩
  by_cases f10 : fi = 10
  · subst f10
    go_enter Tryz.func92, Tryz.ntmps92
    go_wp2_with fail
    refine wp_region_gw (by kernel_rfl) (by kernel_rfl) ?_
    repeat (go_big_quiet_step ((go_at_call 89; exact gw_call (c89 _ _ (by omega) (by omega)))))
    refine wpQuiet_nil ?_
    rintro _ ⟨x4, rfl⟩
    go_wp2
    go_ret
    exact ⟨ret_str (by simp [wordOf, cardAmount, ← tenth_one am g3]), below_trans (by repeat (first | exact xr _ | apply xa)) (gw_below _ _)⟩
  by_cases f100 : fi = 100
  · subst f100
    go_enter Tryz.func92, Tryz.ntmps92
    go_wp2_with (go_at_call 89; refine (c89 _ _ (by omega) (by omega)).mono ?_; rintro e w4 ⟨rfl, hb4⟩)
    go_ret
    exact ⟨ret_str (by simp [wordOf, cardAmount, whole_zero]), below_trans (by repeat (first | exact xr _ | apply xa)) hb4⟩
  go_enter Tryz.func92, Tryz.ntmps92
  go_wp2_with fail
  refine wp_region_gw (by kernel_rfl) (by kernel_rfl) ?_
  repeat (go_big_quiet_step ((go_at_call 142; exact gw_call (c142d _ _ (by omega) (by omega)))))
  refine wpQuiet_nil ?_
  rintro _ ⟨x4, rfl⟩
  go_wp2
  go_ret
  exact ⟨ret_str (by simp [wordOf, cardAmount, f1, f10, f100]), below_trans (by repeat (first | exact xr _ | apply xa)) (gw_below _ _)⟩
theorem c91 (day : Int) (w : World) (h0 : 0 ≤ day) (h1 : day ≤ 60000) : Calls Tryz.prog 91 #[.int .i64 day] w fun e w' => e = .returned (dtv (dof day)) ∧ Below w.heap.size w w' := by
  have hm := mfind_bd day
  have hd := dbegin_bd (mfind day) (by omega) (by omega)
  go_enter Tryz.func91, Tryz.ntmps91
  go_wp2_with (first | (go_at_call 140; refine (c140 _ _ (by omega) (by omega)).mono ?_; rintro e w1 ⟨rfl, rfl⟩) | (go_at_call 141; refine (c141 _ _ (by omega) (by omega)).mono ?_; rintro e w2 ⟨rfl, rfl⟩))
  exact bodyPost_ret (v := dtv (dof day)) (by simp [results, Tryz.results91, go_sem, dtv, dof]) rfl ⟨rfl, below_alloc _ _⟩
theorem c90 (y m d : Int) (w : World) (hv : dexists y m d = true) : Calls Tryz.prog 90 #[.agg #[.int .i64 y, .int .i64 m, .int .i64 d]] w fun e w' => e = .returned (.string ⟨(dtext y m d).toArray⟩) ∧ Below w.heap.size w w' := by
  obtain ⟨h1, h2, h3, h4, h5, h6⟩ := dexists_true.1 hv
  have hm := mlen_bd y m
  have l1 := Lib.itoa_length_le d (by omega) (by omega)
  have l2 := Lib.itoa_length_le y (by omega) (by omega)
  clear hv
  go_enter Tryz.func90, Tryz.ntmps90
  go_wp2_with fail
  refine wp_region_gw (by kernel_rfl) (by kernel_rfl) ?_
  repeat (go_big_quiet_step ((go_at_call 139; exact gw_call (c139 _ _ (by omega) (by omega)))))
  refine wpQuiet_nil ?_
  rintro _ ⟨x, rfl⟩
  go_wp2
  go_ret
  refine ⟨?_, below_trans (below_alloc _ _) (gw_below _ _)⟩
  rfl
theorem dof_exists (day : Int) (h0 : 0 ≤ day) (h1 : day ≤ 60000) : dexists (dof day).y (dof day).m (dof day).d = true := by
  have hd := dnum_dof day h0 h1
  unfold dnum at hd
  split at hd
  · rename_i h; exact h.1
  · cases hd
theorem c90d (day : Int) (w : World) (h0 : 0 ≤ day) (h1 : day ≤ 60000) : Calls Tryz.prog 90 #[dtv (dof day)] w fun e w' => e = .returned (.string ⟨(dtext (dof day).y (dof day).m (dof day).d).toArray⟩) ∧ Below w.heap.size w w' :=
  c90 _ _ _ w (dof_exists day h0 h1)
theorem c92f (st da dy ki am fi : Int) (w : World) (h : isCard ⟨st, da, dy, ki, am, fi⟩ = true) : Calls Tryz.prog 92 #[.agg #[.int .i64 st, .int .i64 da, .int .i64 dy, .int .i64 ki, .int .i64 am, .int .i64 fi]] w fun e w' => e = .returned (.string ⟨(wordOf ki ++ cardAmount ⟨st, da, dy, ki, am, fi⟩).toArray⟩) ∧ Below w.heap.size w w' :=
  c92 ⟨st, da, dy, ki, am, fi⟩ w h
set_option maxRecDepth 100000 in
set_option maxHeartbeats 2000000 in
theorem c42 (c : Card) (w : World) (h : isCard c = true) : Calls Tryz.prog 42 #[cv c] w fun e w' => e = .returned (.string ⟨(ctext c).toArray⟩) ∧ Below w.heap.size w w' := by
  obtain ⟨h1, h2, h3, h4, h5, h6, h7, h8, h9, h10⟩ := isCard_true h
  have H := Lib.hid h
  clear h
  have hx := dexists_true.1 (dof_exists c.da h3 h4)
  have hm := mlen_bd (dof c.da).y (dof c.da).m
  have ht : (dtext (dof c.da).y (dof c.da).m (dof c.da).d).length ≤ 100 := dtext_len _ _ _ (by omega) (by omega) (by omega) (by omega)
  have lw : (wordOf c.ki ++ cardAmount c).length ≤ 80 := by
    have l3 : (wordOf c.ki).length ≤ 7 := by unfold wordOf; split <;> (try split) <;> (try split) <;> simp
    have : (cardAmount c).length ≤ 60 := by
      unfold cardAmount
      split
      · rename_i hk
        obtain ⟨g1, g2, g3, g4, -⟩ := h9 hk
        have l4 := decText_len c.am 0 g3 (by omega)
        have l5 := decText_len c.am 1 g3 (by omega)
        have l6 := decText_len c.am 2 g3 (by omega)
        have l7 := decText_len c.fi 2 (by omega) (by omega)
        split
        · omega
        · split
          · omega
          · split
            · omega
            · simp; omega
      · simp
    simp
    omega
  clear h9 h10 hx hm
  obtain ⟨st, da, dy, ki, am, fi⟩ := c
  unfold cv
  simp only at h1 h2 h3 h4 h5 h6 h7 h8 ht lw ⊢
  obtain ⟨T, hT⟩ : ∃ T, dtext (dof da).y (dof da).m (dof da).d = T := ⟨_, rfl⟩
  obtain ⟨U, hU⟩ : ∃ U, wordOf ki ++ cardAmount ⟨st, da, dy, ki, am, fi⟩ = U := ⟨_, rfl⟩
  have K0 := fun W => Lib.hid (c90d da W h3 h4)
  have K1 := fun W => Lib.hid (c92f st da dy ki am fi W H.out)
  have HC : Hid (ctext ⟨st, da, dy, ki, am, fi⟩ = Lib.itoa st ++ 32 :: (T ++ 32 :: (Lib.itoa dy ++ ([32, 100, 97, 121] ++ (if dy = 1 then [] else [115]) ++ 32 :: U)))) := Lib.hid (by rw [← hT, ← hU]; simp [ctext, cardHead])
  rw [hT] at ht K0
  rw [hU] at lw K1
  clear hT hU
  have l1 := Lib.itoa_length_le st (by omega) (by omega)
  have l2 := Lib.itoa_length_le dy (by omega) (by omega)
  by_cases hy : dy = 1
  case' pos => subst hy
  all_goals
    go_enter Tryz.func42, Tryz.ntmps42
    go_wp2_with fail
    refine wp_region_gw (by kernel_rfl) (by kernel_rfl) ?_
    repeat (go_big_quiet_step (first
      | (go_at_call 89; exact gw_call (c89 _ _ (by omega) (by omega)))
      | (go_at_call 91; exact gw_call (c91 _ _ (by omega) (by omega)))
      | (go_at_call 90; exact gw_call (K0 _).out)
      | (go_at_call 92; exact gw_call (K1 _).out)))
    refine wpQuiet_nil ?_
    rintro _ ⟨x, rfl⟩
    go_wp2
    go_ret
    exact ⟨ret_str (by rw [HC.out]; simp [*]), below_trans (by repeat (first | exact xr _ | apply xa)) (gw_below _ _)⟩
end Go.Proofs.YthifeoebefbalaaGreatDoor
