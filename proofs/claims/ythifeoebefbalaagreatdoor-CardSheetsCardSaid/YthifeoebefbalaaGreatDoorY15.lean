/- The reference: a line with a station of its own. -/
import Derived.Test.YthifeoebefbalaaGreatDoorY14
set_option linter.unusedVariables false
set_option linter.unusedSimpArgs false
namespace Go.Proofs.YthifeoebefbalaaGreatDoor
open Go.RowKit

set_option maxRecDepth 100000 in
set_option maxHeartbeats 16000000 in
theorem c74_p_neg (s : List UInt8) (b0 b1 b2 b3 b4 b5 : Int) (has : Bool) (x : List UInt8) (zi S : Int) (hz : ¬ zi = 35) (hzb : (zi == 35) = false) (r : List (List UInt8)) (w : World) (hs : s.length ≤ 200) (hx : ¬ x.length = 0) (hx4 : x.length ≤ 4000) (hnd : (x == [100, 111]) = false)
    (hi : ∀ W, (Instr.index 9 (.string ⟨x.toArray⟩) (.int .i64 0)).run Tryz.prog W = .ok (.int .u8 zi) W)
    (H118 : ∀ W, Hid (Calls Tryz.prog 118 #[.string ⟨x.toArray⟩] W fun e w' => e = .returned (.int .i64 S) ∧ W = w'))
    (H35 : ∀ W, Hid (Calls Tryz.prog 35 #[.string ⟨s.toArray⟩] W fun e w' => (∃ g cap, e = .returned (.slice (some ⟨g, 0, none⟩) (r.length + 1) cap) ∧ Hid (r.length + 1 ≤ cap ∧ g < w'.heap.size ∧ WsAt w' g (x :: r))) ∧ Below W.heap.size W w')) (hS : S < 0)
    : Calls Tryz.prog 74 #[.string ⟨s.toArray⟩, .agg #[.int .i64 b0, .int .i64 b1, .int .i64 b2, .int .i64 b3, .int .i64 b4, .int .i64 b5], .bool has] w fun e w' => e = .returned (.agg #[.int .i64 (0), .int .i64 (0), .int .i64 (0), .int .i64 (0), .int .i64 (0), .int .i64 (0), .int .i64 (7)]) ∧ Below w.heap.size w w' := by
  go_enter Tryz.func74, Tryz.ntmps74
  go_wp2_with fail
  refine (H35 _).out.mono ?_
  rintro e W1 ⟨⟨g, cap, rfl, hH⟩, hb⟩
  obtain ⟨hcap, gl, WA⟩ := hH.out
  clear hH
  have st1 := (FinSt.start6 w b0 b1 b2 b3 b4 b5).grow hb
  clear hb
  obtain ⟨bb, kl, rl, k0, k1, k2, k3, k4, k5, kF, r0, r1, r2, r3, r4, r5, r6, rF⟩ := id st1
  have q0 : W1.cell? ⟨g, 0, none⟩ = some (.string ⟨x.toArray⟩) := WA 0 _ rfl
  have ne1 : ¬ g = w.heap.size := fun e => by rw [e, k0] at q0; cases q0
  have ne2 : ¬ g = w.heap.size + 1 := fun e => by rw [e, r0] at q0; cases q0
  have ne3 : ¬ w.heap.size = W1.heap.size := by omega
  have ne4 : ¬ w.heap.size + 1 = W1.heap.size := by omega
  have ne5 : ¬ g = W1.heap.size := by omega
  go_wp2_with fail
  refine (H118 _).out.mono ?_
  rintro e w2 ⟨rfl, rfl⟩
  go_wp2_with fail
  obtain ⟨Y, hY, hR, hS, hB⟩ := store7i (st1).res (0) (0) (0) (0) (0) (0) (7)
  rw [hY]
  clear hY
  have hb0 := hB w (st1).b0 (by omega)
  clear hB hS
  have hZ := below_alloc Y (.cells #[.int .i64 S, .int .i64 0, .int .i64 0, .int .i64 0, .int .i64 0, .int .i64 0] 24)
  obtain ⟨Z, hZZ⟩ : ∃ Z, Y.alloc (.cells #[.int .i64 S, .int .i64 0, .int .i64 0, .int .i64 0, .int .i64 0, .int .i64 0] 24) = Z := ⟨_, rfl⟩
  rw [hZZ] at hZ ⊢
  replace hR := hR.grow hZ
  replace hb0 := below_trans hb0 hZ
  clear hZ hZZ
  obtain ⟨c0, c1, c2, c3, c4, c5, c6, cF⟩ := hR
  clear bb kl rl k0 k1 k2 k3 k4 k5 kF r0 r1 r2 r3 r4 r5 r6 rF ne1 ne2 ne3 ne4 ne5 q0 st1
  exact bodyPost_ret (v := .agg #[.int .i64 (0), .int .i64 (0), .int .i64 (0), .int .i64 (0), .int .i64 (0), .int .i64 (0), .int .i64 (7)]) (by simp [results, Tryz.results74, go_sem, c0, c1, c2, c3, c4, c5, c6]) rfl ⟨rfl, by repeat (first | exact xr _ | exact hb0 | apply xa | apply xg | (refine xs ?_ (by simp) _))⟩
set_option maxRecDepth 100000 in
set_option maxHeartbeats 16000000 in
theorem c74_p_next (s : List UInt8) (b0 b1 b2 b3 b4 b5 : Int) (x : List UInt8) (zi S f0 f1 f2 f3 f4 f5 f6 : Int) (hz : ¬ zi = 35) (hzb : (zi == 35) = false) (r : List (List UInt8)) (w : World) (hs : s.length ≤ 200) (hx : ¬ x.length = 0) (hx4 : x.length ≤ 4000) (hnd : (x == [100, 111]) = false)
    (hi : ∀ W, (Instr.index 9 (.string ⟨x.toArray⟩) (.int .i64 0)).run Tryz.prog W = .ok (.int .u8 zi) W)
    (H118 : ∀ W, Hid (Calls Tryz.prog 118 #[.string ⟨x.toArray⟩] W fun e w' => e = .returned (.int .i64 S) ∧ W = w'))
    (H35 : ∀ W, Hid (Calls Tryz.prog 35 #[.string ⟨s.toArray⟩] W fun e w' => (∃ g cap, e = .returned (.slice (some ⟨g, 0, none⟩) (r.length + 1 + 1) cap) ∧ Hid (r.length + 1 + 1 ≤ cap ∧ g < w'.heap.size ∧ WsAt w' g (x :: [110, 101, 120, 116] :: r))) ∧ Below W.heap.size W w')) (hS : ¬ S < 0)
    (H119 : Hid (∀ W v, WordsV W v r → Calls Tryz.prog 119 #[.agg #[.int .i64 S, .int .i64 b1, .int .i64 0, .int .i64 0, .int .i64 0, .int .i64 0], v, .bool true] W fun e w' => e = .returned (.agg #[.int .i64 f0, .int .i64 f1, .int .i64 f2, .int .i64 f3, .int .i64 f4, .int .i64 f5, .int .i64 f6]) ∧ Below W.heap.size W w'))
    : Calls Tryz.prog 74 #[.string ⟨s.toArray⟩, .agg #[.int .i64 b0, .int .i64 b1, .int .i64 b2, .int .i64 b3, .int .i64 b4, .int .i64 b5], .bool true] w fun e w' => e = .returned (.agg #[.int .i64 (f0), .int .i64 (f1), .int .i64 (f2), .int .i64 (f3), .int .i64 (f4), .int .i64 (f5), .int .i64 (f6)]) ∧ Below w.heap.size w w' := by
  go_enter Tryz.func74, Tryz.ntmps74
  go_wp2_with fail
  refine (H35 _).out.mono ?_
  rintro e W1 ⟨⟨g, cap, rfl, hH⟩, hb⟩
  obtain ⟨hcap, gl, WA⟩ := hH.out
  clear hH
  have st1 := (FinSt.start6 w b0 b1 b2 b3 b4 b5).grow hb
  clear hb
  obtain ⟨bb, kl, rl, k0, k1, k2, k3, k4, k5, kF, r0, r1, r2, r3, r4, r5, r6, rF⟩ := id st1
  have q0 : W1.cell? ⟨g, 0, none⟩ = some (.string ⟨x.toArray⟩) := WA 0 _ rfl
  have q1 : W1.cell? ⟨g, 1, none⟩ = some (.string ⟨#[110, 101, 120, 116]⟩) := WA 1 _ rfl
  have ne1 : ¬ g = w.heap.size := fun e => by rw [e, k0] at q0; cases q0
  have ne2 : ¬ g = w.heap.size + 1 := fun e => by rw [e, r0] at q0; cases q0
  have ne3 : ¬ w.heap.size = W1.heap.size := by omega
  have ne4 : ¬ w.heap.size + 1 = W1.heap.size := by omega
  have ne5 : ¬ g = W1.heap.size := by omega
  go_wp2_with fail
  refine (H118 _).out.mono ?_
  rintro e w2 ⟨rfl, rfl⟩
  go_wp2_with fail
  have stV := st1.alloc (.cells #[.int .i64 S, .int .i64 b1, .int .i64 0, .int .i64 0, .int .i64 0, .int .i64 0] 24)
  have hL : LinC g W1.heap.size (x :: [110, 101, 120, 116] :: r) S b1 (W1.alloc (.cells #[.int .i64 S, .int .i64 b1, .int .i64 0, .int .i64 0, .int .i64 0, .int .i64 0] 24)) := ⟨WA.below gl (below_alloc _ _), by simp; omega, fun i => by simp [go_sem], by simp [go_sem], by simp [go_sem], by simp [go_sem], by simp [go_sem], by simp [go_sem], by simp [go_sem]⟩
  have ne6 : ¬ W1.heap.size = w.heap.size + 1 := by omega
  obtain ⟨V, hV⟩ : ∃ V, W1.alloc (.cells #[.int .i64 S, .int .i64 b1, .int .i64 0, .int .i64 0, .int .i64 0, .int .i64 0] 24) = V := ⟨_, rfl⟩
  rw [hV] at stV hL ⊢
  clear hV bb kl rl k0 k1 k2 k3 k4 k5 kF r0 r1 r2 r3 r4 r5 r6 rF ne3 ne4 ne5 q0 q1 WA st1
  by_cases hck : cap = 2
  · subst hck
    have hr : r = [] := List.length_eq_zero_iff.1 (by omega)
    subst hr
    refine wp_region_class (LinC g W1.heap.size (x :: [110, 101, 120, 116] :: []) S b1) (by kernel_rfl) fun x0 => ?_
    refine WC_take0 (V := V) (v := ?_) (a' := ?_) 0 LinC.grows rfl (by kernel_rfl) (by kernel_rfl) (by kernel_rfl) hL ⟨rfl, fun w' hw' => ?_⟩ ?_ 68 rfl (by kernel_rfl) fun x0 => ?_
    rotate_left 2
    · obtain ⟨WA', gl', kF', k0, k1, k2, k3, k4, k5⟩ := hw'
      have hcb : W1.heap.size < w'.heap.size := World.block_lt_of_cell? _ _ k0
      go_big_quiet_op; exact rfl
    · exact rfl
    refine WC_take0 (V := V) (v := ?_) (a' := ?_) 1 LinC.grows rfl (by kernel_rfl) (by kernel_rfl) (by kernel_rfl) hL ⟨rfl, fun w' hw' => ?_⟩ ?_ 69 rfl (by kernel_rfl) fun x0 => ?_
    rotate_left 2
    · obtain ⟨WA', gl', kF', k0, k1, k2, k3, k4, k5⟩ := hw'
      have hcb : W1.heap.size < w'.heap.size := World.block_lt_of_cell? _ _ k0
      go_big_quiet_op; exact rfl
    · exact rfl
    refine WC_take0 (V := V) (v := ?_) (a' := ?_) 2 LinC.grows rfl (by kernel_rfl) (by kernel_rfl) (by kernel_rfl) hL ⟨rfl, fun w' hw' => ?_⟩ ?_ 70 rfl (by kernel_rfl) fun x0 => ?_
    rotate_left 2
    · obtain ⟨WA', gl', kF', k0, k1, k2, k3, k4, k5⟩ := hw'
      have hcb : W1.heap.size < w'.heap.size := World.block_lt_of_cell? _ _ k0
      go_big_quiet_op; exact rfl
    · exact rfl
    refine WC_take0 (V := V) (v := ?_) (a' := ?_) 3 LinC.grows rfl (by kernel_rfl) (by kernel_rfl) (by kernel_rfl) hL ⟨rfl, fun w' hw' => ?_⟩ ?_ 71 rfl (by kernel_rfl) fun x0 => ?_
    rotate_left 2
    · go_big_quiet_op
      apply Exists.intro; refine ⟨fun n => ?_, ?_⟩
      · go_at_call 119
        exact gw_call (H119.out _ _ (by have := WsAt.none_left (w := w') (k := 2) (some ⟨g, 0, none⟩) (l := x :: [110, 101, 120, 116] :: []) rfl; have := WordsV.below this (gw_below w' n); simpa using this))
      exact rfl
    · exact rfl
    have stW := stV.grow (gw_below _ x0)
    have hL := LinC.grows _ _ hL (Grown.gw _ x0)
    obtain ⟨U, hU⟩ : ∃ U, gw V x0 = U := ⟨_, rfl⟩
    rw [hU] at stW hL ⊢
    clear hU stV
    obtain ⟨bb, kl, rl, k0, k1, k2, k3, k4, k5, kF, r0, r1, r2, r3, r4, r5, r6, rF⟩ := id stW
    refine WC_all [4] (by kernel_rfl) (by simp) fun i hi => ?_
    rcases List.mem_singleton.1 hi with rfl
    refine WG_op rfl rfl fun K hK => ?_
    go_big_op
    obtain ⟨Y, hY, hR, hS, hB, hO, hFz⟩ := store7j stW.res f0 f1 f2 f3 f4 f5 f6
    rw [hY]
    clear hY
    clear bb kl rl k0 k1 k2 k3 k4 k5 kF r0 r1 r2 r3 r4 r5 r6 rF
    refine hK _ _ ⟨hL.other hS ne2 ne6 hO hFz, fun y0 => ?_⟩
    have hb0 := below_trans (hB w stW.b0 (by omega)) (gw_below Y y0)
    replace hR := hR.grow (gw_below Y y0)
    refine WC_done (by kernel_rfl) ?_ _
    unfold NoPanic
    clear hK hB hO hFz hS hL stW
    obtain ⟨Z, hZ⟩ : ∃ Z, gw Y y0 = Z := ⟨_, rfl⟩
    rw [hZ] at hb0 hR ⊢
    clear hZ
    obtain ⟨c0, c1, c2, c3, c4, c5, c6, cF⟩ := hR
    go_wp2_with fail
    exact bodyPost_ret (v := .agg #[.int .i64 (f0), .int .i64 (f1), .int .i64 (f2), .int .i64 (f3), .int .i64 (f4), .int .i64 (f5), .int .i64 (f6)]) (by simp [results, Tryz.results74, go_sem, c0, c1, c2, c3, c4, c5, c6]) rfl ⟨rfl, by repeat (first | exact xr _ | exact hb0 | apply xa | apply xg | (refine xs ?_ (by simp) _))⟩

  · refine wp_region_class (LinC g W1.heap.size (x :: [110, 101, 120, 116] :: r) S b1) (by kernel_rfl) fun x0 => ?_
    refine WC_take0 (V := V) (v := ?_) (a' := ?_) 0 LinC.grows rfl (by kernel_rfl) (by kernel_rfl) (by kernel_rfl) hL ⟨rfl, fun w' hw' => ?_⟩ ?_ 68 rfl (by kernel_rfl) fun x0 => ?_
    rotate_left 2
    · obtain ⟨WA', gl', kF', k0, k1, k2, k3, k4, k5⟩ := hw'
      have hcb : W1.heap.size < w'.heap.size := World.block_lt_of_cell? _ _ k0
      go_big_quiet_op; exact rfl
    · exact rfl
    refine WC_take0 (V := V) (v := ?_) (a' := ?_) 1 LinC.grows rfl (by kernel_rfl) (by kernel_rfl) (by kernel_rfl) hL ⟨rfl, fun w' hw' => ?_⟩ ?_ 69 rfl (by kernel_rfl) fun x0 => ?_
    rotate_left 2
    · obtain ⟨WA', gl', kF', k0, k1, k2, k3, k4, k5⟩ := hw'
      have hcb : W1.heap.size < w'.heap.size := World.block_lt_of_cell? _ _ k0
      go_big_quiet_op; exact rfl
    · exact rfl
    refine WC_take0 (V := V) (v := ?_) (a' := ?_) 2 LinC.grows rfl (by kernel_rfl) (by kernel_rfl) (by kernel_rfl) hL ⟨rfl, fun w' hw' => ?_⟩ ?_ 70 rfl (by kernel_rfl) fun x0 => ?_
    rotate_left 2
    · obtain ⟨WA', gl', kF', k0, k1, k2, k3, k4, k5⟩ := hw'
      have hcb : W1.heap.size < w'.heap.size := World.block_lt_of_cell? _ _ k0
      go_big_quiet_op; exact rfl
    · exact rfl
    refine WC_take0 (V := V) (v := ?_) (a' := ?_) 3 LinC.grows rfl (by kernel_rfl) (by kernel_rfl) (by kernel_rfl) hL ⟨rfl, fun w' hw' => ?_⟩ ?_ 71 rfl (by kernel_rfl) fun x0 => ?_
    rotate_left 2
    · go_big_quiet_op
      apply Exists.intro; refine ⟨fun n => ?_, ?_⟩
      · go_at_call 119
        exact gw_call (H119.out _ _ (by have := hw'.WA.words (k := 2) (cap := cap) hw'.gl (by simp) (by simpa using hcap); have := WordsV.below this (gw_below w' n); simpa using this))
      exact rfl
    · exact rfl
    have stW := stV.grow (gw_below _ x0)
    have hL := LinC.grows _ _ hL (Grown.gw _ x0)
    obtain ⟨U, hU⟩ : ∃ U, gw V x0 = U := ⟨_, rfl⟩
    rw [hU] at stW hL ⊢
    clear hU stV
    obtain ⟨bb, kl, rl, k0, k1, k2, k3, k4, k5, kF, r0, r1, r2, r3, r4, r5, r6, rF⟩ := id stW
    refine WC_all [4] (by kernel_rfl) (by simp) fun i hi => ?_
    rcases List.mem_singleton.1 hi with rfl
    refine WG_op rfl rfl fun K hK => ?_
    go_big_op
    obtain ⟨Y, hY, hR, hS, hB, hO, hFz⟩ := store7j stW.res f0 f1 f2 f3 f4 f5 f6
    rw [hY]
    clear hY
    clear bb kl rl k0 k1 k2 k3 k4 k5 kF r0 r1 r2 r3 r4 r5 r6 rF
    refine hK _ _ ⟨hL.other hS ne2 ne6 hO hFz, fun y0 => ?_⟩
    have hb0 := below_trans (hB w stW.b0 (by omega)) (gw_below Y y0)
    replace hR := hR.grow (gw_below Y y0)
    refine WC_done (by kernel_rfl) ?_ _
    unfold NoPanic
    clear hK hB hO hFz hS hL stW
    obtain ⟨Z, hZ⟩ : ∃ Z, gw Y y0 = Z := ⟨_, rfl⟩
    rw [hZ] at hb0 hR ⊢
    clear hZ
    obtain ⟨c0, c1, c2, c3, c4, c5, c6, cF⟩ := hR
    go_wp2_with fail
    exact bodyPost_ret (v := .agg #[.int .i64 (f0), .int .i64 (f1), .int .i64 (f2), .int .i64 (f3), .int .i64 (f4), .int .i64 (f5), .int .i64 (f6)]) (by simp [results, Tryz.results74, go_sem, c0, c1, c2, c3, c4, c5, c6]) rfl ⟨rfl, by repeat (first | exact xr _ | exact hb0 | apply xa | apply xg | (refine xs ?_ (by simp) _))⟩
set_option maxRecDepth 100000 in
set_option maxHeartbeats 16000000 in
theorem c74_p_en (s : List UInt8) (b0 b1 b2 b3 b4 b5 : Int) (has : Bool) (x : List UInt8) (zi S : Int) (hz : ¬ zi = 35) (hzb : (zi == 35) = false) (w : World) (hs : s.length ≤ 200) (hx : ¬ x.length = 0) (hx4 : x.length ≤ 4000) (hnd : (x == [100, 111]) = false)
    (hi : ∀ W, (Instr.index 9 (.string ⟨x.toArray⟩) (.int .i64 0)).run Tryz.prog W = .ok (.int .u8 zi) W)
    (H118 : ∀ W, Hid (Calls Tryz.prog 118 #[.string ⟨x.toArray⟩] W fun e w' => e = .returned (.int .i64 S) ∧ W = w'))
    (H35 : ∀ W, Hid (Calls Tryz.prog 35 #[.string ⟨s.toArray⟩] W fun e w' => (∃ g cap, e = .returned (.slice (some ⟨g, 0, none⟩) (1) cap) ∧ Hid (1 ≤ cap ∧ g < w'.heap.size ∧ WsAt w' g ([x]))) ∧ Below W.heap.size W w')) (hS : ¬ S < 0)
    (H120 : Hid (∀ W v, WordsV W v ([]) → Calls Tryz.prog 120 #[v] W fun e w' => e = .returned (.agg #[.int .i64 0, .int .i64 0, .int .i64 0, .int .i64 0]) ∧ Below W.heap.size W w'))
    : Calls Tryz.prog 74 #[.string ⟨s.toArray⟩, .agg #[.int .i64 b0, .int .i64 b1, .int .i64 b2, .int .i64 b3, .int .i64 b4, .int .i64 b5], .bool has] w fun e w' => e = .returned (.agg #[.int .i64 (0), .int .i64 (0), .int .i64 (0), .int .i64 (0), .int .i64 (0), .int .i64 (0), .int .i64 (7)]) ∧ Below w.heap.size w w' := by
  go_enter Tryz.func74, Tryz.ntmps74
  go_wp2_with fail
  refine (H35 _).out.mono ?_
  rintro e W1 ⟨⟨g, cap, rfl, hH⟩, hb⟩
  obtain ⟨hcap, gl, WA⟩ := hH.out
  clear hH
  have st1 := (FinSt.start6 w b0 b1 b2 b3 b4 b5).grow hb
  clear hb
  obtain ⟨bb, kl, rl, k0, k1, k2, k3, k4, k5, kF, r0, r1, r2, r3, r4, r5, r6, rF⟩ := id st1
  have q0 : W1.cell? ⟨g, 0, none⟩ = some (.string ⟨x.toArray⟩) := WA 0 _ rfl
  have ne1 : ¬ g = w.heap.size := fun e => by rw [e, k0] at q0; cases q0
  have ne2 : ¬ g = w.heap.size + 1 := fun e => by rw [e, r0] at q0; cases q0
  have ne3 : ¬ w.heap.size = W1.heap.size := by omega
  have ne4 : ¬ w.heap.size + 1 = W1.heap.size := by omega
  have ne5 : ¬ g = W1.heap.size := by omega
  go_wp2_with fail
  refine (H118 _).out.mono ?_
  rintro e w2 ⟨rfl, rfl⟩
  have lw : w.heap.size + 1 < W1.heap.size := rl
  have ne7 : ¬ W1.heap.size = w.heap.size := by omega
  have ne8 : ¬ W1.heap.size = w.heap.size + 1 := by omega
  have hL : LinC g W1.heap.size ([x]) S 0 (W1.alloc (.cells #[.int .i64 S, .int .i64 0, .int .i64 0, .int .i64 0, .int .i64 0, .int .i64 0] 24)) := ⟨WA.below gl (below_alloc _ _), by simp; omega, fun i => by simp [go_sem], by simp [go_sem], by simp [go_sem], by simp [go_sem], by simp [go_sem], by simp [go_sem], by simp [go_sem]⟩
  by_cases hck : cap = 1
  · subst hck
    go_wp2_with fail
    refine (H120.out _ _ (by have := WsAt.none_left (w := W1.alloc (.cells #[.int .i64 S, .int .i64 0, .int .i64 0, .int .i64 0, .int .i64 0, .int .i64 0] 24)) (k := 1) (some ⟨g, 0, none⟩) (l := [x]) rfl; simpa using this)).mono ?_
    rintro e W2 ⟨rfl, hb⟩
    have st2 := (st1.alloc _).grow hb
    have hL := LinC.grows _ _ hL hb
    have lc : W1.heap.size < W2.heap.size := World.block_lt_of_cell? _ _ hL.k0
    clear hb WA st1 bb kl rl k0 k1 k2 k3 k4 k5 kF r0 r1 r2 r3 r4 r5 r6 rF ne3 ne4 ne5 q0
    obtain ⟨bb, kl, rl, k0, k1, k2, k3, k4, k5, kF, r0, r1, r2, r3, r4, r5, r6, rF⟩ := id st2
    obtain ⟨WA2, gl2, qF, c0, c1, c2, c3, c4, c5⟩ := id hL
    have ne9 : ¬ W1.heap.size = W2.heap.size := by omega
    have ne10 : ¬ w.heap.size + 1 = W2.heap.size := by omega
    have ne11 : ¬ w.heap.size = W2.heap.size := by omega
    go_wp2_with fail
    obtain ⟨Y, hY, hR, hS, hB⟩ := store7i (st2).res (0) (0) (0) (0) (0) (0) (7)
    rw [hY]
    clear hY
    have hb0 := hB w (st2).b0 (by omega)
    clear hB hS
    have hZ := below_alloc Y (.cells #[.int .i64 0, .int .i64 0, .int .i64 0, .int .i64 0] 153)
    obtain ⟨Z, hZZ⟩ : ∃ Z, Y.alloc (.cells #[.int .i64 0, .int .i64 0, .int .i64 0, .int .i64 0] 153) = Z := ⟨_, rfl⟩
    rw [hZZ] at hZ ⊢
    replace hR := hR.grow hZ
    replace hb0 := below_trans hb0 hZ
    clear hZ hZZ
    clear c0 c1 c2 c3 c4 c5
    obtain ⟨c0, c1, c2, c3, c4, c5, c6, cF⟩ := hR
    clear bb kl rl k0 k1 k2 k3 k4 k5 kF r0 r1 r2 r3 r4 r5 r6 rF qF WA2 gl2 ne7 ne8 ne9 ne10 ne11 st2
    exact bodyPost_ret (v := .agg #[.int .i64 (0), .int .i64 (0), .int .i64 (0), .int .i64 (0), .int .i64 (0), .int .i64 (0), .int .i64 (7)]) (by simp [results, Tryz.results74, go_sem, c0, c1, c2, c3, c4, c5, c6]) rfl ⟨rfl, by repeat (first | exact xr _ | exact hb0 | apply xa | apply xg | (refine xs ?_ (by simp) _))⟩

  · go_wp2_with fail
    refine (H120.out _ _ (by have := hL.WA.words (k := 1) (cap := cap) hL.gl (by simp) (by simpa using hcap); simpa using this)).mono ?_
    rintro e W2 ⟨rfl, hb⟩
    have st2 := (st1.alloc _).grow hb
    have hL := LinC.grows _ _ hL hb
    have lc : W1.heap.size < W2.heap.size := World.block_lt_of_cell? _ _ hL.k0
    clear hb WA st1 bb kl rl k0 k1 k2 k3 k4 k5 kF r0 r1 r2 r3 r4 r5 r6 rF ne3 ne4 ne5 q0
    obtain ⟨bb, kl, rl, k0, k1, k2, k3, k4, k5, kF, r0, r1, r2, r3, r4, r5, r6, rF⟩ := id st2
    obtain ⟨WA2, gl2, qF, c0, c1, c2, c3, c4, c5⟩ := id hL
    have ne9 : ¬ W1.heap.size = W2.heap.size := by omega
    have ne10 : ¬ w.heap.size + 1 = W2.heap.size := by omega
    have ne11 : ¬ w.heap.size = W2.heap.size := by omega
    go_wp2_with fail
    obtain ⟨Y, hY, hR, hS, hB⟩ := store7i (st2).res (0) (0) (0) (0) (0) (0) (7)
    rw [hY]
    clear hY
    have hb0 := hB w (st2).b0 (by omega)
    clear hB hS
    have hZ := below_alloc Y (.cells #[.int .i64 0, .int .i64 0, .int .i64 0, .int .i64 0] 153)
    obtain ⟨Z, hZZ⟩ : ∃ Z, Y.alloc (.cells #[.int .i64 0, .int .i64 0, .int .i64 0, .int .i64 0] 153) = Z := ⟨_, rfl⟩
    rw [hZZ] at hZ ⊢
    replace hR := hR.grow hZ
    replace hb0 := below_trans hb0 hZ
    clear hZ hZZ
    clear c0 c1 c2 c3 c4 c5
    obtain ⟨c0, c1, c2, c3, c4, c5, c6, cF⟩ := hR
    clear bb kl rl k0 k1 k2 k3 k4 k5 kF r0 r1 r2 r3 r4 r5 r6 rF qF WA2 gl2 ne7 ne8 ne9 ne10 ne11 st2
    exact bodyPost_ret (v := .agg #[.int .i64 (0), .int .i64 (0), .int .i64 (0), .int .i64 (0), .int .i64 (0), .int .i64 (0), .int .i64 (7)]) (by simp [results, Tryz.results74, go_sem, c0, c1, c2, c3, c4, c5, c6]) rfl ⟨rfl, by repeat (first | exact xr _ | exact hb0 | apply xa | apply xg | (refine xs ?_ (by simp) _))⟩
set_option maxRecDepth 100000 in
set_option maxHeartbeats 16000000 in
theorem c74_p_yn (s : List UInt8) (b0 b1 b2 b3 b4 b5 : Int) (has : Bool) (x : List UInt8) (zi S : Int) (hz : ¬ zi = 35) (hzb : (zi == 35) = false) (y : List UInt8) (hyn : (y == [110, 101, 120, 116]) = false) (r : List (List UInt8)) (w : World) (hs : s.length ≤ 200) (hx : ¬ x.length = 0) (hx4 : x.length ≤ 4000) (hnd : (x == [100, 111]) = false)
    (hi : ∀ W, (Instr.index 9 (.string ⟨x.toArray⟩) (.int .i64 0)).run Tryz.prog W = .ok (.int .u8 zi) W)
    (H118 : ∀ W, Hid (Calls Tryz.prog 118 #[.string ⟨x.toArray⟩] W fun e w' => e = .returned (.int .i64 S) ∧ W = w'))
    (H35 : ∀ W, Hid (Calls Tryz.prog 35 #[.string ⟨s.toArray⟩] W fun e w' => (∃ g cap, e = .returned (.slice (some ⟨g, 0, none⟩) (r.length + 1 + 1) cap) ∧ Hid (r.length + 1 + 1 ≤ cap ∧ g < w'.heap.size ∧ WsAt w' g (x :: y :: r))) ∧ Below W.heap.size W w')) (hS : ¬ S < 0)
    (H120 : Hid (∀ W v, WordsV W v (y :: r) → Calls Tryz.prog 120 #[v] W fun e w' => e = .returned (.agg #[.int .i64 0, .int .i64 0, .int .i64 0, .int .i64 0]) ∧ Below W.heap.size W w'))
    : Calls Tryz.prog 74 #[.string ⟨s.toArray⟩, .agg #[.int .i64 b0, .int .i64 b1, .int .i64 b2, .int .i64 b3, .int .i64 b4, .int .i64 b5], .bool has] w fun e w' => e = .returned (.agg #[.int .i64 (0), .int .i64 (0), .int .i64 (0), .int .i64 (0), .int .i64 (0), .int .i64 (0), .int .i64 (7)]) ∧ Below w.heap.size w w' := by
  go_enter Tryz.func74, Tryz.ntmps74
  go_wp2_with fail
  refine (H35 _).out.mono ?_
  rintro e W1 ⟨⟨g, cap, rfl, hH⟩, hb⟩
  obtain ⟨hcap, gl, WA⟩ := hH.out
  clear hH
  have st1 := (FinSt.start6 w b0 b1 b2 b3 b4 b5).grow hb
  clear hb
  obtain ⟨bb, kl, rl, k0, k1, k2, k3, k4, k5, kF, r0, r1, r2, r3, r4, r5, r6, rF⟩ := id st1
  have q0 : W1.cell? ⟨g, 0, none⟩ = some (.string ⟨x.toArray⟩) := WA 0 _ rfl
  have q1 : W1.cell? ⟨g, 1, none⟩ = some (.string ⟨y.toArray⟩) := WA 1 _ rfl
  have ne1 : ¬ g = w.heap.size := fun e => by rw [e, k0] at q0; cases q0
  have ne2 : ¬ g = w.heap.size + 1 := fun e => by rw [e, r0] at q0; cases q0
  have ne3 : ¬ w.heap.size = W1.heap.size := by omega
  have ne4 : ¬ w.heap.size + 1 = W1.heap.size := by omega
  have ne5 : ¬ g = W1.heap.size := by omega
  go_wp2_with fail
  refine (H118 _).out.mono ?_
  rintro e w2 ⟨rfl, rfl⟩
  go_wp2_with fail
  have lw : w.heap.size + 1 < W1.heap.size := rl
  have ne7 : ¬ W1.heap.size = w.heap.size := by omega
  have ne8 : ¬ W1.heap.size = w.heap.size + 1 := by omega
  have hL : LinC g W1.heap.size (x :: y :: r) S 0 (W1.alloc (.cells #[.int .i64 S, .int .i64 0, .int .i64 0, .int .i64 0, .int .i64 0, .int .i64 0] 24)) := ⟨WA.below gl (below_alloc _ _), by simp; omega, fun i => by simp [go_sem], by simp [go_sem], by simp [go_sem], by simp [go_sem], by simp [go_sem], by simp [go_sem], by simp [go_sem]⟩
  refine (H120.out _ _ (by have := hL.WA.words (k := 1) (cap := cap) hL.gl (by simp) (by simpa using hcap); simpa using this)).mono ?_
  rintro e W2 ⟨rfl, hb⟩
  have st2 := (st1.alloc _).grow hb
  have hL := LinC.grows _ _ hL hb
  have lc : W1.heap.size < W2.heap.size := World.block_lt_of_cell? _ _ hL.k0
  clear hb WA st1 bb kl rl k0 k1 k2 k3 k4 k5 kF r0 r1 r2 r3 r4 r5 r6 rF ne3 ne4 ne5 q0 q1
  obtain ⟨bb, kl, rl, k0, k1, k2, k3, k4, k5, kF, r0, r1, r2, r3, r4, r5, r6, rF⟩ := id st2
  obtain ⟨WA2, gl2, qF, c0, c1, c2, c3, c4, c5⟩ := id hL
  have ne9 : ¬ W1.heap.size = W2.heap.size := by omega
  have ne10 : ¬ w.heap.size + 1 = W2.heap.size := by omega
  have ne11 : ¬ w.heap.size = W2.heap.size := by omega
  go_wp2_with fail
  obtain ⟨Y, hY, hR, hS, hB⟩ := store7i (st2).res (0) (0) (0) (0) (0) (0) (7)
  rw [hY]
  clear hY
  have hb0 := hB w (st2).b0 (by omega)
  clear hB hS
  have hZ := below_alloc Y (.cells #[.int .i64 0, .int .i64 0, .int .i64 0, .int .i64 0] 153)
  obtain ⟨Z, hZZ⟩ : ∃ Z, Y.alloc (.cells #[.int .i64 0, .int .i64 0, .int .i64 0, .int .i64 0] 153) = Z := ⟨_, rfl⟩
  rw [hZZ] at hZ ⊢
  replace hR := hR.grow hZ
  replace hb0 := below_trans hb0 hZ
  clear hZ hZZ
  clear c0 c1 c2 c3 c4 c5
  obtain ⟨c0, c1, c2, c3, c4, c5, c6, cF⟩ := hR
  clear bb kl rl k0 k1 k2 k3 k4 k5 kF r0 r1 r2 r3 r4 r5 r6 rF qF WA2 gl2 ne7 ne8 ne9 ne10 ne11 st2
  exact bodyPost_ret (v := .agg #[.int .i64 (0), .int .i64 (0), .int .i64 (0), .int .i64 (0), .int .i64 (0), .int .i64 (0), .int .i64 (7)]) (by simp [results, Tryz.results74, go_sem, c0, c1, c2, c3, c4, c5, c6]) rfl ⟨rfl, by repeat (first | exact xr _ | exact hb0 | apply xa | apply xg | (refine xs ?_ (by simp) _))⟩
set_option maxRecDepth 100000 in
set_option maxHeartbeats 16000000 in
theorem c74_p_nn (s : List UInt8) (b0 b1 b2 b3 b4 b5 : Int) (x : List UInt8) (zi S : Int) (hz : ¬ zi = 35) (hzb : (zi == 35) = false) (r : List (List UInt8)) (w : World) (hs : s.length ≤ 200) (hx : ¬ x.length = 0) (hx4 : x.length ≤ 4000) (hnd : (x == [100, 111]) = false)
    (hi : ∀ W, (Instr.index 9 (.string ⟨x.toArray⟩) (.int .i64 0)).run Tryz.prog W = .ok (.int .u8 zi) W)
    (H118 : ∀ W, Hid (Calls Tryz.prog 118 #[.string ⟨x.toArray⟩] W fun e w' => e = .returned (.int .i64 S) ∧ W = w'))
    (H35 : ∀ W, Hid (Calls Tryz.prog 35 #[.string ⟨s.toArray⟩] W fun e w' => (∃ g cap, e = .returned (.slice (some ⟨g, 0, none⟩) (r.length + 1 + 1) cap) ∧ Hid (r.length + 1 + 1 ≤ cap ∧ g < w'.heap.size ∧ WsAt w' g (x :: [110, 101, 120, 116] :: r))) ∧ Below W.heap.size W w')) (hS : ¬ S < 0)
    (H120 : Hid (∀ W v, WordsV W v ([110, 101, 120, 116] :: r) → Calls Tryz.prog 120 #[v] W fun e w' => e = .returned (.agg #[.int .i64 0, .int .i64 0, .int .i64 0, .int .i64 0]) ∧ Below W.heap.size W w'))
    : Calls Tryz.prog 74 #[.string ⟨s.toArray⟩, .agg #[.int .i64 b0, .int .i64 b1, .int .i64 b2, .int .i64 b3, .int .i64 b4, .int .i64 b5], .bool false] w fun e w' => e = .returned (.agg #[.int .i64 (0), .int .i64 (0), .int .i64 (0), .int .i64 (0), .int .i64 (0), .int .i64 (0), .int .i64 (7)]) ∧ Below w.heap.size w w' := by
  go_enter Tryz.func74, Tryz.ntmps74
  go_wp2_with fail
  refine (H35 _).out.mono ?_
  rintro e W1 ⟨⟨g, cap, rfl, hH⟩, hb⟩
  obtain ⟨hcap, gl, WA⟩ := hH.out
  clear hH
  have st1 := (FinSt.start6 w b0 b1 b2 b3 b4 b5).grow hb
  clear hb
  obtain ⟨bb, kl, rl, k0, k1, k2, k3, k4, k5, kF, r0, r1, r2, r3, r4, r5, r6, rF⟩ := id st1
  have q0 : W1.cell? ⟨g, 0, none⟩ = some (.string ⟨x.toArray⟩) := WA 0 _ rfl
  have q1 : W1.cell? ⟨g, 1, none⟩ = some (.string ⟨#[110, 101, 120, 116]⟩) := WA 1 _ rfl
  have ne1 : ¬ g = w.heap.size := fun e => by rw [e, k0] at q0; cases q0
  have ne2 : ¬ g = w.heap.size + 1 := fun e => by rw [e, r0] at q0; cases q0
  have ne3 : ¬ w.heap.size = W1.heap.size := by omega
  have ne4 : ¬ w.heap.size + 1 = W1.heap.size := by omega
  have ne5 : ¬ g = W1.heap.size := by omega
  go_wp2_with fail
  refine (H118 _).out.mono ?_
  rintro e w2 ⟨rfl, rfl⟩
  go_wp2_with fail
  have lw : w.heap.size + 1 < W1.heap.size := rl
  have ne7 : ¬ W1.heap.size = w.heap.size := by omega
  have ne8 : ¬ W1.heap.size = w.heap.size + 1 := by omega
  have hL : LinC g W1.heap.size (x :: [110, 101, 120, 116] :: r) S 0 (W1.alloc (.cells #[.int .i64 S, .int .i64 0, .int .i64 0, .int .i64 0, .int .i64 0, .int .i64 0] 24)) := ⟨WA.below gl (below_alloc _ _), by simp; omega, fun i => by simp [go_sem], by simp [go_sem], by simp [go_sem], by simp [go_sem], by simp [go_sem], by simp [go_sem], by simp [go_sem]⟩
  refine (H120.out _ _ (by have := hL.WA.words (k := 1) (cap := cap) hL.gl (by simp) (by simpa using hcap); simpa using this)).mono ?_
  rintro e W2 ⟨rfl, hb⟩
  have st2 := (st1.alloc _).grow hb
  have hL := LinC.grows _ _ hL hb
  have lc : W1.heap.size < W2.heap.size := World.block_lt_of_cell? _ _ hL.k0
  clear hb WA st1 bb kl rl k0 k1 k2 k3 k4 k5 kF r0 r1 r2 r3 r4 r5 r6 rF ne3 ne4 ne5 q0 q1
  obtain ⟨bb, kl, rl, k0, k1, k2, k3, k4, k5, kF, r0, r1, r2, r3, r4, r5, r6, rF⟩ := id st2
  obtain ⟨WA2, gl2, qF, c0, c1, c2, c3, c4, c5⟩ := id hL
  have ne9 : ¬ W1.heap.size = W2.heap.size := by omega
  have ne10 : ¬ w.heap.size + 1 = W2.heap.size := by omega
  have ne11 : ¬ w.heap.size = W2.heap.size := by omega
  go_wp2_with fail
  obtain ⟨Y, hY, hR, hS, hB⟩ := store7i (st2).res (0) (0) (0) (0) (0) (0) (7)
  rw [hY]
  clear hY
  have hb0 := hB w (st2).b0 (by omega)
  clear hB hS
  have hZ := below_alloc Y (.cells #[.int .i64 0, .int .i64 0, .int .i64 0, .int .i64 0] 153)
  obtain ⟨Z, hZZ⟩ : ∃ Z, Y.alloc (.cells #[.int .i64 0, .int .i64 0, .int .i64 0, .int .i64 0] 153) = Z := ⟨_, rfl⟩
  rw [hZZ] at hZ ⊢
  replace hR := hR.grow hZ
  replace hb0 := below_trans hb0 hZ
  clear hZ hZZ
  clear c0 c1 c2 c3 c4 c5
  obtain ⟨c0, c1, c2, c3, c4, c5, c6, cF⟩ := hR
  clear bb kl rl k0 k1 k2 k3 k4 k5 kF r0 r1 r2 r3 r4 r5 r6 rF qF WA2 gl2 ne7 ne8 ne9 ne10 ne11 st2
  exact bodyPost_ret (v := .agg #[.int .i64 (0), .int .i64 (0), .int .i64 (0), .int .i64 (0), .int .i64 (0), .int .i64 (0), .int .i64 (7)]) (by simp [results, Tryz.results74, go_sem, c0, c1, c2, c3, c4, c5, c6]) rfl ⟨rfl, by repeat (first | exact xr _ | exact hb0 | apply xa | apply xg | (refine xs ?_ (by simp) _))⟩
set_option maxRecDepth 100000 in
set_option maxHeartbeats 16000000 in
theorem c74_p_y0 (s : List UInt8) (b0 b1 b2 b3 b4 b5 : Int) (has : Bool) (x : List UInt8) (zi S f0 f1 f2 f3 f4 f5 f6 dy dm dd dn N : Int) (k : Nat) (hk : 1 + dn = (k : Int)) (hdn : ¬ dn = 0) (hdb : dn ≤ 3 ∧ 0 ≤ dn) (hN : N < 0) (hz : ¬ zi = 35) (hzb : (zi == 35) = false) (y : List UInt8) (hyn : (y == [110, 101, 120, 116]) = false) (r : List (List UInt8)) (w : World) (hs : s.length ≤ 200) (hx : ¬ x.length = 0) (hx4 : x.length ≤ 4000) (hnd : (x == [100, 111]) = false)
    (hi : ∀ W, (Instr.index 9 (.string ⟨x.toArray⟩) (.int .i64 0)).run Tryz.prog W = .ok (.int .u8 zi) W)
    (H118 : ∀ W, Hid (Calls Tryz.prog 118 #[.string ⟨x.toArray⟩] W fun e w' => e = .returned (.int .i64 S) ∧ W = w'))
    (H35 : ∀ W, Hid (Calls Tryz.prog 35 #[.string ⟨s.toArray⟩] W fun e w' => (∃ g cap, e = .returned (.slice (some ⟨g, 0, none⟩) (r.length + 1 + 1) cap) ∧ Hid (r.length + 1 + 1 ≤ cap ∧ g < w'.heap.size ∧ WsAt w' g (x :: y :: r))) ∧ Below W.heap.size W w')) (hS : ¬ S < 0)
    (H120 : Hid (∀ W v, WordsV W v (y :: r) → Calls Tryz.prog 120 #[v] W fun e w' => e = .returned (.agg #[.int .i64 dy, .int .i64 dm, .int .i64 dd, .int .i64 dn]) ∧ Below W.heap.size W w'))
    (H121 : ∀ W, Hid (Calls Tryz.prog 121 #[.agg #[.int .i64 dy, .int .i64 dm, .int .i64 dd]] W fun e w' => e = .returned (.int .i64 N) ∧ Below W.heap.size W w'))
    (H119 : Hid (∀ W v, WordsV W v ((x :: y :: r).drop k) → Calls Tryz.prog 119 #[.agg #[.int .i64 S, .int .i64 (-1), .int .i64 0, .int .i64 0, .int .i64 0, .int .i64 0], v, .bool false] W fun e w' => e = .returned (.agg #[.int .i64 f0, .int .i64 f1, .int .i64 f2, .int .i64 f3, .int .i64 f4, .int .i64 f5, .int .i64 f6]) ∧ Below W.heap.size W w')) (hkr : k ≤ r.length + 1 + 1)
    : Calls Tryz.prog 74 #[.string ⟨s.toArray⟩, .agg #[.int .i64 b0, .int .i64 b1, .int .i64 b2, .int .i64 b3, .int .i64 b4, .int .i64 b5], .bool has] w fun e w' => e = .returned (.agg #[.int .i64 (f0), .int .i64 (f1), .int .i64 (f2), .int .i64 (f3), .int .i64 (f4), .int .i64 (f5), .int .i64 (f6)]) ∧ Below w.heap.size w w' := by
  go_enter Tryz.func74, Tryz.ntmps74
  go_wp2_with fail
  refine (H35 _).out.mono ?_
  rintro e W1 ⟨⟨g, cap, rfl, hH⟩, hb⟩
  obtain ⟨hcap, gl, WA⟩ := hH.out
  clear hH
  have st1 := (FinSt.start6 w b0 b1 b2 b3 b4 b5).grow hb
  clear hb
  obtain ⟨bb, kl, rl, k0, k1, k2, k3, k4, k5, kF, r0, r1, r2, r3, r4, r5, r6, rF⟩ := id st1
  have q0 : W1.cell? ⟨g, 0, none⟩ = some (.string ⟨x.toArray⟩) := WA 0 _ rfl
  have q1 : W1.cell? ⟨g, 1, none⟩ = some (.string ⟨y.toArray⟩) := WA 1 _ rfl
  have ne1 : ¬ g = w.heap.size := fun e => by rw [e, k0] at q0; cases q0
  have ne2 : ¬ g = w.heap.size + 1 := fun e => by rw [e, r0] at q0; cases q0
  have ne3 : ¬ w.heap.size = W1.heap.size := by omega
  have ne4 : ¬ w.heap.size + 1 = W1.heap.size := by omega
  have ne5 : ¬ g = W1.heap.size := by omega
  go_wp2_with fail
  refine (H118 _).out.mono ?_
  rintro e w2 ⟨rfl, rfl⟩
  go_wp2_with fail
  have lw : w.heap.size + 1 < W1.heap.size := rl
  have ne7 : ¬ W1.heap.size = w.heap.size := by omega
  have ne8 : ¬ W1.heap.size = w.heap.size + 1 := by omega
  have hL : LinC g W1.heap.size (x :: y :: r) S 0 (W1.alloc (.cells #[.int .i64 S, .int .i64 0, .int .i64 0, .int .i64 0, .int .i64 0, .int .i64 0] 24)) := ⟨WA.below gl (below_alloc _ _), by simp; omega, fun i => by simp [go_sem], by simp [go_sem], by simp [go_sem], by simp [go_sem], by simp [go_sem], by simp [go_sem], by simp [go_sem]⟩
  refine (H120.out _ _ (by have := hL.WA.words (k := 1) (cap := cap) hL.gl (by simp) (by simpa using hcap); simpa using this)).mono ?_
  rintro e W2 ⟨rfl, hb⟩
  have st2 := (st1.alloc _).grow hb
  have hL := LinC.grows _ _ hL hb
  have lc : W1.heap.size < W2.heap.size := World.block_lt_of_cell? _ _ hL.k0
  clear hb WA st1 bb kl rl k0 k1 k2 k3 k4 k5 kF r0 r1 r2 r3 r4 r5 r6 rF ne3 ne4 ne5 q0 q1
  obtain ⟨bb, kl, rl, k0, k1, k2, k3, k4, k5, kF, r0, r1, r2, r3, r4, r5, r6, rF⟩ := id st2
  obtain ⟨WA2, gl2, qF, c0, c1, c2, c3, c4, c5⟩ := id hL
  have ne9 : ¬ W1.heap.size = W2.heap.size := by omega
  have ne10 : ¬ w.heap.size + 1 = W2.heap.size := by omega
  have ne11 : ¬ w.heap.size = W2.heap.size := by omega
  go_wp2_with fail
  refine (H121 _).out.mono ?_
  rintro e W3 ⟨rfl, hb⟩
  have st3 := ((st2.far (b := W1.heap.size) (by omega) ne8 1 (-1)).alloc _).grow hb
  have n3 := cell_on (p := ⟨W2.heap.size, 3, none⟩) (v := .int .i64 dn) hb (by simp [go_sem])
  have hL := LinC.grows _ _ (LinC.grows _ _ (hL.set1 (show ¬ g = W1.heap.size by omega) (-1)) (below_alloc _ _)) hb
  clear hb st2 bb kl rl k0 k1 k2 k3 k4 k5 kF r0 r1 r2 r3 r4 r5 r6 rF c0 c1 c2 c3 c4 c5 qF WA2 gl2
  obtain ⟨WA2, gl2, qF, c0, c1, c2, c3, c4, c5⟩ := id hL
  have lc3 : W1.heap.size < W3.heap.size := World.block_lt_of_cell? _ _ c0
  have ln3 : W2.heap.size < W3.heap.size := World.block_lt_of_cell? _ _ n3
  have ne12 : ¬ W2.heap.size = w.heap.size + 1 := by omega
  have ne13 : ¬ W2.heap.size = W1.heap.size := by omega
  go_wp2_with fail
  clear WA2 gl2 qF c0 c1 c2 c3 c4 c5
  have stV := st3
  have hL : LinD g W1.heap.size W2.heap.size (x :: y :: r) S (-1) dn W3 := ⟨hL, n3⟩
  clear st3 n3
  by_cases hck : cap = k
  · have hkl : r.length + 1 + 1 = k := by omega
    have hck := hck.symm
    subst hck
    refine wp_region_class (LinD g W1.heap.size W2.heap.size (x :: y :: r) S (-1) dn) (by kernel_rfl) fun x0 => ?_
    refine WC_take0 (V := W3) (v := ?_) (a' := ?_) 0 LinD.grows rfl (by kernel_rfl) (by kernel_rfl) (by kernel_rfl) hL ⟨rfl, fun w' hw' => ?_⟩ ?_ 87 rfl (by kernel_rfl) fun x0 => ?_
    rotate_left 2
    · obtain ⟨⟨WA', gl', kF', k0, k1, k2, k3, k4, k5⟩, n0⟩ := hw'
      have hcb : W1.heap.size < w'.heap.size := World.block_lt_of_cell? _ _ k0
      have hnb : W2.heap.size < w'.heap.size := World.block_lt_of_cell? _ _ n0
      go_big_quiet_op; exact rfl
    · exact rfl
    refine WC_take0 (V := W3) (v := ?_) (a' := ?_) 1 LinD.grows rfl (by kernel_rfl) (by kernel_rfl) (by kernel_rfl) hL ⟨rfl, fun w' hw' => ?_⟩ ?_ 88 rfl (by kernel_rfl) fun x0 => ?_
    rotate_left 2
    · obtain ⟨⟨WA', gl', kF', k0, k1, k2, k3, k4, k5⟩, n0⟩ := hw'
      have hcb : W1.heap.size < w'.heap.size := World.block_lt_of_cell? _ _ k0
      have hnb : W2.heap.size < w'.heap.size := World.block_lt_of_cell? _ _ n0
      go_big_quiet_op; exact rfl
    · exact rfl
    refine WC_take0 (V := W3) (v := ?_) (a' := ?_) 2 LinD.grows rfl (by kernel_rfl) (by kernel_rfl) (by kernel_rfl) hL ⟨rfl, fun w' hw' => ?_⟩ ?_ 89 rfl (by kernel_rfl) fun x0 => ?_
    rotate_left 2
    · obtain ⟨⟨WA', gl', kF', k0, k1, k2, k3, k4, k5⟩, n0⟩ := hw'
      have hcb : W1.heap.size < w'.heap.size := World.block_lt_of_cell? _ _ k0
      have hnb : W2.heap.size < w'.heap.size := World.block_lt_of_cell? _ _ n0
      go_big_quiet_op; exact rfl
    · exact rfl
    refine WC_take0 (V := W3) (v := ?_) (a' := ?_) 3 LinD.grows rfl (by kernel_rfl) (by kernel_rfl) (by kernel_rfl) hL ⟨rfl, fun w' hw' => ?_⟩ ?_ 90 rfl (by kernel_rfl) fun x0 => ?_
    rotate_left 2
    · obtain ⟨⟨WA', gl', kF', k0, k1, k2, k3, k4, k5⟩, n0⟩ := hw'
      have hcb : W1.heap.size < w'.heap.size := World.block_lt_of_cell? _ _ k0
      have hnb : W2.heap.size < w'.heap.size := World.block_lt_of_cell? _ _ n0
      go_big_quiet_op; exact rfl
    · exact rfl
    refine WC_take0 (V := W3) (v := ?_) (a' := ?_) 4 LinD.grows rfl (by kernel_rfl) (by kernel_rfl) (by kernel_rfl) hL ⟨rfl, fun w' hw' => ?_⟩ ?_ 91 rfl (by kernel_rfl) fun x0 => ?_
    rotate_left 2
    · obtain ⟨⟨WA', gl', kF', k0, k1, k2, k3, k4, k5⟩, n0⟩ := hw'
      have hcb : W1.heap.size < w'.heap.size := World.block_lt_of_cell? _ _ k0
      have hnb : W2.heap.size < w'.heap.size := World.block_lt_of_cell? _ _ n0
      go_big_quiet_op; exact rfl
    · exact rfl
    refine WC_take0 (V := W3) (v := ?_) (a' := ?_) 5 LinD.grows rfl (by kernel_rfl) (by kernel_rfl) (by kernel_rfl) hL ⟨rfl, fun w' hw' => ?_⟩ ?_ 92 rfl (by kernel_rfl) fun x0 => ?_
    rotate_left 2
    · obtain ⟨⟨WA', gl', kF', k0, k1, k2, k3, k4, k5⟩, n0⟩ := hw'
      have hcb : W1.heap.size < w'.heap.size := World.block_lt_of_cell? _ _ k0
      have hnb : W2.heap.size < w'.heap.size := World.block_lt_of_cell? _ _ n0
      go_big_quiet_op; exact rfl
    · exact rfl
    refine WC_take0 (V := W3) (v := ?_) (a' := ?_) 6 LinD.grows rfl (by kernel_rfl) (by kernel_rfl) (by kernel_rfl) hL ⟨rfl, fun w' hw' => ?_⟩ ?_ 93 rfl (by kernel_rfl) fun x0 => ?_
    rotate_left 2
    · go_big_quiet_op
      apply Exists.intro; refine ⟨fun n => ?_, ?_⟩
      · go_at_call 119
        exact gw_call (H119.out _ _ (by have := WsAt.none_left (w := w') (k := k) (some ⟨g, 0, none⟩) (l := x :: y :: r) (by simp; omega); have := WordsV.below this (gw_below w' n); simpa using this))
      exact rfl
    · exact rfl
    have stW := stV.grow (gw_below _ x0)
    have hL := LinD.grows _ _ hL (Grown.gw _ x0)
    obtain ⟨U, hU⟩ : ∃ U, gw W3 x0 = U := ⟨_, rfl⟩
    rw [hU] at stW hL ⊢
    clear hU stV
    obtain ⟨bb, kl, rl, k0, k1, k2, k3, k4, k5, kF, r0, r1, r2, r3, r4, r5, r6, rF⟩ := id stW
    refine WC_all [7] (by kernel_rfl) (by simp) fun i hi => ?_
    rcases List.mem_singleton.1 hi with rfl
    refine WG_op rfl rfl fun K hK => ?_
    go_big_op
    obtain ⟨Y, hY, hR, hS, hB, hO, hFz⟩ := store7j stW.res f0 f1 f2 f3 f4 f5 f6
    rw [hY]
    clear hY
    clear bb kl rl k0 k1 k2 k3 k4 k5 kF r0 r1 r2 r3 r4 r5 r6 rF
    refine hK _ _ ⟨hL.other hS ne2 ne8 (show ¬ W2.heap.size = w.heap.size + 1 by omega) hO hFz, fun y0 => ?_⟩
    have hb0 := below_trans (hB w stW.b0 (by omega)) (gw_below Y y0)
    replace hR := hR.grow (gw_below Y y0)
    refine WC_done (by kernel_rfl) ?_ _
    unfold NoPanic
    clear hK hB hO hFz hS hL stW
    obtain ⟨Z, hZ⟩ : ∃ Z, gw Y y0 = Z := ⟨_, rfl⟩
    rw [hZ] at hb0 hR ⊢
    clear hZ
    obtain ⟨c0, c1, c2, c3, c4, c5, c6, cF⟩ := hR
    go_wp2_with fail
    exact bodyPost_ret (v := .agg #[.int .i64 (f0), .int .i64 (f1), .int .i64 (f2), .int .i64 (f3), .int .i64 (f4), .int .i64 (f5), .int .i64 (f6)]) (by simp [results, Tryz.results74, go_sem, c0, c1, c2, c3, c4, c5, c6]) rfl ⟨rfl, by repeat (first | exact xr _ | exact hb0 | apply xa | apply xg | (refine xs ?_ (by simp) _))⟩

  · refine wp_region_class (LinD g W1.heap.size W2.heap.size (x :: y :: r) S (-1) dn) (by kernel_rfl) fun x0 => ?_
    refine WC_take0 (V := W3) (v := ?_) (a' := ?_) 0 LinD.grows rfl (by kernel_rfl) (by kernel_rfl) (by kernel_rfl) hL ⟨rfl, fun w' hw' => ?_⟩ ?_ 87 rfl (by kernel_rfl) fun x0 => ?_
    rotate_left 2
    · obtain ⟨⟨WA', gl', kF', k0, k1, k2, k3, k4, k5⟩, n0⟩ := hw'
      have hcb : W1.heap.size < w'.heap.size := World.block_lt_of_cell? _ _ k0
      have hnb : W2.heap.size < w'.heap.size := World.block_lt_of_cell? _ _ n0
      go_big_quiet_op; exact rfl
    · exact rfl
    refine WC_take0 (V := W3) (v := ?_) (a' := ?_) 1 LinD.grows rfl (by kernel_rfl) (by kernel_rfl) (by kernel_rfl) hL ⟨rfl, fun w' hw' => ?_⟩ ?_ 88 rfl (by kernel_rfl) fun x0 => ?_
    rotate_left 2
    · obtain ⟨⟨WA', gl', kF', k0, k1, k2, k3, k4, k5⟩, n0⟩ := hw'
      have hcb : W1.heap.size < w'.heap.size := World.block_lt_of_cell? _ _ k0
      have hnb : W2.heap.size < w'.heap.size := World.block_lt_of_cell? _ _ n0
      go_big_quiet_op; exact rfl
    · exact rfl
    refine WC_take0 (V := W3) (v := ?_) (a' := ?_) 2 LinD.grows rfl (by kernel_rfl) (by kernel_rfl) (by kernel_rfl) hL ⟨rfl, fun w' hw' => ?_⟩ ?_ 89 rfl (by kernel_rfl) fun x0 => ?_
    rotate_left 2
    · obtain ⟨⟨WA', gl', kF', k0, k1, k2, k3, k4, k5⟩, n0⟩ := hw'
      have hcb : W1.heap.size < w'.heap.size := World.block_lt_of_cell? _ _ k0
      have hnb : W2.heap.size < w'.heap.size := World.block_lt_of_cell? _ _ n0
      go_big_quiet_op; exact rfl
    · exact rfl
    refine WC_take0 (V := W3) (v := ?_) (a' := ?_) 3 LinD.grows rfl (by kernel_rfl) (by kernel_rfl) (by kernel_rfl) hL ⟨rfl, fun w' hw' => ?_⟩ ?_ 90 rfl (by kernel_rfl) fun x0 => ?_
    rotate_left 2
    · obtain ⟨⟨WA', gl', kF', k0, k1, k2, k3, k4, k5⟩, n0⟩ := hw'
      have hcb : W1.heap.size < w'.heap.size := World.block_lt_of_cell? _ _ k0
      have hnb : W2.heap.size < w'.heap.size := World.block_lt_of_cell? _ _ n0
      go_big_quiet_op; exact rfl
    · exact rfl
    refine WC_take0 (V := W3) (v := ?_) (a' := ?_) 4 LinD.grows rfl (by kernel_rfl) (by kernel_rfl) (by kernel_rfl) hL ⟨rfl, fun w' hw' => ?_⟩ ?_ 91 rfl (by kernel_rfl) fun x0 => ?_
    rotate_left 2
    · obtain ⟨⟨WA', gl', kF', k0, k1, k2, k3, k4, k5⟩, n0⟩ := hw'
      have hcb : W1.heap.size < w'.heap.size := World.block_lt_of_cell? _ _ k0
      have hnb : W2.heap.size < w'.heap.size := World.block_lt_of_cell? _ _ n0
      go_big_quiet_op; exact rfl
    · exact rfl
    refine WC_take0 (V := W3) (v := ?_) (a' := ?_) 5 LinD.grows rfl (by kernel_rfl) (by kernel_rfl) (by kernel_rfl) hL ⟨rfl, fun w' hw' => ?_⟩ ?_ 92 rfl (by kernel_rfl) fun x0 => ?_
    rotate_left 2
    · obtain ⟨⟨WA', gl', kF', k0, k1, k2, k3, k4, k5⟩, n0⟩ := hw'
      have hcb : W1.heap.size < w'.heap.size := World.block_lt_of_cell? _ _ k0
      have hnb : W2.heap.size < w'.heap.size := World.block_lt_of_cell? _ _ n0
      go_big_quiet_op; exact rfl
    · exact rfl
    refine WC_take0 (V := W3) (v := ?_) (a' := ?_) 6 LinD.grows rfl (by kernel_rfl) (by kernel_rfl) (by kernel_rfl) hL ⟨rfl, fun w' hw' => ?_⟩ ?_ 93 rfl (by kernel_rfl) fun x0 => ?_
    rotate_left 2
    · go_big_quiet_op
      apply Exists.intro; refine ⟨fun n => ?_, ?_⟩
      · go_at_call 119
        exact gw_call (H119.out _ _ (by have := hw'.1.WA.words (k := k) (cap := cap) hw'.1.gl (by simpa using hkr) (by simpa using hcap); have := WordsV.below this (gw_below w' n); simpa using this))
      exact rfl
    · exact rfl
    have stW := stV.grow (gw_below _ x0)
    have hL := LinD.grows _ _ hL (Grown.gw _ x0)
    obtain ⟨U, hU⟩ : ∃ U, gw W3 x0 = U := ⟨_, rfl⟩
    rw [hU] at stW hL ⊢
    clear hU stV
    obtain ⟨bb, kl, rl, k0, k1, k2, k3, k4, k5, kF, r0, r1, r2, r3, r4, r5, r6, rF⟩ := id stW
    refine WC_all [7] (by kernel_rfl) (by simp) fun i hi => ?_
    rcases List.mem_singleton.1 hi with rfl
    refine WG_op rfl rfl fun K hK => ?_
    go_big_op
    obtain ⟨Y, hY, hR, hS, hB, hO, hFz⟩ := store7j stW.res f0 f1 f2 f3 f4 f5 f6
    rw [hY]
    clear hY
    clear bb kl rl k0 k1 k2 k3 k4 k5 kF r0 r1 r2 r3 r4 r5 r6 rF
    refine hK _ _ ⟨hL.other hS ne2 ne8 (show ¬ W2.heap.size = w.heap.size + 1 by omega) hO hFz, fun y0 => ?_⟩
    have hb0 := below_trans (hB w stW.b0 (by omega)) (gw_below Y y0)
    replace hR := hR.grow (gw_below Y y0)
    refine WC_done (by kernel_rfl) ?_ _
    unfold NoPanic
    clear hK hB hO hFz hS hL stW
    obtain ⟨Z, hZ⟩ : ∃ Z, gw Y y0 = Z := ⟨_, rfl⟩
    rw [hZ] at hb0 hR ⊢
    clear hZ
    obtain ⟨c0, c1, c2, c3, c4, c5, c6, cF⟩ := hR
    go_wp2_with fail
    exact bodyPost_ret (v := .agg #[.int .i64 (f0), .int .i64 (f1), .int .i64 (f2), .int .i64 (f3), .int .i64 (f4), .int .i64 (f5), .int .i64 (f6)]) (by simp [results, Tryz.results74, go_sem, c0, c1, c2, c3, c4, c5, c6]) rfl ⟨rfl, by repeat (first | exact xr _ | exact hb0 | apply xa | apply xg | (refine xs ?_ (by simp) _))⟩
set_option maxRecDepth 100000 in
set_option maxHeartbeats 16000000 in
theorem c74_p_y1 (s : List UInt8) (b0 b1 b2 b3 b4 b5 : Int) (has : Bool) (x : List UInt8) (zi S f0 f1 f2 f3 f4 f5 f6 dy dm dd dn N : Int) (k : Nat) (hk : 1 + dn = (k : Int)) (hdn : ¬ dn = 0) (hdb : dn ≤ 3 ∧ 0 ≤ dn) (hN : ¬ N < 0) (hz : ¬ zi = 35) (hzb : (zi == 35) = false) (y : List UInt8) (hyn : (y == [110, 101, 120, 116]) = false) (r : List (List UInt8)) (w : World) (hs : s.length ≤ 200) (hx : ¬ x.length = 0) (hx4 : x.length ≤ 4000) (hnd : (x == [100, 111]) = false)
    (hi : ∀ W, (Instr.index 9 (.string ⟨x.toArray⟩) (.int .i64 0)).run Tryz.prog W = .ok (.int .u8 zi) W)
    (H118 : ∀ W, Hid (Calls Tryz.prog 118 #[.string ⟨x.toArray⟩] W fun e w' => e = .returned (.int .i64 S) ∧ W = w'))
    (H35 : ∀ W, Hid (Calls Tryz.prog 35 #[.string ⟨s.toArray⟩] W fun e w' => (∃ g cap, e = .returned (.slice (some ⟨g, 0, none⟩) (r.length + 1 + 1) cap) ∧ Hid (r.length + 1 + 1 ≤ cap ∧ g < w'.heap.size ∧ WsAt w' g (x :: y :: r))) ∧ Below W.heap.size W w')) (hS : ¬ S < 0)
    (H120 : Hid (∀ W v, WordsV W v (y :: r) → Calls Tryz.prog 120 #[v] W fun e w' => e = .returned (.agg #[.int .i64 dy, .int .i64 dm, .int .i64 dd, .int .i64 dn]) ∧ Below W.heap.size W w'))
    (H121 : ∀ W, Hid (Calls Tryz.prog 121 #[.agg #[.int .i64 dy, .int .i64 dm, .int .i64 dd]] W fun e w' => e = .returned (.int .i64 N) ∧ Below W.heap.size W w'))
    (H119 : Hid (∀ W v, WordsV W v ((x :: y :: r).drop k) → Calls Tryz.prog 119 #[.agg #[.int .i64 S, .int .i64 N, .int .i64 0, .int .i64 0, .int .i64 0, .int .i64 0], v, .bool false] W fun e w' => e = .returned (.agg #[.int .i64 f0, .int .i64 f1, .int .i64 f2, .int .i64 f3, .int .i64 f4, .int .i64 f5, .int .i64 f6]) ∧ Below W.heap.size W w')) (hkr : k ≤ r.length + 1 + 1)
    : Calls Tryz.prog 74 #[.string ⟨s.toArray⟩, .agg #[.int .i64 b0, .int .i64 b1, .int .i64 b2, .int .i64 b3, .int .i64 b4, .int .i64 b5], .bool has] w fun e w' => e = .returned (.agg #[.int .i64 (f0), .int .i64 (f1), .int .i64 (f2), .int .i64 (f3), .int .i64 (f4), .int .i64 (f5), .int .i64 (f6)]) ∧ Below w.heap.size w w' := by
  go_enter Tryz.func74, Tryz.ntmps74
  go_wp2_with fail
  refine (H35 _).out.mono ?_
  rintro e W1 ⟨⟨g, cap, rfl, hH⟩, hb⟩
  obtain ⟨hcap, gl, WA⟩ := hH.out
  clear hH
  have st1 := (FinSt.start6 w b0 b1 b2 b3 b4 b5).grow hb
  clear hb
  obtain ⟨bb, kl, rl, k0, k1, k2, k3, k4, k5, kF, r0, r1, r2, r3, r4, r5, r6, rF⟩ := id st1
  have q0 : W1.cell? ⟨g, 0, none⟩ = some (.string ⟨x.toArray⟩) := WA 0 _ rfl
  have q1 : W1.cell? ⟨g, 1, none⟩ = some (.string ⟨y.toArray⟩) := WA 1 _ rfl
  have ne1 : ¬ g = w.heap.size := fun e => by rw [e, k0] at q0; cases q0
  have ne2 : ¬ g = w.heap.size + 1 := fun e => by rw [e, r0] at q0; cases q0
  have ne3 : ¬ w.heap.size = W1.heap.size := by omega
  have ne4 : ¬ w.heap.size + 1 = W1.heap.size := by omega
  have ne5 : ¬ g = W1.heap.size := by omega
  go_wp2_with fail
  refine (H118 _).out.mono ?_
  rintro e w2 ⟨rfl, rfl⟩
  go_wp2_with fail
  have lw : w.heap.size + 1 < W1.heap.size := rl
  have ne7 : ¬ W1.heap.size = w.heap.size := by omega
  have ne8 : ¬ W1.heap.size = w.heap.size + 1 := by omega
  have hL : LinC g W1.heap.size (x :: y :: r) S 0 (W1.alloc (.cells #[.int .i64 S, .int .i64 0, .int .i64 0, .int .i64 0, .int .i64 0, .int .i64 0] 24)) := ⟨WA.below gl (below_alloc _ _), by simp; omega, fun i => by simp [go_sem], by simp [go_sem], by simp [go_sem], by simp [go_sem], by simp [go_sem], by simp [go_sem], by simp [go_sem]⟩
  refine (H120.out _ _ (by have := hL.WA.words (k := 1) (cap := cap) hL.gl (by simp) (by simpa using hcap); simpa using this)).mono ?_
  rintro e W2 ⟨rfl, hb⟩
  have st2 := (st1.alloc _).grow hb
  have hL := LinC.grows _ _ hL hb
  have lc : W1.heap.size < W2.heap.size := World.block_lt_of_cell? _ _ hL.k0
  clear hb WA st1 bb kl rl k0 k1 k2 k3 k4 k5 kF r0 r1 r2 r3 r4 r5 r6 rF ne3 ne4 ne5 q0 q1
  obtain ⟨bb, kl, rl, k0, k1, k2, k3, k4, k5, kF, r0, r1, r2, r3, r4, r5, r6, rF⟩ := id st2
  obtain ⟨WA2, gl2, qF, c0, c1, c2, c3, c4, c5⟩ := id hL
  have ne9 : ¬ W1.heap.size = W2.heap.size := by omega
  have ne10 : ¬ w.heap.size + 1 = W2.heap.size := by omega
  have ne11 : ¬ w.heap.size = W2.heap.size := by omega
  go_wp2_with fail
  refine (H121 _).out.mono ?_
  rintro e W3 ⟨rfl, hb⟩
  have st3 := ((st2.far (b := W1.heap.size) (by omega) ne8 1 (-1)).alloc _).grow hb
  have n3 := cell_on (p := ⟨W2.heap.size, 3, none⟩) (v := .int .i64 dn) hb (by simp [go_sem])
  have hL := LinC.grows _ _ (LinC.grows _ _ (hL.set1 (show ¬ g = W1.heap.size by omega) (-1)) (below_alloc _ _)) hb
  clear hb st2 bb kl rl k0 k1 k2 k3 k4 k5 kF r0 r1 r2 r3 r4 r5 r6 rF c0 c1 c2 c3 c4 c5 qF WA2 gl2
  obtain ⟨WA2, gl2, qF, c0, c1, c2, c3, c4, c5⟩ := id hL
  have lc3 : W1.heap.size < W3.heap.size := World.block_lt_of_cell? _ _ c0
  have ln3 : W2.heap.size < W3.heap.size := World.block_lt_of_cell? _ _ n3
  have ne12 : ¬ W2.heap.size = w.heap.size + 1 := by omega
  have ne13 : ¬ W2.heap.size = W1.heap.size := by omega
  go_wp2_with fail
  clear WA2 gl2 qF c0 c1 c2 c3 c4 c5
  have stV := st3.far (b := W1.heap.size) (by omega) ne8 1 N
  have hL : LinD g W1.heap.size W2.heap.size (x :: y :: r) S N dn (W3.setCell ⟨W1.heap.size, 1, none⟩ (.int .i64 N)) := ⟨hL.set1 (show ¬ g = W1.heap.size by omega) N, by simp [go_sem, n3, ne13]⟩
  clear st3 n3
  obtain ⟨V, hV⟩ : ∃ V, W3.setCell ⟨W1.heap.size, 1, none⟩ (.int .i64 N) = V := ⟨_, rfl⟩
  rw [hV] at stV hL ⊢
  clear hV
  by_cases hck : cap = k
  · have hkl : r.length + 1 + 1 = k := by omega
    have hck := hck.symm
    subst hck
    refine wp_region_class (LinD g W1.heap.size W2.heap.size (x :: y :: r) S N dn) (by kernel_rfl) fun x0 => ?_
    refine WC_take0 (V := V) (v := ?_) (a' := ?_) 0 LinD.grows rfl (by kernel_rfl) (by kernel_rfl) (by kernel_rfl) hL ⟨rfl, fun w' hw' => ?_⟩ ?_ 87 rfl (by kernel_rfl) fun x0 => ?_
    rotate_left 2
    · obtain ⟨⟨WA', gl', kF', k0, k1, k2, k3, k4, k5⟩, n0⟩ := hw'
      have hcb : W1.heap.size < w'.heap.size := World.block_lt_of_cell? _ _ k0
      have hnb : W2.heap.size < w'.heap.size := World.block_lt_of_cell? _ _ n0
      go_big_quiet_op; exact rfl
    · exact rfl
    refine WC_take0 (V := V) (v := ?_) (a' := ?_) 1 LinD.grows rfl (by kernel_rfl) (by kernel_rfl) (by kernel_rfl) hL ⟨rfl, fun w' hw' => ?_⟩ ?_ 88 rfl (by kernel_rfl) fun x0 => ?_
    rotate_left 2
    · obtain ⟨⟨WA', gl', kF', k0, k1, k2, k3, k4, k5⟩, n0⟩ := hw'
      have hcb : W1.heap.size < w'.heap.size := World.block_lt_of_cell? _ _ k0
      have hnb : W2.heap.size < w'.heap.size := World.block_lt_of_cell? _ _ n0
      go_big_quiet_op; exact rfl
    · exact rfl
    refine WC_take0 (V := V) (v := ?_) (a' := ?_) 2 LinD.grows rfl (by kernel_rfl) (by kernel_rfl) (by kernel_rfl) hL ⟨rfl, fun w' hw' => ?_⟩ ?_ 89 rfl (by kernel_rfl) fun x0 => ?_
    rotate_left 2
    · obtain ⟨⟨WA', gl', kF', k0, k1, k2, k3, k4, k5⟩, n0⟩ := hw'
      have hcb : W1.heap.size < w'.heap.size := World.block_lt_of_cell? _ _ k0
      have hnb : W2.heap.size < w'.heap.size := World.block_lt_of_cell? _ _ n0
      go_big_quiet_op; exact rfl
    · exact rfl
    refine WC_take0 (V := V) (v := ?_) (a' := ?_) 3 LinD.grows rfl (by kernel_rfl) (by kernel_rfl) (by kernel_rfl) hL ⟨rfl, fun w' hw' => ?_⟩ ?_ 90 rfl (by kernel_rfl) fun x0 => ?_
    rotate_left 2
    · obtain ⟨⟨WA', gl', kF', k0, k1, k2, k3, k4, k5⟩, n0⟩ := hw'
      have hcb : W1.heap.size < w'.heap.size := World.block_lt_of_cell? _ _ k0
      have hnb : W2.heap.size < w'.heap.size := World.block_lt_of_cell? _ _ n0
      go_big_quiet_op; exact rfl
    · exact rfl
    refine WC_take0 (V := V) (v := ?_) (a' := ?_) 4 LinD.grows rfl (by kernel_rfl) (by kernel_rfl) (by kernel_rfl) hL ⟨rfl, fun w' hw' => ?_⟩ ?_ 91 rfl (by kernel_rfl) fun x0 => ?_
    rotate_left 2
    · obtain ⟨⟨WA', gl', kF', k0, k1, k2, k3, k4, k5⟩, n0⟩ := hw'
      have hcb : W1.heap.size < w'.heap.size := World.block_lt_of_cell? _ _ k0
      have hnb : W2.heap.size < w'.heap.size := World.block_lt_of_cell? _ _ n0
      go_big_quiet_op; exact rfl
    · exact rfl
    refine WC_take0 (V := V) (v := ?_) (a' := ?_) 5 LinD.grows rfl (by kernel_rfl) (by kernel_rfl) (by kernel_rfl) hL ⟨rfl, fun w' hw' => ?_⟩ ?_ 92 rfl (by kernel_rfl) fun x0 => ?_
    rotate_left 2
    · obtain ⟨⟨WA', gl', kF', k0, k1, k2, k3, k4, k5⟩, n0⟩ := hw'
      have hcb : W1.heap.size < w'.heap.size := World.block_lt_of_cell? _ _ k0
      have hnb : W2.heap.size < w'.heap.size := World.block_lt_of_cell? _ _ n0
      go_big_quiet_op; exact rfl
    · exact rfl
    refine WC_take0 (V := V) (v := ?_) (a' := ?_) 6 LinD.grows rfl (by kernel_rfl) (by kernel_rfl) (by kernel_rfl) hL ⟨rfl, fun w' hw' => ?_⟩ ?_ 93 rfl (by kernel_rfl) fun x0 => ?_
    rotate_left 2
    · go_big_quiet_op
      apply Exists.intro; refine ⟨fun n => ?_, ?_⟩
      · go_at_call 119
        exact gw_call (H119.out _ _ (by have := WsAt.none_left (w := w') (k := k) (some ⟨g, 0, none⟩) (l := x :: y :: r) (by simp; omega); have := WordsV.below this (gw_below w' n); simpa using this))
      exact rfl
    · exact rfl
    have stW := stV.grow (gw_below _ x0)
    have hL := LinD.grows _ _ hL (Grown.gw _ x0)
    obtain ⟨U, hU⟩ : ∃ U, gw V x0 = U := ⟨_, rfl⟩
    rw [hU] at stW hL ⊢
    clear hU stV
    obtain ⟨bb, kl, rl, k0, k1, k2, k3, k4, k5, kF, r0, r1, r2, r3, r4, r5, r6, rF⟩ := id stW
    refine WC_all [7] (by kernel_rfl) (by simp) fun i hi => ?_
    rcases List.mem_singleton.1 hi with rfl
    refine WG_op rfl rfl fun K hK => ?_
    go_big_op
    obtain ⟨Y, hY, hR, hS, hB, hO, hFz⟩ := store7j stW.res f0 f1 f2 f3 f4 f5 f6
    rw [hY]
    clear hY
    clear bb kl rl k0 k1 k2 k3 k4 k5 kF r0 r1 r2 r3 r4 r5 r6 rF
    refine hK _ _ ⟨hL.other hS ne2 ne8 (show ¬ W2.heap.size = w.heap.size + 1 by omega) hO hFz, fun y0 => ?_⟩
    have hb0 := below_trans (hB w stW.b0 (by omega)) (gw_below Y y0)
    replace hR := hR.grow (gw_below Y y0)
    refine WC_done (by kernel_rfl) ?_ _
    unfold NoPanic
    clear hK hB hO hFz hS hL stW
    obtain ⟨Z, hZ⟩ : ∃ Z, gw Y y0 = Z := ⟨_, rfl⟩
    rw [hZ] at hb0 hR ⊢
    clear hZ
    obtain ⟨c0, c1, c2, c3, c4, c5, c6, cF⟩ := hR
    go_wp2_with fail
    exact bodyPost_ret (v := .agg #[.int .i64 (f0), .int .i64 (f1), .int .i64 (f2), .int .i64 (f3), .int .i64 (f4), .int .i64 (f5), .int .i64 (f6)]) (by simp [results, Tryz.results74, go_sem, c0, c1, c2, c3, c4, c5, c6]) rfl ⟨rfl, by repeat (first | exact xr _ | exact hb0 | apply xa | apply xg | (refine xs ?_ (by simp) _))⟩

  · refine wp_region_class (LinD g W1.heap.size W2.heap.size (x :: y :: r) S N dn) (by kernel_rfl) fun x0 => ?_
    refine WC_take0 (V := V) (v := ?_) (a' := ?_) 0 LinD.grows rfl (by kernel_rfl) (by kernel_rfl) (by kernel_rfl) hL ⟨rfl, fun w' hw' => ?_⟩ ?_ 87 rfl (by kernel_rfl) fun x0 => ?_
    rotate_left 2
    · obtain ⟨⟨WA', gl', kF', k0, k1, k2, k3, k4, k5⟩, n0⟩ := hw'
      have hcb : W1.heap.size < w'.heap.size := World.block_lt_of_cell? _ _ k0
      have hnb : W2.heap.size < w'.heap.size := World.block_lt_of_cell? _ _ n0
      go_big_quiet_op; exact rfl
    · exact rfl
    refine WC_take0 (V := V) (v := ?_) (a' := ?_) 1 LinD.grows rfl (by kernel_rfl) (by kernel_rfl) (by kernel_rfl) hL ⟨rfl, fun w' hw' => ?_⟩ ?_ 88 rfl (by kernel_rfl) fun x0 => ?_
    rotate_left 2
    · obtain ⟨⟨WA', gl', kF', k0, k1, k2, k3, k4, k5⟩, n0⟩ := hw'
      have hcb : W1.heap.size < w'.heap.size := World.block_lt_of_cell? _ _ k0
      have hnb : W2.heap.size < w'.heap.size := World.block_lt_of_cell? _ _ n0
      go_big_quiet_op; exact rfl
    · exact rfl
    refine WC_take0 (V := V) (v := ?_) (a' := ?_) 2 LinD.grows rfl (by kernel_rfl) (by kernel_rfl) (by kernel_rfl) hL ⟨rfl, fun w' hw' => ?_⟩ ?_ 89 rfl (by kernel_rfl) fun x0 => ?_
    rotate_left 2
    · obtain ⟨⟨WA', gl', kF', k0, k1, k2, k3, k4, k5⟩, n0⟩ := hw'
      have hcb : W1.heap.size < w'.heap.size := World.block_lt_of_cell? _ _ k0
      have hnb : W2.heap.size < w'.heap.size := World.block_lt_of_cell? _ _ n0
      go_big_quiet_op; exact rfl
    · exact rfl
    refine WC_take0 (V := V) (v := ?_) (a' := ?_) 3 LinD.grows rfl (by kernel_rfl) (by kernel_rfl) (by kernel_rfl) hL ⟨rfl, fun w' hw' => ?_⟩ ?_ 90 rfl (by kernel_rfl) fun x0 => ?_
    rotate_left 2
    · obtain ⟨⟨WA', gl', kF', k0, k1, k2, k3, k4, k5⟩, n0⟩ := hw'
      have hcb : W1.heap.size < w'.heap.size := World.block_lt_of_cell? _ _ k0
      have hnb : W2.heap.size < w'.heap.size := World.block_lt_of_cell? _ _ n0
      go_big_quiet_op; exact rfl
    · exact rfl
    refine WC_take0 (V := V) (v := ?_) (a' := ?_) 4 LinD.grows rfl (by kernel_rfl) (by kernel_rfl) (by kernel_rfl) hL ⟨rfl, fun w' hw' => ?_⟩ ?_ 91 rfl (by kernel_rfl) fun x0 => ?_
    rotate_left 2
    · obtain ⟨⟨WA', gl', kF', k0, k1, k2, k3, k4, k5⟩, n0⟩ := hw'
      have hcb : W1.heap.size < w'.heap.size := World.block_lt_of_cell? _ _ k0
      have hnb : W2.heap.size < w'.heap.size := World.block_lt_of_cell? _ _ n0
      go_big_quiet_op; exact rfl
    · exact rfl
    refine WC_take0 (V := V) (v := ?_) (a' := ?_) 5 LinD.grows rfl (by kernel_rfl) (by kernel_rfl) (by kernel_rfl) hL ⟨rfl, fun w' hw' => ?_⟩ ?_ 92 rfl (by kernel_rfl) fun x0 => ?_
    rotate_left 2
    · obtain ⟨⟨WA', gl', kF', k0, k1, k2, k3, k4, k5⟩, n0⟩ := hw'
      have hcb : W1.heap.size < w'.heap.size := World.block_lt_of_cell? _ _ k0
      have hnb : W2.heap.size < w'.heap.size := World.block_lt_of_cell? _ _ n0
      go_big_quiet_op; exact rfl
    · exact rfl
    refine WC_take0 (V := V) (v := ?_) (a' := ?_) 6 LinD.grows rfl (by kernel_rfl) (by kernel_rfl) (by kernel_rfl) hL ⟨rfl, fun w' hw' => ?_⟩ ?_ 93 rfl (by kernel_rfl) fun x0 => ?_
    rotate_left 2
    · go_big_quiet_op
      apply Exists.intro; refine ⟨fun n => ?_, ?_⟩
      · go_at_call 119
        exact gw_call (H119.out _ _ (by have := hw'.1.WA.words (k := k) (cap := cap) hw'.1.gl (by simpa using hkr) (by simpa using hcap); have := WordsV.below this (gw_below w' n); simpa using this))
      exact rfl
    · exact rfl
    have stW := stV.grow (gw_below _ x0)
    have hL := LinD.grows _ _ hL (Grown.gw _ x0)
    obtain ⟨U, hU⟩ : ∃ U, gw V x0 = U := ⟨_, rfl⟩
    rw [hU] at stW hL ⊢
    clear hU stV
    obtain ⟨bb, kl, rl, k0, k1, k2, k3, k4, k5, kF, r0, r1, r2, r3, r4, r5, r6, rF⟩ := id stW
    refine WC_all [7] (by kernel_rfl) (by simp) fun i hi => ?_
    rcases List.mem_singleton.1 hi with rfl
    refine WG_op rfl rfl fun K hK => ?_
    go_big_op
    obtain ⟨Y, hY, hR, hS, hB, hO, hFz⟩ := store7j stW.res f0 f1 f2 f3 f4 f5 f6
    rw [hY]
    clear hY
    clear bb kl rl k0 k1 k2 k3 k4 k5 kF r0 r1 r2 r3 r4 r5 r6 rF
    refine hK _ _ ⟨hL.other hS ne2 ne8 (show ¬ W2.heap.size = w.heap.size + 1 by omega) hO hFz, fun y0 => ?_⟩
    have hb0 := below_trans (hB w stW.b0 (by omega)) (gw_below Y y0)
    replace hR := hR.grow (gw_below Y y0)
    refine WC_done (by kernel_rfl) ?_ _
    unfold NoPanic
    clear hK hB hO hFz hS hL stW
    obtain ⟨Z, hZ⟩ : ∃ Z, gw Y y0 = Z := ⟨_, rfl⟩
    rw [hZ] at hb0 hR ⊢
    clear hZ
    obtain ⟨c0, c1, c2, c3, c4, c5, c6, cF⟩ := hR
    go_wp2_with fail
    exact bodyPost_ret (v := .agg #[.int .i64 (f0), .int .i64 (f1), .int .i64 (f2), .int .i64 (f3), .int .i64 (f4), .int .i64 (f5), .int .i64 (f6)]) (by simp [results, Tryz.results74, go_sem, c0, c1, c2, c3, c4, c5, c6]) rfl ⟨rfl, by repeat (first | exact xr _ | exact hb0 | apply xa | apply xg | (refine xs ?_ (by simp) _))⟩
set_option maxRecDepth 100000 in
set_option maxHeartbeats 16000000 in
theorem c74_big (s : List UInt8) (b0 b1 b2 b3 b4 b5 : Int) (has : Bool) (w : World) (hs : 200 < s.length)
    : Calls Tryz.prog 74 #[.string ⟨s.toArray⟩, .agg #[.int .i64 b0, .int .i64 b1, .int .i64 b2, .int .i64 b3, .int .i64 b4, .int .i64 b5], .bool has] w fun e w' => e = .returned (.agg #[.int .i64 0, .int .i64 0, .int .i64 0, .int .i64 0, .int .i64 0, .int .i64 0, .int .i64 2]) ∧ Below w.heap.size w w' := by
  go_enter Tryz.func74, Tryz.ntmps74
  go_wp2_with fail
  exact bodyPost_ret (v := .agg #[.int .i64 0, .int .i64 0, .int .i64 0, .int .i64 0, .int .i64 0, .int .i64 0, .int .i64 2]) (by simp [results, Tryz.results74, go_sem]) rfl ⟨rfl, by repeat (first | exact xr _ | apply xa | apply xg | (refine xs ?_ (by simp) _))⟩
set_option maxRecDepth 100000 in
set_option maxHeartbeats 16000000 in
theorem c74_empty (s : List UInt8) (b0 b1 b2 b3 b4 b5 : Int) (has : Bool) (w : World) (hs : s.length ≤ 200)
    (H35 : ∀ W, Hid (Calls Tryz.prog 35 #[.string ⟨s.toArray⟩] W fun e w' => (∃ a cap, e = .returned (.slice a 0 cap)) ∧ Below W.heap.size W w'))
    : Calls Tryz.prog 74 #[.string ⟨s.toArray⟩, .agg #[.int .i64 b0, .int .i64 b1, .int .i64 b2, .int .i64 b3, .int .i64 b4, .int .i64 b5], .bool has] w fun e w' => e = .returned (.agg #[.int .i64 0, .int .i64 0, .int .i64 0, .int .i64 0, .int .i64 0, .int .i64 0, .int .i64 7]) ∧ Below w.heap.size w w' := by
  go_enter Tryz.func74, Tryz.ntmps74
  go_wp2_with fail
  refine (H35 _).out.mono ?_
  rintro e W1 ⟨⟨a, cap, rfl⟩, hb⟩
  have st1 := (FinSt.start6 w b0 b1 b2 b3 b4 b5).grow hb
  clear hb
  obtain ⟨bb, kl, rl, k0, k1, k2, k3, k4, k5, kF, r0, r1, r2, r3, r4, r5, r6, rF⟩ := id st1
  go_wp2_with fail
  obtain ⟨Y, hY, hR, hS, hB⟩ := store7i (st1).res (0) (0) (0) (0) (0) (0) (7)
  rw [hY]
  clear hY
  have hb0 := hB w (st1).b0 (by omega)
  clear hB hS
  obtain ⟨c0, c1, c2, c3, c4, c5, c6, cF⟩ := hR
  clear bb kl rl k0 k1 k2 k3 k4 k5 kF r0 r1 r2 r3 r4 r5 r6 rF st1
  exact bodyPost_ret (v := .agg #[.int .i64 (0), .int .i64 (0), .int .i64 (0), .int .i64 (0), .int .i64 (0), .int .i64 (0), .int .i64 (7)]) (by simp [results, Tryz.results74, go_sem, c0, c1, c2, c3, c4, c5, c6]) rfl ⟨rfl, by repeat (first | exact xr _ | exact hb0 | apply xa | apply xg | (refine xs ?_ (by simp) _))⟩
end Go.Proofs.YthifeoebefbalaaGreatDoor
