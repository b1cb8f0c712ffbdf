/- Order, of the program. -/
import Derived.Test.YthifeoebefbalaaGreatDoorR11
import Derived.Test.YthifeoebefbalaaGreatDoorZ9
namespace Go.Proofs.YthifeoebefbalaaGreatDoor
open Go.RowKit

theorem c144 (x y : Int) (w : World) : Calls Tryz.prog 144 #[.int .i64 x, .int .i64 y] w fun e w' => e = .returned (.int .i64 (Lib.compareInt x y)) ∧ w = w' := (Tryz.cmp_Compare_int x y w).mono fun _ _ h => ⟨h.1, h.2.symm⟩
set_option maxRecDepth 100000 in
set_option maxHeartbeats 4000000 in
theorem c101 (a1 a2 a3 a4 a5 a6 b1 b2 b3 b4 b5 b6 : Int) (v : Value) (hv : v = .agg #[]) (w : World) : Calls Tryz.prog 101 #[v, .agg #[.int .i64 a1, .int .i64 a2, .int .i64 a3, .int .i64 a4, .int .i64 a5, .int .i64 a6], .agg #[.int .i64 b1, .int .i64 b2, .int .i64 b3, .int .i64 b4, .int .i64 b5, .int .i64 b6]] w fun e w' => e = .returned (.int .i64 (orL [Lib.compareInt a1 b1, Lib.compareInt a2 b2, Lib.compareInt a3 b3, Lib.compareInt a4 b4, Lib.compareInt a5 b5, Lib.compareInt a6 b6])) ∧ Below w.heap.size w w' := by
  subst hv
  go_enter Tryz.func101, Tryz.ntmps101
  go_wp2_with fail
  obtain ⟨w0, hw0⟩ : ∃ w0, ((w.alloc (.cells #[] 128)).alloc (.cells #[Value.int .i64 a1, .int .i64 a2, .int .i64 a3, .int .i64 a4, .int .i64 a5, .int .i64 a6] 24)).alloc (.cells #[Value.int .i64 b1, .int .i64 b2, .int .i64 b3, .int .i64 b4, .int .i64 b5, .int .i64 b6] 24) = w0 := ⟨_, rfl⟩
  have f1 : BlkAt w0 (w.heap.size + 1) (fun i => #[Value.int .i64 a1, .int .i64 a2, .int .i64 a3, .int .i64 a4, .int .i64 a5, .int .i64 a6][i]?) := by
    rw [← hw0]
    have := (blk_new (w := w.alloc (.cells #[] 128)) (cs := #[Value.int .i64 a1, .int .i64 a2, .int .i64 a3, .int .i64 a4, .int .i64 a5, .int .i64 a6]) (T := 24) (xr _)).alloc (.cells #[Value.int .i64 b1, .int .i64 b2, .int .i64 b3, .int .i64 b4, .int .i64 b5, .int .i64 b6] 24)
    simpa using this
  have f2 : BlkAt w0 (w.heap.size + 1 + 1) (fun i => #[Value.int .i64 b1, .int .i64 b2, .int .i64 b3, .int .i64 b4, .int .i64 b5, .int .i64 b6][i]?) := by
    rw [← hw0]
    have := (blk_new (w := (w.alloc (.cells #[] 128)).alloc (.cells #[Value.int .i64 a1, .int .i64 a2, .int .i64 a3, .int .i64 a4, .int .i64 a5, .int .i64 a6] 24)) (cs := #[Value.int .i64 b1, .int .i64 b2, .int .i64 b3, .int .i64 b4, .int .i64 b5, .int .i64 b6]) (T := 24) (xr _))
    simpa using this
  have f4 : Below w.heap.size w w0 := by rw [← hw0]; exact xa (xa (xa (xr _) _) _) _
  obtain ⟨g1, g2⟩ := f1
  obtain ⟨g3, g4⟩ := f2
  rw [hw0]
  clear hw0
  refine wp_region_grows w0 (by kernel_rfl) (Grown.refl _) fun x => ?_
  refine WG_take0 (v := ?_) (a' := ?_) 0 rfl (by kernel_rfl) (by kernel_rfl) (by kernel_rfl) ⟨rfl, fun y => ?_⟩ ?_ 7 rfl (by kernel_rfl) fun x => ?_
  rotate_left 2
  · go_big_quiet_op; exact rfl
  · exact rfl
  refine WG_take0 (v := ?_) (a' := ?_) 1 rfl (by kernel_rfl) (by kernel_rfl) (by kernel_rfl) ⟨rfl, fun y => ?_⟩ ?_ 8 rfl (by kernel_rfl) fun x => ?_
  rotate_left 2
  · go_big_quiet_op; exact rfl
  · exact rfl
  refine WG_take0 (v := ?_) (a' := ?_) 2 rfl (by kernel_rfl) (by kernel_rfl) (by kernel_rfl) ⟨rfl, fun y => ?_⟩ ?_ 9 rfl (by kernel_rfl) fun x => ?_
  rotate_left 2
  · go_big_quiet_op; exact rfl
  · exact rfl
  refine WG_take0 (v := ?_) (a' := ?_) 3 rfl (by kernel_rfl) (by kernel_rfl) (by kernel_rfl) ⟨rfl, fun y => ?_⟩ ?_ 10 rfl (by kernel_rfl) fun x => ?_
  rotate_left 2
  · go_big_quiet_op; exact rfl
  · exact rfl
  refine WG_take0 (v := ?_) (a' := ?_) 4 rfl (by kernel_rfl) (by kernel_rfl) (by kernel_rfl) ⟨rfl, fun y => ?_⟩ ?_ 11 rfl (by kernel_rfl) fun x => ?_
  rotate_left 2
  · go_big_quiet_op
    apply Exists.intro; refine ⟨fun n => ?_, ?_⟩
    · go_at_call 144
      exact gw_same (c144 _ _ _)
    exact rfl
  · exact rfl
  refine WG_take0 (v := ?_) (a' := ?_) 5 rfl (by kernel_rfl) (by kernel_rfl) (by kernel_rfl) ⟨rfl, fun y => ?_⟩ ?_ 12 rfl (by kernel_rfl) fun x => ?_
  rotate_left 2
  · go_big_quiet_op; exact rfl
  · exact rfl
  refine WG_take0 (v := ?_) (a' := ?_) 6 rfl (by kernel_rfl) (by kernel_rfl) (by kernel_rfl) ⟨rfl, fun y => ?_⟩ ?_ 13 rfl (by kernel_rfl) fun x => ?_
  rotate_left 2
  · go_big_quiet_op; exact rfl
  · exact rfl
  refine WG_take0 (v := ?_) (a' := ?_) 7 rfl (by kernel_rfl) (by kernel_rfl) (by kernel_rfl) ⟨rfl, fun y => ?_⟩ ?_ 14 rfl (by kernel_rfl) fun x => ?_
  rotate_left 2
  · go_big_quiet_op; exact rfl
  · exact rfl
  refine WG_take0 (v := ?_) (a' := ?_) 8 rfl (by kernel_rfl) (by kernel_rfl) (by kernel_rfl) ⟨rfl, fun y => ?_⟩ ?_ 15 rfl (by kernel_rfl) fun x => ?_
  rotate_left 2
  · go_big_quiet_op; exact rfl
  · exact rfl
  refine WG_take0 (v := ?_) (a' := ?_) 9 rfl (by kernel_rfl) (by kernel_rfl) (by kernel_rfl) ⟨rfl, fun y => ?_⟩ ?_ 16 rfl (by kernel_rfl) fun x => ?_
  rotate_left 2
  · go_big_quiet_op
    apply Exists.intro; refine ⟨fun n => ?_, ?_⟩
    · go_at_call 144
      exact gw_same (c144 _ _ _)
    exact rfl
  · exact rfl
  refine WG_take0 (v := ?_) (a' := ?_) 10 rfl (by kernel_rfl) (by kernel_rfl) (by kernel_rfl) ⟨rfl, fun y => ?_⟩ ?_ 17 rfl (by kernel_rfl) fun x => ?_
  rotate_left 2
  · go_big_quiet_op; exact rfl
  · exact rfl
  refine WG_take0 (v := ?_) (a' := ?_) 11 rfl (by kernel_rfl) (by kernel_rfl) (by kernel_rfl) ⟨rfl, fun y => ?_⟩ ?_ 18 rfl (by kernel_rfl) fun x => ?_
  rotate_left 2
  · go_big_quiet_op; exact rfl
  · exact rfl
  refine WG_take0 (v := ?_) (a' := ?_) 12 rfl (by kernel_rfl) (by kernel_rfl) (by kernel_rfl) ⟨rfl, fun y => ?_⟩ ?_ 19 rfl (by kernel_rfl) fun x => ?_
  rotate_left 2
  · go_big_quiet_op; exact rfl
  · exact rfl
  refine WG_take0 (v := ?_) (a' := ?_) 13 rfl (by kernel_rfl) (by kernel_rfl) (by kernel_rfl) ⟨rfl, fun y => ?_⟩ ?_ 20 rfl (by kernel_rfl) fun x => ?_
  rotate_left 2
  · go_big_quiet_op; exact rfl
  · exact rfl
  refine WG_take0 (v := ?_) (a' := ?_) 14 rfl (by kernel_rfl) (by kernel_rfl) (by kernel_rfl) ⟨rfl, fun y => ?_⟩ ?_ 21 rfl (by kernel_rfl) fun x => ?_
  rotate_left 2
  · go_big_quiet_op
    apply Exists.intro; refine ⟨fun n => ?_, ?_⟩
    · go_at_call 144
      exact gw_same (c144 _ _ _)
    exact rfl
  · exact rfl
  refine WG_take0 (v := ?_) (a' := ?_) 15 rfl (by kernel_rfl) (by kernel_rfl) (by kernel_rfl) ⟨rfl, fun y => ?_⟩ ?_ 22 rfl (by kernel_rfl) fun x => ?_
  rotate_left 2
  · go_big_quiet_op; exact rfl
  · exact rfl
  refine WG_take0 (v := ?_) (a' := ?_) 16 rfl (by kernel_rfl) (by kernel_rfl) (by kernel_rfl) ⟨rfl, fun y => ?_⟩ ?_ 23 rfl (by kernel_rfl) fun x => ?_
  rotate_left 2
  · go_big_quiet_op; exact rfl
  · exact rfl
  refine WG_take0 (v := ?_) (a' := ?_) 17 rfl (by kernel_rfl) (by kernel_rfl) (by kernel_rfl) ⟨rfl, fun y => ?_⟩ ?_ 24 rfl (by kernel_rfl) fun x => ?_
  rotate_left 2
  · go_big_quiet_op; exact rfl
  · exact rfl
  refine WG_take0 (v := ?_) (a' := ?_) 18 rfl (by kernel_rfl) (by kernel_rfl) (by kernel_rfl) ⟨rfl, fun y => ?_⟩ ?_ 25 rfl (by kernel_rfl) fun x => ?_
  rotate_left 2
  · go_big_quiet_op; exact rfl
  · exact rfl
  refine WG_take0 (v := ?_) (a' := ?_) 19 rfl (by kernel_rfl) (by kernel_rfl) (by kernel_rfl) ⟨rfl, fun y => ?_⟩ ?_ 26 rfl (by kernel_rfl) fun x => ?_
  rotate_left 2
  · go_big_quiet_op
    apply Exists.intro; refine ⟨fun n => ?_, ?_⟩
    · go_at_call 144
      exact gw_same (c144 _ _ _)
    exact rfl
  · exact rfl
  refine WG_take0 (v := ?_) (a' := ?_) 20 rfl (by kernel_rfl) (by kernel_rfl) (by kernel_rfl) ⟨rfl, fun y => ?_⟩ ?_ 27 rfl (by kernel_rfl) fun x => ?_
  rotate_left 2
  · go_big_quiet_op; exact rfl
  · exact rfl
  refine WG_take0 (v := ?_) (a' := ?_) 21 rfl (by kernel_rfl) (by kernel_rfl) (by kernel_rfl) ⟨rfl, fun y => ?_⟩ ?_ 28 rfl (by kernel_rfl) fun x => ?_
  rotate_left 2
  · go_big_quiet_op; exact rfl
  · exact rfl
  refine WG_take0 (v := ?_) (a' := ?_) 22 rfl (by kernel_rfl) (by kernel_rfl) (by kernel_rfl) ⟨rfl, fun y => ?_⟩ ?_ 29 rfl (by kernel_rfl) fun x => ?_
  rotate_left 2
  · go_big_quiet_op; exact rfl
  · exact rfl
  refine WG_take0 (v := ?_) (a' := ?_) 23 rfl (by kernel_rfl) (by kernel_rfl) (by kernel_rfl) ⟨rfl, fun y => ?_⟩ ?_ 30 rfl (by kernel_rfl) fun x => ?_
  rotate_left 2
  · go_big_quiet_op; exact rfl
  · exact rfl
  refine WG_take0 (v := ?_) (a' := ?_) 24 rfl (by kernel_rfl) (by kernel_rfl) (by kernel_rfl) ⟨rfl, fun y => ?_⟩ ?_ 31 rfl (by kernel_rfl) fun x => ?_
  rotate_left 2
  · go_big_quiet_op
    apply Exists.intro; refine ⟨fun n => ?_, ?_⟩
    · go_at_call 144
      exact gw_same (c144 _ _ _)
    exact rfl
  · exact rfl
  refine WG_take0 (v := ?_) (a' := ?_) 25 rfl (by kernel_rfl) (by kernel_rfl) (by kernel_rfl) ⟨rfl, fun y => ?_⟩ ?_ 32 rfl (by kernel_rfl) fun x => ?_
  rotate_left 2
  · go_big_quiet_op; exact rfl
  · exact rfl
  refine WG_take0 (v := ?_) (a' := ?_) 26 rfl (by kernel_rfl) (by kernel_rfl) (by kernel_rfl) ⟨rfl, fun y => ?_⟩ ?_ 33 rfl (by kernel_rfl) fun x => ?_
  rotate_left 2
  · go_big_quiet_op; exact rfl
  · exact rfl
  refine WG_take0 (v := ?_) (a' := ?_) 27 rfl (by kernel_rfl) (by kernel_rfl) (by kernel_rfl) ⟨rfl, fun y => ?_⟩ ?_ 34 rfl (by kernel_rfl) fun x => ?_
  rotate_left 2
  · go_big_quiet_op; exact rfl
  · exact rfl
  refine WG_take0 (v := ?_) (a' := ?_) 28 rfl (by kernel_rfl) (by kernel_rfl) (by kernel_rfl) ⟨rfl, fun y => ?_⟩ ?_ 35 rfl (by kernel_rfl) fun x => ?_
  rotate_left 2
  · go_big_quiet_op; exact rfl
  · exact rfl
  refine WG_take0 (v := ?_) (a' := ?_) 29 rfl (by kernel_rfl) (by kernel_rfl) (by kernel_rfl) ⟨rfl, fun y => ?_⟩ ?_ 36 rfl (by kernel_rfl) fun x => ?_
  rotate_left 2
  · go_big_quiet_op
    apply Exists.intro; refine ⟨fun n => ?_, ?_⟩
    · go_at_call 144
      exact gw_same (c144 _ _ _)
    exact rfl
  · exact rfl
  refine WG_all [30] (by kernel_rfl) (by simp) fun i hi => ?_
  rcases List.mem_singleton.1 hi with rfl
  refine WG_op rfl rfl fun K hK => ?_
  go_big_op
  refine hK _ _ ⟨xa (Grown.gw _ _) _, fun y => ?_⟩
  obtain ⟨p, w1, e1, e2, p1, p2, p3, p4, pF, p5⟩ := new_at (Grown.gw w0 x) #[.int .i64 (Lib.compareInt a1 b1), .int .i64 (Lib.compareInt a2 b2), .int .i64 (Lib.compareInt a3 b3), .int .i64 (Lib.compareInt a4 b4), .int .i64 (Lib.compareInt a5 b5), .int .i64 (Lib.compareInt a6 b6)] 3 y
  rw [e1, e2]
  clear e1 e2 p1 p3 pF hi g1 g2 g3 g4
  have HR := fun V => Lib.hid (c143 p (Lib.compareInt a1 b1) (Lib.compareInt a2 b2) (Lib.compareInt a3 b3) (Lib.compareInt a4 b4) (Lib.compareInt a5 b5) (Lib.compareInt a6 b6) V)
  refine WG_all [31] (by kernel_rfl) (by simp) fun i hi => ?_
  rcases List.mem_singleton.1 hi with rfl
  refine WG_op rfl rfl fun K hK => ?_
  go_big_op
  refine ((HR w1).out p4 p5).mono ?_
  rintro e w2 ⟨rfl, rfl⟩
  refine hK _ _ ⟨p2, fun z => ?_⟩
  have p6 := p2.trans (Grown.gw w1 z)
  refine WG_all [32] (by kernel_rfl) (by simp) fun i hi => ?_
  rcases List.mem_singleton.1 hi with rfl
  refine WG_op rfl rfl fun K hK => ?_
  go_big_op
  refine hK _ _ ⟨p6, fun z2 => ?_⟩
  have p7 := p6.trans (Grown.gw (gw w1 z) z2)
  refine WG_done (by kernel_rfl) ?_ _
  unfold NoPanic
  go_wp2_with fail
  go_ret
  exact ⟨rfl, f4.trans (p7.mono f4.size)⟩
theorem c60 (a1 a2 a3 a4 a5 a6 b1 b2 b3 b4 b5 b6 : Int) (w : World) : Calls Tryz.prog 60 #[.agg #[.int .i64 a1, .int .i64 a2, .int .i64 a3, .int .i64 a4, .int .i64 a5, .int .i64 a6], .agg #[.int .i64 b1, .int .i64 b2, .int .i64 b3, .int .i64 b4, .int .i64 b5, .int .i64 b6]] w fun e w' => e = .returned (.int .i64 (orL [Lib.compareInt a1 b1, Lib.compareInt a2 b2, Lib.compareInt a3 b3, Lib.compareInt a4 b4, Lib.compareInt a5 b5, Lib.compareInt a6 b6])) ∧ Below w.heap.size w w' := by
  obtain ⟨R, hR⟩ : ∃ R, orL [Lib.compareInt a1 b1, Lib.compareInt a2 b2, Lib.compareInt a3 b3, Lib.compareInt a4 b4, Lib.compareInt a5 b5, Lib.compareInt a6 b6] = R := ⟨_, rfl⟩
  have H := fun W => Lib.hid (c101 a1 a2 a3 a4 a5 a6 b1 b2 b3 b4 b5 b6 (.agg #[]) rfl W)
  rw [hR] at H ⊢
  clear hR
  go_enter Tryz.func60, Tryz.ntmps60
  go_wp2_with (go_at_call 101; refine (H _).out.mono ?_; rintro e w1 ⟨rfl, hb⟩)
  go_ret
  exact ⟨rfl, below_trans (by repeat (first | exact xr _ | apply xa)) hb⟩
end Go.Proofs.YthifeoebefbalaaGreatDoor
