/- The reference: OneReading, Common, Follow. -/
import Derived.Test.YthifeoebefbalaaGreatDoorZ17
import Derived.Test.YthifeoebefbalaaGreatDoorZ15
import Derived.Test.YthifeoebefbalaaGreatDoorZ18
set_option linter.unusedVariables false
set_option linter.unusedSimpArgs false
namespace Go.Proofs.YthifeoebefbalaaGreatDoor
open Go.RowKit

set_option maxHeartbeats 2000000 in
theorem c56 (a b : Card) (w : World) : Calls Tryz.prog 56 #[cv a, cv b] w fun e w' => e = .returned (.bool (sameOf a b)) ∧ Below w.heap.size w w' := by
  obtain ⟨v, hv⟩ : ∃ v, sameOf a b = v := ⟨_, rfl⟩
  rw [hv]
  have HV := Lib.hid hv
  clear hv
  obtain ⟨a1, a2, a3, a4, a5, a6⟩ := a
  obtain ⟨b1, b2, b3, b4, b5, b6⟩ := b
  unfold sameOf at HV
  unfold cv
  simp only at *
  by_cases h1 : a1 = b1
  all_goals by_cases h2 : a2 = b2
  all_goals by_cases h3 : a3 = b3
  all_goals
    go_enter Tryz.func56, Tryz.ntmps56
    go_wp2_with fail
    go_ret
    exact ⟨ret_bool (by rw [← HV.out]; simp [h1, h2, h3]), xa (xa (xr _) _) _⟩
set_option maxHeartbeats 2000000 in
theorem c53 (a b : Card) (w : World) (ha : 0 ≤ a.da) (ha' : a.da ≤ 60000) (hb : 0 ≤ b.dy) (hb' : b.dy ≤ 100) : Calls Tryz.prog 53 #[cv a, cv b] w fun e w' => e = .returned (.bool (followsB a b)) ∧ Below w.heap.size w w' := by
  rw [followsB]
  obtain ⟨a1, a2, a3, a4, a5, a6⟩ := a
  obtain ⟨b1, b2, b3, b4, b5, b6⟩ := b
  unfold cv
  simp only at *
  by_cases h1 : a1 = b1
  · subst h1
    by_cases h2 : b2 = a2 + b3
    · subst h2
      go_enter Tryz.func53, Tryz.ntmps53
      go_wp2_with fail
      go_ret
      exact ⟨ret_bool (by simp), xa (xa (xr _) _) _⟩
    · go_enter Tryz.func53, Tryz.ntmps53
      go_wp2_with fail
      go_ret
      exact ⟨ret_bool (by simp [h2]), xa (xa (xr _) _) _⟩
  · go_enter Tryz.func53, Tryz.ntmps53
    go_wp2_with fail
    go_ret
    exact ⟨ret_bool (by simp [h1]), xa (xa (xr _) _) _⟩
end Go.Proofs.YthifeoebefbalaaGreatDoor

namespace Go.Proofs.YthifeoebefbalaaGreatDoor
open Go.RowKit

set_option maxHeartbeats 2000000 in
set_option maxRecDepth 100000 in
theorem c54 (a b c d : Int) (w : World) : Calls Tryz.prog 54 #[.agg #[.int .i64 a, .int .i64 b], .agg #[.int .i64 c, .int .i64 d]] w fun e w' => e = .returned (.agg #[.int .i64 (max a c), .int .i64 (min b d)]) ∧ Below w.heap.size w w' := by
  go_enter Tryz.func54, Tryz.ntmps54
  go_wp2_with fail
  exact bodyPost_ret (v := .agg #[.int .i64 (max a c), .int .i64 (min b d)]) (by simp [results, Tryz.results54, go_sem]) rfl ⟨rfl, by repeat (first | exact xr _ | apply xa)⟩

theorem c55f (st da dy ki am fi : Int) (w : World) (h : isCard ⟨st, da, dy, ki, am, fi⟩ = true) : Calls Tryz.prog 55 #[.agg #[.int .i64 st, .int .i64 da, .int .i64 dy, .int .i64 ki, .int .i64 am, .int .i64 fi]] w fun e w' => e = .returned (.agg #[.int .i64 (says ⟨st, da, dy, ki, am, fi⟩).lo, .int .i64 (says ⟨st, da, dy, ki, am, fi⟩).hi]) ∧ Below w.heap.size w w' :=
  c55_valid ⟨st, da, dy, ki, am, fi⟩ w h

set_option maxHeartbeats 2000000 in
set_option maxRecDepth 100000 in
theorem c51 (a b : Card) (w : World) (ha : isCard a = true) (hb : isCard b = true) : Calls Tryz.prog 51 #[cv a, cv b] w fun e w' => e = .returned (.bool (alikeB a b)) ∧ Below w.heap.size w w' := by
  have HD : Hid (alikeB a b = (sameOf a b && sameSays a b)) := Lib.hid rfl
  generalize hv : alikeB a b = v at HD ⊢
  clear hv
  have Ha := Lib.hid ha
  have Hb := Lib.hid hb
  have H56 := fun W => Lib.hid (c56 a b W)
  clear ha hb
  obtain ⟨s, hs⟩ : ∃ s, sameOf a b = s := ⟨_, rfl⟩
  rw [hs] at HD H56
  clear hs
  unfold cv at *
  obtain ⟨a1, a2, a3, a4, a5, a6⟩ := a
  obtain ⟨b1, b2, b3, b4, b5, b6⟩ := b
  simp only [sameSays] at HD
  simp only at H56 ⊢
  cases s with
  | true =>
    by_cases h4 : (says ⟨a1, a2, a3, a4, a5, a6⟩).lo = (says ⟨b1, b2, b3, b4, b5, b6⟩).lo
    all_goals by_cases h5 : (says ⟨a1, a2, a3, a4, a5, a6⟩).hi = (says ⟨b1, b2, b3, b4, b5, b6⟩).hi
    all_goals
      go_enter Tryz.func51, Tryz.ntmps51
      go_wp2_with fail
      refine wp_region_gw (by kernel_rfl) (by kernel_rfl) ?_
      repeat (go_big_quiet_step (first
        | (go_at_call 56; exact gw_call (H56 _).out)
        | (go_at_call 55; exact gw_call (c55f _ _ _ _ _ _ _ (by first | exact Ha.out | exact Hb.out)))))
      refine wpQuiet_nil ?_
      rintro _ ⟨x, rfl⟩
      go_wp2
      go_ret
      exact ⟨ret_bool (by simp [HD.out, h4, h5]), xg (xa (xa (xr _) _) _) x⟩
  | false =>
    go_enter Tryz.func51, Tryz.ntmps51
    go_wp2_with fail
    refine wp_region_gw (by kernel_rfl) (by kernel_rfl) ?_
    repeat (go_big_quiet_step ((go_at_call 56; exact gw_call (H56 _).out)))
    refine wpQuiet_nil ?_
    rintro _ ⟨x, rfl⟩
    go_wp2
    go_ret
    exact ⟨ret_bool (by simp [HD.out]), xg (xa (xa (xr _) _) _) x⟩
end Go.Proofs.YthifeoebefbalaaGreatDoor

namespace Go.Proofs.YthifeoebefbalaaGreatDoor
open Go.RowKit

def joinR (s t : Sp) : Sp := ⟨s.lo + t.lo, min 1073741824 (s.hi + t.hi)⟩
set_option maxHeartbeats 2000000 in
set_option maxRecDepth 100000 in
theorem c57v (a1 a2 a3 a4 a5 a6 b1 b2 b3 b4 b5 b6 l1 h1 l2 h2 : Int) (w : World)
    (HA : ∀ W, Hid (Calls Tryz.prog 55 #[.agg #[.int .i64 a1, .int .i64 a2, .int .i64 a3, .int .i64 a4, .int .i64 a5, .int .i64 a6]] W fun r w' => r = .returned (.agg #[.int .i64 l1, .int .i64 h1]) ∧ Below W.heap.size W w'))
    (HB : ∀ W, Hid (Calls Tryz.prog 55 #[.agg #[.int .i64 b1, .int .i64 b2, .int .i64 b3, .int .i64 b4, .int .i64 b5, .int .i64 b6]] W fun r w' => r = .returned (.agg #[.int .i64 l2, .int .i64 h2]) ∧ Below W.heap.size W w'))
    (p1 : 0 ≤ l1) (p2 : l1 ≤ 1073741824) (p3 : 0 ≤ h1) (p4 : h1 ≤ 1073741824) (p5 : 0 ≤ l2) (p6 : l2 ≤ 1073741824) (p7 : 0 ≤ h2) (p8 : h2 ≤ 1073741824) :
    Calls Tryz.prog 57 #[.agg #[.int .i64 a1, .int .i64 a2, .int .i64 a3, .int .i64 a4, .int .i64 a5, .int .i64 a6], .agg #[.int .i64 b1, .int .i64 b2, .int .i64 b3, .int .i64 b4, .int .i64 b5, .int .i64 b6]] w fun e w' => e = .returned (.agg #[.int .i64 (l1 + l2), .int .i64 (min 1073741824 (h1 + h2))]) ∧ Below w.heap.size w w' := by
  go_enter Tryz.func57, Tryz.ntmps57
  go_wp2_with fail
  refine call_named (fun V => Below w.heap.size w V ∧ Hid (V.heap[w.heap.size]? = some (cellsOf ⟨a1, a2, a3, a4, a5, a6⟩)) ∧ Hid (V.heap[w.heap.size + 1]? = some (cellsOf ⟨b1, b2, b3, b4, b5, b6⟩)) ∧ Hid (V.heap[w.heap.size + 1 + 1]? = some (spanOf ⟨0, 0⟩))) (box_three w _ _ _) ?_
  rintro X0 ⟨hB, K0, K1, K2⟩
  refine ((HA _).out).mono ?_
  rintro r X1 ⟨rfl, hb⟩
  replace K1 := keepB hb K1
  replace K2 := keepB hb K2
  replace hB := hB.trans (hb.mono hB.size)
  clear hb K0
  obtain ⟨B3, hB3⟩ : ∃ b, X1.heap.size = b := ⟨_, rfl⟩
  obtain ⟨t1_0, t1_1, t1_2, t1_3, t1_4, t1_5, t1_6, t1_7⟩ := cellsOf_at K1.out
  rw [hB3] at t1_7
  go_wp2_with fail
  clear t1_0 t1_1 t1_2 t1_3 t1_4 t1_5 t1_6 t1_7
  try rw [hB3]
  refine call_named (fun V => Below w.heap.size w V ∧ Hid (V.heap[w.heap.size + 1 + 1]? = some (spanOf ⟨0, 0⟩)) ∧ Hid (V.heap[B3]? = some (spanOf ⟨l1, h1⟩))) ⟨xa hB _, keepA K2 _, newA _ _ _ hB3⟩ ?_
  clear hB K1 K2 hB3
  rintro V ⟨hB, K2, K3⟩
  refine ((HB _).out).mono ?_
  rintro r X2 ⟨rfl, hb⟩
  replace K2 := keepB hb K2
  replace K3 := keepB hb K3
  replace hB := hB.trans (hb.mono hB.size)
  clear hb
  obtain ⟨B4, hB4⟩ : ∃ b, X2.heap.size = b := ⟨_, rfl⟩
  obtain ⟨t2, t3, tF, tL⟩ := span_at' K2.out
  obtain ⟨u2, u3, uF, uL⟩ := span_at' K3.out
  rw [hB4] at tL uL
  go_wp2_with fail
  obtain ⟨Y, hY, hYb, hYg, -, hYs⟩ := store2b K2.out (l1 + l2) (min 1073741824 (h1 + h2))
  rw [hY]
  have hg := xa (hYg w hB (by omega)) (.cells #[.int .i64 l2, .int .i64 h2] 33)
  rw [hB4] at hYs
  obtain ⟨y0, y1, yF, yL⟩ := span_at' hYb
  rw [hYs] at yL
  clear hY hYb hYg
  exact bodyPost_ret (v := .agg #[.int .i64 (l1 + l2), .int .i64 (min 1073741824 (h1 + h2))]) (by simp [results, Tryz.results57, go_sem, y0, y1, hYs, yL]) rfl ⟨rfl, hg⟩
end Go.Proofs.YthifeoebefbalaaGreatDoor

namespace Go.Proofs.YthifeoebefbalaaGreatDoor
open Go.RowKit

set_option maxHeartbeats 4000000 in
set_option maxRecDepth 100000 in
theorem c52v (a b : Card) (l1 h1 l2 h2 : Int) (s : Bool) (w : World)
    (HA : ∀ W, Hid (Calls Tryz.prog 55 #[cv a] W fun r w' => r = .returned (.agg #[.int .i64 l1, .int .i64 h1]) ∧ Below W.heap.size W w'))
    (HB : ∀ W, Hid (Calls Tryz.prog 55 #[cv b] W fun r w' => r = .returned (.agg #[.int .i64 l2, .int .i64 h2]) ∧ Below W.heap.size W w'))
    (HS : ∀ W, Hid (Calls Tryz.prog 56 #[cv a, cv b] W fun r w' => r = .returned (.bool s) ∧ Below W.heap.size W w')) :
    Calls Tryz.prog 52 #[cv a, cv b] w fun e w' => e = .returned (.bool (s && decide (min h1 h2 < max l1 l2))) ∧ Below w.heap.size w w' := by
  unfold cv at *
  go_enter Tryz.func52, Tryz.ntmps52
  go_wp2_with fail
  have hbx := boxed2 w a b
  obtain ⟨w0, hw0⟩ : ∃ w0, (w.alloc (.cells #[.int .i64 a.st, .int .i64 a.da, .int .i64 a.dy, .int .i64 a.ki, .int .i64 a.am, .int .i64 a.fi] 24)).alloc (.cells #[.int .i64 b.st, .int .i64 b.da, .int .i64 b.dy, .int .i64 b.ki, .int .i64 b.am, .int .i64 b.fi] 24) = w0 := ⟨_, rfl⟩
  rw [hw0] at hbx ⊢
  clear hw0
  have HBX := Lib.hid hbx
  obtain ⟨⟨g1, g2⟩, ⟨g3, g4⟩, g5, g6⟩ := hbx
  refine wp_region_grows w0 (by kernel_rfl) (Grown.refl _) fun x => ?_
  refine WG_take0 (v := ?_) (a' := ?_) 0 rfl (by kernel_rfl) (by kernel_rfl) (by kernel_rfl) ⟨rfl, fun y => ?_⟩ ?_ 6 rfl (by kernel_rfl) fun x => ?_
  rotate_left 2
  · go_big_quiet_op; exact rfl
  · exact rfl
  refine WG_take0 (v := ?_) (a' := ?_) 1 rfl (by kernel_rfl) (by kernel_rfl) (by kernel_rfl) ⟨rfl, fun y => ?_⟩ ?_ 7 rfl (by kernel_rfl) fun x => ?_
  rotate_left 2
  · go_big_quiet_op
    apply Exists.intro; refine ⟨fun n => ?_, ?_⟩
    · go_at_call 55
      exact gw_call (HA _).out
    exact rfl
  · exact rfl
  refine WG_take0 (v := ?_) (a' := ?_) 2 rfl (by kernel_rfl) (by kernel_rfl) (by kernel_rfl) ⟨rfl, fun y => ?_⟩ ?_ 8 rfl (by kernel_rfl) fun x => ?_
  rotate_left 2
  · go_big_quiet_op; exact rfl
  · exact rfl
  refine WG_take0 (v := ?_) (a' := ?_) 3 rfl (by kernel_rfl) (by kernel_rfl) (by kernel_rfl) ⟨rfl, fun y => ?_⟩ ?_ 9 rfl (by kernel_rfl) fun x => ?_
  rotate_left 2
  · go_big_quiet_op
    apply Exists.intro; refine ⟨fun n => ?_, ?_⟩
    · go_at_call 55
      exact gw_call (HB _).out
    exact rfl
  · exact rfl
  refine WG_take0 (v := ?_) (a' := ?_) 4 rfl (by kernel_rfl) (by kernel_rfl) (by kernel_rfl) ⟨rfl, fun y => ?_⟩ ?_ 10 rfl (by kernel_rfl) fun x => ?_
  rotate_left 2
  · go_big_quiet_op
    apply Exists.intro; refine ⟨fun n => ?_, ?_⟩
    · go_at_call 54
      exact gw_call (c54 l1 h1 l2 h2 _)
    exact rfl
  · exact rfl
  refine WG_all [5] (by kernel_rfl) (by simp) fun i hi => ?_
  rcases List.mem_singleton.1 hi with rfl
  refine WG_op rfl rfl fun K hK => ?_
  go_big_op
  refine hK _ _ ⟨xa (Grown.gw _ _) _, fun y => ?_⟩
  obtain ⟨p, w1, e1, e2, p1, p2, p3, p4, pF, p5⟩ := new_at (Grown.gw w0 x) #[.int .i64 0, .int .i64 0] 33 y
  rw [e1, e2]
  clear e1 e2
  refine WG_all [6] (by kernel_rfl) (by simp) fun i hi => ?_
  rcases List.mem_singleton.1 hi with rfl
  refine WG_op rfl rfl fun K hK => ?_
  go_big_op
  refine hK _ _ ⟨xs (xs p2 p1 _) p1 _, fun y => ?_⟩
  obtain ⟨w3, e3, r1, r2, r3, r4, -⟩ := stored2 p2 p1 p5 pF (.int .i64 (max l1 l2)) (.int .i64 (min h1 h2)) y
  rw [e3]
  have r8 := Nat.lt_of_lt_of_le p4 r2
  clear e3 p3 p4 p5 pF p2 r2 w1
  refine WG_done (by kernel_rfl) ?_ _
  have t0 : w3.cell? ⟨p, 0, none⟩ = some (.int .i64 (max l1 l2)) := r3 0
  have t1 : w3.cell? ⟨p, 1, none⟩ = some (.int .i64 (min h1 h2)) := r3 1
  clear g1 g2 g3 g4 g5 g6 r3
  obtain ⟨⟨g1, g2⟩, ⟨g3, g4⟩, g5, g6⟩ := HBX.out.grown r1
  clear r1 p1 hi HBX HA HB
  unfold NoPanic
  cases s with
  | true =>
    go_wp2_with (go_at_call 56; refine (HS _).out.mono ?_; rintro e w2 ⟨rfl, hb2⟩; obtain ⟨x2, rfl⟩ := of_below hb2; clear hb2)
    all_goals go_ret
    all_goals exact ⟨ret_bool (by simp_all <;> omega), xg g5 _⟩
  | false =>
    go_wp2_with (go_at_call 56; refine (HS _).out.mono ?_; rintro e w2 ⟨rfl, hb2⟩; obtain ⟨x2, rfl⟩ := of_below hb2; clear hb2)
    all_goals go_ret
    all_goals exact ⟨ret_bool (by simp), xg g5 _⟩
end Go.Proofs.YthifeoebefbalaaGreatDoor

namespace Go.Proofs.YthifeoebefbalaaGreatDoor
open Go.RowKit

set_option maxHeartbeats 2000000 in
set_option maxRecDepth 100000 in
theorem c50_no (a b : Card) (w : World) (h : (isCard a && isCard b) = false) : Calls Tryz.prog 50 #[cv a, cv b] w fun e w' => e = .returned (.tuple #[spv ⟨0, 0⟩, .int .i64 1]) ∧ Below w.heap.size w w' := by
  have he : eachErr [a, b] = 1 := by rw [eachErr_two, h]; rfl
  have He := Lib.hid he
  clear he h
  unfold cv
  go_enter Tryz.func50, Tryz.ntmps50
  go_wp2_with fail
  refine (c93_two a b _ _ _ (by simp)).mono ?_
  rintro e w1 ⟨rfl, x1, hx⟩
  rw [He.out]
  have hT : Two w w1 a b := two_start w a b _ w1 (by rw [hx]; exact gw_below _ _)
  clear hx
  obtain ⟨hB, k0, k1, k2⟩ := hT
  obtain ⟨t0, t1, tF, tL⟩ := span_at' k2
  have K := Lib.hid k2
  clear k0 k1 k2
  go_wp2_with fail
  obtain ⟨Y, hY, hYb, hYg, -⟩ := store2b K.out 0 0
  rw [hY]
  have hg := hYg w hB (by omega)
  obtain ⟨y0, y1, yF, yL⟩ := span_at' hYb
  clear hY hYb hYg
  exact bodyPost_ret (v := .tuple #[spv ⟨0, 0⟩, .int .i64 1]) (by simp [results, Tryz.results50, go_sem, spv, y0, y1]) rfl ⟨rfl, hg⟩

set_option maxHeartbeats 4000000 in
set_option maxRecDepth 100000 in
theorem c50_none (a b : Card) (w : World) (he : eachErr [a, b] = 0) (HF : ∀ W, Hid (Calls Tryz.prog 98 #[cv a, cv b] W fun r w' => r = .returned (.bool false) ∧ Below W.heap.size W w')) : Calls Tryz.prog 50 #[cv a, cv b] w fun e w' => e = .returned (.tuple #[spv ⟨0, 0⟩, .int .i64 5]) ∧ Below w.heap.size w w' := by
  have He := Lib.hid he
  clear he
  unfold cv at *
  go_enter Tryz.func50, Tryz.ntmps50
  go_wp2_with fail
  refine (c93_two a b _ _ _ (by simp)).mono ?_
  rintro e w1 ⟨rfl, x1, hx⟩
  rw [He.out]
  have hT : Two w w1 a b := two_start w a b _ w1 (by rw [hx]; exact gw_below _ _)
  clear hx
  have HT := Lib.hid hT
  obtain ⟨hB, k0, k1, k2⟩ := hT
  obtain ⟨t0, t1, t2, t3, t4, t5, t6, t7⟩ := cellsOf_at k0
  obtain ⟨u0, u1, u2, u3, u4, u5, u6, u7⟩ := cellsOf_at k1
  clear k0 k1 k2 hB
  go_wp2_with fail
  refine (HF _).out.mono ?_
  rintro e X2 ⟨rfl, hb2⟩
  obtain ⟨hB, k0, k1, k2⟩ := HT.out.step hb2
  clear t0 t1 t2 t3 t4 t5 t6 t7 u0 u1 u2 u3 u4 u5 u6 u7 hb2 HT
  obtain ⟨t0, t1, tF, tL⟩ := span_at' k2
  have K := Lib.hid k2
  clear k0 k1 k2
  go_wp2_with fail
  obtain ⟨Y, hY, hYb, hYg, -⟩ := store2b K.out 0 0
  rw [hY]
  have hg := hYg w hB (by omega)
  obtain ⟨y0, y1, yF, yL⟩ := span_at' hYb
  clear hY hYb hYg
  exact bodyPost_ret (v := .tuple #[spv ⟨0, 0⟩, .int .i64 5]) (by simp [results, Tryz.results50, go_sem, spv, y0, y1]) rfl ⟨rfl, hg⟩
end Go.Proofs.YthifeoebefbalaaGreatDoor

namespace Go.Proofs.YthifeoebefbalaaGreatDoor
open Go.RowKit

theorem blk_of {X : World} {b : Nat} {c : Card} (h : X.heap[b]? = some (cellsOf c)) : BlkAt X b (fun i => #[Value.int .i64 c.st, .int .i64 c.da, .int .i64 c.dy, .int .i64 c.ki, .int .i64 c.am, .int .i64 c.fi][i]?) :=
  ⟨(Array.getElem?_eq_some_iff.1 h).1, cells_all h⟩
set_option maxHeartbeats 4000000 in
set_option maxRecDepth 100000 in
theorem c50_yes (a b : Card) (l1 h1 l2 h2 : Int) (w : World) (he : eachErr [a, b] = 0) (HF : ∀ W, Hid (Calls Tryz.prog 98 #[cv a, cv b] W fun r w' => r = .returned (.bool true) ∧ Below W.heap.size W w'))
    (HA : ∀ W, Hid (Calls Tryz.prog 77 #[cv a] W fun r w' => r = .returned (.agg #[.int .i64 l1, .int .i64 h1]) ∧ Below W.heap.size W w'))
    (HB : ∀ W, Hid (Calls Tryz.prog 77 #[cv b] W fun r w' => r = .returned (.agg #[.int .i64 l2, .int .i64 h2]) ∧ Below W.heap.size W w'))
    (q1 : 0 ≤ l1) (q2' : l1 ≤ 1073741824) (q3' : 0 ≤ h1) (q4' : h1 ≤ 1073741824) (q5' : 0 ≤ l2) (q6' : l2 ≤ 1073741824) (q7' : 0 ≤ h2) (q8' : h2 ≤ 1073741824) :
    Calls Tryz.prog 50 #[cv a, cv b] w fun e w' => e = .returned (.tuple #[.agg #[.int .i64 (l1 + l2), .int .i64 (min 1073741824 (h1 + h2))], .int .i64 0]) ∧ Below w.heap.size w w' := by
  have He := Lib.hid he
  have HQ : Hid (0 ≤ l1 ∧ l1 ≤ 1073741824 ∧ 0 ≤ h1 ∧ h1 ≤ 1073741824 ∧ 0 ≤ l2 ∧ l2 ≤ 1073741824 ∧ 0 ≤ h2 ∧ h2 ≤ 1073741824) := Lib.hid ⟨q1, q2', q3', q4', q5', q6', q7', q8'⟩
  clear he q1 q2' q3' q4' q5' q6' q7' q8'
  unfold cv at *
  go_enter Tryz.func50, Tryz.ntmps50
  go_wp2_with fail
  refine (c93_two a b _ _ _ (by simp)).mono ?_
  rintro e w1 ⟨rfl, x1, hx⟩
  rw [He.out]
  have hT : Two w w1 a b := two_start w a b _ w1 (by rw [hx]; exact gw_below _ _)
  clear hx
  have HT := Lib.hid hT
  obtain ⟨hB, k0, k1, k2⟩ := hT
  obtain ⟨t0, t1, t2, t3, t4, t5, t6, t7⟩ := cellsOf_at k0
  obtain ⟨u0, u1, u2, u3, u4, u5, u6, u7⟩ := cellsOf_at k1
  clear k0 k1 k2 hB
  go_wp2_with fail
  refine (HF _).out.mono ?_
  rintro e w0 ⟨rfl, hb2⟩
  have hT := HT.out.step hb2
  clear t0 t1 t2 t3 t4 t5 t6 t7 u0 u1 u2 u3 u4 u5 u6 u7 hb2 HT He HF
  go_wp2_with fail
  have HT := Lib.hid hT
  obtain ⟨f4, k0, k1, k2⟩ := hT
  obtain ⟨g1, g2⟩ := blk_of k0
  obtain ⟨g3, g4⟩ := blk_of k1
  have f3 := (span_at' k2).2.2.2
  clear k0 k1 k2
  refine wp_region_grows w0 (by kernel_rfl) (Grown.refl _) fun x => ?_
  refine WG_take0 (v := ?_) (a' := ?_) 0 rfl (by kernel_rfl) (by kernel_rfl) (by kernel_rfl) ⟨rfl, fun y => ?_⟩ ?_ 22 rfl (by kernel_rfl) fun x => ?_
  rotate_left 2
  · go_big_quiet_op; exact rfl
  · exact rfl
  refine WG_take0 (v := ?_) (a' := ?_) 1 rfl (by kernel_rfl) (by kernel_rfl) (by kernel_rfl) ⟨rfl, fun y => ?_⟩ ?_ 23 rfl (by kernel_rfl) fun x => ?_
  rotate_left 2
  · go_big_quiet_op
    apply Exists.intro; refine ⟨fun n => ?_, ?_⟩
    · go_at_call 77
      exact gw_call (HA _).out
    exact rfl
  · exact rfl
  refine WG_take0 (v := ?_) (a' := ?_) 2 rfl (by kernel_rfl) (by kernel_rfl) (by kernel_rfl) ⟨rfl, fun y => ?_⟩ ?_ 24 rfl (by kernel_rfl) fun x => ?_
  rotate_left 2
  · go_big_quiet_op; exact rfl
  · exact rfl
  refine WG_take0 (v := ?_) (a' := ?_) 3 rfl (by kernel_rfl) (by kernel_rfl) (by kernel_rfl) ⟨rfl, fun y => ?_⟩ ?_ 25 rfl (by kernel_rfl) fun x => ?_
  rotate_left 2
  · go_big_quiet_op
    apply Exists.intro; refine ⟨fun n => ?_, ?_⟩
    · go_at_call 77
      exact gw_call (HB _).out
    exact rfl
  · exact rfl
  refine WG_all [4, 5] (by kernel_rfl) (by simp) ?_
  intro i hi
  rcases List.mem_cons.1 hi with rfl | hi
  case' inl =>
    refine WG_op rfl rfl fun K hK => ?_
    go_big_op
    refine hK _ _ ⟨xa (Grown.gw _ _) _, fun y => ?_⟩
    obtain ⟨p, w1, e1, e2, p1, p2, p3, p4, pF, p5⟩ := new_at (Grown.gw w0 x) #[.int .i64 0, .int .i64 0] 33 y
    rw [e1, e2]
    clear e1 e2
    refine WG_all [5] (by kernel_rfl) (by simp) fun i hi => ?_
    rcases List.mem_singleton.1 hi with rfl
    refine WG_op rfl rfl fun K hK => ?_
    go_big_op
    refine hK _ _ ⟨xa p2 _, fun y => ?_⟩
    obtain ⟨q, w2, e1, e2, q1, q2, q3, q4, qF, q5⟩ := new_at p2 #[.int .i64 0, .int .i64 0] 33 y
    have p6 : p < w2.heap.size := Nat.lt_of_lt_of_le p4 q3.size
    have p7 : ∀ i, w2.cell? ⟨p, i, none⟩ = #[Value.int .i64 0, .int .i64 0][i]? := fun i => by rw [kept q3 p4, p5]
    have p9 : ∀ i, w2.frozen? ⟨p, i, none⟩ = false := fun i => by rw [keptF q3 p4, pF]
    have p8 : p ≠ q := by omega
    rw [e1, e2]
    clear e1 e2 p5 pF q3 p4 p3 p2 w1
  case' inr =>
    rcases List.mem_singleton.1 hi with rfl
    refine WG_op rfl rfl fun K hK => ?_
    go_big_op
    refine hK _ _ ⟨xa (Grown.gw _ _) _, fun y => ?_⟩
    obtain ⟨q, w1, e1, e2, q1, q2, q3, q4, qF, q5⟩ := new_at (Grown.gw w0 x) #[.int .i64 0, .int .i64 0] 33 y
    rw [e1, e2]
    clear e1 e2
    refine WG_all [4] (by kernel_rfl) (by simp) fun i hi => ?_
    rcases List.mem_singleton.1 hi with rfl
    refine WG_op rfl rfl fun K hK => ?_
    go_big_op
    refine hK _ _ ⟨xa q2 _, fun y => ?_⟩
    obtain ⟨p, w2, e1, e2, p1, p2, p3, p4, pF, p5⟩ := new_at q2 #[.int .i64 0, .int .i64 0] 33 y
    have q6 : q < w2.heap.size := Nat.lt_of_lt_of_le q4 p3.size
    have q7 : ∀ i, w2.cell? ⟨q, i, none⟩ = #[Value.int .i64 0, .int .i64 0][i]? := fun i => by rw [kept p3 q4, q5]
    have q9 : ∀ i, w2.frozen? ⟨q, i, none⟩ = false := fun i => by rw [keptF p3 q4, qF]
    have p8 : p ≠ q := by omega
    rw [e1, e2]
    clear e1 e2 q5 qF p3 q4 q3 q2 w1
    have p6 := p4
    have p7 := p5
    have p9 := pF
    have q4 := q6
    have q5 := q7
    have qF := q9
    have q2 := p2
    clear q6 q7 q9 p4 p5 pF p2
  all_goals
    refine WG_all [6] (by kernel_rfl) (by simp) fun i hi => ?_
    rcases List.mem_singleton.1 hi with rfl
    refine WG_op rfl rfl fun K hK => ?_
    go_big_op
    refine hK _ _ ⟨xs (xs q2 p1 _) p1 _, fun y => ?_⟩
    obtain ⟨w3, e3, r1, r2, r3, r4, r5⟩ := stored2 q2 p1 p7 p9 (.int .i64 l1) (.int .i64 h1) y
    obtain ⟨r6, r7⟩ := r5 q q4 p8
    simp only [q5, qF] at r6 r7
    rw [e3]
    have r8 := Nat.lt_of_lt_of_le p6 r2
    clear e3 r5 p6 p7 p9 q4 q5 q2 qF r2 w2
    refine WG_all [7] (by kernel_rfl) (by simp) fun i hi => ?_
    rcases List.mem_singleton.1 hi with rfl
    refine WG_op rfl rfl fun K hK => ?_
    go_big_op
    refine hK _ _ ⟨xs (xs r1 q1 _) q1 _, fun y => ?_⟩
    obtain ⟨w4, e4, s1, s2, s3, s4, s5⟩ := stored2 r1 q1 r6 r7 (.int .i64 l2) (.int .i64 h2) y
    obtain ⟨s6, s7⟩ := s5 p r8 (Ne.symm p8)
    simp only [r3, r4] at s6 s7
    rw [e4]
    clear e4 s5 r8 r1 r3 r4 r6 r7 s2 w3
    refine WG_done (by kernel_rfl) ?_ _
    have t0 : w4.cell? ⟨p, 0, none⟩ = some (.int .i64 l1) := s6 0
    have t1 : w4.cell? ⟨p, 1, none⟩ = some (.int .i64 h1) := s6 1
    have t2 : w4.cell? ⟨q, 0, none⟩ = some (.int .i64 l2) := s3 0
    have t3 : w4.cell? ⟨q, 1, none⟩ = some (.int .i64 h2) := s3 1
    obtain ⟨hB, k0, k1, k2⟩ := HT.out.step s1
    clear s1 s3 s4 s6 s7 p1 q1 p8 f3 f4 g1 g2 g3 g4 hi k0 k1
    obtain ⟨t4, t5, t6, t7⟩ := span_at' k2
    have K2 := Lib.hid k2
    clear k2
    obtain ⟨q1, q2', q3', q4', q5', q6', q7', q8'⟩ := HQ.out
    unfold NoPanic
    go_wp2_with fail
    obtain ⟨Y, hY, hYb, hYg, -, hYs⟩ := store2b K2.out (l1 + l2) (min 1073741824 (h1 + h2))
    rw [hY]
    have hg := hYg w hB (by omega)
    obtain ⟨y0, y1, yF, yL⟩ := span_at' hYb
    clear hY hYb hYg
    exact bodyPost_ret (v := .tuple #[.agg #[.int .i64 (l1 + l2), .int .i64 (min 1073741824 (h1 + h2))], .int .i64 0]) (by simp [results, Tryz.results50, go_sem, y0, y1]) rfl ⟨rfl, hg⟩
end Go.Proofs.YthifeoebefbalaaGreatDoor
