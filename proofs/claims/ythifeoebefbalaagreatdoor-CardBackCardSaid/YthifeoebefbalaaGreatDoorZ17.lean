/- Two cards: Both. -/
import Derived.Test.YthifeoebefbalaaGreatDoorZ16
set_option linter.unusedVariables false
set_option linter.unusedSimpArgs false
namespace Go.Proofs.YthifeoebefbalaaGreatDoor
open Go.RowKit

theorem store2b {X : World} {b : Nat} {c0 : Sp} (h : X.heap[b]? = some (spanOf c0)) (v0 v1 : Int) :
    ∃ Y, (X.setCell ⟨b, 0, none⟩ (.int .i64 v0)).setCell ⟨b, 1, none⟩ (.int .i64 v1) = Y ∧
      Y.heap[b]? = some (spanOf ⟨v0, v1⟩) ∧ (∀ (W : World), Below W.heap.size W X → W.heap.size ≤ b → Below W.heap.size W Y) ∧ (∀ k, k ≠ b → Y.heap[k]? = X.heap[k]?) ∧ Y.heap.size = X.heap.size := by
  have h0 := cells_set h 0 (.int .i64 v0)
  have h1 := cells_set h0 1 (.int .i64 v1)
  refine ⟨_, rfl, by rw [h1]; rfl, fun W hW hb => xs (xs hW hb _) hb _, fun k hk => ?_, by simp⟩
  rw [Below.heap_setCell _ ⟨b, 1, none⟩ _ k hk, Below.heap_setCell _ ⟨b, 0, none⟩ _ k hk]

def bothR (a b : Card) : Sp × Int :=
  if (isCard a && isCard b) = true then (if sameOf a b = true then (if some2 a b = true then (common (says a) (says b), 0) else (⟨0, 0⟩, 9)) else (⟨0, 0⟩, 5)) else (⟨0, 0⟩, 1)

/-- The world in which Both, or Join, stands after its check. -/
structure Two (w X : World) (a b : Card) : Prop where
  below : Below w.heap.size w X
  fst : X.heap[w.heap.size]? = some (cellsOf a)
  snd : X.heap[w.heap.size + 1]? = some (cellsOf b)
  out : X.heap[w.heap.size + 1 + 1]? = some (spanOf ⟨0, 0⟩)
theorem Two.step {w X Y : World} {a b : Card} (h : Two w X a b) (hb : Below X.heap.size X Y) : Two w Y a b :=
  ⟨h.below.trans (hb.mono h.below.size), (keepB hb (Lib.hid h.fst)).out, (keepB hb (Lib.hid h.snd)).out, (keepB hb (Lib.hid h.out)).out⟩
theorem two_start (w : World) (a b : Card) (c : Obj) (X : World) (hX : Below ((((w.alloc (cellsOf a)).alloc (cellsOf b)).alloc (spanOf ⟨0, 0⟩)).alloc c).heap.size ((((w.alloc (cellsOf a)).alloc (cellsOf b)).alloc (spanOf ⟨0, 0⟩)).alloc c) X) : Two w X a b := by
  obtain ⟨h1, h2, h3, h4⟩ := box_three w (cellsOf a) (cellsOf b) (spanOf ⟨0, 0⟩)
  have h : Two w (((w.alloc (cellsOf a)).alloc (cellsOf b)).alloc (spanOf ⟨0, 0⟩)) a b := ⟨h1, h2.out, h3.out, h4.out⟩
  exact (h.step (xa (xr _) c)).step hX

set_option maxHeartbeats 2000000 in
set_option maxRecDepth 100000 in
theorem c48_no (a b : Card) (w : World) (h : (isCard a && isCard b) = false) : Calls Tryz.prog 48 #[cv a, cv b] w fun e w' => e = .returned (.tuple #[spv ⟨0, 0⟩, .int .i64 1]) ∧ Below w.heap.size w w' := by
  have he : eachErr [a, b] = 1 := by rw [eachErr_two, h]; rfl
  have He := Lib.hid he
  clear he h
  unfold cv
  go_enter Tryz.func48, Tryz.ntmps48
  go_wp2_with fail
  refine (c93_two a b _ _ _ (by simp)).mono ?_
  rintro e w1 ⟨rfl, x1, hx⟩
  rw [He.out]
  have hT : Two w w1 a b := two_start w a b _ w1 (by rw [hx]; exact gw_below _ _)
  clear hx
  obtain ⟨hB, k0, k1, k2⟩ := hT
  obtain ⟨t0, t1, tF, tL⟩ := span_at' k2
  have K := Lib.hid k2
  clear k0 k1 k2
  go_wp2_with fail
  obtain ⟨Y, hY, hYb, hYg, -⟩ := store2b K.out 0 0
  rw [hY]
  have hg := hYg w hB (by omega)
  obtain ⟨y0, y1, yF, yL⟩ := span_at' hYb
  clear hY hYb hYg
  exact bodyPost_ret (v := .tuple #[spv ⟨0, 0⟩, .int .i64 1]) (by simp [results, Tryz.results48, go_sem, spv, y0, y1]) rfl ⟨rfl, hg⟩
set_option maxHeartbeats 4000000 in
set_option maxRecDepth 100000 in
theorem c48_diff (a b : Card) (w : World) (ha : isCard a = true) (hb : isCard b = true) (hs : sameOf a b = false) : Calls Tryz.prog 48 #[cv a, cv b] w fun e w' => e = .returned (.tuple #[spv ⟨0, 0⟩, .int .i64 5]) ∧ Below w.heap.size w w' := by
  have he : eachErr [a, b] = 0 := by rw [eachErr_two, ha, hb]; rfl
  have He := Lib.hid he
  have HS := Lib.hid hs
  clear ha hb he hs
  unfold cv
  go_enter Tryz.func48, Tryz.ntmps48
  go_wp2_with fail
  refine (c93_two a b _ _ _ (by simp)).mono ?_
  rintro e w1 ⟨rfl, x1, hx⟩
  rw [He.out]
  have hT : Two w w1 a b := two_start w a b _ w1 (by rw [hx]; exact gw_below _ _)
  clear hx He
  have HT := Lib.hid hT
  obtain ⟨a1, a2, a3, a4, a5, a6⟩ := a
  obtain ⟨b1, b2, b3, b4, b5, b6⟩ := b
  simp only [sameOf] at HS
  obtain ⟨hB, k0, k1, k2⟩ := hT
  obtain ⟨t0, t1, t2, t3, t4, t5, t6, t7⟩ := cellsOf_at k0
  obtain ⟨u0, u1, u2, u3, u4, u5, u6, u7⟩ := cellsOf_at k1
  clear k0 k1 k2 hB
  go_wp2_with fail
  by_cases h1 : a1 = b1
  all_goals by_cases h2 : a2 = b2
  all_goals by_cases h3 : a3 = b3
  all_goals first | (exfalso; have := HS.out; simp [h1, h2, h3] at this; done) | skip
  all_goals
    refine wp_region_gw (by kernel_rfl) (by kernel_rfl) ?_
    repeat (go_big_quiet_step ((go_at_call 96; exact gw_call (c96' _ _ _ _ _ _ _))))
    refine wpQuiet_nil ?_
    rintro _ ⟨x, rfl⟩
    have hT := HT.out.step (gw_below _ x)
    clear t0 t1 t2 t3 t4 t5 t6 t7 u0 u1 u2 u3 u4 u5 u6 u7
    obtain ⟨hB, k0, k1, k2⟩ := hT
    obtain ⟨t0, t1, tF, tL⟩ := span_at' k2
    have K := Lib.hid k2
    clear k0 k1 k2
    go_wp2_with fail
    obtain ⟨Y, hY, hYb, hYg, -⟩ := store2b K.out 0 0
    rw [hY]
    have hg := hYg w hB (by omega)
    obtain ⟨y0, y1, yF, yL⟩ := span_at' hYb
    clear hY hYb hYg
    exact bodyPost_ret (v := .tuple #[spv ⟨0, 0⟩, .int .i64 5]) (by simp [results, Tryz.results48, go_sem, spv, y0, y1]) rfl ⟨rfl, hg⟩

set_option maxHeartbeats 4000000 in
set_option maxRecDepth 100000 in
theorem c48_same (st da dy a4 a5 a6 b4 b5 b6 lo hi x y z : Int) (d : Bool) (w : World) (ha : isCard ⟨st, da, dy, a4, a5, a6⟩ = true) (hb : isCard ⟨st, da, dy, b4, b5, b6⟩ = true) (hc : common (says ⟨st, da, dy, a4, a5, a6⟩) (says ⟨st, da, dy, b4, b5, b6⟩) = ⟨lo, hi⟩) (hd : decide (lo ≤ hi) = d) (HH : Hid ((d = true → x = lo ∧ y = hi ∧ z = 0) ∧ (d = false → x = 0 ∧ y = 0 ∧ z = 9))) :
    Calls Tryz.prog 48 #[cv ⟨st, da, dy, a4, a5, a6⟩, cv ⟨st, da, dy, b4, b5, b6⟩] w fun e w' => e = .returned (.tuple #[.agg #[.int .i64 x, .int .i64 y], .int .i64 z]) ∧ Below w.heap.size w w' := by
  have he : eachErr [⟨st, da, dy, a4, a5, a6⟩, ⟨st, da, dy, b4, b5, b6⟩] = 0 := by rw [eachErr_two, ha, hb]; rfl
  have He := Lib.hid he
  have H97 := fun W => Lib.hid (c97 ⟨st, da, dy, a4, a5, a6⟩ ⟨st, da, dy, b4, b5, b6⟩ W ha hb)
  rw [hc] at H97
  clear ha hb he hc
  unfold cv spv at *
  simp only [hd] at H97
  clear hd
  go_enter Tryz.func48, Tryz.ntmps48
  go_wp2_with fail
  refine (c93_two ⟨st, da, dy, a4, a5, a6⟩ ⟨st, da, dy, b4, b5, b6⟩ _ _ _ (by simp)).mono ?_
  rintro e w1 ⟨rfl, x1, hx⟩
  rw [He.out]
  have hT : Two w w1 ⟨st, da, dy, a4, a5, a6⟩ ⟨st, da, dy, b4, b5, b6⟩ := two_start w _ _ _ w1 (by rw [hx]; exact gw_below _ _)
  clear hx He
  have HT := Lib.hid hT
  obtain ⟨hB, k0, k1, k2⟩ := hT
  obtain ⟨t0, t1, t2, t3, t4, t5, t6, t7⟩ := cellsOf_at k0
  obtain ⟨u0, u1, u2, u3, u4, u5, u6, u7⟩ := cellsOf_at k1
  clear k0 k1 k2 hB
  go_wp2_with fail
  refine wp_region_gw (by kernel_rfl) (by kernel_rfl) ?_
  repeat (go_big_quiet_step ((go_at_call 96; exact gw_call (c96' _ _ _ _ _ _ _))))
  refine wpQuiet_nil ?_
  rintro _ ⟨q, hX⟩
  rename_i X
  have hT := HT.out.step (Y := X) (by rw [hX]; exact gw_below _ q)
  clear t0 t1 t2 t3 t4 t5 t6 t7 u0 u1 u2 u3 u4 u5 u6 u7 hX HT
  have HT := Lib.hid hT
  obtain ⟨hB, k0, k1, k2⟩ := hT
  obtain ⟨t0, t1, t2, t3, t4, t5, t6, t7⟩ := cellsOf_at k0
  obtain ⟨u0, u1, u2, u3, u4, u5, u6, u7⟩ := cellsOf_at k1
  clear k0 k1 k2 hB
  go_wp2_with fail
  refine (H97 _).out.mono ?_
  rintro e X2 ⟨rfl, hb2⟩
  have hT := HT.out.step hb2
  clear t0 t1 t2 t3 t4 t5 t6 t7 u0 u1 u2 u3 u4 u5 u6 u7 hb2 HT H97
  obtain ⟨B, hBe⟩ : ∃ B, X2.heap.size = B := ⟨_, rfl⟩
  have hT3 := hT.step (xa (xr X2) (spanOf ⟨lo, hi⟩))
  have hK := newA X2 (spanOf ⟨lo, hi⟩) B hBe
  obtain ⟨-, k0, k1, k2⟩ := hT
  obtain ⟨-, -, -, t7⟩ := span_at' k2
  clear k0 k1 k2
  rw [hBe] at t7
  obtain ⟨V, hV⟩ : ∃ V, X2.alloc (spanOf ⟨lo, hi⟩) = V := ⟨_, rfl⟩
  rw [hV] at hT3 hK
  have hV' : X2.alloc (.cells #[.int .i64 lo, .int .i64 hi] 33) = V := hV
  clear hV
  obtain ⟨hB, k0, k1, k2⟩ := hT3
  obtain ⟨t0, t1, tF, tL⟩ := span_at' k2
  obtain ⟨u0, u1, uF, uL⟩ := span_at' hK.out
  have K := Lib.hid k2
  clear k0 k1 k2 hK
  cases d with
  | true =>
    obtain ⟨rfl, rfl, rfl⟩ := HH.out.1 rfl
    clear HH
    go_wp2_with fail
    obtain ⟨Y, hY, hYb, hYg, -⟩ := store2b K.out x y
    rw [hY]
    have hg := hYg w hB (by omega)
    obtain ⟨y0, y1, yF, yL⟩ := span_at' hYb
    clear hY hYb hYg
    exact bodyPost_ret (v := .tuple #[.agg #[.int .i64 x, .int .i64 y], .int .i64 0]) (by simp [results, Tryz.results48, go_sem, y0, y1]) rfl ⟨rfl, hg⟩
  | false =>
    obtain ⟨rfl, rfl, rfl⟩ := HH.out.2 rfl
    clear HH
    go_wp2_with fail
    obtain ⟨Y, hY, hYb, hYg, -⟩ := store2b K.out 0 0
    rw [hY]
    have hg := hYg w hB (by omega)
    obtain ⟨y0, y1, yF, yL⟩ := span_at' hYb
    clear hY hYb hYg
    exact bodyPost_ret (v := .tuple #[.agg #[.int .i64 0, .int .i64 0], .int .i64 9]) (by simp [results, Tryz.results48, go_sem, y0, y1]) rfl ⟨rfl, hg⟩

theorem c48 (a b : Card) (w : World) : Calls Tryz.prog 48 #[cv a, cv b] w fun e w' => e = .returned (.tuple #[spv (bothR a b).1, .int .i64 (bothR a b).2]) ∧ Below w.heap.size w w' := by
  cases h : (isCard a && isCard b) with
  | false => rw [bothR, h, if_neg Bool.false_ne_true]; exact c48_no a b w h
  | true =>
    have ha : isCard a = true := by simp_all
    have hb : isCard b = true := by simp_all
    rw [bothR, h, if_pos rfl]
    cases hs : sameOf a b with
    | false => rw [if_neg Bool.false_ne_true]; exact c48_diff a b w ha hb hs
    | true =>
      rw [if_pos rfl]
      obtain ⟨a1, a2, a3, a4, a5, a6⟩ := a
      obtain ⟨b1, b2, b3, b4, b5, b6⟩ := b
      simp only [sameOf, Bool.and_eq_true, decide_eq_true_eq] at hs
      obtain ⟨⟨rfl, rfl⟩, rfl⟩ := hs
      cases hd : some2 ⟨a1, a2, a3, a4, a5, a6⟩ ⟨a1, a2, a3, b4, b5, b6⟩ with
      | true =>
        rw [if_pos rfl]
        exact c48_same a1 a2 a3 a4 a5 a6 b4 b5 b6 _ _ _ _ _ true w ha hb rfl hd (Lib.hid ⟨fun _ => ⟨rfl, rfl, rfl⟩, fun h => by cases h⟩)
      | false =>
        rw [if_neg Bool.false_ne_true]
        exact c48_same a1 a2 a3 a4 a5 a6 b4 b5 b6 _ _ _ _ _ false w ha hb rfl hd (Lib.hid ⟨fun h => (by cases h), fun _ => ⟨rfl, rfl, rfl⟩⟩)
end Go.Proofs.YthifeoebefbalaaGreatDoor

namespace Go.Proofs.YthifeoebefbalaaGreatDoor
open Go.RowKit

set_option maxRecDepth 100000 in
set_option maxHeartbeats 8000000 in
theorem c13_e (a1 a2 a3 a4 a5 a6 b1 b2 b3 b4 b5 b6 c1 c2 c3 c4 c5 c6 n g h u : Int) (ab ba bc ac aa : Bool) (w : World) (HE : Hid (Env w)) (HC : Hid (Cell0 w)) (H1 : ∀ W, Hid (Calls Tryz.prog 45 #[.agg #[.int .i64 a1, .int .i64 a2, .int .i64 a3, .int .i64 a4, .int .i64 a5, .int .i64 a6], .agg #[.int .i64 b1, .int .i64 b2, .int .i64 b3, .int .i64 b4, .int .i64 b5, .int .i64 b6]] W fun r w' => r = .returned (.tuple #[.bool ab, .int .i64 1]) ∧ Below W.heap.size W w')) (H2 : ∀ W, Hid (Calls Tryz.prog 45 #[.agg #[.int .i64 b1, .int .i64 b2, .int .i64 b3, .int .i64 b4, .int .i64 b5, .int .i64 b6], .agg #[.int .i64 a1, .int .i64 a2, .int .i64 a3, .int .i64 a4, .int .i64 a5, .int .i64 a6]] W fun r w' => r = .returned (.tuple #[.bool ba, .int .i64 1]) ∧ Below W.heap.size W w')) (H3 : ∀ W, Hid (Calls Tryz.prog 45 #[.agg #[.int .i64 b1, .int .i64 b2, .int .i64 b3, .int .i64 b4, .int .i64 b5, .int .i64 b6], .agg #[.int .i64 c1, .int .i64 c2, .int .i64 c3, .int .i64 c4, .int .i64 c5, .int .i64 c6]] W fun r w' => r = .returned (.tuple #[.bool bc, .int .i64 g]) ∧ Below W.heap.size W w')) (H4 : ∀ W, Hid (Calls Tryz.prog 45 #[.agg #[.int .i64 a1, .int .i64 a2, .int .i64 a3, .int .i64 a4, .int .i64 a5, .int .i64 a6], .agg #[.int .i64 c1, .int .i64 c2, .int .i64 c3, .int .i64 c4, .int .i64 c5, .int .i64 c6]] W fun r w' => r = .returned (.tuple #[.bool ac, .int .i64 h]) ∧ Below W.heap.size W w')) (H5 : ∀ W, Hid (Calls Tryz.prog 45 #[.agg #[.int .i64 a1, .int .i64 a2, .int .i64 a3, .int .i64 a4, .int .i64 a5, .int .i64 a6], .agg #[.int .i64 a1, .int .i64 a2, .int .i64 a3, .int .i64 a4, .int .i64 a5, .int .i64 a6]] W fun r w' => r = .returned (.tuple #[.bool aa, .int .i64 u]) ∧ Below W.heap.size W w')) : Calls Tryz.prog 13 #[.agg #[.int .i64 a1, .int .i64 a2, .int .i64 a3, .int .i64 a4, .int .i64 a5, .int .i64 a6], .agg #[.int .i64 b1, .int .i64 b2, .int .i64 b3, .int .i64 b4, .int .i64 b5, .int .i64 b6], .agg #[.int .i64 c1, .int .i64 c2, .int .i64 c3, .int .i64 c4, .int .i64 c5, .int .i64 c6], .int .i64 n] w fun e w' => e = .returned (.bool true) ∧ Below w.heap.size w w' := by
  go_enter Tryz.func13, Tryz.ntmps13
  go_wp2_with fail
  refine call_named (fun V => Below w.heap.size w V ∧ Hid (V.heap[w.heap.size]? = some (cellsOf ⟨a1, a2, a3, a4, a5, a6⟩)) ∧ Hid (V.heap[w.heap.size + 1]? = some (cellsOf ⟨b1, b2, b3, b4, b5, b6⟩)) ∧ Hid (V.heap[w.heap.size + 1 + 1]? = some (cellsOf ⟨c1, c2, c3, c4, c5, c6⟩))) (box_three _ _ _ _) ?_
  rintro X0 ⟨hB, K0, K1, K2⟩
  refine ((H1 _).out).mono ?_
  rintro r X1 ⟨rfl, hb⟩
  replace K0 := keepB hb K0
  replace K1 := keepB hb K1
  replace K2 := keepB hb K2
  replace hB := hB.trans (hb.mono hB.size)
  clear hb
  obtain ⟨t0_0, t0_1, t0_2, t0_3, t0_4, t0_5, t0_6, t0_7⟩ := cellsOf_at K0.out
  obtain ⟨t1_0, t1_1, t1_2, t1_3, t1_4, t1_5, t1_6, t1_7⟩ := cellsOf_at K1.out
  obtain ⟨t2_0, t2_1, t2_2, t2_3, t2_4, t2_5, t2_6, t2_7⟩ := cellsOf_at K2.out
  go_wp2_with fail
  try clear t0_0 t0_1 t0_2 t0_3 t0_4 t0_5 t0_6 t0_7 t1_0 t1_1 t1_2 t1_3 t1_4 t1_5 t1_6 t1_7 t2_0 t2_1 t2_2 t2_3 t2_4 t2_5 t2_6 t2_7
  refine ((H2 _).out).mono ?_
  rintro r X2 ⟨rfl, hb⟩
  replace K0 := keepB hb K0
  replace K1 := keepB hb K1
  replace K2 := keepB hb K2
  replace hB := hB.trans (hb.mono hB.size)
  clear hb
  obtain ⟨t0_0, t0_1, t0_2, t0_3, t0_4, t0_5, t0_6, t0_7⟩ := cellsOf_at K0.out
  obtain ⟨t1_0, t1_1, t1_2, t1_3, t1_4, t1_5, t1_6, t1_7⟩ := cellsOf_at K1.out
  obtain ⟨t2_0, t2_1, t2_2, t2_3, t2_4, t2_5, t2_6, t2_7⟩ := cellsOf_at K2.out
  go_wp2_with fail
  try clear t0_0 t0_1 t0_2 t0_3 t0_4 t0_5 t0_6 t0_7 t1_0 t1_1 t1_2 t1_3 t1_4 t1_5 t1_6 t1_7 t2_0 t2_1 t2_2 t2_3 t2_4 t2_5 t2_6 t2_7
  refine ((H3 _).out).mono ?_
  rintro r X3 ⟨rfl, hb⟩
  replace K0 := keepB hb K0
  replace K1 := keepB hb K1
  replace K2 := keepB hb K2
  replace hB := hB.trans (hb.mono hB.size)
  clear hb
  obtain ⟨t0_0, t0_1, t0_2, t0_3, t0_4, t0_5, t0_6, t0_7⟩ := cellsOf_at K0.out
  obtain ⟨t1_0, t1_1, t1_2, t1_3, t1_4, t1_5, t1_6, t1_7⟩ := cellsOf_at K1.out
  obtain ⟨t2_0, t2_1, t2_2, t2_3, t2_4, t2_5, t2_6, t2_7⟩ := cellsOf_at K2.out
  go_wp2_with fail
  try clear t0_0 t0_1 t0_2 t0_3 t0_4 t0_5 t0_6 t0_7 t1_0 t1_1 t1_2 t1_3 t1_4 t1_5 t1_6 t1_7 t2_0 t2_1 t2_2 t2_3 t2_4 t2_5 t2_6 t2_7
  refine ((H4 _).out).mono ?_
  rintro r X4 ⟨rfl, hb⟩
  replace K0 := keepB hb K0
  replace K1 := keepB hb K1
  replace K2 := keepB hb K2
  replace hB := hB.trans (hb.mono hB.size)
  clear hb
  obtain ⟨t0_0, t0_1, t0_2, t0_3, t0_4, t0_5, t0_6, t0_7⟩ := cellsOf_at K0.out
  obtain ⟨t1_0, t1_1, t1_2, t1_3, t1_4, t1_5, t1_6, t1_7⟩ := cellsOf_at K1.out
  obtain ⟨t2_0, t2_1, t2_2, t2_3, t2_4, t2_5, t2_6, t2_7⟩ := cellsOf_at K2.out
  go_wp2_with fail
  try clear t0_0 t0_1 t0_2 t0_3 t0_4 t0_5 t0_6 t0_7 t1_0 t1_1 t1_2 t1_3 t1_4 t1_5 t1_6 t1_7 t2_0 t2_1 t2_2 t2_3 t2_4 t2_5 t2_6 t2_7
  refine ((H5 _).out).mono ?_
  rintro r X5 ⟨rfl, hb⟩
  replace K0 := keepB hb K0
  replace K1 := keepB hb K1
  replace K2 := keepB hb K2
  replace hB := hB.trans (hb.mono hB.size)
  clear hb
  obtain ⟨t0_0, t0_1, t0_2, t0_3, t0_4, t0_5, t0_6, t0_7⟩ := cellsOf_at K0.out
  obtain ⟨t1_0, t1_1, t1_2, t1_3, t1_4, t1_5, t1_6, t1_7⟩ := cellsOf_at K1.out
  obtain ⟨t2_0, t2_1, t2_2, t2_3, t2_4, t2_5, t2_6, t2_7⟩ := cellsOf_at K2.out
  go_wp2_with fail
  try clear t0_0 t0_1 t0_2 t0_3 t0_4 t0_5 t0_6 t0_7 t1_0 t1_1 t1_2 t1_3 t1_4 t1_5 t1_6 t1_7 t2_0 t2_1 t2_2 t2_3 t2_4 t2_5 t2_6 t2_7
  refine (c22 X5 (HE.out.below hB) (HC.out.below hB HC.out.lt)).mono ?_
  rintro r X6 ⟨rfl, hb⟩
  replace K0 := keepB hb K0
  replace K1 := keepB hb K1
  replace K2 := keepB hb K2
  replace hB := hB.trans (hb.mono hB.size)
  clear hb
  obtain ⟨t0_0, t0_1, t0_2, t0_3, t0_4, t0_5, t0_6, t0_7⟩ := cellsOf_at K0.out
  obtain ⟨t1_0, t1_1, t1_2, t1_3, t1_4, t1_5, t1_6, t1_7⟩ := cellsOf_at K1.out
  obtain ⟨t2_0, t2_1, t2_2, t2_3, t2_4, t2_5, t2_6, t2_7⟩ := cellsOf_at K2.out
  go_wp2_with fail
  go_ret
  exact ⟨rfl, hB⟩
set_option maxRecDepth 100000 in
set_option maxHeartbeats 8000000 in
theorem c13_g (a1 a2 a3 a4 a5 a6 b1 b2 b3 b4 b5 b6 c1 c2 c3 c4 c5 c6 n g h u : Int) (ab ba bc ac aa : Bool) (w : World) (HE : Hid (Env w)) (HC : Hid (Cell0 w)) (H1 : ∀ W, Hid (Calls Tryz.prog 45 #[.agg #[.int .i64 a1, .int .i64 a2, .int .i64 a3, .int .i64 a4, .int .i64 a5, .int .i64 a6], .agg #[.int .i64 b1, .int .i64 b2, .int .i64 b3, .int .i64 b4, .int .i64 b5, .int .i64 b6]] W fun r w' => r = .returned (.tuple #[.bool ab, .int .i64 0]) ∧ Below W.heap.size W w')) (H2 : ∀ W, Hid (Calls Tryz.prog 45 #[.agg #[.int .i64 b1, .int .i64 b2, .int .i64 b3, .int .i64 b4, .int .i64 b5, .int .i64 b6], .agg #[.int .i64 a1, .int .i64 a2, .int .i64 a3, .int .i64 a4, .int .i64 a5, .int .i64 a6]] W fun r w' => r = .returned (.tuple #[.bool ba, .int .i64 0]) ∧ Below W.heap.size W w')) (H3 : ∀ W, Hid (Calls Tryz.prog 45 #[.agg #[.int .i64 b1, .int .i64 b2, .int .i64 b3, .int .i64 b4, .int .i64 b5, .int .i64 b6], .agg #[.int .i64 c1, .int .i64 c2, .int .i64 c3, .int .i64 c4, .int .i64 c5, .int .i64 c6]] W fun r w' => r = .returned (.tuple #[.bool bc, .int .i64 1]) ∧ Below W.heap.size W w')) (H4 : ∀ W, Hid (Calls Tryz.prog 45 #[.agg #[.int .i64 a1, .int .i64 a2, .int .i64 a3, .int .i64 a4, .int .i64 a5, .int .i64 a6], .agg #[.int .i64 c1, .int .i64 c2, .int .i64 c3, .int .i64 c4, .int .i64 c5, .int .i64 c6]] W fun r w' => r = .returned (.tuple #[.bool ac, .int .i64 h]) ∧ Below W.heap.size W w')) (H5 : ∀ W, Hid (Calls Tryz.prog 45 #[.agg #[.int .i64 a1, .int .i64 a2, .int .i64 a3, .int .i64 a4, .int .i64 a5, .int .i64 a6], .agg #[.int .i64 a1, .int .i64 a2, .int .i64 a3, .int .i64 a4, .int .i64 a5, .int .i64 a6]] W fun r w' => r = .returned (.tuple #[.bool aa, .int .i64 u]) ∧ Below W.heap.size W w')) : Calls Tryz.prog 13 #[.agg #[.int .i64 a1, .int .i64 a2, .int .i64 a3, .int .i64 a4, .int .i64 a5, .int .i64 a6], .agg #[.int .i64 b1, .int .i64 b2, .int .i64 b3, .int .i64 b4, .int .i64 b5, .int .i64 b6], .agg #[.int .i64 c1, .int .i64 c2, .int .i64 c3, .int .i64 c4, .int .i64 c5, .int .i64 c6], .int .i64 n] w fun e w' => e = .returned (.bool true) ∧ Below w.heap.size w w' := by
  go_enter Tryz.func13, Tryz.ntmps13
  go_wp2_with fail
  refine call_named (fun V => Below w.heap.size w V ∧ Hid (V.heap[w.heap.size]? = some (cellsOf ⟨a1, a2, a3, a4, a5, a6⟩)) ∧ Hid (V.heap[w.heap.size + 1]? = some (cellsOf ⟨b1, b2, b3, b4, b5, b6⟩)) ∧ Hid (V.heap[w.heap.size + 1 + 1]? = some (cellsOf ⟨c1, c2, c3, c4, c5, c6⟩))) (box_three _ _ _ _) ?_
  rintro X0 ⟨hB, K0, K1, K2⟩
  refine ((H1 _).out).mono ?_
  rintro r X1 ⟨rfl, hb⟩
  replace K0 := keepB hb K0
  replace K1 := keepB hb K1
  replace K2 := keepB hb K2
  replace hB := hB.trans (hb.mono hB.size)
  clear hb
  obtain ⟨t0_0, t0_1, t0_2, t0_3, t0_4, t0_5, t0_6, t0_7⟩ := cellsOf_at K0.out
  obtain ⟨t1_0, t1_1, t1_2, t1_3, t1_4, t1_5, t1_6, t1_7⟩ := cellsOf_at K1.out
  obtain ⟨t2_0, t2_1, t2_2, t2_3, t2_4, t2_5, t2_6, t2_7⟩ := cellsOf_at K2.out
  go_wp2_with fail
  try clear t0_0 t0_1 t0_2 t0_3 t0_4 t0_5 t0_6 t0_7 t1_0 t1_1 t1_2 t1_3 t1_4 t1_5 t1_6 t1_7 t2_0 t2_1 t2_2 t2_3 t2_4 t2_5 t2_6 t2_7
  refine ((H2 _).out).mono ?_
  rintro r X2 ⟨rfl, hb⟩
  replace K0 := keepB hb K0
  replace K1 := keepB hb K1
  replace K2 := keepB hb K2
  replace hB := hB.trans (hb.mono hB.size)
  clear hb
  obtain ⟨t0_0, t0_1, t0_2, t0_3, t0_4, t0_5, t0_6, t0_7⟩ := cellsOf_at K0.out
  obtain ⟨t1_0, t1_1, t1_2, t1_3, t1_4, t1_5, t1_6, t1_7⟩ := cellsOf_at K1.out
  obtain ⟨t2_0, t2_1, t2_2, t2_3, t2_4, t2_5, t2_6, t2_7⟩ := cellsOf_at K2.out
  go_wp2_with fail
  try clear t0_0 t0_1 t0_2 t0_3 t0_4 t0_5 t0_6 t0_7 t1_0 t1_1 t1_2 t1_3 t1_4 t1_5 t1_6 t1_7 t2_0 t2_1 t2_2 t2_3 t2_4 t2_5 t2_6 t2_7
  refine ((H3 _).out).mono ?_
  rintro r X3 ⟨rfl, hb⟩
  replace K0 := keepB hb K0
  replace K1 := keepB hb K1
  replace K2 := keepB hb K2
  replace hB := hB.trans (hb.mono hB.size)
  clear hb
  obtain ⟨t0_0, t0_1, t0_2, t0_3, t0_4, t0_5, t0_6, t0_7⟩ := cellsOf_at K0.out
  obtain ⟨t1_0, t1_1, t1_2, t1_3, t1_4, t1_5, t1_6, t1_7⟩ := cellsOf_at K1.out
  obtain ⟨t2_0, t2_1, t2_2, t2_3, t2_4, t2_5, t2_6, t2_7⟩ := cellsOf_at K2.out
  go_wp2_with fail
  try clear t0_0 t0_1 t0_2 t0_3 t0_4 t0_5 t0_6 t0_7 t1_0 t1_1 t1_2 t1_3 t1_4 t1_5 t1_6 t1_7 t2_0 t2_1 t2_2 t2_3 t2_4 t2_5 t2_6 t2_7
  refine ((H4 _).out).mono ?_
  rintro r X4 ⟨rfl, hb⟩
  replace K0 := keepB hb K0
  replace K1 := keepB hb K1
  replace K2 := keepB hb K2
  replace hB := hB.trans (hb.mono hB.size)
  clear hb
  obtain ⟨t0_0, t0_1, t0_2, t0_3, t0_4, t0_5, t0_6, t0_7⟩ := cellsOf_at K0.out
  obtain ⟨t1_0, t1_1, t1_2, t1_3, t1_4, t1_5, t1_6, t1_7⟩ := cellsOf_at K1.out
  obtain ⟨t2_0, t2_1, t2_2, t2_3, t2_4, t2_5, t2_6, t2_7⟩ := cellsOf_at K2.out
  go_wp2_with fail
  try clear t0_0 t0_1 t0_2 t0_3 t0_4 t0_5 t0_6 t0_7 t1_0 t1_1 t1_2 t1_3 t1_4 t1_5 t1_6 t1_7 t2_0 t2_1 t2_2 t2_3 t2_4 t2_5 t2_6 t2_7
  refine ((H5 _).out).mono ?_
  rintro r X5 ⟨rfl, hb⟩
  replace K0 := keepB hb K0
  replace K1 := keepB hb K1
  replace K2 := keepB hb K2
  replace hB := hB.trans (hb.mono hB.size)
  clear hb
  obtain ⟨t0_0, t0_1, t0_2, t0_3, t0_4, t0_5, t0_6, t0_7⟩ := cellsOf_at K0.out
  obtain ⟨t1_0, t1_1, t1_2, t1_3, t1_4, t1_5, t1_6, t1_7⟩ := cellsOf_at K1.out
  obtain ⟨t2_0, t2_1, t2_2, t2_3, t2_4, t2_5, t2_6, t2_7⟩ := cellsOf_at K2.out
  go_wp2_with fail
  try clear t0_0 t0_1 t0_2 t0_3 t0_4 t0_5 t0_6 t0_7 t1_0 t1_1 t1_2 t1_3 t1_4 t1_5 t1_6 t1_7 t2_0 t2_1 t2_2 t2_3 t2_4 t2_5 t2_6 t2_7
  refine (c22 X5 (HE.out.below hB) (HC.out.below hB HC.out.lt)).mono ?_
  rintro r X6 ⟨rfl, hb⟩
  replace K0 := keepB hb K0
  replace K1 := keepB hb K1
  replace K2 := keepB hb K2
  replace hB := hB.trans (hb.mono hB.size)
  clear hb
  obtain ⟨t0_0, t0_1, t0_2, t0_3, t0_4, t0_5, t0_6, t0_7⟩ := cellsOf_at K0.out
  obtain ⟨t1_0, t1_1, t1_2, t1_3, t1_4, t1_5, t1_6, t1_7⟩ := cellsOf_at K1.out
  obtain ⟨t2_0, t2_1, t2_2, t2_3, t2_4, t2_5, t2_6, t2_7⟩ := cellsOf_at K2.out
  go_wp2_with fail
  go_ret
  exact ⟨rfl, hB⟩
set_option maxRecDepth 100000 in
set_option maxHeartbeats 8000000 in
theorem c13_5 (a1 a2 a3 a4 a5 a6 b1 b2 b3 b4 b5 b6 c1 c2 c3 c4 c5 c6 n slo shi plo phi qlo qhi : Int) (bc ac : Bool) (w : World) (HE : Hid (Env w)) (HC : Hid (Cell0 w)) (H1 : ∀ W, Hid (Calls Tryz.prog 45 #[.agg #[.int .i64 a1, .int .i64 a2, .int .i64 a3, .int .i64 a4, .int .i64 a5, .int .i64 a6], .agg #[.int .i64 b1, .int .i64 b2, .int .i64 b3, .int .i64 b4, .int .i64 b5, .int .i64 b6]] W fun r w' => r = .returned (.tuple #[.bool false, .int .i64 0]) ∧ Below W.heap.size W w')) (H2 : ∀ W, Hid (Calls Tryz.prog 45 #[.agg #[.int .i64 b1, .int .i64 b2, .int .i64 b3, .int .i64 b4, .int .i64 b5, .int .i64 b6], .agg #[.int .i64 a1, .int .i64 a2, .int .i64 a3, .int .i64 a4, .int .i64 a5, .int .i64 a6]] W fun r w' => r = .returned (.tuple #[.bool false, .int .i64 0]) ∧ Below W.heap.size W w')) (H3 : ∀ W, Hid (Calls Tryz.prog 45 #[.agg #[.int .i64 b1, .int .i64 b2, .int .i64 b3, .int .i64 b4, .int .i64 b5, .int .i64 b6], .agg #[.int .i64 c1, .int .i64 c2, .int .i64 c3, .int .i64 c4, .int .i64 c5, .int .i64 c6]] W fun r w' => r = .returned (.tuple #[.bool bc, .int .i64 0]) ∧ Below W.heap.size W w')) (H4 : ∀ W, Hid (Calls Tryz.prog 45 #[.agg #[.int .i64 a1, .int .i64 a2, .int .i64 a3, .int .i64 a4, .int .i64 a5, .int .i64 a6], .agg #[.int .i64 c1, .int .i64 c2, .int .i64 c3, .int .i64 c4, .int .i64 c5, .int .i64 c6]] W fun r w' => r = .returned (.tuple #[.bool ac, .int .i64 0]) ∧ Below W.heap.size W w')) (H5 : ∀ W, Hid (Calls Tryz.prog 45 #[.agg #[.int .i64 a1, .int .i64 a2, .int .i64 a3, .int .i64 a4, .int .i64 a5, .int .i64 a6], .agg #[.int .i64 a1, .int .i64 a2, .int .i64 a3, .int .i64 a4, .int .i64 a5, .int .i64 a6]] W fun r w' => r = .returned (.tuple #[.bool true, .int .i64 0]) ∧ Below W.heap.size W w')) (H6 : ∀ W, Hid (Calls Tryz.prog 47 #[.agg #[.int .i64 a1, .int .i64 a2, .int .i64 a3, .int .i64 a4, .int .i64 a5, .int .i64 a6], .agg #[.int .i64 b1, .int .i64 b2, .int .i64 b3, .int .i64 b4, .int .i64 b5, .int .i64 b6]] W fun r w' => r = .returned (.tuple #[.bool false, .int .i64 0]) ∧ Below W.heap.size W w')) (H7 : ∀ W, Hid (Calls Tryz.prog 47 #[.agg #[.int .i64 b1, .int .i64 b2, .int .i64 b3, .int .i64 b4, .int .i64 b5, .int .i64 b6], .agg #[.int .i64 a1, .int .i64 a2, .int .i64 a3, .int .i64 a4, .int .i64 a5, .int .i64 a6]] W fun r w' => r = .returned (.tuple #[.bool false, .int .i64 0]) ∧ Below W.heap.size W w')) (H8 : ∀ W, Hid (Calls Tryz.prog 48 #[.agg #[.int .i64 a1, .int .i64 a2, .int .i64 a3, .int .i64 a4, .int .i64 a5, .int .i64 a6], .agg #[.int .i64 b1, .int .i64 b2, .int .i64 b3, .int .i64 b4, .int .i64 b5, .int .i64 b6]] W fun r w' => r = .returned (.tuple #[.agg #[.int .i64 slo, .int .i64 shi], .int .i64 5]) ∧ Below W.heap.size W w')) (H9 : ∀ W, Hid (Calls Tryz.prog 48 #[.agg #[.int .i64 b1, .int .i64 b2, .int .i64 b3, .int .i64 b4, .int .i64 b5, .int .i64 b6], .agg #[.int .i64 a1, .int .i64 a2, .int .i64 a3, .int .i64 a4, .int .i64 a5, .int .i64 a6]] W fun r w' => r = .returned (.tuple #[.agg #[.int .i64 slo, .int .i64 shi], .int .i64 5]) ∧ Below W.heap.size W w')) (HP : ∀ W, Hid (Calls Tryz.prog 43 #[.agg #[.int .i64 a1, .int .i64 a2, .int .i64 a3, .int .i64 a4, .int .i64 a5, .int .i64 a6]] W fun r w' => r = .returned (.tuple #[.agg #[.int .i64 plo, .int .i64 phi], .int .i64 0]) ∧ Below W.heap.size W w')) (HQ : ∀ W, Hid (Calls Tryz.prog 43 #[.agg #[.int .i64 b1, .int .i64 b2, .int .i64 b3, .int .i64 b4, .int .i64 b5, .int .i64 b6]] W fun r w' => r = .returned (.tuple #[.agg #[.int .i64 qlo, .int .i64 qhi], .int .i64 0]) ∧ Below W.heap.size W w')) : Calls Tryz.prog 13 #[.agg #[.int .i64 a1, .int .i64 a2, .int .i64 a3, .int .i64 a4, .int .i64 a5, .int .i64 a6], .agg #[.int .i64 b1, .int .i64 b2, .int .i64 b3, .int .i64 b4, .int .i64 b5, .int .i64 b6], .agg #[.int .i64 c1, .int .i64 c2, .int .i64 c3, .int .i64 c4, .int .i64 c5, .int .i64 c6], .int .i64 n] w fun e w' => e = .returned (.bool true) ∧ Below w.heap.size w w' := by
  go_enter Tryz.func13, Tryz.ntmps13
  go_wp2_with fail
  refine call_named (fun V => Below w.heap.size w V ∧ Hid (V.heap[w.heap.size]? = some (cellsOf ⟨a1, a2, a3, a4, a5, a6⟩)) ∧ Hid (V.heap[w.heap.size + 1]? = some (cellsOf ⟨b1, b2, b3, b4, b5, b6⟩)) ∧ Hid (V.heap[w.heap.size + 1 + 1]? = some (cellsOf ⟨c1, c2, c3, c4, c5, c6⟩))) (box_three _ _ _ _) ?_
  rintro X0 ⟨hB, K0, K1, K2⟩
  refine ((H1 _).out).mono ?_
  rintro r X1 ⟨rfl, hb⟩
  replace K0 := keepB hb K0
  replace K1 := keepB hb K1
  replace K2 := keepB hb K2
  replace hB := hB.trans (hb.mono hB.size)
  clear hb
  obtain ⟨t0_0, t0_1, t0_2, t0_3, t0_4, t0_5, t0_6, t0_7⟩ := cellsOf_at K0.out
  obtain ⟨t1_0, t1_1, t1_2, t1_3, t1_4, t1_5, t1_6, t1_7⟩ := cellsOf_at K1.out
  obtain ⟨t2_0, t2_1, t2_2, t2_3, t2_4, t2_5, t2_6, t2_7⟩ := cellsOf_at K2.out
  go_wp2_with fail
  try clear t0_0 t0_1 t0_2 t0_3 t0_4 t0_5 t0_6 t0_7 t1_0 t1_1 t1_2 t1_3 t1_4 t1_5 t1_6 t1_7 t2_0 t2_1 t2_2 t2_3 t2_4 t2_5 t2_6 t2_7
  refine ((H2 _).out).mono ?_
  rintro r X2 ⟨rfl, hb⟩
  replace K0 := keepB hb K0
  replace K1 := keepB hb K1
  replace K2 := keepB hb K2
  replace hB := hB.trans (hb.mono hB.size)
  clear hb
  obtain ⟨t0_0, t0_1, t0_2, t0_3, t0_4, t0_5, t0_6, t0_7⟩ := cellsOf_at K0.out
  obtain ⟨t1_0, t1_1, t1_2, t1_3, t1_4, t1_5, t1_6, t1_7⟩ := cellsOf_at K1.out
  obtain ⟨t2_0, t2_1, t2_2, t2_3, t2_4, t2_5, t2_6, t2_7⟩ := cellsOf_at K2.out
  go_wp2_with fail
  try clear t0_0 t0_1 t0_2 t0_3 t0_4 t0_5 t0_6 t0_7 t1_0 t1_1 t1_2 t1_3 t1_4 t1_5 t1_6 t1_7 t2_0 t2_1 t2_2 t2_3 t2_4 t2_5 t2_6 t2_7
  refine ((H3 _).out).mono ?_
  rintro r X3 ⟨rfl, hb⟩
  replace K0 := keepB hb K0
  replace K1 := keepB hb K1
  replace K2 := keepB hb K2
  replace hB := hB.trans (hb.mono hB.size)
  clear hb
  obtain ⟨t0_0, t0_1, t0_2, t0_3, t0_4, t0_5, t0_6, t0_7⟩ := cellsOf_at K0.out
  obtain ⟨t1_0, t1_1, t1_2, t1_3, t1_4, t1_5, t1_6, t1_7⟩ := cellsOf_at K1.out
  obtain ⟨t2_0, t2_1, t2_2, t2_3, t2_4, t2_5, t2_6, t2_7⟩ := cellsOf_at K2.out
  go_wp2_with fail
  try clear t0_0 t0_1 t0_2 t0_3 t0_4 t0_5 t0_6 t0_7 t1_0 t1_1 t1_2 t1_3 t1_4 t1_5 t1_6 t1_7 t2_0 t2_1 t2_2 t2_3 t2_4 t2_5 t2_6 t2_7
  refine ((H4 _).out).mono ?_
  rintro r X4 ⟨rfl, hb⟩
  replace K0 := keepB hb K0
  replace K1 := keepB hb K1
  replace K2 := keepB hb K2
  replace hB := hB.trans (hb.mono hB.size)
  clear hb
  obtain ⟨t0_0, t0_1, t0_2, t0_3, t0_4, t0_5, t0_6, t0_7⟩ := cellsOf_at K0.out
  obtain ⟨t1_0, t1_1, t1_2, t1_3, t1_4, t1_5, t1_6, t1_7⟩ := cellsOf_at K1.out
  obtain ⟨t2_0, t2_1, t2_2, t2_3, t2_4, t2_5, t2_6, t2_7⟩ := cellsOf_at K2.out
  go_wp2_with fail
  try clear t0_0 t0_1 t0_2 t0_3 t0_4 t0_5 t0_6 t0_7 t1_0 t1_1 t1_2 t1_3 t1_4 t1_5 t1_6 t1_7 t2_0 t2_1 t2_2 t2_3 t2_4 t2_5 t2_6 t2_7
  refine ((H5 _).out).mono ?_
  rintro r X5 ⟨rfl, hb⟩
  replace K0 := keepB hb K0
  replace K1 := keepB hb K1
  replace K2 := keepB hb K2
  replace hB := hB.trans (hb.mono hB.size)
  clear hb
  obtain ⟨t0_0, t0_1, t0_2, t0_3, t0_4, t0_5, t0_6, t0_7⟩ := cellsOf_at K0.out
  obtain ⟨t1_0, t1_1, t1_2, t1_3, t1_4, t1_5, t1_6, t1_7⟩ := cellsOf_at K1.out
  obtain ⟨t2_0, t2_1, t2_2, t2_3, t2_4, t2_5, t2_6, t2_7⟩ := cellsOf_at K2.out
  go_wp2_with fail
  try clear t0_0 t0_1 t0_2 t0_3 t0_4 t0_5 t0_6 t0_7 t1_0 t1_1 t1_2 t1_3 t1_4 t1_5 t1_6 t1_7 t2_0 t2_1 t2_2 t2_3 t2_4 t2_5 t2_6 t2_7
  refine ((H6 _).out).mono ?_
  rintro r X6 ⟨rfl, hb⟩
  replace K0 := keepB hb K0
  replace K1 := keepB hb K1
  replace K2 := keepB hb K2
  replace hB := hB.trans (hb.mono hB.size)
  clear hb
  obtain ⟨t0_0, t0_1, t0_2, t0_3, t0_4, t0_5, t0_6, t0_7⟩ := cellsOf_at K0.out
  obtain ⟨t1_0, t1_1, t1_2, t1_3, t1_4, t1_5, t1_6, t1_7⟩ := cellsOf_at K1.out
  obtain ⟨t2_0, t2_1, t2_2, t2_3, t2_4, t2_5, t2_6, t2_7⟩ := cellsOf_at K2.out
  go_wp2_with fail
  try clear t0_0 t0_1 t0_2 t0_3 t0_4 t0_5 t0_6 t0_7 t1_0 t1_1 t1_2 t1_3 t1_4 t1_5 t1_6 t1_7 t2_0 t2_1 t2_2 t2_3 t2_4 t2_5 t2_6 t2_7
  refine ((H7 _).out).mono ?_
  rintro r X7 ⟨rfl, hb⟩
  replace K0 := keepB hb K0
  replace K1 := keepB hb K1
  replace K2 := keepB hb K2
  replace hB := hB.trans (hb.mono hB.size)
  clear hb
  obtain ⟨t0_0, t0_1, t0_2, t0_3, t0_4, t0_5, t0_6, t0_7⟩ := cellsOf_at K0.out
  obtain ⟨t1_0, t1_1, t1_2, t1_3, t1_4, t1_5, t1_6, t1_7⟩ := cellsOf_at K1.out
  obtain ⟨t2_0, t2_1, t2_2, t2_3, t2_4, t2_5, t2_6, t2_7⟩ := cellsOf_at K2.out
  go_wp2_with fail
  try clear t0_0 t0_1 t0_2 t0_3 t0_4 t0_5 t0_6 t0_7 t1_0 t1_1 t1_2 t1_3 t1_4 t1_5 t1_6 t1_7 t2_0 t2_1 t2_2 t2_3 t2_4 t2_5 t2_6 t2_7
  refine ((H8 _).out).mono ?_
  rintro r X8 ⟨rfl, hb⟩
  replace K0 := keepB hb K0
  replace K1 := keepB hb K1
  replace K2 := keepB hb K2
  replace hB := hB.trans (hb.mono hB.size)
  clear hb
  obtain ⟨B9, hB9⟩ : ∃ b, X8.heap.size = b := ⟨_, rfl⟩
  obtain ⟨t0_0, t0_1, t0_2, t0_3, t0_4, t0_5, t0_6, t0_7⟩ := cellsOf_at K0.out
  obtain ⟨t1_0, t1_1, t1_2, t1_3, t1_4, t1_5, t1_6, t1_7⟩ := cellsOf_at K1.out
  obtain ⟨t2_0, t2_1, t2_2, t2_3, t2_4, t2_5, t2_6, t2_7⟩ := cellsOf_at K2.out
  rw [hB9] at t0_7 t1_7 t2_7
  go_wp2_with fail
  try clear t0_0 t0_1 t0_2 t0_3 t0_4 t0_5 t0_6 t0_7 t1_0 t1_1 t1_2 t1_3 t1_4 t1_5 t1_6 t1_7 t2_0 t2_1 t2_2 t2_3 t2_4 t2_5 t2_6 t2_7
  try rw [hB9]
  refine call_named (fun V => Below w.heap.size w V ∧ Hid (V.heap[w.heap.size]? = some (cellsOf ⟨a1, a2, a3, a4, a5, a6⟩)) ∧ Hid (V.heap[w.heap.size + 1]? = some (cellsOf ⟨b1, b2, b3, b4, b5, b6⟩)) ∧ Hid (V.heap[w.heap.size + 1 + 1]? = some (cellsOf ⟨c1, c2, c3, c4, c5, c6⟩)) ∧ Hid (V.heap[B9]? = some (spanOf ⟨slo, shi⟩))) ⟨xa hB _, keepA K0 _, keepA K1 _, keepA K2 _, newA _ _ _ hB9⟩ ?_
  clear hB K0 K1 K2 hB9
  rintro V9 ⟨hB, K0, K1, K2, K9⟩
  refine ((H9 _).out).mono ?_
  rintro r X10 ⟨rfl, hb⟩
  replace K0 := keepB hb K0
  replace K1 := keepB hb K1
  replace K2 := keepB hb K2
  replace K9 := keepB hb K9
  replace hB := hB.trans (hb.mono hB.size)
  clear hb
  obtain ⟨B11, hB11⟩ : ∃ b, X10.heap.size = b := ⟨_, rfl⟩
  obtain ⟨t0_0, t0_1, t0_2, t0_3, t0_4, t0_5, t0_6, t0_7⟩ := cellsOf_at K0.out
  obtain ⟨t1_0, t1_1, t1_2, t1_3, t1_4, t1_5, t1_6, t1_7⟩ := cellsOf_at K1.out
  obtain ⟨t2_0, t2_1, t2_2, t2_3, t2_4, t2_5, t2_6, t2_7⟩ := cellsOf_at K2.out
  obtain ⟨t9_0, t9_1, t9_2, t9_3⟩ := span_at' K9.out
  rw [hB11] at t0_7 t1_7 t2_7 t9_3
  go_wp2_with fail
  try clear t0_0 t0_1 t0_2 t0_3 t0_4 t0_5 t0_6 t0_7 t1_0 t1_1 t1_2 t1_3 t1_4 t1_5 t1_6 t1_7 t2_0 t2_1 t2_2 t2_3 t2_4 t2_5 t2_6 t2_7 t9_0 t9_1 t9_2 t9_3
  try rw [hB11]
  refine call_named (fun V => Below w.heap.size w V ∧ Hid (V.heap[w.heap.size]? = some (cellsOf ⟨a1, a2, a3, a4, a5, a6⟩)) ∧ Hid (V.heap[w.heap.size + 1]? = some (cellsOf ⟨b1, b2, b3, b4, b5, b6⟩)) ∧ Hid (V.heap[w.heap.size + 1 + 1]? = some (cellsOf ⟨c1, c2, c3, c4, c5, c6⟩)) ∧ Hid (V.heap[B9]? = some (spanOf ⟨slo, shi⟩)) ∧ Hid (V.heap[B11]? = some (spanOf ⟨slo, shi⟩))) ⟨xa hB _, keepA K0 _, keepA K1 _, keepA K2 _, keepA K9 _, newA _ _ _ hB11⟩ ?_
  clear hB K0 K1 K2 K9 hB11
  rintro V11 ⟨hB, K0, K1, K2, K9, K11⟩
  refine ((HP _).out).mono ?_
  rintro r X12 ⟨rfl, hb⟩
  replace K0 := keepB hb K0
  replace K1 := keepB hb K1
  replace K2 := keepB hb K2
  replace K9 := keepB hb K9
  replace K11 := keepB hb K11
  replace hB := hB.trans (hb.mono hB.size)
  clear hb
  obtain ⟨B13, hB13⟩ : ∃ b, X12.heap.size = b := ⟨_, rfl⟩
  obtain ⟨t0_0, t0_1, t0_2, t0_3, t0_4, t0_5, t0_6, t0_7⟩ := cellsOf_at K0.out
  obtain ⟨t1_0, t1_1, t1_2, t1_3, t1_4, t1_5, t1_6, t1_7⟩ := cellsOf_at K1.out
  obtain ⟨t2_0, t2_1, t2_2, t2_3, t2_4, t2_5, t2_6, t2_7⟩ := cellsOf_at K2.out
  obtain ⟨t9_0, t9_1, t9_2, t9_3⟩ := span_at' K9.out
  obtain ⟨t11_0, t11_1, t11_2, t11_3⟩ := span_at' K11.out
  rw [hB13] at t0_7 t1_7 t2_7 t9_3 t11_3
  go_wp2_with fail
  try clear t0_0 t0_1 t0_2 t0_3 t0_4 t0_5 t0_6 t0_7 t1_0 t1_1 t1_2 t1_3 t1_4 t1_5 t1_6 t1_7 t2_0 t2_1 t2_2 t2_3 t2_4 t2_5 t2_6 t2_7 t9_0 t9_1 t9_2 t9_3 t11_0 t11_1 t11_2 t11_3
  try rw [hB13]
  refine call_named (fun V => Below w.heap.size w V ∧ Hid (V.heap[w.heap.size]? = some (cellsOf ⟨a1, a2, a3, a4, a5, a6⟩)) ∧ Hid (V.heap[w.heap.size + 1]? = some (cellsOf ⟨b1, b2, b3, b4, b5, b6⟩)) ∧ Hid (V.heap[w.heap.size + 1 + 1]? = some (cellsOf ⟨c1, c2, c3, c4, c5, c6⟩)) ∧ Hid (V.heap[B9]? = some (spanOf ⟨slo, shi⟩)) ∧ Hid (V.heap[B11]? = some (spanOf ⟨slo, shi⟩)) ∧ Hid (V.heap[B13]? = some (spanOf ⟨plo, phi⟩))) ⟨xa hB _, keepA K0 _, keepA K1 _, keepA K2 _, keepA K9 _, keepA K11 _, newA _ _ _ hB13⟩ ?_
  clear hB K0 K1 K2 K9 K11 hB13
  rintro V13 ⟨hB, K0, K1, K2, K9, K11, K13⟩
  refine ((HQ _).out).mono ?_
  rintro r X14 ⟨rfl, hb⟩
  replace K0 := keepB hb K0
  replace K1 := keepB hb K1
  replace K2 := keepB hb K2
  replace K9 := keepB hb K9
  replace K11 := keepB hb K11
  replace K13 := keepB hb K13
  replace hB := hB.trans (hb.mono hB.size)
  clear hb
  obtain ⟨B15, hB15⟩ : ∃ b, X14.heap.size = b := ⟨_, rfl⟩
  obtain ⟨t0_0, t0_1, t0_2, t0_3, t0_4, t0_5, t0_6, t0_7⟩ := cellsOf_at K0.out
  obtain ⟨t1_0, t1_1, t1_2, t1_3, t1_4, t1_5, t1_6, t1_7⟩ := cellsOf_at K1.out
  obtain ⟨t2_0, t2_1, t2_2, t2_3, t2_4, t2_5, t2_6, t2_7⟩ := cellsOf_at K2.out
  obtain ⟨t9_0, t9_1, t9_2, t9_3⟩ := span_at' K9.out
  obtain ⟨t11_0, t11_1, t11_2, t11_3⟩ := span_at' K11.out
  obtain ⟨t13_0, t13_1, t13_2, t13_3⟩ := span_at' K13.out
  rw [hB15] at t0_7 t1_7 t2_7 t9_3 t11_3 t13_3
  go_wp2_with fail
  try clear t0_0 t0_1 t0_2 t0_3 t0_4 t0_5 t0_6 t0_7 t1_0 t1_1 t1_2 t1_3 t1_4 t1_5 t1_6 t1_7 t2_0 t2_1 t2_2 t2_3 t2_4 t2_5 t2_6 t2_7 t9_0 t9_1 t9_2 t9_3 t11_0 t11_1 t11_2 t11_3 t13_0 t13_1 t13_2 t13_3
  try rw [hB15]
  refine call_named (fun V => Below w.heap.size w V ∧ Hid (V.heap[w.heap.size]? = some (cellsOf ⟨a1, a2, a3, a4, a5, a6⟩)) ∧ Hid (V.heap[w.heap.size + 1]? = some (cellsOf ⟨b1, b2, b3, b4, b5, b6⟩)) ∧ Hid (V.heap[w.heap.size + 1 + 1]? = some (cellsOf ⟨c1, c2, c3, c4, c5, c6⟩)) ∧ Hid (V.heap[B9]? = some (spanOf ⟨slo, shi⟩)) ∧ Hid (V.heap[B11]? = some (spanOf ⟨slo, shi⟩)) ∧ Hid (V.heap[B13]? = some (spanOf ⟨plo, phi⟩)) ∧ Hid (V.heap[B15]? = some (spanOf ⟨qlo, qhi⟩))) ⟨xa hB _, keepA K0 _, keepA K1 _, keepA K2 _, keepA K9 _, keepA K11 _, keepA K13 _, newA _ _ _ hB15⟩ ?_
  clear hB K0 K1 K2 K9 K11 K13 hB15
  rintro V15 ⟨hB, K0, K1, K2, K9, K11, K13, K15⟩
  refine (c22 V15 (HE.out.below hB) (HC.out.below hB HC.out.lt)).mono ?_
  rintro r X16 ⟨rfl, hb⟩
  replace K0 := keepB hb K0
  replace K1 := keepB hb K1
  replace K2 := keepB hb K2
  replace K9 := keepB hb K9
  replace K11 := keepB hb K11
  replace K13 := keepB hb K13
  replace K15 := keepB hb K15
  replace hB := hB.trans (hb.mono hB.size)
  clear hb
  obtain ⟨t0_0, t0_1, t0_2, t0_3, t0_4, t0_5, t0_6, t0_7⟩ := cellsOf_at K0.out
  obtain ⟨t1_0, t1_1, t1_2, t1_3, t1_4, t1_5, t1_6, t1_7⟩ := cellsOf_at K1.out
  obtain ⟨t2_0, t2_1, t2_2, t2_3, t2_4, t2_5, t2_6, t2_7⟩ := cellsOf_at K2.out
  obtain ⟨t9_0, t9_1, t9_2, t9_3⟩ := span_at' K9.out
  obtain ⟨t11_0, t11_1, t11_2, t11_3⟩ := span_at' K11.out
  obtain ⟨t13_0, t13_1, t13_2, t13_3⟩ := span_at' K13.out
  obtain ⟨t15_0, t15_1, t15_2, t15_3⟩ := span_at' K15.out
  go_wp2_with fail
  go_ret
  exact ⟨rfl, hB⟩
set_option maxRecDepth 100000 in
set_option maxHeartbeats 8000000 in
theorem c13_9 (a1 a2 a3 a4 a5 a6 b1 b2 b3 b4 b5 b6 c1 c2 c3 c4 c5 c6 n slo shi plo phi qlo qhi : Int) (bc ac : Bool) (w : World) (HE : Hid (Env w)) (HC : Hid (Cell0 w)) (HS : Hid (min phi qhi < max plo qlo)) (H1 : ∀ W, Hid (Calls Tryz.prog 45 #[.agg #[.int .i64 a1, .int .i64 a2, .int .i64 a3, .int .i64 a4, .int .i64 a5, .int .i64 a6], .agg #[.int .i64 b1, .int .i64 b2, .int .i64 b3, .int .i64 b4, .int .i64 b5, .int .i64 b6]] W fun r w' => r = .returned (.tuple #[.bool false, .int .i64 0]) ∧ Below W.heap.size W w')) (H2 : ∀ W, Hid (Calls Tryz.prog 45 #[.agg #[.int .i64 b1, .int .i64 b2, .int .i64 b3, .int .i64 b4, .int .i64 b5, .int .i64 b6], .agg #[.int .i64 a1, .int .i64 a2, .int .i64 a3, .int .i64 a4, .int .i64 a5, .int .i64 a6]] W fun r w' => r = .returned (.tuple #[.bool false, .int .i64 0]) ∧ Below W.heap.size W w')) (H3 : ∀ W, Hid (Calls Tryz.prog 45 #[.agg #[.int .i64 b1, .int .i64 b2, .int .i64 b3, .int .i64 b4, .int .i64 b5, .int .i64 b6], .agg #[.int .i64 c1, .int .i64 c2, .int .i64 c3, .int .i64 c4, .int .i64 c5, .int .i64 c6]] W fun r w' => r = .returned (.tuple #[.bool bc, .int .i64 0]) ∧ Below W.heap.size W w')) (H4 : ∀ W, Hid (Calls Tryz.prog 45 #[.agg #[.int .i64 a1, .int .i64 a2, .int .i64 a3, .int .i64 a4, .int .i64 a5, .int .i64 a6], .agg #[.int .i64 c1, .int .i64 c2, .int .i64 c3, .int .i64 c4, .int .i64 c5, .int .i64 c6]] W fun r w' => r = .returned (.tuple #[.bool ac, .int .i64 0]) ∧ Below W.heap.size W w')) (H5 : ∀ W, Hid (Calls Tryz.prog 45 #[.agg #[.int .i64 a1, .int .i64 a2, .int .i64 a3, .int .i64 a4, .int .i64 a5, .int .i64 a6], .agg #[.int .i64 a1, .int .i64 a2, .int .i64 a3, .int .i64 a4, .int .i64 a5, .int .i64 a6]] W fun r w' => r = .returned (.tuple #[.bool true, .int .i64 0]) ∧ Below W.heap.size W w')) (H6 : ∀ W, Hid (Calls Tryz.prog 47 #[.agg #[.int .i64 a1, .int .i64 a2, .int .i64 a3, .int .i64 a4, .int .i64 a5, .int .i64 a6], .agg #[.int .i64 b1, .int .i64 b2, .int .i64 b3, .int .i64 b4, .int .i64 b5, .int .i64 b6]] W fun r w' => r = .returned (.tuple #[.bool true, .int .i64 0]) ∧ Below W.heap.size W w')) (H7 : ∀ W, Hid (Calls Tryz.prog 47 #[.agg #[.int .i64 b1, .int .i64 b2, .int .i64 b3, .int .i64 b4, .int .i64 b5, .int .i64 b6], .agg #[.int .i64 a1, .int .i64 a2, .int .i64 a3, .int .i64 a4, .int .i64 a5, .int .i64 a6]] W fun r w' => r = .returned (.tuple #[.bool true, .int .i64 0]) ∧ Below W.heap.size W w')) (H8 : ∀ W, Hid (Calls Tryz.prog 48 #[.agg #[.int .i64 a1, .int .i64 a2, .int .i64 a3, .int .i64 a4, .int .i64 a5, .int .i64 a6], .agg #[.int .i64 b1, .int .i64 b2, .int .i64 b3, .int .i64 b4, .int .i64 b5, .int .i64 b6]] W fun r w' => r = .returned (.tuple #[.agg #[.int .i64 slo, .int .i64 shi], .int .i64 9]) ∧ Below W.heap.size W w')) (H9 : ∀ W, Hid (Calls Tryz.prog 48 #[.agg #[.int .i64 b1, .int .i64 b2, .int .i64 b3, .int .i64 b4, .int .i64 b5, .int .i64 b6], .agg #[.int .i64 a1, .int .i64 a2, .int .i64 a3, .int .i64 a4, .int .i64 a5, .int .i64 a6]] W fun r w' => r = .returned (.tuple #[.agg #[.int .i64 slo, .int .i64 shi], .int .i64 9]) ∧ Below W.heap.size W w')) (HP : ∀ W, Hid (Calls Tryz.prog 43 #[.agg #[.int .i64 a1, .int .i64 a2, .int .i64 a3, .int .i64 a4, .int .i64 a5, .int .i64 a6]] W fun r w' => r = .returned (.tuple #[.agg #[.int .i64 plo, .int .i64 phi], .int .i64 0]) ∧ Below W.heap.size W w')) (HQ : ∀ W, Hid (Calls Tryz.prog 43 #[.agg #[.int .i64 b1, .int .i64 b2, .int .i64 b3, .int .i64 b4, .int .i64 b5, .int .i64 b6]] W fun r w' => r = .returned (.tuple #[.agg #[.int .i64 qlo, .int .i64 qhi], .int .i64 0]) ∧ Below W.heap.size W w')) : Calls Tryz.prog 13 #[.agg #[.int .i64 a1, .int .i64 a2, .int .i64 a3, .int .i64 a4, .int .i64 a5, .int .i64 a6], .agg #[.int .i64 b1, .int .i64 b2, .int .i64 b3, .int .i64 b4, .int .i64 b5, .int .i64 b6], .agg #[.int .i64 c1, .int .i64 c2, .int .i64 c3, .int .i64 c4, .int .i64 c5, .int .i64 c6], .int .i64 n] w fun e w' => e = .returned (.bool true) ∧ Below w.heap.size w w' := by
  go_enter Tryz.func13, Tryz.ntmps13
  go_wp2_with fail
  refine call_named (fun V => Below w.heap.size w V ∧ Hid (V.heap[w.heap.size]? = some (cellsOf ⟨a1, a2, a3, a4, a5, a6⟩)) ∧ Hid (V.heap[w.heap.size + 1]? = some (cellsOf ⟨b1, b2, b3, b4, b5, b6⟩)) ∧ Hid (V.heap[w.heap.size + 1 + 1]? = some (cellsOf ⟨c1, c2, c3, c4, c5, c6⟩))) (box_three _ _ _ _) ?_
  rintro X0 ⟨hB, K0, K1, K2⟩
  refine ((H1 _).out).mono ?_
  rintro r X1 ⟨rfl, hb⟩
  replace K0 := keepB hb K0
  replace K1 := keepB hb K1
  replace K2 := keepB hb K2
  replace hB := hB.trans (hb.mono hB.size)
  clear hb
  obtain ⟨t0_0, t0_1, t0_2, t0_3, t0_4, t0_5, t0_6, t0_7⟩ := cellsOf_at K0.out
  obtain ⟨t1_0, t1_1, t1_2, t1_3, t1_4, t1_5, t1_6, t1_7⟩ := cellsOf_at K1.out
  obtain ⟨t2_0, t2_1, t2_2, t2_3, t2_4, t2_5, t2_6, t2_7⟩ := cellsOf_at K2.out
  go_wp2_with fail
  try clear t0_0 t0_1 t0_2 t0_3 t0_4 t0_5 t0_6 t0_7 t1_0 t1_1 t1_2 t1_3 t1_4 t1_5 t1_6 t1_7 t2_0 t2_1 t2_2 t2_3 t2_4 t2_5 t2_6 t2_7
  refine ((H2 _).out).mono ?_
  rintro r X2 ⟨rfl, hb⟩
  replace K0 := keepB hb K0
  replace K1 := keepB hb K1
  replace K2 := keepB hb K2
  replace hB := hB.trans (hb.mono hB.size)
  clear hb
  obtain ⟨t0_0, t0_1, t0_2, t0_3, t0_4, t0_5, t0_6, t0_7⟩ := cellsOf_at K0.out
  obtain ⟨t1_0, t1_1, t1_2, t1_3, t1_4, t1_5, t1_6, t1_7⟩ := cellsOf_at K1.out
  obtain ⟨t2_0, t2_1, t2_2, t2_3, t2_4, t2_5, t2_6, t2_7⟩ := cellsOf_at K2.out
  go_wp2_with fail
  try clear t0_0 t0_1 t0_2 t0_3 t0_4 t0_5 t0_6 t0_7 t1_0 t1_1 t1_2 t1_3 t1_4 t1_5 t1_6 t1_7 t2_0 t2_1 t2_2 t2_3 t2_4 t2_5 t2_6 t2_7
  refine ((H3 _).out).mono ?_
  rintro r X3 ⟨rfl, hb⟩
  replace K0 := keepB hb K0
  replace K1 := keepB hb K1
  replace K2 := keepB hb K2
  replace hB := hB.trans (hb.mono hB.size)
  clear hb
  obtain ⟨t0_0, t0_1, t0_2, t0_3, t0_4, t0_5, t0_6, t0_7⟩ := cellsOf_at K0.out
  obtain ⟨t1_0, t1_1, t1_2, t1_3, t1_4, t1_5, t1_6, t1_7⟩ := cellsOf_at K1.out
  obtain ⟨t2_0, t2_1, t2_2, t2_3, t2_4, t2_5, t2_6, t2_7⟩ := cellsOf_at K2.out
  go_wp2_with fail
  try clear t0_0 t0_1 t0_2 t0_3 t0_4 t0_5 t0_6 t0_7 t1_0 t1_1 t1_2 t1_3 t1_4 t1_5 t1_6 t1_7 t2_0 t2_1 t2_2 t2_3 t2_4 t2_5 t2_6 t2_7
  refine ((H4 _).out).mono ?_
  rintro r X4 ⟨rfl, hb⟩
  replace K0 := keepB hb K0
  replace K1 := keepB hb K1
  replace K2 := keepB hb K2
  replace hB := hB.trans (hb.mono hB.size)
  clear hb
  obtain ⟨t0_0, t0_1, t0_2, t0_3, t0_4, t0_5, t0_6, t0_7⟩ := cellsOf_at K0.out
  obtain ⟨t1_0, t1_1, t1_2, t1_3, t1_4, t1_5, t1_6, t1_7⟩ := cellsOf_at K1.out
  obtain ⟨t2_0, t2_1, t2_2, t2_3, t2_4, t2_5, t2_6, t2_7⟩ := cellsOf_at K2.out
  go_wp2_with fail
  try clear t0_0 t0_1 t0_2 t0_3 t0_4 t0_5 t0_6 t0_7 t1_0 t1_1 t1_2 t1_3 t1_4 t1_5 t1_6 t1_7 t2_0 t2_1 t2_2 t2_3 t2_4 t2_5 t2_6 t2_7
  refine ((H5 _).out).mono ?_
  rintro r X5 ⟨rfl, hb⟩
  replace K0 := keepB hb K0
  replace K1 := keepB hb K1
  replace K2 := keepB hb K2
  replace hB := hB.trans (hb.mono hB.size)
  clear hb
  obtain ⟨t0_0, t0_1, t0_2, t0_3, t0_4, t0_5, t0_6, t0_7⟩ := cellsOf_at K0.out
  obtain ⟨t1_0, t1_1, t1_2, t1_3, t1_4, t1_5, t1_6, t1_7⟩ := cellsOf_at K1.out
  obtain ⟨t2_0, t2_1, t2_2, t2_3, t2_4, t2_5, t2_6, t2_7⟩ := cellsOf_at K2.out
  go_wp2_with fail
  try clear t0_0 t0_1 t0_2 t0_3 t0_4 t0_5 t0_6 t0_7 t1_0 t1_1 t1_2 t1_3 t1_4 t1_5 t1_6 t1_7 t2_0 t2_1 t2_2 t2_3 t2_4 t2_5 t2_6 t2_7
  refine ((H6 _).out).mono ?_
  rintro r X6 ⟨rfl, hb⟩
  replace K0 := keepB hb K0
  replace K1 := keepB hb K1
  replace K2 := keepB hb K2
  replace hB := hB.trans (hb.mono hB.size)
  clear hb
  obtain ⟨t0_0, t0_1, t0_2, t0_3, t0_4, t0_5, t0_6, t0_7⟩ := cellsOf_at K0.out
  obtain ⟨t1_0, t1_1, t1_2, t1_3, t1_4, t1_5, t1_6, t1_7⟩ := cellsOf_at K1.out
  obtain ⟨t2_0, t2_1, t2_2, t2_3, t2_4, t2_5, t2_6, t2_7⟩ := cellsOf_at K2.out
  go_wp2_with fail
  try clear t0_0 t0_1 t0_2 t0_3 t0_4 t0_5 t0_6 t0_7 t1_0 t1_1 t1_2 t1_3 t1_4 t1_5 t1_6 t1_7 t2_0 t2_1 t2_2 t2_3 t2_4 t2_5 t2_6 t2_7
  refine ((H7 _).out).mono ?_
  rintro r X7 ⟨rfl, hb⟩
  replace K0 := keepB hb K0
  replace K1 := keepB hb K1
  replace K2 := keepB hb K2
  replace hB := hB.trans (hb.mono hB.size)
  clear hb
  obtain ⟨t0_0, t0_1, t0_2, t0_3, t0_4, t0_5, t0_6, t0_7⟩ := cellsOf_at K0.out
  obtain ⟨t1_0, t1_1, t1_2, t1_3, t1_4, t1_5, t1_6, t1_7⟩ := cellsOf_at K1.out
  obtain ⟨t2_0, t2_1, t2_2, t2_3, t2_4, t2_5, t2_6, t2_7⟩ := cellsOf_at K2.out
  go_wp2_with fail
  try clear t0_0 t0_1 t0_2 t0_3 t0_4 t0_5 t0_6 t0_7 t1_0 t1_1 t1_2 t1_3 t1_4 t1_5 t1_6 t1_7 t2_0 t2_1 t2_2 t2_3 t2_4 t2_5 t2_6 t2_7
  refine ((H8 _).out).mono ?_
  rintro r X8 ⟨rfl, hb⟩
  replace K0 := keepB hb K0
  replace K1 := keepB hb K1
  replace K2 := keepB hb K2
  replace hB := hB.trans (hb.mono hB.size)
  clear hb
  obtain ⟨B9, hB9⟩ : ∃ b, X8.heap.size = b := ⟨_, rfl⟩
  obtain ⟨t0_0, t0_1, t0_2, t0_3, t0_4, t0_5, t0_6, t0_7⟩ := cellsOf_at K0.out
  obtain ⟨t1_0, t1_1, t1_2, t1_3, t1_4, t1_5, t1_6, t1_7⟩ := cellsOf_at K1.out
  obtain ⟨t2_0, t2_1, t2_2, t2_3, t2_4, t2_5, t2_6, t2_7⟩ := cellsOf_at K2.out
  rw [hB9] at t0_7 t1_7 t2_7
  go_wp2_with fail
  try clear t0_0 t0_1 t0_2 t0_3 t0_4 t0_5 t0_6 t0_7 t1_0 t1_1 t1_2 t1_3 t1_4 t1_5 t1_6 t1_7 t2_0 t2_1 t2_2 t2_3 t2_4 t2_5 t2_6 t2_7
  try rw [hB9]
  refine call_named (fun V => Below w.heap.size w V ∧ Hid (V.heap[w.heap.size]? = some (cellsOf ⟨a1, a2, a3, a4, a5, a6⟩)) ∧ Hid (V.heap[w.heap.size + 1]? = some (cellsOf ⟨b1, b2, b3, b4, b5, b6⟩)) ∧ Hid (V.heap[w.heap.size + 1 + 1]? = some (cellsOf ⟨c1, c2, c3, c4, c5, c6⟩)) ∧ Hid (V.heap[B9]? = some (spanOf ⟨slo, shi⟩))) ⟨xa hB _, keepA K0 _, keepA K1 _, keepA K2 _, newA _ _ _ hB9⟩ ?_
  clear hB K0 K1 K2 hB9
  rintro V9 ⟨hB, K0, K1, K2, K9⟩
  refine ((H9 _).out).mono ?_
  rintro r X10 ⟨rfl, hb⟩
  replace K0 := keepB hb K0
  replace K1 := keepB hb K1
  replace K2 := keepB hb K2
  replace K9 := keepB hb K9
  replace hB := hB.trans (hb.mono hB.size)
  clear hb
  obtain ⟨B11, hB11⟩ : ∃ b, X10.heap.size = b := ⟨_, rfl⟩
  obtain ⟨t0_0, t0_1, t0_2, t0_3, t0_4, t0_5, t0_6, t0_7⟩ := cellsOf_at K0.out
  obtain ⟨t1_0, t1_1, t1_2, t1_3, t1_4, t1_5, t1_6, t1_7⟩ := cellsOf_at K1.out
  obtain ⟨t2_0, t2_1, t2_2, t2_3, t2_4, t2_5, t2_6, t2_7⟩ := cellsOf_at K2.out
  obtain ⟨t9_0, t9_1, t9_2, t9_3⟩ := span_at' K9.out
  rw [hB11] at t0_7 t1_7 t2_7 t9_3
  go_wp2_with fail
  try clear t0_0 t0_1 t0_2 t0_3 t0_4 t0_5 t0_6 t0_7 t1_0 t1_1 t1_2 t1_3 t1_4 t1_5 t1_6 t1_7 t2_0 t2_1 t2_2 t2_3 t2_4 t2_5 t2_6 t2_7 t9_0 t9_1 t9_2 t9_3
  try rw [hB11]
  refine call_named (fun V => Below w.heap.size w V ∧ Hid (V.heap[w.heap.size]? = some (cellsOf ⟨a1, a2, a3, a4, a5, a6⟩)) ∧ Hid (V.heap[w.heap.size + 1]? = some (cellsOf ⟨b1, b2, b3, b4, b5, b6⟩)) ∧ Hid (V.heap[w.heap.size + 1 + 1]? = some (cellsOf ⟨c1, c2, c3, c4, c5, c6⟩)) ∧ Hid (V.heap[B9]? = some (spanOf ⟨slo, shi⟩)) ∧ Hid (V.heap[B11]? = some (spanOf ⟨slo, shi⟩))) ⟨xa hB _, keepA K0 _, keepA K1 _, keepA K2 _, keepA K9 _, newA _ _ _ hB11⟩ ?_
  clear hB K0 K1 K2 K9 hB11
  rintro V11 ⟨hB, K0, K1, K2, K9, K11⟩
  refine ((HP _).out).mono ?_
  rintro r X12 ⟨rfl, hb⟩
  replace K0 := keepB hb K0
  replace K1 := keepB hb K1
  replace K2 := keepB hb K2
  replace K9 := keepB hb K9
  replace K11 := keepB hb K11
  replace hB := hB.trans (hb.mono hB.size)
  clear hb
  obtain ⟨B13, hB13⟩ : ∃ b, X12.heap.size = b := ⟨_, rfl⟩
  obtain ⟨t0_0, t0_1, t0_2, t0_3, t0_4, t0_5, t0_6, t0_7⟩ := cellsOf_at K0.out
  obtain ⟨t1_0, t1_1, t1_2, t1_3, t1_4, t1_5, t1_6, t1_7⟩ := cellsOf_at K1.out
  obtain ⟨t2_0, t2_1, t2_2, t2_3, t2_4, t2_5, t2_6, t2_7⟩ := cellsOf_at K2.out
  obtain ⟨t9_0, t9_1, t9_2, t9_3⟩ := span_at' K9.out
  obtain ⟨t11_0, t11_1, t11_2, t11_3⟩ := span_at' K11.out
  rw [hB13] at t0_7 t1_7 t2_7 t9_3 t11_3
  go_wp2_with fail
  try clear t0_0 t0_1 t0_2 t0_3 t0_4 t0_5 t0_6 t0_7 t1_0 t1_1 t1_2 t1_3 t1_4 t1_5 t1_6 t1_7 t2_0 t2_1 t2_2 t2_3 t2_4 t2_5 t2_6 t2_7 t9_0 t9_1 t9_2 t9_3 t11_0 t11_1 t11_2 t11_3
  try rw [hB13]
  refine call_named (fun V => Below w.heap.size w V ∧ Hid (V.heap[w.heap.size]? = some (cellsOf ⟨a1, a2, a3, a4, a5, a6⟩)) ∧ Hid (V.heap[w.heap.size + 1]? = some (cellsOf ⟨b1, b2, b3, b4, b5, b6⟩)) ∧ Hid (V.heap[w.heap.size + 1 + 1]? = some (cellsOf ⟨c1, c2, c3, c4, c5, c6⟩)) ∧ Hid (V.heap[B9]? = some (spanOf ⟨slo, shi⟩)) ∧ Hid (V.heap[B11]? = some (spanOf ⟨slo, shi⟩)) ∧ Hid (V.heap[B13]? = some (spanOf ⟨plo, phi⟩))) ⟨xa hB _, keepA K0 _, keepA K1 _, keepA K2 _, keepA K9 _, keepA K11 _, newA _ _ _ hB13⟩ ?_
  clear hB K0 K1 K2 K9 K11 hB13
  rintro V13 ⟨hB, K0, K1, K2, K9, K11, K13⟩
  refine ((HQ _).out).mono ?_
  rintro r X14 ⟨rfl, hb⟩
  replace K0 := keepB hb K0
  replace K1 := keepB hb K1
  replace K2 := keepB hb K2
  replace K9 := keepB hb K9
  replace K11 := keepB hb K11
  replace K13 := keepB hb K13
  replace hB := hB.trans (hb.mono hB.size)
  clear hb
  obtain ⟨B15, hB15⟩ : ∃ b, X14.heap.size = b := ⟨_, rfl⟩
  obtain ⟨t0_0, t0_1, t0_2, t0_3, t0_4, t0_5, t0_6, t0_7⟩ := cellsOf_at K0.out
  obtain ⟨t1_0, t1_1, t1_2, t1_3, t1_4, t1_5, t1_6, t1_7⟩ := cellsOf_at K1.out
  obtain ⟨t2_0, t2_1, t2_2, t2_3, t2_4, t2_5, t2_6, t2_7⟩ := cellsOf_at K2.out
  obtain ⟨t9_0, t9_1, t9_2, t9_3⟩ := span_at' K9.out
  obtain ⟨t11_0, t11_1, t11_2, t11_3⟩ := span_at' K11.out
  obtain ⟨t13_0, t13_1, t13_2, t13_3⟩ := span_at' K13.out
  rw [hB15] at t0_7 t1_7 t2_7 t9_3 t11_3 t13_3
  go_wp2_with fail
  all_goals
    try clear t0_0 t0_1 t0_2 t0_3 t0_4 t0_5 t0_6 t0_7 t1_0 t1_1 t1_2 t1_3 t1_4 t1_5 t1_6 t1_7 t2_0 t2_1 t2_2 t2_3 t2_4 t2_5 t2_6 t2_7 t9_0 t9_1 t9_2 t9_3 t11_0 t11_1 t11_2 t11_3 t13_0 t13_1 t13_2 t13_3
    try rw [hB15]
    refine call_named (fun V => Below w.heap.size w V ∧ Hid (V.heap[w.heap.size]? = some (cellsOf ⟨a1, a2, a3, a4, a5, a6⟩)) ∧ Hid (V.heap[w.heap.size + 1]? = some (cellsOf ⟨b1, b2, b3, b4, b5, b6⟩)) ∧ Hid (V.heap[w.heap.size + 1 + 1]? = some (cellsOf ⟨c1, c2, c3, c4, c5, c6⟩)) ∧ Hid (V.heap[B9]? = some (spanOf ⟨slo, shi⟩)) ∧ Hid (V.heap[B11]? = some (spanOf ⟨slo, shi⟩)) ∧ Hid (V.heap[B13]? = some (spanOf ⟨plo, phi⟩)) ∧ Hid (V.heap[B15]? = some (spanOf ⟨qlo, qhi⟩))) ⟨xa hB _, keepA K0 _, keepA K1 _, keepA K2 _, keepA K9 _, keepA K11 _, keepA K13 _, newA _ _ _ hB15⟩ ?_
    clear hB K0 K1 K2 K9 K11 K13 hB15
    rintro V15 ⟨hB, K0, K1, K2, K9, K11, K13, K15⟩
    refine (c22 V15 (HE.out.below hB) (HC.out.below hB HC.out.lt)).mono ?_
    rintro r X16 ⟨rfl, hb⟩
    replace K0 := keepB hb K0
    replace K1 := keepB hb K1
    replace K2 := keepB hb K2
    replace K9 := keepB hb K9
    replace K11 := keepB hb K11
    replace K13 := keepB hb K13
    replace K15 := keepB hb K15
    replace hB := hB.trans (hb.mono hB.size)
    clear hb
    obtain ⟨t0_0, t0_1, t0_2, t0_3, t0_4, t0_5, t0_6, t0_7⟩ := cellsOf_at K0.out
    obtain ⟨t1_0, t1_1, t1_2, t1_3, t1_4, t1_5, t1_6, t1_7⟩ := cellsOf_at K1.out
    obtain ⟨t2_0, t2_1, t2_2, t2_3, t2_4, t2_5, t2_6, t2_7⟩ := cellsOf_at K2.out
    obtain ⟨t9_0, t9_1, t9_2, t9_3⟩ := span_at' K9.out
    obtain ⟨t11_0, t11_1, t11_2, t11_3⟩ := span_at' K11.out
    obtain ⟨t13_0, t13_1, t13_2, t13_3⟩ := span_at' K13.out
    obtain ⟨t15_0, t15_1, t15_2, t15_3⟩ := span_at' K15.out
    go_wp2_with fail
  all_goals go_ret
  all_goals exact ⟨ret_bool (by first | rfl | (exfalso; have := HS.out; omega) | (have := HS.out; simp; omega) | (simp_all; done)), hB⟩
end Go.Proofs.YthifeoebefbalaaGreatDoor
