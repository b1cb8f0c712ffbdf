/- The reference: what a card says. -/
import Derived.Test.YthifeoebefbalaaGreatDoorZ14
import Derived.Test.YthifeoebefbalaaGreatDoorZ2
import Derived.Test.YthifeoebefbalaaGreatDoorZ11
import Derived.Test.YthifeoebefbalaaGreatDoorZ12
import Derived.Outline
import Derived.Test.YthifeoebefbalaaGreatDoorZ13
set_option linter.unusedVariables false
set_option linter.unusedSimpArgs false
namespace Go.Proofs.YthifeoebefbalaaGreatDoor
open Go.RowKit

set_option maxHeartbeats 1000000 in
theorem c55 (st da dy ki am fi : Int) (w : World) (h : ki = 2 ∨ ki = 3 ∨ ki = 4 ∨ (ki = 1 ∧ 0 ≤ am ∧ am ≤ 200000 ∧ 1 ≤ fi ∧ fi ≤ 100)) : Calls Tryz.prog 55 #[.agg #[.int .i64 st, .int .i64 da, .int .i64 dy, .int .i64 ki, .int .i64 am, .int .i64 fi]] w fun e w' => e = .returned (spv (says ⟨st, da, dy, ki, am, fi⟩)) ∧ Below w.heap.size w w' := by
  rcases h with rfl | rfl | rfl | ⟨rfl, h1, h2, h3, h4⟩
  all_goals
    go_enter Tryz.func55, Tryz.ntmps55
    go_wp2
    exact bodyPost_ret (v := spv (says _)) (by simp [results, Tryz.results55, go_sem, spv, says]) rfl ⟨rfl, by repeat (first | exact xr _ | apply xa)⟩
theorem c55_valid (c : Card) (w : World) (h : isCard c = true) : Calls Tryz.prog 55 #[cv c] w fun e w' => e = .returned (spv (says c)) ∧ Below w.heap.size w w' := by
  obtain ⟨h1, h2, h3, h4, h5, h6, h7, h8, h9, h10⟩ := isCard_true h
  refine c55 c.st c.da c.dy c.ki c.am c.fi w ?_
  by_cases hk : c.ki = 1
  · obtain ⟨g1, g2, g3, g4, -⟩ := h9 hk
    exact .inr (.inr (.inr ⟨hk, g3, g4, g1, g2⟩))
  · omega
end Go.Proofs.YthifeoebefbalaaGreatDoor

namespace Go.Proofs.YthifeoebefbalaaGreatDoor
open Go.RowKit

/-- A card and an error, in memory and as a value. -/
def gotOf (c : Card) (e : Int) : Obj := .cells #[.int .i64 c.st, .int .i64 c.da, .int .i64 c.dy, .int .i64 c.ki, .int .i64 c.am, .int .i64 c.fi, .int .i64 e] 29 (0, 0)
def gotv (c : Card) (e : Int) : Value := .agg #[.int .i64 c.st, .int .i64 c.da, .int .i64 c.dy, .int .i64 c.ki, .int .i64 c.am, .int .i64 c.fi, .int .i64 e]
theorem gotOf_at {w : World} {b : Nat} {c : Card} {e : Int} (h : w.heap[b]? = some (gotOf c e)) :
    w.cell? ⟨b, 0, none⟩ = some (.int .i64 c.st) ∧ w.cell? ⟨b, 1, none⟩ = some (.int .i64 c.da) ∧ w.cell? ⟨b, 2, none⟩ = some (.int .i64 c.dy) ∧ w.cell? ⟨b, 3, none⟩ = some (.int .i64 c.ki) ∧ w.cell? ⟨b, 4, none⟩ = some (.int .i64 c.am) ∧ w.cell? ⟨b, 5, none⟩ = some (.int .i64 c.fi) ∧ w.cell? ⟨b, 6, none⟩ = some (.int .i64 e) ∧
      (∀ i, w.frozen? ⟨b, i, none⟩ = false) ∧ b < w.heap.size := by
  unfold gotOf at h
  exact ⟨by simp [World.cell?, h], by simp [World.cell?, h], by simp [World.cell?, h], by simp [World.cell?, h], by simp [World.cell?, h], by simp [World.cell?, h], by simp [World.cell?, h], fun i => by simp [World.frozen?, h], (Array.getElem?_eq_some_iff.1 h).1⟩
/-- Such a pair stored whole into memory of the call's own. -/
theorem store7 {X : World} {b : Nat} {c0 : Card} {e0 : Int} (h : X.heap[b]? = some (gotOf c0 e0)) (v0 v1 v2 v3 v4 v5 v6 : Int) :
    ∃ Y, ((((((X.setCell ⟨b, 0, none⟩ (.int .i64 v0)).setCell ⟨b, 1, none⟩ (.int .i64 v1)).setCell ⟨b, 2, none⟩ (.int .i64 v2)).setCell ⟨b, 3, none⟩ (.int .i64 v3)).setCell ⟨b, 4, none⟩ (.int .i64 v4)).setCell ⟨b, 5, none⟩ (.int .i64 v5)).setCell ⟨b, 6, none⟩ (.int .i64 v6) = Y ∧
      Y.heap[b]? = some (gotOf ⟨v0, v1, v2, v3, v4, v5⟩ v6) ∧ (∀ (W : World), Below W.heap.size W X → W.heap.size ≤ b → Below W.heap.size W Y) := by
  have h0 := cells_set h 0 (.int .i64 v0)
  have h1 := cells_set h0 1 (.int .i64 v1)
  have h2 := cells_set h1 2 (.int .i64 v2)
  have h3 := cells_set h2 3 (.int .i64 v3)
  have h4 := cells_set h3 4 (.int .i64 v4)
  have h5 := cells_set h4 5 (.int .i64 v5)
  have h6 := cells_set h5 6 (.int .i64 v6)
  exact ⟨_, rfl, by rw [h6]; rfl, fun W hW hb => xs (xs (xs (xs (xs (xs (xs hW hb _) hb _) hb _) hb _) hb _) hb _) hb _⟩
set_option maxRecDepth 100000 in
set_option maxHeartbeats 4000000 in
theorem c26_arg (st da dy : Int) (s : Sp) (w : World) (h : s.lo < 0 ∨ s.hi < s.lo) : Calls Tryz.prog 26 #[.int .i64 st, .int .i64 da, .int .i64 dy, spv s] w fun e w' => e = .returned (gotv zcard 1) ∧ Below w.heap.size w w' := by
  obtain ⟨lo, hi⟩ := s
  simp only at h
  unfold spv gotv zcard
  by_cases h0 : lo < 0
  all_goals
    go_enter Tryz.func26, Tryz.ntmps26
    go_wp2
    exact bodyPost_ret (v := gotv zcard 1) (by simp [results, Tryz.results26, go_sem, gotv, zcard]) rfl ⟨rfl, by repeat (first | exact xr _ | apply xa)⟩
set_option maxRecDepth 100000 in
set_option maxHeartbeats 4000000 in
theorem c26_none (st da dy : Int) (s : Sp) (w : World) (h : ¬ (s.lo < 0 ∨ s.hi < s.lo)) (hr : readingB st da dy = false) : Calls Tryz.prog 26 #[.int .i64 st, .int .i64 da, .int .i64 dy, spv s] w fun e w' => e = .returned (gotv zcard 5) ∧ Below w.heap.size w w' := by
  obtain ⟨lo, hi⟩ := s
  simp only at h
  have h0 : ¬ lo < 0 := by omega
  have h1 : ¬ hi < lo := by omega
  have HR := Lib.hid hr
  clear h hr
  unfold spv gotv zcard
  go_enter Tryz.func26, Tryz.ntmps26
  go_wp2_with (go_at_call 78; refine (c78 _ _ _ _).mono ?_; rintro e w' ⟨rfl, rfl⟩; rw [HR.out])
  exact bodyPost_ret (v := gotv zcard 5) (by simp [results, Tryz.results26, go_sem, gotv, zcard]) rfl ⟨rfl, by repeat (first | exact xr _ | apply xa)⟩
theorem kCard_valid (st da dy : Int) (k : Nat) (hr : readingB st da dy = true) : isCard (kCard st da dy k) = true := by
  unfold kCard kindAt
  simp only [readingB, Bool.and_eq_true] at hr
  simp only [isCard, hr]
  split
  · rfl
  · split <;> rfl
theorem kind_cases (k : Nat) : kindAt k = 2 ∨ kindAt k = 3 ∨ kindAt k = 4 := by
  unfold kindAt
  split
  · exact .inr (.inl rfl)
  · split
    · exact .inl rfl
    · exact .inr (.inr rfl)
set_option maxRecDepth 100000 in
set_option maxHeartbeats 8000000 in
theorem c26_main (st da dy : Int) (s : Sp) (w : World) (h : ¬ (s.lo < 0 ∨ s.hi < s.lo)) (hr : readingB st da dy = true) (hs : s.hi ≤ 9223372036854775807) : Calls Tryz.prog 26 #[.int .i64 st, .int .i64 da, .int .i64 dy, spv s] w fun e w' => e = .returned (gotv (writeR st da dy s).1 (writeR st da dy s).2) ∧ Below w.heap.size w w' := by
  obtain ⟨x, hx⟩ : ∃ x, writeR st da dy s = x := ⟨_, rfl⟩
  rw [hx]
  have HX := Lib.hid hx
  clear hx
  obtain ⟨lo, hi⟩ := s
  simp only at h hs
  have h0 : ¬ lo < 0 := by omega
  have h1 : ¬ hi < lo := by omega
  have HR := Lib.hid hr
  clear h hr
  unfold spv
  simp only
  go_enter Tryz.func26, Tryz.ntmps26
  go_wp2_with (go_at_call 78; refine (c78 _ _ _ _).mono ?_; rintro e w' ⟨rfl, rfl⟩; rw [HR.out])
  obtain ⟨W0, hW0⟩ : ∃ W0, (((w.alloc (.cells #[.int .i64 lo, .int .i64 hi] 33)).alloc (.cells #[.int .i64 0, .int .i64 0, .int .i64 0, .int .i64 0, .int .i64 0, .int .i64 0, .int .i64 0] 29)).alloc (.cells #[.int .i64 3, .int .i64 2, .int .i64 4] 3)) = W0 := ⟨_, rfl⟩
  obtain ⟨B, hB⟩ : ∃ B, w.heap.size = B := ⟨_, rfl⟩
  have hB0 : Below w.heap.size w W0 := by rw [← hW0]; exact xa (xa (xa (xr _) _) _) _
  have hsz : W0.heap.size = B + 3 := by rw [← hW0]; simp; omega
  have hbox : W0.heap[B]? = some (spanOf ⟨lo, hi⟩) := by rw [← hW0, Below.heap_alloc _ _ B (by simp; omega), Below.heap_alloc _ _ B (by simp; omega)]; exact new_block _ _ _ hB
  have hres : W0.heap[B + 1]? = some (gotOf zcard 0) := by rw [← hW0, Below.heap_alloc _ _ (B + 1) (by simp; omega)]; exact new_block _ _ _ (by simp; omega)
  have hkin : W0.heap[B + 1 + 1]? = some (.cells #[.int .i64 3, .int .i64 2, .int .i64 4] 3 (0, 0)) := by rw [← hW0]; exact new_block _ _ _ (by simp; omega)
  have hBw : w.heap.size ≤ B := Nat.le_of_eq hB
  rw [hW0, hB]
  have hK : ∀ X, Below W0.heap.size W0 X → X.heap[B]? = some (spanOf ⟨lo, hi⟩) ∧ X.heap[B + 1]? = some (gotOf zcard 0) ∧ ∀ k, k < 3 → X.cell? ⟨B + 1 + 1, k, none⟩ = some (.int .i64 (kindAt k)) := fun X hX => by
    refine ⟨(hX.block _ (by omega)).trans hbox, (hX.block _ (by omega)).trans hres, fun k hk => ?_⟩
    rw [cell_of_row X (B + 1 + 1) k _ 3 (0, 0) ((hX.block _ (by omega)).trans hkin)]
    match k with
    | 0 => rfl
    | 1 => rfl
    | 2 => rfl
    | k + 3 => omega
  have HK := Lib.hid hK
  clear hW0 hbox hres hkin hK hB
  go_loopw [10] (fun i wr => ∃ k : Nat, k ≤ 3 ∧ i = .int .i64 k ∧ Hid (∀ j, j < k → fitsB (kCard st da dy j) ⟨lo, hi⟩ = false) ∧ Below W0.heap.size W0 wr) (fun i _ => 3 - (intOf i).toNat)
  case atStart => exact ⟨0, by omega, rfl, Lib.hid fun j hj => by omega, xr _⟩
  case round =>
    obtain ⟨k, hk, rfl, hno, hbr⟩ := hrel
    have hX : ∀ X, Below wr.heap.size wr X → Below W0.heap.size W0 X := fun X hX => hbr.trans (hX.mono hbr.size)
    have HXX := Lib.hid hX
    clear hX
    by_cases hlt : k < 3
    · have hcell := (HK.out wr hbr).2.2 k hlt
      have HF : Hid (kCard st da dy k = ⟨st, da, dy, kindAt k, 0, 0⟩) := Lib.hid rfl
      have hkc := kind_cases k
      generalize kindAt k = kk at *
      have H55 : ∀ X, Hid (Calls Tryz.prog 55 #[.agg #[.int .i64 st, .int .i64 da, .int .i64 dy, .int .i64 kk, .int .i64 0, .int .i64 0]] X fun e w' => e = .returned (spv (says ⟨st, da, dy, kk, 0, 0⟩)) ∧ Below X.heap.size X w') := fun X => Lib.hid (c55 st da dy kk 0 0 X (by omega))
      have hfit : fitsB (kCard st da dy k) ⟨lo, hi⟩ = decide (says ⟨st, da, dy, kk, 0, 0⟩ = (⟨lo, hi⟩ : Sp)) := by rw [fitsB, kCard_valid st da dy k HR.out, Bool.true_and, HF.out]
      clear hkc
      generalize says ⟨st, da, dy, kk, 0, 0⟩ = g at *
      obtain ⟨lo2, hi2⟩ := g
      have HFit := Lib.hid hfit
      clear hfit
      simp only [spv] at H55
      have hkl : B + 1 + 1 < wr.heap.size := by have := hbr.size; omega
      go_wp2_with fail
      obtain ⟨V, hV⟩ : ∃ V, wr.alloc (.cells #[.int .i64 st, .int .i64 da, .int .i64 dy, .int .i64 kk, .int .i64 0, .int .i64 0] 24) = V := ⟨_, rfl⟩
      obtain ⟨bc, hbc⟩ : ∃ bc, wr.heap.size = bc := ⟨_, rfl⟩
      have hVb : Below wr.heap.size wr V := by rw [← hV]; exact below_alloc _ _
      have hblk : V.heap[bc]? = some (cellsOf ⟨st, da, dy, kk, 0, 0⟩) := by rw [← hV]; exact new_block _ _ _ hbc
      obtain ⟨t0, t1, t2, t3, t4, t5, tF, tL⟩ := cellsOf_at hblk
      obtain ⟨s0, s1, sL⟩ := span_at (HK.out V (HXX.out V hVb)).1
      rw [hV, hbc]
      have HBLK := Lib.hid hblk
      clear hV hblk
      refine wp_region_gwn V (by kernel_rfl) (by kernel_rfl) (xr V) ?_
      repeat (go_big_quiet_step ((go_at_call 55; exact gw_call ((H55 _).out))))
      refine wpQuiet_step (fun K hK => ?_)
      go_simp
      have hfe : fitsB (kCard st da dy k) ⟨lo, hi⟩ = (decide (lo2 = lo) && decide (hi2 = hi)) := by rw [HFit.out]; by_cases e1 : lo2 = lo <;> by_cases e2 : hi2 = hi <;> simp [e1, e2]
      cases hf : fitsB (kCard st da dy k) ⟨lo, hi⟩ with
      | true =>
        have HT := Lib.hid hf
        have hd : (decide (lo2 = lo) && decide (hi2 = hi)) = true := by rw [← hfe, hf]
        refine ⟨.bool true, fun a => by rw [← hd]; by_cases e1 : lo2 = lo <;> by_cases e2 : hi2 = hi <;> simp [e1, e2], hK _ ?_⟩
        clear hf hfe hd
        clear hK K
        repeat (go_big_quiet_step (fail))
        refine wpQuiet_nil ?_
        rintro _ ⟨x1, rfl⟩
        have hX1 : Below wr.heap.size wr (gw V x1) := hVb.trans ((gw_below V x1).mono hVb.size)
        obtain ⟨-, hr2, -⟩ := HK.out _ (HXX.out _ hX1)
        have hb2 : (gw V x1).heap[bc]? = some (cellsOf ⟨st, da, dy, kk, 0, 0⟩) := ((gw_below V x1).block bc tL).trans HBLK.out
        obtain ⟨X, hXe⟩ : ∃ X, gw V x1 = X := ⟨_, rfl⟩
        rw [hXe] at hX1 hr2 hb2 ⊢
        clear hXe tL t0 t1 t2 t3 t4 t5 tF HBLK s0 s1 sL hVb V x1
        obtain ⟨t0, t1, t2, t3, t4, t5, tF, tL⟩ := cellsOf_at hb2
        obtain ⟨u0, u1, u2, u3, u4, u5, u6, uF, uL⟩ := gotOf_at hr2
        have HR2 := Lib.hid hr2
        clear hr2 hb2
        go_wp2_with fail
        obtain ⟨Y, hY, hYb, hYg⟩ := store7 HR2.out st da dy kk 0 0 0
        rw [hY]
        have hg := hYg w (hB0.trans ((HXX.out _ hX1).mono hB0.size)) (by omega)
        obtain ⟨y0, y1, y2, y3, y4, y5, y6, yF, yL⟩ := gotOf_at hYb
        have hfin : x = (⟨st, da, dy, kk, 0, 0⟩, 0) := by
          rw [← HX.out, writeR, if_neg (by simp only; omega), find_range _ k 3 hno.out HT.out hlt, ← HF.out]
        clear hY hYb hYg
        rw [hfin]
        exact bodyPost_ret (v := gotv ⟨st, da, dy, kk, 0, 0⟩ 0) (by simp [results, Tryz.results26, go_sem, gotv, y0, y1, y2, y3, y4, y5, y6]) rfl ⟨rfl, hg⟩
      | false =>
        have HT := Lib.hid hf
        have hd : (decide (lo2 = lo) && decide (hi2 = hi)) = false := by rw [← hfe, hf]
        refine ⟨.bool false, fun a => by rw [← hd]; by_cases e1 : lo2 = lo <;> by_cases e2 : hi2 = hi <;> simp [e1, e2], hK _ ?_⟩
        clear hf hfe hd
        clear hK K
        repeat (go_big_quiet_step (fail))
        refine wpQuiet_nil ?_
        rintro _ ⟨x1, rfl⟩
        have hX1 : Below wr.heap.size wr (gw V x1) := hVb.trans ((gw_below V x1).mono hVb.size)
        obtain ⟨-, hr2, -⟩ := HK.out _ (HXX.out _ hX1)
        have hb2 : (gw V x1).heap[bc]? = some (cellsOf ⟨st, da, dy, kk, 0, 0⟩) := ((gw_below V x1).block bc tL).trans HBLK.out
        obtain ⟨X, hXe⟩ : ∃ X, gw V x1 = X := ⟨_, rfl⟩
        rw [hXe] at hX1 hr2 hb2 ⊢
        clear hXe hr2 hb2 tL t0 t1 t2 t3 t4 t5 tF HBLK s0 s1 sL hVb V x1
        have HX1 := Lib.hid hX1
        clear hX1
        go_wp2_with fail
        go_roundw
        case rel =>
          have hno2 : ∀ j, j < k + 1 → fitsB (kCard st da dy j) ⟨lo, hi⟩ = false := fun j hj => by
            by_cases e : j = k
            · subst e; exact HT.out
            · exact hno.out j (by omega)
          have hb3 := HXX.out X HX1.out
          first | exact ⟨k + 1, by omega, by go_num, Lib.hid hno2, hb3⟩ | ((repeat apply Exists.intro); exact ⟨⟨k + 1, by omega, by go_num, Lib.hid hno2, hb3⟩, rfl⟩)
        case measure => simp [intOf]; omega
    · obtain rfl : k = 3 := by omega
      have HN := Lib.hid (find_none (fun i => fitsB (kCard st da dy i) ⟨lo, hi⟩) 3 (fun j hj => hno.out j hj))
      clear hno HXX
      go_wp2
      have HWO := Lib.hid hbr
      clear hbr
      obtain ⟨wo, rfl⟩ : ∃ wo : World, wo = wr := ⟨_, rfl⟩
      go_loopw [12] (fun f wr => ∃ k : Nat, k ≤ 100 ∧ f = .int .i64 ((k : Int) + 1) ∧ Hid (∀ j, j < k → fitsB (fCard st da dy ⟨lo, hi⟩ j) ⟨lo, hi⟩ = false) ∧ Below W0.heap.size W0 wr) (fun f _ => 101 - (intOf f).toNat)
      case atStart => exact ⟨0, by omega, rfl, Lib.hid fun j hj => by omega, HWO.out⟩
      case round =>
        obtain ⟨k, hk, rfl, hno, hbr⟩ := hrel
        clear HWO
        have hX : ∀ X, Below wr.heap.size wr X → Below W0.heap.size W0 X := fun X hX => hbr.trans (hX.mono hbr.size)
        have HXX := Lib.hid hX
        clear hX
        have hz : B < wr.heap.size := by have := hbr.size; omega
        obtain ⟨s0, s1, sL⟩ := span_at (HK.out wr hbr).1
        by_cases hlt : k < 100
        · have HF : Hid (fCard st da dy ⟨lo, hi⟩ k = ⟨st, da, dy, 1, hi - ((k : Int) + 1) / 2, (k : Int) + 1⟩) := Lib.hid rfl
          cases hI : isCard ⟨st, da, dy, 1, hi - ((k : Int) + 1) / 2, (k : Int) + 1⟩ with
          | false =>
            have HI := Lib.hid hI
            have HT : Hid (fitsB (fCard st da dy ⟨lo, hi⟩ k) ⟨lo, hi⟩ = false) := Lib.hid (by rw [HF.out, fitsB, hI, Bool.false_and])
            clear hI
            go_wp2_with fail
            obtain ⟨V, hV⟩ : ∃ V, wr.alloc (.cells #[.int .i64 st, .int .i64 da, .int .i64 dy, .int .i64 1, .int .i64 (hi - ((k : Int) + 1) / 2), .int .i64 ((k : Int) + 1)] 24) = V := ⟨_, rfl⟩
            obtain ⟨bc, hbc⟩ : ∃ bc, wr.heap.size = bc := ⟨_, rfl⟩
            have hVb : Below wr.heap.size wr V := by rw [← hV]; exact below_alloc _ _
            have hblk : V.heap[bc]? = some (cellsOf ⟨st, da, dy, 1, hi - ((k : Int) + 1) / 2, (k : Int) + 1⟩) := by rw [← hV]; exact new_block _ _ _ hbc
            obtain ⟨t0, t1, t2, t3, t4, t5, tF, tL⟩ := cellsOf_at hblk
            obtain ⟨s0, s1, sL⟩ := span_at (HK.out V (HXX.out V hVb)).1
            rw [hV, hbc]
            have HBLK := Lib.hid hblk
            clear hV hblk
            refine wp_region_gwn V (by kernel_rfl) (by kernel_rfl) (xr V) ?_
            repeat (go_big_quiet_step ((go_at_call 37; exact gw_call ((c37 st da dy 1 (hi - ((k : Int) + 1) / 2) ((k : Int) + 1) _).mono fun e w' h1 => (⟨by rw [h1.1, HI.out], h1.2⟩ : e = .returned (.bool false) ∧ _)))))
            refine wpQuiet_nil ?_
            rintro _ ⟨x1, rfl⟩
            have hX1 : Below wr.heap.size wr (gw V x1) := hVb.trans ((gw_below V x1).mono hVb.size)
            obtain ⟨-, hr2, -⟩ := HK.out _ (HXX.out _ hX1)
            have hb2 : (gw V x1).heap[bc]? = some (cellsOf ⟨st, da, dy, 1, hi - ((k : Int) + 1) / 2, (k : Int) + 1⟩) := ((gw_below V x1).block bc tL).trans HBLK.out
            obtain ⟨X, hXe⟩ : ∃ X, gw V x1 = X := ⟨_, rfl⟩
            rw [hXe] at hX1 hr2 hb2 ⊢
            clear hXe hr2 hb2 tL t0 t1 t2 t3 t4 t5 tF HBLK s0 s1 sL hVb V x1
            have HX1 := Lib.hid hX1
            clear hX1
            go_wp2_with fail
            go_roundw
            case rel =>
              have hno2 : ∀ j, j < k + 1 → fitsB (fCard st da dy ⟨lo, hi⟩ j) ⟨lo, hi⟩ = false := fun j hj => by
                by_cases e : j = k
                · subst e; exact HT.out
                · exact hno.out j (by omega)
              have hb3 := HXX.out X HX1.out
              first | exact ⟨k + 1, by omega, by go_num, Lib.hid hno2, hb3⟩ | ((repeat apply Exists.intro); exact ⟨⟨k + 1, by omega, by go_num, Lib.hid hno2, hb3⟩, rfl⟩)
            case measure => simp [intOf]; omega
          | true =>
            have HI := Lib.hid hI
            have H55 : ∀ X, Hid (Calls Tryz.prog 55 #[.agg #[.int .i64 st, .int .i64 da, .int .i64 dy, .int .i64 1, .int .i64 (hi - ((k : Int) + 1) / 2), .int .i64 ((k : Int) + 1)]] X fun e w' => e = .returned (spv (says ⟨st, da, dy, 1, hi - ((k : Int) + 1) / 2, (k : Int) + 1⟩)) ∧ Below X.heap.size X w') := fun X => Lib.hid (c55_valid ⟨st, da, dy, 1, hi - ((k : Int) + 1) / 2, (k : Int) + 1⟩ X hI)
            have hfit : fitsB (fCard st da dy ⟨lo, hi⟩ k) ⟨lo, hi⟩ = decide (says ⟨st, da, dy, 1, hi - ((k : Int) + 1) / 2, (k : Int) + 1⟩ = (⟨lo, hi⟩ : Sp)) := by rw [HF.out, fitsB, hI, Bool.true_and]
            clear hI
            generalize says ⟨st, da, dy, 1, hi - ((k : Int) + 1) / 2, (k : Int) + 1⟩ = g at *
            obtain ⟨lo2, hi2⟩ := g
            have HFit := Lib.hid hfit
            clear hfit
            simp only [spv] at H55
            go_wp2_with fail
            obtain ⟨V, hV⟩ : ∃ V, wr.alloc (.cells #[.int .i64 st, .int .i64 da, .int .i64 dy, .int .i64 1, .int .i64 (hi - ((k : Int) + 1) / 2), .int .i64 ((k : Int) + 1)] 24) = V := ⟨_, rfl⟩
            obtain ⟨bc, hbc⟩ : ∃ bc, wr.heap.size = bc := ⟨_, rfl⟩
            have hVb : Below wr.heap.size wr V := by rw [← hV]; exact below_alloc _ _
            have hblk : V.heap[bc]? = some (cellsOf ⟨st, da, dy, 1, hi - ((k : Int) + 1) / 2, (k : Int) + 1⟩) := by rw [← hV]; exact new_block _ _ _ hbc
            obtain ⟨t0, t1, t2, t3, t4, t5, tF, tL⟩ := cellsOf_at hblk
            obtain ⟨s0, s1, sL⟩ := span_at (HK.out V (HXX.out V hVb)).1
            rw [hV, hbc]
            have HBLK := Lib.hid hblk
            clear hV hblk
            refine wp_region_gwn V (by kernel_rfl) (by kernel_rfl) (xr V) ?_
            repeat (go_big_quiet_step ((first | (go_at_call 37; exact gw_call ((c37 st da dy 1 (hi - ((k : Int) + 1) / 2) ((k : Int) + 1) _).mono fun e w' h1 => (⟨by rw [h1.1, HI.out], h1.2⟩ : e = .returned (.bool true) ∧ _))) | (go_at_call 55; exact gw_call ((H55 _).out)))))
            refine wpQuiet_step (fun K hK => ?_)
            go_simp
            have hfe : fitsB (fCard st da dy ⟨lo, hi⟩ k) ⟨lo, hi⟩ = (decide (lo2 = lo) && decide (hi2 = hi)) := by rw [HFit.out]; by_cases e1 : lo2 = lo <;> by_cases e2 : hi2 = hi <;> simp [e1, e2]
            cases hf : fitsB (fCard st da dy ⟨lo, hi⟩ k) ⟨lo, hi⟩ with
            | true =>
              have HT := Lib.hid hf
              have hd : (decide (lo2 = lo) && decide (hi2 = hi)) = true := by rw [← hfe, hf]
              refine ⟨.bool true, fun a => by rw [← hd]; by_cases e1 : lo2 = lo <;> by_cases e2 : hi2 = hi <;> simp [e1, e2], hK _ ?_⟩
              clear hf hfe hd
              clear hK K
              repeat (go_big_quiet_step (fail))
              refine wpQuiet_nil ?_
              rintro _ ⟨x1, rfl⟩
              have hX1 : Below wr.heap.size wr (gw V x1) := hVb.trans ((gw_below V x1).mono hVb.size)
              obtain ⟨-, hr2, -⟩ := HK.out _ (HXX.out _ hX1)
              have hb2 : (gw V x1).heap[bc]? = some (cellsOf ⟨st, da, dy, 1, hi - ((k : Int) + 1) / 2, (k : Int) + 1⟩) := ((gw_below V x1).block bc tL).trans HBLK.out
              obtain ⟨X, hXe⟩ : ∃ X, gw V x1 = X := ⟨_, rfl⟩
              rw [hXe] at hX1 hr2 hb2 ⊢
              clear hXe tL t0 t1 t2 t3 t4 t5 tF HBLK s0 s1 sL hVb V x1
              obtain ⟨t0, t1, t2, t3, t4, t5, tF, tL⟩ := cellsOf_at hb2
              obtain ⟨u0, u1, u2, u3, u4, u5, u6, uF, uL⟩ := gotOf_at hr2
              have HR2 := Lib.hid hr2
              clear hr2 hb2
              go_wp2_with fail
              obtain ⟨Y, hY, hYb, hYg⟩ := store7 HR2.out st da dy 1 (hi - ((k : Int) + 1) / 2) ((k : Int) + 1) 0
              rw [hY]
              have hg := hYg w (hB0.trans ((HXX.out _ hX1).mono hB0.size)) (by omega)
              obtain ⟨y0, y1, y2, y3, y4, y5, y6, yF, yL⟩ := gotOf_at hYb
              have hfin : x = (⟨st, da, dy, 1, hi - ((k : Int) + 1) / 2, (k : Int) + 1⟩, 0) := by
                rw [← HX.out, writeR, if_neg (by simp only; omega), HN.out]
                simp only
                rw [find_range _ k 100 hno.out HT.out hlt, ← HF.out]
              clear hY hYb hYg
              rw [hfin]
              exact bodyPost_ret (v := gotv ⟨st, da, dy, 1, hi - ((k : Int) + 1) / 2, (k : Int) + 1⟩ 0) (by simp [results, Tryz.results26, go_sem, gotv, y0, y1, y2, y3, y4, y5, y6]) rfl ⟨rfl, hg⟩
            | false =>
              have HT := Lib.hid hf
              have hd : (decide (lo2 = lo) && decide (hi2 = hi)) = false := by rw [← hfe, hf]
              refine ⟨.bool false, fun a => by rw [← hd]; by_cases e1 : lo2 = lo <;> by_cases e2 : hi2 = hi <;> simp [e1, e2], hK _ ?_⟩
              clear hf hfe hd
              clear hK K
              repeat (go_big_quiet_step (fail))
              refine wpQuiet_nil ?_
              rintro _ ⟨x1, rfl⟩
              have hX1 : Below wr.heap.size wr (gw V x1) := hVb.trans ((gw_below V x1).mono hVb.size)
              obtain ⟨-, hr2, -⟩ := HK.out _ (HXX.out _ hX1)
              have hb2 : (gw V x1).heap[bc]? = some (cellsOf ⟨st, da, dy, 1, hi - ((k : Int) + 1) / 2, (k : Int) + 1⟩) := ((gw_below V x1).block bc tL).trans HBLK.out
              obtain ⟨X, hXe⟩ : ∃ X, gw V x1 = X := ⟨_, rfl⟩
              rw [hXe] at hX1 hr2 hb2 ⊢
              clear hXe hr2 hb2 tL t0 t1 t2 t3 t4 t5 tF HBLK s0 s1 sL hVb V x1
              have HX1 := Lib.hid hX1
              clear hX1
              go_wp2_with fail
              go_roundw
              case rel =>
                have hno2 : ∀ j, j < k + 1 → fitsB (fCard st da dy ⟨lo, hi⟩ j) ⟨lo, hi⟩ = false := fun j hj => by
                  by_cases e : j = k
                  · subst e; exact HT.out
                  · exact hno.out j (by omega)
                have hb3 := HXX.out X HX1.out
                first | exact ⟨k + 1, by omega, by go_num, Lib.hid hno2, hb3⟩ | ((repeat apply Exists.intro); exact ⟨⟨k + 1, by omega, by go_num, Lib.hid hno2, hb3⟩, rfl⟩)
              case measure => simp [intOf]; omega
        · obtain rfl : k = 100 := by omega
          have HM := Lib.hid (find_none (fun i => fitsB (fCard st da dy ⟨lo, hi⟩ i) ⟨lo, hi⟩) 100 (fun j hj => hno.out j hj))
          obtain ⟨-, hr, -⟩ := HK.out wr hbr
          obtain ⟨u0, u1, u2, u3, u4, u5, u6, uF, uL⟩ := gotOf_at hr
          have HR2 := Lib.hid hr
          clear hr
          go_wp2
          obtain ⟨Y, hY, hYb, hYg⟩ := store7 HR2.out 0 0 0 0 0 0 5
          rw [hY]
          have hg := hYg w (hB0.trans (hbr.mono hB0.size)) (by omega)
          obtain ⟨y0, y1, y2, y3, y4, y5, y6, yF, yL⟩ := gotOf_at hYb
          have hfin : x = (zcard, 5) := by
            rw [← HX.out, writeR, if_neg (by simp only; omega), HN.out]
            simp only
            rw [HM.out]
          clear hY hYb hYg
          rw [hfin]
          exact bodyPost_ret (v := gotv zcard 5) (by simp [results, Tryz.results26, go_sem, gotv, zcard, y0, y1, y2, y3, y4, y5, y6]) rfl ⟨rfl, hg⟩
end Go.Proofs.YthifeoebefbalaaGreatDoor

namespace Go.Proofs.YthifeoebefbalaaGreatDoor
open Go.RowKit

theorem isCard_reading (c : Card) (h : readingB c.st c.da c.dy = false) : isCard c = false := by
  simp only [readingB] at h
  simp only [isCard, h, Bool.false_and]
theorem writeR_none (st da dy : Int) (s : Sp) (h : ¬ (s.lo < 0 ∨ s.hi < s.lo)) (hr : readingB st da dy = false) : writeR st da dy s = (zcard, 5) := by
  have e1 := find_none (fun i => fitsB (kCard st da dy i) s) 3 (fun j _ => by rw [fitsB, isCard_reading _ hr, Bool.false_and])
  have e2 := find_none (fun i => fitsB (fCard st da dy s i) s) 100 (fun j _ => by rw [fitsB, isCard_reading _ hr, Bool.false_and])
  rw [writeR, if_neg h, e1]
  simp only
  rw [e2]
theorem writeR_arg (st da dy : Int) (s : Sp) (h : s.lo < 0 ∨ s.hi < s.lo) : writeR st da dy s = (zcard, 1) := by rw [writeR, if_pos h]
theorem c25_any (st da dy lo hi : Int) (w : World) (hs : hi ≤ 9223372036854775807) : Calls Tryz.prog 25 #[.int .i64 st, .int .i64 da, .int .i64 dy, .agg #[.int .i64 lo, .int .i64 hi]] w fun e w' => e = .returned (.tuple #[cv (writeR st da dy ⟨lo, hi⟩).1, .int .i64 (writeR st da dy ⟨lo, hi⟩).2]) ∧ Below w.heap.size w w' := by
  by_cases h : lo < 0 ∨ hi < lo
  · rw [writeR_arg st da dy ⟨lo, hi⟩ h]; exact c25_arg st da dy ⟨lo, hi⟩ w h
  · exact c25 st da dy ⟨lo, hi⟩ w h hs
theorem c26_any (st da dy lo hi : Int) (w : World) (hs : hi ≤ 9223372036854775807) : Calls Tryz.prog 26 #[.int .i64 st, .int .i64 da, .int .i64 dy, .agg #[.int .i64 lo, .int .i64 hi]] w fun e w' => e = .returned (gotv (writeR st da dy ⟨lo, hi⟩).1 (writeR st da dy ⟨lo, hi⟩).2) ∧ Below w.heap.size w w' := by
  by_cases h : lo < 0 ∨ hi < lo
  · rw [writeR_arg st da dy ⟨lo, hi⟩ h]; exact c26_arg st da dy ⟨lo, hi⟩ w h
  · cases hr : readingB st da dy with
    | false => rw [writeR_none st da dy ⟨lo, hi⟩ h hr]; exact c26_none st da dy ⟨lo, hi⟩ w h hr
    | true => exact c26_main st da dy ⟨lo, hi⟩ w h hr hs
/-- A pair's variable, just made. -/
theorem new_got {w W : World} {c : Card} {e : Int} (h : Below (w.alloc (.cells #[.int .i64 c.st, .int .i64 c.da, .int .i64 c.dy, .int .i64 c.ki, .int .i64 c.am, .int .i64 c.fi, .int .i64 e] 29)).heap.size (w.alloc (.cells #[.int .i64 c.st, .int .i64 c.da, .int .i64 c.dy, .int .i64 c.ki, .int .i64 c.am, .int .i64 c.fi, .int .i64 e] 29)) W) :
    W.heap[w.heap.size]? = some (gotOf c e) := (h.block _ (by simp)).trans (World.alloc_heap_new w _)

set_option maxRecDepth 100000 in
set_option maxHeartbeats 4000000 in
theorem c4 (st da dy lo hi : Int) (w : World) (hs : hi ≤ 9223372036854775807) (hE : Env w) (hC : Cell0 w) : Calls Tryz.prog 4 #[.int .i64 st, .int .i64 da, .int .i64 dy, .agg #[.int .i64 lo, .int .i64 hi]] w fun e w' => e = .returned (.bool true) ∧ Below w.heap.size w w' := by
  have H25 := fun W => Lib.hid (c25_any st da dy lo hi W hs)
  have H26 := fun W => Lib.hid (c26_any st da dy lo hi W hs)
  have HE := Lib.hid hE
  have HC := Lib.hid hC
  clear hE hC hs
  generalize writeR st da dy ⟨lo, hi⟩ = x at *
  obtain ⟨⟨a, b, c, d, f, g⟩, u⟩ := x
  unfold cv at H25
  unfold gotv at H26
  simp only at H25 H26
  have hbl : Below w.heap.size w (w.alloc (.cells #[.int .i64 lo, .int .i64 hi] 33)) := below_alloc _ _
  go_enter Tryz.func4, Tryz.ntmps4
  go_wp2_with fail
  refine (H25 _).out.mono ?_
  rintro e X1 ⟨rfl, hb1⟩
  have k0 : X1.heap[w.heap.size]? = some (spanOf ⟨lo, hi⟩) := (hb1.block _ (by simp)).trans (World.alloc_heap_new w _)
  obtain ⟨s0, s1, sL⟩ := span_at k0
  have hB1 : Below w.heap.size w X1 := hbl.trans (hb1.mono (by simp))
  clear k0 hb1 hbl H25
  go_wp2_with fail
  refine (H26 _).out.mono ?_
  rintro e X2 ⟨rfl, hb2⟩
  obtain ⟨B1, hB1e⟩ : ∃ B1, X1.heap.size = B1 := ⟨_, rfl⟩
  have k1 := new_card (c := ⟨a, b, c, d, f, g⟩) hb2
  have hB2 : Below w.heap.size w X2 := hB1.trans (((below_alloc X1 _).trans (hb2.mono (by simp))).mono hB1.size)
  rw [hB1e] at k1
  have hl1 : B1 < X2.heap.size := (Array.getElem?_eq_some_iff.1 k1).1
  have K1 := Lib.hid k1
  clear k1 hb2 s0 s1 sL hB1 H26
  rw [hB1e]
  clear hB1e X1
  go_wp2_with fail
  obtain ⟨B2, hB2e⟩ : ∃ B2, X2.heap.size = B2 := ⟨_, rfl⟩
  obtain ⟨V, hV⟩ : ∃ V, X2.alloc (.cells #[.int .i64 a, .int .i64 b, .int .i64 c, .int .i64 d, .int .i64 f, .int .i64 g, .int .i64 u] 29) = V := ⟨_, rfl⟩
  have k1 : V.heap[B1]? = some (cellsOf ⟨a, b, c, d, f, g⟩) := by rw [← hV, Below.heap_alloc _ _ _ hl1]; exact K1.out
  have k2 : V.heap[B2]? = some (gotOf ⟨a, b, c, d, f, g⟩ u) := by rw [← hV]; exact new_block _ _ _ hB2e
  have hB3 : Below w.heap.size w V := by rw [← hV]; exact xa hB2 _
  rw [hV, hB2e]
  clear hV hB2e hB2 K1 hl1 X2
  refine (c22 V (HE.out.below hB3) (HC.out.below hB3 HC.out.lt)).mono ?_
  rintro e X5 ⟨rfl, hb5⟩
  obtain ⟨t0, t1, t2, t3, t4, t5, tF, tL⟩ := cellsOf_at ((hb5.block _ (Array.getElem?_eq_some_iff.1 k1).1).trans k1)
  obtain ⟨u0, u1, u2, u3, u4, u5, u6, uF, uL⟩ := gotOf_at ((hb5.block _ (Array.getElem?_eq_some_iff.1 k2).1).trans k2)
  clear k1 k2
  go_wp2_with fail
  go_ret
  exact ⟨rfl, hB3.trans (hb5.mono hB3.size)⟩
theorem w4 (st da dy lo hi : Int) (w : World) (_ : intIn st) (_ : intIn da) (_ : intIn dy) (_ : intIn lo) (h : intIn hi) (hE : Env w) (hC : Cell0 w) : Calls Tryz.prog 4 #[.int .i64 st, .int .i64 da, .int .i64 dy, .agg #[.int .i64 lo, .int .i64 hi]] w fun e w' => e = .returned (.bool true) ∧ Below w.heap.size w w' := c4 st da dy lo hi w h.2 hE hC
end Go.Proofs.YthifeoebefbalaaGreatDoor
