/- The law CardBack: its walk. -/
import Derived.Test.YthifeoebefbalaaGreatDoorV15
import Derived.Test.YthifeoebefbalaaGreatDoorZ16
set_option linter.unusedVariables false
set_option linter.unusedSimpArgs false
namespace Go.Proofs.YthifeoebefbalaaGreatDoor
open Go.RowKit

theorem flat_at (l : List Card) (i : Nat) (c : Card) (h : l[i]? = some c) : (flatC l)[i * 6]? = some (.int .i64 c.st) ∧ (flatC l)[i * 6 + 1]? = some (.int .i64 c.da) ∧ (flatC l)[i * 6 + 2]? = some (.int .i64 c.dy) ∧ (flatC l)[i * 6 + 3]? = some (.int .i64 c.ki) ∧ (flatC l)[i * 6 + 4]? = some (.int .i64 c.am) ∧ (flatC l)[i * 6 + 5]? = some (.int .i64 c.fi) := by
  induction l generalizing i with
  | nil => simp at h
  | cons d l ih =>
    cases i with
    | zero => simp at h; subst h; exact ⟨rfl, rfl, rfl, rfl, rfl, rfl⟩
    | succ i =>
      have h' : l[i]? = some c := by simpa using h
      have e : ∀ k, (flatC (d :: l))[(i + 1) * 6 + k]? = (flatC l)[i * 6 + k]? := fun k => by
        rw [flatC, List.flatMap_cons, List.getElem?_append_right (by simp [cardCells]; omega)]
        congr 1
        simp [cardCells]
        omega
      obtain ⟨a0, a1, a2, a3, a4, a5⟩ := ih i h'
      exact ⟨(e 0).trans a0, (e 1).trans a1, (e 2).trans a2, (e 3).trans a3, (e 4).trans a4, (e 5).trans a5⟩
/-- A list of cards that the call made: its row. -/
theorem own_cards {w : World} {B : Nat} {v : Value} {l : List Card} (h : w.ownsRow B 24 6 v l.length (flatC l)) : ∃ a cap, v = .slice a l.length cap ∧ (l ≠ [] → ∃ g, a = some ⟨g, 0, none⟩ ∧ CardsAt w g 0 l) := by
  have h0 := h
  obtain ⟨hl, hc⟩ := h
  rcases hc with ⟨rfl, h1⟩ | ⟨g, cap, cur, rfl, -⟩
  · exact ⟨none, 0, by rw [h1], fun hne => absurd (List.length_eq_zero_iff.1 h1) hne⟩
  · refine ⟨_, cap, rfl, fun _ => ⟨g, rfl, fun i c hi => ?_⟩⟩
    have hlt := (List.getElem?_eq_some_iff.1 hi).1
    obtain ⟨a0, a1, a2, a3, a4, a5⟩ := flat_at l i c hi
    have k : ∀ j, j < 6 → w.cell? ⟨g, 0 + i * 6 + j, none⟩ = (flatC l)[i * 6 + j]? := fun j hj => by
      rw [Nat.zero_add]
      exact h0.cellAt _ (by omega)
    exact ⟨(k 0 (by decide)).trans a0, (k 1 (by decide)).trans a1, (k 2 (by decide)).trans a2, (k 3 (by decide)).trans a3, (k 4 (by decide)).trans a4, (k 5 (by decide)).trans a5⟩
theorem c12_out (c1 c2 c3 c4 c5 c6 : Int) (a : Option Addr) (n cap : Nat) (text : List UInt8) (w : World) (h : 60 < n ∨ 250 < text.length) (hE : Env w) (hC : Cell0 w) : Calls Tryz.prog 12 #[.agg #[.int .i64 c1, .int .i64 c2, .int .i64 c3, .int .i64 c4, .int .i64 c5, .int .i64 c6], .slice a n cap, .string ⟨text.toArray⟩] w fun e w' => e = .returned (.bool true) ∧ Below w.heap.size w w' := by
  have HE := Lib.hid hE
  have HC := Lib.hid hC
  clear hE hC
  by_cases h0 : 60 < n
  · go_enter Tryz.func12, Tryz.ntmps12
    go_wp2_with (go_at_call 22; refine (c22 _ (HE.out.below (below_alloc _ _)) (HC.out.below (below_alloc _ _) HC.out.lt)).mono ?_; rintro e w1 ⟨rfl, hb1⟩)
    go_ret
    exact ⟨rfl, below_trans (below_alloc _ _) hb1⟩
  · have h1 : 250 < text.length := by omega
    go_enter Tryz.func12, Tryz.ntmps12
    go_wp2_with (go_at_call 22; refine (c22 _ (HE.out.below (below_alloc _ _)) (HC.out.below (below_alloc _ _) HC.out.lt)).mono ?_; rintro e w1 ⟨rfl, hb1⟩)
    go_ret
    exact ⟨rfl, below_trans (below_alloc _ _) hb1⟩
set_option maxRecDepth 100000 in
set_option maxHeartbeats 8000000 in
theorem c12_vsg (c1 c2 c3 c4 c5 c6 x1 x2 x3 x4 x5 x6 : Int) (w : World) (l : List Card) (a : Option Addr) (n cap : Nat) (hn : l.length = n) (n60 : n ≤ 60) (hL : l ≠ [] → ∃ b o, a = some ⟨b, o, none⟩ ∧ CardsAt w b o l) (text T S U : List UInt8) (t250 : text.length ≤ 250) (HE : Hid (Env w)) (HC : Hid (Cell0 w)) (HP : ∀ W, Env W → Hid (Calls Tryz.prog 46 #[.agg #[.int .i64 c1, .int .i64 c2, .int .i64 c3, .int .i64 c4, .int .i64 c5, .int .i64 c6]] W fun r w' => r = .returned (.tuple #[.string ⟨T.toArray⟩, .int .i64 0]) ∧ Below W.heap.size W w')) (HR : ∀ W, Cell0 W → Hid (Calls Tryz.prog 27 #[.string ⟨T.toArray⟩, .agg #[.int .i64 c1, .int .i64 c2, .int .i64 c3, .int .i64 c4, .int .i64 c5, .int .i64 c6], .int .i64 0] W fun r w' => r = .returned (.bool true) ∧ Below W.heap.size W w')) (HS : ∀ W, Below w.heap.size w W → Hid (Calls Tryz.prog 40 #[.slice a n cap] W fun r w' => r = .returned (.tuple #[.string ⟨S.toArray⟩, .int .i64 0]) ∧ Below W.heap.size W w')) (HH : ∀ W, Cell0 W → Hid (Calls Tryz.prog 33 #[.string ⟨S.toArray⟩] W fun r w' => ∃ v', r = .returned (.tuple #[v', .int .i64 0, .int .i64 (-1)]) ∧ w'.ownsRow W.heap.size 24 6 v' l.length (flatC l) ∧ Below W.heap.size W w')) (HT : ∀ W, Cell0 W → Hid (Calls Tryz.prog 23 #[.string ⟨text.toArray⟩] W fun r w' => r = .returned (.tuple #[.agg #[.int .i64 x1, .int .i64 x2, .int .i64 x3, .int .i64 x4, .int .i64 x5, .int .i64 x6], .int .i64 0]) ∧ Below W.heap.size W w')) (HQ : ∀ W, Env W → Hid (Calls Tryz.prog 46 #[.agg #[.int .i64 x1, .int .i64 x2, .int .i64 x3, .int .i64 x4, .int .i64 x5, .int .i64 x6]] W fun r w' => r = .returned (.tuple #[.string ⟨U.toArray⟩, .int .i64 0]) ∧ Below W.heap.size W w')) (HC2 : ∀ W, Hid (Calls Tryz.prog 44 #[.agg #[.int .i64 x1, .int .i64 x2, .int .i64 x3, .int .i64 x4, .int .i64 x5, .int .i64 x6]] W fun r w' => r = .returned (.int .i64 0) ∧ Below W.heap.size W w')) (HU : ∀ W, Cell0 W → Hid (Calls Tryz.prog 27 #[.string ⟨U.toArray⟩, .agg #[.int .i64 x1, .int .i64 x2, .int .i64 x3, .int .i64 x4, .int .i64 x5, .int .i64 x6], .int .i64 0] W fun r w' => r = .returned (.bool true) ∧ Below W.heap.size W w')) :
    Calls Tryz.prog 12 #[.agg #[.int .i64 c1, .int .i64 c2, .int .i64 c3, .int .i64 c4, .int .i64 c5, .int .i64 c6], .slice a n cap, .string ⟨text.toArray⟩] w fun e w' => e = .returned (.bool true) ∧ Below w.heap.size w w' := by
  have HL := Lib.hid hL
  have HN := Lib.hid hn
  clear hL hn
  go_enter Tryz.func12, Tryz.ntmps12
  go_wp2_with fail
  refine call_named (fun V => Below w.heap.size w V ∧ Hid (V.heap[w.heap.size]? = some (cellsOf ⟨c1, c2, c3, c4, c5, c6⟩))) ⟨xa (xr _) _, newA _ _ _ rfl⟩ ?_
  rintro X0 ⟨hB, K⟩
  refine ((HP _ (HE.out.below hB)).out).mono ?_
  rintro r X1 ⟨rfl, hb⟩
  replace K := keepB hb K
  replace hB := hB.trans (hb.mono hB.size)
  clear hb
  obtain ⟨t0, t1, t2, t3, t4, t5, tF, tL⟩ := cellsOf_at K.out
  go_wp2_with fail
  refine ((HR _ (HC.out.below hB HC.out.lt)).out).mono ?_
  rintro r X2 ⟨rfl, hb⟩
  clear t0 t1 t2 t3 t4 t5 tF tL
  replace hB := hB.trans (hb.mono hB.size)
  clear hb K
  go_wp2_with fail
  refine ((HS _ hB).out).mono ?_
  rintro r X3 ⟨rfl, hb⟩
  replace hB := hB.trans (hb.mono hB.size)
  clear hb
  go_wp2_with fail
  refine ((HH _ (HC.out.below hB HC.out.lt)).out).mono ?_
  rintro r X4 ⟨v', rfl, hown, hb⟩
  replace hB := hB.trans (hb.mono hB.size)
  clear hb
  obtain ⟨a2, cap2, rfl, hL2⟩ := own_cards hown
  rw [HN.out]
  have HL2 := Lib.hid hL2
  clear hL2 hown
  go_wp2_with fail
  go_loopw [14] (fun i wr => ∃ k : Nat, k ≤ n ∧ i = .int .i64 k ∧ ∃ y, wr = gw X4 y) (fun i _ => n - (intOf i).toNat)
  case atStart => exact ⟨0, by omega, rfl, of_below (xr _)⟩
  case round =>
    obtain ⟨k, hk, rfl, y, rfl⟩ := hrel
    by_cases hlt : k < n
    · obtain ⟨d, hd⟩ : ∃ d, l[k]? = some d := by
        have := HN.out
        exact ⟨l[k]'(by omega), by simp⟩
      have hne : l ≠ [] := fun e => by rw [e] at hd; simp at hd
      obtain ⟨b, o, rfl, hc1⟩ := HL.out hne
      obtain ⟨g, rfl, hc2⟩ := HL2.out hne
      obtain ⟨d1, d2, d3, d4, d5, d6⟩ := d
      obtain ⟨p0, p1, p2, p3, p4, p5⟩ := (hc1.below hB) k _ hd
      obtain ⟨q0, q1, q2, q3, q4, q5⟩ := hc2 k _ hd
      have pl := World.block_lt_of_cell? X4 _ p0
      have ql := World.block_lt_of_cell? X4 _ q0
      simp only [Nat.zero_add] at p0 p1 p2 p3 p4 p5 q0 q1 q2 q3 q4 q5 pl ql
      clear hc1 hc2 hne hd
      go_wp2_with fail
      refine wp_region_gwn X4 (by kernel_rfl) (by kernel_rfl) (gw_below _ _) ?_
      repeat (go_big_quiet_step (fail))
      refine wpQuiet_nil ?_
      rintro _ ⟨y2, rfl⟩
      go_wp2_with fail
      go_roundw
      case rel => exact ⟨k + 1, by omega, by go_num, _, rfl⟩
      case measure => simp [intOf]; omega
    · clear HL HL2
      replace hB := hB.trans ((gw_below X4 y).mono hB.size)
      obtain ⟨X5, hX5⟩ : ∃ X5, gw X4 y = X5 := ⟨_, rfl⟩
      rw [hX5] at hB ⊢
      clear hX5
      go_wp2_with fail
      refine ((HT _ (HC.out.below hB HC.out.lt)).out).mono ?_
      rintro r X6 ⟨rfl, hb⟩
      replace hB := hB.trans (hb.mono hB.size)
      clear hb
      obtain ⟨B, hBs⟩ : ∃ b, X6.heap.size = b := ⟨_, rfl⟩
      go_wp2_with fail
      try rw [hBs]
      refine call_named (fun V => Below w.heap.size w V ∧ Hid (V.heap[B]? = some (cellsOf ⟨x1, x2, x3, x4, x5, x6⟩))) ⟨xa hB _, newA _ _ _ hBs⟩ ?_
      clear hB hBs
      rintro X7 ⟨hB, K⟩
      refine ((HQ _ (HE.out.below hB)).out).mono ?_
      rintro r X8 ⟨rfl, hb⟩
      replace K := keepB hb K
      replace hB := hB.trans (hb.mono hB.size)
      clear hb
      go_wp2_with fail
      refine (c22 _ (HE.out.below hB) (HC.out.below hB HC.out.lt)).mono ?_
      rintro r X9 ⟨rfl, hb⟩
      replace K := keepB hb K
      replace hB := hB.trans (hb.mono hB.size)
      clear hb
      obtain ⟨t0, t1, t2, t3, t4, t5, tF, tL⟩ := cellsOf_at K.out
      go_wp2_with fail
      clear t0 t1 t2 t3 t4 t5 tF tL
      refine ((HC2 _).out).mono ?_
      rintro r Y1 ⟨rfl, hb⟩
      replace K := keepB hb K
      replace hB := hB.trans (hb.mono hB.size)
      clear hb
      obtain ⟨t0, t1, t2, t3, t4, t5, tF, tL⟩ := cellsOf_at K.out
      go_wp2_with fail
      clear t0 t1 t2 t3 t4 t5 tF tL
      refine ((HU _ (HC.out.below hB HC.out.lt)).out).mono ?_
      rintro r Y2 ⟨rfl, hb⟩
      replace hB := hB.trans (hb.mono hB.size)
      clear hb K
      go_wp2_with fail
      go_ret
      exact ⟨rfl, hB⟩
set_option maxRecDepth 100000 in
set_option maxHeartbeats 8000000 in
theorem c12_vse (c1 c2 c3 c4 c5 c6 h : Int) (w : World) (l : List Card) (a : Option Addr) (n cap : Nat) (hn : l.length = n) (n60 : n ≤ 60) (hL : l ≠ [] → ∃ b o, a = some ⟨b, o, none⟩ ∧ CardsAt w b o l) (text T S : List UInt8) (t250 : text.length ≤ 250) (hh : h ≠ 0) (HE : Hid (Env w)) (HC : Hid (Cell0 w)) (HP : ∀ W, Env W → Hid (Calls Tryz.prog 46 #[.agg #[.int .i64 c1, .int .i64 c2, .int .i64 c3, .int .i64 c4, .int .i64 c5, .int .i64 c6]] W fun r w' => r = .returned (.tuple #[.string ⟨T.toArray⟩, .int .i64 0]) ∧ Below W.heap.size W w')) (HR : ∀ W, Cell0 W → Hid (Calls Tryz.prog 27 #[.string ⟨T.toArray⟩, .agg #[.int .i64 c1, .int .i64 c2, .int .i64 c3, .int .i64 c4, .int .i64 c5, .int .i64 c6], .int .i64 0] W fun r w' => r = .returned (.bool true) ∧ Below W.heap.size W w')) (HS : ∀ W, Below w.heap.size w W → Hid (Calls Tryz.prog 40 #[.slice a n cap] W fun r w' => r = .returned (.tuple #[.string ⟨S.toArray⟩, .int .i64 0]) ∧ Below W.heap.size W w')) (HH : ∀ W, Cell0 W → Hid (Calls Tryz.prog 33 #[.string ⟨S.toArray⟩] W fun r w' => ∃ v', r = .returned (.tuple #[v', .int .i64 0, .int .i64 (-1)]) ∧ w'.ownsRow W.heap.size 24 6 v' l.length (flatC l) ∧ Below W.heap.size W w')) (HT : ∀ W, Cell0 W → Hid (Calls Tryz.prog 23 #[.string ⟨text.toArray⟩] W fun r w' => r = .returned (.tuple #[.agg #[.int .i64 0, .int .i64 0, .int .i64 0, .int .i64 0, .int .i64 0, .int .i64 0], .int .i64 h]) ∧ Below W.heap.size W w')) :
    Calls Tryz.prog 12 #[.agg #[.int .i64 c1, .int .i64 c2, .int .i64 c3, .int .i64 c4, .int .i64 c5, .int .i64 c6], .slice a n cap, .string ⟨text.toArray⟩] w fun e w' => e = .returned (.bool true) ∧ Below w.heap.size w w' := by
  have HL := Lib.hid hL
  have HN := Lib.hid hn
  clear hL hn
  go_enter Tryz.func12, Tryz.ntmps12
  go_wp2_with fail
  refine call_named (fun V => Below w.heap.size w V ∧ Hid (V.heap[w.heap.size]? = some (cellsOf ⟨c1, c2, c3, c4, c5, c6⟩))) ⟨xa (xr _) _, newA _ _ _ rfl⟩ ?_
  rintro X0 ⟨hB, K⟩
  refine ((HP _ (HE.out.below hB)).out).mono ?_
  rintro r X1 ⟨rfl, hb⟩
  replace K := keepB hb K
  replace hB := hB.trans (hb.mono hB.size)
  clear hb
  obtain ⟨t0, t1, t2, t3, t4, t5, tF, tL⟩ := cellsOf_at K.out
  go_wp2_with fail
  refine ((HR _ (HC.out.below hB HC.out.lt)).out).mono ?_
  rintro r X2 ⟨rfl, hb⟩
  clear t0 t1 t2 t3 t4 t5 tF tL
  replace hB := hB.trans (hb.mono hB.size)
  clear hb K
  go_wp2_with fail
  refine ((HS _ hB).out).mono ?_
  rintro r X3 ⟨rfl, hb⟩
  replace hB := hB.trans (hb.mono hB.size)
  clear hb
  go_wp2_with fail
  refine ((HH _ (HC.out.below hB HC.out.lt)).out).mono ?_
  rintro r X4 ⟨v', rfl, hown, hb⟩
  replace hB := hB.trans (hb.mono hB.size)
  clear hb
  obtain ⟨a2, cap2, rfl, hL2⟩ := own_cards hown
  rw [HN.out]
  have HL2 := Lib.hid hL2
  clear hL2 hown
  go_wp2_with fail
  go_loopw [14] (fun i wr => ∃ k : Nat, k ≤ n ∧ i = .int .i64 k ∧ ∃ y, wr = gw X4 y) (fun i _ => n - (intOf i).toNat)
  case atStart => exact ⟨0, by omega, rfl, of_below (xr _)⟩
  case round =>
    obtain ⟨k, hk, rfl, y, rfl⟩ := hrel
    by_cases hlt : k < n
    · obtain ⟨d, hd⟩ : ∃ d, l[k]? = some d := by
        have := HN.out
        exact ⟨l[k]'(by omega), by simp⟩
      have hne : l ≠ [] := fun e => by rw [e] at hd; simp at hd
      obtain ⟨b, o, rfl, hc1⟩ := HL.out hne
      obtain ⟨g, rfl, hc2⟩ := HL2.out hne
      obtain ⟨d1, d2, d3, d4, d5, d6⟩ := d
      obtain ⟨p0, p1, p2, p3, p4, p5⟩ := (hc1.below hB) k _ hd
      obtain ⟨q0, q1, q2, q3, q4, q5⟩ := hc2 k _ hd
      have pl := World.block_lt_of_cell? X4 _ p0
      have ql := World.block_lt_of_cell? X4 _ q0
      simp only [Nat.zero_add] at p0 p1 p2 p3 p4 p5 q0 q1 q2 q3 q4 q5 pl ql
      clear hc1 hc2 hne hd
      go_wp2_with fail
      refine wp_region_gwn X4 (by kernel_rfl) (by kernel_rfl) (gw_below _ _) ?_
      repeat (go_big_quiet_step (fail))
      refine wpQuiet_nil ?_
      rintro _ ⟨y2, rfl⟩
      go_wp2_with fail
      go_roundw
      case rel => exact ⟨k + 1, by omega, by go_num, _, rfl⟩
      case measure => simp [intOf]; omega
    · clear HL HL2
      replace hB := hB.trans ((gw_below X4 y).mono hB.size)
      obtain ⟨X5, hX5⟩ : ∃ X5, gw X4 y = X5 := ⟨_, rfl⟩
      rw [hX5] at hB ⊢
      clear hX5
      go_wp2_with fail
      refine ((HT _ (HC.out.below hB HC.out.lt)).out).mono ?_
      rintro r X6 ⟨rfl, hb⟩
      replace hB := hB.trans (hb.mono hB.size)
      clear hb
      obtain ⟨B, hBs⟩ : ∃ b, X6.heap.size = b := ⟨_, rfl⟩
      go_wp2_with fail
      try rw [hBs]
      refine call_named (fun V => Below w.heap.size w V ∧ Hid (V.heap[B]? = some (cellsOf ⟨0, 0, 0, 0, 0, 0⟩))) ⟨xa hB _, newA _ _ _ hBs⟩ ?_
      clear hB hBs
      rintro X7 ⟨hB, K⟩
      refine (c22 _ (HE.out.below hB) (HC.out.below hB HC.out.lt)).mono ?_
      rintro r X8 ⟨rfl, hb⟩
      replace K := keepB hb K
      replace hB := hB.trans (hb.mono hB.size)
      clear hb
      obtain ⟨t0, t1, t2, t3, t4, t5, tF, tL⟩ := cellsOf_at K.out
      go_wp2_with fail
      go_ret
      exact ⟨rfl, hB⟩
set_option maxRecDepth 100000 in
set_option maxHeartbeats 8000000 in
theorem c12_vbg (c1 c2 c3 c4 c5 c6 x1 x2 x3 x4 x5 x6 f : Int) (w : World) (l : List Card) (a : Option Addr) (n cap : Nat) (hn : l.length = n) (n60 : n ≤ 60) (hL : l ≠ [] → ∃ b o, a = some ⟨b, o, none⟩ ∧ CardsAt w b o l) (text T S U : List UInt8) (t250 : text.length ≤ 250) (hf : f ≠ 0) (HE : Hid (Env w)) (HC : Hid (Cell0 w)) (HP : ∀ W, Env W → Hid (Calls Tryz.prog 46 #[.agg #[.int .i64 c1, .int .i64 c2, .int .i64 c3, .int .i64 c4, .int .i64 c5, .int .i64 c6]] W fun r w' => r = .returned (.tuple #[.string ⟨T.toArray⟩, .int .i64 0]) ∧ Below W.heap.size W w')) (HR : ∀ W, Cell0 W → Hid (Calls Tryz.prog 27 #[.string ⟨T.toArray⟩, .agg #[.int .i64 c1, .int .i64 c2, .int .i64 c3, .int .i64 c4, .int .i64 c5, .int .i64 c6], .int .i64 0] W fun r w' => r = .returned (.bool true) ∧ Below W.heap.size W w')) (HS : ∀ W, Below w.heap.size w W → Hid (Calls Tryz.prog 40 #[.slice a n cap] W fun r w' => r = .returned (.tuple #[.string ⟨S.toArray⟩, .int .i64 f]) ∧ Below W.heap.size W w')) (HT : ∀ W, Cell0 W → Hid (Calls Tryz.prog 23 #[.string ⟨text.toArray⟩] W fun r w' => r = .returned (.tuple #[.agg #[.int .i64 x1, .int .i64 x2, .int .i64 x3, .int .i64 x4, .int .i64 x5, .int .i64 x6], .int .i64 0]) ∧ Below W.heap.size W w')) (HQ : ∀ W, Env W → Hid (Calls Tryz.prog 46 #[.agg #[.int .i64 x1, .int .i64 x2, .int .i64 x3, .int .i64 x4, .int .i64 x5, .int .i64 x6]] W fun r w' => r = .returned (.tuple #[.string ⟨U.toArray⟩, .int .i64 0]) ∧ Below W.heap.size W w')) (HC2 : ∀ W, Hid (Calls Tryz.prog 44 #[.agg #[.int .i64 x1, .int .i64 x2, .int .i64 x3, .int .i64 x4, .int .i64 x5, .int .i64 x6]] W fun r w' => r = .returned (.int .i64 0) ∧ Below W.heap.size W w')) (HU : ∀ W, Cell0 W → Hid (Calls Tryz.prog 27 #[.string ⟨U.toArray⟩, .agg #[.int .i64 x1, .int .i64 x2, .int .i64 x3, .int .i64 x4, .int .i64 x5, .int .i64 x6], .int .i64 0] W fun r w' => r = .returned (.bool true) ∧ Below W.heap.size W w')) :
    Calls Tryz.prog 12 #[.agg #[.int .i64 c1, .int .i64 c2, .int .i64 c3, .int .i64 c4, .int .i64 c5, .int .i64 c6], .slice a n cap, .string ⟨text.toArray⟩] w fun e w' => e = .returned (.bool true) ∧ Below w.heap.size w w' := by
  have HL := Lib.hid hL
  have HN := Lib.hid hn
  clear hL hn
  go_enter Tryz.func12, Tryz.ntmps12
  go_wp2_with fail
  refine call_named (fun V => Below w.heap.size w V ∧ Hid (V.heap[w.heap.size]? = some (cellsOf ⟨c1, c2, c3, c4, c5, c6⟩))) ⟨xa (xr _) _, newA _ _ _ rfl⟩ ?_
  rintro X0 ⟨hB, K⟩
  refine ((HP _ (HE.out.below hB)).out).mono ?_
  rintro r X1 ⟨rfl, hb⟩
  replace K := keepB hb K
  replace hB := hB.trans (hb.mono hB.size)
  clear hb
  obtain ⟨t0, t1, t2, t3, t4, t5, tF, tL⟩ := cellsOf_at K.out
  go_wp2_with fail
  refine ((HR _ (HC.out.below hB HC.out.lt)).out).mono ?_
  rintro r X2 ⟨rfl, hb⟩
  clear t0 t1 t2 t3 t4 t5 tF tL
  replace hB := hB.trans (hb.mono hB.size)
  clear hb K
  go_wp2_with fail
  refine ((HS _ hB).out).mono ?_
  rintro r X3 ⟨rfl, hb⟩
  replace hB := hB.trans (hb.mono hB.size)
  clear hb
  go_wp2_with fail
  obtain ⟨X5, hX5⟩ : ∃ X5, X3 = X5 := ⟨_, rfl⟩
  rw [hX5] at hB ⊢
  clear hX5
  refine ((HT _ (HC.out.below hB HC.out.lt)).out).mono ?_
  rintro r X6 ⟨rfl, hb⟩
  replace hB := hB.trans (hb.mono hB.size)
  clear hb
  obtain ⟨B, hBs⟩ : ∃ b, X6.heap.size = b := ⟨_, rfl⟩
  go_wp2_with fail
  try rw [hBs]
  refine call_named (fun V => Below w.heap.size w V ∧ Hid (V.heap[B]? = some (cellsOf ⟨x1, x2, x3, x4, x5, x6⟩))) ⟨xa hB _, newA _ _ _ hBs⟩ ?_
  clear hB hBs
  rintro X7 ⟨hB, K⟩
  refine ((HQ _ (HE.out.below hB)).out).mono ?_
  rintro r X8 ⟨rfl, hb⟩
  replace K := keepB hb K
  replace hB := hB.trans (hb.mono hB.size)
  clear hb
  go_wp2_with fail
  refine (c22 _ (HE.out.below hB) (HC.out.below hB HC.out.lt)).mono ?_
  rintro r X9 ⟨rfl, hb⟩
  replace K := keepB hb K
  replace hB := hB.trans (hb.mono hB.size)
  clear hb
  obtain ⟨t0, t1, t2, t3, t4, t5, tF, tL⟩ := cellsOf_at K.out
  go_wp2_with fail
  clear t0 t1 t2 t3 t4 t5 tF tL
  refine ((HC2 _).out).mono ?_
  rintro r Y1 ⟨rfl, hb⟩
  replace K := keepB hb K
  replace hB := hB.trans (hb.mono hB.size)
  clear hb
  obtain ⟨t0, t1, t2, t3, t4, t5, tF, tL⟩ := cellsOf_at K.out
  go_wp2_with fail
  clear t0 t1 t2 t3 t4 t5 tF tL
  refine ((HU _ (HC.out.below hB HC.out.lt)).out).mono ?_
  rintro r Y2 ⟨rfl, hb⟩
  replace hB := hB.trans (hb.mono hB.size)
  clear hb K
  go_wp2_with fail
  go_ret
  exact ⟨rfl, hB⟩
set_option maxRecDepth 100000 in
set_option maxHeartbeats 8000000 in
theorem c12_vbe (c1 c2 c3 c4 c5 c6 f h : Int) (w : World) (l : List Card) (a : Option Addr) (n cap : Nat) (hn : l.length = n) (n60 : n ≤ 60) (hL : l ≠ [] → ∃ b o, a = some ⟨b, o, none⟩ ∧ CardsAt w b o l) (text T S : List UInt8) (t250 : text.length ≤ 250) (hf : f ≠ 0) (hh : h ≠ 0) (HE : Hid (Env w)) (HC : Hid (Cell0 w)) (HP : ∀ W, Env W → Hid (Calls Tryz.prog 46 #[.agg #[.int .i64 c1, .int .i64 c2, .int .i64 c3, .int .i64 c4, .int .i64 c5, .int .i64 c6]] W fun r w' => r = .returned (.tuple #[.string ⟨T.toArray⟩, .int .i64 0]) ∧ Below W.heap.size W w')) (HR : ∀ W, Cell0 W → Hid (Calls Tryz.prog 27 #[.string ⟨T.toArray⟩, .agg #[.int .i64 c1, .int .i64 c2, .int .i64 c3, .int .i64 c4, .int .i64 c5, .int .i64 c6], .int .i64 0] W fun r w' => r = .returned (.bool true) ∧ Below W.heap.size W w')) (HS : ∀ W, Below w.heap.size w W → Hid (Calls Tryz.prog 40 #[.slice a n cap] W fun r w' => r = .returned (.tuple #[.string ⟨S.toArray⟩, .int .i64 f]) ∧ Below W.heap.size W w')) (HT : ∀ W, Cell0 W → Hid (Calls Tryz.prog 23 #[.string ⟨text.toArray⟩] W fun r w' => r = .returned (.tuple #[.agg #[.int .i64 0, .int .i64 0, .int .i64 0, .int .i64 0, .int .i64 0, .int .i64 0], .int .i64 h]) ∧ Below W.heap.size W w')) :
    Calls Tryz.prog 12 #[.agg #[.int .i64 c1, .int .i64 c2, .int .i64 c3, .int .i64 c4, .int .i64 c5, .int .i64 c6], .slice a n cap, .string ⟨text.toArray⟩] w fun e w' => e = .returned (.bool true) ∧ Below w.heap.size w w' := by
  have HL := Lib.hid hL
  have HN := Lib.hid hn
  clear hL hn
  go_enter Tryz.func12, Tryz.ntmps12
  go_wp2_with fail
  refine call_named (fun V => Below w.heap.size w V ∧ Hid (V.heap[w.heap.size]? = some (cellsOf ⟨c1, c2, c3, c4, c5, c6⟩))) ⟨xa (xr _) _, newA _ _ _ rfl⟩ ?_
  rintro X0 ⟨hB, K⟩
  refine ((HP _ (HE.out.below hB)).out).mono ?_
  rintro r X1 ⟨rfl, hb⟩
  replace K := keepB hb K
  replace hB := hB.trans (hb.mono hB.size)
  clear hb
  obtain ⟨t0, t1, t2, t3, t4, t5, tF, tL⟩ := cellsOf_at K.out
  go_wp2_with fail
  refine ((HR _ (HC.out.below hB HC.out.lt)).out).mono ?_
  rintro r X2 ⟨rfl, hb⟩
  clear t0 t1 t2 t3 t4 t5 tF tL
  replace hB := hB.trans (hb.mono hB.size)
  clear hb K
  go_wp2_with fail
  refine ((HS _ hB).out).mono ?_
  rintro r X3 ⟨rfl, hb⟩
  replace hB := hB.trans (hb.mono hB.size)
  clear hb
  go_wp2_with fail
  obtain ⟨X5, hX5⟩ : ∃ X5, X3 = X5 := ⟨_, rfl⟩
  rw [hX5] at hB ⊢
  clear hX5
  refine ((HT _ (HC.out.below hB HC.out.lt)).out).mono ?_
  rintro r X6 ⟨rfl, hb⟩
  replace hB := hB.trans (hb.mono hB.size)
  clear hb
  obtain ⟨B, hBs⟩ : ∃ b, X6.heap.size = b := ⟨_, rfl⟩
  go_wp2_with fail
  try rw [hBs]
  refine call_named (fun V => Below w.heap.size w V ∧ Hid (V.heap[B]? = some (cellsOf ⟨0, 0, 0, 0, 0, 0⟩))) ⟨xa hB _, newA _ _ _ hBs⟩ ?_
  clear hB hBs
  rintro X7 ⟨hB, K⟩
  refine (c22 _ (HE.out.below hB) (HC.out.below hB HC.out.lt)).mono ?_
  rintro r X8 ⟨rfl, hb⟩
  replace K := keepB hb K
  replace hB := hB.trans (hb.mono hB.size)
  clear hb
  obtain ⟨t0, t1, t2, t3, t4, t5, tF, tL⟩ := cellsOf_at K.out
  go_wp2_with fail
  go_ret
  exact ⟨rfl, hB⟩
set_option maxRecDepth 100000 in
set_option maxHeartbeats 8000000 in
theorem c12_isg (c1 c2 c3 c4 c5 c6 x1 x2 x3 x4 x5 x6 : Int) (w : World) (l : List Card) (a : Option Addr) (n cap : Nat) (hn : l.length = n) (n60 : n ≤ 60) (hL : l ≠ [] → ∃ b o, a = some ⟨b, o, none⟩ ∧ CardsAt w b o l) (text T S U : List UInt8) (t250 : text.length ≤ 250) (HE : Hid (Env w)) (HC : Hid (Cell0 w)) (HP : ∀ W, Env W → Hid (Calls Tryz.prog 46 #[.agg #[.int .i64 c1, .int .i64 c2, .int .i64 c3, .int .i64 c4, .int .i64 c5, .int .i64 c6]] W fun r w' => r = .returned (.tuple #[.string ⟨T.toArray⟩, .int .i64 1]) ∧ Below W.heap.size W w')) (HK : ∀ W, Hid (Calls Tryz.prog 44 #[.agg #[.int .i64 c1, .int .i64 c2, .int .i64 c3, .int .i64 c4, .int .i64 c5, .int .i64 c6]] W fun r w' => r = .returned (.int .i64 1) ∧ Below W.heap.size W w')) (HS : ∀ W, Below w.heap.size w W → Hid (Calls Tryz.prog 40 #[.slice a n cap] W fun r w' => r = .returned (.tuple #[.string ⟨S.toArray⟩, .int .i64 0]) ∧ Below W.heap.size W w')) (HH : ∀ W, Cell0 W → Hid (Calls Tryz.prog 33 #[.string ⟨S.toArray⟩] W fun r w' => ∃ v', r = .returned (.tuple #[v', .int .i64 0, .int .i64 (-1)]) ∧ w'.ownsRow W.heap.size 24 6 v' l.length (flatC l) ∧ Below W.heap.size W w')) (HT : ∀ W, Cell0 W → Hid (Calls Tryz.prog 23 #[.string ⟨text.toArray⟩] W fun r w' => r = .returned (.tuple #[.agg #[.int .i64 x1, .int .i64 x2, .int .i64 x3, .int .i64 x4, .int .i64 x5, .int .i64 x6], .int .i64 0]) ∧ Below W.heap.size W w')) (HQ : ∀ W, Env W → Hid (Calls Tryz.prog 46 #[.agg #[.int .i64 x1, .int .i64 x2, .int .i64 x3, .int .i64 x4, .int .i64 x5, .int .i64 x6]] W fun r w' => r = .returned (.tuple #[.string ⟨U.toArray⟩, .int .i64 0]) ∧ Below W.heap.size W w')) (HC2 : ∀ W, Hid (Calls Tryz.prog 44 #[.agg #[.int .i64 x1, .int .i64 x2, .int .i64 x3, .int .i64 x4, .int .i64 x5, .int .i64 x6]] W fun r w' => r = .returned (.int .i64 0) ∧ Below W.heap.size W w')) (HU : ∀ W, Cell0 W → Hid (Calls Tryz.prog 27 #[.string ⟨U.toArray⟩, .agg #[.int .i64 x1, .int .i64 x2, .int .i64 x3, .int .i64 x4, .int .i64 x5, .int .i64 x6], .int .i64 0] W fun r w' => r = .returned (.bool true) ∧ Below W.heap.size W w')) :
    Calls Tryz.prog 12 #[.agg #[.int .i64 c1, .int .i64 c2, .int .i64 c3, .int .i64 c4, .int .i64 c5, .int .i64 c6], .slice a n cap, .string ⟨text.toArray⟩] w fun e w' => e = .returned (.bool true) ∧ Below w.heap.size w w' := by
  have HL := Lib.hid hL
  have HN := Lib.hid hn
  clear hL hn
  go_enter Tryz.func12, Tryz.ntmps12
  go_wp2_with fail
  refine call_named (fun V => Below w.heap.size w V ∧ Hid (V.heap[w.heap.size]? = some (cellsOf ⟨c1, c2, c3, c4, c5, c6⟩))) ⟨xa (xr _) _, newA _ _ _ rfl⟩ ?_
  rintro X0 ⟨hB, K⟩
  refine ((HP _ (HE.out.below hB)).out).mono ?_
  rintro r X1 ⟨rfl, hb⟩
  replace K := keepB hb K
  replace hB := hB.trans (hb.mono hB.size)
  clear hb
  obtain ⟨t0, t1, t2, t3, t4, t5, tF, tL⟩ := cellsOf_at K.out
  go_wp2_with fail
  refine ((HK _).out).mono ?_
  rintro r X2 ⟨rfl, hb⟩
  clear t0 t1 t2 t3 t4 t5 tF tL
  replace hB := hB.trans (hb.mono hB.size)
  clear hb K
  go_wp2_with fail
  refine ((HS _ hB).out).mono ?_
  rintro r X3 ⟨rfl, hb⟩
  replace hB := hB.trans (hb.mono hB.size)
  clear hb
  go_wp2_with fail
  refine ((HH _ (HC.out.below hB HC.out.lt)).out).mono ?_
  rintro r X4 ⟨v', rfl, hown, hb⟩
  replace hB := hB.trans (hb.mono hB.size)
  clear hb
  obtain ⟨a2, cap2, rfl, hL2⟩ := own_cards hown
  rw [HN.out]
  have HL2 := Lib.hid hL2
  clear hL2 hown
  go_wp2_with fail
  go_loopw [14] (fun i wr => ∃ k : Nat, k ≤ n ∧ i = .int .i64 k ∧ ∃ y, wr = gw X4 y) (fun i _ => n - (intOf i).toNat)
  case atStart => exact ⟨0, by omega, rfl, of_below (xr _)⟩
  case round =>
    obtain ⟨k, hk, rfl, y, rfl⟩ := hrel
    by_cases hlt : k < n
    · obtain ⟨d, hd⟩ : ∃ d, l[k]? = some d := by
        have := HN.out
        exact ⟨l[k]'(by omega), by simp⟩
      have hne : l ≠ [] := fun e => by rw [e] at hd; simp at hd
      obtain ⟨b, o, rfl, hc1⟩ := HL.out hne
      obtain ⟨g, rfl, hc2⟩ := HL2.out hne
      obtain ⟨d1, d2, d3, d4, d5, d6⟩ := d
      obtain ⟨p0, p1, p2, p3, p4, p5⟩ := (hc1.below hB) k _ hd
      obtain ⟨q0, q1, q2, q3, q4, q5⟩ := hc2 k _ hd
      have pl := World.block_lt_of_cell? X4 _ p0
      have ql := World.block_lt_of_cell? X4 _ q0
      simp only [Nat.zero_add] at p0 p1 p2 p3 p4 p5 q0 q1 q2 q3 q4 q5 pl ql
      clear hc1 hc2 hne hd
      go_wp2_with fail
      refine wp_region_gwn X4 (by kernel_rfl) (by kernel_rfl) (gw_below _ _) ?_
      repeat (go_big_quiet_step (fail))
      refine wpQuiet_nil ?_
      rintro _ ⟨y2, rfl⟩
      go_wp2_with fail
      go_roundw
      case rel => exact ⟨k + 1, by omega, by go_num, _, rfl⟩
      case measure => simp [intOf]; omega
    · clear HL HL2
      replace hB := hB.trans ((gw_below X4 y).mono hB.size)
      obtain ⟨X5, hX5⟩ : ∃ X5, gw X4 y = X5 := ⟨_, rfl⟩
      rw [hX5] at hB ⊢
      clear hX5
      go_wp2_with fail
      refine ((HT _ (HC.out.below hB HC.out.lt)).out).mono ?_
      rintro r X6 ⟨rfl, hb⟩
      replace hB := hB.trans (hb.mono hB.size)
      clear hb
      obtain ⟨B, hBs⟩ : ∃ b, X6.heap.size = b := ⟨_, rfl⟩
      go_wp2_with fail
      try rw [hBs]
      refine call_named (fun V => Below w.heap.size w V ∧ Hid (V.heap[B]? = some (cellsOf ⟨x1, x2, x3, x4, x5, x6⟩))) ⟨xa hB _, newA _ _ _ hBs⟩ ?_
      clear hB hBs
      rintro X7 ⟨hB, K⟩
      refine ((HQ _ (HE.out.below hB)).out).mono ?_
      rintro r X8 ⟨rfl, hb⟩
      replace K := keepB hb K
      replace hB := hB.trans (hb.mono hB.size)
      clear hb
      go_wp2_with fail
      refine (c22 _ (HE.out.below hB) (HC.out.below hB HC.out.lt)).mono ?_
      rintro r X9 ⟨rfl, hb⟩
      replace K := keepB hb K
      replace hB := hB.trans (hb.mono hB.size)
      clear hb
      obtain ⟨t0, t1, t2, t3, t4, t5, tF, tL⟩ := cellsOf_at K.out
      go_wp2_with fail
      clear t0 t1 t2 t3 t4 t5 tF tL
      refine ((HC2 _).out).mono ?_
      rintro r Y1 ⟨rfl, hb⟩
      replace K := keepB hb K
      replace hB := hB.trans (hb.mono hB.size)
      clear hb
      obtain ⟨t0, t1, t2, t3, t4, t5, tF, tL⟩ := cellsOf_at K.out
      go_wp2_with fail
      clear t0 t1 t2 t3 t4 t5 tF tL
      refine ((HU _ (HC.out.below hB HC.out.lt)).out).mono ?_
      rintro r Y2 ⟨rfl, hb⟩
      replace hB := hB.trans (hb.mono hB.size)
      clear hb K
      go_wp2_with fail
      go_ret
      exact ⟨rfl, hB⟩
set_option maxRecDepth 100000 in
set_option maxHeartbeats 8000000 in
theorem c12_ise (c1 c2 c3 c4 c5 c6 h : Int) (w : World) (l : List Card) (a : Option Addr) (n cap : Nat) (hn : l.length = n) (n60 : n ≤ 60) (hL : l ≠ [] → ∃ b o, a = some ⟨b, o, none⟩ ∧ CardsAt w b o l) (text T S : List UInt8) (t250 : text.length ≤ 250) (hh : h ≠ 0) (HE : Hid (Env w)) (HC : Hid (Cell0 w)) (HP : ∀ W, Env W → Hid (Calls Tryz.prog 46 #[.agg #[.int .i64 c1, .int .i64 c2, .int .i64 c3, .int .i64 c4, .int .i64 c5, .int .i64 c6]] W fun r w' => r = .returned (.tuple #[.string ⟨T.toArray⟩, .int .i64 1]) ∧ Below W.heap.size W w')) (HK : ∀ W, Hid (Calls Tryz.prog 44 #[.agg #[.int .i64 c1, .int .i64 c2, .int .i64 c3, .int .i64 c4, .int .i64 c5, .int .i64 c6]] W fun r w' => r = .returned (.int .i64 1) ∧ Below W.heap.size W w')) (HS : ∀ W, Below w.heap.size w W → Hid (Calls Tryz.prog 40 #[.slice a n cap] W fun r w' => r = .returned (.tuple #[.string ⟨S.toArray⟩, .int .i64 0]) ∧ Below W.heap.size W w')) (HH : ∀ W, Cell0 W → Hid (Calls Tryz.prog 33 #[.string ⟨S.toArray⟩] W fun r w' => ∃ v', r = .returned (.tuple #[v', .int .i64 0, .int .i64 (-1)]) ∧ w'.ownsRow W.heap.size 24 6 v' l.length (flatC l) ∧ Below W.heap.size W w')) (HT : ∀ W, Cell0 W → Hid (Calls Tryz.prog 23 #[.string ⟨text.toArray⟩] W fun r w' => r = .returned (.tuple #[.agg #[.int .i64 0, .int .i64 0, .int .i64 0, .int .i64 0, .int .i64 0, .int .i64 0], .int .i64 h]) ∧ Below W.heap.size W w')) :
    Calls Tryz.prog 12 #[.agg #[.int .i64 c1, .int .i64 c2, .int .i64 c3, .int .i64 c4, .int .i64 c5, .int .i64 c6], .slice a n cap, .string ⟨text.toArray⟩] w fun e w' => e = .returned (.bool true) ∧ Below w.heap.size w w' := by
  have HL := Lib.hid hL
  have HN := Lib.hid hn
  clear hL hn
  go_enter Tryz.func12, Tryz.ntmps12
  go_wp2_with fail
  refine call_named (fun V => Below w.heap.size w V ∧ Hid (V.heap[w.heap.size]? = some (cellsOf ⟨c1, c2, c3, c4, c5, c6⟩))) ⟨xa (xr _) _, newA _ _ _ rfl⟩ ?_
  rintro X0 ⟨hB, K⟩
  refine ((HP _ (HE.out.below hB)).out).mono ?_
  rintro r X1 ⟨rfl, hb⟩
  replace K := keepB hb K
  replace hB := hB.trans (hb.mono hB.size)
  clear hb
  obtain ⟨t0, t1, t2, t3, t4, t5, tF, tL⟩ := cellsOf_at K.out
  go_wp2_with fail
  refine ((HK _).out).mono ?_
  rintro r X2 ⟨rfl, hb⟩
  clear t0 t1 t2 t3 t4 t5 tF tL
  replace hB := hB.trans (hb.mono hB.size)
  clear hb K
  go_wp2_with fail
  refine ((HS _ hB).out).mono ?_
  rintro r X3 ⟨rfl, hb⟩
  replace hB := hB.trans (hb.mono hB.size)
  clear hb
  go_wp2_with fail
  refine ((HH _ (HC.out.below hB HC.out.lt)).out).mono ?_
  rintro r X4 ⟨v', rfl, hown, hb⟩
  replace hB := hB.trans (hb.mono hB.size)
  clear hb
  obtain ⟨a2, cap2, rfl, hL2⟩ := own_cards hown
  rw [HN.out]
  have HL2 := Lib.hid hL2
  clear hL2 hown
  go_wp2_with fail
  go_loopw [14] (fun i wr => ∃ k : Nat, k ≤ n ∧ i = .int .i64 k ∧ ∃ y, wr = gw X4 y) (fun i _ => n - (intOf i).toNat)
  case atStart => exact ⟨0, by omega, rfl, of_below (xr _)⟩
  case round =>
    obtain ⟨k, hk, rfl, y, rfl⟩ := hrel
    by_cases hlt : k < n
    · obtain ⟨d, hd⟩ : ∃ d, l[k]? = some d := by
        have := HN.out
        exact ⟨l[k]'(by omega), by simp⟩
      have hne : l ≠ [] := fun e => by rw [e] at hd; simp at hd
      obtain ⟨b, o, rfl, hc1⟩ := HL.out hne
      obtain ⟨g, rfl, hc2⟩ := HL2.out hne
      obtain ⟨d1, d2, d3, d4, d5, d6⟩ := d
      obtain ⟨p0, p1, p2, p3, p4, p5⟩ := (hc1.below hB) k _ hd
      obtain ⟨q0, q1, q2, q3, q4, q5⟩ := hc2 k _ hd
      have pl := World.block_lt_of_cell? X4 _ p0
      have ql := World.block_lt_of_cell? X4 _ q0
      simp only [Nat.zero_add] at p0 p1 p2 p3 p4 p5 q0 q1 q2 q3 q4 q5 pl ql
      clear hc1 hc2 hne hd
      go_wp2_with fail
      refine wp_region_gwn X4 (by kernel_rfl) (by kernel_rfl) (gw_below _ _) ?_
      repeat (go_big_quiet_step (fail))
      refine wpQuiet_nil ?_
      rintro _ ⟨y2, rfl⟩
      go_wp2_with fail
      go_roundw
      case rel => exact ⟨k + 1, by omega, by go_num, _, rfl⟩
      case measure => simp [intOf]; omega
    · clear HL HL2
      replace hB := hB.trans ((gw_below X4 y).mono hB.size)
      obtain ⟨X5, hX5⟩ : ∃ X5, gw X4 y = X5 := ⟨_, rfl⟩
      rw [hX5] at hB ⊢
      clear hX5
      go_wp2_with fail
      refine ((HT _ (HC.out.below hB HC.out.lt)).out).mono ?_
      rintro r X6 ⟨rfl, hb⟩
      replace hB := hB.trans (hb.mono hB.size)
      clear hb
      obtain ⟨B, hBs⟩ : ∃ b, X6.heap.size = b := ⟨_, rfl⟩
      go_wp2_with fail
      try rw [hBs]
      refine call_named (fun V => Below w.heap.size w V ∧ Hid (V.heap[B]? = some (cellsOf ⟨0, 0, 0, 0, 0, 0⟩))) ⟨xa hB _, newA _ _ _ hBs⟩ ?_
      clear hB hBs
      rintro X7 ⟨hB, K⟩
      refine (c22 _ (HE.out.below hB) (HC.out.below hB HC.out.lt)).mono ?_
      rintro r X8 ⟨rfl, hb⟩
      replace K := keepB hb K
      replace hB := hB.trans (hb.mono hB.size)
      clear hb
      obtain ⟨t0, t1, t2, t3, t4, t5, tF, tL⟩ := cellsOf_at K.out
      go_wp2_with fail
      go_ret
      exact ⟨rfl, hB⟩
set_option maxRecDepth 100000 in
set_option maxHeartbeats 8000000 in
theorem c12_ibg (c1 c2 c3 c4 c5 c6 x1 x2 x3 x4 x5 x6 f : Int) (w : World) (l : List Card) (a : Option Addr) (n cap : Nat) (hn : l.length = n) (n60 : n ≤ 60) (hL : l ≠ [] → ∃ b o, a = some ⟨b, o, none⟩ ∧ CardsAt w b o l) (text T S U : List UInt8) (t250 : text.length ≤ 250) (hf : f ≠ 0) (HE : Hid (Env w)) (HC : Hid (Cell0 w)) (HP : ∀ W, Env W → Hid (Calls Tryz.prog 46 #[.agg #[.int .i64 c1, .int .i64 c2, .int .i64 c3, .int .i64 c4, .int .i64 c5, .int .i64 c6]] W fun r w' => r = .returned (.tuple #[.string ⟨T.toArray⟩, .int .i64 1]) ∧ Below W.heap.size W w')) (HK : ∀ W, Hid (Calls Tryz.prog 44 #[.agg #[.int .i64 c1, .int .i64 c2, .int .i64 c3, .int .i64 c4, .int .i64 c5, .int .i64 c6]] W fun r w' => r = .returned (.int .i64 1) ∧ Below W.heap.size W w')) (HS : ∀ W, Below w.heap.size w W → Hid (Calls Tryz.prog 40 #[.slice a n cap] W fun r w' => r = .returned (.tuple #[.string ⟨S.toArray⟩, .int .i64 f]) ∧ Below W.heap.size W w')) (HT : ∀ W, Cell0 W → Hid (Calls Tryz.prog 23 #[.string ⟨text.toArray⟩] W fun r w' => r = .returned (.tuple #[.agg #[.int .i64 x1, .int .i64 x2, .int .i64 x3, .int .i64 x4, .int .i64 x5, .int .i64 x6], .int .i64 0]) ∧ Below W.heap.size W w')) (HQ : ∀ W, Env W → Hid (Calls Tryz.prog 46 #[.agg #[.int .i64 x1, .int .i64 x2, .int .i64 x3, .int .i64 x4, .int .i64 x5, .int .i64 x6]] W fun r w' => r = .returned (.tuple #[.string ⟨U.toArray⟩, .int .i64 0]) ∧ Below W.heap.size W w')) (HC2 : ∀ W, Hid (Calls Tryz.prog 44 #[.agg #[.int .i64 x1, .int .i64 x2, .int .i64 x3, .int .i64 x4, .int .i64 x5, .int .i64 x6]] W fun r w' => r = .returned (.int .i64 0) ∧ Below W.heap.size W w')) (HU : ∀ W, Cell0 W → Hid (Calls Tryz.prog 27 #[.string ⟨U.toArray⟩, .agg #[.int .i64 x1, .int .i64 x2, .int .i64 x3, .int .i64 x4, .int .i64 x5, .int .i64 x6], .int .i64 0] W fun r w' => r = .returned (.bool true) ∧ Below W.heap.size W w')) :
    Calls Tryz.prog 12 #[.agg #[.int .i64 c1, .int .i64 c2, .int .i64 c3, .int .i64 c4, .int .i64 c5, .int .i64 c6], .slice a n cap, .string ⟨text.toArray⟩] w fun e w' => e = .returned (.bool true) ∧ Below w.heap.size w w' := by
  have HL := Lib.hid hL
  have HN := Lib.hid hn
  clear hL hn
  go_enter Tryz.func12, Tryz.ntmps12
  go_wp2_with fail
  refine call_named (fun V => Below w.heap.size w V ∧ Hid (V.heap[w.heap.size]? = some (cellsOf ⟨c1, c2, c3, c4, c5, c6⟩))) ⟨xa (xr _) _, newA _ _ _ rfl⟩ ?_
  rintro X0 ⟨hB, K⟩
  refine ((HP _ (HE.out.below hB)).out).mono ?_
  rintro r X1 ⟨rfl, hb⟩
  replace K := keepB hb K
  replace hB := hB.trans (hb.mono hB.size)
  clear hb
  obtain ⟨t0, t1, t2, t3, t4, t5, tF, tL⟩ := cellsOf_at K.out
  go_wp2_with fail
  refine ((HK _).out).mono ?_
  rintro r X2 ⟨rfl, hb⟩
  clear t0 t1 t2 t3 t4 t5 tF tL
  replace hB := hB.trans (hb.mono hB.size)
  clear hb K
  go_wp2_with fail
  refine ((HS _ hB).out).mono ?_
  rintro r X3 ⟨rfl, hb⟩
  replace hB := hB.trans (hb.mono hB.size)
  clear hb
  go_wp2_with fail
  obtain ⟨X5, hX5⟩ : ∃ X5, X3 = X5 := ⟨_, rfl⟩
  rw [hX5] at hB ⊢
  clear hX5
  refine ((HT _ (HC.out.below hB HC.out.lt)).out).mono ?_
  rintro r X6 ⟨rfl, hb⟩
  replace hB := hB.trans (hb.mono hB.size)
  clear hb
  obtain ⟨B, hBs⟩ : ∃ b, X6.heap.size = b := ⟨_, rfl⟩
  go_wp2_with fail
  try rw [hBs]
  refine call_named (fun V => Below w.heap.size w V ∧ Hid (V.heap[B]? = some (cellsOf ⟨x1, x2, x3, x4, x5, x6⟩))) ⟨xa hB _, newA _ _ _ hBs⟩ ?_
  clear hB hBs
  rintro X7 ⟨hB, K⟩
  refine ((HQ _ (HE.out.below hB)).out).mono ?_
  rintro r X8 ⟨rfl, hb⟩
  replace K := keepB hb K
  replace hB := hB.trans (hb.mono hB.size)
  clear hb
  go_wp2_with fail
  refine (c22 _ (HE.out.below hB) (HC.out.below hB HC.out.lt)).mono ?_
  rintro r X9 ⟨rfl, hb⟩
  replace K := keepB hb K
  replace hB := hB.trans (hb.mono hB.size)
  clear hb
  obtain ⟨t0, t1, t2, t3, t4, t5, tF, tL⟩ := cellsOf_at K.out
  go_wp2_with fail
  clear t0 t1 t2 t3 t4 t5 tF tL
  refine ((HC2 _).out).mono ?_
  rintro r Y1 ⟨rfl, hb⟩
  replace K := keepB hb K
  replace hB := hB.trans (hb.mono hB.size)
  clear hb
  obtain ⟨t0, t1, t2, t3, t4, t5, tF, tL⟩ := cellsOf_at K.out
  go_wp2_with fail
  clear t0 t1 t2 t3 t4 t5 tF tL
  refine ((HU _ (HC.out.below hB HC.out.lt)).out).mono ?_
  rintro r Y2 ⟨rfl, hb⟩
  replace hB := hB.trans (hb.mono hB.size)
  clear hb K
  go_wp2_with fail
  go_ret
  exact ⟨rfl, hB⟩
set_option maxRecDepth 100000 in
set_option maxHeartbeats 8000000 in
theorem c12_ibe (c1 c2 c3 c4 c5 c6 f h : Int) (w : World) (l : List Card) (a : Option Addr) (n cap : Nat) (hn : l.length = n) (n60 : n ≤ 60) (hL : l ≠ [] → ∃ b o, a = some ⟨b, o, none⟩ ∧ CardsAt w b o l) (text T S : List UInt8) (t250 : text.length ≤ 250) (hf : f ≠ 0) (hh : h ≠ 0) (HE : Hid (Env w)) (HC : Hid (Cell0 w)) (HP : ∀ W, Env W → Hid (Calls Tryz.prog 46 #[.agg #[.int .i64 c1, .int .i64 c2, .int .i64 c3, .int .i64 c4, .int .i64 c5, .int .i64 c6]] W fun r w' => r = .returned (.tuple #[.string ⟨T.toArray⟩, .int .i64 1]) ∧ Below W.heap.size W w')) (HK : ∀ W, Hid (Calls Tryz.prog 44 #[.agg #[.int .i64 c1, .int .i64 c2, .int .i64 c3, .int .i64 c4, .int .i64 c5, .int .i64 c6]] W fun r w' => r = .returned (.int .i64 1) ∧ Below W.heap.size W w')) (HS : ∀ W, Below w.heap.size w W → Hid (Calls Tryz.prog 40 #[.slice a n cap] W fun r w' => r = .returned (.tuple #[.string ⟨S.toArray⟩, .int .i64 f]) ∧ Below W.heap.size W w')) (HT : ∀ W, Cell0 W → Hid (Calls Tryz.prog 23 #[.string ⟨text.toArray⟩] W fun r w' => r = .returned (.tuple #[.agg #[.int .i64 0, .int .i64 0, .int .i64 0, .int .i64 0, .int .i64 0, .int .i64 0], .int .i64 h]) ∧ Below W.heap.size W w')) :
    Calls Tryz.prog 12 #[.agg #[.int .i64 c1, .int .i64 c2, .int .i64 c3, .int .i64 c4, .int .i64 c5, .int .i64 c6], .slice a n cap, .string ⟨text.toArray⟩] w fun e w' => e = .returned (.bool true) ∧ Below w.heap.size w w' := by
  have HL := Lib.hid hL
  have HN := Lib.hid hn
  clear hL hn
  go_enter Tryz.func12, Tryz.ntmps12
  go_wp2_with fail
  refine call_named (fun V => Below w.heap.size w V ∧ Hid (V.heap[w.heap.size]? = some (cellsOf ⟨c1, c2, c3, c4, c5, c6⟩))) ⟨xa (xr _) _, newA _ _ _ rfl⟩ ?_
  rintro X0 ⟨hB, K⟩
  refine ((HP _ (HE.out.below hB)).out).mono ?_
  rintro r X1 ⟨rfl, hb⟩
  replace K := keepB hb K
  replace hB := hB.trans (hb.mono hB.size)
  clear hb
  obtain ⟨t0, t1, t2, t3, t4, t5, tF, tL⟩ := cellsOf_at K.out
  go_wp2_with fail
  refine ((HK _).out).mono ?_
  rintro r X2 ⟨rfl, hb⟩
  clear t0 t1 t2 t3 t4 t5 tF tL
  replace hB := hB.trans (hb.mono hB.size)
  clear hb K
  go_wp2_with fail
  refine ((HS _ hB).out).mono ?_
  rintro r X3 ⟨rfl, hb⟩
  replace hB := hB.trans (hb.mono hB.size)
  clear hb
  go_wp2_with fail
  obtain ⟨X5, hX5⟩ : ∃ X5, X3 = X5 := ⟨_, rfl⟩
  rw [hX5] at hB ⊢
  clear hX5
  refine ((HT _ (HC.out.below hB HC.out.lt)).out).mono ?_
  rintro r X6 ⟨rfl, hb⟩
  replace hB := hB.trans (hb.mono hB.size)
  clear hb
  obtain ⟨B, hBs⟩ : ∃ b, X6.heap.size = b := ⟨_, rfl⟩
  go_wp2_with fail
  try rw [hBs]
  refine call_named (fun V => Below w.heap.size w V ∧ Hid (V.heap[B]? = some (cellsOf ⟨0, 0, 0, 0, 0, 0⟩))) ⟨xa hB _, newA _ _ _ hBs⟩ ?_
  clear hB hBs
  rintro X7 ⟨hB, K⟩
  refine (c22 _ (HE.out.below hB) (HC.out.below hB HC.out.lt)).mono ?_
  rintro r X8 ⟨rfl, hb⟩
  replace K := keepB hb K
  replace hB := hB.trans (hb.mono hB.size)
  clear hb
  obtain ⟨t0, t1, t2, t3, t4, t5, tF, tL⟩ := cellsOf_at K.out
  go_wp2_with fail
  go_ret
  exact ⟨rfl, hB⟩
end Go.Proofs.YthifeoebefbalaaGreatDoor
