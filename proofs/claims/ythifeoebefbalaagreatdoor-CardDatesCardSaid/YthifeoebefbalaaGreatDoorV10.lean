/- The law CardDates: the walk, the ending number 2. -/
import Derived.Test.YthifeoebefbalaaGreatDoorV7
set_option linter.unusedVariables false
set_option linter.unusedSimpArgs false
namespace Go.Proofs.YthifeoebefbalaaGreatDoor
open Go.RowKit

set_option maxRecDepth 1000000 in
set_option maxHeartbeats 40000000 in
theorem c6_2 (day y m d letters suffix : Int) (N PW DW MW YW F0 F1 F2 F3 F4 F5 F6 F7 : List UInt8) (w : World) (m1 : 1 ≤ m) (m2 : m ≤ 12) (g0 : 0 ≤ letters) (g1 : letters ≤ 255) (hs : suffix % 4 = 2)
    (s0 : 0 ≤ suffix) (s1 : suffix ≤ 255) (HN : Hid (monCaps[m.toNat - 1]? = some N)) (n1 : 3 ≤ N.length) (n2 : N.length ≤ 9) (q : Int) (hq : letters % ((N.length : Int) - 2) = q) (hq0 : 0 ≤ q) (hq1 : q < (N.length : Int) - 2) (HP : Hid (N.take (3 + q).toNat = PW)) (l1 : PW.length ≤ 9) (l2 : DW.length ≤ 2) (l3 : MW.length ≤ 2) (l4 : YW.length ≤ 4)
    (E0 : Hid (DW ++ 32 :: (PW ++ 32 :: YW) = F0)) (lF0 : F0.length ≤ 40) (E1 : Hid (DW ++ 114 :: 100 :: 32 :: (PW ++ 46 :: 32 :: YW) = F1)) (lF1 : F1.length ≤ 40) (E2 : Hid (PW ++ 32 :: (DW ++ 114 :: 100 :: 44 :: 32 :: YW) = F2)) (lF2 : F2.length ≤ 40) (E3 : Hid (PW ++ 32 :: (DW ++ 44 :: 32 :: YW) = F3)) (lF3 : F3.length ≤ 40) (E4 : Hid (DW ++ 47 :: (MW ++ 47 :: YW) = F4)) (lF4 : F4.length ≤ 40) (E5 : Hid (DW ++ 46 :: (MW ++ 46 :: YW) = F5)) (lF5 : F5.length ≤ 40) (E6 : Hid (DW ++ 45 :: (MW ++ 45 :: YW) = F6)) (lF6 : F6.length ≤ 40) (E7 : Hid (YW ++ 45 :: (MW ++ 45 :: DW) = F7)) (lF7 : F7.length ≤ 40) (HE : Hid (Env w)) (HC : Hid (Cell0 w)) (HD : ∀ W, Hid (Calls Tryz.prog 29 #[.int .i64 day] W fun r w' => r = .returned (.tuple #[.agg #[.int .i64 y, .int .i64 m, .int .i64 d], .int .i64 0]) ∧ Below W.heap.size W w')) (H31d : ∀ W, Hid (Calls Tryz.prog 31 #[.int .i64 d] W fun r w' => r = .returned (.string ⟨(DW).toArray⟩) ∧ Below W.heap.size W w')) (H31m : ∀ W, Hid (Calls Tryz.prog 31 #[.int .i64 m] W fun r w' => r = .returned (.string ⟨(MW).toArray⟩) ∧ Below W.heap.size W w')) (H32 : ∀ W, Hid (Calls Tryz.prog 32 #[.int .i64 y] W fun r w' => r = .returned (.string ⟨(YW).toArray⟩) ∧ Below W.heap.size W w')) (A0 : ∀ W, Cell0 W → Hid (Calls Tryz.prog 27 #[.string ⟨(53 :: 32 :: (F0 ++ [32, 50, 32, 100, 97, 121, 115, 32, 110, 105, 108])).toArray⟩, .agg #[.int .i64 5, .int .i64 day, .int .i64 2, .int .i64 3, .int .i64 0, .int .i64 0], .int .i64 0] W fun r w' => r = .returned (.bool true) ∧ Below W.heap.size W w')) (B0 : ∀ W, Cell0 W → Hid (Calls Tryz.prog 27 #[.string ⟨(35 :: 53 :: 32 :: (F0 ++ [32, 102, 111, 114, 32, 50, 100, 32, 45])).toArray⟩, .agg #[.int .i64 5, .int .i64 day, .int .i64 2, .int .i64 3, .int .i64 0, .int .i64 0], .int .i64 0] W fun r w' => r = .returned (.bool true) ∧ Below W.heap.size W w')) (A1 : ∀ W, Cell0 W → Hid (Calls Tryz.prog 27 #[.string ⟨(53 :: 32 :: (F1 ++ [32, 50, 32, 100, 97, 121, 115, 32, 110, 105, 108])).toArray⟩, .agg #[.int .i64 5, .int .i64 day, .int .i64 2, .int .i64 3, .int .i64 0, .int .i64 0], .int .i64 0] W fun r w' => r = .returned (.bool true) ∧ Below W.heap.size W w')) (B1 : ∀ W, Cell0 W → Hid (Calls Tryz.prog 27 #[.string ⟨(35 :: 53 :: 32 :: (F1 ++ [32, 102, 111, 114, 32, 50, 100, 32, 45])).toArray⟩, .agg #[.int .i64 5, .int .i64 day, .int .i64 2, .int .i64 3, .int .i64 0, .int .i64 0], .int .i64 0] W fun r w' => r = .returned (.bool true) ∧ Below W.heap.size W w')) (A2 : ∀ W, Cell0 W → Hid (Calls Tryz.prog 27 #[.string ⟨(53 :: 32 :: (F2 ++ [32, 50, 32, 100, 97, 121, 115, 32, 110, 105, 108])).toArray⟩, .agg #[.int .i64 5, .int .i64 day, .int .i64 2, .int .i64 3, .int .i64 0, .int .i64 0], .int .i64 0] W fun r w' => r = .returned (.bool true) ∧ Below W.heap.size W w')) (B2 : ∀ W, Cell0 W → Hid (Calls Tryz.prog 27 #[.string ⟨(35 :: 53 :: 32 :: (F2 ++ [32, 102, 111, 114, 32, 50, 100, 32, 45])).toArray⟩, .agg #[.int .i64 5, .int .i64 day, .int .i64 2, .int .i64 3, .int .i64 0, .int .i64 0], .int .i64 0] W fun r w' => r = .returned (.bool true) ∧ Below W.heap.size W w')) (A3 : ∀ W, Cell0 W → Hid (Calls Tryz.prog 27 #[.string ⟨(53 :: 32 :: (F3 ++ [32, 50, 32, 100, 97, 121, 115, 32, 110, 105, 108])).toArray⟩, .agg #[.int .i64 5, .int .i64 day, .int .i64 2, .int .i64 3, .int .i64 0, .int .i64 0], .int .i64 0] W fun r w' => r = .returned (.bool true) ∧ Below W.heap.size W w')) (B3 : ∀ W, Cell0 W → Hid (Calls Tryz.prog 27 #[.string ⟨(35 :: 53 :: 32 :: (F3 ++ [32, 102, 111, 114, 32, 50, 100, 32, 45])).toArray⟩, .agg #[.int .i64 5, .int .i64 day, .int .i64 2, .int .i64 3, .int .i64 0, .int .i64 0], .int .i64 0] W fun r w' => r = .returned (.bool true) ∧ Below W.heap.size W w')) (A4 : ∀ W, Cell0 W → Hid (Calls Tryz.prog 27 #[.string ⟨(53 :: 32 :: (F4 ++ [32, 50, 32, 100, 97, 121, 115, 32, 110, 105, 108])).toArray⟩, .agg #[.int .i64 5, .int .i64 day, .int .i64 2, .int .i64 3, .int .i64 0, .int .i64 0], .int .i64 0] W fun r w' => r = .returned (.bool true) ∧ Below W.heap.size W w')) (B4 : ∀ W, Cell0 W → Hid (Calls Tryz.prog 27 #[.string ⟨(35 :: 53 :: 32 :: (F4 ++ [32, 102, 111, 114, 32, 50, 100, 32, 45])).toArray⟩, .agg #[.int .i64 5, .int .i64 day, .int .i64 2, .int .i64 3, .int .i64 0, .int .i64 0], .int .i64 0] W fun r w' => r = .returned (.bool true) ∧ Below W.heap.size W w')) (A5 : ∀ W, Cell0 W → Hid (Calls Tryz.prog 27 #[.string ⟨(53 :: 32 :: (F5 ++ [32, 50, 32, 100, 97, 121, 115, 32, 110, 105, 108])).toArray⟩, .agg #[.int .i64 5, .int .i64 day, .int .i64 2, .int .i64 3, .int .i64 0, .int .i64 0], .int .i64 0] W fun r w' => r = .returned (.bool true) ∧ Below W.heap.size W w')) (B5 : ∀ W, Cell0 W → Hid (Calls Tryz.prog 27 #[.string ⟨(35 :: 53 :: 32 :: (F5 ++ [32, 102, 111, 114, 32, 50, 100, 32, 45])).toArray⟩, .agg #[.int .i64 5, .int .i64 day, .int .i64 2, .int .i64 3, .int .i64 0, .int .i64 0], .int .i64 0] W fun r w' => r = .returned (.bool true) ∧ Below W.heap.size W w')) (A6 : ∀ W, Cell0 W → Hid (Calls Tryz.prog 27 #[.string ⟨(53 :: 32 :: (F6 ++ [32, 50, 32, 100, 97, 121, 115, 32, 110, 105, 108])).toArray⟩, .agg #[.int .i64 5, .int .i64 day, .int .i64 2, .int .i64 3, .int .i64 0, .int .i64 0], .int .i64 0] W fun r w' => r = .returned (.bool true) ∧ Below W.heap.size W w')) (B6 : ∀ W, Cell0 W → Hid (Calls Tryz.prog 27 #[.string ⟨(35 :: 53 :: 32 :: (F6 ++ [32, 102, 111, 114, 32, 50, 100, 32, 45])).toArray⟩, .agg #[.int .i64 5, .int .i64 day, .int .i64 2, .int .i64 3, .int .i64 0, .int .i64 0], .int .i64 0] W fun r w' => r = .returned (.bool true) ∧ Below W.heap.size W w')) (A7 : ∀ W, Cell0 W → Hid (Calls Tryz.prog 27 #[.string ⟨(53 :: 32 :: (F7 ++ [32, 50, 32, 100, 97, 121, 115, 32, 110, 105, 108])).toArray⟩, .agg #[.int .i64 5, .int .i64 day, .int .i64 2, .int .i64 3, .int .i64 0, .int .i64 0], .int .i64 0] W fun r w' => r = .returned (.bool true) ∧ Below W.heap.size W w')) (B7 : ∀ W, Cell0 W → Hid (Calls Tryz.prog 27 #[.string ⟨(35 :: 53 :: 32 :: (F7 ++ [32, 102, 111, 114, 32, 50, 100, 32, 45])).toArray⟩, .agg #[.int .i64 5, .int .i64 day, .int .i64 2, .int .i64 3, .int .i64 0, .int .i64 0], .int .i64 0] W fun r w' => r = .returned (.bool true) ∧ Below W.heap.size W w')) :
    Calls Tryz.prog 6 #[.int .i64 day, .int .u8 letters, .int .u8 suffix] w fun e w' => e = .returned (.bool true) ∧ Below w.heap.size w w' := by
  go_enter Tryz.func6, Tryz.ntmps6
  go_wp2_with fail
  refine (HD _).out.mono ?_
  rintro r X1 ⟨rfl, hb⟩
  obtain ⟨B, hBs⟩ : ∃ b, X1.heap.size = b := ⟨_, rfl⟩
  have hgeB : w.heap.size ≤ B := by rw [← hBs]; exact hb.size
  go_wp2_with fail
  try rw [hBs]
  refine wp_box (fun V => Below w.heap.size w V ∧ Hid (V.heap[B]? = some (dateOf y m d))) ⟨xa hb _, newA _ _ _ hBs⟩ ?_
  clear hb hBs
  rintro V ⟨hB, K⟩
  obtain ⟨t0, t1, t2, tF, tL⟩ := dateOf_at K.out
  refine wp_region_grows V (by kernel_rfl) (Grown.refl _) fun x => ?_
  refine WG_take0 (v := ?_) (a' := ?_) 1 rfl (by kernel_rfl) (by kernel_rfl) (by kernel_rfl) ⟨rfl, fun y => ?_⟩ ?_ 39 rfl (by kernel_rfl) fun x => ?_
  rotate_left 2
  · go_big_quiet_op; exact rfl
  · exact rfl
  refine WG_take0 (v := ?_) (a' := ?_) 2 rfl (by kernel_rfl) (by kernel_rfl) (by kernel_rfl) ⟨rfl, fun y => ?_⟩ ?_ 40 rfl (by kernel_rfl) fun x => ?_
  rotate_left 2
  · go_big_quiet_op; exact rfl
  · exact rfl
  refine WG_take0 (v := ?_) (a' := ?_) 3 rfl (by kernel_rfl) (by kernel_rfl) (by kernel_rfl) ⟨rfl, fun y => ?_⟩ ?_ 41 rfl (by kernel_rfl) fun x => ?_
  rotate_left 2
  · go_big_quiet_op; exact rfl
  · exact rfl
  refine WG_all [0] (by kernel_rfl) (by simp) fun i hi => ?_
  rcases List.mem_singleton.1 hi with rfl
  refine WG_op rfl rfl fun K' hK => ?_
  go_big_op
  refine (c30 _).mono ?_
  rintro e x2 ⟨rfl, rfl⟩
  refine hK _ _ ⟨xa (Grown.gw _ _) _, fun z => ?_⟩
  obtain ⟨p, w1, e1, e2, p1, p2, p3, p4, pF, p5⟩ := new_at (Grown.gw V x) monCapArr 9 z
  rw [e1, e2]
  have q1 : w1.cell? ⟨p, m.toNat - 1, none⟩ = some (.string ⟨N.toArray⟩) := by rw [p5]; exact cap_at HN.out
  clear e1 e2 p5 pF p3
  refine WG_all [4] (by kernel_rfl) (by simp) fun i hi => ?_
  rcases List.mem_singleton.1 hi with rfl
  refine WG_op rfl rfl fun K' hK => ?_
  go_big_op
  refine hK _ _ ⟨p2, fun z => ?_⟩
  obtain ⟨w2, hw2, G2⟩ : ∃ w2, gw w1 z = w2 ∧ Grown w1 w2 := ⟨_, rfl, Grown.gw _ _⟩
  rw [hw2]
  have q2 : w2.cell? ⟨p, m.toNat - 1, none⟩ = some (.string ⟨N.toArray⟩) := (kept G2 p4).trans q1
  have r2 : p < w2.heap.size := Nat.lt_of_lt_of_le p4 G2.size
  have P2 : Grown V w2 := p2.trans G2
  clear hw2 G2 q1 p4 p2 hi
  refine WG_all [5] (by kernel_rfl) (by simp) fun i hi => ?_
  rcases List.mem_singleton.1 hi with rfl
  refine WG_op rfl rfl fun K' hK => ?_
  go_big_op
  refine hK _ _ ⟨P2, fun z => ?_⟩
  obtain ⟨w3, hw3, G3⟩ : ∃ w3, gw w2 z = w3 ∧ Grown w2 w3 := ⟨_, rfl, Grown.gw _ _⟩
  rw [hw3]
  have P3 : Grown V w3 := P2.trans G3
  clear hw3 G3 q2 r2 P2 hi
  refine WG_all [6] (by kernel_rfl) (by simp) fun i hi => ?_
  rcases List.mem_singleton.1 hi with rfl
  refine WG_op rfl rfl fun K' hK => ?_
  go_big_op
  refine hK _ _ ⟨P3, fun z => ?_⟩
  obtain ⟨w4, hw4, G4⟩ : ∃ w4, gw w3 z = w4 ∧ Grown w3 w4 := ⟨_, rfl, Grown.gw _ _⟩
  rw [hw4]
  have P4 : Grown V w4 := P3.trans G4
  clear hw4 G4 P3 hi p1
  refine WG_done (by kernel_rfl) ?_ _
  unfold NoPanic
  replace K := keepB P4 K
  replace hB := hB.trans (P4.mono hB.size)
  clear P4 t0 t1 t2 tF tL
  have hge : w.heap.size ≤ B := hgeB
  obtain ⟨t0, t1, t2, tF, tL⟩ := dateOf_at K.out
  go_wp2_with fail
  refine call_named (fun V => Below w.heap.size w V ∧ Hid (V.heap[B]? = some (dateOf y m d))) ⟨hB, K⟩ ?_
  clear hB K t0 t1 t2 tF tL
  rintro V1 ⟨hB, K⟩
  rw [HP.out]
  refine (H31d _).out.mono ?_
  rintro r X2 ⟨rfl, hb⟩
  replace K := keepB hb K
  replace hB := hB.trans (hb.mono hB.size)
  clear hb
  obtain ⟨t0, t1, t2, tF, tL⟩ := dateOf_at K.out
  go_wp2_with fail
  refine call_named (fun V => Below w.heap.size w V ∧ Hid (V.heap[B]? = some (dateOf y m d))) ⟨xa hB _, keepA K _⟩ ?_
  clear hB K t0 t1 t2 tF tL
  rintro V2 ⟨hB, K⟩
  refine (H32 _).out.mono ?_
  rintro r X3 ⟨rfl, hb⟩
  replace K := keepB hb K
  replace hB := hB.trans (hb.mono hB.size)
  clear hb
  obtain ⟨t0, t1, t2, tF, tL⟩ := dateOf_at K.out
  go_wp2_with fail
  refine wp_region_grows X3 (by kernel_rfl) (Grown.refl _) fun x => ?_
  refine WG_take0 (v := ?_) (a' := ?_) 0 rfl (by kernel_rfl) (by kernel_rfl) (by kernel_rfl) ⟨rfl, fun y => ?_⟩ ?_ 64 rfl (by kernel_rfl) fun x => ?_
  rotate_left 2
  · go_big_quiet_op; exact rfl
  · exact rfl
  refine WG_take0 (v := ?_) (a' := ?_) 1 rfl (by kernel_rfl) (by kernel_rfl) (by kernel_rfl) ⟨rfl, fun y => ?_⟩ ?_ 65 rfl (by kernel_rfl) fun x => ?_
  rotate_left 2
  · go_big_quiet_op; exact rfl
  · exact rfl
  refine WG_take0 (v := ?_) (a' := ?_) 2 rfl (by kernel_rfl) (by kernel_rfl) (by kernel_rfl) ⟨rfl, fun y => ?_⟩ ?_ 66 rfl (by kernel_rfl) fun x => ?_
  rotate_left 2
  · go_big_quiet_op; exact rfl
  · exact rfl
  refine WG_take0 (v := ?_) (a' := ?_) 3 rfl (by kernel_rfl) (by kernel_rfl) (by kernel_rfl) ⟨rfl, fun y => ?_⟩ ?_ 67 rfl (by kernel_rfl) fun x => ?_
  rotate_left 2
  · go_big_quiet_op; exact rfl
  · exact rfl
  refine WG_take0 (v := ?_) (a' := ?_) 4 rfl (by kernel_rfl) (by kernel_rfl) (by kernel_rfl) ⟨rfl, fun y => ?_⟩ ?_ 68 rfl (by kernel_rfl) fun x => ?_
  rotate_left 2
  · go_big_quiet_op; exact rfl
  · exact rfl
  refine WG_take0 (v := ?_) (a' := ?_) 5 rfl (by kernel_rfl) (by kernel_rfl) (by kernel_rfl) ⟨rfl, fun y => ?_⟩ ?_ 69 rfl (by kernel_rfl) fun x => ?_
  rotate_left 2
  · go_big_quiet_op; exact rfl
  · exact rfl
  refine WG_take0 (v := ?_) (a' := ?_) 6 rfl (by kernel_rfl) (by kernel_rfl) (by kernel_rfl) ⟨rfl, fun y => ?_⟩ ?_ 70 rfl (by kernel_rfl) fun x => ?_
  rotate_left 2
  · go_big_quiet_op; exact rfl
  · exact rfl
  refine WG_take0 (v := ?_) (a' := ?_) 7 rfl (by kernel_rfl) (by kernel_rfl) (by kernel_rfl) ⟨rfl, fun y => ?_⟩ ?_ 71 rfl (by kernel_rfl) fun x => ?_
  rotate_left 2
  · go_big_quiet_op; exact rfl
  · exact rfl
  refine WG_take0 (v := ?_) (a' := ?_) 8 rfl (by kernel_rfl) (by kernel_rfl) (by kernel_rfl) ⟨rfl, fun y => ?_⟩ ?_ 72 rfl (by kernel_rfl) fun x => ?_
  rotate_left 2
  · go_big_quiet_op; exact rfl
  · exact rfl
  refine WG_take0 (v := ?_) (a' := ?_) 9 rfl (by kernel_rfl) (by kernel_rfl) (by kernel_rfl) ⟨rfl, fun y => ?_⟩ ?_ 73 rfl (by kernel_rfl) fun x => ?_
  rotate_left 2
  · go_big_quiet_op; exact rfl
  · exact rfl
  refine WG_take0 (v := ?_) (a' := ?_) 10 rfl (by kernel_rfl) (by kernel_rfl) (by kernel_rfl) ⟨rfl, fun y => ?_⟩ ?_ 74 rfl (by kernel_rfl) fun x => ?_
  rotate_left 2
  · go_big_quiet_op; exact rfl
  · exact rfl
  refine WG_take0 (v := ?_) (a' := ?_) 11 rfl (by kernel_rfl) (by kernel_rfl) (by kernel_rfl) ⟨rfl, fun y => ?_⟩ ?_ 75 rfl (by kernel_rfl) fun x => ?_
  rotate_left 2
  · go_big_quiet_op; exact rfl
  · exact rfl
  refine WG_take0 (v := ?_) (a' := ?_) 12 rfl (by kernel_rfl) (by kernel_rfl) (by kernel_rfl) ⟨rfl, fun y => ?_⟩ ?_ 76 rfl (by kernel_rfl) fun x => ?_
  rotate_left 2
  · go_big_quiet_op; exact rfl
  · exact rfl
  refine WG_take0 (v := ?_) (a' := ?_) 13 rfl (by kernel_rfl) (by kernel_rfl) (by kernel_rfl) ⟨rfl, fun y => ?_⟩ ?_ 77 rfl (by kernel_rfl) fun x => ?_
  rotate_left 2
  · go_big_quiet_op; exact rfl
  · exact rfl
  refine WG_take0 (v := ?_) (a' := ?_) 14 rfl (by kernel_rfl) (by kernel_rfl) (by kernel_rfl) ⟨rfl, fun y => ?_⟩ ?_ 78 rfl (by kernel_rfl) fun x => ?_
  rotate_left 2
  · go_big_quiet_op; exact rfl
  · exact rfl
  refine WG_take0 (v := ?_) (a' := ?_) 15 rfl (by kernel_rfl) (by kernel_rfl) (by kernel_rfl) ⟨rfl, fun y => ?_⟩ ?_ 79 rfl (by kernel_rfl) fun x => ?_
  rotate_left 2
  · go_big_quiet_op; exact rfl
  · exact rfl
  refine WG_take0 (v := ?_) (a' := ?_) 16 rfl (by kernel_rfl) (by kernel_rfl) (by kernel_rfl) ⟨rfl, fun y => ?_⟩ ?_ 80 rfl (by kernel_rfl) fun x => ?_
  rotate_left 2
  · go_big_quiet_op; exact rfl
  · exact rfl
  refine WG_take0 (v := ?_) (a' := ?_) 17 rfl (by kernel_rfl) (by kernel_rfl) (by kernel_rfl) ⟨rfl, fun y => ?_⟩ ?_ 81 rfl (by kernel_rfl) fun x => ?_
  rotate_left 2
  · go_big_quiet_op; exact rfl
  · exact rfl
  refine WG_take0 (v := ?_) (a' := ?_) 18 rfl (by kernel_rfl) (by kernel_rfl) (by kernel_rfl) ⟨rfl, fun y => ?_⟩ ?_ 82 rfl (by kernel_rfl) fun x => ?_
  rotate_left 2
  · go_big_quiet_op; exact rfl
  · exact rfl
  refine WG_take0 (v := ?_) (a' := ?_) 19 rfl (by kernel_rfl) (by kernel_rfl) (by kernel_rfl) ⟨rfl, fun y => ?_⟩ ?_ 83 rfl (by kernel_rfl) fun x => ?_
  rotate_left 2
  · go_big_quiet_op; exact rfl
  · exact rfl
  refine WG_take0 (v := ?_) (a' := ?_) 20 rfl (by kernel_rfl) (by kernel_rfl) (by kernel_rfl) ⟨rfl, fun y => ?_⟩ ?_ 84 rfl (by kernel_rfl) fun x => ?_
  rotate_left 2
  · go_big_quiet_op; exact rfl
  · exact rfl
  refine WG_take0 (v := ?_) (a' := ?_) 21 rfl (by kernel_rfl) (by kernel_rfl) (by kernel_rfl) ⟨rfl, fun y => ?_⟩ ?_ 85 rfl (by kernel_rfl) fun x => ?_
  rotate_left 2
  · go_big_quiet_op; exact rfl
  · exact rfl
  refine WG_take0 (v := ?_) (a' := ?_) 22 rfl (by kernel_rfl) (by kernel_rfl) (by kernel_rfl) ⟨rfl, fun y => ?_⟩ ?_ 86 rfl (by kernel_rfl) fun x => ?_
  rotate_left 2
  · go_big_quiet_op; exact rfl
  · exact rfl
  refine WG_take0 (v := ?_) (a' := ?_) 23 rfl (by kernel_rfl) (by kernel_rfl) (by kernel_rfl) ⟨rfl, fun y => ?_⟩ ?_ 87 rfl (by kernel_rfl) fun x => ?_
  rotate_left 2
  · go_big_quiet_op; exact rfl
  · exact rfl
  refine WG_take0 (v := ?_) (a' := ?_) 24 rfl (by kernel_rfl) (by kernel_rfl) (by kernel_rfl) ⟨rfl, fun y => ?_⟩ ?_ 88 rfl (by kernel_rfl) fun x => ?_
  rotate_left 2
  · go_big_quiet_op; exact rfl
  · exact rfl
  refine WG_take0 (v := ?_) (a' := ?_) 25 rfl (by kernel_rfl) (by kernel_rfl) (by kernel_rfl) ⟨rfl, fun y => ?_⟩ ?_ 89 rfl (by kernel_rfl) fun x => ?_
  rotate_left 2
  · go_big_quiet_op; exact rfl
  · exact rfl
  refine WG_take0 (v := ?_) (a' := ?_) 26 rfl (by kernel_rfl) (by kernel_rfl) (by kernel_rfl) ⟨rfl, fun y => ?_⟩ ?_ 90 rfl (by kernel_rfl) fun x => ?_
  rotate_left 2
  · go_big_quiet_op; exact rfl
  · exact rfl
  refine WG_take0 (v := ?_) (a' := ?_) 27 rfl (by kernel_rfl) (by kernel_rfl) (by kernel_rfl) ⟨rfl, fun y => ?_⟩ ?_ 91 rfl (by kernel_rfl) fun x => ?_
  rotate_left 2
  · go_big_quiet_op; exact rfl
  · exact rfl
  refine WG_take0 (v := ?_) (a' := ?_) 28 rfl (by kernel_rfl) (by kernel_rfl) (by kernel_rfl) ⟨rfl, fun y => ?_⟩ ?_ 92 rfl (by kernel_rfl) fun x => ?_
  rotate_left 2
  · go_big_quiet_op; exact rfl
  · exact rfl
  refine WG_take0 (v := ?_) (a' := ?_) 29 rfl (by kernel_rfl) (by kernel_rfl) (by kernel_rfl) ⟨rfl, fun y => ?_⟩ ?_ 93 rfl (by kernel_rfl) fun x => ?_
  rotate_left 2
  · go_big_quiet_op; exact rfl
  · exact rfl
  refine WG_take0 (v := ?_) (a' := ?_) 30 rfl (by kernel_rfl) (by kernel_rfl) (by kernel_rfl) ⟨rfl, fun y => ?_⟩ ?_ 94 rfl (by kernel_rfl) fun x => ?_
  rotate_left 2
  · go_big_quiet_op; exact rfl
  · exact rfl
  refine WG_take0 (v := ?_) (a' := ?_) 31 rfl (by kernel_rfl) (by kernel_rfl) (by kernel_rfl) ⟨rfl, fun y => ?_⟩ ?_ 95 rfl (by kernel_rfl) fun x => ?_
  rotate_left 2
  · go_big_quiet_op; exact rfl
  · exact rfl
  refine WG_take0 (v := ?_) (a' := ?_) 32 rfl (by kernel_rfl) (by kernel_rfl) (by kernel_rfl) ⟨rfl, fun y => ?_⟩ ?_ 96 rfl (by kernel_rfl) fun x => ?_
  rotate_left 2
  · go_big_quiet_op; exact rfl
  · exact rfl
  refine WG_take0 (v := ?_) (a' := ?_) 33 rfl (by kernel_rfl) (by kernel_rfl) (by kernel_rfl) ⟨rfl, fun y => ?_⟩ ?_ 97 rfl (by kernel_rfl) fun x => ?_
  rotate_left 2
  · go_big_quiet_op; exact rfl
  · exact rfl
  refine WG_take0 (v := ?_) (a' := ?_) 34 rfl (by kernel_rfl) (by kernel_rfl) (by kernel_rfl) ⟨rfl, fun y => ?_⟩ ?_ 98 rfl (by kernel_rfl) fun x => ?_
  rotate_left 2
  · go_big_quiet_op; exact rfl
  · exact rfl
  refine WG_take0 (v := ?_) (a' := ?_) 35 rfl (by kernel_rfl) (by kernel_rfl) (by kernel_rfl) ⟨rfl, fun y => ?_⟩ ?_ 99 rfl (by kernel_rfl) fun x => ?_
  rotate_left 2
  · go_big_quiet_op; exact rfl
  · exact rfl
  refine WG_take0 (v := ?_) (a' := ?_) 36 rfl (by kernel_rfl) (by kernel_rfl) (by kernel_rfl) ⟨rfl, fun y => ?_⟩ ?_ 100 rfl (by kernel_rfl) fun x => ?_
  rotate_left 2
  · go_big_quiet_op
    apply Exists.intro; refine ⟨fun n => ?_, ?_⟩
    · go_at_call 31
      exact gw_call (H31m _).out
    exact rfl
  · exact rfl
  refine WG_take0 (v := ?_) (a' := ?_) 37 rfl (by kernel_rfl) (by kernel_rfl) (by kernel_rfl) ⟨rfl, fun y => ?_⟩ ?_ 101 rfl (by kernel_rfl) fun x => ?_
  rotate_left 2
  · go_big_quiet_op; exact rfl
  · exact rfl
  refine WG_take0 (v := ?_) (a' := ?_) 38 rfl (by kernel_rfl) (by kernel_rfl) (by kernel_rfl) ⟨rfl, fun y => ?_⟩ ?_ 102 rfl (by kernel_rfl) fun x => ?_
  rotate_left 2
  · go_big_quiet_op; exact rfl
  · exact rfl
  refine WG_take0 (v := ?_) (a' := ?_) 39 rfl (by kernel_rfl) (by kernel_rfl) (by kernel_rfl) ⟨rfl, fun y => ?_⟩ ?_ 103 rfl (by kernel_rfl) fun x => ?_
  rotate_left 2
  · go_big_quiet_op; exact rfl
  · exact rfl
  refine WG_take0 (v := ?_) (a' := ?_) 40 rfl (by kernel_rfl) (by kernel_rfl) (by kernel_rfl) ⟨rfl, fun y => ?_⟩ ?_ 104 rfl (by kernel_rfl) fun x => ?_
  rotate_left 2
  · go_big_quiet_op; exact rfl
  · exact rfl
  refine WG_take0 (v := ?_) (a' := ?_) 41 rfl (by kernel_rfl) (by kernel_rfl) (by kernel_rfl) ⟨rfl, fun y => ?_⟩ ?_ 105 rfl (by kernel_rfl) fun x => ?_
  rotate_left 2
  · go_big_quiet_op; exact rfl
  · exact rfl
  refine WG_take0 (v := ?_) (a' := ?_) 42 rfl (by kernel_rfl) (by kernel_rfl) (by kernel_rfl) ⟨rfl, fun y => ?_⟩ ?_ 106 rfl (by kernel_rfl) fun x => ?_
  rotate_left 2
  · go_big_quiet_op; exact rfl
  · exact rfl
  refine WG_take0 (v := ?_) (a' := ?_) 43 rfl (by kernel_rfl) (by kernel_rfl) (by kernel_rfl) ⟨rfl, fun y => ?_⟩ ?_ 107 rfl (by kernel_rfl) fun x => ?_
  rotate_left 2
  · go_big_quiet_op; exact rfl
  · exact rfl
  refine WG_take0 (v := ?_) (a' := ?_) 44 rfl (by kernel_rfl) (by kernel_rfl) (by kernel_rfl) ⟨rfl, fun y => ?_⟩ ?_ 108 rfl (by kernel_rfl) fun x => ?_
  rotate_left 2
  · go_big_quiet_op; exact rfl
  · exact rfl
  refine WG_take0 (v := ?_) (a' := ?_) 45 rfl (by kernel_rfl) (by kernel_rfl) (by kernel_rfl) ⟨rfl, fun y => ?_⟩ ?_ 109 rfl (by kernel_rfl) fun x => ?_
  rotate_left 2
  · go_big_quiet_op
    apply Exists.intro; refine ⟨fun n => ?_, ?_⟩
    · go_at_call 31
      exact gw_call (H31m _).out
    exact rfl
  · exact rfl
  refine WG_take0 (v := ?_) (a' := ?_) 46 rfl (by kernel_rfl) (by kernel_rfl) (by kernel_rfl) ⟨rfl, fun y => ?_⟩ ?_ 110 rfl (by kernel_rfl) fun x => ?_
  rotate_left 2
  · go_big_quiet_op; exact rfl
  · exact rfl
  refine WG_take0 (v := ?_) (a' := ?_) 47 rfl (by kernel_rfl) (by kernel_rfl) (by kernel_rfl) ⟨rfl, fun y => ?_⟩ ?_ 111 rfl (by kernel_rfl) fun x => ?_
  rotate_left 2
  · go_big_quiet_op; exact rfl
  · exact rfl
  refine WG_take0 (v := ?_) (a' := ?_) 48 rfl (by kernel_rfl) (by kernel_rfl) (by kernel_rfl) ⟨rfl, fun y => ?_⟩ ?_ 112 rfl (by kernel_rfl) fun x => ?_
  rotate_left 2
  · go_big_quiet_op; exact rfl
  · exact rfl
  refine WG_take0 (v := ?_) (a' := ?_) 49 rfl (by kernel_rfl) (by kernel_rfl) (by kernel_rfl) ⟨rfl, fun y => ?_⟩ ?_ 113 rfl (by kernel_rfl) fun x => ?_
  rotate_left 2
  · go_big_quiet_op; exact rfl
  · exact rfl
  refine WG_take0 (v := ?_) (a' := ?_) 50 rfl (by kernel_rfl) (by kernel_rfl) (by kernel_rfl) ⟨rfl, fun y => ?_⟩ ?_ 114 rfl (by kernel_rfl) fun x => ?_
  rotate_left 2
  · go_big_quiet_op; exact rfl
  · exact rfl
  refine WG_take0 (v := ?_) (a' := ?_) 51 rfl (by kernel_rfl) (by kernel_rfl) (by kernel_rfl) ⟨rfl, fun y => ?_⟩ ?_ 115 rfl (by kernel_rfl) fun x => ?_
  rotate_left 2
  · go_big_quiet_op; exact rfl
  · exact rfl
  refine WG_take0 (v := ?_) (a' := ?_) 52 rfl (by kernel_rfl) (by kernel_rfl) (by kernel_rfl) ⟨rfl, fun y => ?_⟩ ?_ 116 rfl (by kernel_rfl) fun x => ?_
  rotate_left 2
  · go_big_quiet_op; exact rfl
  · exact rfl
  refine WG_take0 (v := ?_) (a' := ?_) 53 rfl (by kernel_rfl) (by kernel_rfl) (by kernel_rfl) ⟨rfl, fun y => ?_⟩ ?_ 117 rfl (by kernel_rfl) fun x => ?_
  rotate_left 2
  · go_big_quiet_op; exact rfl
  · exact rfl
  refine WG_take0 (v := ?_) (a' := ?_) 54 rfl (by kernel_rfl) (by kernel_rfl) (by kernel_rfl) ⟨rfl, fun y => ?_⟩ ?_ 118 rfl (by kernel_rfl) fun x => ?_
  rotate_left 2
  · go_big_quiet_op
    apply Exists.intro; refine ⟨fun n => ?_, ?_⟩
    · go_at_call 31
      exact gw_call (H31m _).out
    exact rfl
  · exact rfl
  refine WG_take0 (v := ?_) (a' := ?_) 55 rfl (by kernel_rfl) (by kernel_rfl) (by kernel_rfl) ⟨rfl, fun y => ?_⟩ ?_ 119 rfl (by kernel_rfl) fun x => ?_
  rotate_left 2
  · go_big_quiet_op; exact rfl
  · exact rfl
  refine WG_take0 (v := ?_) (a' := ?_) 56 rfl (by kernel_rfl) (by kernel_rfl) (by kernel_rfl) ⟨rfl, fun y => ?_⟩ ?_ 120 rfl (by kernel_rfl) fun x => ?_
  rotate_left 2
  · go_big_quiet_op; exact rfl
  · exact rfl
  refine WG_take0 (v := ?_) (a' := ?_) 57 rfl (by kernel_rfl) (by kernel_rfl) (by kernel_rfl) ⟨rfl, fun y => ?_⟩ ?_ 121 rfl (by kernel_rfl) fun x => ?_
  rotate_left 2
  · go_big_quiet_op; exact rfl
  · exact rfl
  refine WG_take0 (v := ?_) (a' := ?_) 58 rfl (by kernel_rfl) (by kernel_rfl) (by kernel_rfl) ⟨rfl, fun y => ?_⟩ ?_ 122 rfl (by kernel_rfl) fun x => ?_
  rotate_left 2
  · go_big_quiet_op; exact rfl
  · exact rfl
  refine WG_take0 (v := ?_) (a' := ?_) 59 rfl (by kernel_rfl) (by kernel_rfl) (by kernel_rfl) ⟨rfl, fun y => ?_⟩ ?_ 123 rfl (by kernel_rfl) fun x => ?_
  rotate_left 2
  · go_big_quiet_op; exact rfl
  · exact rfl
  refine WG_take0 (v := ?_) (a' := ?_) 60 rfl (by kernel_rfl) (by kernel_rfl) (by kernel_rfl) ⟨rfl, fun y => ?_⟩ ?_ 124 rfl (by kernel_rfl) fun x => ?_
  rotate_left 2
  · go_big_quiet_op; exact rfl
  · exact rfl
  refine WG_take0 (v := ?_) (a' := ?_) 61 rfl (by kernel_rfl) (by kernel_rfl) (by kernel_rfl) ⟨rfl, fun y => ?_⟩ ?_ 125 rfl (by kernel_rfl) fun x => ?_
  rotate_left 2
  · go_big_quiet_op; exact rfl
  · exact rfl
  refine WG_take0 (v := ?_) (a' := ?_) 62 rfl (by kernel_rfl) (by kernel_rfl) (by kernel_rfl) ⟨rfl, fun y => ?_⟩ ?_ 126 rfl (by kernel_rfl) fun x => ?_
  rotate_left 2
  · go_big_quiet_op; exact rfl
  · exact rfl
  refine WG_take0 (v := ?_) (a' := ?_) 63 rfl (by kernel_rfl) (by kernel_rfl) (by kernel_rfl) ⟨rfl, fun y => ?_⟩ ?_ 127 rfl (by kernel_rfl) fun x => ?_
  rotate_left 2
  · go_big_quiet_op
    apply Exists.intro; refine ⟨fun n => ?_, ?_⟩
    · go_at_call 31
      exact gw_call (H31m _).out
    exact rfl
  · exact rfl
  refine WG_take0 (v := ?_) (a' := ?_) 64 rfl (by kernel_rfl) (by kernel_rfl) (by kernel_rfl) ⟨rfl, fun y => ?_⟩ ?_ 128 rfl (by kernel_rfl) fun x => ?_
  rotate_left 2
  · go_big_quiet_op; exact rfl
  · exact rfl
  refine WG_take0 (v := ?_) (a' := ?_) 65 rfl (by kernel_rfl) (by kernel_rfl) (by kernel_rfl) ⟨rfl, fun y => ?_⟩ ?_ 129 rfl (by kernel_rfl) fun x => ?_
  rotate_left 2
  · go_big_quiet_op; exact rfl
  · exact rfl
  refine WG_take0 (v := ?_) (a' := ?_) 66 rfl (by kernel_rfl) (by kernel_rfl) (by kernel_rfl) ⟨rfl, fun y => ?_⟩ ?_ 130 rfl (by kernel_rfl) fun x => ?_
  rotate_left 2
  · go_big_quiet_op; exact rfl
  · exact rfl
  refine WG_take0 (v := ?_) (a' := ?_) 67 rfl (by kernel_rfl) (by kernel_rfl) (by kernel_rfl) ⟨rfl, fun y => ?_⟩ ?_ 131 rfl (by kernel_rfl) fun x => ?_
  rotate_left 2
  · go_big_quiet_op; exact rfl
  · exact rfl
  refine WG_all [68] (by kernel_rfl) (by simp) fun i hi => ?_
  rcases List.mem_singleton.1 hi with rfl
  refine WG_op rfl rfl fun K' hK => ?_
  go_big_op
  rw [E0.out, E1.out, E2.out, E3.out, E4.out, E5.out, E6.out, E7.out]
  refine hK _ _ ⟨xa (Grown.gw _ _) _, fun z => ?_⟩
  obtain ⟨p, w5, e1, e2, p1, p2, p3, p4, pF, p5⟩ := new_at (Grown.gw X3 x) #[.string ⟨F0.toArray⟩, .string ⟨F1.toArray⟩, .string ⟨F2.toArray⟩, .string ⟨F3.toArray⟩, .string ⟨F4.toArray⟩, .string ⟨F5.toArray⟩, .string ⟨F6.toArray⟩, .string ⟨F7.toArray⟩] 9 z
  rw [e1, e2]
  have SS : Hid (StrCells w5 p [F0, F1, F2, F3, F4, F5, F6, F7]) := Lib.hid (str_cells p4 p5)
  clear e1 e2 p1 p3 p4 p5 pF hi
  refine WG_all [69] (by kernel_rfl) (by simp) fun i hi => ?_
  rcases List.mem_singleton.1 hi with rfl
  refine WG_op rfl rfl fun K' hK => ?_
  go_big_op
  refine hK _ _ ⟨p2, fun z => ?_⟩
  obtain ⟨w6, hw6, G6⟩ : ∃ w6, gw w5 z = w6 ∧ Grown w5 w6 := ⟨_, rfl, Grown.gw _ _⟩
  rw [hw6]
  replace SS := strKeep SS G6
  have P6 : Grown X3 w6 := p2.trans G6
  clear hw6 G6 p2 hi
  refine WG_done (by kernel_rfl) ?_ _
  unfold NoPanic
  replace hB := hB.trans (P6.mono hB.size)
  clear P6 K t0 t1 t2 tF tL
  obtain ⟨C, hCs⟩ : ∃ b, w6.heap.size = b := ⟨_, rfl⟩
  go_wp2_with fail
  try rw [hCs]
  refine wp_box (fun V => Below w.heap.size w V ∧ Hid (StrCells V p [F0, F1, F2, F3, F4, F5, F6, F7]) ∧ Hid (V.heap[C]? = some (cellsOf ⟨5, day, 2, 3, 0, 0⟩))) ⟨xa hB _, strKeep SS (below_alloc _ _), newA _ _ _ hCs⟩ ?_
  clear hB SS hCs
  rintro U ⟨hB, SS, K⟩
  obtain ⟨t0, t1, t2, t3, t4, t5, tF, tL⟩ := cellsOf_at K.out
  have pL : p < U.heap.size := SS.out.1
  go_loopw [15] (fun i wr => ∃ k : Nat, k ≤ 8 ∧ i = .int .i64 k ∧ ∃ x, wr = gw U x) (fun i _ => (10 - intOf i).toNat)
  case atStart => exact ⟨0, by omega, rfl, of_below (xr _)⟩
  case round =>
    obtain ⟨k, hk, rfl, x, rfl⟩ := hrel
    have hcase : k = 0 ∨ k = 1 ∨ k = 2 ∨ k = 3 ∨ k = 4 ∨ k = 5 ∨ k = 6 ∨ k = 7 ∨ k = 8 := by omega
    rcases hcase with rfl | rfl | rfl | rfl | rfl | rfl | rfl | rfl | rfl
    · have ck : U.cell? ⟨p, 0, none⟩ = some (.string ⟨F0.toArray⟩) := SS.out.2 0 F0 rfl
      go_wp2_with fail
      refine wp_region_gwn U (by kernel_rfl) (by kernel_rfl) (gw_below _ _) ?_
      repeat (go_big_quiet_step (first | (go_at_call 27; with_reducible exact gw_call (A0 _ (HC.out.below (hB.trans ((gw_below _ _).mono hB.size)) HC.out.lt)).out) | (go_at_call 27; with_reducible exact gw_call (B0 _ (HC.out.below (hB.trans ((gw_below _ _).mono hB.size)) HC.out.lt)).out)))
      refine wpQuiet_nil ?_
      rintro _ ⟨x2, rfl⟩
      go_wp2_with fail
      go_roundw
      case rel => exact ⟨1, by omega, rfl, _, rfl⟩
      case measure => simp [intOf]
    · have ck : U.cell? ⟨p, 1, none⟩ = some (.string ⟨F1.toArray⟩) := SS.out.2 1 F1 rfl
      go_wp2_with fail
      refine wp_region_gwn U (by kernel_rfl) (by kernel_rfl) (gw_below _ _) ?_
      repeat (go_big_quiet_step (first | (go_at_call 27; with_reducible exact gw_call (A1 _ (HC.out.below (hB.trans ((gw_below _ _).mono hB.size)) HC.out.lt)).out) | (go_at_call 27; with_reducible exact gw_call (B1 _ (HC.out.below (hB.trans ((gw_below _ _).mono hB.size)) HC.out.lt)).out)))
      refine wpQuiet_nil ?_
      rintro _ ⟨x2, rfl⟩
      go_wp2_with fail
      go_roundw
      case rel => exact ⟨2, by omega, rfl, _, rfl⟩
      case measure => simp [intOf]
    · have ck : U.cell? ⟨p, 2, none⟩ = some (.string ⟨F2.toArray⟩) := SS.out.2 2 F2 rfl
      go_wp2_with fail
      refine wp_region_gwn U (by kernel_rfl) (by kernel_rfl) (gw_below _ _) ?_
      repeat (go_big_quiet_step (first | (go_at_call 27; with_reducible exact gw_call (A2 _ (HC.out.below (hB.trans ((gw_below _ _).mono hB.size)) HC.out.lt)).out) | (go_at_call 27; with_reducible exact gw_call (B2 _ (HC.out.below (hB.trans ((gw_below _ _).mono hB.size)) HC.out.lt)).out)))
      refine wpQuiet_nil ?_
      rintro _ ⟨x2, rfl⟩
      go_wp2_with fail
      go_roundw
      case rel => exact ⟨3, by omega, rfl, _, rfl⟩
      case measure => simp [intOf]
    · have ck : U.cell? ⟨p, 3, none⟩ = some (.string ⟨F3.toArray⟩) := SS.out.2 3 F3 rfl
      go_wp2_with fail
      refine wp_region_gwn U (by kernel_rfl) (by kernel_rfl) (gw_below _ _) ?_
      repeat (go_big_quiet_step (first | (go_at_call 27; with_reducible exact gw_call (A3 _ (HC.out.below (hB.trans ((gw_below _ _).mono hB.size)) HC.out.lt)).out) | (go_at_call 27; with_reducible exact gw_call (B3 _ (HC.out.below (hB.trans ((gw_below _ _).mono hB.size)) HC.out.lt)).out)))
      refine wpQuiet_nil ?_
      rintro _ ⟨x2, rfl⟩
      go_wp2_with fail
      go_roundw
      case rel => exact ⟨4, by omega, rfl, _, rfl⟩
      case measure => simp [intOf]
    · have ck : U.cell? ⟨p, 4, none⟩ = some (.string ⟨F4.toArray⟩) := SS.out.2 4 F4 rfl
      go_wp2_with fail
      refine wp_region_gwn U (by kernel_rfl) (by kernel_rfl) (gw_below _ _) ?_
      repeat (go_big_quiet_step (first | (go_at_call 27; with_reducible exact gw_call (A4 _ (HC.out.below (hB.trans ((gw_below _ _).mono hB.size)) HC.out.lt)).out) | (go_at_call 27; with_reducible exact gw_call (B4 _ (HC.out.below (hB.trans ((gw_below _ _).mono hB.size)) HC.out.lt)).out)))
      refine wpQuiet_nil ?_
      rintro _ ⟨x2, rfl⟩
      go_wp2_with fail
      go_roundw
      case rel => exact ⟨5, by omega, rfl, _, rfl⟩
      case measure => simp [intOf]
    · have ck : U.cell? ⟨p, 5, none⟩ = some (.string ⟨F5.toArray⟩) := SS.out.2 5 F5 rfl
      go_wp2_with fail
      refine wp_region_gwn U (by kernel_rfl) (by kernel_rfl) (gw_below _ _) ?_
      repeat (go_big_quiet_step (first | (go_at_call 27; with_reducible exact gw_call (A5 _ (HC.out.below (hB.trans ((gw_below _ _).mono hB.size)) HC.out.lt)).out) | (go_at_call 27; with_reducible exact gw_call (B5 _ (HC.out.below (hB.trans ((gw_below _ _).mono hB.size)) HC.out.lt)).out)))
      refine wpQuiet_nil ?_
      rintro _ ⟨x2, rfl⟩
      go_wp2_with fail
      go_roundw
      case rel => exact ⟨6, by omega, rfl, _, rfl⟩
      case measure => simp [intOf]
    · have ck : U.cell? ⟨p, 6, none⟩ = some (.string ⟨F6.toArray⟩) := SS.out.2 6 F6 rfl
      go_wp2_with fail
      refine wp_region_gwn U (by kernel_rfl) (by kernel_rfl) (gw_below _ _) ?_
      repeat (go_big_quiet_step (first | (go_at_call 27; with_reducible exact gw_call (A6 _ (HC.out.below (hB.trans ((gw_below _ _).mono hB.size)) HC.out.lt)).out) | (go_at_call 27; with_reducible exact gw_call (B6 _ (HC.out.below (hB.trans ((gw_below _ _).mono hB.size)) HC.out.lt)).out)))
      refine wpQuiet_nil ?_
      rintro _ ⟨x2, rfl⟩
      go_wp2_with fail
      go_roundw
      case rel => exact ⟨7, by omega, rfl, _, rfl⟩
      case measure => simp [intOf]
    · have ck : U.cell? ⟨p, 7, none⟩ = some (.string ⟨F7.toArray⟩) := SS.out.2 7 F7 rfl
      go_wp2_with fail
      refine wp_region_gwn U (by kernel_rfl) (by kernel_rfl) (gw_below _ _) ?_
      repeat (go_big_quiet_step (first | (go_at_call 27; with_reducible exact gw_call (A7 _ (HC.out.below (hB.trans ((gw_below _ _).mono hB.size)) HC.out.lt)).out) | (go_at_call 27; with_reducible exact gw_call (B7 _ (HC.out.below (hB.trans ((gw_below _ _).mono hB.size)) HC.out.lt)).out)))
      refine wpQuiet_nil ?_
      rintro _ ⟨x2, rfl⟩
      go_wp2_with fail
      go_roundw
      case rel => exact ⟨8, by omega, rfl, _, rfl⟩
      case measure => simp [intOf]
    · go_wp2_with (go_at_call 22; refine (c22 _ (HE.out.below (hB.trans ((gw_below _ _).mono hB.size))) (HC.out.below (hB.trans ((gw_below _ _).mono hB.size)) HC.out.lt)).mono ?_; rintro e w9 ⟨rfl, hb9⟩)
      go_ret
      exact ⟨rfl, (hB.trans ((gw_below _ _).mono hB.size)).trans (hb9.mono (hB.trans ((gw_below _ _).mono hB.size)).size)⟩
end Go.Proofs.YthifeoebefbalaaGreatDoor
