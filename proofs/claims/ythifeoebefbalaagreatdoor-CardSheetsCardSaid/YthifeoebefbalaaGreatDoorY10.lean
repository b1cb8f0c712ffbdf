/- The reference: what ends a card, behind a date of its own. -/
import Derived.Test.YthifeoebefbalaaGreatDoorY9
set_option linter.unusedVariables false
set_option linter.unusedSimpArgs false
namespace Go.Proofs.YthifeoebefbalaaGreatDoor
open Go.RowKit

set_option maxRecDepth 100000 in
set_option maxHeartbeats 16000000 in
theorem c119f_z0 (cap : Nat) (hck : ¬ cap = 0) (st da : Int) (w : World) (hd0 : -1 ≤ da) (hd1 : da ≤ 100000)
    (H158 : ∀ W, Below w.heap.size w W → Hid (Calls Tryz.prog 158 #[.slice none 0 cap] W fun e w' => e = .returned (.agg #[.int .i64 1, .int .i64 0]) ∧ Below W.heap.size W w'))
    : Calls Tryz.prog 119 #[.agg #[.int .i64 st, .int .i64 da, .int .i64 0, .int .i64 0, .int .i64 0, .int .i64 0], .slice none 0 cap, .bool false] w fun e w' => e = .returned (.agg #[.int .i64 (0), .int .i64 (0), .int .i64 (0), .int .i64 (0), .int .i64 (0), .int .i64 (0), .int .i64 (7)]) ∧ Below w.heap.size w w' := by
  go_enter Tryz.func119, Tryz.ntmps119
  go_wp2_with fail
  refine (H158 _ (FinSt.start w st da).b0).out.mono ?_
  rintro e W1 ⟨rfl, hb⟩
  have st1 := (FinSt.start w st da).grow hb
  clear hb
  obtain ⟨b0, kl, rl, k0, k1, k2, k3, k4, k5, kF, r0, r1, r2, r3, r4, r5, r6, rF⟩ := id st1
  have hb1 := b0.size
  have ne2 : ¬ w.heap.size = W1.heap.size := by omega
  have ne3 : ¬ w.heap.size + 1 = W1.heap.size := by omega
  clear hb1
  go_wp2_with fail
  obtain ⟨Y, hY, hR, hS, hB⟩ := store7i ((FinSt.set2 st1 1)).res (0) (0) (0) (0) (0) (0) (7)
  rw [hY]
  clear hY
  have hb0 := hB w ((FinSt.set2 st1 1)).b0 (by omega)
  clear hB hS b0 kl rl k0 k1 k2 k3 k4 k5 kF r0 r1 r2 r3 r4 r5 r6 rF ne2 ne3 
  have hZ := below_alloc Y (.cells #[.int .i64 1, .int .i64 0] 183)
  obtain ⟨Z, hZZ⟩ : ∃ Z, Y.alloc (.cells #[.int .i64 1, .int .i64 0] 183) = Z := ⟨_, rfl⟩
  rw [hZZ] at hZ ⊢
  replace hR := hR.grow hZ
  replace hb0 := below_trans hb0 hZ
  clear hZ hZZ
  obtain ⟨c0, c1, c2, c3, c4, c5, c6, cF⟩ := hR
  exact bodyPost_ret (v := .agg #[.int .i64 (0), .int .i64 (0), .int .i64 (0), .int .i64 (0), .int .i64 (0), .int .i64 (0), .int .i64 (7)]) (by simp [results, Tryz.results119, go_sem, c0, c1, c2, c3, c4, c5, c6]) rfl ⟨rfl, by repeat (first | exact xr _ | exact hb0 | apply xa | apply xg | (refine xs ?_ (by simp) _))⟩
set_option maxRecDepth 100000 in
set_option maxHeartbeats 16000000 in
theorem c119f_z1 (st da : Int) (w : World) (hd0 : -1 ≤ da) (hd1 : da ≤ 100000)
    (H158 : ∀ W, Below w.heap.size w W → Hid (Calls Tryz.prog 158 #[.slice none 0 0] W fun e w' => e = .returned (.agg #[.int .i64 1, .int .i64 0]) ∧ Below W.heap.size W w'))
    : Calls Tryz.prog 119 #[.agg #[.int .i64 st, .int .i64 da, .int .i64 0, .int .i64 0, .int .i64 0, .int .i64 0], .slice none 0 0, .bool false] w fun e w' => e = .returned (.agg #[.int .i64 (0), .int .i64 (0), .int .i64 (0), .int .i64 (0), .int .i64 (0), .int .i64 (0), .int .i64 (7)]) ∧ Below w.heap.size w w' := by
  go_enter Tryz.func119, Tryz.ntmps119
  go_wp2_with fail
  refine (H158 _ (FinSt.start w st da).b0).out.mono ?_
  rintro e W1 ⟨rfl, hb⟩
  have st1 := (FinSt.start w st da).grow hb
  clear hb
  obtain ⟨b0, kl, rl, k0, k1, k2, k3, k4, k5, kF, r0, r1, r2, r3, r4, r5, r6, rF⟩ := id st1
  have hb1 := b0.size
  have ne2 : ¬ w.heap.size = W1.heap.size := by omega
  have ne3 : ¬ w.heap.size + 1 = W1.heap.size := by omega
  clear hb1
  go_wp2_with fail
  obtain ⟨Y, hY, hR, hS, hB⟩ := store7i ((FinSt.set2 st1 1)).res (0) (0) (0) (0) (0) (0) (7)
  rw [hY]
  clear hY
  have hb0 := hB w ((FinSt.set2 st1 1)).b0 (by omega)
  clear hB hS b0 kl rl k0 k1 k2 k3 k4 k5 kF r0 r1 r2 r3 r4 r5 r6 rF ne2 ne3 
  have hZ := below_alloc Y (.cells #[.int .i64 1, .int .i64 0] 183)
  obtain ⟨Z, hZZ⟩ : ∃ Z, Y.alloc (.cells #[.int .i64 1, .int .i64 0] 183) = Z := ⟨_, rfl⟩
  rw [hZZ] at hZ ⊢
  replace hR := hR.grow hZ
  replace hb0 := below_trans hb0 hZ
  clear hZ hZZ
  obtain ⟨c0, c1, c2, c3, c4, c5, c6, cF⟩ := hR
  exact bodyPost_ret (v := .agg #[.int .i64 (0), .int .i64 (0), .int .i64 (0), .int .i64 (0), .int .i64 (0), .int .i64 (0), .int .i64 (7)]) (by simp [results, Tryz.results119, go_sem, c0, c1, c2, c3, c4, c5, c6]) rfl ⟨rfl, by repeat (first | exact xr _ | exact hb0 | apply xa | apply xg | (refine xs ?_ (by simp) _))⟩
set_option maxRecDepth 100000 in
set_option maxHeartbeats 16000000 in
theorem c119f_z2 (p : Addr) (cap : Nat) (hck : ¬ cap = 0) (st da : Int) (w : World) (hd0 : -1 ≤ da) (hd1 : da ≤ 100000)
    (H158 : ∀ W, Below w.heap.size w W → Hid (Calls Tryz.prog 158 #[.slice (some p) 0 cap] W fun e w' => e = .returned (.agg #[.int .i64 1, .int .i64 0]) ∧ Below W.heap.size W w'))
    : Calls Tryz.prog 119 #[.agg #[.int .i64 st, .int .i64 da, .int .i64 0, .int .i64 0, .int .i64 0, .int .i64 0], .slice (some p) 0 cap, .bool false] w fun e w' => e = .returned (.agg #[.int .i64 (0), .int .i64 (0), .int .i64 (0), .int .i64 (0), .int .i64 (0), .int .i64 (0), .int .i64 (7)]) ∧ Below w.heap.size w w' := by
  obtain ⟨g, o, pth⟩ := p
  go_enter Tryz.func119, Tryz.ntmps119
  go_wp2_with fail
  refine (H158 _ (FinSt.start w st da).b0).out.mono ?_
  rintro e W1 ⟨rfl, hb⟩
  have st1 := (FinSt.start w st da).grow hb
  clear hb
  obtain ⟨b0, kl, rl, k0, k1, k2, k3, k4, k5, kF, r0, r1, r2, r3, r4, r5, r6, rF⟩ := id st1
  have hb1 := b0.size
  have ne2 : ¬ w.heap.size = W1.heap.size := by omega
  have ne3 : ¬ w.heap.size + 1 = W1.heap.size := by omega
  clear hb1
  go_wp2_with fail
  obtain ⟨Y, hY, hR, hS, hB⟩ := store7i ((FinSt.set2 st1 1)).res (0) (0) (0) (0) (0) (0) (7)
  rw [hY]
  clear hY
  have hb0 := hB w ((FinSt.set2 st1 1)).b0 (by omega)
  clear hB hS b0 kl rl k0 k1 k2 k3 k4 k5 kF r0 r1 r2 r3 r4 r5 r6 rF ne2 ne3 
  have hZ := below_alloc Y (.cells #[.int .i64 1, .int .i64 0] 183)
  obtain ⟨Z, hZZ⟩ : ∃ Z, Y.alloc (.cells #[.int .i64 1, .int .i64 0] 183) = Z := ⟨_, rfl⟩
  rw [hZZ] at hZ ⊢
  replace hR := hR.grow hZ
  replace hb0 := below_trans hb0 hZ
  clear hZ hZZ
  obtain ⟨c0, c1, c2, c3, c4, c5, c6, cF⟩ := hR
  exact bodyPost_ret (v := .agg #[.int .i64 (0), .int .i64 (0), .int .i64 (0), .int .i64 (0), .int .i64 (0), .int .i64 (0), .int .i64 (7)]) (by simp [results, Tryz.results119, go_sem, c0, c1, c2, c3, c4, c5, c6]) rfl ⟨rfl, by repeat (first | exact xr _ | exact hb0 | apply xa | apply xg | (refine xs ?_ (by simp) _))⟩
set_option maxRecDepth 100000 in
set_option maxHeartbeats 16000000 in
theorem c119f_z3 (p : Addr) (st da : Int) (w : World) (hd0 : -1 ≤ da) (hd1 : da ≤ 100000)
    (H158 : ∀ W, Below w.heap.size w W → Hid (Calls Tryz.prog 158 #[.slice (some p) 0 0] W fun e w' => e = .returned (.agg #[.int .i64 1, .int .i64 0]) ∧ Below W.heap.size W w'))
    : Calls Tryz.prog 119 #[.agg #[.int .i64 st, .int .i64 da, .int .i64 0, .int .i64 0, .int .i64 0, .int .i64 0], .slice (some p) 0 0, .bool false] w fun e w' => e = .returned (.agg #[.int .i64 (0), .int .i64 (0), .int .i64 (0), .int .i64 (0), .int .i64 (0), .int .i64 (0), .int .i64 (7)]) ∧ Below w.heap.size w w' := by
  obtain ⟨g, o, pth⟩ := p
  go_enter Tryz.func119, Tryz.ntmps119
  go_wp2_with fail
  refine (H158 _ (FinSt.start w st da).b0).out.mono ?_
  rintro e W1 ⟨rfl, hb⟩
  have st1 := (FinSt.start w st da).grow hb
  clear hb
  obtain ⟨b0, kl, rl, k0, k1, k2, k3, k4, k5, kF, r0, r1, r2, r3, r4, r5, r6, rF⟩ := id st1
  have hb1 := b0.size
  have ne2 : ¬ w.heap.size = W1.heap.size := by omega
  have ne3 : ¬ w.heap.size + 1 = W1.heap.size := by omega
  clear hb1
  go_wp2_with fail
  obtain ⟨Y, hY, hR, hS, hB⟩ := store7i ((FinSt.set2 st1 1)).res (0) (0) (0) (0) (0) (0) (7)
  rw [hY]
  clear hY
  have hb0 := hB w ((FinSt.set2 st1 1)).b0 (by omega)
  clear hB hS b0 kl rl k0 k1 k2 k3 k4 k5 kF r0 r1 r2 r3 r4 r5 r6 rF ne2 ne3 
  have hZ := below_alloc Y (.cells #[.int .i64 1, .int .i64 0] 183)
  obtain ⟨Z, hZZ⟩ : ∃ Z, Y.alloc (.cells #[.int .i64 1, .int .i64 0] 183) = Z := ⟨_, rfl⟩
  rw [hZZ] at hZ ⊢
  replace hR := hR.grow hZ
  replace hb0 := below_trans hb0 hZ
  clear hZ hZZ
  obtain ⟨c0, c1, c2, c3, c4, c5, c6, cF⟩ := hR
  exact bodyPost_ret (v := .agg #[.int .i64 (0), .int .i64 (0), .int .i64 (0), .int .i64 (0), .int .i64 (0), .int .i64 (0), .int .i64 (7)]) (by simp [results, Tryz.results119, go_sem, c0, c1, c2, c3, c4, c5, c6]) rfl ⟨rfl, by repeat (first | exact xr _ | exact hb0 | apply xa | apply xg | (refine xs ?_ (by simp) _))⟩
set_option maxRecDepth 100000 in
set_option maxHeartbeats 16000000 in
theorem c119f_s0 (g o k : Nat) (st da n : Int) (w : World) (hN : k ≤ 4000) (hg : g < w.heap.size) (hn0 : 0 ≤ n) (hn1 : n < 10000000000) (hd0 : -1 ≤ da) (hd1 : da ≤ 100000)
    (H158 : ∀ W, Below w.heap.size w W → Hid (Calls Tryz.prog 158 #[.slice (some ⟨g, o, none⟩) k k] W fun e w' => e = .returned (.agg #[.int .i64 n, .int .i64 (k : Int)]) ∧ Below W.heap.size W w'))
    : Calls Tryz.prog 119 #[.agg #[.int .i64 st, .int .i64 da, .int .i64 0, .int .i64 0, .int .i64 0, .int .i64 0], .slice (some ⟨g, o, none⟩) k k, .bool false] w fun e w' => e = .returned (.agg #[.int .i64 (0), .int .i64 (0), .int .i64 (0), .int .i64 (0), .int .i64 (0), .int .i64 (0), .int .i64 (7)]) ∧ Below w.heap.size w w' := by
  have ne4 : ¬ g = w.heap.size := by omega
  have ne5 : ¬ g = w.heap.size + 1 := by omega
  go_enter Tryz.func119, Tryz.ntmps119
  go_wp2_with fail
  refine (H158 _ (FinSt.start w st da).b0).out.mono ?_
  rintro e W1 ⟨rfl, hb⟩
  have st1 := (FinSt.start w st da).grow hb
  clear hb
  obtain ⟨b0, kl, rl, k0, k1, k2, k3, k4, k5, kF, r0, r1, r2, r3, r4, r5, r6, rF⟩ := id st1
  have hb1 := b0.size
  have gl : g < W1.heap.size := by omega
  have ne1 : ¬ g = W1.heap.size := by omega
  have ne2 : ¬ w.heap.size = W1.heap.size := by omega
  have ne3 : ¬ w.heap.size + 1 = W1.heap.size := by omega
  clear hb1
  go_wp2_with fail
  obtain ⟨Y, hY, hR, hS, hB⟩ := store7i ((FinSt.set2 st1 n)).res (0) (0) (0) (0) (0) (0) (7)
  rw [hY]
  clear hY
  have hb0 := hB w ((FinSt.set2 st1 n)).b0 (by omega)
  clear hB hS b0 kl rl k0 k1 k2 k3 k4 k5 kF r0 r1 r2 r3 r4 r5 r6 rF gl ne1 ne2 ne3 
  have hZ := below_alloc Y (.cells #[.int .i64 n, .int .i64 (k : Int)] 183)
  obtain ⟨Z, hZZ⟩ : ∃ Z, Y.alloc (.cells #[.int .i64 n, .int .i64 (k : Int)] 183) = Z := ⟨_, rfl⟩
  rw [hZZ] at hZ ⊢
  replace hR := hR.grow hZ
  replace hb0 := below_trans hb0 hZ
  clear hZ hZZ
  obtain ⟨c0, c1, c2, c3, c4, c5, c6, cF⟩ := hR
  exact bodyPost_ret (v := .agg #[.int .i64 (0), .int .i64 (0), .int .i64 (0), .int .i64 (0), .int .i64 (0), .int .i64 (0), .int .i64 (7)]) (by simp [results, Tryz.results119, go_sem, c0, c1, c2, c3, c4, c5, c6]) rfl ⟨rfl, by repeat (first | exact xr _ | exact hb0 | apply xa | apply xg | (refine xs ?_ (by simp) _))⟩
set_option maxRecDepth 100000 in
set_option maxHeartbeats 16000000 in
theorem c119f_s1 (g o cap k : Nat) (st da n : Int) (m : Nat) (hm1 : ¬ m = 1) (hm3 : ¬ m = 3) (w : World) (hcap : k + m ≤ cap) (hN : k + m ≤ 4000) (hg : g < w.heap.size) (hck : ¬ cap = k) (hn0 : 0 ≤ n) (hn1 : n < 10000000000) (hd0 : -1 ≤ da) (hd1 : da ≤ 100000)
    (H158 : ∀ W, Below w.heap.size w W → Hid (Calls Tryz.prog 158 #[.slice (some ⟨g, o, none⟩) (k + m) cap] W fun e w' => e = .returned (.agg #[.int .i64 n, .int .i64 (k : Int)]) ∧ Below W.heap.size W w'))
    : Calls Tryz.prog 119 #[.agg #[.int .i64 st, .int .i64 da, .int .i64 0, .int .i64 0, .int .i64 0, .int .i64 0], .slice (some ⟨g, o, none⟩) (k + m) cap, .bool false] w fun e w' => e = .returned (.agg #[.int .i64 (0), .int .i64 (0), .int .i64 (0), .int .i64 (0), .int .i64 (0), .int .i64 (0), .int .i64 (7)]) ∧ Below w.heap.size w w' := by
  have ne4 : ¬ g = w.heap.size := by omega
  have ne5 : ¬ g = w.heap.size + 1 := by omega
  go_enter Tryz.func119, Tryz.ntmps119
  go_wp2_with fail
  refine (H158 _ (FinSt.start w st da).b0).out.mono ?_
  rintro e W1 ⟨rfl, hb⟩
  have st1 := (FinSt.start w st da).grow hb
  clear hb
  obtain ⟨b0, kl, rl, k0, k1, k2, k3, k4, k5, kF, r0, r1, r2, r3, r4, r5, r6, rF⟩ := id st1
  have hb1 := b0.size
  have gl : g < W1.heap.size := by omega
  have ne1 : ¬ g = W1.heap.size := by omega
  have ne2 : ¬ w.heap.size = W1.heap.size := by omega
  have ne3 : ¬ w.heap.size + 1 = W1.heap.size := by omega
  clear hb1
  go_wp2_with fail
  obtain ⟨Y, hY, hR, hS, hB⟩ := store7i ((FinSt.set2 st1 n)).res (0) (0) (0) (0) (0) (0) (7)
  rw [hY]
  clear hY
  have hb0 := hB w ((FinSt.set2 st1 n)).b0 (by omega)
  clear hB hS b0 kl rl k0 k1 k2 k3 k4 k5 kF r0 r1 r2 r3 r4 r5 r6 rF gl ne1 ne2 ne3 
  have hZ := below_alloc Y (.cells #[.int .i64 n, .int .i64 (k : Int)] 183)
  obtain ⟨Z, hZZ⟩ : ∃ Z, Y.alloc (.cells #[.int .i64 n, .int .i64 (k : Int)] 183) = Z := ⟨_, rfl⟩
  rw [hZZ] at hZ ⊢
  replace hR := hR.grow hZ
  replace hb0 := below_trans hb0 hZ
  clear hZ hZZ
  obtain ⟨c0, c1, c2, c3, c4, c5, c6, cF⟩ := hR
  exact bodyPost_ret (v := .agg #[.int .i64 (0), .int .i64 (0), .int .i64 (0), .int .i64 (0), .int .i64 (0), .int .i64 (0), .int .i64 (7)]) (by simp [results, Tryz.results119, go_sem, c0, c1, c2, c3, c4, c5, c6]) rfl ⟨rfl, by repeat (first | exact xr _ | exact hb0 | apply xa | apply xg | (refine xs ?_ (by simp) _))⟩
set_option maxRecDepth 100000 in
set_option maxHeartbeats 16000000 in
theorem c119f_k0 (g o cap k : Nat) (st da n : Int) (x : List UInt8) (ki : Int) (hki : ¬ ki = 1) (hkb : (ki == 1) = false) (w : World) (hcap : k + 1 ≤ cap) (hN : k + 1 ≤ 4000) (hg : g < w.heap.size) (hck : ¬ cap = k) (hn0 : 0 ≤ n) (hn1 : n < 10000000000) (hd0 : -1 ≤ da) (hd1 : da ≤ 100000)
    (u0 : w.cell? ⟨g, o + k, none⟩ = some (.string ⟨x.toArray⟩))
    (H158 : ∀ W, Below w.heap.size w W → Hid (Calls Tryz.prog 158 #[.slice (some ⟨g, o, none⟩) (k + 1) cap] W fun e w' => e = .returned (.agg #[.int .i64 n, .int .i64 (k : Int)]) ∧ Below W.heap.size W w'))
    (H159 : ∀ W, Hid (Calls Tryz.prog 159 #[.string ⟨x.toArray⟩] W fun e w' => e = .returned (.int .i64 ki) ∧ Below W.heap.size W w'))
    (H37 : ∀ W, Hid (Calls Tryz.prog 37 #[.agg #[.int .i64 st, .int .i64 (da), .int .i64 n, .int .i64 ki, .int .i64 0, .int .i64 0]] W fun e w' => e = .returned (.bool false) ∧ Below W.heap.size W w'))
    : Calls Tryz.prog 119 #[.agg #[.int .i64 st, .int .i64 da, .int .i64 0, .int .i64 0, .int .i64 0, .int .i64 0], .slice (some ⟨g, o, none⟩) (k + 1) cap, .bool false] w fun e w' => e = .returned (.agg #[.int .i64 (0), .int .i64 (0), .int .i64 (0), .int .i64 (0), .int .i64 (0), .int .i64 (0), .int .i64 (3)]) ∧ Below w.heap.size w w' := by
  have ne4 : ¬ g = w.heap.size := by omega
  have ne5 : ¬ g = w.heap.size + 1 := by omega
  go_enter Tryz.func119, Tryz.ntmps119
  go_wp2_with fail
  refine (H158 _ (FinSt.start w st da).b0).out.mono ?_
  rintro e W1 ⟨rfl, hb⟩
  have st1 := (FinSt.start w st da).grow hb
  clear hb
  obtain ⟨b0, kl, rl, k0, k1, k2, k3, k4, k5, kF, r0, r1, r2, r3, r4, r5, r6, rF⟩ := id st1
  have hb1 := b0.size
  have gl : g < W1.heap.size := by omega
  have ne1 : ¬ g = W1.heap.size := by omega
  have ne2 : ¬ w.heap.size = W1.heap.size := by omega
  have ne3 : ¬ w.heap.size + 1 = W1.heap.size := by omega
  clear hb1
  have q0 := (b0.cell (p := ⟨g, o + k, none⟩) hg).trans u0
  go_wp2_with fail
  refine (H159 _).out.mono ?_
  rintro e W2 ⟨rfl, hb⟩
  have st2 := (FinSt.alloc (FinSt.set2 st1 n) _).grow hb
  clear hb b0 kl rl k0 k1 k2 k3 k4 k5 kF r0 r1 r2 r3 r4 r5 r6 rF gl ne1 ne2 ne3 q0
  obtain ⟨b0, kl, rl, k0, k1, k2, k3, k4, k5, kF, r0, r1, r2, r3, r4, r5, r6, rF⟩ := id st2
  have hb1 := b0.size
  have gl : g < W2.heap.size := by omega
  have ne1 : ¬ g = W2.heap.size := by omega
  have ne2 : ¬ w.heap.size = W2.heap.size := by omega
  have ne3 : ¬ w.heap.size + 1 = W2.heap.size := by omega
  clear hb1
  have q0 := (b0.cell (p := ⟨g, o + k, none⟩) hg).trans u0
  go_wp2_with fail
  refine (H37 _).out.mono ?_
  rintro e W3 ⟨rfl, hb⟩
  have st3 := (FinSt.set3 st2 ki).grow hb
  clear hb b0 kl rl k0 k1 k2 k3 k4 k5 kF r0 r1 r2 r3 r4 r5 r6 rF gl ne1 ne2 ne3 q0
  obtain ⟨b0, kl, rl, k0, k1, k2, k3, k4, k5, kF, r0, r1, r2, r3, r4, r5, r6, rF⟩ := id st3
  have hb1 := b0.size
  have gl : g < W3.heap.size := by omega
  have ne1 : ¬ g = W3.heap.size := by omega
  have ne2 : ¬ w.heap.size = W3.heap.size := by omega
  have ne3 : ¬ w.heap.size + 1 = W3.heap.size := by omega
  clear hb1
  have q0 := (b0.cell (p := ⟨g, o + k, none⟩) hg).trans u0
  go_wp2_with fail
  obtain ⟨Y, hY, hR, hS, hB⟩ := store7i (st3).res (0) (0) (0) (0) (0) (0) (3)
  rw [hY]
  clear hY
  have hb0 := hB w (st3).b0 (by omega)
  clear hB hS b0 kl rl k0 k1 k2 k3 k4 k5 kF r0 r1 r2 r3 r4 r5 r6 rF gl ne1 ne2 ne3 q0
  obtain ⟨c0, c1, c2, c3, c4, c5, c6, cF⟩ := hR
  exact bodyPost_ret (v := .agg #[.int .i64 (0), .int .i64 (0), .int .i64 (0), .int .i64 (0), .int .i64 (0), .int .i64 (0), .int .i64 (3)]) (by simp [results, Tryz.results119, go_sem, c0, c1, c2, c3, c4, c5, c6]) rfl ⟨rfl, by repeat (first | exact xr _ | exact hb0 | apply xa | apply xg | (refine xs ?_ (by simp) _))⟩
set_option maxRecDepth 100000 in
set_option maxHeartbeats 16000000 in
theorem c119f_k1 (g o cap k : Nat) (st da n : Int) (x : List UInt8) (ki : Int) (hki : ¬ ki = 1) (hkb : (ki == 1) = false) (w : World) (hcap : k + 1 ≤ cap) (hN : k + 1 ≤ 4000) (hg : g < w.heap.size) (hck : ¬ cap = k) (hn0 : 0 ≤ n) (hn1 : n < 10000000000) (hd0 : -1 ≤ da) (hd1 : da ≤ 100000)
    (u0 : w.cell? ⟨g, o + k, none⟩ = some (.string ⟨x.toArray⟩))
    (H158 : ∀ W, Below w.heap.size w W → Hid (Calls Tryz.prog 158 #[.slice (some ⟨g, o, none⟩) (k + 1) cap] W fun e w' => e = .returned (.agg #[.int .i64 n, .int .i64 (k : Int)]) ∧ Below W.heap.size W w'))
    (H159 : ∀ W, Hid (Calls Tryz.prog 159 #[.string ⟨x.toArray⟩] W fun e w' => e = .returned (.int .i64 ki) ∧ Below W.heap.size W w'))
    (H37 : ∀ W, Hid (Calls Tryz.prog 37 #[.agg #[.int .i64 st, .int .i64 (da), .int .i64 n, .int .i64 ki, .int .i64 0, .int .i64 0]] W fun e w' => e = .returned (.bool true) ∧ Below W.heap.size W w'))
    : Calls Tryz.prog 119 #[.agg #[.int .i64 st, .int .i64 da, .int .i64 0, .int .i64 0, .int .i64 0, .int .i64 0], .slice (some ⟨g, o, none⟩) (k + 1) cap, .bool false] w fun e w' => e = .returned (.agg #[.int .i64 (st), .int .i64 (da), .int .i64 (n), .int .i64 (ki), .int .i64 (0), .int .i64 (0), .int .i64 (0)]) ∧ Below w.heap.size w w' := by
  have ne4 : ¬ g = w.heap.size := by omega
  have ne5 : ¬ g = w.heap.size + 1 := by omega
  go_enter Tryz.func119, Tryz.ntmps119
  go_wp2_with fail
  refine (H158 _ (FinSt.start w st da).b0).out.mono ?_
  rintro e W1 ⟨rfl, hb⟩
  have st1 := (FinSt.start w st da).grow hb
  clear hb
  obtain ⟨b0, kl, rl, k0, k1, k2, k3, k4, k5, kF, r0, r1, r2, r3, r4, r5, r6, rF⟩ := id st1
  have hb1 := b0.size
  have gl : g < W1.heap.size := by omega
  have ne1 : ¬ g = W1.heap.size := by omega
  have ne2 : ¬ w.heap.size = W1.heap.size := by omega
  have ne3 : ¬ w.heap.size + 1 = W1.heap.size := by omega
  clear hb1
  have q0 := (b0.cell (p := ⟨g, o + k, none⟩) hg).trans u0
  go_wp2_with fail
  refine (H159 _).out.mono ?_
  rintro e W2 ⟨rfl, hb⟩
  have st2 := (FinSt.alloc (FinSt.set2 st1 n) _).grow hb
  clear hb b0 kl rl k0 k1 k2 k3 k4 k5 kF r0 r1 r2 r3 r4 r5 r6 rF gl ne1 ne2 ne3 q0
  obtain ⟨b0, kl, rl, k0, k1, k2, k3, k4, k5, kF, r0, r1, r2, r3, r4, r5, r6, rF⟩ := id st2
  have hb1 := b0.size
  have gl : g < W2.heap.size := by omega
  have ne1 : ¬ g = W2.heap.size := by omega
  have ne2 : ¬ w.heap.size = W2.heap.size := by omega
  have ne3 : ¬ w.heap.size + 1 = W2.heap.size := by omega
  clear hb1
  have q0 := (b0.cell (p := ⟨g, o + k, none⟩) hg).trans u0
  go_wp2_with fail
  refine (H37 _).out.mono ?_
  rintro e W3 ⟨rfl, hb⟩
  have st3 := (FinSt.set3 st2 ki).grow hb
  clear hb b0 kl rl k0 k1 k2 k3 k4 k5 kF r0 r1 r2 r3 r4 r5 r6 rF gl ne1 ne2 ne3 q0
  obtain ⟨b0, kl, rl, k0, k1, k2, k3, k4, k5, kF, r0, r1, r2, r3, r4, r5, r6, rF⟩ := id st3
  have hb1 := b0.size
  have gl : g < W3.heap.size := by omega
  have ne1 : ¬ g = W3.heap.size := by omega
  have ne2 : ¬ w.heap.size = W3.heap.size := by omega
  have ne3 : ¬ w.heap.size + 1 = W3.heap.size := by omega
  clear hb1
  have q0 := (b0.cell (p := ⟨g, o + k, none⟩) hg).trans u0
  go_wp2_with fail
  obtain ⟨Y, hY, hR, hS, hB⟩ := store7i (st3).res (st) (da) (n) (ki) (0) (0) (0)
  rw [hY]
  clear hY
  have hb0 := hB w (st3).b0 (by omega)
  clear hB hS b0 kl rl k0 k1 k2 k3 k4 k5 kF r0 r1 r2 r3 r4 r5 r6 rF gl ne1 ne2 ne3 q0
  obtain ⟨c0, c1, c2, c3, c4, c5, c6, cF⟩ := hR
  exact bodyPost_ret (v := .agg #[.int .i64 (st), .int .i64 (da), .int .i64 (n), .int .i64 (ki), .int .i64 (0), .int .i64 (0), .int .i64 (0)]) (by simp [results, Tryz.results119, go_sem, c0, c1, c2, c3, c4, c5, c6]) rfl ⟨rfl, by repeat (first | exact xr _ | exact hb0 | apply xa | apply xg | (refine xs ?_ (by simp) _))⟩
set_option maxRecDepth 100000 in
set_option maxHeartbeats 16000000 in
theorem c119f_n (g o cap k : Nat) (st da n : Int) (x : List UInt8) (a1 : Int) (w : World) (hcap : k + 1 ≤ cap) (hN : k + 1 ≤ 4000) (hg : g < w.heap.size) (hck : ¬ cap = k) (hn0 : 0 ≤ n) (hn1 : n < 10000000000) (hd0 : -1 ≤ da) (hd1 : da ≤ 100000)
    (u0 : w.cell? ⟨g, o + k, none⟩ = some (.string ⟨x.toArray⟩))
    (H158 : ∀ W, Below w.heap.size w W → Hid (Calls Tryz.prog 158 #[.slice (some ⟨g, o, none⟩) (k + 1) cap] W fun e w' => e = .returned (.agg #[.int .i64 n, .int .i64 (k : Int)]) ∧ Below W.heap.size W w'))
    (H159 : ∀ W, Hid (Calls Tryz.prog 159 #[.string ⟨x.toArray⟩] W fun e w' => e = .returned (.int .i64 1) ∧ Below W.heap.size W w'))
    (HA : ∀ W, Hid (Calls Tryz.prog 160 #[.string ⟨x.toArray⟩] W fun e w' => e = .returned (.agg #[.int .i64 a1, .int .i64 0]) ∧ Below W.heap.size W w'))
    : Calls Tryz.prog 119 #[.agg #[.int .i64 st, .int .i64 da, .int .i64 0, .int .i64 0, .int .i64 0, .int .i64 0], .slice (some ⟨g, o, none⟩) (k + 1) cap, .bool false] w fun e w' => e = .returned (.agg #[.int .i64 (0), .int .i64 (0), .int .i64 (0), .int .i64 (0), .int .i64 (0), .int .i64 (0), .int .i64 (7)]) ∧ Below w.heap.size w w' := by
  have ne4 : ¬ g = w.heap.size := by omega
  have ne5 : ¬ g = w.heap.size + 1 := by omega
  go_enter Tryz.func119, Tryz.ntmps119
  go_wp2_with fail
  refine (H158 _ (FinSt.start w st da).b0).out.mono ?_
  rintro e W1 ⟨rfl, hb⟩
  have st1 := (FinSt.start w st da).grow hb
  clear hb
  obtain ⟨b0, kl, rl, k0, k1, k2, k3, k4, k5, kF, r0, r1, r2, r3, r4, r5, r6, rF⟩ := id st1
  have hb1 := b0.size
  have gl : g < W1.heap.size := by omega
  have ne1 : ¬ g = W1.heap.size := by omega
  have ne2 : ¬ w.heap.size = W1.heap.size := by omega
  have ne3 : ¬ w.heap.size + 1 = W1.heap.size := by omega
  clear hb1
  have q0 := (b0.cell (p := ⟨g, o + k, none⟩) hg).trans u0
  go_wp2_with fail
  refine (H159 _).out.mono ?_
  rintro e W2 ⟨rfl, hb⟩
  have st2 := (FinSt.alloc (FinSt.set2 st1 n) _).grow hb
  clear hb b0 kl rl k0 k1 k2 k3 k4 k5 kF r0 r1 r2 r3 r4 r5 r6 rF gl ne1 ne2 ne3 q0
  obtain ⟨b0, kl, rl, k0, k1, k2, k3, k4, k5, kF, r0, r1, r2, r3, r4, r5, r6, rF⟩ := id st2
  have hb1 := b0.size
  have gl : g < W2.heap.size := by omega
  have ne1 : ¬ g = W2.heap.size := by omega
  have ne2 : ¬ w.heap.size = W2.heap.size := by omega
  have ne3 : ¬ w.heap.size + 1 = W2.heap.size := by omega
  clear hb1
  have q0 := (b0.cell (p := ⟨g, o + k, none⟩) hg).trans u0
  go_wp2_with fail
  refine (HA _).out.mono ?_
  rintro e W3 ⟨rfl, hb⟩
  have st3 := (FinSt.set3 st2 1).grow hb
  clear hb b0 kl rl k0 k1 k2 k3 k4 k5 kF r0 r1 r2 r3 r4 r5 r6 rF gl ne1 ne2 ne3 q0
  obtain ⟨b0, kl, rl, k0, k1, k2, k3, k4, k5, kF, r0, r1, r2, r3, r4, r5, r6, rF⟩ := id st3
  have hb1 := b0.size
  have gl : g < W3.heap.size := by omega
  have ne1 : ¬ g = W3.heap.size := by omega
  have ne2 : ¬ w.heap.size = W3.heap.size := by omega
  have ne3 : ¬ w.heap.size + 1 = W3.heap.size := by omega
  clear hb1
  have q0 := (b0.cell (p := ⟨g, o + k, none⟩) hg).trans u0
  go_wp2_with fail
  obtain ⟨Y, hY, hR, hS, hB⟩ := store7i ((FinSt.set5 (FinSt.set4 st3 a1) 0)).res (0) (0) (0) (0) (0) (0) (7)
  rw [hY]
  clear hY
  have hb0 := hB w ((FinSt.set5 (FinSt.set4 st3 a1) 0)).b0 (by omega)
  clear hB hS b0 kl rl k0 k1 k2 k3 k4 k5 kF r0 r1 r2 r3 r4 r5 r6 rF gl ne1 ne2 ne3 q0
  have hZ := below_alloc Y (.cells #[.int .i64 (a1), .int .i64 (0)] 186)
  obtain ⟨Z, hZZ⟩ : ∃ Z, Y.alloc (.cells #[.int .i64 (a1), .int .i64 (0)] 186) = Z := ⟨_, rfl⟩
  rw [hZZ] at hZ ⊢
  replace hR := hR.grow hZ
  replace hb0 := below_trans hb0 hZ
  clear hZ hZZ
  obtain ⟨c0, c1, c2, c3, c4, c5, c6, cF⟩ := hR
  exact bodyPost_ret (v := .agg #[.int .i64 (0), .int .i64 (0), .int .i64 (0), .int .i64 (0), .int .i64 (0), .int .i64 (0), .int .i64 (7)]) (by simp [results, Tryz.results119, go_sem, c0, c1, c2, c3, c4, c5, c6]) rfl ⟨rfl, by repeat (first | exact xr _ | exact hb0 | apply xa | apply xg | (refine xs ?_ (by simp) _))⟩
set_option maxRecDepth 100000 in
set_option maxHeartbeats 16000000 in
theorem c119f_a0 (g o cap k : Nat) (st da n : Int) (x : List UInt8) (a1 a2 : Int) (ha2 : ¬ a2 = 0) (ha2b : (a2 == 0) = false) (w : World) (hcap : k + 1 ≤ cap) (hN : k + 1 ≤ 4000) (hg : g < w.heap.size) (hck : ¬ cap = k) (hn0 : 0 ≤ n) (hn1 : n < 10000000000) (hd0 : -1 ≤ da) (hd1 : da ≤ 100000)
    (u0 : w.cell? ⟨g, o + k, none⟩ = some (.string ⟨x.toArray⟩))
    (H158 : ∀ W, Below w.heap.size w W → Hid (Calls Tryz.prog 158 #[.slice (some ⟨g, o, none⟩) (k + 1) cap] W fun e w' => e = .returned (.agg #[.int .i64 n, .int .i64 (k : Int)]) ∧ Below W.heap.size W w'))
    (H159 : ∀ W, Hid (Calls Tryz.prog 159 #[.string ⟨x.toArray⟩] W fun e w' => e = .returned (.int .i64 1) ∧ Below W.heap.size W w'))
    (HA : ∀ W, Hid (Calls Tryz.prog 160 #[.string ⟨x.toArray⟩] W fun e w' => e = .returned (.agg #[.int .i64 a1, .int .i64 a2]) ∧ Below W.heap.size W w'))
    (H37 : ∀ W, Hid (Calls Tryz.prog 37 #[.agg #[.int .i64 st, .int .i64 (da), .int .i64 n, .int .i64 1, .int .i64 a1, .int .i64 a2]] W fun e w' => e = .returned (.bool false) ∧ Below W.heap.size W w'))
    : Calls Tryz.prog 119 #[.agg #[.int .i64 st, .int .i64 da, .int .i64 0, .int .i64 0, .int .i64 0, .int .i64 0], .slice (some ⟨g, o, none⟩) (k + 1) cap, .bool false] w fun e w' => e = .returned (.agg #[.int .i64 (0), .int .i64 (0), .int .i64 (0), .int .i64 (0), .int .i64 (0), .int .i64 (0), .int .i64 (3)]) ∧ Below w.heap.size w w' := by
  have ne4 : ¬ g = w.heap.size := by omega
  have ne5 : ¬ g = w.heap.size + 1 := by omega
  go_enter Tryz.func119, Tryz.ntmps119
  go_wp2_with fail
  refine (H158 _ (FinSt.start w st da).b0).out.mono ?_
  rintro e W1 ⟨rfl, hb⟩
  have st1 := (FinSt.start w st da).grow hb
  clear hb
  obtain ⟨b0, kl, rl, k0, k1, k2, k3, k4, k5, kF, r0, r1, r2, r3, r4, r5, r6, rF⟩ := id st1
  have hb1 := b0.size
  have gl : g < W1.heap.size := by omega
  have ne1 : ¬ g = W1.heap.size := by omega
  have ne2 : ¬ w.heap.size = W1.heap.size := by omega
  have ne3 : ¬ w.heap.size + 1 = W1.heap.size := by omega
  clear hb1
  have q0 := (b0.cell (p := ⟨g, o + k, none⟩) hg).trans u0
  go_wp2_with fail
  refine (H159 _).out.mono ?_
  rintro e W2 ⟨rfl, hb⟩
  have st2 := (FinSt.alloc (FinSt.set2 st1 n) _).grow hb
  clear hb b0 kl rl k0 k1 k2 k3 k4 k5 kF r0 r1 r2 r3 r4 r5 r6 rF gl ne1 ne2 ne3 q0
  obtain ⟨b0, kl, rl, k0, k1, k2, k3, k4, k5, kF, r0, r1, r2, r3, r4, r5, r6, rF⟩ := id st2
  have hb1 := b0.size
  have gl : g < W2.heap.size := by omega
  have ne1 : ¬ g = W2.heap.size := by omega
  have ne2 : ¬ w.heap.size = W2.heap.size := by omega
  have ne3 : ¬ w.heap.size + 1 = W2.heap.size := by omega
  clear hb1
  have q0 := (b0.cell (p := ⟨g, o + k, none⟩) hg).trans u0
  go_wp2_with fail
  refine (HA _).out.mono ?_
  rintro e W3 ⟨rfl, hb⟩
  have st3 := (FinSt.set3 st2 1).grow hb
  clear hb b0 kl rl k0 k1 k2 k3 k4 k5 kF r0 r1 r2 r3 r4 r5 r6 rF gl ne1 ne2 ne3 q0
  obtain ⟨b0, kl, rl, k0, k1, k2, k3, k4, k5, kF, r0, r1, r2, r3, r4, r5, r6, rF⟩ := id st3
  have hb1 := b0.size
  have gl : g < W3.heap.size := by omega
  have ne1 : ¬ g = W3.heap.size := by omega
  have ne2 : ¬ w.heap.size = W3.heap.size := by omega
  have ne3 : ¬ w.heap.size + 1 = W3.heap.size := by omega
  clear hb1
  have q0 := (b0.cell (p := ⟨g, o + k, none⟩) hg).trans u0
  go_wp2_with fail
  refine (H37 _).out.mono ?_
  rintro e W4 ⟨rfl, hb⟩
  have st4 := (FinSt.alloc (FinSt.set5 (FinSt.set4 st3 a1) a2) _).grow hb
  clear hb b0 kl rl k0 k1 k2 k3 k4 k5 kF r0 r1 r2 r3 r4 r5 r6 rF gl ne1 ne2 ne3 q0
  obtain ⟨b0, kl, rl, k0, k1, k2, k3, k4, k5, kF, r0, r1, r2, r3, r4, r5, r6, rF⟩ := id st4
  have hb1 := b0.size
  have gl : g < W4.heap.size := by omega
  have ne1 : ¬ g = W4.heap.size := by omega
  have ne2 : ¬ w.heap.size = W4.heap.size := by omega
  have ne3 : ¬ w.heap.size + 1 = W4.heap.size := by omega
  clear hb1
  have q0 := (b0.cell (p := ⟨g, o + k, none⟩) hg).trans u0
  go_wp2_with fail
  obtain ⟨Y, hY, hR, hS, hB⟩ := store7i (st4).res (0) (0) (0) (0) (0) (0) (3)
  rw [hY]
  clear hY
  have hb0 := hB w (st4).b0 (by omega)
  clear hB hS b0 kl rl k0 k1 k2 k3 k4 k5 kF r0 r1 r2 r3 r4 r5 r6 rF gl ne1 ne2 ne3 q0
  obtain ⟨c0, c1, c2, c3, c4, c5, c6, cF⟩ := hR
  exact bodyPost_ret (v := .agg #[.int .i64 (0), .int .i64 (0), .int .i64 (0), .int .i64 (0), .int .i64 (0), .int .i64 (0), .int .i64 (3)]) (by simp [results, Tryz.results119, go_sem, c0, c1, c2, c3, c4, c5, c6]) rfl ⟨rfl, by repeat (first | exact xr _ | exact hb0 | apply xa | apply xg | (refine xs ?_ (by simp) _))⟩
set_option maxRecDepth 100000 in
set_option maxHeartbeats 16000000 in
theorem c119f_a1 (g o cap k : Nat) (st da n : Int) (x : List UInt8) (a1 a2 : Int) (ha2 : ¬ a2 = 0) (ha2b : (a2 == 0) = false) (w : World) (hcap : k + 1 ≤ cap) (hN : k + 1 ≤ 4000) (hg : g < w.heap.size) (hck : ¬ cap = k) (hn0 : 0 ≤ n) (hn1 : n < 10000000000) (hd0 : -1 ≤ da) (hd1 : da ≤ 100000)
    (u0 : w.cell? ⟨g, o + k, none⟩ = some (.string ⟨x.toArray⟩))
    (H158 : ∀ W, Below w.heap.size w W → Hid (Calls Tryz.prog 158 #[.slice (some ⟨g, o, none⟩) (k + 1) cap] W fun e w' => e = .returned (.agg #[.int .i64 n, .int .i64 (k : Int)]) ∧ Below W.heap.size W w'))
    (H159 : ∀ W, Hid (Calls Tryz.prog 159 #[.string ⟨x.toArray⟩] W fun e w' => e = .returned (.int .i64 1) ∧ Below W.heap.size W w'))
    (HA : ∀ W, Hid (Calls Tryz.prog 160 #[.string ⟨x.toArray⟩] W fun e w' => e = .returned (.agg #[.int .i64 a1, .int .i64 a2]) ∧ Below W.heap.size W w'))
    (H37 : ∀ W, Hid (Calls Tryz.prog 37 #[.agg #[.int .i64 st, .int .i64 (da), .int .i64 n, .int .i64 1, .int .i64 a1, .int .i64 a2]] W fun e w' => e = .returned (.bool true) ∧ Below W.heap.size W w'))
    : Calls Tryz.prog 119 #[.agg #[.int .i64 st, .int .i64 da, .int .i64 0, .int .i64 0, .int .i64 0, .int .i64 0], .slice (some ⟨g, o, none⟩) (k + 1) cap, .bool false] w fun e w' => e = .returned (.agg #[.int .i64 (st), .int .i64 (da), .int .i64 (n), .int .i64 (1), .int .i64 (a1), .int .i64 (a2), .int .i64 (0)]) ∧ Below w.heap.size w w' := by
  have ne4 : ¬ g = w.heap.size := by omega
  have ne5 : ¬ g = w.heap.size + 1 := by omega
  go_enter Tryz.func119, Tryz.ntmps119
  go_wp2_with fail
  refine (H158 _ (FinSt.start w st da).b0).out.mono ?_
  rintro e W1 ⟨rfl, hb⟩
  have st1 := (FinSt.start w st da).grow hb
  clear hb
  obtain ⟨b0, kl, rl, k0, k1, k2, k3, k4, k5, kF, r0, r1, r2, r3, r4, r5, r6, rF⟩ := id st1
  have hb1 := b0.size
  have gl : g < W1.heap.size := by omega
  have ne1 : ¬ g = W1.heap.size := by omega
  have ne2 : ¬ w.heap.size = W1.heap.size := by omega
  have ne3 : ¬ w.heap.size + 1 = W1.heap.size := by omega
  clear hb1
  have q0 := (b0.cell (p := ⟨g, o + k, none⟩) hg).trans u0
  go_wp2_with fail
  refine (H159 _).out.mono ?_
  rintro e W2 ⟨rfl, hb⟩
  have st2 := (FinSt.alloc (FinSt.set2 st1 n) _).grow hb
  clear hb b0 kl rl k0 k1 k2 k3 k4 k5 kF r0 r1 r2 r3 r4 r5 r6 rF gl ne1 ne2 ne3 q0
  obtain ⟨b0, kl, rl, k0, k1, k2, k3, k4, k5, kF, r0, r1, r2, r3, r4, r5, r6, rF⟩ := id st2
  have hb1 := b0.size
  have gl : g < W2.heap.size := by omega
  have ne1 : ¬ g = W2.heap.size := by omega
  have ne2 : ¬ w.heap.size = W2.heap.size := by omega
  have ne3 : ¬ w.heap.size + 1 = W2.heap.size := by omega
  clear hb1
  have q0 := (b0.cell (p := ⟨g, o + k, none⟩) hg).trans u0
  go_wp2_with fail
  refine (HA _).out.mono ?_
  rintro e W3 ⟨rfl, hb⟩
  have st3 := (FinSt.set3 st2 1).grow hb
  clear hb b0 kl rl k0 k1 k2 k3 k4 k5 kF r0 r1 r2 r3 r4 r5 r6 rF gl ne1 ne2 ne3 q0
  obtain ⟨b0, kl, rl, k0, k1, k2, k3, k4, k5, kF, r0, r1, r2, r3, r4, r5, r6, rF⟩ := id st3
  have hb1 := b0.size
  have gl : g < W3.heap.size := by omega
  have ne1 : ¬ g = W3.heap.size := by omega
  have ne2 : ¬ w.heap.size = W3.heap.size := by omega
  have ne3 : ¬ w.heap.size + 1 = W3.heap.size := by omega
  clear hb1
  have q0 := (b0.cell (p := ⟨g, o + k, none⟩) hg).trans u0
  go_wp2_with fail
  refine (H37 _).out.mono ?_
  rintro e W4 ⟨rfl, hb⟩
  have st4 := (FinSt.alloc (FinSt.set5 (FinSt.set4 st3 a1) a2) _).grow hb
  clear hb b0 kl rl k0 k1 k2 k3 k4 k5 kF r0 r1 r2 r3 r4 r5 r6 rF gl ne1 ne2 ne3 q0
  obtain ⟨b0, kl, rl, k0, k1, k2, k3, k4, k5, kF, r0, r1, r2, r3, r4, r5, r6, rF⟩ := id st4
  have hb1 := b0.size
  have gl : g < W4.heap.size := by omega
  have ne1 : ¬ g = W4.heap.size := by omega
  have ne2 : ¬ w.heap.size = W4.heap.size := by omega
  have ne3 : ¬ w.heap.size + 1 = W4.heap.size := by omega
  clear hb1
  have q0 := (b0.cell (p := ⟨g, o + k, none⟩) hg).trans u0
  go_wp2_with fail
  obtain ⟨Y, hY, hR, hS, hB⟩ := store7i (st4).res (st) (da) (n) (1) (a1) (a2) (0)
  rw [hY]
  clear hY
  have hb0 := hB w (st4).b0 (by omega)
  clear hB hS b0 kl rl k0 k1 k2 k3 k4 k5 kF r0 r1 r2 r3 r4 r5 r6 rF gl ne1 ne2 ne3 q0
  obtain ⟨c0, c1, c2, c3, c4, c5, c6, cF⟩ := hR
  exact bodyPost_ret (v := .agg #[.int .i64 (st), .int .i64 (da), .int .i64 (n), .int .i64 (1), .int .i64 (a1), .int .i64 (a2), .int .i64 (0)]) (by simp [results, Tryz.results119, go_sem, c0, c1, c2, c3, c4, c5, c6]) rfl ⟨rfl, by repeat (first | exact xr _ | exact hb0 | apply xa | apply xg | (refine xs ?_ (by simp) _))⟩
set_option maxRecDepth 100000 in
set_option maxHeartbeats 16000000 in
theorem c119f_t (g o cap k : Nat) (st da n : Int) (x z : List UInt8) (y : List UInt8) (hy : (y == [116, 111]) = false) (w : World) (hcap : k + 3 ≤ cap) (hN : k + 3 ≤ 4000) (hg : g < w.heap.size) (hck : ¬ cap = k) (hn0 : 0 ≤ n) (hn1 : n < 10000000000) (hd0 : -1 ≤ da) (hd1 : da ≤ 100000)
    (u0 : w.cell? ⟨g, o + k, none⟩ = some (.string ⟨x.toArray⟩))
    (u1 : w.cell? ⟨g, o + k + 1, none⟩ = some (.string ⟨y.toArray⟩))
    (u2 : w.cell? ⟨g, o + k + 2, none⟩ = some (.string ⟨z.toArray⟩))
    (H158 : ∀ W, Below w.heap.size w W → Hid (Calls Tryz.prog 158 #[.slice (some ⟨g, o, none⟩) (k + 3) cap] W fun e w' => e = .returned (.agg #[.int .i64 n, .int .i64 (k : Int)]) ∧ Below W.heap.size W w'))
    : Calls Tryz.prog 119 #[.agg #[.int .i64 st, .int .i64 da, .int .i64 0, .int .i64 0, .int .i64 0, .int .i64 0], .slice (some ⟨g, o, none⟩) (k + 3) cap, .bool false] w fun e w' => e = .returned (.agg #[.int .i64 (0), .int .i64 (0), .int .i64 (0), .int .i64 (0), .int .i64 (0), .int .i64 (0), .int .i64 (7)]) ∧ Below w.heap.size w w' := by
  have ne4 : ¬ g = w.heap.size := by omega
  have ne5 : ¬ g = w.heap.size + 1 := by omega
  go_enter Tryz.func119, Tryz.ntmps119
  go_wp2_with fail
  refine (H158 _ (FinSt.start w st da).b0).out.mono ?_
  rintro e W1 ⟨rfl, hb⟩
  have st1 := (FinSt.start w st da).grow hb
  clear hb
  obtain ⟨b0, kl, rl, k0, k1, k2, k3, k4, k5, kF, r0, r1, r2, r3, r4, r5, r6, rF⟩ := id st1
  have hb1 := b0.size
  have gl : g < W1.heap.size := by omega
  have ne1 : ¬ g = W1.heap.size := by omega
  have ne2 : ¬ w.heap.size = W1.heap.size := by omega
  have ne3 : ¬ w.heap.size + 1 = W1.heap.size := by omega
  clear hb1
  have q0 := (b0.cell (p := ⟨g, o + k, none⟩) hg).trans u0
  have q1 := (b0.cell (p := ⟨g, o + k + 1, none⟩) hg).trans u1
  have q2 := (b0.cell (p := ⟨g, o + k + 2, none⟩) hg).trans u2
  go_wp2_with fail
  obtain ⟨Y, hY, hR, hS, hB⟩ := store7i ((FinSt.set2 st1 n)).res (0) (0) (0) (0) (0) (0) (7)
  rw [hY]
  clear hY
  have hb0 := hB w ((FinSt.set2 st1 n)).b0 (by omega)
  clear hB hS b0 kl rl k0 k1 k2 k3 k4 k5 kF r0 r1 r2 r3 r4 r5 r6 rF gl ne1 ne2 ne3 q0 q1 q2
  have hZ := below_alloc Y (.cells #[.int .i64 n, .int .i64 (k : Int)] 183)
  obtain ⟨Z, hZZ⟩ : ∃ Z, Y.alloc (.cells #[.int .i64 n, .int .i64 (k : Int)] 183) = Z := ⟨_, rfl⟩
  rw [hZZ] at hZ ⊢
  replace hR := hR.grow hZ
  replace hb0 := below_trans hb0 hZ
  clear hZ hZZ
  obtain ⟨c0, c1, c2, c3, c4, c5, c6, cF⟩ := hR
  exact bodyPost_ret (v := .agg #[.int .i64 (0), .int .i64 (0), .int .i64 (0), .int .i64 (0), .int .i64 (0), .int .i64 (0), .int .i64 (7)]) (by simp [results, Tryz.results119, go_sem, c0, c1, c2, c3, c4, c5, c6]) rfl ⟨rfl, by repeat (first | exact xr _ | exact hb0 | apply xa | apply xg | (refine xs ?_ (by simp) _))⟩
set_option maxRecDepth 100000 in
set_option maxHeartbeats 16000000 in
theorem c119f_u (g o cap k : Nat) (st da n : Int) (x z : List UInt8) (ki : Int) (hki : ¬ ki = 1) (hkb : (ki == 1) = false) (w : World) (hcap : k + 3 ≤ cap) (hN : k + 3 ≤ 4000) (hg : g < w.heap.size) (hck : ¬ cap = k) (hn0 : 0 ≤ n) (hn1 : n < 10000000000) (hd0 : -1 ≤ da) (hd1 : da ≤ 100000)
    (u0 : w.cell? ⟨g, o + k, none⟩ = some (.string ⟨x.toArray⟩))
    (u1 : w.cell? ⟨g, o + k + 1, none⟩ = some (.string ⟨#[116, 111]⟩))
    (u2 : w.cell? ⟨g, o + k + 2, none⟩ = some (.string ⟨z.toArray⟩))
    (H158 : ∀ W, Below w.heap.size w W → Hid (Calls Tryz.prog 158 #[.slice (some ⟨g, o, none⟩) (k + 3) cap] W fun e w' => e = .returned (.agg #[.int .i64 n, .int .i64 (k : Int)]) ∧ Below W.heap.size W w'))
    (H159 : ∀ W, Hid (Calls Tryz.prog 159 #[.string ⟨x.toArray⟩] W fun e w' => e = .returned (.int .i64 ki) ∧ Below W.heap.size W w'))
    : Calls Tryz.prog 119 #[.agg #[.int .i64 st, .int .i64 da, .int .i64 0, .int .i64 0, .int .i64 0, .int .i64 0], .slice (some ⟨g, o, none⟩) (k + 3) cap, .bool false] w fun e w' => e = .returned (.agg #[.int .i64 (0), .int .i64 (0), .int .i64 (0), .int .i64 (0), .int .i64 (0), .int .i64 (0), .int .i64 (7)]) ∧ Below w.heap.size w w' := by
  have ne4 : ¬ g = w.heap.size := by omega
  have ne5 : ¬ g = w.heap.size + 1 := by omega
  go_enter Tryz.func119, Tryz.ntmps119
  go_wp2_with fail
  refine (H158 _ (FinSt.start w st da).b0).out.mono ?_
  rintro e W1 ⟨rfl, hb⟩
  have st1 := (FinSt.start w st da).grow hb
  clear hb
  obtain ⟨b0, kl, rl, k0, k1, k2, k3, k4, k5, kF, r0, r1, r2, r3, r4, r5, r6, rF⟩ := id st1
  have hb1 := b0.size
  have gl : g < W1.heap.size := by omega
  have ne1 : ¬ g = W1.heap.size := by omega
  have ne2 : ¬ w.heap.size = W1.heap.size := by omega
  have ne3 : ¬ w.heap.size + 1 = W1.heap.size := by omega
  clear hb1
  have q0 := (b0.cell (p := ⟨g, o + k, none⟩) hg).trans u0
  have q1 := (b0.cell (p := ⟨g, o + k + 1, none⟩) hg).trans u1
  have q2 := (b0.cell (p := ⟨g, o + k + 2, none⟩) hg).trans u2
  go_wp2_with fail
  refine (H159 _).out.mono ?_
  rintro e W2 ⟨rfl, hb⟩
  have st2 := (FinSt.alloc (FinSt.set2 st1 n) _).grow hb
  clear hb b0 kl rl k0 k1 k2 k3 k4 k5 kF r0 r1 r2 r3 r4 r5 r6 rF gl ne1 ne2 ne3 q0 q1 q2
  obtain ⟨b0, kl, rl, k0, k1, k2, k3, k4, k5, kF, r0, r1, r2, r3, r4, r5, r6, rF⟩ := id st2
  have hb1 := b0.size
  have gl : g < W2.heap.size := by omega
  have ne1 : ¬ g = W2.heap.size := by omega
  have ne2 : ¬ w.heap.size = W2.heap.size := by omega
  have ne3 : ¬ w.heap.size + 1 = W2.heap.size := by omega
  clear hb1
  have q0 := (b0.cell (p := ⟨g, o + k, none⟩) hg).trans u0
  have q1 := (b0.cell (p := ⟨g, o + k + 1, none⟩) hg).trans u1
  have q2 := (b0.cell (p := ⟨g, o + k + 2, none⟩) hg).trans u2
  go_wp2_with fail
  obtain ⟨Y, hY, hR, hS, hB⟩ := store7i ((FinSt.set3 st2 ki)).res (0) (0) (0) (0) (0) (0) (7)
  rw [hY]
  clear hY
  have hb0 := hB w ((FinSt.set3 st2 ki)).b0 (by omega)
  clear hB hS b0 kl rl k0 k1 k2 k3 k4 k5 kF r0 r1 r2 r3 r4 r5 r6 rF gl ne1 ne2 ne3 q0 q1 q2
  obtain ⟨c0, c1, c2, c3, c4, c5, c6, cF⟩ := hR
  exact bodyPost_ret (v := .agg #[.int .i64 (0), .int .i64 (0), .int .i64 (0), .int .i64 (0), .int .i64 (0), .int .i64 (0), .int .i64 (7)]) (by simp [results, Tryz.results119, go_sem, c0, c1, c2, c3, c4, c5, c6]) rfl ⟨rfl, by repeat (first | exact xr _ | exact hb0 | apply xa | apply xg | (refine xs ?_ (by simp) _))⟩
set_option maxRecDepth 100000 in
set_option maxHeartbeats 16000000 in
theorem c119f_f (g o cap k : Nat) (st da n : Int) (x z : List UInt8) (a1 a2 f1 : Int) (w : World) (hcap : k + 3 ≤ cap) (hN : k + 3 ≤ 4000) (hg : g < w.heap.size) (hck : ¬ cap = k) (hn0 : 0 ≤ n) (hn1 : n < 10000000000) (hd0 : -1 ≤ da) (hd1 : da ≤ 100000)
    (u0 : w.cell? ⟨g, o + k, none⟩ = some (.string ⟨x.toArray⟩))
    (u1 : w.cell? ⟨g, o + k + 1, none⟩ = some (.string ⟨#[116, 111]⟩))
    (u2 : w.cell? ⟨g, o + k + 2, none⟩ = some (.string ⟨z.toArray⟩))
    (H158 : ∀ W, Below w.heap.size w W → Hid (Calls Tryz.prog 158 #[.slice (some ⟨g, o, none⟩) (k + 3) cap] W fun e w' => e = .returned (.agg #[.int .i64 n, .int .i64 (k : Int)]) ∧ Below W.heap.size W w'))
    (H159 : ∀ W, Hid (Calls Tryz.prog 159 #[.string ⟨x.toArray⟩] W fun e w' => e = .returned (.int .i64 1) ∧ Below W.heap.size W w'))
    (HA : ∀ W, Hid (Calls Tryz.prog 160 #[.string ⟨x.toArray⟩] W fun e w' => e = .returned (.agg #[.int .i64 a1, .int .i64 a2]) ∧ Below W.heap.size W w'))
    (HF : ∀ W, Hid (Calls Tryz.prog 160 #[.string ⟨z.toArray⟩] W fun e w' => e = .returned (.agg #[.int .i64 f1, .int .i64 0]) ∧ Below W.heap.size W w'))
    : Calls Tryz.prog 119 #[.agg #[.int .i64 st, .int .i64 da, .int .i64 0, .int .i64 0, .int .i64 0, .int .i64 0], .slice (some ⟨g, o, none⟩) (k + 3) cap, .bool false] w fun e w' => e = .returned (.agg #[.int .i64 (0), .int .i64 (0), .int .i64 (0), .int .i64 (0), .int .i64 (0), .int .i64 (0), .int .i64 (7)]) ∧ Below w.heap.size w w' := by
  have ne4 : ¬ g = w.heap.size := by omega
  have ne5 : ¬ g = w.heap.size + 1 := by omega
  go_enter Tryz.func119, Tryz.ntmps119
  go_wp2_with fail
  refine (H158 _ (FinSt.start w st da).b0).out.mono ?_
  rintro e W1 ⟨rfl, hb⟩
  have st1 := (FinSt.start w st da).grow hb
  clear hb
  obtain ⟨b0, kl, rl, k0, k1, k2, k3, k4, k5, kF, r0, r1, r2, r3, r4, r5, r6, rF⟩ := id st1
  have hb1 := b0.size
  have gl : g < W1.heap.size := by omega
  have ne1 : ¬ g = W1.heap.size := by omega
  have ne2 : ¬ w.heap.size = W1.heap.size := by omega
  have ne3 : ¬ w.heap.size + 1 = W1.heap.size := by omega
  clear hb1
  have q0 := (b0.cell (p := ⟨g, o + k, none⟩) hg).trans u0
  have q1 := (b0.cell (p := ⟨g, o + k + 1, none⟩) hg).trans u1
  have q2 := (b0.cell (p := ⟨g, o + k + 2, none⟩) hg).trans u2
  go_wp2_with fail
  refine (H159 _).out.mono ?_
  rintro e W2 ⟨rfl, hb⟩
  have st2 := (FinSt.alloc (FinSt.set2 st1 n) _).grow hb
  clear hb b0 kl rl k0 k1 k2 k3 k4 k5 kF r0 r1 r2 r3 r4 r5 r6 rF gl ne1 ne2 ne3 q0 q1 q2
  obtain ⟨b0, kl, rl, k0, k1, k2, k3, k4, k5, kF, r0, r1, r2, r3, r4, r5, r6, rF⟩ := id st2
  have hb1 := b0.size
  have gl : g < W2.heap.size := by omega
  have ne1 : ¬ g = W2.heap.size := by omega
  have ne2 : ¬ w.heap.size = W2.heap.size := by omega
  have ne3 : ¬ w.heap.size + 1 = W2.heap.size := by omega
  clear hb1
  have q0 := (b0.cell (p := ⟨g, o + k, none⟩) hg).trans u0
  have q1 := (b0.cell (p := ⟨g, o + k + 1, none⟩) hg).trans u1
  have q2 := (b0.cell (p := ⟨g, o + k + 2, none⟩) hg).trans u2
  go_wp2_with fail
  refine (HA _).out.mono ?_
  rintro e W3 ⟨rfl, hb⟩
  have st3 := (FinSt.set3 st2 1).grow hb
  clear hb b0 kl rl k0 k1 k2 k3 k4 k5 kF r0 r1 r2 r3 r4 r5 r6 rF gl ne1 ne2 ne3 q0 q1 q2
  obtain ⟨b0, kl, rl, k0, k1, k2, k3, k4, k5, kF, r0, r1, r2, r3, r4, r5, r6, rF⟩ := id st3
  have hb1 := b0.size
  have gl : g < W3.heap.size := by omega
  have ne1 : ¬ g = W3.heap.size := by omega
  have ne2 : ¬ w.heap.size = W3.heap.size := by omega
  have ne3 : ¬ w.heap.size + 1 = W3.heap.size := by omega
  clear hb1
  have q0 := (b0.cell (p := ⟨g, o + k, none⟩) hg).trans u0
  have q1 := (b0.cell (p := ⟨g, o + k + 1, none⟩) hg).trans u1
  have q2 := (b0.cell (p := ⟨g, o + k + 2, none⟩) hg).trans u2
  go_wp2_with fail
  refine (HF _).out.mono ?_
  rintro e W4 ⟨rfl, hb⟩
  have d1 := cell_on (p := ⟨W3.heap.size, 1, none⟩) (v := .int .i64 (a2)) hb (by simp [go_sem, ne2])
  have gd := World.block_lt_of_cell? _ _ d1
  have nd := ne2
  have st4 := (FinSt.alloc (FinSt.set5 (FinSt.set4 st3 a1) a2) _).grow hb
  clear hb b0 kl rl k0 k1 k2 k3 k4 k5 kF r0 r1 r2 r3 r4 r5 r6 rF gl ne1 ne2 ne3 q0 q1 q2
  obtain ⟨b0, kl, rl, k0, k1, k2, k3, k4, k5, kF, r0, r1, r2, r3, r4, r5, r6, rF⟩ := id st4
  have hb1 := b0.size
  have gl : g < W4.heap.size := by omega
  have ne1 : ¬ g = W4.heap.size := by omega
  have ne2 : ¬ w.heap.size = W4.heap.size := by omega
  have ne3 : ¬ w.heap.size + 1 = W4.heap.size := by omega
  clear hb1
  have q0 := (b0.cell (p := ⟨g, o + k, none⟩) hg).trans u0
  have q1 := (b0.cell (p := ⟨g, o + k + 1, none⟩) hg).trans u1
  have q2 := (b0.cell (p := ⟨g, o + k + 2, none⟩) hg).trans u2
  go_wp2_with fail
  obtain ⟨Y, hY, hR, hS, hB⟩ := store7i ((FinSt.set5 st4 f1)).res (0) (0) (0) (0) (0) (0) (7)
  rw [hY]
  clear hY
  have hb0 := hB w ((FinSt.set5 st4 f1)).b0 (by omega)
  clear hB hS b0 kl rl k0 k1 k2 k3 k4 k5 kF r0 r1 r2 r3 r4 r5 r6 rF gl ne1 ne2 ne3 q0 q1 q2
  have hZ := below_alloc Y (.cells #[.int .i64 (f1), .int .i64 (0)] 186)
  obtain ⟨Z, hZZ⟩ : ∃ Z, Y.alloc (.cells #[.int .i64 (f1), .int .i64 (0)] 186) = Z := ⟨_, rfl⟩
  rw [hZZ] at hZ ⊢
  replace hR := hR.grow hZ
  replace hb0 := below_trans hb0 hZ
  clear hZ hZZ
  obtain ⟨c0, c1, c2, c3, c4, c5, c6, cF⟩ := hR
  exact bodyPost_ret (v := .agg #[.int .i64 (0), .int .i64 (0), .int .i64 (0), .int .i64 (0), .int .i64 (0), .int .i64 (0), .int .i64 (7)]) (by simp [results, Tryz.results119, go_sem, c0, c1, c2, c3, c4, c5, c6]) rfl ⟨rfl, by repeat (first | exact xr _ | exact hb0 | apply xa | apply xg | (refine xs ?_ (by simp) _))⟩
set_option maxRecDepth 100000 in
set_option maxHeartbeats 16000000 in
theorem c119f_d (g o cap k : Nat) (st da n : Int) (x z : List UInt8) (a1 f1 f2 : Int) (hf2 : ¬ f2 = 0) (hf2b : (f2 == 0) = false) (w : World) (hcap : k + 3 ≤ cap) (hN : k + 3 ≤ 4000) (hg : g < w.heap.size) (hck : ¬ cap = k) (hn0 : 0 ≤ n) (hn1 : n < 10000000000) (hd0 : -1 ≤ da) (hd1 : da ≤ 100000)
    (u0 : w.cell? ⟨g, o + k, none⟩ = some (.string ⟨x.toArray⟩))
    (u1 : w.cell? ⟨g, o + k + 1, none⟩ = some (.string ⟨#[116, 111]⟩))
    (u2 : w.cell? ⟨g, o + k + 2, none⟩ = some (.string ⟨z.toArray⟩))
    (H158 : ∀ W, Below w.heap.size w W → Hid (Calls Tryz.prog 158 #[.slice (some ⟨g, o, none⟩) (k + 3) cap] W fun e w' => e = .returned (.agg #[.int .i64 n, .int .i64 (k : Int)]) ∧ Below W.heap.size W w'))
    (H159 : ∀ W, Hid (Calls Tryz.prog 159 #[.string ⟨x.toArray⟩] W fun e w' => e = .returned (.int .i64 1) ∧ Below W.heap.size W w'))
    (HA : ∀ W, Hid (Calls Tryz.prog 160 #[.string ⟨x.toArray⟩] W fun e w' => e = .returned (.agg #[.int .i64 a1, .int .i64 0]) ∧ Below W.heap.size W w'))
    (HF : ∀ W, Hid (Calls Tryz.prog 160 #[.string ⟨z.toArray⟩] W fun e w' => e = .returned (.agg #[.int .i64 f1, .int .i64 f2]) ∧ Below W.heap.size W w'))
    : Calls Tryz.prog 119 #[.agg #[.int .i64 st, .int .i64 da, .int .i64 0, .int .i64 0, .int .i64 0, .int .i64 0], .slice (some ⟨g, o, none⟩) (k + 3) cap, .bool false] w fun e w' => e = .returned (.agg #[.int .i64 (0), .int .i64 (0), .int .i64 (0), .int .i64 (0), .int .i64 (0), .int .i64 (0), .int .i64 (7)]) ∧ Below w.heap.size w w' := by
  have ne4 : ¬ g = w.heap.size := by omega
  have ne5 : ¬ g = w.heap.size + 1 := by omega
  go_enter Tryz.func119, Tryz.ntmps119
  go_wp2_with fail
  refine (H158 _ (FinSt.start w st da).b0).out.mono ?_
  rintro e W1 ⟨rfl, hb⟩
  have st1 := (FinSt.start w st da).grow hb
  clear hb
  obtain ⟨b0, kl, rl, k0, k1, k2, k3, k4, k5, kF, r0, r1, r2, r3, r4, r5, r6, rF⟩ := id st1
  have hb1 := b0.size
  have gl : g < W1.heap.size := by omega
  have ne1 : ¬ g = W1.heap.size := by omega
  have ne2 : ¬ w.heap.size = W1.heap.size := by omega
  have ne3 : ¬ w.heap.size + 1 = W1.heap.size := by omega
  clear hb1
  have q0 := (b0.cell (p := ⟨g, o + k, none⟩) hg).trans u0
  have q1 := (b0.cell (p := ⟨g, o + k + 1, none⟩) hg).trans u1
  have q2 := (b0.cell (p := ⟨g, o + k + 2, none⟩) hg).trans u2
  go_wp2_with fail
  refine (H159 _).out.mono ?_
  rintro e W2 ⟨rfl, hb⟩
  have st2 := (FinSt.alloc (FinSt.set2 st1 n) _).grow hb
  clear hb b0 kl rl k0 k1 k2 k3 k4 k5 kF r0 r1 r2 r3 r4 r5 r6 rF gl ne1 ne2 ne3 q0 q1 q2
  obtain ⟨b0, kl, rl, k0, k1, k2, k3, k4, k5, kF, r0, r1, r2, r3, r4, r5, r6, rF⟩ := id st2
  have hb1 := b0.size
  have gl : g < W2.heap.size := by omega
  have ne1 : ¬ g = W2.heap.size := by omega
  have ne2 : ¬ w.heap.size = W2.heap.size := by omega
  have ne3 : ¬ w.heap.size + 1 = W2.heap.size := by omega
  clear hb1
  have q0 := (b0.cell (p := ⟨g, o + k, none⟩) hg).trans u0
  have q1 := (b0.cell (p := ⟨g, o + k + 1, none⟩) hg).trans u1
  have q2 := (b0.cell (p := ⟨g, o + k + 2, none⟩) hg).trans u2
  go_wp2_with fail
  refine (HA _).out.mono ?_
  rintro e W3 ⟨rfl, hb⟩
  have st3 := (FinSt.set3 st2 1).grow hb
  clear hb b0 kl rl k0 k1 k2 k3 k4 k5 kF r0 r1 r2 r3 r4 r5 r6 rF gl ne1 ne2 ne3 q0 q1 q2
  obtain ⟨b0, kl, rl, k0, k1, k2, k3, k4, k5, kF, r0, r1, r2, r3, r4, r5, r6, rF⟩ := id st3
  have hb1 := b0.size
  have gl : g < W3.heap.size := by omega
  have ne1 : ¬ g = W3.heap.size := by omega
  have ne2 : ¬ w.heap.size = W3.heap.size := by omega
  have ne3 : ¬ w.heap.size + 1 = W3.heap.size := by omega
  clear hb1
  have q0 := (b0.cell (p := ⟨g, o + k, none⟩) hg).trans u0
  have q1 := (b0.cell (p := ⟨g, o + k + 1, none⟩) hg).trans u1
  have q2 := (b0.cell (p := ⟨g, o + k + 2, none⟩) hg).trans u2
  go_wp2_with fail
  refine (HF _).out.mono ?_
  rintro e W4 ⟨rfl, hb⟩
  have d1 := cell_on (p := ⟨W3.heap.size, 1, none⟩) (v := .int .i64 (0)) hb (by simp [go_sem, ne2])
  have gd := World.block_lt_of_cell? _ _ d1
  have nd := ne2
  have st4 := (FinSt.alloc (FinSt.set5 (FinSt.set4 st3 a1) 0) _).grow hb
  clear hb b0 kl rl k0 k1 k2 k3 k4 k5 kF r0 r1 r2 r3 r4 r5 r6 rF gl ne1 ne2 ne3 q0 q1 q2
  obtain ⟨b0, kl, rl, k0, k1, k2, k3, k4, k5, kF, r0, r1, r2, r3, r4, r5, r6, rF⟩ := id st4
  have hb1 := b0.size
  have gl : g < W4.heap.size := by omega
  have ne1 : ¬ g = W4.heap.size := by omega
  have ne2 : ¬ w.heap.size = W4.heap.size := by omega
  have ne3 : ¬ w.heap.size + 1 = W4.heap.size := by omega
  clear hb1
  have q0 := (b0.cell (p := ⟨g, o + k, none⟩) hg).trans u0
  have q1 := (b0.cell (p := ⟨g, o + k + 1, none⟩) hg).trans u1
  have q2 := (b0.cell (p := ⟨g, o + k + 2, none⟩) hg).trans u2
  go_wp2_with fail
  obtain ⟨Y, hY, hR, hS, hB⟩ := store7i ((FinSt.set5 st4 f1)).res (0) (0) (0) (0) (0) (0) (7)
  rw [hY]
  clear hY
  have hb0 := hB w ((FinSt.set5 st4 f1)).b0 (by omega)
  clear hB hS b0 kl rl k0 k1 k2 k3 k4 k5 kF r0 r1 r2 r3 r4 r5 r6 rF gl ne1 ne2 ne3 q0 q1 q2
  have hZ := below_alloc Y (.cells #[.int .i64 (f1), .int .i64 (f2)] 186)
  obtain ⟨Z, hZZ⟩ : ∃ Z, Y.alloc (.cells #[.int .i64 (f1), .int .i64 (f2)] 186) = Z := ⟨_, rfl⟩
  rw [hZZ] at hZ ⊢
  replace hR := hR.grow hZ
  replace hb0 := below_trans hb0 hZ
  clear hZ hZZ
  obtain ⟨c0, c1, c2, c3, c4, c5, c6, cF⟩ := hR
  exact bodyPost_ret (v := .agg #[.int .i64 (0), .int .i64 (0), .int .i64 (0), .int .i64 (0), .int .i64 (0), .int .i64 (0), .int .i64 (7)]) (by simp [results, Tryz.results119, go_sem, c0, c1, c2, c3, c4, c5, c6]) rfl ⟨rfl, by repeat (first | exact xr _ | exact hb0 | apply xa | apply xg | (refine xs ?_ (by simp) _))⟩
set_option maxRecDepth 100000 in
set_option maxHeartbeats 16000000 in
theorem c119f_v0 (g o cap k : Nat) (st da n : Int) (x z : List UInt8) (a1 a2 f1 f2 : Int) (hf2 : ¬ f2 = 0) (hf2b : (f2 == 0) = false) (ha2 : ¬ a2 = 0) (ha2b : (a2 == 0) = false) (w : World) (hcap : k + 3 ≤ cap) (hN : k + 3 ≤ 4000) (hg : g < w.heap.size) (hck : ¬ cap = k) (hn0 : 0 ≤ n) (hn1 : n < 10000000000) (hd0 : -1 ≤ da) (hd1 : da ≤ 100000)
    (u0 : w.cell? ⟨g, o + k, none⟩ = some (.string ⟨x.toArray⟩))
    (u1 : w.cell? ⟨g, o + k + 1, none⟩ = some (.string ⟨#[116, 111]⟩))
    (u2 : w.cell? ⟨g, o + k + 2, none⟩ = some (.string ⟨z.toArray⟩))
    (H158 : ∀ W, Below w.heap.size w W → Hid (Calls Tryz.prog 158 #[.slice (some ⟨g, o, none⟩) (k + 3) cap] W fun e w' => e = .returned (.agg #[.int .i64 n, .int .i64 (k : Int)]) ∧ Below W.heap.size W w'))
    (H159 : ∀ W, Hid (Calls Tryz.prog 159 #[.string ⟨x.toArray⟩] W fun e w' => e = .returned (.int .i64 1) ∧ Below W.heap.size W w'))
    (HA : ∀ W, Hid (Calls Tryz.prog 160 #[.string ⟨x.toArray⟩] W fun e w' => e = .returned (.agg #[.int .i64 a1, .int .i64 a2]) ∧ Below W.heap.size W w'))
    (HF : ∀ W, Hid (Calls Tryz.prog 160 #[.string ⟨z.toArray⟩] W fun e w' => e = .returned (.agg #[.int .i64 f1, .int .i64 f2]) ∧ Below W.heap.size W w'))
    (H37 : ∀ W, Hid (Calls Tryz.prog 37 #[.agg #[.int .i64 st, .int .i64 (da), .int .i64 n, .int .i64 1, .int .i64 a1, .int .i64 f1]] W fun e w' => e = .returned (.bool false) ∧ Below W.heap.size W w'))
    : Calls Tryz.prog 119 #[.agg #[.int .i64 st, .int .i64 da, .int .i64 0, .int .i64 0, .int .i64 0, .int .i64 0], .slice (some ⟨g, o, none⟩) (k + 3) cap, .bool false] w fun e w' => e = .returned (.agg #[.int .i64 (0), .int .i64 (0), .int .i64 (0), .int .i64 (0), .int .i64 (0), .int .i64 (0), .int .i64 (3)]) ∧ Below w.heap.size w w' := by
  have ne4 : ¬ g = w.heap.size := by omega
  have ne5 : ¬ g = w.heap.size + 1 := by omega
  go_enter Tryz.func119, Tryz.ntmps119
  go_wp2_with fail
  refine (H158 _ (FinSt.start w st da).b0).out.mono ?_
  rintro e W1 ⟨rfl, hb⟩
  have st1 := (FinSt.start w st da).grow hb
  clear hb
  obtain ⟨b0, kl, rl, k0, k1, k2, k3, k4, k5, kF, r0, r1, r2, r3, r4, r5, r6, rF⟩ := id st1
  have hb1 := b0.size
  have gl : g < W1.heap.size := by omega
  have ne1 : ¬ g = W1.heap.size := by omega
  have ne2 : ¬ w.heap.size = W1.heap.size := by omega
  have ne3 : ¬ w.heap.size + 1 = W1.heap.size := by omega
  clear hb1
  have q0 := (b0.cell (p := ⟨g, o + k, none⟩) hg).trans u0
  have q1 := (b0.cell (p := ⟨g, o + k + 1, none⟩) hg).trans u1
  have q2 := (b0.cell (p := ⟨g, o + k + 2, none⟩) hg).trans u2
  go_wp2_with fail
  refine (H159 _).out.mono ?_
  rintro e W2 ⟨rfl, hb⟩
  have st2 := (FinSt.alloc (FinSt.set2 st1 n) _).grow hb
  clear hb b0 kl rl k0 k1 k2 k3 k4 k5 kF r0 r1 r2 r3 r4 r5 r6 rF gl ne1 ne2 ne3 q0 q1 q2
  obtain ⟨b0, kl, rl, k0, k1, k2, k3, k4, k5, kF, r0, r1, r2, r3, r4, r5, r6, rF⟩ := id st2
  have hb1 := b0.size
  have gl : g < W2.heap.size := by omega
  have ne1 : ¬ g = W2.heap.size := by omega
  have ne2 : ¬ w.heap.size = W2.heap.size := by omega
  have ne3 : ¬ w.heap.size + 1 = W2.heap.size := by omega
  clear hb1
  have q0 := (b0.cell (p := ⟨g, o + k, none⟩) hg).trans u0
  have q1 := (b0.cell (p := ⟨g, o + k + 1, none⟩) hg).trans u1
  have q2 := (b0.cell (p := ⟨g, o + k + 2, none⟩) hg).trans u2
  go_wp2_with fail
  refine (HA _).out.mono ?_
  rintro e W3 ⟨rfl, hb⟩
  have st3 := (FinSt.set3 st2 1).grow hb
  clear hb b0 kl rl k0 k1 k2 k3 k4 k5 kF r0 r1 r2 r3 r4 r5 r6 rF gl ne1 ne2 ne3 q0 q1 q2
  obtain ⟨b0, kl, rl, k0, k1, k2, k3, k4, k5, kF, r0, r1, r2, r3, r4, r5, r6, rF⟩ := id st3
  have hb1 := b0.size
  have gl : g < W3.heap.size := by omega
  have ne1 : ¬ g = W3.heap.size := by omega
  have ne2 : ¬ w.heap.size = W3.heap.size := by omega
  have ne3 : ¬ w.heap.size + 1 = W3.heap.size := by omega
  clear hb1
  have q0 := (b0.cell (p := ⟨g, o + k, none⟩) hg).trans u0
  have q1 := (b0.cell (p := ⟨g, o + k + 1, none⟩) hg).trans u1
  have q2 := (b0.cell (p := ⟨g, o + k + 2, none⟩) hg).trans u2
  go_wp2_with fail
  refine (HF _).out.mono ?_
  rintro e W4 ⟨rfl, hb⟩
  have d1 := cell_on (p := ⟨W3.heap.size, 1, none⟩) (v := .int .i64 (a2)) hb (by simp [go_sem, ne2])
  have gd := World.block_lt_of_cell? _ _ d1
  have nd := ne2
  have st4 := (FinSt.alloc (FinSt.set5 (FinSt.set4 st3 a1) a2) _).grow hb
  clear hb b0 kl rl k0 k1 k2 k3 k4 k5 kF r0 r1 r2 r3 r4 r5 r6 rF gl ne1 ne2 ne3 q0 q1 q2
  obtain ⟨b0, kl, rl, k0, k1, k2, k3, k4, k5, kF, r0, r1, r2, r3, r4, r5, r6, rF⟩ := id st4
  have hb1 := b0.size
  have gl : g < W4.heap.size := by omega
  have ne1 : ¬ g = W4.heap.size := by omega
  have ne2 : ¬ w.heap.size = W4.heap.size := by omega
  have ne3 : ¬ w.heap.size + 1 = W4.heap.size := by omega
  clear hb1
  have q0 := (b0.cell (p := ⟨g, o + k, none⟩) hg).trans u0
  have q1 := (b0.cell (p := ⟨g, o + k + 1, none⟩) hg).trans u1
  have q2 := (b0.cell (p := ⟨g, o + k + 2, none⟩) hg).trans u2
  go_wp2_with fail
  refine (H37 _).out.mono ?_
  rintro e W5 ⟨rfl, hb⟩
  have st5 := (FinSt.alloc (FinSt.set5 st4 f1) _).grow hb
  clear hb b0 kl rl k0 k1 k2 k3 k4 k5 kF r0 r1 r2 r3 r4 r5 r6 rF gl ne1 ne2 ne3 q0 q1 q2
  obtain ⟨b0, kl, rl, k0, k1, k2, k3, k4, k5, kF, r0, r1, r2, r3, r4, r5, r6, rF⟩ := id st5
  have hb1 := b0.size
  have gl : g < W5.heap.size := by omega
  have ne1 : ¬ g = W5.heap.size := by omega
  have ne2 : ¬ w.heap.size = W5.heap.size := by omega
  have ne3 : ¬ w.heap.size + 1 = W5.heap.size := by omega
  clear hb1
  have q0 := (b0.cell (p := ⟨g, o + k, none⟩) hg).trans u0
  have q1 := (b0.cell (p := ⟨g, o + k + 1, none⟩) hg).trans u1
  have q2 := (b0.cell (p := ⟨g, o + k + 2, none⟩) hg).trans u2
  go_wp2_with fail
  obtain ⟨Y, hY, hR, hS, hB⟩ := store7i (st5).res (0) (0) (0) (0) (0) (0) (3)
  rw [hY]
  clear hY
  have hb0 := hB w (st5).b0 (by omega)
  clear hB hS b0 kl rl k0 k1 k2 k3 k4 k5 kF r0 r1 r2 r3 r4 r5 r6 rF gl ne1 ne2 ne3 q0 q1 q2
  obtain ⟨c0, c1, c2, c3, c4, c5, c6, cF⟩ := hR
  exact bodyPost_ret (v := .agg #[.int .i64 (0), .int .i64 (0), .int .i64 (0), .int .i64 (0), .int .i64 (0), .int .i64 (0), .int .i64 (3)]) (by simp [results, Tryz.results119, go_sem, c0, c1, c2, c3, c4, c5, c6]) rfl ⟨rfl, by repeat (first | exact xr _ | exact hb0 | apply xa | apply xg | (refine xs ?_ (by simp) _))⟩
set_option maxRecDepth 100000 in
set_option maxHeartbeats 16000000 in
theorem c119f_v1 (g o cap k : Nat) (st da n : Int) (x z : List UInt8) (a1 a2 f1 f2 : Int) (hf2 : ¬ f2 = 0) (hf2b : (f2 == 0) = false) (ha2 : ¬ a2 = 0) (ha2b : (a2 == 0) = false) (w : World) (hcap : k + 3 ≤ cap) (hN : k + 3 ≤ 4000) (hg : g < w.heap.size) (hck : ¬ cap = k) (hn0 : 0 ≤ n) (hn1 : n < 10000000000) (hd0 : -1 ≤ da) (hd1 : da ≤ 100000)
    (u0 : w.cell? ⟨g, o + k, none⟩ = some (.string ⟨x.toArray⟩))
    (u1 : w.cell? ⟨g, o + k + 1, none⟩ = some (.string ⟨#[116, 111]⟩))
    (u2 : w.cell? ⟨g, o + k + 2, none⟩ = some (.string ⟨z.toArray⟩))
    (H158 : ∀ W, Below w.heap.size w W → Hid (Calls Tryz.prog 158 #[.slice (some ⟨g, o, none⟩) (k + 3) cap] W fun e w' => e = .returned (.agg #[.int .i64 n, .int .i64 (k : Int)]) ∧ Below W.heap.size W w'))
    (H159 : ∀ W, Hid (Calls Tryz.prog 159 #[.string ⟨x.toArray⟩] W fun e w' => e = .returned (.int .i64 1) ∧ Below W.heap.size W w'))
    (HA : ∀ W, Hid (Calls Tryz.prog 160 #[.string ⟨x.toArray⟩] W fun e w' => e = .returned (.agg #[.int .i64 a1, .int .i64 a2]) ∧ Below W.heap.size W w'))
    (HF : ∀ W, Hid (Calls Tryz.prog 160 #[.string ⟨z.toArray⟩] W fun e w' => e = .returned (.agg #[.int .i64 f1, .int .i64 f2]) ∧ Below W.heap.size W w'))
    (H37 : ∀ W, Hid (Calls Tryz.prog 37 #[.agg #[.int .i64 st, .int .i64 (da), .int .i64 n, .int .i64 1, .int .i64 a1, .int .i64 f1]] W fun e w' => e = .returned (.bool true) ∧ Below W.heap.size W w'))
    : Calls Tryz.prog 119 #[.agg #[.int .i64 st, .int .i64 da, .int .i64 0, .int .i64 0, .int .i64 0, .int .i64 0], .slice (some ⟨g, o, none⟩) (k + 3) cap, .bool false] w fun e w' => e = .returned (.agg #[.int .i64 (st), .int .i64 (da), .int .i64 (n), .int .i64 (1), .int .i64 (a1), .int .i64 (f1), .int .i64 (0)]) ∧ Below w.heap.size w w' := by
  have ne4 : ¬ g = w.heap.size := by omega
  have ne5 : ¬ g = w.heap.size + 1 := by omega
  go_enter Tryz.func119, Tryz.ntmps119
  go_wp2_with fail
  refine (H158 _ (FinSt.start w st da).b0).out.mono ?_
  rintro e W1 ⟨rfl, hb⟩
  have st1 := (FinSt.start w st da).grow hb
  clear hb
  obtain ⟨b0, kl, rl, k0, k1, k2, k3, k4, k5, kF, r0, r1, r2, r3, r4, r5, r6, rF⟩ := id st1
  have hb1 := b0.size
  have gl : g < W1.heap.size := by omega
  have ne1 : ¬ g = W1.heap.size := by omega
  have ne2 : ¬ w.heap.size = W1.heap.size := by omega
  have ne3 : ¬ w.heap.size + 1 = W1.heap.size := by omega
  clear hb1
  have q0 := (b0.cell (p := ⟨g, o + k, none⟩) hg).trans u0
  have q1 := (b0.cell (p := ⟨g, o + k + 1, none⟩) hg).trans u1
  have q2 := (b0.cell (p := ⟨g, o + k + 2, none⟩) hg).trans u2
  go_wp2_with fail
  refine (H159 _).out.mono ?_
  rintro e W2 ⟨rfl, hb⟩
  have st2 := (FinSt.alloc (FinSt.set2 st1 n) _).grow hb
  clear hb b0 kl rl k0 k1 k2 k3 k4 k5 kF r0 r1 r2 r3 r4 r5 r6 rF gl ne1 ne2 ne3 q0 q1 q2
  obtain ⟨b0, kl, rl, k0, k1, k2, k3, k4, k5, kF, r0, r1, r2, r3, r4, r5, r6, rF⟩ := id st2
  have hb1 := b0.size
  have gl : g < W2.heap.size := by omega
  have ne1 : ¬ g = W2.heap.size := by omega
  have ne2 : ¬ w.heap.size = W2.heap.size := by omega
  have ne3 : ¬ w.heap.size + 1 = W2.heap.size := by omega
  clear hb1
  have q0 := (b0.cell (p := ⟨g, o + k, none⟩) hg).trans u0
  have q1 := (b0.cell (p := ⟨g, o + k + 1, none⟩) hg).trans u1
  have q2 := (b0.cell (p := ⟨g, o + k + 2, none⟩) hg).trans u2
  go_wp2_with fail
  refine (HA _).out.mono ?_
  rintro e W3 ⟨rfl, hb⟩
  have st3 := (FinSt.set3 st2 1).grow hb
  clear hb b0 kl rl k0 k1 k2 k3 k4 k5 kF r0 r1 r2 r3 r4 r5 r6 rF gl ne1 ne2 ne3 q0 q1 q2
  obtain ⟨b0, kl, rl, k0, k1, k2, k3, k4, k5, kF, r0, r1, r2, r3, r4, r5, r6, rF⟩ := id st3
  have hb1 := b0.size
  have gl : g < W3.heap.size := by omega
  have ne1 : ¬ g = W3.heap.size := by omega
  have ne2 : ¬ w.heap.size = W3.heap.size := by omega
  have ne3 : ¬ w.heap.size + 1 = W3.heap.size := by omega
  clear hb1
  have q0 := (b0.cell (p := ⟨g, o + k, none⟩) hg).trans u0
  have q1 := (b0.cell (p := ⟨g, o + k + 1, none⟩) hg).trans u1
  have q2 := (b0.cell (p := ⟨g, o + k + 2, none⟩) hg).trans u2
  go_wp2_with fail
  refine (HF _).out.mono ?_
  rintro e W4 ⟨rfl, hb⟩
  have d1 := cell_on (p := ⟨W3.heap.size, 1, none⟩) (v := .int .i64 (a2)) hb (by simp [go_sem, ne2])
  have gd := World.block_lt_of_cell? _ _ d1
  have nd := ne2
  have st4 := (FinSt.alloc (FinSt.set5 (FinSt.set4 st3 a1) a2) _).grow hb
  clear hb b0 kl rl k0 k1 k2 k3 k4 k5 kF r0 r1 r2 r3 r4 r5 r6 rF gl ne1 ne2 ne3 q0 q1 q2
  obtain ⟨b0, kl, rl, k0, k1, k2, k3, k4, k5, kF, r0, r1, r2, r3, r4, r5, r6, rF⟩ := id st4
  have hb1 := b0.size
  have gl : g < W4.heap.size := by omega
  have ne1 : ¬ g = W4.heap.size := by omega
  have ne2 : ¬ w.heap.size = W4.heap.size := by omega
  have ne3 : ¬ w.heap.size + 1 = W4.heap.size := by omega
  clear hb1
  have q0 := (b0.cell (p := ⟨g, o + k, none⟩) hg).trans u0
  have q1 := (b0.cell (p := ⟨g, o + k + 1, none⟩) hg).trans u1
  have q2 := (b0.cell (p := ⟨g, o + k + 2, none⟩) hg).trans u2
  go_wp2_with fail
  refine (H37 _).out.mono ?_
  rintro e W5 ⟨rfl, hb⟩
  have st5 := (FinSt.alloc (FinSt.set5 st4 f1) _).grow hb
  clear hb b0 kl rl k0 k1 k2 k3 k4 k5 kF r0 r1 r2 r3 r4 r5 r6 rF gl ne1 ne2 ne3 q0 q1 q2
  obtain ⟨b0, kl, rl, k0, k1, k2, k3, k4, k5, kF, r0, r1, r2, r3, r4, r5, r6, rF⟩ := id st5
  have hb1 := b0.size
  have gl : g < W5.heap.size := by omega
  have ne1 : ¬ g = W5.heap.size := by omega
  have ne2 : ¬ w.heap.size = W5.heap.size := by omega
  have ne3 : ¬ w.heap.size + 1 = W5.heap.size := by omega
  clear hb1
  have q0 := (b0.cell (p := ⟨g, o + k, none⟩) hg).trans u0
  have q1 := (b0.cell (p := ⟨g, o + k + 1, none⟩) hg).trans u1
  have q2 := (b0.cell (p := ⟨g, o + k + 2, none⟩) hg).trans u2
  go_wp2_with fail
  obtain ⟨Y, hY, hR, hS, hB⟩ := store7i (st5).res (st) (da) (n) (1) (a1) (f1) (0)
  rw [hY]
  clear hY
  have hb0 := hB w (st5).b0 (by omega)
  clear hB hS b0 kl rl k0 k1 k2 k3 k4 k5 kF r0 r1 r2 r3 r4 r5 r6 rF gl ne1 ne2 ne3 q0 q1 q2
  obtain ⟨c0, c1, c2, c3, c4, c5, c6, cF⟩ := hR
  exact bodyPost_ret (v := .agg #[.int .i64 (st), .int .i64 (da), .int .i64 (n), .int .i64 (1), .int .i64 (a1), .int .i64 (f1), .int .i64 (0)]) (by simp [results, Tryz.results119, go_sem, c0, c1, c2, c3, c4, c5, c6]) rfl ⟨rfl, by repeat (first | exact xr _ | exact hb0 | apply xa | apply xg | (refine xs ?_ (by simp) _))⟩
end Go.Proofs.YthifeoebefbalaaGreatDoor
