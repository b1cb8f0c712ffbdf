/- The law CardReads: its walk. -/
import Derived.Test.YthifeoebefbalaaGreatDoorY18
import Derived.Test.YthifeoebefbalaaGreatDoorZ11
import Derived.Test.YthifeoebefbalaaGreatDoorZ12
import Derived.Test.YthifeoebefbalaaGreatDoorZ13
set_option linter.unusedVariables false
set_option linter.unusedSimpArgs false
namespace Go.Proofs.YthifeoebefbalaaGreatDoor
open Go.RowKit

set_option maxRecDepth 100000 in
set_option maxHeartbeats 16000000 in
theorem c24_of (s : List UInt8) (f0 f1 f2 f3 f4 f5 f6 : Int) (w : World)
    (H74 : ∀ W, Hid (Calls Tryz.prog 74 #[.string ⟨s.toArray⟩, .agg #[.int .i64 0, .int .i64 0, .int .i64 0, .int .i64 0, .int .i64 0, .int .i64 0], .bool false] W fun e w' => e = .returned (.agg #[.int .i64 f0, .int .i64 f1, .int .i64 f2, .int .i64 f3, .int .i64 f4, .int .i64 f5, .int .i64 f6]) ∧ Below W.heap.size W w'))
    : Calls Tryz.prog 24 #[.string ⟨s.toArray⟩] w fun e w' => e = .returned (.agg #[.int .i64 f0, .int .i64 f1, .int .i64 f2, .int .i64 f3, .int .i64 f4, .int .i64 f5, .int .i64 f6]) ∧ Below w.heap.size w w' := by
  go_enter Tryz.func24, Tryz.ntmps24
  go_wp2_with fail
  refine (H74 _).out.mono ?_
  rintro e w1 ⟨rfl, hb⟩
  have hR : Res7 w1 w.heap.size 0 0 0 0 0 0 0 := ⟨cell_on hb (by simp [go_sem]), cell_on hb (by simp [go_sem]), cell_on hb (by simp [go_sem]), cell_on hb (by simp [go_sem]), cell_on hb (by simp [go_sem]), cell_on hb (by simp [go_sem]), cell_on hb (by simp [go_sem]), fun i => (hb.frozen (p := ⟨w.heap.size, i, none⟩) (by simp)).trans (by simp [go_sem])⟩
  have hB0 : Below w.heap.size w w1 := below_trans (below_alloc _ _) hb
  clear hb
  obtain ⟨c0, c1, c2, c3, c4, c5, c6, cF⟩ := id hR
  go_wp2_with fail
  clear c0 c1 c2 c3 c4 c5 c6 cF
  obtain ⟨Y, hY, hR, hS, hB⟩ := store7i hR f0 f1 f2 f3 f4 f5 f6
  rw [hY]
  clear hY
  have hb0 := hB w hB0 (by omega)
  clear hB
  obtain ⟨c0, c1, c2, c3, c4, c5, c6, cF⟩ := hR
  exact bodyPost_ret (v := .agg #[.int .i64 f0, .int .i64 f1, .int .i64 f2, .int .i64 f3, .int .i64 f4, .int .i64 f5, .int .i64 f6]) (by simp [results, Tryz.results24, go_sem, c0, c1, c2, c3, c4, c5, c6]) rfl ⟨rfl, hb0⟩
theorem c24 (s : List UInt8) (w : World) : Calls Tryz.prog 24 #[.string ⟨s.toArray⟩] w fun e w' => e = .returned (gotV (lineR s zcard)) ∧ Below w.heap.size w w' :=
  got_of7 _ (c24_of s _ _ _ _ _ _ _ w fun W => Lib.hid (c74 s 0 0 0 0 0 0 W (by decide) (by decide))) rfl
set_option maxRecDepth 100000 in
set_option maxHeartbeats 16000000 in
theorem c3_of (s : List UInt8) (f0 f1 f2 f3 f4 f5 f6 : Int) (w : World) (hE : Env w) (hC : Cell0 w) (hs : s.length ≤ 250)
    (H23 : ∀ W, Cell0 W → Hid (Calls Tryz.prog 23 #[.string ⟨s.toArray⟩] W fun e w' => e = .returned (.tuple #[.agg #[.int .i64 f0, .int .i64 f1, .int .i64 f2, .int .i64 f3, .int .i64 f4, .int .i64 f5], .int .i64 f6]) ∧ Below W.heap.size W w'))
    (H24 : ∀ W, Hid (Calls Tryz.prog 24 #[.string ⟨s.toArray⟩] W fun e w' => e = .returned (.agg #[.int .i64 f0, .int .i64 f1, .int .i64 f2, .int .i64 f3, .int .i64 f4, .int .i64 f5, .int .i64 f6]) ∧ Below W.heap.size W w'))
    : Calls Tryz.prog 3 #[.string ⟨s.toArray⟩] w fun e w' => e = .returned (.bool true) ∧ Below w.heap.size w w' := by
  have HE := Lib.hid hE
  have HC := Lib.hid hC
  have H23 := Lib.hid H23
  clear hE hC
  go_enter Tryz.func3, Tryz.ntmps3
  go_wp2_with fail
  refine (H23.out _ HC.out).out.mono ?_
  rintro e w1 ⟨rfl, hb1⟩
  go_wp2_with fail
  refine (H24 _).out.mono ?_
  rintro e w2 ⟨rfl, hb2⟩
  have k0 := cell_on (p := ⟨w1.heap.size, 0, none⟩) (v := .int .i64 f0) hb2 (by simp [go_sem])
  have k1 := cell_on (p := ⟨w1.heap.size, 1, none⟩) (v := .int .i64 f1) hb2 (by simp [go_sem])
  have k2 := cell_on (p := ⟨w1.heap.size, 2, none⟩) (v := .int .i64 f2) hb2 (by simp [go_sem])
  have k3 := cell_on (p := ⟨w1.heap.size, 3, none⟩) (v := .int .i64 f3) hb2 (by simp [go_sem])
  have k4 := cell_on (p := ⟨w1.heap.size, 4, none⟩) (v := .int .i64 f4) hb2 (by simp [go_sem])
  have k5 := cell_on (p := ⟨w1.heap.size, 5, none⟩) (v := .int .i64 f5) hb2 (by simp [go_sem])
  have hB2 : Below w.heap.size w w2 := below_trans (below_trans hb1 (below_alloc _ _)) hb2
  have l1 : w1.heap.size < w2.heap.size := World.block_lt_of_cell? _ _ k0
  clear hb1 hb2
  go_wp2_with fail
  refine (c22 _ (HE.out.below (hB2.trans ((below_alloc _ _).mono hB2.size))) (HC.out.below (hB2.trans ((below_alloc _ _).mono hB2.size)) HC.out.lt)).mono ?_
  rintro e w3 ⟨rfl, hb3⟩
  have m0 := cell_on (p := ⟨w1.heap.size, 0, none⟩) (v := .int .i64 f0) hb3 (by simp [go_sem, k0, l1])
  have m1 := cell_on (p := ⟨w1.heap.size, 1, none⟩) (v := .int .i64 f1) hb3 (by simp [go_sem, k1, l1])
  have m2 := cell_on (p := ⟨w1.heap.size, 2, none⟩) (v := .int .i64 f2) hb3 (by simp [go_sem, k2, l1])
  have m3 := cell_on (p := ⟨w1.heap.size, 3, none⟩) (v := .int .i64 f3) hb3 (by simp [go_sem, k3, l1])
  have m4 := cell_on (p := ⟨w1.heap.size, 4, none⟩) (v := .int .i64 f4) hb3 (by simp [go_sem, k4, l1])
  have m5 := cell_on (p := ⟨w1.heap.size, 5, none⟩) (v := .int .i64 f5) hb3 (by simp [go_sem, k5, l1])
  have n0 := cell_on (p := ⟨w2.heap.size, 0, none⟩) (v := .int .i64 f0) hb3 (by simp [go_sem])
  have n1 := cell_on (p := ⟨w2.heap.size, 1, none⟩) (v := .int .i64 f1) hb3 (by simp [go_sem])
  have n2 := cell_on (p := ⟨w2.heap.size, 2, none⟩) (v := .int .i64 f2) hb3 (by simp [go_sem])
  have n3 := cell_on (p := ⟨w2.heap.size, 3, none⟩) (v := .int .i64 f3) hb3 (by simp [go_sem])
  have n4 := cell_on (p := ⟨w2.heap.size, 4, none⟩) (v := .int .i64 f4) hb3 (by simp [go_sem])
  have n5 := cell_on (p := ⟨w2.heap.size, 5, none⟩) (v := .int .i64 f5) hb3 (by simp [go_sem])
  have n6 := cell_on (p := ⟨w2.heap.size, 6, none⟩) (v := .int .i64 f6) hb3 (by simp [go_sem])
  have hB3 : Below w.heap.size w w3 := below_trans (below_trans hB2 (below_alloc _ _)) hb3
  clear hb3 k0 k1 k2 k3 k4 k5 hB2
  go_wp2_with fail
  go_ret
  exact ⟨rfl, hB3⟩
set_option maxRecDepth 100000 in
set_option maxHeartbeats 16000000 in
theorem c3_long (s : List UInt8) (w : World) (hE : Env w) (hC : Cell0 w) (hs : 250 < s.length) : Calls Tryz.prog 3 #[.string ⟨s.toArray⟩] w fun e w' => e = .returned (.bool true) ∧ Below w.heap.size w w' := by
  have HE := Lib.hid hE
  have HC := Lib.hid hC
  clear hE hC
  go_enter Tryz.func3, Tryz.ntmps3
  go_wp2_with fail
  refine (c22 _ HE.out HC.out).mono ?_
  rintro e w1 ⟨rfl, hb1⟩
  go_wp2_with fail
  go_ret
  exact ⟨rfl, hb1⟩
theorem c3 (s : List UInt8) (w : World) (hE : Env w) (hC : Cell0 w) : Calls Tryz.prog 3 #[.string ⟨s.toArray⟩] w fun e w' => e = .returned (.bool true) ∧ Below w.heap.size w w' := by
  by_cases hs : 250 < s.length
  · exact c3_long s w hE hC hs
  · exact c3_of s _ _ _ _ _ _ _ w hE hC (by omega) (fun W hW => Lib.hid (c23 s W hW)) (fun W => Lib.hid (c24 s W))
theorem w3 (text : ByteArray) (w : World) (_ : text.size ≤ 140737488351232) (hE : Env w) (hC : Cell0 w) : Calls Tryz.prog 3 #[.string text] w fun e w' => e = .returned (.bool true) ∧ Below w.heap.size w w' := by
  have e : text = ⟨text.data.toList.toArray⟩ := by cases text; simp
  rw [e]
  exact c3 text.data.toList w hE hC
end Go.Proofs.YthifeoebefbalaaGreatDoor
