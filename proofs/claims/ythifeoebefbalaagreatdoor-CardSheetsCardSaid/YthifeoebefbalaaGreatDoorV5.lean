/- Two and four digits; what CardAmounts stores. -/
import Derived.Test.YthifeoebefbalaaGreatDoorV2
import Derived.Test.YthifeoebefbalaaGreatDoorZ14
set_option linter.unusedVariables false
set_option linter.unusedSimpArgs false
namespace Go.Proofs.YthifeoebefbalaaGreatDoor
open Go.RowKit

theorem two_byte (w : World) (v u : Int) (h0 : 0 ≤ v) (h1 : v < 256) (k0 : 0 ≤ u) (k1 : u < 256) : (convert 111 9 (.slice (some ⟨w.heap.size, 0, none⟩) 2 2)).run Tryz.prog (w.alloc (.cells #[.int .u8 v, .int .u8 u] 5)) = .ok (.string ⟨[UInt8.ofNat v.toNat, UInt8.ofNat u.toNat].toArray⟩) (w.alloc (.cells #[.int .u8 v, .int .u8 u] 5)) := by
  refine run_convert_bytes_back (P := Tryz.prog) _ 111 9 5 ⟨w.heap.size, 0, none⟩ 2 [UInt8.ofNat v.toNat, UInt8.ofNat u.toNat] Tryz.underlying111 Tryz.underlying5 Tryz.underlying9 (fun j hj => ?_)
  have hv : ((UInt8.ofNat v.toNat).toNat : Int) = v := by simp; omega
  have hu : ((UInt8.ofNat u.toNat).toNat : Int) = u := by simp; omega
  have h := cell_of_row (w.alloc (.cells #[.int .u8 v, .int .u8 u] 5)) w.heap.size j #[.int .u8 v, .int .u8 u] 5 (0, 0) (heap_alloc_new w _)
  have e : (⟨w.heap.size, 0, none⟩ : Addr).add j = ⟨w.heap.size, j, none⟩ := by simp [Addr.add]; intro h; exact h.symm
  rw [e]
  refine h.trans ?_
  have hj' : j = 0 ∨ j = 1 := by simp at hj; omega
  rcases hj' with rfl | rfl
  · show some (Value.int .u8 v) = some (Value.int .u8 ((UInt8.ofNat v.toNat).toNat : Int)); rw [hv]
  · show some (Value.int .u8 u) = some (Value.int .u8 ((UInt8.ofNat u.toNat).toNat : Int)); rw [hu]
set_option maxRecDepth 100000 in
theorem c31 (n : Int) (w : World) (h0 : 0 ≤ n) (h1 : n ≤ 1000000000000) : Calls Tryz.prog 31 #[.int .i64 n] w fun e w' => e = .returned (.string ⟨(twoL n).toArray⟩) ∧ Below w.heap.size w w' := by
  have hb8 := fun W => two_byte W (48 + n / 10 % 10) (48 + n % 10) (by omega) (by omega) (by omega) (by omega)
  go_enter Tryz.func31, Tryz.ntmps31
  go_wp2_with fail
  go_ret
  exact ⟨rfl, by repeat (first | exact xr _ | apply xa)⟩
set_option maxRecDepth 100000 in
theorem c32 (n : Int) (w : World) (h0 : 0 ≤ n) (h1 : n ≤ 1000000000000) : Calls Tryz.prog 32 #[.int .i64 n] w fun e w' => e = .returned (.string ⟨(fourL n).toArray⟩) ∧ Below w.heap.size w w' := by
  have hl : ∀ m, (twoL m).length = 2 := fun m => rfl
  have l1 := hl (n / 100 % 100)
  have l2 := hl (n % 100)
  clear hl
  go_enter Tryz.func32, Tryz.ntmps32
  go_wp2_with (go_at_call 31; refine (c31 _ _ (by omega) (by omega)).mono ?_; rintro e w1 ⟨rfl, hb1⟩; obtain ⟨x1, rfl⟩ := of_below hb1)
  go_ret
  exact ⟨ret_str (by rfl), by repeat (first | exact xr _ | apply xa | apply xg)⟩
theorem set5 {X : World} {B : Nat} {a b c d e f0 : Int} (h : X.heap[B]? = some (cellsOf ⟨a, b, c, d, e, f0⟩)) (f : Int) : (X.setCell ⟨B, 5, none⟩ (.int .i64 f)).heap[B]? = some (cellsOf ⟨a, b, c, d, e, f⟩) := by
  rw [cells_set h 5 _]; simp [cellsOf]
theorem wp_box {P : Program} {c : Code} {a : Act} {W : World} {Q : Exit → Act → World → Prop} (F : World → Prop) (h : F W) (k : ∀ V, F V → c.wp P Q a V) : c.wp P Q a W := k W h
/-- The card's block as the law has set it. -/
theorem am_set {w X : World} {B : Nat} {n f0 : Int} (hB : Below w.heap.size w X) (hge : w.heap.size ≤ B) (h : X.heap[B]? = some (cellsOf ⟨5, 9, 1, 1, n, f0⟩)) (f : Int) : Below w.heap.size w (X.setCell ⟨B, 5, none⟩ (.int .i64 f)) ∧ Hid ((X.setCell ⟨B, 5, none⟩ (.int .i64 f)).heap[B]? = some (cellsOf ⟨5, 9, 1, 1, n, f⟩)) :=
  ⟨xs hB hge _, Lib.hid (set5 h f)⟩
theorem am_none {w X : World} {B : Nat} {n f0 : Int} (hB : Below w.heap.size w X) (hge : w.heap.size ≤ B) (h : X.heap[B]? = some (cellsOf ⟨5, 9, 1, 1, n, f0⟩)) (f : Int) :
    Below w.heap.size w (((((((X.setCell ⟨B, 5, none⟩ (.int .i64 f)).setCell ⟨B, 0, none⟩ (.int .i64 0)).setCell ⟨B, 1, none⟩ (.int .i64 0)).setCell ⟨B, 2, none⟩ (.int .i64 0)).setCell ⟨B, 3, none⟩ (.int .i64 0)).setCell ⟨B, 4, none⟩ (.int .i64 0)).setCell ⟨B, 5, none⟩ (.int .i64 0)) ∧
    Hid ((((((((X.setCell ⟨B, 5, none⟩ (.int .i64 f)).setCell ⟨B, 0, none⟩ (.int .i64 0)).setCell ⟨B, 1, none⟩ (.int .i64 0)).setCell ⟨B, 2, none⟩ (.int .i64 0)).setCell ⟨B, 3, none⟩ (.int .i64 0)).setCell ⟨B, 4, none⟩ (.int .i64 0)).setCell ⟨B, 5, none⟩ (.int .i64 0)).heap[B]? = some (cellsOf ⟨0, 0, 0, 0, 0, 0⟩)) := by
  obtain ⟨Y, hY, hYb, hYg, -⟩ := store6b (set5 h f) 0 0 0 0 0 0
  rw [hY]
  exact ⟨hYg w (xs hB hge _) hge, Lib.hid hYb⟩
theorem c7_out (n fine : Int) (w : World) (h : n < 0 ∨ 200000 < n) (hE : Env w) (hC : Cell0 w) : Calls Tryz.prog 7 #[.int .i64 n, .int .u8 fine] w fun e w' => e = .returned (.bool true) ∧ Below w.heap.size w w' := by
  have HE := Lib.hid hE
  have HC := Lib.hid hC
  clear hE hC
  by_cases h0 : n < 0
  · go_enter Tryz.func7, Tryz.ntmps7
    go_wp2_with (go_at_call 22; refine (c22 _ HE.out HC.out).mono ?_; rintro e w1 ⟨rfl, hb1⟩)
    go_ret
    exact ⟨rfl, hb1⟩
  · have h1 : 200000 < n := by omega
    go_enter Tryz.func7, Tryz.ntmps7
    go_wp2_with (go_at_call 22; refine (c22 _ HE.out HC.out).mono ?_; rintro e w1 ⟨rfl, hb1⟩)
    go_ret
    exact ⟨rfl, hb1⟩
end Go.Proofs.YthifeoebefbalaaGreatDoor
