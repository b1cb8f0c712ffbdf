/- The reference: what ends a card, behind the date of the card before. -/
import Derived.Test.YthifeoebefbalaaGreatDoorZ3
set_option linter.unusedVariables false
set_option linter.unusedSimpArgs false
namespace Go.Proofs.YthifeoebefbalaaGreatDoor
open Go.RowKit

/-- While the reference ends a card: its own card, and its answer, still blank. -/
structure FinSt (w V : World) (a0 a1 a2 a3 a4 a5 : Int) : Prop where
  b0 : Below w.heap.size w V
  kl : w.heap.size < V.heap.size
  rl : w.heap.size + 1 < V.heap.size
  k0 : V.cell? ⟨w.heap.size, 0, none⟩ = some (.int .i64 a0)
  k1 : V.cell? ⟨w.heap.size, 1, none⟩ = some (.int .i64 a1)
  k2 : V.cell? ⟨w.heap.size, 2, none⟩ = some (.int .i64 a2)
  k3 : V.cell? ⟨w.heap.size, 3, none⟩ = some (.int .i64 a3)
  k4 : V.cell? ⟨w.heap.size, 4, none⟩ = some (.int .i64 a4)
  k5 : V.cell? ⟨w.heap.size, 5, none⟩ = some (.int .i64 a5)
  kF : ∀ i, V.frozen? ⟨w.heap.size, i, none⟩ = false
  r0 : V.cell? ⟨w.heap.size + 1, 0, none⟩ = some (.int .i64 0)
  r1 : V.cell? ⟨w.heap.size + 1, 1, none⟩ = some (.int .i64 0)
  r2 : V.cell? ⟨w.heap.size + 1, 2, none⟩ = some (.int .i64 0)
  r3 : V.cell? ⟨w.heap.size + 1, 3, none⟩ = some (.int .i64 0)
  r4 : V.cell? ⟨w.heap.size + 1, 4, none⟩ = some (.int .i64 0)
  r5 : V.cell? ⟨w.heap.size + 1, 5, none⟩ = some (.int .i64 0)
  r6 : V.cell? ⟨w.heap.size + 1, 6, none⟩ = some (.int .i64 0)
  rF : ∀ i, V.frozen? ⟨w.heap.size + 1, i, none⟩ = false
theorem FinSt.grow {w V V' : World} {a0 a1 a2 a3 a4 a5 : Int} (h : FinSt w V a0 a1 a2 a3 a4 a5) (hb : Below V.heap.size V V') : FinSt w V' a0 a1 a2 a3 a4 a5 :=
  ⟨below_trans h.b0 hb, Nat.lt_of_lt_of_le h.kl hb.size, Nat.lt_of_lt_of_le h.rl hb.size,
    (hb.cell (p := ⟨w.heap.size, 0, none⟩) h.kl).trans h.k0,
    (hb.cell (p := ⟨w.heap.size, 1, none⟩) h.kl).trans h.k1,
    (hb.cell (p := ⟨w.heap.size, 2, none⟩) h.kl).trans h.k2,
    (hb.cell (p := ⟨w.heap.size, 3, none⟩) h.kl).trans h.k3,
    (hb.cell (p := ⟨w.heap.size, 4, none⟩) h.kl).trans h.k4,
    (hb.cell (p := ⟨w.heap.size, 5, none⟩) h.kl).trans h.k5,
    fun i => (hb.frozen (p := ⟨w.heap.size, i, none⟩) h.kl).trans (h.kF i),
    (hb.cell (p := ⟨w.heap.size + 1, 0, none⟩) h.rl).trans h.r0,
    (hb.cell (p := ⟨w.heap.size + 1, 1, none⟩) h.rl).trans h.r1,
    (hb.cell (p := ⟨w.heap.size + 1, 2, none⟩) h.rl).trans h.r2,
    (hb.cell (p := ⟨w.heap.size + 1, 3, none⟩) h.rl).trans h.r3,
    (hb.cell (p := ⟨w.heap.size + 1, 4, none⟩) h.rl).trans h.r4,
    (hb.cell (p := ⟨w.heap.size + 1, 5, none⟩) h.rl).trans h.r5,
    (hb.cell (p := ⟨w.heap.size + 1, 6, none⟩) h.rl).trans h.r6,
    fun i => (hb.frozen (p := ⟨w.heap.size + 1, i, none⟩) h.rl).trans (h.rF i)⟩
theorem FinSt.set0 {w V : World} {a0 a1 a2 a3 a4 a5 : Int} (h : FinSt w V a0 a1 a2 a3 a4 a5) (x : Int) : FinSt w (V.setCell ⟨w.heap.size, 0, none⟩ (.int .i64 x)) x a1 a2 a3 a4 a5 := by
  obtain ⟨b0, kl, rl, k0, k1, k2, k3, k4, k5, kF, r0, r1, r2, r3, r4, r5, r6, rF⟩ := h
  exact ⟨xs b0 (by simp) _, by simpa using kl, by simpa using rl, by simp [go_sem, k0, k0, kF], by simp [go_sem, k1, k0, kF], by simp [go_sem, k2, k0, kF], by simp [go_sem, k3, k0, kF], by simp [go_sem, k4, k0, kF], by simp [go_sem, k5, k0, kF], fun i => by simp [go_sem, kF], by simp [go_sem, r0], by simp [go_sem, r1], by simp [go_sem, r2], by simp [go_sem, r3], by simp [go_sem, r4], by simp [go_sem, r5], by simp [go_sem, r6], fun i => by simp [go_sem, rF]⟩
theorem FinSt.set1 {w V : World} {a0 a1 a2 a3 a4 a5 : Int} (h : FinSt w V a0 a1 a2 a3 a4 a5) (x : Int) : FinSt w (V.setCell ⟨w.heap.size, 1, none⟩ (.int .i64 x)) a0 x a2 a3 a4 a5 := by
  obtain ⟨b0, kl, rl, k0, k1, k2, k3, k4, k5, kF, r0, r1, r2, r3, r4, r5, r6, rF⟩ := h
  exact ⟨xs b0 (by simp) _, by simpa using kl, by simpa using rl, by simp [go_sem, k0, k1, kF], by simp [go_sem, k1, k1, kF], by simp [go_sem, k2, k1, kF], by simp [go_sem, k3, k1, kF], by simp [go_sem, k4, k1, kF], by simp [go_sem, k5, k1, kF], fun i => by simp [go_sem, kF], by simp [go_sem, r0], by simp [go_sem, r1], by simp [go_sem, r2], by simp [go_sem, r3], by simp [go_sem, r4], by simp [go_sem, r5], by simp [go_sem, r6], fun i => by simp [go_sem, rF]⟩
theorem FinSt.set2 {w V : World} {a0 a1 a2 a3 a4 a5 : Int} (h : FinSt w V a0 a1 a2 a3 a4 a5) (x : Int) : FinSt w (V.setCell ⟨w.heap.size, 2, none⟩ (.int .i64 x)) a0 a1 x a3 a4 a5 := by
  obtain ⟨b0, kl, rl, k0, k1, k2, k3, k4, k5, kF, r0, r1, r2, r3, r4, r5, r6, rF⟩ := h
  exact ⟨xs b0 (by simp) _, by simpa using kl, by simpa using rl, by simp [go_sem, k0, k2, kF], by simp [go_sem, k1, k2, kF], by simp [go_sem, k2, k2, kF], by simp [go_sem, k3, k2, kF], by simp [go_sem, k4, k2, kF], by simp [go_sem, k5, k2, kF], fun i => by simp [go_sem, kF], by simp [go_sem, r0], by simp [go_sem, r1], by simp [go_sem, r2], by simp [go_sem, r3], by simp [go_sem, r4], by simp [go_sem, r5], by simp [go_sem, r6], fun i => by simp [go_sem, rF]⟩
theorem FinSt.set3 {w V : World} {a0 a1 a2 a3 a4 a5 : Int} (h : FinSt w V a0 a1 a2 a3 a4 a5) (x : Int) : FinSt w (V.setCell ⟨w.heap.size, 3, none⟩ (.int .i64 x)) a0 a1 a2 x a4 a5 := by
  obtain ⟨b0, kl, rl, k0, k1, k2, k3, k4, k5, kF, r0, r1, r2, r3, r4, r5, r6, rF⟩ := h
  exact ⟨xs b0 (by simp) _, by simpa using kl, by simpa using rl, by simp [go_sem, k0, k3, kF], by simp [go_sem, k1, k3, kF], by simp [go_sem, k2, k3, kF], by simp [go_sem, k3, k3, kF], by simp [go_sem, k4, k3, kF], by simp [go_sem, k5, k3, kF], fun i => by simp [go_sem, kF], by simp [go_sem, r0], by simp [go_sem, r1], by simp [go_sem, r2], by simp [go_sem, r3], by simp [go_sem, r4], by simp [go_sem, r5], by simp [go_sem, r6], fun i => by simp [go_sem, rF]⟩
theorem FinSt.set4 {w V : World} {a0 a1 a2 a3 a4 a5 : Int} (h : FinSt w V a0 a1 a2 a3 a4 a5) (x : Int) : FinSt w (V.setCell ⟨w.heap.size, 4, none⟩ (.int .i64 x)) a0 a1 a2 a3 x a5 := by
  obtain ⟨b0, kl, rl, k0, k1, k2, k3, k4, k5, kF, r0, r1, r2, r3, r4, r5, r6, rF⟩ := h
  exact ⟨xs b0 (by simp) _, by simpa using kl, by simpa using rl, by simp [go_sem, k0, k4, kF], by simp [go_sem, k1, k4, kF], by simp [go_sem, k2, k4, kF], by simp [go_sem, k3, k4, kF], by simp [go_sem, k4, k4, kF], by simp [go_sem, k5, k4, kF], fun i => by simp [go_sem, kF], by simp [go_sem, r0], by simp [go_sem, r1], by simp [go_sem, r2], by simp [go_sem, r3], by simp [go_sem, r4], by simp [go_sem, r5], by simp [go_sem, r6], fun i => by simp [go_sem, rF]⟩
theorem FinSt.set5 {w V : World} {a0 a1 a2 a3 a4 a5 : Int} (h : FinSt w V a0 a1 a2 a3 a4 a5) (x : Int) : FinSt w (V.setCell ⟨w.heap.size, 5, none⟩ (.int .i64 x)) a0 a1 a2 a3 a4 x := by
  obtain ⟨b0, kl, rl, k0, k1, k2, k3, k4, k5, kF, r0, r1, r2, r3, r4, r5, r6, rF⟩ := h
  exact ⟨xs b0 (by simp) _, by simpa using kl, by simpa using rl, by simp [go_sem, k0, k5, kF], by simp [go_sem, k1, k5, kF], by simp [go_sem, k2, k5, kF], by simp [go_sem, k3, k5, kF], by simp [go_sem, k4, k5, kF], by simp [go_sem, k5, k5, kF], fun i => by simp [go_sem, kF], by simp [go_sem, r0], by simp [go_sem, r1], by simp [go_sem, r2], by simp [go_sem, r3], by simp [go_sem, r4], by simp [go_sem, r5], by simp [go_sem, r6], fun i => by simp [go_sem, rF]⟩
theorem FinSt.start (w : World) (st da : Int) : FinSt w ((w.alloc (.cells #[.int .i64 st, .int .i64 da, .int .i64 0, .int .i64 0, .int .i64 0, .int .i64 0] 24)).alloc (.cells #[.int .i64 0, .int .i64 0, .int .i64 0, .int .i64 0, .int .i64 0, .int .i64 0, .int .i64 0] 29)) st da 0 0 0 0 := by
  refine ⟨below_trans (below_alloc _ _) (below_alloc _ _), by simp; omega, by simp, by simp [go_sem], by simp [go_sem], by simp [go_sem], by simp [go_sem], by simp [go_sem], by simp [go_sem], fun i => by simp [go_sem], by simp [go_sem], by simp [go_sem], by simp [go_sem], by simp [go_sem], by simp [go_sem], by simp [go_sem], by simp [go_sem], fun i => by simp [go_sem]⟩
theorem FinSt.alloc {w V : World} {a0 a1 a2 a3 a4 a5 : Int} (h : FinSt w V a0 a1 a2 a3 a4 a5) (o : Obj) : FinSt w (V.alloc o) a0 a1 a2 a3 a4 a5 := h.grow (below_alloc _ _)
/-- Seven cells of one block. -/
structure Res7 (X : World) (b : Nat) (v0 v1 v2 v3 v4 v5 v6 : Int) : Prop where
  c0 : X.cell? ⟨b, 0, none⟩ = some (.int .i64 v0)
  c1 : X.cell? ⟨b, 1, none⟩ = some (.int .i64 v1)
  c2 : X.cell? ⟨b, 2, none⟩ = some (.int .i64 v2)
  c3 : X.cell? ⟨b, 3, none⟩ = some (.int .i64 v3)
  c4 : X.cell? ⟨b, 4, none⟩ = some (.int .i64 v4)
  c5 : X.cell? ⟨b, 5, none⟩ = some (.int .i64 v5)
  c6 : X.cell? ⟨b, 6, none⟩ = some (.int .i64 v6)
  F : ∀ i, X.frozen? ⟨b, i, none⟩ = false
theorem Res7.set0 {X : World} {b : Nat} {v0 v1 v2 v3 v4 v5 v6 : Int} (h : Res7 X b v0 v1 v2 v3 v4 v5 v6) (x : Int) : Res7 (X.setCell ⟨b, 0, none⟩ (.int .i64 x)) b x v1 v2 v3 v4 v5 v6 := by
  obtain ⟨c0, c1, c2, c3, c4, c5, c6, F⟩ := h
  exact ⟨by simp [go_sem, c0, c0, F], by simp [go_sem, c1, c0, F], by simp [go_sem, c2, c0, F], by simp [go_sem, c3, c0, F], by simp [go_sem, c4, c0, F], by simp [go_sem, c5, c0, F], by simp [go_sem, c6, c0, F], fun i => by simp [go_sem, F]⟩
theorem Res7.set1 {X : World} {b : Nat} {v0 v1 v2 v3 v4 v5 v6 : Int} (h : Res7 X b v0 v1 v2 v3 v4 v5 v6) (x : Int) : Res7 (X.setCell ⟨b, 1, none⟩ (.int .i64 x)) b v0 x v2 v3 v4 v5 v6 := by
  obtain ⟨c0, c1, c2, c3, c4, c5, c6, F⟩ := h
  exact ⟨by simp [go_sem, c0, c1, F], by simp [go_sem, c1, c1, F], by simp [go_sem, c2, c1, F], by simp [go_sem, c3, c1, F], by simp [go_sem, c4, c1, F], by simp [go_sem, c5, c1, F], by simp [go_sem, c6, c1, F], fun i => by simp [go_sem, F]⟩
theorem Res7.set2 {X : World} {b : Nat} {v0 v1 v2 v3 v4 v5 v6 : Int} (h : Res7 X b v0 v1 v2 v3 v4 v5 v6) (x : Int) : Res7 (X.setCell ⟨b, 2, none⟩ (.int .i64 x)) b v0 v1 x v3 v4 v5 v6 := by
  obtain ⟨c0, c1, c2, c3, c4, c5, c6, F⟩ := h
  exact ⟨by simp [go_sem, c0, c2, F], by simp [go_sem, c1, c2, F], by simp [go_sem, c2, c2, F], by simp [go_sem, c3, c2, F], by simp [go_sem, c4, c2, F], by simp [go_sem, c5, c2, F], by simp [go_sem, c6, c2, F], fun i => by simp [go_sem, F]⟩
theorem Res7.set3 {X : World} {b : Nat} {v0 v1 v2 v3 v4 v5 v6 : Int} (h : Res7 X b v0 v1 v2 v3 v4 v5 v6) (x : Int) : Res7 (X.setCell ⟨b, 3, none⟩ (.int .i64 x)) b v0 v1 v2 x v4 v5 v6 := by
  obtain ⟨c0, c1, c2, c3, c4, c5, c6, F⟩ := h
  exact ⟨by simp [go_sem, c0, c3, F], by simp [go_sem, c1, c3, F], by simp [go_sem, c2, c3, F], by simp [go_sem, c3, c3, F], by simp [go_sem, c4, c3, F], by simp [go_sem, c5, c3, F], by simp [go_sem, c6, c3, F], fun i => by simp [go_sem, F]⟩
theorem Res7.set4 {X : World} {b : Nat} {v0 v1 v2 v3 v4 v5 v6 : Int} (h : Res7 X b v0 v1 v2 v3 v4 v5 v6) (x : Int) : Res7 (X.setCell ⟨b, 4, none⟩ (.int .i64 x)) b v0 v1 v2 v3 x v5 v6 := by
  obtain ⟨c0, c1, c2, c3, c4, c5, c6, F⟩ := h
  exact ⟨by simp [go_sem, c0, c4, F], by simp [go_sem, c1, c4, F], by simp [go_sem, c2, c4, F], by simp [go_sem, c3, c4, F], by simp [go_sem, c4, c4, F], by simp [go_sem, c5, c4, F], by simp [go_sem, c6, c4, F], fun i => by simp [go_sem, F]⟩
theorem Res7.set5 {X : World} {b : Nat} {v0 v1 v2 v3 v4 v5 v6 : Int} (h : Res7 X b v0 v1 v2 v3 v4 v5 v6) (x : Int) : Res7 (X.setCell ⟨b, 5, none⟩ (.int .i64 x)) b v0 v1 v2 v3 v4 x v6 := by
  obtain ⟨c0, c1, c2, c3, c4, c5, c6, F⟩ := h
  exact ⟨by simp [go_sem, c0, c5, F], by simp [go_sem, c1, c5, F], by simp [go_sem, c2, c5, F], by simp [go_sem, c3, c5, F], by simp [go_sem, c4, c5, F], by simp [go_sem, c5, c5, F], by simp [go_sem, c6, c5, F], fun i => by simp [go_sem, F]⟩
theorem Res7.set6 {X : World} {b : Nat} {v0 v1 v2 v3 v4 v5 v6 : Int} (h : Res7 X b v0 v1 v2 v3 v4 v5 v6) (x : Int) : Res7 (X.setCell ⟨b, 6, none⟩ (.int .i64 x)) b v0 v1 v2 v3 v4 v5 x := by
  obtain ⟨c0, c1, c2, c3, c4, c5, c6, F⟩ := h
  exact ⟨by simp [go_sem, c0, c6, F], by simp [go_sem, c1, c6, F], by simp [go_sem, c2, c6, F], by simp [go_sem, c3, c6, F], by simp [go_sem, c4, c6, F], by simp [go_sem, c5, c6, F], by simp [go_sem, c6, c6, F], fun i => by simp [go_sem, F]⟩
theorem store7i {X : World} {b : Nat} {v0 v1 v2 v3 v4 v5 v6 : Int} (h : Res7 X b v0 v1 v2 v3 v4 v5 v6) (u0 u1 u2 u3 u4 u5 u6 : Int) : ∃ Y, ((((((X.setCell ⟨b, 0, none⟩ (.int .i64 u0)).setCell ⟨b, 1, none⟩ (.int .i64 u1)).setCell ⟨b, 2, none⟩ (.int .i64 u2)).setCell ⟨b, 3, none⟩ (.int .i64 u3)).setCell ⟨b, 4, none⟩ (.int .i64 u4)).setCell ⟨b, 5, none⟩ (.int .i64 u5)).setCell ⟨b, 6, none⟩ (.int .i64 u6) = Y ∧ Res7 Y b u0 u1 u2 u3 u4 u5 u6 ∧ Y.heap.size = X.heap.size ∧ ∀ (W : World), Below W.heap.size W X → W.heap.size ≤ b → Below W.heap.size W Y :=
  ⟨_, rfl, (((((((h.set0 u0).set1 u1).set2 u2).set3 u3).set4 u4).set5 u5).set6 u6), by simp, fun W h0 hb => xs (xs (xs (xs (xs (xs (xs h0 hb _) hb _) hb _) hb _) hb _) hb _) hb _⟩
theorem Res7.grow {X X' : World} {b : Nat} {v0 v1 v2 v3 v4 v5 v6 : Int} (h : Res7 X b v0 v1 v2 v3 v4 v5 v6) (hb : Below X.heap.size X X') : Res7 X' b v0 v1 v2 v3 v4 v5 v6 :=
  have l := World.block_lt_of_cell? _ _ h.c0
  ⟨(hb.cell (p := ⟨b, 0, none⟩) l).trans h.c0, (hb.cell (p := ⟨b, 1, none⟩) l).trans h.c1, (hb.cell (p := ⟨b, 2, none⟩) l).trans h.c2, (hb.cell (p := ⟨b, 3, none⟩) l).trans h.c3, (hb.cell (p := ⟨b, 4, none⟩) l).trans h.c4, (hb.cell (p := ⟨b, 5, none⟩) l).trans h.c5, (hb.cell (p := ⟨b, 6, none⟩) l).trans h.c6, fun i => (hb.frozen (p := ⟨b, i, none⟩) l).trans (h.F i)⟩
theorem FinSt.res {w V : World} {a0 a1 a2 a3 a4 a5 : Int} (h : FinSt w V a0 a1 a2 a3 a4 a5) : Res7 V (w.heap.size + 1) 0 0 0 0 0 0 0 := ⟨h.r0, h.r1, h.r2, h.r3, h.r4, h.r5, h.r6, h.rF⟩
theorem cell_on {V V' : World} {p : Addr} {v : Value} (hb : Below V.heap.size V V') (h : V.cell? p = some v) : V'.cell? p = some v := (hb.cell (World.block_lt_of_cell? _ _ h)).trans h
set_option maxRecDepth 100000 in
set_option maxHeartbeats 16000000 in
theorem c119n_z0 (cap : Nat) (hck : ¬ cap = 0) (st da : Int) (w : World) (hd0 : -1 ≤ da) (hd1 : da ≤ 100000)
    (H158 : ∀ W, Below w.heap.size w W → Hid (Calls Tryz.prog 158 #[.slice none 0 cap] W fun e w' => e = .returned (.agg #[.int .i64 1, .int .i64 0]) ∧ Below W.heap.size W w'))
    : Calls Tryz.prog 119 #[.agg #[.int .i64 st, .int .i64 da, .int .i64 0, .int .i64 0, .int .i64 0, .int .i64 0], .slice none 0 cap, .bool true] w fun e w' => e = .returned (.agg #[.int .i64 (0), .int .i64 (0), .int .i64 (0), .int .i64 (0), .int .i64 (0), .int .i64 (0), .int .i64 (7)]) ∧ Below w.heap.size w w' := by
  go_enter Tryz.func119, Tryz.ntmps119
  go_wp2_with fail
  refine (H158 _ (FinSt.start w st da).b0).out.mono ?_
  rintro e W1 ⟨rfl, hb⟩
  have st1 := (FinSt.start w st da).grow hb
  clear hb
  obtain ⟨b0, kl, rl, k0, k1, k2, k3, k4, k5, kF, r0, r1, r2, r3, r4, r5, r6, rF⟩ := id st1
  have hb1 := b0.size
  have ne2 : ¬ w.heap.size = W1.heap.size := by omega
  have ne3 : ¬ w.heap.size + 1 = W1.heap.size := by omega
  clear hb1
  go_wp2_with fail
  obtain ⟨Y, hY, hR, hS, hB⟩ := store7i ((FinSt.set1 (FinSt.set2 st1 1) (da + 1))).res (0) (0) (0) (0) (0) (0) (7)
  rw [hY]
  clear hY
  have hb0 := hB w ((FinSt.set1 (FinSt.set2 st1 1) (da + 1))).b0 (by omega)
  clear hB hS b0 kl rl k0 k1 k2 k3 k4 k5 kF r0 r1 r2 r3 r4 r5 r6 rF ne2 ne3 
  have hZ := below_alloc Y (.cells #[.int .i64 1, .int .i64 0] 183)
  obtain ⟨Z, hZZ⟩ : ∃ Z, Y.alloc (.cells #[.int .i64 1, .int .i64 0] 183) = Z := ⟨_, rfl⟩
  rw [hZZ] at hZ ⊢
  replace hR := hR.grow hZ
  replace hb0 := below_trans hb0 hZ
  clear hZ hZZ
  obtain ⟨c0, c1, c2, c3, c4, c5, c6, cF⟩ := hR
  exact bodyPost_ret (v := .agg #[.int .i64 (0), .int .i64 (0), .int .i64 (0), .int .i64 (0), .int .i64 (0), .int .i64 (0), .int .i64 (7)]) (by simp [results, Tryz.results119, go_sem, c0, c1, c2, c3, c4, c5, c6]) rfl ⟨rfl, by repeat (first | exact xr _ | exact hb0 | apply xa | apply xg | (refine xs ?_ (by simp) _))⟩
set_option maxRecDepth 100000 in
set_option maxHeartbeats 16000000 in
theorem c119n_z1 (st da : Int) (w : World) (hd0 : -1 ≤ da) (hd1 : da ≤ 100000)
    (H158 : ∀ W, Below w.heap.size w W → Hid (Calls Tryz.prog 158 #[.slice none 0 0] W fun e w' => e = .returned (.agg #[.int .i64 1, .int .i64 0]) ∧ Below W.heap.size W w'))
    : Calls Tryz.prog 119 #[.agg #[.int .i64 st, .int .i64 da, .int .i64 0, .int .i64 0, .int .i64 0, .int .i64 0], .slice none 0 0, .bool true] w fun e w' => e = .returned (.agg #[.int .i64 (0), .int .i64 (0), .int .i64 (0), .int .i64 (0), .int .i64 (0), .int .i64 (0), .int .i64 (7)]) ∧ Below w.heap.size w w' := by
  go_enter Tryz.func119, Tryz.ntmps119
  go_wp2_with fail
  refine (H158 _ (FinSt.start w st da).b0).out.mono ?_
  rintro e W1 ⟨rfl, hb⟩
  have st1 := (FinSt.start w st da).grow hb
  clear hb
  obtain ⟨b0, kl, rl, k0, k1, k2, k3, k4, k5, kF, r0, r1, r2, r3, r4, r5, r6, rF⟩ := id st1
  have hb1 := b0.size
  have ne2 : ¬ w.heap.size = W1.heap.size := by omega
  have ne3 : ¬ w.heap.size + 1 = W1.heap.size := by omega
  clear hb1
  go_wp2_with fail
  obtain ⟨Y, hY, hR, hS, hB⟩ := store7i ((FinSt.set1 (FinSt.set2 st1 1) (da + 1))).res (0) (0) (0) (0) (0) (0) (7)
  rw [hY]
  clear hY
  have hb0 := hB w ((FinSt.set1 (FinSt.set2 st1 1) (da + 1))).b0 (by omega)
  clear hB hS b0 kl rl k0 k1 k2 k3 k4 k5 kF r0 r1 r2 r3 r4 r5 r6 rF ne2 ne3 
  have hZ := below_alloc Y (.cells #[.int .i64 1, .int .i64 0] 183)
  obtain ⟨Z, hZZ⟩ : ∃ Z, Y.alloc (.cells #[.int .i64 1, .int .i64 0] 183) = Z := ⟨_, rfl⟩
  rw [hZZ] at hZ ⊢
  replace hR := hR.grow hZ
  replace hb0 := below_trans hb0 hZ
  clear hZ hZZ
  obtain ⟨c0, c1, c2, c3, c4, c5, c6, cF⟩ := hR
  exact bodyPost_ret (v := .agg #[.int .i64 (0), .int .i64 (0), .int .i64 (0), .int .i64 (0), .int .i64 (0), .int .i64 (0), .int .i64 (7)]) (by simp [results, Tryz.results119, go_sem, c0, c1, c2, c3, c4, c5, c6]) rfl ⟨rfl, by repeat (first | exact xr _ | exact hb0 | apply xa | apply xg | (refine xs ?_ (by simp) _))⟩
set_option maxRecDepth 100000 in
set_option maxHeartbeats 16000000 in
theorem c119n_z2 (p : Addr) (cap : Nat) (hck : ¬ cap = 0) (st da : Int) (w : World) (hd0 : -1 ≤ da) (hd1 : da ≤ 100000)
    (H158 : ∀ W, Below w.heap.size w W → Hid (Calls Tryz.prog 158 #[.slice (some p) 0 cap] W fun e w' => e = .returned (.agg #[.int .i64 1, .int .i64 0]) ∧ Below W.heap.size W w'))
    : Calls Tryz.prog 119 #[.agg #[.int .i64 st, .int .i64 da, .int .i64 0, .int .i64 0, .int .i64 0, .int .i64 0], .slice (some p) 0 cap, .bool true] w fun e w' => e = .returned (.agg #[.int .i64 (0), .int .i64 (0), .int .i64 (0), .int .i64 (0), .int .i64 (0), .int .i64 (0), .int .i64 (7)]) ∧ Below w.heap.size w w' := by
  obtain ⟨g, o, pth⟩ := p
  go_enter Tryz.func119, Tryz.ntmps119
  go_wp2_with fail
  refine (H158 _ (FinSt.start w st da).b0).out.mono ?_
  rintro e W1 ⟨rfl, hb⟩
  have st1 := (FinSt.start w st da).grow hb
  clear hb
  obtain ⟨b0, kl, rl, k0, k1, k2, k3, k4, k5, kF, r0, r1, r2, r3, r4, r5, r6, rF⟩ := id st1
  have hb1 := b0.size
  have ne2 : ¬ w.heap.size = W1.heap.size := by omega
  have ne3 : ¬ w.heap.size + 1 = W1.heap.size := by omega
  clear hb1
  go_wp2_with fail
  obtain ⟨Y, hY, hR, hS, hB⟩ := store7i ((FinSt.set1 (FinSt.set2 st1 1) (da + 1))).res (0) (0) (0) (0) (0) (0) (7)
  rw [hY]
  clear hY
  have hb0 := hB w ((FinSt.set1 (FinSt.set2 st1 1) (da + 1))).b0 (by omega)
  clear hB hS b0 kl rl k0 k1 k2 k3 k4 k5 kF r0 r1 r2 r3 r4 r5 r6 rF ne2 ne3 
  have hZ := below_alloc Y (.cells #[.int .i64 1, .int .i64 0] 183)
  obtain ⟨Z, hZZ⟩ : ∃ Z, Y.alloc (.cells #[.int .i64 1, .int .i64 0] 183) = Z := ⟨_, rfl⟩
  rw [hZZ] at hZ ⊢
  replace hR := hR.grow hZ
  replace hb0 := below_trans hb0 hZ
  clear hZ hZZ
  obtain ⟨c0, c1, c2, c3, c4, c5, c6, cF⟩ := hR
  exact bodyPost_ret (v := .agg #[.int .i64 (0), .int .i64 (0), .int .i64 (0), .int .i64 (0), .int .i64 (0), .int .i64 (0), .int .i64 (7)]) (by simp [results, Tryz.results119, go_sem, c0, c1, c2, c3, c4, c5, c6]) rfl ⟨rfl, by repeat (first | exact xr _ | exact hb0 | apply xa | apply xg | (refine xs ?_ (by simp) _))⟩
set_option maxRecDepth 100000 in
set_option maxHeartbeats 16000000 in
theorem c119n_z3 (p : Addr) (st da : Int) (w : World) (hd0 : -1 ≤ da) (hd1 : da ≤ 100000)
    (H158 : ∀ W, Below w.heap.size w W → Hid (Calls Tryz.prog 158 #[.slice (some p) 0 0] W fun e w' => e = .returned (.agg #[.int .i64 1, .int .i64 0]) ∧ Below W.heap.size W w'))
    : Calls Tryz.prog 119 #[.agg #[.int .i64 st, .int .i64 da, .int .i64 0, .int .i64 0, .int .i64 0, .int .i64 0], .slice (some p) 0 0, .bool true] w fun e w' => e = .returned (.agg #[.int .i64 (0), .int .i64 (0), .int .i64 (0), .int .i64 (0), .int .i64 (0), .int .i64 (0), .int .i64 (7)]) ∧ Below w.heap.size w w' := by
  obtain ⟨g, o, pth⟩ := p
  go_enter Tryz.func119, Tryz.ntmps119
  go_wp2_with fail
  refine (H158 _ (FinSt.start w st da).b0).out.mono ?_
  rintro e W1 ⟨rfl, hb⟩
  have st1 := (FinSt.start w st da).grow hb
  clear hb
  obtain ⟨b0, kl, rl, k0, k1, k2, k3, k4, k5, kF, r0, r1, r2, r3, r4, r5, r6, rF⟩ := id st1
  have hb1 := b0.size
  have ne2 : ¬ w.heap.size = W1.heap.size := by omega
  have ne3 : ¬ w.heap.size + 1 = W1.heap.size := by omega
  clear hb1
  go_wp2_with fail
  obtain ⟨Y, hY, hR, hS, hB⟩ := store7i ((FinSt.set1 (FinSt.set2 st1 1) (da + 1))).res (0) (0) (0) (0) (0) (0) (7)
  rw [hY]
  clear hY
  have hb0 := hB w ((FinSt.set1 (FinSt.set2 st1 1) (da + 1))).b0 (by omega)
  clear hB hS b0 kl rl k0 k1 k2 k3 k4 k5 kF r0 r1 r2 r3 r4 r5 r6 rF ne2 ne3 
  have hZ := below_alloc Y (.cells #[.int .i64 1, .int .i64 0] 183)
  obtain ⟨Z, hZZ⟩ : ∃ Z, Y.alloc (.cells #[.int .i64 1, .int .i64 0] 183) = Z := ⟨_, rfl⟩
  rw [hZZ] at hZ ⊢
  replace hR := hR.grow hZ
  replace hb0 := below_trans hb0 hZ
  clear hZ hZZ
  obtain ⟨c0, c1, c2, c3, c4, c5, c6, cF⟩ := hR
  exact bodyPost_ret (v := .agg #[.int .i64 (0), .int .i64 (0), .int .i64 (0), .int .i64 (0), .int .i64 (0), .int .i64 (0), .int .i64 (7)]) (by simp [results, Tryz.results119, go_sem, c0, c1, c2, c3, c4, c5, c6]) rfl ⟨rfl, by repeat (first | exact xr _ | exact hb0 | apply xa | apply xg | (refine xs ?_ (by simp) _))⟩
set_option maxRecDepth 100000 in
set_option maxHeartbeats 16000000 in
theorem c119n_s0 (g o k : Nat) (st da n : Int) (w : World) (hN : k ≤ 4000) (hg : g < w.heap.size) (hn0 : 0 ≤ n) (hn1 : n < 10000000000) (hd0 : -1 ≤ da) (hd1 : da ≤ 100000)
    (H158 : ∀ W, Below w.heap.size w W → Hid (Calls Tryz.prog 158 #[.slice (some ⟨g, o, none⟩) k k] W fun e w' => e = .returned (.agg #[.int .i64 n, .int .i64 (k : Int)]) ∧ Below W.heap.size W w'))
    : Calls Tryz.prog 119 #[.agg #[.int .i64 st, .int .i64 da, .int .i64 0, .int .i64 0, .int .i64 0, .int .i64 0], .slice (some ⟨g, o, none⟩) k k, .bool true] w fun e w' => e = .returned (.agg #[.int .i64 (0), .int .i64 (0), .int .i64 (0), .int .i64 (0), .int .i64 (0), .int .i64 (0), .int .i64 (7)]) ∧ Below w.heap.size w w' := by
  have ne4 : ¬ g = w.heap.size := by omega
  have ne5 : ¬ g = w.heap.size + 1 := by omega
  go_enter Tryz.func119, Tryz.ntmps119
  go_wp2_with fail
  refine (H158 _ (FinSt.start w st da).b0).out.mono ?_
  rintro e W1 ⟨rfl, hb⟩
  have st1 := (FinSt.start w st da).grow hb
  clear hb
  obtain ⟨b0, kl, rl, k0, k1, k2, k3, k4, k5, kF, r0, r1, r2, r3, r4, r5, r6, rF⟩ := id st1
  have hb1 := b0.size
  have gl : g < W1.heap.size := by omega
  have ne1 : ¬ g = W1.heap.size := by omega
  have ne2 : ¬ w.heap.size = W1.heap.size := by omega
  have ne3 : ¬ w.heap.size + 1 = W1.heap.size := by omega
  clear hb1
  go_wp2_with fail
  obtain ⟨Y, hY, hR, hS, hB⟩ := store7i ((FinSt.set1 (FinSt.set2 st1 n) (da + n))).res (0) (0) (0) (0) (0) (0) (7)
  rw [hY]
  clear hY
  have hb0 := hB w ((FinSt.set1 (FinSt.set2 st1 n) (da + n))).b0 (by omega)
  clear hB hS b0 kl rl k0 k1 k2 k3 k4 k5 kF r0 r1 r2 r3 r4 r5 r6 rF gl ne1 ne2 ne3 
  have hZ := below_alloc Y (.cells #[.int .i64 n, .int .i64 (k : Int)] 183)
  obtain ⟨Z, hZZ⟩ : ∃ Z, Y.alloc (.cells #[.int .i64 n, .int .i64 (k : Int)] 183) = Z := ⟨_, rfl⟩
  rw [hZZ] at hZ ⊢
  replace hR := hR.grow hZ
  replace hb0 := below_trans hb0 hZ
  clear hZ hZZ
  obtain ⟨c0, c1, c2, c3, c4, c5, c6, cF⟩ := hR
  exact bodyPost_ret (v := .agg #[.int .i64 (0), .int .i64 (0), .int .i64 (0), .int .i64 (0), .int .i64 (0), .int .i64 (0), .int .i64 (7)]) (by simp [results, Tryz.results119, go_sem, c0, c1, c2, c3, c4, c5, c6]) rfl ⟨rfl, by repeat (first | exact xr _ | exact hb0 | apply xa | apply xg | (refine xs ?_ (by simp) _))⟩
set_option maxRecDepth 100000 in
set_option maxHeartbeats 16000000 in
theorem c119n_s1 (g o cap k : Nat) (st da n : Int) (m : Nat) (hm1 : ¬ m = 1) (hm3 : ¬ m = 3) (w : World) (hcap : k + m ≤ cap) (hN : k + m ≤ 4000) (hg : g < w.heap.size) (hck : ¬ cap = k) (hn0 : 0 ≤ n) (hn1 : n < 10000000000) (hd0 : -1 ≤ da) (hd1 : da ≤ 100000)
    (H158 : ∀ W, Below w.heap.size w W → Hid (Calls Tryz.prog 158 #[.slice (some ⟨g, o, none⟩) (k + m) cap] W fun e w' => e = .returned (.agg #[.int .i64 n, .int .i64 (k : Int)]) ∧ Below W.heap.size W w'))
    : Calls Tryz.prog 119 #[.agg #[.int .i64 st, .int .i64 da, .int .i64 0, .int .i64 0, .int .i64 0, .int .i64 0], .slice (some ⟨g, o, none⟩) (k + m) cap, .bool true] w fun e w' => e = .returned (.agg #[.int .i64 (0), .int .i64 (0), .int .i64 (0), .int .i64 (0), .int .i64 (0), .int .i64 (0), .int .i64 (7)]) ∧ Below w.heap.size w w' := by
  have ne4 : ¬ g = w.heap.size := by omega
  have ne5 : ¬ g = w.heap.size + 1 := by omega
  go_enter Tryz.func119, Tryz.ntmps119
  go_wp2_with fail
  refine (H158 _ (FinSt.start w st da).b0).out.mono ?_
  rintro e W1 ⟨rfl, hb⟩
  have st1 := (FinSt.start w st da).grow hb
  clear hb
  obtain ⟨b0, kl, rl, k0, k1, k2, k3, k4, k5, kF, r0, r1, r2, r3, r4, r5, r6, rF⟩ := id st1
  have hb1 := b0.size
  have gl : g < W1.heap.size := by omega
  have ne1 : ¬ g = W1.heap.size := by omega
  have ne2 : ¬ w.heap.size = W1.heap.size := by omega
  have ne3 : ¬ w.heap.size + 1 = W1.heap.size := by omega
  clear hb1
  go_wp2_with fail
  obtain ⟨Y, hY, hR, hS, hB⟩ := store7i ((FinSt.set1 (FinSt.set2 st1 n) (da + n))).res (0) (0) (0) (0) (0) (0) (7)
  rw [hY]
  clear hY
  have hb0 := hB w ((FinSt.set1 (FinSt.set2 st1 n) (da + n))).b0 (by omega)
  clear hB hS b0 kl rl k0 k1 k2 k3 k4 k5 kF r0 r1 r2 r3 r4 r5 r6 rF gl ne1 ne2 ne3 
  have hZ := below_alloc Y (.cells #[.int .i64 n, .int .i64 (k : Int)] 183)
  obtain ⟨Z, hZZ⟩ : ∃ Z, Y.alloc (.cells #[.int .i64 n, .int .i64 (k : Int)] 183) = Z := ⟨_, rfl⟩
  rw [hZZ] at hZ ⊢
  replace hR := hR.grow hZ
  replace hb0 := below_trans hb0 hZ
  clear hZ hZZ
  obtain ⟨c0, c1, c2, c3, c4, c5, c6, cF⟩ := hR
  exact bodyPost_ret (v := .agg #[.int .i64 (0), .int .i64 (0), .int .i64 (0), .int .i64 (0), .int .i64 (0), .int .i64 (0), .int .i64 (7)]) (by simp [results, Tryz.results119, go_sem, c0, c1, c2, c3, c4, c5, c6]) rfl ⟨rfl, by repeat (first | exact xr _ | exact hb0 | apply xa | apply xg | (refine xs ?_ (by simp) _))⟩
set_option maxRecDepth 100000 in
set_option maxHeartbeats 16000000 in
theorem c119n_k0 (g o cap k : Nat) (st da n : Int) (x : List UInt8) (ki : Int) (hki : ¬ ki = 1) (hkb : (ki == 1) = false) (w : World) (hcap : k + 1 ≤ cap) (hN : k + 1 ≤ 4000) (hg : g < w.heap.size) (hck : ¬ cap = k) (hn0 : 0 ≤ n) (hn1 : n < 10000000000) (hd0 : -1 ≤ da) (hd1 : da ≤ 100000)
    (u0 : w.cell? ⟨g, o + k, none⟩ = some (.string ⟨x.toArray⟩))
    (H158 : ∀ W, Below w.heap.size w W → Hid (Calls Tryz.prog 158 #[.slice (some ⟨g, o, none⟩) (k + 1) cap] W fun e w' => e = .returned (.agg #[.int .i64 n, .int .i64 (k : Int)]) ∧ Below W.heap.size W w'))
    (H159 : ∀ W, Hid (Calls Tryz.prog 159 #[.string ⟨x.toArray⟩] W fun e w' => e = .returned (.int .i64 ki) ∧ Below W.heap.size W w'))
    (H37 : ∀ W, Hid (Calls Tryz.prog 37 #[.agg #[.int .i64 st, .int .i64 (da + n), .int .i64 n, .int .i64 ki, .int .i64 0, .int .i64 0]] W fun e w' => e = .returned (.bool false) ∧ Below W.heap.size W w'))
    : Calls Tryz.prog 119 #[.agg #[.int .i64 st, .int .i64 da, .int .i64 0, .int .i64 0, .int .i64 0, .int .i64 0], .slice (some ⟨g, o, none⟩) (k + 1) cap, .bool true] w fun e w' => e = .returned (.agg #[.int .i64 (0), .int .i64 (0), .int .i64 (0), .int .i64 (0), .int .i64 (0), .int .i64 (0), .int .i64 (3)]) ∧ Below w.heap.size w w' := by
  have ne4 : ¬ g = w.heap.size := by omega
  have ne5 : ¬ g = w.heap.size + 1 := by omega
  go_enter Tryz.func119, Tryz.ntmps119
  go_wp2_with fail
  refine (H158 _ (FinSt.start w st da).b0).out.mono ?_
  rintro e W1 ⟨rfl, hb⟩
  have st1 := (FinSt.start w st da).grow hb
  clear hb
  obtain ⟨b0, kl, rl, k0, k1, k2, k3, k4, k5, kF, r0, r1, r2, r3, r4, r5, r6, rF⟩ := id st1
  have hb1 := b0.size
  have gl : g < W1.heap.size := by omega
  have ne1 : ¬ g = W1.heap.size := by omega
  have ne2 : ¬ w.heap.size = W1.heap.size := by omega
  have ne3 : ¬ w.heap.size + 1 = W1.heap.size := by omega
  clear hb1
  have q0 := (b0.cell (p := ⟨g, o + k, none⟩) hg).trans u0
  go_wp2_with fail
  refine (H159 _).out.mono ?_
  rintro e W2 ⟨rfl, hb⟩
  have st2 := (FinSt.alloc (FinSt.set1 (FinSt.set2 st1 n) (da + n)) _).grow hb
  clear hb b0 kl rl k0 k1 k2 k3 k4 k5 kF r0 r1 r2 r3 r4 r5 r6 rF gl ne1 ne2 ne3 q0
  obtain ⟨b0, kl, rl, k0, k1, k2, k3, k4, k5, kF, r0, r1, r2, r3, r4, r5, r6, rF⟩ := id st2
  have hb1 := b0.size
  have gl : g < W2.heap.size := by omega
  have ne1 : ¬ g = W2.heap.size := by omega
  have ne2 : ¬ w.heap.size = W2.heap.size := by omega
  have ne3 : ¬ w.heap.size + 1 = W2.heap.size := by omega
  clear hb1
  have q0 := (b0.cell (p := ⟨g, o + k, none⟩) hg).trans u0
  go_wp2_with fail
  refine (H37 _).out.mono ?_
  rintro e W3 ⟨rfl, hb⟩
  have st3 := (FinSt.set3 st2 ki).grow hb
  clear hb b0 kl rl k0 k1 k2 k3 k4 k5 kF r0 r1 r2 r3 r4 r5 r6 rF gl ne1 ne2 ne3 q0
  obtain ⟨b0, kl, rl, k0, k1, k2, k3, k4, k5, kF, r0, r1, r2, r3, r4, r5, r6, rF⟩ := id st3
  have hb1 := b0.size
  have gl : g < W3.heap.size := by omega
  have ne1 : ¬ g = W3.heap.size := by omega
  have ne2 : ¬ w.heap.size = W3.heap.size := by omega
  have ne3 : ¬ w.heap.size + 1 = W3.heap.size := by omega
  clear hb1
  have q0 := (b0.cell (p := ⟨g, o + k, none⟩) hg).trans u0
  go_wp2_with fail
  obtain ⟨Y, hY, hR, hS, hB⟩ := store7i (st3).res (0) (0) (0) (0) (0) (0) (3)
  rw [hY]
  clear hY
  have hb0 := hB w (st3).b0 (by omega)
  clear hB hS b0 kl rl k0 k1 k2 k3 k4 k5 kF r0 r1 r2 r3 r4 r5 r6 rF gl ne1 ne2 ne3 q0
  obtain ⟨c0, c1, c2, c3, c4, c5, c6, cF⟩ := hR
  exact bodyPost_ret (v := .agg #[.int .i64 (0), .int .i64 (0), .int .i64 (0), .int .i64 (0), .int .i64 (0), .int .i64 (0), .int .i64 (3)]) (by simp [results, Tryz.results119, go_sem, c0, c1, c2, c3, c4, c5, c6]) rfl ⟨rfl, by repeat (first | exact xr _ | exact hb0 | apply xa | apply xg | (refine xs ?_ (by simp) _))⟩
set_option maxRecDepth 100000 in
set_option maxHeartbeats 16000000 in
theorem c119n_k1 (g o cap k : Nat) (st da n : Int) (x : List UInt8) (ki : Int) (hki : ¬ ki = 1) (hkb : (ki == 1) = false) (w : World) (hcap : k + 1 ≤ cap) (hN : k + 1 ≤ 4000) (hg : g < w.heap.size) (hck : ¬ cap = k) (hn0 : 0 ≤ n) (hn1 : n < 10000000000) (hd0 : -1 ≤ da) (hd1 : da ≤ 100000)
    (u0 : w.cell? ⟨g, o + k, none⟩ = some (.string ⟨x.toArray⟩))
    (H158 : ∀ W, Below w.heap.size w W → Hid (Calls Tryz.prog 158 #[.slice (some ⟨g, o, none⟩) (k + 1) cap] W fun e w' => e = .returned (.agg #[.int .i64 n, .int .i64 (k : Int)]) ∧ Below W.heap.size W w'))
    (H159 : ∀ W, Hid (Calls Tryz.prog 159 #[.string ⟨x.toArray⟩] W fun e w' => e = .returned (.int .i64 ki) ∧ Below W.heap.size W w'))
    (H37 : ∀ W, Hid (Calls Tryz.prog 37 #[.agg #[.int .i64 st, .int .i64 (da + n), .int .i64 n, .int .i64 ki, .int .i64 0, .int .i64 0]] W fun e w' => e = .returned (.bool true) ∧ Below W.heap.size W w'))
    : Calls Tryz.prog 119 #[.agg #[.int .i64 st, .int .i64 da, .int .i64 0, .int .i64 0, .int .i64 0, .int .i64 0], .slice (some ⟨g, o, none⟩) (k + 1) cap, .bool true] w fun e w' => e = .returned (.agg #[.int .i64 (st), .int .i64 (da + n), .int .i64 (n), .int .i64 (ki), .int .i64 (0), .int .i64 (0), .int .i64 (0)]) ∧ Below w.heap.size w w' := by
  have ne4 : ¬ g = w.heap.size := by omega
  have ne5 : ¬ g = w.heap.size + 1 := by omega
  go_enter Tryz.func119, Tryz.ntmps119
  go_wp2_with fail
  refine (H158 _ (FinSt.start w st da).b0).out.mono ?_
  rintro e W1 ⟨rfl, hb⟩
  have st1 := (FinSt.start w st da).grow hb
  clear hb
  obtain ⟨b0, kl, rl, k0, k1, k2, k3, k4, k5, kF, r0, r1, r2, r3, r4, r5, r6, rF⟩ := id st1
  have hb1 := b0.size
  have gl : g < W1.heap.size := by omega
  have ne1 : ¬ g = W1.heap.size := by omega
  have ne2 : ¬ w.heap.size = W1.heap.size := by omega
  have ne3 : ¬ w.heap.size + 1 = W1.heap.size := by omega
  clear hb1
  have q0 := (b0.cell (p := ⟨g, o + k, none⟩) hg).trans u0
  go_wp2_with fail
  refine (H159 _).out.mono ?_
  rintro e W2 ⟨rfl, hb⟩
  have st2 := (FinSt.alloc (FinSt.set1 (FinSt.set2 st1 n) (da + n)) _).grow hb
  clear hb b0 kl rl k0 k1 k2 k3 k4 k5 kF r0 r1 r2 r3 r4 r5 r6 rF gl ne1 ne2 ne3 q0
  obtain ⟨b0, kl, rl, k0, k1, k2, k3, k4, k5, kF, r0, r1, r2, r3, r4, r5, r6, rF⟩ := id st2
  have hb1 := b0.size
  have gl : g < W2.heap.size := by omega
  have ne1 : ¬ g = W2.heap.size := by omega
  have ne2 : ¬ w.heap.size = W2.heap.size := by omega
  have ne3 : ¬ w.heap.size + 1 = W2.heap.size := by omega
  clear hb1
  have q0 := (b0.cell (p := ⟨g, o + k, none⟩) hg).trans u0
  go_wp2_with fail
  refine (H37 _).out.mono ?_
  rintro e W3 ⟨rfl, hb⟩
  have st3 := (FinSt.set3 st2 ki).grow hb
  clear hb b0 kl rl k0 k1 k2 k3 k4 k5 kF r0 r1 r2 r3 r4 r5 r6 rF gl ne1 ne2 ne3 q0
  obtain ⟨b0, kl, rl, k0, k1, k2, k3, k4, k5, kF, r0, r1, r2, r3, r4, r5, r6, rF⟩ := id st3
  have hb1 := b0.size
  have gl : g < W3.heap.size := by omega
  have ne1 : ¬ g = W3.heap.size := by omega
  have ne2 : ¬ w.heap.size = W3.heap.size := by omega
  have ne3 : ¬ w.heap.size + 1 = W3.heap.size := by omega
  clear hb1
  have q0 := (b0.cell (p := ⟨g, o + k, none⟩) hg).trans u0
  go_wp2_with fail
  obtain ⟨Y, hY, hR, hS, hB⟩ := store7i (st3).res (st) (da + n) (n) (ki) (0) (0) (0)
  rw [hY]
  clear hY
  have hb0 := hB w (st3).b0 (by omega)
  clear hB hS b0 kl rl k0 k1 k2 k3 k4 k5 kF r0 r1 r2 r3 r4 r5 r6 rF gl ne1 ne2 ne3 q0
  obtain ⟨c0, c1, c2, c3, c4, c5, c6, cF⟩ := hR
  exact bodyPost_ret (v := .agg #[.int .i64 (st), .int .i64 (da + n), .int .i64 (n), .int .i64 (ki), .int .i64 (0), .int .i64 (0), .int .i64 (0)]) (by simp [results, Tryz.results119, go_sem, c0, c1, c2, c3, c4, c5, c6]) rfl ⟨rfl, by repeat (first | exact xr _ | exact hb0 | apply xa | apply xg | (refine xs ?_ (by simp) _))⟩
set_option maxRecDepth 100000 in
set_option maxHeartbeats 16000000 in
theorem c119n_n (g o cap k : Nat) (st da n : Int) (x : List UInt8) (a1 : Int) (w : World) (hcap : k + 1 ≤ cap) (hN : k + 1 ≤ 4000) (hg : g < w.heap.size) (hck : ¬ cap = k) (hn0 : 0 ≤ n) (hn1 : n < 10000000000) (hd0 : -1 ≤ da) (hd1 : da ≤ 100000)
    (u0 : w.cell? ⟨g, o + k, none⟩ = some (.string ⟨x.toArray⟩))
    (H158 : ∀ W, Below w.heap.size w W → Hid (Calls Tryz.prog 158 #[.slice (some ⟨g, o, none⟩) (k + 1) cap] W fun e w' => e = .returned (.agg #[.int .i64 n, .int .i64 (k : Int)]) ∧ Below W.heap.size W w'))
    (H159 : ∀ W, Hid (Calls Tryz.prog 159 #[.string ⟨x.toArray⟩] W fun e w' => e = .returned (.int .i64 1) ∧ Below W.heap.size W w'))
    (HA : ∀ W, Hid (Calls Tryz.prog 160 #[.string ⟨x.toArray⟩] W fun e w' => e = .returned (.agg #[.int .i64 a1, .int .i64 0]) ∧ Below W.heap.size W w'))
    : Calls Tryz.prog 119 #[.agg #[.int .i64 st, .int .i64 da, .int .i64 0, .int .i64 0, .int .i64 0, .int .i64 0], .slice (some ⟨g, o, none⟩) (k + 1) cap, .bool true] w fun e w' => e = .returned (.agg #[.int .i64 (0), .int .i64 (0), .int .i64 (0), .int .i64 (0), .int .i64 (0), .int .i64 (0), .int .i64 (7)]) ∧ Below w.heap.size w w' := by
  have ne4 : ¬ g = w.heap.size := by omega
  have ne5 : ¬ g = w.heap.size + 1 := by omega
  go_enter Tryz.func119, Tryz.ntmps119
  go_wp2_with fail
  refine (H158 _ (FinSt.start w st da).b0).out.mono ?_
  rintro e W1 ⟨rfl, hb⟩
  have st1 := (FinSt.start w st da).grow hb
  clear hb
  obtain ⟨b0, kl, rl, k0, k1, k2, k3, k4, k5, kF, r0, r1, r2, r3, r4, r5, r6, rF⟩ := id st1
  have hb1 := b0.size
  have gl : g < W1.heap.size := by omega
  have ne1 : ¬ g = W1.heap.size := by omega
  have ne2 : ¬ w.heap.size = W1.heap.size := by omega
  have ne3 : ¬ w.heap.size + 1 = W1.heap.size := by omega
  clear hb1
  have q0 := (b0.cell (p := ⟨g, o + k, none⟩) hg).trans u0
  go_wp2_with fail
  refine (H159 _).out.mono ?_
  rintro e W2 ⟨rfl, hb⟩
  have st2 := (FinSt.alloc (FinSt.set1 (FinSt.set2 st1 n) (da + n)) _).grow hb
  clear hb b0 kl rl k0 k1 k2 k3 k4 k5 kF r0 r1 r2 r3 r4 r5 r6 rF gl ne1 ne2 ne3 q0
  obtain ⟨b0, kl, rl, k0, k1, k2, k3, k4, k5, kF, r0, r1, r2, r3, r4, r5, r6, rF⟩ := id st2
  have hb1 := b0.size
  have gl : g < W2.heap.size := by omega
  have ne1 : ¬ g = W2.heap.size := by omega
  have ne2 : ¬ w.heap.size = W2.heap.size := by omega
  have ne3 : ¬ w.heap.size + 1 = W2.heap.size := by omega
  clear hb1
  have q0 := (b0.cell (p := ⟨g, o + k, none⟩) hg).trans u0
  go_wp2_with fail
  refine (HA _).out.mono ?_
  rintro e W3 ⟨rfl, hb⟩
  have st3 := (FinSt.set3 st2 1).grow hb
  clear hb b0 kl rl k0 k1 k2 k3 k4 k5 kF r0 r1 r2 r3 r4 r5 r6 rF gl ne1 ne2 ne3 q0
  obtain ⟨b0, kl, rl, k0, k1, k2, k3, k4, k5, kF, r0, r1, r2, r3, r4, r5, r6, rF⟩ := id st3
  have hb1 := b0.size
  have gl : g < W3.heap.size := by omega
  have ne1 : ¬ g = W3.heap.size := by omega
  have ne2 : ¬ w.heap.size = W3.heap.size := by omega
  have ne3 : ¬ w.heap.size + 1 = W3.heap.size := by omega
  clear hb1
  have q0 := (b0.cell (p := ⟨g, o + k, none⟩) hg).trans u0
  go_wp2_with fail
  obtain ⟨Y, hY, hR, hS, hB⟩ := store7i ((FinSt.set5 (FinSt.set4 st3 a1) 0)).res (0) (0) (0) (0) (0) (0) (7)
  rw [hY]
  clear hY
  have hb0 := hB w ((FinSt.set5 (FinSt.set4 st3 a1) 0)).b0 (by omega)
  clear hB hS b0 kl rl k0 k1 k2 k3 k4 k5 kF r0 r1 r2 r3 r4 r5 r6 rF gl ne1 ne2 ne3 q0
  have hZ := below_alloc Y (.cells #[.int .i64 (a1), .int .i64 (0)] 186)
  obtain ⟨Z, hZZ⟩ : ∃ Z, Y.alloc (.cells #[.int .i64 (a1), .int .i64 (0)] 186) = Z := ⟨_, rfl⟩
  rw [hZZ] at hZ ⊢
  replace hR := hR.grow hZ
  replace hb0 := below_trans hb0 hZ
  clear hZ hZZ
  obtain ⟨c0, c1, c2, c3, c4, c5, c6, cF⟩ := hR
  exact bodyPost_ret (v := .agg #[.int .i64 (0), .int .i64 (0), .int .i64 (0), .int .i64 (0), .int .i64 (0), .int .i64 (0), .int .i64 (7)]) (by simp [results, Tryz.results119, go_sem, c0, c1, c2, c3, c4, c5, c6]) rfl ⟨rfl, by repeat (first | exact xr _ | exact hb0 | apply xa | apply xg | (refine xs ?_ (by simp) _))⟩
set_option maxRecDepth 100000 in
set_option maxHeartbeats 16000000 in
theorem c119n_a0 (g o cap k : Nat) (st da n : Int) (x : List UInt8) (a1 a2 : Int) (ha2 : ¬ a2 = 0) (ha2b : (a2 == 0) = false) (w : World) (hcap : k + 1 ≤ cap) (hN : k + 1 ≤ 4000) (hg : g < w.heap.size) (hck : ¬ cap = k) (hn0 : 0 ≤ n) (hn1 : n < 10000000000) (hd0 : -1 ≤ da) (hd1 : da ≤ 100000)
    (u0 : w.cell? ⟨g, o + k, none⟩ = some (.string ⟨x.toArray⟩))
    (H158 : ∀ W, Below w.heap.size w W → Hid (Calls Tryz.prog 158 #[.slice (some ⟨g, o, none⟩) (k + 1) cap] W fun e w' => e = .returned (.agg #[.int .i64 n, .int .i64 (k : Int)]) ∧ Below W.heap.size W w'))
    (H159 : ∀ W, Hid (Calls Tryz.prog 159 #[.string ⟨x.toArray⟩] W fun e w' => e = .returned (.int .i64 1) ∧ Below W.heap.size W w'))
    (HA : ∀ W, Hid (Calls Tryz.prog 160 #[.string ⟨x.toArray⟩] W fun e w' => e = .returned (.agg #[.int .i64 a1, .int .i64 a2]) ∧ Below W.heap.size W w'))
    (H37 : ∀ W, Hid (Calls Tryz.prog 37 #[.agg #[.int .i64 st, .int .i64 (da + n), .int .i64 n, .int .i64 1, .int .i64 a1, .int .i64 a2]] W fun e w' => e = .returned (.bool false) ∧ Below W.heap.size W w'))
    : Calls Tryz.prog 119 #[.agg #[.int .i64 st, .int .i64 da, .int .i64 0, .int .i64 0, .int .i64 0, .int .i64 0], .slice (some ⟨g, o, none⟩) (k + 1) cap, .bool true] w fun e w' => e = .returned (.agg #[.int .i64 (0), .int .i64 (0), .int .i64 (0), .int .i64 (0), .int .i64 (0), .int .i64 (0), .int .i64 (3)]) ∧ Below w.heap.size w w' := by
  have ne4 : ¬ g = w.heap.size := by omega
  have ne5 : ¬ g = w.heap.size + 1 := by omega
  go_enter Tryz.func119, Tryz.ntmps119
  go_wp2_with fail
  refine (H158 _ (FinSt.start w st da).b0).out.mono ?_
  rintro e W1 ⟨rfl, hb⟩
  have st1 := (FinSt.start w st da).grow hb
  clear hb
  obtain ⟨b0, kl, rl, k0, k1, k2, k3, k4, k5, kF, r0, r1, r2, r3, r4, r5, r6, rF⟩ := id st1
  have hb1 := b0.size
  have gl : g < W1.heap.size := by omega
  have ne1 : ¬ g = W1.heap.size := by omega
  have ne2 : ¬ w.heap.size = W1.heap.size := by omega
  have ne3 : ¬ w.heap.size + 1 = W1.heap.size := by omega
  clear hb1
  have q0 := (b0.cell (p := ⟨g, o + k, none⟩) hg).trans u0
  go_wp2_with fail
  refine (H159 _).out.mono ?_
  rintro e W2 ⟨rfl, hb⟩
  have st2 := (FinSt.alloc (FinSt.set1 (FinSt.set2 st1 n) (da + n)) _).grow hb
  clear hb b0 kl rl k0 k1 k2 k3 k4 k5 kF r0 r1 r2 r3 r4 r5 r6 rF gl ne1 ne2 ne3 q0
  obtain ⟨b0, kl, rl, k0, k1, k2, k3, k4, k5, kF, r0, r1, r2, r3, r4, r5, r6, rF⟩ := id st2
  have hb1 := b0.size
  have gl : g < W2.heap.size := by omega
  have ne1 : ¬ g = W2.heap.size := by omega
  have ne2 : ¬ w.heap.size = W2.heap.size := by omega
  have ne3 : ¬ w.heap.size + 1 = W2.heap.size := by omega
  clear hb1
  have q0 := (b0.cell (p := ⟨g, o + k, none⟩) hg).trans u0
  go_wp2_with fail
  refine (HA _).out.mono ?_
  rintro e W3 ⟨rfl, hb⟩
  have st3 := (FinSt.set3 st2 1).grow hb
  clear hb b0 kl rl k0 k1 k2 k3 k4 k5 kF r0 r1 r2 r3 r4 r5 r6 rF gl ne1 ne2 ne3 q0
  obtain ⟨b0, kl, rl, k0, k1, k2, k3, k4, k5, kF, r0, r1, r2, r3, r4, r5, r6, rF⟩ := id st3
  have hb1 := b0.size
  have gl : g < W3.heap.size := by omega
  have ne1 : ¬ g = W3.heap.size := by omega
  have ne2 : ¬ w.heap.size = W3.heap.size := by omega
  have ne3 : ¬ w.heap.size + 1 = W3.heap.size := by omega
  clear hb1
  have q0 := (b0.cell (p := ⟨g, o + k, none⟩) hg).trans u0
  go_wp2_with fail
  refine (H37 _).out.mono ?_
  rintro e W4 ⟨rfl, hb⟩
  have st4 := (FinSt.alloc (FinSt.set5 (FinSt.set4 st3 a1) a2) _).grow hb
  clear hb b0 kl rl k0 k1 k2 k3 k4 k5 kF r0 r1 r2 r3 r4 r5 r6 rF gl ne1 ne2 ne3 q0
  obtain ⟨b0, kl, rl, k0, k1, k2, k3, k4, k5, kF, r0, r1, r2, r3, r4, r5, r6, rF⟩ := id st4
  have hb1 := b0.size
  have gl : g < W4.heap.size := by omega
  have ne1 : ¬ g = W4.heap.size := by omega
  have ne2 : ¬ w.heap.size = W4.heap.size := by omega
  have ne3 : ¬ w.heap.size + 1 = W4.heap.size := by omega
  clear hb1
  have q0 := (b0.cell (p := ⟨g, o + k, none⟩) hg).trans u0
  go_wp2_with fail
  obtain ⟨Y, hY, hR, hS, hB⟩ := store7i (st4).res (0) (0) (0) (0) (0) (0) (3)
  rw [hY]
  clear hY
  have hb0 := hB w (st4).b0 (by omega)
  clear hB hS b0 kl rl k0 k1 k2 k3 k4 k5 kF r0 r1 r2 r3 r4 r5 r6 rF gl ne1 ne2 ne3 q0
  obtain ⟨c0, c1, c2, c3, c4, c5, c6, cF⟩ := hR
  exact bodyPost_ret (v := .agg #[.int .i64 (0), .int .i64 (0), .int .i64 (0), .int .i64 (0), .int .i64 (0), .int .i64 (0), .int .i64 (3)]) (by simp [results, Tryz.results119, go_sem, c0, c1, c2, c3, c4, c5, c6]) rfl ⟨rfl, by repeat (first | exact xr _ | exact hb0 | apply xa | apply xg | (refine xs ?_ (by simp) _))⟩
set_option maxRecDepth 100000 in
set_option maxHeartbeats 16000000 in
theorem c119n_a1 (g o cap k : Nat) (st da n : Int) (x : List UInt8) (a1 a2 : Int) (ha2 : ¬ a2 = 0) (ha2b : (a2 == 0) = false) (w : World) (hcap : k + 1 ≤ cap) (hN : k + 1 ≤ 4000) (hg : g < w.heap.size) (hck : ¬ cap = k) (hn0 : 0 ≤ n) (hn1 : n < 10000000000) (hd0 : -1 ≤ da) (hd1 : da ≤ 100000)
    (u0 : w.cell? ⟨g, o + k, none⟩ = some (.string ⟨x.toArray⟩))
    (H158 : ∀ W, Below w.heap.size w W → Hid (Calls Tryz.prog 158 #[.slice (some ⟨g, o, none⟩) (k + 1) cap] W fun e w' => e = .returned (.agg #[.int .i64 n, .int .i64 (k : Int)]) ∧ Below W.heap.size W w'))
    (H159 : ∀ W, Hid (Calls Tryz.prog 159 #[.string ⟨x.toArray⟩] W fun e w' => e = .returned (.int .i64 1) ∧ Below W.heap.size W w'))
    (HA : ∀ W, Hid (Calls Tryz.prog 160 #[.string ⟨x.toArray⟩] W fun e w' => e = .returned (.agg #[.int .i64 a1, .int .i64 a2]) ∧ Below W.heap.size W w'))
    (H37 : ∀ W, Hid (Calls Tryz.prog 37 #[.agg #[.int .i64 st, .int .i64 (da + n), .int .i64 n, .int .i64 1, .int .i64 a1, .int .i64 a2]] W fun e w' => e = .returned (.bool true) ∧ Below W.heap.size W w'))
    : Calls Tryz.prog 119 #[.agg #[.int .i64 st, .int .i64 da, .int .i64 0, .int .i64 0, .int .i64 0, .int .i64 0], .slice (some ⟨g, o, none⟩) (k + 1) cap, .bool true] w fun e w' => e = .returned (.agg #[.int .i64 (st), .int .i64 (da + n), .int .i64 (n), .int .i64 (1), .int .i64 (a1), .int .i64 (a2), .int .i64 (0)]) ∧ Below w.heap.size w w' := by
  have ne4 : ¬ g = w.heap.size := by omega
  have ne5 : ¬ g = w.heap.size + 1 := by omega
  go_enter Tryz.func119, Tryz.ntmps119
  go_wp2_with fail
  refine (H158 _ (FinSt.start w st da).b0).out.mono ?_
  rintro e W1 ⟨rfl, hb⟩
  have st1 := (FinSt.start w st da).grow hb
  clear hb
  obtain ⟨b0, kl, rl, k0, k1, k2, k3, k4, k5, kF, r0, r1, r2, r3, r4, r5, r6, rF⟩ := id st1
  have hb1 := b0.size
  have gl : g < W1.heap.size := by omega
  have ne1 : ¬ g = W1.heap.size := by omega
  have ne2 : ¬ w.heap.size = W1.heap.size := by omega
  have ne3 : ¬ w.heap.size + 1 = W1.heap.size := by omega
  clear hb1
  have q0 := (b0.cell (p := ⟨g, o + k, none⟩) hg).trans u0
  go_wp2_with fail
  refine (H159 _).out.mono ?_
  rintro e W2 ⟨rfl, hb⟩
  have st2 := (FinSt.alloc (FinSt.set1 (FinSt.set2 st1 n) (da + n)) _).grow hb
  clear hb b0 kl rl k0 k1 k2 k3 k4 k5 kF r0 r1 r2 r3 r4 r5 r6 rF gl ne1 ne2 ne3 q0
  obtain ⟨b0, kl, rl, k0, k1, k2, k3, k4, k5, kF, r0, r1, r2, r3, r4, r5, r6, rF⟩ := id st2
  have hb1 := b0.size
  have gl : g < W2.heap.size := by omega
  have ne1 : ¬ g = W2.heap.size := by omega
  have ne2 : ¬ w.heap.size = W2.heap.size := by omega
  have ne3 : ¬ w.heap.size + 1 = W2.heap.size := by omega
  clear hb1
  have q0 := (b0.cell (p := ⟨g, o + k, none⟩) hg).trans u0
  go_wp2_with fail
  refine (HA _).out.mono ?_
  rintro e W3 ⟨rfl, hb⟩
  have st3 := (FinSt.set3 st2 1).grow hb
  clear hb b0 kl rl k0 k1 k2 k3 k4 k5 kF r0 r1 r2 r3 r4 r5 r6 rF gl ne1 ne2 ne3 q0
  obtain ⟨b0, kl, rl, k0, k1, k2, k3, k4, k5, kF, r0, r1, r2, r3, r4, r5, r6, rF⟩ := id st3
  have hb1 := b0.size
  have gl : g < W3.heap.size := by omega
  have ne1 : ¬ g = W3.heap.size := by omega
  have ne2 : ¬ w.heap.size = W3.heap.size := by omega
  have ne3 : ¬ w.heap.size + 1 = W3.heap.size := by omega
  clear hb1
  have q0 := (b0.cell (p := ⟨g, o + k, none⟩) hg).trans u0
  go_wp2_with fail
  refine (H37 _).out.mono ?_
  rintro e W4 ⟨rfl, hb⟩
  have st4 := (FinSt.alloc (FinSt.set5 (FinSt.set4 st3 a1) a2) _).grow hb
  clear hb b0 kl rl k0 k1 k2 k3 k4 k5 kF r0 r1 r2 r3 r4 r5 r6 rF gl ne1 ne2 ne3 q0
  obtain ⟨b0, kl, rl, k0, k1, k2, k3, k4, k5, kF, r0, r1, r2, r3, r4, r5, r6, rF⟩ := id st4
  have hb1 := b0.size
  have gl : g < W4.heap.size := by omega
  have ne1 : ¬ g = W4.heap.size := by omega
  have ne2 : ¬ w.heap.size = W4.heap.size := by omega
  have ne3 : ¬ w.heap.size + 1 = W4.heap.size := by omega
  clear hb1
  have q0 := (b0.cell (p := ⟨g, o + k, none⟩) hg).trans u0
  go_wp2_with fail
  obtain ⟨Y, hY, hR, hS, hB⟩ := store7i (st4).res (st) (da + n) (n) (1) (a1) (a2) (0)
  rw [hY]
  clear hY
  have hb0 := hB w (st4).b0 (by omega)
  clear hB hS b0 kl rl k0 k1 k2 k3 k4 k5 kF r0 r1 r2 r3 r4 r5 r6 rF gl ne1 ne2 ne3 q0
  obtain ⟨c0, c1, c2, c3, c4, c5, c6, cF⟩ := hR
  exact bodyPost_ret (v := .agg #[.int .i64 (st), .int .i64 (da + n), .int .i64 (n), .int .i64 (1), .int .i64 (a1), .int .i64 (a2), .int .i64 (0)]) (by simp [results, Tryz.results119, go_sem, c0, c1, c2, c3, c4, c5, c6]) rfl ⟨rfl, by repeat (first | exact xr _ | exact hb0 | apply xa | apply xg | (refine xs ?_ (by simp) _))⟩
set_option maxRecDepth 100000 in
set_option maxHeartbeats 16000000 in
theorem c119n_t (g o cap k : Nat) (st da n : Int) (x z : List UInt8) (y : List UInt8) (hy : (y == [116, 111]) = false) (w : World) (hcap : k + 3 ≤ cap) (hN : k + 3 ≤ 4000) (hg : g < w.heap.size) (hck : ¬ cap = k) (hn0 : 0 ≤ n) (hn1 : n < 10000000000) (hd0 : -1 ≤ da) (hd1 : da ≤ 100000)
    (u0 : w.cell? ⟨g, o + k, none⟩ = some (.string ⟨x.toArray⟩))
    (u1 : w.cell? ⟨g, o + k + 1, none⟩ = some (.string ⟨y.toArray⟩))
    (u2 : w.cell? ⟨g, o + k + 2, none⟩ = some (.string ⟨z.toArray⟩))
    (H158 : ∀ W, Below w.heap.size w W → Hid (Calls Tryz.prog 158 #[.slice (some ⟨g, o, none⟩) (k + 3) cap] W fun e w' => e = .returned (.agg #[.int .i64 n, .int .i64 (k : Int)]) ∧ Below W.heap.size W w'))
    : Calls Tryz.prog 119 #[.agg #[.int .i64 st, .int .i64 da, .int .i64 0, .int .i64 0, .int .i64 0, .int .i64 0], .slice (some ⟨g, o, none⟩) (k + 3) cap, .bool true] w fun e w' => e = .returned (.agg #[.int .i64 (0), .int .i64 (0), .int .i64 (0), .int .i64 (0), .int .i64 (0), .int .i64 (0), .int .i64 (7)]) ∧ Below w.heap.size w w' := by
  have ne4 : ¬ g = w.heap.size := by omega
  have ne5 : ¬ g = w.heap.size + 1 := by omega
  go_enter Tryz.func119, Tryz.ntmps119
  go_wp2_with fail
  refine (H158 _ (FinSt.start w st da).b0).out.mono ?_
  rintro e W1 ⟨rfl, hb⟩
  have st1 := (FinSt.start w st da).grow hb
  clear hb
  obtain ⟨b0, kl, rl, k0, k1, k2, k3, k4, k5, kF, r0, r1, r2, r3, r4, r5, r6, rF⟩ := id st1
  have hb1 := b0.size
  have gl : g < W1.heap.size := by omega
  have ne1 : ¬ g = W1.heap.size := by omega
  have ne2 : ¬ w.heap.size = W1.heap.size := by omega
  have ne3 : ¬ w.heap.size + 1 = W1.heap.size := by omega
  clear hb1
  have q0 := (b0.cell (p := ⟨g, o + k, none⟩) hg).trans u0
  have q1 := (b0.cell (p := ⟨g, o + k + 1, none⟩) hg).trans u1
  have q2 := (b0.cell (p := ⟨g, o + k + 2, none⟩) hg).trans u2
  go_wp2_with fail
  obtain ⟨Y, hY, hR, hS, hB⟩ := store7i ((FinSt.set1 (FinSt.set2 st1 n) (da + n))).res (0) (0) (0) (0) (0) (0) (7)
  rw [hY]
  clear hY
  have hb0 := hB w ((FinSt.set1 (FinSt.set2 st1 n) (da + n))).b0 (by omega)
  clear hB hS b0 kl rl k0 k1 k2 k3 k4 k5 kF r0 r1 r2 r3 r4 r5 r6 rF gl ne1 ne2 ne3 q0 q1 q2
  have hZ := below_alloc Y (.cells #[.int .i64 n, .int .i64 (k : Int)] 183)
  obtain ⟨Z, hZZ⟩ : ∃ Z, Y.alloc (.cells #[.int .i64 n, .int .i64 (k : Int)] 183) = Z := ⟨_, rfl⟩
  rw [hZZ] at hZ ⊢
  replace hR := hR.grow hZ
  replace hb0 := below_trans hb0 hZ
  clear hZ hZZ
  obtain ⟨c0, c1, c2, c3, c4, c5, c6, cF⟩ := hR
  exact bodyPost_ret (v := .agg #[.int .i64 (0), .int .i64 (0), .int .i64 (0), .int .i64 (0), .int .i64 (0), .int .i64 (0), .int .i64 (7)]) (by simp [results, Tryz.results119, go_sem, c0, c1, c2, c3, c4, c5, c6]) rfl ⟨rfl, by repeat (first | exact xr _ | exact hb0 | apply xa | apply xg | (refine xs ?_ (by simp) _))⟩
set_option maxRecDepth 100000 in
set_option maxHeartbeats 16000000 in
theorem c119n_u (g o cap k : Nat) (st da n : Int) (x z : List UInt8) (ki : Int) (hki : ¬ ki = 1) (hkb : (ki == 1) = false) (w : World) (hcap : k + 3 ≤ cap) (hN : k + 3 ≤ 4000) (hg : g < w.heap.size) (hck : ¬ cap = k) (hn0 : 0 ≤ n) (hn1 : n < 10000000000) (hd0 : -1 ≤ da) (hd1 : da ≤ 100000)
    (u0 : w.cell? ⟨g, o + k, none⟩ = some (.string ⟨x.toArray⟩))
    (u1 : w.cell? ⟨g, o + k + 1, none⟩ = some (.string ⟨#[116, 111]⟩))
    (u2 : w.cell? ⟨g, o + k + 2, none⟩ = some (.string ⟨z.toArray⟩))
    (H158 : ∀ W, Below w.heap.size w W → Hid (Calls Tryz.prog 158 #[.slice (some ⟨g, o, none⟩) (k + 3) cap] W fun e w' => e = .returned (.agg #[.int .i64 n, .int .i64 (k : Int)]) ∧ Below W.heap.size W w'))
    (H159 : ∀ W, Hid (Calls Tryz.prog 159 #[.string ⟨x.toArray⟩] W fun e w' => e = .returned (.int .i64 ki) ∧ Below W.heap.size W w'))
    : Calls Tryz.prog 119 #[.agg #[.int .i64 st, .int .i64 da, .int .i64 0, .int .i64 0, .int .i64 0, .int .i64 0], .slice (some ⟨g, o, none⟩) (k + 3) cap, .bool true] w fun e w' => e = .returned (.agg #[.int .i64 (0), .int .i64 (0), .int .i64 (0), .int .i64 (0), .int .i64 (0), .int .i64 (0), .int .i64 (7)]) ∧ Below w.heap.size w w' := by
  have ne4 : ¬ g = w.heap.size := by omega
  have ne5 : ¬ g = w.heap.size + 1 := by omega
  go_enter Tryz.func119, Tryz.ntmps119
  go_wp2_with fail
  refine (H158 _ (FinSt.start w st da).b0).out.mono ?_
  rintro e W1 ⟨rfl, hb⟩
  have st1 := (FinSt.start w st da).grow hb
  clear hb
  obtain ⟨b0, kl, rl, k0, k1, k2, k3, k4, k5, kF, r0, r1, r2, r3, r4, r5, r6, rF⟩ := id st1
  have hb1 := b0.size
  have gl : g < W1.heap.size := by omega
  have ne1 : ¬ g = W1.heap.size := by omega
  have ne2 : ¬ w.heap.size = W1.heap.size := by omega
  have ne3 : ¬ w.heap.size + 1 = W1.heap.size := by omega
  clear hb1
  have q0 := (b0.cell (p := ⟨g, o + k, none⟩) hg).trans u0
  have q1 := (b0.cell (p := ⟨g, o + k + 1, none⟩) hg).trans u1
  have q2 := (b0.cell (p := ⟨g, o + k + 2, none⟩) hg).trans u2
  go_wp2_with fail
  refine (H159 _).out.mono ?_
  rintro e W2 ⟨rfl, hb⟩
  have st2 := (FinSt.alloc (FinSt.set1 (FinSt.set2 st1 n) (da + n)) _).grow hb
  clear hb b0 kl rl k0 k1 k2 k3 k4 k5 kF r0 r1 r2 r3 r4 r5 r6 rF gl ne1 ne2 ne3 q0 q1 q2
  obtain ⟨b0, kl, rl, k0, k1, k2, k3, k4, k5, kF, r0, r1, r2, r3, r4, r5, r6, rF⟩ := id st2
  have hb1 := b0.size
  have gl : g < W2.heap.size := by omega
  have ne1 : ¬ g = W2.heap.size := by omega
  have ne2 : ¬ w.heap.size = W2.heap.size := by omega
  have ne3 : ¬ w.heap.size + 1 = W2.heap.size := by omega
  clear hb1
  have q0 := (b0.cell (p := ⟨g, o + k, none⟩) hg).trans u0
  have q1 := (b0.cell (p := ⟨g, o + k + 1, none⟩) hg).trans u1
  have q2 := (b0.cell (p := ⟨g, o + k + 2, none⟩) hg).trans u2
  go_wp2_with fail
  obtain ⟨Y, hY, hR, hS, hB⟩ := store7i ((FinSt.set3 st2 ki)).res (0) (0) (0) (0) (0) (0) (7)
  rw [hY]
  clear hY
  have hb0 := hB w ((FinSt.set3 st2 ki)).b0 (by omega)
  clear hB hS b0 kl rl k0 k1 k2 k3 k4 k5 kF r0 r1 r2 r3 r4 r5 r6 rF gl ne1 ne2 ne3 q0 q1 q2
  obtain ⟨c0, c1, c2, c3, c4, c5, c6, cF⟩ := hR
  exact bodyPost_ret (v := .agg #[.int .i64 (0), .int .i64 (0), .int .i64 (0), .int .i64 (0), .int .i64 (0), .int .i64 (0), .int .i64 (7)]) (by simp [results, Tryz.results119, go_sem, c0, c1, c2, c3, c4, c5, c6]) rfl ⟨rfl, by repeat (first | exact xr _ | exact hb0 | apply xa | apply xg | (refine xs ?_ (by simp) _))⟩
set_option maxRecDepth 100000 in
set_option maxHeartbeats 16000000 in
theorem c119n_f (g o cap k : Nat) (st da n : Int) (x z : List UInt8) (a1 a2 f1 : Int) (w : World) (hcap : k + 3 ≤ cap) (hN : k + 3 ≤ 4000) (hg : g < w.heap.size) (hck : ¬ cap = k) (hn0 : 0 ≤ n) (hn1 : n < 10000000000) (hd0 : -1 ≤ da) (hd1 : da ≤ 100000)
    (u0 : w.cell? ⟨g, o + k, none⟩ = some (.string ⟨x.toArray⟩))
    (u1 : w.cell? ⟨g, o + k + 1, none⟩ = some (.string ⟨#[116, 111]⟩))
    (u2 : w.cell? ⟨g, o + k + 2, none⟩ = some (.string ⟨z.toArray⟩))
    (H158 : ∀ W, Below w.heap.size w W → Hid (Calls Tryz.prog 158 #[.slice (some ⟨g, o, none⟩) (k + 3) cap] W fun e w' => e = .returned (.agg #[.int .i64 n, .int .i64 (k : Int)]) ∧ Below W.heap.size W w'))
    (H159 : ∀ W, Hid (Calls Tryz.prog 159 #[.string ⟨x.toArray⟩] W fun e w' => e = .returned (.int .i64 1) ∧ Below W.heap.size W w'))
    (HA : ∀ W, Hid (Calls Tryz.prog 160 #[.string ⟨x.toArray⟩] W fun e w' => e = .returned (.agg #[.int .i64 a1, .int .i64 a2]) ∧ Below W.heap.size W w'))
    (HF : ∀ W, Hid (Calls Tryz.prog 160 #[.string ⟨z.toArray⟩] W fun e w' => e = .returned (.agg #[.int .i64 f1, .int .i64 0]) ∧ Below W.heap.size W w'))
    : Calls Tryz.prog 119 #[.agg #[.int .i64 st, .int .i64 da, .int .i64 0, .int .i64 0, .int .i64 0, .int .i64 0], .slice (some ⟨g, o, none⟩) (k + 3) cap, .bool true] w fun e w' => e = .returned (.agg #[.int .i64 (0), .int .i64 (0), .int .i64 (0), .int .i64 (0), .int .i64 (0), .int .i64 (0), .int .i64 (7)]) ∧ Below w.heap.size w w' := by
  have ne4 : ¬ g = w.heap.size := by omega
  have ne5 : ¬ g = w.heap.size + 1 := by omega
  go_enter Tryz.func119, Tryz.ntmps119
  go_wp2_with fail
  refine (H158 _ (FinSt.start w st da).b0).out.mono ?_
  rintro e W1 ⟨rfl, hb⟩
  have st1 := (FinSt.start w st da).grow hb
  clear hb
  obtain ⟨b0, kl, rl, k0, k1, k2, k3, k4, k5, kF, r0, r1, r2, r3, r4, r5, r6, rF⟩ := id st1
  have hb1 := b0.size
  have gl : g < W1.heap.size := by omega
  have ne1 : ¬ g = W1.heap.size := by omega
  have ne2 : ¬ w.heap.size = W1.heap.size := by omega
  have ne3 : ¬ w.heap.size + 1 = W1.heap.size := by omega
  clear hb1
  have q0 := (b0.cell (p := ⟨g, o + k, none⟩) hg).trans u0
  have q1 := (b0.cell (p := ⟨g, o + k + 1, none⟩) hg).trans u1
  have q2 := (b0.cell (p := ⟨g, o + k + 2, none⟩) hg).trans u2
  go_wp2_with fail
  refine (H159 _).out.mono ?_
  rintro e W2 ⟨rfl, hb⟩
  have st2 := (FinSt.alloc (FinSt.set1 (FinSt.set2 st1 n) (da + n)) _).grow hb
  clear hb b0 kl rl k0 k1 k2 k3 k4 k5 kF r0 r1 r2 r3 r4 r5 r6 rF gl ne1 ne2 ne3 q0 q1 q2
  obtain ⟨b0, kl, rl, k0, k1, k2, k3, k4, k5, kF, r0, r1, r2, r3, r4, r5, r6, rF⟩ := id st2
  have hb1 := b0.size
  have gl : g < W2.heap.size := by omega
  have ne1 : ¬ g = W2.heap.size := by omega
  have ne2 : ¬ w.heap.size = W2.heap.size := by omega
  have ne3 : ¬ w.heap.size + 1 = W2.heap.size := by omega
  clear hb1
  have q0 := (b0.cell (p := ⟨g, o + k, none⟩) hg).trans u0
  have q1 := (b0.cell (p := ⟨g, o + k + 1, none⟩) hg).trans u1
  have q2 := (b0.cell (p := ⟨g, o + k + 2, none⟩) hg).trans u2
  go_wp2_with fail
  refine (HA _).out.mono ?_
  rintro e W3 ⟨rfl, hb⟩
  have st3 := (FinSt.set3 st2 1).grow hb
  clear hb b0 kl rl k0 k1 k2 k3 k4 k5 kF r0 r1 r2 r3 r4 r5 r6 rF gl ne1 ne2 ne3 q0 q1 q2
  obtain ⟨b0, kl, rl, k0, k1, k2, k3, k4, k5, kF, r0, r1, r2, r3, r4, r5, r6, rF⟩ := id st3
  have hb1 := b0.size
  have gl : g < W3.heap.size := by omega
  have ne1 : ¬ g = W3.heap.size := by omega
  have ne2 : ¬ w.heap.size = W3.heap.size := by omega
  have ne3 : ¬ w.heap.size + 1 = W3.heap.size := by omega
  clear hb1
  have q0 := (b0.cell (p := ⟨g, o + k, none⟩) hg).trans u0
  have q1 := (b0.cell (p := ⟨g, o + k + 1, none⟩) hg).trans u1
  have q2 := (b0.cell (p := ⟨g, o + k + 2, none⟩) hg).trans u2
  go_wp2_with fail
  refine (HF _).out.mono ?_
  rintro e W4 ⟨rfl, hb⟩
  have d1 := cell_on (p := ⟨W3.heap.size, 1, none⟩) (v := .int .i64 (a2)) hb (by simp [go_sem, ne2])
  have gd := World.block_lt_of_cell? _ _ d1
  have nd := ne2
  have st4 := (FinSt.alloc (FinSt.set5 (FinSt.set4 st3 a1) a2) _).grow hb
  clear hb b0 kl rl k0 k1 k2 k3 k4 k5 kF r0 r1 r2 r3 r4 r5 r6 rF gl ne1 ne2 ne3 q0 q1 q2
  obtain ⟨b0, kl, rl, k0, k1, k2, k3, k4, k5, kF, r0, r1, r2, r3, r4, r5, r6, rF⟩ := id st4
  have hb1 := b0.size
  have gl : g < W4.heap.size := by omega
  have ne1 : ¬ g = W4.heap.size := by omega
  have ne2 : ¬ w.heap.size = W4.heap.size := by omega
  have ne3 : ¬ w.heap.size + 1 = W4.heap.size := by omega
  clear hb1
  have q0 := (b0.cell (p := ⟨g, o + k, none⟩) hg).trans u0
  have q1 := (b0.cell (p := ⟨g, o + k + 1, none⟩) hg).trans u1
  have q2 := (b0.cell (p := ⟨g, o + k + 2, none⟩) hg).trans u2
  go_wp2_with fail
  obtain ⟨Y, hY, hR, hS, hB⟩ := store7i ((FinSt.set5 st4 f1)).res (0) (0) (0) (0) (0) (0) (7)
  rw [hY]
  clear hY
  have hb0 := hB w ((FinSt.set5 st4 f1)).b0 (by omega)
  clear hB hS b0 kl rl k0 k1 k2 k3 k4 k5 kF r0 r1 r2 r3 r4 r5 r6 rF gl ne1 ne2 ne3 q0 q1 q2
  have hZ := below_alloc Y (.cells #[.int .i64 (f1), .int .i64 (0)] 186)
  obtain ⟨Z, hZZ⟩ : ∃ Z, Y.alloc (.cells #[.int .i64 (f1), .int .i64 (0)] 186) = Z := ⟨_, rfl⟩
  rw [hZZ] at hZ ⊢
  replace hR := hR.grow hZ
  replace hb0 := below_trans hb0 hZ
  clear hZ hZZ
  obtain ⟨c0, c1, c2, c3, c4, c5, c6, cF⟩ := hR
  exact bodyPost_ret (v := .agg #[.int .i64 (0), .int .i64 (0), .int .i64 (0), .int .i64 (0), .int .i64 (0), .int .i64 (0), .int .i64 (7)]) (by simp [results, Tryz.results119, go_sem, c0, c1, c2, c3, c4, c5, c6]) rfl ⟨rfl, by repeat (first | exact xr _ | exact hb0 | apply xa | apply xg | (refine xs ?_ (by simp) _))⟩
set_option maxRecDepth 100000 in
set_option maxHeartbeats 16000000 in
theorem c119n_d (g o cap k : Nat) (st da n : Int) (x z : List UInt8) (a1 f1 f2 : Int) (hf2 : ¬ f2 = 0) (hf2b : (f2 == 0) = false) (w : World) (hcap : k + 3 ≤ cap) (hN : k + 3 ≤ 4000) (hg : g < w.heap.size) (hck : ¬ cap = k) (hn0 : 0 ≤ n) (hn1 : n < 10000000000) (hd0 : -1 ≤ da) (hd1 : da ≤ 100000)
    (u0 : w.cell? ⟨g, o + k, none⟩ = some (.string ⟨x.toArray⟩))
    (u1 : w.cell? ⟨g, o + k + 1, none⟩ = some (.string ⟨#[116, 111]⟩))
    (u2 : w.cell? ⟨g, o + k + 2, none⟩ = some (.string ⟨z.toArray⟩))
    (H158 : ∀ W, Below w.heap.size w W → Hid (Calls Tryz.prog 158 #[.slice (some ⟨g, o, none⟩) (k + 3) cap] W fun e w' => e = .returned (.agg #[.int .i64 n, .int .i64 (k : Int)]) ∧ Below W.heap.size W w'))
    (H159 : ∀ W, Hid (Calls Tryz.prog 159 #[.string ⟨x.toArray⟩] W fun e w' => e = .returned (.int .i64 1) ∧ Below W.heap.size W w'))
    (HA : ∀ W, Hid (Calls Tryz.prog 160 #[.string ⟨x.toArray⟩] W fun e w' => e = .returned (.agg #[.int .i64 a1, .int .i64 0]) ∧ Below W.heap.size W w'))
    (HF : ∀ W, Hid (Calls Tryz.prog 160 #[.string ⟨z.toArray⟩] W fun e w' => e = .returned (.agg #[.int .i64 f1, .int .i64 f2]) ∧ Below W.heap.size W w'))
    : Calls Tryz.prog 119 #[.agg #[.int .i64 st, .int .i64 da, .int .i64 0, .int .i64 0, .int .i64 0, .int .i64 0], .slice (some ⟨g, o, none⟩) (k + 3) cap, .bool true] w fun e w' => e = .returned (.agg #[.int .i64 (0), .int .i64 (0), .int .i64 (0), .int .i64 (0), .int .i64 (0), .int .i64 (0), .int .i64 (7)]) ∧ Below w.heap.size w w' := by
  have ne4 : ¬ g = w.heap.size := by omega
  have ne5 : ¬ g = w.heap.size + 1 := by omega
  go_enter Tryz.func119, Tryz.ntmps119
  go_wp2_with fail
  refine (H158 _ (FinSt.start w st da).b0).out.mono ?_
  rintro e W1 ⟨rfl, hb⟩
  have st1 := (FinSt.start w st da).grow hb
  clear hb
  obtain ⟨b0, kl, rl, k0, k1, k2, k3, k4, k5, kF, r0, r1, r2, r3, r4, r5, r6, rF⟩ := id st1
  have hb1 := b0.size
  have gl : g < W1.heap.size := by omega
  have ne1 : ¬ g = W1.heap.size := by omega
  have ne2 : ¬ w.heap.size = W1.heap.size := by omega
  have ne3 : ¬ w.heap.size + 1 = W1.heap.size := by omega
  clear hb1
  have q0 := (b0.cell (p := ⟨g, o + k, none⟩) hg).trans u0
  have q1 := (b0.cell (p := ⟨g, o + k + 1, none⟩) hg).trans u1
  have q2 := (b0.cell (p := ⟨g, o + k + 2, none⟩) hg).trans u2
  go_wp2_with fail
  refine (H159 _).out.mono ?_
  rintro e W2 ⟨rfl, hb⟩
  have st2 := (FinSt.alloc (FinSt.set1 (FinSt.set2 st1 n) (da + n)) _).grow hb
  clear hb b0 kl rl k0 k1 k2 k3 k4 k5 kF r0 r1 r2 r3 r4 r5 r6 rF gl ne1 ne2 ne3 q0 q1 q2
  obtain ⟨b0, kl, rl, k0, k1, k2, k3, k4, k5, kF, r0, r1, r2, r3, r4, r5, r6, rF⟩ := id st2
  have hb1 := b0.size
  have gl : g < W2.heap.size := by omega
  have ne1 : ¬ g = W2.heap.size := by omega
  have ne2 : ¬ w.heap.size = W2.heap.size := by omega
  have ne3 : ¬ w.heap.size + 1 = W2.heap.size := by omega
  clear hb1
  have q0 := (b0.cell (p := ⟨g, o + k, none⟩) hg).trans u0
  have q1 := (b0.cell (p := ⟨g, o + k + 1, none⟩) hg).trans u1
  have q2 := (b0.cell (p := ⟨g, o + k + 2, none⟩) hg).trans u2
  go_wp2_with fail
  refine (HA _).out.mono ?_
  rintro e W3 ⟨rfl, hb⟩
  have st3 := (FinSt.set3 st2 1).grow hb
  clear hb b0 kl rl k0 k1 k2 k3 k4 k5 kF r0 r1 r2 r3 r4 r5 r6 rF gl ne1 ne2 ne3 q0 q1 q2
  obtain ⟨b0, kl, rl, k0, k1, k2, k3, k4, k5, kF, r0, r1, r2, r3, r4, r5, r6, rF⟩ := id st3
  have hb1 := b0.size
  have gl : g < W3.heap.size := by omega
  have ne1 : ¬ g = W3.heap.size := by omega
  have ne2 : ¬ w.heap.size = W3.heap.size := by omega
  have ne3 : ¬ w.heap.size + 1 = W3.heap.size := by omega
  clear hb1
  have q0 := (b0.cell (p := ⟨g, o + k, none⟩) hg).trans u0
  have q1 := (b0.cell (p := ⟨g, o + k + 1, none⟩) hg).trans u1
  have q2 := (b0.cell (p := ⟨g, o + k + 2, none⟩) hg).trans u2
  go_wp2_with fail
  refine (HF _).out.mono ?_
  rintro e W4 ⟨rfl, hb⟩
  have d1 := cell_on (p := ⟨W3.heap.size, 1, none⟩) (v := .int .i64 (0)) hb (by simp [go_sem, ne2])
  have gd := World.block_lt_of_cell? _ _ d1
  have nd := ne2
  have st4 := (FinSt.alloc (FinSt.set5 (FinSt.set4 st3 a1) 0) _).grow hb
  clear hb b0 kl rl k0 k1 k2 k3 k4 k5 kF r0 r1 r2 r3 r4 r5 r6 rF gl ne1 ne2 ne3 q0 q1 q2
  obtain ⟨b0, kl, rl, k0, k1, k2, k3, k4, k5, kF, r0, r1, r2, r3, r4, r5, r6, rF⟩ := id st4
  have hb1 := b0.size
  have gl : g < W4.heap.size := by omega
  have ne1 : ¬ g = W4.heap.size := by omega
  have ne2 : ¬ w.heap.size = W4.heap.size := by omega
  have ne3 : ¬ w.heap.size + 1 = W4.heap.size := by omega
  clear hb1
  have q0 := (b0.cell (p := ⟨g, o + k, none⟩) hg).trans u0
  have q1 := (b0.cell (p := ⟨g, o + k + 1, none⟩) hg).trans u1
  have q2 := (b0.cell (p := ⟨g, o + k + 2, none⟩) hg).trans u2
  go_wp2_with fail
  obtain ⟨Y, hY, hR, hS, hB⟩ := store7i ((FinSt.set5 st4 f1)).res (0) (0) (0) (0) (0) (0) (7)
  rw [hY]
  clear hY
  have hb0 := hB w ((FinSt.set5 st4 f1)).b0 (by omega)
  clear hB hS b0 kl rl k0 k1 k2 k3 k4 k5 kF r0 r1 r2 r3 r4 r5 r6 rF gl ne1 ne2 ne3 q0 q1 q2
  have hZ := below_alloc Y (.cells #[.int .i64 (f1), .int .i64 (f2)] 186)
  obtain ⟨Z, hZZ⟩ : ∃ Z, Y.alloc (.cells #[.int .i64 (f1), .int .i64 (f2)] 186) = Z := ⟨_, rfl⟩
  rw [hZZ] at hZ ⊢
  replace hR := hR.grow hZ
  replace hb0 := below_trans hb0 hZ
  clear hZ hZZ
  obtain ⟨c0, c1, c2, c3, c4, c5, c6, cF⟩ := hR
  exact bodyPost_ret (v := .agg #[.int .i64 (0), .int .i64 (0), .int .i64 (0), .int .i64 (0), .int .i64 (0), .int .i64 (0), .int .i64 (7)]) (by simp [results, Tryz.results119, go_sem, c0, c1, c2, c3, c4, c5, c6]) rfl ⟨rfl, by repeat (first | exact xr _ | exact hb0 | apply xa | apply xg | (refine xs ?_ (by simp) _))⟩
set_option maxRecDepth 100000 in
set_option maxHeartbeats 16000000 in
theorem c119n_v0 (g o cap k : Nat) (st da n : Int) (x z : List UInt8) (a1 a2 f1 f2 : Int) (hf2 : ¬ f2 = 0) (hf2b : (f2 == 0) = false) (ha2 : ¬ a2 = 0) (ha2b : (a2 == 0) = false) (w : World) (hcap : k + 3 ≤ cap) (hN : k + 3 ≤ 4000) (hg : g < w.heap.size) (hck : ¬ cap = k) (hn0 : 0 ≤ n) (hn1 : n < 10000000000) (hd0 : -1 ≤ da) (hd1 : da ≤ 100000)
    (u0 : w.cell? ⟨g, o + k, none⟩ = some (.string ⟨x.toArray⟩))
    (u1 : w.cell? ⟨g, o + k + 1, none⟩ = some (.string ⟨#[116, 111]⟩))
    (u2 : w.cell? ⟨g, o + k + 2, none⟩ = some (.string ⟨z.toArray⟩))
    (H158 : ∀ W, Below w.heap.size w W → Hid (Calls Tryz.prog 158 #[.slice (some ⟨g, o, none⟩) (k + 3) cap] W fun e w' => e = .returned (.agg #[.int .i64 n, .int .i64 (k : Int)]) ∧ Below W.heap.size W w'))
    (H159 : ∀ W, Hid (Calls Tryz.prog 159 #[.string ⟨x.toArray⟩] W fun e w' => e = .returned (.int .i64 1) ∧ Below W.heap.size W w'))
    (HA : ∀ W, Hid (Calls Tryz.prog 160 #[.string ⟨x.toArray⟩] W fun e w' => e = .returned (.agg #[.int .i64 a1, .int .i64 a2]) ∧ Below W.heap.size W w'))
    (HF : ∀ W, Hid (Calls Tryz.prog 160 #[.string ⟨z.toArray⟩] W fun e w' => e = .returned (.agg #[.int .i64 f1, .int .i64 f2]) ∧ Below W.heap.size W w'))
    (H37 : ∀ W, Hid (Calls Tryz.prog 37 #[.agg #[.int .i64 st, .int .i64 (da + n), .int .i64 n, .int .i64 1, .int .i64 a1, .int .i64 f1]] W fun e w' => e = .returned (.bool false) ∧ Below W.heap.size W w'))
    : Calls Tryz.prog 119 #[.agg #[.int .i64 st, .int .i64 da, .int .i64 0, .int .i64 0, .int .i64 0, .int .i64 0], .slice (some ⟨g, o, none⟩) (k + 3) cap, .bool true] w fun e w' => e = .returned (.agg #[.int .i64 (0), .int .i64 (0), .int .i64 (0), .int .i64 (0), .int .i64 (0), .int .i64 (0), .int .i64 (3)]) ∧ Below w.heap.size w w' := by
  have ne4 : ¬ g = w.heap.size := by omega
  have ne5 : ¬ g = w.heap.size + 1 := by omega
  go_enter Tryz.func119, Tryz.ntmps119
  go_wp2_with fail
  refine (H158 _ (FinSt.start w st da).b0).out.mono ?_
  rintro e W1 ⟨rfl, hb⟩
  have st1 := (FinSt.start w st da).grow hb
  clear hb
  obtain ⟨b0, kl, rl, k0, k1, k2, k3, k4, k5, kF, r0, r1, r2, r3, r4, r5, r6, rF⟩ := id st1
  have hb1 := b0.size
  have gl : g < W1.heap.size := by omega
  have ne1 : ¬ g = W1.heap.size := by omega
  have ne2 : ¬ w.heap.size = W1.heap.size := by omega
  have ne3 : ¬ w.heap.size + 1 = W1.heap.size := by omega
  clear hb1
  have q0 := (b0.cell (p := ⟨g, o + k, none⟩) hg).trans u0
  have q1 := (b0.cell (p := ⟨g, o + k + 1, none⟩) hg).trans u1
  have q2 := (b0.cell (p := ⟨g, o + k + 2, none⟩) hg).trans u2
  go_wp2_with fail
  refine (H159 _).out.mono ?_
  rintro e W2 ⟨rfl, hb⟩
  have st2 := (FinSt.alloc (FinSt.set1 (FinSt.set2 st1 n) (da + n)) _).grow hb
  clear hb b0 kl rl k0 k1 k2 k3 k4 k5 kF r0 r1 r2 r3 r4 r5 r6 rF gl ne1 ne2 ne3 q0 q1 q2
  obtain ⟨b0, kl, rl, k0, k1, k2, k3, k4, k5, kF, r0, r1, r2, r3, r4, r5, r6, rF⟩ := id st2
  have hb1 := b0.size
  have gl : g < W2.heap.size := by omega
  have ne1 : ¬ g = W2.heap.size := by omega
  have ne2 : ¬ w.heap.size = W2.heap.size := by omega
  have ne3 : ¬ w.heap.size + 1 = W2.heap.size := by omega
  clear hb1
  have q0 := (b0.cell (p := ⟨g, o + k, none⟩) hg).trans u0
  have q1 := (b0.cell (p := ⟨g, o + k + 1, none⟩) hg).trans u1
  have q2 := (b0.cell (p := ⟨g, o + k + 2, none⟩) hg).trans u2
  go_wp2_with fail
  refine (HA _).out.mono ?_
  rintro e W3 ⟨rfl, hb⟩
  have st3 := (FinSt.set3 st2 1).grow hb
  clear hb b0 kl rl k0 k1 k2 k3 k4 k5 kF r0 r1 r2 r3 r4 r5 r6 rF gl ne1 ne2 ne3 q0 q1 q2
  obtain ⟨b0, kl, rl, k0, k1, k2, k3, k4, k5, kF, r0, r1, r2, r3, r4, r5, r6, rF⟩ := id st3
  have hb1 := b0.size
  have gl : g < W3.heap.size := by omega
  have ne1 : ¬ g = W3.heap.size := by omega
  have ne2 : ¬ w.heap.size = W3.heap.size := by omega
  have ne3 : ¬ w.heap.size + 1 = W3.heap.size := by omega
  clear hb1
  have q0 := (b0.cell (p := ⟨g, o + k, none⟩) hg).trans u0
  have q1 := (b0.cell (p := ⟨g, o + k + 1, none⟩) hg).trans u1
  have q2 := (b0.cell (p := ⟨g, o + k + 2, none⟩) hg).trans u2
  go_wp2_with fail
  refine (HF _).out.mono ?_
  rintro e W4 ⟨rfl, hb⟩
  have d1 := cell_on (p := ⟨W3.heap.size, 1, none⟩) (v := .int .i64 (a2)) hb (by simp [go_sem, ne2])
  have gd := World.block_lt_of_cell? _ _ d1
  have nd := ne2
  have st4 := (FinSt.alloc (FinSt.set5 (FinSt.set4 st3 a1) a2) _).grow hb
  clear hb b0 kl rl k0 k1 k2 k3 k4 k5 kF r0 r1 r2 r3 r4 r5 r6 rF gl ne1 ne2 ne3 q0 q1 q2
  obtain ⟨b0, kl, rl, k0, k1, k2, k3, k4, k5, kF, r0, r1, r2, r3, r4, r5, r6, rF⟩ := id st4
  have hb1 := b0.size
  have gl : g < W4.heap.size := by omega
  have ne1 : ¬ g = W4.heap.size := by omega
  have ne2 : ¬ w.heap.size = W4.heap.size := by omega
  have ne3 : ¬ w.heap.size + 1 = W4.heap.size := by omega
  clear hb1
  have q0 := (b0.cell (p := ⟨g, o + k, none⟩) hg).trans u0
  have q1 := (b0.cell (p := ⟨g, o + k + 1, none⟩) hg).trans u1
  have q2 := (b0.cell (p := ⟨g, o + k + 2, none⟩) hg).trans u2
  go_wp2_with fail
  refine (H37 _).out.mono ?_
  rintro e W5 ⟨rfl, hb⟩
  have st5 := (FinSt.alloc (FinSt.set5 st4 f1) _).grow hb
  clear hb b0 kl rl k0 k1 k2 k3 k4 k5 kF r0 r1 r2 r3 r4 r5 r6 rF gl ne1 ne2 ne3 q0 q1 q2
  obtain ⟨b0, kl, rl, k0, k1, k2, k3, k4, k5, kF, r0, r1, r2, r3, r4, r5, r6, rF⟩ := id st5
  have hb1 := b0.size
  have gl : g < W5.heap.size := by omega
  have ne1 : ¬ g = W5.heap.size := by omega
  have ne2 : ¬ w.heap.size = W5.heap.size := by omega
  have ne3 : ¬ w.heap.size + 1 = W5.heap.size := by omega
  clear hb1
  have q0 := (b0.cell (p := ⟨g, o + k, none⟩) hg).trans u0
  have q1 := (b0.cell (p := ⟨g, o + k + 1, none⟩) hg).trans u1
  have q2 := (b0.cell (p := ⟨g, o + k + 2, none⟩) hg).trans u2
  go_wp2_with fail
  obtain ⟨Y, hY, hR, hS, hB⟩ := store7i (st5).res (0) (0) (0) (0) (0) (0) (3)
  rw [hY]
  clear hY
  have hb0 := hB w (st5).b0 (by omega)
  clear hB hS b0 kl rl k0 k1 k2 k3 k4 k5 kF r0 r1 r2 r3 r4 r5 r6 rF gl ne1 ne2 ne3 q0 q1 q2
  obtain ⟨c0, c1, c2, c3, c4, c5, c6, cF⟩ := hR
  exact bodyPost_ret (v := .agg #[.int .i64 (0), .int .i64 (0), .int .i64 (0), .int .i64 (0), .int .i64 (0), .int .i64 (0), .int .i64 (3)]) (by simp [results, Tryz.results119, go_sem, c0, c1, c2, c3, c4, c5, c6]) rfl ⟨rfl, by repeat (first | exact xr _ | exact hb0 | apply xa | apply xg | (refine xs ?_ (by simp) _))⟩
set_option maxRecDepth 100000 in
set_option maxHeartbeats 16000000 in
theorem c119n_v1 (g o cap k : Nat) (st da n : Int) (x z : List UInt8) (a1 a2 f1 f2 : Int) (hf2 : ¬ f2 = 0) (hf2b : (f2 == 0) = false) (ha2 : ¬ a2 = 0) (ha2b : (a2 == 0) = false) (w : World) (hcap : k + 3 ≤ cap) (hN : k + 3 ≤ 4000) (hg : g < w.heap.size) (hck : ¬ cap = k) (hn0 : 0 ≤ n) (hn1 : n < 10000000000) (hd0 : -1 ≤ da) (hd1 : da ≤ 100000)
    (u0 : w.cell? ⟨g, o + k, none⟩ = some (.string ⟨x.toArray⟩))
    (u1 : w.cell? ⟨g, o + k + 1, none⟩ = some (.string ⟨#[116, 111]⟩))
    (u2 : w.cell? ⟨g, o + k + 2, none⟩ = some (.string ⟨z.toArray⟩))
    (H158 : ∀ W, Below w.heap.size w W → Hid (Calls Tryz.prog 158 #[.slice (some ⟨g, o, none⟩) (k + 3) cap] W fun e w' => e = .returned (.agg #[.int .i64 n, .int .i64 (k : Int)]) ∧ Below W.heap.size W w'))
    (H159 : ∀ W, Hid (Calls Tryz.prog 159 #[.string ⟨x.toArray⟩] W fun e w' => e = .returned (.int .i64 1) ∧ Below W.heap.size W w'))
    (HA : ∀ W, Hid (Calls Tryz.prog 160 #[.string ⟨x.toArray⟩] W fun e w' => e = .returned (.agg #[.int .i64 a1, .int .i64 a2]) ∧ Below W.heap.size W w'))
    (HF : ∀ W, Hid (Calls Tryz.prog 160 #[.string ⟨z.toArray⟩] W fun e w' => e = .returned (.agg #[.int .i64 f1, .int .i64 f2]) ∧ Below W.heap.size W w'))
    (H37 : ∀ W, Hid (Calls Tryz.prog 37 #[.agg #[.int .i64 st, .int .i64 (da + n), .int .i64 n, .int .i64 1, .int .i64 a1, .int .i64 f1]] W fun e w' => e = .returned (.bool true) ∧ Below W.heap.size W w'))
    : Calls Tryz.prog 119 #[.agg #[.int .i64 st, .int .i64 da, .int .i64 0, .int .i64 0, .int .i64 0, .int .i64 0], .slice (some ⟨g, o, none⟩) (k + 3) cap, .bool true] w fun e w' => e = .returned (.agg #[.int .i64 (st), .int .i64 (da + n), .int .i64 (n), .int .i64 (1), .int .i64 (a1), .int .i64 (f1), .int .i64 (0)]) ∧ Below w.heap.size w w' := by
  have ne4 : ¬ g = w.heap.size := by omega
  have ne5 : ¬ g = w.heap.size + 1 := by omega
  go_enter Tryz.func119, Tryz.ntmps119
  go_wp2_with fail
  refine (H158 _ (FinSt.start w st da).b0).out.mono ?_
  rintro e W1 ⟨rfl, hb⟩
  have st1 := (FinSt.start w st da).grow hb
  clear hb
  obtain ⟨b0, kl, rl, k0, k1, k2, k3, k4, k5, kF, r0, r1, r2, r3, r4, r5, r6, rF⟩ := id st1
  have hb1 := b0.size
  have gl : g < W1.heap.size := by omega
  have ne1 : ¬ g = W1.heap.size := by omega
  have ne2 : ¬ w.heap.size = W1.heap.size := by omega
  have ne3 : ¬ w.heap.size + 1 = W1.heap.size := by omega
  clear hb1
  have q0 := (b0.cell (p := ⟨g, o + k, none⟩) hg).trans u0
  have q1 := (b0.cell (p := ⟨g, o + k + 1, none⟩) hg).trans u1
  have q2 := (b0.cell (p := ⟨g, o + k + 2, none⟩) hg).trans u2
  go_wp2_with fail
  refine (H159 _).out.mono ?_
  rintro e W2 ⟨rfl, hb⟩
  have st2 := (FinSt.alloc (FinSt.set1 (FinSt.set2 st1 n) (da + n)) _).grow hb
  clear hb b0 kl rl k0 k1 k2 k3 k4 k5 kF r0 r1 r2 r3 r4 r5 r6 rF gl ne1 ne2 ne3 q0 q1 q2
  obtain ⟨b0, kl, rl, k0, k1, k2, k3, k4, k5, kF, r0, r1, r2, r3, r4, r5, r6, rF⟩ := id st2
  have hb1 := b0.size
  have gl : g < W2.heap.size := by omega
  have ne1 : ¬ g = W2.heap.size := by omega
  have ne2 : ¬ w.heap.size = W2.heap.size := by omega
  have ne3 : ¬ w.heap.size + 1 = W2.heap.size := by omega
  clear hb1
  have q0 := (b0.cell (p := ⟨g, o + k, none⟩) hg).trans u0
  have q1 := (b0.cell (p := ⟨g, o + k + 1, none⟩) hg).trans u1
  have q2 := (b0.cell (p := ⟨g, o + k + 2, none⟩) hg).trans u2
  go_wp2_with fail
  refine (HA _).out.mono ?_
  rintro e W3 ⟨rfl, hb⟩
  have st3 := (FinSt.set3 st2 1).grow hb
  clear hb b0 kl rl k0 k1 k2 k3 k4 k5 kF r0 r1 r2 r3 r4 r5 r6 rF gl ne1 ne2 ne3 q0 q1 q2
  obtain ⟨b0, kl, rl, k0, k1, k2, k3, k4, k5, kF, r0, r1, r2, r3, r4, r5, r6, rF⟩ := id st3
  have hb1 := b0.size
  have gl : g < W3.heap.size := by omega
  have ne1 : ¬ g = W3.heap.size := by omega
  have ne2 : ¬ w.heap.size = W3.heap.size := by omega
  have ne3 : ¬ w.heap.size + 1 = W3.heap.size := by omega
  clear hb1
  have q0 := (b0.cell (p := ⟨g, o + k, none⟩) hg).trans u0
  have q1 := (b0.cell (p := ⟨g, o + k + 1, none⟩) hg).trans u1
  have q2 := (b0.cell (p := ⟨g, o + k + 2, none⟩) hg).trans u2
  go_wp2_with fail
  refine (HF _).out.mono ?_
  rintro e W4 ⟨rfl, hb⟩
  have d1 := cell_on (p := ⟨W3.heap.size, 1, none⟩) (v := .int .i64 (a2)) hb (by simp [go_sem, ne2])
  have gd := World.block_lt_of_cell? _ _ d1
  have nd := ne2
  have st4 := (FinSt.alloc (FinSt.set5 (FinSt.set4 st3 a1) a2) _).grow hb
  clear hb b0 kl rl k0 k1 k2 k3 k4 k5 kF r0 r1 r2 r3 r4 r5 r6 rF gl ne1 ne2 ne3 q0 q1 q2
  obtain ⟨b0, kl, rl, k0, k1, k2, k3, k4, k5, kF, r0, r1, r2, r3, r4, r5, r6, rF⟩ := id st4
  have hb1 := b0.size
  have gl : g < W4.heap.size := by omega
  have ne1 : ¬ g = W4.heap.size := by omega
  have ne2 : ¬ w.heap.size = W4.heap.size := by omega
  have ne3 : ¬ w.heap.size + 1 = W4.heap.size := by omega
  clear hb1
  have q0 := (b0.cell (p := ⟨g, o + k, none⟩) hg).trans u0
  have q1 := (b0.cell (p := ⟨g, o + k + 1, none⟩) hg).trans u1
  have q2 := (b0.cell (p := ⟨g, o + k + 2, none⟩) hg).trans u2
  go_wp2_with fail
  refine (H37 _).out.mono ?_
  rintro e W5 ⟨rfl, hb⟩
  have st5 := (FinSt.alloc (FinSt.set5 st4 f1) _).grow hb
  clear hb b0 kl rl k0 k1 k2 k3 k4 k5 kF r0 r1 r2 r3 r4 r5 r6 rF gl ne1 ne2 ne3 q0 q1 q2
  obtain ⟨b0, kl, rl, k0, k1, k2, k3, k4, k5, kF, r0, r1, r2, r3, r4, r5, r6, rF⟩ := id st5
  have hb1 := b0.size
  have gl : g < W5.heap.size := by omega
  have ne1 : ¬ g = W5.heap.size := by omega
  have ne2 : ¬ w.heap.size = W5.heap.size := by omega
  have ne3 : ¬ w.heap.size + 1 = W5.heap.size := by omega
  clear hb1
  have q0 := (b0.cell (p := ⟨g, o + k, none⟩) hg).trans u0
  have q1 := (b0.cell (p := ⟨g, o + k + 1, none⟩) hg).trans u1
  have q2 := (b0.cell (p := ⟨g, o + k + 2, none⟩) hg).trans u2
  go_wp2_with fail
  obtain ⟨Y, hY, hR, hS, hB⟩ := store7i (st5).res (st) (da + n) (n) (1) (a1) (f1) (0)
  rw [hY]
  clear hY
  have hb0 := hB w (st5).b0 (by omega)
  clear hB hS b0 kl rl k0 k1 k2 k3 k4 k5 kF r0 r1 r2 r3 r4 r5 r6 rF gl ne1 ne2 ne3 q0 q1 q2
  obtain ⟨c0, c1, c2, c3, c4, c5, c6, cF⟩ := hR
  exact bodyPost_ret (v := .agg #[.int .i64 (st), .int .i64 (da + n), .int .i64 (n), .int .i64 (1), .int .i64 (a1), .int .i64 (f1), .int .i64 (0)]) (by simp [results, Tryz.results119, go_sem, c0, c1, c2, c3, c4, c5, c6]) rfl ⟨rfl, by repeat (first | exact xr _ | exact hb0 | apply xa | apply xg | (refine xs ?_ (by simp) _))⟩
end Go.Proofs.YthifeoebefbalaaGreatDoor
