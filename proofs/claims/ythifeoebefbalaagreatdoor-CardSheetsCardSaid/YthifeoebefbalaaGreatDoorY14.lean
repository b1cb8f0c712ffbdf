/- The reference: a line: what is known of it on the way. -/
import Derived.Test.YthifeoebefbalaaGreatDoorY7
import Derived.Test.YthifeoebefbalaaGreatDoorY10
set_option linter.unusedVariables false
set_option linter.unusedSimpArgs false
namespace Go.Proofs.YthifeoebefbalaaGreatDoor
open Go.RowKit

/-- The words of a line, from the beginning of their array on. -/
def WsAt (w : World) (g : Nat) (l : List (List UInt8)) : Prop := ∀ i u, l[i]? = some u → w.cell? ⟨g, i, none⟩ = some (.string ⟨u.toArray⟩)
theorem WsAt.below {w w' : World} {g : Nat} {l : List (List UInt8)} (h : WsAt w g l) (hg : g < w.heap.size) (hb : Below w.heap.size w w') : WsAt w' g l := fun i u hi => (hb.cell (p := ⟨g, i, none⟩) hg).trans (h i u hi)
theorem WsAt.grown {w w' : World} {g : Nat} {l : List (List UInt8)} (h : WsAt w g l) (hg : Grown w w') : WsAt w' g l := fun i u hi => (hg.cell (p := ⟨g, i, none⟩) (World.block_lt_of_cell? w _ (h i u hi))).trans (h i u hi)
theorem WsAt.words {w : World} {g k cap : Nat} {l : List (List UInt8)} (h : WsAt w g l) (hg : g < w.heap.size) (hk : k ≤ l.length) (hc : l.length ≤ cap) : WordsV w (.slice (some ⟨g, k, none⟩) (l.length - k) (cap - k)) (l.drop k) := by
  refine ⟨_, cap - k, by rw [List.length_drop], by rw [List.length_drop]; omega, fun _ => ⟨g, k, rfl, hg, fun i u hi => ?_⟩⟩
  rw [List.getElem?_drop] at hi
  exact h (k + i) u hi
theorem WsAt.none_left {w : World} {k : Nat} (a : Option Addr) {l : List (List UInt8)} (hk : l.length = k) : WordsV w (.slice a 0 0) (l.drop k) := by
  have e : l.drop k = [] := List.drop_eq_nil_of_le (by omega)
  rw [e]
  exact ⟨a, 0, rfl, by simp, fun h => absurd rfl h⟩
theorem FinSt.start6 (w : World) (b0 b1 b2 b3 b4 b5 : Int) : FinSt w ((w.alloc (.cells #[.int .i64 b0, .int .i64 b1, .int .i64 b2, .int .i64 b3, .int .i64 b4, .int .i64 b5] 24)).alloc (.cells #[.int .i64 0, .int .i64 0, .int .i64 0, .int .i64 0, .int .i64 0, .int .i64 0, .int .i64 0] 29)) b0 b1 b2 b3 b4 b5 := by
  refine ⟨below_trans (below_alloc _ _) (below_alloc _ _), by simp; omega, by simp, by simp [go_sem], by simp [go_sem], by simp [go_sem], by simp [go_sem], by simp [go_sem], by simp [go_sem], fun i => by simp [go_sem], by simp [go_sem], by simp [go_sem], by simp [go_sem], by simp [go_sem], by simp [go_sem], by simp [go_sem], by simp [go_sem], fun i => by simp [go_sem]⟩
theorem FinSt.far {w V : World} {a0 a1 a2 a3 a4 a5 : Int} (h : FinSt w V a0 a1 a2 a3 a4 a5) {b : Nat} (h1 : w.heap.size < b) (h2 : ¬ b = w.heap.size + 1) (i : Nat) (x : Int) : FinSt w (V.setCell ⟨b, i, none⟩ (.int .i64 x)) a0 a1 a2 a3 a4 a5 := by
  have n1 : ¬ w.heap.size = b := by omega
  have n2 : ¬ w.heap.size + 1 = b := by omega
  have m1 : b ≠ w.heap.size := by omega
  have m2 : b ≠ w.heap.size + 1 := by omega
  obtain ⟨b0, kl, rl, k0, k1, k2, k3, k4, k5, kF, r0, r1, r2, r3, r4, r5, r6, rF⟩ := h
  exact ⟨xs b0 (by simp; omega) _, by simpa using kl, by simpa using rl, (World.cell?_setCell_far V _ _ _ m1).trans k0, (World.cell?_setCell_far V _ _ _ m1).trans k1, (World.cell?_setCell_far V _ _ _ m1).trans k2, (World.cell?_setCell_far V _ _ _ m1).trans k3, (World.cell?_setCell_far V _ _ _ m1).trans k4, (World.cell?_setCell_far V _ _ _ m1).trans k5, fun i => by simp [go_sem, kF], (World.cell?_setCell_far V _ _ _ m2).trans r0, (World.cell?_setCell_far V _ _ _ m2).trans r1, (World.cell?_setCell_far V _ _ _ m2).trans r2, (World.cell?_setCell_far V _ _ _ m2).trans r3, (World.cell?_setCell_far V _ _ _ m2).trans r4, (World.cell?_setCell_far V _ _ _ m2).trans r5, (World.cell?_setCell_far V _ _ _ m2).trans r6, fun i => by simp [go_sem, rF]⟩
structure LinC (g cb : Nat) (ws : List (List UInt8)) (c0 c1 : Int) (w : World) : Prop where
  WA : WsAt w g ws
  gl : g < w.heap.size
  kF : ∀ i, w.frozen? ⟨cb, i, none⟩ = false
  k0 : w.cell? ⟨cb, 0, none⟩ = some (.int .i64 c0)
  k1 : w.cell? ⟨cb, 1, none⟩ = some (.int .i64 c1)
  k2 : w.cell? ⟨cb, 2, none⟩ = some (.int .i64 0)
  k3 : w.cell? ⟨cb, 3, none⟩ = some (.int .i64 0)
  k4 : w.cell? ⟨cb, 4, none⟩ = some (.int .i64 0)
  k5 : w.cell? ⟨cb, 5, none⟩ = some (.int .i64 0)
theorem LinC.grows {g cb : Nat} {ws : List (List UInt8)} {c0 c1 : Int} : ∀ w w' : World, LinC g cb ws c0 c1 w → Grown w w' → LinC g cb ws c0 c1 w' := fun w w' ⟨WA, gl, kF, k0, k1, k2, k3, k4, k5⟩ hg =>
  ⟨WA.grown hg, Nat.lt_of_lt_of_le gl hg.size, fun i => (hg.frozen (p := ⟨cb, i, none⟩) (World.block_lt_of_cell? w ⟨cb, 0, none⟩ k0)).trans (kF i), (hg.cell (p := ⟨cb, 0, none⟩) (World.block_lt_of_cell? w _ k0)).trans k0, (hg.cell (p := ⟨cb, 1, none⟩) (World.block_lt_of_cell? w _ k1)).trans k1, (hg.cell (p := ⟨cb, 2, none⟩) (World.block_lt_of_cell? w _ k2)).trans k2, (hg.cell (p := ⟨cb, 3, none⟩) (World.block_lt_of_cell? w _ k3)).trans k3, (hg.cell (p := ⟨cb, 4, none⟩) (World.block_lt_of_cell? w _ k4)).trans k4, (hg.cell (p := ⟨cb, 5, none⟩) (World.block_lt_of_cell? w _ k5)).trans k5⟩
theorem LinC.other {g cb b : Nat} {ws : List (List UInt8)} {c0 c1 : Int} {w w' : World} (h : LinC g cb ws c0 c1 w) (hs : w'.heap.size = w.heap.size) (h1 : ¬ g = b) (h2 : ¬ cb = b) (hc : ∀ p : Addr, ¬ p.block = b → w'.cell? p = w.cell? p) (hf : ∀ p : Addr, w'.frozen? p = w.frozen? p) : LinC g cb ws c0 c1 w' :=
  ⟨fun i u hi => (hc ⟨g, i, none⟩ h1).trans (h.WA i u hi), by rw [hs]; exact h.gl, fun i => (hf _).trans (h.kF i), (hc ⟨cb, 0, none⟩ h2).trans h.k0, (hc ⟨cb, 1, none⟩ h2).trans h.k1, (hc ⟨cb, 2, none⟩ h2).trans h.k2, (hc ⟨cb, 3, none⟩ h2).trans h.k3, (hc ⟨cb, 4, none⟩ h2).trans h.k4, (hc ⟨cb, 5, none⟩ h2).trans h.k5⟩
theorem LinC.set1 {g cb : Nat} {ws : List (List UInt8)} {c0 c1 : Int} {w : World} (h : LinC g cb ws c0 c1 w) (hne : ¬ g = cb) (x : Int) : LinC g cb ws c0 x (w.setCell ⟨cb, 1, none⟩ (.int .i64 x)) := by
  obtain ⟨WA, gl, kF, k0, k1, k2, k3, k4, k5⟩ := h
  exact ⟨fun i u hi => by rw [World.cell?_setCell_far _ _ _ _ (fun e => hne e.symm)]; exact WA i u hi, by simpa using gl, fun i => by simp [go_sem, kF], by simp [go_sem, k0, k1, kF], by simp [go_sem, k1, kF], by simp [go_sem, k2, k1, kF], by simp [go_sem, k3, k1, kF], by simp [go_sem, k4, k1, kF], by simp [go_sem, k5, k1, kF]⟩
def LinD (g cb nb : Nat) (ws : List (List UInt8)) (c0 c1 n : Int) (w : World) : Prop := LinC g cb ws c0 c1 w ∧ w.cell? ⟨nb, 3, none⟩ = some (.int .i64 n)
theorem LinD.grows {g cb nb : Nat} {ws : List (List UInt8)} {c0 c1 n : Int} : ∀ w w' : World, LinD g cb nb ws c0 c1 n w → Grown w w' → LinD g cb nb ws c0 c1 n w' := fun w w' h hg =>
  ⟨LinC.grows w w' h.1 hg, (hg.cell (p := ⟨nb, 3, none⟩) (World.block_lt_of_cell? w _ h.2)).trans h.2⟩
theorem LinD.other {g cb nb b : Nat} {ws : List (List UInt8)} {c0 c1 n : Int} {w w' : World} (h : LinD g cb nb ws c0 c1 n w) (hs : w'.heap.size = w.heap.size) (h1 : ¬ g = b) (h2 : ¬ cb = b) (h3 : ¬ nb = b) (hc : ∀ p : Addr, ¬ p.block = b → w'.cell? p = w.cell? p) (hf : ∀ p : Addr, w'.frozen? p = w.frozen? p) : LinD g cb nb ws c0 c1 n w' :=
  ⟨h.1.other hs h1 h2 hc hf, (hc ⟨nb, 3, none⟩ h3).trans h.2⟩
theorem set_other (X : World) (b i : Nat) (v : Value) (p : Addr) (h : ¬ p.block = b) : (X.setCell ⟨b, i, none⟩ v).cell? p = X.cell? p := by
  exact World.cell?_setCell_far X ⟨b, i, none⟩ p v (fun e => h e.symm)
theorem store7j {X : World} {b : Nat} {v0 v1 v2 v3 v4 v5 v6 : Int} (h : Res7 X b v0 v1 v2 v3 v4 v5 v6) (u0 u1 u2 u3 u4 u5 u6 : Int) : ∃ Y, ((((((X.setCell ⟨b, 0, none⟩ (.int .i64 u0)).setCell ⟨b, 1, none⟩ (.int .i64 u1)).setCell ⟨b, 2, none⟩ (.int .i64 u2)).setCell ⟨b, 3, none⟩ (.int .i64 u3)).setCell ⟨b, 4, none⟩ (.int .i64 u4)).setCell ⟨b, 5, none⟩ (.int .i64 u5)).setCell ⟨b, 6, none⟩ (.int .i64 u6) = Y ∧ Res7 Y b u0 u1 u2 u3 u4 u5 u6 ∧ Y.heap.size = X.heap.size ∧ (∀ (W : World), Below W.heap.size W X → W.heap.size ≤ b → Below W.heap.size W Y) ∧ (∀ p : Addr, ¬ p.block = b → Y.cell? p = X.cell? p) ∧ ∀ p : Addr, Y.frozen? p = X.frozen? p :=
  ⟨_, rfl, (((((((h.set0 u0).set1 u1).set2 u2).set3 u3).set4 u4).set5 u5).set6 u6), by simp, fun W h0 hb => xs (xs (xs (xs (xs (xs (xs h0 hb _) hb _) hb _) hb _) hb _) hb _) hb _, fun p hp => by rw [set_other _ _ _ _ _ hp, set_other _ _ _ _ _ hp, set_other _ _ _ _ _ hp, set_other _ _ _ _ _ hp, set_other _ _ _ _ _ hp, set_other _ _ _ _ _ hp, set_other _ _ _ _ _ hp], fun p => by simp [go_sem]⟩
end Go.Proofs.YthifeoebefbalaaGreatDoor
