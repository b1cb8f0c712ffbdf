/- A text made restless: its words stay. -/
import Derived.Test.YthifeoebefbalaaGreatDoorZ11
import Derived.Maps.AppendAt
namespace Go.Proofs.YthifeoebefbalaaGreatDoor
open Go.RowKit

def largeB (c : UInt8) : UInt8 := if 97 ≤ c.toNat ∧ c.toNat ≤ 122 then c - 32 else c
theorem c79 (c : UInt8) (w : World) : Calls Tryz.prog 79 #[.int .u8 (c.toNat : Int)] w fun e w' => e = .returned (.int .u8 ((largeB c).toNat : Int)) ∧ w = w' := by
  have hc := c.toNat_lt
  have hs : 97 ≤ c.toNat → (c - 32).toNat = c.toNat - 32 := fun h => by
    rw [UInt8.toNat_sub_of_le _ _ (by rw [UInt8.le_iff_toNat_le]; exact Nat.le_trans (by decide) h)]; rfl
  have HS := Lib.hid hs
  clear hs
  by_cases h1 : 97 ≤ c.toNat
  all_goals by_cases h2 : c.toNat ≤ 122
  all_goals go_enter Tryz.func79, Tryz.ntmps79
  all_goals go_wp2
  all_goals go_ret
  · refine ⟨ret_int ?_, rfl⟩
    rw [largeB, if_pos ⟨h1, h2⟩, HS.out h1]
    omega
  · exact ⟨ret_int (by rw [largeB, if_neg (by omega)]), rfl⟩
  · exact ⟨ret_int (by rw [largeB, if_neg (by omega)]), rfl⟩
def u8v (b : UInt8) : Value := .int .u8 (b.toNat : Int)
theorem idx_str (l : List UInt8) (k : Nat) (c : UInt8) (h : l[k]? = some c) (w : World) : (Instr.index 9 (.string ⟨l.toArray⟩) (.int .i64 (k : Int))).run Tryz.prog w = .ok (.int .u8 (c.toNat : Int)) w := by
  obtain ⟨hk, hc⟩ := List.getElem?_eq_some_iff.1 h
  have e : (⟨l.toArray⟩ : ByteArray)[k]'(show k < l.toArray.size by simpa using hk) = c := by rw [← hc]; rfl
  simp [Instr.index, run_underlying Tryz.underlying9, asIntOf, hk, go_sem, e]
theorem one_new {w : World} {x : Value} {t : TypeId} {g : Nat} (hg : w.heap.size = g) : ∀ j u, [x][j]? = some u → (w.alloc (.cells #[x] t)).cell? ((⟨g, 0, none⟩ : Addr).add j) = some u := by subst hg; exact cell_one_new w x t
theorem two_new {w : World} {x y : Value} {t : TypeId} {g : Nat} (hg : w.heap.size = g) : ∀ j u, [x, y][j]? = some u → (w.alloc (.cells #[x, y] t)).cell? ((⟨g, 0, none⟩ : Addr).add j) = some u := by
  subst hg
  intro j u hj
  have h := cell_of_row (w.alloc (.cells #[x, y] t)) w.heap.size j #[x, y] t (0, 0) (heap_alloc_new w _)
  have e : (⟨w.heap.size, 0, none⟩ : Addr).add j = ⟨w.heap.size, j, none⟩ := by simp [Addr.add]; intro h; exact h.symm
  rw [e, h]
  simpa using hj
theorem u8_cells (x : Int) : ∀ u ∈ [Value.int .u8 x], u.oneCell' = true := by intro u hu; simp at hu; subst hu; rfl
theorem u8_cells2 (x y : Int) : ∀ u ∈ [Value.int .u8 x, Value.int .u8 y], u.oneCell' = true := by intro u hu; simp at hu; rcases hu with rfl | rfl <;> rfl
theorem Tryz.info5 : (Tryz.prog.info? 5).map (fun i => (i.zero, i.size, i.bytes)) = some (some (.int .u8 0), 1, 1) := by kernel_rfl
/-- The machine is not moved by what restless lays for a byte. -/
theorem gap_fold (st : List (List UInt8) × List UInt8) (g : UInt8) (r : List UInt8) (hg : gapU g = true) (hr : ∀ c ∈ r, gapU c = true) : (g :: r).foldl wstep st = wstep st g := by
  have h1 : ∀ (st : List (List UInt8) × List UInt8), st.2 = [] → r.foldl wstep st = st := by
    intro st hst
    induction r with
    | nil => rfl
    | cons c r ih => rw [List.foldl_cons, wstep, if_pos (hr c (by simp)), if_pos hst]; exact ih (fun d hd => hr d (by simp [hd]))
  rw [List.foldl_cons]
  apply h1
  rw [wstep, if_pos hg]
  split
  · assumption
  · rfl
theorem gap_same (st : List (List UInt8) × List UInt8) (g c : UInt8) (hg : gapU g = true) (hc : gapU c = true) : wstep st g = wstep st c := by rw [wstep, wstep, if_pos hg, if_pos hc]
theorem wfold_gap {o t : List UInt8} {c g : UInt8} {r : List UInt8} (h : wfold o = wfold t) (hc : gapU c = true) (hg : gapU g = true) (hr : ∀ d ∈ r, gapU d = true) : wfold (o ++ g :: r) = wfold (t ++ [c]) := by
  rw [wfold_snoc, wfold, List.foldl_append, gap_fold _ g r hg hr, gap_same _ g c hg hc]
  exact congrArg (fun s => wstep s c) h
theorem small_large (c : UInt8) : smallB (largeB c) = smallB c ∧ gapU (largeB c) = gapU c := by
  have : ∀ c : Fin 256, smallB (largeB (UInt8.ofNat c.val)) = smallB (UInt8.ofNat c.val) ∧ gapU (largeB (UInt8.ofNat c.val)) = gapU (UInt8.ofNat c.val) := by decide +kernel
  have h := this ⟨c.toNat, c.toNat_lt⟩
  simpa using h
theorem wfold_same {o t : List UInt8} {c : UInt8} (h : wfold o = wfold t) : wfold (o ++ [c]) = wfold (t ++ [c]) := by rw [wfold_snoc, wfold_snoc, h]
theorem wfold_large {o t : List UInt8} {c : UInt8} (h : wfold o = wfold t) : wfold (o ++ [largeB c]) = wfold (t ++ [c]) := by
  rw [wfold_snoc, wfold_snoc, h, wstep, wstep, (small_large c).1, (small_large c).2]
theorem and3 (x : Int) : Go.bits BinOp.and IntKind.i64 x 3 = 0 ∨ Go.bits BinOp.and IntKind.i64 x 3 = 1 ∨ Go.bits BinOp.and IntKind.i64 x 3 = 2 ∨ Go.bits BinOp.and IntKind.i64 x 3 = 3 := by
  have h : ((BitVec.ofInt IntKind.i64.bits x) &&& (BitVec.ofInt IntKind.i64.bits 3)).toNat ≤ 3 := by
    rw [BitVec.toNat_and]
    exact Nat.le_trans Nat.and_le_right (by decide)
  show IntKind.i64.wrap (((BitVec.ofInt IntKind.i64.bits x) &&& (BitVec.ofInt IntKind.i64.bits 3)).toNat : Int) = 0 ∨ IntKind.i64.wrap (((BitVec.ofInt IntKind.i64.bits x) &&& (BitVec.ofInt IntKind.i64.bits 3)).toNat : Int) = 1 ∨ IntKind.i64.wrap (((BitVec.ofInt IntKind.i64.bits x) &&& (BitVec.ofInt IntKind.i64.bits 3)).toNat : Int) = 2 ∨ IntKind.i64.wrap (((BitVec.ofInt IntKind.i64.bits x) &&& (BitVec.ofInt IntKind.i64.bits 3)).toNat : Int) = 3
  generalize ((BitVec.ofInt IntKind.i64.bits x) &&& (BitVec.ofInt IntKind.i64.bits 3)).toNat = n at h
  have hn : n = 0 ∨ n = 1 ∨ n = 2 ∨ n = 3 := by omega
  rcases hn with rfl | rfl | rfl | rfl
  · exact .inl rfl
  · exact .inr (.inl rfl)
  · exact .inr (.inr (.inl rfl))
  · exact .inr (.inr (.inr rfl))
theorem take_snoc {t : List UInt8} {k : Nat} {c : UInt8} (h : t[k]? = some c) : t.take (k + 1) = t.take k ++ [c] := by
  obtain ⟨hk, hc⟩ := List.getElem?_eq_some_iff.1 h
  rw [List.take_add_one, h]; rfl
theorem own_below {w a b : World} {v : Value} {n : Nat} {xs : List Value} (h : Below w.heap.size w a) (hown : a.ownsRow w.heap.size 5 1 v n xs) (hg : a.grownBy b v.ownBlock) : Below w.heap.size w b :=
  h.grown hg h.size (fun k hk => by
    obtain ⟨_, hc⟩ := hown
    rcases hc with ⟨rfl, _⟩ | ⟨g, cap, cur, rfl, hg, _⟩
    · cases hk
    · simp [Value.ownBlock] at hk; omega)
/-- What restless lays for the byte c where the bits say q. -/
def restB (q : Int) (c : UInt8) : List UInt8 := if gapU c = true then (if q = 0 then [32] else if q = 1 then [9] else if q = 2 then [59] else [32, 59, 9]) else (if q = 1 ∨ q = 3 then [largeB c] else [c])
def qAt (bits : Int) (k : Nat) : Int := Go.bits BinOp.and IntKind.i64 (bits / 2 ^ (k % 40)) 3
def rlR (t : List UInt8) (bits : Int) (k : Nat) : List UInt8 := (List.range k).flatMap fun j => restB (qAt bits j) (t.getD j 0)
theorem rlR_succ {t : List UInt8} {bits : Int} {k : Nat} {c : UInt8} (h : t[k]? = some c) : rlR t bits (k + 1) = rlR t bits k ++ restB (qAt bits k) c := by
  rw [rlR, rlR, List.range_succ, List.flatMap_append]
  simp [List.getD, h]
theorem restB_fold {o t : List UInt8} {q : Int} {c : UInt8} (h : wfold o = wfold t) : wfold (o ++ restB q c) = wfold (t ++ [c]) ∧ (restB q c).length ≤ 3 := by
  unfold restB
  split
  · rename_i hg
    split
    · exact ⟨wfold_gap h hg (by decide) (by decide), by decide⟩
    · split
      · exact ⟨wfold_gap h hg (by decide) (by decide), by decide⟩
      · split
        · exact ⟨wfold_gap h hg (by decide) (by decide), by decide⟩
        · exact ⟨wfold_gap h hg (by decide) (by decide), by decide⟩
  · split
    · exact ⟨wfold_large h, by simp⟩
    · exact ⟨wfold_same h, by simp⟩
theorem rlR_fold (t : List UInt8) (bits : Int) (k : Nat) (hk : k ≤ t.length) : wfold (rlR t bits k) = wfold (t.take k) ∧ (rlR t bits k).length ≤ 3 * k := by
  induction k with
  | zero => exact ⟨rfl, by simp [rlR]⟩
  | succ k ih =>
    obtain ⟨h1, h2⟩ := ih (by omega)
    have hc : t[k]? = some t[k] := List.getElem?_eq_some_iff.2 ⟨by omega, rfl⟩
    have h3 := restB_fold (q := qAt bits k) (c := t[k]) h1
    rw [rlR_succ hc, take_snoc hc]
    exact ⟨h3.1, by rw [List.length_append]; omega⟩
/-- A text made restless by bits. -/
def restL (t : List UInt8) (bits : Int) : List UInt8 := rlR t bits t.length
theorem restL_words (t : List UInt8) (bits : Int) : wordsOf (restL t bits) = wordsOf t := by
  have h := (rlR_fold t bits t.length (Nat.le_refl _)).1
  rw [List.take_length] at h
  rw [wordsOf, wordsOf, restL, h]
theorem restL_len (t : List UInt8) (bits : Int) : (restL t bits).length ≤ 3 * t.length := (rlR_fold t bits t.length (Nat.le_refl _)).2
end Go.Proofs.YthifeoebefbalaaGreatDoor
