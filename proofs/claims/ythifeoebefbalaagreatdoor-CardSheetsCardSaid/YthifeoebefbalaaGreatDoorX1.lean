/- The reference: words. -/
import Derived.Test.YthifeoebefbalaaGreatDoorZ11
import Derived.Test.YthifeoebefbalaaGreatDoorR8
import Derived.Maps.AppendAt
set_option linter.unusedVariables false
set_option linter.unusedSimpArgs false
namespace Go.Proofs.YthifeoebefbalaaGreatDoor
open Go.RowKit

theorem c86 (c : UInt8) (w : World) : Calls Tryz.prog 86 #[.int .u8 (c.toNat : Int)] w fun e w' => e = .returned (.int .u8 ((smallB c).toNat : Int)) ∧ w = w' := by
  have hc := c.toNat_lt
  have hs : 65 ≤ c.toNat → c.toNat ≤ 90 → (c + 32).toNat = c.toNat + 32 := fun h k => by
    rw [UInt8.toNat_add]; show (c.toNat + 32) % 256 = _; omega
  have HS := Lib.hid hs
  clear hs
  by_cases h1 : 65 ≤ c.toNat
  all_goals by_cases h2 : c.toNat ≤ 90
  all_goals go_enter Tryz.func86, Tryz.ntmps86
  all_goals go_wp2
  all_goals go_ret
  · refine ⟨ret_int ?_, rfl⟩
    rw [smallB, if_pos ⟨h1, h2⟩, HS.out h1 h2]
    omega
  · exact ⟨ret_int (by rw [smallB, if_neg (by omega)]), rfl⟩
  · exact ⟨ret_int (by rw [smallB, if_neg (by omega)]), rfl⟩
theorem Tryz.info9 : (Tryz.prog.info? 9).map (fun i => (i.zero, i.size, i.bytes)) = some (some (.string ⟨#[]⟩), 1, 16) := by kernel_rfl
theorem idx_st (l : List UInt8) (k : Nat) (c : UInt8) (h : l[k]? = some c) (w : World) : (Instr.index 9 (.string ⟨l.toArray⟩) (.int .i64 (k : Int))).run Tryz.prog w = .ok (.int .u8 (c.toNat : Int)) w := by
  obtain ⟨hk, hc⟩ := List.getElem?_eq_some_iff.1 h
  have e : (⟨l.toArray⟩ : ByteArray)[k]'(show k < l.toArray.size by simpa using hk) = c := by rw [← hc]; rfl
  simp [Instr.index, run_underlying Tryz.underlying9, asIntOf, hk, go_sem, e]
theorem take_one {t : List UInt8} {k : Nat} {c : UInt8} (h : t[k]? = some c) : t.take (k + 1) = t.take k ++ [c] := by
  rw [List.take_add_one, h]; rfl
theorem one_new9 {w : World} {x : Value} {t : TypeId} {g : Nat} (hg : w.heap.size = g) : ∀ j u, [x][j]? = some u → (w.alloc (.cells #[x] t)).cell? ((⟨g, 0, none⟩ : Addr).add j) = some u := by subst hg; exact cell_one_new w x t
theorem str_one (u : List UInt8) : ∀ z ∈ [Value.string ⟨u.toArray⟩], z.oneCell' = true := by intro z hz; simp at hz; subst hz; rfl
theorem own_below9 {w a b : World} {v : Value} {n : Nat} {xs : List Value} (h : Below w.heap.size w a) (hown : a.ownsRow w.heap.size 9 1 v n xs) (hg : a.grownBy b v.ownBlock) : Below w.heap.size w b :=
  h.grown hg h.size (fun k hk => by
    obtain ⟨_, hc⟩ := hown
    rcases hc with ⟨rfl, _⟩ | ⟨g, cap, cur, rfl, hg, _⟩
    · cases hk
    · simp [Value.ownBlock] at hk; omega)
/-- The cells of words. -/
def strC (l : List (List UInt8)) : List Value := l.map strv
theorem own_snoc9 {W : World} {B : Nat} {v : Value} {l : List (List UInt8)} {u : List UInt8} (h : W.ownsRow B 9 1 v (l.length + 1) (strC l ++ [.string ⟨u.toArray⟩])) : W.ownsRow B 9 1 v (l ++ [u]).length (strC (l ++ [u])) := by
  have e : strC (l ++ [u]) = strC l ++ [.string ⟨u.toArray⟩] := by simp [strC, strv]
  rw [e]
  simpa using h
/-- The machine's state at byte k: the words, and the one that has begun. -/
def wAt (t : List UInt8) (k : Nat) : List (List UInt8) × List UInt8 := wfold (t.take k)
theorem wAt_step {t : List UInt8} {k : Nat} {c : UInt8} (h : t[k]? = some c) : wAt t (k + 1) = wstep (wAt t k) c := by rw [wAt, take_one h, wfold_snoc]; rfl
theorem wAt_len (t : List UInt8) (k : Nat) : (wAt t k).1.length + (wAt t k).2.length ≤ t.length := Nat.le_trans (wfold_len _) (by rw [List.length_take]; omega)
end Go.Proofs.YthifeoebefbalaaGreatDoor
