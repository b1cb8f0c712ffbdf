/- The law CardDates: its walk. -/
import Derived.Test.YthifeoebefbalaaGreatDoorV5
set_option linter.unusedVariables false
set_option linter.unusedSimpArgs false
namespace Go.Proofs.YthifeoebefbalaaGreatDoor
open Go.RowKit

def monCaps : List (List UInt8) := [[74, 97, 110, 117, 97, 114, 121], [70, 101, 98, 114, 117, 97, 114, 121], [77, 97, 114, 99, 104], [65, 112, 114, 105, 108], [77, 97, 121], [74, 117, 110, 101], [74, 117, 108, 121], [65, 117, 103, 117, 115, 116], [83, 101, 112, 116, 101, 109, 98, 101, 114], [79, 99, 116, 111, 98, 101, 114], [78, 111, 118, 101, 109, 98, 101, 114], [68, 101, 99, 101, 109, 98, 101, 114]]
def monCapArr : Array Value := (monCaps.map strv).toArray
set_option maxRecDepth 100000 in
theorem c30 (w : World) : Calls Tryz.prog 30 #[] w fun e w' => e = .returned (.slice (some ⟨w.heap.size, 0, none⟩) 12 12) ∧ w' = w.alloc (.cells monCapArr 9) := by
  go_enter Tryz.func30, Tryz.ntmps30
  go_wp2_with fail
  go_ret
  exact ⟨rfl, rfl⟩
/-- A date's variable. -/
def dateOf (y m d : Int) : Obj := .cells #[.int .i64 y, .int .i64 m, .int .i64 d] 41 (0, 0)
theorem dateOf_at {w : World} {b : Nat} {y m d : Int} (h : w.heap[b]? = some (dateOf y m d)) : w.cell? ⟨b, 0, none⟩ = some (.int .i64 y) ∧ w.cell? ⟨b, 1, none⟩ = some (.int .i64 m) ∧ w.cell? ⟨b, 2, none⟩ = some (.int .i64 d) ∧ (∀ i, w.frozen? ⟨b, i, none⟩ = false) ∧ b < w.heap.size := by
  unfold dateOf at h
  exact ⟨by simp [World.cell?, h], by simp [World.cell?, h], by simp [World.cell?, h], fun i => by simp [World.frozen?, h], (Array.getElem?_eq_some_iff.1 h).1⟩
/-- Strings in a row of their own. -/
def StrCells (w : World) (b : Nat) (l : List (List UInt8)) : Prop := b < w.heap.size ∧ ∀ i (t : List UInt8), l[i]? = some t → w.cell? ⟨b, i, none⟩ = some (.string ⟨t.toArray⟩)
theorem str_cells {w : World} {b : Nat} {l : List (List UInt8)} (h : b < w.heap.size) (k : ∀ i, w.cell? ⟨b, i, none⟩ = (l.map strv).toArray[i]?) : StrCells w b l :=
  ⟨h, fun i t ht => by rw [k i]; simp [ht, strv]⟩
theorem strKeep {w x : World} {b : Nat} {l : List (List UInt8)} (h : Hid (StrCells w b l)) (hb : Below w.heap.size w x) : Hid (StrCells x b l) :=
  Lib.hid ⟨Nat.lt_of_lt_of_le h.out.1 hb.size, fun i t ht => (hb.cell (p := ⟨b, i, none⟩) h.out.1).trans (h.out.2 i t ht)⟩
theorem c6_bad (day letters suffix : Int) (w : World) (h : ¬ (0 ≤ day ∧ day ≤ 60000)) (hE : Env w) (hC : Cell0 w) : Calls Tryz.prog 6 #[.int .i64 day, .int .u8 letters, .int .u8 suffix] w fun e w' => e = .returned (.bool true) ∧ Below w.heap.size w w' := by
  have HE := Lib.hid hE
  have HC := Lib.hid hC
  have H := fun W => Lib.hid (c29_no day W h)
  clear hE hC h
  unfold zdate at H
  go_enter Tryz.func6, Tryz.ntmps6
  go_wp2_with fail
  refine (H _).out.mono ?_
  rintro r X1 ⟨rfl, hb⟩
  go_wp2_with fail
  refine (c22 _ (HE.out.below (xa hb _)) (HC.out.below (xa hb _) HC.out.lt)).mono ?_
  rintro e X2 ⟨rfl, hb2⟩
  go_wp2_with fail
  go_ret
  exact ⟨rfl, below_trans (xa hb _) hb2⟩
theorem cap_at {i : Nat} {N : List UInt8} (h : monCaps[i]? = some N) : monCapArr[i]? = some (.string ⟨N.toArray⟩) := by
  rw [monCapArr]
  simp [h, strv]
end Go.Proofs.YthifeoebefbalaaGreatDoor
