/- Parts: V15, Z16, Z15, Z19, Z20, X1, W2, W3, W5. -/
import Derived.Test.YthifeoebefbalaaGreatDoorCR10
import Derived.Deep.Slices
import Derived.Test.YthifeoebefbalaaGreatDoorCR3
import Derived.Test.YthifeoebefbalaaGreatDoorCR4
import Derived.Outline
import Derived.Test.YthifeoebefbalaaGreatDoorCR2
import Derived.Test.YthifeoebefbalaaGreatDoorCR9
import Derived.Maps.AppendAt
import Derived.Test.YthifeoebefbalaaGreatDoorCR5
import Derived.Test.YthifeoebefbalaaGreatDoorCR6
import Derived.Test.YthifeoebefbalaaGreatDoorCR8
set_option linter.unusedVariables false
set_option linter.unusedSimpArgs false
set_option linter.unnecessarySimpa false
namespace Go.Proofs.YthifeoebefbalaaGreatDoor
open Go.ChangeShapes Go.WideShapes Go.ChangeAt Go.RowKit

/-- A slice of cards. -/
def CardsV (w : World) (v : Value) (l : List Card) : Prop := ∃ a cap, v = .slice a l.length cap ∧ (l ≠ [] → ∃ b o, a = some ⟨b, o, none⟩ ∧ CardsAt w b o l)
theorem CardsV.below {w w' : World} {v : Value} {l : List Card} (h : CardsV w v l) (hb : Below w.heap.size w w') : CardsV w' v l := by
  obtain ⟨a, cap, rfl, k⟩ := h
  refine ⟨a, cap, rfl, fun hne => ?_⟩
  obtain ⟨b, o, e, hc⟩ := k hne
  exact ⟨b, o, e, hc.below hb⟩
set_option maxRecDepth 100000 in
theorem c93_nil (a : Option Addr) (cap : Nat) (w : World) : Calls Tryz.prog 93 #[.slice a 0 cap] w fun e w' => e = .returned (.int .i64 0) ∧ Below w.heap.size w w' := by
  go_enter Tryz.func93, Tryz.ntmps93
  go_wp2
  refine wp_loop_rounds 1 ?_
  rw [rounds_succ]
  go_wp2
  go_ret
  exact ⟨rfl, xr _⟩
theorem c93v (l : List Card) (v : Value) (w : World) (h : CardsV w v l) (hlen : l.length < 2 ^ 40) : Calls Tryz.prog 93 #[v] w fun e w' => e = .returned (.int .i64 (eachErr l)) ∧ Below w.heap.size w w' := by
  obtain ⟨a, cap, rfl, k⟩ := h
  by_cases hne : l = []
  · subst hne; exact c93_nil a cap w
  · obtain ⟨b, o, rfl, hc⟩ := k hne
    exact c93 l b o cap w hc hlen
def allErr (l : List Card) : Int := if 100 < l.length then 2 else eachErr l
theorem c87 (l : List Card) (v : Value) (w : World) (h : CardsV w v l) (hlen : l.length < 2 ^ 40) : Calls Tryz.prog 87 #[v] w fun e w' => e = .returned (.int .i64 (allErr l)) ∧ Below w.heap.size w w' := by
  have H := Lib.hid (c93v l v w h hlen)
  obtain ⟨a, cap, rfl, -⟩ := h
  unfold allErr
  generalize eachErr l = x at *
  generalize l.length = n at *
  by_cases hn : 100 < n
  · rw [if_pos hn]
    go_enter Tryz.func87, Tryz.ntmps87
    go_wp2_with fail
    go_ret
    exact ⟨rfl, xr _⟩
  · rw [if_neg hn]
    go_enter Tryz.func87, Tryz.ntmps87
    go_wp2_with (go_at_call 93; refine H.out.mono ?_; rintro e w1 ⟨rfl, hb1⟩)
    go_ret
    exact ⟨rfl, hb1⟩
set_option maxRecDepth 100000 in
/-- One card's cells, read as data. -/
theorem card_cells {H : Type} {enc : TypeId × Value → H} {w : World} {base : Nat} {sp : Nat → Bool} {held : Bool} {fuel : Nat} {cs : List Value} {x : DataW H × List MemPlace} (hlen : cs.length = 6) (h : DataW.trod enc Tryz.prog w base sp held fuel 24 cs = some x) : ∃ c : Card, cs = cardCells c := by
  obtain ⟨xs, n, -, -, -, hxl, hg⟩ := DataW.trod_struct Tryz.underlying24 h
  have hc3 : Tryz.prog.cellsOf 3 = 1 := by kernel_rfl
  have hx6 : xs.length = 6 := hxl
  match cs, hlen, xs, hx6 with
  | [v0, v1, v2, v3, v4, v5], _, [y0, y1, y2, y3, y4, y5], _ =>
    have g0 : DataW.trod enc Tryz.prog w base sp held n 3 [v0] = some y0 := by have := hg 0 _ rfl; simpa [hc3] using this
    have g1 : DataW.trod enc Tryz.prog w base sp held n 3 [v1] = some y1 := by have := hg 1 _ rfl; simpa [hc3] using this
    have g2 : DataW.trod enc Tryz.prog w base sp held n 3 [v2] = some y2 := by have := hg 2 _ rfl; simpa [hc3] using this
    have g3 : DataW.trod enc Tryz.prog w base sp held n 3 [v3] = some y3 := by have := hg 3 _ rfl; simpa [hc3] using this
    have g4 : DataW.trod enc Tryz.prog w base sp held n 3 [v4] = some y4 := by have := hg 4 _ rfl; simpa [hc3] using this
    have g5 : DataW.trod enc Tryz.prog w base sp held n 3 [v5] = some y5 := by have := hg 5 _ rfl; simpa [hc3] using this
    obtain ⟨a0, e0, -, -⟩ := DataW.trod_int Tryz.underlying3 g0
    obtain ⟨a1, e1, -, -⟩ := DataW.trod_int Tryz.underlying3 g1
    obtain ⟨a2, e2, -, -⟩ := DataW.trod_int Tryz.underlying3 g2
    obtain ⟨a3, e3, -, -⟩ := DataW.trod_int Tryz.underlying3 g3
    obtain ⟨a4, e4, -, -⟩ := DataW.trod_int Tryz.underlying3 g4
    obtain ⟨a5, e5, -, -⟩ := DataW.trod_int Tryz.underlying3 g5
    simp only [List.cons.injEq, and_true] at e0 e1 e2 e3 e4 e5
    subst e0 e1 e2 e3 e4 e5
    exact ⟨⟨a0, a1, a2, a3, a4, a5⟩, rfl⟩
set_option maxRecDepth 100000 in
/-- A slice of cards that comes in. -/
theorem open_cards {H : Type} {enc : TypeId × Value → H} {w : World} {base b0 : Nat} {sp : Nat → Bool} {held : Bool} {r : Reach} {v : Value} {d : DataW H} {p : List MemPlace}
    (hv : Value.okWide Tryz.prog w r b0 49 v) (h : DataW.Trod enc Tryz.prog w base sp held 49 v d p) : ∃ l : List Card, CardsV w v l ∧ l.length ≤ maxLen := by
  obtain ⟨a0, len0, cap0, rfl⟩ := okWide_slice Tryz.underlying49 hv
  obtain ⟨fuel, hf⟩ := h
  rcases Go.Deep.open_slice Tryz.underlying49 hf with ⟨hcs, -⟩ | ⟨a, len, cap, m, n, D, Pl, hcs, -, hl, hm, hmm, -, hx⟩
  · simp [Value.cells] at hcs
    obtain ⟨rfl, rfl, rfl⟩ := hcs
    exact ⟨[], ⟨none, 0, rfl, fun h => absurd rfl h⟩, by simp⟩
  · simp [Value.cells] at hcs
    obtain ⟨rfl, rfl, rfl⟩ := hcs
    have hlm : len0 ≤ m := by rw [hmm]; split <;> omega
    have hc6 : Tryz.prog.cellsOf 24 = 6 := by kernel_rfl
    have each : ∀ i, i < len0 → ∃ c : Card, ∀ j, j < 6 → w.cell? ((a.add (i * 6)).add j) = (cardCells c)[j]? := fun i hi => by
      obtain ⟨cs', h1, h2⟩ := hx i (by omega)
      rw [hc6] at h1
      obtain ⟨_, hlen, hcell⟩ := World.cells?_some h1
      obtain ⟨c, rfl⟩ := card_cells hlen h2
      exact ⟨c, fun j hj => hcell j hj⟩
    haveI : Inhabited Card := ⟨zcard⟩
    obtain ⟨q, hq⟩ := Go.Deep.choose_lt each
    refine ⟨(List.range len0).map q, ⟨some a, cap0, by simp, fun hne => ?_⟩, by simp; omega⟩
    have h0 : 0 < len0 := by
      rcases Nat.eq_zero_or_pos len0 with e | e
      · subst e; simp at hne
      · exact e
    obtain ⟨b, o, spot⟩ := a
    have hspot : spot = none := by
      have := (hq 0 h0) 0 (by decide)
      have e : (cardCells (q 0))[0]? = some (.int .i64 (q 0).st) := rfl
      rw [e] at this
      simpa [Addr.add] using World.cell?_spot this
    subst hspot
    refine ⟨b, o, rfl, fun i c hc => ?_⟩
    have hi : i < len0 := by
      have := (List.getElem?_eq_some_iff.1 hc).1
      simpa using this
    have hqc : q i = c := by simpa [List.getElem?_map, hi] using hc
    subst hqc
    have k := fun j hj => (hq i hi) j hj
    have ea : ∀ j, ((⟨b, o, none⟩ : Addr).add (i * 6)).add j = ⟨b, o + i * 6 + j, none⟩ := fun j => by rw [Go.Deep.add_add, Go.WideShapes.add_plain, ← Nat.add_assoc]
    simp only [ea] at k
    exact ⟨k 0 (by decide), k 1 (by decide), k 2 (by decide), k 3 (by decide), k 4 (by decide), k 5 (by decide)⟩
end Go.Proofs.YthifeoebefbalaaGreatDoor

namespace Go.Proofs.YthifeoebefbalaaGreatDoor
open Go.RowKit

def sameSays (a b : Card) : Bool := decide ((says a).lo = (says b).lo) && decide ((says a).hi = (says b).hi)
def alikeB (a b : Card) : Bool := sameOf a b && sameSays a b
end Go.Proofs.YthifeoebefbalaaGreatDoor

namespace Go.Proofs.YthifeoebefbalaaGreatDoor
open Go.RowKit

def followsB (a b : Card) : Bool := decide (a.st = b.st) && decide (b.da = a.da + b.dy)
end Go.Proofs.YthifeoebefbalaaGreatDoor

namespace Go.Proofs.YthifeoebefbalaaGreatDoor
open Go.RowKit

end Go.Proofs.YthifeoebefbalaaGreatDoor

namespace Go.Proofs.YthifeoebefbalaaGreatDoor
open Go.RowKit

end Go.Proofs.YthifeoebefbalaaGreatDoor

namespace Go.Proofs.YthifeoebefbalaaGreatDoor
open Go.RowKit

end Go.Proofs.YthifeoebefbalaaGreatDoor

namespace Go.Proofs.YthifeoebefbalaaGreatDoor
open Go.RowKit

set_option maxHeartbeats 1000000 in
theorem c55 (st da dy ki am fi : Int) (w : World) (h : ki = 2 ∨ ki = 3 ∨ ki = 4 ∨ (ki = 1 ∧ 0 ≤ am ∧ am ≤ 200000 ∧ 1 ≤ fi ∧ fi ≤ 100)) : Calls Tryz.prog 55 #[.agg #[.int .i64 st, .int .i64 da, .int .i64 dy, .int .i64 ki, .int .i64 am, .int .i64 fi]] w fun e w' => e = .returned (spv (says ⟨st, da, dy, ki, am, fi⟩)) ∧ Below w.heap.size w w' := by
  rcases h with rfl | rfl | rfl | ⟨rfl, h1, h2, h3, h4⟩
  all_goals
    go_enter Tryz.func55, Tryz.ntmps55
    go_wp2
    exact bodyPost_ret (v := spv (says _)) (by simp [results, Tryz.results55, go_sem, spv, says]) rfl ⟨rfl, by repeat (first | exact xr _ | apply xa)⟩
theorem c55_valid (c : Card) (w : World) (h : isCard c = true) : Calls Tryz.prog 55 #[cv c] w fun e w' => e = .returned (spv (says c)) ∧ Below w.heap.size w w' := by
  obtain ⟨h1, h2, h3, h4, h5, h6, h7, h8, h9, h10⟩ := isCard_true h
  refine c55 c.st c.da c.dy c.ki c.am c.fi w ?_
  by_cases hk : c.ki = 1
  · obtain ⟨g1, g2, g3, g4, -⟩ := h9 hk
    exact .inr (.inr (.inr ⟨hk, g3, g4, g1, g2⟩))
  · omega
end Go.Proofs.YthifeoebefbalaaGreatDoor

namespace Go.Proofs.YthifeoebefbalaaGreatDoor
open Go.RowKit

/-- A card and an error, in memory and as a value. -/
def gotOf (c : Card) (e : Int) : Obj := .cells #[.int .i64 c.st, .int .i64 c.da, .int .i64 c.dy, .int .i64 c.ki, .int .i64 c.am, .int .i64 c.fi, .int .i64 e] 29 (0, 0)
def gotv (c : Card) (e : Int) : Value := .agg #[.int .i64 c.st, .int .i64 c.da, .int .i64 c.dy, .int .i64 c.ki, .int .i64 c.am, .int .i64 c.fi, .int .i64 e]
theorem gotOf_at {w : World} {b : Nat} {c : Card} {e : Int} (h : w.heap[b]? = some (gotOf c e)) :
    w.cell? ⟨b, 0, none⟩ = some (.int .i64 c.st) ∧ w.cell? ⟨b, 1, none⟩ = some (.int .i64 c.da) ∧ w.cell? ⟨b, 2, none⟩ = some (.int .i64 c.dy) ∧ w.cell? ⟨b, 3, none⟩ = some (.int .i64 c.ki) ∧ w.cell? ⟨b, 4, none⟩ = some (.int .i64 c.am) ∧ w.cell? ⟨b, 5, none⟩ = some (.int .i64 c.fi) ∧ w.cell? ⟨b, 6, none⟩ = some (.int .i64 e) ∧
      (∀ i, w.frozen? ⟨b, i, none⟩ = false) ∧ b < w.heap.size := by
  unfold gotOf at h
  exact ⟨by simp [World.cell?, h], by simp [World.cell?, h], by simp [World.cell?, h], by simp [World.cell?, h], by simp [World.cell?, h], by simp [World.cell?, h], by simp [World.cell?, h], fun i => by simp [World.frozen?, h], (Array.getElem?_eq_some_iff.1 h).1⟩
/-- Such a pair stored whole into memory of the call's own. -/
theorem store7 {X : World} {b : Nat} {c0 : Card} {e0 : Int} (h : X.heap[b]? = some (gotOf c0 e0)) (v0 v1 v2 v3 v4 v5 v6 : Int) :
    ∃ Y, ((((((X.setCell ⟨b, 0, none⟩ (.int .i64 v0)).setCell ⟨b, 1, none⟩ (.int .i64 v1)).setCell ⟨b, 2, none⟩ (.int .i64 v2)).setCell ⟨b, 3, none⟩ (.int .i64 v3)).setCell ⟨b, 4, none⟩ (.int .i64 v4)).setCell ⟨b, 5, none⟩ (.int .i64 v5)).setCell ⟨b, 6, none⟩ (.int .i64 v6) = Y ∧
      Y.heap[b]? = some (gotOf ⟨v0, v1, v2, v3, v4, v5⟩ v6) ∧ (∀ (W : World), Below W.heap.size W X → W.heap.size ≤ b → Below W.heap.size W Y) := by
  have h0 := cells_set h 0 (.int .i64 v0)
  have h1 := cells_set h0 1 (.int .i64 v1)
  have h2 := cells_set h1 2 (.int .i64 v2)
  have h3 := cells_set h2 3 (.int .i64 v3)
  have h4 := cells_set h3 4 (.int .i64 v4)
  have h5 := cells_set h4 5 (.int .i64 v5)
  have h6 := cells_set h5 6 (.int .i64 v6)
  exact ⟨_, rfl, by rw [h6]; rfl, fun W hW hb => xs (xs (xs (xs (xs (xs (xs hW hb _) hb _) hb _) hb _) hb _) hb _) hb _⟩
set_option maxRecDepth 100000 in
set_option maxHeartbeats 4000000 in
theorem c26_arg (st da dy : Int) (s : Sp) (w : World) (h : s.lo < 0 ∨ s.hi < s.lo) : Calls Tryz.prog 26 #[.int .i64 st, .int .i64 da, .int .i64 dy, spv s] w fun e w' => e = .returned (gotv zcard 1) ∧ Below w.heap.size w w' := by
  obtain ⟨lo, hi⟩ := s
  simp only at h
  unfold spv gotv zcard
  by_cases h0 : lo < 0
  all_goals
    go_enter Tryz.func26, Tryz.ntmps26
    go_wp2
    exact bodyPost_ret (v := gotv zcard 1) (by simp [results, Tryz.results26, go_sem, gotv, zcard]) rfl ⟨rfl, by repeat (first | exact xr _ | apply xa)⟩
set_option maxRecDepth 100000 in
set_option maxHeartbeats 4000000 in
theorem c26_none (st da dy : Int) (s : Sp) (w : World) (h : ¬ (s.lo < 0 ∨ s.hi < s.lo)) (hr : readingB st da dy = false) : Calls Tryz.prog 26 #[.int .i64 st, .int .i64 da, .int .i64 dy, spv s] w fun e w' => e = .returned (gotv zcard 5) ∧ Below w.heap.size w w' := by
  obtain ⟨lo, hi⟩ := s
  simp only at h
  have h0 : ¬ lo < 0 := by omega
  have h1 : ¬ hi < lo := by omega
  have HR := Lib.hid hr
  clear h hr
  unfold spv gotv zcard
  go_enter Tryz.func26, Tryz.ntmps26
  go_wp2_with (go_at_call 78; refine (c78 _ _ _ _).mono ?_; rintro e w' ⟨rfl, rfl⟩; rw [HR.out])
  exact bodyPost_ret (v := gotv zcard 5) (by simp [results, Tryz.results26, go_sem, gotv, zcard]) rfl ⟨rfl, by repeat (first | exact xr _ | apply xa)⟩
theorem kCard_valid (st da dy : Int) (k : Nat) (hr : readingB st da dy = true) : isCard (kCard st da dy k) = true := by
  unfold kCard kindAt
  simp only [readingB, Bool.and_eq_true] at hr
  simp only [isCard, hr]
  split
  · rfl
  · split <;> rfl
theorem kind_cases (k : Nat) : kindAt k = 2 ∨ kindAt k = 3 ∨ kindAt k = 4 := by
  unfold kindAt
  split
  · exact .inr (.inl rfl)
  · split
    · exact .inl rfl
    · exact .inr (.inr rfl)
set_option maxRecDepth 100000 in
set_option maxHeartbeats 8000000 in
theorem c26_main (st da dy : Int) (s : Sp) (w : World) (h : ¬ (s.lo < 0 ∨ s.hi < s.lo)) (hr : readingB st da dy = true) (hs : s.hi ≤ 9223372036854775807) : Calls Tryz.prog 26 #[.int .i64 st, .int .i64 da, .int .i64 dy, spv s] w fun e w' => e = .returned (gotv (writeR st da dy s).1 (writeR st da dy s).2) ∧ Below w.heap.size w w' := by
  obtain ⟨x, hx⟩ : ∃ x, writeR st da dy s = x := ⟨_, rfl⟩
  rw [hx]
  have HX := Lib.hid hx
  clear hx
  obtain ⟨lo, hi⟩ := s
  simp only at h hs
  have h0 : ¬ lo < 0 := by omega
  have h1 : ¬ hi < lo := by omega
  have HR := Lib.hid hr
  clear h hr
  unfold spv
  simp only
  go_enter Tryz.func26, Tryz.ntmps26
  go_wp2_with (go_at_call 78; refine (c78 _ _ _ _).mono ?_; rintro e w' ⟨rfl, rfl⟩; rw [HR.out])
  obtain ⟨W0, hW0⟩ : ∃ W0, (((w.alloc (.cells #[.int .i64 lo, .int .i64 hi] 33)).alloc (.cells #[.int .i64 0, .int .i64 0, .int .i64 0, .int .i64 0, .int .i64 0, .int .i64 0, .int .i64 0] 29)).alloc (.cells #[.int .i64 3, .int .i64 2, .int .i64 4] 3)) = W0 := ⟨_, rfl⟩
  obtain ⟨B, hB⟩ : ∃ B, w.heap.size = B := ⟨_, rfl⟩
  have hB0 : Below w.heap.size w W0 := by rw [← hW0]; exact xa (xa (xa (xr _) _) _) _
  have hsz : W0.heap.size = B + 3 := by rw [← hW0]; simp; omega
  have hbox : W0.heap[B]? = some (spanOf ⟨lo, hi⟩) := by rw [← hW0, Below.heap_alloc _ _ B (by simp; omega), Below.heap_alloc _ _ B (by simp; omega)]; exact new_block _ _ _ hB
  have hres : W0.heap[B + 1]? = some (gotOf zcard 0) := by rw [← hW0, Below.heap_alloc _ _ (B + 1) (by simp; omega)]; exact new_block _ _ _ (by simp; omega)
  have hkin : W0.heap[B + 1 + 1]? = some (.cells #[.int .i64 3, .int .i64 2, .int .i64 4] 3 (0, 0)) := by rw [← hW0]; exact new_block _ _ _ (by simp; omega)
  have hBw : w.heap.size ≤ B := Nat.le_of_eq hB
  rw [hW0, hB]
  have hK : ∀ X, Below W0.heap.size W0 X → X.heap[B]? = some (spanOf ⟨lo, hi⟩) ∧ X.heap[B + 1]? = some (gotOf zcard 0) ∧ ∀ k, k < 3 → X.cell? ⟨B + 1 + 1, k, none⟩ = some (.int .i64 (kindAt k)) := fun X hX => by
    refine ⟨(hX.block _ (by omega)).trans hbox, (hX.block _ (by omega)).trans hres, fun k hk => ?_⟩
    rw [cell_of_row X (B + 1 + 1) k _ 3 (0, 0) ((hX.block _ (by omega)).trans hkin)]
    match k with
    | 0 => rfl
    | 1 => rfl
    | 2 => rfl
    | k + 3 => omega
  have HK := Lib.hid hK
  clear hW0 hbox hres hkin hK hB
  go_loopw [10] (fun i wr => ∃ k : Nat, k ≤ 3 ∧ i = .int .i64 k ∧ Hid (∀ j, j < k → fitsB (kCard st da dy j) ⟨lo, hi⟩ = false) ∧ Below W0.heap.size W0 wr) (fun i _ => 3 - (intOf i).toNat)
  case atStart => exact ⟨0, by omega, rfl, Lib.hid fun j hj => by omega, xr _⟩
  case round =>
    obtain ⟨k, hk, rfl, hno, hbr⟩ := hrel
    have hX : ∀ X, Below wr.heap.size wr X → Below W0.heap.size W0 X := fun X hX => hbr.trans (hX.mono hbr.size)
    have HXX := Lib.hid hX
    clear hX
    by_cases hlt : k < 3
    · have hcell := (HK.out wr hbr).2.2 k hlt
      have HF : Hid (kCard st da dy k = ⟨st, da, dy, kindAt k, 0, 0⟩) := Lib.hid rfl
      have hkc := kind_cases k
      generalize kindAt k = kk at *
      have H55 : ∀ X, Hid (Calls Tryz.prog 55 #[.agg #[.int .i64 st, .int .i64 da, .int .i64 dy, .int .i64 kk, .int .i64 0, .int .i64 0]] X fun e w' => e = .returned (spv (says ⟨st, da, dy, kk, 0, 0⟩)) ∧ Below X.heap.size X w') := fun X => Lib.hid (c55 st da dy kk 0 0 X (by omega))
      have hfit : fitsB (kCard st da dy k) ⟨lo, hi⟩ = decide (says ⟨st, da, dy, kk, 0, 0⟩ = (⟨lo, hi⟩ : Sp)) := by rw [fitsB, kCard_valid st da dy k HR.out, Bool.true_and, HF.out]
      clear hkc
      generalize says ⟨st, da, dy, kk, 0, 0⟩ = g at *
      obtain ⟨lo2, hi2⟩ := g
      have HFit := Lib.hid hfit
      clear hfit
      simp only [spv] at H55
      have hkl : B + 1 + 1 < wr.heap.size := by have := hbr.size; omega
      go_wp2_with fail
      obtain ⟨V, hV⟩ : ∃ V, wr.alloc (.cells #[.int .i64 st, .int .i64 da, .int .i64 dy, .int .i64 kk, .int .i64 0, .int .i64 0] 24) = V := ⟨_, rfl⟩
      obtain ⟨bc, hbc⟩ : ∃ bc, wr.heap.size = bc := ⟨_, rfl⟩
      have hVb : Below wr.heap.size wr V := by rw [← hV]; exact below_alloc _ _
      have hblk : V.heap[bc]? = some (cellsOf ⟨st, da, dy, kk, 0, 0⟩) := by rw [← hV]; exact new_block _ _ _ hbc
      obtain ⟨t0, t1, t2, t3, t4, t5, tF, tL⟩ := cellsOf_at hblk
      obtain ⟨s0, s1, sL⟩ := span_at (HK.out V (HXX.out V hVb)).1
      rw [hV, hbc]
      have HBLK := Lib.hid hblk
      clear hV hblk
      refine wp_region_gwn V (by kernel_rfl) (by kernel_rfl) (xr V) ?_
      repeat (go_big_quiet_step ((go_at_call 55; exact gw_call ((H55 _).out))))
      refine wpQuiet_step (fun K hK => ?_)
      go_simp
      have hfe : fitsB (kCard st da dy k) ⟨lo, hi⟩ = (decide (lo2 = lo) && decide (hi2 = hi)) := by rw [HFit.out]; by_cases e1 : lo2 = lo <;> by_cases e2 : hi2 = hi <;> simp [e1, e2]
      cases hf : fitsB (kCard st da dy k) ⟨lo, hi⟩ with
      | true =>
        have HT := Lib.hid hf
        have hd : (decide (lo2 = lo) && decide (hi2 = hi)) = true := by rw [← hfe, hf]
        refine ⟨.bool true, fun a => by rw [← hd]; by_cases e1 : lo2 = lo <;> by_cases e2 : hi2 = hi <;> simp [e1, e2], hK _ ?_⟩
        clear hf hfe hd
        clear hK K
        repeat (go_big_quiet_step (fail))
        refine wpQuiet_nil ?_
        rintro _ ⟨x1, rfl⟩
        have hX1 : Below wr.heap.size wr (gw V x1) := hVb.trans ((gw_below V x1).mono hVb.size)
        obtain ⟨-, hr2, -⟩ := HK.out _ (HXX.out _ hX1)
        have hb2 : (gw V x1).heap[bc]? = some (cellsOf ⟨st, da, dy, kk, 0, 0⟩) := ((gw_below V x1).block bc tL).trans HBLK.out
        obtain ⟨X, hXe⟩ : ∃ X, gw V x1 = X := ⟨_, rfl⟩
        rw [hXe] at hX1 hr2 hb2 ⊢
        clear hXe tL t0 t1 t2 t3 t4 t5 tF HBLK s0 s1 sL hVb V x1
        obtain ⟨t0, t1, t2, t3, t4, t5, tF, tL⟩ := cellsOf_at hb2
        obtain ⟨u0, u1, u2, u3, u4, u5, u6, uF, uL⟩ := gotOf_at hr2
        have HR2 := Lib.hid hr2
        clear hr2 hb2
        go_wp2_with fail
        obtain ⟨Y, hY, hYb, hYg⟩ := store7 HR2.out st da dy kk 0 0 0
        rw [hY]
        have hg := hYg w (hB0.trans ((HXX.out _ hX1).mono hB0.size)) (by omega)
        obtain ⟨y0, y1, y2, y3, y4, y5, y6, yF, yL⟩ := gotOf_at hYb
        have hfin : x = (⟨st, da, dy, kk, 0, 0⟩, 0) := by
          rw [← HX.out, writeR, if_neg (by simp only; omega), find_range _ k 3 hno.out HT.out hlt, ← HF.out]
        clear hY hYb hYg
        rw [hfin]
        exact bodyPost_ret (v := gotv ⟨st, da, dy, kk, 0, 0⟩ 0) (by simp [results, Tryz.results26, go_sem, gotv, y0, y1, y2, y3, y4, y5, y6]) rfl ⟨rfl, hg⟩
      | false =>
        have HT := Lib.hid hf
        have hd : (decide (lo2 = lo) && decide (hi2 = hi)) = false := by rw [← hfe, hf]
        refine ⟨.bool false, fun a => by rw [← hd]; by_cases e1 : lo2 = lo <;> by_cases e2 : hi2 = hi <;> simp [e1, e2], hK _ ?_⟩
        clear hf hfe hd
        clear hK K
        repeat (go_big_quiet_step (fail))
        refine wpQuiet_nil ?_
        rintro _ ⟨x1, rfl⟩
        have hX1 : Below wr.heap.size wr (gw V x1) := hVb.trans ((gw_below V x1).mono hVb.size)
        obtain ⟨-, hr2, -⟩ := HK.out _ (HXX.out _ hX1)
        have hb2 : (gw V x1).heap[bc]? = some (cellsOf ⟨st, da, dy, kk, 0, 0⟩) := ((gw_below V x1).block bc tL).trans HBLK.out
        obtain ⟨X, hXe⟩ : ∃ X, gw V x1 = X := ⟨_, rfl⟩
        rw [hXe] at hX1 hr2 hb2 ⊢
        clear hXe hr2 hb2 tL t0 t1 t2 t3 t4 t5 tF HBLK s0 s1 sL hVb V x1
        have HX1 := Lib.hid hX1
        clear hX1
        go_wp2_with fail
        go_roundw
        case rel =>
          have hno2 : ∀ j, j < k + 1 → fitsB (kCard st da dy j) ⟨lo, hi⟩ = false := fun j hj => by
            by_cases e : j = k
            · subst e; exact HT.out
            · exact hno.out j (by omega)
          have hb3 := HXX.out X HX1.out
          first | exact ⟨k + 1, by omega, by go_num, Lib.hid hno2, hb3⟩ | ((repeat apply Exists.intro); exact ⟨⟨k + 1, by omega, by go_num, Lib.hid hno2, hb3⟩, rfl⟩)
        case measure => simp [intOf]; omega
    · obtain rfl : k = 3 := by omega
      have HN := Lib.hid (find_none (fun i => fitsB (kCard st da dy i) ⟨lo, hi⟩) 3 (fun j hj => hno.out j hj))
      clear hno HXX
      go_wp2
      have HWO := Lib.hid hbr
      clear hbr
      obtain ⟨wo, rfl⟩ : ∃ wo : World, wo = wr := ⟨_, rfl⟩
      go_loopw [12] (fun f wr => ∃ k : Nat, k ≤ 100 ∧ f = .int .i64 ((k : Int) + 1) ∧ Hid (∀ j, j < k → fitsB (fCard st da dy ⟨lo, hi⟩ j) ⟨lo, hi⟩ = false) ∧ Below W0.heap.size W0 wr) (fun f _ => 101 - (intOf f).toNat)
      case atStart => exact ⟨0, by omega, rfl, Lib.hid fun j hj => by omega, HWO.out⟩
      case round =>
        obtain ⟨k, hk, rfl, hno, hbr⟩ := hrel
        clear HWO
        have hX : ∀ X, Below wr.heap.size wr X → Below W0.heap.size W0 X := fun X hX => hbr.trans (hX.mono hbr.size)
        have HXX := Lib.hid hX
        clear hX
        have hz : B < wr.heap.size := by have := hbr.size; omega
        obtain ⟨s0, s1, sL⟩ := span_at (HK.out wr hbr).1
        by_cases hlt : k < 100
        · have HF : Hid (fCard st da dy ⟨lo, hi⟩ k = ⟨st, da, dy, 1, hi - ((k : Int) + 1) / 2, (k : Int) + 1⟩) := Lib.hid rfl
          cases hI : isCard ⟨st, da, dy, 1, hi - ((k : Int) + 1) / 2, (k : Int) + 1⟩ with
          | false =>
            have HI := Lib.hid hI
            have HT : Hid (fitsB (fCard st da dy ⟨lo, hi⟩ k) ⟨lo, hi⟩ = false) := Lib.hid (by rw [HF.out, fitsB, hI, Bool.false_and])
            clear hI
            go_wp2_with fail
            obtain ⟨V, hV⟩ : ∃ V, wr.alloc (.cells #[.int .i64 st, .int .i64 da, .int .i64 dy, .int .i64 1, .int .i64 (hi - ((k : Int) + 1) / 2), .int .i64 ((k : Int) + 1)] 24) = V := ⟨_, rfl⟩
            obtain ⟨bc, hbc⟩ : ∃ bc, wr.heap.size = bc := ⟨_, rfl⟩
            have hVb : Below wr.heap.size wr V := by rw [← hV]; exact below_alloc _ _
            have hblk : V.heap[bc]? = some (cellsOf ⟨st, da, dy, 1, hi - ((k : Int) + 1) / 2, (k : Int) + 1⟩) := by rw [← hV]; exact new_block _ _ _ hbc
            obtain ⟨t0, t1, t2, t3, t4, t5, tF, tL⟩ := cellsOf_at hblk
            obtain ⟨s0, s1, sL⟩ := span_at (HK.out V (HXX.out V hVb)).1
            rw [hV, hbc]
            have HBLK := Lib.hid hblk
            clear hV hblk
            refine wp_region_gwn V (by kernel_rfl) (by kernel_rfl) (xr V) ?_
            repeat (go_big_quiet_step ((go_at_call 37; exact gw_call ((c37 st da dy 1 (hi - ((k : Int) + 1) / 2) ((k : Int) + 1) _).mono fun e w' h1 => (⟨by rw [h1.1, HI.out], h1.2⟩ : e = .returned (.bool false) ∧ _)))))
            refine wpQuiet_nil ?_
            rintro _ ⟨x1, rfl⟩
            have hX1 : Below wr.heap.size wr (gw V x1) := hVb.trans ((gw_below V x1).mono hVb.size)
            obtain ⟨-, hr2, -⟩ := HK.out _ (HXX.out _ hX1)
            have hb2 : (gw V x1).heap[bc]? = some (cellsOf ⟨st, da, dy, 1, hi - ((k : Int) + 1) / 2, (k : Int) + 1⟩) := ((gw_below V x1).block bc tL).trans HBLK.out
            obtain ⟨X, hXe⟩ : ∃ X, gw V x1 = X := ⟨_, rfl⟩
            rw [hXe] at hX1 hr2 hb2 ⊢
            clear hXe hr2 hb2 tL t0 t1 t2 t3 t4 t5 tF HBLK s0 s1 sL hVb V x1
            have HX1 := Lib.hid hX1
            clear hX1
            go_wp2_with fail
            go_roundw
            case rel =>
              have hno2 : ∀ j, j < k + 1 → fitsB (fCard st da dy ⟨lo, hi⟩ j) ⟨lo, hi⟩ = false := fun j hj => by
                by_cases e : j = k
                · subst e; exact HT.out
                · exact hno.out j (by omega)
              have hb3 := HXX.out X HX1.out
              first | exact ⟨k + 1, by omega, by go_num, Lib.hid hno2, hb3⟩ | ((repeat apply Exists.intro); exact ⟨⟨k + 1, by omega, by go_num, Lib.hid hno2, hb3⟩, rfl⟩)
            case measure => simp [intOf]; omega
          | true =>
            have HI := Lib.hid hI
            have H55 : ∀ X, Hid (Calls Tryz.prog 55 #[.agg #[.int .i64 st, .int .i64 da, .int .i64 dy, .int .i64 1, .int .i64 (hi - ((k : Int) + 1) / 2), .int .i64 ((k : Int) + 1)]] X fun e w' => e = .returned (spv (says ⟨st, da, dy, 1, hi - ((k : Int) + 1) / 2, (k : Int) + 1⟩)) ∧ Below X.heap.size X w') := fun X => Lib.hid (c55_valid ⟨st, da, dy, 1, hi - ((k : Int) + 1) / 2, (k : Int) + 1⟩ X hI)
            have hfit : fitsB (fCard st da dy ⟨lo, hi⟩ k) ⟨lo, hi⟩ = decide (says ⟨st, da, dy, 1, hi - ((k : Int) + 1) / 2, (k : Int) + 1⟩ = (⟨lo, hi⟩ : Sp)) := by rw [HF.out, fitsB, hI, Bool.true_and]
            clear hI
            generalize says ⟨st, da, dy, 1, hi - ((k : Int) + 1) / 2, (k : Int) + 1⟩ = g at *
            obtain ⟨lo2, hi2⟩ := g
            have HFit := Lib.hid hfit
            clear hfit
            simp only [spv] at H55
            go_wp2_with fail
            obtain ⟨V, hV⟩ : ∃ V, wr.alloc (.cells #[.int .i64 st, .int .i64 da, .int .i64 dy, .int .i64 1, .int .i64 (hi - ((k : Int) + 1) / 2), .int .i64 ((k : Int) + 1)] 24) = V := ⟨_, rfl⟩
            obtain ⟨bc, hbc⟩ : ∃ bc, wr.heap.size = bc := ⟨_, rfl⟩
            have hVb : Below wr.heap.size wr V := by rw [← hV]; exact below_alloc _ _
            have hblk : V.heap[bc]? = some (cellsOf ⟨st, da, dy, 1, hi - ((k : Int) + 1) / 2, (k : Int) + 1⟩) := by rw [← hV]; exact new_block _ _ _ hbc
            obtain ⟨t0, t1, t2, t3, t4, t5, tF, tL⟩ := cellsOf_at hblk
            obtain ⟨s0, s1, sL⟩ := span_at (HK.out V (HXX.out V hVb)).1
            rw [hV, hbc]
            have HBLK := Lib.hid hblk
            clear hV hblk
            refine wp_region_gwn V (by kernel_rfl) (by kernel_rfl) (xr V) ?_
            repeat (go_big_quiet_step ((first | (go_at_call 37; exact gw_call ((c37 st da dy 1 (hi - ((k : Int) + 1) / 2) ((k : Int) + 1) _).mono fun e w' h1 => (⟨by rw [h1.1, HI.out], h1.2⟩ : e = .returned (.bool true) ∧ _))) | (go_at_call 55; exact gw_call ((H55 _).out)))))
            refine wpQuiet_step (fun K hK => ?_)
            go_simp
            have hfe : fitsB (fCard st da dy ⟨lo, hi⟩ k) ⟨lo, hi⟩ = (decide (lo2 = lo) && decide (hi2 = hi)) := by rw [HFit.out]; by_cases e1 : lo2 = lo <;> by_cases e2 : hi2 = hi <;> simp [e1, e2]
            cases hf : fitsB (fCard st da dy ⟨lo, hi⟩ k) ⟨lo, hi⟩ with
            | true =>
              have HT := Lib.hid hf
              have hd : (decide (lo2 = lo) && decide (hi2 = hi)) = true := by rw [← hfe, hf]
              refine ⟨.bool true, fun a => by rw [← hd]; by_cases e1 : lo2 = lo <;> by_cases e2 : hi2 = hi <;> simp [e1, e2], hK _ ?_⟩
              clear hf hfe hd
              clear hK K
              repeat (go_big_quiet_step (fail))
              refine wpQuiet_nil ?_
              rintro _ ⟨x1, rfl⟩
              have hX1 : Below wr.heap.size wr (gw V x1) := hVb.trans ((gw_below V x1).mono hVb.size)
              obtain ⟨-, hr2, -⟩ := HK.out _ (HXX.out _ hX1)
              have hb2 : (gw V x1).heap[bc]? = some (cellsOf ⟨st, da, dy, 1, hi - ((k : Int) + 1) / 2, (k : Int) + 1⟩) := ((gw_below V x1).block bc tL).trans HBLK.out
              obtain ⟨X, hXe⟩ : ∃ X, gw V x1 = X := ⟨_, rfl⟩
              rw [hXe] at hX1 hr2 hb2 ⊢
              clear hXe tL t0 t1 t2 t3 t4 t5 tF HBLK s0 s1 sL hVb V x1
              obtain ⟨t0, t1, t2, t3, t4, t5, tF, tL⟩ := cellsOf_at hb2
              obtain ⟨u0, u1, u2, u3, u4, u5, u6, uF, uL⟩ := gotOf_at hr2
              have HR2 := Lib.hid hr2
              clear hr2 hb2
              go_wp2_with fail
              obtain ⟨Y, hY, hYb, hYg⟩ := store7 HR2.out st da dy 1 (hi - ((k : Int) + 1) / 2) ((k : Int) + 1) 0
              rw [hY]
              have hg := hYg w (hB0.trans ((HXX.out _ hX1).mono hB0.size)) (by omega)
              obtain ⟨y0, y1, y2, y3, y4, y5, y6, yF, yL⟩ := gotOf_at hYb
              have hfin : x = (⟨st, da, dy, 1, hi - ((k : Int) + 1) / 2, (k : Int) + 1⟩, 0) := by
                rw [← HX.out, writeR, if_neg (by simp only; omega), HN.out]
                simp only
                rw [find_range _ k 100 hno.out HT.out hlt, ← HF.out]
              clear hY hYb hYg
              rw [hfin]
              exact bodyPost_ret (v := gotv ⟨st, da, dy, 1, hi - ((k : Int) + 1) / 2, (k : Int) + 1⟩ 0) (by simp [results, Tryz.results26, go_sem, gotv, y0, y1, y2, y3, y4, y5, y6]) rfl ⟨rfl, hg⟩
            | false =>
              have HT := Lib.hid hf
              have hd : (decide (lo2 = lo) && decide (hi2 = hi)) = false := by rw [← hfe, hf]
              refine ⟨.bool false, fun a => by rw [← hd]; by_cases e1 : lo2 = lo <;> by_cases e2 : hi2 = hi <;> simp [e1, e2], hK _ ?_⟩
              clear hf hfe hd
              clear hK K
              repeat (go_big_quiet_step (fail))
              refine wpQuiet_nil ?_
              rintro _ ⟨x1, rfl⟩
              have hX1 : Below wr.heap.size wr (gw V x1) := hVb.trans ((gw_below V x1).mono hVb.size)
              obtain ⟨-, hr2, -⟩ := HK.out _ (HXX.out _ hX1)
              have hb2 : (gw V x1).heap[bc]? = some (cellsOf ⟨st, da, dy, 1, hi - ((k : Int) + 1) / 2, (k : Int) + 1⟩) := ((gw_below V x1).block bc tL).trans HBLK.out
              obtain ⟨X, hXe⟩ : ∃ X, gw V x1 = X := ⟨_, rfl⟩
              rw [hXe] at hX1 hr2 hb2 ⊢
              clear hXe hr2 hb2 tL t0 t1 t2 t3 t4 t5 tF HBLK s0 s1 sL hVb V x1
              have HX1 := Lib.hid hX1
              clear hX1
              go_wp2_with fail
              go_roundw
              case rel =>
                have hno2 : ∀ j, j < k + 1 → fitsB (fCard st da dy ⟨lo, hi⟩ j) ⟨lo, hi⟩ = false := fun j hj => by
                  by_cases e : j = k
                  · subst e; exact HT.out
                  · exact hno.out j (by omega)
                have hb3 := HXX.out X HX1.out
                first | exact ⟨k + 1, by omega, by go_num, Lib.hid hno2, hb3⟩ | ((repeat apply Exists.intro); exact ⟨⟨k + 1, by omega, by go_num, Lib.hid hno2, hb3⟩, rfl⟩)
              case measure => simp [intOf]; omega
        · obtain rfl : k = 100 := by omega
          have HM := Lib.hid (find_none (fun i => fitsB (fCard st da dy ⟨lo, hi⟩ i) ⟨lo, hi⟩) 100 (fun j hj => hno.out j hj))
          obtain ⟨-, hr, -⟩ := HK.out wr hbr
          obtain ⟨u0, u1, u2, u3, u4, u5, u6, uF, uL⟩ := gotOf_at hr
          have HR2 := Lib.hid hr
          clear hr
          go_wp2
          obtain ⟨Y, hY, hYb, hYg⟩ := store7 HR2.out 0 0 0 0 0 0 5
          rw [hY]
          have hg := hYg w (hB0.trans (hbr.mono hB0.size)) (by omega)
          obtain ⟨y0, y1, y2, y3, y4, y5, y6, yF, yL⟩ := gotOf_at hYb
          have hfin : x = (zcard, 5) := by
            rw [← HX.out, writeR, if_neg (by simp only; omega), HN.out]
            simp only
            rw [HM.out]
          clear hY hYb hYg
          rw [hfin]
          exact bodyPost_ret (v := gotv zcard 5) (by simp [results, Tryz.results26, go_sem, gotv, zcard, y0, y1, y2, y3, y4, y5, y6]) rfl ⟨rfl, hg⟩
end Go.Proofs.YthifeoebefbalaaGreatDoor

namespace Go.Proofs.YthifeoebefbalaaGreatDoor
open Go.RowKit

theorem isCard_reading (c : Card) (h : readingB c.st c.da c.dy = false) : isCard c = false := by
  simp only [readingB] at h
  simp only [isCard, h, Bool.false_and]
theorem writeR_none (st da dy : Int) (s : Sp) (h : ¬ (s.lo < 0 ∨ s.hi < s.lo)) (hr : readingB st da dy = false) : writeR st da dy s = (zcard, 5) := by
  have e1 := find_none (fun i => fitsB (kCard st da dy i) s) 3 (fun j _ => by rw [fitsB, isCard_reading _ hr, Bool.false_and])
  have e2 := find_none (fun i => fitsB (fCard st da dy s i) s) 100 (fun j _ => by rw [fitsB, isCard_reading _ hr, Bool.false_and])
  rw [writeR, if_neg h, e1]
  simp only
  rw [e2]
theorem writeR_arg (st da dy : Int) (s : Sp) (h : s.lo < 0 ∨ s.hi < s.lo) : writeR st da dy s = (zcard, 1) := by rw [writeR, if_pos h]
theorem c25_any (st da dy lo hi : Int) (w : World) (hs : hi ≤ 9223372036854775807) : Calls Tryz.prog 25 #[.int .i64 st, .int .i64 da, .int .i64 dy, .agg #[.int .i64 lo, .int .i64 hi]] w fun e w' => e = .returned (.tuple #[cv (writeR st da dy ⟨lo, hi⟩).1, .int .i64 (writeR st da dy ⟨lo, hi⟩).2]) ∧ Below w.heap.size w w' := by
  by_cases h : lo < 0 ∨ hi < lo
  · rw [writeR_arg st da dy ⟨lo, hi⟩ h]; exact c25_arg st da dy ⟨lo, hi⟩ w h
  · exact c25 st da dy ⟨lo, hi⟩ w h hs
theorem c26_any (st da dy lo hi : Int) (w : World) (hs : hi ≤ 9223372036854775807) : Calls Tryz.prog 26 #[.int .i64 st, .int .i64 da, .int .i64 dy, .agg #[.int .i64 lo, .int .i64 hi]] w fun e w' => e = .returned (gotv (writeR st da dy ⟨lo, hi⟩).1 (writeR st da dy ⟨lo, hi⟩).2) ∧ Below w.heap.size w w' := by
  by_cases h : lo < 0 ∨ hi < lo
  · rw [writeR_arg st da dy ⟨lo, hi⟩ h]; exact c26_arg st da dy ⟨lo, hi⟩ w h
  · cases hr : readingB st da dy with
    | false => rw [writeR_none st da dy ⟨lo, hi⟩ h hr]; exact c26_none st da dy ⟨lo, hi⟩ w h hr
    | true => exact c26_main st da dy ⟨lo, hi⟩ w h hr hs
set_option maxRecDepth 100000 in
set_option maxHeartbeats 4000000 in
theorem c4 (st da dy lo hi : Int) (w : World) (hs : hi ≤ 9223372036854775807) (hE : Env w) (hC : Cell0 w) : Calls Tryz.prog 4 #[.int .i64 st, .int .i64 da, .int .i64 dy, .agg #[.int .i64 lo, .int .i64 hi]] w fun e w' => e = .returned (.bool true) ∧ Below w.heap.size w w' := by
  have H25 := fun W => Lib.hid (c25_any st da dy lo hi W hs)
  have H26 := fun W => Lib.hid (c26_any st da dy lo hi W hs)
  have HE := Lib.hid hE
  have HC := Lib.hid hC
  clear hE hC hs
  generalize writeR st da dy ⟨lo, hi⟩ = x at *
  obtain ⟨⟨a, b, c, d, f, g⟩, u⟩ := x
  unfold cv at H25
  unfold gotv at H26
  simp only at H25 H26
  have hbl : Below w.heap.size w (w.alloc (.cells #[.int .i64 lo, .int .i64 hi] 33)) := below_alloc _ _
  go_enter Tryz.func4, Tryz.ntmps4
  go_wp2_with fail
  refine (H25 _).out.mono ?_
  rintro e X1 ⟨rfl, hb1⟩
  have k0 : X1.heap[w.heap.size]? = some (spanOf ⟨lo, hi⟩) := (hb1.block _ (by simp)).trans (World.alloc_heap_new w _)
  obtain ⟨s0, s1, sL⟩ := span_at k0
  have hB1 : Below w.heap.size w X1 := hbl.trans (hb1.mono (by simp))
  clear k0 hb1 hbl H25
  go_wp2_with fail
  refine (H26 _).out.mono ?_
  rintro e X2 ⟨rfl, hb2⟩
  obtain ⟨B1, hB1e⟩ : ∃ B1, X1.heap.size = B1 := ⟨_, rfl⟩
  have k1 := new_card (c := ⟨a, b, c, d, f, g⟩) hb2
  have hB2 : Below w.heap.size w X2 := hB1.trans (((below_alloc X1 _).trans (hb2.mono (by simp))).mono hB1.size)
  rw [hB1e] at k1
  have hl1 : B1 < X2.heap.size := (Array.getElem?_eq_some_iff.1 k1).1
  have K1 := Lib.hid k1
  clear k1 hb2 s0 s1 sL hB1 H26
  rw [hB1e]
  clear hB1e X1
  go_wp2_with fail
  obtain ⟨B2, hB2e⟩ : ∃ B2, X2.heap.size = B2 := ⟨_, rfl⟩
  obtain ⟨V, hV⟩ : ∃ V, X2.alloc (.cells #[.int .i64 a, .int .i64 b, .int .i64 c, .int .i64 d, .int .i64 f, .int .i64 g, .int .i64 u] 29) = V := ⟨_, rfl⟩
  have k1 : V.heap[B1]? = some (cellsOf ⟨a, b, c, d, f, g⟩) := by rw [← hV, Below.heap_alloc _ _ _ hl1]; exact K1.out
  have k2 : V.heap[B2]? = some (gotOf ⟨a, b, c, d, f, g⟩ u) := by rw [← hV]; exact new_block _ _ _ hB2e
  have hB3 : Below w.heap.size w V := by rw [← hV]; exact xa hB2 _
  rw [hV, hB2e]
  clear hV hB2e hB2 K1 hl1 X2
  refine (c22 V (HE.out.below hB3) (HC.out.below hB3 HC.out.lt)).mono ?_
  rintro e X5 ⟨rfl, hb5⟩
  obtain ⟨t0, t1, t2, t3, t4, t5, tF, tL⟩ := cellsOf_at ((hb5.block _ (Array.getElem?_eq_some_iff.1 k1).1).trans k1)
  obtain ⟨u0, u1, u2, u3, u4, u5, u6, uF, uL⟩ := gotOf_at ((hb5.block _ (Array.getElem?_eq_some_iff.1 k2).1).trans k2)
  clear k1 k2
  go_wp2_with fail
  go_ret
  exact ⟨rfl, hB3.trans (hb5.mono hB3.size)⟩
theorem w4 (st da dy lo hi : Int) (w : World) (_ : intIn st) (_ : intIn da) (_ : intIn dy) (_ : intIn lo) (h : intIn hi) (hE : Env w) (hC : Cell0 w) : Calls Tryz.prog 4 #[.int .i64 st, .int .i64 da, .int .i64 dy, .agg #[.int .i64 lo, .int .i64 hi]] w fun e w' => e = .returned (.bool true) ∧ Below w.heap.size w w' := c4 st da dy lo hi w h.2 hE hC
end Go.Proofs.YthifeoebefbalaaGreatDoor

namespace Go.Proofs.YthifeoebefbalaaGreatDoor
open Go.RowKit

set_option maxHeartbeats 2000000 in
theorem c56 (a b : Card) (w : World) : Calls Tryz.prog 56 #[cv a, cv b] w fun e w' => e = .returned (.bool (sameOf a b)) ∧ Below w.heap.size w w' := by
  obtain ⟨v, hv⟩ : ∃ v, sameOf a b = v := ⟨_, rfl⟩
  rw [hv]
  have HV := Lib.hid hv
  clear hv
  obtain ⟨a1, a2, a3, a4, a5, a6⟩ := a
  obtain ⟨b1, b2, b3, b4, b5, b6⟩ := b
  unfold sameOf at HV
  unfold cv
  simp only at *
  by_cases h1 : a1 = b1
  all_goals by_cases h2 : a2 = b2
  all_goals by_cases h3 : a3 = b3
  all_goals
    go_enter Tryz.func56, Tryz.ntmps56
    go_wp2_with fail
    go_ret
    exact ⟨ret_bool (by rw [← HV.out]; simp [h1, h2, h3]), xa (xa (xr _) _) _⟩
set_option maxHeartbeats 2000000 in
theorem c53 (a b : Card) (w : World) (ha : 0 ≤ a.da) (ha' : a.da ≤ 60000) (hb : 0 ≤ b.dy) (hb' : b.dy ≤ 100) : Calls Tryz.prog 53 #[cv a, cv b] w fun e w' => e = .returned (.bool (followsB a b)) ∧ Below w.heap.size w w' := by
  rw [followsB]
  obtain ⟨a1, a2, a3, a4, a5, a6⟩ := a
  obtain ⟨b1, b2, b3, b4, b5, b6⟩ := b
  unfold cv
  simp only at *
  by_cases h1 : a1 = b1
  · subst h1
    by_cases h2 : b2 = a2 + b3
    · subst h2
      go_enter Tryz.func53, Tryz.ntmps53
      go_wp2_with fail
      go_ret
      exact ⟨ret_bool (by simp), xa (xa (xr _) _) _⟩
    · go_enter Tryz.func53, Tryz.ntmps53
      go_wp2_with fail
      go_ret
      exact ⟨ret_bool (by simp [h2]), xa (xa (xr _) _) _⟩
  · go_enter Tryz.func53, Tryz.ntmps53
    go_wp2_with fail
    go_ret
    exact ⟨ret_bool (by simp [h1]), xa (xa (xr _) _) _⟩
end Go.Proofs.YthifeoebefbalaaGreatDoor

namespace Go.Proofs.YthifeoebefbalaaGreatDoor
open Go.RowKit

theorem c55f (st da dy ki am fi : Int) (w : World) (h : isCard ⟨st, da, dy, ki, am, fi⟩ = true) : Calls Tryz.prog 55 #[.agg #[.int .i64 st, .int .i64 da, .int .i64 dy, .int .i64 ki, .int .i64 am, .int .i64 fi]] w fun e w' => e = .returned (.agg #[.int .i64 (says ⟨st, da, dy, ki, am, fi⟩).lo, .int .i64 (says ⟨st, da, dy, ki, am, fi⟩).hi]) ∧ Below w.heap.size w w' :=
  c55_valid ⟨st, da, dy, ki, am, fi⟩ w h

set_option maxHeartbeats 2000000 in
set_option maxRecDepth 100000 in
theorem c51 (a b : Card) (w : World) (ha : isCard a = true) (hb : isCard b = true) : Calls Tryz.prog 51 #[cv a, cv b] w fun e w' => e = .returned (.bool (alikeB a b)) ∧ Below w.heap.size w w' := by
  have HD : Hid (alikeB a b = (sameOf a b && sameSays a b)) := Lib.hid rfl
  generalize hv : alikeB a b = v at HD ⊢
  clear hv
  have Ha := Lib.hid ha
  have Hb := Lib.hid hb
  have H56 := fun W => Lib.hid (c56 a b W)
  clear ha hb
  obtain ⟨s, hs⟩ : ∃ s, sameOf a b = s := ⟨_, rfl⟩
  rw [hs] at HD H56
  clear hs
  unfold cv at *
  obtain ⟨a1, a2, a3, a4, a5, a6⟩ := a
  obtain ⟨b1, b2, b3, b4, b5, b6⟩ := b
  simp only [sameSays] at HD
  simp only at H56 ⊢
  cases s with
  | true =>
    by_cases h4 : (says ⟨a1, a2, a3, a4, a5, a6⟩).lo = (says ⟨b1, b2, b3, b4, b5, b6⟩).lo
    all_goals by_cases h5 : (says ⟨a1, a2, a3, a4, a5, a6⟩).hi = (says ⟨b1, b2, b3, b4, b5, b6⟩).hi
    all_goals
      go_enter Tryz.func51, Tryz.ntmps51
      go_wp2_with fail
      refine wp_region_gw (by kernel_rfl) (by kernel_rfl) ?_
      repeat (go_big_quiet_step (first
        | (go_at_call 56; exact gw_call (H56 _).out)
        | (go_at_call 55; exact gw_call (c55f _ _ _ _ _ _ _ (by first | exact Ha.out | exact Hb.out)))))
      refine wpQuiet_nil ?_
      rintro _ ⟨x, rfl⟩
      go_wp2
      go_ret
      exact ⟨ret_bool (by simp [HD.out, h4, h5]), xg (xa (xa (xr _) _) _) x⟩
  | false =>
    go_enter Tryz.func51, Tryz.ntmps51
    go_wp2_with fail
    refine wp_region_gw (by kernel_rfl) (by kernel_rfl) ?_
    repeat (go_big_quiet_step ((go_at_call 56; exact gw_call (H56 _).out)))
    refine wpQuiet_nil ?_
    rintro _ ⟨x, rfl⟩
    go_wp2
    go_ret
    exact ⟨ret_bool (by simp [HD.out]), xg (xa (xa (xr _) _) _) x⟩
end Go.Proofs.YthifeoebefbalaaGreatDoor

namespace Go.Proofs.YthifeoebefbalaaGreatDoor
open Go.RowKit

end Go.Proofs.YthifeoebefbalaaGreatDoor

namespace Go.Proofs.YthifeoebefbalaaGreatDoor
open Go.RowKit

end Go.Proofs.YthifeoebefbalaaGreatDoor

namespace Go.Proofs.YthifeoebefbalaaGreatDoor
open Go.RowKit

end Go.Proofs.YthifeoebefbalaaGreatDoor

namespace Go.Proofs.YthifeoebefbalaaGreatDoor
open Go.RowKit

end Go.Proofs.YthifeoebefbalaaGreatDoor

namespace Go.Proofs.YthifeoebefbalaaGreatDoor
open Go.RowKit

theorem c55_H (a : Card) (ha : isCard a = true) : ∀ W, Hid (Calls Tryz.prog 55 #[cv a] W fun r w' => r = .returned (.agg #[.int .i64 (says a).lo, .int .i64 (says a).hi]) ∧ Below W.heap.size W w') := fun W => Lib.hid (c55_valid a W ha)
end Go.Proofs.YthifeoebefbalaaGreatDoor

namespace Go.Proofs.YthifeoebefbalaaGreatDoor
open Go.RowKit

end Go.Proofs.YthifeoebefbalaaGreatDoor

namespace Go.Proofs.YthifeoebefbalaaGreatDoor
open Go.RowKit

end Go.Proofs.YthifeoebefbalaaGreatDoor

namespace Go.Proofs.YthifeoebefbalaaGreatDoor
open Go.RowKit

theorem Tryz.info9 : (Tryz.prog.info? 9).map (fun i => (i.zero, i.size, i.bytes)) = some (some (.string ⟨#[]⟩), 1, 16) := by kernel_rfl
theorem take_one {t : List UInt8} {k : Nat} {c : UInt8} (h : t[k]? = some c) : t.take (k + 1) = t.take k ++ [c] := by
  rw [List.take_add_one, h]; rfl
end Go.Proofs.YthifeoebefbalaaGreatDoor

namespace Go.Proofs.YthifeoebefbalaaGreatDoor
open Go.RowKit

def prC (p : Int × Int) : List Value := [.int .i64 p.1, .int .i64 p.2]
def prsC (l : List (Int × Int)) : List Value := l.flatMap prC
theorem prsC_snoc (l : List (Int × Int)) (p : Int × Int) : prsC (l ++ [p]) = prsC l ++ prC p := by simp [prsC]
theorem pr_new {w : World} {x y : Value} {t : TypeId} : ∀ j u, [x, y][j]? = some u → (w.alloc (.cells #[x, y] t)).cell? ((⟨w.heap.size, 0, none⟩ : Addr).add j) = some u := by
  intro j u hj
  have h := cell_of_row (w.alloc (.cells #[x, y] t)) w.heap.size j #[x, y] t (0, 0) (heap_alloc_new w _)
  have e : (⟨w.heap.size, 0, none⟩ : Addr).add j = ⟨w.heap.size, j, none⟩ := by simp [Addr.add]; intro h; exact h.symm
  rw [e, h]
  simpa using hj
theorem pr_cells (x y : Int) : ∀ u ∈ [Value.int .i64 x, .int .i64 y], u.oneCell' = true := by intro u hu; simp at hu; rcases hu with rfl | rfl <;> rfl
theorem own_belowN {w a b : World} {E s : Nat} {v : Value} {n : Nat} {xs : List Value} (h : Below w.heap.size w a) (hown : a.ownsRow w.heap.size E s v n xs) (hg : a.grownBy b v.ownBlock) : Below w.heap.size w b :=
  h.grown hg h.size (fun k hk => by
    obtain ⟨_, hc⟩ := hown
    rcases hc with ⟨rfl, _⟩ | ⟨g, cap, cur, rfl, hg, _⟩
    · cases hk
    · simp [Value.ownBlock] at hk; omega)
theorem own_keepN {a b : World} {Bb E s : Nat} {v : Value} {n : Nat} {xs : List Value} (h : a.ownsRow Bb E s v n xs) (hb : Below a.heap.size a b) : b.ownsRow Bb E s v n xs := h.kept (grown_none hb) (by cases v.ownBlock <;> simp)
end Go.Proofs.YthifeoebefbalaaGreatDoor

namespace Go.Proofs.YthifeoebefbalaaGreatDoor
open Go.RowKit

def intsC (l : List Int) : List Value := l.map (Value.int .i64)
theorem intsNil (w : World) (B : Nat) : w.ownsRow B 3 1 (.slice none 0 0) ([] : List Int).length (intsC []) := ⟨rfl, .inl ⟨rfl, rfl⟩⟩
theorem info3 : ∃ i, Tryz.prog.info? 3 = some i ∧ i.zero = some (.int .i64 0) ∧ i.size = 1 ∧ i.bytes = 8 := by
  have h : (Tryz.prog.info? 3).map (fun i => (i.zero, i.size, i.bytes)) = some (some (.int .i64 0), 1, 8) := by kernel_rfl
  cases hi : Tryz.prog.info? 3 with
  | none => rw [hi] at h; cases h
  | some i => rw [hi] at h; simp at h; exact ⟨i, rfl, h.1, h.2.1, h.2.2⟩
theorem int_new {w : World} {x : Value} {t : TypeId} : ∀ j u, [x][j]? = some u → (w.alloc (.cells #[x] t)).cell? ((⟨w.heap.size, 0, none⟩ : Addr).add j) = some u := cell_one_new w _ _
theorem int_cells (x : Int) : ∀ u ∈ [Value.int .i64 x], u.oneCell' = true := by intro u hu; simp at hu; subst hu; rfl
end Go.Proofs.YthifeoebefbalaaGreatDoor

namespace Go.Proofs.YthifeoebefbalaaGreatDoor
open Go.RowKit

def dailyB (st da : Int) (c : Card) : Bool := c.st == st && (c.da == da && c.dy == 1)
def dailiesR (l : List Card) (st da : Int) : List Card := l.filter (dailyB st da)
theorem dailies_step {l : List Card} {st da : Int} {i : Nat} {c : Card} (h : l[i]? = some c) : dailiesR (l.take (i + 1)) st da = dailiesR (l.take i) st da ++ (if dailyB st da c = true then [c] else []) := by
  rw [dailiesR, dailiesR, List.take_add_one, h, List.filter_append]
  congr 1
  cases hd : dailyB st da c <;> simp [hd]
theorem cards_snoc {W : World} {B : Nat} {v : Value} {l : List Card} {c : Card} (h : W.ownsRow B 24 6 v (l.length + 1) (flatC l ++ cardCells c)) : W.ownsRow B 24 6 v (l ++ [c]).length (flatC (l ++ [c])) := by
  rw [flatC_snoc]
  simpa using h
theorem dailies_len (l : List Card) (st da : Int) : (dailiesR l st da).length ≤ l.length := List.length_filter_le _ _
set_option maxRecDepth 100000 in
set_option maxHeartbeats 16000000 in
theorem c113 (l : List Card) (v : Value) (st da : Int) (w : World) (hcv : CardsV w v l) (hn : l.length ≤ 200) : Calls Tryz.prog 113 #[v, .int .i64 st, .int .i64 da] w fun e w' => ∃ v, e = .returned v ∧ w'.ownsRow w.heap.size 24 6 v (dailiesR l st da).length (flatC (dailiesR l st da)) ∧ Below w.heap.size w w' := by
  obtain ⟨inf, i1, i2, i3, i4⟩ := info24
  obtain ⟨a, cap, rfl, kk⟩ := hcv
  have KK := Lib.hid kk
  clear kk
  obtain ⟨n, hnl⟩ : ∃ n, l.length = n := ⟨_, rfl⟩
  rw [hnl] at hn ⊢
  have HN := Lib.hid hnl
  clear hnl
  go_enter Tryz.func113, Tryz.ntmps113
  go_wp2_with fail
  go_loopw [7, 8] (fun v k wr => ∃ (i : Nat) (out : List Card), i ≤ n ∧ out.length ≤ i ∧ k = .int .i64 i ∧ Hid (out = dailiesR (l.take i) st da) ∧ Hid (wr.ownsRow w.heap.size 24 6 v out.length (flatC out)) ∧ Hid (Below w.heap.size w wr)) (fun _ k _ => n - (intOf k).toNat)
  case atStart => exact ⟨0, [], by omega, by simp, rfl, Lib.hid rfl, Lib.hid (ownsNil _ _), Lib.hid (xr _)⟩
  case round =>
    obtain ⟨i, out, hi, hol, rfl, hout, hown, hb⟩ := hrel
    by_cases hlt : i < n
    · obtain ⟨c, hc⟩ : ∃ c, l[i]? = some c := by
        have := HN.out
        exact ⟨l[i]'(by omega), by simp⟩
      obtain ⟨b, o, rfl, hca⟩ := KK.out (fun e => by rw [e] at hc; cases hc)
      have hcs := (hca.below hb.out) i c hc
      have hstep := dailies_step (st := st) (da := da) hc
      obtain ⟨c1, c2, c3, c4, c5, c6⟩ := c
      obtain ⟨h0, h1, h2, h3, h4, h5⟩ := hcs
      simp only at h0 h1 h2 h3 h4 h5
      clear hca hc KK
      by_cases x1 : c1 = st
      · subst x1
        by_cases x2 : c2 = da
        · subst x2
          by_cases x3 : c3 = 1
          · subst x3
            have hH : Hid (out ++ [⟨c1, c2, 1, c4, c5, c6⟩] = dailiesR (l.take (i + 1)) c1 c2) := Lib.hid (by rw [hstep, if_pos (by simp [dailyB]), hout.out])
            clear hstep hout
            go_wp2_with (at_builtin; refine wpList_append_own _ rfl (.tmp 39) (.tmp 44) 49 rfl w.heap.size 24 inf _ 6 48 Tryz.underlying49 i1 i2 i3 i4 rfl (by decide) _ _ _ rfl (hown.out.alloc _) ⟨wr.heap.size, 0, none⟩ 1 1 (cardCells ⟨c1, c2, 1, c4, c5, c6⟩) rfl rfl (card_at _ _ _ _ _ _ fun j => by simp [go_sem]) (card_one _) (by simp only [maxLen]; omega) (by omega) (by have := hb.out.size; simp; omega) ?_; intro v1 w3 hown1 hgrow1 _; have hB1 := Lib.hid (own_belowN (xa hb.out _) (hown.out.alloc _) hgrow1); clear hgrow1)
            go_roundw
            case rel => exact ⟨i + 1, out ++ [⟨c1, c2, 1, c4, c5, c6⟩], by omega, by simp; omega, by go_num, hH, Lib.hid (cards_snoc hown1), hB1⟩
            case measure => simp [intOf]; omega
          · have x3' : (c3 == 1) = false := by simpa using x3
            have hH : Hid (out = dailiesR (l.take (i + 1)) c1 c2) := Lib.hid (by rw [hstep, if_neg (by simp [dailyB, x3]), List.append_nil, hout.out])
            clear hstep hout
            go_wp2_with fail
            go_roundw
            case rel => exact ⟨i + 1, out, by omega, by omega, by go_num, hH, hown, hb⟩
            case measure => simp [intOf]; omega
        · have x2' : (c2 == da) = false := by simpa using x2
          have hH : Hid (out = dailiesR (l.take (i + 1)) c1 da) := Lib.hid (by rw [hstep, if_neg (by simp [dailyB, x2]), List.append_nil, hout.out])
          clear hstep hout
          go_wp2_with fail
          go_roundw
          case rel => exact ⟨i + 1, out, by omega, by omega, by go_num, hH, hown, hb⟩
          case measure => simp [intOf]; omega
      · have x1' : (c1 == st) = false := by simpa using x1
        have hH : Hid (out = dailiesR (l.take (i + 1)) st da) := Lib.hid (by rw [hstep, if_neg (by simp [dailyB, x1]), List.append_nil, hout.out])
        clear hstep hout
        go_wp2_with fail
        go_roundw
        case rel => exact ⟨i + 1, out, by omega, by omega, by go_num, hH, hown, hb⟩
        case measure => simp [intOf]; omega
    · obtain rfl : i = n := by omega
      have he : out = dailiesR l st da := by rw [hout.out, List.take_of_length_le (by rw [HN.out]; omega)]
      subst he
      have HO := hown
      go_wp2_with fail
      go_ret
      exact ⟨_, rfl, HO.out, hb.out⟩
end Go.Proofs.YthifeoebefbalaaGreatDoor
