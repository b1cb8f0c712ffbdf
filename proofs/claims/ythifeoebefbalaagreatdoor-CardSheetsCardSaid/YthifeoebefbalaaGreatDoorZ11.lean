/- Read; what the statements say of reading. -/
import Derived.Test.YthifeoebefbalaaGreatDoorZ10
import Derived.Outline
import Derived.Test.YthifeoebefbalaaGreatDoorZ3
import Derived.Test.YthifeoebefbalaaGreatDoorZ5
import Derived.IntWalk
set_option linter.unusedVariables false
set_option linter.unusedSimpArgs false
namespace Go.Proofs.YthifeoebefbalaaGreatDoor
open Go.RowKit

/-- What a text comes to behind a card. -/
def lineR (text : List UInt8) (last : Card) : Rd := if 200 < text.length then .err 2 else readRs (wordsOf text) last
def rdC : Rd → Card
  | .got c => c
  | _ => zcard
def rdE : Rd → Int
  | .got _ => 0
  | .err x => x
  | .form => 7
theorem lineEnd_eq (v : Rd) : lineEnd v = .tuple #[cv (rdC v), .int .i64 (rdE v)] := by cases v <;> rfl
theorem c73 (text : List UInt8) (last : Card) (w : World) (hc : Cell0 w) : Calls Tryz.prog 73 #[strv text, cv last] w fun e w' => e = .returned (.tuple #[cv (rdC (lineR text last)), .int .i64 (rdE (lineR text last))]) ∧ Below w.heap.size w w' := by
  unfold lineR
  by_cases h : 200 < text.length
  · rw [if_pos h]; exact readLine_long text last w h
  · rw [if_neg h, ← lineEnd_eq]; exact readLine_short readRs readDoes text last w hc (by omega)
/-- A card stored whole into memory of the call's own. -/
theorem store6b {X : World} {b : Nat} {c0 : Card} (h : X.heap[b]? = some (cellsOf c0)) (v0 v1 v2 v3 v4 v5 : Int) :
    ∃ Y, (((((X.setCell ⟨b, 0, none⟩ (.int .i64 v0)).setCell ⟨b, 1, none⟩ (.int .i64 v1)).setCell ⟨b, 2, none⟩ (.int .i64 v2)).setCell ⟨b, 3, none⟩ (.int .i64 v3)).setCell ⟨b, 4, none⟩ (.int .i64 v4)).setCell ⟨b, 5, none⟩ (.int .i64 v5) = Y ∧
      Y.heap[b]? = some (cellsOf ⟨v0, v1, v2, v3, v4, v5⟩) ∧ (∀ (W : World), Below W.heap.size W X → W.heap.size ≤ b → Below W.heap.size W Y) ∧ (∀ k, k ≠ b → Y.heap[k]? = X.heap[k]?) ∧ Y.heap.size = X.heap.size := by
  have h0 := cells_set h 0 (.int .i64 v0)
  have h1 := cells_set h0 1 (.int .i64 v1)
  have h2 := cells_set h1 2 (.int .i64 v2)
  have h3 := cells_set h2 3 (.int .i64 v3)
  have h4 := cells_set h3 4 (.int .i64 v4)
  have h5 := cells_set h4 5 (.int .i64 v5)
  refine ⟨_, rfl, by rw [h5]; rfl, fun W hW hb => xs (xs (xs (xs (xs (xs hW hb _) hb _) hb _) hb _) hb _) hb _, fun k hk => ?_, by simp⟩
  rw [Below.heap_setCell _ ⟨b, 5, none⟩ _ k hk, Below.heap_setCell _ ⟨b, 4, none⟩ _ k hk, Below.heap_setCell _ ⟨b, 3, none⟩ _ k hk, Below.heap_setCell _ ⟨b, 2, none⟩ _ k hk, Below.heap_setCell _ ⟨b, 1, none⟩ _ k hk, Below.heap_setCell _ ⟨b, 0, none⟩ _ k hk]
/-- A variable of a card, just made. -/
theorem new_card {w W : World} {c : Card} (h : Below (w.alloc (.cells #[.int .i64 c.st, .int .i64 c.da, .int .i64 c.dy, .int .i64 c.ki, .int .i64 c.am, .int .i64 c.fi] 24)).heap.size (w.alloc (.cells #[.int .i64 c.st, .int .i64 c.da, .int .i64 c.dy, .int .i64 c.ki, .int .i64 c.am, .int .i64 c.fi] 24)) W) :
    W.heap[w.heap.size]? = some (cellsOf c) := (h.block _ (by simp)).trans (World.alloc_heap_new w _)
set_option maxHeartbeats 1000000 in
theorem c23 (text : List UInt8) (w : World) (hc : Cell0 w) : Calls Tryz.prog 23 #[strv text] w fun e w' => e = .returned (.tuple #[cv (rdC (lineR text zcard)), .int .i64 (rdE (lineR text zcard))]) ∧ Below w.heap.size w w' := by
  have H := fun (W : World) (hW : Cell0 W) => Lib.hid (c73 text zcard W hW)
  have HC := Lib.hid hc
  clear hc
  generalize rdC (lineR text zcard) = c at *
  generalize rdE (lineR text zcard) = x at *
  obtain ⟨st, da, dy, ki, am, fi⟩ := c
  unfold strv cv zcard at H
  unfold strv cv
  simp only at H ⊢
  go_enter Tryz.func23, Tryz.ntmps23
  go_wp2_with (go_at_call 73; refine (H _ (HC.out.below (below_alloc _ _) HC.out.lt)).out.mono ?_; rintro e w1 ⟨rfl, hb1⟩; have hblk := new_card (c := zcard) hb1; obtain ⟨t0, t1, t2, t3, t4, t5, tF, tL⟩ := cellsOf_at hblk; have hB := xa (xr w) (.cells #[.int .i64 0, .int .i64 0, .int .i64 0, .int .i64 0, .int .i64 0, .int .i64 0] 24))
  obtain ⟨Y, hY, hYb, hYg, -⟩ := store6b hblk st da dy ki am fi
  rw [hY]
  have hg := hYg w (hB.trans (hb1.mono (by simp))) (Nat.le_refl _)
  obtain ⟨y0, y1, y2, y3, y4, y5, yF, yL⟩ := cellsOf_at hYb
  clear hY hYb hYg
  exact bodyPost_ret (v := .tuple #[.agg #[.int .i64 st, .int .i64 da, .int .i64 dy, .int .i64 ki, .int .i64 am, .int .i64 fi], .int .i64 x]) (by simp [results, Tryz.results23, go_sem, y0, y1, y2, y3, y4, y5]) rfl ⟨rfl, hg⟩
end Go.Proofs.YthifeoebefbalaaGreatDoor

namespace Go.Proofs.YthifeoebefbalaaGreatDoor
open Go.RowKit

def readsB (v : Rd) (c : Card) (e : Int) : Bool := decide (rdC v = c) && decide (rdE v = e)
set_option maxHeartbeats 1000000 in
theorem c27 (text : List UInt8) (c : Card) (x : Int) (w : World) (hc : Cell0 w) : Calls Tryz.prog 27 #[strv text, cv c, .int .i64 x] w fun e w' => e = .returned (.bool (readsB (lineR text zcard) c x)) ∧ Below w.heap.size w w' := by
  have H := fun (W : World) (hW : Cell0 W) => Lib.hid (c23 text W hW)
  have HC := Lib.hid hc
  clear hc
  unfold readsB
  generalize rdC (lineR text zcard) = g at *
  generalize rdE (lineR text zcard) = u at *
  obtain ⟨st, da, dy, ki, am, fi⟩ := g
  obtain ⟨st2, da2, dy2, ki2, am2, fi2⟩ := c
  unfold strv cv at H
  unfold strv cv
  simp only at H ⊢
  go_enter Tryz.func27, Tryz.ntmps27
  go_wp2_with (go_at_call 23; refine (H _ (HC.out.below (below_alloc _ _) HC.out.lt)).out.mono ?_; rintro e w1 ⟨rfl, hb1⟩; have hblk := new_card (c := ⟨st2, da2, dy2, ki2, am2, fi2⟩) hb1; obtain ⟨t0, t1, t2, t3, t4, t5, tF, tL⟩ := cellsOf_at hblk; have hB := (xa (xr w) (.cells #[.int .i64 st2, .int .i64 da2, .int .i64 dy2, .int .i64 ki2, .int .i64 am2, .int .i64 fi2] 24)).trans (hb1.mono (by simp)))
  all_goals go_ret
  all_goals exact ⟨ret_bool (by first | (simp_all; done) | (simp_all; rfl)), by repeat (first | exact hB | apply xa)⟩
end Go.Proofs.YthifeoebefbalaaGreatDoor

namespace Go.Proofs.YthifeoebefbalaaGreatDoor
open Go.RowKit

def fitsB (c : Card) (s : Sp) : Bool := isCard c && decide (says c = s)
def spanOf (s : Sp) : Obj := .cells #[.int .i64 s.lo, .int .i64 s.hi] 33 (0, 0)
theorem span_at {w : World} {b : Nat} {s : Sp} (h : w.heap[b]? = some (spanOf s)) : w.cell? ⟨b, 0, none⟩ = some (.int .i64 s.lo) ∧ w.cell? ⟨b, 1, none⟩ = some (.int .i64 s.hi) ∧ b < w.heap.size := by
  unfold spanOf at h
  exact ⟨by simp [World.cell?, h], by simp [World.cell?, h], (Array.getElem?_eq_some_iff.1 h).1⟩
set_option maxRecDepth 100000 in
set_option maxHeartbeats 1000000 in
theorem c75_no (c : Card) (s : Sp) (b : Nat) (w : World) (_hb : w.heap[b]? = some (spanOf s)) (h : isCard c = false) : Calls Tryz.prog 75 #[cv c, .pointer (some ⟨b, 0, none⟩)] w fun e w' => e = .returned (.bool false) ∧ Below w.heap.size w w' := by
  have H := Lib.hid h
  clear h
  unfold cv
  obtain ⟨st, da, dy, ki, am, fi⟩ := c
  simp only
  go_enter Tryz.func75, Tryz.ntmps75
  go_wp2_with fail
  obtain ⟨W, hW⟩ : ∃ W, w.alloc (.cells #[.int .i64 st, .int .i64 da, .int .i64 dy, .int .i64 ki, .int .i64 am, .int .i64 fi] 24) = W := ⟨_, rfl⟩
  have hB := xa (xr w) (.cells #[.int .i64 st, .int .i64 da, .int .i64 dy, .int .i64 ki, .int .i64 am, .int .i64 fi] 24)
  have hblk : W.heap[w.heap.size]? = some (cellsOf ⟨st, da, dy, ki, am, fi⟩) := by rw [← hW]; exact World.alloc_heap_new w _
  obtain ⟨t0, t1, t2, t3, t4, t5, tF, tL⟩ := cellsOf_at hblk
  rw [hW] at hB ⊢
  clear hW hblk
  refine wp_region_gwn W (by kernel_rfl) (by kernel_rfl) (xr W) ?_
  repeat (go_big_quiet_step ((go_at_call 76; exact gw_call ((c76 st da dy ki am fi _).mono fun e w' h1 => (⟨by rw [h1.1, H.out], h1.2⟩ : e = .returned (.bool false) ∧ _)))))
  refine wpQuiet_nil ?_
  rintro _ ⟨x1, rfl⟩
  go_wp2
  go_ret
  exact ⟨rfl, hB.trans ((gw_below _ _).mono hB.size)⟩
set_option maxRecDepth 100000 in
set_option maxHeartbeats 1000000 in
theorem c75_yes (c : Card) (s : Sp) (b : Nat) (w : World) (hb : w.heap[b]? = some (spanOf s)) (h : isCard c = true) : Calls Tryz.prog 75 #[cv c, .pointer (some ⟨b, 0, none⟩)] w fun e w' => e = .returned (.bool (decide (says c = s))) ∧ Below w.heap.size w w' := by
  have H := Lib.hid h
  have H77 := fun W => Lib.hid (c77 c W h)
  clear h
  generalize says c = g at *
  unfold cv at H77
  unfold cv
  obtain ⟨st, da, dy, ki, am, fi⟩ := c
  obtain ⟨lo, hi⟩ := s
  obtain ⟨lo2, hi2⟩ := g
  simp only [spv] at H77 ⊢
  have hb' : (w.alloc (.cells #[.int .i64 st, .int .i64 da, .int .i64 dy, .int .i64 ki, .int .i64 am, .int .i64 fi] 24)).heap[b]? = some (spanOf ⟨lo, hi⟩) := (Below.heap_alloc w _ b (Array.getElem?_eq_some_iff.1 hb).1).trans hb
  obtain ⟨s0, s1, sL⟩ := span_at hb'
  clear hb
  go_enter Tryz.func75, Tryz.ntmps75
  go_wp2_with fail
  obtain ⟨W, hW⟩ : ∃ W, w.alloc (.cells #[.int .i64 st, .int .i64 da, .int .i64 dy, .int .i64 ki, .int .i64 am, .int .i64 fi] 24) = W := ⟨_, rfl⟩
  have hB := xa (xr w) (.cells #[.int .i64 st, .int .i64 da, .int .i64 dy, .int .i64 ki, .int .i64 am, .int .i64 fi] 24)
  have hblk : W.heap[w.heap.size]? = some (cellsOf ⟨st, da, dy, ki, am, fi⟩) := by rw [← hW]; exact World.alloc_heap_new w _
  obtain ⟨t0, t1, t2, t3, t4, t5, tF, tL⟩ := cellsOf_at hblk
  rw [hW] at hB s0 s1 sL ⊢
  clear hW hblk hb'
  refine wp_region_gwn W (by kernel_rfl) (by kernel_rfl) (xr W) ?_
  repeat (go_big_quiet_step ((first | (go_at_call 76; exact gw_call ((c76 st da dy ki am fi _).mono fun e w' h1 => (⟨by rw [h1.1, H.out], h1.2⟩ : e = .returned (.bool true) ∧ _))) | (go_at_call 77; exact gw_call ((H77 _).out)))))
  refine wpQuiet_step (fun K hK => ?_)
  go_simp
  refine ⟨.bool (decide (lo2 = lo) && decide (hi2 = hi)), fun a => by by_cases e1 : lo2 = lo <;> by_cases e2 : hi2 = hi <;> simp [e1, e2], hK _ ?_⟩
  clear hK K
  repeat (go_big_quiet_step (fail))
  refine wpQuiet_nil ?_
  rintro _ ⟨x1, rfl⟩
  go_wp2
  go_ret
  exact ⟨ret_bool (by simp), hB.trans ((gw_below _ _).mono hB.size)⟩
theorem c75 (c : Card) (s : Sp) (b : Nat) (w : World) (hb : w.heap[b]? = some (spanOf s)) : Calls Tryz.prog 75 #[cv c, .pointer (some ⟨b, 0, none⟩)] w fun e w' => e = .returned (.bool (fitsB c s)) ∧ Below w.heap.size w w' := by
  unfold fitsB
  cases h : isCard c with
  | true => rw [Bool.true_and]; exact c75_yes c s b w hb h
  | false => rw [Bool.false_and]; exact c75_no c s b w hb h
end Go.Proofs.YthifeoebefbalaaGreatDoor

namespace Go.Proofs.YthifeoebefbalaaGreatDoor
open Go.RowKit

def kindAt (i : Nat) : Int := if i = 0 then 3 else if i = 1 then 2 else 4
def kCard (st da dy : Int) (i : Nat) : Card := ⟨st, da, dy, kindAt i, 0, 0⟩
def fCard (st da dy : Int) (s : Sp) (i : Nat) : Card := ⟨st, da, dy, 1, s.hi - ((i : Int) + 1) / 2, (i : Int) + 1⟩
def writeR (st da dy : Int) (s : Sp) : Card × Int :=
  if s.lo < 0 ∨ s.hi < s.lo then (zcard, 1)
  else match (List.range 3).find? fun i => fitsB (kCard st da dy i) s with
    | some i => (kCard st da dy i, 0)
    | none => match (List.range 100).find? fun i => fitsB (fCard st da dy s i) s with
      | some i => (fCard st da dy s i, 0)
      | none => (zcard, 5)

set_option maxRecDepth 100000 in
set_option maxHeartbeats 4000000 in
theorem c25_arg (st da dy : Int) (s : Sp) (w : World) (h : s.lo < 0 ∨ s.hi < s.lo) : Calls Tryz.prog 25 #[.int .i64 st, .int .i64 da, .int .i64 dy, spv s] w fun e w' => e = .returned (.tuple #[cv zcard, .int .i64 1]) ∧ Below w.heap.size w w' := by
  obtain ⟨lo, hi⟩ := s
  simp only at h
  unfold spv cv zcard
  by_cases h0 : lo < 0
  all_goals
    go_enter Tryz.func25, Tryz.ntmps25
    go_wp2
    exact bodyPost_ret (v := .tuple #[cv zcard, .int .i64 1]) (by simp [results, Tryz.results25, go_sem, cv, zcard]) rfl ⟨rfl, by repeat (first | exact xr _ | apply xa)⟩

theorem c75' (st da dy ki am fi : Int) (s : Sp) (b : Nat) (w : World) (hb : w.heap[b]? = some (spanOf s)) : Calls Tryz.prog 75 #[.agg #[.int .i64 st, .int .i64 da, .int .i64 dy, .int .i64 ki, .int .i64 am, .int .i64 fi], .pointer (some ⟨b, 0, none⟩)] w fun e w' => e = .returned (.bool (fitsB ⟨st, da, dy, ki, am, fi⟩ s)) ∧ Below w.heap.size w w' := c75 ⟨st, da, dy, ki, am, fi⟩ s b w hb
theorem kind_at (k : Nat) (hk : k < 3) (w : World) : (Instr.index 109 (.agg #[.int .i64 3, .int .i64 2, .int .i64 4]) (.int .i64 (k : Int))).run Tryz.prog w = .ok (.int .i64 (kindAt k)) w := by
  obtain ⟨i0, hi, -, h2, -⟩ := info_parts A.info3
  refine run_index_arr Tryz.underlying109 Tryz.underlying3 rfl hi h2 _ k _ hk ?_ w
  match k with
  | 0 => rfl
  | 1 => rfl
  | 2 => rfl
  | k + 3 => omega
set_option maxRecDepth 100000 in
set_option maxHeartbeats 4000000 in
theorem c25 (st da dy : Int) (s : Sp) (w : World) (h : ¬ (s.lo < 0 ∨ s.hi < s.lo)) (hs : s.hi ≤ 9223372036854775807) : Calls Tryz.prog 25 #[.int .i64 st, .int .i64 da, .int .i64 dy, spv s] w fun e w' => e = .returned (.tuple #[cv (writeR st da dy s).1, .int .i64 (writeR st da dy s).2]) ∧ Below w.heap.size w w' := by
  obtain ⟨x, hx⟩ : ∃ x, writeR st da dy s = x := ⟨_, rfl⟩
  rw [hx]
  have HX := Lib.hid hx
  clear hx
  obtain ⟨lo, hi⟩ := s
  simp only at h hs
  have h0 : ¬ lo < 0 := by omega
  have h1 : ¬ hi < lo := by omega
  clear h
  unfold spv
  simp only
  go_enter Tryz.func25, Tryz.ntmps25
  go_wp2
  obtain ⟨W0, hW0⟩ : ∃ W0, (w.alloc (.cells #[.int .i64 lo, .int .i64 hi] 33)).alloc (.cells #[.int .i64 0, .int .i64 0, .int .i64 0, .int .i64 0, .int .i64 0, .int .i64 0] 24) = W0 := ⟨_, rfl⟩
  have hB0 : Below w.heap.size w W0 := by rw [← hW0]; exact xa (xa (xr _) _) _
  have hbox : W0.heap[w.heap.size]? = some (spanOf ⟨lo, hi⟩) := by rw [← hW0, Below.heap_alloc _ _ w.heap.size (by simp)]; exact World.alloc_heap_new w _
  have hres : W0.heap[w.heap.size + 1]? = some (cellsOf zcard) := by
    rw [← hW0]
    have := World.alloc_heap_new (w.alloc (.cells #[.int .i64 lo, .int .i64 hi] 33)) (.cells #[.int .i64 0, .int .i64 0, .int .i64 0, .int .i64 0, .int .i64 0, .int .i64 0] 24 (0, 0))
    simpa [cellsOf, zcard] using this
  have hsz : W0.heap.size = w.heap.size + 2 := by rw [← hW0]; simp
  rw [hW0]
  have HBOX := Lib.hid hbox
  have HRES := Lib.hid hres
  clear hW0 hbox hres
  go_loopw [29] (fun i wr => ∃ k : Nat, k ≤ 3 ∧ i = .int .i64 k ∧ Hid (∀ j, j < k → fitsB (kCard st da dy j) ⟨lo, hi⟩ = false) ∧ Below W0.heap.size W0 wr) (fun i _ => 3 - (intOf i).toNat)
  case atStart => exact ⟨0, by omega, rfl, Lib.hid fun j hj => by omega, xr _⟩
  case round =>
    obtain ⟨k, hk, rfl, hno, hbr⟩ := hrel
    have hX : ∀ X, Below wr.heap.size wr X → X.heap[w.heap.size]? = some (spanOf ⟨lo, hi⟩) ∧ X.heap[w.heap.size + 1]? = some (cellsOf zcard) := fun X hX => by
      have h2 := hbr.trans (hX.mono hbr.size)
      exact ⟨(h2.block _ (by omega)).trans HBOX.out, (h2.block _ (by omega)).trans HRES.out⟩
    have HXX := Lib.hid hX
    clear hX
    by_cases hlt : k < 3
    · have hidx := kind_at k hlt
      have HF : Hid (kCard st da dy k = ⟨st, da, dy, kindAt k, 0, 0⟩) := Lib.hid rfl
      generalize kindAt k = kk at *
      cases hf : fitsB (kCard st da dy k) ⟨lo, hi⟩ with
      | true =>
        rw [HF.out] at hf
        have HT := Lib.hid hf
        clear hf
        go_wp2_with (go_at_call 75; refine (c75' st da dy kk 0 0 ⟨lo, hi⟩ w.heap.size _ (HXX.out _ (below_alloc _ _)).1).mono ?_; rw [HT.out]; rintro e w1 ⟨rfl, hb1⟩; have hblk := new_card (c := ⟨st, da, dy, kk, 0, 0⟩) hb1; obtain ⟨t0, t1, t2, t3, t4, t5, tF, tL⟩ := cellsOf_at hblk; have hb2 : Below wr.heap.size wr w1 := (below_alloc _ _).trans (hb1.mono (by simp)); have hr := (HXX.out _ hb2).2; obtain ⟨u0, u1, u2, u3, u4, u5, uF, uL⟩ := cellsOf_at hr)
        obtain ⟨Y, hY, hYb, hYg, -⟩ := store6b hr st da dy kk 0 0
        rw [hY]
        have hg := hYg w (hB0.trans ((hbr.trans (hb2.mono hbr.size)).mono hB0.size)) (by omega)
        obtain ⟨y0, y1, y2, y3, y4, y5, yF, yL⟩ := cellsOf_at hYb
        have hfin : x = (⟨st, da, dy, kk, 0, 0⟩, 0) := by
          rw [← HX.out, writeR, if_neg (by simp only; omega), find_range _ k 3 hno.out (by rw [HF.out]; exact HT.out) hlt, ← HF.out]
        clear hY hYb hYg hb1 hb2 hblk hr
        rw [hfin]
        exact bodyPost_ret (v := .tuple #[cv ⟨st, da, dy, kk, 0, 0⟩, .int .i64 0]) (by simp [results, Tryz.results25, go_sem, cv, y0, y1, y2, y3, y4, y5]) rfl ⟨rfl, hg⟩
      | false =>
        rw [HF.out] at hf
        have HT := Lib.hid hf
        clear hf
        go_wp2_with (go_at_call 75; refine (c75' st da dy kk 0 0 ⟨lo, hi⟩ w.heap.size _ (HXX.out _ (below_alloc _ _)).1).mono ?_; rw [HT.out]; rintro e w1 ⟨rfl, hb1⟩)
        go_roundw
        case rel => exact ⟨k + 1, by omega, by go_num, Lib.hid fun j hj => by
          by_cases e : j = k
          · subst e; rw [HF.out]; exact HT.out
          · exact hno.out j (by omega), hbr.trans (((below_alloc _ _).trans (hb1.mono (by simp))).mono hbr.size)⟩
        case measure => simp [intOf]; omega
    · obtain rfl : k = 3 := by omega
      have HN := Lib.hid (find_none (fun i => fitsB (kCard st da dy i) ⟨lo, hi⟩) 3 (fun j hj => hno.out j hj))
      clear hno HXX
      go_wp2
      have HWO := Lib.hid hbr
      clear hbr
      obtain ⟨wo, rfl⟩ : ∃ wo : World, wo = wr := ⟨_, rfl⟩
      go_loopw [14] (fun f wr => ∃ k : Nat, k ≤ 100 ∧ f = .int .i64 ((k : Int) + 1) ∧ Hid (∀ j, j < k → fitsB (fCard st da dy ⟨lo, hi⟩ j) ⟨lo, hi⟩ = false) ∧ Below W0.heap.size W0 wr) (fun f _ => 101 - (intOf f).toNat)
      case atStart => exact ⟨0, by omega, rfl, Lib.hid fun j hj => by omega, HWO.out⟩
      case round =>
        obtain ⟨k, hk, rfl, hno, hbr⟩ := hrel
        clear HWO
        have hX : ∀ X, Below wr.heap.size wr X → X.heap[w.heap.size]? = some (spanOf ⟨lo, hi⟩) ∧ X.heap[w.heap.size + 1]? = some (cellsOf zcard) := fun X hX => by
          have h2 := hbr.trans (hX.mono hbr.size)
          exact ⟨(h2.block _ (by omega)).trans HBOX.out, (h2.block _ (by omega)).trans HRES.out⟩
        have hz : w.heap.size < wr.heap.size := by have := hbr.size; omega
        obtain ⟨s0, s1, sL⟩ := span_at (hX wr (xr _)).1
        have HXX := Lib.hid hX
        clear hX
        by_cases hlt : k < 100
        · have HF : Hid (fCard st da dy ⟨lo, hi⟩ k = ⟨st, da, dy, 1, hi - ((k : Int) + 1) / 2, (k : Int) + 1⟩) := Lib.hid rfl
          cases hf : fitsB (fCard st da dy ⟨lo, hi⟩ k) ⟨lo, hi⟩ with
          | true =>
            rw [HF.out] at hf
            have HT := Lib.hid hf
            clear hf
            go_wp2_with (go_at_call 75; refine (c75' st da dy 1 (hi - ((k : Int) + 1) / 2) ((k : Int) + 1) ⟨lo, hi⟩ w.heap.size _ (HXX.out _ (below_alloc _ _)).1).mono ?_; rw [HT.out]; rintro e w1 ⟨rfl, hb1⟩; have hblk := new_card (c := ⟨st, da, dy, 1, hi - ((k : Int) + 1) / 2, (k : Int) + 1⟩) hb1; obtain ⟨t0, t1, t2, t3, t4, t5, tF, tL⟩ := cellsOf_at hblk; have hb2 : Below wr.heap.size wr w1 := (below_alloc _ _).trans (hb1.mono (by simp)); have hr := (HXX.out _ hb2).2; obtain ⟨u0, u1, u2, u3, u4, u5, uF, uL⟩ := cellsOf_at hr)
            obtain ⟨Y, hY, hYb, hYg, -⟩ := store6b hr st da dy 1 (hi - ((k : Int) + 1) / 2) ((k : Int) + 1)
            rw [hY]
            have hg := hYg w (hB0.trans ((hbr.trans (hb2.mono hbr.size)).mono hB0.size)) (by omega)
            obtain ⟨y0, y1, y2, y3, y4, y5, yF, yL⟩ := cellsOf_at hYb
            have hfin : x = (⟨st, da, dy, 1, hi - ((k : Int) + 1) / 2, (k : Int) + 1⟩, 0) := by
              rw [← HX.out, writeR, if_neg (by simp only; omega), HN.out]
              simp only
              rw [find_range _ k 100 hno.out (by rw [HF.out]; exact HT.out) hlt, ← HF.out]
            clear hY hYb hYg hb1 hb2 hblk hr
            rw [hfin]
            exact bodyPost_ret (v := .tuple #[cv ⟨st, da, dy, 1, hi - ((k : Int) + 1) / 2, (k : Int) + 1⟩, .int .i64 0]) (by simp [results, Tryz.results25, go_sem, cv, y0, y1, y2, y3, y4, y5]) rfl ⟨rfl, hg⟩
          | false =>
            rw [HF.out] at hf
            have HT := Lib.hid hf
            clear hf
            go_wp2_with (go_at_call 75; refine (c75' st da dy 1 (hi - ((k : Int) + 1) / 2) ((k : Int) + 1) ⟨lo, hi⟩ w.heap.size _ (HXX.out _ (below_alloc _ _)).1).mono ?_; rw [HT.out]; rintro e w1 ⟨rfl, hb1⟩)
            go_roundw
            case rel =>
              have hno2 : ∀ j, j < k + 1 → fitsB (fCard st da dy ⟨lo, hi⟩ j) ⟨lo, hi⟩ = false := fun j hj => by
                by_cases e : j = k
                · subst e; rw [HF.out]; exact HT.out
                · exact hno.out j (by omega)
              have hb3 := hbr.trans (((below_alloc _ _).trans (hb1.mono (by simp))).mono hbr.size)
              repeat apply Exists.intro
              exact ⟨⟨k + 1, by omega, by go_num, Lib.hid hno2, hb3⟩, rfl⟩
            case measure => simp [intOf]; omega
        · obtain rfl : k = 100 := by omega
          have HM := Lib.hid (find_none (fun i => fitsB (fCard st da dy ⟨lo, hi⟩ i) ⟨lo, hi⟩) 100 (fun j hj => hno.out j hj))
          have hr := (HXX.out _ (xr _)).2
          obtain ⟨u0, u1, u2, u3, u4, u5, uF, uL⟩ := cellsOf_at hr
          go_wp2
          obtain ⟨Y, hY, hYb, hYg, -⟩ := store6b hr 0 0 0 0 0 0
          rw [hY]
          have hg := hYg w (hB0.trans (hbr.mono hB0.size)) (by omega)
          obtain ⟨y0, y1, y2, y3, y4, y5, yF, yL⟩ := cellsOf_at hYb
          have hfin : x = (zcard, 5) := by
            rw [← HX.out, writeR, if_neg (by simp only; omega), HN.out]
            simp only
            rw [HM.out]
          clear hY hYb hYg hr
          rw [hfin]
          exact bodyPost_ret (v := .tuple #[cv zcard, .int .i64 5]) (by simp [results, Tryz.results25, go_sem, cv, zcard, y0, y1, y2, y3, y4, y5]) rfl ⟨rfl, hg⟩
end Go.Proofs.YthifeoebefbalaaGreatDoor
