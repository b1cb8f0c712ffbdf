/- Parts: Z12, R8, V1, V2, Z14, R9, R10, V14. -/
import Derived.Test.YthifeoebefbalaaGreatDoorCR9
import Derived.Test.YthifeoebefbalaaGreatDoorCR5
import Derived.Test.YthifeoebefbalaaGreatDoorCR3
import Derived.Test.YthifeoebefbalaaGreatDoorCR4
import Derived.Test.YthifeoebefbalaaGreatDoorCR6
import Derived.Outline
import Derived.Test.YthifeoebefbalaaGreatDoorCR1
import Derived.Test.YthifeoebefbalaaGreatDoorCR2
import Derived.Test.YthifeoebefbalaaGreatDoorCR7
import Derived.Test.YthifeoebefbalaaGreatDoorCR8
set_option linter.unusedVariables false
set_option linter.unusedSimpArgs false
set_option linter.unnecessarySimpa false
namespace Go.Proofs.YthifeoebefbalaaGreatDoor
open Go.RowKit

def gapsL : List UInt8 := [32, 9, 59]
theorem gapsL_contains (c : UInt8) : gapsL.contains c = gapU c := by
  unfold gapsL gapU
  simp only [List.contains_cons, List.contains_nil, Bool.or_false, Bool.or_assoc]
theorem trim_gaps (l : List UInt8) : Lib.trimS l gapsL = [] ↔ l.all gapU = true := by
  have e : (fun c => gapsL.contains c) = gapU := funext gapsL_contains
  unfold Lib.trimS Lib.trimLeftS Lib.trimRightS
  rw [e, dropWhile_nil]
  have h2 : ∀ m : List UInt8, ((m.dropWhile gapU).all gapU = true) ↔ m.all gapU = true := by
    intro m
    induction m with
    | nil => simp
    | cons c m ih => cases h : gapU c <;> simp [List.dropWhile, h, ih]
  rw [List.all_reverse, h2, List.all_reverse]
theorem trim_blank (l : List UInt8) : (Lib.trimS l gapsL).isEmpty = l.all gapU := by
  rw [Bool.eq_iff_iff, List.isEmpty_iff, trim_gaps]
theorem c84g (l : List UInt8) (hl : l.length ≤ 4000) (w : World) : Calls Tryz.prog 84 #[.string ⟨l.toArray⟩, .string ⟨#[32, 9, 59]⟩] w fun e w' => e = .returned (.string ⟨(Lib.trimS l gapsL).toArray⟩) ∧ Below w.heap.size w w' := by
  have := Any.strings_Trim_laid Tryz.lays160 (by kernel_rfl) ⟨l.toArray⟩ ⟨#[32, 9, 59]⟩ w (by simp [ByteArray.size]; omega) (by decide) (ascii_of_all (by decide))
  exact this
theorem c83w (l p : List UInt8) (hl : l.length ≤ 4000) (w : World) : Calls Tryz.prog 83 #[.string ⟨l.toArray⟩, .string ⟨p.toArray⟩] w fun e w' => e = .returned (.string ⟨(Lib.trimSuffix l p).toArray⟩) ∧ w = w' :=
  (Tryz.strings_TrimSuffix ⟨l.toArray⟩ ⟨p.toArray⟩ w (by simp [ByteArray.size]; omega)).mono fun _ _ h => ⟨h.1, h.2.symm⟩

/-- The lines of a sheet. -/
def linesOf (text : List UInt8) : List (List UInt8) := if text.isEmpty = true then [] else splitL 10 (Lib.trimSuffix text [10])
/-- What a sheet's lines come to, from line i on, behind the cards out, the last of which is last. -/
def sheetFrom : List (List UInt8) → Int → List Card → Card → List Card × Int × Int
  | [], _, out, _ => (out, 0, -1)
  | s :: ls, i, out, last =>
    if s.all gapU = true then sheetFrom ls (i + 1) out last
    else if rdE (lineR s last) = 0 then sheetFrom ls (i + 1) (out ++ [rdC (lineR s last)]) (rdC (lineR s last))
    else ([], rdE (lineR s last), i)
def sheetR (text : List UInt8) : List Card × Int × Int := if 100 < (linesOf text).length then ([], 2, -1) else sheetFrom (linesOf text) 0 [] zcard
def cardCells (c : Card) : List Value := [.int .i64 c.st, .int .i64 c.da, .int .i64 c.dy, .int .i64 c.ki, .int .i64 c.am, .int .i64 c.fi]
def flatC (l : List Card) : List Value := l.flatMap cardCells
theorem flatC_len (l : List Card) : (flatC l).length = l.length * 6 := by
  induction l with
  | nil => rfl
  | cons c l ih => simp [flatC, cardCells] at ih ⊢; omega
theorem flatC_snoc (l : List Card) (c : Card) : flatC (l ++ [c]) = flatC l ++ cardCells c := by simp [flatC]
theorem info24 : ∃ i, Tryz.prog.info? 24 = some i ∧ i.zero = some (cv zcard) ∧ i.size = 6 ∧ i.bytes = 48 := by
  have h : (Tryz.prog.info? 24).map (fun i => (i.zero, i.size, i.bytes)) = some (some (cv zcard), 6, 48) := by kernel_rfl
  cases hi : Tryz.prog.info? 24 with
  | none => rw [hi] at h; cases h
  | some i => rw [hi] at h; simp at h; exact ⟨i, rfl, h.1, h.2.1, h.2.2⟩
end Go.Proofs.YthifeoebefbalaaGreatDoor

namespace Go.Proofs.YthifeoebefbalaaGreatDoor
open Go.RowKit

/-- A list of cards that the call made. -/
def sheetEnd (w : World) (r : List Card × Int × Int) (e : Ending) (w' : World) : Prop :=
  ∃ v, e = .returned (.tuple #[v, .int .i64 r.2.1, .int .i64 r.2.2]) ∧ w'.ownsRow w.heap.size 24 6 v r.1.length (flatC r.1) ∧ Below w.heap.size w w'
theorem ownsNil (w : World) (B : Nat) : w.ownsRow B 24 6 (.slice none 0 0) ([] : List Card).length (flatC []) := ⟨rfl, .inl ⟨rfl, rfl⟩⟩

set_option maxRecDepth 100000 in
set_option maxHeartbeats 4000000 in
theorem c33_nil (w : World) (h0 : Cell0 w) : Calls Tryz.prog 33 #[strv []] w fun e w' => sheetEnd w (sheetR []) e w' := by
  obtain ⟨m, hm⟩ := h0
  have HM := Lib.hid hm
  clear hm
  unfold strv
  go_enter Tryz.func33, Tryz.ntmps33
  go_wp2_with (first
    | (go_at_call 83; refine (c83w [] [10] (by simp) _).mono ?_; rintro e w1 ⟨rfl, rfl⟩)
    | (go_at_call 82; refine (c82 [] 10 m (by simp) _ HM.out).mono ?_; rintro e w1 ⟨rfl, rfl⟩))
  refine wp_loop_rounds 1 ?_
  rw [rounds_succ]
  go_wp2
  go_ret3
  exact ⟨_, rfl, ownsNil _ _, by repeat (first | exact xr _ | apply xa)⟩

set_option maxRecDepth 100000 in
set_option maxHeartbeats 4000000 in
theorem c33_many (text : List UInt8) (w : World) (h0 : Cell0 w) (hl : text.length ≤ 4000) (hne : text ≠ []) (hn : 100 < (linesOf text).length) : Calls Tryz.prog 33 #[strv text] w fun e w' => sheetEnd w ([], 2, -1) e w' := by
  obtain ⟨m, hm⟩ := h0
  have HM := Lib.hid hm
  have hlen := trimSuffix_len text [10]
  have he : linesOf text = splitL 10 (Lib.trimSuffix text [10]) := by rw [linesOf, if_neg (by simpa using hne)]
  rw [he] at hn
  have hne' : text.isEmpty = false := by simpa using hne
  clear hm he hne
  unfold strv
  go_enter Tryz.func33, Tryz.ntmps33
  go_wp2_with (first
    | (go_at_call 83; refine (c83w text [10] hl _).mono ?_; rintro e w1 ⟨rfl, rfl⟩)
    | (go_at_call 82; refine (c82 (Lib.trimSuffix text [10]) 10 m (by omega) _ HM.out).mono ?_; rintro e w1 ⟨rfl, rfl⟩; generalize splitL 10 (Lib.trimSuffix text [10]) = ls at *))
  go_ret3
  exact ⟨_, rfl, ownsNil _ _, by repeat (first | exact xr _ | apply xa)⟩

theorem ownsRow_base {X : World} {B B' : Nat} {e : TypeId} {size : Nat} {v : Value} {n : Nat} {xs : List Value} (h : X.ownsRow B e size v n xs) (hb : B' ≤ B) : X.ownsRow B' e size v n xs := by
  obtain ⟨h1, h2⟩ := h
  refine ⟨h1, ?_⟩
  rcases h2 with h2 | ⟨g, cap, cur, e1, e2, e3⟩
  · exact .inl h2
  · exact .inr ⟨g, cap, cur, e1, Nat.le_trans hb e2, e3⟩
theorem store6g {X : World} {b : Nat} {c0 : Card} (h : X.heap[b]? = some (cellsOf c0)) (v0 v1 v2 v3 v4 v5 : Int) :
    ∃ Y, (((((X.setCell ⟨b, 0, none⟩ (.int .i64 v0)).setCell ⟨b, 1, none⟩ (.int .i64 v1)).setCell ⟨b, 2, none⟩ (.int .i64 v2)).setCell ⟨b, 3, none⟩ (.int .i64 v3)).setCell ⟨b, 4, none⟩ (.int .i64 v4)).setCell ⟨b, 5, none⟩ (.int .i64 v5) = Y ∧
      Y.heap[b]? = some (cellsOf ⟨v0, v1, v2, v3, v4, v5⟩) ∧ X.grownBy Y (some b) := by
  obtain ⟨Y, hY, hYb, -⟩ := store6b h v0 v1 v2 v3 v4 v5
  refine ⟨Y, hY, hYb, ?_⟩
  rw [← hY]
  exact (((((grownBy_setAny _ _ _ _).trans (grownBy_setAny _ _ _ _)).trans (grownBy_setAny _ _ _ _)).trans (grownBy_setAny _ _ _ _)).trans (grownBy_setAny _ _ _ _)).trans (grownBy_setAny _ _ _ _)

/-- Where the loop over a sheet's lines stands. -/
structure ShSt (w W0 X : World) (bL : Nat) (v : Value) (out : List Card) (last : Card) : Prop where
  own : X.ownsRow W0.heap.size 24 6 v out.length (flatC out)
  bl : X.heap[bL]? = some (cellsOf last)
  gr : W0.grownBy X (some bL)
  w0 : Below w.heap.size w W0
  lt : bL < W0.heap.size
  ge : w.heap.size ≤ bL
theorem ShSt.grown {w W0 X Y : World} {bL : Nat} {v : Value} {out : List Card} {last : Card} (h : ShSt w W0 X bL v out last) (hb : Below X.heap.size X Y) : ShSt w W0 Y bL v out last :=
  ⟨h.own.kept (grown_none hb) (by cases v.ownBlock <;> simp), (hb.block _ (Array.getElem?_eq_some_iff.1 h.bl).1).trans h.bl, h.gr.trans (Grown.by hb _), h.w0, h.lt, h.ge⟩
theorem ShSt.below {w W0 X : World} {bL : Nat} {v : Value} {out : List Card} {last : Card} (h : ShSt w W0 X bL v out last) : Below w.heap.size w X :=
  ⟨h.gr.os.trans h.w0.os, h.gr.tape.trans h.w0.tape, h.gr.output.trans h.w0.output, Nat.le_trans h.w0.size h.gr.size, fun k hk => (h.gr.block k (Nat.lt_of_lt_of_le hk h.w0.size) (by have := h.ge; simp; omega)).trans (h.w0.block k hk)⟩
theorem ShSt.cell {w W0 X : World} {bL : Nat} {v : Value} {out : List Card} {last : Card} (h : ShSt w W0 X bL v out last) {k i : Nat} {u : Value} (hu : W0.cell? ⟨k, i, none⟩ = some u) (hk : k ≠ bL) : X.cell? ⟨k, i, none⟩ = some u := by
  rw [World.cell?_of_block (h.gr.block k (World.block_lt_of_cell? W0 _ hu) (by simp; omega)), hu]

theorem card_one (c : Card) : ∀ u ∈ cardCells c, u.oneCell' = true := fun u hu => by
  simp only [cardCells, List.mem_cons, List.not_mem_nil, or_false] at hu
  rcases hu with rfl | rfl | rfl | rfl | rfl | rfl <;> rfl
theorem card_at {V : World} {b : Nat} (st da dy ki am fi : Int) (h : ∀ i, V.cell? ⟨b, i, none⟩ = #[Value.int .i64 st, .int .i64 da, .int .i64 dy, .int .i64 ki, .int .i64 am, .int .i64 fi][i]?) : ∀ j u, (cardCells ⟨st, da, dy, ki, am, fi⟩)[j]? = some u → V.cell? ((⟨b, 0, none⟩ : Addr).add j) = some u := fun j u hj => by
  have h1 : (⟨b, 0, none⟩ : Addr).add j = ⟨b, j, none⟩ := by unfold Addr.add; simp; intro e; exact e.symm
  rw [h1, h j]
  simpa [cardCells] using hj
/-- Behind an append to the cards. -/
theorem ShSt.appended {w W0 X Y : World} {bL : Nat} {v v' : Value} {out : List Card} {last c : Card} (h : ShSt w W0 X bL v out last) (hown : Y.ownsRow W0.heap.size 24 6 v' (out.length + 1) (flatC out ++ cardCells c)) (hg : X.grownBy Y v.ownBlock) : ShSt w W0 Y bL v' (out ++ [c]) last := by
  have hv : ∀ q, v.ownBlock = some q → W0.heap.size ≤ q := fun q hq => (h.own.lt q hq).1
  refine ⟨?_, ?_, ⟨hg.os.trans h.gr.os, hg.tape.trans h.gr.tape, hg.output.trans h.gr.output, Nat.le_trans h.gr.size hg.size, fun k hk he => ?_⟩, h.w0, h.lt, h.ge⟩
  · rw [flatC_snoc, List.length_append]; exact hown
  · exact (hg.block _ (Array.getElem?_eq_some_iff.1 h.bl).1 (fun e => by have := hv _ e.symm; have := h.lt; omega)).trans h.bl
  · exact (hg.block k (Nat.lt_of_lt_of_le hk h.gr.size) (fun e => by have := hv _ e.symm; omega)).trans (h.gr.block k hk he)
/-- Behind a store of the card before. -/
theorem ShSt.stored {w W0 X Y : World} {bL : Nat} {v : Value} {out : List Card} {last c : Card} (h : ShSt w W0 X bL v out last) (hb : Y.heap[bL]? = some (cellsOf c)) (hg : X.grownBy Y (some bL)) : ShSt w W0 Y bL v out c :=
  ⟨h.own.kept hg (.inr fun e => by have := (h.own.lt bL e).1; have := h.lt; omega), hb, h.gr.trans hg, h.w0, h.lt, h.ge⟩

set_option maxRecDepth 100000 in
set_option maxHeartbeats 4000000 in
theorem c33_main (text : List UInt8) (w : World) (h0 : Cell0 w) (hl : text.length ≤ 4000) (hne : text ≠ []) (hn : ¬ 100 < (linesOf text).length) : Calls Tryz.prog 33 #[strv text] w fun e w' => sheetEnd w (sheetFrom (linesOf text) 0 [] zcard) e w' := by
  have hw0 := h0.lt
  obtain ⟨m, hm⟩ := h0
  have HM := Lib.hid hm
  have hlen := trimSuffix_len text [10]
  have he : linesOf text = splitL 10 (Lib.trimSuffix text [10]) := by rw [linesOf, if_neg (by simpa using hne)]
  rw [he] at hn ⊢
  have hmem := splitL_mem 10 (Lib.trimSuffix text [10])
  have hne' : text.isEmpty = false := by simpa using hne
  clear he hne hm
  obtain ⟨R, hR⟩ : ∃ R, sheetFrom (splitL 10 (Lib.trimSuffix text [10])) 0 [] zcard = R := ⟨_, rfl⟩
  rw [hR]
  have HR := Lib.hid hR
  have HMEM := Lib.hid (fun p hp => Nat.le_trans (hmem p hp) (Nat.le_trans hlen hl) : ∀ p ∈ splitL 10 (Lib.trimSuffix text [10]), p.length ≤ 4000)
  clear hR hmem
  unfold strv
  go_enter Tryz.func33, Tryz.ntmps33
  go_wp2_with (first
    | (go_at_call 83; refine (c83w text [10] hl _).mono ?_; rintro e w1 ⟨rfl, rfl⟩)
    | (go_at_call 82; refine (c82 (Lib.trimSuffix text [10]) 10 m (by omega) _ HM.out).mono ?_; rintro e w1 ⟨rfl, rfl⟩; generalize splitL 10 (Lib.trimSuffix text [10]) = ls at *))
  obtain ⟨n, hnl⟩ : ∃ n, ls.length = n := ⟨_, rfl⟩
  rw [hnl] at hn ⊢
  have HN := Lib.hid hnl
  obtain ⟨W0, hW0⟩ : ∃ W0, (w.alloc (.cells (ls.map strv).toArray 9)).alloc (.cells #[.int .i64 0, .int .i64 0, .int .i64 0, .int .i64 0, .int .i64 0, .int .i64 0] 24) = W0 := ⟨_, rfl⟩
  have hB0 : Below w.heap.size w W0 := by rw [← hW0]; exact xa (xa (xr _) _) _
  have hlast : W0.heap[w.heap.size + 1]? = some (cellsOf zcard) := by
    rw [← hW0]
    have := World.alloc_heap_new (w.alloc (.cells (ls.map strv).toArray 9)) (.cells #[.int .i64 0, .int .i64 0, .int .i64 0, .int .i64 0, .int .i64 0, .int .i64 0] 24 (0, 0))
    simpa [cellsOf, zcard] using this
  have hsz : W0.heap.size = w.heap.size + 2 := by rw [← hW0]; simp
  have hcell : ∀ i s, ls[i]? = some s → W0.cell? ⟨w.heap.size, i, none⟩ = some (.string ⟨s.toArray⟩) := fun i s hi => by
    have h1 : (w.alloc (.cells (ls.map strv).toArray 9)).cell? ⟨w.heap.size, i, none⟩ = some (.string ⟨s.toArray⟩) := by
      rw [cell_of_row _ w.heap.size i _ 9 (0, 0) (heap_alloc_new _ _)]
      simp [hi, strv]
    rw [← hW0, (below_alloc _ _).cell (p := ⟨w.heap.size, i, none⟩) (World.block_lt_of_cell? _ _ h1), h1]
  have hst : ShSt w W0 W0 (w.heap.size + 1) (.slice none 0 0) [] zcard := ⟨ownsNil _ _, hlast, Grown.by (xr _) _, hB0, by omega, by omega⟩
  have HC0 : Hid (Cell0 W0) := Lib.hid (Cell0.below ⟨m, HM.out⟩ hB0 hw0)
  rw [hW0]
  have HCELL := Lib.hid hcell
  have HST := Lib.hid hst
  clear hW0 hB0 hlast hcell hst hnl HM
  go_loopw [6, 22] (fun v i wr => ∃ (k : Nat) (out : List Card) (last : Card), k ≤ n ∧ out.length ≤ k ∧ i = .int .i64 k ∧ Hid (ShSt w W0 wr (w.heap.size + 1) v out last) ∧ Hid (sheetFrom (ls.drop k) k out last = R)) (fun _ i _ => n - (intOf i).toNat)
  case atStart => exact ⟨0, [], zcard, by omega, by simp, rfl, HST, Lib.hid (by rw [List.drop_zero]; exact HR.out)⟩
  case round =>
    obtain ⟨k, out, last, hk, hol, rfl, hs, hr⟩ := hrel
    clear HST
    by_cases hlt : k < n
    · obtain ⟨s, hsk⟩ : ∃ s, ls[k]? = some s := ⟨ls[k]'(by have := HN.out; omega), by simp⟩
      have hdrop : ls.drop k = s :: ls.drop (k + 1) := by
        have h1 : k < ls.length := by have := HN.out; omega
        rw [List.drop_eq_getElem_cons h1]
        congr
        rw [List.getElem?_eq_getElem h1] at hsk
        injection hsk
      have hr2 := hr.out
      rw [hdrop, sheetFrom] at hr2
      have hslen := HMEM.out s (List.mem_of_getElem? hsk)
      have hc := hs.out.cell (HCELL.out k s hsk) (by omega)
      have hlb := hs.out.bl
      obtain ⟨g0, g1, g2, g3, g4, g5, gF, gL⟩ := cellsOf_at hlb
      have HC := Lib.hid ((HC0.out).grownBy hs.out.gr (by omega))
      clear hdrop hsk hr hlb
      cases hb : s.all gapU with
      | true =>
        rw [if_pos hb] at hr2
        have HR2 := Lib.hid hr2
        have HB : Hid ((Lib.trimS s gapsL).isEmpty = true) := Lib.hid (by rw [trim_blank, hb])
        clear hr2 hb
        go_wp2_with (first
          | (go_at_call 84; refine (c84g s hslen _).mono ?_; rintro e w1 ⟨rfl, hb1⟩; have hE := HB.out))
        go_roundw
        case rel => exact ⟨k + 1, out, last, by omega, by omega, by go_num, Lib.hid (hs.out.grown hb1), by simpa using HR2⟩
        case measure => simp [intOf]; omega
      | false =>
        rw [if_neg (by rw [hb]; exact Bool.false_ne_true)] at hr2
        have HB : Hid ((Lib.trimS s gapsL).isEmpty = false) := Lib.hid (by rw [trim_blank, hb])
        have H73 := fun (W : World) (hW : Cell0 W) => Lib.hid (c73 s last W hW)
        generalize rdC (lineR s last) = c at *
        generalize rdE (lineR s last) = x at *
        unfold strv cv at H73
        have hb' := hs.out.bl
        obtain ⟨st, da, dy, ki, am, fi⟩ := c
        clear hb hb'
        by_cases hx : x = 0
        · subst hx
          rw [if_pos rfl] at hr2
          have HR2 := Lib.hid hr2
          clear hr2
          go_wp2_with (first
            | (go_at_call 84; refine (c84g s hslen _).mono ?_; rintro e w1 ⟨rfl, hb1⟩; have hE := HB.out; have hs1 := hs.out.grown hb1; obtain ⟨g0, g1, g2, g3, g4, g5, gF, gL⟩ := cellsOf_at hs1.bl)
            | (go_at_call 73; refine (H73 _ (HC0.out.grownBy hs1.gr (by omega))).out.mono ?_; rintro e w2 ⟨rfl, hb2⟩; have hs2 := Lib.hid (hs1.grown hb2); simp only))
          obtain ⟨X, hX⟩ : ∃ X, w2.alloc (.cells #[.int .i64 st, .int .i64 da, .int .i64 dy, .int .i64 ki, .int .i64 am, .int .i64 fi] 24) = X := ⟨_, rfl⟩
          have hbX : X.heap[w2.heap.size]? = some (cellsOf ⟨st, da, dy, ki, am, fi⟩) := by rw [← hX]; exact World.alloc_heap_new w2 _
          have hsX : ShSt w W0 X (w.heap.size + 1) u6 out last := by rw [← hX]; exact hs2.out.grown (below_alloc _ _)
          have hbcge : W0.heap.size ≤ w2.heap.size := hs2.out.gr.size
          have hvb : ∀ q, u6.ownBlock = some q → W0.heap.size ≤ q ∧ q < w2.heap.size := fun q hq => hs2.out.own.lt q hq
          obtain ⟨bc, hbc⟩ : ∃ bc, w2.heap.size = bc := ⟨_, rfl⟩
          rw [hX, hbc]
          rw [hbc] at hbX hbcge hvb
          have HSX := Lib.hid hsX
          clear hX hbc hsX hs hs1 hs2 hb1 hb2 g0 g1 g2 g3 g4 g5 gF gL hc HC H73 w1 w2
          have hC : ∀ a b : World, (fun Z : World => Z.heap[bc]? = some (cellsOf ⟨st, da, dy, ki, am, fi⟩)) a → Grown a b → (fun Z : World => Z.heap[bc]? = some (cellsOf ⟨st, da, dy, ki, am, fi⟩)) b := fun a b h hg => (hg.block _ (Array.getElem?_eq_some_iff.1 h).1).trans h
          have facts : ∀ w' : World, (fun Z : World => Z.heap[bc]? = some (cellsOf ⟨st, da, dy, ki, am, fi⟩)) w' → _ := fun w' hw' => cellsOf_at hw'
          refine wp_region_class (fun Z : World => Z.heap[bc]? = some (cellsOf ⟨st, da, dy, ki, am, fi⟩)) (by kernel_rfl) fun x1 => ?_
          obtain ⟨V0, hV⟩ : ∃ V0, gw X x1 = V0 := ⟨_, rfl⟩
          have hGV : Grown X V0 := by rw [← hV]; exact Grown.gw _ _
          have hCV := hC _ _ hbX hGV
          rw [hV]
          clear hV x1
          refine WC_take (v := ?_) (a' := ?_) 0 hC rfl (by kernel_rfl) (by kernel_rfl) (by kernel_rfl) hCV ⟨rfl, fun w' hw' => ?_⟩ ?_ 40 rfl (by kernel_rfl) fun y => ?_
          rotate_left 2
          · obtain ⟨f0, f1, f2, f3, f4, f5, fF, fL⟩ := facts w' hw'
            go_big_quiet_op; exact rfl
          · exact rfl
          obtain ⟨V1, hV⟩ : ∃ V', gw V0 y = V' := ⟨_, rfl⟩
          rw [hV]
          replace hCV := hC _ V1 hCV (by rw [← hV]; exact Grown.gw _ _)
          replace hGV : Grown X V1 := Grown.trans hGV (by rw [← hV]; exact Grown.gw _ _)
          clear hV y V0
          refine WC_take (v := ?_) (a' := ?_) 1 hC rfl (by kernel_rfl) (by kernel_rfl) (by kernel_rfl) hCV ⟨rfl, fun w' hw' => ?_⟩ ?_ 41 rfl (by kernel_rfl) fun y => ?_
          rotate_left 2
          · obtain ⟨f0, f1, f2, f3, f4, f5, fF, fL⟩ := facts w' hw'
            go_big_quiet_op; exact rfl
          · exact rfl
          obtain ⟨V2, hV⟩ : ∃ V', gw V1 y = V' := ⟨_, rfl⟩
          rw [hV]
          replace hCV := hC _ V2 hCV (by rw [← hV]; exact Grown.gw _ _)
          replace hGV : Grown X V2 := Grown.trans hGV (by rw [← hV]; exact Grown.gw _ _)
          clear hV y V1
          refine WC_take (v := ?_) (a' := ?_) 4 hC rfl (by kernel_rfl) (by kernel_rfl) (by kernel_rfl) hCV ⟨rfl, fun w' hw' => ?_⟩ ?_ 44 rfl (by kernel_rfl) fun y => ?_
          rotate_left 2
          · obtain ⟨f0, f1, f2, f3, f4, f5, fF, fL⟩ := facts w' hw'
            go_big_quiet_op; exact rfl
          · exact rfl
          obtain ⟨V3, hV⟩ : ∃ V', gw V2 y = V' := ⟨_, rfl⟩
          rw [hV]
          replace hCV := hC _ V3 hCV (by rw [← hV]; exact Grown.gw _ _)
          replace hGV : Grown X V3 := Grown.trans hGV (by rw [← hV]; exact Grown.gw _ _)
          clear hV y V2
          refine WC_all [2] (by kernel_rfl) (by simp) fun i hi => ?_
          rcases List.mem_singleton.1 hi with rfl
          refine WG_op rfl rfl fun K hK => ?_
          go_big_op
          refine hK _ _ ⟨hC _ _ hCV (below_alloc _ _), fun y => ?_⟩
          obtain ⟨b7, V7, e1, e2, q1, q2, q3, q4, qF, q5⟩ := new_at hGV #[.int .i64 st, .int .i64 da, .int .i64 dy, .int .i64 ki, .int .i64 am, .int .i64 fi] 24 y
          replace hCV := hC _ V7 hCV q3
          replace hGV : Grown X V7 := Grown.trans hGV q3
          rw [e1, e2]
          clear e1 e2 q1 q2 q3 qF V3 hK K
          refine WC_all [3] (by kernel_rfl) (by simp) fun i hi => ?_
          rcases List.mem_singleton.1 hi with rfl
          refine WG_op rfl rfl fun K hK => ?_
          have hs7 := HSX.out.grown hGV
          obtain ⟨inf, i1, i2, i3, i4⟩ := info24
          refine wp_append_own (.tmp 40) (.tmp 42) 49 rfl W0.heap.size 24 inf _ 6 48 Tryz.underlying49 i1 i2 i3 i4 rfl (by decide) u6 rfl out.length (flatC out) hs7.own ⟨b7, 0, none⟩ 1 1 rfl (cardCells ⟨st, da, dy, ki, am, fi⟩) rfl (card_at st da dy ki am fi q5) (card_one _) (by simp only [maxLen]; omega) (by omega) hs7.gr.size fun v' V8 hown hgrow => ?_
          have hC8 := (hgrow.block _ (Array.getElem?_eq_some_iff.1 hCV).1 (fun e => by have := (hvb bc e.symm).2; omega)).trans hCV
          have hs8 := hs7.appended (c := ⟨st, da, dy, ki, am, fi⟩) hown hgrow
          refine hK _ _ ⟨hC8, fun y => ?_⟩
          simp [Act.put]
          clear hK K hgrow hown hs7 q4 q5 hGV hCV i1 i2 i3 i4
          obtain ⟨V9, hV⟩ : ∃ V', gw V8 y = V' := ⟨_, rfl⟩
          have hGw : Grown V8 V9 := by rw [← hV]; exact Grown.gw _ _
          rw [hV]
          have hCV := hC _ V9 hC8 hGw
          replace hs8 := hs8.grown hGw
          clear hV y hGw hC8 V8 V7
          refine WC_take (v := ?_) (a' := ?_) 5 hC rfl (by kernel_rfl) (by kernel_rfl) (by kernel_rfl) hCV ⟨rfl, fun w' hw' => ?_⟩ ?_ 6 rfl (by kernel_rfl) fun y => ?_
          rotate_left 2
          · go_big_quiet_op; exact rfl
          · exact rfl
          obtain ⟨V10, hV⟩ : ∃ V', gw V9 y = V' := ⟨_, rfl⟩
          have hGw : Grown V9 V10 := by rw [← hV]; exact Grown.gw _ _
          rw [hV]
          replace hCV := hC _ V10 hCV hGw
          replace hs8 := hs8.grown hGw
          clear hV y hGw V9
          refine WC_all [6] (by kernel_rfl) (by simp) fun i hi => ?_
          rcases List.mem_singleton.1 hi with rfl
          obtain ⟨g0, g1, g2, g3, g4, g5, gF, gL⟩ := cellsOf_at hs8.bl
          refine WG_op rfl rfl fun K hK => ?_
          go_big_op
          obtain ⟨Y, hY, hYb, hYg⟩ := store6g hs8.bl st da dy ki am fi
          rw [hY]
          have hsY := hs8.stored hYb hYg
          have hCY := (hYg.block bc (Array.getElem?_eq_some_iff.1 hCV).1 (by simp; omega)).trans hCV
          refine hK _ _ ⟨hCY, fun y => ?_⟩
          clear hK K hY hYb hYg g0 g1 g2 g3 g4 g5 gF gL hs8 hCV hCY hi
          obtain ⟨Z, hZ⟩ : ∃ Z, gw Y y = Z := ⟨_, rfl⟩
          have hsZ := Lib.hid (hsY.grown (show Below Y.heap.size Y Z by rw [← hZ]; exact gw_below _ _))
          rw [hZ]
          clear hZ y hsY
          refine WC_done (by kernel_rfl) (NoPanic.normal ?_) _
          clear hC facts
          go_wp2
          go_roundw
          case rel => exact ⟨k + 1, out ++ [⟨st, da, dy, ki, am, fi⟩], ⟨st, da, dy, ki, am, fi⟩, by omega, by simp; omega, by go_num, hsZ, by simpa using HR2⟩
          case measure => simp [intOf]; omega
        · have hx' : (x != 0) = true := by simpa using hx
          rw [if_neg hx] at hr2
          have HR2 := Lib.hid hr2
          clear hr2 hx
          go_wp2_with (first
            | (go_at_call 84; refine (c84g s hslen _).mono ?_; rintro e w1 ⟨rfl, hb1⟩; have hE := HB.out; have hs1 := hs.out.grown hb1; obtain ⟨g0, g1, g2, g3, g4, g5, gF, gL⟩ := cellsOf_at hs1.bl)
            | (go_at_call 73; refine (H73 _ (HC0.out.grownBy hs1.gr (by omega))).out.mono ?_; rintro e w2 ⟨rfl, hb2⟩; have hs2 := Lib.hid (hs1.grown hb2); simp only))
          go_ret3
          rw [← HR2.out]
          exact ⟨_, rfl, ownsNil _ _, xa hs2.out.below _⟩
    · obtain rfl : k = n := by omega
      have hr2 := hr.out
      rw [List.drop_eq_nil_of_le (by rw [HN.out]; exact Nat.le_refl _), sheetFrom] at hr2
      have HR2 := Lib.hid hr2
      clear hr2 hr
      go_wp2
      go_ret3
      rw [← HR2.out]
      exact ⟨_, rfl, ownsRow_base hs.out.own hs.out.w0.size, hs.out.below⟩
theorem c33 (text : List UInt8) (w : World) (h0 : Cell0 w) (hl : text.length ≤ 4000) : Calls Tryz.prog 33 #[strv text] w fun e w' => sheetEnd w (sheetR text) e w' := by
  by_cases hne : text = []
  · subst hne; exact c33_nil w h0
  · unfold sheetR
    by_cases hn : 100 < (linesOf text).length
    · rw [if_pos hn]; exact c33_many text w h0 hl hne hn
    · rw [if_neg hn]; exact c33_main text w h0 hl hne hn
end Go.Proofs.YthifeoebefbalaaGreatDoor

namespace Go.Proofs.YthifeoebefbalaaGreatDoor
open Go.RowKit

def ex1 : List UInt8 := [49, 55, 32, 49, 52, 32, 77, 97, 114, 32, 49, 56, 55, 49, 32, 48, 46, 51, 52]
theorem ex1_is : readsB (lineR ex1 zcard) ⟨17, 7742, 1, 1, 34, 1⟩ 0 = true := by decide +kernel
def ex2 : List UInt8 := [35, 48, 49, 55, 59, 32, 77, 65, 82, 67, 72, 32, 49, 52, 116, 104, 44, 32, 49, 56, 55, 49, 59, 32, 102, 111, 114, 32, 51, 32, 100, 97, 121, 115, 32, 44, 51, 52]
theorem ex2_is : readsB (lineR ex2 zcard) ⟨17, 7742, 3, 1, 34, 1⟩ 0 = true := by decide +kernel
def ex3 : List UInt8 := [49, 55, 32, 49, 52, 46, 51, 46, 49, 56, 55, 49, 32, 49, 32, 100, 97, 121, 32, 48, 46, 51, 52, 32, 116, 111, 32, 48, 46, 48, 50]
theorem ex3_is : readsB (lineR ex3 zcard) ⟨17, 7742, 1, 1, 34, 2⟩ 0 = true := by decide +kernel
def ex4 : List UInt8 := [49, 55, 32, 49, 52, 47, 51, 47, 49, 56, 55, 49, 32, 84]
theorem ex4_is : readsB (lineR ex4 zcard) ⟨17, 7742, 1, 2, 0, 0⟩ 0 = true := by decide +kernel
def ex5 : List UInt8 := [49, 55, 32, 51, 48, 32, 70, 101, 98, 32, 49, 56, 55, 49, 32, 110, 105, 108]
theorem ex5_is : readsB (lineR ex5 zcard) zcard 3 = true := by decide +kernel
def ex6 : List UInt8 := [49, 55, 32, 49, 52, 32, 77, 97, 32, 49, 56, 55, 49, 32, 110, 105, 108]
theorem ex6_is : readsB (lineR ex6 zcard) zcard 7 = true := by decide +kernel
def ex7 : List UInt8 := [49, 55, 32, 49, 52, 32, 77, 97, 114, 32, 49, 56, 55, 49]
theorem ex7_is : readsB (lineR ex7 zcard) zcard 7 = true := by decide +kernel
def exS : List UInt8 := [49, 55, 32, 49, 52, 32, 77, 97, 114, 32, 49, 56, 55, 49, 32, 110, 105, 108, 10, 100, 111, 32, 110, 101, 120, 116, 32, 50, 32, 100, 97, 121, 115, 32, 48, 46, 53, 10]
theorem exS_is : sheetR exS = ([⟨17, 7742, 1, 3, 0, 0⟩, ⟨17, 7744, 2, 1, 50, 10⟩], 0, -1) := by decide +kernel
theorem exW_is : writeR 17 7742 1 ⟨0, 3⟩ = (⟨17, 7742, 1, 1, 0, 6⟩, 0) := by decide +kernel
def exP : List UInt8 := [49, 55, 32, 49, 52, 32, 77, 97, 114, 32, 49, 56, 55, 49, 32, 49, 32, 100, 97, 121, 32, 48, 46, 51, 52, 32, 116, 111, 32, 48, 46, 48, 50]
theorem exP_is : ctext ⟨17, 7742, 1, 1, 34, 2⟩ = exP := by decide +kernel
theorem exP_valid : isCard ⟨17, 7742, 1, 1, 34, 2⟩ = true := by decide +kernel
theorem exA_valid : isCard ⟨17, 7742, 1, 1, 34, 1⟩ = true := by decide +kernel
theorem exN_valid : isCard ⟨17, 7742, 1, 3, 0, 0⟩ = true := by decide +kernel
theorem exC_is : (sameOf ⟨17, 7742, 1, 1, 34, 1⟩ ⟨17, 7742, 1, 3, 0, 0⟩ && !some2 ⟨17, 7742, 1, 1, 34, 1⟩ ⟨17, 7742, 1, 3, 0, 0⟩) = true := by decide +kernel
end Go.Proofs.YthifeoebefbalaaGreatDoor

namespace Go.Proofs.YthifeoebefbalaaGreatDoor
open Go.RowKit

theorem c72 (w : World) : Calls Tryz.prog 72 #[] w fun e w' => e = .returned (cv ⟨17, 7742, 1, 1, 34, 1⟩) ∧ Below w.heap.size w w' := by
  go_enter Tryz.func72, Tryz.ntmps72
  go_wp2
  exact bodyPost_ret (v := cv ⟨17, 7742, 1, 1, 34, 1⟩) (by simp [results, Tryz.results72, go_sem, cv]) rfl ⟨rfl, by repeat (first | exact xr _ | apply xa)⟩

theorem new_block (w : World) (o : Obj) (b : Nat) (h : w.heap.size = b) : (w.alloc o).heap[b]? = some o := by
  subst h; exact World.alloc_heap_new w o
def cellsA (c : Card) : Array Value := #[.int .i64 c.st, .int .i64 c.da, .int .i64 c.dy, .int .i64 c.ki, .int .i64 c.am, .int .i64 c.fi]
theorem cells_all {X : World} {b : Nat} {c : Card} (h : X.heap[b]? = some (cellsOf c)) : ∀ i, X.cell? ⟨b, i, none⟩ = (cellsA c)[i]? := fun i => cell_of_row X b i _ 24 (0, 0) h
theorem c27' (l : List UInt8) (st da dy ki am fi x : Int) (w : World) (hc : Cell0 w) : Calls Tryz.prog 27 #[.string ⟨l.toArray⟩, .agg #[.int .i64 st, .int .i64 da, .int .i64 dy, .int .i64 ki, .int .i64 am, .int .i64 fi], .int .i64 x] w fun e w' => e = .returned (.bool (readsB (lineR l zcard) ⟨st, da, dy, ki, am, fi⟩ x)) ∧ Below w.heap.size w w' := c27 l ⟨st, da, dy, ki, am, fi⟩ x w hc
theorem lit1 : readsB (lineR [49, 55, 32, 49, 52, 32, 77, 97, 114, 32, 49, 56, 55, 49, 32, 48, 46, 51, 52] zcard) ⟨17, 7742, 1, 1, 34, 1⟩ 0 = true := ex1_is
theorem lit2 : readsB (lineR [35, 48, 49, 55, 59, 32, 77, 65, 82, 67, 72, 32, 49, 52, 116, 104, 44, 32, 49, 56, 55, 49, 59, 32, 102, 111, 114, 32, 51, 32, 100, 97, 121, 115, 32, 44, 51, 52] zcard) ⟨17, 7742, 3, 1, 34, 1⟩ 0 = true := ex2_is
theorem lit3 : readsB (lineR [49, 55, 32, 49, 52, 46, 51, 46, 49, 56, 55, 49, 32, 49, 32, 100, 97, 121, 32, 48, 46, 51, 52, 32, 116, 111, 32, 48, 46, 48, 50] zcard) ⟨17, 7742, 1, 1, 34, 2⟩ 0 = true := ex3_is
theorem lit4 : readsB (lineR [49, 55, 32, 49, 52, 47, 51, 47, 49, 56, 55, 49, 32, 84] zcard) ⟨17, 7742, 1, 2, 0, 0⟩ 0 = true := ex4_is
theorem lit5 : readsB (lineR [49, 55, 32, 51, 48, 32, 70, 101, 98, 32, 49, 56, 55, 49, 32, 110, 105, 108] zcard) ⟨0, 0, 0, 0, 0, 0⟩ 3 = true := ex5_is
theorem lit6 : readsB (lineR [49, 55, 32, 49, 52, 32, 77, 97, 32, 49, 56, 55, 49, 32, 110, 105, 108] zcard) ⟨0, 0, 0, 0, 0, 0⟩ 7 = true := ex6_is
theorem lit7 : readsB (lineR [49, 55, 32, 49, 52, 32, 77, 97, 114, 32, 49, 56, 55, 49] zcard) ⟨0, 0, 0, 0, 0, 0⟩ 7 = true := ex7_is
theorem c46_ex (w : World) (hE : Env w) : Calls Tryz.prog 46 #[.agg #[.int .i64 17, .int .i64 7742, .int .i64 1, .int .i64 1, .int .i64 34, .int .i64 2]] w fun e w' => e = .returned (.tuple #[.string ⟨#[49, 55, 32, 49, 52, 32, 77, 97, 114, 32, 49, 56, 55, 49, 32, 49, 32, 100, 97, 121, 32, 48, 46, 51, 52, 32, 116, 111, 32, 48, 46, 48, 50]⟩, .int .i64 0]) ∧ Below w.heap.size w w' := by
  have := c46 ⟨17, 7742, 1, 1, 34, 2⟩ w hE exP_valid
  rw [exP_is] at this
  exact this
theorem c33_ex (w : World) (hC : Cell0 w) : Calls Tryz.prog 33 #[.string ⟨#[49, 55, 32, 49, 52, 32, 77, 97, 114, 32, 49, 56, 55, 49, 32, 110, 105, 108, 10, 100, 111, 32, 110, 101, 120, 116, 32, 50, 32, 100, 97, 121, 115, 32, 48, 46, 53, 10]⟩] w fun e w' => ∃ g cap, e = .returned (.tuple #[.slice (some ⟨g, 0, none⟩) 2 cap, .int .i64 0, .int .i64 (-1)]) ∧ w'.cell? ⟨g, 7, none⟩ = some (.int .i64 7744) ∧ w'.cell? ⟨g, 11, none⟩ = some (.int .i64 10) ∧ Below w.heap.size w w' := by
  refine (c33 exS w hC (by decide)).mono ?_
  rintro e w' ⟨v, rfl, hown, hb⟩
  rw [exS_is] at hown ⊢
  rcases hown.2 with ⟨-, h0⟩ | ⟨g, cap, cur, rfl, -⟩
  · cases h0
  · have h7 := hown.cellAt 7 (by decide)
    have h11 := hown.cellAt 11 (by decide)
    exact ⟨g, cap, rfl, h7, h11, hb⟩
theorem c25_ex (w : World) : Calls Tryz.prog 25 #[.int .i64 17, .int .i64 7742, .int .i64 1, .agg #[.int .i64 0, .int .i64 3]] w fun e w' => e = .returned (.tuple #[.agg #[.int .i64 17, .int .i64 7742, .int .i64 1, .int .i64 1, .int .i64 0, .int .i64 6], .int .i64 0]) ∧ Below w.heap.size w w' := by
  have := c25 17 7742 1 ⟨0, 3⟩ w (by decide) (by decide)
  rw [exW_is] at this
  exact this
theorem c47_ex (w : World) : Calls Tryz.prog 47 #[.agg #[.int .i64 17, .int .i64 7742, .int .i64 1, .int .i64 1, .int .i64 34, .int .i64 1], .agg #[.int .i64 17, .int .i64 7742, .int .i64 1, .int .i64 3, .int .i64 0, .int .i64 0]] w fun e w' => e = .returned (.tuple #[.bool true, .int .i64 0]) ∧ Below w.heap.size w w' := by
  have := c47 ⟨17, 7742, 1, 1, 34, 1⟩ ⟨17, 7742, 1, 3, 0, 0⟩ w exA_valid exN_valid
  rw [exC_is] at this
  exact this

set_option maxRecDepth 100000 in
set_option maxHeartbeats 4000000 in
theorem c22 (w : World) (hE : Env w) (hC : Cell0 w) : Calls Tryz.prog 22 #[] w fun e w' => e = .returned (.bool true) ∧ Below w.heap.size w w' := by
  have HE := Lib.hid hE
  have HC := Lib.hid hC
  clear hE hC
  have H72 := c72 w
  unfold cv at H72
  simp only at H72
  go_enter Tryz.func22, Tryz.ntmps22
  go_wp2_with (go_at_call 72; refine H72.mono ?_; rintro e w1 ⟨rfl, hb1⟩)
  clear H72
  obtain ⟨W, hW⟩ : ∃ W, (((w1.alloc (.cells #[.int .i64 17, .int .i64 7742, .int .i64 1, .int .i64 1, .int .i64 34, .int .i64 1] 24)).alloc (.cells #[.int .i64 17, .int .i64 7742, .int .i64 3, .int .i64 1, .int .i64 34, .int .i64 1] 24)).alloc (.cells #[.int .i64 17, .int .i64 7742, .int .i64 1, .int .i64 1, .int .i64 34, .int .i64 2] 24)).alloc (.cells #[.int .i64 17, .int .i64 7742, .int .i64 1, .int .i64 2, .int .i64 0, .int .i64 0] 24) = W := ⟨_, rfl⟩
  obtain ⟨B, hB⟩ : ∃ B, w1.heap.size = B := ⟨_, rfl⟩
  have k1 : W.heap[B]? = some (cellsOf ⟨17, 7742, 1, 1, 34, 1⟩) := by
    rw [← hW, Below.heap_alloc _ _ B (by simp; omega), Below.heap_alloc _ _ B (by simp; omega), Below.heap_alloc _ _ B (by simp; omega)]; exact new_block _ _ _ hB
  have k2 : W.heap[B + 1]? = some (cellsOf ⟨17, 7742, 3, 1, 34, 1⟩) := by
    rw [← hW, Below.heap_alloc _ _ (B + 1) (by simp; omega), Below.heap_alloc _ _ (B + 1) (by simp; omega)]; exact new_block _ _ _ (by simp; omega)
  have k3 : W.heap[B + 1 + 1]? = some (cellsOf ⟨17, 7742, 1, 1, 34, 2⟩) := by
    rw [← hW, Below.heap_alloc _ _ (B + 1 + 1) (by simp; omega)]; exact new_block _ _ _ (by simp; omega)
  have k4 : W.heap[B + 1 + 1 + 1]? = some (cellsOf ⟨17, 7742, 1, 2, 0, 0⟩) := by
    rw [← hW]; exact new_block _ _ _ (by simp; omega)
  have hBW : Below w.heap.size w W := by rw [← hW]; exact xa (xa (xa (xa hb1 _) _) _) _
  have hsz : W.heap.size = B + 4 := by rw [← hW]; simp; omega
  rw [hW, hB]
  have hK : ∀ X, Below W.heap.size W X → (∀ i, X.cell? ⟨B, i, none⟩ = (cellsA ⟨17, 7742, 1, 1, 34, 1⟩)[i]?) ∧ (∀ i, X.cell? ⟨B + 1, i, none⟩ = (cellsA ⟨17, 7742, 3, 1, 34, 1⟩)[i]?) ∧ (∀ i, X.cell? ⟨B + 1 + 1, i, none⟩ = (cellsA ⟨17, 7742, 1, 1, 34, 2⟩)[i]?) ∧ ∀ i, X.cell? ⟨B + 1 + 1 + 1, i, none⟩ = (cellsA ⟨17, 7742, 1, 2, 0, 0⟩)[i]? := fun X hX =>
    ⟨cells_all ((hX.block _ (by omega)).trans k1), cells_all ((hX.block _ (by omega)).trans k2), cells_all ((hX.block _ (by omega)).trans k3), cells_all ((hX.block _ (by omega)).trans k4)⟩
  have HK := Lib.hid hK
  have HE4 := Lib.hid (HE.out.below hBW)
  have HC4 := Lib.hid (HC.out.below hBW HC.out.lt)
  clear hW hb1 k1 k2 k3 k4 hK hB w1
  obtain ⟨k1, k2, k3, k4⟩ := HK.out W (xr W)
  have hX : Below W.heap.size W W := xr W
  simp only [cellsA] at k1 k2 k3 k4
  go_wp2_with (go_at_call 27; refine (c27' _ _ _ _ _ _ _ _ _ (HC4.out.below hX HC4.out.lt)).mono ?_; rintro e X ⟨rfl, hb⟩; simp only [lit1, lit2, lit3, lit4, lit5, lit6, lit7]; clear k1 k2 k3 k4; replace hX := below_trans hX hb; clear hb; obtain ⟨k1, k2, k3, k4⟩ := HK.out X hX; simp only [cellsA] at k1 k2 k3 k4)
  refine (c46_ex _ (HE4.out.below hX)).mono ?_
  rintro e X1 ⟨rfl, hb⟩
  clear k1 k2 k3 k4
  replace hX := below_trans hX hb
  clear hb X
  obtain ⟨k1, k2, k3, k4⟩ := HK.out X1 hX
  simp only [cellsA] at k1 k2 k3 k4
  go_wp2_with fail
  refine (c33_ex _ (HC4.out.below hX HC4.out.lt)).mono ?_
  rintro e X2 ⟨g, cap, rfl, g7, g11, hb⟩
  clear k1 k2 k3 k4
  replace hX := below_trans hX hb
  clear hb X1
  obtain ⟨k1, k2, k3, k4⟩ := HK.out X2 hX
  simp only [cellsA] at k1 k2 k3 k4
  go_wp2_with fail
  refine (c25_ex _).mono ?_
  rintro e X3 ⟨rfl, hb⟩
  clear k1 k2 k3 k4
  replace g7 := (hb.cell (p := ⟨g, 7, none⟩) (World.block_lt_of_cell? X2 _ g7)).trans g7
  replace g11 := (hb.cell (p := ⟨g, 11, none⟩) (World.block_lt_of_cell? X2 _ g11)).trans g11
  replace hX := below_trans hX hb
  clear hb X2
  obtain ⟨k1, k2, k3, k4⟩ := HK.out X3 hX
  simp only [cellsA] at k1 k2 k3 k4
  have hl1 : B < X3.heap.size := by have := hX.size; omega
  go_wp2_with fail
  obtain ⟨B10, hB10⟩ : ∃ B10, X3.heap.size = B10 := ⟨_, rfl⟩
  rw [hB10]
  refine (c47_ex _).mono ?_
  rintro e X4 ⟨rfl, hb⟩
  have k10 := cells_all (c := ⟨17, 7742, 1, 1, 0, 6⟩) ((hb.block B10 (by simp; omega)).trans (new_block _ _ _ hB10))
  clear k1 k2 k3 k4
  have g0 := World.block_lt_of_cell? X3 _ g7
  simp only at g0
  have hb2 := (xa (xr X3) (.cells #[.int .i64 17, .int .i64 7742, .int .i64 1, .int .i64 1, .int .i64 0, .int .i64 6] 24)).trans (hb.mono (by simp))
  replace g7 := (hb2.cell (p := ⟨g, 7, none⟩) g0).trans g7
  replace g11 := (hb2.cell (p := ⟨g, 11, none⟩) g0).trans g11
  replace hX := below_trans hX hb2
  clear hb hb2 hB10 g0 hl1 X3
  simp only [cellsA] at k10
  go_wp2_with fail
  go_ret
  exact ⟨rfl, hBW.trans (hX.mono hBW.size)⟩
end Go.Proofs.YthifeoebefbalaaGreatDoor

namespace Go.Proofs.YthifeoebefbalaaGreatDoor
open Go.RowKit

theorem itoa_one (n : Int) (h0 : 0 ≤ n) (h1 : n < 10) : Lib.itoa n = [UInt8.ofNat (48 + n % 10).toNat] := by
  have e : (48 + n % 10).toNat = 48 + n.toNat := by omega
  rw [Lib.itoa, if_neg (by omega), Lib.decDigits_one (by omega), e]
theorem itoa_more (n : Int) (h0 : 0 ≤ n) (h1 : ¬ n < 10) : Lib.itoa n = Lib.itoa (n / 10) ++ [UInt8.ofNat (48 + n % 10).toNat] := by
  have e : (48 + n % 10).toNat = 48 + n.toNat % 10 := by omega
  have e2 : (n / 10).toNat = n.toNat / 10 := by omega
  rw [Lib.itoa, if_neg (by omega), Lib.itoa, if_neg (by omega), Lib.decDigits, dif_neg (by omega), e, e2]
end Go.Proofs.YthifeoebefbalaaGreatDoor

namespace Go.Proofs.YthifeoebefbalaaGreatDoor
open Go.RowKit

/-- What a digit is not. -/
theorem dig_all (c : UInt8) (h : isDig c = true) : gapU c = false ∧ smallB c = c ∧ pc.contains c = false ∧ c ≠ 100 ∧ c ≠ 35 ∧ c ≠ 47 ∧ c ≠ 46 ∧ c ≠ 45 ∧ c ≠ 44 ∧ c ≠ 10 ∧ 48 ≤ c.toNat ∧ c.toNat ≤ 57 := by
  have key : ∀ n : Fin 256, isDig (UInt8.ofNat n.1) = true → gapU (UInt8.ofNat n.1) = false ∧ smallB (UInt8.ofNat n.1) = UInt8.ofNat n.1 ∧ pc.contains (UInt8.ofNat n.1) = false ∧ UInt8.ofNat n.1 ≠ 100 ∧ UInt8.ofNat n.1 ≠ 35 ∧ UInt8.ofNat n.1 ≠ 47 ∧ UInt8.ofNat n.1 ≠ 46 ∧ UInt8.ofNat n.1 ≠ 45 ∧ UInt8.ofNat n.1 ≠ 44 ∧ UInt8.ofNat n.1 ≠ 10 ∧ 48 ≤ (UInt8.ofNat n.1).toNat ∧ (UInt8.ofNat n.1).toNat ≤ 57 := by decide +kernel
  have := key ⟨c.toNat, c.toNat_lt⟩
  simp only [UInt8.ofNat_toNat] at this
  exact this h
/-- A digit. -/
def dgt (n : Int) : UInt8 := UInt8.ofNat (48 + n).toNat
theorem dgt_dig (n : Int) (h0 : 0 ≤ n) (h1 : n < 10) : isDig (dgt n) = true ∧ (dgt n).toNat = (48 + n).toNat := by
  have e : (dgt n).toNat = (48 + n).toNat := by rw [dgt, UInt8.toNat_ofNat']; omega
  exact ⟨by rw [isDig, e]; simp; omega, e⟩
theorem numV_snoc (l : List UInt8) (c : UInt8) : numV (l ++ [c]) = numV l * 10 + (c.toNat - 48) := by rw [numV, List.foldl_append]; rfl
theorem itoa_dgt (n : Int) (h0 : 0 ≤ n) (h1 : n < 10) : Lib.itoa n = [dgt n] := by rw [itoa_one n h0 h1, dgt, show n % 10 = n by omega]
theorem itoa_snoc (n : Int) (h0 : 0 ≤ n) (h1 : ¬ n < 10) : Lib.itoa n = Lib.itoa (n / 10) ++ [dgt (n % 10)] := itoa_more n h0 h1
/-- The digits of a number: how many at most; that they are digits; what they come to. -/
theorem itoa_all (k : Nat) : ∀ n : Int, 0 ≤ n → n < 10 ^ (k + 1) → (Lib.itoa n).length ≤ k + 1 ∧ 1 ≤ (Lib.itoa n).length ∧ (∀ c ∈ Lib.itoa n, isDig c = true) ∧ (numV (Lib.itoa n) : Int) = n := by
  induction k with
  | zero =>
    intro n h0 h1
    have hd := dgt_dig n h0 (by omega)
    rw [itoa_dgt n h0 (by omega)]
    refine ⟨by simp, by simp, by simpa using hd.1, ?_⟩
    rw [show numV [dgt n] = numV [] * 10 + ((dgt n).toNat - 48) from rfl, hd.2]
    show (((0 * 10 + ((48 + n).toNat - 48) : Nat)) : Int) = n
    omega
  | succ k ih =>
    intro n h0 h1
    by_cases hn : n < 10
    · have hd := dgt_dig n h0 (by omega)
      rw [itoa_dgt n h0 (by omega)]
      refine ⟨by simp, by simp, by simpa using hd.1, ?_⟩
      rw [show numV [dgt n] = numV [] * 10 + ((dgt n).toNat - 48) from rfl, hd.2]
      show (((0 * 10 + ((48 + n).toNat - 48) : Nat)) : Int) = n
      omega
    · have hp : (10 : Int) ^ (k + 1 + 1) = 10 ^ (k + 1) * 10 := Int.pow_succ _ _
      obtain ⟨i1, i2, i3, i4⟩ := ih (n / 10) (by omega) (by omega)
      have hd := dgt_dig (n % 10) (by omega) (by omega)
      rw [itoa_snoc n h0 hn]
      refine ⟨by rw [List.length_append]; simp; omega, by rw [List.length_append]; simp, ?_, ?_⟩
      · intro c hc
        rcases List.mem_append.1 hc with hc | hc
        · exact i3 c hc
        · obtain rfl := List.mem_singleton.1 hc
          exact hd.1
      · rw [numV_snoc, hd.2]
        omega
theorem itoa_ten (n : Int) (h0 : 0 ≤ n) (h1 : n < 10000000000) : isNum (Lib.itoa n) = true ∧ (∀ c ∈ Lib.itoa n, isDig c = true) ∧ 1 ≤ (Lib.itoa n).length ∧ numO (Lib.itoa n) = some n := by
  obtain ⟨a, b, c, d⟩ := itoa_all 9 n h0 (show n < 10 ^ (9 + 1) by rw [show (10 : Int) ^ (9 + 1) = 10000000000 from by decide]; exact h1)
  have e : isNum (Lib.itoa n) = true := by
    rw [isNum, Bool.and_eq_true, Bool.and_eq_true]
    exact ⟨⟨by simpa using b, by simpa using a⟩, List.all_eq_true.2 c⟩
  exact ⟨e, c, b, by rw [numO, if_pos e, d]⟩
/-- The first sign of a decimal. -/
theorem index_digs {a : List UInt8} (b : List UInt8) (s : UInt8) (h : ∀ c ∈ a, isDig c = true) (hs : pc.contains s = true) : Lib.indexAny (a ++ s :: b) pc = a.length := by
  induction a with
  | nil => rw [List.nil_append, Lib.indexAny, if_pos hs]; rfl
  | cons c a ih =>
    have i := ih (fun d hd => h d (by simp [hd]))
    have hc := (dig_all c (h c (by simp))).2.2.1
    rw [List.cons_append, Lib.indexAny, if_neg (by rw [hc]; exact Bool.false_ne_true), i, if_neg (by simp), List.length_cons]
    rfl
theorem hun_digs {a b : List UInt8} {s : UInt8} (h : ∀ c ∈ a, isDig c = true) (hs : pc.contains s = true) : hunO (a ++ s :: b) = hun2 a b := by
  have i := index_digs b s h hs
  rw [hunO, i, if_neg (by omega)]
  have e1 : ((a.length : Int)).toNat = a.length := by omega
  rw [e1]
  congr 1
  · simp
  · rw [show a.length + 1 = (a ++ [s]).length by simp, show a ++ s :: b = (a ++ [s]) ++ b by simp, List.drop_left]
end Go.Proofs.YthifeoebefbalaaGreatDoor

namespace Go.Proofs.YthifeoebefbalaaGreatDoor
open Go.RowKit

/-- A byte of an amount: a digit, a point, a comma. -/
def isAm (c : UInt8) : Bool := isDig c || c == 46 || c == 44
theorem am_all (c : UInt8) (h : isAm c = true) : gapU c = false ∧ smallB c = c ∧ c ≠ 100 ∧ c ≠ 45 ∧ c ≠ 63 ∧ c ≠ 109 ∧ c ≠ 110 ∧ c ≠ 116 ∧ c ≠ 102 ∧ c ≠ 10 := by
  have key : ∀ n : Fin 256, isAm (UInt8.ofNat n.1) = true → gapU (UInt8.ofNat n.1) = false ∧ smallB (UInt8.ofNat n.1) = UInt8.ofNat n.1 ∧ UInt8.ofNat n.1 ≠ 100 ∧ UInt8.ofNat n.1 ≠ 45 ∧ UInt8.ofNat n.1 ≠ 63 ∧ UInt8.ofNat n.1 ≠ 109 ∧ UInt8.ofNat n.1 ≠ 110 ∧ UInt8.ofNat n.1 ≠ 116 ∧ UInt8.ofNat n.1 ≠ 102 ∧ UInt8.ofNat n.1 ≠ 10 := by decide +kernel
  have := key ⟨c.toNat, c.toNat_lt⟩
  simp only [UInt8.ofNat_toNat] at this
  exact this h
def AmW (x : List UInt8) : Prop := x ≠ [] ∧ ∀ c ∈ x, isAm c = true
theorem AmW.gap {x : List UInt8} (h : AmW x) : ∀ c ∈ x, gapU c = false := fun c hc => (am_all c (h.2 c hc)).1
theorem AmW.small {x : List UInt8} (h : AmW x) : smallL x = x := by
  rw [smallL]
  conv => rhs; rw [← List.map_id x]
  exact List.map_congr_left fun c hc => (am_all c (h.2 c hc)).2.1
theorem AmW.kind {x : List UInt8} (h : AmW x) : kindO x = none := by
  obtain ⟨hne, ha⟩ := h
  cases x with
  | nil => exact absurd rfl hne
  | cons c r =>
    obtain ⟨-, -, -, h1, h2, h3, h4, h5, -, -⟩ := am_all c (ha c (by simp))
    have b1 : ((45 : UInt8) == c) = false := beq_eq_false_iff_ne.2 (Ne.symm h1)
    have b2 : ((63 : UInt8) == c) = false := beq_eq_false_iff_ne.2 (Ne.symm h2)
    have b3 : ((109 : UInt8) == c) = false := beq_eq_false_iff_ne.2 (Ne.symm h3)
    have b4 : ((110 : UInt8) == c) = false := beq_eq_false_iff_ne.2 (Ne.symm h4)
    have b5 : ((116 : UInt8) == c) = false := beq_eq_false_iff_ne.2 (Ne.symm h5)
    simp [kindO, kindL, List.find?, b1, b2, b3, b4, b5]
theorem suffix_no {x p : List UInt8} {d : UInt8} (hp : d ∈ p) (h : ∀ c ∈ x, c ≠ d) : Lib.hasSuffix x p = false := by
  cases e : Lib.hasSuffix x p with
  | false => rfl
  | true =>
    rw [Lib.hasSuffix, List.isSuffixOf_iff_suffix] at e
    exact absurd rfl (h d (e.subset hp))
theorem AmW.day {x : List UInt8} (h : AmW x) : isD x = false := by
  rw [isD, suffix_no (d := 100) (by simp) (fun c hc => (am_all c (h.2 c hc)).2.2.1)]
  rfl
theorem AmW.notFor {x : List UInt8} (h : AmW x) : x ≠ forW := by
  rintro rfl
  exact absurd (h.2 102 (by decide)) (by decide)
theorem AmW.lump {x : List UInt8} (h : AmW x) : lumpW [x] = .got 1 [x] := by
  rw [lumpW, if_neg h.notFor, lump2, h.day]
  rfl
theorem AmW.lump2 {x z : List UInt8} (h : AmW x) : lumpW [x, toW, z] = .got 1 [x, toW, z] := by
  rw [lumpW, if_neg h.notFor, Proofs.YthifeoebefbalaaGreatDoor.lump2, h.day]
  have e1 : decide (toW = dayW) = false := by decide
  have e2 : decide (toW = daysW) = false := by decide
  rw [e1, e2]
  simp
theorem AmW.amt {x : List UInt8} (h : AmW x) {n f : Int} (hh : hunO x = some (n, f)) : amtW [x] = .got 1 n f [] := by
  rw [amtW, h.kind]
  simp only
  rw [hh]
  rfl
theorem AmW.rest {x : List UInt8} (h : AmW x) {n f : Int} (hh : hunO x = some (n, f)) (st : Int) (nx : Bool) (d : Dt) (last : Card) : restR st nx d last [x] = cardR st (dateR nx d last 1) 1 1 n f := by
  rw [restR, h.lump]
  simp only
  rw [h.amt hh]
  rfl
/-- Two digits, four digits. -/
def twoL (n : Int) : List UInt8 := [dgt (n / 10 % 10), dgt (n % 10)]
theorem twoL_dig (n : Int) : ∀ c ∈ twoL n, isDig c = true := by
  intro c hc
  simp only [twoL, List.mem_cons, List.not_mem_nil, or_false] at hc
  rcases hc with rfl | rfl
  · exact (dgt_dig _ (by omega) (by omega)).1
  · exact (dgt_dig _ (by omega) (by omega)).1
theorem twoL_num (n : Int) (h0 : 0 ≤ n) (h1 : n < 100) : numO (twoL n) = some n := by
  have d1 := dgt_dig (n / 10 % 10) (by omega) (by omega)
  have d2 := dgt_dig (n % 10) (by omega) (by omega)
  have hn : isNum (twoL n) = true := by rw [isNum, List.all_eq_true.2 (twoL_dig n)]; rfl
  rw [numO, if_pos hn]
  congr 1
  show ((((0 * 10 + ((dgt (n / 10 % 10)).toNat - 48)) * 10 + ((dgt (n % 10)).toNat - 48) : Nat)) : Int) = n
  rw [d1.2, d2.2]
  omega
theorem am_dig {c : UInt8} (h : isDig c = true) : isAm c = true := by rw [isAm, h]; rfl
theorem am_join {a b : List UInt8} {s : UInt8} (ha : ∀ c ∈ a, isDig c = true) (hb : ∀ c ∈ b, isDig c = true) (hs : isAm s = true) : AmW (a ++ s :: b) :=
  ⟨by simp, fun c hc => by
    rcases List.mem_append.1 hc with hc | hc
    · exact am_dig (ha c hc)
    · rcases List.mem_cons.1 hc with rfl | hc
      · exact hs
      · exact am_dig (hb c hc)⟩
end Go.Proofs.YthifeoebefbalaaGreatDoor

namespace Go.Proofs.YthifeoebefbalaaGreatDoor
open Go.RowKit

def readingB (st da dy : Int) : Bool := within st 1 1073741824 && within da 0 60000 && within dy 1 62
theorem c123 (n : Int) (w : World) : Calls Tryz.prog 123 #[.int .i64 n] w fun e w' => e = .returned (.bool (within n 0 60000)) ∧ w = w' := by
  by_cases h1 : 0 ≤ n
  all_goals by_cases h2 : n ≤ 60000
  all_goals go_enter Tryz.func123, Tryz.ntmps123
  all_goals go_wp2
  all_goals go_ret
  all_goals exact ⟨by simp [within, h1, h2], rfl⟩
theorem c78 (st da dy : Int) (w : World) : Calls Tryz.prog 78 #[.int .i64 st, .int .i64 da, .int .i64 dy] w fun e w' => e = .returned (.bool (readingB st da dy)) ∧ w = w' := by
  by_cases h1 : 1 ≤ st
  all_goals by_cases h2 : st ≤ 1073741824
  all_goals go_enter Tryz.func78, Tryz.ntmps78
  all_goals go_wp2_with (go_at_call 123; refine (c123 _ _).mono ?_; rintro e w' ⟨rfl, rfl⟩)
  all_goals go_ret
  all_goals exact ⟨ret_bool (by first | (simp_all [readingB, within]; done) | (simp_all [readingB, within]; intros; omega)), rfl⟩
theorem c37 (st da dy ki am fi : Int) (w : World) : Calls Tryz.prog 37 #[.agg #[.int .i64 st, .int .i64 da, .int .i64 dy, .int .i64 ki, .int .i64 am, .int .i64 fi]] w fun e w' => e = .returned (.bool (isCard ⟨st, da, dy, ki, am, fi⟩)) ∧ Below w.heap.size w w' := by
  have hs : isCard ⟨st, da, dy, ki, am, fi⟩ = (readingB st da dy && (within ki 1 4 && if ki != 1 then am == 0 && fi == 0 else within fi 1 100 && within am 0 200000 && am.tmod fi == 0)) := by
    simp only [isCard, readingB, Bool.and_assoc]
  rw [hs]
  clear hs
  generalize hr : readingB st da dy = rb
  have HR := Lib.hid hr
  clear hr
  by_cases k1 : ki < 1
  · go_enter Tryz.func37, Tryz.ntmps37
    go_wp2_with (go_at_call 78; refine (c78 _ _ _ _).mono ?_; rintro e w' ⟨rfl, rfl⟩; rw [HR.out])
    all_goals go_ret
    all_goals exact ⟨ret_bool (by cases rb <;> first | (simp_all [within]; done) | (simp_all [within]; intros; omega)), xa (xr _) _⟩
  · by_cases k2 : 4 < ki
    · go_enter Tryz.func37, Tryz.ntmps37
      go_wp2_with (go_at_call 78; refine (c78 _ _ _ _).mono ?_; rintro e w' ⟨rfl, rfl⟩; rw [HR.out])
      all_goals go_ret
      all_goals exact ⟨ret_bool (by cases rb <;> first | (simp_all [within]; done) | (simp_all [within]; intros; omega)), xa (xr _) _⟩
    · have hw : within ki 1 4 = true := within_true.2 (by omega)
      by_cases k3 : ki = 1
      · subst k3
        go_enter Tryz.func37, Tryz.ntmps37
        go_wp2_with (go_at_call 78; refine (c78 _ _ _ _).mono ?_; rintro e w' ⟨rfl, rfl⟩; rw [HR.out])
        all_goals go_ret
        all_goals refine ⟨ret_bool ?_, xa (xr _) _⟩
        all_goals first
          | rfl
          | (rw [Int.tmod_eq_emod_of_nonneg (by assumption)]; simp [within, *]; done)
          | (simp [within]; done)
          | (simp [within]; intros; omega)
      · have k4 : (ki != 1) = true := by simpa using k3
        go_enter Tryz.func37, Tryz.ntmps37
        go_wp2_with (go_at_call 78; refine (c78 _ _ _ _).mono ?_; rintro e w' ⟨rfl, rfl⟩; rw [HR.out])
        all_goals go_ret
        all_goals exact ⟨ret_bool (by cases rb <;> simp_all), xa (xr _) _⟩
end Go.Proofs.YthifeoebefbalaaGreatDoor

namespace Go.Proofs.YthifeoebefbalaaGreatDoor
open Go.RowKit

def movedR (c : Card) (m : Int) : Card × Int := if isCard c = true then (if m < -c.da ∨ 60000 - c.da < m then (zcard, 3) else (⟨c.st, c.da + m, c.dy, c.ki, c.am, c.fi⟩, 0)) else (zcard, 1)
/-- A card boxed, and a card's variable made behind it. -/
theorem box_zero (w : World) (st da dy ki am fi : Int) : ∃ W, (w.alloc (.cells #[.int .i64 st, .int .i64 da, .int .i64 dy, .int .i64 ki, .int .i64 am, .int .i64 fi] 24)).alloc (.cells #[.int .i64 0, .int .i64 0, .int .i64 0, .int .i64 0, .int .i64 0, .int .i64 0] 24) = W ∧ Below w.heap.size w W ∧ W.heap.size = w.heap.size + 2 ∧
    ∀ X, Below W.heap.size W X → X.heap[w.heap.size]? = some (cellsOf ⟨st, da, dy, ki, am, fi⟩) ∧ X.heap[w.heap.size + 1]? = some (cellsOf zcard) := by
  refine ⟨_, rfl, xa (xa (xr _) _) _, by simp, fun X hX => ⟨?_, ?_⟩⟩
  · rw [hX.block _ (by simp; omega), Below.heap_alloc _ _ w.heap.size (by simp)]; exact World.alloc_heap_new w _
  · rw [hX.block _ (by simp)]; exact new_block _ _ _ (by simp)

set_option maxRecDepth 100000 in
set_option maxHeartbeats 4000000 in
theorem c36 (st da dy ki am fi m : Int) (w : World) : Calls Tryz.prog 36 #[.agg #[.int .i64 st, .int .i64 da, .int .i64 dy, .int .i64 ki, .int .i64 am, .int .i64 fi], .int .i64 m] w fun e w' => e = .returned (.tuple #[cv (movedR ⟨st, da, dy, ki, am, fi⟩ m).1, .int .i64 (movedR ⟨st, da, dy, ki, am, fi⟩ m).2]) ∧ Below w.heap.size w w' := by
  obtain ⟨x, hx⟩ : ∃ x, movedR ⟨st, da, dy, ki, am, fi⟩ m = x := ⟨_, rfl⟩
  rw [hx]
  unfold movedR at hx
  cases hI : isCard ⟨st, da, dy, ki, am, fi⟩ with
  | false =>
    rw [if_neg (by rw [hI]; exact Bool.false_ne_true)] at hx
    subst hx
    have HI := Lib.hid hI
    clear hI
    go_enter Tryz.func36, Tryz.ntmps36
    go_wp2_with fail
    obtain ⟨W, hW, hB, hsz, hK⟩ := box_zero w st da dy ki am fi
    rw [hW]
    refine (c76 st da dy ki am fi W).mono ?_
    rw [HI.out]
    rintro e X ⟨rfl, hb⟩
    have hr := (hK X hb).2
    obtain ⟨u0, u1, u2, u3, u4, u5, uF, uL⟩ := cellsOf_at hr
    have HR := Lib.hid hr
    clear hK hW hr
    go_wp2
    obtain ⟨Y, hY, hYb, hYg, -⟩ := store6b HR.out 0 0 0 0 0 0
    rw [hY]
    have hg := hYg w (hB.trans (hb.mono hB.size)) (by omega)
    obtain ⟨y0, y1, y2, y3, y4, y5, yF, yL⟩ := cellsOf_at hYb
    clear hY hYb hYg
    exact bodyPost_ret (v := .tuple #[cv zcard, .int .i64 1]) (by simp [results, Tryz.results36, go_sem, cv, zcard, y0, y1, y2, y3, y4, y5]) rfl ⟨rfl, hg⟩
  | true =>
    obtain ⟨-, -, h3, h4, -⟩ := isCard_true hI
    simp only at h3 h4
    rw [if_pos hI] at hx
    simp only at hx
    have HI := Lib.hid hI
    clear hI
    by_cases h1 : m < -da
    · rw [if_pos (.inl h1)] at hx
      subst hx
      go_enter Tryz.func36, Tryz.ntmps36
      go_wp2_with fail
      obtain ⟨W, hW, hB, hsz, hK⟩ := box_zero w st da dy ki am fi
      rw [hW]
      refine (c76 st da dy ki am fi W).mono ?_
      rw [HI.out]
      rintro e X ⟨rfl, hb⟩
      obtain ⟨hb0, hr⟩ := hK X hb
      obtain ⟨t0, t1, t2, t3, t4, t5, tF, tL⟩ := cellsOf_at hb0
      obtain ⟨u0, u1, u2, u3, u4, u5, uF, uL⟩ := cellsOf_at hr
      have HR := Lib.hid hr
      clear hK hW hr hb0
      go_wp2
      obtain ⟨Y, hY, hYb, hYg, -⟩ := store6b HR.out 0 0 0 0 0 0
      rw [hY]
      have hg := hYg w (hB.trans (hb.mono hB.size)) (by omega)
      obtain ⟨y0, y1, y2, y3, y4, y5, yF, yL⟩ := cellsOf_at hYb
      clear hY hYb hYg
      exact bodyPost_ret (v := .tuple #[cv zcard, .int .i64 3]) (by simp [results, Tryz.results36, go_sem, cv, zcard, y0, y1, y2, y3, y4, y5]) rfl ⟨rfl, hg⟩
    · by_cases h2 : 60000 - da < m
      · rw [if_pos (.inr h2)] at hx
        subst hx
        go_enter Tryz.func36, Tryz.ntmps36
        go_wp2_with fail
        obtain ⟨W, hW, hB, hsz, hK⟩ := box_zero w st da dy ki am fi
        rw [hW]
        refine (c76 st da dy ki am fi W).mono ?_
        rw [HI.out]
        rintro e X ⟨rfl, hb⟩
        obtain ⟨hb0, hr⟩ := hK X hb
        obtain ⟨t0, t1, t2, t3, t4, t5, tF, tL⟩ := cellsOf_at hb0
        obtain ⟨u0, u1, u2, u3, u4, u5, uF, uL⟩ := cellsOf_at hr
        have HR := Lib.hid hr
        clear hK hW hr hb0
        go_wp2
        obtain ⟨Y, hY, hYb, hYg, -⟩ := store6b HR.out 0 0 0 0 0 0
        rw [hY]
        have hg := hYg w (hB.trans (hb.mono hB.size)) (by omega)
        obtain ⟨y0, y1, y2, y3, y4, y5, yF, yL⟩ := cellsOf_at hYb
        clear hY hYb hYg
        exact bodyPost_ret (v := .tuple #[cv zcard, .int .i64 3]) (by simp [results, Tryz.results36, go_sem, cv, zcard, y0, y1, y2, y3, y4, y5]) rfl ⟨rfl, hg⟩
      · rw [if_neg (by omega)] at hx
        subst hx
        go_enter Tryz.func36, Tryz.ntmps36
        go_wp2_with fail
        obtain ⟨W, hW, hB, hsz, hK⟩ := box_zero w st da dy ki am fi
        rw [hW]
        refine (c76 st da dy ki am fi W).mono ?_
        rw [HI.out]
        rintro e X ⟨rfl, hb⟩
        obtain ⟨hb0, hr⟩ := hK X hb
        obtain ⟨t0, t1, t2, t3, t4, t5, tF, tL⟩ := cellsOf_at hb0
        obtain ⟨u0, u1, u2, u3, u4, u5, uF, uL⟩ := cellsOf_at hr
        have HR := Lib.hid hr
        clear hK hW hr hb0
        go_wp2
        have hr2 : (X.setCell ⟨w.heap.size, 1, none⟩ (.int .i64 (da + m))).heap[w.heap.size + 1]? = some (cellsOf zcard) := (Below.heap_setCell X ⟨w.heap.size, 1, none⟩ _ _ (by simp)).trans HR.out
        obtain ⟨Y, hY, hYb, hYg, -⟩ := store6b hr2 st (da + m) dy ki am fi
        rw [hY]
        have hg := hYg w (xs (hB.trans (hb.mono hB.size)) (Nat.le_refl _) _) (by omega)
        obtain ⟨y0, y1, y2, y3, y4, y5, yF, yL⟩ := cellsOf_at hYb
        clear hY hYb hYg
        exact bodyPost_ret (v := .tuple #[cv ⟨st, da + m, dy, ki, am, fi⟩, .int .i64 0]) (by simp [results, Tryz.results36, go_sem, cv, zcard, y0, y1, y2, y3, y4, y5]) rfl ⟨rfl, hg⟩
end Go.Proofs.YthifeoebefbalaaGreatDoor

namespace Go.Proofs.YthifeoebefbalaaGreatDoor
open Go.RowKit

set_option maxRecDepth 100000 in
set_option maxHeartbeats 4000000 in
theorem c9 (st da dy ki am fi m : Int) (w : World) (hE : Env w) (hC : Cell0 w) : Calls Tryz.prog 9 #[.agg #[.int .i64 st, .int .i64 da, .int .i64 dy, .int .i64 ki, .int .i64 am, .int .i64 fi], .int .i64 m] w fun e w' => e = .returned (.bool true) ∧ Below w.heap.size w w' := by
  have HE := Lib.hid hE
  have HC := Lib.hid hC
  clear hE hC
  cases hI : isCard ⟨st, da, dy, ki, am, fi⟩ with
  | false =>
    have HM : Hid (movedR ⟨st, da, dy, ki, am, fi⟩ m = (zcard, 1)) := Lib.hid (by simp [movedR, hI])
    have HI := Lib.hid hI
    clear hI
    go_enter Tryz.func9, Tryz.ntmps9
    go_wp2_with fail
    have H36 := c36 st da dy ki am fi m (w.alloc (.cells #[.int .i64 st, .int .i64 da, .int .i64 dy, .int .i64 ki, .int .i64 am, .int .i64 fi] 24))
    rw [HM.out] at H36
    refine H36.mono ?_
    rintro e X1 ⟨rfl, hb1⟩
    clear H36
    have kb := new_card (c := ⟨st, da, dy, ki, am, fi⟩) hb1
    obtain ⟨t0, t1, t2, t3, t4, t5, tF, tL⟩ := cellsOf_at kb
    have hB1 : Below w.heap.size w X1 := (below_alloc w _).trans (hb1.mono (by simp))
    simp only [cv, zcard]
    obtain ⟨B, hB⟩ : ∃ B, X1.heap.size = B := ⟨_, rfl⟩
    have hBl : w.heap.size < B := by omega
    go_wp2_with fail
    obtain ⟨W2, hW2⟩ : ∃ W2, X1.alloc (.cells #[.int .i64 0, .int .i64 0, .int .i64 0, .int .i64 0, .int .i64 0, .int .i64 0] 24) = W2 := ⟨_, rfl⟩
    have hs2 : W2.heap.size = B + 1 := by rw [← hW2]; simp; omega
    have k1 : W2.heap[w.heap.size]? = some (cellsOf ⟨st, da, dy, ki, am, fi⟩) := by rw [← hW2, Below.heap_alloc _ _ _ (by omega)]; exact kb
    have k2 : W2.heap[B]? = some (cellsOf ⟨0, 0, 0, 0, 0, 0⟩) := by rw [← hW2]; exact new_block _ _ _ hB
    have hB2 : Below w.heap.size w W2 := by rw [← hW2]; exact xa hB1 _
    have hK : ∀ X, Below W2.heap.size W2 X → X.heap[w.heap.size]? = some (cellsOf ⟨st, da, dy, ki, am, fi⟩) ∧ X.heap[B]? = some (cellsOf ⟨0, 0, 0, 0, 0, 0⟩) := fun X hX => ⟨(hX.block _ (by omega)).trans k1, (hX.block _ (by omega)).trans k2⟩
    have HK := Lib.hid hK
    rw [hW2]
    clear hW2 kb k1 k2 hK t0 t1 t2 t3 t4 t5 tF tL hb1 hB1 hB X1
    refine (c37 st da dy ki am fi W2).mono ?_
    rw [HI.out]
    rintro e X ⟨rfl, hb⟩
    obtain ⟨k1, k2⟩ := HK.out X hb
    obtain ⟨t0, t1, t2, t3, t4, t5, tF, tL⟩ := cellsOf_at k1
    obtain ⟨u0, u1, u2, u3, u4, u5, uF, uL⟩ := cellsOf_at k2
    have hX : Below w.heap.size w X := hB2.trans (hb.mono hB2.size)
    have hE := Lib.hid (HE.out.below hX)
    have hC := Lib.hid (HC.out.below hX HC.out.lt)
    clear k1 k2
    go_wp2_with fail
    refine (c22 X hE.out hC.out).mono ?_
    rintro e X5 ⟨rfl, hb5⟩
    obtain ⟨-, k2⟩ := HK.out X5 (hb.trans (hb5.mono hb.size))
    obtain ⟨v0, v1, v2, v3, v4, v5, vF, vL⟩ := cellsOf_at k2
    clear k2
    go_wp2_with fail
    go_ret
    exact ⟨rfl, hX.trans (hb5.mono hX.size)⟩
  | true =>
    obtain ⟨-, -, h3, h4, -⟩ := isCard_true hI
    simp only at h3 h4
    by_cases h1 : m < -da
    · have HM : Hid (movedR ⟨st, da, dy, ki, am, fi⟩ m = (zcard, 3)) := Lib.hid (by simp [movedR, hI, h1])
      have HI := Lib.hid hI
      clear hI
      go_enter Tryz.func9, Tryz.ntmps9
      go_wp2_with fail
      have H36 := c36 st da dy ki am fi m (w.alloc (.cells #[.int .i64 st, .int .i64 da, .int .i64 dy, .int .i64 ki, .int .i64 am, .int .i64 fi] 24))
      rw [HM.out] at H36
      refine H36.mono ?_
      rintro e X1 ⟨rfl, hb1⟩
      clear H36
      have kb := new_card (c := ⟨st, da, dy, ki, am, fi⟩) hb1
      obtain ⟨t0, t1, t2, t3, t4, t5, tF, tL⟩ := cellsOf_at kb
      have hB1 : Below w.heap.size w X1 := (below_alloc w _).trans (hb1.mono (by simp))
      simp only [cv, zcard]
      obtain ⟨B, hB⟩ : ∃ B, X1.heap.size = B := ⟨_, rfl⟩
      have hBl : w.heap.size < B := by omega
      go_wp2_with fail
      obtain ⟨W2, hW2⟩ : ∃ W2, X1.alloc (.cells #[.int .i64 0, .int .i64 0, .int .i64 0, .int .i64 0, .int .i64 0, .int .i64 0] 24) = W2 := ⟨_, rfl⟩
      have hs2 : W2.heap.size = B + 1 := by rw [← hW2]; simp; omega
      have k1 : W2.heap[w.heap.size]? = some (cellsOf ⟨st, da, dy, ki, am, fi⟩) := by rw [← hW2, Below.heap_alloc _ _ _ (by omega)]; exact kb
      have k2 : W2.heap[B]? = some (cellsOf ⟨0, 0, 0, 0, 0, 0⟩) := by rw [← hW2]; exact new_block _ _ _ hB
      have hB2 : Below w.heap.size w W2 := by rw [← hW2]; exact xa hB1 _
      have hK : ∀ X, Below W2.heap.size W2 X → X.heap[w.heap.size]? = some (cellsOf ⟨st, da, dy, ki, am, fi⟩) ∧ X.heap[B]? = some (cellsOf ⟨0, 0, 0, 0, 0, 0⟩) := fun X hX => ⟨(hX.block _ (by omega)).trans k1, (hX.block _ (by omega)).trans k2⟩
      have HK := Lib.hid hK
      rw [hW2]
      clear hW2 kb k1 k2 hK t0 t1 t2 t3 t4 t5 tF tL hb1 hB1 hB X1
      refine (c37 st da dy ki am fi W2).mono ?_
      rw [HI.out]
      rintro e X ⟨rfl, hb⟩
      obtain ⟨k1, k2⟩ := HK.out X hb
      obtain ⟨t0, t1, t2, t3, t4, t5, tF, tL⟩ := cellsOf_at k1
      obtain ⟨u0, u1, u2, u3, u4, u5, uF, uL⟩ := cellsOf_at k2
      have hX : Below w.heap.size w X := hB2.trans (hb.mono hB2.size)
      have hE := Lib.hid (HE.out.below hX)
      have hC := Lib.hid (HC.out.below hX HC.out.lt)
      clear k1 k2
      go_wp2_with fail
      refine (c22 X hE.out hC.out).mono ?_
      rintro e X5 ⟨rfl, hb5⟩
      obtain ⟨-, k2⟩ := HK.out X5 (hb.trans (hb5.mono hb.size))
      obtain ⟨v0, v1, v2, v3, v4, v5, vF, vL⟩ := cellsOf_at k2
      clear k2
      go_wp2_with fail
      go_ret
      exact ⟨rfl, hX.trans (hb5.mono hX.size)⟩
    · by_cases h2 : 60000 - da < m
      · have HM : Hid (movedR ⟨st, da, dy, ki, am, fi⟩ m = (zcard, 3)) := Lib.hid (by simp [movedR, hI, h2])
        have HI := Lib.hid hI
        clear hI
        go_enter Tryz.func9, Tryz.ntmps9
        go_wp2_with fail
        have H36 := c36 st da dy ki am fi m (w.alloc (.cells #[.int .i64 st, .int .i64 da, .int .i64 dy, .int .i64 ki, .int .i64 am, .int .i64 fi] 24))
        rw [HM.out] at H36
        refine H36.mono ?_
        rintro e X1 ⟨rfl, hb1⟩
        clear H36
        have kb := new_card (c := ⟨st, da, dy, ki, am, fi⟩) hb1
        obtain ⟨t0, t1, t2, t3, t4, t5, tF, tL⟩ := cellsOf_at kb
        have hB1 : Below w.heap.size w X1 := (below_alloc w _).trans (hb1.mono (by simp))
        simp only [cv, zcard]
        obtain ⟨B, hB⟩ : ∃ B, X1.heap.size = B := ⟨_, rfl⟩
        have hBl : w.heap.size < B := by omega
        go_wp2_with fail
        obtain ⟨W2, hW2⟩ : ∃ W2, X1.alloc (.cells #[.int .i64 0, .int .i64 0, .int .i64 0, .int .i64 0, .int .i64 0, .int .i64 0] 24) = W2 := ⟨_, rfl⟩
        have hs2 : W2.heap.size = B + 1 := by rw [← hW2]; simp; omega
        have k1 : W2.heap[w.heap.size]? = some (cellsOf ⟨st, da, dy, ki, am, fi⟩) := by rw [← hW2, Below.heap_alloc _ _ _ (by omega)]; exact kb
        have k2 : W2.heap[B]? = some (cellsOf ⟨0, 0, 0, 0, 0, 0⟩) := by rw [← hW2]; exact new_block _ _ _ hB
        have hB2 : Below w.heap.size w W2 := by rw [← hW2]; exact xa hB1 _
        have hK : ∀ X, Below W2.heap.size W2 X → X.heap[w.heap.size]? = some (cellsOf ⟨st, da, dy, ki, am, fi⟩) ∧ X.heap[B]? = some (cellsOf ⟨0, 0, 0, 0, 0, 0⟩) := fun X hX => ⟨(hX.block _ (by omega)).trans k1, (hX.block _ (by omega)).trans k2⟩
        have HK := Lib.hid hK
        rw [hW2]
        clear hW2 kb k1 k2 hK t0 t1 t2 t3 t4 t5 tF tL hb1 hB1 hB X1
        refine (c37 st da dy ki am fi W2).mono ?_
        rw [HI.out]
        rintro e X ⟨rfl, hb⟩
        obtain ⟨k1, k2⟩ := HK.out X hb
        obtain ⟨t0, t1, t2, t3, t4, t5, tF, tL⟩ := cellsOf_at k1
        obtain ⟨u0, u1, u2, u3, u4, u5, uF, uL⟩ := cellsOf_at k2
        have hX : Below w.heap.size w X := hB2.trans (hb.mono hB2.size)
        have hE := Lib.hid (HE.out.below hX)
        have hC := Lib.hid (HC.out.below hX HC.out.lt)
        clear k1 k2
        go_wp2_with fail
        refine (c22 X hE.out hC.out).mono ?_
        rintro e X5 ⟨rfl, hb5⟩
        obtain ⟨-, k2⟩ := HK.out X5 (hb.trans (hb5.mono hb.size))
        obtain ⟨v0, v1, v2, v3, v4, v5, vF, vL⟩ := cellsOf_at k2
        clear k2
        go_wp2_with fail
        go_ret
        exact ⟨rfl, hX.trans (hb5.mono hX.size)⟩
      · have HM : Hid (movedR ⟨st, da, dy, ki, am, fi⟩ m = (⟨st, da + m, dy, ki, am, fi⟩, 0)) := Lib.hid (by simp [movedR, hI, h1, h2])
        have HI := Lib.hid hI
        clear hI
        go_enter Tryz.func9, Tryz.ntmps9
        go_wp2_with fail
        have H36 := c36 st da dy ki am fi m (w.alloc (.cells #[.int .i64 st, .int .i64 da, .int .i64 dy, .int .i64 ki, .int .i64 am, .int .i64 fi] 24))
        rw [HM.out] at H36
        refine H36.mono ?_
        rintro e X1 ⟨rfl, hb1⟩
        clear H36
        have kb := new_card (c := ⟨st, da, dy, ki, am, fi⟩) hb1
        obtain ⟨t0, t1, t2, t3, t4, t5, tF, tL⟩ := cellsOf_at kb
        have hB1 : Below w.heap.size w X1 := (below_alloc w _).trans (hb1.mono (by simp))
        simp only [cv, zcard]
        obtain ⟨B, hB⟩ : ∃ B, X1.heap.size = B := ⟨_, rfl⟩
        have hBl : w.heap.size < B := by omega
        go_wp2_with fail
        obtain ⟨W2, hW2⟩ : ∃ W2, X1.alloc (.cells #[.int .i64 st, .int .i64 (da + m), .int .i64 dy, .int .i64 ki, .int .i64 am, .int .i64 fi] 24) = W2 := ⟨_, rfl⟩
        have hs2 : W2.heap.size = B + 1 := by rw [← hW2]; simp; omega
        have k1 : W2.heap[w.heap.size]? = some (cellsOf ⟨st, da, dy, ki, am, fi⟩) := by rw [← hW2, Below.heap_alloc _ _ _ (by omega)]; exact kb
        have k2 : W2.heap[B]? = some (cellsOf ⟨st, da + m, dy, ki, am, fi⟩) := by rw [← hW2]; exact new_block _ _ _ hB
        have hB2 : Below w.heap.size w W2 := by rw [← hW2]; exact xa hB1 _
        have hK : ∀ X, Below W2.heap.size W2 X → X.heap[w.heap.size]? = some (cellsOf ⟨st, da, dy, ki, am, fi⟩) ∧ X.heap[B]? = some (cellsOf ⟨st, da + m, dy, ki, am, fi⟩) := fun X hX => ⟨(hX.block _ (by omega)).trans k1, (hX.block _ (by omega)).trans k2⟩
        have HK := Lib.hid hK
        rw [hW2]
        clear hW2 kb k1 k2 hK t0 t1 t2 t3 t4 t5 tF tL hb1 hB1 hB X1
        refine (c37 st da dy ki am fi W2).mono ?_
        rw [HI.out]
        rintro e X ⟨rfl, hb⟩
        obtain ⟨k1, k2⟩ := HK.out X hb
        obtain ⟨t0, t1, t2, t3, t4, t5, tF, tL⟩ := cellsOf_at k1
        obtain ⟨u0, u1, u2, u3, u4, u5, uF, uL⟩ := cellsOf_at k2
        have hX : Below w.heap.size w X := hB2.trans (hb.mono hB2.size)
        have hE := Lib.hid (HE.out.below hX)
        have hC := Lib.hid (HC.out.below hX HC.out.lt)
        clear k1 k2
        go_wp2_with fail
        obtain ⟨B7, hB7⟩ : ∃ B7, X.heap.size = B7 := ⟨_, rfl⟩
        rw [hB7]
        have H22 := c22 (X.alloc (.cells #[.int .i64 st, .int .i64 (da + m), .int .i64 dy, .int .i64 ki, .int .i64 am, .int .i64 fi] 24)) (hE.out.below (below_alloc _ _)) (hC.out.below (below_alloc _ _) hC.out.lt)
        refine H22.mono ?_
        rintro e X5 ⟨rfl, hb5⟩
        have k7 := new_card (c := ⟨st, da + m, dy, ki, am, fi⟩) hb5
        rw [hB7] at k7
        have hb6 := (below_alloc X (.cells #[.int .i64 st, .int .i64 (da + m), .int .i64 dy, .int .i64 ki, .int .i64 am, .int .i64 fi] 24)).trans (hb5.mono (by simp))
        obtain ⟨-, k2⟩ := HK.out X5 (hb.trans (hb6.mono hb.size))
        obtain ⟨v0, v1, v2, v3, v4, v5, vF, vL⟩ := cellsOf_at k2
        obtain ⟨z0, z1, z2, z3, z4, z5, zF, zL⟩ := cellsOf_at k7
        clear k2 k7 H22 hb5
        go_wp2_with fail
        go_ret
        exact ⟨rfl, hX.trans (hb6.mono hX.size)⟩
theorem w9 (st da dy ki am fi m : Int) (w : World) (_ : intIn st) (_ : intIn da) (_ : intIn dy) (_ : intIn ki) (_ : intIn am) (_ : intIn fi) (_ : intIn m) (hE : Env w) (hC : Cell0 w) : Calls Tryz.prog 9 #[.agg #[.int .i64 st, .int .i64 da, .int .i64 dy, .int .i64 ki, .int .i64 am, .int .i64 fi], .int .i64 m] w fun e w' => e = .returned (.bool true) ∧ Below w.heap.size w w' := c9 st da dy ki am fi m w hE hC
end Go.Proofs.YthifeoebefbalaaGreatDoor

namespace Go.Proofs.YthifeoebefbalaaGreatDoor
open Go.RowKit

/-- Hundredths with two digits behind the point. -/
def fixedText (n : Int) : List UInt8 := Lib.itoa (n / 100) ++ 46 :: (Lib.itoa (n / 10 % 10) ++ Lib.itoa (n % 10))
end Go.Proofs.YthifeoebefbalaaGreatDoor

namespace Go.Proofs.YthifeoebefbalaaGreatDoor
open Go.RowKit

theorem hundred_digits (r : Int) (h0 : 0 ≤ r) (h1 : r < 100) : (Lib.itoa (100 + r)).drop 1 = Lib.itoa (r / 10) ++ Lib.itoa (r % 10) := by
  have e1 : (100 + r) / 10 % 10 = r / 10 % 10 := by omega
  have e2 : (100 + r) % 10 = r % 10 % 10 := by omega
  rw [itoa_more (100 + r) (by omega) (by omega), itoa_more ((100 + r) / 10) (by omega) (by omega), itoa_one ((100 + r) / 10 / 10) (by omega) (by omega), itoa_one (r / 10) (by omega) (by omega), itoa_one (r % 10) (by omega) (by omega), e1, e2]
  rfl
theorem fixed_two (n : Int) (h0 : 0 ≤ n) : fixedText n = decText n 2 := by
  have e1 : n % 100 / 10 = n / 10 % 10 := by omega
  have e2 : n % 100 % 10 = n % 10 := by omega
  rw [fixedText, decText, if_neg (by decide), hundred_digits (n % 100) (by omega) (by omega), e1, e2, itoa_one (n / 10 % 10) (by omega) (by omega), itoa_one (n % 10) (by omega) (by omega)]
  rfl
end Go.Proofs.YthifeoebefbalaaGreatDoor

namespace Go.Proofs.YthifeoebefbalaaGreatDoor
open Go.RowKit

theorem itoa_ne (n : Int) (h0 : 0 ≤ n) (h1 : n < 10000000000) : Lib.itoa n ≠ [] := by
  intro h
  have := (itoa_ten n h0 h1).2.2.1
  rw [h] at this
  simp at this
theorem two_of (n : Int) (h0 : 0 ≤ n) : Lib.itoa (n / 10 % 10) ++ Lib.itoa (n % 10) = twoL (n % 100) := by
  rw [itoa_dgt (n / 10 % 10) (by omega) (by omega), itoa_dgt (n % 10) (by omega) (by omega), twoL, show n % 100 / 10 % 10 = n / 10 % 10 by omega, show n % 100 % 10 = n % 10 by omega]
  rfl
theorem dec2 (n : Int) (h0 : 0 ≤ n) : decText n 2 = Lib.itoa (n / 100) ++ 46 :: twoL (n % 100) := by rw [← fixed_two n h0, fixedText, two_of n h0]
theorem itoa_digs (n : Int) (h0 : 0 ≤ n) (h1 : n < 10000000000) : ∀ c ∈ Lib.itoa n, isDig c = true := (itoa_ten n h0 h1).2.1
theorem am2 (n : Int) (h0 : 0 ≤ n) (h1 : n ≤ 200000) : AmW (decText n 2) ∧ hunO (decText n 2) = some (n, 1) := by
  have hd := itoa_digs (n / 100) (by omega) (by omega)
  rw [dec2 n h0]
  refine ⟨am_join hd (twoL_dig _) (by decide), ?_⟩
  have e1 : (twoL (n % 100)).length = 2 := rfl
  have e2 : (Lib.itoa (n / 100)).isEmpty = false := by
    have := itoa_ne (n / 100) (by omega) (by omega)
    cases h : Lib.itoa (n / 100) with
    | nil => exact absurd h this
    | cons _ _ => rfl
  rw [hun_digs hd (by decide), hun2, e2, (itoa_ten (n / 100) (by omega) (by omega)).2.2.2, twoL_num (n % 100) (by omega) (by omega), e1]
  simp
  omega
end Go.Proofs.YthifeoebefbalaaGreatDoor
