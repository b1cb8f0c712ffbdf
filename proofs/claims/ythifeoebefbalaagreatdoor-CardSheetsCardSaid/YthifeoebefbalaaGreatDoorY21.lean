/- The reference: sheets. -/
import Derived.Test.YthifeoebefbalaaGreatDoorY18
import Derived.Test.YthifeoebefbalaaGreatDoorX5
import Derived.Test.YthifeoebefbalaaGreatDoorY20
import Derived.Maps.AppendAt
set_option linter.unusedVariables false
set_option linter.unusedSimpArgs false
namespace Go.Proofs.YthifeoebefbalaaGreatDoor
open Go.RowKit

def OkLine : Rd → Prop
  | .got c => isCard c = true
  | .err x => x ≠ 0
  | .form => True
theorem okl_card (st : Int) (o : Option Int) (n k a f : Int) : OkLine (cardR st o n k a f) := by
  unfold cardR
  split
  · show (3 : Int) ≠ 0; decide
  · split
    · assumption
    · show (3 : Int) ≠ 0; decide
theorem okl_rest (st : Int) (nx : Bool) (d : Dt) (last : Card) (ws : List (List UInt8)) : OkLine (restR st nx d last ws) := by
  unfold restR
  split
  · trivial
  · split
    · trivial
    · split
      · exact okl_card _ _ _ _ _ _
      · trivial
theorem okl_line (t : List UInt8) (last : Card) : OkLine (lineR t last) := by
  unfold lineR
  split
  · show (2 : Int) ≠ 0; decide
  · unfold readRs
    split
    · trivial
    · split
      · trivial
      · split
        · trivial
        · split
          · trivial
          · exact okl_rest _ _ _ _ _
          · exact okl_rest _ _ _ _ _
theorem okl_cases {v : Rd} (h : OkLine v) : (∃ c, v = .got c ∧ isCard c = true) ∨ (rdC v = zcard ∧ rdE v ≠ 0) := by
  cases v with
  | got c => exact .inl ⟨c, rfl, h⟩
  | err x => exact .inr ⟨rfl, h⟩
  | form => exact .inr ⟨rfl, by decide⟩
def lastC (out : List Card) : Card := out.getLast?.getD zcard
theorem lastC_snoc (out : List Card) (c : Card) : lastC (out ++ [c]) = c := by simp [lastC]
theorem lastC_has {out : List Card} (h : ∀ c ∈ out, isCard c = true) : -1 ≤ (lastC out).da ∧ (lastC out).da ≤ 100000 := by
  rcases List.eq_nil_or_concat out with rfl | ⟨P, c, rfl⟩
  · exact ⟨by decide, by decide⟩
  · rw [List.concat_eq_append, lastC_snoc]
    have hc := isCard_true (h c (by simp))
    obtain ⟨-, -, h3, h4, -⟩ := hc
    exact ⟨by omega, by omega⟩
theorem card_pos {c : Card} (h : isCard c = true) : 0 < c.st := by
  obtain ⟨h1, -⟩ := isCard_true h
  omega
theorem own_none {X : World} {Bb : Nat} {v : Value} {xs : List Value} (h : X.ownsRow Bb 24 6 v 0 xs) : ∃ a cap, v = .slice a 0 cap := by
  obtain ⟨-, hc⟩ := h
  rcases hc with ⟨rfl, -⟩ | ⟨g, cap, cur, rfl, -⟩
  · exact ⟨none, 0, rfl⟩
  · exact ⟨_, cap, rfl⟩
theorem flat_last (P : List Card) (c : Card) (j : Nat) (hj : j < 6) : (flatC (P ++ [c]))[P.length * 6 + j]? = (cardCells c)[j]? := by
  rw [flatC_snoc, List.getElem?_append_right (by rw [flatC_len]; omega), flatC_len]
  congr 1
  omega
theorem own_last {X : World} {Bb : Nat} {v : Value} {P : List Card} {b0 b1 b2 b3 b4 b5 : Int} (h : X.ownsRow Bb 24 6 v (P ++ [(⟨b0, b1, b2, b3, b4, b5⟩ : Card)]).length (flatC (P ++ [(⟨b0, b1, b2, b3, b4, b5⟩ : Card)]))) : ∃ q cap, v = .slice (some ⟨q, 0, none⟩) (P.length + 1) cap ∧ q < X.heap.size ∧
    X.cell? ⟨q, P.length * 6, none⟩ = some (.int .i64 b0) ∧ X.cell? ⟨q, P.length * 6 + 1, none⟩ = some (.int .i64 b1) ∧ X.cell? ⟨q, P.length * 6 + 2, none⟩ = some (.int .i64 b2) ∧ X.cell? ⟨q, P.length * 6 + 3, none⟩ = some (.int .i64 b3) ∧ X.cell? ⟨q, P.length * 6 + 4, none⟩ = some (.int .i64 b4) ∧ X.cell? ⟨q, P.length * 6 + 5, none⟩ = some (.int .i64 b5) := by
  have h0 := h
  obtain ⟨hl, hc⟩ := h
  rcases hc with ⟨rfl, h1⟩ | ⟨g, cap, cur, rfl, hg, hh, hn, -⟩
  · simp at h1
  · have key : ∀ j, j < 6 → X.cell? ⟨g, P.length * 6 + j, none⟩ = (cardCells ⟨b0, b1, b2, b3, b4, b5⟩)[j]? := fun j hj => by
      rw [h0.cellAt _ (by simp; omega), flat_last P _ j hj]
    refine ⟨g, cap, by simp, (Array.getElem?_eq_some_iff.1 hh).1, ?_, ?_, ?_, ?_, ?_, ?_⟩
    · exact key 0 (by decide)
    · exact key 1 (by decide)
    · exact key 2 (by decide)
    · exact key 3 (by decide)
    · exact key 4 (by decide)
    · exact key 5 (by decide)
theorem own_cardsV {X : World} {Bb : Nat} {v : Value} {out : List Card} (h : X.ownsRow Bb 24 6 v out.length (flatC out)) : CardsV X v out := by
  have h0 := h
  obtain ⟨hl, hc⟩ := h
  rcases hc with ⟨rfl, h1⟩ | ⟨g, cap, cur, rfl, hg, hh, hn, -⟩
  · have : out = [] := List.length_eq_zero_iff.1 h1
    subst this
    exact ⟨none, 0, rfl, fun h => absurd rfl h⟩
  · refine ⟨_, cap, rfl, fun _ => ⟨g, 0, rfl, fun i c hi => ?_⟩⟩
    have hlt := (List.getElem?_eq_some_iff.1 hi).1
    have key : ∀ j, j < 6 → X.cell? ⟨g, 0 + i * 6 + j, none⟩ = (cardCells c)[j]? := fun j hj => by
      rw [Nat.zero_add, h0.cellAt _ (by omega)]
      have e : out = out.take i ++ [c] ++ out.drop (i + 1) := by
        have h1 : out.drop i = c :: out.drop (i + 1) := by
          rw [List.drop_eq_getElem_cons hlt]
          congr
          rw [List.getElem?_eq_getElem hlt] at hi
          injection hi
        rw [List.append_assoc, List.singleton_append, ← h1, List.take_append_drop]
      have hti : (out.take i).length = i := by rw [List.length_take]; omega
      rw [e]
      have e2 : flatC (out.take i ++ [c] ++ out.drop (i + 1)) = flatC (out.take i ++ [c]) ++ flatC (out.drop (i + 1)) := by simp [flatC]
      have := flat_last (out.take i) c j hj
      rw [hti] at this
      rw [e2, List.getElem?_append_left (by rw [flatC_len]; simp [hti]; omega), this]
    exact ⟨key 0 (by decide), key 1 (by decide), key 2 (by decide), key 3 (by decide), key 4 (by decide), key 5 (by decide)⟩
theorem own_below24 {w a b : World} {v : Value} {n : Nat} {xs : List Value} (h : Below w.heap.size w a) (hown : a.ownsRow w.heap.size 24 6 v n xs) (hg : a.grownBy b v.ownBlock) : Below w.heap.size w b :=
  h.grown hg h.size (fun k hk => by
    obtain ⟨_, hc⟩ := hown
    rcases hc with ⟨rfl, _⟩ | ⟨g, cap, cur, rfl, hg, _⟩
    · cases hk
    · simp [Value.ownBlock] at hk; omega)
theorem own_keep {a b : World} {Bb : Nat} {v : Value} {n : Nat} {xs : List Value} (h : a.ownsRow Bb 24 6 v n xs) (hb : Below a.heap.size a b) : b.ownsRow Bb 24 6 v n xs := h.kept (grown_none hb) (by cases v.ownBlock <;> simp)
theorem c35_gap {s : List UInt8} (h : s.all gapU = true) (hs : s.length ≤ 4000) : ∀ W, Hid (Calls Tryz.prog 35 #[.string ⟨s.toArray⟩] W fun e w' => (∃ a cap, e = .returned (.slice a 0 cap)) ∧ Below W.heap.size W w') := fun W => Lib.hid (by
  refine (c35 s W hs).mono fun e w' hh => ?_
  obtain ⟨v, rfl, ho, hb⟩ := hh
  have hw : wordsOf s = [] := by
    cases hw : wordsOf s with
    | nil => rfl
    | cons x r => rw [words_some s hw] at h; cases h
  rw [hw] at ho
  obtain ⟨a, cap, rfl, hc, k⟩ := own_strs ho
  exact ⟨⟨a, cap, rfl⟩, hb⟩)
theorem c35_word {s : List UInt8} (h : s.all gapU = false) (hs : s.length ≤ 4000) : ∀ W, Hid (Calls Tryz.prog 35 #[.string ⟨s.toArray⟩] W fun e w' => (∃ a m cap, e = .returned (.slice a (m + 1) cap)) ∧ Below W.heap.size W w') := fun W => Lib.hid (by
  refine (c35 s W hs).mono fun e w' hh => ?_
  obtain ⟨v, rfl, ho, hb⟩ := hh
  cases hw : wordsOf s with
  | nil => rw [words_blank s hw] at h; cases h
  | cons x r =>
    rw [hw] at ho
    obtain ⟨a, cap, rfl, hc, k⟩ := own_strs ho
    exact ⟨⟨a, r.length, cap, rfl⟩, hb⟩)
/-- What a line's region reads. -/
structure ShC (g i cb : Nat) (s : List UInt8) (b0 b1 b2 b3 b4 b5 : Int) (w : World) : Prop where
  s0 : w.cell? ⟨g, i, none⟩ = some (.string ⟨s.toArray⟩)
  k0 : w.cell? ⟨cb, 0, none⟩ = some (.int .i64 b0)
  k1 : w.cell? ⟨cb, 1, none⟩ = some (.int .i64 b1)
  k2 : w.cell? ⟨cb, 2, none⟩ = some (.int .i64 b2)
  k3 : w.cell? ⟨cb, 3, none⟩ = some (.int .i64 b3)
  k4 : w.cell? ⟨cb, 4, none⟩ = some (.int .i64 b4)
  k5 : w.cell? ⟨cb, 5, none⟩ = some (.int .i64 b5)
theorem ShC.grows {g i cb : Nat} {s : List UInt8} {b0 b1 b2 b3 b4 b5 : Int} : ∀ w w' : World, ShC g i cb s b0 b1 b2 b3 b4 b5 w → Grown w w' → ShC g i cb s b0 b1 b2 b3 b4 b5 w' := fun w w' ⟨s0, k0, k1, k2, k3, k4, k5⟩ hg =>
  ⟨(hg.cell (p := ⟨g, i, none⟩) (World.block_lt_of_cell? w _ s0)).trans s0, (hg.cell (p := ⟨cb, 0, none⟩) (World.block_lt_of_cell? w _ k0)).trans k0, (hg.cell (p := ⟨cb, 1, none⟩) (World.block_lt_of_cell? w _ k1)).trans k1, (hg.cell (p := ⟨cb, 2, none⟩) (World.block_lt_of_cell? w _ k2)).trans k2, (hg.cell (p := ⟨cb, 3, none⟩) (World.block_lt_of_cell? w _ k3)).trans k3, (hg.cell (p := ⟨cb, 4, none⟩) (World.block_lt_of_cell? w _ k4)).trans k4, (hg.cell (p := ⟨cb, 5, none⟩) (World.block_lt_of_cell? w _ k5)).trans k5⟩
theorem ShC.other {g i cb b : Nat} {s : List UInt8} {b0 b1 b2 b3 b4 b5 : Int} {w w' : World} (h : ShC g i cb s b0 b1 b2 b3 b4 b5 w) (h1 : ¬ g = b) (h2 : ¬ cb = b) (hc : ∀ p : Addr, ¬ p.block = b → w'.cell? p = w.cell? p) : ShC g i cb s b0 b1 b2 b3 b4 b5 w' :=
  ⟨(hc ⟨g, i, none⟩ h1).trans h.s0, (hc ⟨cb, 0, none⟩ h2).trans h.k0, (hc ⟨cb, 1, none⟩ h2).trans h.k1, (hc ⟨cb, 2, none⟩ h2).trans h.k2, (hc ⟨cb, 3, none⟩ h2).trans h.k3, (hc ⟨cb, 4, none⟩ h2).trans h.k4, (hc ⟨cb, 5, none⟩ h2).trans h.k5⟩
theorem keep33 {P : Program} {ops : Array Oper} {Q : Exit → Act → World → Prop} {o : Op} {ty : TypeId} {ps : String} {af : Array Edge} {gd : Option (Nat × Bool)} {rest : List Oper} {a : Act} {w : World} (h : wpList P ops Q (⟨some 33, o, ty, ps, af, gd⟩ :: rest) a w) : wpList P ops Q (⟨some 33, o, ty, ps, af, gd⟩ :: rest) a w := h
theorem own_snoc24 {W : World} {Bb : Nat} {v : Value} {l : List Card} {c : Card} (h : W.ownsRow Bb 24 6 v (l.length + 1) (flatC l ++ cardCells c)) : W.ownsRow Bb 24 6 v (l ++ [c]).length (flatC (l ++ [c])) := by
  rw [flatC_snoc]
  simpa using h
set_option maxRecDepth 100000 in
set_option maxHeartbeats 16000000 in
theorem c38_main (text : List UInt8) (w : World) (hl : text.length ≤ 4000) (hn : ¬ 100 < (linesR text).length) : Calls Tryz.prog 38 #[.string ⟨text.toArray⟩] w fun e w' => ∃ v, e = .returned (.agg #[v, .int .i64 (sheetFrom (linesR text) 0 [] zcard).2.1, .int .i64 (sheetFrom (linesR text) 0 [] zcard).2.2]) ∧ CardsV w' v (sheetFrom (linesR text) 0 [] zcard).1 ∧ Below w.heap.size w w' := by
  obtain ⟨inf, i1, i2, i3, i4⟩ := info24
  have H34 := fun W => Lib.hid (c34 text W hl)
  have HMEM : Hid (∀ p ∈ linesR text, p.length ≤ 4000) := Lib.hid fun p hp => by
    have h1 : p ∈ splitL 10 text := by
      unfold linesR at hp
      split at hp
      · exact (List.dropLast_sublist _).subset hp
      · exact hp
    have := splitL_mem 10 text p h1
    omega
  obtain ⟨ls, hls⟩ : ∃ ls, linesR text = ls := ⟨_, rfl⟩
  rw [hls] at H34 HMEM hn ⊢
  obtain ⟨R, hR⟩ : ∃ R, sheetFrom ls 0 [] zcard = R := ⟨_, rfl⟩
  rw [hR]
  have HR := Lib.hid hR
  clear hR hls
  go_enter Tryz.func38, Tryz.ntmps38
  go_wp2_with fail
  refine (H34 _).out.mono ?_
  rintro e w1 ⟨v0, rfl, hsv, hb1⟩
  obtain ⟨a, cap, rfl, hcap, kk⟩ := hsv
  have r0 := cell_on (p := ⟨w.heap.size, 0, none⟩) (v := .slice none 0 0) hb1 (by simp [go_sem])
  have r1 := cell_on (p := ⟨w.heap.size, 1, none⟩) (v := .int .i64 0) hb1 (by simp [go_sem])
  have r2 := cell_on (p := ⟨w.heap.size, 2, none⟩) (v := .int .i64 0) hb1 (by simp [go_sem])
  have rF : ∀ j, w1.frozen? ⟨w.heap.size, j, none⟩ = false := fun j => (hb1.frozen (p := ⟨w.heap.size, j, none⟩) (by simp)).trans (by simp [go_sem])
  have lw : w.heap.size < w1.heap.size := World.block_lt_of_cell? _ _ r0
  have hB1 : Below w.heap.size w w1 := below_trans (below_alloc _ _) hb1
  have KK := Lib.hid kk
  clear hb1 kk H34
  obtain ⟨n, hnl⟩ : ∃ n, ls.length = n := ⟨_, rfl⟩
  rw [hnl] at hn hcap ⊢
  have HN := Lib.hid hnl
  clear hnl
  go_wp2_with fail
  go_loopw [4, 5] (fun v k wr => ∃ (i : Nat) (out : List Card), i ≤ n ∧ out.length ≤ i ∧ k = .int .i64 i ∧ Hid (wr.ownsRow w1.heap.size 24 6 v out.length (flatC out)) ∧ Hid (Below w1.heap.size w1 wr) ∧ Hid (∀ c ∈ out, isCard c = true) ∧ Hid (sheetFrom (ls.drop i) i out (lastC out) = R)) (fun _ k _ => n - (intOf k).toNat)
  case atStart => exact ⟨0, [], by omega, by simp, rfl, Lib.hid (ownsNil _ _), Lib.hid (xr _), Lib.hid (by simp), Lib.hid (by rw [List.drop_zero]; exact HR.out)⟩
  case round =>
    obtain ⟨i, out, hi, hol, rfl, hown, hbw, HALL, hr⟩ := hrel
    by_cases hlt : i < n
    · obtain ⟨s, hsk⟩ : ∃ s, ls[i]? = some s := ⟨ls[i]'(by have := HN.out; omega), by simp⟩
      have hdrop : ls.drop i = s :: ls.drop (i + 1) := by
        have h1 : i < ls.length := by have := HN.out; omega
        rw [List.drop_eq_getElem_cons h1]
        congr
        rw [List.getElem?_eq_getElem h1] at hsk
        injection hsk
      have hr2 := hr.out
      rw [hdrop, sheetFrom] at hr2
      obtain ⟨g, rfl, hg, hk⟩ := KK.out (fun e => by rw [e] at hsk; cases hsk)
      have hc := (hbw.out.cell (p := ⟨g, i, none⟩) hg).trans (hk i s hsk)
      have lg : g < wr.heap.size := World.block_lt_of_cell? _ _ hc
      have hslen := HMEM.out s (List.mem_of_getElem? hsk)
      clear hdrop hsk hr hk hg KK
      cases hb : s.all gapU with
      | true =>
        rw [if_pos hb] at hr2
        have HR2 := Lib.hid hr2
        have H35 := c35_gap hb hslen
        clear hr2 hb
        go_wp2_with (go_at_call 35; refine (H35 _).out.mono ?_; rintro e w2 ⟨⟨a', cap', rfl⟩, hb2⟩)
        go_roundw
        case rel => exact ⟨i + 1, out, by omega, by omega, by go_num, Lib.hid (own_keep hown.out hb2), Lib.hid (below_trans hbw.out hb2), HALL, by simpa using HR2⟩
        case measure => simp [intOf]; omega
      | false =>
        rcases List.eq_nil_or_concat out with rfl | ⟨P, c, eP⟩
        · rw [if_neg (by rw [hb]; exact Bool.false_ne_true)] at hr2
          obtain ⟨a2, cap2, rfl⟩ := own_none hown.out
          have hz : lastC [] = ⟨0, 0, 0, 0, 0, 0⟩ := rfl
          rw [hz] at hr2
          clear hz
          have H74 : ∀ W, Hid (Calls Tryz.prog 74 #[.string ⟨s.toArray⟩, .agg #[.int .i64 0, .int .i64 0, .int .i64 0, .int .i64 0, .int .i64 0, .int .i64 0], .bool false] W fun e w' => e = .returned (gotV (lineR s ⟨0, 0, 0, 0, 0, 0⟩)) ∧ Below W.heap.size W w') := fun W => Lib.hid (c74 s 0 0 0 0 0 0 W (by decide) (by decide))
          have hok : OkLine (lineR s ⟨0, 0, 0, 0, 0, 0⟩) := okl_line s _
          obtain ⟨rl, hrl⟩ : ∃ rl, lineR s ⟨0, 0, 0, 0, 0, 0⟩ = rl := ⟨_, rfl⟩
          rw [hrl] at H74 hr2 hok
          clear hrl
          have hok2 : rdE rl = 0 → isCard (rdC rl) = true := fun h => by
            rcases okl_cases hok with ⟨c, rfl, hc⟩ | ⟨-, h2⟩
            · exact hc
            · exact absurd h h2
          obtain ⟨C, hC⟩ : ∃ C, rdC rl = C := ⟨_, rfl⟩
          obtain ⟨f6, hE⟩ : ∃ f6, rdE rl = f6 := ⟨_, rfl⟩
          unfold gotV at H74
          rw [hC, hE] at H74 hr2 hok2
          clear hC hE hok rl
          obtain ⟨f0, f1, f2, f3, f4, f5⟩ := C
          simp only at H74
          by_cases hx : f6 = 0
          · subst hx
            rw [if_pos rfl] at hr2
            have HALL2 : Hid (∀ c ∈ [] ++ [⟨f0, f1, f2, f3, f4, f5⟩], isCard c = true) := Lib.hid (fun c hc => by
              rcases List.mem_append.1 hc with h | h
              · exact HALL.out c h
              · simp at h; rw [h]; exact hok2 rfl)
            have HR2 : Hid (sheetFrom (ls.drop (i + 1)) ((i + 1 : Nat) : Int) ([] ++ [⟨f0, f1, f2, f3, f4, f5⟩]) (lastC ([] ++ [⟨f0, f1, f2, f3, f4, f5⟩])) = R) := Lib.hid (by rw [lastC_snoc]; simpa using hr2)
            clear hr2 hok2 HALL
            have H35 := c35_word hb hslen
            clear hb
            go_wp2_with fail
            refine (H35 _).out.mono ?_
            rintro e w2 ⟨⟨a', m', cap', rfl⟩, hb2⟩
            have hc2 := cell_on hb2 hc
            have lg2 : g < w2.heap.size := World.block_lt_of_cell? _ _ hc2
            have hown2 := Lib.hid (own_keep hown.out hb2)
            have hb2' := below_trans hbw.out hb2
            clear H35 hb2 hc hown hbw
            go_wp2_with fail
            obtain ⟨V, hV⟩ : ∃ V, w2.alloc (.cells #[.int .i64 0, .int .i64 0, .int .i64 0, .int .i64 0, .int .i64 0, .int .i64 0] 24) = V := ⟨_, rfl⟩
            have hBV : Below w2.heap.size w2 V := by rw [← hV]; exact below_alloc _ _
            have hL : ShC g i w2.heap.size s 0 0 0 0 0 0 V := by
              rw [← hV]
              exact ⟨((below_alloc w2 _).cell (p := ⟨g, i, none⟩) lg2).trans hc2, by simp [go_sem], by simp [go_sem], by simp [go_sem], by simp [go_sem], by simp [go_sem], by simp [go_sem]⟩
            rw [hV]
            clear hV
            obtain ⟨cb, hcb⟩ : ∃ cb, w2.heap.size = cb := ⟨_, rfl⟩
            rw [hcb] at hL ⊢
            have lcV : cb < V.heap.size := World.block_lt_of_cell? _ _ hL.k0
            refine wp_region_class (ShC g i cb s 0 0 0 0 0 0) (by kernel_rfl) fun x0 => ?_
            refine WC_take0 (V := V) (v := ?_) (a' := ?_) 0 ShC.grows rfl (by kernel_rfl) (by kernel_rfl) (by kernel_rfl) hL ⟨rfl, fun w' hw' => ?_⟩ ?_ 37 rfl (by kernel_rfl) fun x0 => ?_
            rotate_left 2
            · obtain ⟨s0, k0, k1, k2, k3, k4, k5⟩ := hw'
              have l1 : g < w'.heap.size := World.block_lt_of_cell? _ _ s0
              have l2 : cb < w'.heap.size := World.block_lt_of_cell? _ _ k0
              go_big_quiet_op; exact rfl
            · exact rfl
            refine WC_take0 (V := V) (v := ?_) (a' := ?_) 1 ShC.grows rfl (by kernel_rfl) (by kernel_rfl) (by kernel_rfl) hL ⟨rfl, fun w' hw' => ?_⟩ ?_ 38 rfl (by kernel_rfl) fun x0 => ?_
            rotate_left 2
            · obtain ⟨s0, k0, k1, k2, k3, k4, k5⟩ := hw'
              have l1 : g < w'.heap.size := World.block_lt_of_cell? _ _ s0
              have l2 : cb < w'.heap.size := World.block_lt_of_cell? _ _ k0
              go_big_quiet_op; exact rfl
            · exact rfl
            refine WC_take0 (V := V) (v := ?_) (a' := ?_) 2 ShC.grows rfl (by kernel_rfl) (by kernel_rfl) (by kernel_rfl) hL ⟨rfl, fun w' hw' => ?_⟩ ?_ 39 rfl (by kernel_rfl) fun x0 => ?_
            rotate_left 2
            · obtain ⟨s0, k0, k1, k2, k3, k4, k5⟩ := hw'
              have l1 : g < w'.heap.size := World.block_lt_of_cell? _ _ s0
              have l2 : cb < w'.heap.size := World.block_lt_of_cell? _ _ k0
              go_big_quiet_op; exact rfl
            · exact rfl
            refine WC_take0 (V := V) (v := ?_) (a' := ?_) 3 ShC.grows rfl (by kernel_rfl) (by kernel_rfl) (by kernel_rfl) hL ⟨rfl, fun w' hw' => ?_⟩ ?_ 40 rfl (by kernel_rfl) fun x0 => ?_
            rotate_left 2
            · obtain ⟨s0, k0, k1, k2, k3, k4, k5⟩ := hw'
              have l1 : g < w'.heap.size := World.block_lt_of_cell? _ _ s0
              have l2 : cb < w'.heap.size := World.block_lt_of_cell? _ _ k0
              go_big_quiet_op; exact rfl
            · exact rfl
            refine WC_take0 (V := V) (v := ?_) (a' := ?_) 4 ShC.grows rfl (by kernel_rfl) (by kernel_rfl) (by kernel_rfl) hL ⟨rfl, fun w' hw' => ?_⟩ ?_ 41 rfl (by kernel_rfl) fun x0 => ?_
            rotate_left 2
            · obtain ⟨s0, k0, k1, k2, k3, k4, k5⟩ := hw'
              have l1 : g < w'.heap.size := World.block_lt_of_cell? _ _ s0
              have l2 : cb < w'.heap.size := World.block_lt_of_cell? _ _ k0
              go_big_quiet_op; exact rfl
            · exact rfl
            refine WC_take0 (V := V) (v := ?_) (a' := ?_) 5 ShC.grows rfl (by kernel_rfl) (by kernel_rfl) (by kernel_rfl) hL ⟨rfl, fun w' hw' => ?_⟩ ?_ 42 rfl (by kernel_rfl) fun x0 => ?_
            rotate_left 2
            · obtain ⟨s0, k0, k1, k2, k3, k4, k5⟩ := hw'
              have l1 : g < w'.heap.size := World.block_lt_of_cell? _ _ s0
              have l2 : cb < w'.heap.size := World.block_lt_of_cell? _ _ k0
              go_big_quiet_op; exact rfl
            · exact rfl
            refine WC_take0 (V := V) (v := ?_) (a' := ?_) 6 ShC.grows rfl (by kernel_rfl) (by kernel_rfl) (by kernel_rfl) hL ⟨rfl, fun w' hw' => ?_⟩ ?_ 43 rfl (by kernel_rfl) fun x0 => ?_
            rotate_left 2
            · obtain ⟨s0, k0, k1, k2, k3, k4, k5⟩ := hw'
              have l1 : g < w'.heap.size := World.block_lt_of_cell? _ _ s0
              have l2 : cb < w'.heap.size := World.block_lt_of_cell? _ _ k0
              go_big_quiet_op; exact rfl
            · exact rfl
            refine WC_take0 (V := V) (v := ?_) (a' := ?_) 7 ShC.grows rfl (by kernel_rfl) (by kernel_rfl) (by kernel_rfl) hL ⟨rfl, fun w' hw' => ?_⟩ ?_ 44 rfl (by kernel_rfl) fun x0 => ?_
            rotate_left 2
            · obtain ⟨s0, k0, k1, k2, k3, k4, k5⟩ := hw'
              have l1 : g < w'.heap.size := World.block_lt_of_cell? _ _ s0
              have l2 : cb < w'.heap.size := World.block_lt_of_cell? _ _ k0
              go_big_quiet_op; exact rfl
            · exact rfl
            refine WC_take0 (V := V) (v := ?_) (a' := ?_) 8 ShC.grows rfl (by kernel_rfl) (by kernel_rfl) (by kernel_rfl) hL ⟨rfl, fun w' hw' => ?_⟩ ?_ 45 rfl (by kernel_rfl) fun x0 => ?_
            rotate_left 2
            · go_big_quiet_op
              apply Exists.intro; refine ⟨fun n => ?_, ?_⟩
              · go_at_call 74
                exact gw_call (H74 _).out
              exact rfl
            · exact rfl
            have hL := ShC.grows _ _ hL (Grown.gw _ x0)
            have hGU : Grown V (gw V x0) := Grown.gw _ _
            obtain ⟨U, hU⟩ : ∃ U, gw V x0 = U := ⟨_, rfl⟩
            rw [hU] at hL hGU ⊢
            clear hU
            refine WC_all [9] (by kernel_rfl) (by simp) fun i' hi' => ?_
            rcases List.mem_singleton.1 hi' with rfl
            refine WG_op rfl rfl fun K hK => ?_
            go_big_op
            refine hK _ _ ⟨ShC.grows _ _ hL (below_alloc _ _), fun y => ?_⟩
            obtain ⟨b7, V7, e1, e2, q1, q2, q3, q4, qF, q5⟩ := new_at hGU #[.int .i64 0, .int .i64 0, .int .i64 0, .int .i64 0, .int .i64 0, .int .i64 0, .int .i64 0] 29 y
            replace hL := ShC.grows _ V7 hL q3
            rw [e1, e2]
            have hR7 : Res7 V7 b7 0 0 0 0 0 0 0 := ⟨q5 0, q5 1, q5 2, q5 3, q5 4, q5 5, q5 6, qF⟩
            have c0 := hR7.c0
            have c1 := hR7.c1
            have c2 := hR7.c2
            have c3 := hR7.c3
            have c4 := hR7.c4
            have c5 := hR7.c5
            have c6 := hR7.c6
            clear e1 e2 q5 hK K hGU
            refine WC_all [10] (by kernel_rfl) (by simp) fun i' hi' => ?_
            rcases List.mem_singleton.1 hi' with rfl
            refine WG_op rfl rfl fun K hK => ?_
            go_big_op
            clear c0 c1 c2 c3 c4 c5 c6
            obtain ⟨Y, hY, hR, hS, hB, hO, hFz⟩ := store7j hR7 f0 f1 f2 f3 f4 f5 0
            rw [hY]
            clear hY
            refine hK _ _ ⟨hL.other (by omega) (by omega) hO, fun y2 => ?_⟩
            have hBY : Below V.heap.size V Y := hB V q2 q1
            have lbY : b7 < Y.heap.size := by rw [hS]; exact q4
            refine WC_done (by kernel_rfl) ?_ _
            unfold NoPanic
            have hBZ := below_trans hBV (below_trans hBY (gw_below Y y2))
            have hGZ := gw_below Y y2
            obtain ⟨Z, hZ⟩ : ∃ Z, gw Y y2 = Z := ⟨_, rfl⟩
            rw [hZ] at hBZ hGZ ⊢
            have c0 := (hGZ.cell (p := ⟨b7, 0, none⟩) lbY).trans hR.c0
            have c1 := (hGZ.cell (p := ⟨b7, 1, none⟩) lbY).trans hR.c1
            have c2 := (hGZ.cell (p := ⟨b7, 2, none⟩) lbY).trans hR.c2
            have c3 := (hGZ.cell (p := ⟨b7, 3, none⟩) lbY).trans hR.c3
            have c4 := (hGZ.cell (p := ⟨b7, 4, none⟩) lbY).trans hR.c4
            have c5 := (hGZ.cell (p := ⟨b7, 5, none⟩) lbY).trans hR.c5
            have c6 := (hGZ.cell (p := ⟨b7, 6, none⟩) lbY).trans hR.c6
            have lbZ : b7 < Z.heap.size := World.block_lt_of_cell? _ _ c0
            clear hZ hGZ hK K hBY hBV hL hR hS hB hO hFz hR7 q1 q2 q3 q4 qF lbY H74 hc2 lg2
            have hownZ := Lib.hid (own_keep hown2.out hBZ)
            have h1Z := below_trans hb2' hBZ
            clear hown2 hb2' hBZ hcb lcV

            go_wp2_with (at_builtin; refine wpList_append_own _ rfl (.tmp 53) (.tmp 56) 49 rfl w1.heap.size 24 inf _ 6 48 Tryz.underlying49 i1 i2 i3 i4 rfl (by decide) _ _ _ rfl (hownZ.out.alloc _) ⟨Z.heap.size, 0, none⟩ 1 1 (cardCells ⟨f0, f1, f2, f3, f4, f5⟩) rfl rfl (card_at _ _ _ _ _ _ fun j => by simp [go_sem]) (card_one _) (by simp [maxLen] <;> omega) (by simp <;> omega) (by have := h1Z.size; simp <;> omega) ?_; intro v1 w3 hown1 hgrow1 _; have hB1 := Lib.hid (own_below24 (xa h1Z _) (hownZ.out.alloc _) hgrow1); clear hgrow1)
            go_roundw
            case rel => exact ⟨i + 1, [] ++ [⟨f0, f1, f2, f3, f4, f5⟩], by omega, by simp <;> omega, by go_num, Lib.hid (own_snoc24 hown1), hB1, HALL2, HR2⟩
            case measure => simp [intOf]; omega

          · have hx' : (f6 != 0) = true := by simpa using hx
            rw [if_neg hx] at hr2
            have HR2 := Lib.hid hr2
            clear hr2 hok2 HALL
            have H35 := c35_word hb hslen
            clear hb
            go_wp2_with fail
            refine (H35 _).out.mono ?_
            rintro e w2 ⟨⟨a', m', cap', rfl⟩, hb2⟩
            have hc2 := cell_on hb2 hc
            have lg2 : g < w2.heap.size := World.block_lt_of_cell? _ _ hc2
            have hown2 := Lib.hid (own_keep hown.out hb2)
            have hb2' := below_trans hbw.out hb2
            clear H35 hb2 hc hown hbw
            go_wp2_with fail
            obtain ⟨V, hV⟩ : ∃ V, w2.alloc (.cells #[.int .i64 0, .int .i64 0, .int .i64 0, .int .i64 0, .int .i64 0, .int .i64 0] 24) = V := ⟨_, rfl⟩
            have hBV : Below w2.heap.size w2 V := by rw [← hV]; exact below_alloc _ _
            have hL : ShC g i w2.heap.size s 0 0 0 0 0 0 V := by
              rw [← hV]
              exact ⟨((below_alloc w2 _).cell (p := ⟨g, i, none⟩) lg2).trans hc2, by simp [go_sem], by simp [go_sem], by simp [go_sem], by simp [go_sem], by simp [go_sem], by simp [go_sem]⟩
            rw [hV]
            clear hV
            obtain ⟨cb, hcb⟩ : ∃ cb, w2.heap.size = cb := ⟨_, rfl⟩
            rw [hcb] at hL ⊢
            have lcV : cb < V.heap.size := World.block_lt_of_cell? _ _ hL.k0
            refine wp_region_class (ShC g i cb s 0 0 0 0 0 0) (by kernel_rfl) fun x0 => ?_
            refine WC_take0 (V := V) (v := ?_) (a' := ?_) 0 ShC.grows rfl (by kernel_rfl) (by kernel_rfl) (by kernel_rfl) hL ⟨rfl, fun w' hw' => ?_⟩ ?_ 37 rfl (by kernel_rfl) fun x0 => ?_
            rotate_left 2
            · obtain ⟨s0, k0, k1, k2, k3, k4, k5⟩ := hw'
              have l1 : g < w'.heap.size := World.block_lt_of_cell? _ _ s0
              have l2 : cb < w'.heap.size := World.block_lt_of_cell? _ _ k0
              go_big_quiet_op; exact rfl
            · exact rfl
            refine WC_take0 (V := V) (v := ?_) (a' := ?_) 1 ShC.grows rfl (by kernel_rfl) (by kernel_rfl) (by kernel_rfl) hL ⟨rfl, fun w' hw' => ?_⟩ ?_ 38 rfl (by kernel_rfl) fun x0 => ?_
            rotate_left 2
            · obtain ⟨s0, k0, k1, k2, k3, k4, k5⟩ := hw'
              have l1 : g < w'.heap.size := World.block_lt_of_cell? _ _ s0
              have l2 : cb < w'.heap.size := World.block_lt_of_cell? _ _ k0
              go_big_quiet_op; exact rfl
            · exact rfl
            refine WC_take0 (V := V) (v := ?_) (a' := ?_) 2 ShC.grows rfl (by kernel_rfl) (by kernel_rfl) (by kernel_rfl) hL ⟨rfl, fun w' hw' => ?_⟩ ?_ 39 rfl (by kernel_rfl) fun x0 => ?_
            rotate_left 2
            · obtain ⟨s0, k0, k1, k2, k3, k4, k5⟩ := hw'
              have l1 : g < w'.heap.size := World.block_lt_of_cell? _ _ s0
              have l2 : cb < w'.heap.size := World.block_lt_of_cell? _ _ k0
              go_big_quiet_op; exact rfl
            · exact rfl
            refine WC_take0 (V := V) (v := ?_) (a' := ?_) 3 ShC.grows rfl (by kernel_rfl) (by kernel_rfl) (by kernel_rfl) hL ⟨rfl, fun w' hw' => ?_⟩ ?_ 40 rfl (by kernel_rfl) fun x0 => ?_
            rotate_left 2
            · obtain ⟨s0, k0, k1, k2, k3, k4, k5⟩ := hw'
              have l1 : g < w'.heap.size := World.block_lt_of_cell? _ _ s0
              have l2 : cb < w'.heap.size := World.block_lt_of_cell? _ _ k0
              go_big_quiet_op; exact rfl
            · exact rfl
            refine WC_take0 (V := V) (v := ?_) (a' := ?_) 4 ShC.grows rfl (by kernel_rfl) (by kernel_rfl) (by kernel_rfl) hL ⟨rfl, fun w' hw' => ?_⟩ ?_ 41 rfl (by kernel_rfl) fun x0 => ?_
            rotate_left 2
            · obtain ⟨s0, k0, k1, k2, k3, k4, k5⟩ := hw'
              have l1 : g < w'.heap.size := World.block_lt_of_cell? _ _ s0
              have l2 : cb < w'.heap.size := World.block_lt_of_cell? _ _ k0
              go_big_quiet_op; exact rfl
            · exact rfl
            refine WC_take0 (V := V) (v := ?_) (a' := ?_) 5 ShC.grows rfl (by kernel_rfl) (by kernel_rfl) (by kernel_rfl) hL ⟨rfl, fun w' hw' => ?_⟩ ?_ 42 rfl (by kernel_rfl) fun x0 => ?_
            rotate_left 2
            · obtain ⟨s0, k0, k1, k2, k3, k4, k5⟩ := hw'
              have l1 : g < w'.heap.size := World.block_lt_of_cell? _ _ s0
              have l2 : cb < w'.heap.size := World.block_lt_of_cell? _ _ k0
              go_big_quiet_op; exact rfl
            · exact rfl
            refine WC_take0 (V := V) (v := ?_) (a' := ?_) 6 ShC.grows rfl (by kernel_rfl) (by kernel_rfl) (by kernel_rfl) hL ⟨rfl, fun w' hw' => ?_⟩ ?_ 43 rfl (by kernel_rfl) fun x0 => ?_
            rotate_left 2
            · obtain ⟨s0, k0, k1, k2, k3, k4, k5⟩ := hw'
              have l1 : g < w'.heap.size := World.block_lt_of_cell? _ _ s0
              have l2 : cb < w'.heap.size := World.block_lt_of_cell? _ _ k0
              go_big_quiet_op; exact rfl
            · exact rfl
            refine WC_take0 (V := V) (v := ?_) (a' := ?_) 7 ShC.grows rfl (by kernel_rfl) (by kernel_rfl) (by kernel_rfl) hL ⟨rfl, fun w' hw' => ?_⟩ ?_ 44 rfl (by kernel_rfl) fun x0 => ?_
            rotate_left 2
            · obtain ⟨s0, k0, k1, k2, k3, k4, k5⟩ := hw'
              have l1 : g < w'.heap.size := World.block_lt_of_cell? _ _ s0
              have l2 : cb < w'.heap.size := World.block_lt_of_cell? _ _ k0
              go_big_quiet_op; exact rfl
            · exact rfl
            refine WC_take0 (V := V) (v := ?_) (a' := ?_) 8 ShC.grows rfl (by kernel_rfl) (by kernel_rfl) (by kernel_rfl) hL ⟨rfl, fun w' hw' => ?_⟩ ?_ 45 rfl (by kernel_rfl) fun x0 => ?_
            rotate_left 2
            · go_big_quiet_op
              apply Exists.intro; refine ⟨fun n => ?_, ?_⟩
              · go_at_call 74
                exact gw_call (H74 _).out
              exact rfl
            · exact rfl
            have hL := ShC.grows _ _ hL (Grown.gw _ x0)
            have hGU : Grown V (gw V x0) := Grown.gw _ _
            obtain ⟨U, hU⟩ : ∃ U, gw V x0 = U := ⟨_, rfl⟩
            rw [hU] at hL hGU ⊢
            clear hU
            refine WC_all [9] (by kernel_rfl) (by simp) fun i' hi' => ?_
            rcases List.mem_singleton.1 hi' with rfl
            refine WG_op rfl rfl fun K hK => ?_
            go_big_op
            refine hK _ _ ⟨ShC.grows _ _ hL (below_alloc _ _), fun y => ?_⟩
            obtain ⟨b7, V7, e1, e2, q1, q2, q3, q4, qF, q5⟩ := new_at hGU #[.int .i64 0, .int .i64 0, .int .i64 0, .int .i64 0, .int .i64 0, .int .i64 0, .int .i64 0] 29 y
            replace hL := ShC.grows _ V7 hL q3
            rw [e1, e2]
            have hR7 : Res7 V7 b7 0 0 0 0 0 0 0 := ⟨q5 0, q5 1, q5 2, q5 3, q5 4, q5 5, q5 6, qF⟩
            have c0 := hR7.c0
            have c1 := hR7.c1
            have c2 := hR7.c2
            have c3 := hR7.c3
            have c4 := hR7.c4
            have c5 := hR7.c5
            have c6 := hR7.c6
            clear e1 e2 q5 hK K hGU
            refine WC_all [10] (by kernel_rfl) (by simp) fun i' hi' => ?_
            rcases List.mem_singleton.1 hi' with rfl
            refine WG_op rfl rfl fun K hK => ?_
            go_big_op
            clear c0 c1 c2 c3 c4 c5 c6
            obtain ⟨Y, hY, hR, hS, hB, hO, hFz⟩ := store7j hR7 f0 f1 f2 f3 f4 f5 f6
            rw [hY]
            clear hY
            refine hK _ _ ⟨hL.other (by omega) (by omega) hO, fun y2 => ?_⟩
            have hBY : Below V.heap.size V Y := hB V q2 q1
            have lbY : b7 < Y.heap.size := by rw [hS]; exact q4
            refine WC_done (by kernel_rfl) ?_ _
            unfold NoPanic
            have hBZ := below_trans hBV (below_trans hBY (gw_below Y y2))
            have hGZ := gw_below Y y2
            obtain ⟨Z, hZ⟩ : ∃ Z, gw Y y2 = Z := ⟨_, rfl⟩
            rw [hZ] at hBZ hGZ ⊢
            have c0 := (hGZ.cell (p := ⟨b7, 0, none⟩) lbY).trans hR.c0
            have c1 := (hGZ.cell (p := ⟨b7, 1, none⟩) lbY).trans hR.c1
            have c2 := (hGZ.cell (p := ⟨b7, 2, none⟩) lbY).trans hR.c2
            have c3 := (hGZ.cell (p := ⟨b7, 3, none⟩) lbY).trans hR.c3
            have c4 := (hGZ.cell (p := ⟨b7, 4, none⟩) lbY).trans hR.c4
            have c5 := (hGZ.cell (p := ⟨b7, 5, none⟩) lbY).trans hR.c5
            have c6 := (hGZ.cell (p := ⟨b7, 6, none⟩) lbY).trans hR.c6
            have lbZ : b7 < Z.heap.size := World.block_lt_of_cell? _ _ c0
            clear hZ hGZ hK K hBY hBV hL hR hS hB hO hFz hR7 q1 q2 q3 q4 qF lbY H74 hc2 lg2
            have h1Z := below_trans hb2' hBZ
            have s0 := (h1Z.cell (p := ⟨w.heap.size, 0, none⟩) lw).trans r0
            have s1 := (h1Z.cell (p := ⟨w.heap.size, 1, none⟩) lw).trans r1
            have s2 := (h1Z.cell (p := ⟨w.heap.size, 2, none⟩) lw).trans r2
            have sF : ∀ i, Z.frozen? ⟨w.heap.size, i, none⟩ = false := fun i => (h1Z.frozen (p := ⟨w.heap.size, i, none⟩) lw).trans (rF i)
            have hBwZ := below_trans hB1 h1Z
            clear h1Z hBZ hb2' hown2 hcb lcV
            go_wp2_with fail
            exact bodyPost_ret (v := .agg #[.slice none 0 0, .int .i64 f6, .int .i64 i]) (by simp [results, Tryz.results38, go_sem, s0, s1, s2, sF]) rfl ⟨.slice none 0 0, by rw [← HR2.out], by rw [← HR2.out]; exact ⟨none, 0, rfl, fun h => absurd rfl h⟩, xs (xs (xs hBwZ (by simp) _) (by simp) _) (by simp) _⟩


        · rw [List.concat_eq_append] at eP
          subst eP
          rw [if_neg (by rw [hb]; exact Bool.false_ne_true)] at hr2
          obtain ⟨b0, b1, b2, b3, b4, b5⟩ := c
          rw [lastC_snoc] at hr2
          obtain ⟨q, cap2, rfl, lq, o0, o1, o2, o3, o4, o5⟩ := own_last hown.out
          have hol2 : P.length + 1 ≤ i := by simpa using hol
          have hPl : P.length ≤ 100 := by omega
          have hvc := HALL.out ⟨b0, b1, b2, b3, b4, b5⟩ (by simp)
          have hpos := card_pos hvc
          have hda := lastC_has HALL.out
          rw [lastC_snoc] at hda
          have H74 : ∀ W, Hid (Calls Tryz.prog 74 #[.string ⟨s.toArray⟩, .agg #[.int .i64 b0, .int .i64 b1, .int .i64 b2, .int .i64 b3, .int .i64 b4, .int .i64 b5], .bool true] W fun e w' => e = .returned (gotV (lineR s ⟨b0, b1, b2, b3, b4, b5⟩)) ∧ Below W.heap.size W w') := fun W => Lib.hid (by
            have := c74 s b0 b1 b2 b3 b4 b5 W hda.1 hda.2
            rw [decide_eq_true hpos] at this
            exact this)
          clear hda hpos hvc
          have hok : OkLine (lineR s ⟨b0, b1, b2, b3, b4, b5⟩) := okl_line s _
          obtain ⟨rl, hrl⟩ : ∃ rl, lineR s ⟨b0, b1, b2, b3, b4, b5⟩ = rl := ⟨_, rfl⟩
          rw [hrl] at H74 hr2 hok
          clear hrl
          have hok2 : rdE rl = 0 → isCard (rdC rl) = true := fun h => by
            rcases okl_cases hok with ⟨c, rfl, hc⟩ | ⟨-, h2⟩
            · exact hc
            · exact absurd h h2
          obtain ⟨C, hC⟩ : ∃ C, rdC rl = C := ⟨_, rfl⟩
          obtain ⟨f6, hE⟩ : ∃ f6, rdE rl = f6 := ⟨_, rfl⟩
          unfold gotV at H74
          rw [hC, hE] at H74 hr2 hok2
          clear hC hE hok rl
          obtain ⟨f0, f1, f2, f3, f4, f5⟩ := C
          simp only at H74
          by_cases hx : f6 = 0
          · subst hx
            rw [if_pos rfl] at hr2
            have HALL2 : Hid (∀ c ∈ (P ++ [(⟨b0, b1, b2, b3, b4, b5⟩ : Card)]) ++ [⟨f0, f1, f2, f3, f4, f5⟩], isCard c = true) := Lib.hid (fun c hc => by
              rcases List.mem_append.1 hc with h | h
              · exact HALL.out c h
              · simp at h; rw [h]; exact hok2 rfl)
            have HR2 : Hid (sheetFrom (ls.drop (i + 1)) ((i + 1 : Nat) : Int) ((P ++ [(⟨b0, b1, b2, b3, b4, b5⟩ : Card)]) ++ [⟨f0, f1, f2, f3, f4, f5⟩]) (lastC ((P ++ [(⟨b0, b1, b2, b3, b4, b5⟩ : Card)]) ++ [⟨f0, f1, f2, f3, f4, f5⟩])) = R) := Lib.hid (by rw [lastC_snoc]; simpa using hr2)
            clear hr2 hok2 HALL
            have H35 := c35_word hb hslen
            clear hb
            go_wp2_with fail
            refine (H35 _).out.mono ?_
            rintro e w2 ⟨⟨a', m', cap', rfl⟩, hb2⟩
            have hc2 := cell_on hb2 hc
            have lg2 : g < w2.heap.size := World.block_lt_of_cell? _ _ hc2
            have hown2 := Lib.hid (own_keep hown.out hb2)
            have hb2' := below_trans hbw.out hb2
            have z0 := cell_on hb2 o0
            have z1 := cell_on hb2 o1
            have z2 := cell_on hb2 o2
            have z3 := cell_on hb2 o3
            have z4 := cell_on hb2 o4
            have z5 := cell_on hb2 o5
            have lq2 : q < w2.heap.size := World.block_lt_of_cell? _ _ z0
            clear o0 o1 o2 o3 o4 o5 lq
            clear H35 hb2 hc hown hbw
            go_wp2_with (refine keep33 ?_; obtain ⟨X, hX⟩ : ∃ X, w2.alloc (.cells #[.int .i64 0, .int .i64 0, .int .i64 0, .int .i64 0, .int .i64 0, .int .i64 0] 24) = X := ⟨_, rfl⟩; rw [hX]; have HX : Hid (X.heap[w2.heap.size]? = some (cellsOf zcard)) := Lib.hid (by rw [← hX]; exact World.alloc_heap_new w2 _); have hBX : Below w2.heap.size w2 X := by { rw [← hX]; exact below_alloc _ _ }; clear hX; replace z0 := cell_on hBX z0; replace z1 := cell_on hBX z1; replace z2 := cell_on hBX z2; replace z3 := cell_on hBX z3; replace z4 := cell_on hBX z4; replace z5 := cell_on hBX z5; have ne1 : ¬ q = w2.heap.size := Nat.ne_of_lt lq2; obtain ⟨cb, hcb⟩ : ∃ cb, w2.heap.size = cb := ⟨_, rfl⟩; rw [hcb] at HX ne1 ⊢; obtain ⟨k0, k1, k2, k3, k4, k5, kF, kL⟩ := cellsOf_at HX.out; simp only [zcard] at k0 k1 k2 k3 k4 k5; have lqX : q < X.heap.size := World.block_lt_of_cell? _ _ z0)
            clear k0 k1 k2 k3 k4 k5 kF kL lqX ne1
            clear z0 z1 z2 z3 z4 z5 lq2
            obtain ⟨V, hV, hVb, hVB, hVo, hVs⟩ := store6b (c0 := zcard) HX.out b0 b1 b2 b3 b4 b5
            rw [hV]
            clear hV
            have hBV : Below w2.heap.size w2 V := hVB w2 hBX (by omega)
            obtain ⟨k0, k1, k2, k3, k4, k5, kF, kL⟩ := cellsOf_at hVb
            have hL : ShC g i cb s b0 b1 b2 b3 b4 b5 V := ⟨(hBV.cell (p := ⟨g, i, none⟩) lg2).trans hc2, k0, k1, k2, k3, k4, k5⟩
            clear k0 k1 k2 k3 k4 k5 kF kL hVb hVB hVo hVs HX hBX X
            have lcV : cb < V.heap.size := World.block_lt_of_cell? _ _ hL.k0
            refine wp_region_class (ShC g i cb s b0 b1 b2 b3 b4 b5) (by kernel_rfl) fun x0 => ?_
            refine WC_take0 (V := V) (v := ?_) (a' := ?_) 0 ShC.grows rfl (by kernel_rfl) (by kernel_rfl) (by kernel_rfl) hL ⟨rfl, fun w' hw' => ?_⟩ ?_ 37 rfl (by kernel_rfl) fun x0 => ?_
            rotate_left 2
            · obtain ⟨s0, k0, k1, k2, k3, k4, k5⟩ := hw'
              have l1 : g < w'.heap.size := World.block_lt_of_cell? _ _ s0
              have l2 : cb < w'.heap.size := World.block_lt_of_cell? _ _ k0
              go_big_quiet_op; exact rfl
            · exact rfl
            refine WC_take0 (V := V) (v := ?_) (a' := ?_) 1 ShC.grows rfl (by kernel_rfl) (by kernel_rfl) (by kernel_rfl) hL ⟨rfl, fun w' hw' => ?_⟩ ?_ 38 rfl (by kernel_rfl) fun x0 => ?_
            rotate_left 2
            · obtain ⟨s0, k0, k1, k2, k3, k4, k5⟩ := hw'
              have l1 : g < w'.heap.size := World.block_lt_of_cell? _ _ s0
              have l2 : cb < w'.heap.size := World.block_lt_of_cell? _ _ k0
              go_big_quiet_op; exact rfl
            · exact rfl
            refine WC_take0 (V := V) (v := ?_) (a' := ?_) 2 ShC.grows rfl (by kernel_rfl) (by kernel_rfl) (by kernel_rfl) hL ⟨rfl, fun w' hw' => ?_⟩ ?_ 39 rfl (by kernel_rfl) fun x0 => ?_
            rotate_left 2
            · obtain ⟨s0, k0, k1, k2, k3, k4, k5⟩ := hw'
              have l1 : g < w'.heap.size := World.block_lt_of_cell? _ _ s0
              have l2 : cb < w'.heap.size := World.block_lt_of_cell? _ _ k0
              go_big_quiet_op; exact rfl
            · exact rfl
            refine WC_take0 (V := V) (v := ?_) (a' := ?_) 3 ShC.grows rfl (by kernel_rfl) (by kernel_rfl) (by kernel_rfl) hL ⟨rfl, fun w' hw' => ?_⟩ ?_ 40 rfl (by kernel_rfl) fun x0 => ?_
            rotate_left 2
            · obtain ⟨s0, k0, k1, k2, k3, k4, k5⟩ := hw'
              have l1 : g < w'.heap.size := World.block_lt_of_cell? _ _ s0
              have l2 : cb < w'.heap.size := World.block_lt_of_cell? _ _ k0
              go_big_quiet_op; exact rfl
            · exact rfl
            refine WC_take0 (V := V) (v := ?_) (a' := ?_) 4 ShC.grows rfl (by kernel_rfl) (by kernel_rfl) (by kernel_rfl) hL ⟨rfl, fun w' hw' => ?_⟩ ?_ 41 rfl (by kernel_rfl) fun x0 => ?_
            rotate_left 2
            · obtain ⟨s0, k0, k1, k2, k3, k4, k5⟩ := hw'
              have l1 : g < w'.heap.size := World.block_lt_of_cell? _ _ s0
              have l2 : cb < w'.heap.size := World.block_lt_of_cell? _ _ k0
              go_big_quiet_op; exact rfl
            · exact rfl
            refine WC_take0 (V := V) (v := ?_) (a' := ?_) 5 ShC.grows rfl (by kernel_rfl) (by kernel_rfl) (by kernel_rfl) hL ⟨rfl, fun w' hw' => ?_⟩ ?_ 42 rfl (by kernel_rfl) fun x0 => ?_
            rotate_left 2
            · obtain ⟨s0, k0, k1, k2, k3, k4, k5⟩ := hw'
              have l1 : g < w'.heap.size := World.block_lt_of_cell? _ _ s0
              have l2 : cb < w'.heap.size := World.block_lt_of_cell? _ _ k0
              go_big_quiet_op; exact rfl
            · exact rfl
            refine WC_take0 (V := V) (v := ?_) (a' := ?_) 6 ShC.grows rfl (by kernel_rfl) (by kernel_rfl) (by kernel_rfl) hL ⟨rfl, fun w' hw' => ?_⟩ ?_ 43 rfl (by kernel_rfl) fun x0 => ?_
            rotate_left 2
            · obtain ⟨s0, k0, k1, k2, k3, k4, k5⟩ := hw'
              have l1 : g < w'.heap.size := World.block_lt_of_cell? _ _ s0
              have l2 : cb < w'.heap.size := World.block_lt_of_cell? _ _ k0
              go_big_quiet_op; exact rfl
            · exact rfl
            refine WC_take0 (V := V) (v := ?_) (a' := ?_) 7 ShC.grows rfl (by kernel_rfl) (by kernel_rfl) (by kernel_rfl) hL ⟨rfl, fun w' hw' => ?_⟩ ?_ 44 rfl (by kernel_rfl) fun x0 => ?_
            rotate_left 2
            · obtain ⟨s0, k0, k1, k2, k3, k4, k5⟩ := hw'
              have l1 : g < w'.heap.size := World.block_lt_of_cell? _ _ s0
              have l2 : cb < w'.heap.size := World.block_lt_of_cell? _ _ k0
              go_big_quiet_op; exact rfl
            · exact rfl
            refine WC_take0 (V := V) (v := ?_) (a' := ?_) 8 ShC.grows rfl (by kernel_rfl) (by kernel_rfl) (by kernel_rfl) hL ⟨rfl, fun w' hw' => ?_⟩ ?_ 45 rfl (by kernel_rfl) fun x0 => ?_
            rotate_left 2
            · go_big_quiet_op
              apply Exists.intro; refine ⟨fun n => ?_, ?_⟩
              · go_at_call 74
                exact gw_call (H74 _).out
              exact rfl
            · exact rfl
            have hL := ShC.grows _ _ hL (Grown.gw _ x0)
            have hGU : Grown V (gw V x0) := Grown.gw _ _
            obtain ⟨U, hU⟩ : ∃ U, gw V x0 = U := ⟨_, rfl⟩
            rw [hU] at hL hGU ⊢
            clear hU
            refine WC_all [9] (by kernel_rfl) (by simp) fun i' hi' => ?_
            rcases List.mem_singleton.1 hi' with rfl
            refine WG_op rfl rfl fun K hK => ?_
            go_big_op
            refine hK _ _ ⟨ShC.grows _ _ hL (below_alloc _ _), fun y => ?_⟩
            obtain ⟨b7, V7, e1, e2, q1, q2, q3, q4, qF, q5⟩ := new_at hGU #[.int .i64 0, .int .i64 0, .int .i64 0, .int .i64 0, .int .i64 0, .int .i64 0, .int .i64 0] 29 y
            replace hL := ShC.grows _ V7 hL q3
            rw [e1, e2]
            have hR7 : Res7 V7 b7 0 0 0 0 0 0 0 := ⟨q5 0, q5 1, q5 2, q5 3, q5 4, q5 5, q5 6, qF⟩
            have c0 := hR7.c0
            have c1 := hR7.c1
            have c2 := hR7.c2
            have c3 := hR7.c3
            have c4 := hR7.c4
            have c5 := hR7.c5
            have c6 := hR7.c6
            clear e1 e2 q5 hK K hGU
            refine WC_all [10] (by kernel_rfl) (by simp) fun i' hi' => ?_
            rcases List.mem_singleton.1 hi' with rfl
            refine WG_op rfl rfl fun K hK => ?_
            go_big_op
            clear c0 c1 c2 c3 c4 c5 c6
            obtain ⟨Y, hY, hR, hS, hB, hO, hFz⟩ := store7j hR7 f0 f1 f2 f3 f4 f5 0
            rw [hY]
            clear hY
            refine hK _ _ ⟨hL.other (by omega) (by omega) hO, fun y2 => ?_⟩
            have hBY : Below V.heap.size V Y := hB V q2 q1
            have lbY : b7 < Y.heap.size := by rw [hS]; exact q4
            refine WC_done (by kernel_rfl) ?_ _
            unfold NoPanic
            have hBZ := below_trans hBV (below_trans hBY (gw_below Y y2))
            have hGZ := gw_below Y y2
            obtain ⟨Z, hZ⟩ : ∃ Z, gw Y y2 = Z := ⟨_, rfl⟩
            rw [hZ] at hBZ hGZ ⊢
            have c0 := (hGZ.cell (p := ⟨b7, 0, none⟩) lbY).trans hR.c0
            have c1 := (hGZ.cell (p := ⟨b7, 1, none⟩) lbY).trans hR.c1
            have c2 := (hGZ.cell (p := ⟨b7, 2, none⟩) lbY).trans hR.c2
            have c3 := (hGZ.cell (p := ⟨b7, 3, none⟩) lbY).trans hR.c3
            have c4 := (hGZ.cell (p := ⟨b7, 4, none⟩) lbY).trans hR.c4
            have c5 := (hGZ.cell (p := ⟨b7, 5, none⟩) lbY).trans hR.c5
            have c6 := (hGZ.cell (p := ⟨b7, 6, none⟩) lbY).trans hR.c6
            have lbZ : b7 < Z.heap.size := World.block_lt_of_cell? _ _ c0
            clear hZ hGZ hK K hBY hBV hL hR hS hB hO hFz hR7 q1 q2 q3 q4 qF lbY H74 hc2 lg2
            have hownZ := Lib.hid (own_keep hown2.out hBZ)
            have h1Z := below_trans hb2' hBZ
            clear hown2 hb2' hBZ hcb lcV

            go_wp2_with (at_builtin; refine wpList_append_own _ rfl (.tmp 53) (.tmp 56) 49 rfl w1.heap.size 24 inf _ 6 48 Tryz.underlying49 i1 i2 i3 i4 rfl (by decide) _ _ _ rfl (hownZ.out.alloc _) ⟨Z.heap.size, 0, none⟩ 1 1 (cardCells ⟨f0, f1, f2, f3, f4, f5⟩) rfl rfl (card_at _ _ _ _ _ _ fun j => by simp [go_sem]) (card_one _) (by simp [maxLen] <;> omega) (by simp <;> omega) (by have := h1Z.size; simp <;> omega) ?_; intro v1 w3 hown1 hgrow1 _; have hB1 := Lib.hid (own_below24 (xa h1Z _) (hownZ.out.alloc _) hgrow1); clear hgrow1)
            go_roundw
            case rel => exact ⟨i + 1, (P ++ [(⟨b0, b1, b2, b3, b4, b5⟩ : Card)]) ++ [⟨f0, f1, f2, f3, f4, f5⟩], by omega, by simp <;> omega, by go_num, Lib.hid (own_snoc24 hown1), hB1, HALL2, HR2⟩
            case measure => simp [intOf]; omega

          · have hx' : (f6 != 0) = true := by simpa using hx
            rw [if_neg hx] at hr2
            have HR2 := Lib.hid hr2
            clear hr2 hok2 HALL
            have H35 := c35_word hb hslen
            clear hb
            go_wp2_with fail
            refine (H35 _).out.mono ?_
            rintro e w2 ⟨⟨a', m', cap', rfl⟩, hb2⟩
            have hc2 := cell_on hb2 hc
            have lg2 : g < w2.heap.size := World.block_lt_of_cell? _ _ hc2
            have hown2 := Lib.hid (own_keep hown.out hb2)
            have hb2' := below_trans hbw.out hb2
            have z0 := cell_on hb2 o0
            have z1 := cell_on hb2 o1
            have z2 := cell_on hb2 o2
            have z3 := cell_on hb2 o3
            have z4 := cell_on hb2 o4
            have z5 := cell_on hb2 o5
            have lq2 : q < w2.heap.size := World.block_lt_of_cell? _ _ z0
            clear o0 o1 o2 o3 o4 o5 lq
            clear H35 hb2 hc hown hbw
            go_wp2_with (refine keep33 ?_; obtain ⟨X, hX⟩ : ∃ X, w2.alloc (.cells #[.int .i64 0, .int .i64 0, .int .i64 0, .int .i64 0, .int .i64 0, .int .i64 0] 24) = X := ⟨_, rfl⟩; rw [hX]; have HX : Hid (X.heap[w2.heap.size]? = some (cellsOf zcard)) := Lib.hid (by rw [← hX]; exact World.alloc_heap_new w2 _); have hBX : Below w2.heap.size w2 X := by { rw [← hX]; exact below_alloc _ _ }; clear hX; replace z0 := cell_on hBX z0; replace z1 := cell_on hBX z1; replace z2 := cell_on hBX z2; replace z3 := cell_on hBX z3; replace z4 := cell_on hBX z4; replace z5 := cell_on hBX z5; have ne1 : ¬ q = w2.heap.size := Nat.ne_of_lt lq2; obtain ⟨cb, hcb⟩ : ∃ cb, w2.heap.size = cb := ⟨_, rfl⟩; rw [hcb] at HX ne1 ⊢; obtain ⟨k0, k1, k2, k3, k4, k5, kF, kL⟩ := cellsOf_at HX.out; simp only [zcard] at k0 k1 k2 k3 k4 k5; have lqX : q < X.heap.size := World.block_lt_of_cell? _ _ z0)
            clear k0 k1 k2 k3 k4 k5 kF kL lqX ne1
            clear z0 z1 z2 z3 z4 z5 lq2
            obtain ⟨V, hV, hVb, hVB, hVo, hVs⟩ := store6b (c0 := zcard) HX.out b0 b1 b2 b3 b4 b5
            rw [hV]
            clear hV
            have hBV : Below w2.heap.size w2 V := hVB w2 hBX (by omega)
            obtain ⟨k0, k1, k2, k3, k4, k5, kF, kL⟩ := cellsOf_at hVb
            have hL : ShC g i cb s b0 b1 b2 b3 b4 b5 V := ⟨(hBV.cell (p := ⟨g, i, none⟩) lg2).trans hc2, k0, k1, k2, k3, k4, k5⟩
            clear k0 k1 k2 k3 k4 k5 kF kL hVb hVB hVo hVs HX hBX X
            have lcV : cb < V.heap.size := World.block_lt_of_cell? _ _ hL.k0
            refine wp_region_class (ShC g i cb s b0 b1 b2 b3 b4 b5) (by kernel_rfl) fun x0 => ?_
            refine WC_take0 (V := V) (v := ?_) (a' := ?_) 0 ShC.grows rfl (by kernel_rfl) (by kernel_rfl) (by kernel_rfl) hL ⟨rfl, fun w' hw' => ?_⟩ ?_ 37 rfl (by kernel_rfl) fun x0 => ?_
            rotate_left 2
            · obtain ⟨s0, k0, k1, k2, k3, k4, k5⟩ := hw'
              have l1 : g < w'.heap.size := World.block_lt_of_cell? _ _ s0
              have l2 : cb < w'.heap.size := World.block_lt_of_cell? _ _ k0
              go_big_quiet_op; exact rfl
            · exact rfl
            refine WC_take0 (V := V) (v := ?_) (a' := ?_) 1 ShC.grows rfl (by kernel_rfl) (by kernel_rfl) (by kernel_rfl) hL ⟨rfl, fun w' hw' => ?_⟩ ?_ 38 rfl (by kernel_rfl) fun x0 => ?_
            rotate_left 2
            · obtain ⟨s0, k0, k1, k2, k3, k4, k5⟩ := hw'
              have l1 : g < w'.heap.size := World.block_lt_of_cell? _ _ s0
              have l2 : cb < w'.heap.size := World.block_lt_of_cell? _ _ k0
              go_big_quiet_op; exact rfl
            · exact rfl
            refine WC_take0 (V := V) (v := ?_) (a' := ?_) 2 ShC.grows rfl (by kernel_rfl) (by kernel_rfl) (by kernel_rfl) hL ⟨rfl, fun w' hw' => ?_⟩ ?_ 39 rfl (by kernel_rfl) fun x0 => ?_
            rotate_left 2
            · obtain ⟨s0, k0, k1, k2, k3, k4, k5⟩ := hw'
              have l1 : g < w'.heap.size := World.block_lt_of_cell? _ _ s0
              have l2 : cb < w'.heap.size := World.block_lt_of_cell? _ _ k0
              go_big_quiet_op; exact rfl
            · exact rfl
            refine WC_take0 (V := V) (v := ?_) (a' := ?_) 3 ShC.grows rfl (by kernel_rfl) (by kernel_rfl) (by kernel_rfl) hL ⟨rfl, fun w' hw' => ?_⟩ ?_ 40 rfl (by kernel_rfl) fun x0 => ?_
            rotate_left 2
            · obtain ⟨s0, k0, k1, k2, k3, k4, k5⟩ := hw'
              have l1 : g < w'.heap.size := World.block_lt_of_cell? _ _ s0
              have l2 : cb < w'.heap.size := World.block_lt_of_cell? _ _ k0
              go_big_quiet_op; exact rfl
            · exact rfl
            refine WC_take0 (V := V) (v := ?_) (a' := ?_) 4 ShC.grows rfl (by kernel_rfl) (by kernel_rfl) (by kernel_rfl) hL ⟨rfl, fun w' hw' => ?_⟩ ?_ 41 rfl (by kernel_rfl) fun x0 => ?_
            rotate_left 2
            · obtain ⟨s0, k0, k1, k2, k3, k4, k5⟩ := hw'
              have l1 : g < w'.heap.size := World.block_lt_of_cell? _ _ s0
              have l2 : cb < w'.heap.size := World.block_lt_of_cell? _ _ k0
              go_big_quiet_op; exact rfl
            · exact rfl
            refine WC_take0 (V := V) (v := ?_) (a' := ?_) 5 ShC.grows rfl (by kernel_rfl) (by kernel_rfl) (by kernel_rfl) hL ⟨rfl, fun w' hw' => ?_⟩ ?_ 42 rfl (by kernel_rfl) fun x0 => ?_
            rotate_left 2
            · obtain ⟨s0, k0, k1, k2, k3, k4, k5⟩ := hw'
              have l1 : g < w'.heap.size := World.block_lt_of_cell? _ _ s0
              have l2 : cb < w'.heap.size := World.block_lt_of_cell? _ _ k0
              go_big_quiet_op; exact rfl
            · exact rfl
            refine WC_take0 (V := V) (v := ?_) (a' := ?_) 6 ShC.grows rfl (by kernel_rfl) (by kernel_rfl) (by kernel_rfl) hL ⟨rfl, fun w' hw' => ?_⟩ ?_ 43 rfl (by kernel_rfl) fun x0 => ?_
            rotate_left 2
            · obtain ⟨s0, k0, k1, k2, k3, k4, k5⟩ := hw'
              have l1 : g < w'.heap.size := World.block_lt_of_cell? _ _ s0
              have l2 : cb < w'.heap.size := World.block_lt_of_cell? _ _ k0
              go_big_quiet_op; exact rfl
            · exact rfl
            refine WC_take0 (V := V) (v := ?_) (a' := ?_) 7 ShC.grows rfl (by kernel_rfl) (by kernel_rfl) (by kernel_rfl) hL ⟨rfl, fun w' hw' => ?_⟩ ?_ 44 rfl (by kernel_rfl) fun x0 => ?_
            rotate_left 2
            · obtain ⟨s0, k0, k1, k2, k3, k4, k5⟩ := hw'
              have l1 : g < w'.heap.size := World.block_lt_of_cell? _ _ s0
              have l2 : cb < w'.heap.size := World.block_lt_of_cell? _ _ k0
              go_big_quiet_op; exact rfl
            · exact rfl
            refine WC_take0 (V := V) (v := ?_) (a' := ?_) 8 ShC.grows rfl (by kernel_rfl) (by kernel_rfl) (by kernel_rfl) hL ⟨rfl, fun w' hw' => ?_⟩ ?_ 45 rfl (by kernel_rfl) fun x0 => ?_
            rotate_left 2
            · go_big_quiet_op
              apply Exists.intro; refine ⟨fun n => ?_, ?_⟩
              · go_at_call 74
                exact gw_call (H74 _).out
              exact rfl
            · exact rfl
            have hL := ShC.grows _ _ hL (Grown.gw _ x0)
            have hGU : Grown V (gw V x0) := Grown.gw _ _
            obtain ⟨U, hU⟩ : ∃ U, gw V x0 = U := ⟨_, rfl⟩
            rw [hU] at hL hGU ⊢
            clear hU
            refine WC_all [9] (by kernel_rfl) (by simp) fun i' hi' => ?_
            rcases List.mem_singleton.1 hi' with rfl
            refine WG_op rfl rfl fun K hK => ?_
            go_big_op
            refine hK _ _ ⟨ShC.grows _ _ hL (below_alloc _ _), fun y => ?_⟩
            obtain ⟨b7, V7, e1, e2, q1, q2, q3, q4, qF, q5⟩ := new_at hGU #[.int .i64 0, .int .i64 0, .int .i64 0, .int .i64 0, .int .i64 0, .int .i64 0, .int .i64 0] 29 y
            replace hL := ShC.grows _ V7 hL q3
            rw [e1, e2]
            have hR7 : Res7 V7 b7 0 0 0 0 0 0 0 := ⟨q5 0, q5 1, q5 2, q5 3, q5 4, q5 5, q5 6, qF⟩
            have c0 := hR7.c0
            have c1 := hR7.c1
            have c2 := hR7.c2
            have c3 := hR7.c3
            have c4 := hR7.c4
            have c5 := hR7.c5
            have c6 := hR7.c6
            clear e1 e2 q5 hK K hGU
            refine WC_all [10] (by kernel_rfl) (by simp) fun i' hi' => ?_
            rcases List.mem_singleton.1 hi' with rfl
            refine WG_op rfl rfl fun K hK => ?_
            go_big_op
            clear c0 c1 c2 c3 c4 c5 c6
            obtain ⟨Y, hY, hR, hS, hB, hO, hFz⟩ := store7j hR7 f0 f1 f2 f3 f4 f5 f6
            rw [hY]
            clear hY
            refine hK _ _ ⟨hL.other (by omega) (by omega) hO, fun y2 => ?_⟩
            have hBY : Below V.heap.size V Y := hB V q2 q1
            have lbY : b7 < Y.heap.size := by rw [hS]; exact q4
            refine WC_done (by kernel_rfl) ?_ _
            unfold NoPanic
            have hBZ := below_trans hBV (below_trans hBY (gw_below Y y2))
            have hGZ := gw_below Y y2
            obtain ⟨Z, hZ⟩ : ∃ Z, gw Y y2 = Z := ⟨_, rfl⟩
            rw [hZ] at hBZ hGZ ⊢
            have c0 := (hGZ.cell (p := ⟨b7, 0, none⟩) lbY).trans hR.c0
            have c1 := (hGZ.cell (p := ⟨b7, 1, none⟩) lbY).trans hR.c1
            have c2 := (hGZ.cell (p := ⟨b7, 2, none⟩) lbY).trans hR.c2
            have c3 := (hGZ.cell (p := ⟨b7, 3, none⟩) lbY).trans hR.c3
            have c4 := (hGZ.cell (p := ⟨b7, 4, none⟩) lbY).trans hR.c4
            have c5 := (hGZ.cell (p := ⟨b7, 5, none⟩) lbY).trans hR.c5
            have c6 := (hGZ.cell (p := ⟨b7, 6, none⟩) lbY).trans hR.c6
            have lbZ : b7 < Z.heap.size := World.block_lt_of_cell? _ _ c0
            clear hZ hGZ hK K hBY hBV hL hR hS hB hO hFz hR7 q1 q2 q3 q4 qF lbY H74 hc2 lg2
            have h1Z := below_trans hb2' hBZ
            have s0 := (h1Z.cell (p := ⟨w.heap.size, 0, none⟩) lw).trans r0
            have s1 := (h1Z.cell (p := ⟨w.heap.size, 1, none⟩) lw).trans r1
            have s2 := (h1Z.cell (p := ⟨w.heap.size, 2, none⟩) lw).trans r2
            have sF : ∀ i, Z.frozen? ⟨w.heap.size, i, none⟩ = false := fun i => (h1Z.frozen (p := ⟨w.heap.size, i, none⟩) lw).trans (rF i)
            have hBwZ := below_trans hB1 h1Z
            clear h1Z hBZ hb2' hown2 hcb lcV
            go_wp2_with fail
            exact bodyPost_ret (v := .agg #[.slice none 0 0, .int .i64 f6, .int .i64 i]) (by simp [results, Tryz.results38, go_sem, s0, s1, s2, sF]) rfl ⟨.slice none 0 0, by rw [← HR2.out], by rw [← HR2.out]; exact ⟨none, 0, rfl, fun h => absurd rfl h⟩, xs (xs (xs hBwZ (by simp) _) (by simp) _) (by simp) _⟩


    · obtain rfl : i = n := by omega
      have hr2 := hr.out
      rw [List.drop_eq_nil_of_le (by rw [HN.out]; exact Nat.le_refl _), sheetFrom] at hr2
      have HR2 := Lib.hid hr2
      clear hr2 hr
      have s0 := (hbw.out.cell (p := ⟨w.heap.size, 0, none⟩) lw).trans r0
      have s1 := (hbw.out.cell (p := ⟨w.heap.size, 1, none⟩) lw).trans r1
      have s2 := (hbw.out.cell (p := ⟨w.heap.size, 2, none⟩) lw).trans r2
      have sF : ∀ j, wr.frozen? ⟨w.heap.size, j, none⟩ = false := fun j => (hbw.out.frozen (p := ⟨w.heap.size, j, none⟩) lw).trans (rF j)
      have lwr : w.heap.size < wr.heap.size := World.block_lt_of_cell? _ _ s0
      have hown9 := hown.out
      obtain ⟨a4, cap4, e4, -⟩ := own_cardsV hown9
      subst e4
      have HO := Lib.hid hown9
      have hBwr := below_trans hB1 hbw.out
      clear hown9 hown
      go_wp2_with fail
      exact bodyPost_ret (v := .agg #[.slice a4 out.length cap4, .int .i64 0, .int .i64 (-1)]) (by simp [results, Tryz.results38, go_sem, s0, s1, s2, sF]) rfl ⟨.slice a4 out.length cap4, by rw [← HR2.out], by rw [← HR2.out]; exact own_cardsV (ownsRow_setCell_below (ownsRow_setCell_below (ownsRow_setCell_below HO.out (by simpa using lw) _) (by simpa using lw) _) (by simpa using lw) _), xs (xs (xs hBwr (by simp) _) (by simp) _) (by simp) _⟩
end Go.Proofs.YthifeoebefbalaaGreatDoor
