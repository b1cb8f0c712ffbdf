/- The law CardBack. -/
import Derived.Test.YthifeoebefbalaaGreatDoorV16
import Derived.Test.YthifeoebefbalaaGreatDoorV4
import Derived.Test.YthifeoebefbalaaGreatDoorR15
set_option linter.unusedVariables false
set_option linter.unusedSimpArgs false
namespace Go.Proofs.YthifeoebefbalaaGreatDoor
open Go.RowKit

/-- What reading comes to: a valid card, or an error that is one. -/
def OkRd : Rd → Prop
  | .got c => isCard c = true
  | .err x => x ≠ 0
  | .form => True
theorem ok_card (st : Int) (o : Option Int) (n k a f : Int) : OkRd (cardR st o n k a f) := by
  unfold cardR
  split
  · show (3 : Int) ≠ 0; decide
  · split
    · assumption
    · show (3 : Int) ≠ 0; decide
theorem ok_rest (st : Int) (nx : Bool) (d : Dt) (last : Card) (ws : List (List UInt8)) : OkRd (restR st nx d last ws) := by
  unfold restR
  split
  · trivial
  · split
    · trivial
    · split
      · exact ok_card _ _ _ _ _ _
      · trivial
theorem ok_line (t : List UInt8) (last : Card) : OkRd (lineR t last) := by
  unfold lineR
  split
  · show (2 : Int) ≠ 0; decide
  · unfold readRs
    split
    · trivial
    · split
      · trivial
      · split
        · trivial
        · split
          · trivial
          · exact ok_rest _ _ _ _ _
          · exact ok_rest _ _ _ _ _
theorem ok_cases {v : Rd} (h : OkRd v) : (∃ c, v = .got c ∧ isCard c = true) ∨ (rdC v = zcard ∧ rdE v ≠ 0) := by
  cases v with
  | got c => exact .inl ⟨c, rfl, h⟩
  | err x => exact .inr ⟨rfl, h⟩
  | form => exact .inr ⟨rfl, by decide⟩
theorem c46_H (a : Card) (h : isCard a = true) : ∀ W, Env W → Hid (Calls Tryz.prog 46 #[cv a] W fun r w' => r = .returned (.tuple #[.string ⟨(ctext a).toArray⟩, .int .i64 0]) ∧ Below W.heap.size W w') := fun W hW => Lib.hid (c46 a W hW h)
theorem c46_N (a : Card) (h : isCard a = false) : ∀ W, Env W → Hid (Calls Tryz.prog 46 #[cv a] W fun r w' => r = .returned (.tuple #[.string ⟨([] : List UInt8).toArray⟩, .int .i64 1]) ∧ Below W.heap.size W w') := fun W hW => Lib.hid (c46_no a W h)
theorem c33_H (l : List Card) (h : ∀ c ∈ l, isCard c = true) (hl : l.length ≤ 60) : ∀ W, Cell0 W → Hid (Calls Tryz.prog 33 #[.string ⟨(sheetText l).toArray⟩] W fun r w' => ∃ v', r = .returned (.tuple #[v', .int .i64 0, .int .i64 (-1)]) ∧ w'.ownsRow W.heap.size 24 6 v' l.length (flatC l) ∧ Below W.heap.size W w') := fun W hW => Lib.hid (by
  have hlen := sheetText_len l h
  have H := c33 (sheetText l) W hW (by omega)
  rw [sheet_print l h (by omega)] at H
  exact H)
theorem c23_G (text : List UInt8) (c : Card) (h : lineR text zcard = .got c) : ∀ W, Cell0 W → Hid (Calls Tryz.prog 23 #[.string ⟨text.toArray⟩] W fun r w' => r = .returned (.tuple #[cv c, .int .i64 0]) ∧ Below W.heap.size W w') := fun W hW => Lib.hid (by
  have H := c23 text W hW
  rw [h] at H
  exact H)
theorem c23_N (text : List UInt8) (x : Int) (hc : rdC (lineR text zcard) = zcard) (hx : rdE (lineR text zcard) = x) : ∀ W, Cell0 W → Hid (Calls Tryz.prog 23 #[.string ⟨text.toArray⟩] W fun r w' => r = .returned (.tuple #[cv zcard, .int .i64 x]) ∧ Below W.heap.size W w') := fun W hW => Lib.hid (by
  have H := c23 text W hW
  rw [hc, hx] at H
  exact H)
theorem c12 (c1 c2 c3 c4 c5 c6 : Int) (v : Value) (l : List Card) (text : List UInt8) (w : World) (hV : CardsV w v l) (hl : l.length ≤ maxLen) (hE : Env w) (hC : Cell0 w) : Calls Tryz.prog 12 #[.agg #[.int .i64 c1, .int .i64 c2, .int .i64 c3, .int .i64 c4, .int .i64 c5, .int .i64 c6], v, .string ⟨text.toArray⟩] w fun e w' => e = .returned (.bool true) ∧ Below w.heap.size w w' := by
  have hV0 := hV
  obtain ⟨a, cap, rfl, hL⟩ := hV
  by_cases hout : 60 < l.length ∨ 250 < text.length
  · exact c12_out c1 c2 c3 c4 c5 c6 (a := a) (cap := cap) (n := l.length) (text := text) (w := w) (h := hout) (hE := hE) (hC := hC)
  have n60 : l.length ≤ 60 := by omega
  have t250 : text.length ≤ 250 := by omega
  have HE := Lib.hid hE
  have HC := Lib.hid hC
  have HS : ∀ W, Below w.heap.size w W → Hid (Calls Tryz.prog 40 #[.slice a l.length cap] W fun r w' => r = .returned (.tuple #[.string ⟨(psheet l).1.toArray⟩, .int .i64 (psheet l).2]) ∧ Below W.heap.size W w') := fun W hW => Lib.hid (c40 l _ W (hE.below hW) (hV0.below hW) (by omega))
  have hps : (allErr l = 0 ∧ psheet l = (sheetText l, 0)) ∨ (allErr l ≠ 0 ∧ psheet l = ([], allErr l)) := by
    unfold psheet
    by_cases h : allErr l = 0
    · exact .inl ⟨h, by rw [if_pos h]⟩
    · exact .inr ⟨h, by rw [if_neg h]⟩
  have hrd := ok_cases (ok_line text zcard)
  cases hv : isCard ⟨c1, c2, c3, c4, c5, c6⟩ with
  | false =>
    have HP := c46_N ⟨c1, c2, c3, c4, c5, c6⟩ hv
    have HK := c44_H ⟨c1, c2, c3, c4, c5, c6⟩ (e := 1) (by rw [checkE, hv]; rfl)
    rcases hps with ⟨he, hp⟩ | ⟨he, hp⟩
    all_goals rw [hp] at HS
    · have hall := (eachErr_true he).2
      have HH := c33_H l hall n60
      rcases hrd with ⟨⟨x1, x2, x3, x4, x5, x6⟩, hg, hx⟩ | ⟨hc0, hx0⟩
      · exact c12_isg (w := w) (l := l) (a := a) (n := l.length) (cap := cap) (hn := rfl) (n60 := n60) (hL := hL) (text := text) (t250 := t250) (HE := HE) (HC := HC) (HP := HP) (HK := HK) (HS := HS) (HH := HH) (HT := c23_G text _ hg) (HQ := c46_H _ hx) (HC2 := c44_H _ (by rw [checkE, hx]; rfl)) (HU := c27_got _ _ ((print_read _ hx).2.2.2 zcard))
      · exact c12_ise (w := w) (l := l) (a := a) (n := l.length) (cap := cap) (hn := rfl) (n60 := n60) (hL := hL) (text := text) (t250 := t250) (hh := hx0) (HE := HE) (HC := HC) (HP := HP) (HK := HK) (HS := HS) (HH := HH) (HT := c23_N text _ hc0 rfl)
    · rcases hrd with ⟨⟨x1, x2, x3, x4, x5, x6⟩, hg, hx⟩ | ⟨hc0, hx0⟩
      · exact c12_ibg (w := w) (l := l) (a := a) (n := l.length) (cap := cap) (hn := rfl) (n60 := n60) (hL := hL) (text := text) (S := []) (t250 := t250) (hf := he) (HE := HE) (HC := HC) (HP := HP) (HK := HK) (HS := HS) (HT := c23_G text _ hg) (HQ := c46_H _ hx) (HC2 := c44_H _ (by rw [checkE, hx]; rfl)) (HU := c27_got _ _ ((print_read _ hx).2.2.2 zcard))
      · exact c12_ibe (w := w) (l := l) (a := a) (n := l.length) (cap := cap) (hn := rfl) (n60 := n60) (hL := hL) (text := text) (S := []) (t250 := t250) (hf := he) (hh := hx0) (HE := HE) (HC := HC) (HP := HP) (HK := HK) (HS := HS) (HT := c23_N text _ hc0 rfl)
  | true =>
    have HP := c46_H ⟨c1, c2, c3, c4, c5, c6⟩ hv
    have HR := c27_got _ ⟨c1, c2, c3, c4, c5, c6⟩ ((print_read ⟨c1, c2, c3, c4, c5, c6⟩ hv).2.2.2 zcard)
    rcases hps with ⟨he, hp⟩ | ⟨he, hp⟩
    all_goals rw [hp] at HS
    · have hall := (eachErr_true he).2
      have HH := c33_H l hall n60
      rcases hrd with ⟨⟨x1, x2, x3, x4, x5, x6⟩, hg, hx⟩ | ⟨hc0, hx0⟩
      · exact c12_vsg (w := w) (l := l) (a := a) (n := l.length) (cap := cap) (hn := rfl) (n60 := n60) (hL := hL) (text := text) (t250 := t250) (HE := HE) (HC := HC) (HP := HP) (HR := HR) (HS := HS) (HH := HH) (HT := c23_G text _ hg) (HQ := c46_H _ hx) (HC2 := c44_H _ (by rw [checkE, hx]; rfl)) (HU := c27_got _ _ ((print_read _ hx).2.2.2 zcard))
      · exact c12_vse (w := w) (l := l) (a := a) (n := l.length) (cap := cap) (hn := rfl) (n60 := n60) (hL := hL) (text := text) (t250 := t250) (hh := hx0) (HE := HE) (HC := HC) (HP := HP) (HR := HR) (HS := HS) (HH := HH) (HT := c23_N text _ hc0 rfl)
    · rcases hrd with ⟨⟨x1, x2, x3, x4, x5, x6⟩, hg, hx⟩ | ⟨hc0, hx0⟩
      · exact c12_vbg (w := w) (l := l) (a := a) (n := l.length) (cap := cap) (hn := rfl) (n60 := n60) (hL := hL) (text := text) (S := []) (t250 := t250) (hf := he) (HE := HE) (HC := HC) (HP := HP) (HR := HR) (HS := HS) (HT := c23_G text _ hg) (HQ := c46_H _ hx) (HC2 := c44_H _ (by rw [checkE, hx]; rfl)) (HU := c27_got _ _ ((print_read _ hx).2.2.2 zcard))
      · exact c12_vbe (w := w) (l := l) (a := a) (n := l.length) (cap := cap) (hn := rfl) (n60 := n60) (hL := hL) (text := text) (S := []) (t250 := t250) (hf := he) (hh := hx0) (HE := HE) (HC := HC) (HP := HP) (HR := HR) (HS := HS) (HT := c23_N text _ hc0 rfl)
theorem w12 (c1 c2 c3 c4 c5 c6 : Int) (v : Value) (text : ByteArray) (w : World) (_ : intIn c1) (_ : intIn c2) (_ : intIn c3) (_ : intIn c4) (_ : intIn c5) (_ : intIn c6) (hV : ∃ l : List Card, CardsV w v l ∧ l.length ≤ maxLen) (ht : text.size ≤ 140737488351232) (hE : Env w) (hC : Cell0 w) : Calls Tryz.prog 12 #[.agg #[.int .i64 c1, .int .i64 c2, .int .i64 c3, .int .i64 c4, .int .i64 c5, .int .i64 c6], v, .string text] w fun e w' => e = .returned (.bool true) ∧ Below w.heap.size w w' := by
  obtain ⟨l, h1, h2⟩ := hV
  have e : text = ⟨text.data.toList.toArray⟩ := by cases text; simp
  rw [e]
  exact c12 c1 c2 c3 c4 c5 c6 v l text.data.toList w h1 h2 hE hC
end Go.Proofs.YthifeoebefbalaaGreatDoor
