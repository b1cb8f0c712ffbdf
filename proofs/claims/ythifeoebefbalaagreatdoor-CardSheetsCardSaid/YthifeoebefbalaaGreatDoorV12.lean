/- Reading: all ways of writing a date. -/
import Derived.Test.YthifeoebefbalaaGreatDoorV6
import Derived.Test.YthifeoebefbalaaGreatDoorV7
set_option linter.unusedVariables false
set_option linter.unusedSimpArgs false
namespace Go.Proofs.YthifeoebefbalaaGreatDoor
open Go.RowKit

/-- What is checked of the first k letters of month number m. -/
def okP (m k : Nat) : Bool :=
  let P := (monCaps.getD m []).take k
  P.all (fun c => !gapU c) && decide (monthO (smallL P) = some ((m : Int) + 1)) && decide (monthO (smallL P ++ [46]) = some ((m : Int) + 1)) && (smallL P).all (fun c => c != 47 && c != 46 && c != 45) && !isDig ((smallL P).headD 0) && !P.isEmpty
set_option maxRecDepth 100000 in
theorem okP_all : ∀ m : Fin 12, ∀ k : Fin 10, 3 ≤ k.1 → k.1 ≤ (monCaps.getD m.1 []).length → okP m.1 k.1 = true := by decide +kernel
theorem yearO_four (y : Int) (h0 : 0 ≤ y) (h1 : y < 10000) : yearO (fourL y) = some y := by rw [yearO, if_pos (show (fourL y).length = 4 from rfl)]; exact fourL_num y h0 h1
theorem dig_not {x : List UInt8} (h : ∀ c ∈ x, isDig c = true) (d : UInt8) (hd : isDig d = false) : ∀ c ∈ x, c ≠ d := fun c hc e => by
  have := h c hc
  rw [e, hd] at this
  cases this
theorem trim_no {x p : List UInt8} {d : UInt8} (hp : d ∈ p) (h : ∀ c ∈ x, c ≠ d) : Lib.trimSuffix x p = x := by rw [Lib.trimSuffix, suffix_no hp h]; rfl
theorem dom_digs {x : List UInt8} (h : ∀ c ∈ x, isDig c = true) : domO x = numO x := by
  have e : ((List.range 4).find? fun i => Lib.hasSuffix x (endsL.getD i [])) = none := by
    rw [List.find?_eq_none]
    intro i hi
    have : i = 0 ∨ i = 1 ∨ i = 2 ∨ i = 3 := by have := List.mem_range.1 hi; omega
    rcases this with rfl | rfl | rfl | rfl
    · rw [suffix_no (d := 115) (by decide) (dig_not h _ (by decide))]; decide
    · rw [suffix_no (d := 110) (by decide) (dig_not h _ (by decide))]; decide
    · rw [suffix_no (d := 114) (by decide) (dig_not h _ (by decide))]; decide
    · rw [suffix_no (d := 116) (by decide) (dig_not h _ (by decide))]; decide
  rw [domO, trim_no (d := 44) (by decide) (dig_not h _ (by decide)), e]
theorem dom_comma {x : List UInt8} (h : ∀ c ∈ x, isDig c = true) : domO (x ++ [44]) = numO x := by
  have e1 : Lib.trimSuffix (x ++ [44]) [44] = x := by
    have : Lib.hasSuffix (x ++ [44]) [44] = true := by rw [Lib.hasSuffix, List.isSuffixOf_iff_suffix]; exact List.suffix_append _ _
    rw [Lib.trimSuffix, this]
    simp
  have e2 := dom_digs h
  rw [domO, trim_no (d := 44) (by decide) (dig_not h _ (by decide))] at e2
  rw [domO, e1]
  exact e2
def ends4 (k : Nat) : List UInt8 := endsL.getD k []
theorem dom_end (a b : UInt8) (k : Nat) (hk : k < 4) : domO ([a, b] ++ ends4 k) = numO [a, b] ∧ domO ([a, b] ++ ends4 k ++ [44]) = numO [a, b] := by
  have : k = 0 ∨ k = 1 ∨ k = 2 ∨ k = 3 := by omega
  rcases this with rfl | rfl | rfl | rfl <;> exact ⟨rfl, rfl⟩

/-- The date ahead of other words. -/
theorem date_dm {x mw yw : List UInt8} {d m y : Int} (ws : List (List UInt8)) (h1 : joinedO x = .no) (h2 : isDig (x.headD 0) = true) (hd : domO x = some d) (hm : monthO mw = some m) (hy : yearO yw = some y) : dateW x (mw :: yw :: ws) zcard = .date ⟨y, m, d⟩ ws := by
  have a6 : (decide (x = nextW) && decide (0 < zcard.st)) = false := by rw [show decide (0 < zcard.st) = false from by decide, Bool.and_false]
  rw [dateW, a6, h1, h2, threeW]
  simp only [if_true, hd, hm, hy]
  rfl
theorem date_md {x dw yw : List UInt8} {d m y : Int} (ws : List (List UInt8)) (h1 : joinedO x = .no) (h2 : isDig (x.headD 0) = false) (hm : monthO x = some m) (hd : domO dw = some d) (hy : yearO yw = some y) : dateW x (dw :: yw :: ws) zcard = .date ⟨y, m, d⟩ ws := by
  have a6 : (decide (x = nextW) && decide (0 < zcard.st)) = false := by rw [show decide (0 < zcard.st) = false from by decide, Bool.and_false]
  rw [dateW, a6, h1, h2, threeW]
  simp only [Bool.false_eq_true, if_false, hd, hm, hy]
theorem date_joined {x : List UInt8} {v : Dt} (ws : List (List UInt8)) (h1 : joinedO x = .date v) : dateW x ws zcard = .date v ws := by
  have a6 : (decide (x = nextW) && decide (0 < zcard.st)) = false := by rw [show decide (0 < zcard.st) = false from by decide, Bool.and_false]
  rw [dateW, a6, h1]
  rfl
/-- F is the text of the words fw, whatever follows a blank behind it. -/
def Wd (F : List UInt8) (fw : List (List UInt8)) : Prop := ∀ r, wordsOf (F ++ 32 :: r) = fw ++ wordsOf r
theorem wd_one {w : List UInt8} (hw : w ≠ []) (hg : ∀ c ∈ w, gapU c = false) : Wd w [smallL w] := fun r => wordsOf_cons r hw hg
theorem wd_cons {w F : List UInt8} {fw : List (List UInt8)} (hw : w ≠ []) (hg : ∀ c ∈ w, gapU c = false) (h : Wd F fw) : Wd (w ++ 32 :: F) (smallL w :: fw) := fun r => by
  rw [List.append_assoc, List.cons_append, wordsOf_cons _ hw hg, h r]
  rfl
def tailA : List UInt8 := [50, 32, 100, 97, 121, 115, 32, 110, 105, 108]
def tailB : List UInt8 := [102, 111, 114, 32, 50, 100, 32, 45]
def wordsA : List (List UInt8) := [[50], [100, 97, 121, 115], [110, 105, 108]]
def wordsB : List (List UInt8) := [[102, 111, 114], [50, 100], [45]]
theorem tail_A : wordsOf tailA = wordsA := by decide +kernel
theorem tail_B : wordsOf tailB = wordsB := by decide +kernel
set_option maxRecDepth 100000 in
theorem rest_A (d : Dt) : restR 5 false d zcard wordsA = cardR 5 (dnum d.y d.m d.d) 2 3 0 0 := by
  have e1 : lumpW wordsA = .got 2 [[110, 105, 108]] := by rfl
  have e2 : amtW [[110, 105, 108]] = .got 3 0 0 [] := by rfl
  rw [restR, e1]
  simp only [e2]
  rfl
set_option maxRecDepth 100000 in
theorem rest_B (d : Dt) : restR 5 false d zcard wordsB = cardR 5 (dnum d.y d.m d.d) 2 3 0 0 := by
  have e1 : lumpW wordsB = .got 2 [[45]] := by rfl
  have e2 : amtW [[45]] = .got 3 0 0 [] := by rfl
  rw [restR, e1]
  simp only [e2]
  rfl
theorem card_day (day : Int) (h0 : 0 ≤ day) (h1 : day ≤ 60000) : cardR 5 (some day) 2 3 0 0 = .got ⟨5, day, 2, 3, 0, 0⟩ := by
  rw [cardR, if_pos]
  simp [isCard, within]
  omega
theorem read_head (x : List UInt8) (ws ws' : List (List UInt8)) (s : List UInt8) (hs : stationO s zcard = some 5) (v : Dt) (h : dateW x ws zcard = .date v ws') : readRs (s :: x :: ws) zcard = restR 5 false v zcard ws' := by
  rw [readRs]
  simp only [hs, h]
theorem form_A {F : List UInt8} {x : List UInt8} {fw : List (List UInt8)} {v : Dt} {day : Int} (hF : Wd F (x :: fw)) (hl : F.length ≤ 60) (hd : ∀ ws, dateW x (fw ++ ws) zcard = .date v ws) (hn : dnum v.y v.m v.d = some day) (h0 : 0 ≤ day) (h1 : day ≤ 60000) :
    lineR (53 :: 32 :: (F ++ [32, 50, 32, 100, 97, 121, 115, 32, 110, 105, 108])) zcard = .got ⟨5, day, 2, 3, 0, 0⟩ := by
  have hs : stationO [53] zcard = some 5 := by decide +kernel
  have e : wordsOf (53 :: 32 :: (F ++ [32, 50, 32, 100, 97, 121, 115, 32, 110, 105, 108])) = [53] :: x :: (fw ++ wordsA) := by
    rw [show 53 :: 32 :: (F ++ [32, 50, 32, 100, 97, 121, 115, 32, 110, 105, 108]) = [53] ++ 32 :: (F ++ 32 :: tailA) from rfl, wordsOf_cons _ (by decide) (by decide), hF tailA, tail_A]
    rfl
  rw [lineR, if_neg (by simp; omega), e, read_head x _ _ _ hs v (hd _), rest_A, hn, card_day day h0 h1]
theorem form_B {F : List UInt8} {x : List UInt8} {fw : List (List UInt8)} {v : Dt} {day : Int} (hF : Wd F (x :: fw)) (hl : F.length ≤ 60) (hd : ∀ ws, dateW x (fw ++ ws) zcard = .date v ws) (hn : dnum v.y v.m v.d = some day) (h0 : 0 ≤ day) (h1 : day ≤ 60000) :
    lineR (35 :: 53 :: 32 :: (F ++ [32, 102, 111, 114, 32, 50, 100, 32, 45])) zcard = .got ⟨5, day, 2, 3, 0, 0⟩ := by
  have hs : stationO [35, 53] zcard = some 5 := by decide +kernel
  have e : wordsOf (35 :: 53 :: 32 :: (F ++ [32, 102, 111, 114, 32, 50, 100, 32, 45])) = [35, 53] :: x :: (fw ++ wordsB) := by
    rw [show 35 :: 53 :: 32 :: (F ++ [32, 102, 111, 114, 32, 50, 100, 32, 45]) = [35, 53] ++ 32 :: (F ++ 32 :: tailB) from rfl, wordsOf_cons _ (by decide) (by decide), hF tailB, tail_B]
    rfl
  rw [lineR, if_neg (by simp; omega), e, read_head x _ _ _ hs v (hd _), rest_B, hn, card_day day h0 h1]
end Go.Proofs.YthifeoebefbalaaGreatDoor
