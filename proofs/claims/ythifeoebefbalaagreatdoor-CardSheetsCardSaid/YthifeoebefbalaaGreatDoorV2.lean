/- Reading: amounts. -/
import Derived.Test.YthifeoebefbalaaGreatDoorV1
set_option linter.unusedVariables false
set_option linter.unusedSimpArgs false
namespace Go.Proofs.YthifeoebefbalaaGreatDoor
open Go.RowKit

/-- A byte of an amount: a digit, a point, a comma. -/
def isAm (c : UInt8) : Bool := isDig c || c == 46 || c == 44
theorem am_all (c : UInt8) (h : isAm c = true) : gapU c = false ∧ smallB c = c ∧ c ≠ 100 ∧ c ≠ 45 ∧ c ≠ 63 ∧ c ≠ 109 ∧ c ≠ 110 ∧ c ≠ 116 ∧ c ≠ 102 ∧ c ≠ 10 := by
  have key : ∀ n : Fin 256, isAm (UInt8.ofNat n.1) = true → gapU (UInt8.ofNat n.1) = false ∧ smallB (UInt8.ofNat n.1) = UInt8.ofNat n.1 ∧ UInt8.ofNat n.1 ≠ 100 ∧ UInt8.ofNat n.1 ≠ 45 ∧ UInt8.ofNat n.1 ≠ 63 ∧ UInt8.ofNat n.1 ≠ 109 ∧ UInt8.ofNat n.1 ≠ 110 ∧ UInt8.ofNat n.1 ≠ 116 ∧ UInt8.ofNat n.1 ≠ 102 ∧ UInt8.ofNat n.1 ≠ 10 := by decide +kernel
  have := key ⟨c.toNat, c.toNat_lt⟩
  simp only [UInt8.ofNat_toNat] at this
  exact this h
def AmW (x : List UInt8) : Prop := x ≠ [] ∧ ∀ c ∈ x, isAm c = true
theorem AmW.gap {x : List UInt8} (h : AmW x) : ∀ c ∈ x, gapU c = false := fun c hc => (am_all c (h.2 c hc)).1
theorem AmW.small {x : List UInt8} (h : AmW x) : smallL x = x := by
  rw [smallL]
  conv => rhs; rw [← List.map_id x]
  exact List.map_congr_left fun c hc => (am_all c (h.2 c hc)).2.1
theorem AmW.kind {x : List UInt8} (h : AmW x) : kindO x = none := by
  obtain ⟨hne, ha⟩ := h
  cases x with
  | nil => exact absurd rfl hne
  | cons c r =>
    obtain ⟨-, -, -, h1, h2, h3, h4, h5, -, -⟩ := am_all c (ha c (by simp))
    have b1 : ((45 : UInt8) == c) = false := beq_eq_false_iff_ne.2 (Ne.symm h1)
    have b2 : ((63 : UInt8) == c) = false := beq_eq_false_iff_ne.2 (Ne.symm h2)
    have b3 : ((109 : UInt8) == c) = false := beq_eq_false_iff_ne.2 (Ne.symm h3)
    have b4 : ((110 : UInt8) == c) = false := beq_eq_false_iff_ne.2 (Ne.symm h4)
    have b5 : ((116 : UInt8) == c) = false := beq_eq_false_iff_ne.2 (Ne.symm h5)
    simp [kindO, kindL, List.find?, b1, b2, b3, b4, b5]
theorem suffix_no {x p : List UInt8} {d : UInt8} (hp : d ∈ p) (h : ∀ c ∈ x, c ≠ d) : Lib.hasSuffix x p = false := by
  cases e : Lib.hasSuffix x p with
  | false => rfl
  | true =>
    rw [Lib.hasSuffix, List.isSuffixOf_iff_suffix] at e
    exact absurd rfl (h d (e.subset hp))
theorem AmW.day {x : List UInt8} (h : AmW x) : isD x = false := by
  rw [isD, suffix_no (d := 100) (by simp) (fun c hc => (am_all c (h.2 c hc)).2.2.1)]
  rfl
theorem AmW.notFor {x : List UInt8} (h : AmW x) : x ≠ forW := by
  rintro rfl
  exact absurd (h.2 102 (by decide)) (by decide)
theorem AmW.lump {x : List UInt8} (h : AmW x) : lumpW [x] = .got 1 [x] := by
  rw [lumpW, if_neg h.notFor, lump2, h.day]
  rfl
theorem AmW.lump2 {x z : List UInt8} (h : AmW x) : lumpW [x, toW, z] = .got 1 [x, toW, z] := by
  rw [lumpW, if_neg h.notFor, Proofs.YthifeoebefbalaaGreatDoor.lump2, h.day]
  have e1 : decide (toW = dayW) = false := by decide
  have e2 : decide (toW = daysW) = false := by decide
  rw [e1, e2]
  simp
theorem AmW.amt {x : List UInt8} (h : AmW x) {n f : Int} (hh : hunO x = some (n, f)) : amtW [x] = .got 1 n f [] := by
  rw [amtW, h.kind]
  simp only
  rw [hh]
  rfl
theorem AmW.amt2 {x z : List UInt8} (h : AmW x) {n f a b : Int} (hh : hunO x = some (n, f)) (hz : hunO z = some (a, b)) : amtW [x, toW, z] = .got 1 n a [] := by
  rw [amtW, h.kind]
  simp only
  rw [hh]
  simp only [fineW, if_true, hz]
theorem AmW.rest {x : List UInt8} (h : AmW x) {n f : Int} (hh : hunO x = some (n, f)) (st : Int) (nx : Bool) (d : Dt) (last : Card) : restR st nx d last [x] = cardR st (dateR nx d last 1) 1 1 n f := by
  rw [restR, h.lump]
  simp only
  rw [h.amt hh]
  rfl
theorem AmW.rest2 {x z : List UInt8} (h : AmW x) {n f a b : Int} (hh : hunO x = some (n, f)) (hz : hunO z = some (a, b)) (st : Int) (nx : Bool) (d : Dt) (last : Card) : restR st nx d last [x, toW, z] = cardR st (dateR nx d last 1) 1 1 n a := by
  rw [restR, h.lump2]
  simp only
  rw [h.amt2 hh hz]
  rfl
def amHead : List UInt8 := [53, 32, 49, 48, 32, 74, 97, 110, 32, 49, 56, 53, 48, 32]
theorem head_words (r : List UInt8) : wordsOf (amHead ++ r) = [53] :: [49, 48] :: [106, 97, 110] :: [49, 56, 53, 48] :: wordsOf r := by
  rw [show amHead ++ r = [53] ++ 32 :: ([49, 48] ++ 32 :: ([74, 97, 110] ++ 32 :: ([49, 56, 53, 48] ++ 32 :: r))) from rfl, wordsOf_cons _ (by decide) (by decide), wordsOf_cons _ (by decide) (by decide), wordsOf_cons _ (by decide) (by decide), wordsOf_cons _ (by decide) (by decide)]
  rfl
set_option maxRecDepth 100000 in
theorem head_read (ws : List (List UInt8)) : readRs ([53] :: [49, 48] :: [106, 97, 110] :: [49, 56, 53, 48] :: ws) zcard = restR 5 false ⟨1850, 1, 10⟩ zcard ws := by
  have e1 : stationO [53] zcard = some 5 := by decide +kernel
  have e2 : ∀ ws, dateW [49, 48] ([106, 97, 110] :: [49, 56, 53, 48] :: ws) zcard = .date ⟨1850, 1, 10⟩ ws := fun ws => by
    have a1 : joinedO [49, 48] = .no := by rfl
    have a2 : domO [49, 48] = some 10 := by decide +kernel
    have a3 : monthO [106, 97, 110] = some 1 := by decide +kernel
    have a4 : yearO [49, 56, 53, 48] = some 1850 := by decide +kernel
    have a5 : isDig (([49, 48] : List UInt8).headD 0) = true := by decide
    have a6 : (decide (([49, 48] : List UInt8) = nextW) && decide (0 < zcard.st)) = false := by decide
    rw [dateW, a6, a1, a5, threeW]
    simp only [if_true, a2, a3, a4]
    rfl
  rw [readRs]
  simp only [e1, e2]
theorem date_1850 : dnum 1850 1 10 = some 9 := by decide +kernel
theorem line_am {x : List UInt8} (h : AmW x) (hl : x.length ≤ 100) {n f : Int} (hh : hunO x = some (n, f)) : lineR (amHead ++ x) zcard = cardR 5 (some 9) 1 1 n f := by
  rw [lineR, if_neg (by rw [List.length_append]; simp [amHead]; omega), head_words, wordsOf_one h.1 h.gap, h.small, head_read, h.rest hh, ← date_1850]
  rfl
theorem line_am2 {x z : List UInt8} (h : AmW x) (k : AmW z) (hl : x.length ≤ 100) (kl : z.length ≤ 60) {n f a b : Int} (hh : hunO x = some (n, f)) (hz : hunO z = some (a, b)) : lineR (amHead ++ (x ++ 32 :: 116 :: 111 :: 32 :: z)) zcard = cardR 5 (some 9) 1 1 n a := by
  rw [lineR, if_neg (by simp [amHead]; omega), head_words, wordsOf_cons _ h.1 h.gap, show 116 :: 111 :: 32 :: z = [116, 111] ++ 32 :: z from rfl, wordsOf_cons _ (by decide) (by decide), wordsOf_one k.1 k.gap, h.small, k.small, head_read]
  rw [show smallL [116, 111] = toW from rfl, h.rest2 hh hz, ← date_1850]
  rfl
/-- Two digits, four digits. -/
def twoL (n : Int) : List UInt8 := [dgt (n / 10 % 10), dgt (n % 10)]
def fourL (n : Int) : List UInt8 := twoL (n / 100 % 100) ++ twoL (n % 100)
theorem twoL_dig (n : Int) : ∀ c ∈ twoL n, isDig c = true := by
  intro c hc
  simp only [twoL, List.mem_cons, List.not_mem_nil, or_false] at hc
  rcases hc with rfl | rfl
  · exact (dgt_dig _ (by omega) (by omega)).1
  · exact (dgt_dig _ (by omega) (by omega)).1
theorem fourL_dig (n : Int) : ∀ c ∈ fourL n, isDig c = true := by
  intro c hc
  rcases List.mem_append.1 hc with hc | hc
  · exact twoL_dig _ c hc
  · exact twoL_dig _ c hc
theorem twoL_num (n : Int) (h0 : 0 ≤ n) (h1 : n < 100) : numO (twoL n) = some n := by
  have d1 := dgt_dig (n / 10 % 10) (by omega) (by omega)
  have d2 := dgt_dig (n % 10) (by omega) (by omega)
  have hn : isNum (twoL n) = true := by rw [isNum, List.all_eq_true.2 (twoL_dig n)]; rfl
  rw [numO, if_pos hn]
  congr 1
  show ((((0 * 10 + ((dgt (n / 10 % 10)).toNat - 48)) * 10 + ((dgt (n % 10)).toNat - 48) : Nat)) : Int) = n
  rw [d1.2, d2.2]
  omega
theorem fourL_num (n : Int) (h0 : 0 ≤ n) (h1 : n < 10000) : numO (fourL n) = some n := by
  have d1 := dgt_dig (n / 100 % 100 / 10 % 10) (by omega) (by omega)
  have d2 := dgt_dig (n / 100 % 100 % 10) (by omega) (by omega)
  have d3 := dgt_dig (n % 100 / 10 % 10) (by omega) (by omega)
  have d4 := dgt_dig (n % 100 % 10) (by omega) (by omega)
  have hn : isNum (fourL n) = true := by rw [isNum, List.all_eq_true.2 (fourL_dig n)]; rfl
  rw [numO, if_pos hn]
  congr 1
  show (((((0 * 10 + ((dgt (n / 100 % 100 / 10 % 10)).toNat - 48)) * 10 + ((dgt (n / 100 % 100 % 10)).toNat - 48)) * 10 + ((dgt (n % 100 / 10 % 10)).toNat - 48)) * 10 + ((dgt (n % 100 % 10)).toNat - 48) : Nat) : Int) = n
  rw [d1.2, d2.2, d3.2, d4.2]
  omega
theorem am_dig {c : UInt8} (h : isDig c = true) : isAm c = true := by rw [isAm, h]; rfl
theorem am_join {a b : List UInt8} {s : UInt8} (ha : ∀ c ∈ a, isDig c = true) (hb : ∀ c ∈ b, isDig c = true) (hs : isAm s = true) : AmW (a ++ s :: b) :=
  ⟨by simp, fun c hc => by
    rcases List.mem_append.1 hc with hc | hc
    · exact am_dig (ha c hc)
    · rcases List.mem_cons.1 hc with rfl | hc
      · exact hs
      · exact am_dig (hb c hc)⟩
theorem hun_four (n : Int) (s : UInt8) (hs : pc.contains s = true) (h0 : 0 ≤ n) (h1 : n ≤ 200000) : hunO (fourL (n / 100) ++ s :: twoL (n % 100)) = some (n, 1) := by
  rw [hun_digs (fourL_dig _) hs, hun2, fourL_num (n / 100) (by omega) (by omega), twoL_num (n % 100) (by omega) (by omega)]
  have e : (fourL (n / 100)).isEmpty = false := rfl
  have e1 : (twoL (n % 100)).length = 2 := rfl
  rw [e, e1]
  simp
  omega
theorem hun_two (n : Int) (h0 : 0 ≤ n) (h1 : n < 100) : hunO (46 :: twoL n) = some (n, 1) := by
  rw [show (46 : UInt8) :: twoL n = [] ++ 46 :: twoL n from rfl, hun_digs (by simp) (by decide), hun2, twoL_num n h0 h1]
  have e1 : (twoL n).length = 2 := rfl
  rw [e1]
  simp
theorem hun_zero (n : Int) (h0 : 0 ≤ n) (h1 : n < 100) : hunO (48 :: 46 :: twoL n) = some (n, 1) := by
  rw [show (48 : UInt8) :: 46 :: twoL n = [48] ++ 46 :: twoL n from rfl, hun_digs (by decide) (by decide), hun2, twoL_num n h0 h1]
  have e1 : (twoL n).length = 2 := rfl
  have e2 : numO [48] = some 0 := by decide +kernel
  rw [e1, e2]
  simp
theorem hun_one : hunO [49] = some (100, 100) := by decide +kernel
theorem card_am (n f : Int) (h0 : 0 ≤ n) (h1 : n ≤ 200000) (f0 : 1 ≤ f) (f1 : f ≤ 100) (hd : n % f = 0) : cardR 5 (some 9) 1 1 n f = .got ⟨5, 9, 1, 1, n, f⟩ := by
  have e : n.tmod f = 0 := by rw [Int.tmod_eq_emod_of_nonneg h0]; exact hd
  rw [cardR]
  rw [if_pos]
  simp [isCard, within, e]
  omega
theorem card_no (n f : Int) (h0 : 0 ≤ n) (hd : ¬ n % f = 0) : cardR 5 (some 9) 1 1 n f = .err 3 := by
  have e : ¬ n.tmod f = 0 := by rw [Int.tmod_eq_emod_of_nonneg h0]; exact hd
  rw [cardR]
  rw [if_neg]
  simp [isCard, within, e]
end Go.Proofs.YthifeoebefbalaaGreatDoor
