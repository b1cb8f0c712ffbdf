/- Reading: a printed card is read as it. -/
import Derived.Test.YthifeoebefbalaaGreatDoorV12
import Derived.Test.YthifeoebefbalaaGreatDoorR10
set_option linter.unusedVariables false
set_option linter.unusedSimpArgs false
namespace Go.Proofs.YthifeoebefbalaaGreatDoor
open Go.RowKit

def mon3 (m : Int) : List UInt8 := (dletters.drop (3 * m - 3).toNat).take ((3 * m).toNat - (3 * m - 3).toNat)
theorem mon3_all (m : Int) (h1 : 1 ≤ m) (h2 : m ≤ 12) : mon3 m ≠ [] ∧ (∀ c ∈ mon3 m, gapU c = false) ∧ monthO (smallL (mon3 m)) = some m ∧ (mon3 m).length = 3 ∧ ∀ c ∈ mon3 m, c ≠ 10 := by
  have : m = 1 ∨ m = 2 ∨ m = 3 ∨ m = 4 ∨ m = 5 ∨ m = 6 ∨ m = 7 ∨ m = 8 ∨ m = 9 ∨ m = 10 ∨ m = 11 ∨ m = 12 := by omega
  rcases this with rfl | rfl | rfl | rfl | rfl | rfl | rfl | rfl | rfl | rfl | rfl | rfl <;> exact ⟨by decide, by decide, by decide +kernel, by decide, by decide⟩
theorem itoa_ne (n : Int) (h0 : 0 ≤ n) (h1 : n < 10000000000) : Lib.itoa n ≠ [] := by
  intro h
  have := (itoa_ten n h0 h1).2.2.1
  rw [h] at this
  simp at this
theorem itoa_len (k : Nat) (n : Int) (h0 : 0 ≤ n) (h1 : n < 10 ^ (k + 1)) : (Lib.itoa n).length ≤ k + 1 := (itoa_all k n h0 h1).1
def dayW2 (n : Int) : List UInt8 := if n = 1 then dayW else daysW
def restText (c : Card) : List UInt8 := wordOf c.ki ++ cardAmount c
theorem ctext_eq (c : Card) : ctext c = Lib.itoa c.st ++ 32 :: (Lib.itoa (dof c.da).d ++ 32 :: (mon3 (dof c.da).m ++ 32 :: (Lib.itoa (dof c.da).y ++ 32 :: (Lib.itoa c.dy ++ 32 :: (dayW2 c.dy ++ 32 :: restText c))))) := by
  rw [ctext, cardHead, restText, dtext, dayW2, mon3]
  by_cases h : c.dy = 1
  · rw [if_pos h, if_pos h]; simp [dayW]
  · rw [if_neg h, if_neg h]; simp [daysW]
theorem two_of (n : Int) (h0 : 0 ≤ n) : Lib.itoa (n / 10 % 10) ++ Lib.itoa (n % 10) = twoL (n % 100) := by
  rw [itoa_dgt (n / 10 % 10) (by omega) (by omega), itoa_dgt (n % 10) (by omega) (by omega), twoL, show n % 100 / 10 % 10 = n / 10 % 10 by omega, show n % 100 % 10 = n % 10 by omega]
  rfl
theorem dec2 (n : Int) (h0 : 0 ≤ n) : decText n 2 = Lib.itoa (n / 100) ++ 46 :: twoL (n % 100) := by rw [← fixed_two n h0, fixedText, two_of n h0]
theorem dec1 (n : Int) (h0 : 0 ≤ n) : decText n 1 = Lib.itoa (n / 100) ++ 46 :: [dgt (n / 10 % 10)] := by rw [← tenth_one n h0, itoa_dgt (n / 10 % 10) (by omega) (by omega)]
theorem dec0 (n : Int) : decText n 0 = Lib.itoa (n / 100) := (whole_zero n).symm
theorem one_dig (n : Int) (h0 : 0 ≤ n) (h1 : n < 10) : ∀ c ∈ [dgt n], isDig c = true := by intro c hc; rw [List.mem_singleton.1 hc]; exact (dgt_dig n h0 h1).1
theorem itoa_digs (n : Int) (h0 : 0 ≤ n) (h1 : n < 10000000000) : ∀ c ∈ Lib.itoa n, isDig c = true := (itoa_ten n h0 h1).2.1
theorem am2 (n : Int) (h0 : 0 ≤ n) (h1 : n ≤ 200000) : AmW (decText n 2) ∧ hunO (decText n 2) = some (n, 1) := by
  have hd := itoa_digs (n / 100) (by omega) (by omega)
  rw [dec2 n h0]
  refine ⟨am_join hd (twoL_dig _) (by decide), ?_⟩
  have e1 : (twoL (n % 100)).length = 2 := rfl
  have e2 : (Lib.itoa (n / 100)).isEmpty = false := by
    have := itoa_ne (n / 100) (by omega) (by omega)
    cases h : Lib.itoa (n / 100) with
    | nil => exact absurd h this
    | cons _ _ => rfl
  rw [hun_digs hd (by decide), hun2, e2, (itoa_ten (n / 100) (by omega) (by omega)).2.2.2, twoL_num (n % 100) (by omega) (by omega), e1]
  simp
  omega
theorem numO_one (n : Int) (h0 : 0 ≤ n) (h1 : n < 10) : numO [dgt n] = some n := by
  have := (itoa_ten n h0 (by omega)).2.2.2
  rwa [itoa_dgt n h0 h1] at this
theorem am1 (n : Int) (h0 : 0 ≤ n) (h1 : n ≤ 200000) (hd : n % 10 = 0) : AmW (decText n 1) ∧ hunO (decText n 1) = some (n, 10) := by
  have hdg := itoa_digs (n / 100) (by omega) (by omega)
  rw [dec1 n h0]
  refine ⟨am_join hdg (one_dig _ (by omega) (by omega)) (by decide), ?_⟩
  have e2 : (Lib.itoa (n / 100)).isEmpty = false := by
    have := itoa_ne (n / 100) (by omega) (by omega)
    cases h : Lib.itoa (n / 100) with
    | nil => exact absurd h this
    | cons _ _ => rfl
  rw [hun_digs hdg (by decide), hun2, e2, (itoa_ten (n / 100) (by omega) (by omega)).2.2.2, numO_one (n / 10 % 10) (by omega) (by omega)]
  simp
  omega
theorem am0 (n : Int) (h0 : 0 ≤ n) (h1 : n ≤ 200000) (hd : n % 100 = 0) : AmW (decText n 0) ∧ hunO (decText n 0) = some (n, 100) := by
  have hdg := itoa_digs (n / 100) (by omega) (by omega)
  rw [dec0 n]
  refine ⟨⟨itoa_ne _ (by omega) (by omega), fun c hc => am_dig (hdg c hc)⟩, ?_⟩
  rw [hun_whole hdg, (itoa_ten (n / 100) (by omega) (by omega)).2.2.2]
  simp
  omega
/-- What stands behind the days: its words, and what they come to. -/
theorem rest_read (c : Card) (h : isCard c = true) (st n : Int) (d : Option Int) : ∃ ws, wordsOf (restText c) = ws ∧ amtW ws = .got c.ki c.am c.fi [] ∧ (restText c).length ≤ 15 ∧ (∀ u ∈ restText c, u ≠ 10) ∧ restText c ≠ [] := by
  obtain ⟨h1, h2, h3, h4, h5, h6, h7, h8, h9, h10⟩ := isCard_true h
  obtain ⟨s, da, dy, ki, am, fi⟩ := c
  simp only at h7 h8 h9 h10
  by_cases k1 : ki = 1
  · obtain ⟨g1, g2, g3, g4, g5⟩ := h9 k1
    subst k1
    have l0 := itoa_len 3 (am / 100) (by omega) (by rw [show (10 : Int) ^ (3 + 1) = 10000 from by decide]; omega)
    have l1 := itoa_len 0 (fi / 100) (by omega) (by rw [show (10 : Int) ^ (0 + 1) = 10 from by decide]; omega)
    have a2 := am2 am g3 g4
    have b2 := am2 fi (by omega) (by omega)
    have hw : wordOf 1 = [] := by decide
    have not10 : ∀ x : List UInt8, AmW x → ∀ u ∈ x, u ≠ 10 := fun x hx u hu => (am_all u (hx.2 u hu)).2.2.2.2.2.2.2.2.2
    by_cases f1 : fi = 1
    · subst f1
      have e : restText ⟨s, da, dy, 1, am, 1⟩ = decText am 2 := by simp [restText, cardAmount, hw]
      rw [e]
      exact ⟨_, wordsOf_one a2.1.1 a2.1.gap, by rw [a2.1.small, a2.1.amt a2.2], by rw [dec2 am g3]; simp [twoL]; omega, not10 _ a2.1, a2.1.1⟩
    by_cases f10 : fi = 10
    · subst f10
      have a1 := am1 am g3 g4 g5
      have e : restText ⟨s, da, dy, 1, am, 10⟩ = decText am 1 := by simp [restText, cardAmount, hw]
      rw [e]
      exact ⟨_, wordsOf_one a1.1.1 a1.1.gap, by rw [a1.1.small, a1.1.amt a1.2], by rw [dec1 am g3]; simp; omega, not10 _ a1.1, a1.1.1⟩
    by_cases f100 : fi = 100
    · subst f100
      have a0 := am0 am g3 g4 g5
      have e : restText ⟨s, da, dy, 1, am, 100⟩ = decText am 0 := by simp [restText, cardAmount, hw]
      rw [e]
      exact ⟨_, wordsOf_one a0.1.1 a0.1.gap, by rw [a0.1.small, a0.1.amt a0.2], by rw [dec0 am]; omega, not10 _ a0.1, a0.1.1⟩
    have e : restText ⟨s, da, dy, 1, am, fi⟩ = decText am 2 ++ 32 :: ([116, 111] ++ 32 :: decText fi 2) := by simp [restText, cardAmount, hw, f1, f10, f100]
    rw [e]
    refine ⟨_, by rw [wordsOf_cons _ a2.1.1 a2.1.gap, wordsOf_cons _ (by decide) (by decide), wordsOf_one b2.1.1 b2.1.gap, a2.1.small, b2.1.small], ?_, ?_, ?_, by simp⟩
    · exact a2.1.amt2 a2.2 b2.2
    · rw [dec2 am g3, dec2 fi (by omega)]; simp [twoL]; omega
    · intro u hu
      simp only [List.mem_append, List.mem_cons, List.not_mem_nil, or_false] at hu
      rcases hu with hu | rfl | (rfl | rfl) | rfl | hu
      · exact not10 _ a2.1 u hu
      · decide
      · decide
      · decide
      · decide
      · exact not10 _ b2.1 u hu
  · obtain ⟨q1, q2⟩ := h10 k1
    subst q1 q2
    have : ki = 2 ∨ ki = 3 ∨ ki = 4 := by omega
    rcases this with rfl | rfl | rfl
    · rw [show restText ⟨s, da, dy, 2, 0, 0⟩ = [116, 114, 97, 99, 101] from rfl]
      exact ⟨_, rfl, by rfl, by decide, by decide, by decide⟩
    · rw [show restText ⟨s, da, dy, 3, 0, 0⟩ = [110, 105, 108] from rfl]
      exact ⟨_, rfl, by rfl, by decide, by decide, by decide⟩
    · rw [show restText ⟨s, da, dy, 4, 0, 0⟩ = [109, 105, 115, 115, 105, 110, 103] from rfl]
      exact ⟨_, rfl, by rfl, by decide, by decide, by decide⟩
theorem lump_days (n : Int) (h0 : 0 ≤ n) (h1 : n < 10000000000) (ws : List (List UInt8)) : lumpW (Lib.itoa n :: dayW2 n :: ws) = .got n ws := by
  obtain ⟨a1, a2, a3, a4⟩ := itoa_ten n h0 h1
  have hf : Lib.itoa n ≠ forW := fun e => by
    have := a2 102 (by rw [e]; decide)
    exact absurd this (by decide)
  have hd : isD (Lib.itoa n) = false := by
    rw [isD, suffix_no (d := 100) (by simp) (dig_not a2 _ (by decide))]; rfl
  have hv : (numV (Lib.itoa n) : Int) = n := (numO_spec a4).2
  have hw : (decide (dayW2 n = dayW) || decide (dayW2 n = daysW)) = true := by
    unfold dayW2
    split <;> decide
  rw [lumpW, if_neg hf, lump2, hd, a1, hw]
  simp [hv]
theorem date_print (last : Card) (y m d : Int) (ws : List (List UInt8)) (m1 : 1 ≤ m) (m2 : m ≤ 12) (d0 : 0 ≤ d) (d1 : d < 100) (y0 : 1000 ≤ y) (y1 : y < 10000) : dateW (Lib.itoa d) (smallL (mon3 m) :: Lib.itoa y :: ws) last = .date ⟨y, m, d⟩ ws := by
  obtain ⟨a1, a2, a3, a4⟩ := itoa_ten d d0 (by omega)
  obtain ⟨b1, b2, b3, b4⟩ := itoa_ten y (by omega) (by omega)
  have hx : decide (Lib.itoa d = nextW) = false := by
    rw [decide_eq_false_iff_not]
    intro e
    have := a2 110 (by rw [e]; decide)
    exact absurd this (by decide)
  have hy : (Lib.itoa y).length = 4 := by
    have h4 := itoa_len 3 y (by omega) (by rw [show (10 : Int) ^ (3 + 1) = 10000 from by decide]; exact y1)
    have h3 : ¬ (Lib.itoa y).length ≤ 3 := fun hle => by
      have l1 := itoa_snoc y (by omega) (by omega)
      have l2 := itoa_snoc (y / 10) (by omega) (by omega)
      have l3 := itoa_snoc (y / 10 / 10) (by omega) (by omega)
      have l4 := (itoa_ten (y / 10 / 10 / 10) (by omega) (by omega)).2.2.1
      rw [l1, l2, l3] at hle
      simp only [List.length_append, List.length_cons, List.length_nil] at hle
      omega
    omega
  have hyr : yearO (Lib.itoa y) = some y := by rw [yearO, if_pos hy, b4]
  have hh : isDig ((Lib.itoa d).headD 0) = true := by
    cases e : Lib.itoa d with
    | nil => exact absurd e (itoa_ne d d0 (by omega))
    | cons c r => exact a2 c (by rw [e]; simp)
  rw [dateW, hx, joined_none (dig_signs a2), hh, threeW]
  simp only [if_true, (dom_digs a2).trans a4, (mon3_all m m1 m2).2.2.1, hyr]
  rfl
theorem station_print (st : Int) (last : Card) (h0 : 0 ≤ st) (h1 : st < 10000000000) : stationO (Lib.itoa st) last = some st := by
  obtain ⟨a1, a2, a3, a4⟩ := itoa_ten st h0 h1
  have hd : isDo (Lib.itoa st) = false := by
    rw [isDo, decide_eq_false_iff_not]
    intro e
    have := a2 100 (by rw [e]; decide)
    exact absurd this (by decide)
  have hp : Lib.trimPrefix (Lib.itoa st) [35] = Lib.itoa st := by
    have : Lib.hasPrefix (Lib.itoa st) [35] = false := by
      cases e : Lib.hasPrefix (Lib.itoa st) [35] with
      | false => rfl
      | true =>
        rw [Lib.hasPrefix, List.isPrefixOf_iff_prefix] at e
        exact absurd (a2 35 (e.subset (by simp))) (by decide)
    rw [Lib.trimPrefix, this]
    rfl
  rw [stationO, hd, hp, a4]
  rfl
theorem dof_facts (day : Int) (h0 : 0 ≤ day) (h1 : day ≤ 60000) : 1850 ≤ (dof day).y ∧ (dof day).y ≤ 2014 ∧ 1 ≤ (dof day).m ∧ (dof day).m ≤ 12 ∧ 1 ≤ (dof day).d ∧ (dof day).d ≤ 31 := by
  have hn := dnum_dof day h0 h1
  have he : dexists (dof day).y (dof day).m (dof day).d = true := by
    unfold dnum at hn
    split at hn
    · rename_i h; exact h.1
    · cases hn
  obtain ⟨a1, a2, a3, a4, a5, a6⟩ := dexists_true.1 he
  have := mlen_bd (dof day).y (dof day).m
  exact ⟨a1, a2, a3, a4, a5, by omega⟩
theorem dayW2_all (n : Int) : dayW2 n ≠ [] ∧ (∀ c ∈ dayW2 n, gapU c = false) ∧ smallL (dayW2 n) = dayW2 n ∧ (dayW2 n).length ≤ 4 ∧ ∀ c ∈ dayW2 n, c ≠ 10 := by
  unfold dayW2
  split <;> exact ⟨by decide, by decide, by decide, by decide, by decide⟩
/-- A printed card: how long it is; it has no new line; it is read as the card behind any card. -/
theorem print_read (c : Card) (h : isCard c = true) : (ctext c).length ≤ 46 ∧ (∀ u ∈ ctext c, u ≠ 10) ∧ (ctext c).all gapU = false ∧ ∀ last, lineR (ctext c) last = .got c := by
  obtain ⟨h1, h2, h3, h4, h5, h6, -⟩ := isCard_true h
  obtain ⟨y0, y1, m1, m2, d0, d1⟩ := dof_facts c.da h3 h4
  obtain ⟨s1, s2, s3, s4⟩ := itoa_ten c.st (by omega) (by omega)
  obtain ⟨t1, t2, t3, t4⟩ := itoa_ten (dof c.da).d (by omega) (by omega)
  obtain ⟨u1, u2, u3, u4⟩ := itoa_ten (dof c.da).y (by omega) (by omega)
  obtain ⟨v1, v2, v3, v4⟩ := itoa_ten c.dy (by omega) (by omega)
  obtain ⟨o1, o2, o3, o4, o5⟩ := mon3_all (dof c.da).m m1 m2
  obtain ⟨p1, p2, p3, p4, p5⟩ := dayW2_all c.dy
  obtain ⟨ws, w1, w2, w3, w4, w5⟩ := rest_read c h 0 0 none
  have l1 := itoa_len 9 c.st (by omega) (by rw [show (10 : Int) ^ (9 + 1) = 10000000000 from by decide]; omega)
  have l2 := itoa_len 1 (dof c.da).d (by omega) (by rw [show (10 : Int) ^ (1 + 1) = 100 from by decide]; omega)
  have l3 := itoa_len 3 (dof c.da).y (by omega) (by rw [show (10 : Int) ^ (3 + 1) = 10000 from by decide]; omega)
  have l4 := itoa_len 1 c.dy (by omega) (by rw [show (10 : Int) ^ (1 + 1) = 100 from by decide]; omega)
  have hlen : (ctext c).length ≤ 46 := by
    rw [ctext_eq]
    simp only [List.length_append, List.length_cons]
    omega
  have not10 : ∀ x : List UInt8, (∀ u ∈ x, isDig u = true) → ∀ u ∈ x, u ≠ 10 := fun x hx => dig_not hx 10 (by decide)
  refine ⟨hlen, ?_, ?_, fun last => ?_⟩
  · intro u hu
    rw [ctext_eq] at hu
    simp only [List.mem_append, List.mem_cons] at hu
    rcases hu with hu | rfl | hu | rfl | hu | rfl | hu | rfl | hu | rfl | hu | rfl | hu
    · exact not10 _ s2 u hu
    · decide
    · exact not10 _ t2 u hu
    · decide
    · exact o5 u hu
    · decide
    · exact not10 _ u2 u hu
    · decide
    · exact not10 _ v2 u hu
    · decide
    · exact p5 u hu
    · decide
    · exact w4 u hu
  · rw [ctext_eq]
    cases e : Lib.itoa c.st with
    | nil => rw [e] at s3; simp at s3
    | cons x r =>
      have := (dig_all x (s2 x (by rw [e]; simp))).1
      simp [this]
  · have ne : ∀ x : List UInt8, 1 ≤ x.length → x ≠ [] := fun x hx e => by rw [e] at hx; simp at hx
    have e : wordsOf (ctext c) = Lib.itoa c.st :: Lib.itoa (dof c.da).d :: smallL (mon3 (dof c.da).m) :: Lib.itoa (dof c.da).y :: Lib.itoa c.dy :: dayW2 c.dy :: ws := by
      rw [ctext_eq, wordsOf_cons _ (ne _ s3) (digs_nogap s2), wordsOf_cons _ (ne _ t3) (digs_nogap t2), wordsOf_cons _ o1 o2, wordsOf_cons _ (ne _ u3) (digs_nogap u2), wordsOf_cons _ (ne _ v3) (digs_nogap v2), wordsOf_cons _ p1 p2, w1,
        small_digs s2, small_digs t2, small_digs u2, small_digs v2, p3]
    have hc : cardR c.st (dnum (dof c.da).y (dof c.da).m (dof c.da).d) c.dy c.ki c.am c.fi = .got c := by
      rw [dnum_dof c.da h3 h4, cardR, if_pos h]
    have e1 := station_print c.st last (by omega) (by omega)
    have e2 := date_print last (dof c.da).y (dof c.da).m (dof c.da).d (Lib.itoa c.dy :: dayW2 c.dy :: ws) m1 m2 (by omega) (by omega) (by omega) (by omega)
    have e3 := lump_days c.dy (by omega) (by omega) ws
    rw [lineR, if_neg (by omega), e, readRs]
    simp only [e1, e2, restR, e3, w2, dateR]
    simpa using hc
/-- The lines of printed cards. -/
theorem split_join (l : List (List UInt8)) (h : ∀ x ∈ l, ∀ u ∈ x, u ≠ 10) (hne : l ≠ []) : splitL 10 ((l.flatMap fun x => x ++ [10]).dropLast) = l := by
  induction l with
  | nil => exact absurd rfl hne
  | cons x l ih =>
    by_cases hl : l = []
    · subst hl
      simp
      exact split_none (h x (by simp))
    · have e : ((x :: l).flatMap fun x => x ++ [10]).dropLast = x ++ 10 :: (l.flatMap fun x => x ++ [10]).dropLast := by
        rw [List.flatMap_cons, List.dropLast_append_of_ne_nil]
        · simp
        · cases l with
          | nil => exact absurd rfl hl
          | cons z l => simp
      rw [e, split_at _ (h x (by simp)), ih (fun z hz => h z (by simp [hz])) hl]
def sheetText (l : List Card) : List UInt8 := l.flatMap fun c => ctext c ++ [10]
theorem sheetText_len (l : List Card) (h : ∀ c ∈ l, isCard c = true) : (sheetText l).length ≤ 47 * l.length := by
  induction l with
  | nil => simp [sheetText]
  | cons c l ih =>
    have h1 := (print_read c (h c (by simp))).1
    have h2 := ih (fun d hd => h d (by simp [hd]))
    simp only [sheetText, List.flatMap_cons, List.length_append, List.length_cons, List.length_nil] at h2 ⊢
    omega
theorem sheetFrom_print (l : List Card) (h : ∀ c ∈ l, isCard c = true) : ∀ (i : Int) (out : List Card) (last : Card), sheetFrom (l.map ctext) i out last = (out ++ l, 0, -1) := by
  induction l with
  | nil => intro i out last; simp [sheetFrom]
  | cons c l ih =>
    intro i out last
    obtain ⟨-, -, a1, a2⟩ := print_read c (h c (by simp))
    rw [List.map_cons, sheetFrom, if_neg (by rw [a1]; exact Bool.false_ne_true), a2 last]
    show (if (0 : Int) = 0 then _ else _) = _
    rw [if_pos rfl, ih (fun d hd => h d (by simp [hd]))]
    simp [rdC]
theorem sheet_print (l : List Card) (h : ∀ c ∈ l, isCard c = true) (hl : l.length ≤ 100) : sheetR (sheetText l) = (l, 0, -1) := by
  by_cases hne : l = []
  · subst hne; rfl
  · have hlines : linesOf (sheetText l) = l.map ctext := by
      have e0 : sheetText l = (l.map ctext).flatMap fun x => x ++ [10] := by simp [sheetText, List.flatMap_map]
      have h1 : (sheetText l).isEmpty = false := by
        cases l with
        | nil => exact absurd rfl hne
        | cons c l => simp [sheetText]
      have h2 : Lib.trimSuffix (sheetText l) [10] = (sheetText l).dropLast := by
        have : ∃ T, sheetText l = T ++ [10] := by
          rcases List.eq_nil_or_concat l with h0 | ⟨l', c, rfl⟩
          · exact absurd h0 hne
          · exact ⟨sheetText l' ++ ctext c, by simp [sheetText]⟩
        obtain ⟨T, hT⟩ := this
        have hs : Lib.hasSuffix (T ++ [10]) [10] = true := by rw [Lib.hasSuffix, List.isSuffixOf_iff_suffix]; exact List.suffix_append _ _
        rw [hT, Lib.trimSuffix, hs]
        simp
      rw [linesOf, h1, h2, e0]
      simp only [Bool.false_eq_true, if_false]
      refine split_join _ ?_ (by simpa using hne)
      intro x hx u hu
      obtain ⟨c, hc, rfl⟩ := List.mem_map.1 hx
      exact (print_read c (h c hc)).2.1 u hu
    rw [sheetR, hlines, if_neg (by simp; omega), sheetFrom_print l h]
    rfl
end Go.Proofs.YthifeoebefbalaaGreatDoor
