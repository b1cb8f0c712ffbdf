/- Reading: plain laws about words, numbers, amounts. -/
import Derived.Test.YthifeoebefbalaaGreatDoorZ12
import Derived.Test.YthifeoebefbalaaGreatDoorR8
set_option linter.unusedVariables false
set_option linter.unusedSimpArgs false
namespace Go.Proofs.YthifeoebefbalaaGreatDoor
open Go.RowKit

/-- What a digit is not. -/
theorem dig_all (c : UInt8) (h : isDig c = true) : gapU c = false ∧ smallB c = c ∧ pc.contains c = false ∧ c ≠ 100 ∧ c ≠ 35 ∧ c ≠ 47 ∧ c ≠ 46 ∧ c ≠ 45 ∧ c ≠ 44 ∧ c ≠ 10 ∧ 48 ≤ c.toNat ∧ c.toNat ≤ 57 := by
  have key : ∀ n : Fin 256, isDig (UInt8.ofNat n.1) = true → gapU (UInt8.ofNat n.1) = false ∧ smallB (UInt8.ofNat n.1) = UInt8.ofNat n.1 ∧ pc.contains (UInt8.ofNat n.1) = false ∧ UInt8.ofNat n.1 ≠ 100 ∧ UInt8.ofNat n.1 ≠ 35 ∧ UInt8.ofNat n.1 ≠ 47 ∧ UInt8.ofNat n.1 ≠ 46 ∧ UInt8.ofNat n.1 ≠ 45 ∧ UInt8.ofNat n.1 ≠ 44 ∧ UInt8.ofNat n.1 ≠ 10 ∧ 48 ≤ (UInt8.ofNat n.1).toNat ∧ (UInt8.ofNat n.1).toNat ≤ 57 := by decide +kernel
  have := key ⟨c.toNat, c.toNat_lt⟩
  simp only [UInt8.ofNat_toNat] at this
  exact this h
/-- A digit. -/
def dgt (n : Int) : UInt8 := UInt8.ofNat (48 + n).toNat
theorem dgt_dig (n : Int) (h0 : 0 ≤ n) (h1 : n < 10) : isDig (dgt n) = true ∧ (dgt n).toNat = (48 + n).toNat := by
  have e : (dgt n).toNat = (48 + n).toNat := by rw [dgt, UInt8.toNat_ofNat']; omega
  exact ⟨by rw [isDig, e]; simp; omega, e⟩
theorem numV_snoc (l : List UInt8) (c : UInt8) : numV (l ++ [c]) = numV l * 10 + (c.toNat - 48) := by rw [numV, List.foldl_append]; rfl
theorem itoa_dgt (n : Int) (h0 : 0 ≤ n) (h1 : n < 10) : Lib.itoa n = [dgt n] := by rw [itoa_one n h0 h1, dgt, show n % 10 = n by omega]
theorem itoa_snoc (n : Int) (h0 : 0 ≤ n) (h1 : ¬ n < 10) : Lib.itoa n = Lib.itoa (n / 10) ++ [dgt (n % 10)] := itoa_more n h0 h1
/-- The digits of a number: how many at most; that they are digits; what they come to. -/
theorem itoa_all (k : Nat) : ∀ n : Int, 0 ≤ n → n < 10 ^ (k + 1) → (Lib.itoa n).length ≤ k + 1 ∧ 1 ≤ (Lib.itoa n).length ∧ (∀ c ∈ Lib.itoa n, isDig c = true) ∧ (numV (Lib.itoa n) : Int) = n := by
  induction k with
  | zero =>
    intro n h0 h1
    have hd := dgt_dig n h0 (by omega)
    rw [itoa_dgt n h0 (by omega)]
    refine ⟨by simp, by simp, by simpa using hd.1, ?_⟩
    rw [show numV [dgt n] = numV [] * 10 + ((dgt n).toNat - 48) from rfl, hd.2]
    show (((0 * 10 + ((48 + n).toNat - 48) : Nat)) : Int) = n
    omega
  | succ k ih =>
    intro n h0 h1
    by_cases hn : n < 10
    · have hd := dgt_dig n h0 (by omega)
      rw [itoa_dgt n h0 (by omega)]
      refine ⟨by simp, by simp, by simpa using hd.1, ?_⟩
      rw [show numV [dgt n] = numV [] * 10 + ((dgt n).toNat - 48) from rfl, hd.2]
      show (((0 * 10 + ((48 + n).toNat - 48) : Nat)) : Int) = n
      omega
    · have hp : (10 : Int) ^ (k + 1 + 1) = 10 ^ (k + 1) * 10 := Int.pow_succ _ _
      obtain ⟨i1, i2, i3, i4⟩ := ih (n / 10) (by omega) (by omega)
      have hd := dgt_dig (n % 10) (by omega) (by omega)
      rw [itoa_snoc n h0 hn]
      refine ⟨by rw [List.length_append]; simp; omega, by rw [List.length_append]; simp, ?_, ?_⟩
      · intro c hc
        rcases List.mem_append.1 hc with hc | hc
        · exact i3 c hc
        · obtain rfl := List.mem_singleton.1 hc
          exact hd.1
      · rw [numV_snoc, hd.2]
        omega
theorem itoa_ten (n : Int) (h0 : 0 ≤ n) (h1 : n < 10000000000) : isNum (Lib.itoa n) = true ∧ (∀ c ∈ Lib.itoa n, isDig c = true) ∧ 1 ≤ (Lib.itoa n).length ∧ numO (Lib.itoa n) = some n := by
  obtain ⟨a, b, c, d⟩ := itoa_all 9 n h0 (show n < 10 ^ (9 + 1) by rw [show (10 : Int) ^ (9 + 1) = 10000000000 from by decide]; exact h1)
  have e : isNum (Lib.itoa n) = true := by
    rw [isNum, Bool.and_eq_true, Bool.and_eq_true]
    exact ⟨⟨by simpa using b, by simpa using a⟩, List.all_eq_true.2 c⟩
  exact ⟨e, c, b, by rw [numO, if_pos e, d]⟩
theorem small_digs {l : List UInt8} (h : ∀ c ∈ l, isDig c = true) : smallL l = l := by
  rw [smallL]
  conv => rhs; rw [← List.map_id l]
  exact List.map_congr_left fun c hc => (dig_all c (h c hc)).2.1

theorem fold_more (a p : List (List UInt8)) (q : List UInt8) (r : List UInt8) : r.foldl wstep (a ++ p, q) = (a ++ (r.foldl wstep (p, q)).1, (r.foldl wstep (p, q)).2) := by
  induction r generalizing p q with
  | nil => rfl
  | cons c r ih =>
    rw [List.foldl_cons, List.foldl_cons]
    have e : wstep (a ++ p, q) c = (a ++ (wstep (p, q) c).1, (wstep (p, q) c).2) := by
      unfold wstep
      split
      · split <;> simp
      · rfl
    rw [e]
    exact ih _ _
theorem wfold_word {w : List UInt8} (hg : ∀ c ∈ w, gapU c = false) : wfold w = ([], smallL w) := by
  have := wfold_run [] w hg
  simpa [wfold] using this
/-- A word at the head of a text. -/
theorem wordsOf_cons {w : List UInt8} (r : List UInt8) (hw : w ≠ []) (hg : ∀ c ∈ w, gapU c = false) : wordsOf (w ++ 32 :: r) = smallL w :: wordsOf r := by
  have hs : smallL w ≠ [] := by simpa [smallL] using hw
  have e : wfold (w ++ 32 :: r) = (smallL w :: (wfold r).1, (wfold r).2) := by
    rw [show w ++ 32 :: r = (w ++ [32]) ++ r by simp, wfold, List.foldl_append]
    have e1 : List.foldl wstep ([], []) (w ++ [32]) = ([smallL w] ++ [], []) := by
      have := wfold_snoc w 32
      rw [wfold] at this
      rw [this, wfold_word hg, wstep, if_pos (by decide), if_neg hs]
      rfl
    rw [e1, fold_more]
    rfl
  rw [wordsOf, wordsOf, e]
  split <;> rfl
theorem wordsOf_one {w : List UInt8} (hw : w ≠ []) (hg : ∀ c ∈ w, gapU c = false) : wordsOf w = [smallL w] := by
  have hs : smallL w ≠ [] := by simpa [smallL] using hw
  rw [wordsOf, wfold_word hg, if_neg hs]
  rfl
theorem digs_nogap {l : List UInt8} (h : ∀ c ∈ l, isDig c = true) : ∀ c ∈ l, gapU c = false := fun c hc => (dig_all c (h c hc)).1

/-- The first sign of a decimal. -/
theorem index_digs {a : List UInt8} (b : List UInt8) (s : UInt8) (h : ∀ c ∈ a, isDig c = true) (hs : pc.contains s = true) : Lib.indexAny (a ++ s :: b) pc = a.length := by
  induction a with
  | nil => rw [List.nil_append, Lib.indexAny, if_pos hs]; rfl
  | cons c a ih =>
    have i := ih (fun d hd => h d (by simp [hd]))
    have hc := (dig_all c (h c (by simp))).2.2.1
    rw [List.cons_append, Lib.indexAny, if_neg (by rw [hc]; exact Bool.false_ne_true), i, if_neg (by simp), List.length_cons]
    rfl
theorem index_no {a : List UInt8} (h : ∀ c ∈ a, isDig c = true) : Lib.indexAny a pc = -1 := by
  induction a with
  | nil => rfl
  | cons c a ih =>
    have i := ih (fun d hd => h d (by simp [hd]))
    have hc := (dig_all c (h c (by simp))).2.2.1
    rw [Lib.indexAny, if_neg (by rw [hc]; exact Bool.false_ne_true), i, if_pos (by rfl)]
theorem hun_digs {a b : List UInt8} {s : UInt8} (h : ∀ c ∈ a, isDig c = true) (hs : pc.contains s = true) : hunO (a ++ s :: b) = hun2 a b := by
  have i := index_digs b s h hs
  rw [hunO, i, if_neg (by omega)]
  have e1 : ((a.length : Int)).toNat = a.length := by omega
  rw [e1]
  congr 1
  · simp
  · rw [show a.length + 1 = (a ++ [s]).length by simp, show a ++ s :: b = (a ++ [s]) ++ b by simp, List.drop_left]
theorem hun_whole {a : List UInt8} (h : ∀ c ∈ a, isDig c = true) : hunO a = (numO a).map fun v => (100 * v, 100) := by
  rw [hunO, index_no h, if_pos (by decide)]
end Go.Proofs.YthifeoebefbalaaGreatDoor
