/- A sheet, line by line: plain laws. -/
import Derived.Test.YthifeoebefbalaaGreatDoorX4
set_option linter.unusedVariables false
set_option linter.unusedSimpArgs false
namespace Go.Proofs.YthifeoebefbalaaGreatDoor
open Go.RowKit

theorem wfold_blank (l : List UInt8) : (l.all gapU = true ∧ wfold l = ([], [])) ∨ (l.all gapU = false ∧ ((wfold l).1 ≠ [] ∨ (wfold l).2 ≠ [])) := by
  suffices h : ∀ r : List UInt8, (r.reverse.all gapU = true ∧ wfold r.reverse = ([], [])) ∨ (r.reverse.all gapU = false ∧ ((wfold r.reverse).1 ≠ [] ∨ (wfold r.reverse).2 ≠ [])) by
    have := h l.reverse
    simpa using this
  intro r
  induction r with
  | nil => exact .inl ⟨rfl, rfl⟩
  | cons c r ih =>
    rw [List.reverse_cons, wfold_snoc]
    cases hg : gapU c with
    | true =>
      rcases ih with ⟨h1, h2⟩ | ⟨h1, h2⟩
      · refine .inl ⟨by rw [List.all_append, h1]; simp [hg], by rw [h2, wstep, if_pos hg, if_pos rfl]⟩
      · refine .inr ⟨by rw [List.all_append, h1]; rfl, ?_⟩
        rw [wstep, if_pos hg]
        split
        · exact h2
        · exact .inl (by simp)
    | false =>
      refine .inr ⟨by rw [List.all_append]; simp [hg], ?_⟩
      rw [wstep, if_neg (by rw [hg]; exact Bool.false_ne_true)]
      exact .inr (by simp)
theorem words_blank (l : List UInt8) (h : wordsOf l = []) : l.all gapU = true := by
  rcases wfold_blank l with ⟨h1, -⟩ | ⟨-, h2⟩
  · exact h1
  · exfalso
    rw [wordsOf] at h
    split at h
    · rename_i h3
      rcases h2 with h2 | h2
      · exact h2 h
      · exact h2 h3
    · simp at h
theorem words_some (l : List UInt8) {x : List UInt8} {r : List (List UInt8)} (h : wordsOf l = x :: r) : l.all gapU = false := by
  rcases wfold_blank l with ⟨h1, h2⟩ | ⟨h1, -⟩
  · rw [wordsOf, h2] at h
    cases h
  · exact h1
theorem threeW_ne (b : Bool) (x : List UInt8) (ws w' : List (List UInt8)) : threeW b x ws ≠ .next w' := by
  match ws with
  | [] => simp [threeW]
  | [a] => simp [threeW]
  | a :: c :: ws =>
    simp only [threeW]
    repeat' split
    all_goals simp
/-- A line without ditto is read alike behind any card. -/
theorem read_nodo (x : List UInt8) (r : List (List UInt8)) (last : Card) (h1 : x ≠ [100, 111]) (h2 : ∀ y r', r = y :: r' → y ≠ nextW) : readRs (x :: r) last = readRs (x :: r) zcard := by
  have hd : isDo x = false := by rw [isDo]; exact decide_eq_false h1
  have hs : ∀ c, stationO x c = numO (Lib.trimPrefix x [35]) := fun c => by rw [stationO, hd]; rfl
  rw [readRs, readRs]
  simp only [hs]
  cases numO (Lib.trimPrefix x [35]) with
  | none => rfl
  | some st =>
    cases r with
    | nil => rfl
    | cons y r' =>
      have hy : decide (y = nextW) = false := decide_eq_false (h2 y r' rfl)
      have hdw : ∀ c, dateW y r' c = (match joinedO y with | .date d => .date d r' | .stop => .stop | .no => threeW (isDig (y.headD 0)) y r') := fun c => by rw [dateW, hy]; rfl
      simp only [hdw]
      cases joinedO y with
      | date d => rfl
      | stop => rfl
      | no =>
        simp only
        cases e : threeW (isDig (y.headD 0)) y r' with
        | stop => rfl
        | date d ws => rfl
        | next ws => exact absurd e (threeW_ne _ _ _ _)
theorem line_nodo (s x : List UInt8) (r : List (List UInt8)) (last : Card) (hw : wordsOf s = x :: r) (h1 : x ≠ [100, 111]) (h2 : ∀ y r', r = y :: r' → y ≠ nextW) : lineR s last = lineR s zcard := by
  rw [lineR, lineR, hw, read_nodo x r last h1 h2]
theorem sheet_blank1 {s : List UInt8} (h : s.all gapU = true) (ls : List (List UInt8)) (i : Int) (out : List Card) (last : Card) : sheetFrom (s :: ls) i out last = sheetFrom ls (i + 1) out last := by rw [sheetFrom, if_pos h]
theorem sheet_good {s : List UInt8} {last c : Card} (h : s.all gapU = false) (hr : lineR s last = .got c) (ls : List (List UInt8)) (i : Int) (out : List Card) : sheetFrom (s :: ls) i out last = sheetFrom ls (i + 1) (out ++ [c]) c := by
  rw [sheetFrom, if_neg (by rw [h]; exact Bool.false_ne_true), hr]
  rfl
theorem sheet_bad {s : List UInt8} {last : Card} (h : s.all gapU = false) (hr : rdE (lineR s last) ≠ 0) (ls : List (List UInt8)) (i : Int) (out : List Card) : sheetFrom (s :: ls) i out last = ([], rdE (lineR s last), i) := by
  rw [sheetFrom, if_neg (by rw [h]; exact Bool.false_ne_true), if_neg hr]
/-- A sheet without an error has the cards so far at its head. -/
theorem sheet_head (ls : List (List UInt8)) : ∀ (i : Int) (out : List Card) (last : Card), (sheetFrom ls i out last).2.1 = 0 → ∃ m, (sheetFrom ls i out last).1 = out ++ m ∧ (sheetFrom ls i out last).2.2 = -1 := by
  induction ls with
  | nil => intro i out last _; exact ⟨[], by simp [sheetFrom], rfl⟩
  | cons s ls ih =>
    intro i out last h
    by_cases hb : s.all gapU = true
    · rw [sheet_blank1 hb] at h ⊢
      exact ih _ _ _ h
    · have hb' : s.all gapU = false := by simpa using hb
      by_cases he : rdE (lineR s last) = 0
      · have e : sheetFrom (s :: ls) i out last = sheetFrom ls (i + 1) (out ++ [rdC (lineR s last)]) (rdC (lineR s last)) := by rw [sheetFrom, if_neg hb, if_pos he]
        rw [e] at h ⊢
        obtain ⟨m, h1, h2⟩ := ih _ _ _ h
        exact ⟨rdC (lineR s last) :: m, by rw [h1]; simp, h2⟩
      · rw [sheet_bad hb' he] at h
        exact absurd h he
theorem sheet_more (ls bl : List (List UInt8)) (hbl : ∀ b ∈ bl, b.all gapU = true) : ∀ (i j : Int) (out : List Card) (last : Card), (sheetFrom ls i out last).2.1 = 0 → sheetFrom (ls ++ bl) j out last = sheetFrom ls i out last := by
  induction ls with
  | nil =>
    intro i j out last _
    have : ∀ (bl : List (List UInt8)), (∀ b ∈ bl, b.all gapU = true) → ∀ j, sheetFrom bl j out last = (out, 0, -1) := by
      intro bl
      induction bl with
      | nil => intro _ j; rfl
      | cons b bl ih => intro hb j; rw [sheet_blank1 (hb b (by simp))]; exact ih (fun c hc => hb c (by simp [hc])) _
    rw [List.nil_append, this bl hbl]
    rfl
  | cons s ls ih =>
    intro i j out last h
    rw [List.cons_append]
    by_cases hb : s.all gapU = true
    · rw [sheet_blank1 hb] at h ⊢
      rw [sheet_blank1 hb]
      exact ih _ _ _ _ h
    · have hb' : s.all gapU = false := by simpa using hb
      by_cases he : rdE (lineR s last) = 0
      · have e : ∀ ls i, sheetFrom (s :: ls) i out last = sheetFrom ls (i + 1) (out ++ [rdC (lineR s last)]) (rdC (lineR s last)) := fun ls i => by rw [sheetFrom, if_neg hb, if_pos he]
        rw [e] at h ⊢
        rw [e]
        exact ih _ _ _ _ h
      · rw [sheet_bad hb' he] at h
        exact absurd h he
/-- The sheet with further lines without words. -/
theorem sheet_again (t : List UInt8) (hn : (linesOf t).length ≤ 90) (h : (sheetR t).2.1 = 0) : sheetR (10 :: (t ++ [10, 32, 59, 10])) = sheetR t := by
  have e1 : linesOf (10 :: (t ++ [10, 32, 59, 10])) = [] :: (splitL 10 t ++ [[32, 59]]) := by
    have e2 : 10 :: (t ++ [10, 32, 59, 10]) = (10 :: (t ++ 10 :: [32, 59])) ++ [10] := by simp
    have e3 := split_hit (s := 10) t [32, 59]
    have e4 : splitL 10 (10 :: (t ++ 10 :: [32, 59])) = [] :: splitL 10 (t ++ 10 :: [32, 59]) := by rw [splitL, if_pos rfl]
    rw [linesOf, e2, trim_hit, e4, e3]
    simp
    rfl
  have hs : sheetR t = sheetFrom (linesOf t) 0 [] zcard := by rw [sheetR, if_neg (by omega)]
  rw [hs] at h ⊢
  have hb : ∃ bl, splitL 10 t ++ [[32, 59]] = linesOf t ++ bl ∧ (∀ b ∈ bl, b.all gapU = true) ∧ bl.length ≤ 2 := by
    rcases (lines_same t).2 with e | e
    · exact ⟨[[32, 59]], by rw [e], by decide, by decide⟩
    · exact ⟨[[], [32, 59]], by rw [e]; simp, by decide, by decide⟩
  obtain ⟨bl, hbl, hall, hlen⟩ := hb
  rw [sheetR, e1, hbl, if_neg (by simp; omega), sheet_blank1 (by rfl)]
  exact sheet_more _ _ hall _ _ _ _ h
end Go.Proofs.YthifeoebefbalaaGreatDoor
