/- What the reference reads in a line is what Read reads: its date. -/
import Derived.Test.YthifeoebefbalaaGreatDoorY11
set_option linter.unusedVariables false
set_option linter.unusedSimpArgs false
namespace Go.Proofs.YthifeoebefbalaaGreatDoor
open Go.RowKit

theorem trim_mem {x p : List UInt8} {u : UInt8} (h : u ∈ x) : u ∈ Lib.trimSuffix x p ∨ u ∈ p := by
  unfold Lib.trimSuffix
  cases hs : Lib.hasSuffix x p with
  | false => exact .inl h
  | true =>
    rw [Lib.hasSuffix, List.isSuffixOf_iff_suffix] at hs
    obtain ⟨y, rfl⟩ := hs
    simp only [if_true]
    rw [show (y ++ p).length - p.length = y.length by simp, List.take_left]
    exact List.mem_append.1 h
theorem num_mem {x : List UInt8} {v : Int} (h : numO x = some v) : ∀ u ∈ x, isDig u = true := fun u hu => List.all_eq_true.1 (isNum_spec (numO_spec h).1).2.2 u hu
theorem num_ge {x : List UInt8} {v : Int} (h : numO x = some v) : 0 ≤ v := (numO_bd h).1
theorem year_num {x : List UInt8} {v : Int} (h : yearO x = some v) : numO x = some v := by
  unfold yearO at h
  split at h
  · exact h
  · cases h
/-- The letters of a day of the month. -/
theorem dom_mem {x : List UInt8} {v : Int} (h : domO x = some v) : 0 ≤ v ∧ ∀ u ∈ x, isDig u = true ∨ u ∈ ([115, 116, 110, 100, 114, 104, 44] : List UInt8) := by
  unfold domO at h
  split at h
  · rename_i i hi
    have hi4 := List.mem_range.1 (List.mem_of_find?_eq_some hi)
    refine ⟨num_ge h, fun u hu => ?_⟩
    rcases trim_mem (p := [44]) hu with h1 | h1
    · rcases trim_mem (p := endsL.getD i []) h1 with h2 | h2
      · exact .inl (num_mem h u h2)
      · have : i = 0 ∨ i = 1 ∨ i = 2 ∨ i = 3 := by omega
        rcases this with rfl | rfl | rfl | rfl <;> (simp [endsL] at h2; rcases h2 with rfl | rfl <;> exact .inr (by decide))
    · simp at h1; subst h1; exact .inr (by decide)
  · refine ⟨num_ge h, fun u hu => ?_⟩
    rcases trim_mem (p := [44]) hu with h1 | h1
    · exact .inl (num_mem h u h1)
    · simp at h1; subst h1; exact .inr (by decide)
theorem trim_head {x p : List UInt8} (h : Lib.trimSuffix x p ≠ []) : (Lib.trimSuffix x p).headD 0 = x.headD 0 := by
  unfold Lib.trimSuffix at h ⊢
  split
  · rename_i hs
    rw [if_pos hs] at h
    cases x with
    | nil => simp
    | cons a x =>
      cases hk : (a :: x).length - p.length with
      | zero => rw [hk] at h; simp at h
      | succ k => rfl
  · rfl
theorem dom_head {x : List UInt8} {v : Int} (h : domO x = some v) : isDig (x.headD 0) = true := by
  have key : ∀ y : List UInt8, numO y = some v → y ≠ [] ∧ isDig (y.headD 0) = true := fun y hy => by
    have h1 := (isNum_spec (numO_spec hy).1).1
    cases y with
    | nil => simp at h1
    | cons a y => exact ⟨by simp, num_mem hy a (by simp)⟩
  unfold domO at h
  split at h
  · obtain ⟨h1, h2⟩ := key _ h
    rw [trim_head h1] at h2
    rwa [trim_head (fun e => h1 (by rw [e]; unfold Lib.trimSuffix; split <;> simp))] at h2
  · obtain ⟨h1, h2⟩ := key _ h
    rwa [trim_head h1] at h2
theorem mon_heads : ∀ i : Fin 12, 97 ≤ ((monNames.getD i.1 []).headD 0).toNat ∧ monNames.getD i.1 [] ≠ [] := by decide
/-- A month begins with a letter. -/
theorem month_head {x : List UInt8} {v : Int} (h : monthO x = some v) : 1 ≤ v ∧ 97 ≤ (x.headD 0).toNat := by
  unfold monthO at h
  cases hf : (List.range 12).find? (monAt (Lib.trimSuffix x [46])) with
  | none => rw [hf] at h; cases h
  | some i =>
    rw [hf] at h
    simp at h
    have hi := List.mem_range.1 (List.mem_of_find?_eq_some hf)
    have hp := List.find?_some hf
    unfold monAt at hp
    simp only [Bool.and_eq_true, decide_eq_true_eq] at hp
    refine ⟨by omega, ?_⟩
    have hne : Lib.trimSuffix x [46] ≠ [] := fun e => by rw [e] at hp; simp at hp
    rw [← trim_head hne]
    have h2 := hp.2
    rw [Lib.hasPrefix, List.isPrefixOf_iff_prefix] at h2
    obtain ⟨t, ht⟩ := h2
    have h3 := mon_heads ⟨i, hi⟩
    simp only at h3
    rw [← ht] at h3
    cases hc : Lib.trimSuffix x [46] with
    | nil => exact absurd hc hne
    | cons a y => rw [hc] at h3; exact h3.1
theorem month_not {x : List UInt8} {v : Int} (h : monthO x = some v) : isDig (x.headD 0) = false := by
  have h1 := (month_head h).2
  cases hd : isDig (x.headD 0) with
  | false => rfl
  | true =>
    unfold isDig at hd
    simp only [Bool.and_eq_true, decide_eq_true_eq] at hd
    omega
theorem split_mem (c : UInt8) (l : List UInt8) : ∀ u ∈ l, u = c ∨ ∃ p ∈ splitL c l, u ∈ p := by
  induction l with
  | nil => simp
  | cons x l ih =>
    intro u hu
    rw [splitL]
    by_cases hx : x = c
    · rw [if_pos hx]
      rcases List.mem_cons.1 hu with rfl | h
      · exact .inl hx
      · rcases ih u h with h | ⟨p, hp, h⟩
        · exact .inl h
        · exact .inr ⟨p, List.mem_cons_of_mem _ hp, h⟩
    · rw [if_neg hx]
      cases hs : splitL c l with
      | nil => exact absurd hs (splitL_ne c l)
      | cons q qs =>
        rcases List.mem_cons.1 hu with rfl | h
        · exact .inr ⟨u :: q, by simp, by simp⟩
        · rcases ih u h with h | ⟨p, hp, h⟩
          · exact .inl h
          · rw [hs] at hp
            rcases List.mem_cons.1 hp with rfl | hp
            · exact .inr ⟨x :: p, by simp, List.mem_cons_of_mem _ h⟩
            · exact .inr ⟨p, List.mem_cons_of_mem _ hp, h⟩
theorem orM_neg {x : List UInt8} (h : isNum x = false) : orM (numO x) < 0 := by rw [num_no h]; decide
theorem orM_yes {x : List UInt8} (h : isNum x = true) : orM (numO x) = numV x := num_yes h
theorem orM_year {x : List UInt8} : 0 ≤ orM (yearO x) ↔ ∃ v, yearO x = some v := by
  cases h : yearO x with
  | none => simp [orM]
  | some v => have := num_ge (year_num h); simp [orM, this]
theorem oneT_not {a b c : List UInt8} (h : (isNum a && isNum b && isNum c) = false) : oneT a b c = none := by
  rw [oneT, if_neg]
  rintro ⟨h1, h2, -, h4⟩
  have ha : isNum a = true := by cases e : isNum a with | true => rfl | false => have := orM_neg e; omega
  have hb : isNum b = true := by cases e : isNum b with | true => rfl | false => have := orM_neg e; omega
  obtain ⟨v, hv⟩ := orM_year.1 h4
  have hc := (numO_spec (year_num hv)).1
  rw [ha, hb, hc] at h
  exact absurd h (by decide)
theorem len_three {α : Type} (l : List α) (h : l.length = 3) : ∃ a b c, l = [a, b, c] := by
  match l, h with
  | [a, b, c], _ => exact ⟨a, b, c, rfl⟩
theorem oneAt_3 {s : UInt8} {l a b c : List UInt8} (h : splitL s l = [a, b, c]) : oneAt s l = if s = 45 ∧ a.length = 4 then oneT c b a else oneT a b c := by rw [oneAt, h]
theorem oneAt_not3 {s : UInt8} {l : List UInt8} (h : (splitL s l).length ≠ 3) : oneAt s l = none := by
  unfold oneAt
  split
  · rename_i e; rw [e] at h; exact absurd rfl h
  · rfl
/-- Three numbers, or not. -/
theorem at_same (s : UInt8) (l : List UInt8) : (joinAt s l = .no ∧ oneAt s l = none) ∨ (∃ d, joinAt s l = .date d ∧ oneAt s l = some d) ∨ (joinAt s l = .stop ∧ oneAt s l = none ∧ ∀ u ∈ l, isDig u = true ∨ u = s) := by
  by_cases h3 : (splitL s l).length = 3
  · obtain ⟨a, b, c, hs⟩ := len_three _ h3
    rw [joinAt_3 hs, oneAt_3 hs]
    cases hn : (isNum a && isNum b && isNum c) with
    | false =>
      refine .inl ⟨by rw [join3, hn]; rfl, ?_⟩
      split
      · refine oneT_not ?_
        cases ha : isNum a <;> cases hb : isNum b <;> cases hc : isNum c <;> simp_all
      · exact oneT_not hn
    | true =>
      have h3 := hn
      simp only [Bool.and_eq_true] at h3
      obtain ⟨⟨ha, hb⟩, hc⟩ := h3
      have ea := orM_yes ha
      have eb := orM_yes hb
      have ec := orM_yes hc
      have hall : ∀ u ∈ l, isDig u = true ∨ u = s := fun u hu => by
        rcases split_mem s l u hu with h | ⟨p, hp, h⟩
        · exact .inr h
        · rw [hs] at hp
          simp at hp
          rcases hp with rfl | rfl | rfl
          · exact .inl (List.all_eq_true.1 (isNum_spec ha).2.2 u h)
          · exact .inl (List.all_eq_true.1 (isNum_spec hb).2.2 u h)
          · exact .inl (List.all_eq_true.1 (isNum_spec hc).2.2 u h)
      rw [join3, hn]
      simp only [if_true]
      by_cases hm : 1 ≤ numV b ∧ numV b ≤ 12
      · rw [if_pos (by simpa using hm)]
        by_cases hd : s = 45 ∧ a.length = 4
        · have hy : yearO a = some (numV a : Int) := by rw [yearO, if_pos hd.2, numO, if_pos ha]
          refine .inr (.inl ⟨_, by rw [if_pos (by simpa using hd)], ?_⟩)
          rw [if_pos hd, oneT, hy, eb, ec, if_pos (by simp [orM]; omega)]
          rfl
        · rw [if_neg (by simpa using hd), if_neg hd]
          cases hy : yearO c with
          | some y =>
            have := num_ge (year_num hy)
            refine .inr (.inl ⟨_, rfl, ?_⟩)
            rw [oneT, hy, ea, eb, if_pos (by simp [orM]; omega)]
            rfl
          | none =>
            refine .inr (.inr ⟨rfl, ?_, hall⟩)
            rw [oneT, hy, if_neg (by simp [orM])]
      · rw [if_neg (by simpa using hm)]
        refine .inr (.inr ⟨rfl, ?_, hall⟩)
        split
        · rw [oneT, if_neg]; rw [eb]; omega
        · rw [oneT, if_neg]; rw [eb]; omega
  · exact .inl ⟨joinAt_not3 h3, oneAt_not3 h3⟩
theorem one_other {s t : UInt8} {l : List UInt8} (h : ∀ u ∈ l, isDig u = true ∨ u = s) (ht : isDig t = false) (hst : s ≠ t) : oneAt t l = none := by
  rw [oneAt, split_none (fun c hc => by
    rcases h c hc with h | rfl
    · rintro rfl; rw [h] at ht; cases ht
    · exact hst)]
theorem sign_not {s : UInt8} (h : s ∈ signs) : isDig s = false ∧ s.toNat < 48 ∧ s ∉ ([115, 116, 110, 100, 114, 104, 44] : List UInt8) := by
  simp [signs] at h
  rcases h with rfl | rfl | rfl <;> decide
theorem none_all {s : UInt8} {l : List UInt8} (h : ∀ u ∈ l, isDig u = true ∨ u = s) (hs : s ∈ signs) (h0 : oneAt s l = none) : ∀ ss : List UInt8, (∀ t ∈ ss, t ∈ signs) → oneFrom l ss = none := by
  intro ss
  induction ss with
  | nil => intro _; rfl
  | cons t ss ih =>
    intro hss
    have e : oneAt t l = none := by
      by_cases hst : s = t
      · rw [← hst]; exact h0
      · exact one_other h (sign_not (hss t (by simp))).1 hst
    rw [oneFrom, e]
    exact ih (fun t ht => hss t (List.mem_cons_of_mem _ ht))
theorem from_same (l : List UInt8) : ∀ ss : List UInt8, (∀ t ∈ ss, t ∈ signs) → (joinedFrom l ss = .no ∧ oneFrom l ss = none) ∨ (∃ d, joinedFrom l ss = .date d ∧ oneFrom l ss = some d) ∨ (joinedFrom l ss = .stop ∧ oneFrom l ss = none ∧ ∃ s ∈ signs, s ∈ l ∧ ∀ u ∈ l, isDig u = true ∨ u = s) := by
  intro ss
  induction ss with
  | nil => intro _; exact .inl ⟨rfl, rfl⟩
  | cons s ss ih =>
    intro hss
    have hs := hss s (by simp)
    have hss' : ∀ t ∈ ss, t ∈ signs := fun t ht => hss t (List.mem_cons_of_mem _ ht)
    rcases at_same s l with ⟨h1, h2⟩ | ⟨d, h1, h2⟩ | ⟨h1, h2, h3⟩
    · rw [joined_no h1, oneFrom, h2]
      exact ih hss'
    · exact .inr (.inl ⟨d, by rw [joined_yes (by rw [h1]; intro e; cases e), h1], by rw [oneFrom, h2]⟩)
    · refine .inr (.inr ⟨by rw [joined_yes (by rw [h1]; intro e; cases e), h1], ?_, s, hs, ?_, h3⟩)
      · exact none_all h3 hs h2 _ hss
      · by_cases hm : s ∈ l
        · exact hm
        · rw [joinAt, split_none (fun c hc e => hm (by rw [← e]; exact hc))] at h1
          cases h1
/-- One word. -/
theorem one_same (x : List UInt8) : (joinedO x = .no ∧ oneO x = none) ∨ (∃ d, joinedO x = .date d ∧ oneO x = some d) ∨ (joinedO x = .stop ∧ oneO x = none ∧ domO x = none ∧ monthO x = none) := by
  rcases from_same x signs (fun t ht => ht) with h | h | ⟨h1, h2, s, hs, hm, h3⟩
  · exact .inl h
  · exact .inr (.inl h)
  · refine .inr (.inr ⟨h1, h2, ?_, ?_⟩)
    · cases hd : domO x with
      | none => rfl
      | some v =>
        exfalso
        obtain ⟨a1, a2, a3⟩ := sign_not hs
        rcases (dom_mem hd).2 s hm with h | h
        · rw [a1] at h; cases h
        · exact a3 h
    · cases hd : monthO x with
      | none => rfl
      | some v =>
        exfalso
        have hh := (month_head hd).2
        obtain ⟨a1, a2, a3⟩ := sign_not hs
        cases x with
        | nil => simp at hm
        | cons u x =>
          simp only [List.headD_cons] at hh
          rcases h3 u (by simp) with h | rfl
          · unfold isDig at h
            simp at h
            omega
          · omega
theorem dom_get (x : List UInt8) : (∃ v, domO x = some v ∧ 0 ≤ orM (domO x) ∧ orM (domO x) = v) ∨ (domO x = none ∧ ¬ 0 ≤ orM (domO x)) := by
  cases h : domO x with
  | none => exact .inr ⟨rfl, by simp [orM]⟩
  | some v => exact .inl ⟨v, rfl, (dom_mem h).1, rfl⟩
theorem mon_get (x : List UInt8) : (∃ v, monthO x = some v ∧ 0 < (monthO x).getD 0 ∧ (monthO x).getD 0 = v) ∨ (monthO x = none ∧ ¬ 0 < (monthO x).getD 0) := by
  cases h : monthO x with
  | none => exact .inr ⟨rfl, by simp⟩
  | some v => have := (month_head h).1; exact .inl ⟨v, rfl, by simp; omega, rfl⟩
/-- Three words. -/
theorem three_same (x : List UInt8) (ws : List (List UInt8)) (h : oneO x = none) : match datR (x :: ws) with
    | none => threeW (isDig (x.headD 0)) x ws = .stop
    | some p => threeW (isDig (x.headD 0)) x ws = .date p.1 ((x :: ws).drop p.2.toNat) := by
  match ws with
  | [] => simp only [datR, h]; rfl
  | [y] => simp only [datR, h]; rfl
  | y :: z :: ws =>
    simp only [datR, h]
    cases hz : yearO z with
    | none =>
      rw [if_pos (by simp [orM])]
      simp only [threeW, hz]
      split
      · rename_i h1 h2 h3; cases h3
      · rfl
    | some c =>
      have hc := num_ge (year_num hz)
      rw [if_neg (by simp [orM]; omega)]
      cases hd : isDig (x.headD 0) with
      | true =>
        have hx : monthO x = none := by
          cases e : monthO x with
          | none => rfl
          | some v => rw [month_not e] at hd; cases hd
        rcases dom_get x with ⟨a, a1, a2, a3⟩ | ⟨a1, a2⟩
        · rcases mon_get y with ⟨b, b1, b2, b3⟩ | ⟨b1, b2⟩
          · rw [if_pos ⟨a2, b2⟩, a3, b3]
            simp only [threeW, if_true, a1, b1, hz]
            rfl
          · rw [if_neg (fun e => b2 e.2), if_neg (by simp [hx])]
            simp only [threeW, if_true, a1, b1, hz]
        · rw [if_neg (fun e => a2 e.1), if_neg (by simp [hx])]
          simp only [threeW, if_true, a1, hz]
      | false =>
        have hx : ¬ 0 ≤ orM (domO x) := by
          rcases dom_get x with ⟨a, a1, a2, a3⟩ | ⟨a1, a2⟩
          · rw [dom_head a1] at hd; cases hd
          · exact a2
        rw [if_neg (fun e => hx e.1)]
        rcases mon_get x with ⟨a, a1, a2, a3⟩ | ⟨a1, a2⟩
        · rcases dom_get y with ⟨b, b1, b2, b3⟩ | ⟨b1, b2⟩
          · rw [if_pos ⟨a2, b2⟩, a3, b3]
            simp only [threeW, Bool.false_eq_true, if_false, a1, b1, hz]
            rfl
          · rw [if_neg (fun e => b2 e.2)]
            simp only [threeW, Bool.false_eq_true, if_false, a1, b1, hz]
        · rw [if_neg (fun e => a2 e.1)]
          simp only [threeW, Bool.false_eq_true, if_false, a1, hz]
theorem date_same (x : List UInt8) (ws : List (List UInt8)) (last : Card) (hn : ¬ (x = nextW ∧ 0 < last.st)) : match datR (x :: ws) with
    | none => dateW x ws last = .stop
    | some p => dateW x ws last = .date p.1 ((x :: ws).drop p.2.toNat) := by
  have e : (decide (x = nextW) && decide (0 < last.st)) = false := by simpa using hn
  rw [dateW, e]
  rcases one_same x with ⟨h1, h2⟩ | ⟨d, h1, h2⟩ | ⟨h1, h2, h3, h4⟩
  · rw [h1]
    exact three_same x ws h2
  · rw [h1]
    simp only [datR, h2]
    rfl
  · rw [h1]
    have hd : datR (x :: ws) = none := by
      simp only [datR, h2]
      split
      · split
        · rfl
        · rw [if_neg (by simp [h3, orM]), if_neg (by simp [h4])]
      · rfl
    rw [hd]
    rfl
theorem doW_eq (x : List UInt8) (b : Card) : stationO x b = none ∧ stR (decide (0 < b.st)) b x < 0 ∨ ∃ st, stationO x b = some st ∧ stR (decide (0 < b.st)) b x = st ∧ 0 ≤ st := by
  unfold stationO stR
  cases hd : isDo x && decide (0 < b.st) with
  | true =>
    simp only [Bool.and_eq_true, decide_eq_true_eq] at hd
    exact .inr ⟨_, rfl, rfl, by omega⟩
  | false =>
    cases hn : numO (Lib.trimPrefix x [35]) with
    | none => exact .inl ⟨rfl, by simp [orM]⟩
    | some v => exact .inr ⟨v, rfl, rfl, num_ge hn⟩
/-- The reference's line is that of Read. -/
theorem line_same (b : Card) (hb : -1 ≤ b.da ∧ b.da ≤ 100000) (ws : List (List UInt8)) : lineF (decide (0 < b.st)) b ws = readRs ws b := by
  match ws with
  | [] => rfl
  | x :: ws =>
    rw [lineF, readRs]
    rcases doW_eq x b with ⟨h1, h2⟩ | ⟨st, h1, h2, h3⟩
    · rw [h1, if_pos h2]
    · rw [h1, h2, if_neg (by omega)]
      simp only
      match ws with
      | [] =>
        rw [if_neg (by simp)]
        rfl
      | y :: ws =>
        by_cases hn : y = nextW ∧ 0 < b.st
        · obtain ⟨rfl, hn⟩ := hn
          have e : dateW nextW ws b = .next ws := by
            rw [dateW, if_pos (by simpa using hn)]
          simp only [e]
          rw [if_pos ⟨by simpa using hn, rfl⟩, List.tail_cons]
          exact rest_same _ _ _ _ _ _ (fun _ => ⟨rfl, hb.1, hb.2⟩) (fun h => by cases h)
        · rw [if_neg (fun h => hn ⟨by simpa using h.2, by simpa using h.1⟩)]
          have h := date_same y ws b hn
          cases hd : datR (y :: ws) with
          | none =>
            rw [hd] at h
            simp only [h]
          | some p =>
            rw [hd] at h
            simp only [h]
            exact rest_same _ _ _ _ _ _ (fun h => by cases h) (fun _ => rfl)
end Go.Proofs.YthifeoebefbalaaGreatDoor
