/- The reference: ends of a word, a year, a day, a month, a kind. -/
import Derived.Test.YthifeoebefbalaaGreatDoorY1
set_option linter.unusedVariables false
set_option linter.unusedSimpArgs false
namespace Go.Proofs.YthifeoebefbalaaGreatDoor
open Go.RowKit

theorem suffix_iff (s t : List UInt8) (h : t.length ≤ s.length) : Lib.hasSuffix s t = (List.take (s.length - (s.length - t.length)) (List.drop (s.length - t.length) s) == t) := by
  have e0 : List.take (s.length - (s.length - t.length)) (List.drop (s.length - t.length) s) = s.drop (s.length - t.length) := List.take_of_length_le (by rw [List.length_drop]; omega)
  rw [e0, Lib.hasSuffix]
  by_cases e : s.drop (s.length - t.length) = t
  · rw [beq_iff_eq.2 e, List.isSuffixOf_iff_suffix]
    refine ⟨s.take (s.length - t.length), ?_⟩
    have := List.take_append_drop (s.length - t.length) s
    rwa [e] at this
  · rw [beq_eq_false_iff_ne.2 e]
    cases h2 : List.isSuffixOf t s with
    | false => rfl
    | true =>
      rw [List.isSuffixOf_iff_suffix] at h2
      obtain ⟨r, rfl⟩ := h2
      exact absurd (by simp) e
theorem suffix_short (s t : List UInt8) (h : s.length < t.length) : Lib.hasSuffix s t = false := by
  cases h2 : Lib.hasSuffix s t with
  | false => rfl
  | true =>
    rw [Lib.hasSuffix, List.isSuffixOf_iff_suffix] at h2
    have := h2.length_le
    omega
set_option maxRecDepth 100000 in
theorem c204 (s t : List UInt8) (w : World) (hs : s.length ≤ 4000) (ht : t.length ≤ 4000) : Calls Tryz.prog 204 #[.string ⟨s.toArray⟩, .string ⟨t.toArray⟩] w fun e w' => e = .returned (.bool (Lib.hasSuffix s t)) ∧ w = w' := by
  by_cases h : t.length ≤ s.length
  · have HS := Lib.hid (suffix_iff s t h)
    go_enter Tryz.func204, Tryz.ntmps204
    go_wp2_with fail
    go_ret
    exact ⟨ret_bool HS.out.symm, rfl⟩
  · have HS := Lib.hid (suffix_short s t (by omega))
    have hdec : decide (t.length ≤ s.length) = false := decide_eq_false h
    go_enter Tryz.func204, Tryz.ntmps204
    go_wp2_with fail
    go_ret
    exact ⟨ret_bool (by rw [HS.out]), rfl⟩
theorem c204_H {s t : List UInt8} {b : Bool} (h : Lib.hasSuffix s t = b) (hs : s.length ≤ 4000) (ht : t.length ≤ 4000) : ∀ W, Hid (Calls Tryz.prog 204 #[.string ⟨s.toArray⟩, .string ⟨t.toArray⟩] W fun e w' => e = .returned (.bool b) ∧ W = w') := fun W => Lib.hid (by
  have H := c204 s t W hs ht
  rw [h] at H
  exact H)
set_option maxRecDepth 100000 in
theorem c205 (s t : List UInt8) (w : World) (hs : s.length ≤ 4000) (ht : t.length ≤ 4000) : Calls Tryz.prog 205 #[.string ⟨s.toArray⟩, .string ⟨t.toArray⟩] w fun e w' => e = .returned (.string ⟨(Lib.trimSuffix s t).toArray⟩) ∧ w = w' := by
  obtain ⟨R, hR⟩ : ∃ R, Lib.trimSuffix s t = R := ⟨_, rfl⟩
  rw [hR]
  cases h : Lib.hasSuffix s t with
  | false =>
    have e : R = s := by rw [← hR, Lib.trimSuffix, h]; rfl
    subst e
    have H := c204_H h hs ht
    clear hR h
    go_enter Tryz.func205, Tryz.ntmps205
    go_wp2_with (go_at_call 204; refine (H _).out.mono ?_; rintro e w1 ⟨rfl, rfl⟩)
    go_ret
    exact ⟨rfl, rfl⟩
  | true =>
    have hle : t.length ≤ s.length := by
      by_cases hh : t.length ≤ s.length
      · exact hh
      · rw [suffix_short s t (by omega)] at h; cases h
    have e : R = s.take (s.length - t.length) := by rw [← hR, Lib.trimSuffix, h]; rfl
    subst e
    have H := c204_H h hs ht
    clear hR h
    go_enter Tryz.func205, Tryz.ntmps205
    go_wp2_with (go_at_call 204; refine (H _).out.mono ?_; rintro e w1 ⟨rfl, rfl⟩)
    go_ret
    exact ⟨ret_str (by simp), rfl⟩
theorem c162 (s : List UInt8) (w : World) : Calls Tryz.prog 162 #[.string ⟨s.toArray⟩] w fun e w' => e = .returned (.int .i64 (orM (yearO s))) ∧ w = w' := by
  obtain ⟨R, hR⟩ : ∃ R, orM (yearO s) = R := ⟨_, rfl⟩
  rw [hR]
  by_cases h : s.length = 4
  · have H : ∀ W, Hid (Calls Tryz.prog 118 #[.string ⟨s.toArray⟩] W fun e w' => e = .returned (.int .i64 R) ∧ W = w') := fun W => Lib.hid (by rw [← hR, yearO, if_pos h]; exact c118 s W)
    clear hR
    have h2 : (s.length : Int) = 4 := by omega
    go_enter Tryz.func162, Tryz.ntmps162
    go_wp2_with (go_at_call 118; refine (H _).out.mono ?_; rintro e w1 ⟨rfl, rfl⟩)
    go_ret
    exact ⟨rfl, rfl⟩
  · have e : R = -1 := by rw [← hR, yearO, if_neg h]; rfl
    subst e
    clear hR
    have h2 : ¬ (s.length : Int) = 4 := by omega
    have h3 : (s.length == 4) = false := beq_eq_false_iff_ne.2 h
    go_enter Tryz.func162, Tryz.ntmps162
    go_wp2_with fail
    go_ret
    exact ⟨rfl, rfl⟩
theorem trim_two {u e : List UInt8} (h : Lib.hasSuffix u e = true) (he : e.length = 2) : Lib.trimSuffix u e = u.take (u.length - 2) ∧ 2 ≤ u.length := by
  refine ⟨by rw [Lib.trimSuffix, h, he]; rfl, ?_⟩
  by_cases hh : 2 ≤ u.length
  · exact hh
  · rw [suffix_short u e (by omega)] at h; cases h
set_option maxRecDepth 100000 in
set_option maxHeartbeats 2000000 in
theorem c163 (s : List UInt8) (w : World) (hs : s.length ≤ 4000) : Calls Tryz.prog 163 #[.string ⟨s.toArray⟩] w fun e w' => e = .returned (.int .i64 (orM (domO s))) ∧ w = w' := by
  obtain ⟨R, hR⟩ : ∃ R, orM (domO s) = R := ⟨_, rfl⟩
  rw [hR]
  obtain ⟨u, hu⟩ : ∃ u, Lib.trimSuffix s [44] = u := ⟨_, rfl⟩
  have HT : ∀ W, Hid (Calls Tryz.prog 205 #[.string ⟨s.toArray⟩, .string ⟨#[44]⟩] W fun e w' => e = .returned (.string ⟨u.toArray⟩) ∧ W = w') := fun W => Lib.hid (by
    have H := c205 s [44] W hs (by simp)
    rw [hu] at H
    exact H)
  have hul : u.length ≤ 4000 := by rw [← hu]; exact Nat.le_trans (trimSuffix_len s [44]) hs
  rw [domO, hu] at hR
  clear hu
  cases b0 : Lib.hasSuffix u [115, 116] with
  | true =>
    have hf : (List.range 4).find? (fun i => Lib.hasSuffix u (endsL.getD i [])) = some 0 := by
      rw [show List.range 4 = [0, 1, 2, 3] from rfl]
      simp only [List.find?, endsL, List.getD, List.getElem?_cons_zero, List.getElem?_cons_succ, Option.getD_some, b0]
    rw [hf] at hR
    simp only at hR
    have H0 := c204_H b0 hul (by decide)
    obtain ⟨ht, h2⟩ := trim_two b0 rfl
    rw [show endsL.getD 0 [] = [115, 116] from rfl, ht] at hR
    have HN : ∀ W, Hid (Calls Tryz.prog 118 #[.string ⟨(u.take (u.length - 2)).toArray⟩] W fun e w' => e = .returned (.int .i64 R) ∧ W = w') := fun W => Lib.hid (by rw [← hR]; exact c118 _ W)
    clear hR hf ht b0
    go_enter Tryz.func163, Tryz.ntmps163
    go_wp2_with (first | (go_at_call 205; refine (HT _).out.mono ?_; rintro e w1 ⟨rfl, rfl⟩) | (go_at_call 204; with_reducible refine (H0 _).out.mono ?_; rintro e w1 ⟨rfl, rfl⟩) | (go_at_call 118; refine (HN _).out.mono ?_; rintro e w1 ⟨rfl, rfl⟩))
    go_ret
    exact ⟨rfl, rfl⟩
  | false =>
    cases b1 : Lib.hasSuffix u [110, 100] with
    | true =>
      have hf : (List.range 4).find? (fun i => Lib.hasSuffix u (endsL.getD i [])) = some 1 := by
        rw [show List.range 4 = [0, 1, 2, 3] from rfl]
        simp only [List.find?, endsL, List.getD, List.getElem?_cons_zero, List.getElem?_cons_succ, Option.getD_some, b0, b1]
      rw [hf] at hR
      simp only at hR
      have H0 := c204_H b0 hul (by decide)
      have H1 := c204_H b1 hul (by decide)
      obtain ⟨ht, h2⟩ := trim_two b1 rfl
      rw [show endsL.getD 1 [] = [110, 100] from rfl, ht] at hR
      have HN : ∀ W, Hid (Calls Tryz.prog 118 #[.string ⟨(u.take (u.length - 2)).toArray⟩] W fun e w' => e = .returned (.int .i64 R) ∧ W = w') := fun W => Lib.hid (by rw [← hR]; exact c118 _ W)
      clear hR hf ht b0 b1
      go_enter Tryz.func163, Tryz.ntmps163
      go_wp2_with (first | (go_at_call 205; refine (HT _).out.mono ?_; rintro e w1 ⟨rfl, rfl⟩) | (go_at_call 204; with_reducible refine (H0 _).out.mono ?_; rintro e w1 ⟨rfl, rfl⟩) | (go_at_call 204; with_reducible refine (H1 _).out.mono ?_; rintro e w1 ⟨rfl, rfl⟩) | (go_at_call 118; refine (HN _).out.mono ?_; rintro e w1 ⟨rfl, rfl⟩))
      go_ret
      exact ⟨rfl, rfl⟩
    | false =>
      cases b2 : Lib.hasSuffix u [114, 100] with
      | true =>
        have hf : (List.range 4).find? (fun i => Lib.hasSuffix u (endsL.getD i [])) = some 2 := by
          rw [show List.range 4 = [0, 1, 2, 3] from rfl]
          simp only [List.find?, endsL, List.getD, List.getElem?_cons_zero, List.getElem?_cons_succ, Option.getD_some, b0, b1, b2]
        rw [hf] at hR
        simp only at hR
        have H0 := c204_H b0 hul (by decide)
        have H1 := c204_H b1 hul (by decide)
        have H2 := c204_H b2 hul (by decide)
        obtain ⟨ht, h2⟩ := trim_two b2 rfl
        rw [show endsL.getD 2 [] = [114, 100] from rfl, ht] at hR
        have HN : ∀ W, Hid (Calls Tryz.prog 118 #[.string ⟨(u.take (u.length - 2)).toArray⟩] W fun e w' => e = .returned (.int .i64 R) ∧ W = w') := fun W => Lib.hid (by rw [← hR]; exact c118 _ W)
        clear hR hf ht b0 b1 b2
        go_enter Tryz.func163, Tryz.ntmps163
        go_wp2_with (first | (go_at_call 205; refine (HT _).out.mono ?_; rintro e w1 ⟨rfl, rfl⟩) | (go_at_call 204; with_reducible refine (H0 _).out.mono ?_; rintro e w1 ⟨rfl, rfl⟩) | (go_at_call 204; with_reducible refine (H1 _).out.mono ?_; rintro e w1 ⟨rfl, rfl⟩) | (go_at_call 204; with_reducible refine (H2 _).out.mono ?_; rintro e w1 ⟨rfl, rfl⟩) | (go_at_call 118; refine (HN _).out.mono ?_; rintro e w1 ⟨rfl, rfl⟩))
        go_ret
        exact ⟨rfl, rfl⟩
      | false =>
        cases b3 : Lib.hasSuffix u [116, 104] with
        | true =>
          have hf : (List.range 4).find? (fun i => Lib.hasSuffix u (endsL.getD i [])) = some 3 := by
            rw [show List.range 4 = [0, 1, 2, 3] from rfl]
            simp only [List.find?, endsL, List.getD, List.getElem?_cons_zero, List.getElem?_cons_succ, Option.getD_some, b0, b1, b2, b3]
          rw [hf] at hR
          simp only at hR
          have H0 := c204_H b0 hul (by decide)
          have H1 := c204_H b1 hul (by decide)
          have H2 := c204_H b2 hul (by decide)
          have H3 := c204_H b3 hul (by decide)
          obtain ⟨ht, h2⟩ := trim_two b3 rfl
          rw [show endsL.getD 3 [] = [116, 104] from rfl, ht] at hR
          have HN : ∀ W, Hid (Calls Tryz.prog 118 #[.string ⟨(u.take (u.length - 2)).toArray⟩] W fun e w' => e = .returned (.int .i64 R) ∧ W = w') := fun W => Lib.hid (by rw [← hR]; exact c118 _ W)
          clear hR hf ht b0 b1 b2 b3
          go_enter Tryz.func163, Tryz.ntmps163
          go_wp2_with (first | (go_at_call 205; refine (HT _).out.mono ?_; rintro e w1 ⟨rfl, rfl⟩) | (go_at_call 204; with_reducible refine (H0 _).out.mono ?_; rintro e w1 ⟨rfl, rfl⟩) | (go_at_call 204; with_reducible refine (H1 _).out.mono ?_; rintro e w1 ⟨rfl, rfl⟩) | (go_at_call 204; with_reducible refine (H2 _).out.mono ?_; rintro e w1 ⟨rfl, rfl⟩) | (go_at_call 204; with_reducible refine (H3 _).out.mono ?_; rintro e w1 ⟨rfl, rfl⟩) | (go_at_call 118; refine (HN _).out.mono ?_; rintro e w1 ⟨rfl, rfl⟩))
          go_ret
          exact ⟨rfl, rfl⟩
        | false =>
          have hf : (List.range 4).find? (fun i => Lib.hasSuffix u (endsL.getD i [])) = none := by
            rw [show List.range 4 = [0, 1, 2, 3] from rfl]
            simp only [List.find?, endsL, List.getD, List.getElem?_cons_zero, List.getElem?_cons_succ, Option.getD_some, b0, b1, b2, b3]
          rw [hf] at hR
          simp only at hR
          have H0 := c204_H b0 hul (by decide)
          have H1 := c204_H b1 hul (by decide)
          have H2 := c204_H b2 hul (by decide)
          have H3 := c204_H b3 hul (by decide)
          have HN : ∀ W, Hid (Calls Tryz.prog 118 #[.string ⟨u.toArray⟩] W fun e w' => e = .returned (.int .i64 R) ∧ W = w') := fun W => Lib.hid (by rw [← hR]; exact c118 _ W)
          clear hR hf b0 b1 b2 b3
          go_enter Tryz.func163, Tryz.ntmps163
          go_wp2_with (first | (go_at_call 205; refine (HT _).out.mono ?_; rintro e w1 ⟨rfl, rfl⟩) | (go_at_call 204; with_reducible refine (H0 _).out.mono ?_; rintro e w1 ⟨rfl, rfl⟩) | (go_at_call 204; with_reducible refine (H1 _).out.mono ?_; rintro e w1 ⟨rfl, rfl⟩) | (go_at_call 204; with_reducible refine (H2 _).out.mono ?_; rintro e w1 ⟨rfl, rfl⟩) | (go_at_call 204; with_reducible refine (H3 _).out.mono ?_; rintro e w1 ⟨rfl, rfl⟩) | (go_at_call 118; refine (HN _).out.mono ?_; rintro e w1 ⟨rfl, rfl⟩))
          go_ret
          exact ⟨rfl, rfl⟩
def endE (i : Nat) : List UInt8 := endsL.getD i []
end Go.Proofs.YthifeoebefbalaaGreatDoor
