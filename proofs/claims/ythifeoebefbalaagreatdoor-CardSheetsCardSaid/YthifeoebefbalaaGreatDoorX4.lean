/- The reference: lines. -/
import Derived.Test.YthifeoebefbalaaGreatDoorX3
import Derived.Test.YthifeoebefbalaaGreatDoorZ12
set_option linter.unusedVariables false
set_option linter.unusedSimpArgs false
namespace Go.Proofs.YthifeoebefbalaaGreatDoor
open Go.RowKit

/-- A slice of strings. -/
def StrV (w : World) (v : Value) (l : List (List UInt8)) : Prop := ∃ a cap, v = .slice a l.length cap ∧ l.length ≤ cap ∧ (l ≠ [] → ∃ g, a = some ⟨g, 0, none⟩ ∧ g < w.heap.size ∧ ∀ i u, l[i]? = some u → w.cell? ⟨g, i, none⟩ = some (.string ⟨u.toArray⟩))
theorem own_strs {w : World} {B : Nat} {v : Value} {l : List (List UInt8)} (h : w.ownsRow B 9 1 v l.length (strC l)) : StrV w v l := by
  have h0 := h
  obtain ⟨hl, hc⟩ := h
  rcases hc with ⟨rfl, h1⟩ | ⟨g, cap, cur, rfl, hg, hh, hn, -⟩
  · have : l = [] := List.length_eq_zero_iff.1 h1
    subst this
    exact ⟨none, 0, rfl, by simp, fun h => absurd rfl h⟩
  · refine ⟨_, cap, rfl, by omega, fun _ => ⟨g, rfl, (Array.getElem?_eq_some_iff.1 hh).1, fun i u hi => ?_⟩⟩
    have hlt := (List.getElem?_eq_some_iff.1 hi).1
    rw [h0.cellAt i (by omega)]
    simp [strC, hi, strv]
theorem StrV.below {w w' : World} {v : Value} {l : List (List UInt8)} (h : StrV w v l) (hb : Below w.heap.size w w') : StrV w' v l := by
  obtain ⟨a, cap, rfl, hc, k⟩ := h
  refine ⟨a, cap, rfl, hc, fun hne => ?_⟩
  obtain ⟨g, e, hg, hk⟩ := k hne
  exact ⟨g, e, Nat.lt_of_lt_of_le hg hb.size, fun i u hi => (hb.cell (p := ⟨g, i, none⟩) hg).trans (hk i u hi)⟩
theorem StrV.dropLast {w : World} {a : Option Addr} {n cap : Nat} {l : List (List UInt8)} (h : StrV w (.slice a n cap) l) (hn : l.length = n) : StrV w (.slice a (n - 1) cap) l.dropLast := by
  obtain ⟨a', cap', e, hc, k⟩ := h
  injection e with e1 e2 e3
  subst e1 e3
  refine ⟨a, cap, by rw [List.length_dropLast, hn], by rw [List.length_dropLast]; omega, fun hne => ?_⟩
  obtain ⟨g, e, hg, hk⟩ := k (fun h0 => hne (by rw [h0]; rfl))
  refine ⟨g, e, hg, fun i u hi => hk i u ?_⟩
  rw [List.getElem?_dropLast] at hi
  split at hi
  · exact hi
  · cases hi
theorem split_len (s : UInt8) (t : List UInt8) : (splitL s t).length ≤ t.length + 1 := by
  induction t with
  | nil => simp [splitL]
  | cons x t ih =>
    rw [splitL]
    split
    · simp; exact ih
    · cases e : splitL s t with
      | nil => simp
      | cons p ps => rw [e] at ih; simp at ih ⊢; omega
def linesR (t : List UInt8) : List (List UInt8) := if (splitL 10 t).getLast? = some [] then (splitL 10 t).dropLast else splitL 10 t
set_option maxRecDepth 100000 in
set_option maxHeartbeats 4000000 in
theorem c34 (t : List UInt8) (w : World) (hl : t.length ≤ 4000) : Calls Tryz.prog 34 #[.string ⟨t.toArray⟩] w fun e w' => ∃ v, e = .returned v ∧ StrV w' v (linesR t) ∧ Below w.heap.size w w' := by
  have H : Hid (Calls Tryz.prog 85 #[.string ⟨t.toArray⟩, .int .u8 10] w fun e w' => ∃ v, e = .returned v ∧ w'.ownsRow w.heap.size 9 1 v (splitL 10 t).length (strC (splitL 10 t)) ∧ Below w.heap.size w w') := Lib.hid (c85 t 10 w hl)
  have hne := splitL_ne 10 t
  have hub := split_len 10 t
  unfold linesR
  obtain ⟨l, hls⟩ : ∃ l, splitL 10 t = l := ⟨_, rfl⟩
  rw [hls] at H hne hub ⊢
  clear hls
  obtain ⟨u, hu⟩ : ∃ u, l.getLast? = some u := ⟨_, List.getLast?_eq_some_getLast hne⟩
  have hlast : l[l.length - 1]? = some u := by rw [← List.getLast?_eq_getElem?]; exact hu
  have hpos : 0 < l.length := by
    rcases Nat.eq_zero_or_pos l.length with e | e
    · exact absurd (List.length_eq_zero_iff.1 e) hne
    · exact e
  obtain ⟨n, hn⟩ : ∃ n, l.length = n := ⟨_, rfl⟩
  obtain ⟨R, hR⟩ : ∃ R, (if l.getLast? = some [] then l.dropLast else l) = R := ⟨_, rfl⟩
  rw [hR]
  have HR := Lib.hid hR
  clear hR
  go_enter Tryz.func34, Tryz.ntmps34
  go_wp2_with fail
  refine H.out.mono ?_
  rintro e w1 ⟨v, rfl, hown, hb⟩
  have hS := own_strs hown
  clear hown
  obtain ⟨a, cap, rfl, hcap, hk⟩ := id hS
  obtain ⟨g, rfl, hg, hcell⟩ := hk hne
  have hx := hcell _ u hlast
  rw [hn] at hx hpos hcap hS hub ⊢
  have HS := Lib.hid hS
  have HU := Lib.hid hu
  have HN := Lib.hid hn
  clear hcell hS hu hlast hn hk
  cases u with
  | nil =>
    go_wp2_with fail
    go_ret
    refine ⟨_, rfl, ?_, hb⟩
    rw [← HR.out, if_pos HU.out]
    exact HS.out.dropLast HN.out
  | cons d u =>
    go_wp2_with fail
    go_ret
    refine ⟨_, rfl, ?_, hb⟩
    rw [← HR.out, if_neg (by rw [HU.out]; simp)]
    exact HS.out
theorem split_hit {s : UInt8} (a b : List UInt8) : splitL s (a ++ s :: b) = splitL s a ++ splitL s b := by
  induction a with
  | nil =>
    have e : splitL s (s :: b) = [] :: splitL s b := by rw [splitL, if_pos rfl]
    rw [List.nil_append, e]
    rfl
  | cons x a ih =>
    rw [List.cons_append, splitL, splitL, ih]
    by_cases hx : x = s
    · rw [if_pos hx, if_pos hx]; rfl
    · rw [if_neg hx, if_neg hx]
      cases e : splitL s a with
      | nil => exact absurd e (splitL_ne s a)
      | cons p ps => rfl
theorem split_snoc {s c : UInt8} (hc : c ≠ s) (a : List UInt8) : ∃ P u, splitL s a = P ++ [u] ∧ splitL s (a ++ [c]) = P ++ [u ++ [c]] := by
  induction a with
  | nil => exact ⟨[], [], rfl, by rw [List.nil_append, splitL, if_neg hc]; rfl⟩
  | cons x a ih =>
    obtain ⟨P, u, h1, h2⟩ := ih
    rw [List.cons_append, splitL, splitL, h1, h2]
    by_cases hx : x = s
    · exact ⟨[] :: P, u, by rw [if_pos hx]; rfl, by rw [if_pos hx]; rfl⟩
    · cases P with
      | nil => exact ⟨[], x :: u, by rw [if_neg hx]; rfl, by rw [if_neg hx]; rfl⟩
      | cons p P => exact ⟨(x :: p) :: P, u, by rw [if_neg hx]; rfl, by rw [if_neg hx]; rfl⟩
theorem trim_hit (T : List UInt8) : Lib.trimSuffix (T ++ [10]) [10] = T := by
  have hs : Lib.hasSuffix (T ++ [10]) [10] = true := by rw [Lib.hasSuffix, List.isSuffixOf_iff_suffix]; exact List.suffix_append _ _
  rw [Lib.trimSuffix, hs]
  simp
theorem trim_miss (T : List UInt8) (c : UInt8) (hc : c ≠ 10) : Lib.trimSuffix (T ++ [c]) [10] = T ++ [c] := by
  have hs : Lib.hasSuffix (T ++ [c]) [10] = false := by
    cases e : Lib.hasSuffix (T ++ [c]) [10] with
    | false => rfl
    | true =>
      rw [Lib.hasSuffix, List.isSuffixOf_iff_suffix] at e
      obtain ⟨r, hr⟩ := e
      have := congrArg List.getLast? hr
      simp at this
      exact absurd this.symm hc
  rw [Lib.trimSuffix, hs]
  rfl
/-- The program's lines are those of the reference; all parts are these, and perhaps one that is empty. -/
theorem lines_same (t : List UInt8) : linesR t = linesOf t ∧ (splitL 10 t = linesOf t ∨ splitL 10 t = linesOf t ++ [[]]) := by
  rcases List.eq_nil_or_concat t with rfl | ⟨T, c, rfl⟩
  · exact ⟨rfl, .inr rfl⟩
  · rw [List.concat_eq_append]
    have he : (T ++ [c]).isEmpty = false := by simp
    by_cases hc : c = 10
    · subst hc
      have h1 := split_hit (s := 10) T []
      have h2 : splitL 10 ([] : List UInt8) = [[]] := rfl
      rw [h2] at h1
      rw [linesR, linesOf, he, trim_hit, h1]
      simp
    · obtain ⟨P, u, h1, h2⟩ := split_snoc hc T
      rw [linesR, linesOf, he, trim_miss T c hc, h2]
      simp
end Go.Proofs.YthifeoebefbalaaGreatDoor
