/- The reference: a number of days. -/
import Derived.Test.YthifeoebefbalaaGreatDoorY4
import Derived.Test.YthifeoebefbalaaGreatDoorZ7
set_option linter.unusedVariables false
set_option linter.unusedSimpArgs false
namespace Go.Proofs.YthifeoebefbalaaGreatDoor
open Go.RowKit

/-- A slice of words, from anywhere in its array on. -/
def WordsV (w : World) (v : Value) (l : List (List UInt8)) : Prop := ∃ a cap, v = .slice a l.length cap ∧ l.length ≤ cap ∧ (l ≠ [] → ∃ g o, a = some ⟨g, o, none⟩ ∧ g < w.heap.size ∧ ∀ i u, l[i]? = some u → w.cell? ⟨g, o + i, none⟩ = some (.string ⟨u.toArray⟩))
theorem WordsV.below {w w' : World} {v : Value} {l : List (List UInt8)} (h : WordsV w v l) (hb : Below w.heap.size w w') : WordsV w' v l := by
  obtain ⟨a, cap, rfl, hc, k⟩ := h
  refine ⟨a, cap, rfl, hc, fun hne => ?_⟩
  obtain ⟨g, o, e, hg, hk⟩ := k hne
  exact ⟨g, o, e, Nat.lt_of_lt_of_le hg hb.size, fun i u hi => (hb.cell (p := ⟨g, o + i, none⟩) hg).trans (hk i u hi)⟩
def lumpR2 (n : Int) : List (List UInt8) → Int × Int
  | [] => (1, 0)
  | [x] => if isD x then (numV (Lib.trimSuffix x [100]), n + 1) else (1, 0)
  | x :: y :: _ => if isNum x && (decide (y = dayW) || decide (y = daysW)) then (numV x, n + 2) else if isD x then (numV (Lib.trimSuffix x [100]), n + 1) else (1, 0)
def lumpR : List (List UInt8) → Int × Int
  | [] => (1, 0)
  | x :: ws => if x = forW then lumpR2 1 ws else lumpR2 0 (x :: ws)
theorem c205_H {s t u : List UInt8} (h : Lib.trimSuffix s t = u) (hs : s.length ≤ 4000) (ht : t.length ≤ 4000) : ∀ W, Hid (Calls Tryz.prog 205 #[.string ⟨s.toArray⟩, .string ⟨t.toArray⟩] W fun e w' => e = .returned (.string ⟨u.toArray⟩) ∧ W = w') := fun W => Lib.hid (by rw [← h]; exact c205 s t W hs ht)
theorem num_yes {x : List UInt8} (h : isNum x = true) : orM (numO x) = numV x := by rw [numO, if_pos h]; rfl
theorem num_no {x : List UInt8} (h : isNum x = false) : orM (numO x) = -1 := by rw [numO, h]; rfl
theorem words_first {w : World} {v : Value} {x : List UInt8} {r : List (List UInt8)} (h : WordsV w v (x :: r)) : ∃ g o cap, v = .slice (some ⟨g, o, none⟩) (r.length + 1) cap ∧ r.length + 1 ≤ cap ∧ g < w.heap.size ∧ ∀ i u, (x :: r)[i]? = some u → w.cell? ⟨g, o + i, none⟩ = some (.string ⟨u.toArray⟩) := by
  obtain ⟨a, cap, rfl, hc, k⟩ := h
  obtain ⟨g, o, rfl, hg, hk⟩ := k (by simp)
  exact ⟨g, o, cap, rfl, hc, hg, hk⟩
theorem numV_small {l : List UInt8} (h : isNum l = true) : numV l < 10000000000 := by
  have hb := orM_bd l
  rw [num_yes h] at hb
  omega
set_option maxRecDepth 100000 in
set_option maxHeartbeats 16000000 in
theorem c158_nil (v : Value) (w : World) (hv : WordsV w v []) : Calls Tryz.prog 158 #[v] w fun e w' => e = .returned (.agg #[.int .i64 (lumpR []).1, .int .i64 (lumpR []).2]) ∧ Below w.heap.size w w' := by
  obtain ⟨a, cap, rfl, hc, -⟩ := hv
  rw [lumpR]
  go_enter Tryz.func158, Tryz.ntmps158
  go_wp2_with fail
  exact bodyPost_ret (v := .agg #[.int .i64 (1), .int .i64 (0)]) (by simp [results, Tryz.results158, go_sem]) rfl ⟨rfl, by repeat (first | exact xr _ | apply xa | (refine xs ?_ (by simp) _))⟩
set_option maxRecDepth 100000 in
set_option maxHeartbeats 16000000 in
theorem c158_for0 (g o cap : Nat) (w : World) (hcap : 1 ≤ cap) (hn : 1 ≤ 4000) (hg : g < w.heap.size) (q0 : w.cell? ⟨g, o, none⟩ = some (.string ⟨#[102, 111, 114]⟩)) : Calls Tryz.prog 158 #[.slice (some ⟨g, o, none⟩) (1) cap] w fun e w' => e = .returned (.agg #[.int .i64 (lumpR2 1 []).1, .int .i64 (lumpR2 1 []).2]) ∧ Below w.heap.size w w' := by
  have hne : ¬ g = w.heap.size := by omega
  rw [lumpR2]
  go_enter Tryz.func158, Tryz.ntmps158
  go_wp2_with fail
  exact bodyPost_ret (v := .agg #[.int .i64 (1), .int .i64 (0)]) (by simp [results, Tryz.results158, go_sem]) rfl ⟨rfl, by repeat (first | exact xr _ | apply xa | (refine xs ?_ (by simp) _))⟩
set_option maxRecDepth 100000 in
set_option maxHeartbeats 16000000 in
theorem c158_one1 (g o cap : Nat) (x : List UInt8) (hx : x.length ≤ 4000) (w : World) (hcap : 2 ≤ cap) (hn : 2 ≤ 4000) (hg : g < w.heap.size) (q0 : w.cell? ⟨g, o, none⟩ = some (.string ⟨#[102, 111, 114]⟩)) (q1 : w.cell? ⟨g, o + 1, none⟩ = some (.string ⟨x.toArray⟩)) : Calls Tryz.prog 158 #[.slice (some ⟨g, o, none⟩) (2) cap] w fun e w' => e = .returned (.agg #[.int .i64 (lumpR2 1 [x]).1, .int .i64 (lumpR2 1 [x]).2]) ∧ Below w.heap.size w w' := by
  have hne : ¬ g = w.heap.size := by omega
  rw [lumpR2]
  cases hs : Lib.hasSuffix x [100] with
  | false =>
    have HS := c204_H hs hx (by decide)
    skip
    rw [if_neg (by simp [isD, hs])]
    clear hs
    go_enter Tryz.func158, Tryz.ntmps158
    go_wp2_with fail
    refine (HS _).out.mono ?_
    rintro e w3 ⟨rfl, rfl⟩
    go_wp2_with fail
    exact bodyPost_ret (v := .agg #[.int .i64 (1), .int .i64 (0)]) (by simp [results, Tryz.results158, go_sem]) rfl ⟨rfl, by repeat (first | exact xr _ | apply xa | (refine xs ?_ (by simp) _))⟩
  | true =>
    have HS := c204_H hs hx (by decide)
    obtain ⟨u, hu⟩ : ∃ u, Lib.trimSuffix x [100] = u := ⟨_, rfl⟩
    have HT := c205_H hu hx (by decide)
    skip
    cases hz : isNum u with
    | false =>
      have HU := c118_H (num_no hz)
      rw [if_neg (by simp [isD, hu, hz])]
      clear hs hu hz
      go_enter Tryz.func158, Tryz.ntmps158
      go_wp2_with fail
      refine (HS _).out.mono ?_
      rintro e w3 ⟨rfl, rfl⟩
      go_wp2_with fail
      refine (HT _).out.mono ?_
      rintro e w4 ⟨rfl, rfl⟩
      go_wp2_with fail
      refine (HU _).out.mono ?_
      rintro e w5 ⟨rfl, rfl⟩
      go_wp2_with fail
      exact bodyPost_ret (v := .agg #[.int .i64 (1), .int .i64 (0)]) (by simp [results, Tryz.results158, go_sem]) rfl ⟨rfl, by repeat (first | exact xr _ | apply xa | (refine xs ?_ (by simp) _))⟩
    | true =>
      have HU := c118_H (num_yes hz)
      have hub := numV_small hz
      rw [if_pos (by simp [isD, hs, hu, hz]), hu]
      clear hs hu hz
      obtain ⟨m, hm⟩ : ∃ m, numV u = m := ⟨_, rfl⟩
      rw [hm] at HU hub ⊢
      clear hm
      have hge : decide ((0 : Int) ≤ (m : Int)) = true := decide_eq_true (by omega)
      go_enter Tryz.func158, Tryz.ntmps158
      go_wp2_with fail
      refine (HS _).out.mono ?_
      rintro e w3 ⟨rfl, rfl⟩
      go_wp2_with fail
      refine (HT _).out.mono ?_
      rintro e w4 ⟨rfl, rfl⟩
      go_wp2_with fail
      refine (HU _).out.mono ?_
      rintro e w5 ⟨rfl, rfl⟩
      go_wp2_with fail
      refine (HT _).out.mono ?_
      rintro e w6 ⟨rfl, rfl⟩
      go_wp2_with fail
      refine (HU _).out.mono ?_
      rintro e w7 ⟨rfl, rfl⟩
      go_wp2_with fail
      exact bodyPost_ret (v := .agg #[.int .i64 (m), .int .i64 (2)]) (by simp [results, Tryz.results158, go_sem]) rfl ⟨rfl, by repeat (first | exact xr _ | apply xa | (refine xs ?_ (by simp) _))⟩
set_option maxRecDepth 100000 in
set_option maxHeartbeats 16000000 in
theorem c158_one0 (g o cap : Nat) (x : List UInt8) (hx : x.length ≤ 4000) (hf : (x == [102, 111, 114]) = false) (w : World) (hcap : 1 ≤ cap) (hn : 1 ≤ 4000) (hg : g < w.heap.size) (q0 : w.cell? ⟨g, o, none⟩ = some (.string ⟨x.toArray⟩)) : Calls Tryz.prog 158 #[.slice (some ⟨g, o, none⟩) (1) cap] w fun e w' => e = .returned (.agg #[.int .i64 (lumpR2 0 [x]).1, .int .i64 (lumpR2 0 [x]).2]) ∧ Below w.heap.size w w' := by
  have hne : ¬ g = w.heap.size := by omega
  rw [lumpR2]
  cases hs : Lib.hasSuffix x [100] with
  | false =>
    have HS := c204_H hs hx (by decide)
    skip
    rw [if_neg (by simp [isD, hs])]
    clear hs
    go_enter Tryz.func158, Tryz.ntmps158
    go_wp2_with fail
    refine (HS _).out.mono ?_
    rintro e w3 ⟨rfl, rfl⟩
    go_wp2_with fail
    exact bodyPost_ret (v := .agg #[.int .i64 (1), .int .i64 (0)]) (by simp [results, Tryz.results158, go_sem]) rfl ⟨rfl, by repeat (first | exact xr _ | apply xa | (refine xs ?_ (by simp) _))⟩
  | true =>
    have HS := c204_H hs hx (by decide)
    obtain ⟨u, hu⟩ : ∃ u, Lib.trimSuffix x [100] = u := ⟨_, rfl⟩
    have HT := c205_H hu hx (by decide)
    skip
    cases hz : isNum u with
    | false =>
      have HU := c118_H (num_no hz)
      rw [if_neg (by simp [isD, hu, hz])]
      clear hs hu hz
      go_enter Tryz.func158, Tryz.ntmps158
      go_wp2_with fail
      refine (HS _).out.mono ?_
      rintro e w3 ⟨rfl, rfl⟩
      go_wp2_with fail
      refine (HT _).out.mono ?_
      rintro e w4 ⟨rfl, rfl⟩
      go_wp2_with fail
      refine (HU _).out.mono ?_
      rintro e w5 ⟨rfl, rfl⟩
      go_wp2_with fail
      exact bodyPost_ret (v := .agg #[.int .i64 (1), .int .i64 (0)]) (by simp [results, Tryz.results158, go_sem]) rfl ⟨rfl, by repeat (first | exact xr _ | apply xa | (refine xs ?_ (by simp) _))⟩
    | true =>
      have HU := c118_H (num_yes hz)
      have hub := numV_small hz
      rw [if_pos (by simp [isD, hs, hu, hz]), hu]
      clear hs hu hz
      obtain ⟨m, hm⟩ : ∃ m, numV u = m := ⟨_, rfl⟩
      rw [hm] at HU hub ⊢
      clear hm
      have hge : decide ((0 : Int) ≤ (m : Int)) = true := decide_eq_true (by omega)
      go_enter Tryz.func158, Tryz.ntmps158
      go_wp2_with fail
      refine (HS _).out.mono ?_
      rintro e w3 ⟨rfl, rfl⟩
      go_wp2_with fail
      refine (HT _).out.mono ?_
      rintro e w4 ⟨rfl, rfl⟩
      go_wp2_with fail
      refine (HU _).out.mono ?_
      rintro e w5 ⟨rfl, rfl⟩
      go_wp2_with fail
      refine (HT _).out.mono ?_
      rintro e w6 ⟨rfl, rfl⟩
      go_wp2_with fail
      refine (HU _).out.mono ?_
      rintro e w7 ⟨rfl, rfl⟩
      go_wp2_with fail
      exact bodyPost_ret (v := .agg #[.int .i64 (m), .int .i64 (1)]) (by simp [results, Tryz.results158, go_sem]) rfl ⟨rfl, by repeat (first | exact xr _ | apply xa | (refine xs ?_ (by simp) _))⟩
set_option maxRecDepth 100000 in
set_option maxHeartbeats 16000000 in
theorem c158_two1 (g o cap : Nat) (n : Nat) (x y : List UInt8) (r : List (List UInt8)) (hx : x.length ≤ 4000) (w : World) (hcap : n + 1 + 1 + 1 ≤ cap) (hn : n + 1 + 1 + 1 ≤ 4000) (hg : g < w.heap.size) (q0 : w.cell? ⟨g, o, none⟩ = some (.string ⟨#[102, 111, 114]⟩)) (q1 : w.cell? ⟨g, o + 1, none⟩ = some (.string ⟨x.toArray⟩)) (q2 : w.cell? ⟨g, o + 2, none⟩ = some (.string ⟨y.toArray⟩)) : Calls Tryz.prog 158 #[.slice (some ⟨g, o, none⟩) (n + 1 + 1 + 1) cap] w fun e w' => e = .returned (.agg #[.int .i64 (lumpR2 1 (x :: y :: r)).1, .int .i64 (lumpR2 1 (x :: y :: r)).2]) ∧ Below w.heap.size w w' := by
  have hne : ¬ g = w.heap.size := by omega
  rw [lumpR2]
  cases hz1 : isNum x with
  | false =>
    rw [if_neg (by simp)]
    have H1 := c118_H (num_no hz1)
    clear hz1
    cases hs : Lib.hasSuffix x [100] with
    | false =>
      have HS := c204_H hs hx (by decide)
      skip
      rw [if_neg (by simp [isD, hs])]
      clear hs
      go_enter Tryz.func158, Tryz.ntmps158
      go_wp2_with fail
      refine (H1 _).out.mono ?_
      rintro e w1 ⟨rfl, rfl⟩
      go_wp2_with fail
      refine (HS _).out.mono ?_
      rintro e w3 ⟨rfl, rfl⟩
      go_wp2_with fail
      exact bodyPost_ret (v := .agg #[.int .i64 (1), .int .i64 (0)]) (by simp [results, Tryz.results158, go_sem]) rfl ⟨rfl, by repeat (first | exact xr _ | apply xa | (refine xs ?_ (by simp) _))⟩
    | true =>
      have HS := c204_H hs hx (by decide)
      obtain ⟨u, hu⟩ : ∃ u, Lib.trimSuffix x [100] = u := ⟨_, rfl⟩
      have HT := c205_H hu hx (by decide)
      skip
      cases hz : isNum u with
      | false =>
        have HU := c118_H (num_no hz)
        rw [if_neg (by simp [isD, hu, hz])]
        clear hs hu hz
        go_enter Tryz.func158, Tryz.ntmps158
        go_wp2_with fail
        refine (H1 _).out.mono ?_
        rintro e w1 ⟨rfl, rfl⟩
        go_wp2_with fail
        refine (HS _).out.mono ?_
        rintro e w3 ⟨rfl, rfl⟩
        go_wp2_with fail
        refine (HT _).out.mono ?_
        rintro e w4 ⟨rfl, rfl⟩
        go_wp2_with fail
        refine (HU _).out.mono ?_
        rintro e w5 ⟨rfl, rfl⟩
        go_wp2_with fail
        exact bodyPost_ret (v := .agg #[.int .i64 (1), .int .i64 (0)]) (by simp [results, Tryz.results158, go_sem]) rfl ⟨rfl, by repeat (first | exact xr _ | apply xa | (refine xs ?_ (by simp) _))⟩
      | true =>
        have HU := c118_H (num_yes hz)
        have hub := numV_small hz
        rw [if_pos (by simp [isD, hs, hu, hz]), hu]
        clear hs hu hz
        obtain ⟨m, hm⟩ : ∃ m, numV u = m := ⟨_, rfl⟩
        rw [hm] at HU hub ⊢
        clear hm
        have hge : decide ((0 : Int) ≤ (m : Int)) = true := decide_eq_true (by omega)
        go_enter Tryz.func158, Tryz.ntmps158
        go_wp2_with fail
        refine (H1 _).out.mono ?_
        rintro e w1 ⟨rfl, rfl⟩
        go_wp2_with fail
        refine (HS _).out.mono ?_
        rintro e w3 ⟨rfl, rfl⟩
        go_wp2_with fail
        refine (HT _).out.mono ?_
        rintro e w4 ⟨rfl, rfl⟩
        go_wp2_with fail
        refine (HU _).out.mono ?_
        rintro e w5 ⟨rfl, rfl⟩
        go_wp2_with fail
        refine (HT _).out.mono ?_
        rintro e w6 ⟨rfl, rfl⟩
        go_wp2_with fail
        refine (HU _).out.mono ?_
        rintro e w7 ⟨rfl, rfl⟩
        go_wp2_with fail
        exact bodyPost_ret (v := .agg #[.int .i64 (m), .int .i64 (2)]) (by simp [results, Tryz.results158, go_sem]) rfl ⟨rfl, by repeat (first | exact xr _ | apply xa | (refine xs ?_ (by simp) _))⟩
  | true =>
    have H1 := c118_H (num_yes hz1)
    have hxb := numV_small hz1
    have hge1 : decide ((0 : Int) ≤ (numV x : Int)) = true := decide_eq_true (by omega)
    by_cases h1 : y = dayW
    · subst h1
      have q2 : w.cell? ⟨g, o + 2, none⟩ = some (.string ⟨#[100, 97, 121]⟩) := q2
      rw [if_pos (by simp)]
      clear hz1
      obtain ⟨m, hm⟩ : ∃ m, numV x = m := ⟨_, rfl⟩
      rw [hm] at H1 hxb hge1 ⊢
      clear hm
      go_enter Tryz.func158, Tryz.ntmps158
      go_wp2_with fail
      refine (H1 _).out.mono ?_
      rintro e w1 ⟨rfl, rfl⟩
      go_wp2_with fail
      refine (H1 _).out.mono ?_
      rintro e w2 ⟨rfl, rfl⟩
      go_wp2_with fail
      exact bodyPost_ret (v := .agg #[.int .i64 (m), .int .i64 (3)]) (by simp [results, Tryz.results158, go_sem]) rfl ⟨rfl, by repeat (first | exact xr _ | apply xa | (refine xs ?_ (by simp) _))⟩
    by_cases h2 : y = daysW
    · subst h2
      have q2 : w.cell? ⟨g, o + 2, none⟩ = some (.string ⟨#[100, 97, 121, 115]⟩) := q2
      rw [if_pos (by simp)]
      clear hz1
      obtain ⟨m, hm⟩ : ∃ m, numV x = m := ⟨_, rfl⟩
      rw [hm] at H1 hxb hge1 ⊢
      clear hm
      go_enter Tryz.func158, Tryz.ntmps158
      go_wp2_with fail
      refine (H1 _).out.mono ?_
      rintro e w1 ⟨rfl, rfl⟩
      go_wp2_with fail
      refine (H1 _).out.mono ?_
      rintro e w2 ⟨rfl, rfl⟩
      go_wp2_with fail
      exact bodyPost_ret (v := .agg #[.int .i64 (m), .int .i64 (3)]) (by simp [results, Tryz.results158, go_sem]) rfl ⟨rfl, by repeat (first | exact xr _ | apply xa | (refine xs ?_ (by simp) _))⟩
    have h1' : (y == [100, 97, 121]) = false := beq_eq_false_iff_ne.2 h1
    have h2' : (y == [100, 97, 121, 115]) = false := beq_eq_false_iff_ne.2 h2
    rw [if_neg (by simp [h1, h2])]
    clear h1 h2 hz1
    cases hs : Lib.hasSuffix x [100] with
    | false =>
      have HS := c204_H hs hx (by decide)
      skip
      rw [if_neg (by simp [isD, hs])]
      clear hs
      go_enter Tryz.func158, Tryz.ntmps158
      go_wp2_with fail
      refine (H1 _).out.mono ?_
      rintro e w1 ⟨rfl, rfl⟩
      go_wp2_with fail
      refine (HS _).out.mono ?_
      rintro e w3 ⟨rfl, rfl⟩
      go_wp2_with fail
      exact bodyPost_ret (v := .agg #[.int .i64 (1), .int .i64 (0)]) (by simp [results, Tryz.results158, go_sem]) rfl ⟨rfl, by repeat (first | exact xr _ | apply xa | (refine xs ?_ (by simp) _))⟩
    | true =>
      have HS := c204_H hs hx (by decide)
      obtain ⟨u, hu⟩ : ∃ u, Lib.trimSuffix x [100] = u := ⟨_, rfl⟩
      have HT := c205_H hu hx (by decide)
      skip
      cases hz : isNum u with
      | false =>
        have HU := c118_H (num_no hz)
        rw [if_neg (by simp [isD, hu, hz])]
        clear hs hu hz
        go_enter Tryz.func158, Tryz.ntmps158
        go_wp2_with fail
        refine (H1 _).out.mono ?_
        rintro e w1 ⟨rfl, rfl⟩
        go_wp2_with fail
        refine (HS _).out.mono ?_
        rintro e w3 ⟨rfl, rfl⟩
        go_wp2_with fail
        refine (HT _).out.mono ?_
        rintro e w4 ⟨rfl, rfl⟩
        go_wp2_with fail
        refine (HU _).out.mono ?_
        rintro e w5 ⟨rfl, rfl⟩
        go_wp2_with fail
        exact bodyPost_ret (v := .agg #[.int .i64 (1), .int .i64 (0)]) (by simp [results, Tryz.results158, go_sem]) rfl ⟨rfl, by repeat (first | exact xr _ | apply xa | (refine xs ?_ (by simp) _))⟩
      | true =>
        have HU := c118_H (num_yes hz)
        have hub := numV_small hz
        rw [if_pos (by simp [isD, hs, hu, hz]), hu]
        clear hs hu hz
        obtain ⟨m, hm⟩ : ∃ m, numV u = m := ⟨_, rfl⟩
        rw [hm] at HU hub ⊢
        clear hm
        have hge : decide ((0 : Int) ≤ (m : Int)) = true := decide_eq_true (by omega)
        go_enter Tryz.func158, Tryz.ntmps158
        go_wp2_with fail
        refine (H1 _).out.mono ?_
        rintro e w1 ⟨rfl, rfl⟩
        go_wp2_with fail
        refine (HS _).out.mono ?_
        rintro e w3 ⟨rfl, rfl⟩
        go_wp2_with fail
        refine (HT _).out.mono ?_
        rintro e w4 ⟨rfl, rfl⟩
        go_wp2_with fail
        refine (HU _).out.mono ?_
        rintro e w5 ⟨rfl, rfl⟩
        go_wp2_with fail
        refine (HT _).out.mono ?_
        rintro e w6 ⟨rfl, rfl⟩
        go_wp2_with fail
        refine (HU _).out.mono ?_
        rintro e w7 ⟨rfl, rfl⟩
        go_wp2_with fail
        exact bodyPost_ret (v := .agg #[.int .i64 (m), .int .i64 (2)]) (by simp [results, Tryz.results158, go_sem]) rfl ⟨rfl, by repeat (first | exact xr _ | apply xa | (refine xs ?_ (by simp) _))⟩
set_option maxRecDepth 100000 in
set_option maxHeartbeats 16000000 in
theorem c158_two0 (g o cap : Nat) (n : Nat) (x y : List UInt8) (r : List (List UInt8)) (hx : x.length ≤ 4000) (hf : (x == [102, 111, 114]) = false) (w : World) (hcap : n + 1 + 1 ≤ cap) (hn : n + 1 + 1 ≤ 4000) (hg : g < w.heap.size) (q0 : w.cell? ⟨g, o, none⟩ = some (.string ⟨x.toArray⟩)) (q1 : w.cell? ⟨g, o + 1, none⟩ = some (.string ⟨y.toArray⟩)) : Calls Tryz.prog 158 #[.slice (some ⟨g, o, none⟩) (n + 1 + 1) cap] w fun e w' => e = .returned (.agg #[.int .i64 (lumpR2 0 (x :: y :: r)).1, .int .i64 (lumpR2 0 (x :: y :: r)).2]) ∧ Below w.heap.size w w' := by
  have hne : ¬ g = w.heap.size := by omega
  rw [lumpR2]
  cases hz1 : isNum x with
  | false =>
    rw [if_neg (by simp)]
    have H1 := c118_H (num_no hz1)
    clear hz1
    cases hs : Lib.hasSuffix x [100] with
    | false =>
      have HS := c204_H hs hx (by decide)
      skip
      rw [if_neg (by simp [isD, hs])]
      clear hs
      go_enter Tryz.func158, Tryz.ntmps158
      go_wp2_with fail
      refine (H1 _).out.mono ?_
      rintro e w1 ⟨rfl, rfl⟩
      go_wp2_with fail
      refine (HS _).out.mono ?_
      rintro e w3 ⟨rfl, rfl⟩
      go_wp2_with fail
      exact bodyPost_ret (v := .agg #[.int .i64 (1), .int .i64 (0)]) (by simp [results, Tryz.results158, go_sem]) rfl ⟨rfl, by repeat (first | exact xr _ | apply xa | (refine xs ?_ (by simp) _))⟩
    | true =>
      have HS := c204_H hs hx (by decide)
      obtain ⟨u, hu⟩ : ∃ u, Lib.trimSuffix x [100] = u := ⟨_, rfl⟩
      have HT := c205_H hu hx (by decide)
      skip
      cases hz : isNum u with
      | false =>
        have HU := c118_H (num_no hz)
        rw [if_neg (by simp [isD, hu, hz])]
        clear hs hu hz
        go_enter Tryz.func158, Tryz.ntmps158
        go_wp2_with fail
        refine (H1 _).out.mono ?_
        rintro e w1 ⟨rfl, rfl⟩
        go_wp2_with fail
        refine (HS _).out.mono ?_
        rintro e w3 ⟨rfl, rfl⟩
        go_wp2_with fail
        refine (HT _).out.mono ?_
        rintro e w4 ⟨rfl, rfl⟩
        go_wp2_with fail
        refine (HU _).out.mono ?_
        rintro e w5 ⟨rfl, rfl⟩
        go_wp2_with fail
        exact bodyPost_ret (v := .agg #[.int .i64 (1), .int .i64 (0)]) (by simp [results, Tryz.results158, go_sem]) rfl ⟨rfl, by repeat (first | exact xr _ | apply xa | (refine xs ?_ (by simp) _))⟩
      | true =>
        have HU := c118_H (num_yes hz)
        have hub := numV_small hz
        rw [if_pos (by simp [isD, hs, hu, hz]), hu]
        clear hs hu hz
        obtain ⟨m, hm⟩ : ∃ m, numV u = m := ⟨_, rfl⟩
        rw [hm] at HU hub ⊢
        clear hm
        have hge : decide ((0 : Int) ≤ (m : Int)) = true := decide_eq_true (by omega)
        go_enter Tryz.func158, Tryz.ntmps158
        go_wp2_with fail
        refine (H1 _).out.mono ?_
        rintro e w1 ⟨rfl, rfl⟩
        go_wp2_with fail
        refine (HS _).out.mono ?_
        rintro e w3 ⟨rfl, rfl⟩
        go_wp2_with fail
        refine (HT _).out.mono ?_
        rintro e w4 ⟨rfl, rfl⟩
        go_wp2_with fail
        refine (HU _).out.mono ?_
        rintro e w5 ⟨rfl, rfl⟩
        go_wp2_with fail
        refine (HT _).out.mono ?_
        rintro e w6 ⟨rfl, rfl⟩
        go_wp2_with fail
        refine (HU _).out.mono ?_
        rintro e w7 ⟨rfl, rfl⟩
        go_wp2_with fail
        exact bodyPost_ret (v := .agg #[.int .i64 (m), .int .i64 (1)]) (by simp [results, Tryz.results158, go_sem]) rfl ⟨rfl, by repeat (first | exact xr _ | apply xa | (refine xs ?_ (by simp) _))⟩
  | true =>
    have H1 := c118_H (num_yes hz1)
    have hxb := numV_small hz1
    have hge1 : decide ((0 : Int) ≤ (numV x : Int)) = true := decide_eq_true (by omega)
    by_cases h1 : y = dayW
    · subst h1
      have q1 : w.cell? ⟨g, o + 1, none⟩ = some (.string ⟨#[100, 97, 121]⟩) := q1
      rw [if_pos (by simp)]
      clear hz1
      obtain ⟨m, hm⟩ : ∃ m, numV x = m := ⟨_, rfl⟩
      rw [hm] at H1 hxb hge1 ⊢
      clear hm
      go_enter Tryz.func158, Tryz.ntmps158
      go_wp2_with fail
      refine (H1 _).out.mono ?_
      rintro e w1 ⟨rfl, rfl⟩
      go_wp2_with fail
      refine (H1 _).out.mono ?_
      rintro e w2 ⟨rfl, rfl⟩
      go_wp2_with fail
      exact bodyPost_ret (v := .agg #[.int .i64 (m), .int .i64 (2)]) (by simp [results, Tryz.results158, go_sem]) rfl ⟨rfl, by repeat (first | exact xr _ | apply xa | (refine xs ?_ (by simp) _))⟩
    by_cases h2 : y = daysW
    · subst h2
      have q1 : w.cell? ⟨g, o + 1, none⟩ = some (.string ⟨#[100, 97, 121, 115]⟩) := q1
      rw [if_pos (by simp)]
      clear hz1
      obtain ⟨m, hm⟩ : ∃ m, numV x = m := ⟨_, rfl⟩
      rw [hm] at H1 hxb hge1 ⊢
      clear hm
      go_enter Tryz.func158, Tryz.ntmps158
      go_wp2_with fail
      refine (H1 _).out.mono ?_
      rintro e w1 ⟨rfl, rfl⟩
      go_wp2_with fail
      refine (H1 _).out.mono ?_
      rintro e w2 ⟨rfl, rfl⟩
      go_wp2_with fail
      exact bodyPost_ret (v := .agg #[.int .i64 (m), .int .i64 (2)]) (by simp [results, Tryz.results158, go_sem]) rfl ⟨rfl, by repeat (first | exact xr _ | apply xa | (refine xs ?_ (by simp) _))⟩
    have h1' : (y == [100, 97, 121]) = false := beq_eq_false_iff_ne.2 h1
    have h2' : (y == [100, 97, 121, 115]) = false := beq_eq_false_iff_ne.2 h2
    rw [if_neg (by simp [h1, h2])]
    clear h1 h2 hz1
    cases hs : Lib.hasSuffix x [100] with
    | false =>
      have HS := c204_H hs hx (by decide)
      skip
      rw [if_neg (by simp [isD, hs])]
      clear hs
      go_enter Tryz.func158, Tryz.ntmps158
      go_wp2_with fail
      refine (H1 _).out.mono ?_
      rintro e w1 ⟨rfl, rfl⟩
      go_wp2_with fail
      refine (HS _).out.mono ?_
      rintro e w3 ⟨rfl, rfl⟩
      go_wp2_with fail
      exact bodyPost_ret (v := .agg #[.int .i64 (1), .int .i64 (0)]) (by simp [results, Tryz.results158, go_sem]) rfl ⟨rfl, by repeat (first | exact xr _ | apply xa | (refine xs ?_ (by simp) _))⟩
    | true =>
      have HS := c204_H hs hx (by decide)
      obtain ⟨u, hu⟩ : ∃ u, Lib.trimSuffix x [100] = u := ⟨_, rfl⟩
      have HT := c205_H hu hx (by decide)
      skip
      cases hz : isNum u with
      | false =>
        have HU := c118_H (num_no hz)
        rw [if_neg (by simp [isD, hu, hz])]
        clear hs hu hz
        go_enter Tryz.func158, Tryz.ntmps158
        go_wp2_with fail
        refine (H1 _).out.mono ?_
        rintro e w1 ⟨rfl, rfl⟩
        go_wp2_with fail
        refine (HS _).out.mono ?_
        rintro e w3 ⟨rfl, rfl⟩
        go_wp2_with fail
        refine (HT _).out.mono ?_
        rintro e w4 ⟨rfl, rfl⟩
        go_wp2_with fail
        refine (HU _).out.mono ?_
        rintro e w5 ⟨rfl, rfl⟩
        go_wp2_with fail
        exact bodyPost_ret (v := .agg #[.int .i64 (1), .int .i64 (0)]) (by simp [results, Tryz.results158, go_sem]) rfl ⟨rfl, by repeat (first | exact xr _ | apply xa | (refine xs ?_ (by simp) _))⟩
      | true =>
        have HU := c118_H (num_yes hz)
        have hub := numV_small hz
        rw [if_pos (by simp [isD, hs, hu, hz]), hu]
        clear hs hu hz
        obtain ⟨m, hm⟩ : ∃ m, numV u = m := ⟨_, rfl⟩
        rw [hm] at HU hub ⊢
        clear hm
        have hge : decide ((0 : Int) ≤ (m : Int)) = true := decide_eq_true (by omega)
        go_enter Tryz.func158, Tryz.ntmps158
        go_wp2_with fail
        refine (H1 _).out.mono ?_
        rintro e w1 ⟨rfl, rfl⟩
        go_wp2_with fail
        refine (HS _).out.mono ?_
        rintro e w3 ⟨rfl, rfl⟩
        go_wp2_with fail
        refine (HT _).out.mono ?_
        rintro e w4 ⟨rfl, rfl⟩
        go_wp2_with fail
        refine (HU _).out.mono ?_
        rintro e w5 ⟨rfl, rfl⟩
        go_wp2_with fail
        refine (HT _).out.mono ?_
        rintro e w6 ⟨rfl, rfl⟩
        go_wp2_with fail
        refine (HU _).out.mono ?_
        rintro e w7 ⟨rfl, rfl⟩
        go_wp2_with fail
        exact bodyPost_ret (v := .agg #[.int .i64 (m), .int .i64 (1)]) (by simp [results, Tryz.results158, go_sem]) rfl ⟨rfl, by repeat (first | exact xr _ | apply xa | (refine xs ?_ (by simp) _))⟩
theorem c158 (v : Value) (ws : List (List UInt8)) (w : World) (hv : WordsV w v ws) (hl : ∀ u ∈ ws, u.length ≤ 4000) (hn : ws.length ≤ 4000) : Calls Tryz.prog 158 #[v] w fun e w' => e = .returned (.agg #[.int .i64 (lumpR ws).1, .int .i64 (lumpR ws).2]) ∧ Below w.heap.size w w' := by
  cases ws with
  | nil => exact c158_nil v w hv
  | cons x r =>
    obtain ⟨g, o, cap, rfl, hcap, hg, HC⟩ := words_first hv
    have q0 := HC 0 x rfl
    have hx := hl x (by simp)
    simp only [List.length_cons] at hn
    by_cases hf : x = forW
    · rw [lumpR, if_pos hf]
      rw [hf] at q0
      cases r with
      | nil => exact c158_for0 g o cap w hcap hn hg q0
      | cons y r =>
        have q1 := HC 1 y rfl
        have hy := hl y (by simp)
        cases r with
        | nil => exact c158_one1 g o cap y hy w hcap hn hg q0 q1
        | cons z r => exact c158_two1 g o cap r.length y z r hy w hcap hn hg q0 q1 (HC 2 z rfl)
    · rw [lumpR, if_neg hf]
      have hf := beq_eq_false_iff_ne.2 hf
      cases r with
      | nil => exact c158_one0 g o cap x hx hf w hcap hn hg q0
      | cons y r => exact c158_two0 g o cap r.length x y r hx hf w hcap hn hg q0 (HC 1 y rfl)
end Go.Proofs.YthifeoebefbalaaGreatDoor
