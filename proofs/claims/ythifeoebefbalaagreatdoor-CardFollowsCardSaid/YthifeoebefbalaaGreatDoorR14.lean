/- The law CardFollows. -/
import Derived.Test.YthifeoebefbalaaGreatDoorR15
import Derived.Test.YthifeoebefbalaaGreatDoorR6
import Derived.Test.YthifeoebefbalaaGreatDoorR7
namespace Go.Proofs.YthifeoebefbalaaGreatDoor
open Go.RowKit

/-- The days that a valid card covers, as answers: by the rule, the span and the error. -/
def coversR (day days n : Int) : Sp × Int :=
  if n = 1 then (if days ≤ day + 1 then (⟨day - days + 1, day⟩, 0) else (⟨0, 0⟩, 3)) else if n = 2 then (if days ≤ day then (⟨day - days, day - 1⟩, 0) else (⟨0, 0⟩, 3)) else (⟨0, 0⟩, 1)
theorem c58 (day days n : Int) (w : World) (d1 : 0 ≤ day) (d2 : day ≤ 60000) (d3 : 1 ≤ days) (d4 : days ≤ 62) : Calls Tryz.prog 58 #[.int .i64 day, .int .i64 days, .int .i64 n] w fun e w' => e = .returned (.tuple #[spv (coversR day days n).1, .int .i64 (coversR day days n).2]) ∧ Below w.heap.size w w' := by
  unfold coversR
  by_cases h1 : n = 1
  · subst h1
    rw [if_pos rfl]
    by_cases h : days ≤ day + 1
    · rw [if_pos h]; exact c58_1y day days w d1 d2 d3 d4 h
    · rw [if_neg h]; exact c58_1n day days w d1 d2 d3 d4 (by omega)
  · rw [if_neg h1]
    by_cases h2 : n = 2
    · subst h2
      rw [if_pos rfl]
      by_cases h : days ≤ day
      · rw [if_pos h]; exact c58_2y day days w d1 d2 d3 d4 h
      · rw [if_neg h]; exact c58_2n day days w d1 d2 d3 d4 (by omega)
    · rw [if_neg h2]; exact c58_0 day days n w d1 d2 d3 d4 h1 h2
theorem c58_H (day days n : Int) {x y e : Int} (d1 : 0 ≤ day) (d2 : day ≤ 60000) (d3 : 1 ≤ days) (d4 : days ≤ 62) (hp : coversR day days n = (⟨x, y⟩, e)) : ∀ W, Hid (Calls Tryz.prog 58 #[.int .i64 day, .int .i64 days, .int .i64 n] W fun r w' => r = .returned (.tuple #[.agg #[.int .i64 x, .int .i64 y], .int .i64 e]) ∧ Below W.heap.size W w') := fun W => Lib.hid (by
  have H := c58 day days n W d1 d2 d3 d4
  rw [hp] at H
  exact H)
theorem c59_H (l1 h1 l2 h2 : Int) {x y : Int} (p1 : 0 ≤ l1) (p2 : l1 ≤ 4294967296) (p3 : 0 ≤ h1) (p4 : h1 ≤ 4294967296) (p5 : 0 ≤ l2) (p6 : l2 ≤ 4294967296) (p7 : 0 ≤ h2) (p8 : h2 ≤ 4294967296) (hx : l1 + l2 = x) (hy : min 1073741824 (h1 + h2) = y) : ∀ W, Hid (Calls Tryz.prog 59 #[.agg #[.int .i64 l1, .int .i64 h1], .agg #[.int .i64 l2, .int .i64 h2]] W fun r w' => r = .returned (.agg #[.int .i64 x, .int .i64 y]) ∧ Below W.heap.size W w') := fun W => Lib.hid (by
  have H := c59 l1 h1 l2 h2 W p1 p2 p3 p4 p5 p6 p7 p8
  rw [hx, hy] at H
  exact H)
theorem covers_next {day days next more n x y z u : Int} (d1 : 0 ≤ day) (d2 : day ≤ 60000) (d3 : 1 ≤ days) (m1 : 1 ≤ more) (hn : next = day + more) (hp : coversR day days n = (⟨x, y⟩, 0)) (hq : coversR next more n = (⟨z, u⟩, 0)) : z = y + 1 ∧ 0 ≤ y ∧ y ≤ 60000 := by
  unfold coversR at hp hq
  by_cases h1 : n = 1
  · rw [if_pos h1] at hp hq
    by_cases h : days ≤ day + 1
    · rw [if_pos h] at hp
      by_cases k : more ≤ next + 1
      · rw [if_pos k] at hq
        simp only [Prod.mk.injEq, Sp.mk.injEq] at hp hq
        omega
      · rw [if_neg k] at hq
        simp only [Prod.mk.injEq] at hq
        omega
    · rw [if_neg h] at hp
      simp only [Prod.mk.injEq] at hp
      omega
  · rw [if_neg h1] at hp hq
    by_cases h2 : n = 2
    · rw [if_pos h2] at hp hq
      by_cases h : days ≤ day
      · rw [if_pos h] at hp
        by_cases k : more ≤ next
        · rw [if_pos k] at hq
          simp only [Prod.mk.injEq, Sp.mk.injEq] at hp hq
          omega
        · rw [if_neg k] at hq
          simp only [Prod.mk.injEq] at hq
          omega
      · rw [if_neg h] at hp
        simp only [Prod.mk.injEq] at hp
        omega
    · rw [if_neg h2] at hp
      simp only [Prod.mk.injEq] at hp
      omega

theorem covers_bd {day days n x y e : Int} (d1 : 0 ≤ day) (d2 : day ≤ 60000) (d3 : 1 ≤ days) (hp : coversR day days n = (⟨x, y⟩, e)) : 0 ≤ y ∧ y ≤ 60000 := by
  unfold coversR at hp
  split at hp
  · split at hp <;> simp only [Prod.mk.injEq, Sp.mk.injEq] at hp <;> omega
  · split at hp
    · split at hp <;> simp only [Prod.mk.injEq, Sp.mk.injEq] at hp <;> omega
    · simp only [Prod.mk.injEq, Sp.mk.injEq] at hp; omega

theorem c16 (a1 a2 a3 a4 a5 a6 b1 b2 b3 b4 b5 b6 c1 c2 c3 c4 c5 c6 n : Int) (w : World) (hE : Env w) (hC : Cell0 w) : Calls Tryz.prog 16 #[.agg #[.int .i64 a1, .int .i64 a2, .int .i64 a3, .int .i64 a4, .int .i64 a5, .int .i64 a6], .agg #[.int .i64 b1, .int .i64 b2, .int .i64 b3, .int .i64 b4, .int .i64 b5, .int .i64 b6], .agg #[.int .i64 c1, .int .i64 c2, .int .i64 c3, .int .i64 c4, .int .i64 c5, .int .i64 c6], .int .i64 n] w fun e w' => e = .returned (.bool true) ∧ Below w.heap.size w w' := by
  have HE := Lib.hid hE
  have HC := Lib.hid hC
  clear hE hC
  by_cases hv : (isCard ⟨a1, a2, a3, a4, a5, a6⟩ && isCard ⟨b1, b2, b3, b4, b5, b6⟩) = true
  · have ha : isCard ⟨a1, a2, a3, a4, a5, a6⟩ = true := by rw [Bool.and_eq_true] at hv; exact hv.1
    have hb : isCard ⟨b1, b2, b3, b4, b5, b6⟩ = true := by rw [Bool.and_eq_true] at hv; exact hv.2
    cases hc : isCard ⟨c1, c2, c3, c4, c5, c6⟩ with
    | false =>
      have hn : pairE ⟨b1, b2, b3, b4, b5, b6⟩ ⟨c1, c2, c3, c4, c5, c6⟩ = 1 := by rw [pairE, hb, hc]; rfl
      exact c16_f (n := n) (HE := HE) (HC := HC) (H1 := c49_H ⟨a1, a2, a3, a4, a5, a6⟩ ⟨b1, b2, b3, b4, b5, b6⟩ rfl (pair_ok ha hb)) (H2 := c49_H ⟨b1, b2, b3, b4, b5, b6⟩ ⟨c1, c2, c3, c4, c5, c6⟩ rfl hn)
    | true =>
      have hw : (isCard ⟨b1, b2, b3, b4, b5, b6⟩ && isCard ⟨c1, c2, c3, c4, c5, c6⟩) = true := by rw [hb, hc]; rfl
      have K2 := c49_H ⟨b1, b2, b3, b4, b5, b6⟩ ⟨c1, c2, c3, c4, c5, c6⟩ rfl (pair_ok hb hc)
      cases hz : followsB ⟨a1, a2, a3, a4, a5, a6⟩ ⟨b1, b2, b3, b4, b5, b6⟩ with
      | false => exact c16_n (n := n) (ab := false) (HE := HE) (HC := HC) (H1 := c49_H ⟨a1, a2, a3, a4, a5, a6⟩ ⟨b1, b2, b3, b4, b5, b6⟩ (by rw [hv, hz]; rfl) (pair_ok ha hb)) (H2 := K2)
      | true =>
        have K1 := c49_H ⟨a1, a2, a3, a4, a5, a6⟩ ⟨b1, b2, b3, b4, b5, b6⟩ (p := true) (by rw [hv, hz]; rfl) (pair_ok ha hb)
        obtain ⟨-, -, p3, p4, p5, p6, -⟩ := isCard_true ha
        obtain ⟨-, -, q3, q4, q5, q6, -⟩ := isCard_true hb
        have hnext : b2 = a2 + b3 := by
          have := hz
          rw [followsB, Bool.and_eq_true] at this
          exact of_decide_eq_true this.2
        simp only at p3 p4 p5 p6 q3 q4 q5 q6
        obtain ⟨⟨l1, h1⟩, hp⟩ : ∃ s, says ⟨a1, a2, a3, a4, a5, a6⟩ = s := ⟨_, rfl⟩
        obtain ⟨⟨l2, h2⟩, hq⟩ : ∃ s, says ⟨b1, b2, b3, b4, b5, b6⟩ = s := ⟨_, rfl⟩
        obtain ⟨⟨l3, h3⟩, hr⟩ : ∃ s, says ⟨c1, c2, c3, c4, c5, c6⟩ = s := ⟨_, rfl⟩
        have lp := says_le ha
        have lq := says_le hb
        have lr := says_le hc
        rw [hp] at lp
        rw [hq] at lq
        rw [hr] at lr
        simp only at lp lq lr
        have hjo : joinB ⟨a1, a2, a3, a4, a5, a6⟩ ⟨b1, b2, b3, b4, b5, b6⟩ = (⟨l1 + l2, min 1073741824 (h1 + h2)⟩, 0) := by rw [joinB, hv, hz, hp, hq]; rfl
        have K9 := c59_H (l1 + l2) (min 1073741824 (h1 + h2)) l3 h3 (by omega) (by omega) (by omega) (by omega) (by omega) (by omega) (by omega) (by omega) rfl rfl
        have KA := c59_H l1 h1 (l2 + l3) (min 1073741824 (h2 + h3)) (x := l1 + l2 + l3) (y := min 1073741824 (min 1073741824 (h1 + h2) + h3)) (by omega) (by omega) (by omega) (by omega) (by omega) (by omega) (by omega) (by omega) (by omega) (by omega)
        obtain ⟨⟨⟨px, py⟩, pe⟩, hcp⟩ : ∃ s, coversR a2 a3 n = s := ⟨_, rfl⟩
        obtain ⟨⟨⟨qx, qy⟩, qe⟩, hcq⟩ : ∃ s, coversR b2 b3 n = s := ⟨_, rfl⟩
        have K4 := c58_H a2 a3 n p3 p4 p5 p6 hcp
        have K5 := c58_H b2 b3 n q3 q4 q5 q6 hcq
        have hbd := covers_bd p3 p4 p5 hcp
        cases hy : followsB ⟨b1, b2, b3, b4, b5, b6⟩ ⟨c1, c2, c3, c4, c5, c6⟩ with
        | false =>
          have KX := c49_H ⟨b1, b2, b3, b4, b5, b6⟩ ⟨c1, c2, c3, c4, c5, c6⟩ (p := false) (by rw [hw, hy]; rfl) (pair_ok hb hc)
          by_cases e1 : pe = 0
          · subst e1
            by_cases e2 : qe = 0
            · subst e2
              obtain ⟨g1, g2, g3⟩ := covers_next p3 p4 p5 q5 hnext hcp hcq
              subst g1
              exact c16_yf (p1 := g2) (p2 := g3) (HE := HE) (HC := HC) (H1 := K1) (H2 := KX) (H3 := c50_H ⟨a1, a2, a3, a4, a5, a6⟩ ⟨b1, b2, b3, b4, b5, b6⟩ hjo) (H4 := K4) (H5 := K5)
            · exact c16_if (hi := e2) (p1 := hbd.1) (p2 := hbd.2) (HE := HE) (HC := HC) (H1 := K1) (H2 := KX) (H3 := c50_H ⟨a1, a2, a3, a4, a5, a6⟩ ⟨b1, b2, b3, b4, b5, b6⟩ hjo) (H4 := K4) (H5 := K5)
          · exact c16_hf (hh := e1) (p1 := hbd.1) (p2 := hbd.2) (HE := HE) (HC := HC) (H1 := K1) (H2 := KX) (H3 := c50_H ⟨a1, a2, a3, a4, a5, a6⟩ ⟨b1, b2, b3, b4, b5, b6⟩ hjo) (H4 := K4) (H5 := K5)
        | true =>
          have K2 := c49_H ⟨b1, b2, b3, b4, b5, b6⟩ ⟨c1, c2, c3, c4, c5, c6⟩ (p := true) (by rw [hw, hy]; rfl) (pair_ok hb hc)
          have hjo2 : joinB ⟨b1, b2, b3, b4, b5, b6⟩ ⟨c1, c2, c3, c4, c5, c6⟩ = (⟨l2 + l3, min 1073741824 (h2 + h3)⟩, 0) := by rw [joinB, hw, hy, hq, hr]; rfl
          by_cases e1 : pe = 0
          · subst e1
            by_cases e2 : qe = 0
            · subst e2
              obtain ⟨g1, g2, g3⟩ := covers_next p3 p4 p5 q5 hnext hcp hcq
              subst g1
              exact c16_yt (p1 := g2) (p2 := g3) (HE := HE) (HC := HC) (H1 := K1) (H2 := K2) (H3 := c50_H ⟨a1, a2, a3, a4, a5, a6⟩ ⟨b1, b2, b3, b4, b5, b6⟩ hjo) (H6 := c50_H ⟨b1, b2, b3, b4, b5, b6⟩ ⟨c1, c2, c3, c4, c5, c6⟩ hjo2) (H7 := c43_H ⟨a1, a2, a3, a4, a5, a6⟩ ha hp) (H8 := c43_H ⟨c1, c2, c3, c4, c5, c6⟩ hc hr) (H9 := K9) (HA := KA) (H4 := K4) (H5 := K5)
            · exact c16_it (hi := e2) (p1 := hbd.1) (p2 := hbd.2) (HE := HE) (HC := HC) (H1 := K1) (H2 := K2) (H3 := c50_H ⟨a1, a2, a3, a4, a5, a6⟩ ⟨b1, b2, b3, b4, b5, b6⟩ hjo) (H6 := c50_H ⟨b1, b2, b3, b4, b5, b6⟩ ⟨c1, c2, c3, c4, c5, c6⟩ hjo2) (H7 := c43_H ⟨a1, a2, a3, a4, a5, a6⟩ ha hp) (H8 := c43_H ⟨c1, c2, c3, c4, c5, c6⟩ hc hr) (H9 := K9) (HA := KA) (H4 := K4) (H5 := K5)
          · exact c16_ht (hh := e1) (p1 := hbd.1) (p2 := hbd.2) (HE := HE) (HC := HC) (H1 := K1) (H2 := K2) (H3 := c50_H ⟨a1, a2, a3, a4, a5, a6⟩ ⟨b1, b2, b3, b4, b5, b6⟩ hjo) (H6 := c50_H ⟨b1, b2, b3, b4, b5, b6⟩ ⟨c1, c2, c3, c4, c5, c6⟩ hjo2) (H7 := c43_H ⟨a1, a2, a3, a4, a5, a6⟩ ha hp) (H8 := c43_H ⟨c1, c2, c3, c4, c5, c6⟩ hc hr) (H9 := K9) (HA := KA) (H4 := K4) (H5 := K5)
  · have hv : (isCard ⟨a1, a2, a3, a4, a5, a6⟩ && isCard ⟨b1, b2, b3, b4, b5, b6⟩) = false := by simpa using hv
    have hn : pairE ⟨a1, a2, a3, a4, a5, a6⟩ ⟨b1, b2, b3, b4, b5, b6⟩ = 1 := by rw [pairE, hv]; rfl
    exact c16_e (n := n) (HE := HE) (HC := HC) (H1 := c49_H ⟨a1, a2, a3, a4, a5, a6⟩ ⟨b1, b2, b3, b4, b5, b6⟩ rfl hn) (H2 := c49_H ⟨b1, b2, b3, b4, b5, b6⟩ ⟨c1, c2, c3, c4, c5, c6⟩ rfl rfl)
theorem w16 (a1 a2 a3 a4 a5 a6 b1 b2 b3 b4 b5 b6 c1 c2 c3 c4 c5 c6 n : Int) (w : World) (_ : intIn a1) (_ : intIn a2) (_ : intIn a3) (_ : intIn a4) (_ : intIn a5) (_ : intIn a6) (_ : intIn b1) (_ : intIn b2) (_ : intIn b3) (_ : intIn b4) (_ : intIn b5) (_ : intIn b6) (_ : intIn c1) (_ : intIn c2) (_ : intIn c3) (_ : intIn c4) (_ : intIn c5) (_ : intIn c6) (_ : intIn n) (hE : Env w) (hC : Cell0 w) : Calls Tryz.prog 16 #[.agg #[.int .i64 a1, .int .i64 a2, .int .i64 a3, .int .i64 a4, .int .i64 a5, .int .i64 a6], .agg #[.int .i64 b1, .int .i64 b2, .int .i64 b3, .int .i64 b4, .int .i64 b5, .int .i64 b6], .agg #[.int .i64 c1, .int .i64 c2, .int .i64 c3, .int .i64 c4, .int .i64 c5, .int .i64 c6], .int .i64 n] w fun e w' => e = .returned (.bool true) ∧ Below w.heap.size w w' := c16 a1 a2 a3 a4 a5 a6 b1 b2 b3 b4 b5 b6 c1 c2 c3 c4 c5 c6 n w hE hC
end Go.Proofs.YthifeoebefbalaaGreatDoor
