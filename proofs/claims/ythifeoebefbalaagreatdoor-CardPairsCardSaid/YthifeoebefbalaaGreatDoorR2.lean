/- The law CardPairs. -/
import Derived.Test.YthifeoebefbalaaGreatDoorR15
import Derived.Test.YthifeoebefbalaaGreatDoorR1
namespace Go.Proofs.YthifeoebefbalaaGreatDoor
open Go.RowKit

theorem c15 (a1 a2 a3 a4 a5 a6 b1 b2 b3 b4 b5 b6 : Int) (w : World) (hE : Env w) (hC : Cell0 w) : Calls Tryz.prog 15 #[.agg #[.int .i64 a1, .int .i64 a2, .int .i64 a3, .int .i64 a4, .int .i64 a5, .int .i64 a6], .agg #[.int .i64 b1, .int .i64 b2, .int .i64 b3, .int .i64 b4, .int .i64 b5, .int .i64 b6]] w fun e w' => e = .returned (.bool true) ∧ Below w.heap.size w w' := by
  have HE := Lib.hid hE
  have HC := Lib.hid hC
  clear hE hC
  by_cases hv : (isCard ⟨a1, a2, a3, a4, a5, a6⟩ && isCard ⟨b1, b2, b3, b4, b5, b6⟩) = true
  · have ha : isCard ⟨a1, a2, a3, a4, a5, a6⟩ = true := by rw [Bool.and_eq_true] at hv; exact hv.1
    have hb : isCard ⟨b1, b2, b3, b4, b5, b6⟩ = true := by rw [Bool.and_eq_true] at hv; exact hv.2
    have KP := pair_ok ha hb
    have K1 := c45_H ⟨a1, a2, a3, a4, a5, a6⟩ ⟨b1, b2, b3, b4, b5, b6⟩ (pair_al ha hb) KP
    have K2 := c47_H ⟨a1, a2, a3, a4, a5, a6⟩ ⟨b1, b2, b3, b4, b5, b6⟩ (pair_cl ha hb) KP
    have K6 := c37_H ⟨a1, a2, a3, a4, a5, a6⟩ ha
    have K7 := c37_H ⟨b1, b2, b3, b4, b5, b6⟩ hb
    have K8 := c51_H ⟨a1, a2, a3, a4, a5, a6⟩ ⟨b1, b2, b3, b4, b5, b6⟩ ha hb rfl
    have K9 := c52_H ⟨a1, a2, a3, a4, a5, a6⟩ ⟨b1, b2, b3, b4, b5, b6⟩ ha hb rfl
    obtain ⟨⟨l1, h1⟩, hp⟩ : ∃ s, says ⟨a1, a2, a3, a4, a5, a6⟩ = s := ⟨_, rfl⟩
    obtain ⟨⟨l2, h2⟩, hq⟩ : ∃ s, says ⟨b1, b2, b3, b4, b5, b6⟩ = s := ⟨_, rfl⟩
    obtain ⟨⟨j1, j2⟩, hj⟩ : ∃ s, joinR (says ⟨a1, a2, a3, a4, a5, a6⟩) (says ⟨b1, b2, b3, b4, b5, b6⟩) = s := ⟨_, rfl⟩
    have KA := c55_HH ⟨a1, a2, a3, a4, a5, a6⟩ ha hp
    have KB := c55_HH ⟨b1, b2, b3, b4, b5, b6⟩ hb hq
    have KM := c54_H l1 h1 l2 h2
    have KJ := c57_H ⟨a1, a2, a3, a4, a5, a6⟩ ⟨b1, b2, b3, b4, b5, b6⟩ ha hb hj
    have hcm : common (says ⟨a1, a2, a3, a4, a5, a6⟩) (says ⟨b1, b2, b3, b4, b5, b6⟩) = ⟨max l1 l2, min h1 h2⟩ := by rw [hp, hq]; rfl
    have hsm : some2 ⟨a1, a2, a3, a4, a5, a6⟩ ⟨b1, b2, b3, b4, b5, b6⟩ = decide (max l1 l2 ≤ min h1 h2) := by rw [some2, hcm]
    cases hz : followsB ⟨a1, a2, a3, a4, a5, a6⟩ ⟨b1, b2, b3, b4, b5, b6⟩ with
    | false =>
      have KZ : (isCard ⟨a1, a2, a3, a4, a5, a6⟩ && isCard ⟨b1, b2, b3, b4, b5, b6⟩ && followsB ⟨a1, a2, a3, a4, a5, a6⟩ ⟨b1, b2, b3, b4, b5, b6⟩) = false := by rw [hv, hz]; rfl
      have hjo : joinB ⟨a1, a2, a3, a4, a5, a6⟩ ⟨b1, b2, b3, b4, b5, b6⟩ = (⟨0, 0⟩, 5) := by rw [joinB, hv, hz]; rfl
      cases hs : sameOf ⟨a1, a2, a3, a4, a5, a6⟩ ⟨b1, b2, b3, b4, b5, b6⟩ with
      | false =>
        have hbo : bothR ⟨a1, a2, a3, a4, a5, a6⟩ ⟨b1, b2, b3, b4, b5, b6⟩ = (⟨0, 0⟩, 5) := by rw [bothR, hv, hs]; rfl
        rw [hs] at K2 K9
        exact c15_d0 (p := alikeB ⟨a1, a2, a3, a4, a5, a6⟩ ⟨b1, b2, b3, b4, b5, b6⟩) (u := false && !some2 ⟨a1, a2, a3, a4, a5, a6⟩ ⟨b1, b2, b3, b4, b5, b6⟩) (l1 := l1) (h1 := h1) (l2 := l2) (h2 := h2) (m1 := max l1 l2) (m2 := min h1 h2) (j1 := j1) (j2 := j2) (HE := HE) (HC := HC) (H1 := K1) (H2 := K2) (H3 := c48_H ⟨a1, a2, a3, a4, a5, a6⟩ ⟨b1, b2, b3, b4, b5, b6⟩ hbo) (H4 := c49_H ⟨a1, a2, a3, a4, a5, a6⟩ ⟨b1, b2, b3, b4, b5, b6⟩ KZ KP) (H5 := c50_H ⟨a1, a2, a3, a4, a5, a6⟩ ⟨b1, b2, b3, b4, b5, b6⟩ hjo) (H6 := K6) (H7 := K7) (H8 := K8) (H9 := K9) (HF := c53_H ⟨a1, a2, a3, a4, a5, a6⟩ ⟨b1, b2, b3, b4, b5, b6⟩ ha hb hz) (HA := KA) (HB := KB) (HM := KM) (HO := c56_H ⟨a1, a2, a3, a4, a5, a6⟩ ⟨b1, b2, b3, b4, b5, b6⟩ hs) (HJ := KJ)
      | true =>
        rw [hs] at K2 K9
        cases hm : some2 ⟨a1, a2, a3, a4, a5, a6⟩ ⟨b1, b2, b3, b4, b5, b6⟩ with
        | false =>
          rw [hm] at K2 K9
          have hbo : bothR ⟨a1, a2, a3, a4, a5, a6⟩ ⟨b1, b2, b3, b4, b5, b6⟩ = (⟨0, 0⟩, 9) := by rw [bothR, hv, hs, hm]; rfl
          rw [hsm] at hm
          exact c15_90 (hm0 := by have := of_decide_eq_false hm; omega) (p := alikeB ⟨a1, a2, a3, a4, a5, a6⟩ ⟨b1, b2, b3, b4, b5, b6⟩) (u := true && !false) (l1 := l1) (h1 := h1) (l2 := l2) (h2 := h2) (m1 := max l1 l2) (m2 := min h1 h2) (j1 := j1) (j2 := j2) (HE := HE) (HC := HC) (H1 := K1) (H2 := K2) (H3 := c48_H ⟨a1, a2, a3, a4, a5, a6⟩ ⟨b1, b2, b3, b4, b5, b6⟩ hbo) (H4 := c49_H ⟨a1, a2, a3, a4, a5, a6⟩ ⟨b1, b2, b3, b4, b5, b6⟩ KZ KP) (H5 := c50_H ⟨a1, a2, a3, a4, a5, a6⟩ ⟨b1, b2, b3, b4, b5, b6⟩ hjo) (H6 := K6) (H7 := K7) (H8 := K8) (H9 := K9) (HF := c53_H ⟨a1, a2, a3, a4, a5, a6⟩ ⟨b1, b2, b3, b4, b5, b6⟩ ha hb hz) (HA := KA) (HB := KB) (HM := KM) (HO := c56_H ⟨a1, a2, a3, a4, a5, a6⟩ ⟨b1, b2, b3, b4, b5, b6⟩ hs) (HJ := KJ)
        | true =>
          rw [hm] at K2 K9
          have hbo : bothR ⟨a1, a2, a3, a4, a5, a6⟩ ⟨b1, b2, b3, b4, b5, b6⟩ = (⟨max l1 l2, min h1 h2⟩, 0) := by rw [bothR, hv, hs, hm, hcm]; rfl
          rw [hsm] at hm
          exact c15_00 (hm0 := of_decide_eq_true hm) (p := alikeB ⟨a1, a2, a3, a4, a5, a6⟩ ⟨b1, b2, b3, b4, b5, b6⟩) (u := true && !true) (l1 := l1) (h1 := h1) (l2 := l2) (h2 := h2) (m1 := max l1 l2) (m2 := min h1 h2) (j1 := j1) (j2 := j2) (HE := HE) (HC := HC) (H1 := K1) (H2 := K2) (H3 := c48_H ⟨a1, a2, a3, a4, a5, a6⟩ ⟨b1, b2, b3, b4, b5, b6⟩ hbo) (H4 := c49_H ⟨a1, a2, a3, a4, a5, a6⟩ ⟨b1, b2, b3, b4, b5, b6⟩ KZ KP) (H5 := c50_H ⟨a1, a2, a3, a4, a5, a6⟩ ⟨b1, b2, b3, b4, b5, b6⟩ hjo) (H6 := K6) (H7 := K7) (H8 := K8) (H9 := K9) (HF := c53_H ⟨a1, a2, a3, a4, a5, a6⟩ ⟨b1, b2, b3, b4, b5, b6⟩ ha hb hz) (HA := KA) (HB := KB) (HM := KM) (HO := c56_H ⟨a1, a2, a3, a4, a5, a6⟩ ⟨b1, b2, b3, b4, b5, b6⟩ hs) (HJ := KJ)
    | true =>
      have KZ : (isCard ⟨a1, a2, a3, a4, a5, a6⟩ && isCard ⟨b1, b2, b3, b4, b5, b6⟩ && followsB ⟨a1, a2, a3, a4, a5, a6⟩ ⟨b1, b2, b3, b4, b5, b6⟩) = true := by rw [hv, hz]; rfl
      have hjo : joinB ⟨a1, a2, a3, a4, a5, a6⟩ ⟨b1, b2, b3, b4, b5, b6⟩ = (⟨j1, j2⟩, 0) := by rw [joinB, hv, hz, hj]; rfl
      cases hs : sameOf ⟨a1, a2, a3, a4, a5, a6⟩ ⟨b1, b2, b3, b4, b5, b6⟩ with
      | false =>
        have hbo : bothR ⟨a1, a2, a3, a4, a5, a6⟩ ⟨b1, b2, b3, b4, b5, b6⟩ = (⟨0, 0⟩, 5) := by rw [bothR, hv, hs]; rfl
        rw [hs] at K2 K9
        exact c15_d1 (p := alikeB ⟨a1, a2, a3, a4, a5, a6⟩ ⟨b1, b2, b3, b4, b5, b6⟩) (u := false && !some2 ⟨a1, a2, a3, a4, a5, a6⟩ ⟨b1, b2, b3, b4, b5, b6⟩) (l1 := l1) (h1 := h1) (l2 := l2) (h2 := h2) (m1 := max l1 l2) (m2 := min h1 h2) (j1 := j1) (j2 := j2) (HE := HE) (HC := HC) (H1 := K1) (H2 := K2) (H3 := c48_H ⟨a1, a2, a3, a4, a5, a6⟩ ⟨b1, b2, b3, b4, b5, b6⟩ hbo) (H4 := c49_H ⟨a1, a2, a3, a4, a5, a6⟩ ⟨b1, b2, b3, b4, b5, b6⟩ KZ KP) (H5 := c50_H ⟨a1, a2, a3, a4, a5, a6⟩ ⟨b1, b2, b3, b4, b5, b6⟩ hjo) (H6 := K6) (H7 := K7) (H8 := K8) (H9 := K9) (HF := c53_H ⟨a1, a2, a3, a4, a5, a6⟩ ⟨b1, b2, b3, b4, b5, b6⟩ ha hb hz) (HA := KA) (HB := KB) (HM := KM) (HO := c56_H ⟨a1, a2, a3, a4, a5, a6⟩ ⟨b1, b2, b3, b4, b5, b6⟩ hs) (HJ := KJ)
      | true =>
        rw [hs] at K2 K9
        cases hm : some2 ⟨a1, a2, a3, a4, a5, a6⟩ ⟨b1, b2, b3, b4, b5, b6⟩ with
        | false =>
          rw [hm] at K2 K9
          have hbo : bothR ⟨a1, a2, a3, a4, a5, a6⟩ ⟨b1, b2, b3, b4, b5, b6⟩ = (⟨0, 0⟩, 9) := by rw [bothR, hv, hs, hm]; rfl
          rw [hsm] at hm
          exact c15_91 (hm0 := by have := of_decide_eq_false hm; omega) (p := alikeB ⟨a1, a2, a3, a4, a5, a6⟩ ⟨b1, b2, b3, b4, b5, b6⟩) (u := true && !false) (l1 := l1) (h1 := h1) (l2 := l2) (h2 := h2) (m1 := max l1 l2) (m2 := min h1 h2) (j1 := j1) (j2 := j2) (HE := HE) (HC := HC) (H1 := K1) (H2 := K2) (H3 := c48_H ⟨a1, a2, a3, a4, a5, a6⟩ ⟨b1, b2, b3, b4, b5, b6⟩ hbo) (H4 := c49_H ⟨a1, a2, a3, a4, a5, a6⟩ ⟨b1, b2, b3, b4, b5, b6⟩ KZ KP) (H5 := c50_H ⟨a1, a2, a3, a4, a5, a6⟩ ⟨b1, b2, b3, b4, b5, b6⟩ hjo) (H6 := K6) (H7 := K7) (H8 := K8) (H9 := K9) (HF := c53_H ⟨a1, a2, a3, a4, a5, a6⟩ ⟨b1, b2, b3, b4, b5, b6⟩ ha hb hz) (HA := KA) (HB := KB) (HM := KM) (HO := c56_H ⟨a1, a2, a3, a4, a5, a6⟩ ⟨b1, b2, b3, b4, b5, b6⟩ hs) (HJ := KJ)
        | true =>
          rw [hm] at K2 K9
          have hbo : bothR ⟨a1, a2, a3, a4, a5, a6⟩ ⟨b1, b2, b3, b4, b5, b6⟩ = (⟨max l1 l2, min h1 h2⟩, 0) := by rw [bothR, hv, hs, hm, hcm]; rfl
          rw [hsm] at hm
          exact c15_01 (hm0 := of_decide_eq_true hm) (p := alikeB ⟨a1, a2, a3, a4, a5, a6⟩ ⟨b1, b2, b3, b4, b5, b6⟩) (u := true && !true) (l1 := l1) (h1 := h1) (l2 := l2) (h2 := h2) (m1 := max l1 l2) (m2 := min h1 h2) (j1 := j1) (j2 := j2) (HE := HE) (HC := HC) (H1 := K1) (H2 := K2) (H3 := c48_H ⟨a1, a2, a3, a4, a5, a6⟩ ⟨b1, b2, b3, b4, b5, b6⟩ hbo) (H4 := c49_H ⟨a1, a2, a3, a4, a5, a6⟩ ⟨b1, b2, b3, b4, b5, b6⟩ KZ KP) (H5 := c50_H ⟨a1, a2, a3, a4, a5, a6⟩ ⟨b1, b2, b3, b4, b5, b6⟩ hjo) (H6 := K6) (H7 := K7) (H8 := K8) (H9 := K9) (HF := c53_H ⟨a1, a2, a3, a4, a5, a6⟩ ⟨b1, b2, b3, b4, b5, b6⟩ ha hb hz) (HA := KA) (HB := KB) (HM := KM) (HO := c56_H ⟨a1, a2, a3, a4, a5, a6⟩ ⟨b1, b2, b3, b4, b5, b6⟩ hs) (HJ := KJ)
  · have hv : (isCard ⟨a1, a2, a3, a4, a5, a6⟩ && isCard ⟨b1, b2, b3, b4, b5, b6⟩) = false := by simpa using hv
    have hn : pairE ⟨a1, a2, a3, a4, a5, a6⟩ ⟨b1, b2, b3, b4, b5, b6⟩ = 1 := by rw [pairE, hv]; rfl
    cases ha : isCard ⟨a1, a2, a3, a4, a5, a6⟩ with
    | false => exact c15_na (HE := HE) (HC := HC) (H1 := c45_H ⟨a1, a2, a3, a4, a5, a6⟩ ⟨b1, b2, b3, b4, b5, b6⟩ (by rw [hv]; rfl) hn) (H2 := c47_H ⟨a1, a2, a3, a4, a5, a6⟩ ⟨b1, b2, b3, b4, b5, b6⟩ (by rw [clashB, hv]; rfl) hn) (H3 := c48_H ⟨a1, a2, a3, a4, a5, a6⟩ ⟨b1, b2, b3, b4, b5, b6⟩ (by rw [bothR, hv]; rfl)) (H4 := c49_H ⟨a1, a2, a3, a4, a5, a6⟩ ⟨b1, b2, b3, b4, b5, b6⟩ (by rw [hv]; rfl) hn) (H5 := c50_H ⟨a1, a2, a3, a4, a5, a6⟩ ⟨b1, b2, b3, b4, b5, b6⟩ (by rw [joinB, hv]; rfl)) (H6 := c37_H ⟨a1, a2, a3, a4, a5, a6⟩ ha)
    | true =>
      have hb : isCard ⟨b1, b2, b3, b4, b5, b6⟩ = false := by rw [ha] at hv; exact hv
      exact c15_nb (HE := HE) (HC := HC) (H1 := c45_H ⟨a1, a2, a3, a4, a5, a6⟩ ⟨b1, b2, b3, b4, b5, b6⟩ (by rw [hv]; rfl) hn) (H2 := c47_H ⟨a1, a2, a3, a4, a5, a6⟩ ⟨b1, b2, b3, b4, b5, b6⟩ (by rw [clashB, hv]; rfl) hn) (H3 := c48_H ⟨a1, a2, a3, a4, a5, a6⟩ ⟨b1, b2, b3, b4, b5, b6⟩ (by rw [bothR, hv]; rfl)) (H4 := c49_H ⟨a1, a2, a3, a4, a5, a6⟩ ⟨b1, b2, b3, b4, b5, b6⟩ (by rw [hv]; rfl) hn) (H5 := c50_H ⟨a1, a2, a3, a4, a5, a6⟩ ⟨b1, b2, b3, b4, b5, b6⟩ (by rw [joinB, hv]; rfl)) (H6 := c37_H ⟨a1, a2, a3, a4, a5, a6⟩ ha) (H7 := c37_H ⟨b1, b2, b3, b4, b5, b6⟩ hb)
theorem w15 (a1 a2 a3 a4 a5 a6 b1 b2 b3 b4 b5 b6 : Int) (w : World) (_ : intIn a1) (_ : intIn a2) (_ : intIn a3) (_ : intIn a4) (_ : intIn a5) (_ : intIn a6) (_ : intIn b1) (_ : intIn b2) (_ : intIn b3) (_ : intIn b4) (_ : intIn b5) (_ : intIn b6) (hE : Env w) (hC : Cell0 w) : Calls Tryz.prog 15 #[.agg #[.int .i64 a1, .int .i64 a2, .int .i64 a3, .int .i64 a4, .int .i64 a5, .int .i64 a6], .agg #[.int .i64 b1, .int .i64 b2, .int .i64 b3, .int .i64 b4, .int .i64 b5, .int .i64 b6]] w fun e w' => e = .returned (.bool true) ∧ Below w.heap.size w w' := c15 a1 a2 a3 a4 a5 a6 b1 b2 b3 b4 b5 b6 w hE hC
end Go.Proofs.YthifeoebefbalaaGreatDoor
