/- The law CardSaid. -/
import Derived.Test.YthifeoebefbalaaGreatDoorR3
import Derived.Test.YthifeoebefbalaaGreatDoorR4
import Derived.Test.YthifeoebefbalaaGreatDoorR15
namespace Go.Proofs.YthifeoebefbalaaGreatDoor
open Go.RowKit

theorem c25_H (st da dy lo hi : Int) {x1 x2 x3 x4 x5 x6 e : Int} (hs : hi ≤ 9223372036854775807) (hp : writeR st da dy ⟨lo, hi⟩ = (⟨x1, x2, x3, x4, x5, x6⟩, e)) : ∀ W, Hid (Calls Tryz.prog 25 #[.int .i64 st, .int .i64 da, .int .i64 dy, .agg #[.int .i64 lo, .int .i64 hi]] W fun r w' => r = .returned (.tuple #[.agg #[.int .i64 x1, .int .i64 x2, .int .i64 x3, .int .i64 x4, .int .i64 x5, .int .i64 x6], .int .i64 e]) ∧ Below W.heap.size W w') := fun W => Lib.hid (by
  have H := c25_any st da dy lo hi W hs
  rw [hp] at H
  exact H)
theorem alike_of {a b : Card} (h1 : b.st = a.st) (h2 : b.da = a.da) (h3 : b.dy = a.dy) (h : says b = says a) : alikeB a b = true := by
  rw [alikeB, sameOf, sameSays, h1, h2, h3, h]
  simp

theorem c11 (c1 c2 c3 c4 c5 c6 fine : Int) (w : World) (hE : Env w) (hC : Cell0 w) : Calls Tryz.prog 11 #[.agg #[.int .i64 c1, .int .i64 c2, .int .i64 c3, .int .i64 c4, .int .i64 c5, .int .i64 c6], .int .i64 fine] w fun e w' => e = .returned (.bool true) ∧ Below w.heap.size w w' := by
  have HE := Lib.hid hE
  have HC := Lib.hid hC
  clear hE hC
  cases hv : isCard ⟨c1, c2, c3, c4, c5, c6⟩ with
  | false => exact c11_no (fine := fine) (HE := HE) (HC := HC) (H1 := c43_E ⟨c1, c2, c3, c4, c5, c6⟩ (by rw [saysE, hv]; rfl) (by rw [checkE, hv]; rfl)) (HK := c44_H ⟨c1, c2, c3, c4, c5, c6⟩ (by rw [checkE, hv]; rfl))
  | true =>
    obtain ⟨⟨x1, x2, x3, x4, x5, x6⟩, hw, hx, hsx, e1, e2, e3, hf⟩ := writeR_says hv
    have hal := alike_of e1 e2 e3 hsx
    have hle := says_le hv
    obtain ⟨⟨s1, s2⟩, hs⟩ : ∃ s, says ⟨c1, c2, c3, c4, c5, c6⟩ = s := ⟨_, rfl⟩
    rw [hs] at hw hsx hle
    simp only at hle
    have K1 := c43_H ⟨c1, c2, c3, c4, c5, c6⟩ hv hs
    have K2 := c25_H c1 c2 c3 s1 s2 (by omega) hw
    have K3 := c43_H ⟨x1, x2, x3, x4, x5, x6⟩ hx hsx
    have K4 := c45_H ⟨c1, c2, c3, c4, c5, c6⟩ ⟨x1, x2, x3, x4, x5, x6⟩ ((pair_al hv hx).trans hal) (pair_ok hv hx)
    obtain ⟨⟨u1, u2⟩, hu⟩ : ∃ s, saysE ⟨c1, c2, c3, c4, c5, fine⟩ = s := ⟨_, rfl⟩
    have K5 := c43_E ⟨c1, c2, c3, c4, c5, fine⟩ hu rfl
    by_cases hk : c4 = 1
    · subst hk
      have hh := says_has hv
      rw [hs] at hh
      have hf' := hf rfl
      simp only at hf' hh
      by_cases hq : c6 < fine
      · exact c11_f (q3 := hh.1) (q4 := hh.2) (q5 := hf') (q6 := hq) (s1 := s1) (s2 := s2) (q1 := hle.1) (q2 := hle.2.1) (HE := HE) (HC := HC) (H2 := K2) (H3 := K3) (H1 := K1) (H4 := K4) (H5 := K5)
      · cases hd : isCard ⟨c1, c2, c3, 1, c5, fine⟩ with
        | false =>
          have hi : checkE ⟨c1, c2, c3, 1, c5, fine⟩ = 1 := by rw [checkE, hd]; rfl
          exact c11_i (q3 := hh.1) (q4 := hh.2) (q5 := hf') (q6 := by omega) (s1 := s1) (s2 := s2) (q1 := hle.1) (q2 := hle.2.1) (HE := HE) (HC := HC) (H2 := K2) (H3 := K3) (H1 := K1) (H4 := K4) (H5 := c43_E ⟨c1, c2, c3, 1, c5, fine⟩ hu hi)
        | true =>
          have hi : checkE ⟨c1, c2, c3, 1, c5, fine⟩ = 0 := by rw [checkE, hd]; rfl
          have hm := says_finer hv hd (by omega)
          rw [saysE, hd, if_pos rfl] at hu
          rw [hs, hu] at hm
          exact c11_u (q3 := hh.1) (q4 := hh.2) (q5 := hf') (q6 := by omega) (q7 := hm.1) (q8 := hm.2) (s1 := s1) (s2 := s2) (q1 := hle.1) (q2 := hle.2.1) (HE := HE) (HC := HC) (H2 := K2) (H3 := K3) (H1 := K1) (H4 := K4) (H5 := c43_H ⟨c1, c2, c3, 1, c5, fine⟩ hd hu)
    · exact c11_k (hk := hk) (s1 := s1) (s2 := s2) (q1 := hle.1) (q2 := hle.2.1) (HE := HE) (HC := HC) (H2 := K2) (H3 := K3) (H1 := K1) (H4 := K4) (H5 := K5)
theorem w11 (c1 c2 c3 c4 c5 c6 fine : Int) (w : World) (_ : intIn c1) (_ : intIn c2) (_ : intIn c3) (_ : intIn c4) (_ : intIn c5) (_ : intIn c6) (_ : intIn fine) (hE : Env w) (hC : Cell0 w) : Calls Tryz.prog 11 #[.agg #[.int .i64 c1, .int .i64 c2, .int .i64 c3, .int .i64 c4, .int .i64 c5, .int .i64 c6], .int .i64 fine] w fun e w' => e = .returned (.bool true) ∧ Below w.heap.size w w' := c11 c1 c2 c3 c4 c5 c6 fine w hE hC
end Go.Proofs.YthifeoebefbalaaGreatDoor
