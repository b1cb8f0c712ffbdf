/- What a card says, written again. -/
import Derived.Test.YthifeoebefbalaaGreatDoorZ15
import Derived.Test.YthifeoebefbalaaGreatDoorZ18
namespace Go.Proofs.YthifeoebefbalaaGreatDoor
open Go.RowKit

theorem find_first {p : Nat → Bool} {n i : Nat} (hi : i < n) (hp : p i = true) : ∃ j, (List.range n).find? p = some j ∧ j ≤ i ∧ p j = true := by
  cases h : (List.range n).find? p with
  | none =>
    have := List.find?_eq_none.1 h i (List.mem_range.2 hi)
    exact absurd hp this
  | some j =>
    have h' := List.find?_range_eq_some.1 h
    refine ⟨j, rfl, ?_, h'.1⟩
    by_cases hj : j ≤ i
    · exact hj
    · have := h'.2.2 i (by omega)
      rw [hp] at this
      cases this
theorem writeR_says {c : Card} (h : isCard c = true) : ∃ x, writeR c.st c.da c.dy (says c) = (x, 0) ∧ isCard x = true ∧ says x = says c ∧ x.st = c.st ∧ x.da = c.da ∧ x.dy = c.dy ∧ (c.ki = 1 → x.fi ≤ c.fi) := by
  have hs := says_le h
  obtain ⟨-, -, -, -, -, -, h7, h8, h9, h10⟩ := isCard_true h
  rw [writeR, if_neg (by omega)]
  cases h3 : (List.range 3).find? fun i => fitsB (kCard c.st c.da c.dy i) (says c) with
  | some i =>
    have hf := List.find?_some h3
    rw [fitsB, Bool.and_eq_true] at hf
    refine ⟨_, rfl, hf.1, of_decide_eq_true hf.2, rfl, rfl, rfl, fun hk => ?_⟩
    have := (h9 hk).1
    show (0 : Int) ≤ c.fi
    omega
  | none =>
    have hno := List.find?_eq_none.1 h3
    have hself : fitsB c (says c) = true := by rw [fitsB, h, decide_eq_true rfl]; rfl
    by_cases hk : c.ki = 1
    · obtain ⟨g1, g2, g3, g4, -⟩ := h9 hk
      have hc : fCard c.st c.da c.dy (says c) (c.fi - 1).toNat = c := by
        have e : (((c.fi - 1).toNat : Int)) + 1 = c.fi := by omega
        rw [fCard, e]
        obtain ⟨st, da, dy, ki, am, fi⟩ := c
        simp only at hk g1 g2 g3 g4
        subst hk
        simp only [says]
        simp
      obtain ⟨j, hj, hle, hpj⟩ := find_first (p := fun i => fitsB (fCard c.st c.da c.dy (says c) i) (says c)) (n := 100) (i := (c.fi - 1).toNat) (by omega) (by rw [hc]; exact hself)
      simp only
      rw [hj]
      simp only [fitsB, Bool.and_eq_true, decide_eq_true_eq] at hpj
      refine ⟨_, rfl, hpj.1, hpj.2, rfl, rfl, rfl, fun _ => ?_⟩
      show (j : Int) + 1 ≤ c.fi
      omega
    · exfalso
      obtain ⟨g1, g2⟩ := h10 hk
      have hc : ∀ j, kindAt j = c.ki → kCard c.st c.da c.dy j = c := fun j hj => by
        rw [kCard, hj]
        obtain ⟨st, da, dy, ki, am, fi⟩ := c
        simp only at g1 g2
        subst g1 g2
        rfl
      have hcase : c.ki = 2 ∨ c.ki = 3 ∨ c.ki = 4 := by omega
      rcases hcase with hq | hq | hq
      · exact hno 1 (by decide) (by rw [hc 1 (by rw [hq]; rfl)]; exact hself)
      · exact hno 0 (by decide) (by rw [hc 0 (by rw [hq]; rfl)]; exact hself)
      · exact hno 2 (by decide) (by rw [hc 2 (by rw [hq]; rfl)]; exact hself)
theorem says_finer {st da dy am fi fine : Int} (h : isCard ⟨st, da, dy, 1, am, fi⟩ = true) (h' : isCard ⟨st, da, dy, 1, am, fine⟩ = true) (hf : fine ≤ fi) :
    (says ⟨st, da, dy, 1, am, fi⟩).lo ≤ (says ⟨st, da, dy, 1, am, fine⟩).lo ∧ (says ⟨st, da, dy, 1, am, fine⟩).hi ≤ (says ⟨st, da, dy, 1, am, fi⟩).hi := by
  obtain ⟨-, -, -, -, -, -, -, -, h9, -⟩ := isCard_true h
  obtain ⟨-, -, -, -, -, -, -, -, k9, -⟩ := isCard_true h'
  obtain ⟨g1, g2, g3, g4, -⟩ := h9 rfl
  obtain ⟨k1, k2, k3, k4, -⟩ := k9 rfl
  simp only [says] at *
  simp
  omega
theorem says_has {st da dy am fi : Int} (h : isCard ⟨st, da, dy, 1, am, fi⟩ = true) : (says ⟨st, da, dy, 1, am, fi⟩).lo ≤ am ∧ am ≤ (says ⟨st, da, dy, 1, am, fi⟩).hi := by
  obtain ⟨-, -, -, -, -, -, -, -, h9, -⟩ := isCard_true h
  obtain ⟨g1, g2, g3, g4, -⟩ := h9 rfl
  simp only at g1 g2 g3 g4
  simp only [says]
  simp
  omega
end Go.Proofs.YthifeoebefbalaaGreatDoor
