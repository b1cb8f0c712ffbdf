/- The law CardChecks. -/
import Derived.Test.YthifeoebefbalaaGreatDoorR15
import Derived.Test.YthifeoebefbalaaGreatDoorR16
import Derived.Test.YthifeoebefbalaaGreatDoorR10
import Derived.Test.YthifeoebefbalaaGreatDoorR13
namespace Go.Proofs.YthifeoebefbalaaGreatDoor
open Go.RowKit

theorem c17 (a1 a2 a3 a4 a5 a6 b1 b2 b3 b4 b5 b6 : Int) (w : World) (hE : Env w) (hC : Cell0 w) : Calls Tryz.prog 17 #[.agg #[.int .i64 a1, .int .i64 a2, .int .i64 a3, .int .i64 a4, .int .i64 a5, .int .i64 a6], .agg #[.int .i64 b1, .int .i64 b2, .int .i64 b3, .int .i64 b4, .int .i64 b5, .int .i64 b6]] w fun e w' => e = .returned (.bool true) ∧ Below w.heap.size w w' := by
  have HE := Lib.hid hE
  have HC := Lib.hid hC
  clear hE hC
  have K3 := fun W => Lib.hid (c60 a1 a2 a3 a4 a5 a6 b1 b2 b3 b4 b5 b6 W)
  have K4 := fun W => Lib.hid (c61 a1 a2 a3 a4 a5 a6 b1 b2 b3 b4 b5 b6 W)
  cases hv : isCard ⟨a1, a2, a3, a4, a5, a6⟩ with
  | false =>
    exact c17_no (HE := HE) (HC := HC) (H1 := fun W _ => Lib.hid (c46_no ⟨a1, a2, a3, a4, a5, a6⟩ W hv)) (H2 := c43_E ⟨a1, a2, a3, a4, a5, a6⟩ (by rw [saysE, hv]; rfl) (by rw [checkE, hv]; rfl)) (H3 := K3) (H4 := K4) (H5 := c37_H ⟨a1, a2, a3, a4, a5, a6⟩ hv) (HK := c44_H ⟨a1, a2, a3, a4, a5, a6⟩ (by rw [checkE, hv]; rfl))
  | true =>
    obtain ⟨⟨l1, h1⟩, hp⟩ : ∃ s, says ⟨a1, a2, a3, a4, a5, a6⟩ = s := ⟨_, rfl⟩
    exact c17_yes (HE := HE) (HC := HC) (H1 := fun W hW => Lib.hid (c46 ⟨a1, a2, a3, a4, a5, a6⟩ W hW hv)) (H2 := c43_H ⟨a1, a2, a3, a4, a5, a6⟩ hv hp) (H3 := K3) (H4 := K4) (H5 := c37_H ⟨a1, a2, a3, a4, a5, a6⟩ hv) (HK := c44_H ⟨a1, a2, a3, a4, a5, a6⟩ (by rw [checkE, hv]; rfl)) (H6 := fun W => Lib.hid (c42 ⟨a1, a2, a3, a4, a5, a6⟩ W hv)) (H7 := c55_HH ⟨a1, a2, a3, a4, a5, a6⟩ hv hp)
theorem w17 (a1 a2 a3 a4 a5 a6 b1 b2 b3 b4 b5 b6 : Int) (w : World) (_ : intIn a1) (_ : intIn a2) (_ : intIn a3) (_ : intIn a4) (_ : intIn a5) (_ : intIn a6) (_ : intIn b1) (_ : intIn b2) (_ : intIn b3) (_ : intIn b4) (_ : intIn b5) (_ : intIn b6) (hE : Env w) (hC : Cell0 w) : Calls Tryz.prog 17 #[.agg #[.int .i64 a1, .int .i64 a2, .int .i64 a3, .int .i64 a4, .int .i64 a5, .int .i64 a6], .agg #[.int .i64 b1, .int .i64 b2, .int .i64 b3, .int .i64 b4, .int .i64 b5, .int .i64 b6]] w fun e w' => e = .returned (.bool true) ∧ Below w.heap.size w w' := c17 a1 a2 a3 a4 a5 a6 b1 b2 b3 b4 b5 b6 w hE hC
end Go.Proofs.YthifeoebefbalaaGreatDoor
