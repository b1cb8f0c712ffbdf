/- The contracts of pairs of cards, their answers named. -/
import Derived.Test.YthifeoebefbalaaGreatDoorZ20
namespace Go.Proofs.YthifeoebefbalaaGreatDoor
open Go.RowKit

theorem c49_H (a b : Card) {p : Bool} {e : Int} (hp : (isCard a && isCard b && followsB a b) = p) (he : pairE a b = e) : ∀ W, Hid (Calls Tryz.prog 49 #[cv a, cv b] W fun r w' => r = .returned (.tuple #[.bool p, .int .i64 e]) ∧ Below W.heap.size W w') := fun W => Lib.hid (by
  have H := c49 a b W
  rw [hp, he] at H
  exact H)
theorem c50_H (a b : Card) {x y e : Int} (hp : joinB a b = (⟨x, y⟩, e)) : ∀ W, Hid (Calls Tryz.prog 50 #[cv a, cv b] W fun r w' => r = .returned (.tuple #[.agg #[.int .i64 x, .int .i64 y], .int .i64 e]) ∧ Below W.heap.size W w') := fun W => Lib.hid (by
  have H := c50 a b W
  rw [hp] at H
  exact H)
theorem c37_H (a : Card) {v : Bool} (hv : isCard a = v) : ∀ W, Hid (Calls Tryz.prog 37 #[cv a] W fun r w' => r = .returned (.bool v) ∧ Below W.heap.size W w') := fun W => Lib.hid (by
  have H := c37 a.st a.da a.dy a.ki a.am a.fi W
  rw [hv] at H
  exact H)
theorem c51_H (a b : Card) {v : Bool} (ha : isCard a = true) (hb : isCard b = true) (hv : alikeB a b = v) : ∀ W, Hid (Calls Tryz.prog 51 #[cv a, cv b] W fun r w' => r = .returned (.bool v) ∧ Below W.heap.size W w') := fun W => Lib.hid (by
  have H := c51 a b W ha hb
  rw [hv] at H
  exact H)
theorem c52_H (a b : Card) {v : Bool} (ha : isCard a = true) (hb : isCard b = true) (hv : (sameOf a b && !some2 a b) = v) : ∀ W, Hid (Calls Tryz.prog 52 #[cv a, cv b] W fun r w' => r = .returned (.bool v) ∧ Below W.heap.size W w') := fun W => Lib.hid (by
  have H := c52 a b W ha hb
  rw [hv] at H
  exact H)
theorem c53_H (a b : Card) {v : Bool} (ha : isCard a = true) (hb : isCard b = true) (hv : followsB a b = v) : ∀ W, Hid (Calls Tryz.prog 53 #[cv a, cv b] W fun r w' => r = .returned (.bool v) ∧ Below W.heap.size W w') := fun W => Lib.hid (by
  obtain ⟨-, -, p3, p4, p5, p6, -⟩ := isCard_true ha
  obtain ⟨-, -, q3, q4, q5, q6, -⟩ := isCard_true hb
  have H := c53 a b W (by omega) (by omega) (by omega) (by omega)
  rw [hv] at H
  exact H)
theorem c55_HH (a : Card) {x y : Int} (h1 : isCard a = true) (hp : says a = ⟨x, y⟩) : ∀ W, Hid (Calls Tryz.prog 55 #[cv a] W fun r w' => r = .returned (.agg #[.int .i64 x, .int .i64 y]) ∧ Below W.heap.size W w') := fun W => Lib.hid (by
  have H := c55_valid a W h1
  rw [hp] at H
  exact H)
theorem c56_H (a b : Card) {v : Bool} (hv : sameOf a b = v) : ∀ W, Hid (Calls Tryz.prog 56 #[cv a, cv b] W fun r w' => r = .returned (.bool v) ∧ Below W.heap.size W w') := fun W => Lib.hid (by
  have H := c56 a b W
  rw [hv] at H
  exact H)
theorem c57_H (a b : Card) {x y : Int} (ha : isCard a = true) (hb : isCard b = true) (hv : joinR (says a) (says b) = ⟨x, y⟩) : ∀ W, Hid (Calls Tryz.prog 57 #[cv a, cv b] W fun r w' => r = .returned (.agg #[.int .i64 x, .int .i64 y]) ∧ Below W.heap.size W w') := fun W => Lib.hid (by
  have H := c57 a b W ha hb
  rw [hv] at H
  exact H)
theorem c54_H (l1 h1 l2 h2 : Int) : ∀ W, Hid (Calls Tryz.prog 54 #[.agg #[.int .i64 l1, .int .i64 h1], .agg #[.int .i64 l2, .int .i64 h2]] W fun r w' => r = .returned (.agg #[.int .i64 (max l1 l2), .int .i64 (min h1 h2)]) ∧ Below W.heap.size W w') := fun W => Lib.hid (c54 l1 h1 l2 h2 W)
theorem c43_E (a : Card) {x y e : Int} (hp : saysE a = ⟨x, y⟩) (he : checkE a = e) : ∀ W, Hid (Calls Tryz.prog 43 #[cv a] W fun r w' => r = .returned (.tuple #[.agg #[.int .i64 x, .int .i64 y], .int .i64 e]) ∧ Below W.heap.size W w') := fun W => Lib.hid (by
  have H := c43_any a.st a.da a.dy a.ki a.am a.fi W
  rw [hp, he] at H
  exact H)
theorem c44_H (a : Card) {e : Int} (he : checkE a = e) : ∀ W, Hid (Calls Tryz.prog 44 #[cv a] W fun r w' => r = .returned (.int .i64 e) ∧ Below W.heap.size W w') := fun W => Lib.hid (by
  have H := c44 a.st a.da a.dy a.ki a.am a.fi W
  rw [he] at H
  exact H)
end Go.Proofs.YthifeoebefbalaaGreatDoor
