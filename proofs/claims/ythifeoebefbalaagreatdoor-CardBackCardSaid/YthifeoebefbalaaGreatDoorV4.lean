/- The law CardAmounts: its parts joined. -/
import Derived.Test.YthifeoebefbalaaGreatDoorV3
import Derived.Test.YthifeoebefbalaaGreatDoorZ13
set_option linter.unusedVariables false
set_option linter.unusedSimpArgs false
namespace Go.Proofs.YthifeoebefbalaaGreatDoor
open Go.RowKit

theorem reads_got {v : Rd} {c : Card} (h : v = .got c) : readsB v c 0 = true := by subst h; simp [readsB, rdC, rdE]
theorem reads_err {v : Rd} {x : Int} (h : v = .err x) : readsB v zcard x = true := by subst h; simp [readsB, rdC, rdE]
theorem c27_got (text : List UInt8) (c : Card) (h : lineR text zcard = .got c) : ∀ W, Cell0 W → Hid (Calls Tryz.prog 27 #[strv text, cv c, .int .i64 0] W fun r w' => r = .returned (.bool true) ∧ Below W.heap.size W w') := fun W hW => Lib.hid (by
  have H := c27 text c 0 W hW
  rw [reads_got h] at H
  exact H)
theorem c27_err (text : List UInt8) (x : Int) (h : lineR text zcard = .err x) : ∀ W, Cell0 W → Hid (Calls Tryz.prog 27 #[strv text, cv zcard, .int .i64 x] W fun r w' => r = .returned (.bool true) ∧ Below W.heap.size W w') := fun W hW => Lib.hid (by
  have H := c27 text zcard x W hW
  rw [reads_err h] at H
  exact H)
theorem am_four (n : Int) (s : UInt8) (hs : isAm s = true) : AmW (fourL (n / 100) ++ s :: twoL (n % 100)) := am_join (fourL_dig _) (twoL_dig _) hs
theorem am_dot (n : Int) : AmW (46 :: twoL n) := am_join (a := []) (by simp) (twoL_dig _) (by decide)
theorem am_zero (n : Int) : AmW (48 :: 46 :: twoL n) := am_join (a := [48]) (by decide) (twoL_dig _) (by decide)
theorem am_one : AmW [49] := ⟨by simp, by decide⟩

theorem c7 (n fine : Int) (w : World) (g0 : 0 ≤ fine) (g1 : fine ≤ 255) (hE : Env w) (hC : Cell0 w) : Calls Tryz.prog 7 #[.int .i64 n, .int .u8 fine] w fun e w' => e = .returned (.bool true) ∧ Below w.heap.size w w' := by
  by_cases hout : n < 0 ∨ 200000 < n
  · exact c7_out n fine w hout hE hC
  have h0 : 0 ≤ n := by omega
  have h1 : n ≤ 200000 := by omega
  have HE := Lib.hid hE
  have HC := Lib.hid hC
  clear hE hC hout
  have hm : n / 100 % 10000 = n / 100 := by omega
  have H32 : ∀ W, Hid (Calls Tryz.prog 32 #[.int .i64 (n / 100 % 10000)] W fun r w' => r = .returned (.string ⟨(fourL (n / 100)).toArray⟩) ∧ Below W.heap.size W w') := fun W => Lib.hid (by rw [hm]; exact c32 _ W (by omega) (by omega))
  have HA := fun W => Lib.hid (c31 (n % 100) W (by omega) (by omega))
  have HB := fun W => Lib.hid (c31 n W h0 (by omega))
  have HF := fun W => Lib.hid (c31 (1 + fine % 100) W (by omega) (by omega))
  have k1 : ∀ s, isAm s = true → pc.contains s = true → lineR (amHead ++ (fourL (n / 100) ++ s :: twoL (n % 100))) zcard = .got ⟨5, 9, 1, 1, n, 1⟩ := fun s hs hp =>
    (line_am (am_four n s hs) (by simp [fourL, twoL]) (hun_four n s hp h0 h1)).trans (card_am n 1 h0 h1 (by omega) (by omega) (by omega))
  have R1 := c27_got _ _ (k1 46 (by decide) (by decide))
  have R2 := c27_got _ _ (k1 44 (by decide) (by decide))
  have l1 : (fourL (n / 100)).length ≤ 4 := by simp [fourL, twoL]
  have l2 : ∀ m, (twoL m).length ≤ 2 := fun m => by simp [twoL]
  have x1 : ∀ f, f = 1 + fine % 100 → fine % 100 < 99 → lineR (amHead ++ ((fourL (n / 100) ++ 46 :: twoL (n % 100)) ++ 32 :: 116 :: 111 :: 32 :: 48 :: 46 :: twoL f)) zcard = cardR 5 (some 9) 1 1 n f := fun f hf hlt =>
    line_am2 (am_four n 46 (by decide)) (am_zero f) (by simp [fourL, twoL]) (by simp [twoL]) (hun_four n 46 (by decide) h0 h1) (hun_zero f (by omega) (by omega))
  have x2 : lineR (amHead ++ ((fourL (n / 100) ++ 46 :: twoL (n % 100)) ++ 32 :: 116 :: 111 :: 32 :: [49])) zcard = cardR 5 (some 9) 1 1 n 100 :=
    line_am2 (am_four n 46 (by decide)) am_one (by simp [fourL, twoL]) (by simp) (hun_four n 46 (by decide) h0 h1) hun_one
  have y1 : ∀ f, amHead ++ ((fourL (n / 100) ++ 46 :: twoL (n % 100)) ++ 32 :: 116 :: 111 :: 32 :: 48 :: 46 :: twoL f) = 53 :: 32 :: 49 :: 48 :: 32 :: 74 :: 97 :: 110 :: 32 :: 49 :: 56 :: 53 :: 48 :: 32 :: (fourL (n / 100) ++ 46 :: (twoL (n % 100) ++ 32 :: 116 :: 111 :: 32 :: 48 :: 46 :: twoL f)) := fun f => by
    rw [List.append_assoc]; rfl
  have y2 : amHead ++ ((fourL (n / 100) ++ 46 :: twoL (n % 100)) ++ 32 :: 116 :: 111 :: 32 :: [49]) = 53 :: 32 :: 49 :: 48 :: 32 :: 74 :: 97 :: 110 :: 32 :: 49 :: 56 :: 53 :: 48 :: 32 :: (fourL (n / 100) ++ 46 :: (twoL (n % 100) ++ [32, 116, 111, 32, 49])) := by
    rw [List.append_assoc]; rfl
  by_cases hd : n % (1 + fine % 100) = 0
  · have R4 : ∀ W, Cell0 W → fine % 100 < 99 → Hid _ := fun W hW hlt => c27_got _ _ (((congrArg (fun t => lineR t zcard) (y1 (1 + fine % 100)).symm).trans (x1 _ rfl hlt)).trans (card_am n _ h0 h1 (by omega) (by omega) hd)) W hW
    have R5 : ∀ W, Cell0 W → n % 100 = 0 → Hid _ := fun W hW he => c27_got _ ⟨5, 9, 1, 1, n, 100⟩ (((congrArg (fun t => lineR t zcard) y2.symm).trans x2).trans (card_am n _ h0 h1 (by omega) (by omega) he)) W hW
    have HZ := fun (he : n % 100 = 0) W => (show Hid (Calls Tryz.prog 31 #[.int .i64 0] W fun r w' => r = .returned (.string ⟨(twoL (n % 100)).toArray⟩) ∧ Below W.heap.size W w') from by have := HA W; rw [he] at this ⊢; exact this)
    have he0 : ¬ fine % 100 < 99 → n % 100 = 0 := fun hf => by rw [show (100 : Int) = 1 + fine % 100 by omega]; exact hd
    by_cases hn : n < 100
    · have R3 := c27_got _ _ ((line_am (am_dot n) (by simp [twoL]) (hun_two n h0 hn)).trans (card_am n 1 h0 h1 (by omega) (by omega) (by omega)))
      by_cases hf : fine % 100 < 99
      · exact c7_lt_lt_div n fine _ _ (twoL n) (twoL (1 + fine % 100)) w h0 h1 g0 g1 hn hf hd l1 (l2 _) (l2 _) (l2 _) HE HC H32 HA R1 R2 HB R3 HF (fun W hW => R4 W hW hf)
      · exact c7_lt_eq_div n fine _ _ (twoL n) w h0 h1 g0 g1 hn (by omega) (he0 hf) l1 (l2 _) (l2 _) HE HC H32 (HZ (he0 hf)) R1 R2 HB R3 (fun W hW => R5 W hW (he0 hf))
    · by_cases hf : fine % 100 < 99
      · exact c7_ge_lt_div n fine _ _ (twoL (1 + fine % 100)) w h0 h1 g0 g1 (by omega) hf hd l1 (l2 _) (l2 _) HE HC H32 HA R1 R2 HF (fun W hW => R4 W hW hf)
      · exact c7_ge_eq_div n fine _ _ w h0 h1 g0 g1 (by omega) (by omega) (he0 hf) l1 (l2 _) HE HC H32 (HZ (he0 hf)) R1 R2 (fun W hW => R5 W hW (he0 hf))
  · have R4 : ∀ W, Cell0 W → fine % 100 < 99 → Hid _ := fun W hW hlt => c27_err _ _ (((congrArg (fun t => lineR t zcard) (y1 (1 + fine % 100)).symm).trans (x1 _ rfl hlt)).trans (card_no n _ h0 hd)) W hW
    have R5 : ∀ W, Cell0 W → ¬ n % 100 = 0 → Hid _ := fun W hW he => c27_err _ _ (((congrArg (fun t => lineR t zcard) y2.symm).trans x2).trans (card_no n _ h0 he)) W hW
    have he0 : ¬ fine % 100 < 99 → ¬ n % 100 = 0 := fun hf => by rw [show (100 : Int) = 1 + fine % 100 by omega]; exact hd
    by_cases hn : n < 100
    · have R3 := c27_got _ _ ((line_am (am_dot n) (by simp [twoL]) (hun_two n h0 hn)).trans (card_am n 1 h0 h1 (by omega) (by omega) (by omega)))
      by_cases hf : fine % 100 < 99
      · exact c7_lt_lt_no n fine _ _ (twoL n) (twoL (1 + fine % 100)) w h0 h1 g0 g1 hn hf hd l1 (l2 _) (l2 _) (l2 _) HE HC H32 HA R1 R2 HB R3 HF (fun W hW => R4 W hW hf)
      · exact c7_lt_eq_no n fine _ _ (twoL n) w h0 h1 g0 g1 hn (by omega) (he0 hf) l1 (l2 _) (l2 _) HE HC H32 HA R1 R2 HB R3 (fun W hW => R5 W hW (he0 hf))
    · by_cases hf : fine % 100 < 99
      · exact c7_ge_lt_no n fine _ _ (twoL (1 + fine % 100)) w h0 h1 g0 g1 (by omega) hf hd l1 (l2 _) (l2 _) HE HC H32 HA R1 R2 HF (fun W hW => R4 W hW hf)
      · exact c7_ge_eq_no n fine _ _ w h0 h1 g0 g1 (by omega) (by omega) (he0 hf) l1 (l2 _) HE HC H32 HA R1 R2 (fun W hW => R5 W hW (he0 hf))
theorem w7 (n fine : Int) (w : World) (hn : intIn n) (hf : u8In fine) (hE : Env w) (hC : Cell0 w) : Calls Tryz.prog 7 #[.int .i64 n, .int .u8 fine] w fun e w' => e = .returned (.bool true) ∧ Below w.heap.size w w' := c7 n fine w hf.1 hf.2 hE hC
end Go.Proofs.YthifeoebefbalaaGreatDoor
