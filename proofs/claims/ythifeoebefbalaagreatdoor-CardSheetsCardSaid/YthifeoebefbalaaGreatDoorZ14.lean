/- The reference: what makes a card valid. Moved. -/
import Derived.Test.YthifeoebefbalaaGreatDoorZ11
import Derived.Test.YthifeoebefbalaaGreatDoorZ12
import Derived.Test.YthifeoebefbalaaGreatDoorZ13
set_option linter.unusedVariables false
set_option linter.unusedSimpArgs false
namespace Go.Proofs.YthifeoebefbalaaGreatDoor
open Go.RowKit

def readingB (st da dy : Int) : Bool := within st 1 1073741824 && within da 0 60000 && within dy 1 62
theorem c123 (n : Int) (w : World) : Calls Tryz.prog 123 #[.int .i64 n] w fun e w' => e = .returned (.bool (within n 0 60000)) ∧ w = w' := by
  by_cases h1 : 0 ≤ n
  all_goals by_cases h2 : n ≤ 60000
  all_goals go_enter Tryz.func123, Tryz.ntmps123
  all_goals go_wp2
  all_goals go_ret
  all_goals exact ⟨by simp [within, h1, h2], rfl⟩
theorem c78 (st da dy : Int) (w : World) : Calls Tryz.prog 78 #[.int .i64 st, .int .i64 da, .int .i64 dy] w fun e w' => e = .returned (.bool (readingB st da dy)) ∧ w = w' := by
  by_cases h1 : 1 ≤ st
  all_goals by_cases h2 : st ≤ 1073741824
  all_goals go_enter Tryz.func78, Tryz.ntmps78
  all_goals go_wp2_with (go_at_call 123; refine (c123 _ _).mono ?_; rintro e w' ⟨rfl, rfl⟩)
  all_goals go_ret
  all_goals exact ⟨ret_bool (by first | (simp_all [readingB, within]; done) | (simp_all [readingB, within]; intros; omega)), rfl⟩
theorem c37 (st da dy ki am fi : Int) (w : World) : Calls Tryz.prog 37 #[.agg #[.int .i64 st, .int .i64 da, .int .i64 dy, .int .i64 ki, .int .i64 am, .int .i64 fi]] w fun e w' => e = .returned (.bool (isCard ⟨st, da, dy, ki, am, fi⟩)) ∧ Below w.heap.size w w' := by
  have hs : isCard ⟨st, da, dy, ki, am, fi⟩ = (readingB st da dy && (within ki 1 4 && if ki != 1 then am == 0 && fi == 0 else within fi 1 100 && within am 0 200000 && am.tmod fi == 0)) := by
    simp only [isCard, readingB, Bool.and_assoc]
  rw [hs]
  clear hs
  generalize hr : readingB st da dy = rb
  have HR := Lib.hid hr
  clear hr
  by_cases k1 : ki < 1
  · go_enter Tryz.func37, Tryz.ntmps37
    go_wp2_with (go_at_call 78; refine (c78 _ _ _ _).mono ?_; rintro e w' ⟨rfl, rfl⟩; rw [HR.out])
    all_goals go_ret
    all_goals exact ⟨ret_bool (by cases rb <;> first | (simp_all [within]; done) | (simp_all [within]; intros; omega)), xa (xr _) _⟩
  · by_cases k2 : 4 < ki
    · go_enter Tryz.func37, Tryz.ntmps37
      go_wp2_with (go_at_call 78; refine (c78 _ _ _ _).mono ?_; rintro e w' ⟨rfl, rfl⟩; rw [HR.out])
      all_goals go_ret
      all_goals exact ⟨ret_bool (by cases rb <;> first | (simp_all [within]; done) | (simp_all [within]; intros; omega)), xa (xr _) _⟩
    · have hw : within ki 1 4 = true := within_true.2 (by omega)
      by_cases k3 : ki = 1
      · subst k3
        go_enter Tryz.func37, Tryz.ntmps37
        go_wp2_with (go_at_call 78; refine (c78 _ _ _ _).mono ?_; rintro e w' ⟨rfl, rfl⟩; rw [HR.out])
        all_goals go_ret
        all_goals refine ⟨ret_bool ?_, xa (xr _) _⟩
        all_goals first
          | rfl
          | (rw [Int.tmod_eq_emod_of_nonneg (by assumption)]; simp [within, *]; done)
          | (simp [within]; done)
          | (simp [within]; intros; omega)
      · have k4 : (ki != 1) = true := by simpa using k3
        go_enter Tryz.func37, Tryz.ntmps37
        go_wp2_with (go_at_call 78; refine (c78 _ _ _ _).mono ?_; rintro e w' ⟨rfl, rfl⟩; rw [HR.out])
        all_goals go_ret
        all_goals exact ⟨ret_bool (by cases rb <;> simp_all), xa (xr _) _⟩
end Go.Proofs.YthifeoebefbalaaGreatDoor

namespace Go.Proofs.YthifeoebefbalaaGreatDoor
open Go.RowKit

def movedR (c : Card) (m : Int) : Card × Int := if isCard c = true then (if m < -c.da ∨ 60000 - c.da < m then (zcard, 3) else (⟨c.st, c.da + m, c.dy, c.ki, c.am, c.fi⟩, 0)) else (zcard, 1)
/-- A card boxed, and a card's variable made behind it. -/
theorem box_zero (w : World) (st da dy ki am fi : Int) : ∃ W, (w.alloc (.cells #[.int .i64 st, .int .i64 da, .int .i64 dy, .int .i64 ki, .int .i64 am, .int .i64 fi] 24)).alloc (.cells #[.int .i64 0, .int .i64 0, .int .i64 0, .int .i64 0, .int .i64 0, .int .i64 0] 24) = W ∧ Below w.heap.size w W ∧ W.heap.size = w.heap.size + 2 ∧
    ∀ X, Below W.heap.size W X → X.heap[w.heap.size]? = some (cellsOf ⟨st, da, dy, ki, am, fi⟩) ∧ X.heap[w.heap.size + 1]? = some (cellsOf zcard) := by
  refine ⟨_, rfl, xa (xa (xr _) _) _, by simp, fun X hX => ⟨?_, ?_⟩⟩
  · rw [hX.block _ (by simp; omega), Below.heap_alloc _ _ w.heap.size (by simp)]; exact World.alloc_heap_new w _
  · rw [hX.block _ (by simp)]; exact new_block _ _ _ (by simp)

set_option maxRecDepth 100000 in
set_option maxHeartbeats 4000000 in
theorem c36 (st da dy ki am fi m : Int) (w : World) : Calls Tryz.prog 36 #[.agg #[.int .i64 st, .int .i64 da, .int .i64 dy, .int .i64 ki, .int .i64 am, .int .i64 fi], .int .i64 m] w fun e w' => e = .returned (.tuple #[cv (movedR ⟨st, da, dy, ki, am, fi⟩ m).1, .int .i64 (movedR ⟨st, da, dy, ki, am, fi⟩ m).2]) ∧ Below w.heap.size w w' := by
  obtain ⟨x, hx⟩ : ∃ x, movedR ⟨st, da, dy, ki, am, fi⟩ m = x := ⟨_, rfl⟩
  rw [hx]
  unfold movedR at hx
  cases hI : isCard ⟨st, da, dy, ki, am, fi⟩ with
  | false =>
    rw [if_neg (by rw [hI]; exact Bool.false_ne_true)] at hx
    subst hx
    have HI := Lib.hid hI
    clear hI
    go_enter Tryz.func36, Tryz.ntmps36
    go_wp2_with fail
    obtain ⟨W, hW, hB, hsz, hK⟩ := box_zero w st da dy ki am fi
    rw [hW]
    refine (c76 st da dy ki am fi W).mono ?_
    rw [HI.out]
    rintro e X ⟨rfl, hb⟩
    have hr := (hK X hb).2
    obtain ⟨u0, u1, u2, u3, u4, u5, uF, uL⟩ := cellsOf_at hr
    have HR := Lib.hid hr
    clear hK hW hr
    go_wp2
    obtain ⟨Y, hY, hYb, hYg, -⟩ := store6b HR.out 0 0 0 0 0 0
    rw [hY]
    have hg := hYg w (hB.trans (hb.mono hB.size)) (by omega)
    obtain ⟨y0, y1, y2, y3, y4, y5, yF, yL⟩ := cellsOf_at hYb
    clear hY hYb hYg
    exact bodyPost_ret (v := .tuple #[cv zcard, .int .i64 1]) (by simp [results, Tryz.results36, go_sem, cv, zcard, y0, y1, y2, y3, y4, y5]) rfl ⟨rfl, hg⟩
  | true =>
    obtain ⟨-, -, h3, h4, -⟩ := isCard_true hI
    simp only at h3 h4
    rw [if_pos hI] at hx
    simp only at hx
    have HI := Lib.hid hI
    clear hI
    by_cases h1 : m < -da
    · rw [if_pos (.inl h1)] at hx
      subst hx
      go_enter Tryz.func36, Tryz.ntmps36
      go_wp2_with fail
      obtain ⟨W, hW, hB, hsz, hK⟩ := box_zero w st da dy ki am fi
      rw [hW]
      refine (c76 st da dy ki am fi W).mono ?_
      rw [HI.out]
      rintro e X ⟨rfl, hb⟩
      obtain ⟨hb0, hr⟩ := hK X hb
      obtain ⟨t0, t1, t2, t3, t4, t5, tF, tL⟩ := cellsOf_at hb0
      obtain ⟨u0, u1, u2, u3, u4, u5, uF, uL⟩ := cellsOf_at hr
      have HR := Lib.hid hr
      clear hK hW hr hb0
      go_wp2
      obtain ⟨Y, hY, hYb, hYg, -⟩ := store6b HR.out 0 0 0 0 0 0
      rw [hY]
      have hg := hYg w (hB.trans (hb.mono hB.size)) (by omega)
      obtain ⟨y0, y1, y2, y3, y4, y5, yF, yL⟩ := cellsOf_at hYb
      clear hY hYb hYg
      exact bodyPost_ret (v := .tuple #[cv zcard, .int .i64 3]) (by simp [results, Tryz.results36, go_sem, cv, zcard, y0, y1, y2, y3, y4, y5]) rfl ⟨rfl, hg⟩
    · by_cases h2 : 60000 - da < m
      · rw [if_pos (.inr h2)] at hx
        subst hx
        go_enter Tryz.func36, Tryz.ntmps36
        go_wp2_with fail
        obtain ⟨W, hW, hB, hsz, hK⟩ := box_zero w st da dy ki am fi
        rw [hW]
        refine (c76 st da dy ki am fi W).mono ?_
        rw [HI.out]
        rintro e X ⟨rfl, hb⟩
        obtain ⟨hb0, hr⟩ := hK X hb
        obtain ⟨t0, t1, t2, t3, t4, t5, tF, tL⟩ := cellsOf_at hb0
        obtain ⟨u0, u1, u2, u3, u4, u5, uF, uL⟩ := cellsOf_at hr
        have HR := Lib.hid hr
        clear hK hW hr hb0
        go_wp2
        obtain ⟨Y, hY, hYb, hYg, -⟩ := store6b HR.out 0 0 0 0 0 0
        rw [hY]
        have hg := hYg w (hB.trans (hb.mono hB.size)) (by omega)
        obtain ⟨y0, y1, y2, y3, y4, y5, yF, yL⟩ := cellsOf_at hYb
        clear hY hYb hYg
        exact bodyPost_ret (v := .tuple #[cv zcard, .int .i64 3]) (by simp [results, Tryz.results36, go_sem, cv, zcard, y0, y1, y2, y3, y4, y5]) rfl ⟨rfl, hg⟩
      · rw [if_neg (by omega)] at hx
        subst hx
        go_enter Tryz.func36, Tryz.ntmps36
        go_wp2_with fail
        obtain ⟨W, hW, hB, hsz, hK⟩ := box_zero w st da dy ki am fi
        rw [hW]
        refine (c76 st da dy ki am fi W).mono ?_
        rw [HI.out]
        rintro e X ⟨rfl, hb⟩
        obtain ⟨hb0, hr⟩ := hK X hb
        obtain ⟨t0, t1, t2, t3, t4, t5, tF, tL⟩ := cellsOf_at hb0
        obtain ⟨u0, u1, u2, u3, u4, u5, uF, uL⟩ := cellsOf_at hr
        have HR := Lib.hid hr
        clear hK hW hr hb0
        go_wp2
        have hr2 : (X.setCell ⟨w.heap.size, 1, none⟩ (.int .i64 (da + m))).heap[w.heap.size + 1]? = some (cellsOf zcard) := (Below.heap_setCell X ⟨w.heap.size, 1, none⟩ _ _ (by simp)).trans HR.out
        obtain ⟨Y, hY, hYb, hYg, -⟩ := store6b hr2 st (da + m) dy ki am fi
        rw [hY]
        have hg := hYg w (xs (hB.trans (hb.mono hB.size)) (Nat.le_refl _) _) (by omega)
        obtain ⟨y0, y1, y2, y3, y4, y5, yF, yL⟩ := cellsOf_at hYb
        clear hY hYb hYg
        exact bodyPost_ret (v := .tuple #[cv ⟨st, da + m, dy, ki, am, fi⟩, .int .i64 0]) (by simp [results, Tryz.results36, go_sem, cv, zcard, y0, y1, y2, y3, y4, y5]) rfl ⟨rfl, hg⟩
end Go.Proofs.YthifeoebefbalaaGreatDoor

namespace Go.Proofs.YthifeoebefbalaaGreatDoor
open Go.RowKit

set_option maxRecDepth 100000 in
set_option maxHeartbeats 4000000 in
theorem c9 (st da dy ki am fi m : Int) (w : World) (hE : Env w) (hC : Cell0 w) : Calls Tryz.prog 9 #[.agg #[.int .i64 st, .int .i64 da, .int .i64 dy, .int .i64 ki, .int .i64 am, .int .i64 fi], .int .i64 m] w fun e w' => e = .returned (.bool true) ∧ Below w.heap.size w w' := by
  have HE := Lib.hid hE
  have HC := Lib.hid hC
  clear hE hC
  cases hI : isCard ⟨st, da, dy, ki, am, fi⟩ with
  | false =>
    have HM : Hid (movedR ⟨st, da, dy, ki, am, fi⟩ m = (zcard, 1)) := Lib.hid (by simp [movedR, hI])
    have HI := Lib.hid hI
    clear hI
    go_enter Tryz.func9, Tryz.ntmps9
    go_wp2_with fail
    have H36 := c36 st da dy ki am fi m (w.alloc (.cells #[.int .i64 st, .int .i64 da, .int .i64 dy, .int .i64 ki, .int .i64 am, .int .i64 fi] 24))
    rw [HM.out] at H36
    refine H36.mono ?_
    rintro e X1 ⟨rfl, hb1⟩
    clear H36
    have kb := new_card (c := ⟨st, da, dy, ki, am, fi⟩) hb1
    obtain ⟨t0, t1, t2, t3, t4, t5, tF, tL⟩ := cellsOf_at kb
    have hB1 : Below w.heap.size w X1 := (below_alloc w _).trans (hb1.mono (by simp))
    simp only [cv, zcard]
    obtain ⟨B, hB⟩ : ∃ B, X1.heap.size = B := ⟨_, rfl⟩
    have hBl : w.heap.size < B := by omega
    go_wp2_with fail
    obtain ⟨W2, hW2⟩ : ∃ W2, X1.alloc (.cells #[.int .i64 0, .int .i64 0, .int .i64 0, .int .i64 0, .int .i64 0, .int .i64 0] 24) = W2 := ⟨_, rfl⟩
    have hs2 : W2.heap.size = B + 1 := by rw [← hW2]; simp; omega
    have k1 : W2.heap[w.heap.size]? = some (cellsOf ⟨st, da, dy, ki, am, fi⟩) := by rw [← hW2, Below.heap_alloc _ _ _ (by omega)]; exact kb
    have k2 : W2.heap[B]? = some (cellsOf ⟨0, 0, 0, 0, 0, 0⟩) := by rw [← hW2]; exact new_block _ _ _ hB
    have hB2 : Below w.heap.size w W2 := by rw [← hW2]; exact xa hB1 _
    have hK : ∀ X, Below W2.heap.size W2 X → X.heap[w.heap.size]? = some (cellsOf ⟨st, da, dy, ki, am, fi⟩) ∧ X.heap[B]? = some (cellsOf ⟨0, 0, 0, 0, 0, 0⟩) := fun X hX => ⟨(hX.block _ (by omega)).trans k1, (hX.block _ (by omega)).trans k2⟩
    have HK := Lib.hid hK
    rw [hW2]
    clear hW2 kb k1 k2 hK t0 t1 t2 t3 t4 t5 tF tL hb1 hB1 hB X1
    refine (c37 st da dy ki am fi W2).mono ?_
    rw [HI.out]
    rintro e X ⟨rfl, hb⟩
    obtain ⟨k1, k2⟩ := HK.out X hb
    obtain ⟨t0, t1, t2, t3, t4, t5, tF, tL⟩ := cellsOf_at k1
    obtain ⟨u0, u1, u2, u3, u4, u5, uF, uL⟩ := cellsOf_at k2
    have hX : Below w.heap.size w X := hB2.trans (hb.mono hB2.size)
    have hE := Lib.hid (HE.out.below hX)
    have hC := Lib.hid (HC.out.below hX HC.out.lt)
    clear k1 k2
    go_wp2_with fail
    refine (c22 X hE.out hC.out).mono ?_
    rintro e X5 ⟨rfl, hb5⟩
    obtain ⟨-, k2⟩ := HK.out X5 (hb.trans (hb5.mono hb.size))
    obtain ⟨v0, v1, v2, v3, v4, v5, vF, vL⟩ := cellsOf_at k2
    clear k2
    go_wp2_with fail
    go_ret
    exact ⟨rfl, hX.trans (hb5.mono hX.size)⟩
  | true =>
    obtain ⟨-, -, h3, h4, -⟩ := isCard_true hI
    simp only at h3 h4
    by_cases h1 : m < -da
    · have HM : Hid (movedR ⟨st, da, dy, ki, am, fi⟩ m = (zcard, 3)) := Lib.hid (by simp [movedR, hI, h1])
      have HI := Lib.hid hI
      clear hI
      go_enter Tryz.func9, Tryz.ntmps9
      go_wp2_with fail
      have H36 := c36 st da dy ki am fi m (w.alloc (.cells #[.int .i64 st, .int .i64 da, .int .i64 dy, .int .i64 ki, .int .i64 am, .int .i64 fi] 24))
      rw [HM.out] at H36
      refine H36.mono ?_
      rintro e X1 ⟨rfl, hb1⟩
      clear H36
      have kb := new_card (c := ⟨st, da, dy, ki, am, fi⟩) hb1
      obtain ⟨t0, t1, t2, t3, t4, t5, tF, tL⟩ := cellsOf_at kb
      have hB1 : Below w.heap.size w X1 := (below_alloc w _).trans (hb1.mono (by simp))
      simp only [cv, zcard]
      obtain ⟨B, hB⟩ : ∃ B, X1.heap.size = B := ⟨_, rfl⟩
      have hBl : w.heap.size < B := by omega
      go_wp2_with fail
      obtain ⟨W2, hW2⟩ : ∃ W2, X1.alloc (.cells #[.int .i64 0, .int .i64 0, .int .i64 0, .int .i64 0, .int .i64 0, .int .i64 0] 24) = W2 := ⟨_, rfl⟩
      have hs2 : W2.heap.size = B + 1 := by rw [← hW2]; simp; omega
      have k1 : W2.heap[w.heap.size]? = some (cellsOf ⟨st, da, dy, ki, am, fi⟩) := by rw [← hW2, Below.heap_alloc _ _ _ (by omega)]; exact kb
      have k2 : W2.heap[B]? = some (cellsOf ⟨0, 0, 0, 0, 0, 0⟩) := by rw [← hW2]; exact new_block _ _ _ hB
      have hB2 : Below w.heap.size w W2 := by rw [← hW2]; exact xa hB1 _
      have hK : ∀ X, Below W2.heap.size W2 X → X.heap[w.heap.size]? = some (cellsOf ⟨st, da, dy, ki, am, fi⟩) ∧ X.heap[B]? = some (cellsOf ⟨0, 0, 0, 0, 0, 0⟩) := fun X hX => ⟨(hX.block _ (by omega)).trans k1, (hX.block _ (by omega)).trans k2⟩
      have HK := Lib.hid hK
      rw [hW2]
      clear hW2 kb k1 k2 hK t0 t1 t2 t3 t4 t5 tF tL hb1 hB1 hB X1
      refine (c37 st da dy ki am fi W2).mono ?_
      rw [HI.out]
      rintro e X ⟨rfl, hb⟩
      obtain ⟨k1, k2⟩ := HK.out X hb
      obtain ⟨t0, t1, t2, t3, t4, t5, tF, tL⟩ := cellsOf_at k1
      obtain ⟨u0, u1, u2, u3, u4, u5, uF, uL⟩ := cellsOf_at k2
      have hX : Below w.heap.size w X := hB2.trans (hb.mono hB2.size)
      have hE := Lib.hid (HE.out.below hX)
      have hC := Lib.hid (HC.out.below hX HC.out.lt)
      clear k1 k2
      go_wp2_with fail
      refine (c22 X hE.out hC.out).mono ?_
      rintro e X5 ⟨rfl, hb5⟩
      obtain ⟨-, k2⟩ := HK.out X5 (hb.trans (hb5.mono hb.size))
      obtain ⟨v0, v1, v2, v3, v4, v5, vF, vL⟩ := cellsOf_at k2
      clear k2
      go_wp2_with fail
      go_ret
      exact ⟨rfl, hX.trans (hb5.mono hX.size)⟩
    · by_cases h2 : 60000 - da < m
      · have HM : Hid (movedR ⟨st, da, dy, ki, am, fi⟩ m = (zcard, 3)) := Lib.hid (by simp [movedR, hI, h2])
        have HI := Lib.hid hI
        clear hI
        go_enter Tryz.func9, Tryz.ntmps9
        go_wp2_with fail
        have H36 := c36 st da dy ki am fi m (w.alloc (.cells #[.int .i64 st, .int .i64 da, .int .i64 dy, .int .i64 ki, .int .i64 am, .int .i64 fi] 24))
        rw [HM.out] at H36
        refine H36.mono ?_
        rintro e X1 ⟨rfl, hb1⟩
        clear H36
        have kb := new_card (c := ⟨st, da, dy, ki, am, fi⟩) hb1
        obtain ⟨t0, t1, t2, t3, t4, t5, tF, tL⟩ := cellsOf_at kb
        have hB1 : Below w.heap.size w X1 := (below_alloc w _).trans (hb1.mono (by simp))
        simp only [cv, zcard]
        obtain ⟨B, hB⟩ : ∃ B, X1.heap.size = B := ⟨_, rfl⟩
        have hBl : w.heap.size < B := by omega
        go_wp2_with fail
        obtain ⟨W2, hW2⟩ : ∃ W2, X1.alloc (.cells #[.int .i64 0, .int .i64 0, .int .i64 0, .int .i64 0, .int .i64 0, .int .i64 0] 24) = W2 := ⟨_, rfl⟩
        have hs2 : W2.heap.size = B + 1 := by rw [← hW2]; simp; omega
        have k1 : W2.heap[w.heap.size]? = some (cellsOf ⟨st, da, dy, ki, am, fi⟩) := by rw [← hW2, Below.heap_alloc _ _ _ (by omega)]; exact kb
        have k2 : W2.heap[B]? = some (cellsOf ⟨0, 0, 0, 0, 0, 0⟩) := by rw [← hW2]; exact new_block _ _ _ hB
        have hB2 : Below w.heap.size w W2 := by rw [← hW2]; exact xa hB1 _
        have hK : ∀ X, Below W2.heap.size W2 X → X.heap[w.heap.size]? = some (cellsOf ⟨st, da, dy, ki, am, fi⟩) ∧ X.heap[B]? = some (cellsOf ⟨0, 0, 0, 0, 0, 0⟩) := fun X hX => ⟨(hX.block _ (by omega)).trans k1, (hX.block _ (by omega)).trans k2⟩
        have HK := Lib.hid hK
        rw [hW2]
        clear hW2 kb k1 k2 hK t0 t1 t2 t3 t4 t5 tF tL hb1 hB1 hB X1
        refine (c37 st da dy ki am fi W2).mono ?_
        rw [HI.out]
        rintro e X ⟨rfl, hb⟩
        obtain ⟨k1, k2⟩ := HK.out X hb
        obtain ⟨t0, t1, t2, t3, t4, t5, tF, tL⟩ := cellsOf_at k1
        obtain ⟨u0, u1, u2, u3, u4, u5, uF, uL⟩ := cellsOf_at k2
        have hX : Below w.heap.size w X := hB2.trans (hb.mono hB2.size)
        have hE := Lib.hid (HE.out.below hX)
        have hC := Lib.hid (HC.out.below hX HC.out.lt)
        clear k1 k2
        go_wp2_with fail
        refine (c22 X hE.out hC.out).mono ?_
        rintro e X5 ⟨rfl, hb5⟩
        obtain ⟨-, k2⟩ := HK.out X5 (hb.trans (hb5.mono hb.size))
        obtain ⟨v0, v1, v2, v3, v4, v5, vF, vL⟩ := cellsOf_at k2
        clear k2
        go_wp2_with fail
        go_ret
        exact ⟨rfl, hX.trans (hb5.mono hX.size)⟩
      · have HM : Hid (movedR ⟨st, da, dy, ki, am, fi⟩ m = (⟨st, da + m, dy, ki, am, fi⟩, 0)) := Lib.hid (by simp [movedR, hI, h1, h2])
        have HI := Lib.hid hI
        clear hI
        go_enter Tryz.func9, Tryz.ntmps9
        go_wp2_with fail
        have H36 := c36 st da dy ki am fi m (w.alloc (.cells #[.int .i64 st, .int .i64 da, .int .i64 dy, .int .i64 ki, .int .i64 am, .int .i64 fi] 24))
        rw [HM.out] at H36
        refine H36.mono ?_
        rintro e X1 ⟨rfl, hb1⟩
        clear H36
        have kb := new_card (c := ⟨st, da, dy, ki, am, fi⟩) hb1
        obtain ⟨t0, t1, t2, t3, t4, t5, tF, tL⟩ := cellsOf_at kb
        have hB1 : Below w.heap.size w X1 := (below_alloc w _).trans (hb1.mono (by simp))
        simp only [cv, zcard]
        obtain ⟨B, hB⟩ : ∃ B, X1.heap.size = B := ⟨_, rfl⟩
        have hBl : w.heap.size < B := by omega
        go_wp2_with fail
        obtain ⟨W2, hW2⟩ : ∃ W2, X1.alloc (.cells #[.int .i64 st, .int .i64 (da + m), .int .i64 dy, .int .i64 ki, .int .i64 am, .int .i64 fi] 24) = W2 := ⟨_, rfl⟩
        have hs2 : W2.heap.size = B + 1 := by rw [← hW2]; simp; omega
        have k1 : W2.heap[w.heap.size]? = some (cellsOf ⟨st, da, dy, ki, am, fi⟩) := by rw [← hW2, Below.heap_alloc _ _ _ (by omega)]; exact kb
        have k2 : W2.heap[B]? = some (cellsOf ⟨st, da + m, dy, ki, am, fi⟩) := by rw [← hW2]; exact new_block _ _ _ hB
        have hB2 : Below w.heap.size w W2 := by rw [← hW2]; exact xa hB1 _
        have hK : ∀ X, Below W2.heap.size W2 X → X.heap[w.heap.size]? = some (cellsOf ⟨st, da, dy, ki, am, fi⟩) ∧ X.heap[B]? = some (cellsOf ⟨st, da + m, dy, ki, am, fi⟩) := fun X hX => ⟨(hX.block _ (by omega)).trans k1, (hX.block _ (by omega)).trans k2⟩
        have HK := Lib.hid hK
        rw [hW2]
        clear hW2 kb k1 k2 hK t0 t1 t2 t3 t4 t5 tF tL hb1 hB1 hB X1
        refine (c37 st da dy ki am fi W2).mono ?_
        rw [HI.out]
        rintro e X ⟨rfl, hb⟩
        obtain ⟨k1, k2⟩ := HK.out X hb
        obtain ⟨t0, t1, t2, t3, t4, t5, tF, tL⟩ := cellsOf_at k1
        obtain ⟨u0, u1, u2, u3, u4, u5, uF, uL⟩ := cellsOf_at k2
        have hX : Below w.heap.size w X := hB2.trans (hb.mono hB2.size)
        have hE := Lib.hid (HE.out.below hX)
        have hC := Lib.hid (HC.out.below hX HC.out.lt)
        clear k1 k2
        go_wp2_with fail
        obtain ⟨B7, hB7⟩ : ∃ B7, X.heap.size = B7 := ⟨_, rfl⟩
        rw [hB7]
        have H22 := c22 (X.alloc (.cells #[.int .i64 st, .int .i64 (da + m), .int .i64 dy, .int .i64 ki, .int .i64 am, .int .i64 fi] 24)) (hE.out.below (below_alloc _ _)) (hC.out.below (below_alloc _ _) hC.out.lt)
        refine H22.mono ?_
        rintro e X5 ⟨rfl, hb5⟩
        have k7 := new_card (c := ⟨st, da + m, dy, ki, am, fi⟩) hb5
        rw [hB7] at k7
        have hb6 := (below_alloc X (.cells #[.int .i64 st, .int .i64 (da + m), .int .i64 dy, .int .i64 ki, .int .i64 am, .int .i64 fi] 24)).trans (hb5.mono (by simp))
        obtain ⟨-, k2⟩ := HK.out X5 (hb.trans (hb6.mono hb.size))
        obtain ⟨v0, v1, v2, v3, v4, v5, vF, vL⟩ := cellsOf_at k2
        obtain ⟨z0, z1, z2, z3, z4, z5, zF, zL⟩ := cellsOf_at k7
        clear k2 k7 H22 hb5
        go_wp2_with fail
        go_ret
        exact ⟨rfl, hX.trans (hb6.mono hX.size)⟩
theorem w9 (st da dy ki am fi m : Int) (w : World) (_ : intIn st) (_ : intIn da) (_ : intIn dy) (_ : intIn ki) (_ : intIn am) (_ : intIn fi) (_ : intIn m) (hE : Env w) (hC : Cell0 w) : Calls Tryz.prog 9 #[.agg #[.int .i64 st, .int .i64 da, .int .i64 dy, .int .i64 ki, .int .i64 am, .int .i64 fi], .int .i64 m] w fun e w' => e = .returned (.bool true) ∧ Below w.heap.size w w' := c9 st da dy ki am fi m w hE hC
end Go.Proofs.YthifeoebefbalaaGreatDoor
