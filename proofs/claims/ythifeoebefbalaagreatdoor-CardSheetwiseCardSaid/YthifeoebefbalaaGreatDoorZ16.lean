/- Two cards: Check, alike, Alike, Clash whole. -/
import Derived.Test.YthifeoebefbalaaGreatDoorZ3
import Derived.Test.YthifeoebefbalaaGreatDoorZ13
import Derived.Test.YthifeoebefbalaaGreatDoorZ14
import Derived.Outline
set_option linter.unusedVariables false
set_option linter.unusedSimpArgs false
namespace Go.Proofs.YthifeoebefbalaaGreatDoor
open Go.RowKit

def checkE (c : Card) : Int := if isCard c then 0 else 1
theorem c44 (st da dy ki am fi : Int) (w : World) : Calls Tryz.prog 44 #[.agg #[.int .i64 st, .int .i64 da, .int .i64 dy, .int .i64 ki, .int .i64 am, .int .i64 fi]] w fun e w' => e = .returned (.int .i64 (checkE ⟨st, da, dy, ki, am, fi⟩)) ∧ Below w.heap.size w w' := by
  rw [checkE]
  generalize hr : isCard ⟨st, da, dy, ki, am, fi⟩ = rb
  have HR := Lib.hid hr
  clear hr
  cases rb
  all_goals
    go_enter Tryz.func44, Tryz.ntmps44
    go_wp2_with (go_at_call 76; refine (c76 _ _ _ _ _ _ _).mono ?_; rintro e w1 ⟨rfl, hb1⟩; rw [HR.out]; obtain ⟨x1, rfl⟩ := of_below hb1; clear hb1)
    go_ret
    exact ⟨rfl, xg (xa (xr _) _) _⟩

def sameSays (a b : Card) : Bool := decide ((says a).lo = (says b).lo) && decide ((says a).hi = (says b).hi)
def alikeB (a b : Card) : Bool := sameOf a b && sameSays a b
theorem c77f (st da dy ki am fi : Int) (w : World) (h : isCard ⟨st, da, dy, ki, am, fi⟩ = true) : Calls Tryz.prog 77 #[.agg #[.int .i64 st, .int .i64 da, .int .i64 dy, .int .i64 ki, .int .i64 am, .int .i64 fi]] w fun e w' => e = .returned (.agg #[.int .i64 (says ⟨st, da, dy, ki, am, fi⟩).lo, .int .i64 (says ⟨st, da, dy, ki, am, fi⟩).hi]) ∧ Below w.heap.size w w' :=
  c77 ⟨st, da, dy, ki, am, fi⟩ w h

set_option maxHeartbeats 2000000 in
set_option maxRecDepth 100000 in
theorem c94 (a b : Card) (w : World) (ha : isCard a = true) (hb : isCard b = true) : Calls Tryz.prog 94 #[cv a, cv b] w fun e w' => e = .returned (.bool (alikeB a b)) ∧ Below w.heap.size w w' := by
  have HD : Hid (alikeB a b = (sameOf a b && sameSays a b)) := Lib.hid rfl
  generalize hv : alikeB a b = v at HD ⊢
  clear hv
  have Ha := Lib.hid ha
  have Hb := Lib.hid hb
  clear ha hb
  unfold cv
  obtain ⟨a1, a2, a3, a4, a5, a6⟩ := a
  obtain ⟨b1, b2, b3, b4, b5, b6⟩ := b
  simp only [sameOf, sameSays] at HD
  simp only
  by_cases h1 : a1 = b1 ∧ a2 = b2 ∧ a3 = b3
  · obtain ⟨rfl, rfl, rfl⟩ := h1
    by_cases h4 : (says ⟨a1, a2, a3, a4, a5, a6⟩).lo = (says ⟨a1, a2, a3, b4, b5, b6⟩).lo
    all_goals by_cases h5 : (says ⟨a1, a2, a3, a4, a5, a6⟩).hi = (says ⟨a1, a2, a3, b4, b5, b6⟩).hi
    all_goals
      go_enter Tryz.func94, Tryz.ntmps94
      go_wp2_with fail
      refine wp_region_gw (by kernel_rfl) (by kernel_rfl) ?_
      repeat (go_big_quiet_step (first
        | (go_at_call 96; exact gw_call (c96' _ _ _ _ _ _ _))
        | (go_at_call 77; exact gw_call (c77f _ _ _ _ _ _ _ (by first | exact Ha.out | exact Hb.out)))))
      refine wpQuiet_nil ?_
      rintro _ ⟨x, rfl⟩
      go_wp2
      go_ret
      exact ⟨ret_bool (by simp [HD.out, h4, h5]), xg (xa (xa (xr _) _) _) x⟩
  · go_enter Tryz.func94, Tryz.ntmps94
    go_wp2_with fail
    by_cases k1 : a1 = b1
    all_goals by_cases k2 : a2 = b2
    all_goals by_cases k3 : a3 = b3
    all_goals first | (exfalso; exact h1 ⟨k1, k2, k3⟩) | skip
    all_goals clear h1
    all_goals
      refine wp_region_gw (by kernel_rfl) (by kernel_rfl) ?_
      repeat (go_big_quiet_step ((go_at_call 96; exact gw_call (c96' _ _ _ _ _ _ _))))
      refine wpQuiet_nil ?_
      rintro _ ⟨x, rfl⟩
      go_wp2
      go_ret
      exact ⟨ret_bool (by simp [HD.out, k1, k2, k3]), xg (xa (xa (xr _) _) _) x⟩

def pairE (a b : Card) : Int := if isCard a && isCard b then 0 else 1
theorem eachErr_pair (a b : Card) : eachErr [a, b] = pairE a b := eachErr_two a b

set_option maxHeartbeats 1000000 in
theorem c45 (a b : Card) (w : World) : Calls Tryz.prog 45 #[cv a, cv b] w fun e w' => e = .returned (.tuple #[.bool (isCard a && isCard b && alikeB a b), .int .i64 (pairE a b)]) ∧ Below w.heap.size w w' := by
  have he := eachErr_pair a b
  have Hq : Hid (pairE a b = if isCard a && isCard b then 0 else 1) := Lib.hid rfl
  by_cases hh : isCard a = true ∧ isCard b = true
  · obtain ⟨ha, hb⟩ := hh
    rw [show pairE a b = 0 by rw [pairE, ha, hb]; rfl] at *
    have Ha := Lib.hid ha
    have Hb := Lib.hid hb
    rw [ha, hb]
    have He := Lib.hid he
    clear ha hb he
    unfold cv
    go_enter Tryz.func45, Tryz.ntmps45
    go_wp2_with (first
      | (go_at_call 93; refine (c93_two a b _ _ _ (by simp)).mono ?_; rintro e w1 ⟨rfl, x1, rfl⟩; rw [He.out])
      | (go_at_call 94; refine (c94 a b _ Ha.out Hb.out).mono ?_; rintro e w2 ⟨rfl, hb2⟩; obtain ⟨x2, rfl⟩ := gw_step hb2; clear hb2))
    exact bodyPost_ret (v := .tuple #[.bool (alikeB a b), .int .i64 0]) (by simp [results, Tryz.results45, go_sem]) rfl ⟨rfl, by repeat (first | exact xr _ | apply xa | apply xg)⟩
  · have hq : (isCard a && isCard b) = false := by
      cases h1 : isCard a <;> cases h2 : isCard b <;> simp_all
    rw [show pairE a b = 1 by rw [pairE, hq]; rfl] at *
    rw [hq]
    have He := Lib.hid he
    clear hq he hh
    unfold cv
    go_enter Tryz.func45, Tryz.ntmps45
    go_wp2_with (go_at_call 93; refine (c93_two a b _ _ _ (by simp)).mono ?_; rintro e w1 ⟨rfl, x1, rfl⟩; rw [He.out])
    exact bodyPost_ret (v := .tuple #[.bool false, .int .i64 1]) (by simp [results, Tryz.results45, go_sem]) rfl ⟨rfl, by repeat (first | exact xr _ | apply xa | apply xg)⟩
theorem c47_no (a b : Card) (w : World) (h : (isCard a && isCard b) = false) : Calls Tryz.prog 47 #[cv a, cv b] w fun e w' => e = .returned (.tuple #[.bool false, .int .i64 1]) ∧ Below w.heap.size w w' := by
  have he : eachErr [a, b] = 1 := by rw [eachErr_two, h]; rfl
  have He := Lib.hid he
  clear he h
  unfold cv
  go_enter Tryz.func47, Tryz.ntmps47
  go_wp2_with (go_at_call 93; refine (c93_two a b _ _ _ (by simp)).mono ?_; rintro e w1 ⟨rfl, x1, rfl⟩; rw [He.out])
  exact bodyPost_ret (v := .tuple #[.bool false, .int .i64 1]) (by simp [results, Tryz.results47, go_sem]) rfl ⟨rfl, by repeat (first | exact xr _ | apply xa | apply xg)⟩
end Go.Proofs.YthifeoebefbalaaGreatDoor

namespace Go.Proofs.YthifeoebefbalaaGreatDoor
open Go.RowKit

def saysE (c : Card) : Sp := if isCard c then says c else ⟨0, 0⟩
theorem c43_any (st da dy ki am fi : Int) (w : World) : Calls Tryz.prog 43 #[.agg #[.int .i64 st, .int .i64 da, .int .i64 dy, .int .i64 ki, .int .i64 am, .int .i64 fi]] w fun e w' => e = .returned (.tuple #[spv (saysE ⟨st, da, dy, ki, am, fi⟩), .int .i64 (checkE ⟨st, da, dy, ki, am, fi⟩)]) ∧ Below w.heap.size w w' := by
  by_cases h : isCard ⟨st, da, dy, ki, am, fi⟩ = true
  · rw [saysE, checkE, if_pos h, if_pos h]; exact c43 ⟨st, da, dy, ki, am, fi⟩ w h
  · rw [saysE, checkE, if_neg h, if_neg h]; exact c43_no ⟨st, da, dy, ki, am, fi⟩ w (by simpa using h)
def clashB (a b : Card) : Bool := isCard a && isCard b && (sameOf a b && !some2 a b)
theorem c47_any (a b : Card) (w : World) : Calls Tryz.prog 47 #[cv a, cv b] w fun e w' => e = .returned (.tuple #[.bool (clashB a b), .int .i64 (pairE a b)]) ∧ Below w.heap.size w w' := by
  cases h : (isCard a && isCard b) with
  | true => rw [clashB, pairE, h, if_pos rfl, Bool.true_and]; exact c47 a b w (by simp_all) (by simp_all)
  | false => rw [clashB, pairE, h, if_neg Bool.false_ne_true, Bool.false_and]; exact c47_no a b w h

def followsB (a b : Card) : Bool := decide (a.st = b.st) && decide (b.da = a.da + b.dy)
set_option maxHeartbeats 1000000 in
theorem c98 (a b : Card) (w : World) (ha : 0 ≤ a.da) (ha' : a.da ≤ 60000) (hb : 0 ≤ b.dy) (hb' : b.dy ≤ 100) : Calls Tryz.prog 98 #[cv a, cv b] w fun e w' => e = .returned (.bool (followsB a b)) ∧ Below w.heap.size w w' := by
  rw [followsB]
  obtain ⟨a1, a2, a3, a4, a5, a6⟩ := a
  obtain ⟨b1, b2, b3, b4, b5, b6⟩ := b
  unfold cv
  simp only at *
  by_cases h1 : a1 = b1
  · subst h1
    by_cases h2 : b2 = a2 + b3
    · subst h2
      go_enter Tryz.func98, Tryz.ntmps98
      go_wp2_with fail
      go_ret
      exact ⟨ret_bool (by simp), xa (xa (xr _) _) _⟩
    · go_enter Tryz.func98, Tryz.ntmps98
      go_wp2_with fail
      go_ret
      exact ⟨ret_bool (by simp [h2]), xa (xa (xr _) _) _⟩
  · go_enter Tryz.func98, Tryz.ntmps98
    go_wp2_with fail
    go_ret
    exact ⟨ret_bool (by simp [h1]), xa (xa (xr _) _) _⟩
set_option maxHeartbeats 1000000 in
theorem c49 (a b : Card) (w : World) : Calls Tryz.prog 49 #[cv a, cv b] w fun e w' => e = .returned (.tuple #[.bool (isCard a && isCard b && followsB a b), .int .i64 (pairE a b)]) ∧ Below w.heap.size w w' := by
  have he := eachErr_pair a b
  by_cases hh : isCard a = true ∧ isCard b = true
  · obtain ⟨ha, hb⟩ := hh
    rw [show pairE a b = 0 by rw [pairE, ha, hb]; rfl] at *
    have H98 : ∀ W, Hid (Calls Tryz.prog 98 #[cv a, cv b] W fun e w' => e = .returned (.bool (followsB a b)) ∧ Below W.heap.size W w') := fun W => Lib.hid (by
      obtain ⟨p1, p2, p3, p4, p5, p6, -⟩ := isCard_true ha
      obtain ⟨q1, q2, q3, q4, q5, q6, -⟩ := isCard_true hb
      exact c98 a b W (by omega) (by omega) (by omega) (by omega))
    rw [ha, hb]
    have He := Lib.hid he
    clear ha hb he
    unfold cv at *
    go_enter Tryz.func49, Tryz.ntmps49
    go_wp2_with (first
      | (go_at_call 93; refine (c93_two a b _ _ _ (by simp)).mono ?_; rintro e w1 ⟨rfl, x1, rfl⟩; rw [He.out])
      | (go_at_call 98; refine (H98 _).out.mono ?_; rintro e w2 ⟨rfl, hb2⟩; obtain ⟨x2, rfl⟩ := gw_step hb2; clear hb2))
    exact bodyPost_ret (v := .tuple #[.bool (followsB a b), .int .i64 0]) (by simp [results, Tryz.results49, go_sem]) rfl ⟨rfl, by repeat (first | exact xr _ | apply xa | apply xg)⟩
  · have hq : (isCard a && isCard b) = false := by
      cases h1 : isCard a <;> cases h2 : isCard b <;> simp_all
    rw [show pairE a b = 1 by rw [pairE, hq]; rfl] at *
    rw [hq]
    have He := Lib.hid he
    clear hq he hh
    unfold cv
    go_enter Tryz.func49, Tryz.ntmps49
    go_wp2_with (go_at_call 93; refine (c93_two a b _ _ _ (by simp)).mono ?_; rintro e w1 ⟨rfl, x1, rfl⟩; rw [He.out])
    exact bodyPost_ret (v := .tuple #[.bool false, .int .i64 1]) (by simp [results, Tryz.results49, go_sem]) rfl ⟨rfl, by repeat (first | exact xr _ | apply xa | apply xg)⟩
end Go.Proofs.YthifeoebefbalaaGreatDoor

namespace Go.Proofs.YthifeoebefbalaaGreatDoor
open Go.RowKit

theorem call_named {P : Program} {f : FuncId} {args : Array Value} {W : World} {Q : Ending → World → Prop} (F : World → Prop) (h : F W) (k : ∀ V, F V → Calls P f args V Q) : Calls P f args W Q := k W h
theorem keepB {W X : World} {b : Nat} {o : Obj} (hb : Below W.heap.size W X) (k : Hid (W.heap[b]? = some o)) : Hid (X.heap[b]? = some o) :=
  Lib.hid ((hb.block _ (Array.getElem?_eq_some_iff.1 k.out).1).trans k.out)
theorem keepA {W : World} {b : Nat} {o : Obj} (k : Hid (W.heap[b]? = some o)) (c : Obj) : Hid ((W.alloc c).heap[b]? = some o) :=
  Lib.hid (by rw [Below.heap_alloc _ _ _ (Array.getElem?_eq_some_iff.1 k.out).1]; exact k.out)
theorem newA (w : World) (o : Obj) (b : Nat) (h : w.heap.size = b) : Hid ((w.alloc o).heap[b]? = some o) := Lib.hid (new_block w o b h)
theorem box_two (w : World) (p q : Obj) : Below w.heap.size w ((w.alloc p).alloc q) ∧ Hid (((w.alloc p).alloc q).heap[w.heap.size]? = some p) ∧ Hid (((w.alloc p).alloc q).heap[w.heap.size + 1]? = some q) :=
  ⟨xa (xa (xr _) _) _, keepA (newA _ _ _ rfl) _, newA _ _ _ (by simp)⟩
theorem box_three (w : World) (p q r : Obj) : Below w.heap.size w (((w.alloc p).alloc q).alloc r) ∧ Hid ((((w.alloc p).alloc q).alloc r).heap[w.heap.size]? = some p) ∧ Hid ((((w.alloc p).alloc q).alloc r).heap[w.heap.size + 1]? = some q) ∧ Hid ((((w.alloc p).alloc q).alloc r).heap[w.heap.size + 1 + 1]? = some r) :=
  ⟨xa (xa (xa (xr _) _) _) _, keepA (keepA (newA _ _ _ rfl) _) _, keepA (newA _ _ _ (by simp)) _, newA _ _ _ (by simp)⟩
theorem span_at' {w : World} {b : Nat} {s : Sp} (h : w.heap[b]? = some (spanOf s)) : w.cell? ⟨b, 0, none⟩ = some (.int .i64 s.lo) ∧ w.cell? ⟨b, 1, none⟩ = some (.int .i64 s.hi) ∧ (∀ i, w.frozen? ⟨b, i, none⟩ = false) ∧ b < w.heap.size := by
  unfold spanOf at h
  exact ⟨by simp [World.cell?, h], by simp [World.cell?, h], fun i => by simp [World.frozen?, h], (Array.getElem?_eq_some_iff.1 h).1⟩
end Go.Proofs.YthifeoebefbalaaGreatDoor

namespace Go.Proofs.YthifeoebefbalaaGreatDoor
open Go.RowKit

set_option maxRecDepth 100000 in
set_option maxHeartbeats 8000000 in
theorem c14_e (a1 a2 a3 a4 a5 a6 b1 b2 b3 b4 b5 b6 x1 x2 x3 x4 x5 x6 y1 y2 y3 y4 y5 y6 m n e f : Int) (w : World) (he : e ≠ 0) (HE : Hid (Env w)) (HC : Hid (Cell0 w)) (HX : ∀ W, Hid (Calls Tryz.prog 36 #[.agg #[.int .i64 a1, .int .i64 a2, .int .i64 a3, .int .i64 a4, .int .i64 a5, .int .i64 a6], .int .i64 m] W fun r w' => r = .returned (.tuple #[.agg #[.int .i64 x1, .int .i64 x2, .int .i64 x3, .int .i64 x4, .int .i64 x5, .int .i64 x6], .int .i64 e]) ∧ Below W.heap.size W w')) (HY : ∀ W, Hid (Calls Tryz.prog 36 #[.agg #[.int .i64 b1, .int .i64 b2, .int .i64 b3, .int .i64 b4, .int .i64 b5, .int .i64 b6], .int .i64 m] W fun r w' => r = .returned (.tuple #[.agg #[.int .i64 y1, .int .i64 y2, .int .i64 y3, .int .i64 y4, .int .i64 y5, .int .i64 y6], .int .i64 f]) ∧ Below W.heap.size W w')) : Calls Tryz.prog 14 #[.agg #[.int .i64 a1, .int .i64 a2, .int .i64 a3, .int .i64 a4, .int .i64 a5, .int .i64 a6], .agg #[.int .i64 b1, .int .i64 b2, .int .i64 b3, .int .i64 b4, .int .i64 b5, .int .i64 b6], .int .i64 m, .int .i64 n] w fun r w' => r = .returned (.bool true) ∧ Below w.heap.size w w' := by
  go_enter Tryz.func14, Tryz.ntmps14
  go_wp2_with fail
  refine call_named (fun V => Below w.heap.size w V ∧ Hid (V.heap[w.heap.size]? = some (cellsOf ⟨a1, a2, a3, a4, a5, a6⟩)) ∧ Hid (V.heap[w.heap.size + 1]? = some (cellsOf ⟨b1, b2, b3, b4, b5, b6⟩))) (box_two _ _ _) ?_
  rintro X0 ⟨hB, K0, K1⟩
  refine ((HX _).out).mono ?_
  rintro r X1 ⟨rfl, hb⟩
  replace K0 := keepB hb K0
  replace K1 := keepB hb K1
  replace hB := hB.trans (hb.mono hB.size)
  clear hb
  obtain ⟨B2, hB2⟩ : ∃ b, X1.heap.size = b := ⟨_, rfl⟩
  obtain ⟨t0_0, t0_1, t0_2, t0_3, t0_4, t0_5, t0_6, t0_7⟩ := cellsOf_at K0.out
  obtain ⟨t1_0, t1_1, t1_2, t1_3, t1_4, t1_5, t1_6, t1_7⟩ := cellsOf_at K1.out
  rw [hB2] at t0_7 t1_7
  go_wp2_with fail
  try clear t0_0 t0_1 t0_2 t0_3 t0_4 t0_5 t0_6 t0_7 t1_0 t1_1 t1_2 t1_3 t1_4 t1_5 t1_6 t1_7
  try rw [hB2]
  refine call_named (fun V => Below w.heap.size w V ∧ Hid (V.heap[w.heap.size]? = some (cellsOf ⟨a1, a2, a3, a4, a5, a6⟩)) ∧ Hid (V.heap[w.heap.size + 1]? = some (cellsOf ⟨b1, b2, b3, b4, b5, b6⟩)) ∧ Hid (V.heap[B2]? = some (cellsOf ⟨x1, x2, x3, x4, x5, x6⟩))) ⟨xa hB _, keepA K0 _, keepA K1 _, newA _ _ _ hB2⟩ ?_
  clear hB K0 K1 hB2
  rintro V2 ⟨hB, K0, K1, K2⟩
  refine ((HY _).out).mono ?_
  rintro r X3 ⟨rfl, hb⟩
  replace K0 := keepB hb K0
  replace K1 := keepB hb K1
  replace K2 := keepB hb K2
  replace hB := hB.trans (hb.mono hB.size)
  clear hb
  obtain ⟨B4, hB4⟩ : ∃ b, X3.heap.size = b := ⟨_, rfl⟩
  obtain ⟨t0_0, t0_1, t0_2, t0_3, t0_4, t0_5, t0_6, t0_7⟩ := cellsOf_at K0.out
  obtain ⟨t1_0, t1_1, t1_2, t1_3, t1_4, t1_5, t1_6, t1_7⟩ := cellsOf_at K1.out
  obtain ⟨t2_0, t2_1, t2_2, t2_3, t2_4, t2_5, t2_6, t2_7⟩ := cellsOf_at K2.out
  rw [hB4] at t0_7 t1_7 t2_7
  go_wp2_with fail
  try clear t0_0 t0_1 t0_2 t0_3 t0_4 t0_5 t0_6 t0_7 t1_0 t1_1 t1_2 t1_3 t1_4 t1_5 t1_6 t1_7 t2_0 t2_1 t2_2 t2_3 t2_4 t2_5 t2_6 t2_7
  try rw [hB4]
  refine call_named (fun V => Below w.heap.size w V ∧ Hid (V.heap[w.heap.size]? = some (cellsOf ⟨a1, a2, a3, a4, a5, a6⟩)) ∧ Hid (V.heap[w.heap.size + 1]? = some (cellsOf ⟨b1, b2, b3, b4, b5, b6⟩)) ∧ Hid (V.heap[B2]? = some (cellsOf ⟨x1, x2, x3, x4, x5, x6⟩)) ∧ Hid (V.heap[B4]? = some (cellsOf ⟨y1, y2, y3, y4, y5, y6⟩))) ⟨xa hB _, keepA K0 _, keepA K1 _, keepA K2 _, newA _ _ _ hB4⟩ ?_
  clear hB K0 K1 K2 hB4
  rintro V4 ⟨hB, K0, K1, K2, K4⟩
  refine (c22 V4 (HE.out.below hB) (HC.out.below hB HC.out.lt)).mono ?_
  rintro r X5 ⟨rfl, hb⟩
  replace K0 := keepB hb K0
  replace K1 := keepB hb K1
  replace K2 := keepB hb K2
  replace K4 := keepB hb K4
  replace hB := hB.trans (hb.mono hB.size)
  clear hb
  obtain ⟨t0_0, t0_1, t0_2, t0_3, t0_4, t0_5, t0_6, t0_7⟩ := cellsOf_at K0.out
  obtain ⟨t1_0, t1_1, t1_2, t1_3, t1_4, t1_5, t1_6, t1_7⟩ := cellsOf_at K1.out
  obtain ⟨t2_0, t2_1, t2_2, t2_3, t2_4, t2_5, t2_6, t2_7⟩ := cellsOf_at K2.out
  obtain ⟨t4_0, t4_1, t4_2, t4_3, t4_4, t4_5, t4_6, t4_7⟩ := cellsOf_at K4.out
  go_wp2_with fail
  go_ret
  exact ⟨rfl, hB⟩
set_option maxRecDepth 100000 in
set_option maxHeartbeats 8000000 in
theorem c14_n (a1 a2 a3 a4 a5 a6 b1 b2 b3 b4 b5 b6 x1 x2 x3 x4 x5 x6 y1 y2 y3 y4 y5 y6 z1 z2 z3 z4 z5 z6 lo hi m n i f : Int) (p q u : Bool) (w : World) (hi0 : i ≠ 0) (HE : Hid (Env w)) (HC : Hid (Cell0 w)) (HX : ∀ W, Hid (Calls Tryz.prog 36 #[.agg #[.int .i64 a1, .int .i64 a2, .int .i64 a3, .int .i64 a4, .int .i64 a5, .int .i64 a6], .int .i64 m] W fun r w' => r = .returned (.tuple #[.agg #[.int .i64 x1, .int .i64 x2, .int .i64 x3, .int .i64 x4, .int .i64 x5, .int .i64 x6], .int .i64 0]) ∧ Below W.heap.size W w')) (HY : ∀ W, Hid (Calls Tryz.prog 36 #[.agg #[.int .i64 b1, .int .i64 b2, .int .i64 b3, .int .i64 b4, .int .i64 b5, .int .i64 b6], .int .i64 m] W fun r w' => r = .returned (.tuple #[.agg #[.int .i64 y1, .int .i64 y2, .int .i64 y3, .int .i64 y4, .int .i64 y5, .int .i64 y6], .int .i64 0]) ∧ Below W.heap.size W w')) (HS : ∀ W, Hid (Calls Tryz.prog 43 #[.agg #[.int .i64 a1, .int .i64 a2, .int .i64 a3, .int .i64 a4, .int .i64 a5, .int .i64 a6]] W fun r w' => r = .returned (.tuple #[.agg #[.int .i64 lo, .int .i64 hi], .int .i64 0]) ∧ Below W.heap.size W w')) (HT : ∀ W, Hid (Calls Tryz.prog 43 #[.agg #[.int .i64 x1, .int .i64 x2, .int .i64 x3, .int .i64 x4, .int .i64 x5, .int .i64 x6]] W fun r w' => r = .returned (.tuple #[.agg #[.int .i64 lo, .int .i64 hi], .int .i64 0]) ∧ Below W.heap.size W w')) (HZ : ∀ W, Hid (Calls Tryz.prog 36 #[.agg #[.int .i64 x1, .int .i64 x2, .int .i64 x3, .int .i64 x4, .int .i64 x5, .int .i64 x6], .int .i64 n] W fun r w' => r = .returned (.tuple #[.agg #[.int .i64 z1, .int .i64 z2, .int .i64 z3, .int .i64 z4, .int .i64 z5, .int .i64 z6], .int .i64 i]) ∧ Below W.heap.size W w')) (HP : ∀ W, Hid (Calls Tryz.prog 45 #[.agg #[.int .i64 a1, .int .i64 a2, .int .i64 a3, .int .i64 a4, .int .i64 a5, .int .i64 a6], .agg #[.int .i64 b1, .int .i64 b2, .int .i64 b3, .int .i64 b4, .int .i64 b5, .int .i64 b6]] W fun r w' => r = .returned (.tuple #[.bool p, .int .i64 0]) ∧ Below W.heap.size W w')) (HQ : ∀ W, Hid (Calls Tryz.prog 45 #[.agg #[.int .i64 x1, .int .i64 x2, .int .i64 x3, .int .i64 x4, .int .i64 x5, .int .i64 x6], .agg #[.int .i64 y1, .int .i64 y2, .int .i64 y3, .int .i64 y4, .int .i64 y5, .int .i64 y6]] W fun r w' => r = .returned (.tuple #[.bool p, .int .i64 0]) ∧ Below W.heap.size W w')) (HU : ∀ W, Hid (Calls Tryz.prog 47 #[.agg #[.int .i64 a1, .int .i64 a2, .int .i64 a3, .int .i64 a4, .int .i64 a5, .int .i64 a6], .agg #[.int .i64 b1, .int .i64 b2, .int .i64 b3, .int .i64 b4, .int .i64 b5, .int .i64 b6]] W fun r w' => r = .returned (.tuple #[.bool u, .int .i64 0]) ∧ Below W.heap.size W w')) (HV : ∀ W, Hid (Calls Tryz.prog 47 #[.agg #[.int .i64 x1, .int .i64 x2, .int .i64 x3, .int .i64 x4, .int .i64 x5, .int .i64 x6], .agg #[.int .i64 y1, .int .i64 y2, .int .i64 y3, .int .i64 y4, .int .i64 y5, .int .i64 y6]] W fun r w' => r = .returned (.tuple #[.bool u, .int .i64 0]) ∧ Below W.heap.size W w')) (HF : ∀ W, Hid (Calls Tryz.prog 49 #[.agg #[.int .i64 a1, .int .i64 a2, .int .i64 a3, .int .i64 a4, .int .i64 a5, .int .i64 a6], .agg #[.int .i64 b1, .int .i64 b2, .int .i64 b3, .int .i64 b4, .int .i64 b5, .int .i64 b6]] W fun r w' => r = .returned (.tuple #[.bool q, .int .i64 0]) ∧ Below W.heap.size W w')) (HG : ∀ W, Hid (Calls Tryz.prog 49 #[.agg #[.int .i64 x1, .int .i64 x2, .int .i64 x3, .int .i64 x4, .int .i64 x5, .int .i64 x6], .agg #[.int .i64 y1, .int .i64 y2, .int .i64 y3, .int .i64 y4, .int .i64 y5, .int .i64 y6]] W fun r w' => r = .returned (.tuple #[.bool q, .int .i64 0]) ∧ Below W.heap.size W w')) : Calls Tryz.prog 14 #[.agg #[.int .i64 a1, .int .i64 a2, .int .i64 a3, .int .i64 a4, .int .i64 a5, .int .i64 a6], .agg #[.int .i64 b1, .int .i64 b2, .int .i64 b3, .int .i64 b4, .int .i64 b5, .int .i64 b6], .int .i64 m, .int .i64 n] w fun r w' => r = .returned (.bool true) ∧ Below w.heap.size w w' := by
  go_enter Tryz.func14, Tryz.ntmps14
  go_wp2_with fail
  refine call_named (fun V => Below w.heap.size w V ∧ Hid (V.heap[w.heap.size]? = some (cellsOf ⟨a1, a2, a3, a4, a5, a6⟩)) ∧ Hid (V.heap[w.heap.size + 1]? = some (cellsOf ⟨b1, b2, b3, b4, b5, b6⟩))) (box_two _ _ _) ?_
  rintro X0 ⟨hB, K0, K1⟩
  refine ((HX _).out).mono ?_
  rintro r X1 ⟨rfl, hb⟩
  replace K0 := keepB hb K0
  replace K1 := keepB hb K1
  replace hB := hB.trans (hb.mono hB.size)
  clear hb
  obtain ⟨B2, hB2⟩ : ∃ b, X1.heap.size = b := ⟨_, rfl⟩
  obtain ⟨t0_0, t0_1, t0_2, t0_3, t0_4, t0_5, t0_6, t0_7⟩ := cellsOf_at K0.out
  obtain ⟨t1_0, t1_1, t1_2, t1_3, t1_4, t1_5, t1_6, t1_7⟩ := cellsOf_at K1.out
  rw [hB2] at t0_7 t1_7
  go_wp2_with fail
  try clear t0_0 t0_1 t0_2 t0_3 t0_4 t0_5 t0_6 t0_7 t1_0 t1_1 t1_2 t1_3 t1_4 t1_5 t1_6 t1_7
  try rw [hB2]
  refine call_named (fun V => Below w.heap.size w V ∧ Hid (V.heap[w.heap.size]? = some (cellsOf ⟨a1, a2, a3, a4, a5, a6⟩)) ∧ Hid (V.heap[w.heap.size + 1]? = some (cellsOf ⟨b1, b2, b3, b4, b5, b6⟩)) ∧ Hid (V.heap[B2]? = some (cellsOf ⟨x1, x2, x3, x4, x5, x6⟩))) ⟨xa hB _, keepA K0 _, keepA K1 _, newA _ _ _ hB2⟩ ?_
  clear hB K0 K1 hB2
  rintro V2 ⟨hB, K0, K1, K2⟩
  refine ((HY _).out).mono ?_
  rintro r X3 ⟨rfl, hb⟩
  replace K0 := keepB hb K0
  replace K1 := keepB hb K1
  replace K2 := keepB hb K2
  replace hB := hB.trans (hb.mono hB.size)
  clear hb
  obtain ⟨B4, hB4⟩ : ∃ b, X3.heap.size = b := ⟨_, rfl⟩
  obtain ⟨t0_0, t0_1, t0_2, t0_3, t0_4, t0_5, t0_6, t0_7⟩ := cellsOf_at K0.out
  obtain ⟨t1_0, t1_1, t1_2, t1_3, t1_4, t1_5, t1_6, t1_7⟩ := cellsOf_at K1.out
  obtain ⟨t2_0, t2_1, t2_2, t2_3, t2_4, t2_5, t2_6, t2_7⟩ := cellsOf_at K2.out
  rw [hB4] at t0_7 t1_7 t2_7
  go_wp2_with fail
  try clear t0_0 t0_1 t0_2 t0_3 t0_4 t0_5 t0_6 t0_7 t1_0 t1_1 t1_2 t1_3 t1_4 t1_5 t1_6 t1_7 t2_0 t2_1 t2_2 t2_3 t2_4 t2_5 t2_6 t2_7
  try rw [hB4]
  refine call_named (fun V => Below w.heap.size w V ∧ Hid (V.heap[w.heap.size]? = some (cellsOf ⟨a1, a2, a3, a4, a5, a6⟩)) ∧ Hid (V.heap[w.heap.size + 1]? = some (cellsOf ⟨b1, b2, b3, b4, b5, b6⟩)) ∧ Hid (V.heap[B2]? = some (cellsOf ⟨x1, x2, x3, x4, x5, x6⟩)) ∧ Hid (V.heap[B4]? = some (cellsOf ⟨y1, y2, y3, y4, y5, y6⟩))) ⟨xa hB _, keepA K0 _, keepA K1 _, keepA K2 _, newA _ _ _ hB4⟩ ?_
  clear hB K0 K1 K2 hB4
  rintro V4 ⟨hB, K0, K1, K2, K4⟩
  refine ((HS _).out).mono ?_
  rintro r X5 ⟨rfl, hb⟩
  replace K0 := keepB hb K0
  replace K1 := keepB hb K1
  replace K2 := keepB hb K2
  replace K4 := keepB hb K4
  replace hB := hB.trans (hb.mono hB.size)
  clear hb
  obtain ⟨B6, hB6⟩ : ∃ b, X5.heap.size = b := ⟨_, rfl⟩
  obtain ⟨t0_0, t0_1, t0_2, t0_3, t0_4, t0_5, t0_6, t0_7⟩ := cellsOf_at K0.out
  obtain ⟨t1_0, t1_1, t1_2, t1_3, t1_4, t1_5, t1_6, t1_7⟩ := cellsOf_at K1.out
  obtain ⟨t2_0, t2_1, t2_2, t2_3, t2_4, t2_5, t2_6, t2_7⟩ := cellsOf_at K2.out
  obtain ⟨t4_0, t4_1, t4_2, t4_3, t4_4, t4_5, t4_6, t4_7⟩ := cellsOf_at K4.out
  rw [hB6] at t0_7 t1_7 t2_7 t4_7
  go_wp2_with fail
  try clear t0_0 t0_1 t0_2 t0_3 t0_4 t0_5 t0_6 t0_7 t1_0 t1_1 t1_2 t1_3 t1_4 t1_5 t1_6 t1_7 t2_0 t2_1 t2_2 t2_3 t2_4 t2_5 t2_6 t2_7 t4_0 t4_1 t4_2 t4_3 t4_4 t4_5 t4_6 t4_7
  try rw [hB6]
  refine call_named (fun V => Below w.heap.size w V ∧ Hid (V.heap[w.heap.size]? = some (cellsOf ⟨a1, a2, a3, a4, a5, a6⟩)) ∧ Hid (V.heap[w.heap.size + 1]? = some (cellsOf ⟨b1, b2, b3, b4, b5, b6⟩)) ∧ Hid (V.heap[B2]? = some (cellsOf ⟨x1, x2, x3, x4, x5, x6⟩)) ∧ Hid (V.heap[B4]? = some (cellsOf ⟨y1, y2, y3, y4, y5, y6⟩)) ∧ Hid (V.heap[B6]? = some (spanOf ⟨lo, hi⟩))) ⟨xa hB _, keepA K0 _, keepA K1 _, keepA K2 _, keepA K4 _, newA _ _ _ hB6⟩ ?_
  clear hB K0 K1 K2 K4 hB6
  rintro V6 ⟨hB, K0, K1, K2, K4, K6⟩
  refine ((HT _).out).mono ?_
  rintro r X7 ⟨rfl, hb⟩
  replace K0 := keepB hb K0
  replace K1 := keepB hb K1
  replace K2 := keepB hb K2
  replace K4 := keepB hb K4
  replace K6 := keepB hb K6
  replace hB := hB.trans (hb.mono hB.size)
  clear hb
  obtain ⟨B8, hB8⟩ : ∃ b, X7.heap.size = b := ⟨_, rfl⟩
  obtain ⟨t0_0, t0_1, t0_2, t0_3, t0_4, t0_5, t0_6, t0_7⟩ := cellsOf_at K0.out
  obtain ⟨t1_0, t1_1, t1_2, t1_3, t1_4, t1_5, t1_6, t1_7⟩ := cellsOf_at K1.out
  obtain ⟨t2_0, t2_1, t2_2, t2_3, t2_4, t2_5, t2_6, t2_7⟩ := cellsOf_at K2.out
  obtain ⟨t4_0, t4_1, t4_2, t4_3, t4_4, t4_5, t4_6, t4_7⟩ := cellsOf_at K4.out
  obtain ⟨t6_0, t6_1, t6_2, t6_3⟩ := span_at' K6.out
  rw [hB8] at t0_7 t1_7 t2_7 t4_7 t6_3
  go_wp2_with fail
  try clear t0_0 t0_1 t0_2 t0_3 t0_4 t0_5 t0_6 t0_7 t1_0 t1_1 t1_2 t1_3 t1_4 t1_5 t1_6 t1_7 t2_0 t2_1 t2_2 t2_3 t2_4 t2_5 t2_6 t2_7 t4_0 t4_1 t4_2 t4_3 t4_4 t4_5 t4_6 t4_7 t6_0 t6_1 t6_2 t6_3
  try rw [hB8]
  refine call_named (fun V => Below w.heap.size w V ∧ Hid (V.heap[w.heap.size]? = some (cellsOf ⟨a1, a2, a3, a4, a5, a6⟩)) ∧ Hid (V.heap[w.heap.size + 1]? = some (cellsOf ⟨b1, b2, b3, b4, b5, b6⟩)) ∧ Hid (V.heap[B2]? = some (cellsOf ⟨x1, x2, x3, x4, x5, x6⟩)) ∧ Hid (V.heap[B4]? = some (cellsOf ⟨y1, y2, y3, y4, y5, y6⟩)) ∧ Hid (V.heap[B6]? = some (spanOf ⟨lo, hi⟩)) ∧ Hid (V.heap[B8]? = some (spanOf ⟨lo, hi⟩))) ⟨xa hB _, keepA K0 _, keepA K1 _, keepA K2 _, keepA K4 _, keepA K6 _, newA _ _ _ hB8⟩ ?_
  clear hB K0 K1 K2 K4 K6 hB8
  rintro V8 ⟨hB, K0, K1, K2, K4, K6, K8⟩
  refine ((HZ _).out).mono ?_
  rintro r X9 ⟨rfl, hb⟩
  replace K0 := keepB hb K0
  replace K1 := keepB hb K1
  replace K2 := keepB hb K2
  replace K4 := keepB hb K4
  replace K6 := keepB hb K6
  replace K8 := keepB hb K8
  replace hB := hB.trans (hb.mono hB.size)
  clear hb
  obtain ⟨B10, hB10⟩ : ∃ b, X9.heap.size = b := ⟨_, rfl⟩
  obtain ⟨t0_0, t0_1, t0_2, t0_3, t0_4, t0_5, t0_6, t0_7⟩ := cellsOf_at K0.out
  obtain ⟨t1_0, t1_1, t1_2, t1_3, t1_4, t1_5, t1_6, t1_7⟩ := cellsOf_at K1.out
  obtain ⟨t2_0, t2_1, t2_2, t2_3, t2_4, t2_5, t2_6, t2_7⟩ := cellsOf_at K2.out
  obtain ⟨t4_0, t4_1, t4_2, t4_3, t4_4, t4_5, t4_6, t4_7⟩ := cellsOf_at K4.out
  obtain ⟨t6_0, t6_1, t6_2, t6_3⟩ := span_at' K6.out
  obtain ⟨t8_0, t8_1, t8_2, t8_3⟩ := span_at' K8.out
  rw [hB10] at t0_7 t1_7 t2_7 t4_7 t6_3 t8_3
  go_wp2_with fail
  try clear t0_0 t0_1 t0_2 t0_3 t0_4 t0_5 t0_6 t0_7 t1_0 t1_1 t1_2 t1_3 t1_4 t1_5 t1_6 t1_7 t2_0 t2_1 t2_2 t2_3 t2_4 t2_5 t2_6 t2_7 t4_0 t4_1 t4_2 t4_3 t4_4 t4_5 t4_6 t4_7 t6_0 t6_1 t6_2 t6_3 t8_0 t8_1 t8_2 t8_3
  try rw [hB10]
  refine call_named (fun V => Below w.heap.size w V ∧ Hid (V.heap[w.heap.size]? = some (cellsOf ⟨a1, a2, a3, a4, a5, a6⟩)) ∧ Hid (V.heap[w.heap.size + 1]? = some (cellsOf ⟨b1, b2, b3, b4, b5, b6⟩)) ∧ Hid (V.heap[B2]? = some (cellsOf ⟨x1, x2, x3, x4, x5, x6⟩)) ∧ Hid (V.heap[B4]? = some (cellsOf ⟨y1, y2, y3, y4, y5, y6⟩)) ∧ Hid (V.heap[B6]? = some (spanOf ⟨lo, hi⟩)) ∧ Hid (V.heap[B8]? = some (spanOf ⟨lo, hi⟩)) ∧ Hid (V.heap[B10]? = some (cellsOf ⟨z1, z2, z3, z4, z5, z6⟩))) ⟨xa hB _, keepA K0 _, keepA K1 _, keepA K2 _, keepA K4 _, keepA K6 _, keepA K8 _, newA _ _ _ hB10⟩ ?_
  clear hB K0 K1 K2 K4 K6 K8 hB10
  rintro V10 ⟨hB, K0, K1, K2, K4, K6, K8, K10⟩
  refine ((HP _).out).mono ?_
  rintro r X11 ⟨rfl, hb⟩
  replace K0 := keepB hb K0
  replace K1 := keepB hb K1
  replace K2 := keepB hb K2
  replace K4 := keepB hb K4
  replace K6 := keepB hb K6
  replace K8 := keepB hb K8
  replace K10 := keepB hb K10
  replace hB := hB.trans (hb.mono hB.size)
  clear hb
  obtain ⟨t0_0, t0_1, t0_2, t0_3, t0_4, t0_5, t0_6, t0_7⟩ := cellsOf_at K0.out
  obtain ⟨t1_0, t1_1, t1_2, t1_3, t1_4, t1_5, t1_6, t1_7⟩ := cellsOf_at K1.out
  obtain ⟨t2_0, t2_1, t2_2, t2_3, t2_4, t2_5, t2_6, t2_7⟩ := cellsOf_at K2.out
  obtain ⟨t4_0, t4_1, t4_2, t4_3, t4_4, t4_5, t4_6, t4_7⟩ := cellsOf_at K4.out
  obtain ⟨t6_0, t6_1, t6_2, t6_3⟩ := span_at' K6.out
  obtain ⟨t8_0, t8_1, t8_2, t8_3⟩ := span_at' K8.out
  obtain ⟨t10_0, t10_1, t10_2, t10_3, t10_4, t10_5, t10_6, t10_7⟩ := cellsOf_at K10.out
  go_wp2_with fail
  try clear t0_0 t0_1 t0_2 t0_3 t0_4 t0_5 t0_6 t0_7 t1_0 t1_1 t1_2 t1_3 t1_4 t1_5 t1_6 t1_7 t2_0 t2_1 t2_2 t2_3 t2_4 t2_5 t2_6 t2_7 t4_0 t4_1 t4_2 t4_3 t4_4 t4_5 t4_6 t4_7 t6_0 t6_1 t6_2 t6_3 t8_0 t8_1 t8_2 t8_3 t10_0 t10_1 t10_2 t10_3 t10_4 t10_5 t10_6 t10_7
  refine ((HQ _).out).mono ?_
  rintro r X12 ⟨rfl, hb⟩
  replace K0 := keepB hb K0
  replace K1 := keepB hb K1
  replace K2 := keepB hb K2
  replace K4 := keepB hb K4
  replace K6 := keepB hb K6
  replace K8 := keepB hb K8
  replace K10 := keepB hb K10
  replace hB := hB.trans (hb.mono hB.size)
  clear hb
  obtain ⟨t0_0, t0_1, t0_2, t0_3, t0_4, t0_5, t0_6, t0_7⟩ := cellsOf_at K0.out
  obtain ⟨t1_0, t1_1, t1_2, t1_3, t1_4, t1_5, t1_6, t1_7⟩ := cellsOf_at K1.out
  obtain ⟨t2_0, t2_1, t2_2, t2_3, t2_4, t2_5, t2_6, t2_7⟩ := cellsOf_at K2.out
  obtain ⟨t4_0, t4_1, t4_2, t4_3, t4_4, t4_5, t4_6, t4_7⟩ := cellsOf_at K4.out
  obtain ⟨t6_0, t6_1, t6_2, t6_3⟩ := span_at' K6.out
  obtain ⟨t8_0, t8_1, t8_2, t8_3⟩ := span_at' K8.out
  obtain ⟨t10_0, t10_1, t10_2, t10_3, t10_4, t10_5, t10_6, t10_7⟩ := cellsOf_at K10.out
  go_wp2_with fail
  try clear t0_0 t0_1 t0_2 t0_3 t0_4 t0_5 t0_6 t0_7 t1_0 t1_1 t1_2 t1_3 t1_4 t1_5 t1_6 t1_7 t2_0 t2_1 t2_2 t2_3 t2_4 t2_5 t2_6 t2_7 t4_0 t4_1 t4_2 t4_3 t4_4 t4_5 t4_6 t4_7 t6_0 t6_1 t6_2 t6_3 t8_0 t8_1 t8_2 t8_3 t10_0 t10_1 t10_2 t10_3 t10_4 t10_5 t10_6 t10_7
  refine ((HU _).out).mono ?_
  rintro r X13 ⟨rfl, hb⟩
  replace K0 := keepB hb K0
  replace K1 := keepB hb K1
  replace K2 := keepB hb K2
  replace K4 := keepB hb K4
  replace K6 := keepB hb K6
  replace K8 := keepB hb K8
  replace K10 := keepB hb K10
  replace hB := hB.trans (hb.mono hB.size)
  clear hb
  obtain ⟨t0_0, t0_1, t0_2, t0_3, t0_4, t0_5, t0_6, t0_7⟩ := cellsOf_at K0.out
  obtain ⟨t1_0, t1_1, t1_2, t1_3, t1_4, t1_5, t1_6, t1_7⟩ := cellsOf_at K1.out
  obtain ⟨t2_0, t2_1, t2_2, t2_3, t2_4, t2_5, t2_6, t2_7⟩ := cellsOf_at K2.out
  obtain ⟨t4_0, t4_1, t4_2, t4_3, t4_4, t4_5, t4_6, t4_7⟩ := cellsOf_at K4.out
  obtain ⟨t6_0, t6_1, t6_2, t6_3⟩ := span_at' K6.out
  obtain ⟨t8_0, t8_1, t8_2, t8_3⟩ := span_at' K8.out
  obtain ⟨t10_0, t10_1, t10_2, t10_3, t10_4, t10_5, t10_6, t10_7⟩ := cellsOf_at K10.out
  go_wp2_with fail
  try clear t0_0 t0_1 t0_2 t0_3 t0_4 t0_5 t0_6 t0_7 t1_0 t1_1 t1_2 t1_3 t1_4 t1_5 t1_6 t1_7 t2_0 t2_1 t2_2 t2_3 t2_4 t2_5 t2_6 t2_7 t4_0 t4_1 t4_2 t4_3 t4_4 t4_5 t4_6 t4_7 t6_0 t6_1 t6_2 t6_3 t8_0 t8_1 t8_2 t8_3 t10_0 t10_1 t10_2 t10_3 t10_4 t10_5 t10_6 t10_7
  refine ((HV _).out).mono ?_
  rintro r X14 ⟨rfl, hb⟩
  replace K0 := keepB hb K0
  replace K1 := keepB hb K1
  replace K2 := keepB hb K2
  replace K4 := keepB hb K4
  replace K6 := keepB hb K6
  replace K8 := keepB hb K8
  replace K10 := keepB hb K10
  replace hB := hB.trans (hb.mono hB.size)
  clear hb
  obtain ⟨t0_0, t0_1, t0_2, t0_3, t0_4, t0_5, t0_6, t0_7⟩ := cellsOf_at K0.out
  obtain ⟨t1_0, t1_1, t1_2, t1_3, t1_4, t1_5, t1_6, t1_7⟩ := cellsOf_at K1.out
  obtain ⟨t2_0, t2_1, t2_2, t2_3, t2_4, t2_5, t2_6, t2_7⟩ := cellsOf_at K2.out
  obtain ⟨t4_0, t4_1, t4_2, t4_3, t4_4, t4_5, t4_6, t4_7⟩ := cellsOf_at K4.out
  obtain ⟨t6_0, t6_1, t6_2, t6_3⟩ := span_at' K6.out
  obtain ⟨t8_0, t8_1, t8_2, t8_3⟩ := span_at' K8.out
  obtain ⟨t10_0, t10_1, t10_2, t10_3, t10_4, t10_5, t10_6, t10_7⟩ := cellsOf_at K10.out
  go_wp2_with fail
  try clear t0_0 t0_1 t0_2 t0_3 t0_4 t0_5 t0_6 t0_7 t1_0 t1_1 t1_2 t1_3 t1_4 t1_5 t1_6 t1_7 t2_0 t2_1 t2_2 t2_3 t2_4 t2_5 t2_6 t2_7 t4_0 t4_1 t4_2 t4_3 t4_4 t4_5 t4_6 t4_7 t6_0 t6_1 t6_2 t6_3 t8_0 t8_1 t8_2 t8_3 t10_0 t10_1 t10_2 t10_3 t10_4 t10_5 t10_6 t10_7
  refine ((HF _).out).mono ?_
  rintro r X15 ⟨rfl, hb⟩
  replace K0 := keepB hb K0
  replace K1 := keepB hb K1
  replace K2 := keepB hb K2
  replace K4 := keepB hb K4
  replace K6 := keepB hb K6
  replace K8 := keepB hb K8
  replace K10 := keepB hb K10
  replace hB := hB.trans (hb.mono hB.size)
  clear hb
  obtain ⟨t0_0, t0_1, t0_2, t0_3, t0_4, t0_5, t0_6, t0_7⟩ := cellsOf_at K0.out
  obtain ⟨t1_0, t1_1, t1_2, t1_3, t1_4, t1_5, t1_6, t1_7⟩ := cellsOf_at K1.out
  obtain ⟨t2_0, t2_1, t2_2, t2_3, t2_4, t2_5, t2_6, t2_7⟩ := cellsOf_at K2.out
  obtain ⟨t4_0, t4_1, t4_2, t4_3, t4_4, t4_5, t4_6, t4_7⟩ := cellsOf_at K4.out
  obtain ⟨t6_0, t6_1, t6_2, t6_3⟩ := span_at' K6.out
  obtain ⟨t8_0, t8_1, t8_2, t8_3⟩ := span_at' K8.out
  obtain ⟨t10_0, t10_1, t10_2, t10_3, t10_4, t10_5, t10_6, t10_7⟩ := cellsOf_at K10.out
  go_wp2_with fail
  try clear t0_0 t0_1 t0_2 t0_3 t0_4 t0_5 t0_6 t0_7 t1_0 t1_1 t1_2 t1_3 t1_4 t1_5 t1_6 t1_7 t2_0 t2_1 t2_2 t2_3 t2_4 t2_5 t2_6 t2_7 t4_0 t4_1 t4_2 t4_3 t4_4 t4_5 t4_6 t4_7 t6_0 t6_1 t6_2 t6_3 t8_0 t8_1 t8_2 t8_3 t10_0 t10_1 t10_2 t10_3 t10_4 t10_5 t10_6 t10_7
  refine ((HG _).out).mono ?_
  rintro r X16 ⟨rfl, hb⟩
  replace K0 := keepB hb K0
  replace K1 := keepB hb K1
  replace K2 := keepB hb K2
  replace K4 := keepB hb K4
  replace K6 := keepB hb K6
  replace K8 := keepB hb K8
  replace K10 := keepB hb K10
  replace hB := hB.trans (hb.mono hB.size)
  clear hb
  obtain ⟨t0_0, t0_1, t0_2, t0_3, t0_4, t0_5, t0_6, t0_7⟩ := cellsOf_at K0.out
  obtain ⟨t1_0, t1_1, t1_2, t1_3, t1_4, t1_5, t1_6, t1_7⟩ := cellsOf_at K1.out
  obtain ⟨t2_0, t2_1, t2_2, t2_3, t2_4, t2_5, t2_6, t2_7⟩ := cellsOf_at K2.out
  obtain ⟨t4_0, t4_1, t4_2, t4_3, t4_4, t4_5, t4_6, t4_7⟩ := cellsOf_at K4.out
  obtain ⟨t6_0, t6_1, t6_2, t6_3⟩ := span_at' K6.out
  obtain ⟨t8_0, t8_1, t8_2, t8_3⟩ := span_at' K8.out
  obtain ⟨t10_0, t10_1, t10_2, t10_3, t10_4, t10_5, t10_6, t10_7⟩ := cellsOf_at K10.out
  go_wp2_with fail
  try clear t0_0 t0_1 t0_2 t0_3 t0_4 t0_5 t0_6 t0_7 t1_0 t1_1 t1_2 t1_3 t1_4 t1_5 t1_6 t1_7 t2_0 t2_1 t2_2 t2_3 t2_4 t2_5 t2_6 t2_7 t4_0 t4_1 t4_2 t4_3 t4_4 t4_5 t4_6 t4_7 t6_0 t6_1 t6_2 t6_3 t8_0 t8_1 t8_2 t8_3 t10_0 t10_1 t10_2 t10_3 t10_4 t10_5 t10_6 t10_7
  refine (c22 X16 (HE.out.below hB) (HC.out.below hB HC.out.lt)).mono ?_
  rintro r X17 ⟨rfl, hb⟩
  replace K0 := keepB hb K0
  replace K1 := keepB hb K1
  replace K2 := keepB hb K2
  replace K4 := keepB hb K4
  replace K6 := keepB hb K6
  replace K8 := keepB hb K8
  replace K10 := keepB hb K10
  replace hB := hB.trans (hb.mono hB.size)
  clear hb
  obtain ⟨t0_0, t0_1, t0_2, t0_3, t0_4, t0_5, t0_6, t0_7⟩ := cellsOf_at K0.out
  obtain ⟨t1_0, t1_1, t1_2, t1_3, t1_4, t1_5, t1_6, t1_7⟩ := cellsOf_at K1.out
  obtain ⟨t2_0, t2_1, t2_2, t2_3, t2_4, t2_5, t2_6, t2_7⟩ := cellsOf_at K2.out
  obtain ⟨t4_0, t4_1, t4_2, t4_3, t4_4, t4_5, t4_6, t4_7⟩ := cellsOf_at K4.out
  obtain ⟨t6_0, t6_1, t6_2, t6_3⟩ := span_at' K6.out
  obtain ⟨t8_0, t8_1, t8_2, t8_3⟩ := span_at' K8.out
  obtain ⟨t10_0, t10_1, t10_2, t10_3, t10_4, t10_5, t10_6, t10_7⟩ := cellsOf_at K10.out
  go_wp2_with fail
  go_ret
  exact ⟨rfl, hB⟩
set_option maxRecDepth 100000 in
set_option maxHeartbeats 8000000 in
theorem c14_nf (a1 a2 a3 a4 a5 a6 b1 b2 b3 b4 b5 b6 x1 x2 x3 x4 x5 x6 y1 y2 y3 y4 y5 y6 z1 z2 z3 z4 z5 z6 lo hi m n i f : Int) (p q u : Bool) (w : World) (hi0 : i ≠ 0) (hf0 : f ≠ 0) (HE : Hid (Env w)) (HC : Hid (Cell0 w)) (HX : ∀ W, Hid (Calls Tryz.prog 36 #[.agg #[.int .i64 a1, .int .i64 a2, .int .i64 a3, .int .i64 a4, .int .i64 a5, .int .i64 a6], .int .i64 m] W fun r w' => r = .returned (.tuple #[.agg #[.int .i64 x1, .int .i64 x2, .int .i64 x3, .int .i64 x4, .int .i64 x5, .int .i64 x6], .int .i64 0]) ∧ Below W.heap.size W w')) (HY : ∀ W, Hid (Calls Tryz.prog 36 #[.agg #[.int .i64 b1, .int .i64 b2, .int .i64 b3, .int .i64 b4, .int .i64 b5, .int .i64 b6], .int .i64 m] W fun r w' => r = .returned (.tuple #[.agg #[.int .i64 y1, .int .i64 y2, .int .i64 y3, .int .i64 y4, .int .i64 y5, .int .i64 y6], .int .i64 f]) ∧ Below W.heap.size W w')) (HS : ∀ W, Hid (Calls Tryz.prog 43 #[.agg #[.int .i64 a1, .int .i64 a2, .int .i64 a3, .int .i64 a4, .int .i64 a5, .int .i64 a6]] W fun r w' => r = .returned (.tuple #[.agg #[.int .i64 lo, .int .i64 hi], .int .i64 0]) ∧ Below W.heap.size W w')) (HT : ∀ W, Hid (Calls Tryz.prog 43 #[.agg #[.int .i64 x1, .int .i64 x2, .int .i64 x3, .int .i64 x4, .int .i64 x5, .int .i64 x6]] W fun r w' => r = .returned (.tuple #[.agg #[.int .i64 lo, .int .i64 hi], .int .i64 0]) ∧ Below W.heap.size W w')) (HZ : ∀ W, Hid (Calls Tryz.prog 36 #[.agg #[.int .i64 x1, .int .i64 x2, .int .i64 x3, .int .i64 x4, .int .i64 x5, .int .i64 x6], .int .i64 n] W fun r w' => r = .returned (.tuple #[.agg #[.int .i64 z1, .int .i64 z2, .int .i64 z3, .int .i64 z4, .int .i64 z5, .int .i64 z6], .int .i64 i]) ∧ Below W.heap.size W w')) : Calls Tryz.prog 14 #[.agg #[.int .i64 a1, .int .i64 a2, .int .i64 a3, .int .i64 a4, .int .i64 a5, .int .i64 a6], .agg #[.int .i64 b1, .int .i64 b2, .int .i64 b3, .int .i64 b4, .int .i64 b5, .int .i64 b6], .int .i64 m, .int .i64 n] w fun r w' => r = .returned (.bool true) ∧ Below w.heap.size w w' := by
  go_enter Tryz.func14, Tryz.ntmps14
  go_wp2_with fail
  refine call_named (fun V => Below w.heap.size w V ∧ Hid (V.heap[w.heap.size]? = some (cellsOf ⟨a1, a2, a3, a4, a5, a6⟩)) ∧ Hid (V.heap[w.heap.size + 1]? = some (cellsOf ⟨b1, b2, b3, b4, b5, b6⟩))) (box_two _ _ _) ?_
  rintro X0 ⟨hB, K0, K1⟩
  refine ((HX _).out).mono ?_
  rintro r X1 ⟨rfl, hb⟩
  replace K0 := keepB hb K0
  replace K1 := keepB hb K1
  replace hB := hB.trans (hb.mono hB.size)
  clear hb
  obtain ⟨B2, hB2⟩ : ∃ b, X1.heap.size = b := ⟨_, rfl⟩
  obtain ⟨t0_0, t0_1, t0_2, t0_3, t0_4, t0_5, t0_6, t0_7⟩ := cellsOf_at K0.out
  obtain ⟨t1_0, t1_1, t1_2, t1_3, t1_4, t1_5, t1_6, t1_7⟩ := cellsOf_at K1.out
  rw [hB2] at t0_7 t1_7
  go_wp2_with fail
  try clear t0_0 t0_1 t0_2 t0_3 t0_4 t0_5 t0_6 t0_7 t1_0 t1_1 t1_2 t1_3 t1_4 t1_5 t1_6 t1_7
  try rw [hB2]
  refine call_named (fun V => Below w.heap.size w V ∧ Hid (V.heap[w.heap.size]? = some (cellsOf ⟨a1, a2, a3, a4, a5, a6⟩)) ∧ Hid (V.heap[w.heap.size + 1]? = some (cellsOf ⟨b1, b2, b3, b4, b5, b6⟩)) ∧ Hid (V.heap[B2]? = some (cellsOf ⟨x1, x2, x3, x4, x5, x6⟩))) ⟨xa hB _, keepA K0 _, keepA K1 _, newA _ _ _ hB2⟩ ?_
  clear hB K0 K1 hB2
  rintro V2 ⟨hB, K0, K1, K2⟩
  refine ((HY _).out).mono ?_
  rintro r X3 ⟨rfl, hb⟩
  replace K0 := keepB hb K0
  replace K1 := keepB hb K1
  replace K2 := keepB hb K2
  replace hB := hB.trans (hb.mono hB.size)
  clear hb
  obtain ⟨B4, hB4⟩ : ∃ b, X3.heap.size = b := ⟨_, rfl⟩
  obtain ⟨t0_0, t0_1, t0_2, t0_3, t0_4, t0_5, t0_6, t0_7⟩ := cellsOf_at K0.out
  obtain ⟨t1_0, t1_1, t1_2, t1_3, t1_4, t1_5, t1_6, t1_7⟩ := cellsOf_at K1.out
  obtain ⟨t2_0, t2_1, t2_2, t2_3, t2_4, t2_5, t2_6, t2_7⟩ := cellsOf_at K2.out
  rw [hB4] at t0_7 t1_7 t2_7
  go_wp2_with fail
  try clear t0_0 t0_1 t0_2 t0_3 t0_4 t0_5 t0_6 t0_7 t1_0 t1_1 t1_2 t1_3 t1_4 t1_5 t1_6 t1_7 t2_0 t2_1 t2_2 t2_3 t2_4 t2_5 t2_6 t2_7
  try rw [hB4]
  refine call_named (fun V => Below w.heap.size w V ∧ Hid (V.heap[w.heap.size]? = some (cellsOf ⟨a1, a2, a3, a4, a5, a6⟩)) ∧ Hid (V.heap[w.heap.size + 1]? = some (cellsOf ⟨b1, b2, b3, b4, b5, b6⟩)) ∧ Hid (V.heap[B2]? = some (cellsOf ⟨x1, x2, x3, x4, x5, x6⟩)) ∧ Hid (V.heap[B4]? = some (cellsOf ⟨y1, y2, y3, y4, y5, y6⟩))) ⟨xa hB _, keepA K0 _, keepA K1 _, keepA K2 _, newA _ _ _ hB4⟩ ?_
  clear hB K0 K1 K2 hB4
  rintro V4 ⟨hB, K0, K1, K2, K4⟩
  refine ((HS _).out).mono ?_
  rintro r X5 ⟨rfl, hb⟩
  replace K0 := keepB hb K0
  replace K1 := keepB hb K1
  replace K2 := keepB hb K2
  replace K4 := keepB hb K4
  replace hB := hB.trans (hb.mono hB.size)
  clear hb
  obtain ⟨B6, hB6⟩ : ∃ b, X5.heap.size = b := ⟨_, rfl⟩
  obtain ⟨t0_0, t0_1, t0_2, t0_3, t0_4, t0_5, t0_6, t0_7⟩ := cellsOf_at K0.out
  obtain ⟨t1_0, t1_1, t1_2, t1_3, t1_4, t1_5, t1_6, t1_7⟩ := cellsOf_at K1.out
  obtain ⟨t2_0, t2_1, t2_2, t2_3, t2_4, t2_5, t2_6, t2_7⟩ := cellsOf_at K2.out
  obtain ⟨t4_0, t4_1, t4_2, t4_3, t4_4, t4_5, t4_6, t4_7⟩ := cellsOf_at K4.out
  rw [hB6] at t0_7 t1_7 t2_7 t4_7
  go_wp2_with fail
  try clear t0_0 t0_1 t0_2 t0_3 t0_4 t0_5 t0_6 t0_7 t1_0 t1_1 t1_2 t1_3 t1_4 t1_5 t1_6 t1_7 t2_0 t2_1 t2_2 t2_3 t2_4 t2_5 t2_6 t2_7 t4_0 t4_1 t4_2 t4_3 t4_4 t4_5 t4_6 t4_7
  try rw [hB6]
  refine call_named (fun V => Below w.heap.size w V ∧ Hid (V.heap[w.heap.size]? = some (cellsOf ⟨a1, a2, a3, a4, a5, a6⟩)) ∧ Hid (V.heap[w.heap.size + 1]? = some (cellsOf ⟨b1, b2, b3, b4, b5, b6⟩)) ∧ Hid (V.heap[B2]? = some (cellsOf ⟨x1, x2, x3, x4, x5, x6⟩)) ∧ Hid (V.heap[B4]? = some (cellsOf ⟨y1, y2, y3, y4, y5, y6⟩)) ∧ Hid (V.heap[B6]? = some (spanOf ⟨lo, hi⟩))) ⟨xa hB _, keepA K0 _, keepA K1 _, keepA K2 _, keepA K4 _, newA _ _ _ hB6⟩ ?_
  clear hB K0 K1 K2 K4 hB6
  rintro V6 ⟨hB, K0, K1, K2, K4, K6⟩
  refine ((HT _).out).mono ?_
  rintro r X7 ⟨rfl, hb⟩
  replace K0 := keepB hb K0
  replace K1 := keepB hb K1
  replace K2 := keepB hb K2
  replace K4 := keepB hb K4
  replace K6 := keepB hb K6
  replace hB := hB.trans (hb.mono hB.size)
  clear hb
  obtain ⟨B8, hB8⟩ : ∃ b, X7.heap.size = b := ⟨_, rfl⟩
  obtain ⟨t0_0, t0_1, t0_2, t0_3, t0_4, t0_5, t0_6, t0_7⟩ := cellsOf_at K0.out
  obtain ⟨t1_0, t1_1, t1_2, t1_3, t1_4, t1_5, t1_6, t1_7⟩ := cellsOf_at K1.out
  obtain ⟨t2_0, t2_1, t2_2, t2_3, t2_4, t2_5, t2_6, t2_7⟩ := cellsOf_at K2.out
  obtain ⟨t4_0, t4_1, t4_2, t4_3, t4_4, t4_5, t4_6, t4_7⟩ := cellsOf_at K4.out
  obtain ⟨t6_0, t6_1, t6_2, t6_3⟩ := span_at' K6.out
  rw [hB8] at t0_7 t1_7 t2_7 t4_7 t6_3
  go_wp2_with fail
  try clear t0_0 t0_1 t0_2 t0_3 t0_4 t0_5 t0_6 t0_7 t1_0 t1_1 t1_2 t1_3 t1_4 t1_5 t1_6 t1_7 t2_0 t2_1 t2_2 t2_3 t2_4 t2_5 t2_6 t2_7 t4_0 t4_1 t4_2 t4_3 t4_4 t4_5 t4_6 t4_7 t6_0 t6_1 t6_2 t6_3
  try rw [hB8]
  refine call_named (fun V => Below w.heap.size w V ∧ Hid (V.heap[w.heap.size]? = some (cellsOf ⟨a1, a2, a3, a4, a5, a6⟩)) ∧ Hid (V.heap[w.heap.size + 1]? = some (cellsOf ⟨b1, b2, b3, b4, b5, b6⟩)) ∧ Hid (V.heap[B2]? = some (cellsOf ⟨x1, x2, x3, x4, x5, x6⟩)) ∧ Hid (V.heap[B4]? = some (cellsOf ⟨y1, y2, y3, y4, y5, y6⟩)) ∧ Hid (V.heap[B6]? = some (spanOf ⟨lo, hi⟩)) ∧ Hid (V.heap[B8]? = some (spanOf ⟨lo, hi⟩))) ⟨xa hB _, keepA K0 _, keepA K1 _, keepA K2 _, keepA K4 _, keepA K6 _, newA _ _ _ hB8⟩ ?_
  clear hB K0 K1 K2 K4 K6 hB8
  rintro V8 ⟨hB, K0, K1, K2, K4, K6, K8⟩
  refine ((HZ _).out).mono ?_
  rintro r X9 ⟨rfl, hb⟩
  replace K0 := keepB hb K0
  replace K1 := keepB hb K1
  replace K2 := keepB hb K2
  replace K4 := keepB hb K4
  replace K6 := keepB hb K6
  replace K8 := keepB hb K8
  replace hB := hB.trans (hb.mono hB.size)
  clear hb
  obtain ⟨B10, hB10⟩ : ∃ b, X9.heap.size = b := ⟨_, rfl⟩
  obtain ⟨t0_0, t0_1, t0_2, t0_3, t0_4, t0_5, t0_6, t0_7⟩ := cellsOf_at K0.out
  obtain ⟨t1_0, t1_1, t1_2, t1_3, t1_4, t1_5, t1_6, t1_7⟩ := cellsOf_at K1.out
  obtain ⟨t2_0, t2_1, t2_2, t2_3, t2_4, t2_5, t2_6, t2_7⟩ := cellsOf_at K2.out
  obtain ⟨t4_0, t4_1, t4_2, t4_3, t4_4, t4_5, t4_6, t4_7⟩ := cellsOf_at K4.out
  obtain ⟨t6_0, t6_1, t6_2, t6_3⟩ := span_at' K6.out
  obtain ⟨t8_0, t8_1, t8_2, t8_3⟩ := span_at' K8.out
  rw [hB10] at t0_7 t1_7 t2_7 t4_7 t6_3 t8_3
  go_wp2_with fail
  try clear t0_0 t0_1 t0_2 t0_3 t0_4 t0_5 t0_6 t0_7 t1_0 t1_1 t1_2 t1_3 t1_4 t1_5 t1_6 t1_7 t2_0 t2_1 t2_2 t2_3 t2_4 t2_5 t2_6 t2_7 t4_0 t4_1 t4_2 t4_3 t4_4 t4_5 t4_6 t4_7 t6_0 t6_1 t6_2 t6_3 t8_0 t8_1 t8_2 t8_3
  try rw [hB10]
  refine call_named (fun V => Below w.heap.size w V ∧ Hid (V.heap[w.heap.size]? = some (cellsOf ⟨a1, a2, a3, a4, a5, a6⟩)) ∧ Hid (V.heap[w.heap.size + 1]? = some (cellsOf ⟨b1, b2, b3, b4, b5, b6⟩)) ∧ Hid (V.heap[B2]? = some (cellsOf ⟨x1, x2, x3, x4, x5, x6⟩)) ∧ Hid (V.heap[B4]? = some (cellsOf ⟨y1, y2, y3, y4, y5, y6⟩)) ∧ Hid (V.heap[B6]? = some (spanOf ⟨lo, hi⟩)) ∧ Hid (V.heap[B8]? = some (spanOf ⟨lo, hi⟩)) ∧ Hid (V.heap[B10]? = some (cellsOf ⟨z1, z2, z3, z4, z5, z6⟩))) ⟨xa hB _, keepA K0 _, keepA K1 _, keepA K2 _, keepA K4 _, keepA K6 _, keepA K8 _, newA _ _ _ hB10⟩ ?_
  clear hB K0 K1 K2 K4 K6 K8 hB10
  rintro V10 ⟨hB, K0, K1, K2, K4, K6, K8, K10⟩
  refine (c22 V10 (HE.out.below hB) (HC.out.below hB HC.out.lt)).mono ?_
  rintro r X11 ⟨rfl, hb⟩
  replace K0 := keepB hb K0
  replace K1 := keepB hb K1
  replace K2 := keepB hb K2
  replace K4 := keepB hb K4
  replace K6 := keepB hb K6
  replace K8 := keepB hb K8
  replace K10 := keepB hb K10
  replace hB := hB.trans (hb.mono hB.size)
  clear hb
  obtain ⟨t0_0, t0_1, t0_2, t0_3, t0_4, t0_5, t0_6, t0_7⟩ := cellsOf_at K0.out
  obtain ⟨t1_0, t1_1, t1_2, t1_3, t1_4, t1_5, t1_6, t1_7⟩ := cellsOf_at K1.out
  obtain ⟨t2_0, t2_1, t2_2, t2_3, t2_4, t2_5, t2_6, t2_7⟩ := cellsOf_at K2.out
  obtain ⟨t4_0, t4_1, t4_2, t4_3, t4_4, t4_5, t4_6, t4_7⟩ := cellsOf_at K4.out
  obtain ⟨t6_0, t6_1, t6_2, t6_3⟩ := span_at' K6.out
  obtain ⟨t8_0, t8_1, t8_2, t8_3⟩ := span_at' K8.out
  obtain ⟨t10_0, t10_1, t10_2, t10_3, t10_4, t10_5, t10_6, t10_7⟩ := cellsOf_at K10.out
  go_wp2_with fail
  go_ret
  exact ⟨rfl, hB⟩
set_option maxRecDepth 100000 in
set_option maxHeartbeats 8000000 in
theorem c14_z (a1 a2 a3 a4 a5 a6 b1 b2 b3 b4 b5 b6 x1 x2 x3 x4 x5 x6 y1 y2 y3 y4 y5 y6 z1 z2 z3 z4 z5 z6 lo hi m n i f : Int) (p q u : Bool) (w : World) (HE : Hid (Env w)) (HC : Hid (Cell0 w)) (HX : ∀ W, Hid (Calls Tryz.prog 36 #[.agg #[.int .i64 a1, .int .i64 a2, .int .i64 a3, .int .i64 a4, .int .i64 a5, .int .i64 a6], .int .i64 m] W fun r w' => r = .returned (.tuple #[.agg #[.int .i64 x1, .int .i64 x2, .int .i64 x3, .int .i64 x4, .int .i64 x5, .int .i64 x6], .int .i64 0]) ∧ Below W.heap.size W w')) (HY : ∀ W, Hid (Calls Tryz.prog 36 #[.agg #[.int .i64 b1, .int .i64 b2, .int .i64 b3, .int .i64 b4, .int .i64 b5, .int .i64 b6], .int .i64 m] W fun r w' => r = .returned (.tuple #[.agg #[.int .i64 y1, .int .i64 y2, .int .i64 y3, .int .i64 y4, .int .i64 y5, .int .i64 y6], .int .i64 0]) ∧ Below W.heap.size W w')) (HS : ∀ W, Hid (Calls Tryz.prog 43 #[.agg #[.int .i64 a1, .int .i64 a2, .int .i64 a3, .int .i64 a4, .int .i64 a5, .int .i64 a6]] W fun r w' => r = .returned (.tuple #[.agg #[.int .i64 lo, .int .i64 hi], .int .i64 0]) ∧ Below W.heap.size W w')) (HT : ∀ W, Hid (Calls Tryz.prog 43 #[.agg #[.int .i64 x1, .int .i64 x2, .int .i64 x3, .int .i64 x4, .int .i64 x5, .int .i64 x6]] W fun r w' => r = .returned (.tuple #[.agg #[.int .i64 lo, .int .i64 hi], .int .i64 0]) ∧ Below W.heap.size W w')) (HZ : ∀ W, Hid (Calls Tryz.prog 36 #[.agg #[.int .i64 x1, .int .i64 x2, .int .i64 x3, .int .i64 x4, .int .i64 x5, .int .i64 x6], .int .i64 n] W fun r w' => r = .returned (.tuple #[.agg #[.int .i64 z1, .int .i64 z2, .int .i64 z3, .int .i64 z4, .int .i64 z5, .int .i64 z6], .int .i64 0]) ∧ Below W.heap.size W w')) (HW : ∀ W, Hid (Calls Tryz.prog 36 #[.agg #[.int .i64 a1, .int .i64 a2, .int .i64 a3, .int .i64 a4, .int .i64 a5, .int .i64 a6], .int .i64 (wrap64 (m + n))] W fun r w' => r = .returned (.tuple #[.agg #[.int .i64 z1, .int .i64 z2, .int .i64 z3, .int .i64 z4, .int .i64 z5, .int .i64 z6], .int .i64 0]) ∧ Below W.heap.size W w')) (HP : ∀ W, Hid (Calls Tryz.prog 45 #[.agg #[.int .i64 a1, .int .i64 a2, .int .i64 a3, .int .i64 a4, .int .i64 a5, .int .i64 a6], .agg #[.int .i64 b1, .int .i64 b2, .int .i64 b3, .int .i64 b4, .int .i64 b5, .int .i64 b6]] W fun r w' => r = .returned (.tuple #[.bool p, .int .i64 0]) ∧ Below W.heap.size W w')) (HQ : ∀ W, Hid (Calls Tryz.prog 45 #[.agg #[.int .i64 x1, .int .i64 x2, .int .i64 x3, .int .i64 x4, .int .i64 x5, .int .i64 x6], .agg #[.int .i64 y1, .int .i64 y2, .int .i64 y3, .int .i64 y4, .int .i64 y5, .int .i64 y6]] W fun r w' => r = .returned (.tuple #[.bool p, .int .i64 0]) ∧ Below W.heap.size W w')) (HU : ∀ W, Hid (Calls Tryz.prog 47 #[.agg #[.int .i64 a1, .int .i64 a2, .int .i64 a3, .int .i64 a4, .int .i64 a5, .int .i64 a6], .agg #[.int .i64 b1, .int .i64 b2, .int .i64 b3, .int .i64 b4, .int .i64 b5, .int .i64 b6]] W fun r w' => r = .returned (.tuple #[.bool u, .int .i64 0]) ∧ Below W.heap.size W w')) (HV : ∀ W, Hid (Calls Tryz.prog 47 #[.agg #[.int .i64 x1, .int .i64 x2, .int .i64 x3, .int .i64 x4, .int .i64 x5, .int .i64 x6], .agg #[.int .i64 y1, .int .i64 y2, .int .i64 y3, .int .i64 y4, .int .i64 y5, .int .i64 y6]] W fun r w' => r = .returned (.tuple #[.bool u, .int .i64 0]) ∧ Below W.heap.size W w')) (HF : ∀ W, Hid (Calls Tryz.prog 49 #[.agg #[.int .i64 a1, .int .i64 a2, .int .i64 a3, .int .i64 a4, .int .i64 a5, .int .i64 a6], .agg #[.int .i64 b1, .int .i64 b2, .int .i64 b3, .int .i64 b4, .int .i64 b5, .int .i64 b6]] W fun r w' => r = .returned (.tuple #[.bool q, .int .i64 0]) ∧ Below W.heap.size W w')) (HG : ∀ W, Hid (Calls Tryz.prog 49 #[.agg #[.int .i64 x1, .int .i64 x2, .int .i64 x3, .int .i64 x4, .int .i64 x5, .int .i64 x6], .agg #[.int .i64 y1, .int .i64 y2, .int .i64 y3, .int .i64 y4, .int .i64 y5, .int .i64 y6]] W fun r w' => r = .returned (.tuple #[.bool q, .int .i64 0]) ∧ Below W.heap.size W w')) : Calls Tryz.prog 14 #[.agg #[.int .i64 a1, .int .i64 a2, .int .i64 a3, .int .i64 a4, .int .i64 a5, .int .i64 a6], .agg #[.int .i64 b1, .int .i64 b2, .int .i64 b3, .int .i64 b4, .int .i64 b5, .int .i64 b6], .int .i64 m, .int .i64 n] w fun r w' => r = .returned (.bool true) ∧ Below w.heap.size w w' := by
  go_enter Tryz.func14, Tryz.ntmps14
  go_wp2_with fail
  refine call_named (fun V => Below w.heap.size w V ∧ Hid (V.heap[w.heap.size]? = some (cellsOf ⟨a1, a2, a3, a4, a5, a6⟩)) ∧ Hid (V.heap[w.heap.size + 1]? = some (cellsOf ⟨b1, b2, b3, b4, b5, b6⟩))) (box_two _ _ _) ?_
  rintro X0 ⟨hB, K0, K1⟩
  refine ((HX _).out).mono ?_
  rintro r X1 ⟨rfl, hb⟩
  replace K0 := keepB hb K0
  replace K1 := keepB hb K1
  replace hB := hB.trans (hb.mono hB.size)
  clear hb
  obtain ⟨B2, hB2⟩ : ∃ b, X1.heap.size = b := ⟨_, rfl⟩
  obtain ⟨t0_0, t0_1, t0_2, t0_3, t0_4, t0_5, t0_6, t0_7⟩ := cellsOf_at K0.out
  obtain ⟨t1_0, t1_1, t1_2, t1_3, t1_4, t1_5, t1_6, t1_7⟩ := cellsOf_at K1.out
  rw [hB2] at t0_7 t1_7
  go_wp2_with fail
  try clear t0_0 t0_1 t0_2 t0_3 t0_4 t0_5 t0_6 t0_7 t1_0 t1_1 t1_2 t1_3 t1_4 t1_5 t1_6 t1_7
  try rw [hB2]
  refine call_named (fun V => Below w.heap.size w V ∧ Hid (V.heap[w.heap.size]? = some (cellsOf ⟨a1, a2, a3, a4, a5, a6⟩)) ∧ Hid (V.heap[w.heap.size + 1]? = some (cellsOf ⟨b1, b2, b3, b4, b5, b6⟩)) ∧ Hid (V.heap[B2]? = some (cellsOf ⟨x1, x2, x3, x4, x5, x6⟩))) ⟨xa hB _, keepA K0 _, keepA K1 _, newA _ _ _ hB2⟩ ?_
  clear hB K0 K1 hB2
  rintro V2 ⟨hB, K0, K1, K2⟩
  refine ((HY _).out).mono ?_
  rintro r X3 ⟨rfl, hb⟩
  replace K0 := keepB hb K0
  replace K1 := keepB hb K1
  replace K2 := keepB hb K2
  replace hB := hB.trans (hb.mono hB.size)
  clear hb
  obtain ⟨B4, hB4⟩ : ∃ b, X3.heap.size = b := ⟨_, rfl⟩
  obtain ⟨t0_0, t0_1, t0_2, t0_3, t0_4, t0_5, t0_6, t0_7⟩ := cellsOf_at K0.out
  obtain ⟨t1_0, t1_1, t1_2, t1_3, t1_4, t1_5, t1_6, t1_7⟩ := cellsOf_at K1.out
  obtain ⟨t2_0, t2_1, t2_2, t2_3, t2_4, t2_5, t2_6, t2_7⟩ := cellsOf_at K2.out
  rw [hB4] at t0_7 t1_7 t2_7
  go_wp2_with fail
  try clear t0_0 t0_1 t0_2 t0_3 t0_4 t0_5 t0_6 t0_7 t1_0 t1_1 t1_2 t1_3 t1_4 t1_5 t1_6 t1_7 t2_0 t2_1 t2_2 t2_3 t2_4 t2_5 t2_6 t2_7
  try rw [hB4]
  refine call_named (fun V => Below w.heap.size w V ∧ Hid (V.heap[w.heap.size]? = some (cellsOf ⟨a1, a2, a3, a4, a5, a6⟩)) ∧ Hid (V.heap[w.heap.size + 1]? = some (cellsOf ⟨b1, b2, b3, b4, b5, b6⟩)) ∧ Hid (V.heap[B2]? = some (cellsOf ⟨x1, x2, x3, x4, x5, x6⟩)) ∧ Hid (V.heap[B4]? = some (cellsOf ⟨y1, y2, y3, y4, y5, y6⟩))) ⟨xa hB _, keepA K0 _, keepA K1 _, keepA K2 _, newA _ _ _ hB4⟩ ?_
  clear hB K0 K1 K2 hB4
  rintro V4 ⟨hB, K0, K1, K2, K4⟩
  refine ((HS _).out).mono ?_
  rintro r X5 ⟨rfl, hb⟩
  replace K0 := keepB hb K0
  replace K1 := keepB hb K1
  replace K2 := keepB hb K2
  replace K4 := keepB hb K4
  replace hB := hB.trans (hb.mono hB.size)
  clear hb
  obtain ⟨B6, hB6⟩ : ∃ b, X5.heap.size = b := ⟨_, rfl⟩
  obtain ⟨t0_0, t0_1, t0_2, t0_3, t0_4, t0_5, t0_6, t0_7⟩ := cellsOf_at K0.out
  obtain ⟨t1_0, t1_1, t1_2, t1_3, t1_4, t1_5, t1_6, t1_7⟩ := cellsOf_at K1.out
  obtain ⟨t2_0, t2_1, t2_2, t2_3, t2_4, t2_5, t2_6, t2_7⟩ := cellsOf_at K2.out
  obtain ⟨t4_0, t4_1, t4_2, t4_3, t4_4, t4_5, t4_6, t4_7⟩ := cellsOf_at K4.out
  rw [hB6] at t0_7 t1_7 t2_7 t4_7
  go_wp2_with fail
  try clear t0_0 t0_1 t0_2 t0_3 t0_4 t0_5 t0_6 t0_7 t1_0 t1_1 t1_2 t1_3 t1_4 t1_5 t1_6 t1_7 t2_0 t2_1 t2_2 t2_3 t2_4 t2_5 t2_6 t2_7 t4_0 t4_1 t4_2 t4_3 t4_4 t4_5 t4_6 t4_7
  try rw [hB6]
  refine call_named (fun V => Below w.heap.size w V ∧ Hid (V.heap[w.heap.size]? = some (cellsOf ⟨a1, a2, a3, a4, a5, a6⟩)) ∧ Hid (V.heap[w.heap.size + 1]? = some (cellsOf ⟨b1, b2, b3, b4, b5, b6⟩)) ∧ Hid (V.heap[B2]? = some (cellsOf ⟨x1, x2, x3, x4, x5, x6⟩)) ∧ Hid (V.heap[B4]? = some (cellsOf ⟨y1, y2, y3, y4, y5, y6⟩)) ∧ Hid (V.heap[B6]? = some (spanOf ⟨lo, hi⟩))) ⟨xa hB _, keepA K0 _, keepA K1 _, keepA K2 _, keepA K4 _, newA _ _ _ hB6⟩ ?_
  clear hB K0 K1 K2 K4 hB6
  rintro V6 ⟨hB, K0, K1, K2, K4, K6⟩
  refine ((HT _).out).mono ?_
  rintro r X7 ⟨rfl, hb⟩
  replace K0 := keepB hb K0
  replace K1 := keepB hb K1
  replace K2 := keepB hb K2
  replace K4 := keepB hb K4
  replace K6 := keepB hb K6
  replace hB := hB.trans (hb.mono hB.size)
  clear hb
  obtain ⟨B8, hB8⟩ : ∃ b, X7.heap.size = b := ⟨_, rfl⟩
  obtain ⟨t0_0, t0_1, t0_2, t0_3, t0_4, t0_5, t0_6, t0_7⟩ := cellsOf_at K0.out
  obtain ⟨t1_0, t1_1, t1_2, t1_3, t1_4, t1_5, t1_6, t1_7⟩ := cellsOf_at K1.out
  obtain ⟨t2_0, t2_1, t2_2, t2_3, t2_4, t2_5, t2_6, t2_7⟩ := cellsOf_at K2.out
  obtain ⟨t4_0, t4_1, t4_2, t4_3, t4_4, t4_5, t4_6, t4_7⟩ := cellsOf_at K4.out
  obtain ⟨t6_0, t6_1, t6_2, t6_3⟩ := span_at' K6.out
  rw [hB8] at t0_7 t1_7 t2_7 t4_7 t6_3
  go_wp2_with fail
  try clear t0_0 t0_1 t0_2 t0_3 t0_4 t0_5 t0_6 t0_7 t1_0 t1_1 t1_2 t1_3 t1_4 t1_5 t1_6 t1_7 t2_0 t2_1 t2_2 t2_3 t2_4 t2_5 t2_6 t2_7 t4_0 t4_1 t4_2 t4_3 t4_4 t4_5 t4_6 t4_7 t6_0 t6_1 t6_2 t6_3
  try rw [hB8]
  refine call_named (fun V => Below w.heap.size w V ∧ Hid (V.heap[w.heap.size]? = some (cellsOf ⟨a1, a2, a3, a4, a5, a6⟩)) ∧ Hid (V.heap[w.heap.size + 1]? = some (cellsOf ⟨b1, b2, b3, b4, b5, b6⟩)) ∧ Hid (V.heap[B2]? = some (cellsOf ⟨x1, x2, x3, x4, x5, x6⟩)) ∧ Hid (V.heap[B4]? = some (cellsOf ⟨y1, y2, y3, y4, y5, y6⟩)) ∧ Hid (V.heap[B6]? = some (spanOf ⟨lo, hi⟩)) ∧ Hid (V.heap[B8]? = some (spanOf ⟨lo, hi⟩))) ⟨xa hB _, keepA K0 _, keepA K1 _, keepA K2 _, keepA K4 _, keepA K6 _, newA _ _ _ hB8⟩ ?_
  clear hB K0 K1 K2 K4 K6 hB8
  rintro V8 ⟨hB, K0, K1, K2, K4, K6, K8⟩
  refine ((HZ _).out).mono ?_
  rintro r X9 ⟨rfl, hb⟩
  replace K0 := keepB hb K0
  replace K1 := keepB hb K1
  replace K2 := keepB hb K2
  replace K4 := keepB hb K4
  replace K6 := keepB hb K6
  replace K8 := keepB hb K8
  replace hB := hB.trans (hb.mono hB.size)
  clear hb
  obtain ⟨B10, hB10⟩ : ∃ b, X9.heap.size = b := ⟨_, rfl⟩
  obtain ⟨t0_0, t0_1, t0_2, t0_3, t0_4, t0_5, t0_6, t0_7⟩ := cellsOf_at K0.out
  obtain ⟨t1_0, t1_1, t1_2, t1_3, t1_4, t1_5, t1_6, t1_7⟩ := cellsOf_at K1.out
  obtain ⟨t2_0, t2_1, t2_2, t2_3, t2_4, t2_5, t2_6, t2_7⟩ := cellsOf_at K2.out
  obtain ⟨t4_0, t4_1, t4_2, t4_3, t4_4, t4_5, t4_6, t4_7⟩ := cellsOf_at K4.out
  obtain ⟨t6_0, t6_1, t6_2, t6_3⟩ := span_at' K6.out
  obtain ⟨t8_0, t8_1, t8_2, t8_3⟩ := span_at' K8.out
  rw [hB10] at t0_7 t1_7 t2_7 t4_7 t6_3 t8_3
  go_wp2_with fail
  try clear t0_0 t0_1 t0_2 t0_3 t0_4 t0_5 t0_6 t0_7 t1_0 t1_1 t1_2 t1_3 t1_4 t1_5 t1_6 t1_7 t2_0 t2_1 t2_2 t2_3 t2_4 t2_5 t2_6 t2_7 t4_0 t4_1 t4_2 t4_3 t4_4 t4_5 t4_6 t4_7 t6_0 t6_1 t6_2 t6_3 t8_0 t8_1 t8_2 t8_3
  try rw [hB10]
  refine call_named (fun V => Below w.heap.size w V ∧ Hid (V.heap[w.heap.size]? = some (cellsOf ⟨a1, a2, a3, a4, a5, a6⟩)) ∧ Hid (V.heap[w.heap.size + 1]? = some (cellsOf ⟨b1, b2, b3, b4, b5, b6⟩)) ∧ Hid (V.heap[B2]? = some (cellsOf ⟨x1, x2, x3, x4, x5, x6⟩)) ∧ Hid (V.heap[B4]? = some (cellsOf ⟨y1, y2, y3, y4, y5, y6⟩)) ∧ Hid (V.heap[B6]? = some (spanOf ⟨lo, hi⟩)) ∧ Hid (V.heap[B8]? = some (spanOf ⟨lo, hi⟩)) ∧ Hid (V.heap[B10]? = some (cellsOf ⟨z1, z2, z3, z4, z5, z6⟩))) ⟨xa hB _, keepA K0 _, keepA K1 _, keepA K2 _, keepA K4 _, keepA K6 _, keepA K8 _, newA _ _ _ hB10⟩ ?_
  clear hB K0 K1 K2 K4 K6 K8 hB10
  rintro V10 ⟨hB, K0, K1, K2, K4, K6, K8, K10⟩
  refine ((HW _).out).mono ?_
  rintro r X11 ⟨rfl, hb⟩
  replace K0 := keepB hb K0
  replace K1 := keepB hb K1
  replace K2 := keepB hb K2
  replace K4 := keepB hb K4
  replace K6 := keepB hb K6
  replace K8 := keepB hb K8
  replace K10 := keepB hb K10
  replace hB := hB.trans (hb.mono hB.size)
  clear hb
  obtain ⟨B12, hB12⟩ : ∃ b, X11.heap.size = b := ⟨_, rfl⟩
  obtain ⟨t0_0, t0_1, t0_2, t0_3, t0_4, t0_5, t0_6, t0_7⟩ := cellsOf_at K0.out
  obtain ⟨t1_0, t1_1, t1_2, t1_3, t1_4, t1_5, t1_6, t1_7⟩ := cellsOf_at K1.out
  obtain ⟨t2_0, t2_1, t2_2, t2_3, t2_4, t2_5, t2_6, t2_7⟩ := cellsOf_at K2.out
  obtain ⟨t4_0, t4_1, t4_2, t4_3, t4_4, t4_5, t4_6, t4_7⟩ := cellsOf_at K4.out
  obtain ⟨t6_0, t6_1, t6_2, t6_3⟩ := span_at' K6.out
  obtain ⟨t8_0, t8_1, t8_2, t8_3⟩ := span_at' K8.out
  obtain ⟨t10_0, t10_1, t10_2, t10_3, t10_4, t10_5, t10_6, t10_7⟩ := cellsOf_at K10.out
  rw [hB12] at t0_7 t1_7 t2_7 t4_7 t6_3 t8_3 t10_7
  go_wp2_with fail
  try clear t0_0 t0_1 t0_2 t0_3 t0_4 t0_5 t0_6 t0_7 t1_0 t1_1 t1_2 t1_3 t1_4 t1_5 t1_6 t1_7 t2_0 t2_1 t2_2 t2_3 t2_4 t2_5 t2_6 t2_7 t4_0 t4_1 t4_2 t4_3 t4_4 t4_5 t4_6 t4_7 t6_0 t6_1 t6_2 t6_3 t8_0 t8_1 t8_2 t8_3 t10_0 t10_1 t10_2 t10_3 t10_4 t10_5 t10_6 t10_7
  try rw [hB12]
  refine call_named (fun V => Below w.heap.size w V ∧ Hid (V.heap[w.heap.size]? = some (cellsOf ⟨a1, a2, a3, a4, a5, a6⟩)) ∧ Hid (V.heap[w.heap.size + 1]? = some (cellsOf ⟨b1, b2, b3, b4, b5, b6⟩)) ∧ Hid (V.heap[B2]? = some (cellsOf ⟨x1, x2, x3, x4, x5, x6⟩)) ∧ Hid (V.heap[B4]? = some (cellsOf ⟨y1, y2, y3, y4, y5, y6⟩)) ∧ Hid (V.heap[B6]? = some (spanOf ⟨lo, hi⟩)) ∧ Hid (V.heap[B8]? = some (spanOf ⟨lo, hi⟩)) ∧ Hid (V.heap[B10]? = some (cellsOf ⟨z1, z2, z3, z4, z5, z6⟩)) ∧ Hid (V.heap[B12]? = some (cellsOf ⟨z1, z2, z3, z4, z5, z6⟩))) ⟨xa hB _, keepA K0 _, keepA K1 _, keepA K2 _, keepA K4 _, keepA K6 _, keepA K8 _, keepA K10 _, newA _ _ _ hB12⟩ ?_
  clear hB K0 K1 K2 K4 K6 K8 K10 hB12
  rintro V12 ⟨hB, K0, K1, K2, K4, K6, K8, K10, K12⟩
  refine ((HP _).out).mono ?_
  rintro r X13 ⟨rfl, hb⟩
  replace K0 := keepB hb K0
  replace K1 := keepB hb K1
  replace K2 := keepB hb K2
  replace K4 := keepB hb K4
  replace K6 := keepB hb K6
  replace K8 := keepB hb K8
  replace K10 := keepB hb K10
  replace K12 := keepB hb K12
  replace hB := hB.trans (hb.mono hB.size)
  clear hb
  obtain ⟨t0_0, t0_1, t0_2, t0_3, t0_4, t0_5, t0_6, t0_7⟩ := cellsOf_at K0.out
  obtain ⟨t1_0, t1_1, t1_2, t1_3, t1_4, t1_5, t1_6, t1_7⟩ := cellsOf_at K1.out
  obtain ⟨t2_0, t2_1, t2_2, t2_3, t2_4, t2_5, t2_6, t2_7⟩ := cellsOf_at K2.out
  obtain ⟨t4_0, t4_1, t4_2, t4_3, t4_4, t4_5, t4_6, t4_7⟩ := cellsOf_at K4.out
  obtain ⟨t6_0, t6_1, t6_2, t6_3⟩ := span_at' K6.out
  obtain ⟨t8_0, t8_1, t8_2, t8_3⟩ := span_at' K8.out
  obtain ⟨t10_0, t10_1, t10_2, t10_3, t10_4, t10_5, t10_6, t10_7⟩ := cellsOf_at K10.out
  obtain ⟨t12_0, t12_1, t12_2, t12_3, t12_4, t12_5, t12_6, t12_7⟩ := cellsOf_at K12.out
  go_wp2_with fail
  try clear t0_0 t0_1 t0_2 t0_3 t0_4 t0_5 t0_6 t0_7 t1_0 t1_1 t1_2 t1_3 t1_4 t1_5 t1_6 t1_7 t2_0 t2_1 t2_2 t2_3 t2_4 t2_5 t2_6 t2_7 t4_0 t4_1 t4_2 t4_3 t4_4 t4_5 t4_6 t4_7 t6_0 t6_1 t6_2 t6_3 t8_0 t8_1 t8_2 t8_3 t10_0 t10_1 t10_2 t10_3 t10_4 t10_5 t10_6 t10_7 t12_0 t12_1 t12_2 t12_3 t12_4 t12_5 t12_6 t12_7
  refine ((HQ _).out).mono ?_
  rintro r X14 ⟨rfl, hb⟩
  replace K0 := keepB hb K0
  replace K1 := keepB hb K1
  replace K2 := keepB hb K2
  replace K4 := keepB hb K4
  replace K6 := keepB hb K6
  replace K8 := keepB hb K8
  replace K10 := keepB hb K10
  replace K12 := keepB hb K12
  replace hB := hB.trans (hb.mono hB.size)
  clear hb
  obtain ⟨t0_0, t0_1, t0_2, t0_3, t0_4, t0_5, t0_6, t0_7⟩ := cellsOf_at K0.out
  obtain ⟨t1_0, t1_1, t1_2, t1_3, t1_4, t1_5, t1_6, t1_7⟩ := cellsOf_at K1.out
  obtain ⟨t2_0, t2_1, t2_2, t2_3, t2_4, t2_5, t2_6, t2_7⟩ := cellsOf_at K2.out
  obtain ⟨t4_0, t4_1, t4_2, t4_3, t4_4, t4_5, t4_6, t4_7⟩ := cellsOf_at K4.out
  obtain ⟨t6_0, t6_1, t6_2, t6_3⟩ := span_at' K6.out
  obtain ⟨t8_0, t8_1, t8_2, t8_3⟩ := span_at' K8.out
  obtain ⟨t10_0, t10_1, t10_2, t10_3, t10_4, t10_5, t10_6, t10_7⟩ := cellsOf_at K10.out
  obtain ⟨t12_0, t12_1, t12_2, t12_3, t12_4, t12_5, t12_6, t12_7⟩ := cellsOf_at K12.out
  go_wp2_with fail
  try clear t0_0 t0_1 t0_2 t0_3 t0_4 t0_5 t0_6 t0_7 t1_0 t1_1 t1_2 t1_3 t1_4 t1_5 t1_6 t1_7 t2_0 t2_1 t2_2 t2_3 t2_4 t2_5 t2_6 t2_7 t4_0 t4_1 t4_2 t4_3 t4_4 t4_5 t4_6 t4_7 t6_0 t6_1 t6_2 t6_3 t8_0 t8_1 t8_2 t8_3 t10_0 t10_1 t10_2 t10_3 t10_4 t10_5 t10_6 t10_7 t12_0 t12_1 t12_2 t12_3 t12_4 t12_5 t12_6 t12_7
  refine ((HU _).out).mono ?_
  rintro r X15 ⟨rfl, hb⟩
  replace K0 := keepB hb K0
  replace K1 := keepB hb K1
  replace K2 := keepB hb K2
  replace K4 := keepB hb K4
  replace K6 := keepB hb K6
  replace K8 := keepB hb K8
  replace K10 := keepB hb K10
  replace K12 := keepB hb K12
  replace hB := hB.trans (hb.mono hB.size)
  clear hb
  obtain ⟨t0_0, t0_1, t0_2, t0_3, t0_4, t0_5, t0_6, t0_7⟩ := cellsOf_at K0.out
  obtain ⟨t1_0, t1_1, t1_2, t1_3, t1_4, t1_5, t1_6, t1_7⟩ := cellsOf_at K1.out
  obtain ⟨t2_0, t2_1, t2_2, t2_3, t2_4, t2_5, t2_6, t2_7⟩ := cellsOf_at K2.out
  obtain ⟨t4_0, t4_1, t4_2, t4_3, t4_4, t4_5, t4_6, t4_7⟩ := cellsOf_at K4.out
  obtain ⟨t6_0, t6_1, t6_2, t6_3⟩ := span_at' K6.out
  obtain ⟨t8_0, t8_1, t8_2, t8_3⟩ := span_at' K8.out
  obtain ⟨t10_0, t10_1, t10_2, t10_3, t10_4, t10_5, t10_6, t10_7⟩ := cellsOf_at K10.out
  obtain ⟨t12_0, t12_1, t12_2, t12_3, t12_4, t12_5, t12_6, t12_7⟩ := cellsOf_at K12.out
  go_wp2_with fail
  try clear t0_0 t0_1 t0_2 t0_3 t0_4 t0_5 t0_6 t0_7 t1_0 t1_1 t1_2 t1_3 t1_4 t1_5 t1_6 t1_7 t2_0 t2_1 t2_2 t2_3 t2_4 t2_5 t2_6 t2_7 t4_0 t4_1 t4_2 t4_3 t4_4 t4_5 t4_6 t4_7 t6_0 t6_1 t6_2 t6_3 t8_0 t8_1 t8_2 t8_3 t10_0 t10_1 t10_2 t10_3 t10_4 t10_5 t10_6 t10_7 t12_0 t12_1 t12_2 t12_3 t12_4 t12_5 t12_6 t12_7
  refine ((HV _).out).mono ?_
  rintro r X16 ⟨rfl, hb⟩
  replace K0 := keepB hb K0
  replace K1 := keepB hb K1
  replace K2 := keepB hb K2
  replace K4 := keepB hb K4
  replace K6 := keepB hb K6
  replace K8 := keepB hb K8
  replace K10 := keepB hb K10
  replace K12 := keepB hb K12
  replace hB := hB.trans (hb.mono hB.size)
  clear hb
  obtain ⟨t0_0, t0_1, t0_2, t0_3, t0_4, t0_5, t0_6, t0_7⟩ := cellsOf_at K0.out
  obtain ⟨t1_0, t1_1, t1_2, t1_3, t1_4, t1_5, t1_6, t1_7⟩ := cellsOf_at K1.out
  obtain ⟨t2_0, t2_1, t2_2, t2_3, t2_4, t2_5, t2_6, t2_7⟩ := cellsOf_at K2.out
  obtain ⟨t4_0, t4_1, t4_2, t4_3, t4_4, t4_5, t4_6, t4_7⟩ := cellsOf_at K4.out
  obtain ⟨t6_0, t6_1, t6_2, t6_3⟩ := span_at' K6.out
  obtain ⟨t8_0, t8_1, t8_2, t8_3⟩ := span_at' K8.out
  obtain ⟨t10_0, t10_1, t10_2, t10_3, t10_4, t10_5, t10_6, t10_7⟩ := cellsOf_at K10.out
  obtain ⟨t12_0, t12_1, t12_2, t12_3, t12_4, t12_5, t12_6, t12_7⟩ := cellsOf_at K12.out
  go_wp2_with fail
  try clear t0_0 t0_1 t0_2 t0_3 t0_4 t0_5 t0_6 t0_7 t1_0 t1_1 t1_2 t1_3 t1_4 t1_5 t1_6 t1_7 t2_0 t2_1 t2_2 t2_3 t2_4 t2_5 t2_6 t2_7 t4_0 t4_1 t4_2 t4_3 t4_4 t4_5 t4_6 t4_7 t6_0 t6_1 t6_2 t6_3 t8_0 t8_1 t8_2 t8_3 t10_0 t10_1 t10_2 t10_3 t10_4 t10_5 t10_6 t10_7 t12_0 t12_1 t12_2 t12_3 t12_4 t12_5 t12_6 t12_7
  refine ((HF _).out).mono ?_
  rintro r X17 ⟨rfl, hb⟩
  replace K0 := keepB hb K0
  replace K1 := keepB hb K1
  replace K2 := keepB hb K2
  replace K4 := keepB hb K4
  replace K6 := keepB hb K6
  replace K8 := keepB hb K8
  replace K10 := keepB hb K10
  replace K12 := keepB hb K12
  replace hB := hB.trans (hb.mono hB.size)
  clear hb
  obtain ⟨t0_0, t0_1, t0_2, t0_3, t0_4, t0_5, t0_6, t0_7⟩ := cellsOf_at K0.out
  obtain ⟨t1_0, t1_1, t1_2, t1_3, t1_4, t1_5, t1_6, t1_7⟩ := cellsOf_at K1.out
  obtain ⟨t2_0, t2_1, t2_2, t2_3, t2_4, t2_5, t2_6, t2_7⟩ := cellsOf_at K2.out
  obtain ⟨t4_0, t4_1, t4_2, t4_3, t4_4, t4_5, t4_6, t4_7⟩ := cellsOf_at K4.out
  obtain ⟨t6_0, t6_1, t6_2, t6_3⟩ := span_at' K6.out
  obtain ⟨t8_0, t8_1, t8_2, t8_3⟩ := span_at' K8.out
  obtain ⟨t10_0, t10_1, t10_2, t10_3, t10_4, t10_5, t10_6, t10_7⟩ := cellsOf_at K10.out
  obtain ⟨t12_0, t12_1, t12_2, t12_3, t12_4, t12_5, t12_6, t12_7⟩ := cellsOf_at K12.out
  go_wp2_with fail
  try clear t0_0 t0_1 t0_2 t0_3 t0_4 t0_5 t0_6 t0_7 t1_0 t1_1 t1_2 t1_3 t1_4 t1_5 t1_6 t1_7 t2_0 t2_1 t2_2 t2_3 t2_4 t2_5 t2_6 t2_7 t4_0 t4_1 t4_2 t4_3 t4_4 t4_5 t4_6 t4_7 t6_0 t6_1 t6_2 t6_3 t8_0 t8_1 t8_2 t8_3 t10_0 t10_1 t10_2 t10_3 t10_4 t10_5 t10_6 t10_7 t12_0 t12_1 t12_2 t12_3 t12_4 t12_5 t12_6 t12_7
  refine ((HG _).out).mono ?_
  rintro r X18 ⟨rfl, hb⟩
  replace K0 := keepB hb K0
  replace K1 := keepB hb K1
  replace K2 := keepB hb K2
  replace K4 := keepB hb K4
  replace K6 := keepB hb K6
  replace K8 := keepB hb K8
  replace K10 := keepB hb K10
  replace K12 := keepB hb K12
  replace hB := hB.trans (hb.mono hB.size)
  clear hb
  obtain ⟨t0_0, t0_1, t0_2, t0_3, t0_4, t0_5, t0_6, t0_7⟩ := cellsOf_at K0.out
  obtain ⟨t1_0, t1_1, t1_2, t1_3, t1_4, t1_5, t1_6, t1_7⟩ := cellsOf_at K1.out
  obtain ⟨t2_0, t2_1, t2_2, t2_3, t2_4, t2_5, t2_6, t2_7⟩ := cellsOf_at K2.out
  obtain ⟨t4_0, t4_1, t4_2, t4_3, t4_4, t4_5, t4_6, t4_7⟩ := cellsOf_at K4.out
  obtain ⟨t6_0, t6_1, t6_2, t6_3⟩ := span_at' K6.out
  obtain ⟨t8_0, t8_1, t8_2, t8_3⟩ := span_at' K8.out
  obtain ⟨t10_0, t10_1, t10_2, t10_3, t10_4, t10_5, t10_6, t10_7⟩ := cellsOf_at K10.out
  obtain ⟨t12_0, t12_1, t12_2, t12_3, t12_4, t12_5, t12_6, t12_7⟩ := cellsOf_at K12.out
  go_wp2_with fail
  try clear t0_0 t0_1 t0_2 t0_3 t0_4 t0_5 t0_6 t0_7 t1_0 t1_1 t1_2 t1_3 t1_4 t1_5 t1_6 t1_7 t2_0 t2_1 t2_2 t2_3 t2_4 t2_5 t2_6 t2_7 t4_0 t4_1 t4_2 t4_3 t4_4 t4_5 t4_6 t4_7 t6_0 t6_1 t6_2 t6_3 t8_0 t8_1 t8_2 t8_3 t10_0 t10_1 t10_2 t10_3 t10_4 t10_5 t10_6 t10_7 t12_0 t12_1 t12_2 t12_3 t12_4 t12_5 t12_6 t12_7
  refine (c22 X18 (HE.out.below hB) (HC.out.below hB HC.out.lt)).mono ?_
  rintro r X19 ⟨rfl, hb⟩
  replace K0 := keepB hb K0
  replace K1 := keepB hb K1
  replace K2 := keepB hb K2
  replace K4 := keepB hb K4
  replace K6 := keepB hb K6
  replace K8 := keepB hb K8
  replace K10 := keepB hb K10
  replace K12 := keepB hb K12
  replace hB := hB.trans (hb.mono hB.size)
  clear hb
  obtain ⟨t0_0, t0_1, t0_2, t0_3, t0_4, t0_5, t0_6, t0_7⟩ := cellsOf_at K0.out
  obtain ⟨t1_0, t1_1, t1_2, t1_3, t1_4, t1_5, t1_6, t1_7⟩ := cellsOf_at K1.out
  obtain ⟨t2_0, t2_1, t2_2, t2_3, t2_4, t2_5, t2_6, t2_7⟩ := cellsOf_at K2.out
  obtain ⟨t4_0, t4_1, t4_2, t4_3, t4_4, t4_5, t4_6, t4_7⟩ := cellsOf_at K4.out
  obtain ⟨t6_0, t6_1, t6_2, t6_3⟩ := span_at' K6.out
  obtain ⟨t8_0, t8_1, t8_2, t8_3⟩ := span_at' K8.out
  obtain ⟨t10_0, t10_1, t10_2, t10_3, t10_4, t10_5, t10_6, t10_7⟩ := cellsOf_at K10.out
  obtain ⟨t12_0, t12_1, t12_2, t12_3, t12_4, t12_5, t12_6, t12_7⟩ := cellsOf_at K12.out
  go_wp2_with fail
  go_ret
  exact ⟨rfl, hB⟩
set_option maxRecDepth 100000 in
set_option maxHeartbeats 8000000 in
theorem c14_zf (a1 a2 a3 a4 a5 a6 b1 b2 b3 b4 b5 b6 x1 x2 x3 x4 x5 x6 y1 y2 y3 y4 y5 y6 z1 z2 z3 z4 z5 z6 lo hi m n i f : Int) (p q u : Bool) (w : World) (hf0 : f ≠ 0) (HE : Hid (Env w)) (HC : Hid (Cell0 w)) (HX : ∀ W, Hid (Calls Tryz.prog 36 #[.agg #[.int .i64 a1, .int .i64 a2, .int .i64 a3, .int .i64 a4, .int .i64 a5, .int .i64 a6], .int .i64 m] W fun r w' => r = .returned (.tuple #[.agg #[.int .i64 x1, .int .i64 x2, .int .i64 x3, .int .i64 x4, .int .i64 x5, .int .i64 x6], .int .i64 0]) ∧ Below W.heap.size W w')) (HY : ∀ W, Hid (Calls Tryz.prog 36 #[.agg #[.int .i64 b1, .int .i64 b2, .int .i64 b3, .int .i64 b4, .int .i64 b5, .int .i64 b6], .int .i64 m] W fun r w' => r = .returned (.tuple #[.agg #[.int .i64 y1, .int .i64 y2, .int .i64 y3, .int .i64 y4, .int .i64 y5, .int .i64 y6], .int .i64 f]) ∧ Below W.heap.size W w')) (HS : ∀ W, Hid (Calls Tryz.prog 43 #[.agg #[.int .i64 a1, .int .i64 a2, .int .i64 a3, .int .i64 a4, .int .i64 a5, .int .i64 a6]] W fun r w' => r = .returned (.tuple #[.agg #[.int .i64 lo, .int .i64 hi], .int .i64 0]) ∧ Below W.heap.size W w')) (HT : ∀ W, Hid (Calls Tryz.prog 43 #[.agg #[.int .i64 x1, .int .i64 x2, .int .i64 x3, .int .i64 x4, .int .i64 x5, .int .i64 x6]] W fun r w' => r = .returned (.tuple #[.agg #[.int .i64 lo, .int .i64 hi], .int .i64 0]) ∧ Below W.heap.size W w')) (HZ : ∀ W, Hid (Calls Tryz.prog 36 #[.agg #[.int .i64 x1, .int .i64 x2, .int .i64 x3, .int .i64 x4, .int .i64 x5, .int .i64 x6], .int .i64 n] W fun r w' => r = .returned (.tuple #[.agg #[.int .i64 z1, .int .i64 z2, .int .i64 z3, .int .i64 z4, .int .i64 z5, .int .i64 z6], .int .i64 0]) ∧ Below W.heap.size W w')) (HW : ∀ W, Hid (Calls Tryz.prog 36 #[.agg #[.int .i64 a1, .int .i64 a2, .int .i64 a3, .int .i64 a4, .int .i64 a5, .int .i64 a6], .int .i64 (wrap64 (m + n))] W fun r w' => r = .returned (.tuple #[.agg #[.int .i64 z1, .int .i64 z2, .int .i64 z3, .int .i64 z4, .int .i64 z5, .int .i64 z6], .int .i64 0]) ∧ Below W.heap.size W w')) : Calls Tryz.prog 14 #[.agg #[.int .i64 a1, .int .i64 a2, .int .i64 a3, .int .i64 a4, .int .i64 a5, .int .i64 a6], .agg #[.int .i64 b1, .int .i64 b2, .int .i64 b3, .int .i64 b4, .int .i64 b5, .int .i64 b6], .int .i64 m, .int .i64 n] w fun r w' => r = .returned (.bool true) ∧ Below w.heap.size w w' := by
  go_enter Tryz.func14, Tryz.ntmps14
  go_wp2_with fail
  refine call_named (fun V => Below w.heap.size w V ∧ Hid (V.heap[w.heap.size]? = some (cellsOf ⟨a1, a2, a3, a4, a5, a6⟩)) ∧ Hid (V.heap[w.heap.size + 1]? = some (cellsOf ⟨b1, b2, b3, b4, b5, b6⟩))) (box_two _ _ _) ?_
  rintro X0 ⟨hB, K0, K1⟩
  refine ((HX _).out).mono ?_
  rintro r X1 ⟨rfl, hb⟩
  replace K0 := keepB hb K0
  replace K1 := keepB hb K1
  replace hB := hB.trans (hb.mono hB.size)
  clear hb
  obtain ⟨B2, hB2⟩ : ∃ b, X1.heap.size = b := ⟨_, rfl⟩
  obtain ⟨t0_0, t0_1, t0_2, t0_3, t0_4, t0_5, t0_6, t0_7⟩ := cellsOf_at K0.out
  obtain ⟨t1_0, t1_1, t1_2, t1_3, t1_4, t1_5, t1_6, t1_7⟩ := cellsOf_at K1.out
  rw [hB2] at t0_7 t1_7
  go_wp2_with fail
  try clear t0_0 t0_1 t0_2 t0_3 t0_4 t0_5 t0_6 t0_7 t1_0 t1_1 t1_2 t1_3 t1_4 t1_5 t1_6 t1_7
  try rw [hB2]
  refine call_named (fun V => Below w.heap.size w V ∧ Hid (V.heap[w.heap.size]? = some (cellsOf ⟨a1, a2, a3, a4, a5, a6⟩)) ∧ Hid (V.heap[w.heap.size + 1]? = some (cellsOf ⟨b1, b2, b3, b4, b5, b6⟩)) ∧ Hid (V.heap[B2]? = some (cellsOf ⟨x1, x2, x3, x4, x5, x6⟩))) ⟨xa hB _, keepA K0 _, keepA K1 _, newA _ _ _ hB2⟩ ?_
  clear hB K0 K1 hB2
  rintro V2 ⟨hB, K0, K1, K2⟩
  refine ((HY _).out).mono ?_
  rintro r X3 ⟨rfl, hb⟩
  replace K0 := keepB hb K0
  replace K1 := keepB hb K1
  replace K2 := keepB hb K2
  replace hB := hB.trans (hb.mono hB.size)
  clear hb
  obtain ⟨B4, hB4⟩ : ∃ b, X3.heap.size = b := ⟨_, rfl⟩
  obtain ⟨t0_0, t0_1, t0_2, t0_3, t0_4, t0_5, t0_6, t0_7⟩ := cellsOf_at K0.out
  obtain ⟨t1_0, t1_1, t1_2, t1_3, t1_4, t1_5, t1_6, t1_7⟩ := cellsOf_at K1.out
  obtain ⟨t2_0, t2_1, t2_2, t2_3, t2_4, t2_5, t2_6, t2_7⟩ := cellsOf_at K2.out
  rw [hB4] at t0_7 t1_7 t2_7
  go_wp2_with fail
  try clear t0_0 t0_1 t0_2 t0_3 t0_4 t0_5 t0_6 t0_7 t1_0 t1_1 t1_2 t1_3 t1_4 t1_5 t1_6 t1_7 t2_0 t2_1 t2_2 t2_3 t2_4 t2_5 t2_6 t2_7
  try rw [hB4]
  refine call_named (fun V => Below w.heap.size w V ∧ Hid (V.heap[w.heap.size]? = some (cellsOf ⟨a1, a2, a3, a4, a5, a6⟩)) ∧ Hid (V.heap[w.heap.size + 1]? = some (cellsOf ⟨b1, b2, b3, b4, b5, b6⟩)) ∧ Hid (V.heap[B2]? = some (cellsOf ⟨x1, x2, x3, x4, x5, x6⟩)) ∧ Hid (V.heap[B4]? = some (cellsOf ⟨y1, y2, y3, y4, y5, y6⟩))) ⟨xa hB _, keepA K0 _, keepA K1 _, keepA K2 _, newA _ _ _ hB4⟩ ?_
  clear hB K0 K1 K2 hB4
  rintro V4 ⟨hB, K0, K1, K2, K4⟩
  refine ((HS _).out).mono ?_
  rintro r X5 ⟨rfl, hb⟩
  replace K0 := keepB hb K0
  replace K1 := keepB hb K1
  replace K2 := keepB hb K2
  replace K4 := keepB hb K4
  replace hB := hB.trans (hb.mono hB.size)
  clear hb
  obtain ⟨B6, hB6⟩ : ∃ b, X5.heap.size = b := ⟨_, rfl⟩
  obtain ⟨t0_0, t0_1, t0_2, t0_3, t0_4, t0_5, t0_6, t0_7⟩ := cellsOf_at K0.out
  obtain ⟨t1_0, t1_1, t1_2, t1_3, t1_4, t1_5, t1_6, t1_7⟩ := cellsOf_at K1.out
  obtain ⟨t2_0, t2_1, t2_2, t2_3, t2_4, t2_5, t2_6, t2_7⟩ := cellsOf_at K2.out
  obtain ⟨t4_0, t4_1, t4_2, t4_3, t4_4, t4_5, t4_6, t4_7⟩ := cellsOf_at K4.out
  rw [hB6] at t0_7 t1_7 t2_7 t4_7
  go_wp2_with fail
  try clear t0_0 t0_1 t0_2 t0_3 t0_4 t0_5 t0_6 t0_7 t1_0 t1_1 t1_2 t1_3 t1_4 t1_5 t1_6 t1_7 t2_0 t2_1 t2_2 t2_3 t2_4 t2_5 t2_6 t2_7 t4_0 t4_1 t4_2 t4_3 t4_4 t4_5 t4_6 t4_7
  try rw [hB6]
  refine call_named (fun V => Below w.heap.size w V ∧ Hid (V.heap[w.heap.size]? = some (cellsOf ⟨a1, a2, a3, a4, a5, a6⟩)) ∧ Hid (V.heap[w.heap.size + 1]? = some (cellsOf ⟨b1, b2, b3, b4, b5, b6⟩)) ∧ Hid (V.heap[B2]? = some (cellsOf ⟨x1, x2, x3, x4, x5, x6⟩)) ∧ Hid (V.heap[B4]? = some (cellsOf ⟨y1, y2, y3, y4, y5, y6⟩)) ∧ Hid (V.heap[B6]? = some (spanOf ⟨lo, hi⟩))) ⟨xa hB _, keepA K0 _, keepA K1 _, keepA K2 _, keepA K4 _, newA _ _ _ hB6⟩ ?_
  clear hB K0 K1 K2 K4 hB6
  rintro V6 ⟨hB, K0, K1, K2, K4, K6⟩
  refine ((HT _).out).mono ?_
  rintro r X7 ⟨rfl, hb⟩
  replace K0 := keepB hb K0
  replace K1 := keepB hb K1
  replace K2 := keepB hb K2
  replace K4 := keepB hb K4
  replace K6 := keepB hb K6
  replace hB := hB.trans (hb.mono hB.size)
  clear hb
  obtain ⟨B8, hB8⟩ : ∃ b, X7.heap.size = b := ⟨_, rfl⟩
  obtain ⟨t0_0, t0_1, t0_2, t0_3, t0_4, t0_5, t0_6, t0_7⟩ := cellsOf_at K0.out
  obtain ⟨t1_0, t1_1, t1_2, t1_3, t1_4, t1_5, t1_6, t1_7⟩ := cellsOf_at K1.out
  obtain ⟨t2_0, t2_1, t2_2, t2_3, t2_4, t2_5, t2_6, t2_7⟩ := cellsOf_at K2.out
  obtain ⟨t4_0, t4_1, t4_2, t4_3, t4_4, t4_5, t4_6, t4_7⟩ := cellsOf_at K4.out
  obtain ⟨t6_0, t6_1, t6_2, t6_3⟩ := span_at' K6.out
  rw [hB8] at t0_7 t1_7 t2_7 t4_7 t6_3
  go_wp2_with fail
  try clear t0_0 t0_1 t0_2 t0_3 t0_4 t0_5 t0_6 t0_7 t1_0 t1_1 t1_2 t1_3 t1_4 t1_5 t1_6 t1_7 t2_0 t2_1 t2_2 t2_3 t2_4 t2_5 t2_6 t2_7 t4_0 t4_1 t4_2 t4_3 t4_4 t4_5 t4_6 t4_7 t6_0 t6_1 t6_2 t6_3
  try rw [hB8]
  refine call_named (fun V => Below w.heap.size w V ∧ Hid (V.heap[w.heap.size]? = some (cellsOf ⟨a1, a2, a3, a4, a5, a6⟩)) ∧ Hid (V.heap[w.heap.size + 1]? = some (cellsOf ⟨b1, b2, b3, b4, b5, b6⟩)) ∧ Hid (V.heap[B2]? = some (cellsOf ⟨x1, x2, x3, x4, x5, x6⟩)) ∧ Hid (V.heap[B4]? = some (cellsOf ⟨y1, y2, y3, y4, y5, y6⟩)) ∧ Hid (V.heap[B6]? = some (spanOf ⟨lo, hi⟩)) ∧ Hid (V.heap[B8]? = some (spanOf ⟨lo, hi⟩))) ⟨xa hB _, keepA K0 _, keepA K1 _, keepA K2 _, keepA K4 _, keepA K6 _, newA _ _ _ hB8⟩ ?_
  clear hB K0 K1 K2 K4 K6 hB8
  rintro V8 ⟨hB, K0, K1, K2, K4, K6, K8⟩
  refine ((HZ _).out).mono ?_
  rintro r X9 ⟨rfl, hb⟩
  replace K0 := keepB hb K0
  replace K1 := keepB hb K1
  replace K2 := keepB hb K2
  replace K4 := keepB hb K4
  replace K6 := keepB hb K6
  replace K8 := keepB hb K8
  replace hB := hB.trans (hb.mono hB.size)
  clear hb
  obtain ⟨B10, hB10⟩ : ∃ b, X9.heap.size = b := ⟨_, rfl⟩
  obtain ⟨t0_0, t0_1, t0_2, t0_3, t0_4, t0_5, t0_6, t0_7⟩ := cellsOf_at K0.out
  obtain ⟨t1_0, t1_1, t1_2, t1_3, t1_4, t1_5, t1_6, t1_7⟩ := cellsOf_at K1.out
  obtain ⟨t2_0, t2_1, t2_2, t2_3, t2_4, t2_5, t2_6, t2_7⟩ := cellsOf_at K2.out
  obtain ⟨t4_0, t4_1, t4_2, t4_3, t4_4, t4_5, t4_6, t4_7⟩ := cellsOf_at K4.out
  obtain ⟨t6_0, t6_1, t6_2, t6_3⟩ := span_at' K6.out
  obtain ⟨t8_0, t8_1, t8_2, t8_3⟩ := span_at' K8.out
  rw [hB10] at t0_7 t1_7 t2_7 t4_7 t6_3 t8_3
  go_wp2_with fail
  try clear t0_0 t0_1 t0_2 t0_3 t0_4 t0_5 t0_6 t0_7 t1_0 t1_1 t1_2 t1_3 t1_4 t1_5 t1_6 t1_7 t2_0 t2_1 t2_2 t2_3 t2_4 t2_5 t2_6 t2_7 t4_0 t4_1 t4_2 t4_3 t4_4 t4_5 t4_6 t4_7 t6_0 t6_1 t6_2 t6_3 t8_0 t8_1 t8_2 t8_3
  try rw [hB10]
  refine call_named (fun V => Below w.heap.size w V ∧ Hid (V.heap[w.heap.size]? = some (cellsOf ⟨a1, a2, a3, a4, a5, a6⟩)) ∧ Hid (V.heap[w.heap.size + 1]? = some (cellsOf ⟨b1, b2, b3, b4, b5, b6⟩)) ∧ Hid (V.heap[B2]? = some (cellsOf ⟨x1, x2, x3, x4, x5, x6⟩)) ∧ Hid (V.heap[B4]? = some (cellsOf ⟨y1, y2, y3, y4, y5, y6⟩)) ∧ Hid (V.heap[B6]? = some (spanOf ⟨lo, hi⟩)) ∧ Hid (V.heap[B8]? = some (spanOf ⟨lo, hi⟩)) ∧ Hid (V.heap[B10]? = some (cellsOf ⟨z1, z2, z3, z4, z5, z6⟩))) ⟨xa hB _, keepA K0 _, keepA K1 _, keepA K2 _, keepA K4 _, keepA K6 _, keepA K8 _, newA _ _ _ hB10⟩ ?_
  clear hB K0 K1 K2 K4 K6 K8 hB10
  rintro V10 ⟨hB, K0, K1, K2, K4, K6, K8, K10⟩
  refine ((HW _).out).mono ?_
  rintro r X11 ⟨rfl, hb⟩
  replace K0 := keepB hb K0
  replace K1 := keepB hb K1
  replace K2 := keepB hb K2
  replace K4 := keepB hb K4
  replace K6 := keepB hb K6
  replace K8 := keepB hb K8
  replace K10 := keepB hb K10
  replace hB := hB.trans (hb.mono hB.size)
  clear hb
  obtain ⟨B12, hB12⟩ : ∃ b, X11.heap.size = b := ⟨_, rfl⟩
  obtain ⟨t0_0, t0_1, t0_2, t0_3, t0_4, t0_5, t0_6, t0_7⟩ := cellsOf_at K0.out
  obtain ⟨t1_0, t1_1, t1_2, t1_3, t1_4, t1_5, t1_6, t1_7⟩ := cellsOf_at K1.out
  obtain ⟨t2_0, t2_1, t2_2, t2_3, t2_4, t2_5, t2_6, t2_7⟩ := cellsOf_at K2.out
  obtain ⟨t4_0, t4_1, t4_2, t4_3, t4_4, t4_5, t4_6, t4_7⟩ := cellsOf_at K4.out
  obtain ⟨t6_0, t6_1, t6_2, t6_3⟩ := span_at' K6.out
  obtain ⟨t8_0, t8_1, t8_2, t8_3⟩ := span_at' K8.out
  obtain ⟨t10_0, t10_1, t10_2, t10_3, t10_4, t10_5, t10_6, t10_7⟩ := cellsOf_at K10.out
  rw [hB12] at t0_7 t1_7 t2_7 t4_7 t6_3 t8_3 t10_7
  go_wp2_with fail
  try clear t0_0 t0_1 t0_2 t0_3 t0_4 t0_5 t0_6 t0_7 t1_0 t1_1 t1_2 t1_3 t1_4 t1_5 t1_6 t1_7 t2_0 t2_1 t2_2 t2_3 t2_4 t2_5 t2_6 t2_7 t4_0 t4_1 t4_2 t4_3 t4_4 t4_5 t4_6 t4_7 t6_0 t6_1 t6_2 t6_3 t8_0 t8_1 t8_2 t8_3 t10_0 t10_1 t10_2 t10_3 t10_4 t10_5 t10_6 t10_7
  try rw [hB12]
  refine call_named (fun V => Below w.heap.size w V ∧ Hid (V.heap[w.heap.size]? = some (cellsOf ⟨a1, a2, a3, a4, a5, a6⟩)) ∧ Hid (V.heap[w.heap.size + 1]? = some (cellsOf ⟨b1, b2, b3, b4, b5, b6⟩)) ∧ Hid (V.heap[B2]? = some (cellsOf ⟨x1, x2, x3, x4, x5, x6⟩)) ∧ Hid (V.heap[B4]? = some (cellsOf ⟨y1, y2, y3, y4, y5, y6⟩)) ∧ Hid (V.heap[B6]? = some (spanOf ⟨lo, hi⟩)) ∧ Hid (V.heap[B8]? = some (spanOf ⟨lo, hi⟩)) ∧ Hid (V.heap[B10]? = some (cellsOf ⟨z1, z2, z3, z4, z5, z6⟩)) ∧ Hid (V.heap[B12]? = some (cellsOf ⟨z1, z2, z3, z4, z5, z6⟩))) ⟨xa hB _, keepA K0 _, keepA K1 _, keepA K2 _, keepA K4 _, keepA K6 _, keepA K8 _, keepA K10 _, newA _ _ _ hB12⟩ ?_
  clear hB K0 K1 K2 K4 K6 K8 K10 hB12
  rintro V12 ⟨hB, K0, K1, K2, K4, K6, K8, K10, K12⟩
  refine (c22 V12 (HE.out.below hB) (HC.out.below hB HC.out.lt)).mono ?_
  rintro r X13 ⟨rfl, hb⟩
  replace K0 := keepB hb K0
  replace K1 := keepB hb K1
  replace K2 := keepB hb K2
  replace K4 := keepB hb K4
  replace K6 := keepB hb K6
  replace K8 := keepB hb K8
  replace K10 := keepB hb K10
  replace K12 := keepB hb K12
  replace hB := hB.trans (hb.mono hB.size)
  clear hb
  obtain ⟨t0_0, t0_1, t0_2, t0_3, t0_4, t0_5, t0_6, t0_7⟩ := cellsOf_at K0.out
  obtain ⟨t1_0, t1_1, t1_2, t1_3, t1_4, t1_5, t1_6, t1_7⟩ := cellsOf_at K1.out
  obtain ⟨t2_0, t2_1, t2_2, t2_3, t2_4, t2_5, t2_6, t2_7⟩ := cellsOf_at K2.out
  obtain ⟨t4_0, t4_1, t4_2, t4_3, t4_4, t4_5, t4_6, t4_7⟩ := cellsOf_at K4.out
  obtain ⟨t6_0, t6_1, t6_2, t6_3⟩ := span_at' K6.out
  obtain ⟨t8_0, t8_1, t8_2, t8_3⟩ := span_at' K8.out
  obtain ⟨t10_0, t10_1, t10_2, t10_3, t10_4, t10_5, t10_6, t10_7⟩ := cellsOf_at K10.out
  obtain ⟨t12_0, t12_1, t12_2, t12_3, t12_4, t12_5, t12_6, t12_7⟩ := cellsOf_at K12.out
  go_wp2_with fail
  go_ret
  exact ⟨rfl, hB⟩
end Go.Proofs.YthifeoebefbalaaGreatDoor

namespace Go.Proofs.YthifeoebefbalaaGreatDoor
open Go.RowKit

theorem wrap64_of (n : Int) (h : -9223372036854775808 ≤ n ∧ n ≤ 9223372036854775807) : wrap64 n = n := by unfold wrap64; omega
theorem movedR_ok {c : Card} {m : Int} (h : (movedR c m).2 = 0) : isCard c = true ∧ -c.da ≤ m ∧ m ≤ 60000 - c.da := by
  unfold movedR at h
  by_cases h1 : isCard c = true
  · rw [if_pos h1] at h
    by_cases h2 : m < -c.da ∨ 60000 - c.da < m
    · rw [if_pos h2] at h; cases h
    · exact ⟨h1, by omega, by omega⟩
  · rw [if_neg h1] at h; cases h
theorem movedR_eq {st da dy ki am fi m : Int} (h1 : isCard ⟨st, da, dy, ki, am, fi⟩ = true) (h2 : -da ≤ m) (h3 : m ≤ 60000 - da) : movedR ⟨st, da, dy, ki, am, fi⟩ m = (⟨st, da + m, dy, ki, am, fi⟩, 0) := by
  rw [movedR, if_pos h1, if_neg (by simp only; omega)]
theorem isCard_moved {st da dy ki am fi m : Int} (h1 : isCard ⟨st, da, dy, ki, am, fi⟩ = true) (h2 : -da ≤ m) (h3 : m ≤ 60000 - da) : isCard ⟨st, da + m, dy, ki, am, fi⟩ = true := by
  have hd : within (da + m) 0 60000 = true := within_true.2 (by omega)
  have hd' : within da 0 60000 = true := by
    obtain ⟨-, -, h4, h5, -⟩ := isCard_true h1
    exact within_true.2 ⟨h4, h5⟩
  simp only [isCard] at h1 ⊢
  rw [hd]
  rw [hd'] at h1
  exact h1
theorem c36_eq {st da dy ki am fi m x1 x2 x3 x4 x5 x6 e : Int} (h : movedR ⟨st, da, dy, ki, am, fi⟩ m = (⟨x1, x2, x3, x4, x5, x6⟩, e)) : ∀ W, Hid (Calls Tryz.prog 36 #[.agg #[.int .i64 st, .int .i64 da, .int .i64 dy, .int .i64 ki, .int .i64 am, .int .i64 fi], .int .i64 m] W fun r w' => r = .returned (.tuple #[.agg #[.int .i64 x1, .int .i64 x2, .int .i64 x3, .int .i64 x4, .int .i64 x5, .int .i64 x6], .int .i64 e]) ∧ Below W.heap.size W w') := fun W => Lib.hid (by
  have H := c36 st da dy ki am fi m W
  rw [h] at H
  exact H)
theorem says_moved (st da da' dy ki am fi : Int) : says ⟨st, da, dy, ki, am, fi⟩ = says ⟨st, da', dy, ki, am, fi⟩ := rfl
theorem dec_moved (x y m : Int) : decide (x + m = y + m) = decide (x = y) := by
  by_cases h : x = y
  · simp [h]
  · rw [decide_eq_false h, decide_eq_false (by omega)]
theorem sameOf_moved (a1 a2 a3 a4 a5 a6 b1 b2 b3 b4 b5 b6 m : Int) : sameOf ⟨a1, a2 + m, a3, a4, a5, a6⟩ ⟨b1, b2 + m, b3, b4, b5, b6⟩ = sameOf ⟨a1, a2, a3, a4, a5, a6⟩ ⟨b1, b2, b3, b4, b5, b6⟩ := by
  simp only [sameOf, dec_moved]
theorem some2_moved (a1 a2 a3 a4 a5 a6 b1 b2 b3 b4 b5 b6 m : Int) : some2 ⟨a1, a2 + m, a3, a4, a5, a6⟩ ⟨b1, b2 + m, b3, b4, b5, b6⟩ = some2 ⟨a1, a2, a3, a4, a5, a6⟩ ⟨b1, b2, b3, b4, b5, b6⟩ := rfl
theorem sameSays_moved (a1 a2 a3 a4 a5 a6 b1 b2 b3 b4 b5 b6 m : Int) : sameSays ⟨a1, a2 + m, a3, a4, a5, a6⟩ ⟨b1, b2 + m, b3, b4, b5, b6⟩ = sameSays ⟨a1, a2, a3, a4, a5, a6⟩ ⟨b1, b2, b3, b4, b5, b6⟩ := rfl
theorem followsB_moved (a1 a2 a3 a4 a5 a6 b1 b2 b3 b4 b5 b6 m : Int) : followsB ⟨a1, a2 + m, a3, a4, a5, a6⟩ ⟨b1, b2 + m, b3, b4, b5, b6⟩ = followsB ⟨a1, a2, a3, a4, a5, a6⟩ ⟨b1, b2, b3, b4, b5, b6⟩ := by
  have h : decide (b2 + m = a2 + m + b3) = decide (b2 = a2 + b3) := by
    by_cases h : b2 = a2 + b3
    · rw [decide_eq_true h, decide_eq_true (by omega)]
    · rw [decide_eq_false h, decide_eq_false (by omega)]
  simp only [followsB, h]
theorem c45_eq {a1 a2 a3 a4 a5 a6 b1 b2 b3 b4 b5 b6 : Int} {p : Bool} (h1 : isCard ⟨a1, a2, a3, a4, a5, a6⟩ = true) (h2 : isCard ⟨b1, b2, b3, b4, b5, b6⟩ = true) (hp : alikeB ⟨a1, a2, a3, a4, a5, a6⟩ ⟨b1, b2, b3, b4, b5, b6⟩ = p) : ∀ W, Hid (Calls Tryz.prog 45 #[.agg #[.int .i64 a1, .int .i64 a2, .int .i64 a3, .int .i64 a4, .int .i64 a5, .int .i64 a6], .agg #[.int .i64 b1, .int .i64 b2, .int .i64 b3, .int .i64 b4, .int .i64 b5, .int .i64 b6]] W fun r w' => r = .returned (.tuple #[.bool p, .int .i64 0]) ∧ Below W.heap.size W w') := fun W => Lib.hid (by
  have H := c45 ⟨a1, a2, a3, a4, a5, a6⟩ ⟨b1, b2, b3, b4, b5, b6⟩ W
  rw [pairE, h1, h2, hp] at H
  exact H)
theorem c47_eq {a1 a2 a3 a4 a5 a6 b1 b2 b3 b4 b5 b6 : Int} {p : Bool} (h1 : isCard ⟨a1, a2, a3, a4, a5, a6⟩ = true) (h2 : isCard ⟨b1, b2, b3, b4, b5, b6⟩ = true) (hp : (sameOf ⟨a1, a2, a3, a4, a5, a6⟩ ⟨b1, b2, b3, b4, b5, b6⟩ && !some2 ⟨a1, a2, a3, a4, a5, a6⟩ ⟨b1, b2, b3, b4, b5, b6⟩) = p) : ∀ W, Hid (Calls Tryz.prog 47 #[.agg #[.int .i64 a1, .int .i64 a2, .int .i64 a3, .int .i64 a4, .int .i64 a5, .int .i64 a6], .agg #[.int .i64 b1, .int .i64 b2, .int .i64 b3, .int .i64 b4, .int .i64 b5, .int .i64 b6]] W fun r w' => r = .returned (.tuple #[.bool p, .int .i64 0]) ∧ Below W.heap.size W w') := fun W => Lib.hid (by
  have H := c47_any ⟨a1, a2, a3, a4, a5, a6⟩ ⟨b1, b2, b3, b4, b5, b6⟩ W
  rw [clashB, pairE, h1, h2, hp] at H
  exact H)
theorem c49_eq {a1 a2 a3 a4 a5 a6 b1 b2 b3 b4 b5 b6 : Int} {p : Bool} (h1 : isCard ⟨a1, a2, a3, a4, a5, a6⟩ = true) (h2 : isCard ⟨b1, b2, b3, b4, b5, b6⟩ = true) (hp : followsB ⟨a1, a2, a3, a4, a5, a6⟩ ⟨b1, b2, b3, b4, b5, b6⟩ = p) : ∀ W, Hid (Calls Tryz.prog 49 #[.agg #[.int .i64 a1, .int .i64 a2, .int .i64 a3, .int .i64 a4, .int .i64 a5, .int .i64 a6], .agg #[.int .i64 b1, .int .i64 b2, .int .i64 b3, .int .i64 b4, .int .i64 b5, .int .i64 b6]] W fun r w' => r = .returned (.tuple #[.bool p, .int .i64 0]) ∧ Below W.heap.size W w') := fun W => Lib.hid (by
  have H := c49 ⟨a1, a2, a3, a4, a5, a6⟩ ⟨b1, b2, b3, b4, b5, b6⟩ W
  rw [pairE, h1, h2, hp] at H
  exact H)
theorem c43_eq {a1 a2 a3 a4 a5 a6 lo hi : Int} (h1 : isCard ⟨a1, a2, a3, a4, a5, a6⟩ = true) (hs : says ⟨a1, a2, a3, a4, a5, a6⟩ = ⟨lo, hi⟩) : ∀ W, Hid (Calls Tryz.prog 43 #[.agg #[.int .i64 a1, .int .i64 a2, .int .i64 a3, .int .i64 a4, .int .i64 a5, .int .i64 a6]] W fun r w' => r = .returned (.tuple #[.agg #[.int .i64 lo, .int .i64 hi], .int .i64 0]) ∧ Below W.heap.size W w') := fun W => Lib.hid (by
  have H := c43_any a1 a2 a3 a4 a5 a6 W
  rw [saysE, checkE, h1, if_pos rfl, if_pos rfl, hs] at H
  exact H)
theorem c14 (a1 a2 a3 a4 a5 a6 b1 b2 b3 b4 b5 b6 m n : Int) (w : World) (hE : Env w) (hC : Cell0 w) : Calls Tryz.prog 14 #[.agg #[.int .i64 a1, .int .i64 a2, .int .i64 a3, .int .i64 a4, .int .i64 a5, .int .i64 a6], .agg #[.int .i64 b1, .int .i64 b2, .int .i64 b3, .int .i64 b4, .int .i64 b5, .int .i64 b6], .int .i64 m, .int .i64 n] w fun e w' => e = .returned (.bool true) ∧ Below w.heap.size w w' := by
  have HE := Lib.hid hE
  have HC := Lib.hid hC
  clear hE hC
  by_cases he : (movedR ⟨a1, a2, a3, a4, a5, a6⟩ m).2 = 0
  · obtain ⟨hI, h1, h2⟩ := movedR_ok he
    simp only at h1 h2
    have hX := isCard_moved hI h1 h2
    have HX := c36_eq (movedR_eq hI h1 h2)
    obtain ⟨⟨lo, hi⟩, hs⟩ : ∃ s, says ⟨a1, a2, a3, a4, a5, a6⟩ = s := ⟨_, rfl⟩
    have HS := c43_eq hI hs
    have HT := c43_eq hX ((says_moved a1 (a2 + m) a2 a3 a4 a5 a6).trans hs)
    by_cases hf : (movedR ⟨b1, b2, b3, b4, b5, b6⟩ m).2 = 0
    · obtain ⟨hJ, h3, h4⟩ := movedR_ok hf
      simp only at h3 h4
      have hY := isCard_moved hJ h3 h4
      have HY := c36_eq (movedR_eq hJ h3 h4)
      have HP := c45_eq hI hJ rfl
      have HQ := c45_eq hX hY (p := alikeB ⟨a1, a2, a3, a4, a5, a6⟩ ⟨b1, b2, b3, b4, b5, b6⟩) (by rw [alikeB, alikeB, sameOf_moved, sameSays_moved])
      have HU := c47_eq hI hJ rfl
      have HV := c47_eq hX hY (p := (sameOf ⟨a1, a2, a3, a4, a5, a6⟩ ⟨b1, b2, b3, b4, b5, b6⟩ && !some2 ⟨a1, a2, a3, a4, a5, a6⟩ ⟨b1, b2, b3, b4, b5, b6⟩)) (by rw [sameOf_moved, some2_moved])
      have HF := c49_eq hI hJ rfl
      have HG := c49_eq hX hY (p := followsB ⟨a1, a2, a3, a4, a5, a6⟩ ⟨b1, b2, b3, b4, b5, b6⟩) (followsB_moved a1 a2 a3 a4 a5 a6 b1 b2 b3 b4 b5 b6 m)
      by_cases hi0 : (movedR ⟨a1, a2 + m, a3, a4, a5, a6⟩ n).2 = 0
      · obtain ⟨-, h5, h6⟩ := movedR_ok hi0
        simp only at h5 h6
        obtain ⟨-, -, g3, g4, -⟩ := isCard_true hI
        simp only at g3 g4
        have HZ := c36_eq (movedR_eq hX h5 h6)
        have HW := c36_eq (movedR_eq hI (m := m + n) (by omega) (by omega))
        rw [← Int.add_assoc, ← wrap64_of (m + n) (by omega)] at HW
        exact c14_z (i := 0) (f := 0) (HE := HE) (HC := HC) (HX := HX) (HY := HY) (HS := HS) (HT := HT) (HZ := HZ) (HW := HW) (HP := HP) (HQ := HQ) (HU := HU) (HV := HV) (HF := HF) (HG := HG)
      · exact c14_n (f := 0) (hi0 := hi0) (HE := HE) (HC := HC) (HX := HX) (HY := HY) (HS := HS) (HT := HT) (HZ := fun W => Lib.hid (c36 a1 (a2 + m) a3 a4 a5 a6 n W)) (HP := HP) (HQ := HQ) (HU := HU) (HV := HV) (HF := HF) (HG := HG)
    · have HY := fun W => Lib.hid (c36 b1 b2 b3 b4 b5 b6 m W)
      by_cases hi0 : (movedR ⟨a1, a2 + m, a3, a4, a5, a6⟩ n).2 = 0
      · obtain ⟨-, h5, h6⟩ := movedR_ok hi0
        simp only at h5 h6
        obtain ⟨-, -, g3, g4, -⟩ := isCard_true hI
        simp only at g3 g4
        have HZ := c36_eq (movedR_eq hX h5 h6)
        have HW := c36_eq (movedR_eq hI (m := m + n) (by omega) (by omega))
        rw [← Int.add_assoc, ← wrap64_of (m + n) (by omega)] at HW
        exact c14_zf (i := 0) (p := true) (q := true) (u := true) (hf0 := hf) (HE := HE) (HC := HC) (HX := HX) (HY := HY) (HS := HS) (HT := HT) (HZ := HZ) (HW := HW)
      · exact c14_nf (p := true) (q := true) (u := true) (hi0 := hi0) (hf0 := hf) (HE := HE) (HC := HC) (HX := HX) (HY := HY) (HS := HS) (HT := HT) (HZ := fun W => Lib.hid (c36 a1 (a2 + m) a3 a4 a5 a6 n W))
  · exact c14_e (n := n) (he := he) (HE := HE) (HC := HC) (HX := fun W => Lib.hid (c36 a1 a2 a3 a4 a5 a6 m W)) (HY := fun W => Lib.hid (c36 b1 b2 b3 b4 b5 b6 m W))
theorem w14 (a1 a2 a3 a4 a5 a6 b1 b2 b3 b4 b5 b6 m n : Int) (w : World) (_ : intIn a1) (_ : intIn a2) (_ : intIn a3) (_ : intIn a4) (_ : intIn a5) (_ : intIn a6) (_ : intIn b1) (_ : intIn b2) (_ : intIn b3) (_ : intIn b4) (_ : intIn b5) (_ : intIn b6) (_ : intIn m) (_ : intIn n) (hE : Env w) (hC : Cell0 w) : Calls Tryz.prog 14 #[.agg #[.int .i64 a1, .int .i64 a2, .int .i64 a3, .int .i64 a4, .int .i64 a5, .int .i64 a6], .agg #[.int .i64 b1, .int .i64 b2, .int .i64 b3, .int .i64 b4, .int .i64 b5, .int .i64 b6], .int .i64 m, .int .i64 n] w fun e w' => e = .returned (.bool true) ∧ Below w.heap.size w w' := c14 a1 a2 a3 a4 a5 a6 b1 b2 b3 b4 b5 b6 m n w hE hC
end Go.Proofs.YthifeoebefbalaaGreatDoor
