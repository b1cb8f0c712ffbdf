/- The reference: the date that one word is. -/
import Derived.Test.YthifeoebefbalaaGreatDoorY5
import Derived.Test.YthifeoebefbalaaGreatDoorX4
set_option linter.unusedVariables false
set_option linter.unusedSimpArgs false
namespace Go.Proofs.YthifeoebefbalaaGreatDoor
open Go.RowKit

def oneT (a b c : List UInt8) : Option Dt := if 0 ≤ orM (numO a) ∧ 1 ≤ orM (numO b) ∧ orM (numO b) ≤ 12 ∧ 0 ≤ orM (yearO c) then some ⟨orM (yearO c), orM (numO b), orM (numO a)⟩ else none
def oneAt (s : UInt8) (l : List UInt8) : Option Dt := match splitL s l with
  | [a, b, c] => if s = 45 ∧ a.length = 4 then oneT c b a else oneT a b c
  | _ => none
def oneFrom (l : List UInt8) : List UInt8 → Option Dt
  | [] => none
  | s :: ss => match oneAt s l with
    | some d => some d
    | none => oneFrom l ss
def oneO (l : List UInt8) : Option Dt := oneFrom l signs
def datedV (n : Int) : Option Dt → Value
  | some d => .agg #[.int .i64 d.y, .int .i64 d.m, .int .i64 d.d, .int .i64 n]
  | none => .agg #[.int .i64 0, .int .i64 0, .int .i64 0, .int .i64 0]
theorem one_step {l : List UInt8} {k : Nat} {s : UInt8} (hs : signs[k]? = some s) : oneFrom l (signs.drop k) = match oneAt s l with
    | some d => some d
    | none => oneFrom l (signs.drop (k + 1)) := by
  have : k = 0 ∨ k = 1 ∨ k = 2 := by
    have := (List.getElem?_eq_some_iff.1 hs).1
    simp [signs] at this; omega
  rcases this with rfl | rfl | rfl <;> (cases hs; rfl)
theorem c162_H {l : List UInt8} {x : Int} (h : orM (yearO l) = x) : ∀ W, Hid (Calls Tryz.prog 162 #[.string ⟨l.toArray⟩] W fun e w' => e = .returned (.int .i64 x) ∧ W = w') := fun W => Lib.hid (by rw [← h]; exact c162 l W)
theorem strs_three {w : World} {v : Value} {a b c : List UInt8} (h : StrV w v [a, b, c]) : ∃ g cap, v = .slice (some ⟨g, 0, none⟩) 3 cap ∧ 3 ≤ cap ∧ g < w.heap.size ∧ w.cell? ⟨g, 0, none⟩ = some (.string ⟨a.toArray⟩) ∧ w.cell? ⟨g, 1, none⟩ = some (.string ⟨b.toArray⟩) ∧ w.cell? ⟨g, 2, none⟩ = some (.string ⟨c.toArray⟩) := by
  obtain ⟨a', cap, rfl, hc, k⟩ := h
  obtain ⟨g, rfl, hg, hk⟩ := k (by simp)
  exact ⟨g, cap, rfl, hc, hg, hk 0 _ rfl, hk 1 _ rfl, hk 2 _ rfl⟩
set_option maxRecDepth 100000 in
set_option maxHeartbeats 16000000 in
theorem c161 (l : List UInt8) (w : World) (hl : l.length ≤ 4000) : Calls Tryz.prog 161 #[.string ⟨l.toArray⟩] w fun e w' => e = .returned (datedV 1 (oneO l)) ∧ Below w.heap.size w w' := by
  obtain ⟨R, hR⟩ : ∃ R, oneO l = R := ⟨_, rfl⟩
  rw [hR]
  have HR := Lib.hid hR
  clear hR
  have H85 := fun (s : UInt8) (W : World) => Lib.hid (c85 l s W hl)
  go_enter Tryz.func161, Tryz.ntmps161
  go_wp2_with fail
  obtain ⟨W0, hW0⟩ : ∃ W0, (w.alloc (.cells #[.int .i64 0, .int .i64 0, .int .i64 0, .int .i64 0] 153)).alloc (.cells #[.int .u8 47, .int .u8 46, .int .u8 45] 5) = W0 := ⟨_, rfl⟩
  have hw0s : W0.heap.size = w.heap.size + 1 + 1 := by rw [← hW0]; simp
  have r0' : ∀ i, W0.cell? ⟨w.heap.size, i, none⟩ = #[Value.int .i64 0, .int .i64 0, .int .i64 0, .int .i64 0][i]? := fun i => by rw [← hW0]; simp [go_sem]
  have rF' : ∀ i, W0.frozen? ⟨w.heap.size, i, none⟩ = false := fun i => by rw [← hW0]; simp [go_sem]
  have sg' : ∀ i, W0.cell? ⟨w.heap.size + 1, i, none⟩ = #[Value.int .u8 47, .int .u8 46, .int .u8 45][i]? := fun i => by rw [← hW0]; simp [go_sem]
  have hBW : Below w.heap.size w W0 := by rw [← hW0]; exact xa (xa (xr _) _) _
  rw [hW0]
  clear hW0
  go_loopw [4] (fun iv wr => ∃ k : Nat, k ≤ 3 ∧ iv = .int .i64 k ∧ Hid (oneFrom l (signs.drop k) = R) ∧ Hid (Below (w.heap.size + 1 + 1) W0 wr)) (fun iv _ => (10 - intOf iv).toNat)
  case atStart => exact ⟨0, by omega, rfl, HR, Lib.hid (by rw [← hw0s]; exact xr _)⟩
  case round =>
    obtain ⟨k, hk, rfl, HO, HB⟩ := hrel
    have hsz := HB.out.size
    have r0 : ∀ i, wr.cell? ⟨w.heap.size, i, none⟩ = #[Value.int .i64 0, .int .i64 0, .int .i64 0, .int .i64 0][i]? := fun i => (HB.out.cell (p := ⟨w.heap.size, i, none⟩) (show w.heap.size < w.heap.size + 1 + 1 by omega)).trans (r0' i)
    have rF : ∀ i, wr.frozen? ⟨w.heap.size, i, none⟩ = false := fun i => (HB.out.frozen (p := ⟨w.heap.size, i, none⟩) (show w.heap.size < w.heap.size + 1 + 1 by omega)).trans (rF' i)
    have sg : ∀ i, wr.cell? ⟨w.heap.size + 1, i, none⟩ = #[Value.int .u8 47, .int .u8 46, .int .u8 45][i]? := fun i => (HB.out.cell (p := ⟨w.heap.size + 1, i, none⟩) (show w.heap.size + 1 < w.heap.size + 1 + 1 by omega)).trans (sg' i)
    have hBwr : Below w.heap.size w wr := below_trans hBW (HB.out.mono (by omega))
    by_cases hk3 : k = 3
    · subst hk3
      have hR : R = none := HO.out.symm
      subst hR
      have q0 := r0 0
      have q1 := r0 1
      have q2 := r0 2
      have q3 := r0 3
      simp at q0 q1 q2 q3
      clear r0 sg
      go_wp2_with fail
      exact bodyPost_ret (v := .agg #[.int .i64 (0), .int .i64 (0), .int .i64 (0), .int .i64 (0)]) (by simp [results, Tryz.results161, go_sem, q0, q1, q2, q3]) rfl ⟨rfl, by repeat (first | exact hBwr | exact hbw | apply xa | (refine xs ?_ (by simp) _))⟩
    · obtain ⟨s, hs⟩ : ∃ s, signs[k]? = some s := ⟨_, List.getElem?_eq_some_iff.2 ⟨by simp [signs]; omega, rfl⟩⟩
      have hsk : wr.cell? ⟨w.heap.size + 1, k, none⟩ = some (.int .u8 s.toNat) := by
        rw [sg k]
        have : k = 0 ∨ k = 1 ∨ k = 2 := by omega
        rcases this with rfl | rfl | rfl <;> (cases hs; rfl)
      have hst := one_step (l := l) hs
      rw [HO.out] at hst
      have HT := Lib.hid hst
      clear hst sg HO
      go_wp2_with fail
      refine (H85 s wr).out.mono ?_
      rintro e w1 ⟨v, rfl, hown, hb⟩
      have hS := own_strs hown
      clear hown
      obtain ⟨n, hn⟩ : ∃ n, (splitL s l).length = n := ⟨_, rfl⟩
      have hbw : Below w.heap.size w w1 := below_trans hBwr hb
      have hb1 : Below (w.heap.size + 1 + 1) W0 w1 := HB.out.trans (hb.mono (by omega))
      have r0 : ∀ i, w1.cell? ⟨w.heap.size, i, none⟩ = #[Value.int .i64 0, .int .i64 0, .int .i64 0, .int .i64 0][i]? := fun i => (hb1.cell (p := ⟨w.heap.size, i, none⟩) (show w.heap.size < w.heap.size + 1 + 1 by omega)).trans (r0' i)
      have rF : ∀ i, w1.frozen? ⟨w.heap.size, i, none⟩ = false := fun i => (hb1.frozen (p := ⟨w.heap.size, i, none⟩) (show w.heap.size < w.heap.size + 1 + 1 by omega)).trans (rF' i)
      have hsk : w1.cell? ⟨w.heap.size + 1, k, none⟩ = some (.int .u8 s.toNat) := (hb.cell (p := ⟨w.heap.size + 1, k, none⟩) (show w.heap.size + 1 < wr.heap.size by omega)).trans hsk
      have hsz1 := hb1.size
      by_cases hn3 : n = 3
      · subst hn3
        obtain ⟨a, b, c, habc⟩ : ∃ a b c, splitL s l = [a, b, c] := by
          match e : splitL s l, hn with
          | [a, b, c], _ => exact ⟨a, b, c, rfl⟩
        rw [habc] at hS
        obtain ⟨g, cap, rfl, hcap, hg, k0, k1, k2⟩ := strs_three hS
        have hOA : oneAt s l = if s = 45 ∧ a.length = 4 then oneT c b a else oneT a b c := by rw [oneAt, habc]
        clear hn habc hS
        have q0 := r0 0
        have q1 := r0 1
        have q2 := r0 2
        have q3 := r0 3
        simp at q0 q1 q2 q3
        clear r0 r0' rF' sg' HB hb
        by_cases h45 : s = 45
        · subst h45
          have hsk : w1.cell? ⟨w.heap.size + 1, k, none⟩ = some (.int .u8 45) := hsk
          by_cases ha4 : a.length = 4
          · rw [if_pos ⟨rfl, ha4⟩] at hOA
            rw [hOA] at HT
            clear hOA
            go_wp2_with fail
            refine wp_region_grows w1 (by kernel_rfl) (Grown.refl _) fun x => ?_
            refine WG_take0 (v := ?_) (a' := ?_) 0 rfl (by kernel_rfl) (by kernel_rfl) (by kernel_rfl) ⟨rfl, fun y => ?_⟩ ?_ 35 rfl (by kernel_rfl) fun x => ?_
            rotate_left 2
            · go_big_quiet_op; exact rfl
            · exact rfl
            refine WG_take0 (v := ?_) (a' := ?_) 1 rfl (by kernel_rfl) (by kernel_rfl) (by kernel_rfl) ⟨rfl, fun y => ?_⟩ ?_ 36 rfl (by kernel_rfl) fun x => ?_
            rotate_left 2
            · go_big_quiet_op; exact rfl
            · exact rfl
            refine WG_take0 (v := ?_) (a' := ?_) 2 rfl (by kernel_rfl) (by kernel_rfl) (by kernel_rfl) ⟨rfl, fun y => ?_⟩ ?_ 37 rfl (by kernel_rfl) fun x => ?_
            rotate_left 2
            · go_big_quiet_op; exact rfl
            · exact rfl
            refine WG_take0 (v := ?_) (a' := ?_) 3 rfl (by kernel_rfl) (by kernel_rfl) (by kernel_rfl) ⟨rfl, fun y => ?_⟩ ?_ 38 rfl (by kernel_rfl) fun x => ?_
            rotate_left 2
            · go_big_quiet_op; exact rfl
            · exact rfl
            refine WG_take0 (v := ?_) (a' := ?_) 4 rfl (by kernel_rfl) (by kernel_rfl) (by kernel_rfl) ⟨rfl, fun y => ?_⟩ ?_ 39 rfl (by kernel_rfl) fun x => ?_
            rotate_left 2
            · go_big_quiet_op; exact rfl
            · exact rfl
            refine WG_take0 (v := ?_) (a' := ?_) 5 rfl (by kernel_rfl) (by kernel_rfl) (by kernel_rfl) ⟨rfl, fun y => ?_⟩ ?_ 40 rfl (by kernel_rfl) fun x => ?_
            rotate_left 2
            · go_big_quiet_op; exact rfl
            · exact rfl
            refine WG_take0 (v := ?_) (a' := ?_) 6 rfl (by kernel_rfl) (by kernel_rfl) (by kernel_rfl) ⟨rfl, fun y => ?_⟩ ?_ 41 rfl (by kernel_rfl) fun x => ?_
            rotate_left 2
            · go_big_quiet_op; exact rfl
            · exact rfl
            refine WG_take0 (v := ?_) (a' := ?_) 7 rfl (by kernel_rfl) (by kernel_rfl) (by kernel_rfl) ⟨rfl, fun y => ?_⟩ ?_ 42 rfl (by kernel_rfl) fun x => ?_
            rotate_left 2
            · go_big_quiet_op; exact rfl
            · exact rfl
            refine WG_take0 (v := ?_) (a' := ?_) 8 rfl (by kernel_rfl) (by kernel_rfl) (by kernel_rfl) ⟨rfl, fun y => ?_⟩ ?_ 43 rfl (by kernel_rfl) fun x => ?_
            rotate_left 2
            · go_big_quiet_op; exact rfl
            · exact rfl
            refine WG_all [9] (by kernel_rfl) (by simp) fun i hi => ?_
            rcases List.mem_singleton.1 hi with rfl
            refine WG_op rfl rfl fun K hK => ?_
            go_big_op
            refine hK _ _ ⟨xa (Grown.gw _ _) _, fun y => ?_⟩
            obtain ⟨p, w2, e1, e2, p1, p2, p3, p4, pF, p5⟩ := new_at (Grown.gw w1 x) #[.string ⟨c.toArray⟩, .string ⟨b.toArray⟩, .string ⟨a.toArray⟩] 9 y
            rw [e1, e2]
            clear e1 e2 p3 pF hi
            refine WG_all [10] (by kernel_rfl) (by simp) fun i hi => ?_
            rcases List.mem_singleton.1 hi with rfl
            refine WG_op rfl rfl fun K hK => ?_
            go_big_op
            refine hK _ _ ⟨p2, fun z => ?_⟩
            have p6 : Grown w1 (gw w2 z) := p2.trans (Grown.gw w2 z)
            have j0 : (gw w2 z).cell? ⟨p, 0, none⟩ = some (.string ⟨c.toArray⟩) := ((gw_below w2 z).cell (p := ⟨p, 0, none⟩) p4).trans (p5 0)
            have j1 : (gw w2 z).cell? ⟨p, 1, none⟩ = some (.string ⟨b.toArray⟩) := ((gw_below w2 z).cell (p := ⟨p, 1, none⟩) p4).trans (p5 1)
            have j2 : (gw w2 z).cell? ⟨p, 2, none⟩ = some (.string ⟨a.toArray⟩) := ((gw_below w2 z).cell (p := ⟨p, 2, none⟩) p4).trans (p5 2)
            have hwl : w.heap.size < w1.heap.size := by omega
            have n0 := ((kept p6 hwl).trans q0 : (gw w2 z).cell? ⟨w.heap.size, 0, none⟩ = _)
            have n1 := ((kept p6 hwl).trans q1 : (gw w2 z).cell? ⟨w.heap.size, 1, none⟩ = _)
            have n2 := ((kept p6 hwl).trans q2 : (gw w2 z).cell? ⟨w.heap.size, 2, none⟩ = _)
            have n3 := ((kept p6 hwl).trans q3 : (gw w2 z).cell? ⟨w.heap.size, 3, none⟩ = _)
            have nF : ∀ i, (gw w2 z).frozen? ⟨w.heap.size, i, none⟩ = false := fun i => (keptF p6 hwl).trans (rF i)
            have hbz : Below (w.heap.size + 1 + 1) W0 (gw w2 z) := hb1.trans (p6.mono (by omega))
            have hbw' : Below w.heap.size w (gw w2 z) := below_trans hbw p6
            refine WG_done (by kernel_rfl) ?_ _
            unfold NoPanic
            obtain ⟨w3, hw3⟩ : ∃ w3, gw w2 z = w3 := ⟨_, rfl⟩
            rw [hw3] at j0 j1 j2 n0 n1 n2 n3 nF hbz hbw' ⊢
            clear hw3 p4 p5 p6 q0 q1 q2 q3 rF hbw hb1 k0 k1 k2 hi p2
            have q0 := n0
            have q1 := n1
            have q2 := n2
            have q3 := n3
            clear n0 n1 n2 n3
            have rF := nF
            have hb1 := hbz
            clear nF hbz
            have hbw := hbw'
            clear hbw'
            obtain ⟨x, hx⟩ : ∃ x, orM (numO c) = x := ⟨_, rfl⟩
            obtain ⟨m, hm⟩ : ∃ m, orM (numO b) = m := ⟨_, rfl⟩
            obtain ⟨y, hy⟩ : ∃ y, orM (yearO a) = y := ⟨_, rfl⟩
            have HA := c118_H hx
            have HM := c118_H hm
            have HY := c162_H hy
            have hT : oneT c b a = if 0 ≤ x ∧ 1 ≤ m ∧ m ≤ 12 ∧ 0 ≤ y then some ⟨y, m, x⟩ else none := by rw [oneT, hx, hm, hy]
            clear hx hm hy
            by_cases hx : ¬ 0 ≤ x
            · rw [hT, if_neg (by omega)] at HT
              clear hT
              go_wp2_with fail
              refine (HA _).out.mono ?_
              rintro e z9 ⟨rfl, rfl⟩
              go_wp2_with fail
              refine (HM _).out.mono ?_
              rintro e z9 ⟨rfl, rfl⟩
              go_wp2_with fail
              refine (HY _).out.mono ?_
              rintro e z9 ⟨rfl, rfl⟩
              go_wp2_with fail
              go_roundw
              case rel => exact ⟨k + 1, by omega, by go_num, Lib.hid HT.out.symm, Lib.hid hb1⟩
              case measure => simp [intOf]; omega
            by_cases hm : ¬ 1 ≤ m
            · rw [hT, if_neg (by omega)] at HT
              clear hT
              go_wp2_with fail
              refine (HA _).out.mono ?_
              rintro e z9 ⟨rfl, rfl⟩
              go_wp2_with fail
              refine (HM _).out.mono ?_
              rintro e z9 ⟨rfl, rfl⟩
              go_wp2_with fail
              refine (HY _).out.mono ?_
              rintro e z9 ⟨rfl, rfl⟩
              go_wp2_with fail
              go_roundw
              case rel => exact ⟨k + 1, by omega, by go_num, Lib.hid HT.out.symm, Lib.hid hb1⟩
              case measure => simp [intOf]; omega
            by_cases hn : ¬ m ≤ 12
            · rw [hT, if_neg (by omega)] at HT
              clear hT
              go_wp2_with fail
              refine (HA _).out.mono ?_
              rintro e z9 ⟨rfl, rfl⟩
              go_wp2_with fail
              refine (HM _).out.mono ?_
              rintro e z9 ⟨rfl, rfl⟩
              go_wp2_with fail
              refine (HY _).out.mono ?_
              rintro e z9 ⟨rfl, rfl⟩
              go_wp2_with fail
              go_roundw
              case rel => exact ⟨k + 1, by omega, by go_num, Lib.hid HT.out.symm, Lib.hid hb1⟩
              case measure => simp [intOf]; omega
            by_cases hy : ¬ 0 ≤ y
            · rw [hT, if_neg (by omega)] at HT
              clear hT
              go_wp2_with fail
              refine (HA _).out.mono ?_
              rintro e z9 ⟨rfl, rfl⟩
              go_wp2_with fail
              refine (HM _).out.mono ?_
              rintro e z9 ⟨rfl, rfl⟩
              go_wp2_with fail
              refine (HY _).out.mono ?_
              rintro e z9 ⟨rfl, rfl⟩
              go_wp2_with fail
              go_roundw
              case rel => exact ⟨k + 1, by omega, by go_num, Lib.hid HT.out.symm, Lib.hid hb1⟩
              case measure => simp [intOf]; omega
            rw [hT, if_pos (by omega)] at HT
            clear hT
            have hRR : R = some ⟨y, m, x⟩ := HT.out
            subst hRR
            go_wp2_with fail
            refine (HA _).out.mono ?_
            rintro e z9 ⟨rfl, rfl⟩
            go_wp2_with fail
            refine (HM _).out.mono ?_
            rintro e z9 ⟨rfl, rfl⟩
            go_wp2_with fail
            refine (HY _).out.mono ?_
            rintro e z9 ⟨rfl, rfl⟩
            go_wp2_with fail
            exact bodyPost_ret (v := .agg #[.int .i64 (y), .int .i64 (m), .int .i64 (x), .int .i64 (1)]) (by simp [results, Tryz.results161, go_sem, q0, q1, q2, q3]) rfl ⟨rfl, by repeat (first | exact hBwr | exact hbw | apply xa | (refine xs ?_ (by simp) _))⟩
          · rw [if_neg (fun h => ha4 h.2)] at hOA
            rw [hOA] at HT
            clear hOA
            have ha4' : (a.length == 4) = false := beq_eq_false_iff_ne.2 ha4
            have ha4'' : ((a.length : Int) == 4) = false := beq_eq_false_iff_ne.2 (by omega)
            obtain ⟨x, hx⟩ : ∃ x, orM (numO a) = x := ⟨_, rfl⟩
            obtain ⟨m, hm⟩ : ∃ m, orM (numO b) = m := ⟨_, rfl⟩
            obtain ⟨y, hy⟩ : ∃ y, orM (yearO c) = y := ⟨_, rfl⟩
            have HA := c118_H hx
            have HM := c118_H hm
            have HY := c162_H hy
            have hT : oneT a b c = if 0 ≤ x ∧ 1 ≤ m ∧ m ≤ 12 ∧ 0 ≤ y then some ⟨y, m, x⟩ else none := by rw [oneT, hx, hm, hy]
            clear hx hm hy
            by_cases hx : ¬ 0 ≤ x
            · rw [hT, if_neg (by omega)] at HT
              clear hT
              go_wp2_with fail
              refine (HA _).out.mono ?_
              rintro e z1 ⟨rfl, rfl⟩
              go_wp2_with fail
              refine (HM _).out.mono ?_
              rintro e z1 ⟨rfl, rfl⟩
              go_wp2_with fail
              refine (HY _).out.mono ?_
              rintro e z1 ⟨rfl, rfl⟩
              go_wp2_with fail
              go_roundw
              case rel => exact ⟨k + 1, by omega, by go_num, Lib.hid HT.out.symm, Lib.hid hb1⟩
              case measure => simp [intOf]; omega
            by_cases hm : ¬ 1 ≤ m
            · rw [hT, if_neg (by omega)] at HT
              clear hT
              go_wp2_with fail
              refine (HA _).out.mono ?_
              rintro e z1 ⟨rfl, rfl⟩
              go_wp2_with fail
              refine (HM _).out.mono ?_
              rintro e z1 ⟨rfl, rfl⟩
              go_wp2_with fail
              refine (HY _).out.mono ?_
              rintro e z1 ⟨rfl, rfl⟩
              go_wp2_with fail
              go_roundw
              case rel => exact ⟨k + 1, by omega, by go_num, Lib.hid HT.out.symm, Lib.hid hb1⟩
              case measure => simp [intOf]; omega
            by_cases hn : ¬ m ≤ 12
            · rw [hT, if_neg (by omega)] at HT
              clear hT
              go_wp2_with fail
              refine (HA _).out.mono ?_
              rintro e z1 ⟨rfl, rfl⟩
              go_wp2_with fail
              refine (HM _).out.mono ?_
              rintro e z1 ⟨rfl, rfl⟩
              go_wp2_with fail
              refine (HY _).out.mono ?_
              rintro e z1 ⟨rfl, rfl⟩
              go_wp2_with fail
              go_roundw
              case rel => exact ⟨k + 1, by omega, by go_num, Lib.hid HT.out.symm, Lib.hid hb1⟩
              case measure => simp [intOf]; omega
            by_cases hy : ¬ 0 ≤ y
            · rw [hT, if_neg (by omega)] at HT
              clear hT
              go_wp2_with fail
              refine (HA _).out.mono ?_
              rintro e z1 ⟨rfl, rfl⟩
              go_wp2_with fail
              refine (HM _).out.mono ?_
              rintro e z1 ⟨rfl, rfl⟩
              go_wp2_with fail
              refine (HY _).out.mono ?_
              rintro e z1 ⟨rfl, rfl⟩
              go_wp2_with fail
              go_roundw
              case rel => exact ⟨k + 1, by omega, by go_num, Lib.hid HT.out.symm, Lib.hid hb1⟩
              case measure => simp [intOf]; omega
            rw [hT, if_pos (by omega)] at HT
            clear hT
            have hRR : R = some ⟨y, m, x⟩ := HT.out
            subst hRR
            go_wp2_with fail
            refine (HA _).out.mono ?_
            rintro e z1 ⟨rfl, rfl⟩
            go_wp2_with fail
            refine (HM _).out.mono ?_
            rintro e z1 ⟨rfl, rfl⟩
            go_wp2_with fail
            refine (HY _).out.mono ?_
            rintro e z1 ⟨rfl, rfl⟩
            go_wp2_with fail
            exact bodyPost_ret (v := .agg #[.int .i64 (y), .int .i64 (m), .int .i64 (x), .int .i64 (1)]) (by simp [results, Tryz.results161, go_sem, q0, q1, q2, q3]) rfl ⟨rfl, by repeat (first | exact hBwr | exact hbw | apply xa | (refine xs ?_ (by simp) _))⟩
        · rw [if_neg (fun h => h45 h.1)] at hOA
          rw [hOA] at HT
          clear hOA
          have n1 : ¬ (s.toNat : Int) = 45 := fun h => h45 (UInt8.toNat_inj.1 (by have : (45 : UInt8).toNat = 45 := rfl; omega))
          have n2 : ((s.toNat : Int) == 45) = false := beq_eq_false_iff_ne.2 n1
          clear h45
          obtain ⟨x, hx⟩ : ∃ x, orM (numO a) = x := ⟨_, rfl⟩
          obtain ⟨m, hm⟩ : ∃ m, orM (numO b) = m := ⟨_, rfl⟩
          obtain ⟨y, hy⟩ : ∃ y, orM (yearO c) = y := ⟨_, rfl⟩
          have HA := c118_H hx
          have HM := c118_H hm
          have HY := c162_H hy
          have hT : oneT a b c = if 0 ≤ x ∧ 1 ≤ m ∧ m ≤ 12 ∧ 0 ≤ y then some ⟨y, m, x⟩ else none := by rw [oneT, hx, hm, hy]
          clear hx hm hy
          by_cases hx : ¬ 0 ≤ x
          · rw [hT, if_neg (by omega)] at HT
            clear hT
            go_wp2_with fail
            refine (HA _).out.mono ?_
            rintro e z1 ⟨rfl, rfl⟩
            go_wp2_with fail
            refine (HM _).out.mono ?_
            rintro e z1 ⟨rfl, rfl⟩
            go_wp2_with fail
            refine (HY _).out.mono ?_
            rintro e z1 ⟨rfl, rfl⟩
            go_wp2_with fail
            go_roundw
            case rel => exact ⟨k + 1, by omega, by go_num, Lib.hid HT.out.symm, Lib.hid hb1⟩
            case measure => simp [intOf]; omega
          by_cases hm : ¬ 1 ≤ m
          · rw [hT, if_neg (by omega)] at HT
            clear hT
            go_wp2_with fail
            refine (HA _).out.mono ?_
            rintro e z1 ⟨rfl, rfl⟩
            go_wp2_with fail
            refine (HM _).out.mono ?_
            rintro e z1 ⟨rfl, rfl⟩
            go_wp2_with fail
            refine (HY _).out.mono ?_
            rintro e z1 ⟨rfl, rfl⟩
            go_wp2_with fail
            go_roundw
            case rel => exact ⟨k + 1, by omega, by go_num, Lib.hid HT.out.symm, Lib.hid hb1⟩
            case measure => simp [intOf]; omega
          by_cases hn : ¬ m ≤ 12
          · rw [hT, if_neg (by omega)] at HT
            clear hT
            go_wp2_with fail
            refine (HA _).out.mono ?_
            rintro e z1 ⟨rfl, rfl⟩
            go_wp2_with fail
            refine (HM _).out.mono ?_
            rintro e z1 ⟨rfl, rfl⟩
            go_wp2_with fail
            refine (HY _).out.mono ?_
            rintro e z1 ⟨rfl, rfl⟩
            go_wp2_with fail
            go_roundw
            case rel => exact ⟨k + 1, by omega, by go_num, Lib.hid HT.out.symm, Lib.hid hb1⟩
            case measure => simp [intOf]; omega
          by_cases hy : ¬ 0 ≤ y
          · rw [hT, if_neg (by omega)] at HT
            clear hT
            go_wp2_with fail
            refine (HA _).out.mono ?_
            rintro e z1 ⟨rfl, rfl⟩
            go_wp2_with fail
            refine (HM _).out.mono ?_
            rintro e z1 ⟨rfl, rfl⟩
            go_wp2_with fail
            refine (HY _).out.mono ?_
            rintro e z1 ⟨rfl, rfl⟩
            go_wp2_with fail
            go_roundw
            case rel => exact ⟨k + 1, by omega, by go_num, Lib.hid HT.out.symm, Lib.hid hb1⟩
            case measure => simp [intOf]; omega
          rw [hT, if_pos (by omega)] at HT
          clear hT
          have hRR : R = some ⟨y, m, x⟩ := HT.out
          subst hRR
          go_wp2_with fail
          refine (HA _).out.mono ?_
          rintro e z1 ⟨rfl, rfl⟩
          go_wp2_with fail
          refine (HM _).out.mono ?_
          rintro e z1 ⟨rfl, rfl⟩
          go_wp2_with fail
          refine (HY _).out.mono ?_
          rintro e z1 ⟨rfl, rfl⟩
          go_wp2_with fail
          exact bodyPost_ret (v := .agg #[.int .i64 (y), .int .i64 (m), .int .i64 (x), .int .i64 (1)]) (by simp [results, Tryz.results161, go_sem, q0, q1, q2, q3]) rfl ⟨rfl, by repeat (first | exact hBwr | exact hbw | apply xa | (refine xs ?_ (by simp) _))⟩
      · have hOA : oneAt s l = none := by
          unfold oneAt
          split
          · rename_i e; rw [e] at hn; exact absurd hn.symm hn3
          · rfl
        rw [hOA] at HT
        obtain ⟨a, cap, rfl, hc, -⟩ := hS
        rw [hn]
        have hn3' : ¬ (n : Int) = 3 := by omega
        have hn3'' : ((n : Int) == 3) = false := beq_eq_false_iff_ne.2 hn3'
        clear r0 r0' rF' sg' hb hOA hn
        go_wp2_with fail
        go_roundw
        case rel => exact ⟨k + 1, by omega, by go_num, Lib.hid HT.out.symm, Lib.hid hb1⟩
        case measure => simp [intOf]; omega
end Go.Proofs.YthifeoebefbalaaGreatDoor
