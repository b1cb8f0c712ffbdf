/- The reference: a line is read as Read reads it. -/
import Derived.Test.YthifeoebefbalaaGreatDoorY8
import Derived.Test.YthifeoebefbalaaGreatDoorY12
import Derived.Test.YthifeoebefbalaaGreatDoorY13
import Derived.Test.YthifeoebefbalaaGreatDoorY15
import Derived.Test.YthifeoebefbalaaGreatDoorY16
set_option linter.unusedVariables false
set_option linter.unusedSimpArgs false
namespace Go.Proofs.YthifeoebefbalaaGreatDoor
open Go.RowKit

theorem got_of7 {f : FuncId} {args : Array Value} {w : World} {v : Value} (r : Rd) (h : Calls Tryz.prog f args w fun e w' => e = .returned v ∧ Below w.heap.size w w') (hv : v = gotV r) : Calls Tryz.prog f args w fun e w' => e = .returned (gotV r) ∧ Below w.heap.size w w' := by rw [← hv]; exact h
theorem dat_k {ws : List (List UInt8)} {p : Dt × Int} (h : datR ws = some p) : ∃ m : Nat, p.2 = (m : Int) ∧ 1 ≤ m ∧ m ≤ 3 ∧ m ≤ ws.length := by
  match ws with
  | [] => cases h
  | [x] =>
    simp only [datR] at h
    split at h
    · cases h; exact ⟨1, rfl, by decide, by decide, by simp⟩
    · cases h
  | [x, y] =>
    simp only [datR] at h
    split at h
    · cases h; exact ⟨1, rfl, by decide, by decide, by simp⟩
    · cases h
  | x :: y :: z :: r =>
    simp only [datR] at h
    split at h
    · cases h; exact ⟨1, rfl, by decide, by decide, by simp⟩
    · split at h
      · cases h
      · split at h
        · cases h; exact ⟨3, rfl, by decide, by decide, by simp⟩
        · split at h
          · cases h; exact ⟨3, rfl, by decide, by decide, by simp⟩
          · cases h
set_option maxRecDepth 100000 in
theorem next_one : oneO nextW = none ∧ ¬ 0 ≤ orM (domO nextW) ∧ ¬ 0 < (monthO nextW).getD 0 := by
  refine ⟨by decide, by decide, by decide⟩
theorem dat_next (r : List (List UInt8)) : datR (nextW :: r) = none := by
  obtain ⟨h1, h2, h3⟩ := next_one
  match r with
  | [] => simp only [datR, h1]
  | [y] => simp only [datR, h1]
  | y :: z :: r =>
    simp only [datR, h1]
    split
    · rfl
    · rw [if_neg (fun e => h2 e.1), if_neg (fun e => h3 e.1)]
theorem orM_ge (o : Option Int) (h : ∀ v, o = some v → 0 ≤ v ∧ v ≤ 100000) : -1 ≤ orM o ∧ orM o ≤ 100000 ∧ (orM o < 0 → orM o = -1) := by
  cases o with
  | none => simp [orM]
  | some v => have := h v rfl; simp [orM]; omega
/-- What Words hands back. -/
theorem c35_H {s : List UInt8} {x : List UInt8} {r : List (List UInt8)} (h : wordsOf s = x :: r) (hs : s.length ≤ 200) : ∀ W, Hid (Calls Tryz.prog 35 #[.string ⟨s.toArray⟩] W fun e w' => (∃ g cap, e = .returned (.slice (some ⟨g, 0, none⟩) (r.length + 1) cap) ∧ Hid (r.length + 1 ≤ cap ∧ g < w'.heap.size ∧ WsAt w' g (x :: r))) ∧ Below W.heap.size W w') := fun W => Lib.hid (by
  refine (c35 s W (by omega)).mono fun e w' hh => ?_
  obtain ⟨v, rfl, ho, hb⟩ := hh
  rw [h] at ho
  obtain ⟨a, cap, rfl, hc, k⟩ := own_strs ho
  obtain ⟨g, rfl, hg, hk⟩ := k (by simp)
  exact ⟨⟨g, cap, rfl, Lib.hid ⟨hc, hg, hk⟩⟩, hb⟩)
theorem c35_none {s : List UInt8} (h : wordsOf s = []) (hs : s.length ≤ 200) : ∀ W, Hid (Calls Tryz.prog 35 #[.string ⟨s.toArray⟩] W fun e w' => (∃ a cap, e = .returned (.slice a 0 cap)) ∧ Below W.heap.size W w') := fun W => Lib.hid (by
  refine (c35 s W (by omega)).mono fun e w' hh => ?_
  obtain ⟨v, rfl, ho, hb⟩ := hh
  rw [h] at ho
  obtain ⟨a, cap, rfl, hc, k⟩ := own_strs ho
  exact ⟨⟨a, cap, rfl⟩, hb⟩)
theorem c119_F (nx : Bool) (st da : Int) (ws : List (List UInt8)) (hl : ∀ u ∈ ws, u.length ≤ 4000) (hN : ws.length ≤ 4000) (hd0 : -1 ≤ da) (hd1 : da ≤ 100000) : Hid (∀ W v, WordsV W v ws → Calls Tryz.prog 119 #[.agg #[.int .i64 st, .int .i64 da, .int .i64 0, .int .i64 0, .int .i64 0, .int .i64 0], v, .bool nx] W fun e w' => e = .returned (.agg #[.int .i64 (rdC (finR st da nx ws)).st, .int .i64 (rdC (finR st da nx ws)).da, .int .i64 (rdC (finR st da nx ws)).dy, .int .i64 (rdC (finR st da nx ws)).ki, .int .i64 (rdC (finR st da nx ws)).am, .int .i64 (rdC (finR st da nx ws)).fi, .int .i64 (rdE (finR st da nx ws))]) ∧ Below W.heap.size W w') :=
  Lib.hid fun W v hv => c119 nx st da v ws W hv hl hN hd0 hd1
theorem c120_N {ws : List (List UInt8)} (h : datR ws = none) (hl : ∀ u ∈ ws, u.length ≤ 4000) (hN : ws.length ≤ 4000) : Hid (∀ W v, WordsV W v ws → Calls Tryz.prog 120 #[v] W fun e w' => e = .returned (.agg #[.int .i64 0, .int .i64 0, .int .i64 0, .int .i64 0]) ∧ Below W.heap.size W w') :=
  Lib.hid fun W v hv => by have := c120 v ws W hv hl hN; rw [h] at this; exact this
theorem c120_S {ws : List (List UInt8)} {p : Dt × Int} (h : datR ws = some p) (hl : ∀ u ∈ ws, u.length ≤ 4000) (hN : ws.length ≤ 4000) : Hid (∀ W v, WordsV W v ws → Calls Tryz.prog 120 #[v] W fun e w' => e = .returned (.agg #[.int .i64 p.1.y, .int .i64 p.1.m, .int .i64 p.1.d, .int .i64 p.2]) ∧ Below W.heap.size W w') :=
  Lib.hid fun W v hv => by have := c120 v ws W hv hl hN; rw [h] at this; exact this
theorem c121_H {y m d N : Int} (h : orM (dnum y m d) = N) : ∀ W, Hid (Calls Tryz.prog 121 #[.agg #[.int .i64 y, .int .i64 m, .int .i64 d]] W fun e w' => e = .returned (.int .i64 N) ∧ Below W.heap.size W w') := fun W => Lib.hid (by rw [← h]; exact c121 y m d W)
theorem dnum_bd (y m d : Int) : -1 ≤ orM (dnum y m d) ∧ orM (dnum y m d) ≤ 100000 ∧ (orM (dnum y m d) < 0 → orM (dnum y m d) = -1) := orM_ge _ fun v hv => by
    unfold dnum at hv
    split at hv
    · rename_i h
      have h2 := h.2
      cases hv
      simp [isDay, within] at h2
      omega
    · cases hv
set_option maxHeartbeats 4000000 in
theorem line_h (s : List UInt8) (b0 b1 b2 b3 b4 b5 : Int) (has : Bool) (x t : List UInt8) (st : Int) (hx : ¬ x.length = 0) (hx4 : x.length ≤ 4000) (hnd : (x == [100, 111]) = false)
    (hi : ∀ W, (Instr.index 9 (.string ⟨x.toArray⟩) (.int .i64 0)).run Tryz.prog W = .ok (.int .u8 35) W) (H118 : ∀ W, Hid (Calls Tryz.prog 118 #[.string ⟨t.toArray⟩] W fun e w' => e = .returned (.int .i64 st) ∧ W = w')) (hcut : List.take (x.length - 1) x.tail = t) (r : List (List UInt8)) (w : World) (hs : s.length ≤ 200) (hl : ∀ u ∈ r, u.length ≤ 4000) (hN : r.length ≤ 3999) (hw : wordsOf s = x :: r) (hst : stR has ⟨b0, b1, b2, b3, b4, b5⟩ x = st) (hd0 : -1 ≤ b1) (hd1 : b1 ≤ 100000) :
    Calls Tryz.prog 74 #[.string ⟨s.toArray⟩, .agg #[.int .i64 b0, .int .i64 b1, .int .i64 b2, .int .i64 b3, .int .i64 b4, .int .i64 b5], .bool has] w fun e w' => e = .returned (gotV (lineF has ⟨b0, b1, b2, b3, b4, b5⟩ (x :: r))) ∧ Below w.heap.size w w' := by
  have H35 := c35_H hw hs
  clear hw
  rw [lineF, hst]
  by_cases hS : st < 0
  · rw [if_pos hS]
    exact got_of7 .form (c74_h_neg s b0 b1 b2 b3 b4 b5 has x t st r w hs hx hx4 hnd hi H118 hcut H35 hS) rfl
  rw [if_neg hS]
  cases r with
  | nil =>
    rw [if_neg (by simp)]
    exact got_of7 .form (c74_h_en s b0 b1 b2 b3 b4 b5 has x t st w hs hx hx4 hnd hi H118 hcut H35 hS (c120_N rfl (by simp) (by simp))) rfl
  | cons y r =>
    have hl2 : ∀ u ∈ r, u.length ≤ 4000 := fun u hu => hl u (List.mem_cons_of_mem _ hu)
    have hN2 : r.length ≤ 4000 := by simp at hN; omega
    by_cases hy : y = nextW
    · subst hy
      cases has with
      | true =>
        rw [if_pos ⟨rfl, rfl⟩, List.tail_cons]
        exact got_of7 _ (c74_h_next s b0 b1 b2 b3 b4 b5 x t st _ _ _ _ _ _ _ r w hs hx hx4 hnd hi H118 hcut H35 hS (c119_F true st b1 r hl2 hN2 hd0 hd1)) rfl
      | false =>
        rw [if_neg (by simp), dat_next]
        exact got_of7 .form (c74_h_nn s b0 b1 b2 b3 b4 b5 x t st r w hs hx hx4 hnd hi H118 hcut H35 hS (c120_N (dat_next r) hl (by show (nextW :: r).length ≤ 4000; omega))) rfl
    · rw [if_neg (fun e => hy (by simpa using e.2))]
      have hyn : (y == [110, 101, 120, 116]) = false := beq_eq_false_iff_ne.2 hy
      cases hd : datR (y :: r) with
      | none => exact got_of7 .form (c74_h_yn s b0 b1 b2 b3 b4 b5 has x t st y hyn r w hs hx hx4 hnd hi H118 hcut H35 hS (c120_N hd hl (by omega))) rfl
      | some p =>
        obtain ⟨m, hm, hm1, hm3, hml⟩ := dat_k hd
        obtain ⟨n0, n1, n2⟩ := dnum_bd p.1.y p.1.m p.1.d
        have hdrop : (y :: r).drop p.2.toNat = (x :: y :: r).drop (m + 1) := by rw [hm, Int.toNat_natCast, List.drop_succ_cons]
        simp only [List.length_cons] at hml hN
        have hlD : ∀ u ∈ (x :: y :: r).drop (m + 1), u.length ≤ 4000 := fun u hu => hl u (List.mem_of_mem_drop (by rw [List.drop_succ_cons] at hu; exact hu))
        have hND : ((x :: y :: r).drop (m + 1)).length ≤ 4000 := by rw [List.length_drop]; simp; omega
        dsimp only
        rw [hdrop]
        by_cases hneg : orM (dnum p.1.y p.1.m p.1.d) < 0
        · have hm1' := n2 hneg
          rw [hm1']
          exact got_of7 _ (c74_h_y0 s b0 b1 b2 b3 b4 b5 has x t st _ _ _ _ _ _ _ p.1.y p.1.m p.1.d p.2 (-1) (m + 1) (by omega) (by omega) (by omega) (by decide) y hyn r w hs hx hx4 hnd hi H118 hcut H35 hS (c120_S hd hl (by simp; omega)) (c121_H hm1') (c119_F false st (-1) _ hlD hND (by decide) (by decide)) (by omega)) rfl
        · obtain ⟨N, hNN⟩ : ∃ N, orM (dnum p.1.y p.1.m p.1.d) = N := ⟨_, rfl⟩
          rw [hNN] at n0 n1 hneg ⊢
          exact got_of7 _ (c74_h_y1 s b0 b1 b2 b3 b4 b5 has x t st _ _ _ _ _ _ _ p.1.y p.1.m p.1.d p.2 N (m + 1) (by omega) (by omega) (by omega) hneg y hyn r w hs hx hx4 hnd hi H118 hcut H35 hS (c120_S hd hl (by simp; omega)) (c121_H hNN) (c119_F false st N _ hlD hND n0 n1) (by omega)) rfl
set_option maxHeartbeats 4000000 in
theorem line_p (s : List UInt8) (b0 b1 b2 b3 b4 b5 : Int) (has : Bool) (x : List UInt8) (zi st : Int) (hz : ¬ zi = 35) (hzb : (zi == 35) = false) (hx : ¬ x.length = 0) (hx4 : x.length ≤ 4000) (hnd : (x == [100, 111]) = false)
    (hi : ∀ W, (Instr.index 9 (.string ⟨x.toArray⟩) (.int .i64 0)).run Tryz.prog W = .ok (.int .u8 zi) W) (H118 : ∀ W, Hid (Calls Tryz.prog 118 #[.string ⟨x.toArray⟩] W fun e w' => e = .returned (.int .i64 st) ∧ W = w')) (r : List (List UInt8)) (w : World) (hs : s.length ≤ 200) (hl : ∀ u ∈ r, u.length ≤ 4000) (hN : r.length ≤ 3999) (hw : wordsOf s = x :: r) (hst : stR has ⟨b0, b1, b2, b3, b4, b5⟩ x = st) (hd0 : -1 ≤ b1) (hd1 : b1 ≤ 100000) :
    Calls Tryz.prog 74 #[.string ⟨s.toArray⟩, .agg #[.int .i64 b0, .int .i64 b1, .int .i64 b2, .int .i64 b3, .int .i64 b4, .int .i64 b5], .bool has] w fun e w' => e = .returned (gotV (lineF has ⟨b0, b1, b2, b3, b4, b5⟩ (x :: r))) ∧ Below w.heap.size w w' := by
  have H35 := c35_H hw hs
  clear hw
  rw [lineF, hst]
  by_cases hS : st < 0
  · rw [if_pos hS]
    exact got_of7 .form (c74_p_neg s b0 b1 b2 b3 b4 b5 has x zi st hz hzb r w hs hx hx4 hnd hi H118 H35 hS) rfl
  rw [if_neg hS]
  cases r with
  | nil =>
    rw [if_neg (by simp)]
    exact got_of7 .form (c74_p_en s b0 b1 b2 b3 b4 b5 has x zi st hz hzb w hs hx hx4 hnd hi H118 H35 hS (c120_N rfl (by simp) (by simp))) rfl
  | cons y r =>
    have hl2 : ∀ u ∈ r, u.length ≤ 4000 := fun u hu => hl u (List.mem_cons_of_mem _ hu)
    have hN2 : r.length ≤ 4000 := by simp at hN; omega
    by_cases hy : y = nextW
    · subst hy
      cases has with
      | true =>
        rw [if_pos ⟨rfl, rfl⟩, List.tail_cons]
        exact got_of7 _ (c74_p_next s b0 b1 b2 b3 b4 b5 x zi st _ _ _ _ _ _ _ hz hzb r w hs hx hx4 hnd hi H118 H35 hS (c119_F true st b1 r hl2 hN2 hd0 hd1)) rfl
      | false =>
        rw [if_neg (by simp), dat_next]
        exact got_of7 .form (c74_p_nn s b0 b1 b2 b3 b4 b5 x zi st hz hzb r w hs hx hx4 hnd hi H118 H35 hS (c120_N (dat_next r) hl (by show (nextW :: r).length ≤ 4000; omega))) rfl
    · rw [if_neg (fun e => hy (by simpa using e.2))]
      have hyn : (y == [110, 101, 120, 116]) = false := beq_eq_false_iff_ne.2 hy
      cases hd : datR (y :: r) with
      | none => exact got_of7 .form (c74_p_yn s b0 b1 b2 b3 b4 b5 has x zi st hz hzb y hyn r w hs hx hx4 hnd hi H118 H35 hS (c120_N hd hl (by omega))) rfl
      | some p =>
        obtain ⟨m, hm, hm1, hm3, hml⟩ := dat_k hd
        obtain ⟨n0, n1, n2⟩ := dnum_bd p.1.y p.1.m p.1.d
        have hdrop : (y :: r).drop p.2.toNat = (x :: y :: r).drop (m + 1) := by rw [hm, Int.toNat_natCast, List.drop_succ_cons]
        simp only [List.length_cons] at hml hN
        have hlD : ∀ u ∈ (x :: y :: r).drop (m + 1), u.length ≤ 4000 := fun u hu => hl u (List.mem_of_mem_drop (by rw [List.drop_succ_cons] at hu; exact hu))
        have hND : ((x :: y :: r).drop (m + 1)).length ≤ 4000 := by rw [List.length_drop]; simp; omega
        dsimp only
        rw [hdrop]
        by_cases hneg : orM (dnum p.1.y p.1.m p.1.d) < 0
        · have hm1' := n2 hneg
          rw [hm1']
          exact got_of7 _ (c74_p_y0 s b0 b1 b2 b3 b4 b5 has x zi st _ _ _ _ _ _ _ p.1.y p.1.m p.1.d p.2 (-1) (m + 1) (by omega) (by omega) (by omega) (by decide) hz hzb y hyn r w hs hx hx4 hnd hi H118 H35 hS (c120_S hd hl (by simp; omega)) (c121_H hm1') (c119_F false st (-1) _ hlD hND (by decide) (by decide)) (by omega)) rfl
        · obtain ⟨N, hNN⟩ : ∃ N, orM (dnum p.1.y p.1.m p.1.d) = N := ⟨_, rfl⟩
          rw [hNN] at n0 n1 hneg ⊢
          exact got_of7 _ (c74_p_y1 s b0 b1 b2 b3 b4 b5 has x zi st _ _ _ _ _ _ _ p.1.y p.1.m p.1.d p.2 N (m + 1) (by omega) (by omega) (by omega) hneg hz hzb y hyn r w hs hx hx4 hnd hi H118 H35 hS (c120_S hd hl (by simp; omega)) (c121_H hNN) (c119_F false st N _ hlD hND n0 n1) (by omega)) rfl
set_option maxHeartbeats 4000000 in
theorem line_d (s : List UInt8) (b0 b1 b2 b3 b4 b5 : Int) (S0 : Int) (H118 : ∀ W, Hid (Calls Tryz.prog 118 #[.string ⟨#[100, 111]⟩] W fun e w' => e = .returned (.int .i64 S0) ∧ W = w')) (r : List (List UInt8)) (w : World) (hs : s.length ≤ 200) (hl : ∀ u ∈ r, u.length ≤ 4000) (hN : r.length ≤ 3999) (hw : wordsOf s = [100, 111] :: r) (hst : stR true ⟨b0, b1, b2, b3, b4, b5⟩ [100, 111] = b0) (hS : ¬ b0 < 0) (hd0 : -1 ≤ b1) (hd1 : b1 ≤ 100000) :
    Calls Tryz.prog 74 #[.string ⟨s.toArray⟩, .agg #[.int .i64 b0, .int .i64 b1, .int .i64 b2, .int .i64 b3, .int .i64 b4, .int .i64 b5], .bool true] w fun e w' => e = .returned (gotV (lineF true ⟨b0, b1, b2, b3, b4, b5⟩ ([100, 111] :: r))) ∧ Below w.heap.size w w' := by
  have H35 := c35_H hw hs
  clear hw
  rw [lineF, hst]
  rw [if_neg hS]
  cases r with
  | nil =>
    rw [if_neg (by simp)]
    exact got_of7 .form (c74_d_en s b0 b1 b2 b3 b4 b5 S0 w hs H118 H35 hS (c120_N rfl (by simp) (by simp))) rfl
  | cons y r =>
    have hl2 : ∀ u ∈ r, u.length ≤ 4000 := fun u hu => hl u (List.mem_cons_of_mem _ hu)
    have hN2 : r.length ≤ 4000 := by simp at hN; omega
    by_cases hy : y = nextW
    · subst hy
      rw [if_pos ⟨rfl, rfl⟩, List.tail_cons]
      exact got_of7 _ (c74_d_next s b0 b1 b2 b3 b4 b5 S0 _ _ _ _ _ _ _ r w hs H118 H35 hS (c119_F true b0 b1 r hl2 hN2 hd0 hd1)) rfl
    · rw [if_neg (fun e => hy (by simpa using e.2))]
      have hyn : (y == [110, 101, 120, 116]) = false := beq_eq_false_iff_ne.2 hy
      cases hd : datR (y :: r) with
      | none => exact got_of7 .form (c74_d_yn s b0 b1 b2 b3 b4 b5 S0 y hyn r w hs H118 H35 hS (c120_N hd hl (by omega))) rfl
      | some p =>
        obtain ⟨m, hm, hm1, hm3, hml⟩ := dat_k hd
        obtain ⟨n0, n1, n2⟩ := dnum_bd p.1.y p.1.m p.1.d
        have hdrop : (y :: r).drop p.2.toNat = ([100, 111] :: y :: r).drop (m + 1) := by rw [hm, Int.toNat_natCast, List.drop_succ_cons]
        simp only [List.length_cons] at hml hN
        have hlD : ∀ u ∈ ([100, 111] :: y :: r).drop (m + 1), u.length ≤ 4000 := fun u hu => hl u (List.mem_of_mem_drop (by rw [List.drop_succ_cons] at hu; exact hu))
        have hND : (([100, 111] :: y :: r).drop (m + 1)).length ≤ 4000 := by rw [List.length_drop]; simp; omega
        dsimp only
        rw [hdrop]
        by_cases hneg : orM (dnum p.1.y p.1.m p.1.d) < 0
        · have hm1' := n2 hneg
          rw [hm1']
          exact got_of7 _ (c74_d_y0 s b0 b1 b2 b3 b4 b5 S0 _ _ _ _ _ _ _ p.1.y p.1.m p.1.d p.2 (-1) (m + 1) (by omega) (by omega) (by omega) (by decide) y hyn r w hs H118 H35 hS (c120_S hd hl (by simp; omega)) (c121_H hm1') (c119_F false b0 (-1) _ hlD hND (by decide) (by decide)) (by omega)) rfl
        · obtain ⟨N, hNN⟩ : ∃ N, orM (dnum p.1.y p.1.m p.1.d) = N := ⟨_, rfl⟩
          rw [hNN] at n0 n1 hneg ⊢
          exact got_of7 _ (c74_d_y1 s b0 b1 b2 b3 b4 b5 S0 _ _ _ _ _ _ _ p.1.y p.1.m p.1.d p.2 N (m + 1) (by omega) (by omega) (by omega) hneg y hyn r w hs H118 H35 hS (c120_S hd hl (by simp; omega)) (c121_H hNN) (c119_F false b0 N _ hlD hND n0 n1) (by omega)) rfl
theorem trim_hash (t : List UInt8) : Lib.trimPrefix (35 :: t) [35] = t := by
  rw [Lib.trimPrefix, show Lib.hasPrefix (35 :: t) [35] = true from by simp [Lib.hasPrefix]]
  rfl
theorem trim_plain {z : UInt8} (t : List UInt8) (h : z ≠ 35) : Lib.trimPrefix (z :: t) [35] = z :: t := by
  have e : Lib.hasPrefix (z :: t) [35] = false := by
    cases e : Lib.hasPrefix (z :: t) [35] with
    | false => rfl
    | true =>
      rw [Lib.hasPrefix, List.isPrefixOf_iff_prefix] at e
      obtain ⟨u, hu⟩ := e
      simp at hu
      exact absurd hu.1.symm h
  rw [Lib.trimPrefix, e]
  rfl
theorem c74 (s : List UInt8) (b0 b1 b2 b3 b4 b5 : Int) (w : World) (hd0 : -1 ≤ b1) (hd1 : b1 ≤ 100000) : Calls Tryz.prog 74 #[.string ⟨s.toArray⟩, .agg #[.int .i64 b0, .int .i64 b1, .int .i64 b2, .int .i64 b3, .int .i64 b4, .int .i64 b5], .bool (decide (0 < b0))] w fun e w' => e = .returned (gotV (lineR s ⟨b0, b1, b2, b3, b4, b5⟩)) ∧ Below w.heap.size w w' := by
  unfold lineR
  by_cases hs : 200 < s.length
  · rw [if_pos hs]
    exact got_of7 (.err 2) (c74_big s b0 b1 b2 b3 b4 b5 _ w hs) rfl
  rw [if_neg hs, ← line_same ⟨b0, b1, b2, b3, b4, b5⟩ ⟨hd0, hd1⟩]
  have hs : s.length ≤ 200 := by omega
  cases hw : wordsOf s with
  | nil => exact got_of7 .form (c74_empty s b0 b1 b2 b3 b4 b5 _ w hs (c35_none hw hs)) rfl
  | cons x r =>
    have hall := words_len s
    have hne := words_ne s
    have hcnt := wordsOf_len s
    rw [hw] at hall hne hcnt
    simp only [List.length_cons] at hcnt
    have hl : ∀ u ∈ r, u.length ≤ 4000 := fun u hu => by have := hall u (List.mem_cons_of_mem _ hu); omega
    have hN : r.length ≤ 3999 := by omega
    have hx4 : x.length ≤ 4000 := by have := hall x (by simp); omega
    have hxn := hne x (by simp)
    by_cases hd : x = [100, 111]
    · subst hd
      have H118 := c118_H (l := [100, 111]) (x := -1) (by decide)
      by_cases hb : 0 < b0
      · rw [decide_eq_true hb]
        exact line_d s b0 b1 b2 b3 b4 b5 (-1) H118 r w hs hl hN hw rfl (by omega) hd0 hd1
      · rw [decide_eq_false hb]
        have hst : stR false ⟨b0, b1, b2, b3, b4, b5⟩ [100, 111] = -1 := by
          rw [stR, Bool.and_false, if_neg (by decide)]
          decide
        rw [lineF, hst, if_pos (by decide)]
        exact got_of7 .form (c74_e_neg s b0 b1 b2 b3 b4 b5 (-1) r w hs H118 (c35_H hw hs) (by decide)) rfl
    · have hnd : (x == [100, 111]) = false := beq_eq_false_iff_ne.2 hd
      have hst : ∀ has, stR has ⟨b0, b1, b2, b3, b4, b5⟩ x = orM (numO (Lib.trimPrefix x [35])) := fun has => by
        rw [stR, isDo, decide_eq_false hd]
        rfl
      cases x with
      | nil => exact absurd rfl hxn
      | cons z t =>
        have hx : ¬ (z :: t).length = 0 := by simp
        by_cases hz : z = 35
        · subst hz
          exact line_h s b0 b1 b2 b3 b4 b5 _ (35 :: t) t _ hx hx4 hnd (fun W => idx_st (35 :: t) 0 35 rfl W) (c118_H (by rw [trim_hash])) (by simp) r w hs hl hN hw (hst _) hd0 hd1
        · have hz' : ¬ (z.toNat : Int) = 35 := fun e => hz (UInt8.toNat_inj.1 (by simpa using (by omega : z.toNat = 35)))
          exact line_p s b0 b1 b2 b3 b4 b5 _ (z :: t) (z.toNat : Int) _ hz' (by simpa using hz') hx hx4 hnd (fun W => idx_st (z :: t) 0 z rfl W) (c118_H (by rw [trim_plain t hz])) r w hs hl hN hw (hst _) hd0 hd1
end Go.Proofs.YthifeoebefbalaaGreatDoor
