/- The reference: a decimal. -/
import Derived.Test.YthifeoebefbalaaGreatDoorY3
import Derived.Test.YthifeoebefbalaaGreatDoorZ8
set_option linter.unusedVariables false
set_option linter.unusedSimpArgs false
namespace Go.Proofs.YthifeoebefbalaaGreatDoor
open Go.RowKit

def decR (s : List UInt8) : Int × Int := (hunO s).getD (0, 0)
theorem orM_bd (l : List UInt8) : -1 ≤ orM (numO l) ∧ orM (numO l) < 10000000000 := by
  unfold numO
  split
  · rename_i h
    simp only [isNum, Bool.and_eq_true, decide_eq_true_eq] at h
    have h1 := numV_le l h.2
    have h2 : numV l < 10000000000 := Nat.lt_of_lt_of_le h1 (Nat.le_trans (Nat.pow_le_pow_right (by omega) h.1.2) (by decide))
    show -1 ≤ ((numV l : Nat) : Int) ∧ ((numV l : Nat) : Int) < 10000000000
    omega
  · exact ⟨by decide, by decide⟩
theorem orM_some {o : Option Int} {l : List UInt8} (h : numO l = o) : (o = none ∧ orM (numO l) = -1) ∨ ∃ v, o = some v ∧ orM (numO l) = v ∧ 0 ≤ v := by
  subst h
  unfold numO
  split
  · exact .inr ⟨_, rfl, rfl, by omega⟩
  · exact .inl ⟨rfl, rfl⟩
theorem dec_hit (wh pt : List UInt8) (x y : Int) (hx : (if wh.isEmpty = true then 0 else orM (numO wh)) = x) (hy : orM (numO pt) = y) : (hun2 wh pt).getD (0, 0) = if x < 0 ∨ y < 0 ∨ 2 < pt.length then (0, 0) else if pt.length = 1 then (100 * x + 10 * y, 10) else (100 * x + y, 1) := by
  rw [hun2]
  rcases orM_some (l := pt) rfl with ⟨e1, e2⟩ | ⟨v, e1, e2, e3⟩
  · have hy1 : y = -1 := by rw [← hy, e2]
    subst hy1
    have er : (if x < 0 ∨ (-1 : Int) < 0 ∨ 2 < pt.length then ((0 : Int), (0 : Int)) else if pt.length = 1 then (100 * x + 10 * -1, 10) else (100 * x + -1, 1)) = (0, 0) := if_pos (.inr (.inl (by decide)))
    rw [er, e1]
    split
    · rfl
    · split
      · rfl
      · split <;> rfl
  · have hyv : y = v := by rw [← hy, e2]
    subst hyv
    rw [e1]
    cases hw : wh.isEmpty with
    | true =>
      rw [hw, if_pos rfl] at hx
      subst hx
      simp only [if_true, Option.map_some]
      by_cases h1 : pt.length = 1
      · rw [if_pos h1, if_neg (by omega), if_pos h1]; simp
      · by_cases h2 : pt.length = 2
        · rw [if_neg h1, if_pos h2, if_neg (by omega), if_neg h1]; simp
        · have h0 : pt.length ≠ 0 := fun h => by
            rw [List.length_eq_zero_iff.1 h] at e1; cases e1
          rw [if_neg h1, if_neg h2, if_pos (by omega)]; rfl
    | false =>
      rw [hw, if_neg Bool.false_ne_true] at hx
      simp only [Bool.false_eq_true, if_false]
      rcases orM_some (l := wh) rfl with ⟨f1, f2⟩ | ⟨u, f1, f2, f3⟩
      · have hx1 : x = -1 := by rw [← hx, f2]
        subst hx1
        rw [f1, if_pos (.inl (by decide))]
        rfl
      · have hxu : x = u := by rw [← hx, f2]
        subst hxu
        rw [f1]
        simp only [Option.map_some]
        by_cases h1 : pt.length = 1
        · rw [if_pos h1, if_neg (by omega), if_pos h1]; rfl
        · by_cases h2 : pt.length = 2
          · rw [if_neg h1, if_pos h2, if_neg (by omega), if_neg h1]; rfl
          · have h0 : pt.length ≠ 0 := fun h => by
              rw [List.length_eq_zero_iff.1 h] at e1; cases e1
            rw [if_neg h1, if_neg h2, if_pos (by omega)]; rfl
theorem hun_at {s : List UInt8} {k : Nat} {c : UInt8} (hn : Lib.NoAny s pc k) (hc : s[k]? = some c) (hs : pc.contains c = true) : hunO s = hun2 (s.take k) (s.drop (k + 1)) := by
  have i := Lib.indexAny_hit hn hc hs
  rw [hunO, i, if_neg (by omega)]
  have e1 : ((k : Int)).toNat = k := by omega
  rw [e1]
theorem c118_H {l : List UInt8} {x : Int} (h : orM (numO l) = x) : ∀ W, Hid (Calls Tryz.prog 118 #[.string ⟨l.toArray⟩] W fun e w' => e = .returned (.int .i64 x) ∧ W = w') := fun W => Lib.hid (by rw [← h]; exact c118 l W)
set_option maxRecDepth 100000 in
set_option maxHeartbeats 16000000 in
theorem c160 (s : List UInt8) (w : World) (hs : s.length ≤ 4000) : Calls Tryz.prog 160 #[.string ⟨s.toArray⟩] w fun e w' => e = .returned (.agg #[.int .i64 (decR s).1, .int .i64 (decR s).2]) ∧ Below w.heap.size w w' := by
  obtain ⟨R, hR⟩ : ∃ R, decR s = R := ⟨_, rfl⟩
  rw [hR]
  have HR := Lib.hid hR
  clear hR
  go_enter Tryz.func160, Tryz.ntmps160
  go_wp2_with fail
  go_loopw [3, 4] (fun av iv wr => ∃ k : Nat, k ≤ s.length ∧ av = .int .i64 (-1) ∧ iv = .int .i64 k ∧ Hid (Lib.NoAny s pc k) ∧ wr = w.alloc (.cells #[.int .i64 0, .int .i64 0] 186)) (fun _ iv _ => s.length - (intOf iv).toNat)
  case atStart => exact ⟨0, by omega, rfl, rfl, Lib.hid (fun j b hj => by omega), rfl⟩
  case round =>
    obtain ⟨k, hk, rfl, rfl, HN, rfl⟩ := hrel
    by_cases hlt : k < s.length
    · obtain ⟨c, hc⟩ : ∃ c, s[k]? = some c := ⟨_, List.getElem?_eq_some_iff.2 ⟨hlt, rfl⟩⟩
      by_cases h46 : c = 46
      · subst h46
        have hi : ∀ W, (Instr.index 9 (.string ⟨s.toArray⟩) (.int .i64 (k : Int))).run Tryz.prog W = .ok (.int .u8 46) W := idx_st s k 46 hc
        have hun := hun_at HN.out hc (by decide)
        obtain ⟨b, hb⟩ : ∃ b, List.drop (k + 1) s = b := ⟨_, rfl⟩
        have hbl : List.take (s.length - (k + 1)) (List.drop (k + 1) s) = b := by rw [← hb]; exact List.take_of_length_le (by rw [List.length_drop]; exact Nat.le_refl _)
        rw [hb] at hun
        obtain ⟨y, hy⟩ : ∃ y, orM (numO b) = y := ⟨_, rfl⟩
        have H2 := c118_H hy
        have hyb := orM_bd b
        rw [hy] at hyb
        have hbn : b.length ≤ 4000 := by rw [← hb, List.length_drop]; omega
        clear hc
        by_cases h0 : 0 < k
        · obtain ⟨x, hx⟩ : ∃ x, orM (numO (List.take k s)) = x := ⟨_, rfl⟩
          have H1 := c118_H hx
          have hxb := orM_bd (List.take k s)
          rw [hx] at hxb
          have hres : R = if x < 0 ∨ y < 0 ∨ 2 < b.length then (0, 0) else if b.length = 1 then (100 * x + 10 * y, 10) else (100 * x + y, 1) := by
            rw [← HR.out, decR, hun]
            refine dec_hit _ _ x y ?_ hy
            have he : (List.take k s).isEmpty = false := by
              cases e : List.take k s with
              | nil => have := congrArg List.length e; simp only [List.length_take, List.length_nil] at this; omega
              | cons _ _ => rfl
            rw [he, if_neg Bool.false_ne_true, hx]
          have HRR := Lib.hid hres
          have HB := Lib.hid hbl
          clear hres hun hx hy hb hbl HR
          by_cases hx0 : x < 0
          · have hRR : R = (0, 0) := by rw [HRR.out, if_pos (.inl hx0)]
            subst hRR
            clear HRR
            go_wp2_with fail
            refine (H1 _).out.mono ?_
            rintro e w1 ⟨rfl, rfl⟩
            go_wp2_with fail
            rw [HB.out]
            refine (H2 _).out.mono ?_
            rintro e w2 ⟨rfl, rfl⟩
            go_wp2_with fail
            exact bodyPost_ret (v := .agg #[.int .i64 0, .int .i64 0]) (by simp [results, Tryz.results160, go_sem]) rfl ⟨rfl, by repeat (first | exact xr _ | apply xa)⟩
          by_cases hy0 : y < 0
          · have hRR : R = (0, 0) := by rw [HRR.out, if_pos (.inr (.inl hy0))]
            subst hRR
            clear HRR
            go_wp2_with fail
            refine (H1 _).out.mono ?_
            rintro e w1 ⟨rfl, rfl⟩
            go_wp2_with fail
            rw [HB.out]
            refine (H2 _).out.mono ?_
            rintro e w2 ⟨rfl, rfl⟩
            go_wp2_with fail
            exact bodyPost_ret (v := .agg #[.int .i64 0, .int .i64 0]) (by simp [results, Tryz.results160, go_sem]) rfl ⟨rfl, by repeat (first | exact xr _ | apply xa)⟩
          by_cases hl2 : 2 < b.length
          · have hRR : R = (0, 0) := by rw [HRR.out, if_pos (.inr (.inr hl2))]
            subst hRR
            clear HRR
            go_wp2_with fail
            refine (H1 _).out.mono ?_
            rintro e w1 ⟨rfl, rfl⟩
            go_wp2_with fail
            rw [HB.out]
            refine (H2 _).out.mono ?_
            rintro e w2 ⟨rfl, rfl⟩
            go_wp2_with fail
            exact bodyPost_ret (v := .agg #[.int .i64 0, .int .i64 0]) (by simp [results, Tryz.results160, go_sem]) rfl ⟨rfl, by repeat (first | exact xr _ | apply xa)⟩
          by_cases hl1 : b.length = 1
          · have hRR : R = ((100 * x + 10 * y), 10) := by rw [HRR.out, if_neg (by omega), if_pos hl1]
            subst hRR
            clear HRR
            go_wp2_with fail
            refine (H1 _).out.mono ?_
            rintro e w1 ⟨rfl, rfl⟩
            go_wp2_with fail
            rw [HB.out]
            refine (H2 _).out.mono ?_
            rintro e w2 ⟨rfl, rfl⟩
            go_wp2_with fail
            exact bodyPost_ret (v := .agg #[.int .i64 (100 * x + 10 * y), .int .i64 10]) (by simp [results, Tryz.results160, go_sem]) rfl ⟨rfl, by repeat (first | exact xr _ | apply xa)⟩
          · have hRR : R = ((100 * x + y), 1) := by rw [HRR.out, if_neg (by omega), if_neg hl1]
            subst hRR
            clear HRR
            have hl3 : ¬ (b.length : Int) = 1 := by omega
            have hl4 : (b.length == 1) = false := beq_eq_false_iff_ne.2 hl1
            go_wp2_with fail
            refine (H1 _).out.mono ?_
            rintro e w1 ⟨rfl, rfl⟩
            go_wp2_with fail
            rw [HB.out]
            refine (H2 _).out.mono ?_
            rintro e w2 ⟨rfl, rfl⟩
            go_wp2_with fail
            exact bodyPost_ret (v := .agg #[.int .i64 (100 * x + y), .int .i64 1]) (by simp [results, Tryz.results160, go_sem]) rfl ⟨rfl, by repeat (first | exact xr _ | apply xa)⟩
        · have hk0 : k = 0 := by omega
          subst hk0
          have hi0 : ∀ W, (Instr.index 9 (.string ⟨s.toArray⟩) (.int .i64 0)).run Tryz.prog W = .ok (.int .u8 46) W := hi
          clear hi
          have hres : R = if (0 : Int) < 0 ∨ y < 0 ∨ 2 < b.length then (0, 0) else if b.length = 1 then (100 * 0 + 10 * y, 10) else (100 * 0 + y, 1) := by
            rw [← HR.out, decR, hun]
            exact dec_hit _ _ 0 y rfl hy
          have HRR := Lib.hid hres
          have HB := Lib.hid (show List.take (s.length - 1) s.tail = b by simpa using hbl)
          clear hres hun hy hb hbl HR
          by_cases hy0 : y < 0
          · have hRR : R = (0, 0) := by rw [HRR.out, if_pos (.inr (.inl hy0))]
            subst hRR
            clear HRR
            go_wp2_with fail
            rw [HB.out]
            refine (H2 _).out.mono ?_
            rintro e w2 ⟨rfl, rfl⟩
            go_wp2_with fail
            exact bodyPost_ret (v := .agg #[.int .i64 0, .int .i64 0]) (by simp [results, Tryz.results160, go_sem]) rfl ⟨rfl, by repeat (first | exact xr _ | apply xa)⟩
          by_cases hl2 : 2 < b.length
          · have hRR : R = (0, 0) := by rw [HRR.out, if_pos (.inr (.inr hl2))]
            subst hRR
            clear HRR
            go_wp2_with fail
            rw [HB.out]
            refine (H2 _).out.mono ?_
            rintro e w2 ⟨rfl, rfl⟩
            go_wp2_with fail
            exact bodyPost_ret (v := .agg #[.int .i64 0, .int .i64 0]) (by simp [results, Tryz.results160, go_sem]) rfl ⟨rfl, by repeat (first | exact xr _ | apply xa)⟩
          by_cases hl1 : b.length = 1
          · have hRR : R = ((10 * y), 10) := by rw [HRR.out, if_neg (by omega), if_pos hl1]; simp
            subst hRR
            clear HRR
            go_wp2_with fail
            rw [HB.out]
            refine (H2 _).out.mono ?_
            rintro e w2 ⟨rfl, rfl⟩
            go_wp2_with fail
            exact bodyPost_ret (v := .agg #[.int .i64 (10 * y), .int .i64 10]) (by simp [results, Tryz.results160, go_sem]) rfl ⟨rfl, by repeat (first | exact xr _ | apply xa)⟩
          · have hRR : R = (y, 1) := by rw [HRR.out, if_neg (by omega), if_neg hl1]; simp
            subst hRR
            clear HRR
            have hl3 : ¬ (b.length : Int) = 1 := by omega
            have hl4 : (b.length == 1) = false := beq_eq_false_iff_ne.2 hl1
            go_wp2_with fail
            rw [HB.out]
            refine (H2 _).out.mono ?_
            rintro e w2 ⟨rfl, rfl⟩
            go_wp2_with fail
            exact bodyPost_ret (v := .agg #[.int .i64 y, .int .i64 1]) (by simp [results, Tryz.results160, go_sem]) rfl ⟨rfl, by repeat (first | exact xr _ | apply xa)⟩
      by_cases h44 : c = 44
      · subst h44
        have hi : ∀ W, (Instr.index 9 (.string ⟨s.toArray⟩) (.int .i64 (k : Int))).run Tryz.prog W = .ok (.int .u8 44) W := idx_st s k 44 hc
        have hun := hun_at HN.out hc (by decide)
        obtain ⟨b, hb⟩ : ∃ b, List.drop (k + 1) s = b := ⟨_, rfl⟩
        have hbl : List.take (s.length - (k + 1)) (List.drop (k + 1) s) = b := by rw [← hb]; exact List.take_of_length_le (by rw [List.length_drop]; exact Nat.le_refl _)
        rw [hb] at hun
        obtain ⟨y, hy⟩ : ∃ y, orM (numO b) = y := ⟨_, rfl⟩
        have H2 := c118_H hy
        have hyb := orM_bd b
        rw [hy] at hyb
        have hbn : b.length ≤ 4000 := by rw [← hb, List.length_drop]; omega
        clear hc h46
        by_cases h0 : 0 < k
        · obtain ⟨x, hx⟩ : ∃ x, orM (numO (List.take k s)) = x := ⟨_, rfl⟩
          have H1 := c118_H hx
          have hxb := orM_bd (List.take k s)
          rw [hx] at hxb
          have hres : R = if x < 0 ∨ y < 0 ∨ 2 < b.length then (0, 0) else if b.length = 1 then (100 * x + 10 * y, 10) else (100 * x + y, 1) := by
            rw [← HR.out, decR, hun]
            refine dec_hit _ _ x y ?_ hy
            have he : (List.take k s).isEmpty = false := by
              cases e : List.take k s with
              | nil => have := congrArg List.length e; simp only [List.length_take, List.length_nil] at this; omega
              | cons _ _ => rfl
            rw [he, if_neg Bool.false_ne_true, hx]
          have HRR := Lib.hid hres
          have HB := Lib.hid hbl
          clear hres hun hx hy hb hbl HR
          by_cases hx0 : x < 0
          · have hRR : R = (0, 0) := by rw [HRR.out, if_pos (.inl hx0)]
            subst hRR
            clear HRR
            go_wp2_with fail
            refine (H1 _).out.mono ?_
            rintro e w1 ⟨rfl, rfl⟩
            go_wp2_with fail
            rw [HB.out]
            refine (H2 _).out.mono ?_
            rintro e w2 ⟨rfl, rfl⟩
            go_wp2_with fail
            exact bodyPost_ret (v := .agg #[.int .i64 0, .int .i64 0]) (by simp [results, Tryz.results160, go_sem]) rfl ⟨rfl, by repeat (first | exact xr _ | apply xa)⟩
          by_cases hy0 : y < 0
          · have hRR : R = (0, 0) := by rw [HRR.out, if_pos (.inr (.inl hy0))]
            subst hRR
            clear HRR
            go_wp2_with fail
            refine (H1 _).out.mono ?_
            rintro e w1 ⟨rfl, rfl⟩
            go_wp2_with fail
            rw [HB.out]
            refine (H2 _).out.mono ?_
            rintro e w2 ⟨rfl, rfl⟩
            go_wp2_with fail
            exact bodyPost_ret (v := .agg #[.int .i64 0, .int .i64 0]) (by simp [results, Tryz.results160, go_sem]) rfl ⟨rfl, by repeat (first | exact xr _ | apply xa)⟩
          by_cases hl2 : 2 < b.length
          · have hRR : R = (0, 0) := by rw [HRR.out, if_pos (.inr (.inr hl2))]
            subst hRR
            clear HRR
            go_wp2_with fail
            refine (H1 _).out.mono ?_
            rintro e w1 ⟨rfl, rfl⟩
            go_wp2_with fail
            rw [HB.out]
            refine (H2 _).out.mono ?_
            rintro e w2 ⟨rfl, rfl⟩
            go_wp2_with fail
            exact bodyPost_ret (v := .agg #[.int .i64 0, .int .i64 0]) (by simp [results, Tryz.results160, go_sem]) rfl ⟨rfl, by repeat (first | exact xr _ | apply xa)⟩
          by_cases hl1 : b.length = 1
          · have hRR : R = ((100 * x + 10 * y), 10) := by rw [HRR.out, if_neg (by omega), if_pos hl1]
            subst hRR
            clear HRR
            go_wp2_with fail
            refine (H1 _).out.mono ?_
            rintro e w1 ⟨rfl, rfl⟩
            go_wp2_with fail
            rw [HB.out]
            refine (H2 _).out.mono ?_
            rintro e w2 ⟨rfl, rfl⟩
            go_wp2_with fail
            exact bodyPost_ret (v := .agg #[.int .i64 (100 * x + 10 * y), .int .i64 10]) (by simp [results, Tryz.results160, go_sem]) rfl ⟨rfl, by repeat (first | exact xr _ | apply xa)⟩
          · have hRR : R = ((100 * x + y), 1) := by rw [HRR.out, if_neg (by omega), if_neg hl1]
            subst hRR
            clear HRR
            have hl3 : ¬ (b.length : Int) = 1 := by omega
            have hl4 : (b.length == 1) = false := beq_eq_false_iff_ne.2 hl1
            go_wp2_with fail
            refine (H1 _).out.mono ?_
            rintro e w1 ⟨rfl, rfl⟩
            go_wp2_with fail
            rw [HB.out]
            refine (H2 _).out.mono ?_
            rintro e w2 ⟨rfl, rfl⟩
            go_wp2_with fail
            exact bodyPost_ret (v := .agg #[.int .i64 (100 * x + y), .int .i64 1]) (by simp [results, Tryz.results160, go_sem]) rfl ⟨rfl, by repeat (first | exact xr _ | apply xa)⟩
        · have hk0 : k = 0 := by omega
          subst hk0
          have hi0 : ∀ W, (Instr.index 9 (.string ⟨s.toArray⟩) (.int .i64 0)).run Tryz.prog W = .ok (.int .u8 44) W := hi
          clear hi
          have hres : R = if (0 : Int) < 0 ∨ y < 0 ∨ 2 < b.length then (0, 0) else if b.length = 1 then (100 * 0 + 10 * y, 10) else (100 * 0 + y, 1) := by
            rw [← HR.out, decR, hun]
            exact dec_hit _ _ 0 y rfl hy
          have HRR := Lib.hid hres
          have HB := Lib.hid (show List.take (s.length - 1) s.tail = b by simpa using hbl)
          clear hres hun hy hb hbl HR
          by_cases hy0 : y < 0
          · have hRR : R = (0, 0) := by rw [HRR.out, if_pos (.inr (.inl hy0))]
            subst hRR
            clear HRR
            go_wp2_with fail
            rw [HB.out]
            refine (H2 _).out.mono ?_
            rintro e w2 ⟨rfl, rfl⟩
            go_wp2_with fail
            exact bodyPost_ret (v := .agg #[.int .i64 0, .int .i64 0]) (by simp [results, Tryz.results160, go_sem]) rfl ⟨rfl, by repeat (first | exact xr _ | apply xa)⟩
          by_cases hl2 : 2 < b.length
          · have hRR : R = (0, 0) := by rw [HRR.out, if_pos (.inr (.inr hl2))]
            subst hRR
            clear HRR
            go_wp2_with fail
            rw [HB.out]
            refine (H2 _).out.mono ?_
            rintro e w2 ⟨rfl, rfl⟩
            go_wp2_with fail
            exact bodyPost_ret (v := .agg #[.int .i64 0, .int .i64 0]) (by simp [results, Tryz.results160, go_sem]) rfl ⟨rfl, by repeat (first | exact xr _ | apply xa)⟩
          by_cases hl1 : b.length = 1
          · have hRR : R = ((10 * y), 10) := by rw [HRR.out, if_neg (by omega), if_pos hl1]; simp
            subst hRR
            clear HRR
            go_wp2_with fail
            rw [HB.out]
            refine (H2 _).out.mono ?_
            rintro e w2 ⟨rfl, rfl⟩
            go_wp2_with fail
            exact bodyPost_ret (v := .agg #[.int .i64 (10 * y), .int .i64 10]) (by simp [results, Tryz.results160, go_sem]) rfl ⟨rfl, by repeat (first | exact xr _ | apply xa)⟩
          · have hRR : R = (y, 1) := by rw [HRR.out, if_neg (by omega), if_neg hl1]; simp
            subst hRR
            clear HRR
            have hl3 : ¬ (b.length : Int) = 1 := by omega
            have hl4 : (b.length == 1) = false := beq_eq_false_iff_ne.2 hl1
            go_wp2_with fail
            rw [HB.out]
            refine (H2 _).out.mono ?_
            rintro e w2 ⟨rfl, rfl⟩
            go_wp2_with fail
            exact bodyPost_ret (v := .agg #[.int .i64 y, .int .i64 1]) (by simp [results, Tryz.results160, go_sem]) rfl ⟨rfl, by repeat (first | exact xr _ | apply xa)⟩
      have HX := Lib.hid (Lib.NoAny.succ HN.out hc (by simp [pc, h46, h44]))
      have hi := idx_st s k c hc
      have n1 : ¬ (c.toNat : Int) = 46 := fun h => h46 (UInt8.toNat_inj.1 (by have : (46 : UInt8).toNat = 46 := rfl; omega))
      have n2 : ¬ (c.toNat : Int) = 44 := fun h => h44 (UInt8.toNat_inj.1 (by have : (44 : UInt8).toNat = 44 := rfl; omega))
      have m1 : ((c.toNat : Int) == 46) = false := beq_eq_false_iff_ne.2 n1
      have m2 : ((c.toNat : Int) == 44) = false := beq_eq_false_iff_ne.2 n2
      clear hc h46 h44
      go_wp2_with fail
      go_roundw
      case rel => exact ⟨k + 1, by omega, rfl, by go_num, HX, trivial⟩
      case measure => simp [intOf]; omega
    · have hke : k = s.length := by omega
      have hun : decR s = ((numO s).map fun v => (100 * v, 100)).getD (0, 0) := by
        rw [decR, hunO, Lib.indexAny_none (by rw [← hke]; exact HN.out), if_pos (by decide)]
      have hbd := orM_bd s
      rcases orM_some (l := s) rfl with ⟨e1, e2⟩ | ⟨v, e1, e2, e3⟩
      · have hRR : R = (0, 0) := by rw [← HR.out, hun, e1]; rfl
        subst hRR
        have H := c118_H e2
        clear hun e1 e2 HR
        go_wp2_with (go_at_call 118; refine (H _).out.mono ?_; rintro e w1 ⟨rfl, rfl⟩)
        exact bodyPost_ret (v := .agg #[.int .i64 0, .int .i64 0]) (by simp [results, Tryz.results160, go_sem]) rfl ⟨rfl, by repeat (first | exact xr _ | apply xa)⟩
      · have hRR : R = (100 * v, 100) := by rw [← HR.out, hun, e1]; rfl
        subst hRR
        have H := c118_H e2
        rw [e2] at hbd
        clear hun e1 e2 HR
        go_wp2_with (go_at_call 118; refine (H _).out.mono ?_; rintro e w1 ⟨rfl, rfl⟩)
        exact bodyPost_ret (v := .agg #[.int .i64 (100 * v), .int .i64 100]) (by simp [results, Tryz.results160, go_sem]) rfl ⟨rfl, by repeat (first | exact xr _ | apply xa)⟩
end Go.Proofs.YthifeoebefbalaaGreatDoor
