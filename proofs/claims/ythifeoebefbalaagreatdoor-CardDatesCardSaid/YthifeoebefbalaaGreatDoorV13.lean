/- The law CardDates. -/
import Derived.Test.YthifeoebefbalaaGreatDoorV12
import Derived.Test.YthifeoebefbalaaGreatDoorV8
import Derived.Test.YthifeoebefbalaaGreatDoorV9
import Derived.Test.YthifeoebefbalaaGreatDoorV10
import Derived.Test.YthifeoebefbalaaGreatDoorV11
import Derived.Test.YthifeoebefbalaaGreatDoorV4
set_option linter.unusedVariables false
set_option linter.unusedSimpArgs false
namespace Go.Proofs.YthifeoebefbalaaGreatDoor
open Go.RowKit

/-- Bytes that stay as they are when words are read. -/
def Pl (x : List UInt8) : Prop := ∀ c ∈ x, gapU c = false ∧ smallB c = c
theorem pl_dig {x : List UInt8} (h : ∀ c ∈ x, isDig c = true) : Pl x := fun c hc => ⟨(dig_all c (h c hc)).1, (dig_all c (h c hc)).2.1⟩
theorem pl_app {x y : List UInt8} (h : Pl x) (k : Pl y) : Pl (x ++ y) := fun c hc => by
  rcases List.mem_append.1 hc with hc | hc
  · exact h c hc
  · exact k c hc
theorem pl_cons {c : UInt8} {x : List UInt8} (h : gapU c = false ∧ smallB c = c) (k : Pl x) : Pl (c :: x) := fun d hd => by
  rcases List.mem_cons.1 hd with rfl | hd
  · exact h
  · exact k d hd
theorem pl_small {x : List UInt8} (h : Pl x) : smallL x = x := by
  rw [smallL]
  conv => rhs; rw [← List.map_id x]
  exact List.map_congr_left fun c hc => (h c hc).2
theorem pl_ends (k : Nat) (hk : k < 4) : Pl (ends4 k) := by
  have : k = 0 ∨ k = 1 ∨ k = 2 ∨ k = 3 := by omega
  rcases this with rfl | rfl | rfl | rfl <;> (intro c hc; revert c; decide)
theorem wd_pl {x : List UInt8} (hx : x ≠ []) (h : Pl x) : Wd x [x] := by
  have := wd_one hx (fun c hc => (h c hc).1)
  rwa [pl_small h] at this
theorem wd_plc {x F : List UInt8} {fw : List (List UInt8)} (hx : x ≠ []) (h : Pl x) (hF : Wd F fw) : Wd (x ++ 32 :: F) (x :: fw) := by
  have := wd_cons hx (fun c hc => (h c hc).1) hF
  rwa [pl_small h] at this
/-- The first letters of a month's name. -/
structure Mon (m : Int) (P : List UInt8) : Prop where
  ne : P ≠ []
  gap : ∀ c ∈ P, gapU c = false
  mon : monthO (smallL P) = some m
  dot : monthO (smallL P ++ [46]) = some m
  sig : ∀ c ∈ smallL P, c ≠ 47 ∧ c ≠ 46 ∧ c ≠ 45
  dig : isDig ((smallL P).headD 0) = false
theorem mon_of (m : Int) (h1 : 1 ≤ m) (h2 : m ≤ 12) (N : List UInt8) (hN : monCaps[m.toNat - 1]? = some N) (k : Nat) (k3 : 3 ≤ k) (kl : k ≤ N.length) (k9 : k ≤ 9) : Mon m (N.take k) := by
  have hg : monCaps.getD (m.toNat - 1) [] = N := by rw [List.getD, hN]; rfl
  have h := okP_all ⟨m.toNat - 1, by omega⟩ ⟨k, by omega⟩ k3 (by show k ≤ (monCaps.getD (m.toNat - 1) []).length; rw [hg]; exact kl)
  simp only [okP, hg, Bool.and_eq_true, decide_eq_true_eq, List.all_eq_true, Bool.not_eq_true', bne_iff_ne] at h
  obtain ⟨⟨⟨⟨⟨a1, a2⟩, a3⟩, a4⟩, a5⟩, a6⟩ := h
  have e : (((m.toNat - 1 : Nat) : Int)) + 1 = m := by omega
  rw [e] at a2 a3
  exact ⟨(by intro h0; rw [h0] at a6; cases a6), a1, a2, a3, fun c hc => ⟨(a4 c hc).1.1, (a4 c hc).1.2, (a4 c hc).2⟩, a5⟩
theorem caps_len (i : Nat) (h : i < 12) : ∃ N, monCaps[i]? = some N ∧ 3 ≤ N.length ∧ N.length ≤ 9 := by
  have : i = 0 ∨ i = 1 ∨ i = 2 ∨ i = 3 ∨ i = 4 ∨ i = 5 ∨ i = 6 ∨ i = 7 ∨ i = 8 ∨ i = 9 ∨ i = 10 ∨ i = 11 := by omega
  rcases this with rfl | rfl | rfl | rfl | rfl | rfl | rfl | rfl | rfl | rfl | rfl | rfl <;> exact ⟨_, rfl, by decide, by decide⟩
theorem two_head (d : Int) (r : List UInt8) : isDig ((twoL d ++ r).headD 0) = true := (dgt_dig (d / 10 % 10) (by omega) (by omega)).1
theorem sig_app {x y : List UInt8} (h : ∀ c ∈ x, c ≠ 47 ∧ c ≠ 46 ∧ c ≠ 45) (k : ∀ c ∈ y, c ≠ 47 ∧ c ≠ 46 ∧ c ≠ 45) : ∀ c ∈ x ++ y, c ≠ 47 ∧ c ≠ 46 ∧ c ≠ 45 := fun c hc => by
  rcases List.mem_append.1 hc with hc | hc
  · exact h c hc
  · exact k c hc
theorem sig_ends (k : Nat) (hk : k < 4) : ∀ c ∈ ends4 k, c ≠ 47 ∧ c ≠ 46 ∧ c ≠ 45 := by
  have : k = 0 ∨ k = 1 ∨ k = 2 ∨ k = 3 := by omega
  rcases this with rfl | rfl | rfl | rfl <;> (intro c hc; revert c; decide)
/-- The eight forms: words, and the date that is read. -/
def Reads (F : List UInt8) (v : Dt) : Prop := F.length ≤ 40 ∧ ∃ x fw, Wd F (x :: fw) ∧ ∀ ws, dateW x (fw ++ ws) zcard = .date v ws
theorem form0 {y m d : Int} {P : List UInt8} (h : Mon m P) (hl : P.length ≤ 9) (y0 : 0 ≤ y) (y1 : y < 10000) (m1 : 1 ≤ m) (m2 : m ≤ 12) (d0 : 0 ≤ d) (d1 : d < 100) : Reads (twoL d ++ 32 :: (P ++ 32 :: fourL y)) ⟨y, m, d⟩ :=
  ⟨by simp [twoL, fourL]; omega, _, _, wd_plc (by simp [twoL]) (pl_dig (twoL_dig d)) (wd_cons h.ne h.gap (wd_pl (by simp [fourL, twoL]) (pl_dig (fourL_dig y)))), fun ws =>
    date_dm ws (joined_none (dig_signs (twoL_dig d))) (two_head d []) ((dom_digs (twoL_dig d)).trans (twoL_num d d0 d1)) h.mon (yearO_four y y0 y1)⟩
theorem form1 {y m d : Int} {P : List UInt8} (h : Mon m P) (hl : P.length ≤ 9) (y0 : 0 ≤ y) (y1 : y < 10000) (m1 : 1 ≤ m) (m2 : m ≤ 12) (d0 : 0 ≤ d) (d1 : d < 100) (k : Nat) (hk : k < 4) : Reads ((twoL d ++ ends4 k) ++ 32 :: ((P ++ [46]) ++ 32 :: fourL y)) ⟨y, m, d⟩ := by
  have le : (ends4 k).length = 2 := by
    have : k = 0 ∨ k = 1 ∨ k = 2 ∨ k = 3 := by omega
    rcases this with rfl | rfl | rfl | rfl <;> rfl
  refine ⟨by simp [twoL, fourL, le]; omega, _, _, wd_plc (by simp [twoL]) (pl_app (pl_dig (twoL_dig d)) (pl_ends k hk)) (wd_cons (w := P ++ [46]) (by simp) (fun c hc => ?_) (wd_pl (by simp [fourL, twoL]) (pl_dig (fourL_dig y)))), fun ws =>
    date_dm ws (joined_none (sig_app (dig_signs (twoL_dig d)) (sig_ends k hk))) (two_head d _) ((dom_end _ _ k hk).1.trans (twoL_num d d0 d1)) ?_ (yearO_four y y0 y1)⟩
  · rcases List.mem_append.1 hc with hc | hc
    · exact h.gap c hc
    · rw [List.mem_singleton.1 hc]; decide
  · have := h.dot
    rwa [show smallL P ++ [46] = smallL (P ++ [46]) by simp [smallL, smallB]] at this
theorem form2 {y m d : Int} {P : List UInt8} (h : Mon m P) (hl : P.length ≤ 9) (y0 : 0 ≤ y) (y1 : y < 10000) (m1 : 1 ≤ m) (m2 : m ≤ 12) (d0 : 0 ≤ d) (d1 : d < 100) (k : Nat) (hk : k < 4) : Reads (P ++ 32 :: ((twoL d ++ ends4 k ++ [44]) ++ 32 :: fourL y)) ⟨y, m, d⟩ := by
  have le : (ends4 k).length = 2 := by
    have : k = 0 ∨ k = 1 ∨ k = 2 ∨ k = 3 := by omega
    rcases this with rfl | rfl | rfl | rfl <;> rfl
  exact ⟨by simp [twoL, fourL, le]; omega, _, _, wd_cons h.ne h.gap (wd_plc (by simp [twoL]) (pl_app (pl_app (pl_dig (twoL_dig d)) (pl_ends k hk)) (pl_cons (by decide) (fun c hc => by cases hc))) (wd_pl (by simp [fourL, twoL]) (pl_dig (fourL_dig y)))), fun ws =>
    date_md ws (joined_none h.sig) h.dig h.mon ((dom_end _ _ k hk).2.trans (twoL_num d d0 d1)) (yearO_four y y0 y1)⟩
theorem form3 {y m d : Int} {P : List UInt8} (h : Mon m P) (hl : P.length ≤ 9) (y0 : 0 ≤ y) (y1 : y < 10000) (m1 : 1 ≤ m) (m2 : m ≤ 12) (d0 : 0 ≤ d) (d1 : d < 100) : Reads (P ++ 32 :: ((twoL d ++ [44]) ++ 32 :: fourL y)) ⟨y, m, d⟩ :=
  ⟨by simp [twoL, fourL]; omega, _, _, wd_cons h.ne h.gap (wd_plc (by simp [twoL]) (pl_app (pl_dig (twoL_dig d)) (pl_cons (by decide) (fun c hc => by cases hc))) (wd_pl (by simp [fourL, twoL]) (pl_dig (fourL_dig y)))), fun ws =>
    date_md ws (joined_none h.sig) h.dig h.mon ((dom_comma (twoL_dig d)).trans (twoL_num d d0 d1)) (yearO_four y y0 y1)⟩
theorem form4 {y m d : Int} (y0 : 0 ≤ y) (y1 : y < 10000) (m1 : 1 ≤ m) (m2 : m ≤ 12) (d0 : 0 ≤ d) (d1 : d < 100) : Reads (twoL d ++ 47 :: (twoL m ++ 47 :: fourL y)) ⟨y, m, d⟩ :=
  ⟨by simp [twoL, fourL], _, [], wd_pl (by simp [twoL]) (pl_app (pl_dig (twoL_dig d)) (pl_cons (by decide) (pl_app (pl_dig (twoL_dig m)) (pl_cons (by decide) (pl_dig (fourL_dig y)))))), fun ws =>
    date_joined ws (joined_47 (twoL_dig d) (twoL_dig m) (fourL_dig y) (twoL_num d d0 d1) (twoL_num m (by omega) (by omega)) (fourL_num y y0 y1) rfl m1 m2)⟩
theorem form5 {y m d : Int} (y0 : 0 ≤ y) (y1 : y < 10000) (m1 : 1 ≤ m) (m2 : m ≤ 12) (d0 : 0 ≤ d) (d1 : d < 100) : Reads (twoL d ++ 46 :: (twoL m ++ 46 :: fourL y)) ⟨y, m, d⟩ :=
  ⟨by simp [twoL, fourL], _, [], wd_pl (by simp [twoL]) (pl_app (pl_dig (twoL_dig d)) (pl_cons (by decide) (pl_app (pl_dig (twoL_dig m)) (pl_cons (by decide) (pl_dig (fourL_dig y)))))), fun ws =>
    date_joined ws (joined_46 (twoL_dig d) (twoL_dig m) (fourL_dig y) (twoL_num d d0 d1) (twoL_num m (by omega) (by omega)) (fourL_num y y0 y1) rfl m1 m2)⟩
theorem form6 {y m d : Int} (y0 : 0 ≤ y) (y1 : y < 10000) (m1 : 1 ≤ m) (m2 : m ≤ 12) (d0 : 0 ≤ d) (d1 : d < 100) : Reads (twoL d ++ 45 :: (twoL m ++ 45 :: fourL y)) ⟨y, m, d⟩ :=
  ⟨by simp [twoL, fourL], _, [], wd_pl (by simp [twoL]) (pl_app (pl_dig (twoL_dig d)) (pl_cons (by decide) (pl_app (pl_dig (twoL_dig m)) (pl_cons (by decide) (pl_dig (fourL_dig y)))))), fun ws =>
    date_joined ws (joined_45 _ (by intro h; cases h) (twoL_dig d) (twoL_dig m) (fourL_dig y) (join3_dmy true rfl (twoL_num d d0 d1) (twoL_num m (by omega) (by omega)) (fourL_num y y0 y1) rfl m1 m2))⟩
theorem form7 {y m d : Int} (y0 : 0 ≤ y) (y1 : y < 10000) (m1 : 1 ≤ m) (m2 : m ≤ 12) (d0 : 0 ≤ d) (d1 : d < 100) : Reads (fourL y ++ 45 :: (twoL m ++ 45 :: twoL d)) ⟨y, m, d⟩ :=
  ⟨by simp [twoL, fourL], _, [], wd_pl (by simp [fourL, twoL]) (pl_app (pl_dig (fourL_dig y)) (pl_cons (by decide) (pl_app (pl_dig (twoL_dig m)) (pl_cons (by decide) (pl_dig (twoL_dig d)))))), fun ws =>
    date_joined ws (joined_45 _ (by intro h; cases h) (fourL_dig y) (twoL_dig m) (twoL_dig d) (join3_ymd rfl (fourL_num y y0 y1) (twoL_num m (by omega) (by omega)) (twoL_num d d0 d1) m1 m2))⟩
theorem reads_A {F : List UInt8} {v : Dt} {day : Int} (h : Reads F v) (hn : dnum v.y v.m v.d = some day) (h0 : 0 ≤ day) (h1 : day ≤ 60000) : lineR (53 :: 32 :: (F ++ [32, 50, 32, 100, 97, 121, 115, 32, 110, 105, 108])) zcard = .got ⟨5, day, 2, 3, 0, 0⟩ := by
  obtain ⟨hl, x, fw, hF, hd⟩ := h
  exact form_A hF (by omega) hd hn h0 h1
theorem reads_B {F : List UInt8} {v : Dt} {day : Int} (h : Reads F v) (hn : dnum v.y v.m v.d = some day) (h0 : 0 ≤ day) (h1 : day ≤ 60000) : lineR (35 :: 53 :: 32 :: (F ++ [32, 102, 111, 114, 32, 50, 100, 32, 45])) zcard = .got ⟨5, day, 2, 3, 0, 0⟩ := by
  obtain ⟨hl, x, fw, hF, hd⟩ := h
  exact form_B hF (by omega) hd hn h0 h1
theorem c6v_0 (day letters suffix : Int) (w : World) (h0 : 0 ≤ day) (h1 : day ≤ 60000) (g0 : 0 ≤ letters) (g1 : letters ≤ 255) (s0 : 0 ≤ suffix) (s1 : suffix ≤ 255) (hs : suffix % 4 = 0) (HE : Hid (Env w)) (HC : Hid (Cell0 w)) : Calls Tryz.prog 6 #[.int .i64 day, .int .u8 letters, .int .u8 suffix] w fun e w' => e = .returned (.bool true) ∧ Below w.heap.size w w' := by
  obtain ⟨y, m, d, hv, hn, y0, y1, m1, m2, d0, d1⟩ : ∃ y m d, dof day = ⟨y, m, d⟩ ∧ dnum y m d = some day ∧ 0 ≤ y ∧ y < 10000 ∧ 1 ≤ m ∧ m ≤ 12 ∧ 0 ≤ d ∧ d < 100 := by
    have hn := dnum_dof day h0 h1
    have he : dexists (dof day).y (dof day).m (dof day).d = true := by
      unfold dnum at hn
      split at hn
      · rename_i h; exact h.1
      · cases hn
    obtain ⟨a1, a2, a3, a4, a5, a6⟩ := dexists_true.1 he
    have := mlen_bd (dof day).y (dof day).m
    exact ⟨(dof day).y, (dof day).m, (dof day).d, rfl, hn, by omega, by omega, by omega, by omega, by omega, by omega⟩
  obtain ⟨N, hN, n1, n2⟩ := caps_len (m.toNat - 1) (by omega)
  have q0 : 0 ≤ letters % ((N.length : Int) - 2) := Int.emod_nonneg _ (by omega)
  have q1 : letters % ((N.length : Int) - 2) < (N.length : Int) - 2 := Int.emod_lt_of_pos _ (by omega)
  obtain ⟨q, hq⟩ : ∃ q, letters % ((N.length : Int) - 2) = q := ⟨_, rfl⟩
  rw [hq] at q0 q1
  have hM := mon_of m m1 m2 N hN (3 + q).toNat (by omega) (by omega) (by omega)
  obtain ⟨P, hP⟩ : ∃ P, N.take (3 + q).toNat = P := ⟨_, rfl⟩
  have hl : P.length ≤ 9 := by rw [← hP, List.length_take]; omega
  rw [hP] at hM
  have f0 : Reads (twoL d ++ 32 :: (P ++ 32 :: fourL y)) ⟨y, m, d⟩ := form0 hM hl y0 y1 m1 m2 d0 d1
  have f1 : Reads (twoL d ++ 115 :: 116 :: 32 :: (P ++ 46 :: 32 :: fourL y)) ⟨y, m, d⟩ := by
    have h := form1 hM hl y0 y1 m1 m2 d0 d1 0 (by decide)
    simpa [ends4, endsL] using h
  have f2 : Reads (P ++ 32 :: (twoL d ++ 115 :: 116 :: 44 :: 32 :: fourL y)) ⟨y, m, d⟩ := by
    have h := form2 hM hl y0 y1 m1 m2 d0 d1 0 (by decide)
    simpa [ends4, endsL] using h
  have f3 : Reads (P ++ 32 :: (twoL d ++ 44 :: 32 :: fourL y)) ⟨y, m, d⟩ := by
    have h := form3 hM hl y0 y1 m1 m2 d0 d1
    simpa [ends4, endsL] using h
  have f4 : Reads (twoL d ++ 47 :: (twoL m ++ 47 :: fourL y)) ⟨y, m, d⟩ := form4 y0 y1 m1 m2 d0 d1
  have f5 : Reads (twoL d ++ 46 :: (twoL m ++ 46 :: fourL y)) ⟨y, m, d⟩ := form5 y0 y1 m1 m2 d0 d1
  have f6 : Reads (twoL d ++ 45 :: (twoL m ++ 45 :: fourL y)) ⟨y, m, d⟩ := form6 y0 y1 m1 m2 d0 d1
  have f7 : Reads (fourL y ++ 45 :: (twoL m ++ 45 :: twoL d)) ⟨y, m, d⟩ := form7 y0 y1 m1 m2 d0 d1
  have HD : ∀ W, Hid (Calls Tryz.prog 29 #[.int .i64 day] W fun r w' => r = .returned (.tuple #[.agg #[.int .i64 y, .int .i64 m, .int .i64 d], .int .i64 0]) ∧ Below W.heap.size W w') := fun W => Lib.hid (by
    have H := c29 day W h0 h1
    rw [hv] at H
    exact H)
  exact c6_0 (m1 := m1) (m2 := m2) (g0 := g0) (g1 := g1) (hs := hs) (s0 := s0) (s1 := s1) (HN := Lib.hid hN) (n1 := n1) (n2 := n2) (q := q) (hq := hq) (hq0 := q0) (hq1 := q1) (HP := Lib.hid hP) (l1 := hl) (DW := twoL d) (MW := twoL m) (YW := fourL y) (l2 := by simp [twoL]) (l3 := by simp [twoL]) (l4 := by simp [fourL, twoL]) (HE := HE) (HC := HC) (HD := HD) (H31d := fun W => Lib.hid (c31 d W d0 (by omega))) (H31m := fun W => Lib.hid (c31 m W (by omega) (by omega))) (H32 := fun W => Lib.hid (c32 y W y0 (by omega))) (E0 := Lib.hid rfl) (lF0 := f0.1) (A0 := c27_got _ ⟨5, day, 2, 3, 0, 0⟩ (reads_A f0 hn h0 h1)) (B0 := c27_got _ ⟨5, day, 2, 3, 0, 0⟩ (reads_B f0 hn h0 h1)) (E1 := Lib.hid rfl) (lF1 := f1.1) (A1 := c27_got _ ⟨5, day, 2, 3, 0, 0⟩ (reads_A f1 hn h0 h1)) (B1 := c27_got _ ⟨5, day, 2, 3, 0, 0⟩ (reads_B f1 hn h0 h1)) (E2 := Lib.hid rfl) (lF2 := f2.1) (A2 := c27_got _ ⟨5, day, 2, 3, 0, 0⟩ (reads_A f2 hn h0 h1)) (B2 := c27_got _ ⟨5, day, 2, 3, 0, 0⟩ (reads_B f2 hn h0 h1)) (E3 := Lib.hid rfl) (lF3 := f3.1) (A3 := c27_got _ ⟨5, day, 2, 3, 0, 0⟩ (reads_A f3 hn h0 h1)) (B3 := c27_got _ ⟨5, day, 2, 3, 0, 0⟩ (reads_B f3 hn h0 h1)) (E4 := Lib.hid rfl) (lF4 := f4.1) (A4 := c27_got _ ⟨5, day, 2, 3, 0, 0⟩ (reads_A f4 hn h0 h1)) (B4 := c27_got _ ⟨5, day, 2, 3, 0, 0⟩ (reads_B f4 hn h0 h1)) (E5 := Lib.hid rfl) (lF5 := f5.1) (A5 := c27_got _ ⟨5, day, 2, 3, 0, 0⟩ (reads_A f5 hn h0 h1)) (B5 := c27_got _ ⟨5, day, 2, 3, 0, 0⟩ (reads_B f5 hn h0 h1)) (E6 := Lib.hid rfl) (lF6 := f6.1) (A6 := c27_got _ ⟨5, day, 2, 3, 0, 0⟩ (reads_A f6 hn h0 h1)) (B6 := c27_got _ ⟨5, day, 2, 3, 0, 0⟩ (reads_B f6 hn h0 h1)) (E7 := Lib.hid rfl) (lF7 := f7.1) (A7 := c27_got _ ⟨5, day, 2, 3, 0, 0⟩ (reads_A f7 hn h0 h1)) (B7 := c27_got _ ⟨5, day, 2, 3, 0, 0⟩ (reads_B f7 hn h0 h1))
theorem c6v_1 (day letters suffix : Int) (w : World) (h0 : 0 ≤ day) (h1 : day ≤ 60000) (g0 : 0 ≤ letters) (g1 : letters ≤ 255) (s0 : 0 ≤ suffix) (s1 : suffix ≤ 255) (hs : suffix % 4 = 1) (HE : Hid (Env w)) (HC : Hid (Cell0 w)) : Calls Tryz.prog 6 #[.int .i64 day, .int .u8 letters, .int .u8 suffix] w fun e w' => e = .returned (.bool true) ∧ Below w.heap.size w w' := by
  obtain ⟨y, m, d, hv, hn, y0, y1, m1, m2, d0, d1⟩ : ∃ y m d, dof day = ⟨y, m, d⟩ ∧ dnum y m d = some day ∧ 0 ≤ y ∧ y < 10000 ∧ 1 ≤ m ∧ m ≤ 12 ∧ 0 ≤ d ∧ d < 100 := by
    have hn := dnum_dof day h0 h1
    have he : dexists (dof day).y (dof day).m (dof day).d = true := by
      unfold dnum at hn
      split at hn
      · rename_i h; exact h.1
      · cases hn
    obtain ⟨a1, a2, a3, a4, a5, a6⟩ := dexists_true.1 he
    have := mlen_bd (dof day).y (dof day).m
    exact ⟨(dof day).y, (dof day).m, (dof day).d, rfl, hn, by omega, by omega, by omega, by omega, by omega, by omega⟩
  obtain ⟨N, hN, n1, n2⟩ := caps_len (m.toNat - 1) (by omega)
  have q0 : 0 ≤ letters % ((N.length : Int) - 2) := Int.emod_nonneg _ (by omega)
  have q1 : letters % ((N.length : Int) - 2) < (N.length : Int) - 2 := Int.emod_lt_of_pos _ (by omega)
  obtain ⟨q, hq⟩ : ∃ q, letters % ((N.length : Int) - 2) = q := ⟨_, rfl⟩
  rw [hq] at q0 q1
  have hM := mon_of m m1 m2 N hN (3 + q).toNat (by omega) (by omega) (by omega)
  obtain ⟨P, hP⟩ : ∃ P, N.take (3 + q).toNat = P := ⟨_, rfl⟩
  have hl : P.length ≤ 9 := by rw [← hP, List.length_take]; omega
  rw [hP] at hM
  have f0 : Reads (twoL d ++ 32 :: (P ++ 32 :: fourL y)) ⟨y, m, d⟩ := form0 hM hl y0 y1 m1 m2 d0 d1
  have f1 : Reads (twoL d ++ 110 :: 100 :: 32 :: (P ++ 46 :: 32 :: fourL y)) ⟨y, m, d⟩ := by
    have h := form1 hM hl y0 y1 m1 m2 d0 d1 1 (by decide)
    simpa [ends4, endsL] using h
  have f2 : Reads (P ++ 32 :: (twoL d ++ 110 :: 100 :: 44 :: 32 :: fourL y)) ⟨y, m, d⟩ := by
    have h := form2 hM hl y0 y1 m1 m2 d0 d1 1 (by decide)
    simpa [ends4, endsL] using h
  have f3 : Reads (P ++ 32 :: (twoL d ++ 44 :: 32 :: fourL y)) ⟨y, m, d⟩ := by
    have h := form3 hM hl y0 y1 m1 m2 d0 d1
    simpa [ends4, endsL] using h
  have f4 : Reads (twoL d ++ 47 :: (twoL m ++ 47 :: fourL y)) ⟨y, m, d⟩ := form4 y0 y1 m1 m2 d0 d1
  have f5 : Reads (twoL d ++ 46 :: (twoL m ++ 46 :: fourL y)) ⟨y, m, d⟩ := form5 y0 y1 m1 m2 d0 d1
  have f6 : Reads (twoL d ++ 45 :: (twoL m ++ 45 :: fourL y)) ⟨y, m, d⟩ := form6 y0 y1 m1 m2 d0 d1
  have f7 : Reads (fourL y ++ 45 :: (twoL m ++ 45 :: twoL d)) ⟨y, m, d⟩ := form7 y0 y1 m1 m2 d0 d1
  have HD : ∀ W, Hid (Calls Tryz.prog 29 #[.int .i64 day] W fun r w' => r = .returned (.tuple #[.agg #[.int .i64 y, .int .i64 m, .int .i64 d], .int .i64 0]) ∧ Below W.heap.size W w') := fun W => Lib.hid (by
    have H := c29 day W h0 h1
    rw [hv] at H
    exact H)
  exact c6_1 (m1 := m1) (m2 := m2) (g0 := g0) (g1 := g1) (hs := hs) (s0 := s0) (s1 := s1) (HN := Lib.hid hN) (n1 := n1) (n2 := n2) (q := q) (hq := hq) (hq0 := q0) (hq1 := q1) (HP := Lib.hid hP) (l1 := hl) (DW := twoL d) (MW := twoL m) (YW := fourL y) (l2 := by simp [twoL]) (l3 := by simp [twoL]) (l4 := by simp [fourL, twoL]) (HE := HE) (HC := HC) (HD := HD) (H31d := fun W => Lib.hid (c31 d W d0 (by omega))) (H31m := fun W => Lib.hid (c31 m W (by omega) (by omega))) (H32 := fun W => Lib.hid (c32 y W y0 (by omega))) (E0 := Lib.hid rfl) (lF0 := f0.1) (A0 := c27_got _ ⟨5, day, 2, 3, 0, 0⟩ (reads_A f0 hn h0 h1)) (B0 := c27_got _ ⟨5, day, 2, 3, 0, 0⟩ (reads_B f0 hn h0 h1)) (E1 := Lib.hid rfl) (lF1 := f1.1) (A1 := c27_got _ ⟨5, day, 2, 3, 0, 0⟩ (reads_A f1 hn h0 h1)) (B1 := c27_got _ ⟨5, day, 2, 3, 0, 0⟩ (reads_B f1 hn h0 h1)) (E2 := Lib.hid rfl) (lF2 := f2.1) (A2 := c27_got _ ⟨5, day, 2, 3, 0, 0⟩ (reads_A f2 hn h0 h1)) (B2 := c27_got _ ⟨5, day, 2, 3, 0, 0⟩ (reads_B f2 hn h0 h1)) (E3 := Lib.hid rfl) (lF3 := f3.1) (A3 := c27_got _ ⟨5, day, 2, 3, 0, 0⟩ (reads_A f3 hn h0 h1)) (B3 := c27_got _ ⟨5, day, 2, 3, 0, 0⟩ (reads_B f3 hn h0 h1)) (E4 := Lib.hid rfl) (lF4 := f4.1) (A4 := c27_got _ ⟨5, day, 2, 3, 0, 0⟩ (reads_A f4 hn h0 h1)) (B4 := c27_got _ ⟨5, day, 2, 3, 0, 0⟩ (reads_B f4 hn h0 h1)) (E5 := Lib.hid rfl) (lF5 := f5.1) (A5 := c27_got _ ⟨5, day, 2, 3, 0, 0⟩ (reads_A f5 hn h0 h1)) (B5 := c27_got _ ⟨5, day, 2, 3, 0, 0⟩ (reads_B f5 hn h0 h1)) (E6 := Lib.hid rfl) (lF6 := f6.1) (A6 := c27_got _ ⟨5, day, 2, 3, 0, 0⟩ (reads_A f6 hn h0 h1)) (B6 := c27_got _ ⟨5, day, 2, 3, 0, 0⟩ (reads_B f6 hn h0 h1)) (E7 := Lib.hid rfl) (lF7 := f7.1) (A7 := c27_got _ ⟨5, day, 2, 3, 0, 0⟩ (reads_A f7 hn h0 h1)) (B7 := c27_got _ ⟨5, day, 2, 3, 0, 0⟩ (reads_B f7 hn h0 h1))
theorem c6v_2 (day letters suffix : Int) (w : World) (h0 : 0 ≤ day) (h1 : day ≤ 60000) (g0 : 0 ≤ letters) (g1 : letters ≤ 255) (s0 : 0 ≤ suffix) (s1 : suffix ≤ 255) (hs : suffix % 4 = 2) (HE : Hid (Env w)) (HC : Hid (Cell0 w)) : Calls Tryz.prog 6 #[.int .i64 day, .int .u8 letters, .int .u8 suffix] w fun e w' => e = .returned (.bool true) ∧ Below w.heap.size w w' := by
  obtain ⟨y, m, d, hv, hn, y0, y1, m1, m2, d0, d1⟩ : ∃ y m d, dof day = ⟨y, m, d⟩ ∧ dnum y m d = some day ∧ 0 ≤ y ∧ y < 10000 ∧ 1 ≤ m ∧ m ≤ 12 ∧ 0 ≤ d ∧ d < 100 := by
    have hn := dnum_dof day h0 h1
    have he : dexists (dof day).y (dof day).m (dof day).d = true := by
      unfold dnum at hn
      split at hn
      · rename_i h; exact h.1
      · cases hn
    obtain ⟨a1, a2, a3, a4, a5, a6⟩ := dexists_true.1 he
    have := mlen_bd (dof day).y (dof day).m
    exact ⟨(dof day).y, (dof day).m, (dof day).d, rfl, hn, by omega, by omega, by omega, by omega, by omega, by omega⟩
  obtain ⟨N, hN, n1, n2⟩ := caps_len (m.toNat - 1) (by omega)
  have q0 : 0 ≤ letters % ((N.length : Int) - 2) := Int.emod_nonneg _ (by omega)
  have q1 : letters % ((N.length : Int) - 2) < (N.length : Int) - 2 := Int.emod_lt_of_pos _ (by omega)
  obtain ⟨q, hq⟩ : ∃ q, letters % ((N.length : Int) - 2) = q := ⟨_, rfl⟩
  rw [hq] at q0 q1
  have hM := mon_of m m1 m2 N hN (3 + q).toNat (by omega) (by omega) (by omega)
  obtain ⟨P, hP⟩ : ∃ P, N.take (3 + q).toNat = P := ⟨_, rfl⟩
  have hl : P.length ≤ 9 := by rw [← hP, List.length_take]; omega
  rw [hP] at hM
  have f0 : Reads (twoL d ++ 32 :: (P ++ 32 :: fourL y)) ⟨y, m, d⟩ := form0 hM hl y0 y1 m1 m2 d0 d1
  have f1 : Reads (twoL d ++ 114 :: 100 :: 32 :: (P ++ 46 :: 32 :: fourL y)) ⟨y, m, d⟩ := by
    have h := form1 hM hl y0 y1 m1 m2 d0 d1 2 (by decide)
    simpa [ends4, endsL] using h
  have f2 : Reads (P ++ 32 :: (twoL d ++ 114 :: 100 :: 44 :: 32 :: fourL y)) ⟨y, m, d⟩ := by
    have h := form2 hM hl y0 y1 m1 m2 d0 d1 2 (by decide)
    simpa [ends4, endsL] using h
  have f3 : Reads (P ++ 32 :: (twoL d ++ 44 :: 32 :: fourL y)) ⟨y, m, d⟩ := by
    have h := form3 hM hl y0 y1 m1 m2 d0 d1
    simpa [ends4, endsL] using h
  have f4 : Reads (twoL d ++ 47 :: (twoL m ++ 47 :: fourL y)) ⟨y, m, d⟩ := form4 y0 y1 m1 m2 d0 d1
  have f5 : Reads (twoL d ++ 46 :: (twoL m ++ 46 :: fourL y)) ⟨y, m, d⟩ := form5 y0 y1 m1 m2 d0 d1
  have f6 : Reads (twoL d ++ 45 :: (twoL m ++ 45 :: fourL y)) ⟨y, m, d⟩ := form6 y0 y1 m1 m2 d0 d1
  have f7 : Reads (fourL y ++ 45 :: (twoL m ++ 45 :: twoL d)) ⟨y, m, d⟩ := form7 y0 y1 m1 m2 d0 d1
  have HD : ∀ W, Hid (Calls Tryz.prog 29 #[.int .i64 day] W fun r w' => r = .returned (.tuple #[.agg #[.int .i64 y, .int .i64 m, .int .i64 d], .int .i64 0]) ∧ Below W.heap.size W w') := fun W => Lib.hid (by
    have H := c29 day W h0 h1
    rw [hv] at H
    exact H)
  exact c6_2 (m1 := m1) (m2 := m2) (g0 := g0) (g1 := g1) (hs := hs) (s0 := s0) (s1 := s1) (HN := Lib.hid hN) (n1 := n1) (n2 := n2) (q := q) (hq := hq) (hq0 := q0) (hq1 := q1) (HP := Lib.hid hP) (l1 := hl) (DW := twoL d) (MW := twoL m) (YW := fourL y) (l2 := by simp [twoL]) (l3 := by simp [twoL]) (l4 := by simp [fourL, twoL]) (HE := HE) (HC := HC) (HD := HD) (H31d := fun W => Lib.hid (c31 d W d0 (by omega))) (H31m := fun W => Lib.hid (c31 m W (by omega) (by omega))) (H32 := fun W => Lib.hid (c32 y W y0 (by omega))) (E0 := Lib.hid rfl) (lF0 := f0.1) (A0 := c27_got _ ⟨5, day, 2, 3, 0, 0⟩ (reads_A f0 hn h0 h1)) (B0 := c27_got _ ⟨5, day, 2, 3, 0, 0⟩ (reads_B f0 hn h0 h1)) (E1 := Lib.hid rfl) (lF1 := f1.1) (A1 := c27_got _ ⟨5, day, 2, 3, 0, 0⟩ (reads_A f1 hn h0 h1)) (B1 := c27_got _ ⟨5, day, 2, 3, 0, 0⟩ (reads_B f1 hn h0 h1)) (E2 := Lib.hid rfl) (lF2 := f2.1) (A2 := c27_got _ ⟨5, day, 2, 3, 0, 0⟩ (reads_A f2 hn h0 h1)) (B2 := c27_got _ ⟨5, day, 2, 3, 0, 0⟩ (reads_B f2 hn h0 h1)) (E3 := Lib.hid rfl) (lF3 := f3.1) (A3 := c27_got _ ⟨5, day, 2, 3, 0, 0⟩ (reads_A f3 hn h0 h1)) (B3 := c27_got _ ⟨5, day, 2, 3, 0, 0⟩ (reads_B f3 hn h0 h1)) (E4 := Lib.hid rfl) (lF4 := f4.1) (A4 := c27_got _ ⟨5, day, 2, 3, 0, 0⟩ (reads_A f4 hn h0 h1)) (B4 := c27_got _ ⟨5, day, 2, 3, 0, 0⟩ (reads_B f4 hn h0 h1)) (E5 := Lib.hid rfl) (lF5 := f5.1) (A5 := c27_got _ ⟨5, day, 2, 3, 0, 0⟩ (reads_A f5 hn h0 h1)) (B5 := c27_got _ ⟨5, day, 2, 3, 0, 0⟩ (reads_B f5 hn h0 h1)) (E6 := Lib.hid rfl) (lF6 := f6.1) (A6 := c27_got _ ⟨5, day, 2, 3, 0, 0⟩ (reads_A f6 hn h0 h1)) (B6 := c27_got _ ⟨5, day, 2, 3, 0, 0⟩ (reads_B f6 hn h0 h1)) (E7 := Lib.hid rfl) (lF7 := f7.1) (A7 := c27_got _ ⟨5, day, 2, 3, 0, 0⟩ (reads_A f7 hn h0 h1)) (B7 := c27_got _ ⟨5, day, 2, 3, 0, 0⟩ (reads_B f7 hn h0 h1))
theorem c6v_3 (day letters suffix : Int) (w : World) (h0 : 0 ≤ day) (h1 : day ≤ 60000) (g0 : 0 ≤ letters) (g1 : letters ≤ 255) (s0 : 0 ≤ suffix) (s1 : suffix ≤ 255) (hs : suffix % 4 = 3) (HE : Hid (Env w)) (HC : Hid (Cell0 w)) : Calls Tryz.prog 6 #[.int .i64 day, .int .u8 letters, .int .u8 suffix] w fun e w' => e = .returned (.bool true) ∧ Below w.heap.size w w' := by
  obtain ⟨y, m, d, hv, hn, y0, y1, m1, m2, d0, d1⟩ : ∃ y m d, dof day = ⟨y, m, d⟩ ∧ dnum y m d = some day ∧ 0 ≤ y ∧ y < 10000 ∧ 1 ≤ m ∧ m ≤ 12 ∧ 0 ≤ d ∧ d < 100 := by
    have hn := dnum_dof day h0 h1
    have he : dexists (dof day).y (dof day).m (dof day).d = true := by
      unfold dnum at hn
      split at hn
      · rename_i h; exact h.1
      · cases hn
    obtain ⟨a1, a2, a3, a4, a5, a6⟩ := dexists_true.1 he
    have := mlen_bd (dof day).y (dof day).m
    exact ⟨(dof day).y, (dof day).m, (dof day).d, rfl, hn, by omega, by omega, by omega, by omega, by omega, by omega⟩
  obtain ⟨N, hN, n1, n2⟩ := caps_len (m.toNat - 1) (by omega)
  have q0 : 0 ≤ letters % ((N.length : Int) - 2) := Int.emod_nonneg _ (by omega)
  have q1 : letters % ((N.length : Int) - 2) < (N.length : Int) - 2 := Int.emod_lt_of_pos _ (by omega)
  obtain ⟨q, hq⟩ : ∃ q, letters % ((N.length : Int) - 2) = q := ⟨_, rfl⟩
  rw [hq] at q0 q1
  have hM := mon_of m m1 m2 N hN (3 + q).toNat (by omega) (by omega) (by omega)
  obtain ⟨P, hP⟩ : ∃ P, N.take (3 + q).toNat = P := ⟨_, rfl⟩
  have hl : P.length ≤ 9 := by rw [← hP, List.length_take]; omega
  rw [hP] at hM
  have f0 : Reads (twoL d ++ 32 :: (P ++ 32 :: fourL y)) ⟨y, m, d⟩ := form0 hM hl y0 y1 m1 m2 d0 d1
  have f1 : Reads (twoL d ++ 116 :: 104 :: 32 :: (P ++ 46 :: 32 :: fourL y)) ⟨y, m, d⟩ := by
    have h := form1 hM hl y0 y1 m1 m2 d0 d1 3 (by decide)
    simpa [ends4, endsL] using h
  have f2 : Reads (P ++ 32 :: (twoL d ++ 116 :: 104 :: 44 :: 32 :: fourL y)) ⟨y, m, d⟩ := by
    have h := form2 hM hl y0 y1 m1 m2 d0 d1 3 (by decide)
    simpa [ends4, endsL] using h
  have f3 : Reads (P ++ 32 :: (twoL d ++ 44 :: 32 :: fourL y)) ⟨y, m, d⟩ := by
    have h := form3 hM hl y0 y1 m1 m2 d0 d1
    simpa [ends4, endsL] using h
  have f4 : Reads (twoL d ++ 47 :: (twoL m ++ 47 :: fourL y)) ⟨y, m, d⟩ := form4 y0 y1 m1 m2 d0 d1
  have f5 : Reads (twoL d ++ 46 :: (twoL m ++ 46 :: fourL y)) ⟨y, m, d⟩ := form5 y0 y1 m1 m2 d0 d1
  have f6 : Reads (twoL d ++ 45 :: (twoL m ++ 45 :: fourL y)) ⟨y, m, d⟩ := form6 y0 y1 m1 m2 d0 d1
  have f7 : Reads (fourL y ++ 45 :: (twoL m ++ 45 :: twoL d)) ⟨y, m, d⟩ := form7 y0 y1 m1 m2 d0 d1
  have HD : ∀ W, Hid (Calls Tryz.prog 29 #[.int .i64 day] W fun r w' => r = .returned (.tuple #[.agg #[.int .i64 y, .int .i64 m, .int .i64 d], .int .i64 0]) ∧ Below W.heap.size W w') := fun W => Lib.hid (by
    have H := c29 day W h0 h1
    rw [hv] at H
    exact H)
  exact c6_3 (m1 := m1) (m2 := m2) (g0 := g0) (g1 := g1) (hs := hs) (s0 := s0) (s1 := s1) (HN := Lib.hid hN) (n1 := n1) (n2 := n2) (q := q) (hq := hq) (hq0 := q0) (hq1 := q1) (HP := Lib.hid hP) (l1 := hl) (DW := twoL d) (MW := twoL m) (YW := fourL y) (l2 := by simp [twoL]) (l3 := by simp [twoL]) (l4 := by simp [fourL, twoL]) (HE := HE) (HC := HC) (HD := HD) (H31d := fun W => Lib.hid (c31 d W d0 (by omega))) (H31m := fun W => Lib.hid (c31 m W (by omega) (by omega))) (H32 := fun W => Lib.hid (c32 y W y0 (by omega))) (E0 := Lib.hid rfl) (lF0 := f0.1) (A0 := c27_got _ ⟨5, day, 2, 3, 0, 0⟩ (reads_A f0 hn h0 h1)) (B0 := c27_got _ ⟨5, day, 2, 3, 0, 0⟩ (reads_B f0 hn h0 h1)) (E1 := Lib.hid rfl) (lF1 := f1.1) (A1 := c27_got _ ⟨5, day, 2, 3, 0, 0⟩ (reads_A f1 hn h0 h1)) (B1 := c27_got _ ⟨5, day, 2, 3, 0, 0⟩ (reads_B f1 hn h0 h1)) (E2 := Lib.hid rfl) (lF2 := f2.1) (A2 := c27_got _ ⟨5, day, 2, 3, 0, 0⟩ (reads_A f2 hn h0 h1)) (B2 := c27_got _ ⟨5, day, 2, 3, 0, 0⟩ (reads_B f2 hn h0 h1)) (E3 := Lib.hid rfl) (lF3 := f3.1) (A3 := c27_got _ ⟨5, day, 2, 3, 0, 0⟩ (reads_A f3 hn h0 h1)) (B3 := c27_got _ ⟨5, day, 2, 3, 0, 0⟩ (reads_B f3 hn h0 h1)) (E4 := Lib.hid rfl) (lF4 := f4.1) (A4 := c27_got _ ⟨5, day, 2, 3, 0, 0⟩ (reads_A f4 hn h0 h1)) (B4 := c27_got _ ⟨5, day, 2, 3, 0, 0⟩ (reads_B f4 hn h0 h1)) (E5 := Lib.hid rfl) (lF5 := f5.1) (A5 := c27_got _ ⟨5, day, 2, 3, 0, 0⟩ (reads_A f5 hn h0 h1)) (B5 := c27_got _ ⟨5, day, 2, 3, 0, 0⟩ (reads_B f5 hn h0 h1)) (E6 := Lib.hid rfl) (lF6 := f6.1) (A6 := c27_got _ ⟨5, day, 2, 3, 0, 0⟩ (reads_A f6 hn h0 h1)) (B6 := c27_got _ ⟨5, day, 2, 3, 0, 0⟩ (reads_B f6 hn h0 h1)) (E7 := Lib.hid rfl) (lF7 := f7.1) (A7 := c27_got _ ⟨5, day, 2, 3, 0, 0⟩ (reads_A f7 hn h0 h1)) (B7 := c27_got _ ⟨5, day, 2, 3, 0, 0⟩ (reads_B f7 hn h0 h1))
theorem c6 (day letters suffix : Int) (w : World) (g0 : 0 ≤ letters) (g1 : letters ≤ 255) (s0 : 0 ≤ suffix) (s1 : suffix ≤ 255) (hE : Env w) (hC : Cell0 w) : Calls Tryz.prog 6 #[.int .i64 day, .int .u8 letters, .int .u8 suffix] w fun e w' => e = .returned (.bool true) ∧ Below w.heap.size w w' := by
  by_cases hd : 0 ≤ day ∧ day ≤ 60000
  · have hc : suffix % 4 = 0 ∨ suffix % 4 = 1 ∨ suffix % 4 = 2 ∨ suffix % 4 = 3 := by omega
    rcases hc with hc | hc | hc | hc
    · exact c6v_0 day letters suffix w hd.1 hd.2 g0 g1 s0 s1 hc (Lib.hid hE) (Lib.hid hC)
    · exact c6v_1 day letters suffix w hd.1 hd.2 g0 g1 s0 s1 hc (Lib.hid hE) (Lib.hid hC)
    · exact c6v_2 day letters suffix w hd.1 hd.2 g0 g1 s0 s1 hc (Lib.hid hE) (Lib.hid hC)
    · exact c6v_3 day letters suffix w hd.1 hd.2 g0 g1 s0 s1 hc (Lib.hid hE) (Lib.hid hC)
  · exact c6_bad day letters suffix w hd hE hC
theorem w6 (day letters suffix : Int) (w : World) (_ : intIn day) (hl : u8In letters) (hs : u8In suffix) (hE : Env w) (hC : Cell0 w) : Calls Tryz.prog 6 #[.int .i64 day, .int .u8 letters, .int .u8 suffix] w fun e w' => e = .returned (.bool true) ∧ Below w.heap.size w w' := c6 day letters suffix w hl.1 hl.2 hs.1 hs.2 hE hC
end Go.Proofs.YthifeoebefbalaaGreatDoor
