/- Parts: U9, U10, Y20, U11. -/
import Derived.Test.YthifeoebefbalaaGreatDoorCR13
import Derived.Test.YthifeoebefbalaaGreatDoorCR15
import Derived.Test.YthifeoebefbalaaGreatDoorCR11
import Derived.Test.YthifeoebefbalaaGreatDoorCR2
import Derived.Test.YthifeoebefbalaaGreatDoorCR3
import Derived.Test.YthifeoebefbalaaGreatDoorCR4
import Derived.Test.YthifeoebefbalaaGreatDoorCR5
import Derived.Test.YthifeoebefbalaaGreatDoorCR6
import Derived.Test.YthifeoebefbalaaGreatDoorCR8
import Derived.Test.YthifeoebefbalaaGreatDoorCR10
import Derived.Test.YthifeoebefbalaaGreatDoorCR12
import Derived.Test.YthifeoebefbalaaGreatDoorCR14
set_option linter.unusedVariables false
set_option linter.unusedSimpArgs false
set_option linter.unnecessarySimpa false
namespace Go.Proofs.YthifeoebefbalaaGreatDoor
open Go.RowKit Go.Maps

theorem allErr_valid {l : List Card} (h : allErr l = 0) : ∀ c ∈ l, isCard c = true := by
  intro c hc
  unfold allErr at h
  split at h
  · exact absurd h (by decide)
  · unfold eachErr at h
    split at h
    · rename_i h1
      first | exact List.all_eq_true.1 h1 c hc | (simp at h1; exact h1 c hc)
    · exact absurd h (by decide)
theorem daysK (l : List Card) (st : Int) : ((datesR l).filter fun d => !(dailiesR l st d).isEmpty).Pairwise (· < ·) ∧ ∀ d, d ∈ ((datesR l).filter fun d => !(dailiesR l st d).isEmpty) ↔ (!(dailiesR l st d).isEmpty) = true := by
  refine ⟨(dates_rise l).filter _, fun d => ?_⟩
  rw [List.mem_filter]
  exact ⟨fun h => h.2, fun h => ⟨daily_in (by simpa using h), h⟩⟩
theorem days_bd {l : List Card} (hv : ∀ c ∈ l, isCard c = true) : ∀ d ∈ datesR l, 0 ≤ d ∧ d ≤ 60000 := fun d hd => by
  obtain ⟨c, hc, e⟩ := dates_mem hd
  rw [← e]; exact isCard_da (hv c hc)
set_option maxRecDepth 100000 in
set_option maxHeartbeats 16000000 in
theorem c68 (l : List Card) (v : Value) (st : Int) (w : World) (hcv : CardsV w v l) (hn : l.length ≤ 200) : Calls Tryz.prog 68 #[v, .int .i64 st] w fun e w' => ∃ u out, e = .returned (.tuple #[u, .int .i64 (allErr l)]) ∧ w'.ownsRow w.heap.size 99 2 u out.length (prsC out) ∧ out = (if allErr l = 0 then runsR l st else []) ∧ Below w.heap.size w w' := by
  have H87 := Lib.hid (c87 l v w hcv (by omega))
  have HCV := Lib.hid hcv
  obtain ⟨x, hx⟩ : ∃ x, allErr l = x := ⟨_, rfl⟩
  have HX := Lib.hid hx
  rw [hx] at H87 ⊢
  obtain ⟨pv, cp, rfl, -⟩ := hcv
  by_cases h0 : x = 0
  · subst h0
    have hv := allErr_valid hx
    have H106 := Lib.hid (fun W (h : Below w.heap.size w W) => c106 l (.slice pv l.length cp) st W (HCV.out.below h) hn (fun c hc => isCard_da (hv c hc)))
    have hk := daysK l st
    have hb := days_bd hv
    clear hx hv
    go_enter Tryz.func68, Tryz.ntmps68
    go_wp2_with fail
    refine H87.out.mono ?_
    rintro e w1 ⟨rfl, hb1⟩
    clear H87
    have HB1 := Lib.hid hb1
    clear hb1
    go_wp2_with fail
    refine (H106.out _ HB1.out).mono ?_
    rintro e w2 ⟨b, V, rfl, hg, -, hb2⟩
    have HB2 := Lib.hid (below_trans HB1.out hb2)
    have H105 := Lib.hid (c105 hg.1 hn _ hk.1 hk.2 (fun d hd => hb d (List.mem_filter.1 hd).1))
    clear hg hb2 hk hb H106
    go_wp2_with fail
    refine H105.out.mono ?_
    rintro e w3 ⟨u, rfl, ho, hb3⟩
    have HO := Lib.hid (ownsRow_base ho HB2.out.size)
    have HB3 := Lib.hid (below_trans HB2.out hb3)
    clear ho hb3 H105
    go_wp2_with fail
    go_ret2
    exact ⟨u, rfl, runsR l st, HO.out, rfl, HB3.out⟩
  · have hxb : (x != 0) = true := by simpa using h0
    clear hx
    go_enter Tryz.func68, Tryz.ntmps68
    go_wp2_with fail
    refine H87.out.mono ?_
    rintro e w1 ⟨rfl, hb1⟩
    clear H87
    have HB1 := Lib.hid hb1
    clear hb1
    go_wp2_with fail
    go_ret2
    exact ⟨_, rfl, [], ⟨rfl, .inl ⟨rfl, rfl⟩⟩, rfl, HB1.out⟩
/-- The map of the days of which both say the same, while the first one's days are gone through. -/
structure EqSt (w3 : World) (b1 be r n : Nat) (V1 : Int → Value) (X Y : Int → List Card) (D : Int → Bool × Bool) (wr : World) (Lf : Int → Bool) (cnt ne : Nat) (Ve : Int → Value) (Ke : Int → Bool) : Prop where
  rg : CRange wr b1 r n V1 (fun d => !(X d).isEmpty) Lf cnt
  eq : CMap wr be ne Ve Ke
  le : ne + cnt ≤ n
  key : ∀ d, Ke d = ((!(X d).isEmpty && !(Lf d)) && (D d).1)
  row : ∀ d, Ke d = true → wr.ownsRow (r + 1) 24 6 (Ve d) (X d ++ Y d).length (flatC (X d ++ Y d))
  be : Below be w3 wr
theorem belowB_trans {B : Nat} {a b c : World} (h : Below B a b) (k : Below B b c) : Below B a c := ⟨k.os.trans h.os, k.tape.trans h.tape, k.output.trans h.output, Nat.le_trans h.size k.size, fun i hi => (k.block i hi).trans (h.block i hi)⟩
theorem any_all (X Y : List Card) (f : Card → Card → Bool) : (!(X.any fun x => Y.any fun y => !(f x y))) = X.all fun x => Y.all fun y => f x y := by
  rw [Bool.eq_iff_iff]
  simp
theorem prs_cell {W : World} {B E : Nat} {v : Value} {rs : List (Int × Int)} (h : W.ownsRow B E 2 v rs.length (prsC rs)) {i : Nat} {x y : Int} (hi : rs[i]? = some (x, y)) : ∃ q cap, v = .slice (some ⟨q, 0, none⟩) rs.length cap ∧ rs.length ≤ cap ∧ q < W.heap.size ∧ B ≤ q ∧ W.cell? ⟨q, i * 2, none⟩ = some (.int .i64 x) ∧ W.cell? ⟨q, i * 2 + 1, none⟩ = some (.int .i64 y) := by
  obtain ⟨hlt, he⟩ := List.getElem?_eq_some_iff.1 hi
  have hsplit : rs = rs.take i ++ (x, y) :: rs.drop (i + 1) := by rw [← he, ← List.drop_eq_getElem_cons hlt, List.take_append_drop]
  have hl : (rs.take i).length = i := by simp; omega
  have h0 := h
  obtain ⟨-, hc⟩ := h
  rcases hc with ⟨rfl, h1⟩ | ⟨g, cap, cur, rfl, hg, hh, hn, -⟩
  · omega
  · refine ⟨g, cap, rfl, by omega, (Array.getElem?_eq_some_iff.1 hh).1, hg, ?_, ?_⟩
    · rw [h0.cellAt _ (by omega)]
      have := prs_at (rs.take i) (x, y) (rs.drop (i + 1)) 0 (by decide)
      rw [← hsplit, hl] at this
      exact this
    · rw [h0.cellAt _ (by omega)]
      have := prs_at (rs.take i) (x, y) (rs.drop (i + 1)) 1 (by decide)
      rw [← hsplit, hl] at this
      exact this
theorem EqSt.same {w3 w5 W : World} {b1 P n cnt ne : Nat} {V1 Ve : Int → Value} {X Y : Int → List Card} {D : Int → Bool × Bool} {Lf Ke : Int → Bool} (rg : CRange w5 b1 (P + 1 + 1) n V1 (fun d => !(X d).isEmpty) Lf cnt) (eq : CMap w5 (P + 1) ne Ve Ke) (le : ne + cnt ≤ n) (key : ∀ d, Ke d = ((!(X d).isEmpty && !(Lf d)) && (D d).1))
    (row : ∀ d, Ke d = true → w5.ownsRow (P + 1 + 1 + 1) 24 6 (Ve d) (X d ++ Y d).length (flatC (X d ++ Y d))) (be : Below (P + 1) w3 w5) (hb : Below w5.heap.size w5 W) : EqSt w3 b1 (P + 1) (P + 1 + 1) n V1 X Y D W Lf cnt ne Ve Ke :=
  ⟨rg.below hb rg.owns.lt rg.lt, eq.below hb eq.lt, le, key, fun d h => own_keepN (row d h) hb, belowB_trans be (hb.mono (by have := eq.lt; omega))⟩
theorem EqSt.store {w3 w5 Z Z' : World} {b1 P n cnt ne B : Nat} {V1 Ve : Int → Value} {X Y : Int → List Card} {D : Int → Bool × Bool} {Lf Ke : Int → Bool} {x : Int} {u : Value} (rg : CRange w5 b1 (P + 1 + 1) n V1 (fun d => !(X d).isEmpty) Lf cnt) (eq : CMap w5 (P + 1) ne Ve Ke) (le : ne + 1 + cnt ≤ n) (key : ∀ d, (d == x || Ke d) = ((!(X d).isEmpty && !(Lf d)) && (D d).1))
    (row : ∀ d, Ke d = true → w5.ownsRow (P + 1 + 1 + 1) 24 6 (Ve d) (X d ++ Y d).length (flatC (X d ++ Y d))) (be : Below (P + 1) w3 w5) (hb : Below w5.heap.size w5 Z) (hb1 : b1 < P) (hu : Z.ownsRow B 24 6 u (X x ++ Y x).length (flatC (X x ++ Y x))) (hB : P + 1 + 1 + 1 ≤ B)
    (hc : CMap Z' (P + 1) (ne + 1) (fun z => if z = x then u else Ve z) (fun z => z == x || Ke z)) (hg : Z.grownBy Z' (some (P + 1))) : EqSt w3 b1 (P + 1) (P + 1 + 1) n V1 X Y D Z' Lf cnt (ne + 1) (fun z => if z = x then u else Ve z) (fun z => z == x || Ke z) := by
  refine ⟨(rg.below hb rg.owns.lt rg.lt).kept hg (fun e => by injection e with e; omega) (fun e => by injection e with e; omega), hc, le, key, fun d h => ?_, (belowB_trans be (hb.mono (by have := eq.lt; omega))).grown hg (by have := eq.lt; have := hb.size; omega) (fun k hk => by injection hk with hk; omega)⟩
  by_cases hd : d = x
  · subst hd
    simp only [if_true]
    exact (ownsRow_base hu hB).kept hg (.inr fun e => by have := (hu.lt _ e).1; omega)
  · simp only [if_neg hd]
    have hk : Ke d = true := by simpa [hd] using h
    have h5 := own_keepN (row d hk) hb
    exact h5.kept hg (.inr fun e => by have := (h5.lt _ e).1; omega)
/-- What the region that stores a day's cards reads. -/
structure EqC (P q b2 : Nat) (x : Int) (w : World) : Prop where
  p : w.cell? ⟨P, 0, none⟩ = some (.map (some b2))
  q : w.cell? ⟨q, 0, none⟩ = some (.int .i64 x)
theorem EqC.grows {P q b2 : Nat} {x : Int} : ∀ w w' : World, EqC P q b2 x w → Grown w w' → EqC P q b2 x w' := fun w w' ⟨h1, h2⟩ hg => ⟨(hg.cell (World.block_lt_of_cell? w _ h1)).trans h1, (hg.cell (World.block_lt_of_cell? w _ h2)).trans h2⟩
theorem slice_len {w : World} {B n : Nat} {v : Value} {xs : List Value} (h : w.ownsRow B 24 6 v n xs) : ∃ p c, v = .slice p n c := by
  rcases h.2 with ⟨e1, e2⟩ | ⟨g, cp, cur, e1, -⟩
  · exact ⟨none, 0, by rw [e1, e2]⟩
  · exact ⟨_, cp, e1⟩
set_option maxRecDepth 100000 in
set_option maxHeartbeats 16000000 in
theorem c69_ok (l : List Card) (v : Value) (a b : Int) (w : World) (hcv : CardsV w v l) (hn : l.length ≤ 200) (h0 : allErr l = 0) (hab : a ≠ b) : Calls Tryz.prog 69 #[v, .int .i64 a, .int .i64 b] w fun e w' => e = .returned (.tuple #[.agg #[.int .i64 (copR l a b).1, .int .i64 (copR l a b).2], .int .i64 (if (copR l a b).2 = 0 then 5 else 0)]) ∧ Below w.heap.size w w' := by
  have H87 : Hid (∀ W, Below w.heap.size w W → Calls Tryz.prog 87 #[v] W fun e w' => e = .returned (.int .i64 0) ∧ Below W.heap.size W w') := Lib.hid fun W hW => by rw [← h0]; exact c87 l v W (hcv.below hW) (by omega)
  have hv := allErr_valid h0
  have H106 := Lib.hid (fun st W (h : Below w.heap.size w W) => c106 l v st W (hcv.below h) hn (fun c hc => isCard_da (hv c hc)))
  have HV : Hid (∃ p c, v = .slice p l.length c) := Lib.hid (by obtain ⟨p, c, e, -⟩ := hcv; exact ⟨p, c, e⟩)
  obtain ⟨X, hX⟩ : ∃ X, dailiesR l a = X := ⟨_, rfl⟩
  obtain ⟨Y, hY⟩ : ∃ Y, dailiesR l b = Y := ⟨_, rfl⟩
  obtain ⟨D, hD⟩ : ∃ D, dayR l a b = D := ⟨_, rfl⟩
  have HXl : Hid (∀ d, (X d).length ≤ 200 ∧ ∀ c ∈ X d, isCard c = true) := Lib.hid fun d => by
    rw [← hX]; exact ⟨by have := dailies_len l a d; omega, fun c hc => hv c (daily_da hc).1⟩
  have HYl : Hid (∀ d, (Y d).length ≤ 200 ∧ ∀ c ∈ Y d, isCard c = true) := Lib.hid fun d => by
    rw [← hY]; exact ⟨by have := dailies_len l b d; omega, fun c hc => hv c (daily_da hc).1⟩
  have HD1 : Hid (∀ d, (D d).1 = ((!(X d).isEmpty && !(Y d).isEmpty) && !((X d).any fun x => (Y d).any fun y => !(sayEq x y)))) := Lib.hid fun d => by
    rw [← hD, any_all, ← hX, ← hY, dayR]
  have HD2 : Hid (∀ d, (D d).2 = ((X d) ++ (Y d)).any someB) := Lib.hid fun d => by
    rw [← hD, ← hX, ← hY, dayR, List.any_append]
  have HKS : Hid ((sameD l a b).Pairwise (· < ·) ∧ (∀ d, d ∈ sameD l a b ↔ (D d).1 = true) ∧ ∀ d ∈ sameD l a b, 0 ≤ d ∧ d ≤ 60000) := Lib.hid ⟨same_rise l a b, fun d => by rw [← hD]; exact same_iff, fun d hd => days_bd hv d (List.mem_filter.1 hd).1⟩
  have HRES : Hid (copR l a b = copP D (sameD l a b)) := Lib.hid (by rw [copR, hD])
  have hab' : (a == b) = false := by simpa using hab
  have Ha := Lib.hid (H106.out a)
  have Hb := Lib.hid (H106.out b)
  rw [hX] at Ha
  rw [hY] at Hb
  clear hcv h0 hv hX hY hD H106
  obtain ⟨pv, cp, rfl⟩ := HV.out
  clear HV
  obtain ⟨n, hnl⟩ : ∃ n, l.length = n := ⟨_, rfl⟩
  rw [hnl] at hn H87 Ha Hb ⊢
  obtain ⟨er, her⟩ : ∃ er, (if (copR l a b).2 = 0 then (5 : Int) else 0) = er := ⟨_, rfl⟩
  rw [her]
  have HER := Lib.hid her
  clear her
  go_enter Tryz.func69, Tryz.ntmps69
  go_wp2_with fail
  refine (H87.out _ (xa (xr _) _)).mono ?_
  rintro e w0 ⟨rfl, hb0⟩
  have HB0 := Lib.hid (below_trans (xa (xr w) (.cells #[.int .i64 0, .int .i64 0] 99)) hb0)
  have HR6 := Lib.hid ((hb0.block _ (by simp)).trans (World.alloc_heap_new w (.cells #[.int .i64 0, .int .i64 0] 99)))
  clear hb0 H87
  go_wp2_with fail
  refine (Ha.out _ HB0.out).mono ?_
  rintro e w1 ⟨b1, V1, rfl, hg1, hb1w, hb1⟩
  have HB1 := Lib.hid (below_trans HB0.out hb1)
  replace HR6 := Lib.hid (heap_on HR6.out hb1)
  have HG1 := Lib.hid hg1
  clear hb1 hg1 Ha
  go_wp2_with fail
  refine (Hb.out _ HB1.out).mono ?_
  rintro e w2 ⟨b2, V2, rfl, hg2, hb2w, hb2⟩
  have HB2 := Lib.hid (below_trans HB1.out hb2)
  replace HR6 := Lib.hid (heap_on HR6.out hb2)
  replace HG1 := Lib.hid (HG1.out.grown hb2)
  have HG2 := Lib.hid hg2
  clear hb2 hg2 Hb HB1 HB0
  obtain ⟨P, hP⟩ : ∃ P, w2.heap.size = P := ⟨_, rfl⟩
  have HPP := Lib.hid hP
  have hmm := @run_makeMap Tryz.prog
  have hw2 := HB2.out.size
  have hR6l : w.heap.size < w2.heap.size := (Array.getElem?_eq_some_iff.1 HR6.out).1
  rw [hP] at hw2 hR6l
  have hcm1 := (HG1.out.1.below (below_alloc w2 (.cells #[.map (some b2)] 133)) HG1.out.1.lt).below (below_alloc _ (.map #[] 0)) (Nat.lt_of_lt_of_le HG1.out.1.lt (by simp))
  go_wp2_with (at_range; refine wpList_range_cards rfl _ rfl b1 n V1 (fun d => !(X d).isEmpty) rfl hcm1 ?_; intro w4 cnt0 hrg0 hc0 hg0 hs0)
  go_frame
  obtain ⟨w3, hw3⟩ : ∃ w3, (w2.alloc (.cells #[.map (some b2)] 133)).alloc (.map #[] 0) = w3 := ⟨_, rfl⟩
  have hsz3 : w3.heap.size = P + 1 + 1 := by rw [← hw3]; simp [hP]
  rw [hw3] at hrg0 hg0 hs0 hcm1 ⊢
  rw [hsz3] at hrg0 hs0 ⊢
  have hP3 : w3.cell? ⟨P, 0, none⟩ = some (.map (some b2)) := by rw [← hw3, ← hP]; simp [go_sem]
  have hE3 : CMap w3 (P + 1) 0 (fun _ => nilS) (fun _ => false) := by
    have := CMap.made (w2.alloc (.cells #[.map (some b2)] 133))
    rw [hw3] at this
    simpa [hP] using this
  have hB34 : Below w3.heap.size w3 w4 := grow_in (xr _) hg0 (fun k hk => by cases hk)
  have hS0 : EqSt w3 b1 (P + 1) (P + 1 + 1) n V1 X Y D w4 (fun d => !(X d).isEmpty) cnt0 0 (fun _ => nilS) (fun _ => false) :=
    ⟨hrg0, hE3.below hB34 (by omega), by omega, fun d => by simp, fun d h => absurd h Bool.false_ne_true, hB34.mono (by omega)⟩
  have HS0 := Lib.hid hS0
  have HG23 : Hid (Below w2.heap.size w2 w3) := Lib.hid (by rw [← hw3]; exact xa (xa (xr _) _) _)
  have HC2 := Lib.hid ((HG2.out.grown HG23.out).1)
  have HR1 := Lib.hid (HG1.out.grown HG23.out).2.1
  have HR2 := Lib.hid (HG2.out.grown HG23.out).2.1
  have hb1P : b1 < P := by rw [← hP]; exact HG1.out.1.lt
  have hb2P : b2 < P := by rw [← hP]; exact HG2.out.1.lt
  have HVB : Hid (∀ d, (∀ k, (V1 d).ownBlock = some k → k < P) ∧ ∀ k, (V2 d).ownBlock = some k → k < P) := Lib.hid fun d => ⟨fun k hk => by rw [← hP]; exact ((HG1.out.2.1 d).lt k hk).2, fun k hk => by rw [← hP]; exact ((HG2.out.2.1 d).lt k hk).2⟩
  have HP3 := Lib.hid hP3
  have HR63 := Lib.hid (heap_on HR6.out HG23.out)
  have HW3 := Lib.hid (below_trans HB2.out HG23.out)
  clear hcm1 hrg0 hc0 hg0 hs0 hw3 hE3 hB34 hS0 hP3 hmm HR6 HB2 HR1 HR2 HVB HC2
  have HP2 := Lib.hid hP.symm
  clear hP HPP
  go_loopw [] (fun wr => ∃ (Lf : Int → Bool) (cnt ne : Nat) (Ve : Int → Value) (Ke : Int → Bool), Hid (EqSt w3 b1 (P + 1) (P + 1 + 1) n V1 X Y D wr Lf cnt ne Ve Ke)) (fun wr => wr.rangeLeft b1 (P + 1 + 1))
  case atStart => exact ⟨_, cnt0, 0, _, _, HS0⟩
  case round =>
    obtain ⟨Lf, cnt, ne, Ve, Ke, HS⟩ := hrel
    have hrs := HS.out.rg.lt
    go_wp2_with (at_next; refine wpList_next_cards rfl _ rfl b1 (P + 1 + 1) n V1 (fun d => !(X d).isEmpty) Lf cnt rfl HS.out.rg ?_ ?_)
    · intro hL0
      have hKE : ∀ d, Ke d = (D d).1 := fun d => by
        rw [HS.out.key d, hL0 d, HD1.out d]
        cases (X d).isEmpty <;> cases (Y d).isEmpty <;> simp
      have HE : Hid (CMap wr (P + 1) ne Ve Ke) := Lib.hid HS.out.eq
      have HROW : Hid (∀ d, (D d).1 = true → wr.ownsRow (P + 1 + 1 + 1) 24 6 (Ve d) (X d ++ Y d).length (flatC (X d ++ Y d))) := Lib.hid fun d hd => HS.out.row d (by rw [hKE]; exact hd)
      have hne : ne ≤ 200 := by have := HS.out.le; omega
      have HBE : Hid (Below (P + 1) w3 wr) := Lib.hid HS.out.be
      have hPl : P + 1 < wr.heap.size := HE.out.lt
      have HKE := Lib.hid hKE
      have H105 := Lib.hid (c105 (HE.out.below (below_alloc wr (.cells #[.int .i64 0, .int .i64 0] 99)) HE.out.lt) hne (sameD l a b) HKS.out.1 (fun d => by rw [hKE]; exact HKS.out.2.1 d) HKS.out.2.2)
      clear hL0 HS hKE
      go_wp2_with fail
      refine H105.out.mono ?_
      rintro e w5 ⟨vr, rfl, hor, hb5⟩
      have HGB5 := Lib.hid hb5
      obtain ⟨rs, hrs⟩ : ∃ rs, runsF (sameD l a b) = rs := ⟨_, rfl⟩
      rw [hrs] at hor
      have HRS := Lib.hid hrs
      have HRO := Lib.hid (hrs ▸ runs_of _ (sameD l a b) rfl HKS.out.1)
      obtain ⟨m, hm⟩ : ∃ m, rs.length = m := ⟨_, rfl⟩
      have hfr : ∃ p c, vr = .slice p m c := by
        rcases hor.2 with ⟨e1, e2⟩ | ⟨g, cp', cur, e1, -⟩
        · exact ⟨none, 0, by rw [e1, ← hm, e2]⟩
        · exact ⟨_, cp', by rw [e1, hm]⟩
      obtain ⟨pr, cr, rfl⟩ := hfr
      have HOR := Lib.hid hor
      have HM := Lib.hid hm
      obtain ⟨T, hT⟩ : ∃ T, wr.heap.size = T := ⟨_, rfl⟩
      have hb5' : Below wr.heap.size wr w5 := belowB_trans (below_alloc wr (.cells #[.int .i64 0, .int .i64 0] 99)) (hb5.mono (by simp))
      have HBT : Hid (w5.heap[T]? = some (.cells #[.int .i64 0, .int .i64 0] 99 (0, 0))) := Lib.hid (by rw [← hT, hb5.block _ (by simp)]; exact World.alloc_heap_new wr _)
      have HTW : Hid (∀ d, (D d).1 = true → w5.ownsRow (P + 1 + 1 + 1) 24 6 (Ve d) (X d ++ Y d).length (flatC (X d ++ Y d)) ∧ ∀ k, (Ve d).ownBlock = some k → k < T) := Lib.hid fun d hd => ⟨own_keepN (HROW.out d hd) hb5', fun k hk => by rw [← hT]; exact ((HROW.out d hd).lt k hk).2⟩
      have HE5 := Lib.hid (HE.out.below hb5' HE.out.lt)
      have HB35 : Hid (Below (P + 1) w3 w5) := Lib.hid (belowB_trans HBE.out (hb5'.mono (by omega)))
      have HTr : Hid (∀ k, (Value.slice pr m cr).ownBlock = some k → T < k) := Lib.hid fun k hk => by have := (hor.lt k hk).1; simp at this; omega
      have HMB : Hid (m ≤ 200) := Lib.hid (by
        have h1 := HRO.out.sum
        have h2 : ∀ L : List (Int × Int), (∀ r ∈ L, 1 ≤ r.2) → (L.length : Int) ≤ (L.map (·.2)).sum := by
          intro L
          induction L with
          | nil => simp
          | cons r L ih =>
            intro h
            have h3 := ih fun r hr => h r (by simp [hr])
            have h4 := h r (by simp)
            simp only [List.length_cons, List.map_cons, List.sum_cons]
            omega
        have h3 := h2 rs HRO.out.pos
        have h4 : (sameD l a b).length ≤ l.length := Nat.le_trans (List.length_filter_le _ _) (datesR_len l)
        rw [h1] at h3
        omega)
      have hPT : P + 1 < T := by omega
      have HTT := Lib.hid hT
      rw [hT]
      clear hor hm hrs hb5 hb5' hT HE HROW HBE H105 hne hPl
      go_wp2_with fail
      go_loopw [67] (fun k wr => ∃ (i : Nat) (x y : Int), i ≤ m ∧ k = .int .i64 i ∧ Hid ((rs.drop i).foldl (bestF D) (x, y) = copR l a b) ∧ Hid (wr.heap[T]? = some (.cells #[.int .i64 x, .int .i64 y] 99 (0, 0))) ∧ Hid (w5.grownBy wr (some T))) (fun k _ => m - (intOf k).toNat)
      case atStart => exact ⟨0, 0, 0, by omega, rfl, Lib.hid (by rw [HRES.out, copP, HRS.out]; rfl), HBT, Lib.hid ⟨rfl, rfl, rfl, Nat.le_refl _, fun _ _ _ => rfl⟩⟩
      case round =>
        obtain ⟨i, x, y, hi, rfl, hF, HBX, HGR⟩ := hrel
        have hmb := HMB.out
        by_cases hlt : i < m
        · obtain ⟨⟨d0, t0⟩, hr⟩ : ∃ r, rs[i]? = some r := by
            have := HM.out
            exact ⟨rs[i]'(by omega), by simp⟩
          have hrm := List.mem_of_getElem? hr
          have hpos := HRO.out.pos _ hrm
          have HALL : Hid (∀ d, d0 ≤ d → d < d0 + t0 → d ∈ sameD l a b) := Lib.hid fun d h1 h2 => (HRO.out.has d).2 ⟨_, hrm, h1, h2⟩
          simp only at hpos
          have hd0 := HKS.out.2.2 d0 (HALL.out d0 (by omega) (by omega))
          have hdt := HKS.out.2.2 (d0 + t0 - 1) (HALL.out _ (by omega) (by omega))
          obtain ⟨qr, cpr, er, hcpr, lqr, hBq, c0, c1⟩ := prs_cell HOR.out hr
          rw [HM.out] at er hcpr
          injection er with er1 er2 er3
          subst er1
          have hqT : qr ≠ T := by have := HTr.out qr rfl; omega
          have c0' := grown_cell HGR.out c0 hqT
          have c1' := grown_cell HGR.out c1 hqT
          have lqr' := World.block_lt_of_cell? _ _ c0'
          simp only at lqr'
          have hdrop : rs.drop i = (d0, t0) :: rs.drop (i + 1) := by
            obtain ⟨h1, h2⟩ := List.getElem?_eq_some_iff.1 hr
            rw [List.drop_eq_getElem_cons h1, h2]
          have hF2 : Hid ((rs.drop (i + 1)).foldl (bestF D) (bestF D (x, y) (d0, t0)) = copR l a b) := Lib.hid (by rw [← hF.out, hdrop, List.foldl_cons])
          clear hr hrm er2 er3 hcpr lqr hBq c0 c1 hdrop hF
          go_wp2_with fail
          obtain ⟨W0, hW0⟩ : ∃ W0, wr.alloc (.cells #[.int .i64 d0, .int .i64 t0] 99) = W0 := ⟨_, rfl⟩
          obtain ⟨U, hU⟩ : ∃ U, wr.heap.size = U := ⟨_, rfl⟩
          have HU0 : Hid (W0.heap[U]? = some (.cells #[.int .i64 d0, .int .i64 t0] 99 (0, 0))) := Lib.hid (by rw [← hW0, ← hU]; exact World.alloc_heap_new wr _)
          have HGR0 : Hid (w5.grownBy W0 (some T)) := Lib.hid (by rw [← hW0]; exact grown_on HGR.out (below_alloc _ _))
          have HBX0 : Hid (W0.heap[T]? = some (.cells #[.int .i64 x, .int .i64 y] 99 (0, 0))) := Lib.hid (by rw [← hW0]; exact heap_on HBX.out (below_alloc _ _))
          have hTU : T < U := by rw [← hU]; exact (Array.getElem?_eq_some_iff.1 HBX.out).1
          rw [hW0, hU]
          clear hW0 hU HBX HGR c0' c1' lqr'
          go_loopw [18, 19] (fun s k W => ∃ (j : Nat) (wet : Bool), (j : Int) ≤ t0 ∧ s = .bool wet ∧ k = .int .i64 (d0 + j) ∧ Hid (wet = (upFrom d0 j).any fun d => (D d).2) ∧ Hid (Below W0.heap.size W0 W)) (fun _ k _ => (d0 + t0 - intOf k).toNat)
          case atStart => exact ⟨0, false, by omega, rfl, by simp, Lib.hid (by simp [upFrom]), Lib.hid (xr _)⟩
          case round =>
            obtain ⟨j, wet, hj, rfl, rfl, hwet, HBW⟩ := hrel
            have HGW := Lib.hid (grown_on HGR0.out HBW.out)
            obtain ⟨u0, u1, uF, uL⟩ := two_at9 (heap_on HU0.out HBW.out)
            by_cases hjt : (j : Int) < t0
            · have hday := HALL.out (d0 + j) (by omega) (by omega)
              have hD1 := (HKS.out.2.1 _).1 hday
              have hdb := HKS.out.2.2 _ hday
              have hrow := HTW.out _ hD1
              have hcvs : CardsV wr (Ve (d0 + j)) (X (d0 + j) ++ Y (d0 + j)) := (own_cardsR (hrow.1.kept HGW.out (.inr fun e => by have := hrow.2 _ e; omega))).1
              have hlk := (HE5.out.kept HGW.out (fun e => by injection e with e; omega)).look (d := d0 + j) (by omega) (by omega)
              have H108 := Lib.hid (c108 someB 111 #[] enter111 (X (d0 + j) ++ Y (d0 + j)) (Ve (d0 + j)) wr hcvs (by rw [List.length_append]; have := (HXl.out (d0 + j)).1; have := (HYl.out (d0 + j)).1; omega) (fun c hc W hW => c111 c W (by
                rcases List.mem_append.1 hc with h | h
                · exact (HXl.out _).2 c h
                · exact (HYl.out _).2 c h)))
              rw [← HD2.out (d0 + j)] at H108
              have hstep : Hid ((upFrom d0 (j + 1)).any (fun d => (D d).2) = (wet || (D (d0 + j)).2)) := Lib.hid (by rw [upFrom_snoc, List.any_append, hwet.out]; simp)
              obtain ⟨so, hso⟩ : ∃ so, (D (d0 + j)).2 = so := ⟨_, rfl⟩
              rw [hso] at H108 hstep
              clear hday hD1 hrow hcvs hso
              cases wet with
              | true =>
                clear H108 hlk
                go_wp2_with fail
                go_roundw
                case rel => exact ⟨j + 1, true, by omega, rfl, by simp; omega, Lib.hid (by rw [hstep.out]; rfl), HBW⟩
                case measure => simp [intOf]; omega
              | false =>
                go_wp2_with fail
                refine H108.out.mono ?_
                rintro e w8 ⟨rfl, hb8⟩
                have HB8 := Lib.hid (below_trans HBW.out hb8)
                clear hb8 H108 hlk
                go_wp2_with fail
                go_roundw
                case rel => exact ⟨j + 1, so, by omega, rfl, by simp; omega, Lib.hid (by rw [hstep.out]; rfl), HB8⟩
                case measure => simp [intOf]; omega
            · obtain rfl : t0 = (j : Int) := by omega
              have hwF : Hid (wetF D (d0, (j : Int)) = wet) := Lib.hid (by rw [wetF, hwet.out]; simp)
              obtain ⟨b0, b1, bF, bL⟩ := two_at9 (heap_on HBX0.out HBW.out)
              have HBXW := Lib.hid (heap_on HBX0.out HBW.out)
              have hTne : U ≠ T := by omega
              clear hjt hj
              cases wet with
              | false =>
                have hbst : Hid (bestF D (x, y) (d0, (j : Int)) = (x, y)) := Lib.hid (by rw [bestF, hwF.out]; simp)
                go_wp2_with fail
                go_roundw
                case rel => exact ⟨i + 1, x, y, by omega, by go_num, Lib.hid (by rw [← hbst.out]; exact hF2.out), HBXW, HGW⟩
                case measure => simp [intOf]; omega
              | true =>
                by_cases hy : y < (j : Int)
                · have hbst : Hid (bestF D (x, y) (d0, (j : Int)) = (d0, (j : Int))) := Lib.hid (by rw [bestF, hwF.out]; simp [hy])
                  go_wp2_with fail
                  go_roundw
                  case rel => exact ⟨i + 1, d0, j, by omega, by go_num, Lib.hid (by rw [← hbst.out]; exact hF2.out), Lib.hid (two_set HBXW.out _ _), Lib.hid (set_grown (set_grown HGW.out _ _) _ _)⟩
                  case measure => simp [intOf]; omega
                · have hbst : Hid (bestF D (x, y) (d0, (j : Int)) = (x, y)) := Lib.hid (by rw [bestF, hwF.out]; simp [hy])
                  go_wp2_with fail
                  go_roundw
                  case rel => exact ⟨i + 1, x, y, by omega, by go_num, Lib.hid (by rw [← hbst.out]; exact hF2.out), HBXW, HGW⟩
                  case measure => simp [intOf]; omega
        · obtain rfl : i = m := by omega
          have hend : Hid ((x, y) = copR l a b) := Lib.hid (by rw [← hF.out, List.drop_eq_nil_of_le (by rw [HM.out]; exact Nat.le_refl _)]; rfl)
          obtain ⟨b0, b1, bF, bL⟩ := two_at9 HBX.out
          have h6T : w.heap.size ≠ T := by omega
          obtain ⟨r0, r1, rF, rL⟩ := two_at9 ((HGR.out.block _ (Nat.lt_of_lt_of_le (Array.getElem?_eq_some_iff.1 HR63.out).1 HB35.out.size) (fun e => h6T (by injection e))).trans ((HB35.out.block _ (by omega)).trans HR63.out))
          have hbw : Hid (Below w.heap.size w wr) := Lib.hid (grown_below (belowB_trans HW3.out (HB35.out.mono (by omega))) HGR.out (by omega))
          by_cases hy0 : y = 0
          · subst hy0
            have hc0 : (x, (0 : Int)) = (0, 0) := hend.out.trans (cop_zero (by rw [← hend.out]))
            injection hc0 with hx0
            subst hx0
            go_wp2_with fail
            exact bodyPost_ret (v := .tuple #[.agg #[.int .i64 0, .int .i64 0], .int .i64 5]) (by simp [results, Tryz.results69, go_sem, r0, r1, rF]) rfl ⟨by rw [← HER.out, ← hend.out]; simp, xs (xs hbw.out (by simp) _) (by simp) _⟩
          · have hy1 : (y == 0) = false := by simpa using hy0
            go_wp2_with fail
            exact bodyPost_ret (v := .tuple #[.agg #[.int .i64 x, .int .i64 y], .int .i64 0]) (by simp [results, Tryz.results69, go_sem, r0, r1, rF, b0, b1]) rfl ⟨by rw [← HER.out, ← hend.out]; simp [hy0], xs (xs hbw.out (by simp) _) (by simp) _⟩
    · intro x w5 cnt' hx1 hx2 hLx hKx hrg5 hlt hg5 hs5 hen
      obtain ⟨p1, k1, hV1⟩ := slice_len (HG1.out.2.1 x)
      obtain ⟨nx, hnx⟩ : ∃ nx, (X x).length = nx := ⟨_, rfl⟩
      rw [hnx] at hV1
      rw [hV1] at hen ⊢
      have HRG5 := Lib.hid hrg5
      have HL5 := Lib.hid hlt
      have HL0 := Lib.hid HS.out.rg.left_eq
      -- what stays
      have hB5 : Below (P + 1) w3 w5 := HS.out.be.grown hg5 (by have := HS.out.be.size; omega) (fun k hk => by injection hk with hk; omega)
      have HB5 := Lib.hid hB5
      have HE5 : Hid (CMap w5 (P + 1) ne Ve Ke) := Lib.hid (HS.out.eq.kept hg5 (fun e => by injection e with e; omega))
      have HROW5 : Hid (∀ d, Ke d = true → w5.ownsRow (P + 1 + 1 + 1) 24 6 (Ve d) (X d ++ Y d).length (flatC (X d ++ Y d))) := Lib.hid fun d hd => (HS.out.row d hd).kept hg5 (.inr fun e => by have := ((HS.out.row d hd).lt _ e).1; omega)
      have HKEY := Lib.hid HS.out.key
      have hle : ne + cnt ≤ n := HS.out.le
      obtain ⟨W, hW⟩ : ∃ W, w5.alloc (.cells #[.int .i64 x] 3) = W := ⟨_, rfl⟩
      obtain ⟨q, hq⟩ : ∃ q, w5.heap.size = q := ⟨_, rfl⟩
      have h5W : Below w5.heap.size w5 W := by rw [← hW]; exact below_alloc _ _
      have hPq : P + 1 < q := by rw [← hq]; exact HE5.out.lt
      have hqW : W.cell? ⟨q, 0, none⟩ = some (.int .i64 x) := by rw [← hW, ← hq]; simp [go_sem]
      have hPW : W.cell? ⟨P, 0, none⟩ = some (.map (some b2)) := by
        rw [h5W.cell (p := ⟨P, 0, none⟩) (by simp only; omega)]
        exact (hB5.cell (p := ⟨P, 0, none⟩) (by simp)).trans HP3.out
      have hB5W : Below (P + 1) w3 W := belowB_trans hB5 (h5W.mono (by omega))
      have h2W : Below w2.heap.size w2 W := belowB_trans HG23.out (hB5W.mono (by have := HP2.out; omega))
      have hC2W : CMap W b2 n V2 (fun d => !(Y d).isEmpty) := HG2.out.1.below h2W (by have := HP2.out; omega)
      have hX1 : CardsV W (V1 x) (X x) := (own_cardsR (own_keepN (HG1.out.2.1 x) h2W)).1
      have hY1 : CardsV W (V2 x) (Y x) := (own_cardsR (own_keepN (HG2.out.2.1 x) h2W)).1
      have hpred : PredC 107 #[.pointer (some ⟨P, 0, none⟩), .pointer (some ⟨q, 0, none⟩)] (fun c => (Y x).any fun y => !(sayEq c y)) (X x) W := fun c hc W' hW' =>
        c107 c (Y x) P q b2 n x V2 (fun d => !(Y d).isEmpty) W' ((HXl.out x).2 c hc) (HYl.out x).2 (by have := (HYl.out x).1; omega) hx1 hx2 ((hW'.cell (World.block_lt_of_cell? _ _ hPW)).trans hPW) ((hW'.cell (World.block_lt_of_cell? _ _ hqW)).trans hqW) (hC2W.below hW' hC2W.lt) (hY1.below hW')
      have H108 := Lib.hid (c108 (fun c => (Y x).any fun y => !(sayEq c y)) 107 #[.pointer (some ⟨P, 0, none⟩), .pointer (some ⟨q, 0, none⟩)] enter107 (X x) (V1 x) W hX1 (by have := (HXl.out x).1; omega) hpred)
      rw [hV1] at H108 hX1
      have HNX := Lib.hid hnx
      clear hV1 hnx
      have hlk := hC2W.look hx1 hx2
      obtain ⟨p2, k2, hV2⟩ := slice_len (HG2.out.2.1 x)
      have hd1 := HD1.out x
      have hXne : (X x).isEmpty = false := by simpa using hKx
      rw [hXne] at hd1
      obtain ⟨sm, hsm⟩ : ∃ sm, ((X x).any fun x_1 => (Y x).any fun y => !(sayEq x_1 y)) = sm := ⟨_, rfl⟩
      rw [hsm] at H108 hd1
      obtain ⟨ny, hny⟩ : ∃ ny, (Y x).length = ny := ⟨_, rfl⟩
      have hye : (Y x).isEmpty = !decide (0 < ny) := by rw [← hny]; cases Y x <;> simp
      rw [hye] at hd1
      have HNY := Lib.hid hny
      rw [hny] at hV2
      have HV2 := Lib.hid hV2
      have HY1 := Lib.hid hY1
      have HX1 := Lib.hid hX1
      have HC2W := Lib.hid hC2W
      have hdd : Hid ((D x).1 = (decide (0 < ny) && !sm)) := Lib.hid (by rw [hd1]; cases decide (0 < ny) <;> rfl)
      rw [hV2] at hlk
      have hKf : Hid ((D x).1 = false → ∀ d, Ke d = ((!(X d).isEmpty && !(Lf d && !(d == x))) && (D d).1)) := Lib.hid fun hf d => by
        rw [HKEY.out d]
        by_cases hdx : d = x
        · subst hdx; rw [hf]; simp
        · rw [show (d == x) = false by simpa using hdx]; simp
      have hKt : Hid ((D x).1 = true → ∀ d, (d == x || Ke d) = ((!(X d).isEmpty && !(Lf d && !(d == x))) && (D d).1)) := Lib.hid fun hf d => by
        rw [HKEY.out d]
        by_cases hdx : d = x
        · subst hdx; rw [hf]; simp [hXne]
        · rw [show (d == x) = false by simpa using hdx]; simp
      have hP5 : w5.cell? ⟨P, 0, none⟩ = some (.map (some b2)) := (hB5.cell (p := ⟨P, 0, none⟩) (by simp)).trans HP3.out
      have lP5 := World.block_lt_of_cell? _ _ hP5
      simp only at lP5
      have HPW := Lib.hid hPW
      have HQW := Lib.hid hqW
      have H2W := Lib.hid h2W
      have HB5W := Lib.hid hB5W
      have H5W := Lib.hid h5W
      clear hpred hX1 hY1 hC2W hd1 hsm hny hye hV2 hrg5 hlt hB5 HS hLx hKx hPW hqW h2W hB5W h5W hXne hs5 hg5 hrs
      subst hW
      subst hq
      have HKF := hKf
      have HKT := hKt
      clear hKf hKt
      by_cases hny0 : 0 < ny
      · go_wp2_with fail
        refine H108.out.mono ?_
        rintro e w6 ⟨rfl, hb6⟩
        have HB6 := Lib.hid hb6
        have HC6 : Hid (EqC P w5.heap.size b2 x w6) := Lib.hid ⟨(hb6.cell (World.block_lt_of_cell? _ _ HPW.out)).trans HPW.out, (hb6.cell (World.block_lt_of_cell? _ _ HQW.out)).trans HQW.out⟩
        clear H108 hlk hP5 lP5
        cases sm with
        | true =>
          clear hb6
          have HS11 := Lib.hid (EqSt.same (Lf := fun z => Lf z && !(z == x)) HRG5.out HE5.out (by have := HL5.out; omega) (HKF.out (by rw [hdd.out]; simp)) HROW5.out HB5.out (below_trans H5W.out HB6.out))
          go_wp2_with fail
          go_roundw
          case rel => exact ⟨_, cnt', ne, Ve, Ke, HS11⟩
          case measure => rw [HS11.out.rg.left_eq, HL0.out]; exact HL5.out
        | false =>
          clear hb6
          go_wp2_with fail
          refine wp_region_class (EqC P w5.heap.size b2 x) (by kernel_rfl) fun x1 => ?_
          obtain ⟨V0, hV⟩ : ∃ V0, gw w6 x1 = V0 := ⟨_, rfl⟩
          have hGV : Grown w6 V0 := by rw [← hV]; exact Grown.gw _ _
          have hCV := EqC.grows _ V0 HC6.out hGV
          rw [hV]
          clear hV x1
          refine WC_take (v := ?_) (a' := ?_) 0 EqC.grows rfl (by kernel_rfl) (by kernel_rfl) (by kernel_rfl) hCV ⟨rfl, fun w' hw' => ?_⟩ ?_ 56 rfl (by kernel_rfl) fun y => ?_
          rotate_left 2
          · obtain ⟨f0, f1⟩ := hw'
            have lf0 := World.block_lt_of_cell? _ _ f0
            have lf1 := World.block_lt_of_cell? _ _ f1
            simp only at lf0 lf1
            go_big_quiet_op; exact rfl
          · exact rfl
          obtain ⟨V1, hV⟩ : ∃ V', gw V0 y = V' := ⟨_, rfl⟩
          rw [hV]
          replace hCV := EqC.grows _ V1 hCV (by rw [← hV]; exact Grown.gw _ _)
          replace hGV : Grown w6 V1 := Grown.trans hGV (by rw [← hV]; exact Grown.gw _ _)
          clear hV y V0
          refine WC_take (v := ?_) (a' := ?_) 1 EqC.grows rfl (by kernel_rfl) (by kernel_rfl) (by kernel_rfl) hCV ⟨rfl, fun w' hw' => ?_⟩ ?_ 57 rfl (by kernel_rfl) fun y => ?_
          rotate_left 2
          · obtain ⟨f0, f1⟩ := hw'
            have lf0 := World.block_lt_of_cell? _ _ f0
            have lf1 := World.block_lt_of_cell? _ _ f1
            simp only at lf0 lf1
            go_big_quiet_op; exact rfl
          · exact rfl
          obtain ⟨V2, hV⟩ : ∃ V', gw V1 y = V' := ⟨_, rfl⟩
          rw [hV]
          replace hCV := EqC.grows _ V2 hCV (by rw [← hV]; exact Grown.gw _ _)
          replace hGV : Grown w6 V2 := Grown.trans hGV (by rw [← hV]; exact Grown.gw _ _)
          clear hV y V1
          refine WC_take (v := ?_) (a' := ?_) 2 EqC.grows rfl (by kernel_rfl) (by kernel_rfl) (by kernel_rfl) hCV ⟨rfl, fun w' hw' => ?_⟩ ?_ 58 rfl (by kernel_rfl) fun y => ?_
          rotate_left 2
          · obtain ⟨f0, f1⟩ := hw'
            have lf0 := World.block_lt_of_cell? _ _ f0
            have lf1 := World.block_lt_of_cell? _ _ f1
            simp only at lf0 lf1
            go_big_quiet_op; exact rfl
          · exact rfl
          obtain ⟨V3, hV⟩ : ∃ V', gw V2 y = V' := ⟨_, rfl⟩
          rw [hV]
          replace hCV := EqC.grows _ V3 hCV (by rw [← hV]; exact Grown.gw _ _)
          replace hGV : Grown w6 V3 := Grown.trans hGV (by rw [← hV]; exact Grown.gw _ _)
          clear hV y V2
          refine WC_take (v := ?_) (a' := ?_) 3 EqC.grows rfl (by kernel_rfl) (by kernel_rfl) (by kernel_rfl) hCV ⟨rfl, fun w' hw' => ?_⟩ ?_ 59 rfl (by kernel_rfl) fun y => ?_
          rotate_left 2
          · obtain ⟨f0, f1⟩ := hw'
            have lf0 := World.block_lt_of_cell? _ _ f0
            have lf1 := World.block_lt_of_cell? _ _ f1
            simp only at lf0 lf1
            go_big_quiet_op; exact rfl
          · exact rfl
          obtain ⟨V4, hV⟩ : ∃ V', gw V3 y = V' := ⟨_, rfl⟩
          rw [hV]
          replace hCV := EqC.grows _ V4 hCV (by rw [← hV]; exact Grown.gw _ _)
          replace hGV : Grown w6 V4 := Grown.trans hGV (by rw [← hV]; exact Grown.gw _ _)
          clear hV y V3
          refine WC_take (v := ?_) (a' := ?_) 4 EqC.grows rfl (by kernel_rfl) (by kernel_rfl) (by kernel_rfl) hCV ⟨rfl, fun w' hw' => ?_⟩ ?_ 60 rfl (by kernel_rfl) fun y => ?_
          rotate_left 2
          · obtain ⟨f0, f1⟩ := hw'
            have lf0 := World.block_lt_of_cell? _ _ f0
            have lf1 := World.block_lt_of_cell? _ _ f1
            simp only at lf0 lf1
            go_big_quiet_op; exact rfl
          · exact rfl
          obtain ⟨V5, hV⟩ : ∃ V', gw V4 y = V' := ⟨_, rfl⟩
          rw [hV]
          replace hCV := EqC.grows _ V5 hCV (by rw [← hV]; exact Grown.gw _ _)
          replace hGV : Grown w6 V5 := Grown.trans hGV (by rw [← hV]; exact Grown.gw _ _)
          clear hV y V4
          refine WC_all [5] (by kernel_rfl) (by simp) fun i hi => ?_
          rcases List.mem_singleton.1 hi with rfl
          have hlk := (HC2W.out.below (below_trans HB6.out hGV) HC2W.out.lt).look hx1 hx2
          rw [HV2.out] at hlk
          refine WG_op rfl rfl fun K hK => ?_
          go_big_op
          refine hK _ _ ⟨hCV, fun y => ?_⟩
          obtain ⟨V6, hV⟩ : ∃ V', gw V5 y = V' := ⟨_, rfl⟩
          rw [hV]
          replace hCV := EqC.grows _ V6 hCV (by rw [← hV]; exact Grown.gw _ _)
          replace hGV : Grown w6 V6 := Grown.trans hGV (by rw [← hV]; exact Grown.gw _ _)
          clear hV y hlk hK K V5
          refine WC_all [6] (by kernel_rfl) (by simp) fun i hi => ?_
          rcases List.mem_singleton.1 hi with rfl
          refine WG_op rfl rfl fun K hK => ?_
          go_big_op
          refine hK _ _ ⟨EqC.grows _ _ hCV (below_alloc _ _), fun y => ?_⟩
          obtain ⟨s, V7, e1, e2, q1, q2, q3, q4, qF, q5⟩ := new_at hGV #[.slice p1 nx k1, .slice p2 ny k2] 49 y
          replace hCV := EqC.grows _ V7 hCV q3
          replace hGV : Grown w6 V7 := Grown.trans hGV q3
          rw [e1, e2]
          clear e1 e2 q1 q2 q3 qF V6 hK K
          have hW7 : Below (w5.alloc (.cells #[.int .i64 x] 3)).heap.size (w5.alloc (.cells #[.int .i64 x] 3)) V7 := below_trans HB6.out hGV
          have h57 : Below w5.heap.size w5 V7 := below_trans H5W.out hW7
          refine WC_all [7] (by kernel_rfl) (by simp) fun i hi => ?_
          rcases List.mem_singleton.1 hi with rfl
          have h110 := Lib.hid (c110 (X x) (Y x) (.slice p1 nx k1) (.slice p2 ny k2) s V7 (HX1.out.below hW7) (by rw [← HV2.out]; exact HY1.out.below hW7) (HXl.out x).1 (HYl.out x).1 (q5 0) (q5 1))
          refine WG_op rfl rfl fun K hK => ?_
          go_big_op
          refine h110.out.mono ?_
          rintro e V8 ⟨u, rfl, hou, hb8⟩
          refine hK _ _ ⟨EqC.grows _ _ hCV hb8, fun y => ?_⟩
          obtain ⟨V9, hV⟩ : ∃ V', gw V8 y = V' := ⟨_, rfl⟩
          have hG9 : Grown V8 V9 := by rw [← hV]; exact Grown.gw _ _
          have h59 : Below w5.heap.size w5 V9 := below_trans (below_trans h57 hb8) hG9
          replace hCV := EqC.grows _ V9 (EqC.grows _ _ hCV hb8) hG9
          have hou9 := own_keepN hou hG9
          have hBu : P + 1 + 1 + 1 ≤ V7.heap.size := by have h1 := h57.size; have h2 := HRG5.out.lt; omega
          try simp only [Act.put]
          rw [hV]
          clear hV y hK K h110 hou hb8 hG9 hGV q4 q5 h57 hW7
          refine WC_all [8] (by kernel_rfl) (by simp) fun i hi => ?_
          rcases List.mem_singleton.1 hi with rfl
          have hE9 := HE5.out.below h59 HE5.out.lt
          obtain ⟨V10, hrun, hcm, hg10⟩ := hE9.store (by have := HL5.out; simp only [maxLen]; omega) u hx1 hx2
          refine WG_op rfl rfl fun K hK => ?_
          go_big_op
          have hC10 : EqC P w5.heap.size b2 x V10 := ⟨by
              rw [World.cell?_of_block (hg10.block P (World.block_lt_of_cell? _ _ hCV.p) (fun e => by injection e with e; omega))]; exact hCV.p, by
              rw [World.cell?_of_block (hg10.block w5.heap.size (World.block_lt_of_cell? _ _ hCV.q) (fun e => by injection e with e; have := HE5.out.lt; omega))]; exact hCV.q⟩
          refine hK _ _ ⟨hC10, fun y => ?_⟩
          obtain ⟨V11, hV⟩ : ∃ V', gw V10 y = V' := ⟨_, rfl⟩
          have hG11 : Grown V10 V11 := by rw [← hV]; exact Grown.gw _ _
          have hS10 := EqSt.store (Lf := fun z => Lf z && !(z == x)) HRG5.out HE5.out (by have := HL5.out; omega) (HKT.out (by rw [hdd.out]; simp [hny0])) HROW5.out HB5.out h59 hb1P hou9 hBu hcm hg10
          have HS11 := Lib.hid (EqSt.same hS10.rg hS10.eq hS10.le hS10.key hS10.row hS10.be hG11)
          try simp only [Act.put]
          rw [hV]
          clear hV y hK K hrun hcm hg10 hE9 hG11 hC10 hS10 hCV h59 hou9 hBu
          refine WC_done (by kernel_rfl) (NoPanic.normal ?_) _
          go_wp2_with fail
          go_roundw
          case rel => exact ⟨_, cnt', ne + 1, _, _, HS11⟩
          case measure => rw [HS11.out.rg.left_eq, HL0.out]; exact HL5.out
      · clear H108
        have HS11 := Lib.hid (EqSt.same (Lf := fun z => Lf z && !(z == x)) HRG5.out HE5.out (by have := HL5.out; omega) (HKF.out (by rw [hdd.out]; simp [hny0])) HROW5.out HB5.out H5W.out)
        go_wp2_with fail
        go_roundw
        case rel => exact ⟨_, cnt', ne, Ve, Ke, HS11⟩
        case measure => rw [HS11.out.rg.left_eq, HL0.out]; exact HL5.out
end Go.Proofs.YthifeoebefbalaaGreatDoor

namespace Go.Proofs.YthifeoebefbalaaGreatDoor
open Go.RowKit Go.Maps

/-- What Copied tells: the run, and the error. -/
def copE (l : List Card) (a b : Int) : (Int × Int) × Int := if allErr l ≠ 0 then ((0, 0), allErr l) else if a = b then ((0, 0), 1) else (copR l a b, if (copR l a b).2 = 0 then 5 else 0)
set_option maxRecDepth 100000 in
set_option maxHeartbeats 16000000 in
theorem c69_no (l : List Card) (v : Value) (a b : Int) (w : World) (hcv : CardsV w v l) (hn : l.length ≤ 200) (h : allErr l ≠ 0 ∨ a = b) : Calls Tryz.prog 69 #[v, .int .i64 a, .int .i64 b] w fun e w' => e = .returned (.tuple #[.agg #[.int .i64 0, .int .i64 0], .int .i64 (if allErr l ≠ 0 then allErr l else 1)]) ∧ Below w.heap.size w w' := by
  obtain ⟨x, hx⟩ : ∃ x, allErr l = x := ⟨_, rfl⟩
  have H87 : Hid (∀ W, Below w.heap.size w W → Calls Tryz.prog 87 #[v] W fun e w' => e = .returned (.int .i64 x) ∧ Below W.heap.size W w') := Lib.hid fun W hW => by rw [← hx]; exact c87 l v W (hcv.below hW) (by omega)
  rw [hx] at h ⊢
  obtain ⟨er, her⟩ : ∃ er, (if x ≠ 0 then x else 1) = er := ⟨_, rfl⟩
  rw [her]
  have HER := Lib.hid her
  obtain ⟨pv, cp, rfl, -⟩ := hcv
  clear her hx
  by_cases h0 : x = 0
  · have hab : a = b := by
      rcases h with h | h
      · exact absurd h0 h
      · exact h
    subst hab
    subst h0
    clear h
    go_enter Tryz.func69, Tryz.ntmps69
    go_wp2_with fail
    refine (H87.out _ (xa (xr _) _)).mono ?_
    rintro e w0 ⟨rfl, hb0⟩
    have HB0 := Lib.hid (below_trans (xa (xr w) (.cells #[.int .i64 0, .int .i64 0] 99)) hb0)
    obtain ⟨r0, r1, rF, rL⟩ := two_at9 ((hb0.block _ (by simp)).trans (World.alloc_heap_new w (.cells #[.int .i64 0, .int .i64 0] 99)))
    clear hb0 H87
    go_wp2_with fail
    exact bodyPost_ret (v := .tuple #[.agg #[.int .i64 0, .int .i64 0], .int .i64 1]) (by simp [results, Tryz.results69, go_sem, r0, r1, rF]) rfl ⟨by rw [← HER.out]; simp, xs (xs HB0.out (by simp) _) (by simp) _⟩
  · have hx1 : (x != 0) = true := by simpa using h0
    clear h
    go_enter Tryz.func69, Tryz.ntmps69
    go_wp2_with fail
    refine (H87.out _ (xa (xr _) _)).mono ?_
    rintro e w0 ⟨rfl, hb0⟩
    have HB0 := Lib.hid (below_trans (xa (xr w) (.cells #[.int .i64 0, .int .i64 0] 99)) hb0)
    obtain ⟨r0, r1, rF, rL⟩ := two_at9 ((hb0.block _ (by simp)).trans (World.alloc_heap_new w (.cells #[.int .i64 0, .int .i64 0] 99)))
    clear hb0 H87
    go_wp2_with fail
    exact bodyPost_ret (v := .tuple #[.agg #[.int .i64 0, .int .i64 0], .int .i64 x]) (by simp [results, Tryz.results69, go_sem, r0, r1, rF]) rfl ⟨by rw [← HER.out]; simp [h0], xs (xs HB0.out (by simp) _) (by simp) _⟩
theorem c69 (l : List Card) (v : Value) (a b : Int) (w : World) (hcv : CardsV w v l) (hn : l.length ≤ 200) : Calls Tryz.prog 69 #[v, .int .i64 a, .int .i64 b] w fun e w' => e = .returned (.tuple #[.agg #[.int .i64 (copE l a b).1.1, .int .i64 (copE l a b).1.2], .int .i64 (copE l a b).2]) ∧ Below w.heap.size w w' := by
  unfold copE
  by_cases h0 : allErr l = 0
  · by_cases hab : a = b
    · have := c69_no l v a b w hcv hn (.inr hab)
      simpa [h0, hab] using this
    · have := c69_ok l v a b w hcv hn h0 hab
      simpa [h0, hab] using this
  · have := c69_no l v a b w hcv hn (.inl h0)
    simpa [h0] using this
end Go.Proofs.YthifeoebefbalaaGreatDoor

namespace Go.Proofs.YthifeoebefbalaaGreatDoor
open Go.RowKit

theorem c37_K {st da dy ki am fi : Int} {b : Bool} (h : isCard ⟨st, da, dy, ki, am, fi⟩ = b) : ∀ W, Hid (Calls Tryz.prog 37 #[.agg #[.int .i64 st, .int .i64 da, .int .i64 dy, .int .i64 ki, .int .i64 am, .int .i64 fi]] W fun e w' => e = .returned (.bool b) ∧ Below W.heap.size W w') := fun W => Lib.hid (by rw [← h]; exact c37 st da dy ki am fi W)
theorem allErr_take {l : List Card} {i : Nat} {c : Card} (h : ∀ d ∈ l.take i, isCard d = true) (hc : l[i]? = some c) (hv : isCard c = true) : ∀ d ∈ l.take (i + 1), isCard d = true := fun d hd => by
  rw [List.take_add_one, hc] at hd
  rcases List.mem_append.1 hd with hd | hd
  · exact h d hd
  · simp at hd; rw [hd]; exact hv
set_option maxRecDepth 100000 in
theorem c41_nil (a : Option Addr) (cap : Nat) (w : World) : Calls Tryz.prog 41 #[.slice a 0 cap] w fun e w' => e = .returned (.int .i64 0) ∧ Below w.heap.size w w' := by
  go_enter Tryz.func41, Tryz.ntmps41
  go_wp2
  refine wp_loop_rounds 1 ?_
  rw [rounds_succ]
  go_wp2
  go_ret
  exact ⟨rfl, xr _⟩
set_option maxRecDepth 100000 in
theorem c41_many (a : Option Addr) (n cap : Nat) (w : World) (hn : 100 < n) : Calls Tryz.prog 41 #[.slice a n cap] w fun e w' => e = .returned (.int .i64 2) ∧ Below w.heap.size w w' := by
  go_enter Tryz.func41, Tryz.ntmps41
  go_wp2
  go_ret
  exact ⟨rfl, xr _⟩
set_option maxRecDepth 100000 in
set_option maxHeartbeats 4000000 in
theorem c41_ok (l : List Card) (b o cap : Nat) (w : World) (h : CardsAt w b o l) (h100 : ¬ 100 < l.length) (hne : l ≠ []) : Calls Tryz.prog 41 #[.slice (some ⟨b, o, none⟩) l.length cap] w fun e w' => e = .returned (.int .i64 (eachErr l)) ∧ Below w.heap.size w w' := by
  obtain ⟨R, hR⟩ : ∃ R, eachErr l = R := ⟨_, rfl⟩
  rw [hR]
  have HR := Lib.hid hR
  have HB := Lib.hid h
  clear h hR hne
  obtain ⟨n, hn⟩ : ∃ n, l.length = n := ⟨_, rfl⟩
  rw [hn] at h100 ⊢
  have HN := Lib.hid hn
  clear hn
  go_enter Tryz.func41, Tryz.ntmps41
  go_wp2
  go_loopw [3] (fun k wr => ∃ i : Nat, i ≤ n ∧ k = .int .i64 i ∧ Hid (∀ d ∈ l.take i, isCard d = true) ∧ Hid (Below w.heap.size w wr)) (fun k _ => n - (intOf k).toNat)
  case atStart => exact ⟨0, by omega, rfl, Lib.hid (by simp), Lib.hid (xr _)⟩
  case round =>
    obtain ⟨i, hi, rfl, HV, hb⟩ := hrel
    by_cases hlt : i < n
    · obtain ⟨c, hc⟩ : ∃ c, l[i]? = some c := by
        have := HN.out
        exact ⟨l[i]'(by omega), by simp⟩
      have hcs := (HB.out.below hb.out) i c hc
      have HC := Lib.hid hc
      obtain ⟨st, da, dy, ki, am, fi⟩ := c
      obtain ⟨h0, h1, h2, h3, h4, h5⟩ := hcs
      clear hc
      simp only at h0 h1 h2 h3 h4 h5
      cases hv : isCard ⟨st, da, dy, ki, am, fi⟩ with
      | true =>
        have H37 := c37_K hv
        have HV2 := Lib.hid (allErr_take HV.out HC.out hv)
        clear hv
        go_wp2_with (go_at_call 37; refine (H37 _).out.mono ?_; rintro e w2 ⟨rfl, hb2⟩)
        go_roundw
        case rel => exact ⟨i + 1, by omega, by go_num, HV2, Lib.hid (below_trans hb.out hb2)⟩
        case measure => simp [intOf]; omega
      | false =>
        have H37 := c37_K hv
        have HX : Hid (R = 1) := Lib.hid (by
          rw [← HR.out, eachErr, if_neg]
          intro hall
          have := List.all_eq_true.1 hall _ (List.mem_of_getElem? HC.out)
          rw [hv] at this
          cases this)
        clear hv
        go_wp2_with (go_at_call 37; refine (H37 _).out.mono ?_; rintro e w2 ⟨rfl, hb2⟩)
        go_ret
        refine ⟨?_, below_trans hb.out hb2⟩
        rw [HX.out]
        rfl
    · go_wp2
      go_ret
      have hin : i = n := by omega
      subst hin
      have e : R = 0 := by
        rw [← HR.out, eachErr, if_pos]
        rw [List.all_eq_true]
        intro d hd
        exact HV.out d (by rw [List.take_of_length_le (by rw [HN.out]; omega)]; exact hd)
      refine ⟨?_, hb.out⟩
      rw [e]
      rfl
theorem c41 (l : List Card) (v : Value) (w : World) (h : CardsV w v l) : Calls Tryz.prog 41 #[v] w fun e w' => e = .returned (.int .i64 (allErr l)) ∧ Below w.heap.size w w' := by
  obtain ⟨a, cap, rfl, k⟩ := h
  unfold allErr
  by_cases hn : 100 < l.length
  · rw [if_pos hn]; exact c41_many a _ cap w hn
  · rw [if_neg hn]
    by_cases hne : l = []
    · subst hne; exact c41_nil a cap w
    · obtain ⟨b, o, rfl, hc⟩ := k hne
      exact c41_ok l b o cap w hc hn hne
end Go.Proofs.YthifeoebefbalaaGreatDoor

namespace Go.Proofs.YthifeoebefbalaaGreatDoor
open Go.RowKit Go.Maps

theorem prs_len {w : World} {B E n : Nat} {v : Value} {xs : List Value} (h : w.ownsRow B E 2 v n xs) : ∃ p c, v = .slice p n c := by
  rcases h.2 with ⟨e1, e2⟩ | ⟨g, cp, cur, e1, -⟩
  · exact ⟨none, 0, by rw [e1, e2]⟩
  · exact ⟨_, cp, e1⟩
theorem runs_small {l : List Card} {st : Int} : (runsR l st).length ≤ l.length := by
  have h1 := runsR_sum l st
  have h2 : ∀ L : List (Int × Int), (∀ r ∈ L, 1 ≤ r.2) → (L.length : Int) ≤ (L.map (·.2)).sum := by
    intro L
    induction L with
    | nil => simp
    | cons r L ih =>
      intro h
      have h3 := ih fun r hr => h r (by simp [hr])
      have h4 := h r (by simp)
      simp only [List.length_cons, List.map_cons, List.sum_cons]
      omega
  have h3 := h2 _ (runsR_of l st).pos
  omega
set_option maxRecDepth 100000 in
set_option maxHeartbeats 16000000 in
theorem c20_long (l : List Card) (v : Value) (a b : Int) (w : World) (hE : Env w) (hC : Cell0 w) (hcv : CardsV w v l) (hn : 110 < l.length) (hm : l.length ≤ maxLen) : Calls Tryz.prog 20 #[v, .int .i64 a, .int .i64 b] w fun e w' => e = .returned (.bool true) ∧ Below w.heap.size w w' := by
  have HE := Lib.hid hE
  have HC := Lib.hid hC
  obtain ⟨pv, cp, rfl, -⟩ := hcv
  generalize l.length = n at *
  clear hE hC
  go_enter Tryz.func20, Tryz.ntmps20
  go_wp2_with fail
  refine (c22 _ HE.out HC.out).mono ?_
  rintro e w1 ⟨rfl, hb1⟩
  go_wp2_with fail
  go_ret
  exact ⟨rfl, hb1⟩
set_option maxRecDepth 100000 in
set_option maxHeartbeats 16000000 in
theorem c20_bad (l : List Card) (v : Value) (a b x : Int) (w : World) (hE : Env w) (hC : Cell0 w) (hcv : CardsV w v l) (hn : l.length ≤ 110) (hx : allErr l = x) (h0 : ¬ x = 0) : Calls Tryz.prog 20 #[v, .int .i64 a, .int .i64 b] w fun e w' => e = .returned (.bool true) ∧ Below w.heap.size w w' := by
  have HE := Lib.hid hE
  have HC := Lib.hid hC
  have HCV := Lib.hid hcv
  have H68 : Hid (∀ W, Below w.heap.size w W → Calls Tryz.prog 68 #[v, .int .i64 a] W fun e w' => (∃ p c, e = .returned (.tuple #[.slice p 0 c, .int .i64 x])) ∧ Below W.heap.size W w') := Lib.hid fun W hW => (c68 l v a W (hcv.below hW) (by omega)).mono fun e w' h => by
    obtain ⟨u, out, rfl, ho, hout, hb⟩ := h
    rw [hx, if_neg h0] at hout
    subst hout
    obtain ⟨p, c, rfl⟩ := prs_len ho
    exact ⟨⟨p, c, by rw [hx]; rfl⟩, hb⟩
  have H69 : Hid (∀ W, Below w.heap.size w W → Calls Tryz.prog 69 #[v, .int .i64 a, .int .i64 b] W fun e w' => e = .returned (.tuple #[.agg #[.int .i64 0, .int .i64 0], .int .i64 x]) ∧ Below W.heap.size W w') := Lib.hid fun W hW => by
    have := c69 l v a b W (hcv.below hW) (by omega)
    rw [copE, if_pos (by rw [hx]; exact h0), hx] at this
    exact this
  have H41 : Hid (∀ W, Below w.heap.size w W → Calls Tryz.prog 41 #[v] W fun e w' => e = .returned (.int .i64 x) ∧ Below W.heap.size W w') := Lib.hid fun W hW => by rw [← hx]; exact c41 l v W (hcv.below hW)
  have hxb : (x != 0) = true := by simpa using h0
  obtain ⟨pv, cp, rfl, -⟩ := hcv
  clear hE hC hx
  generalize l.length = n at *
  go_enter Tryz.func20, Tryz.ntmps20
  go_wp2_with fail
  refine (H68.out _ (xr _)).mono ?_
  rintro e w1 ⟨⟨p1, c1, rfl⟩, hb1⟩
  have HB1 := Lib.hid hb1
  clear hb1 H68
  go_wp2_with fail
  refine (H69.out _ HB1.out).mono ?_
  rintro e w2 ⟨rfl, hb2⟩
  have HB2 := Lib.hid (below_trans HB1.out hb2)
  clear hb2 H69
  go_wp2_with fail
  refine (H41.out _ (below_trans HB2.out (below_alloc _ _))).mono ?_
  rintro e w3 ⟨rfl, hb3⟩
  have HB3 := Lib.hid (below_trans (below_trans HB2.out (below_alloc w2 (.cells #[.int .i64 0, .int .i64 0] 99))) hb3)
  have HT3 := Lib.hid (two_at9 ((hb3.block _ (by simp)).trans (World.alloc_heap_new w2 (.cells #[.int .i64 0, .int .i64 0] 99))))
  clear hb3 H41
  go_wp2_with fail
  refine (c22 _ (HE.out.below HB3.out) (HC.out.below HB3.out HC.out.lt)).mono ?_
  rintro e w4 ⟨rfl, hb4⟩
  have t0 := (hb4.cell (p := ⟨w2.heap.size, 0, none⟩) HT3.out.2.2.2).trans HT3.out.1
  have t1 := (hb4.cell (p := ⟨w2.heap.size, 1, none⟩) HT3.out.2.2.2).trans HT3.out.2.1
  have HB4 := Lib.hid (below_trans HB3.out hb4)
  have hl4 := World.block_lt_of_cell? _ _ t0
  simp only at hl4
  clear hb4
  go_wp2_with fail
  go_ret
  exact ⟨rfl, HB4.out⟩
set_option maxRecDepth 100000 in
set_option maxHeartbeats 16000000 in
theorem c20_ab (l : List Card) (v : Value) (a b : Int) (w : World) (hE : Env w) (hC : Cell0 w) (hcv : CardsV w v l) (hn : l.length ≤ 110) (hx : allErr l = 0) (hab : a = b) : Calls Tryz.prog 20 #[v, .int .i64 a, .int .i64 b] w fun e w' => e = .returned (.bool true) ∧ Below w.heap.size w w' := by
  have HE := Lib.hid hE
  have HC := Lib.hid hC
  have hv := allErr_valid hx
  obtain ⟨rs, hrs⟩ : ∃ rs, runsR l a = rs := ⟨_, rfl⟩
  obtain ⟨m, hm⟩ : ∃ m, rs.length = m := ⟨_, rfl⟩
  have hm110 : m ≤ 110 := by rw [← hm, ← hrs]; have := runs_small (l := l) (st := a); omega
  have H68 : Hid (∀ W, Below w.heap.size w W → Calls Tryz.prog 68 #[v, .int .i64 a] W fun e w' => (∃ p c, e = .returned (.tuple #[.slice p m c, .int .i64 0]) ∧ w'.ownsRow W.heap.size 99 2 (.slice p m c) rs.length (prsC rs)) ∧ Below W.heap.size W w') := Lib.hid fun W hW => (c68 l v a W (hcv.below hW) (by omega)).mono fun e w' h => by
    obtain ⟨u, out, rfl, ho, hout, hb⟩ := h
    rw [hx, if_pos rfl, hrs] at hout
    subst hout
    obtain ⟨p, c, rfl⟩ := prs_len ho
    rw [hm] at ho ⊢
    exact ⟨⟨p, c, by rw [hx], ho⟩, hb⟩
  have H70 : Hid (∀ W, Below w.heap.size w W → Calls Tryz.prog 70 #[v, .int .i64 a] W fun e w' => (∃ p c, e = .returned (.slice p m c) ∧ w'.ownsRow W.heap.size 99 2 (.slice p m c) rs.length (prsC rs)) ∧ Below W.heap.size W w') := Lib.hid fun W hW => (c70 l v a W (hcv.below hW) (by omega) (fun c hc => isCard_da (hv c hc))).mono fun e w' h => by
    obtain ⟨u, rfl, ho, hb⟩ := h
    rw [hrs] at ho
    obtain ⟨p, c, rfl⟩ := prs_len ho
    rw [hm] at ho ⊢
    exact ⟨⟨p, c, rfl, ho⟩, hb⟩
  have H41 : Hid (∀ W, Below w.heap.size w W → Calls Tryz.prog 41 #[v] W fun e w' => e = .returned (.int .i64 0) ∧ Below W.heap.size W w') := Lib.hid fun W hW => by rw [← hx]; exact c41 l v W (hcv.below hW)
  have HM := Lib.hid hm
  clear hE hC hrs
  have H69 : Hid (∀ W, Below w.heap.size w W → Calls Tryz.prog 69 #[v, .int .i64 a, .int .i64 b] W fun e w' => e = .returned (.tuple #[.agg #[.int .i64 0, .int .i64 0], .int .i64 1]) ∧ Below W.heap.size W w') := Lib.hid fun W hW => by
    have := c69 l v a b W (hcv.below hW) (by omega)
    rw [copE, if_neg (by rw [hx]; exact fun h => h rfl), if_pos hab] at this
    exact this
  subst hab
  obtain ⟨pv, cp, rfl, -⟩ := hcv
  generalize l.length = n at *
  clear hx hv hm
  go_enter Tryz.func20, Tryz.ntmps20
  go_wp2_with fail
  refine (H68.out _ (xr _)).mono ?_
  rintro e w1 ⟨⟨p1, c1, rfl, ho1⟩, hb1⟩
  have HB1 := Lib.hid hb1
  have HO1 := Lib.hid ho1
  clear hb1 H68 ho1
  go_wp2_with fail
  refine (H69.out _ HB1.out).mono ?_
  rintro e w2 ⟨rfl, hb2⟩
  have HB2 := Lib.hid (below_trans HB1.out hb2)
  replace HO1 := Lib.hid (own_keepN HO1.out hb2)
  clear hb2 H69
  go_wp2_with fail
  refine (H41.out _ (below_trans HB2.out (below_alloc _ _))).mono ?_
  rintro e w3 ⟨rfl, hb3⟩
  have HB3 := Lib.hid (below_trans (below_trans HB2.out (below_alloc w2 (.cells #[.int .i64 0, .int .i64 0] 99))) hb3)
  have HT3 := Lib.hid ((hb3.block _ (by simp)).trans (World.alloc_heap_new w2 (.cells #[.int .i64 0, .int .i64 0] 99)))
  replace HO1 := Lib.hid (own_keepN (own_keepN HO1.out (below_alloc w2 (.cells #[.int .i64 0, .int .i64 0] 99))) hb3)
  obtain ⟨T, hT⟩ : ∃ T, w2.heap.size = T := ⟨_, rfl⟩
  rw [hT] at HT3
  clear hb3 H41
  go_wp2_with fail
  refine (H70.out _ HB3.out).mono ?_
  rintro e w4 ⟨⟨p2, c2, rfl, ho2⟩, hb4⟩
  have HB4 := Lib.hid (below_trans HB3.out hb4)
  have HT4 := Lib.hid (heap_on HT3.out hb4)
  have HO1' := Lib.hid (own_keepN HO1.out hb4)
  have HO2 := Lib.hid ho2
  clear hb4 H70 ho2 HT3 HO1 hT
  go_wp2_with fail
  go_loopw [13] (fun k wr => ∃ i : Nat, i ≤ m ∧ k = .int .i64 i ∧ Hid (Below w4.heap.size w4 wr)) (fun k _ => m - (intOf k).toNat)
  case atStart => exact ⟨0, by omega, rfl, Lib.hid (xr _)⟩
  case round =>
    obtain ⟨i, hi, rfl, HB⟩ := hrel
    by_cases hlt : i < m
    · obtain ⟨⟨d0, t0⟩, hr⟩ : ∃ r, rs[i]? = some r := by
        have := HM.out
        exact ⟨rs[i]'(by omega), by simp⟩
      obtain ⟨q1, k1, e1, hk1, lq1, -, c0, c1⟩ := prs_cell (own_keepN HO1'.out HB.out) hr
      obtain ⟨q2, k2, e2, hk2, lq2, -, d0', d1'⟩ := prs_cell (own_keepN HO2.out HB.out) hr
      injection e1 with e11 e12 e13
      injection e2 with e21 e22 e23
      subst e11
      subst e21
      clear hr e12 e13 e22 e23 hk1 hk2
      go_wp2_with fail
      refine wp_region_gw (by kernel_rfl) (by kernel_rfl) ?_
      repeat (go_big_quiet_step (fail))
      refine wpQuiet_nil ?_
      rintro _ ⟨y, rfl⟩
      have HBy := Lib.hid (below_trans HB.out (gw_below wr y))
      clear c0 c1 d0' d1' lq1 lq2 HB
      go_wp2_with fail
      go_roundw
      case rel => exact ⟨i + 1, by omega, by go_num, HBy⟩
      case measure => simp [intOf]; omega
    · obtain rfl : i = m := by omega
      have HBw := Lib.hid (below_trans HB4.out HB.out)
      have HTw := Lib.hid (heap_on HT4.out HB.out)
      clear HO1' HO2 HT4
      go_wp2_with fail
      refine (c22 _ (HE.out.below HBw.out) (HC.out.below HBw.out HC.out.lt)).mono ?_
      rintro e w5 ⟨rfl, hb5⟩
      obtain ⟨t0, t1, tF, tL⟩ := two_at9 (heap_on HTw.out hb5)
      have HB5 := Lib.hid (below_trans HBw.out hb5)
      clear hb5
      go_wp2_with fail
      go_ret
      exact ⟨rfl, HB5.out⟩
set_option maxRecDepth 100000 in
set_option maxHeartbeats 16000000 in
theorem c20_ok (l : List Card) (v : Value) (a b : Int) (w : World) (hE : Env w) (hC : Cell0 w) (hcv : CardsV w v l) (hn : l.length ≤ 110) (hx : allErr l = 0) (hab : a ≠ b) : Calls Tryz.prog 20 #[v, .int .i64 a, .int .i64 b] w fun e w' => e = .returned (.bool true) ∧ Below w.heap.size w w' := by
  have HE := Lib.hid hE
  have HC := Lib.hid hC
  have hv := allErr_valid hx
  obtain ⟨rs, hrs⟩ : ∃ rs, runsR l a = rs := ⟨_, rfl⟩
  obtain ⟨m, hm⟩ : ∃ m, rs.length = m := ⟨_, rfl⟩
  have hm110 : m ≤ 110 := by rw [← hm, ← hrs]; have := runs_small (l := l) (st := a); omega
  have H68 : Hid (∀ W, Below w.heap.size w W → Calls Tryz.prog 68 #[v, .int .i64 a] W fun e w' => (∃ p c, e = .returned (.tuple #[.slice p m c, .int .i64 0]) ∧ w'.ownsRow W.heap.size 99 2 (.slice p m c) rs.length (prsC rs)) ∧ Below W.heap.size W w') := Lib.hid fun W hW => (c68 l v a W (hcv.below hW) (by omega)).mono fun e w' h => by
    obtain ⟨u, out, rfl, ho, hout, hb⟩ := h
    rw [hx, if_pos rfl, hrs] at hout
    subst hout
    obtain ⟨p, c, rfl⟩ := prs_len ho
    rw [hm] at ho ⊢
    exact ⟨⟨p, c, by rw [hx], ho⟩, hb⟩
  have H70 : Hid (∀ W, Below w.heap.size w W → Calls Tryz.prog 70 #[v, .int .i64 a] W fun e w' => (∃ p c, e = .returned (.slice p m c) ∧ w'.ownsRow W.heap.size 99 2 (.slice p m c) rs.length (prsC rs)) ∧ Below W.heap.size W w') := Lib.hid fun W hW => (c70 l v a W (hcv.below hW) (by omega) (fun c hc => isCard_da (hv c hc))).mono fun e w' h => by
    obtain ⟨u, rfl, ho, hb⟩ := h
    rw [hrs] at ho
    obtain ⟨p, c, rfl⟩ := prs_len ho
    rw [hm] at ho ⊢
    exact ⟨⟨p, c, rfl, ho⟩, hb⟩
  have H41 : Hid (∀ W, Below w.heap.size w W → Calls Tryz.prog 41 #[v] W fun e w' => e = .returned (.int .i64 0) ∧ Below W.heap.size W w') := Lib.hid fun W hW => by rw [← hx]; exact c41 l v W (hcv.below hW)
  have HM := Lib.hid hm
  clear hE hC hrs
  obtain ⟨X, hX⟩ : ∃ X, (copR l a b).1 = X := ⟨_, rfl⟩
  obtain ⟨Y, hY⟩ : ∃ Y, (copR l a b).2 = Y := ⟨_, rfl⟩
  obtain ⟨er, her⟩ : ∃ er, (if Y = 0 then (5 : Int) else 0) = er := ⟨_, rfl⟩
  have HX0 : Hid (Y = 0 → X = 0) := Lib.hid fun h => by rw [← hX, cop_zero (by rw [hY, h])]
  have H69 : Hid (∀ W, Below w.heap.size w W → Calls Tryz.prog 69 #[v, .int .i64 a, .int .i64 b] W fun e w' => e = .returned (.tuple #[.agg #[.int .i64 X, .int .i64 Y], .int .i64 er]) ∧ Below W.heap.size W w') := Lib.hid fun W hW => by
    have := c69 l v a b W (hcv.below hW) (by omega)
    rw [copE, if_neg (by rw [hx]; exact fun h => h rfl), if_neg hab] at this
    simp only at this
    rw [hX, hY, her] at this
    exact this
  have H71 : Hid (∀ W, Below w.heap.size w W → Calls Tryz.prog 71 #[v, .int .i64 a, .int .i64 b] W fun e w' => e = .returned (.agg #[.int .i64 X, .int .i64 Y]) ∧ Below W.heap.size W w') := Lib.hid fun W hW => by
    have := c71 l v a b W (hcv.below hW) (by omega) hv
    rw [hX, hY] at this
    exact this
  have hab1 : (a == b) = false := by simpa using hab
  have HER := Lib.hid her
  obtain ⟨pv, cp, rfl, -⟩ := hcv
  generalize l.length = n at *
  clear hx hv hX hY her hm
  go_enter Tryz.func20, Tryz.ntmps20
  go_wp2_with fail
  refine (H68.out _ (xr _)).mono ?_
  rintro e w1 ⟨⟨p1, c1, rfl, ho1⟩, hb1⟩
  have HB1 := Lib.hid hb1
  have HO1 := Lib.hid ho1
  clear hb1 H68 ho1
  go_wp2_with fail
  refine (H69.out _ HB1.out).mono ?_
  rintro e w2 ⟨rfl, hb2⟩
  have HB2 := Lib.hid (below_trans HB1.out hb2)
  replace HO1 := Lib.hid (own_keepN HO1.out hb2)
  clear hb2 H69
  go_wp2_with fail
  refine (H41.out _ (below_trans HB2.out (below_alloc _ _))).mono ?_
  rintro e w3 ⟨rfl, hb3⟩
  have HB3 := Lib.hid (below_trans (below_trans HB2.out (below_alloc w2 (.cells #[.int .i64 X, .int .i64 Y] 99))) hb3)
  have HT3 := Lib.hid ((hb3.block _ (by simp)).trans (World.alloc_heap_new w2 (.cells #[.int .i64 X, .int .i64 Y] 99)))
  replace HO1 := Lib.hid (own_keepN (own_keepN HO1.out (below_alloc w2 (.cells #[.int .i64 X, .int .i64 Y] 99))) hb3)
  obtain ⟨T, hT⟩ : ∃ T, w2.heap.size = T := ⟨_, rfl⟩
  rw [hT] at HT3
  clear hb3 H41
  go_wp2_with fail
  refine (H70.out _ HB3.out).mono ?_
  rintro e w4 ⟨⟨p2, c2, rfl, ho2⟩, hb4⟩
  have HB4 := Lib.hid (below_trans HB3.out hb4)
  have HT4 := Lib.hid (heap_on HT3.out hb4)
  have HO1' := Lib.hid (own_keepN HO1.out hb4)
  have HO2 := Lib.hid ho2
  clear hb4 H70 ho2 HT3 HO1 hT
  go_wp2_with fail
  go_loopw [13] (fun k wr => ∃ i : Nat, i ≤ m ∧ k = .int .i64 i ∧ Hid (Below w4.heap.size w4 wr)) (fun k _ => m - (intOf k).toNat)
  case atStart => exact ⟨0, by omega, rfl, Lib.hid (xr _)⟩
  case round =>
    obtain ⟨i, hi, rfl, HB⟩ := hrel
    by_cases hlt : i < m
    · obtain ⟨⟨d0, t0⟩, hr⟩ : ∃ r, rs[i]? = some r := by
        have := HM.out
        exact ⟨rs[i]'(by omega), by simp⟩
      obtain ⟨q1, k1, e1, hk1, lq1, -, c0, c1⟩ := prs_cell (own_keepN HO1'.out HB.out) hr
      obtain ⟨q2, k2, e2, hk2, lq2, -, d0', d1'⟩ := prs_cell (own_keepN HO2.out HB.out) hr
      injection e1 with e11 e12 e13
      injection e2 with e21 e22 e23
      subst e11
      subst e21
      clear hr e12 e13 e22 e23 hk1 hk2
      go_wp2_with fail
      refine wp_region_gw (by kernel_rfl) (by kernel_rfl) ?_
      repeat (go_big_quiet_step (fail))
      refine wpQuiet_nil ?_
      rintro _ ⟨y, rfl⟩
      have HBy := Lib.hid (below_trans HB.out (gw_below wr y))
      clear c0 c1 d0' d1' lq1 lq2 HB
      go_wp2_with fail
      go_roundw
      case rel => exact ⟨i + 1, by omega, by go_num, HBy⟩
      case measure => simp [intOf]; omega
    · obtain rfl : i = m := by omega
      have HBw := Lib.hid (below_trans HB4.out HB.out)
      have HTw := Lib.hid (heap_on HT4.out HB.out)
      clear HO1' HO2 HT4
      go_wp2_with fail
      refine (H71.out _ HBw.out).mono ?_
      rintro e w6 ⟨rfl, hb6⟩
      have HB6 := Lib.hid (below_trans HBw.out hb6)
      replace HTw := Lib.hid (heap_on (heap_on HTw.out hb6) (below_alloc w6 (.cells #[.int .i64 X, .int .i64 Y] 99)))
      have HB7 := Lib.hid (below_trans HB6.out (below_alloc w6 (.cells #[.int .i64 X, .int .i64 Y] 99)))
      have HZ := Lib.hid (World.alloc_heap_new w6 (.cells #[.int .i64 X, .int .i64 Y] 99))
      clear hb6 H71
      by_cases hy0 : Y = 0
      · have hx0 := HX0.out hy0
        have he5 : er = 5 := by rw [← HER.out, if_pos hy0]
        subst hy0
        subst hx0
        subst he5
        go_wp2_with fail
        refine (c22 _ (HE.out.below HB7.out) (HC.out.below HB7.out HC.out.lt)).mono ?_
        rintro e w5 ⟨rfl, hb5⟩
        obtain ⟨t0, t1, tF, tL⟩ := two_at9 (heap_on HTw.out hb5)
        have HB5 := Lib.hid (below_trans HB7.out hb5)
        clear hb5
        go_wp2_with fail
        go_ret
        exact ⟨rfl, HB5.out⟩
      · have he0 : er = 0 := by rw [← HER.out, if_neg hy0]
        have hy1 : (Y == 0) = false := by simpa using hy0
        subst he0
        go_wp2_with fail
        refine (c22 _ (HE.out.below HB7.out) (HC.out.below HB7.out HC.out.lt)).mono ?_
        rintro e w5 ⟨rfl, hb5⟩
        obtain ⟨t0, t1, tF, tL⟩ := two_at9 (heap_on HTw.out hb5)
        obtain ⟨z0, z1, zF, zL⟩ := two_at9 (heap_on HZ.out hb5)
        have HB5 := Lib.hid (below_trans HB7.out hb5)
        clear hb5
        go_wp2_with fail
        go_ret
        exact ⟨rfl, HB5.out⟩
theorem w20 (v : Value) (a b : Int) (w : World) (hV : ∃ l : List Card, CardsV w v l ∧ l.length ≤ maxLen) (_ : intIn a) (_ : intIn b) (hE : Env w) (hC : Cell0 w) : Calls Tryz.prog 20 #[v, .int .i64 a, .int .i64 b] w fun e w' => e = .returned (.bool true) ∧ Below w.heap.size w w' := by
  obtain ⟨l, h1, h2⟩ := hV
  by_cases hn : 110 < l.length
  · exact c20_long l v a b w hE hC h1 hn h2
  · by_cases hx : allErr l = 0
    · by_cases hab : a = b
      · exact c20_ab l v a b w hE hC h1 (by omega) hx hab
      · exact c20_ok l v a b w hE hC h1 (by omega) hx hab
    · exact c20_bad l v a b _ w hE hC h1 (by omega) rfl hx
end Go.Proofs.YthifeoebefbalaaGreatDoor
