/- Parts: W11. -/
import Derived.Test.YthifeoebefbalaaGreatDoorCR13
import Derived.Test.YthifeoebefbalaaGreatDoorCR2
import Derived.Test.YthifeoebefbalaaGreatDoorCR3
import Derived.Test.YthifeoebefbalaaGreatDoorCR4
import Derived.Test.YthifeoebefbalaaGreatDoorCR5
import Derived.Test.YthifeoebefbalaaGreatDoorCR8
import Derived.Test.YthifeoebefbalaaGreatDoorCR10
import Derived.Test.YthifeoebefbalaaGreatDoorCR11
import Derived.Test.YthifeoebefbalaaGreatDoorCR12
set_option linter.unusedVariables false
set_option linter.unusedSimpArgs false
set_option linter.unnecessarySimpa false
namespace Go.Proofs.YthifeoebefbalaaGreatDoor
open Go.RowKit

theorem own_cardsR {X : World} {Bb : Nat} {v : Value} {out : List Card} (h : X.ownsRow Bb 24 6 v out.length (flatC out)) : CardsV X v out ∧ ∀ q, v.ownBlock = some q → Bb ≤ q ∧ q < X.heap.size := by
  refine ⟨?_, h.lt⟩
  have h0 := h
  obtain ⟨hl, hc⟩ := h
  rcases hc with ⟨rfl, h1⟩ | ⟨g, cap, cur, rfl, hg, hh, hn, -⟩
  · exact ⟨none, 0, by rw [h1], fun hne => absurd (List.eq_nil_of_length_eq_zero h1) hne⟩
  · refine ⟨_, cap, rfl, fun _ => ⟨g, 0, rfl, fun i c hc => ?_⟩⟩
    have hlt := (List.getElem?_eq_some_iff.1 hc).1
    have cell : ∀ j, j < 6 → X.cell? ⟨g, i * 6 + j, none⟩ = (cardCells c)[j]? := fun j hj => by
      rw [h0.cellAt _ (by omega)]
      exact flat_get out i c hc j hj
    simp only [Nat.zero_add]
    exact ⟨cell 0 (by omega), cell 1 (by omega), cell 2 (by omega), cell 3 (by omega), cell 4 (by omega), cell 5 (by omega)⟩
theorem all_step {l : List Card} {p : Card → Bool} {i : Nat} {c : Card} (h : l[i]? = some c) : (l.take (i + 1)).all p = ((l.take i).all p && p c) := by
  rw [List.take_add_one, h]; simp
theorem any_step {l : List Card} {p : Card → Bool} {i : Nat} {c : Card} (h : l[i]? = some c) : (l.take (i + 1)).any p = ((l.take i).any p || p c) := by
  rw [List.take_add_one, h]; simp
theorem two_set0 {w : World} {b : Nat} {s o : Bool} (h : w.heap[b]? = some (.cells #[.bool s, .bool o] 139 (0, 0))) (u : Bool) : (w.setCell ⟨b, 0, none⟩ (.bool u)).heap[b]? = some (.cells #[.bool u, .bool o] 139 (0, 0)) := by
  simpa using cells_set h 0 (.bool u)
theorem two_set1 {w : World} {b : Nat} {s o : Bool} (h : w.heap[b]? = some (.cells #[.bool s, .bool o] 139 (0, 0))) (u : Bool) : (w.setCell ⟨b, 1, none⟩ (.bool u)).heap[b]? = some (.cells #[.bool s, .bool u] 139 (0, 0)) := by
  simpa using cells_set h 1 (.bool u)
/-- What the region of two readings reads. -/
structure DayD (q A q' A' : Nat) (a1 a2 a3 a4 a5 a6 e1 e2 e3 e4 e5 e6 : Int) (w : World) : Prop where
  h0 : w.cell? ⟨q, A, none⟩ = some (.int .i64 a1)
  h1 : w.cell? ⟨q, A + 1, none⟩ = some (.int .i64 a2)
  h2 : w.cell? ⟨q, A + 2, none⟩ = some (.int .i64 a3)
  h3 : w.cell? ⟨q, A + 3, none⟩ = some (.int .i64 a4)
  h4 : w.cell? ⟨q, A + 4, none⟩ = some (.int .i64 a5)
  h5 : w.cell? ⟨q, A + 5, none⟩ = some (.int .i64 a6)
  g0 : w.cell? ⟨q', A', none⟩ = some (.int .i64 e1)
  g1 : w.cell? ⟨q', A' + 1, none⟩ = some (.int .i64 e2)
  g2 : w.cell? ⟨q', A' + 2, none⟩ = some (.int .i64 e3)
  g3 : w.cell? ⟨q', A' + 3, none⟩ = some (.int .i64 e4)
  g4 : w.cell? ⟨q', A' + 4, none⟩ = some (.int .i64 e5)
  g5 : w.cell? ⟨q', A' + 5, none⟩ = some (.int .i64 e6)
theorem DayD.grows {q A q' A' : Nat} {a1 a2 a3 a4 a5 a6 e1 e2 e3 e4 e5 e6 : Int} : ∀ w w' : World, DayD q A q' A' a1 a2 a3 a4 a5 a6 e1 e2 e3 e4 e5 e6 w → Grown w w' → DayD q A q' A' a1 a2 a3 a4 a5 a6 e1 e2 e3 e4 e5 e6 w' := fun w w' ⟨h0, h1, h2, h3, h4, h5, g0, g1, g2, g3, g4, g5⟩ hg =>
  ⟨(hg.cell (p := ⟨q, A, none⟩) (World.block_lt_of_cell? w _ h0)).trans h0, (hg.cell (p := ⟨q, A + 1, none⟩) (World.block_lt_of_cell? w _ h1)).trans h1, (hg.cell (p := ⟨q, A + 2, none⟩) (World.block_lt_of_cell? w _ h2)).trans h2, (hg.cell (p := ⟨q, A + 3, none⟩) (World.block_lt_of_cell? w _ h3)).trans h3, (hg.cell (p := ⟨q, A + 4, none⟩) (World.block_lt_of_cell? w _ h4)).trans h4, (hg.cell (p := ⟨q, A + 5, none⟩) (World.block_lt_of_cell? w _ h5)).trans h5, (hg.cell (p := ⟨q', A', none⟩) (World.block_lt_of_cell? w _ g0)).trans g0, (hg.cell (p := ⟨q', A' + 1, none⟩) (World.block_lt_of_cell? w _ g1)).trans g1, (hg.cell (p := ⟨q', A' + 2, none⟩) (World.block_lt_of_cell? w _ g2)).trans g2, (hg.cell (p := ⟨q', A' + 3, none⟩) (World.block_lt_of_cell? w _ g3)).trans g3, (hg.cell (p := ⟨q', A' + 4, none⟩) (World.block_lt_of_cell? w _ g4)).trans g4, (hg.cell (p := ⟨q', A' + 5, none⟩) (World.block_lt_of_cell? w _ g5)).trans g5⟩
theorem DayD.put {q A q' A' T j : Nat} {a1 a2 a3 a4 a5 a6 e1 e2 e3 e4 e5 e6 : Int} {w : World} {v : Value} (h : DayD q A q' A' a1 a2 a3 a4 a5 a6 e1 e2 e3 e4 e5 e6 w) (h1 : q < T) (h2 : q' < T) : DayD q A q' A' a1 a2 a3 a4 a5 a6 e1 e2 e3 e4 e5 e6 (w.setCell ⟨T, j, none⟩ v) := by
  obtain ⟨h0, h1, h2, h3, h4, h5, g0, g1, g2, g3, g4, g5⟩ := h
  have n1 : T ≠ q := by omega
  have n2 : T ≠ q' := by omega
  constructor <;> simp [go_sem, n1, n2, *]
theorem WC_skip0 {P : Program} {Q : Exit → Act → World → Prop} {C : World → Prop} {V : World} [PanicStill Q] (i : Nat) {l rest : List Oper} {oi : Oper} {fuel : Nat} {listed : Array Bool} {a a' : Act} (hC : ∀ w w', C w → Grown w w' → C w') (hi : l.drop i = oi :: rest) (hs : Region.noSelect l.toArray = true)
    (hf : Region.free .any l.toArray listed i = true) (hr : (Region.ready .any l.toArray listed).contains i = true) (hV : C V) (hw : Region.wanted oi (yielded l.toArray a.tmps) = false) (ha : a.put oi.dst undef = a')
    (h : ∀ x, WC P l.toArray Q C fuel (listed.setIfInBounds i true) a' (gw V x)) : WC P l.toArray Q C (fuel + 1) listed a V := by
  subst ha
  have hi : l.toArray[i]? = some oi := by
    have := congrArg (fun m => m[0]?) hi
    simpa using this
  refine WC_first hi hs hC fuel listed a V (Region.free_spec hi hf) (by simpa using hr) (.inr ⟨hw, rfl⟩) hV fun w1 hw1 => ?_
  obtain ⟨y, rfl⟩ := of_below hw1
  exact h y

theorem dl {l : List Card} {n : Nat} (hl : l.length = n) {i : Nat} (h : i < n) : ∃ c, l[i]? = some c := ⟨l[i]'(by omega), by simp⟩
theorem cards_get {W : World} {p : Option Addr} {n cap i : Nat} {l : List Card} {c : Card} (h : CardsV W (.slice p n cap) l) (hc : l[i]? = some c) : ∃ q o, p = some ⟨q, o, none⟩ ∧ CardsAt W q o l := by
  obtain ⟨a, cap', e, h⟩ := h
  injection e with e1 e2 e3
  subst e1
  exact h (fun e => by rw [e] at hc; cases hc)
set_option maxRecDepth 100000 in
set_option maxHeartbeats 16000000 in
theorem c114 (l : List Card) (v : Value) (a b d : Int) (w : World) (hcv : CardsV w v l) (hn : l.length ≤ 200) (hval : ∀ c ∈ l, isCard c = true) : Calls Tryz.prog 114 #[v, .int .i64 a, .int .i64 b, .int .i64 d] w fun e w' => e = .returned (.agg #[.bool (dayR l a b d).1, .bool (dayR l a b d).2]) ∧ Below w.heap.size w w' := by
  obtain ⟨ux, hxs⟩ : ∃ ux, dailiesR l a d = ux := ⟨_, rfl⟩
  obtain ⟨uy, hys⟩ : ∃ uy, dailiesR l b d = uy := ⟨_, rfl⟩
  have H1 : ∀ W, Below w.heap.size w W → Hid (Calls Tryz.prog 113 #[v, .int .i64 a, .int .i64 d] W fun e w' => ∃ v, e = .returned v ∧ w'.ownsRow W.heap.size 24 6 v ux.length (flatC ux) ∧ Below W.heap.size W w') := fun W hW => Lib.hid (by rw [← hxs]; exact c113 l v a d W (hcv.below hW) hn)
  have H2 : ∀ W, Below w.heap.size w W → Hid (Calls Tryz.prog 113 #[v, .int .i64 b, .int .i64 d] W fun e w' => ∃ v, e = .returned v ∧ w'.ownsRow W.heap.size 24 6 v uy.length (flatC uy) ∧ Below W.heap.size W w') := fun W hW => Lib.hid (by rw [← hys]; exact c113 l v b d W (hcv.below hW) hn)
  have HX : Hid (∀ c ∈ ux, isCard c = true) := Lib.hid fun c hc => hval c (by rw [← hxs] at hc; exact (List.mem_filter.1 hc).1)
  have HY : Hid (∀ c ∈ uy, isCard c = true) := Lib.hid fun c hc => hval c (by rw [← hys] at hc; exact (List.mem_filter.1 hc).1)
  have hxn : ux.length ≤ 200 := by rw [← hxs]; have := dailies_len l a d; omega
  have hyn : uy.length ≤ 200 := by rw [← hys]; have := dailies_len l b d; omega
  obtain ⟨G, hG⟩ : ∃ G, (!ux.isEmpty && !uy.isEmpty) = G := ⟨_, rfl⟩
  have HD : Hid (dayR l a b d = ((G && ux.all fun x => uy.all fun y => sayEq x y), (ux.any someB || uy.any someB))) := Lib.hid (by rw [dayR, hxs, hys, hG])
  have HV : Hid (∃ p c, v = .slice p l.length c) := Lib.hid (by obtain ⟨p, c, e, -⟩ := hcv; exact ⟨p, c, e⟩)
  have HG := Lib.hid hG
  clear hval hxs hys hcv hG
  obtain ⟨pv, cp, rfl⟩ := HV.out
  clear HV
  go_enter Tryz.func114, Tryz.ntmps114
  go_wp2_with fail
  refine (H1 _ (xa (xr _) _)).out.mono ?_
  rintro e w1 ⟨v1, rfl, ho1, hb1⟩
  have HB1 := Lib.hid (below_trans (xa (xr w) _) hb1)
  obtain ⟨hc1, -⟩ := own_cardsR ho1
  have HR1 := Lib.hid hb1
  clear ho1 hb1
  go_wp2_with fail
  refine (H2 _ (below_trans HB1.out (xr _))).out.mono ?_
  rintro e w2 ⟨v2, rfl, ho2, hb2⟩
  have HB2 := Lib.hid (below_trans HB1.out hb2)
  obtain ⟨hc2, -⟩ := own_cardsR ho2
  have hc1' := hc1.below hb2
  have lw2 : w.heap.size < w2.heap.size := by have h1 := HR1.out.size; have h2 := hb2.size; simp at h1; omega
  have HR0 : Hid (w2.cell? ⟨w.heap.size, 0, none⟩ = some (.bool false) ∧ w2.cell? ⟨w.heap.size, 1, none⟩ = some (.bool false) ∧ ∀ i, w2.frozen? ⟨w.heap.size, i, none⟩ = false) := Lib.hid (by
    have hb := hb2
    have h1 := HR1.out
    have l1 : w.heap.size < w1.heap.size := by have := h1.size; simp at this; omega
    refine ⟨?_, ?_, fun i => ?_⟩
    · rw [hb.cell (p := ⟨w.heap.size, 0, none⟩) l1, h1.cell (p := ⟨w.heap.size, 0, none⟩) (by simp)]; simp [go_sem]
    · rw [hb.cell (p := ⟨w.heap.size, 1, none⟩) l1, h1.cell (p := ⟨w.heap.size, 1, none⟩) (by simp)]; simp [go_sem]
    · rw [hb.frozen (p := ⟨w.heap.size, i, none⟩) l1, h1.frozen (p := ⟨w.heap.size, i, none⟩) (by simp)]; simp [go_sem])
  clear ho2 hb2 hc1 H1 H2 HR1 HB1
  obtain ⟨nx, hnx⟩ : ∃ nx, ux.length = nx := ⟨_, rfl⟩
  obtain ⟨ny, hny⟩ : ∃ ny, uy.length = ny := ⟨_, rfl⟩
  have HC1 := Lib.hid hc1'
  have HC2 := Lib.hid hc2
  obtain ⟨p1, k1, rfl, -⟩ := hc1'
  obtain ⟨p2, k2, rfl, -⟩ := hc2
  rw [hnx] at HC1 hxn
  rw [hny] at HC2 hyn
  have HNX := Lib.hid hnx
  have HNY := Lib.hid hny
  rw [hnx, hny]
  have HGN : Hid (G = (decide (0 < nx) && decide (0 < ny))) := Lib.hid (by rw [← HG.out, ← hnx, ← hny]; cases ux <;> cases uy <;> simp)
  clear hnx hny HG
  by_cases hx0 : 0 < nx
  · go_wp2_with fail
    obtain ⟨T, hT⟩ : ∃ T, w2.heap.size = T := ⟨_, rfl⟩
    have HTT := Lib.hid hT
    rw [hT] at lw2 ⊢
    clear hT
    go_loopw [12] (fun k wr => ∃ (i : Nat) (s o : Bool), i ≤ nx ∧ k = .int .i64 i ∧ Hid (s = (G && (ux.take i).all fun x => uy.all fun y => sayEq x y)) ∧ Hid (o = (ux.take i).any someB) ∧ Hid (wr.heap[T]? = some (.cells #[.bool s, .bool o] 139 (0, 0))) ∧ Hid (Below w2.heap.size w2 wr)) (fun k _ => nx - (intOf k).toNat)
    case atStart => exact ⟨0, decide (0 < ny), false, by omega, rfl, Lib.hid (by rw [HGN.out]; simp [hx0]), Lib.hid rfl, Lib.hid (by rw [← HTT.out]; exact World.alloc_heap_new w2 _), Lib.hid (xa (xr _) _)⟩
    case round =>
      obtain ⟨i, s, o, hi, rfl, hs, ho, HT, HB⟩ := hrel
      by_cases hlt : i < nx
      · obtain ⟨c, hc⟩ := dl HNX.out hlt
        have hcx := HX.out c (List.mem_of_getElem? hc)
        obtain ⟨q1, o1, rfl, hca⟩ := cards_get (HC1.out.below HB.out) hc
        have hall := Lib.hid (all_step (p := fun x => uy.all fun y => sayEq x y) hc)
        have hany := Lib.hid (any_step (p := someB) hc)
        have HCC := Lib.hid hc
        obtain ⟨h0, h1, h2, h3, h4, h5⟩ := hca i _ hc
        obtain ⟨t0, t1, tF, tL⟩ := two_at HT.out
        have H55 := c55_H c hcx
        unfold cv at H55
        obtain ⟨⟨xl, xh⟩, hsx⟩ : ∃ s, says c = s := ⟨_, rfl⟩
        rw [hsx] at H55
        have HSX := Lib.hid hsx
        obtain ⟨a1, a2, a3, a4, a5, a6⟩ := c
        simp only at h0 h1 h2 h3 h4 h5 H55
        clear hc hcx hca hsx
        go_wp2_with fail
        go_loopw [13] (fun k wq => ∃ (k' : Nat) (s' : Bool), k' ≤ ny ∧ k = .int .i64 k' ∧ Hid (s' = (s && (uy.take k').all (sayEq ⟨a1, a2, a3, a4, a5, a6⟩))) ∧ Hid (wq.heap[T]? = some (.cells #[.bool s', .bool o] 139 (0, 0))) ∧ Hid (Below w2.heap.size w2 wq)) (fun k _ => ny - (intOf k).toNat)
        case atStart => exact ⟨0, s, by omega, rfl, Lib.hid (by simp), HT, HB⟩
        case round =>
          obtain ⟨k, s', hk, rfl, hs', HTq, HBq⟩ := hrel
          clear h0 h1 h2 h3 h4 h5 t0 t1 tF tL
          by_cases hlk : k < ny
          · obtain ⟨y, hy⟩ := dl HNY.out hlk
            have hyy := HY.out y (List.mem_of_getElem? hy)
            obtain ⟨q2, o2, rfl, hcb⟩ := cards_get (HC2.out.below HBq.out) hy
            have hq2 : q2 < T := by
              obtain ⟨q, o', e, h⟩ := cards_get HC2.out hy
              injection e with e; injection e with e1 e2; subst e1; subst e2
              rw [← HTT.out]; exact World.block_lt_of_cell? _ _ (h k _ hy).1
            have hq1 : q1 < T := by
              obtain ⟨q, o', e, h⟩ := cards_get HC1.out HCC.out
              injection e with e; injection e with e1 e2; subst e1; subst e2
              rw [← HTT.out]; exact World.block_lt_of_cell? _ _ (h i _ HCC.out).1
            have hca : CardsAt wr q1 o1 ux := by
              obtain ⟨q, o', e, h⟩ := cards_get (HC1.out.below HBq.out) HCC.out
              injection e with e; injection e with e1 e2; subst e1; subst e2; exact h
            have hstep := Lib.hid (all_step (p := sayEq ⟨a1, a2, a3, a4, a5, a6⟩) hy)
            obtain ⟨g0, g1, g2, g3, g4, g5⟩ := hcb k _ hy
            obtain ⟨h0, h1, h2, h3, h4, h5⟩ := hca i _ HCC.out
            obtain ⟨t0, t1, tF, tL⟩ := two_at HTq.out
            have H56 := c55_H y hyy
            unfold cv at H56
            obtain ⟨⟨yl, yh⟩, hsy⟩ : ∃ s, says y = s := ⟨_, rfl⟩
            rw [hsy] at H56
            have HSE : Hid (sayEq ⟨a1, a2, a3, a4, a5, a6⟩ y = (decide (xl = yl) && decide (xh = yh))) := Lib.hid (by rw [sayEq, HSX.out, hsy])
            obtain ⟨e1, e2, e3, e4, e5, e6⟩ := y
            simp only at g0 g1 g2 g3 g4 g5 h0 h1 h2 h3 h4 h5 H56
            clear hy hyy hcb hca hsy
            cases s' with
            | false =>
              go_wp2_with fail
              obtain ⟨X, hX⟩ : ∃ X, wr = X := ⟨_, rfl⟩
              have hCX : DayD q1 (o1 + i * 6) q2 (o2 + k * 6) a1 a2 a3 a4 a5 a6 e1 e2 e3 e4 e5 e6 X := by
                rw [← hX]; exact ⟨h0, h1, h2, h3, h4, h5, g0, g1, g2, g3, g4, g5⟩
              have HTX : Hid (X.heap[T]? = some (.cells #[.bool false, .bool o] 139 (0, 0))) := by rw [← hX]; exact HTq
              refine wp_region_class (DayD q1 (o1 + i * 6) q2 (o2 + k * 6) a1 a2 a3 a4 a5 a6 e1 e2 e3 e4 e5 e6) (by kernel_rfl) fun x1 => ?_
              rw [hX]
              obtain ⟨V0, hV⟩ : ∃ V0, gw X x1 = V0 := ⟨_, rfl⟩
              have hGV : Grown X V0 := by rw [← hV]; exact Grown.gw _ _
              have hCV := DayD.grows _ _ hCX hGV
              rw [hV]
              clear hV x1 hCX
              refine WC_all [0] (by kernel_rfl) (by simp) fun i hi => ?_
              rcases List.mem_singleton.1 hi with rfl
              refine WG_op rfl rfl fun K hK => ?_
              obtain ⟨t0, t1, tF, tL⟩ := two_at ((hGV.block _ (Array.getElem?_eq_some_iff.1 HTX.out).1).trans HTX.out)
              go_big_op
              refine hK _ _ ⟨hCV, fun y => ?_⟩
              clear hK K t0 t1 tF tL
              obtain ⟨V1, hV⟩ : ∃ V', gw V0 y = V' := ⟨_, rfl⟩
              rw [hV]
              replace hCV := DayD.grows _ V1 hCV (by rw [← hV]; exact Grown.gw _ _)
              replace hGV : Grown X V1 := Grown.trans hGV (by rw [← hV]; exact Grown.gw _ _)
              clear hV y V0
              refine WC_all [1] (by kernel_rfl) (by simp) fun i hi => ?_
              rcases List.mem_singleton.1 hi with rfl
              refine WG_op rfl rfl fun K hK => ?_
              obtain ⟨t0, t1, tF, tL⟩ := two_at ((hGV.block _ (Array.getElem?_eq_some_iff.1 HTX.out).1).trans HTX.out)
              go_big_op
              refine hK _ _ ⟨hCV, fun y => ?_⟩
              clear hK K t0 t1 tF tL
              obtain ⟨V2, hV⟩ : ∃ V', gw V1 y = V' := ⟨_, rfl⟩
              rw [hV]
              replace hCV := DayD.grows _ V2 hCV (by rw [← hV]; exact Grown.gw _ _)
              replace hGV : Grown X V2 := Grown.trans hGV (by rw [← hV]; exact Grown.gw _ _)
              clear hV y V1
              refine WC_all [2] (by kernel_rfl) (by simp) fun i hi => ?_
              rcases List.mem_singleton.1 hi with rfl
              refine WG_op rfl rfl fun K hK => ?_
              obtain ⟨t0, t1, tF, tL⟩ := two_at ((hGV.block _ (Array.getElem?_eq_some_iff.1 HTX.out).1).trans HTX.out)
              go_big_op
              refine hK _ _ ⟨hCV, fun y => ?_⟩
              clear hK K t0 t1 tF tL
              obtain ⟨V3, hV⟩ : ∃ V', gw V2 y = V' := ⟨_, rfl⟩
              rw [hV]
              replace hCV := DayD.grows _ V3 hCV (by rw [← hV]; exact Grown.gw _ _)
              replace hGV : Grown X V3 := Grown.trans hGV (by rw [← hV]; exact Grown.gw _ _)
              clear hV y V2
              refine WC_skip0 3 DayD.grows rfl (by kernel_rfl) (by kernel_rfl) (by kernel_rfl) hCV rfl (by simp only [Act.put, List.setIfInBounds_toArray, List.set_cons_succ, List.set_cons_zero]; exact rfl) fun y => ?_
              obtain ⟨V4, hV⟩ : ∃ V', gw V3 y = V' := ⟨_, rfl⟩
              rw [hV]
              replace hCV := DayD.grows _ V4 hCV (by rw [← hV]; exact Grown.gw _ _)
              replace hGV : Grown X V4 := Grown.trans hGV (by rw [← hV]; exact Grown.gw _ _)
              clear hV y V3
              refine WC_skip0 4 DayD.grows rfl (by kernel_rfl) (by kernel_rfl) (by kernel_rfl) hCV rfl (by simp only [Act.put, List.setIfInBounds_toArray, List.set_cons_succ, List.set_cons_zero]; exact rfl) fun y => ?_
              obtain ⟨V5, hV⟩ : ∃ V', gw V4 y = V' := ⟨_, rfl⟩
              rw [hV]
              replace hCV := DayD.grows _ V5 hCV (by rw [← hV]; exact Grown.gw _ _)
              replace hGV : Grown X V5 := Grown.trans hGV (by rw [← hV]; exact Grown.gw _ _)
              clear hV y V4
              refine WC_skip0 5 DayD.grows rfl (by kernel_rfl) (by kernel_rfl) (by kernel_rfl) hCV rfl (by simp only [Act.put, List.setIfInBounds_toArray, List.set_cons_succ, List.set_cons_zero]; exact rfl) fun y => ?_
              obtain ⟨V6, hV⟩ : ∃ V', gw V5 y = V' := ⟨_, rfl⟩
              rw [hV]
              replace hCV := DayD.grows _ V6 hCV (by rw [← hV]; exact Grown.gw _ _)
              replace hGV : Grown X V6 := Grown.trans hGV (by rw [← hV]; exact Grown.gw _ _)
              clear hV y V5
              refine WC_skip0 6 DayD.grows rfl (by kernel_rfl) (by kernel_rfl) (by kernel_rfl) hCV rfl (by simp only [Act.put, List.setIfInBounds_toArray, List.set_cons_succ, List.set_cons_zero]; exact rfl) fun y => ?_
              obtain ⟨V7, hV⟩ : ∃ V', gw V6 y = V' := ⟨_, rfl⟩
              rw [hV]
              replace hCV := DayD.grows _ V7 hCV (by rw [← hV]; exact Grown.gw _ _)
              replace hGV : Grown X V7 := Grown.trans hGV (by rw [← hV]; exact Grown.gw _ _)
              clear hV y V6
              refine WC_skip0 7 DayD.grows rfl (by kernel_rfl) (by kernel_rfl) (by kernel_rfl) hCV rfl (by simp only [Act.put, List.setIfInBounds_toArray, List.set_cons_succ, List.set_cons_zero]; exact rfl) fun y => ?_
              obtain ⟨V8, hV⟩ : ∃ V', gw V7 y = V' := ⟨_, rfl⟩
              rw [hV]
              replace hCV := DayD.grows _ V8 hCV (by rw [← hV]; exact Grown.gw _ _)
              replace hGV : Grown X V8 := Grown.trans hGV (by rw [← hV]; exact Grown.gw _ _)
              clear hV y V7
              refine WC_skip0 8 DayD.grows rfl (by kernel_rfl) (by kernel_rfl) (by kernel_rfl) hCV rfl (by simp only [Act.put, List.setIfInBounds_toArray, List.set_cons_succ, List.set_cons_zero]; exact rfl) fun y => ?_
              obtain ⟨V9, hV⟩ : ∃ V', gw V8 y = V' := ⟨_, rfl⟩
              rw [hV]
              replace hCV := DayD.grows _ V9 hCV (by rw [← hV]; exact Grown.gw _ _)
              replace hGV : Grown X V9 := Grown.trans hGV (by rw [← hV]; exact Grown.gw _ _)
              clear hV y V8
              refine WC_skip0 9 DayD.grows rfl (by kernel_rfl) (by kernel_rfl) (by kernel_rfl) hCV rfl (by simp only [Act.put, List.setIfInBounds_toArray, List.set_cons_succ, List.set_cons_zero]; exact rfl) fun y => ?_
              obtain ⟨V10, hV⟩ : ∃ V', gw V9 y = V' := ⟨_, rfl⟩
              rw [hV]
              replace hCV := DayD.grows _ V10 hCV (by rw [← hV]; exact Grown.gw _ _)
              replace hGV : Grown X V10 := Grown.trans hGV (by rw [← hV]; exact Grown.gw _ _)
              clear hV y V9
              refine WC_skip0 10 DayD.grows rfl (by kernel_rfl) (by kernel_rfl) (by kernel_rfl) hCV rfl (by simp only [Act.put, List.setIfInBounds_toArray, List.set_cons_succ, List.set_cons_zero]; exact rfl) fun y => ?_
              obtain ⟨V11, hV⟩ : ∃ V', gw V10 y = V' := ⟨_, rfl⟩
              rw [hV]
              replace hCV := DayD.grows _ V11 hCV (by rw [← hV]; exact Grown.gw _ _)
              replace hGV : Grown X V11 := Grown.trans hGV (by rw [← hV]; exact Grown.gw _ _)
              clear hV y V10
              refine WC_skip0 11 DayD.grows rfl (by kernel_rfl) (by kernel_rfl) (by kernel_rfl) hCV rfl (by simp only [Act.put, List.setIfInBounds_toArray, List.set_cons_succ, List.set_cons_zero]; exact rfl) fun y => ?_
              obtain ⟨V12, hV⟩ : ∃ V', gw V11 y = V' := ⟨_, rfl⟩
              rw [hV]
              replace hCV := DayD.grows _ V12 hCV (by rw [← hV]; exact Grown.gw _ _)
              replace hGV : Grown X V12 := Grown.trans hGV (by rw [← hV]; exact Grown.gw _ _)
              clear hV y V11
              refine WC_skip0 12 DayD.grows rfl (by kernel_rfl) (by kernel_rfl) (by kernel_rfl) hCV rfl (by simp only [Act.put, List.setIfInBounds_toArray, List.set_cons_succ, List.set_cons_zero]; exact rfl) fun y => ?_
              obtain ⟨V13, hV⟩ : ∃ V', gw V12 y = V' := ⟨_, rfl⟩
              rw [hV]
              replace hCV := DayD.grows _ V13 hCV (by rw [← hV]; exact Grown.gw _ _)
              replace hGV : Grown X V13 := Grown.trans hGV (by rw [← hV]; exact Grown.gw _ _)
              clear hV y V12
              refine WC_skip0 13 DayD.grows rfl (by kernel_rfl) (by kernel_rfl) (by kernel_rfl) hCV rfl (by simp only [Act.put, List.setIfInBounds_toArray, List.set_cons_succ, List.set_cons_zero]; exact rfl) fun y => ?_
              obtain ⟨V14, hV⟩ : ∃ V', gw V13 y = V' := ⟨_, rfl⟩
              rw [hV]
              replace hCV := DayD.grows _ V14 hCV (by rw [← hV]; exact Grown.gw _ _)
              replace hGV : Grown X V14 := Grown.trans hGV (by rw [← hV]; exact Grown.gw _ _)
              clear hV y V13
              refine WC_take (v := ?_) (a' := ?_) 14 DayD.grows rfl (by kernel_rfl) (by kernel_rfl) (by kernel_rfl) hCV ⟨rfl, fun w' hw' => ?_⟩ ?_ 58 rfl (by kernel_rfl) fun y => ?_
              rotate_left 2
              · obtain ⟨h0, h1, h2, h3, h4, h5, g0, g1, g2, g3, g4, g5⟩ := hw'
                have lq1 : q1 < w'.heap.size := World.block_lt_of_cell? _ _ h0
                have lq2 : q2 < w'.heap.size := World.block_lt_of_cell? _ _ g0
                go_big_quiet_op; exact rfl
              · exact rfl
              obtain ⟨V15, hV⟩ : ∃ V', gw V14 y = V' := ⟨_, rfl⟩
              rw [hV]
              replace hCV := DayD.grows _ V15 hCV (by rw [← hV]; exact Grown.gw _ _)
              replace hGV : Grown X V15 := Grown.trans hGV (by rw [← hV]; exact Grown.gw _ _)
              clear hV y V14
              refine WC_take (v := ?_) (a' := ?_) 15 DayD.grows rfl (by kernel_rfl) (by kernel_rfl) (by kernel_rfl) hCV ⟨rfl, fun w' hw' => ?_⟩ ?_ 59 rfl (by kernel_rfl) fun y => ?_
              rotate_left 2
              · obtain ⟨h0, h1, h2, h3, h4, h5, g0, g1, g2, g3, g4, g5⟩ := hw'
                have lq1 : q1 < w'.heap.size := World.block_lt_of_cell? _ _ h0
                have lq2 : q2 < w'.heap.size := World.block_lt_of_cell? _ _ g0
                go_big_quiet_op; exact rfl
              · exact rfl
              obtain ⟨V16, hV⟩ : ∃ V', gw V15 y = V' := ⟨_, rfl⟩
              rw [hV]
              replace hCV := DayD.grows _ V16 hCV (by rw [← hV]; exact Grown.gw _ _)
              replace hGV : Grown X V16 := Grown.trans hGV (by rw [← hV]; exact Grown.gw _ _)
              clear hV y V15
              refine WC_all [16] (by kernel_rfl) (by simp) fun i hi => ?_
              rcases List.mem_singleton.1 hi with rfl
              refine WG_op rfl rfl fun K hK => ?_
              have hTV := (hGV.block _ (Array.getElem?_eq_some_iff.1 HTX.out).1).trans HTX.out
              obtain ⟨t0, t1, tF, tL⟩ := two_at hTV
              go_big_op
              refine hK _ _ ⟨hCV.put hq1 hq2, fun y => ?_⟩
              have hTV' := two_set0 hTV false
              obtain ⟨Z, hZ⟩ : ∃ Z, gw (V16.setCell ⟨T, 0, none⟩ (.bool false)) y = Z := ⟨_, rfl⟩
              have hTZ := Lib.hid (((show Grown _ Z by rw [← hZ]; exact Grown.gw _ _).block _ (Array.getElem?_eq_some_iff.1 hTV').1).trans hTV')
              have hbZ : Hid (Below w2.heap.size w2 Z) := Lib.hid (by
                rw [← hZ]
                exact below_trans (xs (below_trans (hX ▸ HBq.out) hGV) (by show w2.heap.size ≤ T; rw [HTT.out]; exact Nat.le_refl _) _) (gw_below _ _))
              rw [hZ]
              clear hZ y hTV' hTV t0 t1 tF tL hCV hGV HTX hK K V16
              refine WC_done (by kernel_rfl) (NoPanic.normal ?_) _
              go_wp2_with fail
              go_roundw
              case rel => exact ⟨k + 1, false, by omega, by go_num, Lib.hid (by rw [hstep.out, ← Bool.and_assoc, ← hs'.out, HSE.out]; simp [*]), hTZ, hbZ⟩
              case measure => simp [intOf]; omega
            | true =>
              by_cases x1 : xl = yl
              · subst x1
                by_cases x2 : xh = yh
                · subst x2
                  go_wp2_with fail
                  obtain ⟨X, hX⟩ : ∃ X, wr = X := ⟨_, rfl⟩
                  have hCX : DayD q1 (o1 + i * 6) q2 (o2 + k * 6) a1 a2 a3 a4 a5 a6 e1 e2 e3 e4 e5 e6 X := by
                    rw [← hX]; exact ⟨h0, h1, h2, h3, h4, h5, g0, g1, g2, g3, g4, g5⟩
                  have HTX : Hid (X.heap[T]? = some (.cells #[.bool true, .bool o] 139 (0, 0))) := by rw [← hX]; exact HTq
                  refine wp_region_class (DayD q1 (o1 + i * 6) q2 (o2 + k * 6) a1 a2 a3 a4 a5 a6 e1 e2 e3 e4 e5 e6) (by kernel_rfl) fun x1 => ?_
                  rw [hX]
                  obtain ⟨V0, hV⟩ : ∃ V0, gw X x1 = V0 := ⟨_, rfl⟩
                  have hGV : Grown X V0 := by rw [← hV]; exact Grown.gw _ _
                  have hCV := DayD.grows _ _ hCX hGV
                  rw [hV]
                  clear hV x1 hCX
                  refine WC_all [0] (by kernel_rfl) (by simp) fun i hi => ?_
                  rcases List.mem_singleton.1 hi with rfl
                  refine WG_op rfl rfl fun K hK => ?_
                  obtain ⟨t0, t1, tF, tL⟩ := two_at ((hGV.block _ (Array.getElem?_eq_some_iff.1 HTX.out).1).trans HTX.out)
                  go_big_op
                  refine hK _ _ ⟨hCV, fun y => ?_⟩
                  clear hK K t0 t1 tF tL
                  obtain ⟨V1, hV⟩ : ∃ V', gw V0 y = V' := ⟨_, rfl⟩
                  rw [hV]
                  replace hCV := DayD.grows _ V1 hCV (by rw [← hV]; exact Grown.gw _ _)
                  replace hGV : Grown X V1 := Grown.trans hGV (by rw [← hV]; exact Grown.gw _ _)
                  clear hV y V0
                  refine WC_all [1] (by kernel_rfl) (by simp) fun i hi => ?_
                  rcases List.mem_singleton.1 hi with rfl
                  refine WG_op rfl rfl fun K hK => ?_
                  obtain ⟨t0, t1, tF, tL⟩ := two_at ((hGV.block _ (Array.getElem?_eq_some_iff.1 HTX.out).1).trans HTX.out)
                  go_big_op
                  refine hK _ _ ⟨hCV, fun y => ?_⟩
                  clear hK K t0 t1 tF tL
                  obtain ⟨V2, hV⟩ : ∃ V', gw V1 y = V' := ⟨_, rfl⟩
                  rw [hV]
                  replace hCV := DayD.grows _ V2 hCV (by rw [← hV]; exact Grown.gw _ _)
                  replace hGV : Grown X V2 := Grown.trans hGV (by rw [← hV]; exact Grown.gw _ _)
                  clear hV y V1
                  refine WC_all [2] (by kernel_rfl) (by simp) fun i hi => ?_
                  rcases List.mem_singleton.1 hi with rfl
                  refine WG_op rfl rfl fun K hK => ?_
                  obtain ⟨t0, t1, tF, tL⟩ := two_at ((hGV.block _ (Array.getElem?_eq_some_iff.1 HTX.out).1).trans HTX.out)
                  go_big_op
                  refine hK _ _ ⟨hCV, fun y => ?_⟩
                  clear hK K t0 t1 tF tL
                  obtain ⟨V3, hV⟩ : ∃ V', gw V2 y = V' := ⟨_, rfl⟩
                  rw [hV]
                  replace hCV := DayD.grows _ V3 hCV (by rw [← hV]; exact Grown.gw _ _)
                  replace hGV : Grown X V3 := Grown.trans hGV (by rw [← hV]; exact Grown.gw _ _)
                  clear hV y V2
                  refine WC_take (v := ?_) (a' := ?_) 3 DayD.grows rfl (by kernel_rfl) (by kernel_rfl) (by kernel_rfl) hCV ⟨rfl, fun w' hw' => ?_⟩ ?_ 47 rfl (by kernel_rfl) fun y => ?_
                  rotate_left 2
                  · obtain ⟨h0, h1, h2, h3, h4, h5, g0, g1, g2, g3, g4, g5⟩ := hw'
                    have lq1 : q1 < w'.heap.size := World.block_lt_of_cell? _ _ h0
                    have lq2 : q2 < w'.heap.size := World.block_lt_of_cell? _ _ g0
                    go_big_quiet_op; exact rfl
                  · exact rfl
                  obtain ⟨V4, hV⟩ : ∃ V', gw V3 y = V' := ⟨_, rfl⟩
                  rw [hV]
                  replace hCV := DayD.grows _ V4 hCV (by rw [← hV]; exact Grown.gw _ _)
                  replace hGV : Grown X V4 := Grown.trans hGV (by rw [← hV]; exact Grown.gw _ _)
                  clear hV y V3
                  refine WC_take (v := ?_) (a' := ?_) 4 DayD.grows rfl (by kernel_rfl) (by kernel_rfl) (by kernel_rfl) hCV ⟨rfl, fun w' hw' => ?_⟩ ?_ 48 rfl (by kernel_rfl) fun y => ?_
                  rotate_left 2
                  · obtain ⟨h0, h1, h2, h3, h4, h5, g0, g1, g2, g3, g4, g5⟩ := hw'
                    have lq1 : q1 < w'.heap.size := World.block_lt_of_cell? _ _ h0
                    have lq2 : q2 < w'.heap.size := World.block_lt_of_cell? _ _ g0
                    go_big_quiet_op; exact rfl
                  · exact rfl
                  obtain ⟨V5, hV⟩ : ∃ V', gw V4 y = V' := ⟨_, rfl⟩
                  rw [hV]
                  replace hCV := DayD.grows _ V5 hCV (by rw [← hV]; exact Grown.gw _ _)
                  replace hGV : Grown X V5 := Grown.trans hGV (by rw [← hV]; exact Grown.gw _ _)
                  clear hV y V4
                  refine WC_take (v := ?_) (a' := ?_) 5 DayD.grows rfl (by kernel_rfl) (by kernel_rfl) (by kernel_rfl) hCV ⟨rfl, fun w' hw' => ?_⟩ ?_ 49 rfl (by kernel_rfl) fun y => ?_
                  rotate_left 2
                  · obtain ⟨h0, h1, h2, h3, h4, h5, g0, g1, g2, g3, g4, g5⟩ := hw'
                    have lq1 : q1 < w'.heap.size := World.block_lt_of_cell? _ _ h0
                    have lq2 : q2 < w'.heap.size := World.block_lt_of_cell? _ _ g0
                    go_big_quiet_op; exact rfl
                  · exact rfl
                  obtain ⟨V6, hV⟩ : ∃ V', gw V5 y = V' := ⟨_, rfl⟩
                  rw [hV]
                  replace hCV := DayD.grows _ V6 hCV (by rw [← hV]; exact Grown.gw _ _)
                  replace hGV : Grown X V6 := Grown.trans hGV (by rw [← hV]; exact Grown.gw _ _)
                  clear hV y V5
                  refine WC_take (v := ?_) (a' := ?_) 6 DayD.grows rfl (by kernel_rfl) (by kernel_rfl) (by kernel_rfl) hCV ⟨rfl, fun w' hw' => ?_⟩ ?_ 50 rfl (by kernel_rfl) fun y => ?_
                  rotate_left 2
                  · obtain ⟨h0, h1, h2, h3, h4, h5, g0, g1, g2, g3, g4, g5⟩ := hw'
                    have lq1 : q1 < w'.heap.size := World.block_lt_of_cell? _ _ h0
                    have lq2 : q2 < w'.heap.size := World.block_lt_of_cell? _ _ g0
                    go_big_quiet_op; exact rfl
                  · exact rfl
                  obtain ⟨V7, hV⟩ : ∃ V', gw V6 y = V' := ⟨_, rfl⟩
                  rw [hV]
                  replace hCV := DayD.grows _ V7 hCV (by rw [← hV]; exact Grown.gw _ _)
                  replace hGV : Grown X V7 := Grown.trans hGV (by rw [← hV]; exact Grown.gw _ _)
                  clear hV y V6
                  refine WC_take (v := ?_) (a' := ?_) 7 DayD.grows rfl (by kernel_rfl) (by kernel_rfl) (by kernel_rfl) hCV ⟨rfl, fun w' hw' => ?_⟩ ?_ 51 rfl (by kernel_rfl) fun y => ?_
                  rotate_left 2
                  · obtain ⟨h0, h1, h2, h3, h4, h5, g0, g1, g2, g3, g4, g5⟩ := hw'
                    have lq1 : q1 < w'.heap.size := World.block_lt_of_cell? _ _ h0
                    have lq2 : q2 < w'.heap.size := World.block_lt_of_cell? _ _ g0
                    go_big_quiet_op; apply Exists.intro; refine ⟨fun n => ?_, ?_⟩; (go_at_call 55; with_reducible exact gw_call (H55 _).out); exact rfl
                  · exact rfl
                  obtain ⟨V8, hV⟩ : ∃ V', gw V7 y = V' := ⟨_, rfl⟩
                  rw [hV]
                  replace hCV := DayD.grows _ V8 hCV (by rw [← hV]; exact Grown.gw _ _)
                  replace hGV : Grown X V8 := Grown.trans hGV (by rw [← hV]; exact Grown.gw _ _)
                  clear hV y V7
                  refine WC_take (v := ?_) (a' := ?_) 8 DayD.grows rfl (by kernel_rfl) (by kernel_rfl) (by kernel_rfl) hCV ⟨rfl, fun w' hw' => ?_⟩ ?_ 52 rfl (by kernel_rfl) fun y => ?_
                  rotate_left 2
                  · obtain ⟨h0, h1, h2, h3, h4, h5, g0, g1, g2, g3, g4, g5⟩ := hw'
                    have lq1 : q1 < w'.heap.size := World.block_lt_of_cell? _ _ h0
                    have lq2 : q2 < w'.heap.size := World.block_lt_of_cell? _ _ g0
                    go_big_quiet_op; exact rfl
                  · exact rfl
                  obtain ⟨V9, hV⟩ : ∃ V', gw V8 y = V' := ⟨_, rfl⟩
                  rw [hV]
                  replace hCV := DayD.grows _ V9 hCV (by rw [← hV]; exact Grown.gw _ _)
                  replace hGV : Grown X V9 := Grown.trans hGV (by rw [← hV]; exact Grown.gw _ _)
                  clear hV y V8
                  refine WC_take (v := ?_) (a' := ?_) 9 DayD.grows rfl (by kernel_rfl) (by kernel_rfl) (by kernel_rfl) hCV ⟨rfl, fun w' hw' => ?_⟩ ?_ 53 rfl (by kernel_rfl) fun y => ?_
                  rotate_left 2
                  · obtain ⟨h0, h1, h2, h3, h4, h5, g0, g1, g2, g3, g4, g5⟩ := hw'
                    have lq1 : q1 < w'.heap.size := World.block_lt_of_cell? _ _ h0
                    have lq2 : q2 < w'.heap.size := World.block_lt_of_cell? _ _ g0
                    go_big_quiet_op; exact rfl
                  · exact rfl
                  obtain ⟨V10, hV⟩ : ∃ V', gw V9 y = V' := ⟨_, rfl⟩
                  rw [hV]
                  replace hCV := DayD.grows _ V10 hCV (by rw [← hV]; exact Grown.gw _ _)
                  replace hGV : Grown X V10 := Grown.trans hGV (by rw [← hV]; exact Grown.gw _ _)
                  clear hV y V9
                  refine WC_take (v := ?_) (a' := ?_) 10 DayD.grows rfl (by kernel_rfl) (by kernel_rfl) (by kernel_rfl) hCV ⟨rfl, fun w' hw' => ?_⟩ ?_ 54 rfl (by kernel_rfl) fun y => ?_
                  rotate_left 2
                  · obtain ⟨h0, h1, h2, h3, h4, h5, g0, g1, g2, g3, g4, g5⟩ := hw'
                    have lq1 : q1 < w'.heap.size := World.block_lt_of_cell? _ _ h0
                    have lq2 : q2 < w'.heap.size := World.block_lt_of_cell? _ _ g0
                    go_big_quiet_op; exact rfl
                  · exact rfl
                  obtain ⟨V11, hV⟩ : ∃ V', gw V10 y = V' := ⟨_, rfl⟩
                  rw [hV]
                  replace hCV := DayD.grows _ V11 hCV (by rw [← hV]; exact Grown.gw _ _)
                  replace hGV : Grown X V11 := Grown.trans hGV (by rw [← hV]; exact Grown.gw _ _)
                  clear hV y V10
                  refine WC_take (v := ?_) (a' := ?_) 11 DayD.grows rfl (by kernel_rfl) (by kernel_rfl) (by kernel_rfl) hCV ⟨rfl, fun w' hw' => ?_⟩ ?_ 55 rfl (by kernel_rfl) fun y => ?_
                  rotate_left 2
                  · obtain ⟨h0, h1, h2, h3, h4, h5, g0, g1, g2, g3, g4, g5⟩ := hw'
                    have lq1 : q1 < w'.heap.size := World.block_lt_of_cell? _ _ h0
                    have lq2 : q2 < w'.heap.size := World.block_lt_of_cell? _ _ g0
                    go_big_quiet_op; exact rfl
                  · exact rfl
                  obtain ⟨V12, hV⟩ : ∃ V', gw V11 y = V' := ⟨_, rfl⟩
                  rw [hV]
                  replace hCV := DayD.grows _ V12 hCV (by rw [← hV]; exact Grown.gw _ _)
                  replace hGV : Grown X V12 := Grown.trans hGV (by rw [← hV]; exact Grown.gw _ _)
                  clear hV y V11
                  refine WC_take (v := ?_) (a' := ?_) 12 DayD.grows rfl (by kernel_rfl) (by kernel_rfl) (by kernel_rfl) hCV ⟨rfl, fun w' hw' => ?_⟩ ?_ 56 rfl (by kernel_rfl) fun y => ?_
                  rotate_left 2
                  · obtain ⟨h0, h1, h2, h3, h4, h5, g0, g1, g2, g3, g4, g5⟩ := hw'
                    have lq1 : q1 < w'.heap.size := World.block_lt_of_cell? _ _ h0
                    have lq2 : q2 < w'.heap.size := World.block_lt_of_cell? _ _ g0
                    go_big_quiet_op; apply Exists.intro; refine ⟨fun n => ?_, ?_⟩; (go_at_call 55; with_reducible exact gw_call (H56 _).out); exact rfl
                  · exact rfl
                  obtain ⟨V13, hV⟩ : ∃ V', gw V12 y = V' := ⟨_, rfl⟩
                  rw [hV]
                  replace hCV := DayD.grows _ V13 hCV (by rw [← hV]; exact Grown.gw _ _)
                  replace hGV : Grown X V13 := Grown.trans hGV (by rw [← hV]; exact Grown.gw _ _)
                  clear hV y V12
                  refine WC_take (v := ?_) (a' := ?_) 13 DayD.grows rfl (by kernel_rfl) (by kernel_rfl) (by kernel_rfl) hCV ⟨rfl, fun w' hw' => ?_⟩ ?_ 57 rfl (by kernel_rfl) fun y => ?_
                  rotate_left 2
                  · obtain ⟨h0, h1, h2, h3, h4, h5, g0, g1, g2, g3, g4, g5⟩ := hw'
                    have lq1 : q1 < w'.heap.size := World.block_lt_of_cell? _ _ h0
                    have lq2 : q2 < w'.heap.size := World.block_lt_of_cell? _ _ g0
                    go_big_quiet_op; exact rfl
                  · exact rfl
                  obtain ⟨V14, hV⟩ : ∃ V', gw V13 y = V' := ⟨_, rfl⟩
                  rw [hV]
                  replace hCV := DayD.grows _ V14 hCV (by rw [← hV]; exact Grown.gw _ _)
                  replace hGV : Grown X V14 := Grown.trans hGV (by rw [← hV]; exact Grown.gw _ _)
                  clear hV y V13
                  refine WC_take (v := ?_) (a' := ?_) 14 DayD.grows rfl (by kernel_rfl) (by kernel_rfl) (by kernel_rfl) hCV ⟨rfl, fun w' hw' => ?_⟩ ?_ 58 rfl (by kernel_rfl) fun y => ?_
                  rotate_left 2
                  · obtain ⟨h0, h1, h2, h3, h4, h5, g0, g1, g2, g3, g4, g5⟩ := hw'
                    have lq1 : q1 < w'.heap.size := World.block_lt_of_cell? _ _ h0
                    have lq2 : q2 < w'.heap.size := World.block_lt_of_cell? _ _ g0
                    go_big_quiet_op; exact rfl
                  · exact rfl
                  obtain ⟨V15, hV⟩ : ∃ V', gw V14 y = V' := ⟨_, rfl⟩
                  rw [hV]
                  replace hCV := DayD.grows _ V15 hCV (by rw [← hV]; exact Grown.gw _ _)
                  replace hGV : Grown X V15 := Grown.trans hGV (by rw [← hV]; exact Grown.gw _ _)
                  clear hV y V14
                  refine WC_take (v := ?_) (a' := ?_) 15 DayD.grows rfl (by kernel_rfl) (by kernel_rfl) (by kernel_rfl) hCV ⟨rfl, fun w' hw' => ?_⟩ ?_ 59 rfl (by kernel_rfl) fun y => ?_
                  rotate_left 2
                  · obtain ⟨h0, h1, h2, h3, h4, h5, g0, g1, g2, g3, g4, g5⟩ := hw'
                    have lq1 : q1 < w'.heap.size := World.block_lt_of_cell? _ _ h0
                    have lq2 : q2 < w'.heap.size := World.block_lt_of_cell? _ _ g0
                    go_big_quiet_op; exact rfl
                  · exact rfl
                  obtain ⟨V16, hV⟩ : ∃ V', gw V15 y = V' := ⟨_, rfl⟩
                  rw [hV]
                  replace hCV := DayD.grows _ V16 hCV (by rw [← hV]; exact Grown.gw _ _)
                  replace hGV : Grown X V16 := Grown.trans hGV (by rw [← hV]; exact Grown.gw _ _)
                  clear hV y V15
                  refine WC_all [16] (by kernel_rfl) (by simp) fun i hi => ?_
                  rcases List.mem_singleton.1 hi with rfl
                  refine WG_op rfl rfl fun K hK => ?_
                  have hTV := (hGV.block _ (Array.getElem?_eq_some_iff.1 HTX.out).1).trans HTX.out
                  obtain ⟨t0, t1, tF, tL⟩ := two_at hTV
                  go_big_op
                  refine hK _ _ ⟨hCV.put hq1 hq2, fun y => ?_⟩
                  have hTV' := two_set0 hTV true
                  obtain ⟨Z, hZ⟩ : ∃ Z, gw (V16.setCell ⟨T, 0, none⟩ (.bool true)) y = Z := ⟨_, rfl⟩
                  have hTZ := Lib.hid (((show Grown _ Z by rw [← hZ]; exact Grown.gw _ _).block _ (Array.getElem?_eq_some_iff.1 hTV').1).trans hTV')
                  have hbZ : Hid (Below w2.heap.size w2 Z) := Lib.hid (by
                    rw [← hZ]
                    exact below_trans (xs (below_trans (hX ▸ HBq.out) hGV) (by show w2.heap.size ≤ T; rw [HTT.out]; exact Nat.le_refl _) _) (gw_below _ _))
                  rw [hZ]
                  clear hZ y hTV' hTV t0 t1 tF tL hCV hGV HTX hK K V16
                  refine WC_done (by kernel_rfl) (NoPanic.normal ?_) _
                  go_wp2_with fail
                  go_roundw
                  case rel => exact ⟨k + 1, true, by omega, by go_num, Lib.hid (by rw [hstep.out, ← Bool.and_assoc, ← hs'.out, HSE.out]; simp [*]), hTZ, hbZ⟩
                  case measure => simp [intOf]; omega
                · go_wp2_with fail
                  obtain ⟨X, hX⟩ : ∃ X, wr = X := ⟨_, rfl⟩
                  have hCX : DayD q1 (o1 + i * 6) q2 (o2 + k * 6) a1 a2 a3 a4 a5 a6 e1 e2 e3 e4 e5 e6 X := by
                    rw [← hX]; exact ⟨h0, h1, h2, h3, h4, h5, g0, g1, g2, g3, g4, g5⟩
                  have HTX : Hid (X.heap[T]? = some (.cells #[.bool true, .bool o] 139 (0, 0))) := by rw [← hX]; exact HTq
                  refine wp_region_class (DayD q1 (o1 + i * 6) q2 (o2 + k * 6) a1 a2 a3 a4 a5 a6 e1 e2 e3 e4 e5 e6) (by kernel_rfl) fun x1 => ?_
                  rw [hX]
                  obtain ⟨V0, hV⟩ : ∃ V0, gw X x1 = V0 := ⟨_, rfl⟩
                  have hGV : Grown X V0 := by rw [← hV]; exact Grown.gw _ _
                  have hCV := DayD.grows _ _ hCX hGV
                  rw [hV]
                  clear hV x1 hCX
                  refine WC_all [0] (by kernel_rfl) (by simp) fun i hi => ?_
                  rcases List.mem_singleton.1 hi with rfl
                  refine WG_op rfl rfl fun K hK => ?_
                  obtain ⟨t0, t1, tF, tL⟩ := two_at ((hGV.block _ (Array.getElem?_eq_some_iff.1 HTX.out).1).trans HTX.out)
                  go_big_op
                  refine hK _ _ ⟨hCV, fun y => ?_⟩
                  clear hK K t0 t1 tF tL
                  obtain ⟨V1, hV⟩ : ∃ V', gw V0 y = V' := ⟨_, rfl⟩
                  rw [hV]
                  replace hCV := DayD.grows _ V1 hCV (by rw [← hV]; exact Grown.gw _ _)
                  replace hGV : Grown X V1 := Grown.trans hGV (by rw [← hV]; exact Grown.gw _ _)
                  clear hV y V0
                  refine WC_all [1] (by kernel_rfl) (by simp) fun i hi => ?_
                  rcases List.mem_singleton.1 hi with rfl
                  refine WG_op rfl rfl fun K hK => ?_
                  obtain ⟨t0, t1, tF, tL⟩ := two_at ((hGV.block _ (Array.getElem?_eq_some_iff.1 HTX.out).1).trans HTX.out)
                  go_big_op
                  refine hK _ _ ⟨hCV, fun y => ?_⟩
                  clear hK K t0 t1 tF tL
                  obtain ⟨V2, hV⟩ : ∃ V', gw V1 y = V' := ⟨_, rfl⟩
                  rw [hV]
                  replace hCV := DayD.grows _ V2 hCV (by rw [← hV]; exact Grown.gw _ _)
                  replace hGV : Grown X V2 := Grown.trans hGV (by rw [← hV]; exact Grown.gw _ _)
                  clear hV y V1
                  refine WC_all [2] (by kernel_rfl) (by simp) fun i hi => ?_
                  rcases List.mem_singleton.1 hi with rfl
                  refine WG_op rfl rfl fun K hK => ?_
                  obtain ⟨t0, t1, tF, tL⟩ := two_at ((hGV.block _ (Array.getElem?_eq_some_iff.1 HTX.out).1).trans HTX.out)
                  go_big_op
                  refine hK _ _ ⟨hCV, fun y => ?_⟩
                  clear hK K t0 t1 tF tL
                  obtain ⟨V3, hV⟩ : ∃ V', gw V2 y = V' := ⟨_, rfl⟩
                  rw [hV]
                  replace hCV := DayD.grows _ V3 hCV (by rw [← hV]; exact Grown.gw _ _)
                  replace hGV : Grown X V3 := Grown.trans hGV (by rw [← hV]; exact Grown.gw _ _)
                  clear hV y V2
                  refine WC_take (v := ?_) (a' := ?_) 3 DayD.grows rfl (by kernel_rfl) (by kernel_rfl) (by kernel_rfl) hCV ⟨rfl, fun w' hw' => ?_⟩ ?_ 47 rfl (by kernel_rfl) fun y => ?_
                  rotate_left 2
                  · obtain ⟨h0, h1, h2, h3, h4, h5, g0, g1, g2, g3, g4, g5⟩ := hw'
                    have lq1 : q1 < w'.heap.size := World.block_lt_of_cell? _ _ h0
                    have lq2 : q2 < w'.heap.size := World.block_lt_of_cell? _ _ g0
                    go_big_quiet_op; exact rfl
                  · exact rfl
                  obtain ⟨V4, hV⟩ : ∃ V', gw V3 y = V' := ⟨_, rfl⟩
                  rw [hV]
                  replace hCV := DayD.grows _ V4 hCV (by rw [← hV]; exact Grown.gw _ _)
                  replace hGV : Grown X V4 := Grown.trans hGV (by rw [← hV]; exact Grown.gw _ _)
                  clear hV y V3
                  refine WC_take (v := ?_) (a' := ?_) 4 DayD.grows rfl (by kernel_rfl) (by kernel_rfl) (by kernel_rfl) hCV ⟨rfl, fun w' hw' => ?_⟩ ?_ 48 rfl (by kernel_rfl) fun y => ?_
                  rotate_left 2
                  · obtain ⟨h0, h1, h2, h3, h4, h5, g0, g1, g2, g3, g4, g5⟩ := hw'
                    have lq1 : q1 < w'.heap.size := World.block_lt_of_cell? _ _ h0
                    have lq2 : q2 < w'.heap.size := World.block_lt_of_cell? _ _ g0
                    go_big_quiet_op; exact rfl
                  · exact rfl
                  obtain ⟨V5, hV⟩ : ∃ V', gw V4 y = V' := ⟨_, rfl⟩
                  rw [hV]
                  replace hCV := DayD.grows _ V5 hCV (by rw [← hV]; exact Grown.gw _ _)
                  replace hGV : Grown X V5 := Grown.trans hGV (by rw [← hV]; exact Grown.gw _ _)
                  clear hV y V4
                  refine WC_take (v := ?_) (a' := ?_) 5 DayD.grows rfl (by kernel_rfl) (by kernel_rfl) (by kernel_rfl) hCV ⟨rfl, fun w' hw' => ?_⟩ ?_ 49 rfl (by kernel_rfl) fun y => ?_
                  rotate_left 2
                  · obtain ⟨h0, h1, h2, h3, h4, h5, g0, g1, g2, g3, g4, g5⟩ := hw'
                    have lq1 : q1 < w'.heap.size := World.block_lt_of_cell? _ _ h0
                    have lq2 : q2 < w'.heap.size := World.block_lt_of_cell? _ _ g0
                    go_big_quiet_op; exact rfl
                  · exact rfl
                  obtain ⟨V6, hV⟩ : ∃ V', gw V5 y = V' := ⟨_, rfl⟩
                  rw [hV]
                  replace hCV := DayD.grows _ V6 hCV (by rw [← hV]; exact Grown.gw _ _)
                  replace hGV : Grown X V6 := Grown.trans hGV (by rw [← hV]; exact Grown.gw _ _)
                  clear hV y V5
                  refine WC_take (v := ?_) (a' := ?_) 6 DayD.grows rfl (by kernel_rfl) (by kernel_rfl) (by kernel_rfl) hCV ⟨rfl, fun w' hw' => ?_⟩ ?_ 50 rfl (by kernel_rfl) fun y => ?_
                  rotate_left 2
                  · obtain ⟨h0, h1, h2, h3, h4, h5, g0, g1, g2, g3, g4, g5⟩ := hw'
                    have lq1 : q1 < w'.heap.size := World.block_lt_of_cell? _ _ h0
                    have lq2 : q2 < w'.heap.size := World.block_lt_of_cell? _ _ g0
                    go_big_quiet_op; exact rfl
                  · exact rfl
                  obtain ⟨V7, hV⟩ : ∃ V', gw V6 y = V' := ⟨_, rfl⟩
                  rw [hV]
                  replace hCV := DayD.grows _ V7 hCV (by rw [← hV]; exact Grown.gw _ _)
                  replace hGV : Grown X V7 := Grown.trans hGV (by rw [← hV]; exact Grown.gw _ _)
                  clear hV y V6
                  refine WC_take (v := ?_) (a' := ?_) 7 DayD.grows rfl (by kernel_rfl) (by kernel_rfl) (by kernel_rfl) hCV ⟨rfl, fun w' hw' => ?_⟩ ?_ 51 rfl (by kernel_rfl) fun y => ?_
                  rotate_left 2
                  · obtain ⟨h0, h1, h2, h3, h4, h5, g0, g1, g2, g3, g4, g5⟩ := hw'
                    have lq1 : q1 < w'.heap.size := World.block_lt_of_cell? _ _ h0
                    have lq2 : q2 < w'.heap.size := World.block_lt_of_cell? _ _ g0
                    go_big_quiet_op; apply Exists.intro; refine ⟨fun n => ?_, ?_⟩; (go_at_call 55; with_reducible exact gw_call (H55 _).out); exact rfl
                  · exact rfl
                  obtain ⟨V8, hV⟩ : ∃ V', gw V7 y = V' := ⟨_, rfl⟩
                  rw [hV]
                  replace hCV := DayD.grows _ V8 hCV (by rw [← hV]; exact Grown.gw _ _)
                  replace hGV : Grown X V8 := Grown.trans hGV (by rw [← hV]; exact Grown.gw _ _)
                  clear hV y V7
                  refine WC_take (v := ?_) (a' := ?_) 8 DayD.grows rfl (by kernel_rfl) (by kernel_rfl) (by kernel_rfl) hCV ⟨rfl, fun w' hw' => ?_⟩ ?_ 52 rfl (by kernel_rfl) fun y => ?_
                  rotate_left 2
                  · obtain ⟨h0, h1, h2, h3, h4, h5, g0, g1, g2, g3, g4, g5⟩ := hw'
                    have lq1 : q1 < w'.heap.size := World.block_lt_of_cell? _ _ h0
                    have lq2 : q2 < w'.heap.size := World.block_lt_of_cell? _ _ g0
                    go_big_quiet_op; exact rfl
                  · exact rfl
                  obtain ⟨V9, hV⟩ : ∃ V', gw V8 y = V' := ⟨_, rfl⟩
                  rw [hV]
                  replace hCV := DayD.grows _ V9 hCV (by rw [← hV]; exact Grown.gw _ _)
                  replace hGV : Grown X V9 := Grown.trans hGV (by rw [← hV]; exact Grown.gw _ _)
                  clear hV y V8
                  refine WC_take (v := ?_) (a' := ?_) 9 DayD.grows rfl (by kernel_rfl) (by kernel_rfl) (by kernel_rfl) hCV ⟨rfl, fun w' hw' => ?_⟩ ?_ 53 rfl (by kernel_rfl) fun y => ?_
                  rotate_left 2
                  · obtain ⟨h0, h1, h2, h3, h4, h5, g0, g1, g2, g3, g4, g5⟩ := hw'
                    have lq1 : q1 < w'.heap.size := World.block_lt_of_cell? _ _ h0
                    have lq2 : q2 < w'.heap.size := World.block_lt_of_cell? _ _ g0
                    go_big_quiet_op; exact rfl
                  · exact rfl
                  obtain ⟨V10, hV⟩ : ∃ V', gw V9 y = V' := ⟨_, rfl⟩
                  rw [hV]
                  replace hCV := DayD.grows _ V10 hCV (by rw [← hV]; exact Grown.gw _ _)
                  replace hGV : Grown X V10 := Grown.trans hGV (by rw [← hV]; exact Grown.gw _ _)
                  clear hV y V9
                  refine WC_take (v := ?_) (a' := ?_) 10 DayD.grows rfl (by kernel_rfl) (by kernel_rfl) (by kernel_rfl) hCV ⟨rfl, fun w' hw' => ?_⟩ ?_ 54 rfl (by kernel_rfl) fun y => ?_
                  rotate_left 2
                  · obtain ⟨h0, h1, h2, h3, h4, h5, g0, g1, g2, g3, g4, g5⟩ := hw'
                    have lq1 : q1 < w'.heap.size := World.block_lt_of_cell? _ _ h0
                    have lq2 : q2 < w'.heap.size := World.block_lt_of_cell? _ _ g0
                    go_big_quiet_op; exact rfl
                  · exact rfl
                  obtain ⟨V11, hV⟩ : ∃ V', gw V10 y = V' := ⟨_, rfl⟩
                  rw [hV]
                  replace hCV := DayD.grows _ V11 hCV (by rw [← hV]; exact Grown.gw _ _)
                  replace hGV : Grown X V11 := Grown.trans hGV (by rw [← hV]; exact Grown.gw _ _)
                  clear hV y V10
                  refine WC_take (v := ?_) (a' := ?_) 11 DayD.grows rfl (by kernel_rfl) (by kernel_rfl) (by kernel_rfl) hCV ⟨rfl, fun w' hw' => ?_⟩ ?_ 55 rfl (by kernel_rfl) fun y => ?_
                  rotate_left 2
                  · obtain ⟨h0, h1, h2, h3, h4, h5, g0, g1, g2, g3, g4, g5⟩ := hw'
                    have lq1 : q1 < w'.heap.size := World.block_lt_of_cell? _ _ h0
                    have lq2 : q2 < w'.heap.size := World.block_lt_of_cell? _ _ g0
                    go_big_quiet_op; exact rfl
                  · exact rfl
                  obtain ⟨V12, hV⟩ : ∃ V', gw V11 y = V' := ⟨_, rfl⟩
                  rw [hV]
                  replace hCV := DayD.grows _ V12 hCV (by rw [← hV]; exact Grown.gw _ _)
                  replace hGV : Grown X V12 := Grown.trans hGV (by rw [← hV]; exact Grown.gw _ _)
                  clear hV y V11
                  refine WC_take (v := ?_) (a' := ?_) 12 DayD.grows rfl (by kernel_rfl) (by kernel_rfl) (by kernel_rfl) hCV ⟨rfl, fun w' hw' => ?_⟩ ?_ 56 rfl (by kernel_rfl) fun y => ?_
                  rotate_left 2
                  · obtain ⟨h0, h1, h2, h3, h4, h5, g0, g1, g2, g3, g4, g5⟩ := hw'
                    have lq1 : q1 < w'.heap.size := World.block_lt_of_cell? _ _ h0
                    have lq2 : q2 < w'.heap.size := World.block_lt_of_cell? _ _ g0
                    go_big_quiet_op; apply Exists.intro; refine ⟨fun n => ?_, ?_⟩; (go_at_call 55; with_reducible exact gw_call (H56 _).out); exact rfl
                  · exact rfl
                  obtain ⟨V13, hV⟩ : ∃ V', gw V12 y = V' := ⟨_, rfl⟩
                  rw [hV]
                  replace hCV := DayD.grows _ V13 hCV (by rw [← hV]; exact Grown.gw _ _)
                  replace hGV : Grown X V13 := Grown.trans hGV (by rw [← hV]; exact Grown.gw _ _)
                  clear hV y V12
                  refine WC_take (v := ?_) (a' := ?_) 13 DayD.grows rfl (by kernel_rfl) (by kernel_rfl) (by kernel_rfl) hCV ⟨rfl, fun w' hw' => ?_⟩ ?_ 57 rfl (by kernel_rfl) fun y => ?_
                  rotate_left 2
                  · obtain ⟨h0, h1, h2, h3, h4, h5, g0, g1, g2, g3, g4, g5⟩ := hw'
                    have lq1 : q1 < w'.heap.size := World.block_lt_of_cell? _ _ h0
                    have lq2 : q2 < w'.heap.size := World.block_lt_of_cell? _ _ g0
                    go_big_quiet_op; exact rfl
                  · exact rfl
                  obtain ⟨V14, hV⟩ : ∃ V', gw V13 y = V' := ⟨_, rfl⟩
                  rw [hV]
                  replace hCV := DayD.grows _ V14 hCV (by rw [← hV]; exact Grown.gw _ _)
                  replace hGV : Grown X V14 := Grown.trans hGV (by rw [← hV]; exact Grown.gw _ _)
                  clear hV y V13
                  refine WC_take (v := ?_) (a' := ?_) 14 DayD.grows rfl (by kernel_rfl) (by kernel_rfl) (by kernel_rfl) hCV ⟨rfl, fun w' hw' => ?_⟩ ?_ 58 rfl (by kernel_rfl) fun y => ?_
                  rotate_left 2
                  · obtain ⟨h0, h1, h2, h3, h4, h5, g0, g1, g2, g3, g4, g5⟩ := hw'
                    have lq1 : q1 < w'.heap.size := World.block_lt_of_cell? _ _ h0
                    have lq2 : q2 < w'.heap.size := World.block_lt_of_cell? _ _ g0
                    go_big_quiet_op; exact rfl
                  · exact rfl
                  obtain ⟨V15, hV⟩ : ∃ V', gw V14 y = V' := ⟨_, rfl⟩
                  rw [hV]
                  replace hCV := DayD.grows _ V15 hCV (by rw [← hV]; exact Grown.gw _ _)
                  replace hGV : Grown X V15 := Grown.trans hGV (by rw [← hV]; exact Grown.gw _ _)
                  clear hV y V14
                  refine WC_take (v := ?_) (a' := ?_) 15 DayD.grows rfl (by kernel_rfl) (by kernel_rfl) (by kernel_rfl) hCV ⟨rfl, fun w' hw' => ?_⟩ ?_ 59 rfl (by kernel_rfl) fun y => ?_
                  rotate_left 2
                  · obtain ⟨h0, h1, h2, h3, h4, h5, g0, g1, g2, g3, g4, g5⟩ := hw'
                    have lq1 : q1 < w'.heap.size := World.block_lt_of_cell? _ _ h0
                    have lq2 : q2 < w'.heap.size := World.block_lt_of_cell? _ _ g0
                    go_big_quiet_op; exact rfl
                  · exact rfl
                  obtain ⟨V16, hV⟩ : ∃ V', gw V15 y = V' := ⟨_, rfl⟩
                  rw [hV]
                  replace hCV := DayD.grows _ V16 hCV (by rw [← hV]; exact Grown.gw _ _)
                  replace hGV : Grown X V16 := Grown.trans hGV (by rw [← hV]; exact Grown.gw _ _)
                  clear hV y V15
                  refine WC_all [16] (by kernel_rfl) (by simp) fun i hi => ?_
                  rcases List.mem_singleton.1 hi with rfl
                  refine WG_op rfl rfl fun K hK => ?_
                  have hTV := (hGV.block _ (Array.getElem?_eq_some_iff.1 HTX.out).1).trans HTX.out
                  obtain ⟨t0, t1, tF, tL⟩ := two_at hTV
                  go_big_op
                  refine hK _ _ ⟨hCV.put hq1 hq2, fun y => ?_⟩
                  have hTV' := two_set0 hTV false
                  obtain ⟨Z, hZ⟩ : ∃ Z, gw (V16.setCell ⟨T, 0, none⟩ (.bool false)) y = Z := ⟨_, rfl⟩
                  have hTZ := Lib.hid (((show Grown _ Z by rw [← hZ]; exact Grown.gw _ _).block _ (Array.getElem?_eq_some_iff.1 hTV').1).trans hTV')
                  have hbZ : Hid (Below w2.heap.size w2 Z) := Lib.hid (by
                    rw [← hZ]
                    exact below_trans (xs (below_trans (hX ▸ HBq.out) hGV) (by show w2.heap.size ≤ T; rw [HTT.out]; exact Nat.le_refl _) _) (gw_below _ _))
                  rw [hZ]
                  clear hZ y hTV' hTV t0 t1 tF tL hCV hGV HTX hK K V16
                  refine WC_done (by kernel_rfl) (NoPanic.normal ?_) _
                  go_wp2_with fail
                  go_roundw
                  case rel => exact ⟨k + 1, false, by omega, by go_num, Lib.hid (by rw [hstep.out, ← Bool.and_assoc, ← hs'.out, HSE.out]; simp [*]), hTZ, hbZ⟩
                  case measure => simp [intOf]; omega
              · go_wp2_with fail
                obtain ⟨X, hX⟩ : ∃ X, wr = X := ⟨_, rfl⟩
                have hCX : DayD q1 (o1 + i * 6) q2 (o2 + k * 6) a1 a2 a3 a4 a5 a6 e1 e2 e3 e4 e5 e6 X := by
                  rw [← hX]; exact ⟨h0, h1, h2, h3, h4, h5, g0, g1, g2, g3, g4, g5⟩
                have HTX : Hid (X.heap[T]? = some (.cells #[.bool true, .bool o] 139 (0, 0))) := by rw [← hX]; exact HTq
                refine wp_region_class (DayD q1 (o1 + i * 6) q2 (o2 + k * 6) a1 a2 a3 a4 a5 a6 e1 e2 e3 e4 e5 e6) (by kernel_rfl) fun x1 => ?_
                rw [hX]
                obtain ⟨V0, hV⟩ : ∃ V0, gw X x1 = V0 := ⟨_, rfl⟩
                have hGV : Grown X V0 := by rw [← hV]; exact Grown.gw _ _
                have hCV := DayD.grows _ _ hCX hGV
                rw [hV]
                clear hV x1 hCX
                refine WC_all [0] (by kernel_rfl) (by simp) fun i hi => ?_
                rcases List.mem_singleton.1 hi with rfl
                refine WG_op rfl rfl fun K hK => ?_
                obtain ⟨t0, t1, tF, tL⟩ := two_at ((hGV.block _ (Array.getElem?_eq_some_iff.1 HTX.out).1).trans HTX.out)
                go_big_op
                refine hK _ _ ⟨hCV, fun y => ?_⟩
                clear hK K t0 t1 tF tL
                obtain ⟨V1, hV⟩ : ∃ V', gw V0 y = V' := ⟨_, rfl⟩
                rw [hV]
                replace hCV := DayD.grows _ V1 hCV (by rw [← hV]; exact Grown.gw _ _)
                replace hGV : Grown X V1 := Grown.trans hGV (by rw [← hV]; exact Grown.gw _ _)
                clear hV y V0
                refine WC_all [1] (by kernel_rfl) (by simp) fun i hi => ?_
                rcases List.mem_singleton.1 hi with rfl
                refine WG_op rfl rfl fun K hK => ?_
                obtain ⟨t0, t1, tF, tL⟩ := two_at ((hGV.block _ (Array.getElem?_eq_some_iff.1 HTX.out).1).trans HTX.out)
                go_big_op
                refine hK _ _ ⟨hCV, fun y => ?_⟩
                clear hK K t0 t1 tF tL
                obtain ⟨V2, hV⟩ : ∃ V', gw V1 y = V' := ⟨_, rfl⟩
                rw [hV]
                replace hCV := DayD.grows _ V2 hCV (by rw [← hV]; exact Grown.gw _ _)
                replace hGV : Grown X V2 := Grown.trans hGV (by rw [← hV]; exact Grown.gw _ _)
                clear hV y V1
                refine WC_all [2] (by kernel_rfl) (by simp) fun i hi => ?_
                rcases List.mem_singleton.1 hi with rfl
                refine WG_op rfl rfl fun K hK => ?_
                obtain ⟨t0, t1, tF, tL⟩ := two_at ((hGV.block _ (Array.getElem?_eq_some_iff.1 HTX.out).1).trans HTX.out)
                go_big_op
                refine hK _ _ ⟨hCV, fun y => ?_⟩
                clear hK K t0 t1 tF tL
                obtain ⟨V3, hV⟩ : ∃ V', gw V2 y = V' := ⟨_, rfl⟩
                rw [hV]
                replace hCV := DayD.grows _ V3 hCV (by rw [← hV]; exact Grown.gw _ _)
                replace hGV : Grown X V3 := Grown.trans hGV (by rw [← hV]; exact Grown.gw _ _)
                clear hV y V2
                refine WC_take (v := ?_) (a' := ?_) 3 DayD.grows rfl (by kernel_rfl) (by kernel_rfl) (by kernel_rfl) hCV ⟨rfl, fun w' hw' => ?_⟩ ?_ 47 rfl (by kernel_rfl) fun y => ?_
                rotate_left 2
                · obtain ⟨h0, h1, h2, h3, h4, h5, g0, g1, g2, g3, g4, g5⟩ := hw'
                  have lq1 : q1 < w'.heap.size := World.block_lt_of_cell? _ _ h0
                  have lq2 : q2 < w'.heap.size := World.block_lt_of_cell? _ _ g0
                  go_big_quiet_op; exact rfl
                · exact rfl
                obtain ⟨V4, hV⟩ : ∃ V', gw V3 y = V' := ⟨_, rfl⟩
                rw [hV]
                replace hCV := DayD.grows _ V4 hCV (by rw [← hV]; exact Grown.gw _ _)
                replace hGV : Grown X V4 := Grown.trans hGV (by rw [← hV]; exact Grown.gw _ _)
                clear hV y V3
                refine WC_take (v := ?_) (a' := ?_) 4 DayD.grows rfl (by kernel_rfl) (by kernel_rfl) (by kernel_rfl) hCV ⟨rfl, fun w' hw' => ?_⟩ ?_ 48 rfl (by kernel_rfl) fun y => ?_
                rotate_left 2
                · obtain ⟨h0, h1, h2, h3, h4, h5, g0, g1, g2, g3, g4, g5⟩ := hw'
                  have lq1 : q1 < w'.heap.size := World.block_lt_of_cell? _ _ h0
                  have lq2 : q2 < w'.heap.size := World.block_lt_of_cell? _ _ g0
                  go_big_quiet_op; exact rfl
                · exact rfl
                obtain ⟨V5, hV⟩ : ∃ V', gw V4 y = V' := ⟨_, rfl⟩
                rw [hV]
                replace hCV := DayD.grows _ V5 hCV (by rw [← hV]; exact Grown.gw _ _)
                replace hGV : Grown X V5 := Grown.trans hGV (by rw [← hV]; exact Grown.gw _ _)
                clear hV y V4
                refine WC_take (v := ?_) (a' := ?_) 5 DayD.grows rfl (by kernel_rfl) (by kernel_rfl) (by kernel_rfl) hCV ⟨rfl, fun w' hw' => ?_⟩ ?_ 49 rfl (by kernel_rfl) fun y => ?_
                rotate_left 2
                · obtain ⟨h0, h1, h2, h3, h4, h5, g0, g1, g2, g3, g4, g5⟩ := hw'
                  have lq1 : q1 < w'.heap.size := World.block_lt_of_cell? _ _ h0
                  have lq2 : q2 < w'.heap.size := World.block_lt_of_cell? _ _ g0
                  go_big_quiet_op; exact rfl
                · exact rfl
                obtain ⟨V6, hV⟩ : ∃ V', gw V5 y = V' := ⟨_, rfl⟩
                rw [hV]
                replace hCV := DayD.grows _ V6 hCV (by rw [← hV]; exact Grown.gw _ _)
                replace hGV : Grown X V6 := Grown.trans hGV (by rw [← hV]; exact Grown.gw _ _)
                clear hV y V5
                refine WC_take (v := ?_) (a' := ?_) 6 DayD.grows rfl (by kernel_rfl) (by kernel_rfl) (by kernel_rfl) hCV ⟨rfl, fun w' hw' => ?_⟩ ?_ 50 rfl (by kernel_rfl) fun y => ?_
                rotate_left 2
                · obtain ⟨h0, h1, h2, h3, h4, h5, g0, g1, g2, g3, g4, g5⟩ := hw'
                  have lq1 : q1 < w'.heap.size := World.block_lt_of_cell? _ _ h0
                  have lq2 : q2 < w'.heap.size := World.block_lt_of_cell? _ _ g0
                  go_big_quiet_op; exact rfl
                · exact rfl
                obtain ⟨V7, hV⟩ : ∃ V', gw V6 y = V' := ⟨_, rfl⟩
                rw [hV]
                replace hCV := DayD.grows _ V7 hCV (by rw [← hV]; exact Grown.gw _ _)
                replace hGV : Grown X V7 := Grown.trans hGV (by rw [← hV]; exact Grown.gw _ _)
                clear hV y V6
                refine WC_take (v := ?_) (a' := ?_) 7 DayD.grows rfl (by kernel_rfl) (by kernel_rfl) (by kernel_rfl) hCV ⟨rfl, fun w' hw' => ?_⟩ ?_ 51 rfl (by kernel_rfl) fun y => ?_
                rotate_left 2
                · obtain ⟨h0, h1, h2, h3, h4, h5, g0, g1, g2, g3, g4, g5⟩ := hw'
                  have lq1 : q1 < w'.heap.size := World.block_lt_of_cell? _ _ h0
                  have lq2 : q2 < w'.heap.size := World.block_lt_of_cell? _ _ g0
                  go_big_quiet_op; apply Exists.intro; refine ⟨fun n => ?_, ?_⟩; (go_at_call 55; with_reducible exact gw_call (H55 _).out); exact rfl
                · exact rfl
                obtain ⟨V8, hV⟩ : ∃ V', gw V7 y = V' := ⟨_, rfl⟩
                rw [hV]
                replace hCV := DayD.grows _ V8 hCV (by rw [← hV]; exact Grown.gw _ _)
                replace hGV : Grown X V8 := Grown.trans hGV (by rw [← hV]; exact Grown.gw _ _)
                clear hV y V7
                refine WC_take (v := ?_) (a' := ?_) 8 DayD.grows rfl (by kernel_rfl) (by kernel_rfl) (by kernel_rfl) hCV ⟨rfl, fun w' hw' => ?_⟩ ?_ 52 rfl (by kernel_rfl) fun y => ?_
                rotate_left 2
                · obtain ⟨h0, h1, h2, h3, h4, h5, g0, g1, g2, g3, g4, g5⟩ := hw'
                  have lq1 : q1 < w'.heap.size := World.block_lt_of_cell? _ _ h0
                  have lq2 : q2 < w'.heap.size := World.block_lt_of_cell? _ _ g0
                  go_big_quiet_op; exact rfl
                · exact rfl
                obtain ⟨V9, hV⟩ : ∃ V', gw V8 y = V' := ⟨_, rfl⟩
                rw [hV]
                replace hCV := DayD.grows _ V9 hCV (by rw [← hV]; exact Grown.gw _ _)
                replace hGV : Grown X V9 := Grown.trans hGV (by rw [← hV]; exact Grown.gw _ _)
                clear hV y V8
                refine WC_take (v := ?_) (a' := ?_) 9 DayD.grows rfl (by kernel_rfl) (by kernel_rfl) (by kernel_rfl) hCV ⟨rfl, fun w' hw' => ?_⟩ ?_ 53 rfl (by kernel_rfl) fun y => ?_
                rotate_left 2
                · obtain ⟨h0, h1, h2, h3, h4, h5, g0, g1, g2, g3, g4, g5⟩ := hw'
                  have lq1 : q1 < w'.heap.size := World.block_lt_of_cell? _ _ h0
                  have lq2 : q2 < w'.heap.size := World.block_lt_of_cell? _ _ g0
                  go_big_quiet_op; exact rfl
                · exact rfl
                obtain ⟨V10, hV⟩ : ∃ V', gw V9 y = V' := ⟨_, rfl⟩
                rw [hV]
                replace hCV := DayD.grows _ V10 hCV (by rw [← hV]; exact Grown.gw _ _)
                replace hGV : Grown X V10 := Grown.trans hGV (by rw [← hV]; exact Grown.gw _ _)
                clear hV y V9
                refine WC_take (v := ?_) (a' := ?_) 10 DayD.grows rfl (by kernel_rfl) (by kernel_rfl) (by kernel_rfl) hCV ⟨rfl, fun w' hw' => ?_⟩ ?_ 54 rfl (by kernel_rfl) fun y => ?_
                rotate_left 2
                · obtain ⟨h0, h1, h2, h3, h4, h5, g0, g1, g2, g3, g4, g5⟩ := hw'
                  have lq1 : q1 < w'.heap.size := World.block_lt_of_cell? _ _ h0
                  have lq2 : q2 < w'.heap.size := World.block_lt_of_cell? _ _ g0
                  go_big_quiet_op; exact rfl
                · exact rfl
                obtain ⟨V11, hV⟩ : ∃ V', gw V10 y = V' := ⟨_, rfl⟩
                rw [hV]
                replace hCV := DayD.grows _ V11 hCV (by rw [← hV]; exact Grown.gw _ _)
                replace hGV : Grown X V11 := Grown.trans hGV (by rw [← hV]; exact Grown.gw _ _)
                clear hV y V10
                refine WC_take (v := ?_) (a' := ?_) 11 DayD.grows rfl (by kernel_rfl) (by kernel_rfl) (by kernel_rfl) hCV ⟨rfl, fun w' hw' => ?_⟩ ?_ 55 rfl (by kernel_rfl) fun y => ?_
                rotate_left 2
                · obtain ⟨h0, h1, h2, h3, h4, h5, g0, g1, g2, g3, g4, g5⟩ := hw'
                  have lq1 : q1 < w'.heap.size := World.block_lt_of_cell? _ _ h0
                  have lq2 : q2 < w'.heap.size := World.block_lt_of_cell? _ _ g0
                  go_big_quiet_op; exact rfl
                · exact rfl
                obtain ⟨V12, hV⟩ : ∃ V', gw V11 y = V' := ⟨_, rfl⟩
                rw [hV]
                replace hCV := DayD.grows _ V12 hCV (by rw [← hV]; exact Grown.gw _ _)
                replace hGV : Grown X V12 := Grown.trans hGV (by rw [← hV]; exact Grown.gw _ _)
                clear hV y V11
                refine WC_take (v := ?_) (a' := ?_) 12 DayD.grows rfl (by kernel_rfl) (by kernel_rfl) (by kernel_rfl) hCV ⟨rfl, fun w' hw' => ?_⟩ ?_ 56 rfl (by kernel_rfl) fun y => ?_
                rotate_left 2
                · obtain ⟨h0, h1, h2, h3, h4, h5, g0, g1, g2, g3, g4, g5⟩ := hw'
                  have lq1 : q1 < w'.heap.size := World.block_lt_of_cell? _ _ h0
                  have lq2 : q2 < w'.heap.size := World.block_lt_of_cell? _ _ g0
                  go_big_quiet_op; apply Exists.intro; refine ⟨fun n => ?_, ?_⟩; (go_at_call 55; with_reducible exact gw_call (H56 _).out); exact rfl
                · exact rfl
                obtain ⟨V13, hV⟩ : ∃ V', gw V12 y = V' := ⟨_, rfl⟩
                rw [hV]
                replace hCV := DayD.grows _ V13 hCV (by rw [← hV]; exact Grown.gw _ _)
                replace hGV : Grown X V13 := Grown.trans hGV (by rw [← hV]; exact Grown.gw _ _)
                clear hV y V12
                refine WC_take (v := ?_) (a' := ?_) 13 DayD.grows rfl (by kernel_rfl) (by kernel_rfl) (by kernel_rfl) hCV ⟨rfl, fun w' hw' => ?_⟩ ?_ 57 rfl (by kernel_rfl) fun y => ?_
                rotate_left 2
                · obtain ⟨h0, h1, h2, h3, h4, h5, g0, g1, g2, g3, g4, g5⟩ := hw'
                  have lq1 : q1 < w'.heap.size := World.block_lt_of_cell? _ _ h0
                  have lq2 : q2 < w'.heap.size := World.block_lt_of_cell? _ _ g0
                  go_big_quiet_op; exact rfl
                · exact rfl
                obtain ⟨V14, hV⟩ : ∃ V', gw V13 y = V' := ⟨_, rfl⟩
                rw [hV]
                replace hCV := DayD.grows _ V14 hCV (by rw [← hV]; exact Grown.gw _ _)
                replace hGV : Grown X V14 := Grown.trans hGV (by rw [← hV]; exact Grown.gw _ _)
                clear hV y V13
                refine WC_take (v := ?_) (a' := ?_) 14 DayD.grows rfl (by kernel_rfl) (by kernel_rfl) (by kernel_rfl) hCV ⟨rfl, fun w' hw' => ?_⟩ ?_ 58 rfl (by kernel_rfl) fun y => ?_
                rotate_left 2
                · obtain ⟨h0, h1, h2, h3, h4, h5, g0, g1, g2, g3, g4, g5⟩ := hw'
                  have lq1 : q1 < w'.heap.size := World.block_lt_of_cell? _ _ h0
                  have lq2 : q2 < w'.heap.size := World.block_lt_of_cell? _ _ g0
                  go_big_quiet_op; exact rfl
                · exact rfl
                obtain ⟨V15, hV⟩ : ∃ V', gw V14 y = V' := ⟨_, rfl⟩
                rw [hV]
                replace hCV := DayD.grows _ V15 hCV (by rw [← hV]; exact Grown.gw _ _)
                replace hGV : Grown X V15 := Grown.trans hGV (by rw [← hV]; exact Grown.gw _ _)
                clear hV y V14
                refine WC_take (v := ?_) (a' := ?_) 15 DayD.grows rfl (by kernel_rfl) (by kernel_rfl) (by kernel_rfl) hCV ⟨rfl, fun w' hw' => ?_⟩ ?_ 59 rfl (by kernel_rfl) fun y => ?_
                rotate_left 2
                · obtain ⟨h0, h1, h2, h3, h4, h5, g0, g1, g2, g3, g4, g5⟩ := hw'
                  have lq1 : q1 < w'.heap.size := World.block_lt_of_cell? _ _ h0
                  have lq2 : q2 < w'.heap.size := World.block_lt_of_cell? _ _ g0
                  go_big_quiet_op; exact rfl
                · exact rfl
                obtain ⟨V16, hV⟩ : ∃ V', gw V15 y = V' := ⟨_, rfl⟩
                rw [hV]
                replace hCV := DayD.grows _ V16 hCV (by rw [← hV]; exact Grown.gw _ _)
                replace hGV : Grown X V16 := Grown.trans hGV (by rw [← hV]; exact Grown.gw _ _)
                clear hV y V15
                refine WC_all [16] (by kernel_rfl) (by simp) fun i hi => ?_
                rcases List.mem_singleton.1 hi with rfl
                refine WG_op rfl rfl fun K hK => ?_
                have hTV := (hGV.block _ (Array.getElem?_eq_some_iff.1 HTX.out).1).trans HTX.out
                obtain ⟨t0, t1, tF, tL⟩ := two_at hTV
                go_big_op
                refine hK _ _ ⟨hCV.put hq1 hq2, fun y => ?_⟩
                have hTV' := two_set0 hTV false
                obtain ⟨Z, hZ⟩ : ∃ Z, gw (V16.setCell ⟨T, 0, none⟩ (.bool false)) y = Z := ⟨_, rfl⟩
                have hTZ := Lib.hid (((show Grown _ Z by rw [← hZ]; exact Grown.gw _ _).block _ (Array.getElem?_eq_some_iff.1 hTV').1).trans hTV')
                have hbZ : Hid (Below w2.heap.size w2 Z) := Lib.hid (by
                  rw [← hZ]
                  exact below_trans (xs (below_trans (hX ▸ HBq.out) hGV) (by show w2.heap.size ≤ T; rw [HTT.out]; exact Nat.le_refl _) _) (gw_below _ _))
                rw [hZ]
                clear hZ y hTV' hTV t0 t1 tF tL hCV hGV HTX hK K V16
                refine WC_done (by kernel_rfl) (NoPanic.normal ?_) _
                go_wp2_with fail
                go_roundw
                case rel => exact ⟨k + 1, false, by omega, by go_num, Lib.hid (by rw [hstep.out, ← Bool.and_assoc, ← hs'.out, HSE.out]; simp [*]), hTZ, hbZ⟩
                case measure => simp [intOf]; omega
          · obtain rfl : k = ny := by omega
            have hs2 : Hid (s' = (G && (ux.take (i + 1)).all fun x => uy.all fun y => sayEq x y)) := Lib.hid (by rw [hs'.out, hall.out, hs.out, List.take_of_length_le (l := uy) (by rw [HNY.out]; exact Nat.le_refl _), Bool.and_assoc])
            have hca : CardsAt wr q1 o1 ux := by
              obtain ⟨q, o', e, h⟩ := cards_get (HC1.out.below HBq.out) HCC.out
              injection e with e; injection e with e1 e2; subst e1; subst e2; exact h
            obtain ⟨h0, h1, h2, h3, h4, h5⟩ := hca i _ HCC.out
            obtain ⟨t0, t1, tF, tL⟩ := two_at HTq.out
            simp only at h0 h1 h2 h3 h4 h5
            clear hca H55 HSX hall hs hs' HCC hlk hk
            cases o with
            | true =>
              go_wp2_with fail
              go_roundw
              case rel => exact ⟨i + 1, s', true, by omega, by go_num, hs2, Lib.hid (by rw [hany.out, ← ho.out]; simp [someB, *]), Lib.hid (two_set1 HTq.out true), Lib.hid (xs HBq.out (by show w2.heap.size ≤ T; rw [HTT.out]; exact Nat.le_refl _) _)⟩
              case measure => simp [intOf]; omega
            | false =>
              by_cases z1 : a4 = 1
              · subst z1
                go_wp2_with fail
                go_roundw
                case rel => exact ⟨i + 1, s', true, by omega, by go_num, hs2, Lib.hid (by rw [hany.out, ← ho.out]; simp [someB, *]), Lib.hid (two_set1 HTq.out true), Lib.hid (xs HBq.out (by show w2.heap.size ≤ T; rw [HTT.out]; exact Nat.le_refl _) _)⟩
                case measure => simp [intOf]; omega
              · by_cases z2 : a4 = 2
                · subst z2
                  go_wp2_with fail
                  go_roundw
                  case rel => exact ⟨i + 1, s', true, by omega, by go_num, hs2, Lib.hid (by rw [hany.out, ← ho.out]; simp [someB, *]), Lib.hid (two_set1 HTq.out true), Lib.hid (xs HBq.out (by show w2.heap.size ≤ T; rw [HTT.out]; exact Nat.le_refl _) _)⟩
                  case measure => simp [intOf]; omega
                · have z1' : (a4 == 1) = false := by simpa using z1
                  have z2' : (a4 == 2) = false := by simpa using z2
                  go_wp2_with fail
                  go_roundw
                  case rel => exact ⟨i + 1, s', false, by omega, by go_num, hs2, Lib.hid (by rw [hany.out, ← ho.out]; simp [someB, *]), Lib.hid (two_set1 HTq.out false), Lib.hid (xs HBq.out (by show w2.heap.size ≤ T; rw [HTT.out]; exact Nat.le_refl _) _)⟩
                  case measure => simp [intOf]; omega
      · obtain rfl : i = nx := by omega
        have hs2 : Hid (s = (dayR l a b d).1) := Lib.hid (by rw [HD.out, hs.out, List.take_of_length_le (by rw [HNX.out]; exact Nat.le_refl _)])
        have ho2 : Hid (o = ux.any someB) := Lib.hid (by rw [ho.out, List.take_of_length_le (by rw [HNX.out]; exact Nat.le_refl _)])
        clear hs ho
        go_wp2_with fail
        go_loopw [14] (fun k wr => ∃ (k' : Nat) (o' : Bool), k' ≤ ny ∧ k = .int .i64 k' ∧ Hid (o' = (o || (uy.take k').any someB)) ∧ Hid (wr.heap[T]? = some (.cells #[.bool s, .bool o'] 139 (0, 0))) ∧ Hid (Below w2.heap.size w2 wr)) (fun k _ => ny - (intOf k).toNat)
        case atStart => exact ⟨0, o, by omega, rfl, Lib.hid (by simp), HT, HB⟩
        case round =>
          obtain ⟨k, o', hk, rfl, ho', HTq, HBq⟩ := hrel
          by_cases hlk : k < ny
          · obtain ⟨y, hy⟩ := dl HNY.out hlk
            obtain ⟨q2, o2, rfl, hcb⟩ := cards_get (HC2.out.below HBq.out) hy
            have hstep := Lib.hid (any_step (p := someB) hy)
            obtain ⟨g0, g1, g2, g3, g4, g5⟩ := hcb k _ hy
            obtain ⟨t0, t1, tF, tL⟩ := two_at HTq.out
            obtain ⟨e1, e2, e3, e4, e5, e6⟩ := y
            simp only at g0 g1 g2 g3 g4 g5
            clear hy hcb
            cases o' with
            | true =>
              go_wp2_with fail
              go_roundw
              case rel => exact ⟨k + 1, true, by omega, by go_num, Lib.hid (by rw [hstep.out, ← Bool.or_assoc, ← ho'.out]; simp [someB, *]), Lib.hid (two_set1 HTq.out true), Lib.hid (xs HBq.out (by show w2.heap.size ≤ T; rw [HTT.out]; exact Nat.le_refl _) _)⟩
              case measure => simp [intOf]; omega
            | false =>
              by_cases z1 : e4 = 1
              · subst z1
                go_wp2_with fail
                go_roundw
                case rel => exact ⟨k + 1, true, by omega, by go_num, Lib.hid (by rw [hstep.out, ← Bool.or_assoc, ← ho'.out]; simp [someB, *]), Lib.hid (two_set1 HTq.out true), Lib.hid (xs HBq.out (by show w2.heap.size ≤ T; rw [HTT.out]; exact Nat.le_refl _) _)⟩
                case measure => simp [intOf]; omega
              · by_cases z2 : e4 = 2
                · subst z2
                  go_wp2_with fail
                  go_roundw
                  case rel => exact ⟨k + 1, true, by omega, by go_num, Lib.hid (by rw [hstep.out, ← Bool.or_assoc, ← ho'.out]; simp [someB, *]), Lib.hid (two_set1 HTq.out true), Lib.hid (xs HBq.out (by show w2.heap.size ≤ T; rw [HTT.out]; exact Nat.le_refl _) _)⟩
                  case measure => simp [intOf]; omega
                · have z1' : (e4 == 1) = false := by simpa using z1
                  have z2' : (e4 == 2) = false := by simpa using z2
                  go_wp2_with fail
                  go_roundw
                  case rel => exact ⟨k + 1, false, by omega, by go_num, Lib.hid (by rw [hstep.out, ← Bool.or_assoc, ← ho'.out]; simp [someB, *]), Lib.hid (two_set1 HTq.out false), Lib.hid (xs HBq.out (by show w2.heap.size ≤ T; rw [HTT.out]; exact Nat.le_refl _) _)⟩
                  case measure => simp [intOf]; omega
          · obtain rfl : k = ny := by omega
            have ho3 : Hid (o' = (dayR l a b d).2) := Lib.hid (by rw [HD.out, ho'.out, ho2.out, List.take_of_length_le (by rw [HNY.out]; exact Nat.le_refl _)])
            obtain ⟨t0, t1, tF, tL⟩ := two_at HTq.out
            have hb2 := HBq.out
            have r0 := HR0.out.1
            have r1 := HR0.out.2.1
            have hr0 : wr.cell? ⟨w.heap.size, 0, none⟩ = some (.bool false) := (hb2.cell (p := ⟨w.heap.size, 0, none⟩) (by rw [HTT.out]; exact lw2)).trans r0
            have hr1 : wr.cell? ⟨w.heap.size, 1, none⟩ = some (.bool false) := (hb2.cell (p := ⟨w.heap.size, 1, none⟩) (by rw [HTT.out]; exact lw2)).trans r1
            have hrF : ∀ i, wr.frozen? ⟨w.heap.size, i, none⟩ = false := fun i => (hb2.frozen (p := ⟨w.heap.size, i, none⟩) (by rw [HTT.out]; exact lw2)).trans (HR0.out.2.2 i)
            have hbw : Hid (Below w.heap.size w wr) := Lib.hid (below_trans HB2.out hb2)
            clear hb2 r0 r1
            go_wp2_with fail
            exact bodyPost_ret (v := .agg #[.bool s, .bool o']) (by simp [results, Tryz.results114, go_sem, t0, t1, hr0, hr1, hrF]) rfl ⟨by rw [hs2.out, ho3.out], xs (xs hbw.out (by simp) _) (by simp) _⟩
  · go_wp2_with fail
    obtain ⟨T, hT⟩ : ∃ T, w2.heap.size = T := ⟨_, rfl⟩
    have HTT := Lib.hid hT
    rw [hT] at lw2 ⊢
    clear hT
    go_loopw [12] (fun k wr => ∃ (i : Nat) (s o : Bool), i ≤ nx ∧ k = .int .i64 i ∧ Hid (s = (G && (ux.take i).all fun x => uy.all fun y => sayEq x y)) ∧ Hid (o = (ux.take i).any someB) ∧ Hid (wr.heap[T]? = some (.cells #[.bool s, .bool o] 139 (0, 0))) ∧ Hid (Below w2.heap.size w2 wr)) (fun k _ => nx - (intOf k).toNat)
    case atStart => exact ⟨0, false, false, by omega, rfl, Lib.hid (by rw [HGN.out]; simp [hx0]), Lib.hid rfl, Lib.hid (by rw [← HTT.out]; exact World.alloc_heap_new w2 _), Lib.hid (xa (xr _) _)⟩
    case round =>
      obtain ⟨i, s, o, hi, rfl, hs, ho, HT, HB⟩ := hrel
      by_cases hlt : i < nx
      · exfalso; omega
      · obtain rfl : i = nx := by omega
        have hs2 : Hid (s = (dayR l a b d).1) := Lib.hid (by rw [HD.out, hs.out, List.take_of_length_le (by rw [HNX.out]; exact Nat.le_refl _)])
        have ho2 : Hid (o = ux.any someB) := Lib.hid (by rw [ho.out, List.take_of_length_le (by rw [HNX.out]; exact Nat.le_refl _)])
        clear hs ho
        go_wp2_with fail
        go_loopw [14] (fun k wr => ∃ (k' : Nat) (o' : Bool), k' ≤ ny ∧ k = .int .i64 k' ∧ Hid (o' = (o || (uy.take k').any someB)) ∧ Hid (wr.heap[T]? = some (.cells #[.bool s, .bool o'] 139 (0, 0))) ∧ Hid (Below w2.heap.size w2 wr)) (fun k _ => ny - (intOf k).toNat)
        case atStart => exact ⟨0, o, by omega, rfl, Lib.hid (by simp), HT, HB⟩
        case round =>
          obtain ⟨k, o', hk, rfl, ho', HTq, HBq⟩ := hrel
          by_cases hlk : k < ny
          · obtain ⟨y, hy⟩ := dl HNY.out hlk
            obtain ⟨q2, o2, rfl, hcb⟩ := cards_get (HC2.out.below HBq.out) hy
            have hstep := Lib.hid (any_step (p := someB) hy)
            obtain ⟨g0, g1, g2, g3, g4, g5⟩ := hcb k _ hy
            obtain ⟨t0, t1, tF, tL⟩ := two_at HTq.out
            obtain ⟨e1, e2, e3, e4, e5, e6⟩ := y
            simp only at g0 g1 g2 g3 g4 g5
            clear hy hcb
            cases o' with
            | true =>
              go_wp2_with fail
              go_roundw
              case rel => exact ⟨k + 1, true, by omega, by go_num, Lib.hid (by rw [hstep.out, ← Bool.or_assoc, ← ho'.out]; simp [someB, *]), Lib.hid (two_set1 HTq.out true), Lib.hid (xs HBq.out (by show w2.heap.size ≤ T; rw [HTT.out]; exact Nat.le_refl _) _)⟩
              case measure => simp [intOf]; omega
            | false =>
              by_cases z1 : e4 = 1
              · subst z1
                go_wp2_with fail
                go_roundw
                case rel => exact ⟨k + 1, true, by omega, by go_num, Lib.hid (by rw [hstep.out, ← Bool.or_assoc, ← ho'.out]; simp [someB, *]), Lib.hid (two_set1 HTq.out true), Lib.hid (xs HBq.out (by show w2.heap.size ≤ T; rw [HTT.out]; exact Nat.le_refl _) _)⟩
                case measure => simp [intOf]; omega
              · by_cases z2 : e4 = 2
                · subst z2
                  go_wp2_with fail
                  go_roundw
                  case rel => exact ⟨k + 1, true, by omega, by go_num, Lib.hid (by rw [hstep.out, ← Bool.or_assoc, ← ho'.out]; simp [someB, *]), Lib.hid (two_set1 HTq.out true), Lib.hid (xs HBq.out (by show w2.heap.size ≤ T; rw [HTT.out]; exact Nat.le_refl _) _)⟩
                  case measure => simp [intOf]; omega
                · have z1' : (e4 == 1) = false := by simpa using z1
                  have z2' : (e4 == 2) = false := by simpa using z2
                  go_wp2_with fail
                  go_roundw
                  case rel => exact ⟨k + 1, false, by omega, by go_num, Lib.hid (by rw [hstep.out, ← Bool.or_assoc, ← ho'.out]; simp [someB, *]), Lib.hid (two_set1 HTq.out false), Lib.hid (xs HBq.out (by show w2.heap.size ≤ T; rw [HTT.out]; exact Nat.le_refl _) _)⟩
                  case measure => simp [intOf]; omega
          · obtain rfl : k = ny := by omega
            have ho3 : Hid (o' = (dayR l a b d).2) := Lib.hid (by rw [HD.out, ho'.out, ho2.out, List.take_of_length_le (by rw [HNY.out]; exact Nat.le_refl _)])
            obtain ⟨t0, t1, tF, tL⟩ := two_at HTq.out
            have hb2 := HBq.out
            have r0 := HR0.out.1
            have r1 := HR0.out.2.1
            have hr0 : wr.cell? ⟨w.heap.size, 0, none⟩ = some (.bool false) := (hb2.cell (p := ⟨w.heap.size, 0, none⟩) (by rw [HTT.out]; exact lw2)).trans r0
            have hr1 : wr.cell? ⟨w.heap.size, 1, none⟩ = some (.bool false) := (hb2.cell (p := ⟨w.heap.size, 1, none⟩) (by rw [HTT.out]; exact lw2)).trans r1
            have hrF : ∀ i, wr.frozen? ⟨w.heap.size, i, none⟩ = false := fun i => (hb2.frozen (p := ⟨w.heap.size, i, none⟩) (by rw [HTT.out]; exact lw2)).trans (HR0.out.2.2 i)
            have hbw : Hid (Below w.heap.size w wr) := Lib.hid (below_trans HB2.out hb2)
            clear hb2 r0 r1
            go_wp2_with fail
            exact bodyPost_ret (v := .agg #[.bool s, .bool o']) (by simp [results, Tryz.results114, go_sem, t0, t1, hr0, hr1, hrF]) rfl ⟨by rw [hs2.out, ho3.out], xs (xs hbw.out (by simp) _) (by simp) _⟩
end Go.Proofs.YthifeoebefbalaaGreatDoor
