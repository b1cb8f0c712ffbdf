/- Parts: U2, O1, U3, R11, W7, W9, U4, U5, U6, O2, U7. -/
import Derived.Test.YthifeoebefbalaaGreatDoorCR12
import Derived.Shelf.Sort.Plain
import Derived.Shelf.Slices.In.SortNone
import Derived.Test.YthifeoebefbalaaGreatDoorProg
import Derived.Sort.OwnSortedInts
import Derived.Test.YthifeoebefbalaaGreatDoorCR3
import Derived.Test.YthifeoebefbalaaGreatDoorCR8
import Derived.Sort.Statements
import Derived.Shelf.Spec.SlicesGrow
import Derived.Test.YthifeoebefbalaaGreatDoorCR2
import Derived.Test.YthifeoebefbalaaGreatDoorCR4
import Derived.Test.YthifeoebefbalaaGreatDoorCR5
import Derived.Test.YthifeoebefbalaaGreatDoorCR6
import Derived.Test.YthifeoebefbalaaGreatDoorCR10
import Derived.Test.YthifeoebefbalaaGreatDoorCR11
set_option linter.unusedVariables false
set_option linter.unusedSimpArgs false
set_option linter.unnecessarySimpa false
namespace Go.Proofs.YthifeoebefbalaaGreatDoor
open Go.RowKit Go.Maps

/-- Append onto a row of the call's own, as one operation; where the new row lies. -/
theorem wp_append_at {P : Program} {o : Oper} {a : Act} {w : World} {K : Act → World → Prop} {Q' : Exit → Act → World → Prop} (s x : Operand) (t : TypeId)
    (hop : o.op = Op.call { callee := Callee.builtin Builtin.append, args := #[s, x], argTypes := #[t, t] })
    (base : Nat) (e : TypeId) (i : TypeInfo) (z : Value) (size bytes : Nat) (ht : P.underlying t = some (.slice e)) (hi : P.info? e = some i) (hz : i.zero = some z)
    (hsize : i.size = size) (hby : i.bytes = bytes) (hzs : z.cells.size = size) (hsz : 0 < size)
    (v : Value) (hv : a.eval s = v) (n : Nat) (xs : List Value) (hown : w.ownsRow base e size v n xs)
    (ad : Addr) (m c : Nat) (hx : a.eval x = .slice (some ad) m c) (news : List Value) (hl : news.length = m * size) (hnews : ∀ j u, news[j]? = some u → w.cell? (ad.add j) = some u) (h1 : ∀ u ∈ news, u.oneCell' = true)
    (h63 : n + m ≤ maxLen) (hbytes : (n + m) * bytes ≤ 140737488355328) (hbase : base ≤ w.heap.size)
    (hK : ∀ v' w', w'.ownsRow base e size v' (n + m) (xs ++ news) → w.grownBy w' v.ownBlock → (v'.ownBlock = v.ownBlock ∨ v'.ownBlock = some w.heap.size) → K (a.put o.dst v') w') : Oper.wp P o a w K Q' := by
  obtain ⟨v', w', hrun, hown', hg, -, h5⟩ := run_append_own_at (P := P) w base t o.type e i z size bytes ht hi hz hsize hby hzs hsz v n xs hown ad m c news hl hnews h1 h63 hbytes hbase
  unfold Oper.wp
  simp [execOp, hop, resolve, invoke, builtin, hv, hx, hrun, Result.andThen]
  exact hK v' w' hown' hg h5
/-- Block b is a map of at most n entries whose element at d owns the cards G d; no two in one row. -/
def GMap (w : World) (b n : Nat) (G : Int → List Card) (V : Int → Value) : Prop := CMap w b n V (fun d => !(G d).isEmpty) ∧ (∀ d, w.ownsRow (b + 1) 24 6 (V d) (G d).length (flatC (G d))) ∧ ∀ d e, d ≠ e → (V d).ownBlock = none ∨ (V d).ownBlock ≠ (V e).ownBlock
theorem GMap.grown {w w' : World} {b n : Nat} {G : Int → List Card} {V : Int → Value} (h : GMap w b n G V) (hg : Grown w w') : GMap w' b n G V := ⟨h.1.below hg h.1.lt, fun d => own_keepN (h.2.1 d) hg, h.2.2⟩
theorem GMap.mono {w : World} {b n n' : Nat} {G : Int → List Card} {V : Int → Value} (h : GMap w b n G V) (hn : n ≤ n') : GMap w b n' G V := ⟨h.1.mono hn, h.2⟩
theorem GMap.made (w : World) : GMap (w.alloc (.map #[] 0)) w.heap.size 0 (fun _ => []) (fun _ => nilS) := ⟨CMap.made w, fun d => World.ownsRow_nil _ _ _ _, fun d e _ => .inl rfl⟩
/-- The map behind the append, ahead of the store. -/
theorem gstep1 {w W1 W2 W3 : World} {b n : Nat} {G : Int → List Card} {V : Int → Value} {d : Int} (h : GMap w b n G V) (h1 : Grown w W1) (hg : W1.grownBy W2 (V d).ownBlock) (h3 : Grown W2 W3) : CMap W3 b n V (fun d => !(G d).isEmpty) :=
  ((h.grown h1).1.kept hg (fun e => by have := ((h.2.1 d).lt b e.symm).1; omega)).below h3 (Nat.lt_of_lt_of_le (Nat.lt_of_lt_of_le h.1.lt h1.size) hg.size)
/-- The map behind the store. -/
theorem gstep2 {w W1 W2 W3 W4 : World} {b n : Nat} {G : Int → List Card} {V : Int → Value} {d : Int} {c : Card} {v : Value} (h : GMap w b n G V) (h1 : Grown w W1) (hg : W1.grownBy W2 (V d).ownBlock) (h3 : Grown W2 W3)
    (ho : W2.ownsRow (b + 1) 24 6 v ((G d).length + 1) (flatC (G d) ++ cardCells c)) (hat : v.ownBlock = (V d).ownBlock ∨ v.ownBlock = some W1.heap.size)
    (h4 : CMap W4 b (n + 1) (fun z => if z = d then v else V z) (fun z => z == d || !(G z).isEmpty)) (hg4 : W3.grownBy W4 (some b)) : GMap W4 b (n + 1) (fun z => if z = d then G d ++ [c] else G z) (fun z => if z = d then v else V z) := by
  have hnb : ∀ {w : World} {m : Nat} {v : Value} {xs : List Value}, w.ownsRow (b + 1) 24 6 v m xs → v.ownBlock = none ∨ v.ownBlock ≠ some b := fun h => .inr fun e => by have := (h.lt b e).1; omega
  have old : ∀ z, z ≠ d → (V z).ownBlock = none ∨ (V z).ownBlock ≠ v.ownBlock := fun z hz => by
    rcases hat with e | e
    · rw [e]; exact h.2.2 z d hz
    · rw [e]
      cases hv : (V z).ownBlock with
      | none => exact .inl rfl
      | some k =>
        have := ((h.2.1 z).lt k hv).2
        have := h1.size
        exact .inr fun e => by injection e with e; omega
  refine ⟨?_, fun z => ?_, fun z y hzy => ?_⟩
  · have : (fun z => !(if z = d then G d ++ [c] else G z).isEmpty) = fun z => z == d || !(G z).isEmpty := funext fun z => by
      by_cases hz : z = d
      · subst hz; simp
      · simp [hz]
    rw [this]; exact h4
  · by_cases hz : z = d
    · subst hz
      simp only [if_true]
      have := (own_keepN ho h3).kept hg4 (hnb (own_keepN ho h3))
      rw [flatC_snoc]
      simpa using this
    · simp only [if_neg hz]
      have r1 := (own_keepN (h.2.1 z) h1).kept hg (h.2.2 z d hz)
      exact (own_keepN r1 h3).kept hg4 (hnb (own_keepN r1 h3))
  · by_cases hz : z = d
    · subst hz
      simp only [if_true, if_neg (Ne.symm hzy)]
      rcases old y (Ne.symm hzy) with e | e
      · cases hv : v.ownBlock with
        | none => exact .inl rfl
        | some k => exact .inr (by rw [e]; simp)
      · exact .inr (Ne.symm e)
    · simp only [if_neg hz]
      by_cases hy : y = d
      · subst hy
        simp only [if_true]
        exact old z hz
      · simp only [if_neg hy]
        exact h.2.2 z y hzy
theorem gbelow {w a W1 W2 W3 W4 : World} {b n : Nat} {G : Int → List Card} {V : Int → Value} {d : Int} (hb : Below w.heap.size w a) (hwb : w.heap.size ≤ b) (h : GMap a b n G V) (h1 : Grown a W1) (hg : W1.grownBy W2 (V d).ownBlock) (h3 : Grown W2 W3) (hg4 : W3.grownBy W4 (some b)) : Below w.heap.size w W4 := by
  have b1 := below_trans hb h1
  have b2 : Below w.heap.size w W2 := b1.grown hg b1.size (fun k hk => by have := ((h.2.1 d).lt k hk).1; omega)
  have b3 := below_trans b2 h3
  exact b3.grown hg4 b3.size (fun k hk => by injection hk with hk; omega)
theorem dailies_miss {l : List Card} {st : Int} {i : Nat} {c : Card} (h : l[i]? = some c) (hm : c.st ≠ st ∨ c.dy ≠ 1) (d : Int) : dailiesR (l.take (i + 1)) st d = dailiesR (l.take i) st d := by
  rw [dailies_step h, if_neg, List.append_nil]
  simp only [dailyB, Bool.and_eq_true, beq_iff_eq]
  rintro ⟨h1, h2, h3⟩
  rcases hm with hm | hm
  · exact hm h1
  · exact hm h3
theorem dailies_hit {l : List Card} {st : Int} {i : Nat} {c : Card} (h : l[i]? = some c) (h1 : c.st = st) (h2 : c.dy = 1) (d : Int) : dailiesR (l.take (i + 1)) st d = if d = c.da then dailiesR (l.take i) st c.da ++ [c] else dailiesR (l.take i) st d := by
  rw [dailies_step h]
  by_cases hd : d = c.da
  · subst hd
    rw [if_pos (by simp [dailyB, h1, h2]), if_pos rfl]
  · rw [if_neg (by simp [dailyB, h1, h2]; exact fun e => hd e.symm), if_neg hd, List.append_nil]
set_option maxRecDepth 100000 in
set_option maxHeartbeats 16000000 in
theorem c106 (l : List Card) (v : Value) (st : Int) (w : World) (hcv : CardsV w v l) (hn : l.length ≤ 200) (hda : ∀ c ∈ l, 0 ≤ c.da ∧ c.da ≤ 60000) : Calls Tryz.prog 106 #[v, .int .i64 st] w fun e w' => ∃ b V, e = .returned (.map (some b)) ∧ GMap w' b l.length (dailiesR l st) V ∧ w.heap.size ≤ b ∧ Below w.heap.size w w' := by
  have hmm := @run_makeMap Tryz.prog
  obtain ⟨inf, i1, i2, i3, i4⟩ := info24
  obtain ⟨a, cap, rfl, kk⟩ := hcv
  have KK := Lib.hid kk
  clear kk
  obtain ⟨n, hnl⟩ : ∃ n, l.length = n := ⟨_, rfl⟩
  rw [hnl] at hn ⊢
  have HN := Lib.hid hnl
  have HDA := Lib.hid hda
  clear hnl hda
  obtain ⟨b, hwb'⟩ : ∃ b, w.heap.size = b := ⟨_, rfl⟩
  have hwb : w.heap.size ≤ b := by omega
  have HM := Lib.hid (GMap.made w)
  rw [hwb'] at HM
  have HB0 := Lib.hid (below_alloc w (.map #[] 0))
  go_enter Tryz.func106, Tryz.ntmps106
  go_wp2_with fail
  go_loopw [11] (fun i wr => ∃ k : Nat, k ≤ n ∧ i = .int .i64 k ∧ (∃ V, Hid (GMap wr b k (dailiesR (l.take k) st) V)) ∧ Hid (Below w.heap.size w wr)) (fun i _ => n - (intOf i).toNat)
  case atStart => exact ⟨0, by omega, rfl, ⟨_, HM⟩, HB0⟩
  case round =>
    obtain ⟨k, hk, rfl, ⟨V, HG⟩, HB⟩ := hrel
    by_cases hlt : k < n
    · obtain ⟨c, hc⟩ : ∃ c, l[k]? = some c := by
        have := HN.out
        exact ⟨l[k]'(by omega), by simp⟩
      obtain ⟨q, o, rfl, hca⟩ := KK.out (fun e => by rw [e] at hc; cases hc)
      have hcs := (hca.below HB.out) k c hc
      have hdd := HDA.out c (List.mem_of_getElem? hc)
      have HLN : Hid ((dailiesR (l.take k) st c.da).length ≤ 200) := Lib.hid (by
        have h1 := dailies_len (l.take k) st c.da
        have h2 : (l.take k).length ≤ k := by simp; omega
        omega)
      have hmiss := @dailies_miss l st k c hc
      have hhit := @dailies_hit l st k c hc
      have Hm := Lib.hid hmiss
      have Hh := Lib.hid hhit
      obtain ⟨c1, c2, c3, c4, c5, c6⟩ := c
      obtain ⟨h0, h1, h2, h3, h4, h5⟩ := hcs
      simp only at h0 h1 h2 h3 h4 h5 hdd HLN
      have hd1 : -9223372036854775808 ≤ c2 := by omega
      have hd2 : c2 ≤ 9223372036854775807 := by omega
      clear hca hc KK hmiss hhit
      by_cases x1 : c1 = st
      · subst x1
        by_cases x3 : c3 = 1
        · subst x3
          have hG' : dailiesR (l.take (k + 1)) c1 = fun z => if z = c2 then dailiesR (l.take k) c1 c2 ++ [⟨c1, c2, 1, c4, c5, c6⟩] else dailiesR (l.take k) c1 z := funext fun z => Hh.out rfl rfl z
          have HG'' := Lib.hid hG'
          clear hG' Hm Hh
          have hG' := HG''
          clear HG''
          go_wp2_with fail
          obtain ⟨X0, hX0⟩ : ∃ X0, wr.alloc (.cells #[Value.int .i64 c1, .int .i64 c2, .int .i64 1, .int .i64 c4, .int .i64 c5, .int .i64 c6] 24) = X0 := ⟨_, rfl⟩
          have hB0 : X0.heap[wr.heap.size]? = some (.cells #[Value.int .i64 c1, .int .i64 c2, .int .i64 1, .int .i64 c4, .int .i64 c5, .int .i64 c6] 24 (0, 0)) := by rw [← hX0]; exact heap_alloc_new _ _
          have hGX : Grown wr X0 := by rw [← hX0]; exact below_alloc _ _
          rw [hX0]
          clear hX0
          have hC : ∀ w w' : World, (fun X => X.heap[wr.heap.size]? = some (.cells #[Value.int .i64 c1, .int .i64 c2, .int .i64 1, .int .i64 c4, .int .i64 c5, .int .i64 c6] 24 (0, 0))) w → Grown w w' → (fun X => X.heap[wr.heap.size]? = some (.cells #[Value.int .i64 c1, .int .i64 c2, .int .i64 1, .int .i64 c4, .int .i64 c5, .int .i64 c6] 24 (0, 0))) w' := fun w w' h hg => (hg.block _ (Array.getElem?_eq_some_iff.1 h).1).trans h
          have facts : ∀ w' : World, (fun X => X.heap[wr.heap.size]? = some (.cells #[Value.int .i64 c1, .int .i64 c2, .int .i64 1, .int .i64 c4, .int .i64 c5, .int .i64 c6] 24 (0, 0))) w' → w'.cell? ⟨wr.heap.size, 0, none⟩ = some (.int .i64 c1) ∧ w'.cell? ⟨wr.heap.size, 1, none⟩ = some (.int .i64 c2) ∧ w'.cell? ⟨wr.heap.size, 2, none⟩ = some (.int .i64 1) ∧ w'.cell? ⟨wr.heap.size, 3, none⟩ = some (.int .i64 c4) ∧ w'.cell? ⟨wr.heap.size, 4, none⟩ = some (.int .i64 c5) ∧ w'.cell? ⟨wr.heap.size, 5, none⟩ = some (.int .i64 c6) ∧ wr.heap.size < w'.heap.size := fun w' hw' => by
            have hw'' : w'.heap[wr.heap.size]? = some (.cells #[Value.int .i64 c1, .int .i64 c2, .int .i64 1, .int .i64 c4, .int .i64 c5, .int .i64 c6] 24 (0, 0)) := hw'
            exact ⟨by simp [World.cell?, hw''], by simp [World.cell?, hw''], by simp [World.cell?, hw''], by simp [World.cell?, hw''], by simp [World.cell?, hw''], by simp [World.cell?, hw''], (Array.getElem?_eq_some_iff.1 hw'').1⟩
          refine wp_region_class (fun X => X.heap[wr.heap.size]? = some (.cells #[Value.int .i64 c1, .int .i64 c2, .int .i64 1, .int .i64 c4, .int .i64 c5, .int .i64 c6] 24 (0, 0))) (by kernel_rfl) fun x1 => ?_
          obtain ⟨V0, hV⟩ : ∃ V0, gw X0 x1 = V0 := ⟨_, rfl⟩
          have hCV := hC _ _ hB0 (show Grown X0 V0 by rw [← hV]; exact Grown.gw _ _)
          have hGV : Grown X0 V0 := by rw [← hV]; exact Grown.gw _ _
          rw [hV]
          clear hV x1
          refine WC_take (v := ?_) (a' := ?_) 0 hC rfl (by kernel_rfl) (by kernel_rfl) (by kernel_rfl) hCV ⟨rfl, fun w' hw' => ?_⟩ ?_ 24 rfl (by kernel_rfl) fun y => ?_
          rotate_left 2
          · obtain ⟨f0, f1, f2, f3, f4, f5, fl⟩ := facts w' hw'
            go_big_quiet_op; exact rfl
          · exact rfl
          obtain ⟨V1, hV⟩ : ∃ V', gw V0 y = V' := ⟨_, rfl⟩
          rw [hV]
          replace hCV := hC _ V1 hCV (by rw [← hV]; exact Grown.gw _ _)
          replace hGV : Grown X0 V1 := Grown.trans hGV (by rw [← hV]; exact Grown.gw _ _)
          clear hV y V0
          refine WC_take (v := ?_) (a' := ?_) 1 hC rfl (by kernel_rfl) (by kernel_rfl) (by kernel_rfl) hCV ⟨rfl, fun w' hw' => ?_⟩ ?_ 25 rfl (by kernel_rfl) fun y => ?_
          rotate_left 2
          · obtain ⟨f0, f1, f2, f3, f4, f5, fl⟩ := facts w' hw'
            go_big_quiet_op; exact rfl
          · exact rfl
          obtain ⟨V2, hV⟩ : ∃ V', gw V1 y = V' := ⟨_, rfl⟩
          rw [hV]
          replace hCV := hC _ V2 hCV (by rw [← hV]; exact Grown.gw _ _)
          replace hGV : Grown X0 V2 := Grown.trans hGV (by rw [← hV]; exact Grown.gw _ _)
          clear hV y V1
          refine WC_take (v := ?_) (a' := ?_) 2 hC rfl (by kernel_rfl) (by kernel_rfl) (by kernel_rfl) hCV ⟨rfl, fun w' hw' => ?_⟩ ?_ 26 rfl (by kernel_rfl) fun y => ?_
          rotate_left 2
          · obtain ⟨f0, f1, f2, f3, f4, f5, fl⟩ := facts w' hw'
            go_big_quiet_op; exact rfl
          · exact rfl
          obtain ⟨V3, hV⟩ : ∃ V', gw V2 y = V' := ⟨_, rfl⟩
          rw [hV]
          replace hCV := hC _ V3 hCV (by rw [← hV]; exact Grown.gw _ _)
          replace hGV : Grown X0 V3 := Grown.trans hGV (by rw [← hV]; exact Grown.gw _ _)
          clear hV y V2
          refine WC_take (v := ?_) (a' := ?_) 3 hC rfl (by kernel_rfl) (by kernel_rfl) (by kernel_rfl) hCV ⟨rfl, fun w' hw' => ?_⟩ ?_ 27 rfl (by kernel_rfl) fun y => ?_
          rotate_left 2
          · obtain ⟨f0, f1, f2, f3, f4, f5, fl⟩ := facts w' hw'
            go_big_quiet_op; exact rfl
          · exact rfl
          obtain ⟨V4, hV⟩ : ∃ V', gw V3 y = V' := ⟨_, rfl⟩
          rw [hV]
          replace hCV := hC _ V4 hCV (by rw [← hV]; exact Grown.gw _ _)
          replace hGV : Grown X0 V4 := Grown.trans hGV (by rw [← hV]; exact Grown.gw _ _)
          clear hV y V3
          refine WC_take (v := ?_) (a' := ?_) 4 hC rfl (by kernel_rfl) (by kernel_rfl) (by kernel_rfl) hCV ⟨rfl, fun w' hw' => ?_⟩ ?_ 28 rfl (by kernel_rfl) fun y => ?_
          rotate_left 2
          · obtain ⟨f0, f1, f2, f3, f4, f5, fl⟩ := facts w' hw'
            go_big_quiet_op; exact rfl
          · exact rfl
          obtain ⟨V5, hV⟩ : ∃ V', gw V4 y = V' := ⟨_, rfl⟩
          rw [hV]
          replace hCV := hC _ V5 hCV (by rw [← hV]; exact Grown.gw _ _)
          replace hGV : Grown X0 V5 := Grown.trans hGV (by rw [← hV]; exact Grown.gw _ _)
          clear hV y V4
          refine WC_take (v := ?_) (a' := ?_) 5 hC rfl (by kernel_rfl) (by kernel_rfl) (by kernel_rfl) hCV ⟨rfl, fun w' hw' => ?_⟩ ?_ 29 rfl (by kernel_rfl) fun y => ?_
          rotate_left 2
          · obtain ⟨f0, f1, f2, f3, f4, f5, fl⟩ := facts w' hw'
            go_big_quiet_op; exact rfl
          · exact rfl
          obtain ⟨V6, hV⟩ : ∃ V', gw V5 y = V' := ⟨_, rfl⟩
          rw [hV]
          replace hCV := hC _ V6 hCV (by rw [← hV]; exact Grown.gw _ _)
          replace hGV : Grown X0 V6 := Grown.trans hGV (by rw [← hV]; exact Grown.gw _ _)
          clear hV y V5
          refine WC_take (v := ?_) (a' := ?_) 7 hC rfl (by kernel_rfl) (by kernel_rfl) (by kernel_rfl) hCV ⟨rfl, fun w' hw' => ?_⟩ ?_ 31 rfl (by kernel_rfl) fun y => ?_
          rotate_left 2
          · obtain ⟨f0, f1, f2, f3, f4, f5, fl⟩ := facts w' hw'
            go_big_quiet_op; exact rfl
          · exact rfl
          obtain ⟨V7, hV⟩ : ∃ V', gw V6 y = V' := ⟨_, rfl⟩
          rw [hV]
          replace hCV := hC _ V7 hCV (by rw [← hV]; exact Grown.gw _ _)
          replace hGV : Grown X0 V7 := Grown.trans hGV (by rw [← hV]; exact Grown.gw _ _)
          clear hV y V6
          refine WC_all [6, 8] (by kernel_rfl) (by simp) fun i hi => ?_
          rcases List.mem_cons.1 hi with rfl | hi
          case' inl =>
            have hlk := ((HG.out.grown (Grown.trans hGX hGV)).1).look hd1 hd2
            refine WG_op rfl rfl fun K hK => ?_
            go_big_op
            refine hK _ _ ⟨hCV, fun y => ?_⟩
            obtain ⟨V8, hV⟩ : ∃ V', gw V7 y = V' := ⟨_, rfl⟩
            rw [hV]
            replace hCV := hC _ V8 hCV (by rw [← hV]; exact Grown.gw _ _)
            replace hGV : Grown X0 V8 := Grown.trans hGV (by rw [← hV]; exact Grown.gw _ _)
            clear hV y hlk hK K V7
            refine WC_all [8] (by kernel_rfl) (by simp) fun i hi => ?_
            rcases List.mem_singleton.1 hi with rfl
            refine WG_op rfl rfl fun K hK => ?_
            go_big_op
            refine hK _ _ ⟨hC _ _ hCV (below_alloc _ _), fun y => ?_⟩
            obtain ⟨p, V9, e1, e2, q1, q2, q3, q4, qF, q5⟩ := new_at hGV #[Value.int .i64 c1, .int .i64 c2, .int .i64 1, .int .i64 c4, .int .i64 c5, .int .i64 c6] 24 y
            replace hCV := hC _ V9 hCV q3
            replace hGV : Grown X0 V9 := Grown.trans hGV q3
            rw [e1, e2]
            clear e1 e2 q1 q2 q3 qF V8 hK K
          case' inr =>
            rcases List.mem_singleton.1 hi with rfl
            refine WG_op rfl rfl fun K hK => ?_
            go_big_op
            refine hK _ _ ⟨hC _ _ hCV (below_alloc _ _), fun y => ?_⟩
            obtain ⟨p, V8, e1, e2, q1, q2, q3, q4, qF, q5⟩ := new_at hGV #[Value.int .i64 c1, .int .i64 c2, .int .i64 1, .int .i64 c4, .int .i64 c5, .int .i64 c6] 24 y
            replace hCV := hC _ V8 hCV q3
            replace hGV : Grown X0 V8 := Grown.trans hGV q3
            rw [e1, e2]
            clear e1 e2 q1 q2 q3 qF V7 hK K
            refine WC_all [6] (by kernel_rfl) (by simp) fun i hi => ?_
            rcases List.mem_singleton.1 hi with rfl
            have hlk := ((HG.out.grown (Grown.trans hGX hGV)).1).look hd1 hd2
            refine WG_op rfl rfl fun K hK => ?_
            go_big_op
            refine hK _ _ ⟨hCV, fun y => ?_⟩
            obtain ⟨V9, hV⟩ : ∃ V', gw V8 y = V' := ⟨_, rfl⟩
            rw [hV]
            have hG89 : Grown V8 V9 := by rw [← hV]; exact Grown.gw _ _
            replace hCV := hC _ V9 hCV hG89
            replace hGV : Grown X0 V9 := Grown.trans hGV hG89
            have q5' : ∀ i, V9.cell? ⟨p, i, none⟩ = #[Value.int .i64 c1, .int .i64 c2, .int .i64 1, .int .i64 c4, .int .i64 c5, .int .i64 c6][i]? := fun i => (hG89.cell (p := ⟨p, i, none⟩) q4).trans (q5 i)
            replace q4 := Nat.lt_of_lt_of_le q4 hG89.size
            clear q5
            have q5 := q5'
            clear hV y hlk hK K q5' hG89 V8
          all_goals
            have hGW := Grown.trans hGX hGV
            refine WC_all [9] (by kernel_rfl) (by simp) fun i hi => ?_
            rcases List.mem_singleton.1 hi with rfl
            refine WG_op rfl rfl fun K hK => ?_
            refine wp_append_at (.tmp 30) (.tmp 32) 49 rfl (b + 1) 24 inf _ 6 48 Tryz.underlying49 i1 i2 i3 i4 rfl (by decide) _ rfl _ _ ((HG.out.grown hGW).2.1 c2) ⟨p, 0, none⟩ 1 1 rfl (cardCells ⟨c1, c2, 1, c4, c5, c6⟩) rfl (card_at _ _ _ _ _ _ q5) (card_one _) (by have := HLN.out; simp only [maxLen]; omega) (by have := HLN.out; omega) (by have := HG.out.1.lt; have := hGW.size; omega) fun v' V10 hown hgrow hat => ?_
            refine hK _ _ ⟨(hgrow.block _ (Array.getElem?_eq_some_iff.1 hCV).1 (fun e => by have := ((HG.out.2.1 c2).lt _ e.symm).2; omega)).trans hCV, fun y => ?_⟩
            simp [Act.put]
            obtain ⟨V11, hV⟩ : ∃ V', gw V10 y = V' := ⟨_, rfl⟩
            have hG11 : Grown V10 V11 := by rw [← hV]; exact Grown.gw _ _
            have hCV11 := hC _ V11 ((hgrow.block _ (Array.getElem?_eq_some_iff.1 hCV).1 (fun e => by have := ((HG.out.2.1 c2).lt _ e.symm).2; omega)).trans hCV) hG11
            rw [hV]
            clear hV y hK K
            refine WC_all [10] (by kernel_rfl) (by simp) fun i hi => ?_
            rcases List.mem_singleton.1 hi with rfl
            have hc11 := gstep1 HG.out hGW hgrow hG11
            obtain ⟨V12, hrun, hcm, hg4⟩ := hc11.store (by simp only [maxLen]; omega) v' hd1 hd2
            refine WG_op rfl rfl fun K hK => ?_
            go_big_op
            refine hK _ _ ⟨(hg4.block _ (Array.getElem?_eq_some_iff.1 hCV11).1 (fun e => by injection e with e; have := HG.out.1.lt; omega)).trans hCV11, fun y => ?_⟩
            obtain ⟨V13, hV⟩ : ∃ V', gw V12 y = V' := ⟨_, rfl⟩
            have hG13 : Grown V12 V13 := by rw [← hV]; exact Grown.gw _ _
            have HGE := Lib.hid ((gstep2 HG.out hGW hgrow hG11 hown hat hcm hg4).grown hG13)
            have HBE := Lib.hid (below_trans (gbelow HB.out hwb HG.out hGW hgrow hG11 hg4) hG13)
            rw [hV]
            clear hV y hK K hrun hcm hg4 hc11 hCV11 hG11 hG13 hown hgrow hat hGW hCV hGV q4 q5 facts hC hB0
            refine WC_done (by kernel_rfl) ?_ _
            unfold NoPanic
            go_wp2_with fail
            go_roundw
            case rel => exact ⟨k + 1, by omega, by go_num, ⟨_, Lib.hid (by rw [hG'.out]; exact HGE.out)⟩, HBE⟩
            case measure => simp [intOf]; omega

        · have x3' : (c3 == 1) = false := by simpa using x3
          have HG' : Hid (GMap wr b (k + 1) (dailiesR (l.take (k + 1)) c1) V) := Lib.hid (by
            rw [show dailiesR (l.take (k + 1)) c1 = dailiesR (l.take k) c1 from funext fun z => Hm.out (.inr x3) z]
            exact HG.out.mono (by omega))
          clear Hm Hh HG
          go_wp2_with fail
          go_roundw
          case rel => exact ⟨k + 1, by omega, by go_num, ⟨V, Lib.hid (HG'.out.grown (below_alloc _ _))⟩, Lib.hid (xa HB.out _)⟩
          case measure => simp [intOf]; omega
      · have x1' : (c1 == st) = false := by simpa using x1
        have HG' : Hid (GMap wr b (k + 1) (dailiesR (l.take (k + 1)) st) V) := Lib.hid (by
          rw [show dailiesR (l.take (k + 1)) st = dailiesR (l.take k) st from funext fun z => Hm.out (.inl x1) z]
          exact HG.out.mono (by omega))
        clear Hm Hh HG
        go_wp2_with fail
        go_roundw
        case rel => exact ⟨k + 1, by omega, by go_num, ⟨V, Lib.hid (HG'.out.grown (below_alloc _ _))⟩, Lib.hid (xa HB.out _)⟩
        case measure => simp [intOf]; omega
    · obtain rfl : k = n := by omega
      have HE : Hid (GMap wr b k (dailiesR l st) V) := Lib.hid (by
        have h1 := HG.out
        rw [List.take_of_length_le (by rw [HN.out]; omega)] at h1
        exact h1)
      clear HG
      go_wp2_with fail
      go_ret
      exact ⟨b, V, rfl, HE.out, hwb, HB.out⟩
end Go.Proofs.YthifeoebefbalaaGreatDoor

namespace Go.Proofs
open Go.Shelf
def Tryz.lays189_ren : Go.Shelf.Ren := ⟨fun | 189 => 147 | 125 => 146 | 257 => 190 | 128 => 188 | 129 => 189 | 294 => 223 | 295 => 224 | 296 => 225 | 297 => 226 | 298 => 227 | 299 => 228 | 216 => 229 | 300 => 230 | 301 => 231 | 328 => 250 | 329 => 219 | 330 => 220 | 331 => 251 | 332 => 252 | 215 => 179 | 343 => 263 | n => n, fun | 28 => 83 | 3 => 3 | 46 => 112 | 0 => 0 | 51 => 206 | 53 => 208 | 4 => 4 | 183 => 199 | 182 => 198 | 131 => 203 | 5 => 5 | 9 => 9 | 218 => 227 | 222 => 231 | 228 => 255 | 229 => 217 | n => n, fun | n => n⟩
theorem Tryz.lays189 : Go.Proofs.Lays.n189 Tryz.prog Tryz.lays189_ren := {
  mixed := by kernel_rfl
  f125 := Tryz.func146.trans (congrArg some (by kernel_rfl))
  f128 := Tryz.func188.trans (congrArg some (by kernel_rfl))
  f129 := Tryz.func189.trans (congrArg some (by kernel_rfl))
  f189 := Tryz.func147.trans (congrArg some (by kernel_rfl))
  f215 := Tryz.func179.trans (congrArg some (by kernel_rfl))
  f216 := Tryz.func229.trans (congrArg some (by kernel_rfl))
  f257 := Tryz.func190.trans (congrArg some (by kernel_rfl))
  f294 := Tryz.func223.trans (congrArg some (by kernel_rfl))
  f295 := Tryz.func224.trans (congrArg some (by kernel_rfl))
  f296 := Tryz.func225.trans (congrArg some (by kernel_rfl))
  f297 := Tryz.func226.trans (congrArg some (by kernel_rfl))
  f298 := Tryz.func227.trans (congrArg some (by kernel_rfl))
  f299 := Tryz.func228.trans (congrArg some (by kernel_rfl))
  f300 := Tryz.func230.trans (congrArg some (by kernel_rfl))
  f301 := Tryz.func231.trans (congrArg some (by kernel_rfl))
  f328 := Tryz.func250.trans (congrArg some (by kernel_rfl))
  f329 := Tryz.func219.trans (congrArg some (by kernel_rfl))
  f330 := Tryz.func220.trans (congrArg some (by kernel_rfl))
  f331 := Tryz.func251.trans (congrArg some (by kernel_rfl))
  f332 := Tryz.func252.trans (congrArg some (by kernel_rfl))
  f343 := Tryz.func263.trans (congrArg some (by kernel_rfl))
  t0 := Tryz.underlying0
  a0 := Tryz.isAgg0
  z0 := Tryz.sizeOf0
  v0 := Tryz.zeroValue0
  t3 := Tryz.underlying3
  a3 := Tryz.isAgg3
  z3 := Tryz.sizeOf3
  v3 := Tryz.zeroValue3
  t4 := Tryz.underlying4
  a4 := Tryz.isAgg4
  z4 := Tryz.sizeOf4
  v4 := Tryz.zeroValue4
  t5 := Tryz.underlying5
  a5 := Tryz.isAgg5
  z5 := Tryz.sizeOf5
  v5 := Tryz.zeroValue5
  t9 := Tryz.underlying9
  a9 := Tryz.isAgg9
  z9 := Tryz.sizeOf9
  v9 := Tryz.zeroValue9
  t28 := Tryz.underlying83
  a28 := Tryz.isAgg83
  z28 := Tryz.sizeOf83
  v28 := Tryz.zeroValue83
  t46 := Tryz.underlying112
  a46 := Tryz.isAgg112
  z46 := Tryz.sizeOf112
  v46 := Tryz.zeroValue112
  t51 := Tryz.underlying206
  a51 := Tryz.isAgg206
  z51 := Tryz.sizeOf206
  v51 := Tryz.zeroValue206
  t53 := Tryz.underlying208
  a53 := Tryz.isAgg208
  z53 := Tryz.sizeOf208
  v53 := Tryz.zeroValue208
  t131 := Tryz.underlying203
  a131 := Tryz.isAgg203
  z131 := Tryz.sizeOf203
  v131 := Tryz.zeroValue203
  t182 := Tryz.underlying198
  a182 := Tryz.isAgg198
  z182 := Tryz.sizeOf198
  v182 := Tryz.zeroValue198
  t183 := Tryz.underlying199
  a183 := Tryz.isAgg199
  z183 := Tryz.sizeOf199
  v183 := Tryz.zeroValue199
  t218 := Tryz.underlying227
  a218 := Tryz.isAgg227
  z218 := Tryz.sizeOf227
  v218 := Tryz.zeroValue227
  t222 := Tryz.underlying231
  a222 := Tryz.isAgg231
  z222 := Tryz.sizeOf231
  v222 := Tryz.zeroValue231
  t228 := Tryz.underlying255
  a228 := Tryz.isAgg255
  z228 := Tryz.sizeOf255
  v228 := Tryz.zeroValue255
  t229 := Tryz.underlying217
  a229 := Tryz.isAgg217
  z229 := Tryz.sizeOf217
  v229 := Tryz.zeroValue217 }
open Go.Sort Go.RowKit in
theorem Tryz.slices_Sort_int (blk off cap : Nat) (zs : List Int) (w : World) (hH : Holds (Value.int .i64) w blk off zs.toArray) (hblk : blk < w.heap.size) (hsz : zs.length < 4611686018427387904) :
    Calls Tryz.prog 147 #[.slice (some ⟨blk, off, none⟩) zs.length cap] w fun e w' =>
      e = .returned (.tuple #[]) ∧ ∃ n os, w' = grow (putRow (Value.int .i64) (Sort.ahead w n) blk off (zs.mergeSort fun x y => decide (x ≤ y)).toArray) os := Any.slices_Sort_int Tryz.lays189 blk off cap zs w hH hblk hsz
open Go.RowKit Go.Sort in
theorem Tryz.slices_Sort_int_none (p : Option Addr) (cap : Nat) (w : World) :
    Calls Tryz.prog 147 #[.slice p 0 cap] w fun e w' => e = .returned (.tuple #[]) ∧ w' = w := Any.slices_Sort_int_none Tryz.lays189 p cap w
end Go.Proofs

namespace Go.Proofs.YthifeoebefbalaaGreatDoor
open Go.RowKit Go.Maps

def srt (zs : List Int) : List Int := zs.mergeSort fun x y => decide (x ≤ y)
theorem srt_len (zs : List Int) : (srt zs).length = zs.length := by simp [srt]
/-- A slice of the call's own is sorted in place. -/
theorem c147 {B : Nat} {v : Value} {zs : List Int} {w : World} (h : w.ownsRow B 3 1 v zs.length (intsC zs)) (hl : zs.length ≤ 1000) : Calls Tryz.prog 147 #[v] w fun e w' => e = .returned (.tuple #[]) ∧ w'.ownsRow B 3 1 v zs.length (intsC (srt zs)) ∧ w.grownBy w' v.ownBlock := by
  rcases h.2 with ⟨rfl, h0⟩ | ⟨g, cap, cur, rfl, hg, hh, hn, hm, hs, ht⟩
  · refine (Tryz.slices_Sort_int_none none 0 w).mono ?_
    rintro e w' ⟨rfl, rfl⟩
    have : zs = [] := List.eq_nil_of_length_eq_zero h0
    subst this
    exact ⟨rfl, by simpa [srt] using h, ⟨rfl, rfl, rfl, Nat.le_refl _, fun _ _ _ => rfl⟩⟩
  · refine (Tryz.slices_Sort_int g 0 cap zs w (holds_of_blockI hh (by simpa [intsC] using ht)) (Array.getElem?_eq_some_iff.1 hh).1 (by omega)).mono ?_
    rintro e w' ⟨rfl, n, os, rfl⟩
    exact ⟨rfl, ownsRow_sortedI (srt_len zs) hg hh hn hm hs, grownBy_sortedI _⟩
theorem runsF_step {ks : List Int} {i : Nat} {d : Int} (h : ks[i]? = some d) : runsF (ks.take (i + 1)) = runStep (runsF (ks.take i)) d := by
  rw [List.take_add_one, h]
  simp [runsF]
/-- Of two lists with the same members, the one without doubles, sorted, is the rising one. -/
theorem srt_unique {zs ks : List Int} (hs : ks.Pairwise (· < ·)) (hn : zs.Nodup) (hm : ∀ d, d ∈ zs ↔ d ∈ ks) : srt zs = ks := by
  have hp : (srt zs).Perm ks := (List.mergeSort_perm _ _).trans ((List.perm_ext_iff_of_nodup hn (hs.imp (fun h => by omega))).2 hm)
  have h1 : (srt zs).Pairwise (fun x y => decide (x ≤ y) = true) := List.pairwise_mergeSort (fun a b c => by simp; omega) (fun a b => by simp; omega) _
  refine hp.eq_of_pairwise (le := fun x y => decide (x ≤ y) = true) ?_ h1 (hs.imp (fun h => by simp; omega))
  intro a b _ _ h1 h2
  simp at h1 h2
  omega
theorem int_snoc {W : World} {B : Nat} {v : Value} {l : List Int} {x : Int} (h : W.ownsRow B 3 1 v (l.length + 1) (intsC l ++ [.int .i64 x])) : W.ownsRow B 3 1 v (l ++ [x]).length (intsC (l ++ [x])) := by
  rw [show intsC (l ++ [x]) = intsC l ++ [.int .i64 x] by simp [intsC]]
  simpa using h
theorem grow_in {w a b : World} {row : Option Nat} (h : Below w.heap.size w a) (hg : a.grownBy b row) (hr : ∀ k, row = some k → w.heap.size ≤ k) : Below w.heap.size w b := h.grown hg h.size hr
set_option maxRecDepth 100000 in
set_option maxHeartbeats 16000000 in
theorem c105 {w : World} {b n : Nat} {V : Int → Value} {K : Int → Bool} (hm : CMap w b n V K) (hn : n ≤ 200) (ks : List Int) (hs : ks.Pairwise (· < ·)) (hk : ∀ d, d ∈ ks ↔ K d = true) (hkb : ∀ d ∈ ks, 0 ≤ d ∧ d ≤ 60000) : Calls Tryz.prog 105 #[.map (some b)] w fun e w' => ∃ v, e = .returned v ∧ w'.ownsRow w.heap.size 99 2 v (runsF ks).length (prsC (runsF ks)) ∧ Below w.heap.size w w' := by
  obtain ⟨inf, i1, i2, i3, i4⟩ := info99
  obtain ⟨inf3, j1, j2, j3, j4⟩ := info3
  have HM := Lib.hid hm
  have HK := Lib.hid hk
  have HS := Lib.hid hs
  have HKB := Lib.hid hkb
  have hlt := hm.lt
  clear hm hk hs hkb
  go_enter Tryz.func105, Tryz.ntmps105
  go_wp2_with (at_range; refine wpList_range_cards rfl _ rfl b n V K rfl HM.out ?_; intro w1 cnt0 hrg0 hc0 hg0 hs0)
  have HB1 := Lib.hid (show Below w.heap.size w w1 from grow_in (xr _) hg0 (fun k hk => by cases hk))
  have HRG := Lib.hid hrg0
  clear hg0 hrg0
  go_frame
  go_loopw [3] (fun v wr => ∃ (zs : List Int) (Lf : Int → Bool) (cnt : Nat), zs.length + cnt ≤ n ∧ Hid (CRange wr b w.heap.size n V K Lf cnt) ∧ Hid (zs.Nodup ∧ ∀ d, d ∈ zs ↔ K d = true ∧ Lf d = false) ∧ Hid (wr.ownsRow (w.heap.size + 1) 3 1 v zs.length (intsC zs)) ∧ Hid (Below w.heap.size w wr)) (fun _ wr => wr.rangeLeft b w.heap.size)
  case atStart => exact ⟨[], K, cnt0, by simpa using hc0, HRG, Lib.hid ⟨by simp, fun d => by simp⟩, Lib.hid ⟨rfl, .inl ⟨rfl, rfl⟩⟩, HB1⟩
  case round =>
    obtain ⟨zs, Lf, cnt, hzc, HR, HZ, HO, HB⟩ := hrel
    have hrs := HR.out.lt
    go_wp2_with (at_next; refine wpList_next_cards rfl _ rfl b w.heap.size n V K Lf cnt rfl HR.out ?_ ?_)
    · intro hL0
      have hzk : Hid (srt zs = ks) := Lib.hid (srt_unique HS.out HZ.out.1 (fun d => by rw [HZ.out.2 d, HK.out d]; simp [hL0 d]))
      clear hL0 HZ HR
      obtain ⟨m, hzm⟩ : ∃ m, zs.length = m := ⟨_, rfl⟩
      have h147 := @c147 (w.heap.size + 1) u3 zs wr HO.out (by omega)
      rw [hzm] at h147 hzc
      have H147 := Lib.hid h147
      have HUB := Lib.hid (HO.out.lt)
      have hkm : Hid (ks.length = m) := Lib.hid (by rw [← hzk.out, srt_len, hzm])
      rw [hzk.out] at H147
      have hsl : ∃ p c, u3 = .slice p m c := by
        rcases HO.out.2 with ⟨e1, e2⟩ | ⟨g, cp, cur, e1, -⟩
        · exact ⟨none, 0, by rw [e1, ← hzm, e2]⟩
        · exact ⟨_, cp, by rw [e1, hzm]⟩
      obtain ⟨p3, c3, rfl⟩ := hsl
      clear h147 hzk HO hzm
      go_wp2_with fail
      refine H147.out.mono ?_
      rintro e w2 ⟨rfl, ho2, hg2⟩
      have HO2 := Lib.hid ho2
      have HB2 := Lib.hid (grow_in HB.out hg2 (fun k hk => by have := (HUB.out k hk).1; omega))
      clear ho2 hg2 H147 HUB HB
      go_wp2_with fail
      go_loopw [5, 23] (fun v k wr => ∃ (i : Nat) (out : List (Int × Int)), i ≤ m ∧ out.length ≤ i ∧ k = .int .i64 i ∧ Hid (out = runsF (ks.take i)) ∧ Hid (∀ r ∈ out, 0 ≤ r.1 ∧ r.1 ≤ 60000 ∧ 0 ≤ r.2 ∧ r.2 ≤ (i : Int)) ∧ Hid (wr.ownsRow w2.heap.size 99 2 v out.length (prsC out)) ∧ Hid (Below w2.heap.size w2 wr)) (fun _ k _ => m - (intOf k).toNat)
      case atStart => exact ⟨0, [], by omega, by simp, rfl, Lib.hid rfl, Lib.hid (by simp), Lib.hid ⟨rfl, .inl ⟨rfl, rfl⟩⟩, Lib.hid (xr _)⟩
      case round =>
        obtain ⟨i, out, hi, hol, rfl, hout, hbd, hown, hb⟩ := hrel
        by_cases hlt : i < m
        · obtain ⟨d, hd⟩ : ∃ d, ks[i]? = some d := by
            have := hkm.out
            exact ⟨ks[i]'(by omega), by simp⟩
          have hstep := runsF_step hd
          have hdb := HKB.out d (List.mem_of_getElem? hd)
          have hod2 : w2.ownsRow (w.heap.size + 1) 3 1 (.slice p3 m c3) ks.length (intsC ks) := by rw [hkm.out]; exact HO2.out
          obtain ⟨qd, cpd, ed, hcpd, lqd, -, hall⟩ := ints_at hod2 hd
          injection ed with ed1 ed2 ed3
          subst ed1
          have hdq := (hb.out.cell (p := ⟨qd, i, none⟩) lqd).trans (hall i d hd)
          have lqd2 := World.block_lt_of_cell? _ _ hdq
          simp only at lqd2
          clear hd hod2 hall ed2 ed3 hcpd lqd
          have hH : Hid (runStep out d = runsF (ks.take (i + 1))) := Lib.hid (by rw [hstep, hout.out])
          clear hstep hout
          rcases List.eq_nil_or_concat out with rfl | ⟨P, r, eP⟩
          · have hf : ∃ p c, u5 = .slice p 0 c := by
              rcases hown.out.2 with ⟨e1, e2⟩ | ⟨g, cp, cur, e1, -⟩
              · exact ⟨none, 0, e1⟩
              · exact ⟨_, cp, e1⟩
            obtain ⟨p5, c5, rfl⟩ := hf
            go_wp2_with fail
            refine wp_region_gw (by kernel_rfl) (by kernel_rfl) ?_
            repeat (go_big_quiet_step (fail))
            refine wpQuiet_nil ?_
            rintro _ ⟨y, rfl⟩
            obtain ⟨Z, hZ⟩ : ∃ Z, gw wr y = Z := ⟨_, rfl⟩
            have hbZ : Below wr.heap.size wr Z := by rw [← hZ]; exact gw_below _ _
            have hownZ := Lib.hid (own_keepN hown.out hbZ)
            have hbwZ := Lib.hid (below_trans hb.out hbZ)
            rw [hZ]
            clear hZ y hbZ hown hb
            go_wp2_with (at_builtin; refine wpList_append_own _ rfl (.tmp 57) (.tmp 60) 95 rfl w2.heap.size 99 inf _ 2 16 Tryz.underlying95 i1 i2 i3 i4 rfl (by decide) _ _ _ rfl (hownZ.out.alloc _) ⟨Z.heap.size, 0, none⟩ 1 1 (prC (d, 1)) rfl rfl pr_new (pr_cells _ _) (by simp [maxLen] <;> omega) (by simp <;> omega) (by have := hbwZ.out.size; simp <;> omega) ?_; intro v1 w3 hown1 hgrow1 _; have hB1 := Lib.hid (own_belowN (xa hbwZ.out _) (hownZ.out.alloc _) hgrow1); clear hgrow1)
            go_roundw
            case rel => exact ⟨i + 1, [(d, 1)], by omega, by simp, by go_num, hH, Lib.hid (by intro r hr; simp at hr; subst hr; simp; omega), Lib.hid (pairs_snoc (l := []) hown1), hB1⟩
            case measure => simp [intOf]; omega
          · rw [List.concat_eq_append] at eP
            subst eP
            obtain ⟨x, y⟩ := r
            have hxy := hbd.out (x, y) (by simp)
            simp only at hxy
            have hPl : P.length + 1 ≤ i := by simpa using hol
            obtain ⟨q, cq, rfl, lq, hBq, -, -, -⟩ := own_prs hown.out
            by_cases hx : x + y = d
            · have hxb : (x + y == d) = true := by simpa using hx
              have hH2 : Hid (P ++ [(x, y + 1)] = runsF (ks.take (i + 1))) := Lib.hid (by rw [← hH.out, runStep_on P x y d hx])
              obtain ⟨-, -, z0, z1, zF⟩ := own_prs2 hown.out
              go_wp2_with fail
              refine wp_region_gw (by kernel_rfl) (by kernel_rfl) ?_
              repeat (go_big_quiet_step (fail))
              refine wpQuiet_nil ?_
              rintro _ ⟨yy, rfl⟩
              obtain ⟨Z, hZ⟩ : ∃ Z, gw wr yy = Z := ⟨_, rfl⟩
              have hbZ : Below wr.heap.size wr Z := by rw [← hZ]; exact gw_below _ _
              have hownZ := Lib.hid (own_keepN hown.out hbZ)
              have hbwZ := Lib.hid (below_trans hb.out hbZ)
              rw [hZ]
              clear hZ yy hown hb z0 z1 zF lq
              obtain ⟨lq, -, z0, z1, zF⟩ := own_prs2 hownZ.out
              clear hH hx
              go_wp2_with fail
              go_roundw
              case rel => exact ⟨i + 1, P ++ [(x, y + 1)], by omega, by simp; omega, by go_num, hH2, Lib.hid (by
                  intro r hr
                  rcases List.mem_append.1 hr with h | h
                  · have := hbd.out r (List.mem_append_left _ h); omega
                  · simp at h; subst h; simp; omega), Lib.hid (by have h8 := hownZ.out; rw [show (P ++ [(x, y)]).length = P.length + 1 by simp] at h8; have h9 := own_set (j := P.length * 2 + 1) h8 (.int .i64 (y + 1)); rw [prs_set] at h9; rw [show (P ++ [(x, y + 1)]).length = P.length + 1 by simp]; exact h9), Lib.hid (xs hbwZ.out (by simpa using hBq) _)⟩
              case measure => simp [intOf]; omega

            · have hxb : (x + y == d) = false := by simpa using hx
              have hH2 : Hid (P ++ [(x, y)] ++ [(d, 1)] = runsF (ks.take (i + 1))) := Lib.hid (by rw [← hH.out, runStep_new P x y d hx])
              obtain ⟨-, -, z0, z1, zF⟩ := own_prs2 hown.out
              go_wp2_with fail
              refine wp_region_gw (by kernel_rfl) (by kernel_rfl) ?_
              repeat (go_big_quiet_step (fail))
              refine wpQuiet_nil ?_
              rintro _ ⟨yy, rfl⟩
              obtain ⟨Z, hZ⟩ : ∃ Z, gw wr yy = Z := ⟨_, rfl⟩
              have hbZ : Below wr.heap.size wr Z := by rw [← hZ]; exact gw_below _ _
              have hownZ := Lib.hid (own_keepN hown.out hbZ)
              have hbwZ := Lib.hid (below_trans hb.out hbZ)
              rw [hZ]
              clear hZ yy hown hb z0 z1 zF lq
              obtain ⟨lq, -, z0, z1, zF⟩ := own_prs2 hownZ.out
              clear hH z0 z1 zF lq
              go_wp2_with (at_builtin; refine wpList_append_own _ rfl (.tmp 57) (.tmp 60) 95 rfl w2.heap.size 99 inf _ 2 16 Tryz.underlying95 i1 i2 i3 i4 rfl (by decide) _ _ _ rfl (hownZ.out.alloc _) ⟨Z.heap.size, 0, none⟩ 1 1 (prC (d, 1)) rfl rfl pr_new (pr_cells _ _) (by simp [maxLen] <;> omega) (by simp <;> omega) (by have := hbwZ.out.size; simp <;> omega) ?_; intro v1 w3 hown1 hgrow1 _; have hB1 := Lib.hid (own_belowN (xa hbwZ.out _) (hownZ.out.alloc _) hgrow1); clear hgrow1)
              go_roundw
              case rel => exact ⟨i + 1, P ++ [(x, y)] ++ [(d, 1)], by omega, by simp; omega, by go_num, hH2, Lib.hid (by
                  intro r hr
                  rcases List.mem_append.1 hr with h | h
                  · have := hbd.out r h; omega
                  · simp at h; subst h; simp; omega), Lib.hid (pairs_snoc hown1), hB1⟩
              case measure => simp [intOf]; omega

        · obtain rfl : i = m := by omega
          have he : out = runsF ks := by rw [hout.out, List.take_of_length_le (by rw [hkm.out]; omega)]
          subst he
          have HO := hown
          go_wp2_with fail
          go_ret
          exact ⟨_, rfl, ownsRow_base HO.out HB2.out.size, below_trans HB2.out hb.out⟩
    · intro x w2 cnt2 hx1 hx2 hLx hKx hrg hlt2 hg2 hs2 hen
      clear hs2
      have HR2 := Lib.hid hrg
      have hob := HO.out.lt
      have HO2 := Lib.hid (HO.out.kept hg2 (.inr fun e => by have := (hob _ e).1; omega))
      have HB2 := Lib.hid (grow_in HB.out hg2 (fun k hk => by injection hk with hk; omega))
      clear hrg hg2 hob HO HB
      go_wp2_with (at_builtin; refine wpList_append_own_at _ rfl (.tmp 15) (.tmp 17) 83 rfl (w.heap.size + 1) 3 inf3 _ 1 8 Tryz.underlying83 j1 j2 j3 j4 rfl (by decide) _ _ _ rfl (HO2.out.alloc _) ⟨w2.heap.size, 0, none⟩ 1 1 [.int .i64 x] rfl rfl (int_new) (int_cells _) (by simp only [maxLen]; omega) (by omega) (by have := HB2.out.size; have := HR2.out.lt; simp <;> omega) ?_; intro v1 w3 hown1 hgrow1 _ _)
      have hr3 := (HO2.out.alloc (.cells #[.int .i64 x] 3)).lt
      have HR3 := Lib.hid ((HR2.out.below (below_alloc w2 (.cells #[.int .i64 x] 3)) HR2.out.owns.lt HR2.out.lt).kept hgrow1 (fun e => by have := (hr3 _ e.symm).1; omega) (fun e => by have := (hr3 _ e.symm).1; omega))
      have HB3 := Lib.hid (grow_in (xa HB2.out (.cells #[.int .i64 x] 3)) hgrow1 (fun k hk => by have := (hr3 _ hk).1; omega))
      go_roundw
      case rel => exact ⟨zs ++ [x], _, cnt2, by simp; omega, HR3, Lib.hid ⟨List.nodup_append.2 ⟨HZ.out.1, by simp, fun a ha y hy => by simp at hy; subst hy; rintro rfl; have := (HZ.out.2 a).1 ha; rw [hLx] at this; simp at this⟩, fun d => by
          rw [List.mem_append, HZ.out.2 d]
          by_cases hd : d = x
          · subst hd; simp [hKx]
          · simp [hd]⟩, Lib.hid (int_snoc hown1), HB3⟩
      case measure => rw [HR3.out.left_eq, HR.out.left_eq]; omega
end Go.Proofs.YthifeoebefbalaaGreatDoor

namespace Go.Proofs.YthifeoebefbalaaGreatDoor
open Go.RowKit

def orL : List Int → Int
  | [] => 0
  | x :: r => if x = 0 then orL r else x
theorem orL_zero {x : Int} {r : List Int} (h : x = 0) : orL (x :: r) = orL r := by rw [orL, if_pos h]
theorem orL_some {x : Int} {r : List Int} (h : ¬ x = 0) : orL (x :: r) = x := by rw [orL, if_neg h]
set_option maxRecDepth 100000 in
set_option maxHeartbeats 4000000 in
theorem c143 (b : Nat) (x0 x1 x2 x3 x4 x5 : Int) (w : World) (_ : b < w.heap.size) (hc : ∀ i, w.cell? ⟨b, i, none⟩ = #[Value.int .i64 x0, .int .i64 x1, .int .i64 x2, .int .i64 x3, .int .i64 x4, .int .i64 x5][i]?) :
    Calls Tryz.prog 143 #[.slice (some ⟨b, 0, none⟩) 6 6] w fun e w' => e = .returned (.int .i64 (orL [x0, x1, x2, x3, x4, x5])) ∧ w = w' := by
  have k0 : w.cell? ⟨b, 0, none⟩ = some (.int .i64 x0) := hc 0
  have k1 : w.cell? ⟨b, 1, none⟩ = some (.int .i64 x1) := hc 1
  have k2 : w.cell? ⟨b, 2, none⟩ = some (.int .i64 x2) := hc 2
  have k3 : w.cell? ⟨b, 3, none⟩ = some (.int .i64 x3) := hc 3
  have k4 : w.cell? ⟨b, 4, none⟩ = some (.int .i64 x4) := hc 4
  have k5 : w.cell? ⟨b, 5, none⟩ = some (.int .i64 x5) := hc 5
  clear hc
  go_enter Tryz.func143, Tryz.ntmps143
  go_wp2
  go_loopw [8] (fun v wr => ∃ k : Nat, k ≤ 6 ∧ v = .int .i64 k ∧ Hid (orL [x0, x1, x2, x3, x4, x5] = orL ([x0, x1, x2, x3, x4, x5].drop k)) ∧ w = wr) (fun v _ => (10 - intOf v).toNat)
  case atStart => exact ⟨0, by omega, rfl, Lib.hid rfl, rfl⟩
  case round =>
    obtain ⟨k, hk, rfl, HK, rfl⟩ := hrel
    have hcase : k = 0 ∨ k = 1 ∨ k = 2 ∨ k = 3 ∨ k = 4 ∨ k = 5 ∨ k = 6 := by omega
    rcases hcase with rfl | rfl | rfl | rfl | rfl | rfl | rfl
    · by_cases hz : x0 = 0
      · go_wp2_with fail
        go_roundw
        case rel => exact ⟨1, by omega, rfl, Lib.hid (HK.out.trans (orL_zero hz)), trivial⟩
        case measure => simp [intOf]
      · go_wp2_with fail
        go_ret
        exact ⟨ret_int (HK.out.trans (orL_some hz)).symm, rfl⟩
    · by_cases hz : x1 = 0
      · go_wp2_with fail
        go_roundw
        case rel => exact ⟨2, by omega, rfl, Lib.hid (HK.out.trans (orL_zero hz)), trivial⟩
        case measure => simp [intOf]
      · go_wp2_with fail
        go_ret
        exact ⟨ret_int (HK.out.trans (orL_some hz)).symm, rfl⟩
    · by_cases hz : x2 = 0
      · go_wp2_with fail
        go_roundw
        case rel => exact ⟨3, by omega, rfl, Lib.hid (HK.out.trans (orL_zero hz)), trivial⟩
        case measure => simp [intOf]
      · go_wp2_with fail
        go_ret
        exact ⟨ret_int (HK.out.trans (orL_some hz)).symm, rfl⟩
    · by_cases hz : x3 = 0
      · go_wp2_with fail
        go_roundw
        case rel => exact ⟨4, by omega, rfl, Lib.hid (HK.out.trans (orL_zero hz)), trivial⟩
        case measure => simp [intOf]
      · go_wp2_with fail
        go_ret
        exact ⟨ret_int (HK.out.trans (orL_some hz)).symm, rfl⟩
    · by_cases hz : x4 = 0
      · go_wp2_with fail
        go_roundw
        case rel => exact ⟨5, by omega, rfl, Lib.hid (HK.out.trans (orL_zero hz)), trivial⟩
        case measure => simp [intOf]
      · go_wp2_with fail
        go_ret
        exact ⟨ret_int (HK.out.trans (orL_some hz)).symm, rfl⟩
    · by_cases hz : x5 = 0
      · go_wp2_with fail
        go_roundw
        case rel => exact ⟨6, by omega, rfl, Lib.hid (HK.out.trans (orL_zero hz)), trivial⟩
        case measure => simp [intOf]
      · go_wp2_with fail
        go_ret
        exact ⟨ret_int (HK.out.trans (orL_some hz)).symm, rfl⟩
    · go_wp2_with fail
      go_ret
      exact ⟨ret_int HK.out.symm, rfl⟩
end Go.Proofs.YthifeoebefbalaaGreatDoor

namespace Go.Proofs.YthifeoebefbalaaGreatDoor
open Go.RowKit

theorem flat_get : ∀ (l : List Card) (j : Nat) (c : Card), l[j]? = some c → ∀ i, i < 6 → (flatC l)[j * 6 + i]? = (cardCells c)[i]?
  | [], j, c, h, _, _ => by simp at h
  | d :: l, 0, c, h, i, hi => by
    simp at h; subst h
    have e : flatC (d :: l) = cardCells d ++ flatC l := rfl
    rw [e, Nat.zero_mul, Nat.zero_add, List.getElem?_append_left (by simpa [cardCells] using hi)]
  | d :: l, j + 1, c, h, i, hi => by
    have e : flatC (d :: l) = cardCells d ++ flatC l := rfl
    have hl : (cardCells d).length = 6 := rfl
    rw [e, List.getElem?_append_right (by rw [hl]; omega), hl, show (j + 1) * 6 + i - 6 = j * 6 + i by omega]
    exact flat_get l j c (by simpa using h) i hi
theorem flat_ones (l : List Card) : ∀ u ∈ flatC l, u.oneCell' = true := fun u hu => by
  obtain ⟨c, -, h⟩ := List.mem_flatMap.1 hu
  exact card_one c u h
end Go.Proofs.YthifeoebefbalaaGreatDoor

namespace Go.Proofs.YthifeoebefbalaaGreatDoor
open Go.RowKit

def sayEq (a b : Card) : Bool := decide ((says a).lo = (says b).lo) && decide ((says a).hi = (says b).hi)
def someB (c : Card) : Bool := c.ki == 1 || c.ki == 2
def dayR (l : List Card) (a b d : Int) : Bool × Bool :=
  ((!(dailiesR l a d).isEmpty && !(dailiesR l b d).isEmpty) && (dailiesR l a d).all fun x => (dailiesR l b d).all fun y => sayEq x y, (dailiesR l a d).any someB || (dailiesR l b d).any someB)
/-- What the region of two readings reads. -/
structure DayC (T q i q' k : Nat) (s o : Bool) (a1 a2 a3 a4 a5 a6 e1 e2 e3 e4 e5 e6 : Int) (w : World) : Prop where
  t0 : w.cell? ⟨T, 0, none⟩ = some (.bool s)
  t1 : w.cell? ⟨T, 1, none⟩ = some (.bool o)
  h0 : w.cell? ⟨q, i * 6, none⟩ = some (.int .i64 a1)
  h1 : w.cell? ⟨q, i * 6 + 1, none⟩ = some (.int .i64 a2)
  h2 : w.cell? ⟨q, i * 6 + 2, none⟩ = some (.int .i64 a3)
  h3 : w.cell? ⟨q, i * 6 + 3, none⟩ = some (.int .i64 a4)
  h4 : w.cell? ⟨q, i * 6 + 4, none⟩ = some (.int .i64 a5)
  h5 : w.cell? ⟨q, i * 6 + 5, none⟩ = some (.int .i64 a6)
  g0 : w.cell? ⟨q', k * 6, none⟩ = some (.int .i64 e1)
  g1 : w.cell? ⟨q', k * 6 + 1, none⟩ = some (.int .i64 e2)
  g2 : w.cell? ⟨q', k * 6 + 2, none⟩ = some (.int .i64 e3)
  g3 : w.cell? ⟨q', k * 6 + 3, none⟩ = some (.int .i64 e4)
  g4 : w.cell? ⟨q', k * 6 + 4, none⟩ = some (.int .i64 e5)
  g5 : w.cell? ⟨q', k * 6 + 5, none⟩ = some (.int .i64 e6)
theorem DayC.grows {T q i q' k : Nat} {s o : Bool} {a1 a2 a3 a4 a5 a6 e1 e2 e3 e4 e5 e6 : Int} : ∀ w w' : World, DayC T q i q' k s o a1 a2 a3 a4 a5 a6 e1 e2 e3 e4 e5 e6 w → Grown w w' → DayC T q i q' k s o a1 a2 a3 a4 a5 a6 e1 e2 e3 e4 e5 e6 w' := fun w w' ⟨t0, t1, h0, h1, h2, h3, h4, h5, g0, g1, g2, g3, g4, g5⟩ hg =>
  ⟨(hg.cell (p := ⟨T, 0, none⟩) (World.block_lt_of_cell? w _ t0)).trans t0, (hg.cell (p := ⟨T, 1, none⟩) (World.block_lt_of_cell? w _ t1)).trans t1, (hg.cell (p := ⟨q, i * 6, none⟩) (World.block_lt_of_cell? w _ h0)).trans h0, (hg.cell (p := ⟨q, i * 6 + 1, none⟩) (World.block_lt_of_cell? w _ h1)).trans h1, (hg.cell (p := ⟨q, i * 6 + 2, none⟩) (World.block_lt_of_cell? w _ h2)).trans h2, (hg.cell (p := ⟨q, i * 6 + 3, none⟩) (World.block_lt_of_cell? w _ h3)).trans h3, (hg.cell (p := ⟨q, i * 6 + 4, none⟩) (World.block_lt_of_cell? w _ h4)).trans h4, (hg.cell (p := ⟨q, i * 6 + 5, none⟩) (World.block_lt_of_cell? w _ h5)).trans h5, (hg.cell (p := ⟨q', k * 6, none⟩) (World.block_lt_of_cell? w _ g0)).trans g0, (hg.cell (p := ⟨q', k * 6 + 1, none⟩) (World.block_lt_of_cell? w _ g1)).trans g1, (hg.cell (p := ⟨q', k * 6 + 2, none⟩) (World.block_lt_of_cell? w _ g2)).trans g2, (hg.cell (p := ⟨q', k * 6 + 3, none⟩) (World.block_lt_of_cell? w _ g3)).trans g3, (hg.cell (p := ⟨q', k * 6 + 4, none⟩) (World.block_lt_of_cell? w _ g4)).trans g4, (hg.cell (p := ⟨q', k * 6 + 5, none⟩) (World.block_lt_of_cell? w _ g5)).trans g5⟩
theorem two_at {w : World} {b : Nat} {s o : Bool} (h : w.heap[b]? = some (.cells #[.bool s, .bool o] 139 (0, 0))) : w.cell? ⟨b, 0, none⟩ = some (.bool s) ∧ w.cell? ⟨b, 1, none⟩ = some (.bool o) ∧ (∀ i, w.frozen? ⟨b, i, none⟩ = false) ∧ b < w.heap.size :=
  ⟨by simp [World.cell?, h], by simp [World.cell?, h], fun i => by simp [World.frozen?, h], (Array.getElem?_eq_some_iff.1 h).1⟩
end Go.Proofs.YthifeoebefbalaaGreatDoor

namespace Go.Proofs.YthifeoebefbalaaGreatDoor
open Go.RowKit Go.Maps

/-- What is asked of a function that is called with each card of a list. -/
def PredC (g : Nat) (lb : Array Value) (p : Card → Bool) (l : List Card) (w : World) : Prop := ∀ c ∈ l, ∀ W, Below w.heap.size w W → Calls Tryz.prog g (#[cv c] ++ lb) W fun e w' => e = .returned (.bool (p c)) ∧ Below W.heap.size W w'
theorem any_at {l : List Card} {p : Card → Bool} {i : Nat} {c : Card} (h : l[i]? = some c) (hp : p c = true) : l.any p = true := List.any_eq_true.2 ⟨c, List.mem_of_getElem? h, hp⟩
theorem any_none {l : List Card} {p : Card → Bool} {n : Nat} (hn : l.length = n) (h : ∀ j c, j < n → l[j]? = some c → p c = false) : l.any p = false := by
  rw [List.any_eq_false]
  intro c hc
  obtain ⟨j, hj⟩ := List.getElem?_of_mem hc
  rw [h j c (by rw [← hn]; exact (List.getElem?_eq_some_iff.1 hj).1) hj]
  simp
set_option maxRecDepth 100000 in
set_option maxHeartbeats 16000000 in
theorem c148 (p : Card → Bool) (g : Nat) (lb : Array Value) (eg : ∀ args w, (callFunc g args).run Tryz.prog w = .ok (.enter g args) w) (l : List Card) (v : Value) (w : World) (hcv : CardsV w v l) (hn : l.length ≤ 1000) (hp : PredC g lb p l w) : Calls Tryz.prog 148 #[v, .func (.func g) #[] lb] w fun e w' => ∃ r : Int, e = .returned (.int .i64 r) ∧ decide (0 ≤ r) = l.any p ∧ Below w.heap.size w w' := by
  obtain ⟨a, cap, rfl, kk⟩ := hcv
  have KK := Lib.hid kk
  have HP := Lib.hid hp
  clear kk hp
  obtain ⟨n, hnl⟩ : ∃ n, l.length = n := ⟨_, rfl⟩
  rw [hnl] at hn ⊢
  have HN := Lib.hid hnl
  clear hnl
  go_enter Tryz.func148, Tryz.ntmps148
  go_wp2_with fail
  go_loopw [8] (fun k wr => ∃ i : Nat, i ≤ n ∧ k = .int .i64 i ∧ Hid (∀ j c, j < i → l[j]? = some c → p c = false) ∧ Hid (Below w.heap.size w wr)) (fun k _ => n - (intOf k).toNat)
  case atStart => exact ⟨0, by omega, rfl, Lib.hid (by intro j c hj; omega), Lib.hid (xr _)⟩
  case round =>
    obtain ⟨i, hi, rfl, HA, HB⟩ := hrel
    by_cases hlt : i < n
    · obtain ⟨c, hc⟩ : ∃ c, l[i]? = some c := by
        have := HN.out
        exact ⟨l[i]'(by omega), by simp⟩
      obtain ⟨q, o, rfl, hca⟩ := KK.out (fun e => by rw [e] at hc; cases hc)
      have hcs := (hca.below HB.out) i c hc
      have HC := Lib.hid (HP.out c (List.mem_of_getElem? hc) wr HB.out)
      have HX := Lib.hid hc
      obtain ⟨b, hb⟩ : ∃ b, p c = b := ⟨_, rfl⟩
      have HPB := Lib.hid hb
      rw [hb] at HC
      unfold cv at HC
      obtain ⟨c1, c2, c3, c4, c5, c6⟩ := c
      obtain ⟨h0, h1, h2, h3, h4, h5⟩ := hcs
      simp only at h0 h1 h2 h3 h4 h5 HC
      clear hca hc KK hb HP
      cases b with
      | true =>
        have hany : Hid (l.any p = true) := Lib.hid (any_at HX.out HPB.out)
        go_wp2_with (go_at_fn g; refine HC.out.mono ?_; rintro e w' ⟨rfl, hb'⟩; have HB' := Lib.hid (below_trans HB.out hb'); clear hb')
        go_ret
        exact ⟨_, rfl, by rw [hany.out]; simp, HB'.out⟩
      | false =>
        have HA' : Hid (∀ j c, j < i + 1 → l[j]? = some c → p c = false) := Lib.hid fun j c hj hjc => by
          by_cases hji : j = i
          · subst hji
            rw [HX.out] at hjc
            injection hjc with hjc
            rw [← hjc]; exact HPB.out
          · exact HA.out j c (by omega) hjc
        go_wp2_with (go_at_fn g; refine HC.out.mono ?_; rintro e w' ⟨rfl, hb'⟩; have HB' := Lib.hid (below_trans HB.out hb'); clear hb')
        go_roundw
        case rel => exact ⟨i + 1, by omega, by go_num, HA', HB'⟩
        case measure => simp [intOf]; omega
    · obtain rfl : i = n := by omega
      have hany : Hid (l.any p = false) := Lib.hid (any_none HN.out HA.out)
      go_wp2_with fail
      go_ret
      exact ⟨_, rfl, by rw [hany.out]; decide, HB.out⟩
set_option maxRecDepth 100000 in
set_option maxHeartbeats 16000000 in
theorem c108 (p : Card → Bool) (g : Nat) (lb : Array Value) (eg : ∀ args w, (callFunc g args).run Tryz.prog w = .ok (.enter g args) w) (l : List Card) (v : Value) (w : World) (hcv : CardsV w v l) (hn : l.length ≤ 1000) (hp : PredC g lb p l w) : Calls Tryz.prog 108 #[v, .func (.func g) #[] lb] w fun e w' => e = .returned (.bool (l.any p)) ∧ Below w.heap.size w w' := by
  have H := Lib.hid (c148 p g lb eg l v w hcv hn hp)
  obtain ⟨a, cap, rfl, -⟩ := hcv
  clear hp
  go_enter Tryz.func108, Tryz.ntmps108
  go_wp2_with fail
  refine H.out.mono ?_
  rintro e w1 ⟨r, rfl, hr, hb⟩
  have HR := Lib.hid hr
  have HB := Lib.hid hb
  clear hr hb H
  by_cases h : 0 ≤ r
  all_goals go_wp2_with fail
  all_goals go_ret
  · exact ⟨by rw [← HR.out]; simp [h], HB.out⟩
  · exact ⟨by rw [← HR.out]; simp [h], HB.out⟩
end Go.Proofs.YthifeoebefbalaaGreatDoor

namespace Go.Proofs.YthifeoebefbalaaGreatDoor
open Go.RowKit Go.Maps

theorem isCard_kind {c : Card} (h : isCard c = true) : c.ki = 1 ∨ c.ki = 2 ∨ c.ki = 3 ∨ c.ki = 4 := by
  unfold isCard within at h
  simp only [Bool.and_eq_true, decide_eq_true_eq] at h
  omega
set_option maxRecDepth 100000 in
set_option maxHeartbeats 16000000 in
theorem c111 (c : Card) (w : World) (h : isCard c = true) : Calls Tryz.prog 111 #[cv c] w fun e w' => e = .returned (.bool (someB c)) ∧ Below w.heap.size w w' := by
  have HK := isCard_kind h
  clear h
  unfold cv
  obtain ⟨st, da, dy, ki, am, fi⟩ := c
  simp only at HK ⊢
  rcases HK with rfl | rfl | rfl | rfl
  all_goals go_enter Tryz.func111, Tryz.ntmps111
  all_goals go_wp2_with fail
  all_goals go_ret
  all_goals exact ⟨rfl, xa (xr _) _⟩
set_option maxRecDepth 100000 in
set_option maxHeartbeats 16000000 in
theorem c109 (x y : Card) (q : Nat) (w : World) (hx : isCard x = true) (hy : isCard y = true) (hb : ∀ i, w.cell? ⟨q, i, none⟩ = #[Value.int .i64 x.st, .int .i64 x.da, .int .i64 x.dy, .int .i64 x.ki, .int .i64 x.am, .int .i64 x.fi][i]?) : Calls Tryz.prog 109 #[cv y, .pointer (some ⟨q, 0, none⟩)] w fun e w' => e = .returned (.bool (!sayEq x y)) ∧ Below w.heap.size w w' := by
  have h0 := hb 0
  have h1 := hb 1
  have h2 := hb 2
  have h3 := hb 3
  have h4 := hb 4
  have h5 := hb 5
  have hl := World.block_lt_of_cell? _ _ h0
  simp at h0 h1 h2 h3 h4 h5 hl
  have H1 : ∀ W, Hid (Calls Tryz.prog 77 #[cv x] W fun e w' => e = .returned (spv (says x)) ∧ Below W.heap.size W w') := fun W => Lib.hid (c77 x W hx)
  have H2 : ∀ W, Hid (Calls Tryz.prog 77 #[cv y] W fun e w' => e = .returned (spv (says y)) ∧ Below W.heap.size W w') := fun W => Lib.hid (c77 y W hy)
  unfold cv spv at H1 H2
  clear hb hx hy
  obtain ⟨⟨xl, xh⟩, hsx⟩ : ∃ s, says x = s := ⟨_, rfl⟩
  obtain ⟨⟨yl, yh⟩, hsy⟩ : ∃ s, says y = s := ⟨_, rfl⟩
  rw [hsx] at H1
  rw [hsy] at H2
  have HE : Hid (sayEq x y = (decide (xl = yl) && decide (xh = yh))) := Lib.hid (by rw [sayEq, hsx, hsy])
  clear hsx hsy
  unfold cv
  by_cases e1 : xl = yl
  case' pos =>
    subst e1
    by_cases e2 : xh = yh
    case' pos => subst e2
  all_goals
    go_enter Tryz.func109, Tryz.ntmps109
    go_wp2_with fail
    refine wp_region_gw (by kernel_rfl) (by kernel_rfl) ?_
    repeat (go_big_quiet_step (first | (go_at_call 77; with_reducible exact gw_call (H1 _).out) | (go_at_call 77; with_reducible exact gw_call (H2 _).out)))
    refine wpQuiet_nil ?_
    rintro _ ⟨z, rfl⟩
    go_wp2_with fail
    go_ret
    exact ⟨by rw [HE.out]; simp [*], by repeat (first | exact xr _ | apply xa | apply xg)⟩
end Go.Proofs.YthifeoebefbalaaGreatDoor

namespace Go.Proofs.YthifeoebefbalaaGreatDoor
open Go.RowKit Go.Maps

theorem enter109 (args : Array Value) (w : World) : (callFunc 109 args).run Tryz.prog w = .ok (.enter 109 args) w := by kernel_rfl
theorem enter107 (args : Array Value) (w : World) : (callFunc 107 args).run Tryz.prog w = .ok (.enter 107 args) w := by kernel_rfl
theorem enter111 (args : Array Value) (w : World) : (callFunc 111 args).run Tryz.prog w = .ok (.enter 111 args) w := by kernel_rfl
set_option maxRecDepth 100000 in
set_option maxHeartbeats 16000000 in
theorem c107 (x : Card) (l : List Card) (p q b n : Nat) (d : Int) (V : Int → Value) (K : Int → Bool) (w : World) (hx : isCard x = true) (hl : ∀ y ∈ l, isCard y = true) (hn : l.length ≤ 1000) (hd1 : -9223372036854775808 ≤ d) (hd2 : d ≤ 9223372036854775807)
    (hp : w.cell? ⟨p, 0, none⟩ = some (.map (some b))) (hq : w.cell? ⟨q, 0, none⟩ = some (.int .i64 d)) (hm : CMap w b n V K) (hcv : CardsV w (V d) l) :
    Calls Tryz.prog 107 #[cv x, .pointer (some ⟨p, 0, none⟩), .pointer (some ⟨q, 0, none⟩)] w fun e w' => e = .returned (.bool (l.any fun y => !sayEq x y)) ∧ Below w.heap.size w w' := by
  have hmf : ∀ (fn : Fn) (first cap : Array Value) (w : World), (Instr.makeFunc fn first cap).run Tryz.prog w = .ok (.func fn first cap) w := fun _ _ _ _ => rfl
  have lp := World.block_lt_of_cell? _ _ hp
  have lq := World.block_lt_of_cell? _ _ hq
  simp only at lp lq
  have hg := below_alloc w (.cells #[.int .i64 x.st, .int .i64 x.da, .int .i64 x.dy, .int .i64 x.ki, .int .i64 x.am, .int .i64 x.fi] 24)
  have hlk := (hm.below hg hm.lt).look hd1 hd2
  have H108 := Lib.hid (c108 (fun y => !sayEq x y) 109 #[.pointer (some ⟨w.heap.size, 0, none⟩)] enter109 l (V d) _ (hcv.below hg) hn (fun y hy W hW => c109 x y w.heap.size W hx (hl y hy) (fun i => by
    rw [hW.cell (p := ⟨w.heap.size, i, none⟩) (by simp)]
    exact cell_of_row _ _ i _ _ (0, 0) (heap_alloc_new w _))))
  clear hx hl hm hcv hg
  unfold cv
  go_enter Tryz.func107, Tryz.ntmps107
  go_wp2_with (go_at_call 108; refine H108.out.mono ?_; rintro e w' ⟨rfl, hb'⟩; have HB' := Lib.hid hb'; clear hb')
  go_ret
  exact ⟨rfl, below_trans (below_alloc w _) HB'.out⟩
end Go.Proofs.YthifeoebefbalaaGreatDoor

namespace Go.Proofs
open Go.Shelf
def Tryz.grow_ren : Go.Shelf.Ren := ⟨fun | 4 => 149 | n => n, fun | 0 => 0 | 3 => 3 | 4 => 4 | 9 => 9 | 20 => 20 | 22 => 49 | 25 => 24 | n => n, fun | n => n⟩
theorem Tryz.grow_lays : Go.Proofs.Lays8.n4 Tryz.prog Tryz.grow_ren := {
  mixed := by kernel_rfl
  f4 := ⟨Tryz.f149.name, by decide +kernel, Tryz.func149.trans (congrArg some (by kernel_rfl))⟩
  t0 := Tryz.underlying0
  a0 := Tryz.isAgg0
  z0 := Tryz.sizeOf0
  v0 := Tryz.zeroValue0
  t3 := Tryz.underlying3
  a3 := Tryz.isAgg3
  z3 := Tryz.sizeOf3
  v3 := Tryz.zeroValue3
  t4 := Tryz.underlying4
  a4 := Tryz.isAgg4
  z4 := Tryz.sizeOf4
  v4 := Tryz.zeroValue4
  t9 := Tryz.underlying9
  a9 := Tryz.isAgg9
  z9 := Tryz.sizeOf9
  v9 := Tryz.zeroValue9
  t20 := Tryz.underlying20
  a20 := Tryz.isAgg20
  z20 := Tryz.sizeOf20
  v20 := Tryz.zeroValue20
  t22 := Tryz.underlying49
  a22 := Tryz.isAgg49
  z22 := Tryz.sizeOf49
  v22 := Tryz.zeroValue49 }
end Go.Proofs

namespace Go.Proofs.YthifeoebefbalaaGreatDoor
open Go.RowKit Go.Maps

theorem c149 (n : Nat) (w : World) (hn : n ≤ 1000) : Calls Tryz.prog 149 #[.slice none 0 0, .int .i64 n] w fun e w' => ∃ v, e = .returned v ∧ w'.ownsRow w.heap.size 24 6 v 0 [] ∧ Below w.heap.size w w' := by
  obtain ⟨inf, i1, i2, i3, i4⟩ := info24
  by_cases h0 : n = 0
  · subst h0
    refine (Any8.slices_Grow_room Tryz.grow_lays none 0 0 0 w (by omega) (by omega) (by omega) (by omega)).mono ?_
    rintro e w' ⟨rfl, rfl⟩
    exact ⟨_, rfl, ⟨rfl, .inl ⟨rfl, rfl⟩⟩, xr _⟩
  · refine (Any8.slices_Grow_grow Tryz.grow_lays inf (cv zcard) i1 i2 (by omega) none 0 0 n [] w (by omega) (by omega) (by rw [i4]; omega) (by omega) (by simp) (fun _ => rfl) (fun a h => by cases h)).mono ?_
    rintro e w' ⟨rfl, rfl⟩
    have hge := grownCap_ge w n 0 24
    have hcm : grownCap w n 0 24 ≤ maxLen := grownCap_le_maxLen w n 0 24 (by simp only [maxLen]; omega)
    have e24 : Tryz.grow_ren.t 25 = 24 := rfl
    simp only [e24, Nat.zero_add, Nat.sub_zero] at hge hcm ⊢
    refine ⟨_, rfl, ⟨rfl, .inr ⟨w.heap.size, _, _, rfl, Nat.le_refl _, heap_alloc_new w.drew _, by omega, hcm, ?_, rfl⟩⟩, xa (xd (xr _)) _⟩
    have hz : (cv zcard).cells.size = 6 := rfl
    simp only [Array.size_append, size_zeroCells, hz]
    simp
    omega
theorem cards_news {W : World} {p : Option Addr} {n cap : Nat} {l : List Card} (hl : l.length = n) (h : CardsV W (.slice p n cap) l) : (n = 0 ∧ flatC l = []) ∨ ∃ ad, p = some ad ∧ (flatC l).length = n * 6 ∧ ∀ j u, (flatC l)[j]? = some u → W.cell? (ad.add j) = some u := by
  obtain ⟨a, cap', e, h⟩ := h
  injection e with e1 e2 e3
  subst e1
  by_cases hn : l = []
  · subst hn
    exact .inl ⟨by simpa using hl.symm, rfl⟩
  · obtain ⟨b, o, rfl, hc⟩ := h hn
    refine .inr ⟨_, rfl, by rw [flatC_len, hl], fun j u hj => ?_⟩
    have hlt := (List.getElem?_eq_some_iff.1 hj).1
    rw [flatC_len] at hlt
    obtain ⟨c, hcc⟩ : ∃ c, l[j / 6]? = some c := ⟨l[j / 6]'(by omega), by simp⟩
    have h6 := flat_get l (j / 6) c hcc (j % 6) (by omega)
    rw [show j / 6 * 6 + j % 6 = j by omega, hj] at h6
    obtain ⟨h0, h1, h2, h3, h4, h5⟩ := hc (j / 6) c hcc
    have hm : j % 6 = 0 ∨ j % 6 = 1 ∨ j % 6 = 2 ∨ j % 6 = 3 ∨ j % 6 = 4 ∨ j % 6 = 5 := by omega
    have ea : (⟨b, o, none⟩ : Addr).add j = ⟨b, o + j, none⟩ := by simp [Addr.add]
    rw [ea]
    rcases hm with hm | hm | hm | hm | hm | hm <;> rw [hm] at h6 <;> simp [cardCells] at h6 <;> rw [show o + j = o + j / 6 * 6 + j % 6 by omega, hm, h6] <;> assumption
set_option maxRecDepth 100000 in
set_option maxHeartbeats 16000000 in
theorem c110 (l1 l2 : List Card) (v1 v2 : Value) (s : Nat) (w : World) (h1 : CardsV w v1 l1) (h2 : CardsV w v2 l2) (hn1 : l1.length ≤ 200) (hn2 : l2.length ≤ 200) (hs1 : w.cell? ⟨s, 0, none⟩ = some v1) (hs2 : w.cell? ⟨s, 1, none⟩ = some v2) :
    Calls Tryz.prog 110 #[.slice (some ⟨s, 0, none⟩) 2 2] w fun e w' => ∃ v, e = .returned v ∧ w'.ownsRow w.heap.size 24 6 v (l1 ++ l2).length (flatC (l1 ++ l2)) ∧ Below w.heap.size w w' := by
  obtain ⟨inf, i1, i2, i3, i4⟩ := info24
  have H1 := Lib.hid h1
  have H2 := Lib.hid h2
  obtain ⟨a1, cap1, rfl, -⟩ := h1
  obtain ⟨a2, cap2, rfl, -⟩ := h2
  obtain ⟨n1, e1⟩ : ∃ n, l1.length = n := ⟨_, rfl⟩
  obtain ⟨n2, e2⟩ : ∃ n, l2.length = n := ⟨_, rfl⟩
  rw [e1] at H1 hs1 hn1
  rw [e2] at H2 hs2 hn2
  have E1 := Lib.hid e1
  have E2 := Lib.hid e2
  clear e1 e2
  have ls := World.block_lt_of_cell? _ _ hs1
  simp only at ls
  go_enter Tryz.func110, Tryz.ntmps110
  go_wp2_with fail
  refine wp_loop_rounds 3 ?_
  rw [rounds_succ]
  go_wp2_with fail
  rw [rounds_succ]
  go_wp2_with fail
  rw [rounds_succ]
  go_wp2_with fail
  have h149 := c149 (n1 + n2) w (by omega)
  rw [show ((n1 + n2 : Nat) : Int) = (n1 : Int) + n2 by omega] at h149
  refine h149.mono ?_
  rintro e w1 ⟨v0, rfl, hov, hb1⟩
  have hs1' := (hb1.cell (p := ⟨s, 0, none⟩) ls).trans hs1
  have hs2' := (hb1.cell (p := ⟨s, 1, none⟩) ls).trans hs2
  have ls' := World.block_lt_of_cell? _ _ hs1'
  simp only at ls'
  have HOV := Lib.hid hov
  have LS := Lib.hid ls
  have HB1 := Lib.hid hb1
  have N1 := Lib.hid (cards_news E1.out (H1.out.below hb1))
  clear hs1 hs2 ls hov hb1 h149
  go_wp2_with fail
  refine wp_loop_rounds 3 ?_
  rw [rounds_succ]
  go_wp2_with (at_builtin; refine wpList_append_all rfl (.tmp 31) (.tmp 32) 49 rfl w.heap.size 24 inf _ 6 48 Tryz.underlying49 i1 i2 i3 i4 rfl (by decide) _ _ _ rfl HOV.out _ n1 _ (flatC l1) rfl N1.out (flat_ones _) (by simp only [maxLen]; omega) (by omega) HB1.out.size ?_; intro v3 w3 hown3 hg3)
  have hB3 := grow_in HB1.out hg3 (fun k hk => (HOV.out.lt k hk).1)
  have hs3 : w3.cell? ⟨s, 1, none⟩ = some (.slice a2 n2 cap2) := ((hB3.cell (p := ⟨s, 1, none⟩) LS.out).trans ((HB1.out.cell (p := ⟨s, 1, none⟩) LS.out).symm)).trans hs2'
  have ls3 : s < w3.heap.size := Nat.lt_of_lt_of_le LS.out hB3.size
  have HO3 := Lib.hid hown3
  have N3 := Lib.hid (cards_news E2.out (H2.out.below hB3))
  have HB3 := Lib.hid hB3
  clear hs1' hs2' ls' hown3 hg3 hB3 N1
  go_wp2_with fail
  rw [rounds_succ]
  go_wp2_with (at_builtin; refine wpList_append_all rfl (.tmp 31) (.tmp 32) 49 rfl w.heap.size 24 inf _ 6 48 Tryz.underlying49 i1 i2 i3 i4 rfl (by decide) _ _ _ rfl HO3.out _ n2 _ (flatC l2) rfl N3.out (flat_ones _) (by simp only [maxLen]; omega) (by omega) HB3.out.size ?_; intro v4 w4 hown4 hg4)
  have HB4 := Lib.hid (grow_in HB3.out hg4 (fun k hk => (HO3.out.lt k hk).1))
  clear hs3 hg4
  go_wp2_with fail
  rw [rounds_succ]
  go_wp2_with fail
  go_ret
  refine ⟨_, rfl, ?_, HB4.out⟩
  have e : flatC (l1 ++ l2) = flatC l1 ++ flatC l2 := by simp [flatC]
  rw [List.length_append, E1.out, E2.out, e]
  simpa using hown4
end Go.Proofs.YthifeoebefbalaaGreatDoor
