/- Parts: W6, W8, U1. -/
import Derived.Test.YthifeoebefbalaaGreatDoorCR11
import Derived.Deep.Upon
import Derived.Deep.AppendSrc
import Derived.Maps.RangeWalk
import Derived.Maps.AppendAt
import Derived.Test.YthifeoebefbalaaGreatDoorCR2
import Derived.Test.YthifeoebefbalaaGreatDoorCR3
import Derived.Test.YthifeoebefbalaaGreatDoorCR4
import Derived.Test.YthifeoebefbalaaGreatDoorCR5
import Derived.Test.YthifeoebefbalaaGreatDoorCR8
import Derived.Test.YthifeoebefbalaaGreatDoorCR10
set_option linter.unusedVariables false
set_option linter.unusedSimpArgs false
set_option linter.unnecessarySimpa false
namespace Go.Proofs.YthifeoebefbalaaGreatDoor
open Go.RowKit

/-- The first that is not less. -/
def cutI (d : Int) (out : List Int) : Nat := (out.takeWhile fun x => decide (x < d)).length
def insD (out : List Int) (d : Int) : List Int := if out[cutI d out]? = some d then out else out.take (cutI d out) ++ [d] ++ out.drop (cutI d out)
def datesR (l : List Card) : List Int := (l.map Card.da).foldl insD []
theorem cutI_eq {d : Int} {out : List Int} {m : Nat} (h : ∀ j x, j < m → out[j]? = some x → x < d) (hm : m ≤ out.length) (he : m = out.length ∨ ∃ x, out[m]? = some x ∧ ¬ x < d) : cutI d out = m := by
  induction out generalizing m with
  | nil => simp at hm; subst hm; rfl
  | cons y out ih =>
    cases m with
    | zero =>
      rcases he with he | ⟨x, hx, hn⟩
      · simp at he
      · simp at hx; subst hx
        simp [cutI, List.takeWhile_cons, hn]
    | succ m =>
      have h0 := h 0 y (by omega) rfl
      have := ih (m := m) (fun j x hj hx => h (j + 1) x (by omega) (by simpa using hx)) (by simpa using hm) (by
        rcases he with he | ⟨x, hx, hn⟩
        · exact .inl (by simpa using he)
        · exact .inr ⟨x, by simpa using hx, hn⟩)
      simp [cutI, List.takeWhile_cons, h0] at this ⊢
      exact this
theorem insD_len (out : List Int) (d : Int) : (insD out d).length ≤ out.length + 1 ∧ out.length ≤ (insD out d).length := by
  unfold insD
  split
  · omega
  · simp; omega
theorem dates_step {l : List Card} {i : Nat} {c : Card} (h : l[i]? = some c) : datesR (l.take (i + 1)) = insD (datesR (l.take i)) c.da := by
  rw [datesR, datesR, List.take_add_one, h]
  simp
theorem ints_at {W : World} {B : Nat} {v : Value} {l : List Int} (h : W.ownsRow B 3 1 v l.length (intsC l)) {j : Nat} {x : Int} (hj : l[j]? = some x) : ∃ q cap, v = .slice (some ⟨q, 0, none⟩) l.length cap ∧ l.length ≤ cap ∧ q < W.heap.size ∧ B ≤ q ∧ ∀ k y, l[k]? = some y → W.cell? ⟨q, k, none⟩ = some (.int .i64 y) := by
  have h0 := h
  obtain ⟨hl, hc⟩ := h
  rcases hc with ⟨rfl, h1⟩ | ⟨g, cap, cur, rfl, hg, hh, hn, -⟩
  · have : l = [] := List.length_eq_zero_iff.1 h1
    subst this
    simp at hj
  · refine ⟨g, cap, rfl, by omega, (Array.getElem?_eq_some_iff.1 hh).1, hg, fun k y hk => ?_⟩
    have hlt := (List.getElem?_eq_some_iff.1 hk).1
    rw [h0.cellAt k (by omega)]
    simp [intsC, hk]
theorem wpList_append_all {P : Program} {w : World} {ops : Array Oper} {rest : List Oper} {o : Oper} {a : Act} {Q : Exit → Act → World → Prop} (hgd : o.guard = none) (s x : Operand) (t : TypeId)
    (ho : o.op = .call { callee := .builtin .append, args := #[s, x], argTypes := #[t, t] })
    (base : Nat) (e : TypeId) (i : TypeInfo) (z : Value) (size bytes : Nat) (ht : P.underlying t = some (.slice e)) (hi : P.info? e = some i) (hz : i.zero = some z)
    (hsize : i.size = size) (hby : i.bytes = bytes) (hzs : z.cells.size = size) (hsz : 0 < size)
    (v : Value) (n : Nat) (xs : List Value) (hs : a.eval s = v) (hown : w.ownsRow base e size v n xs)
    (xp : Option Addr) (m c : Nat) (news : List Value) (hx : a.eval x = .slice xp m c)
    (hnews : (m = 0 ∧ news = []) ∨ ∃ ad, xp = some ad ∧ news.length = m * size ∧ ∀ j u, news[j]? = some u → w.cell? (ad.add j) = some u) (h1 : ∀ u ∈ news, u.oneCell' = true)
    (h63 : n + m ≤ maxLen) (hbytes : (n + m) * bytes ≤ 140737488355328) (hbase : base ≤ w.heap.size)
    (h : ∀ v' w', w'.ownsRow base e size v' (n + m) (xs ++ news) → w.grownBy w' v.ownBlock → wpList P ops Q rest (a.put o.dst v') w') :
    wpList P ops Q (o :: rest) a w := by
  rcases hnews with ⟨rfl, rfl⟩ | ⟨ad, rfl, hl, hn⟩
  · have hsrc : Go.Src P i.size t (.slice xp 0 c) 0 [] w := by
      cases xp with
      | none => exact Go.Src.ofNil _ ht c
      | some ad => exact Go.Src.ofSlice _ ht ad 0 c [] (by simp) (by simp) (by simp)
    have hv : ∃ p cap, v = .slice p n cap ∧ n ≤ cap := by
      rcases hown.2 with ⟨e1, e2⟩ | ⟨g, cap, cur, e1, -, -, hle, -⟩
      · exact ⟨none, 0, by rw [e1, e2], by omega⟩
      · exact ⟨_, cap, e1, hle⟩
    obtain ⟨p, cap, rfl, hle⟩ := hv
    have hr := Go.run_append_nothing (P := P) w t t o.type e i ht hi p n cap hle (.slice xp 0 c) hsrc
    refine wpList_plain hgd fun _ hK => ?_
    unfold Oper.wp execOp
    simp only [ho, resolve, invoke, builtin, Sem.run_bind, Sem.run_pure, Result.andThen_ok, List.map_toArray, List.map_cons, List.map_nil, hs, hx, hr]
    exact hK _ _ (h _ _ (by simpa using hown) (Grown.by (xr _) _))
  · refine wpList_append_own w hgd s x t ho base e i z size bytes ht hi hz hsize hby hzs hsz v n xs hs hown ad m c news hx hl hn h1 h63 hbytes hbase ?_
    intro v1 w1 h2 h3 _
    exact h v1 w1 h2 h3
theorem own_empty (Z : World) (e : TypeId) (size : Nat) : (Z.alloc (.cells #[] e)).ownsRow Z.heap.size e size (.slice (some ⟨Z.heap.size, 0, none⟩) 0 0) 0 [] :=
  ⟨by simp, .inr ⟨Z.heap.size, 0, #[], rfl, Nat.le_refl _, World.alloc_heap_new Z _, Nat.le_refl _, by simp [maxLen], by simp, by simp⟩⟩
theorem ints_ones (l : List Int) : ∀ u ∈ intsC l, u.oneCell' = true := fun u hu => by
  obtain ⟨x, -, rfl⟩ := List.mem_map.1 hu
  rfl
theorem cell_onW {V V' : World} {p : Addr} {v : Value} (hb : Below V.heap.size V V') (h : V.cell? p = some v) : V'.cell? p = some v := (hb.cell (World.block_lt_of_cell? _ _ h)).trans h
theorem add_at (q k j : Nat) : (⟨q, k, none⟩ : Addr).add j = ⟨q, k + j, none⟩ := by unfold Addr.add; split <;> simp_all
theorem ints_drop {W : World} {q : Nat} {l : List Int} (h : ∀ k y, l[k]? = some y → W.cell? ⟨q, k, none⟩ = some (.int .i64 y)) (m : Nat) : ∀ j u, (intsC (l.drop m))[j]? = some u → W.cell? ((⟨q, m, none⟩ : Addr).add j) = some u := fun j u hu => by
  rw [add_at]
  simp only [intsC, List.getElem?_map, List.getElem?_drop] at hu
  cases hx : l[m + j]? with
  | none => rw [hx] at hu; cases hu
  | some x => rw [hx] at hu; cases hu; exact h _ _ hx
theorem ints_take {W : World} {q : Nat} {l : List Int} (h : ∀ k y, l[k]? = some y → W.cell? ⟨q, k, none⟩ = some (.int .i64 y)) (m : Nat) : ∀ j u, (intsC (l.take m))[j]? = some u → W.cell? ((⟨q, 0, none⟩ : Addr).add j) = some u := fun j u hu => by
  rw [add_at, Nat.zero_add]
  simp only [intsC, List.getElem?_map] at hu
  cases hx : (l.take m)[j]? with
  | none => rw [hx] at hu; cases hu
  | some x =>
    rw [hx] at hu; cases hu
    rw [List.getElem?_take] at hx
    split at hx
    · exact h _ _ hx
    · cases hx
theorem insD_put {out : List Int} {d : Int} {m : Nat} (hc : cutI d out = m) (hn : out[m]? ≠ some d) : insD out d = out.take m ++ [d] ++ out.drop m := by rw [insD, hc, if_neg hn]
theorem insD_has {out : List Int} {d : Int} {m : Nat} (hc : cutI d out = m) (hn : out[m]? = some d) : insD out d = out := by rw [insD, hc, if_pos hn]
theorem ins_own {W : World} {B B' : Nat} {v : Value} {out : List Int} {d : Int} {m r : Nat} (hc : cutI d out = m) (hn : out[m]? ≠ some d) (hm : m ≤ out.length) (hr : out.length = m + r) (h : W.ownsRow B 3 1 v (0 + m + 1 + r) ([] ++ intsC (out.take m) ++ [.int .i64 d] ++ intsC (out.drop m))) (hB : B' ≤ B) : W.ownsRow B' 3 1 v (insD out d).length (intsC (insD out d)) := by
  have e1 : intsC (insD out d) = [] ++ intsC (out.take m) ++ [.int .i64 d] ++ intsC (out.drop m) := by rw [insD_put hc hn]; simp [intsC]
  have e2 : (insD out d).length = 0 + m + 1 + r := by rw [insD_put hc hn]; simp; omega
  rw [e1, e2]
  exact ownsRow_base h hB
set_option maxRecDepth 100000 in
set_option maxHeartbeats 16000000 in
theorem c112 (l : List Card) (v : Value) (w : World) (hcv : CardsV w v l) (hn : l.length ≤ 200) : Calls Tryz.prog 112 #[v] w fun e w' => ∃ v, e = .returned v ∧ w'.ownsRow w.heap.size 3 1 v (datesR l).length (intsC (datesR l)) ∧ Below w.heap.size w w' := by
  obtain ⟨inf, i1, i2, i3, i4⟩ := info3
  obtain ⟨a, cap, rfl, kk⟩ := hcv
  have KK := Lib.hid kk
  clear kk
  obtain ⟨n, hnl⟩ : ∃ n, l.length = n := ⟨_, rfl⟩
  rw [hnl] at hn ⊢
  have HN := Lib.hid hnl
  clear hnl
  go_enter Tryz.func112, Tryz.ntmps112
  go_wp2_with fail
  go_loopw [3, 4] (fun v k wr => ∃ (i : Nat) (out : List Int), i ≤ n ∧ out.length ≤ i ∧ k = .int .i64 i ∧ Hid (out = datesR (l.take i)) ∧ Hid (out = [] → v = .slice none 0 0) ∧ Hid (wr.ownsRow w.heap.size 3 1 v out.length (intsC out)) ∧ Hid (Below w.heap.size w wr)) (fun _ k _ => n - (intOf k).toNat)
  case atStart => exact ⟨0, [], by omega, by simp, rfl, Lib.hid rfl, Lib.hid fun _ => rfl, Lib.hid (intsNil _ _), Lib.hid (xr _)⟩
  case round =>
    obtain ⟨i, out, hi, hol, rfl, hout, hnil, hown, hb⟩ := hrel
    by_cases hlt : i < n
    · obtain ⟨c, hc⟩ : ∃ c, l[i]? = some c := by
        have := HN.out
        exact ⟨l[i]'(by omega), by simp⟩
      obtain ⟨b, o, rfl, hca⟩ := KK.out (fun e => by rw [e] at hc; cases hc)
      have hstep := Lib.hid (dates_step hc)
      obtain ⟨c1, d, c3, c4, c5, c6⟩ := c
      have HCA := Lib.hid hca
      have HC := Lib.hid hc
      simp only at hstep
      clear hca hc KK
      by_cases hoe : out = []
      · subst hoe
        obtain rfl := hnil.out rfl
        clear hnil hown
        have hcs := (HCA.out.below hb.out) i _ HC.out
        obtain ⟨h0, h1, h2, h3, h4, h5⟩ := hcs
        simp only at h1
        clear h0 h2 h3 h4 h5
        have lb := World.block_lt_of_cell? _ _ h1
        simp only at lb
        go_wp2_with fail
        go_loopw [5] (fun q wr => q = .int .i64 0 ∧ Hid (Below w.heap.size w wr)) (fun _ _ => 0)
        case atStart => exact ⟨rfl, hb⟩
        case round =>
          clear h1 lb
          obtain ⟨rfl, hb⟩ := hrel
          have hcs := (HCA.out.below hb.out) i _ HC.out
          obtain ⟨h0, h1, h2, h3, h4, h5⟩ := hcs
          simp only at h1
          clear h0 h2 h3 h4 h5
          have lb := World.block_lt_of_cell? _ _ h1
          simp only at lb
          go_wp2_with fail
          refine wp_region_gw (by kernel_rfl) (by kernel_rfl) ?_
          repeat (go_big_quiet_step (fail))
          refine wpQuiet_nil ?_
          rintro _ ⟨y1, rfl⟩
          go_wp2_with fail
          refine wp_region_gw (by kernel_rfl) (by kernel_rfl) ?_
          repeat (go_big_quiet_step (fail))
          refine wpQuiet_nil ?_
          rintro _ ⟨y, rfl⟩
          obtain ⟨Z, hZ⟩ : ∃ Z, gw (gw wr y1) y = Z := ⟨_, rfl⟩
          have hbZ : Below wr.heap.size wr Z := by rw [← hZ]; exact below_trans (gw_below _ _) (gw_below _ _)
          rw [hZ]
          have h1Z := cell_onW hbZ h1
          have lbZ := World.block_lt_of_cell? _ _ h1Z
          simp only at lbZ
          have hbW := Lib.hid (below_trans hb.out hbZ)
          have hcut : Hid (cutI d [] = 0) := Lib.hid rfl
          have hne : Hid (([] : List Int)[0]? ≠ some d) := Lib.hid (by simp)
          clear hZ hbZ h1 lb y y1
          go_wp2_with (first | (at_builtin; refine wpList_append_all rfl (.tmp 47) (.tmp 50) 83 rfl Z.heap.size 3 inf _ 1 8 Tryz.underlying83 i1 i2 i3 i4 rfl (by decide) _ _ _ rfl (own_empty Z 3 1) _ 0 _ (intsC ([])) rfl (.inl ⟨rfl, rfl⟩) (ints_ones _) (by simp [maxLen] <;> omega) (by omega) (by simp) ?_; intro v1 Z1 ho1 hg1; have hB1 := Lib.hid (own_belowN (below_alloc Z _) (own_empty Z 3 1) hg1); have HO1 := Lib.hid ho1; have h1a := (hB1.out.cell (World.block_lt_of_cell? _ _ h1Z)).trans h1Z; have lba := World.block_lt_of_cell? _ _ h1a; simp only at lba; clear hg1 ho1) | (at_builtin; refine wpList_append_all rfl (.tmp 52) (.tmp 58) 83 rfl Z.heap.size 3 inf _ 1 8 Tryz.underlying83 i1 i2 i3 i4 rfl (by decide) _ _ _ rfl (HO1.out.alloc _) (some ⟨Z1.heap.size, 0, none⟩) 1 1 [.int .i64 d] rfl (.inr ⟨_, rfl, rfl, int_new⟩) (int_cells _) (by simp [maxLen] <;> omega) (by omega) (by have := hB1.out.size; simp <;> omega) ?_; intro v2 Z2 ho2 hg2; have hB2 := Lib.hid (own_belowN (xa hB1.out _) (HO1.out.alloc _) hg2); have HO2 := Lib.hid ho2; clear hg2 ho2) | (at_builtin; refine wpList_append_all rfl (.tmp 60) (.tmp 63) 83 rfl Z.heap.size 3 inf _ 1 8 Tryz.underlying83 i1 i2 i3 i4 rfl (by decide) _ _ _ rfl HO2.out _ 0 _ (intsC ([])) rfl (.inl ⟨rfl, rfl⟩) (ints_ones _) (by simp [maxLen] <;> omega) (by omega) hB2.out.size ?_; intro v3 Z3 ho3 hg3; have hB3 := Lib.hid (own_belowN hB2.out HO2.out hg3); have HO3 := Lib.hid ho3; clear hg3 ho3))
          go_roundw
          case rel => exact ⟨i + 1, insD [] d, by omega, by have h := (insD_len [] d).1; simp only [List.length_nil] at h; omega, by go_num, Lib.hid (by rw [hstep.out, ← hout.out]), Lib.hid fun e => absurd e (by rw [insD_put hcut.out hne.out]; simp), Lib.hid (ins_own (r := 0) hcut.out hne.out (by simp) (by simp) HO3.out (by have := hbW.out.size; omega)), Lib.hid (below_trans hbW.out hB3.out)⟩
          case measure => simp [intOf]; omega

      · obtain ⟨z, hz⟩ : ∃ z, out[0]? = some z := by
          cases out with
          | nil => exact absurd rfl hoe
          | cons z zs => exact ⟨z, rfl⟩
        obtain ⟨q, cap0, rfl, hcap0, lq0, hBq, -⟩ := ints_at hown.out hz
        have hpos := (List.getElem?_eq_some_iff.1 hz).1
        clear hnil hz hoe z
        have hown0 := hown
        obtain ⟨p, hp⟩ : ∃ p, out.length = p := ⟨_, rfl⟩
        rw [hp] at hown hol hcap0 hpos ⊢
        go_wp2_with fail
        go_loopw [5] (fun s wr => ∃ m : Nat, m ≤ p ∧ s = .int .i64 m ∧ Hid (∀ j x, j < m → out[j]? = some x → x < d) ∧ Hid (wr.ownsRow w.heap.size 3 1 (.slice (some ⟨q, 0, none⟩) p cap0) p (intsC out)) ∧ Hid (Below w.heap.size w wr)) (fun s _ => p - (intOf s).toNat)
        case atStart => exact ⟨0, by omega, by go_num, Lib.hid (fun j x hj => by omega), hown, hb⟩
        case round =>
          clear hown hb hown0
          obtain ⟨m, hmp, rfl, hless, hown, hb⟩ := hrel
          have QR : Hid (∀ k y, out[k]? = some y → wr.cell? ⟨q, k, none⟩ = some (.int .i64 y)) := Lib.hid (fun k y hk => by
            have h2 := hown.out
            rw [← hp] at h2
            obtain ⟨q', cap', e, -, -, -, hall⟩ := ints_at h2 hk
            injection e with e1 e2 e3
            injection e1 with e1
            injection e1 with e1
            subst e1
            exact hall k y hk)
          have lqr : q < wr.heap.size := by
            rcases hown.out.2 with ⟨e, -⟩ | ⟨g, cap, cur, e, -, hh, -⟩
            · cases e
            · injection e with e1
              injection e1 with e1
              injection e1 with e1
              subst e1
              exact (Array.getElem?_eq_some_iff.1 hh).1
          have hcs := (HCA.out.below hb.out) i _ HC.out
          obtain ⟨h0, h1, h2, h3, h4, h5⟩ := hcs
          simp only at h1
          clear h0 h2 h3 h4 h5
          have lb := World.block_lt_of_cell? _ _ h1
          simp only at lb
          by_cases hm : m < p
          · obtain ⟨x, hx⟩ : ∃ x, out[m]? = some x := ⟨out[m]'(by omega), by simp⟩
            have hxq := QR.out m x hx
            have hmd : decide ((m : Int) < (p : Int)) = true := decide_eq_true (by omega)
            by_cases hxd : x < d
            · have hxb : decide (x < d) = true := decide_eq_true hxd
              have hless2 : Hid (∀ j x, j < m + 1 → out[j]? = some x → x < d) := Lib.hid (fun j y hj hy => by
                rcases Nat.lt_or_ge j m with h | h
                · exact hless.out j y h hy
                · have : j = m := by omega
                  subst this
                  rw [hx] at hy; cases hy; exact hxd)
              clear hx
              go_wp2_with fail
              refine wp_region_gw (by kernel_rfl) (by kernel_rfl) ?_
              repeat (go_big_quiet_step (fail))
              refine wpQuiet_nil ?_
              rintro _ ⟨y, rfl⟩
              go_wp2_with fail
              go_roundw
              case rel => exact ⟨m + 1, by omega, by go_num, hless2, Lib.hid (own_keepN hown.out (gw_below _ _)), Lib.hid (below_trans hb.out (gw_below _ _))⟩
              case measure => simp [intOf]; omega
            · have hxb : decide (x < d) = false := decide_eq_false hxd
              have hcut : Hid (cutI d out = m) := Lib.hid (cutI_eq hless.out (by omega) (.inr ⟨x, hx, hxd⟩))
              by_cases hxe : x = d
              · subst hxe
                have hins : Hid (insD out x = out) := Lib.hid (insD_has hcut.out hx)
                have hxx : (x == x) = true := beq_self_eq_true x
                clear hx hcut
                go_wp2_with fail
                refine wp_region_gw (by kernel_rfl) (by kernel_rfl) ?_
                repeat (go_big_quiet_step (fail))
                refine wpQuiet_nil ?_
                rintro _ ⟨y1, rfl⟩
                go_wp2_with fail
                refine wp_region_gw (by kernel_rfl) (by kernel_rfl) ?_
                repeat (go_big_quiet_step (fail))
                refine wpQuiet_nil ?_
                rintro _ ⟨y, rfl⟩
                go_wp2_with fail
                go_roundw
                case rel => exact ⟨i + 1, out, by omega, by omega, by go_num, Lib.hid (by rw [hstep.out, ← hout.out, hins.out]), Lib.hid fun e => absurd e (by intro e; rw [e] at hp; simp at hp; omega), Lib.hid (by rw [hp]; exact own_keepN hown.out (below_trans (gw_below _ _) (gw_below _ _))), Lib.hid (below_trans hb.out (below_trans (gw_below _ _) (gw_below _ _)))⟩
                case measure => simp [intOf]; omega
              · have hxx : (x == d) = false := by simpa using hxe
                have hne : Hid (out[m]? ≠ some d) := Lib.hid (by rw [hx]; intro e; cases e; exact hxe rfl)
                have hck : ¬ cap0 = m := by omega
                clear hx
                go_wp2_with fail
                refine wp_region_gw (by kernel_rfl) (by kernel_rfl) ?_
                repeat (go_big_quiet_step (fail))
                refine wpQuiet_nil ?_
                rintro _ ⟨y1, rfl⟩
                go_wp2_with fail
                refine wp_region_gw (by kernel_rfl) (by kernel_rfl) ?_
                repeat (go_big_quiet_step (fail))
                refine wpQuiet_nil ?_
                rintro _ ⟨y, rfl⟩
                obtain ⟨Z, hZ⟩ : ∃ Z, gw (gw wr y1) y = Z := ⟨_, rfl⟩
                have hbZ : Below wr.heap.size wr Z := by rw [← hZ]; exact below_trans (gw_below _ _) (gw_below _ _)
                rw [hZ]
                have h1Z := cell_onW hbZ h1
                have lbZ := World.block_lt_of_cell? _ _ h1Z
                simp only at lbZ
                have hbW := Lib.hid (below_trans hb.out hbZ)
                have hownZ := Lib.hid (own_keepN hown.out hbZ)
                have QZ := Lib.hid (fun k y hk => (hbZ.cell (p := ⟨q, k, none⟩) lqr).trans (QR.out k y hk) : ∀ k y, out[k]? = some y → Z.cell? ⟨q, k, none⟩ = some (.int .i64 y))
                have lqZ := Nat.lt_of_lt_of_le lqr hbZ.size
                clear hZ hbZ h1 lb y y1 hxq QR lqr hown
                go_wp2_with (first | (at_builtin; refine wpList_append_all rfl (.tmp 47) (.tmp 50) 83 rfl Z.heap.size 3 inf _ 1 8 Tryz.underlying83 i1 i2 i3 i4 rfl (by decide) _ _ _ rfl (own_empty Z 3 1) _ m _ (intsC (out.take m)) rfl (.inr ⟨_, rfl, by simp [intsC]; omega, ints_take (fun k y hk => (below_alloc Z _).cell (p := ⟨q, k, none⟩) lqZ |>.trans (QZ.out k y hk)) m⟩) (ints_ones _) (by simp [maxLen] <;> omega) (by omega) (by simp) ?_; intro v1 Z1 ho1 hg1; have hB1 := Lib.hid (own_belowN (below_alloc Z _) (own_empty Z 3 1) hg1); have HO1 := Lib.hid ho1; have h1a := (hB1.out.cell (World.block_lt_of_cell? _ _ h1Z)).trans h1Z; have lba := World.block_lt_of_cell? _ _ h1a; simp only at lba; clear hg1 ho1) | (at_builtin; refine wpList_append_all rfl (.tmp 52) (.tmp 58) 83 rfl Z.heap.size 3 inf _ 1 8 Tryz.underlying83 i1 i2 i3 i4 rfl (by decide) _ _ _ rfl (HO1.out.alloc _) (some ⟨Z1.heap.size, 0, none⟩) 1 1 [.int .i64 d] rfl (.inr ⟨_, rfl, rfl, int_new⟩) (int_cells _) (by simp [maxLen] <;> omega) (by omega) (by have := hB1.out.size; simp <;> omega) ?_; intro v2 Z2 ho2 hg2; have hB2 := Lib.hid (own_belowN (xa hB1.out _) (HO1.out.alloc _) hg2); have HO2 := Lib.hid ho2; clear hg2 ho2) | (at_builtin; refine wpList_append_all rfl (.tmp 60) (.tmp 63) 83 rfl Z.heap.size 3 inf _ 1 8 Tryz.underlying83 i1 i2 i3 i4 rfl (by decide) _ _ _ rfl HO2.out _ (p - m) _ (intsC (out.drop m)) rfl (.inr ⟨_, rfl, by simp [intsC]; omega, ints_drop (fun k y hk => (hB2.out.cell (p := ⟨q, k, none⟩) lqZ).trans (QZ.out k y hk)) m⟩) (ints_ones _) (by simp [maxLen] <;> omega) (by omega) hB2.out.size ?_; intro v3 Z3 ho3 hg3; have hB3 := Lib.hid (own_belowN hB2.out HO2.out hg3); have HO3 := Lib.hid ho3; clear hg3 ho3))
                go_roundw
                case rel => exact ⟨i + 1, insD out d, by omega, by have := (insD_len out d).1; omega, by go_num, Lib.hid (by rw [hstep.out, ← hout.out]), Lib.hid fun e => absurd e (by rw [insD_put hcut.out hne.out]; simp), Lib.hid (ins_own (r := (p - m)) hcut.out hne.out (by omega) (by omega) HO3.out (by have := hbW.out.size; omega)), Lib.hid (below_trans hbW.out hB3.out)⟩
                case measure => simp [intOf]; omega
          · have hmp2 : m = p := by omega
            subst hmp2
            have hcut : Hid (cutI d out = m) := Lib.hid (cutI_eq hless.out (by omega) (.inl hp.symm))
            have hne : Hid (out[m]? ≠ some d) := Lib.hid (by rw [List.getElem?_eq_none (by omega)]; simp)
            go_wp2_with fail
            refine wp_region_gw (by kernel_rfl) (by kernel_rfl) ?_
            repeat (go_big_quiet_step (fail))
            refine wpQuiet_nil ?_
            rintro _ ⟨y1, rfl⟩
            go_wp2_with fail
            refine wp_region_gw (by kernel_rfl) (by kernel_rfl) ?_
            repeat (go_big_quiet_step (fail))
            refine wpQuiet_nil ?_
            rintro _ ⟨y, rfl⟩
            obtain ⟨Z, hZ⟩ : ∃ Z, gw (gw wr y1) y = Z := ⟨_, rfl⟩
            have hbZ : Below wr.heap.size wr Z := by rw [← hZ]; exact below_trans (gw_below _ _) (gw_below _ _)
            rw [hZ]
            have h1Z := cell_onW hbZ h1
            have lbZ := World.block_lt_of_cell? _ _ h1Z
            simp only at lbZ
            have hbW := Lib.hid (below_trans hb.out hbZ)
            have hownZ := Lib.hid (own_keepN hown.out hbZ)
            have QZ := Lib.hid (fun k y hk => (hbZ.cell (p := ⟨q, k, none⟩) lqr).trans (QR.out k y hk) : ∀ k y, out[k]? = some y → Z.cell? ⟨q, k, none⟩ = some (.int .i64 y))
            have lqZ := Nat.lt_of_lt_of_le lqr hbZ.size
            clear hZ hbZ h1 lb y y1 QR lqr hown
            by_cases hck : cap0 = m
            · have hck := hck.symm
              subst hck
              go_wp2_with (first | (at_builtin; refine wpList_append_all rfl (.tmp 47) (.tmp 50) 83 rfl Z.heap.size 3 inf _ 1 8 Tryz.underlying83 i1 i2 i3 i4 rfl (by decide) _ _ _ rfl (own_empty Z 3 1) _ m _ (intsC (out.take m)) rfl (.inr ⟨_, rfl, by simp [intsC]; omega, ints_take (fun k y hk => (below_alloc Z _).cell (p := ⟨q, k, none⟩) lqZ |>.trans (QZ.out k y hk)) m⟩) (ints_ones _) (by simp [maxLen] <;> omega) (by omega) (by simp) ?_; intro v1 Z1 ho1 hg1; have hB1 := Lib.hid (own_belowN (below_alloc Z _) (own_empty Z 3 1) hg1); have HO1 := Lib.hid ho1; have h1a := (hB1.out.cell (World.block_lt_of_cell? _ _ h1Z)).trans h1Z; have lba := World.block_lt_of_cell? _ _ h1a; simp only at lba; clear hg1 ho1) | (at_builtin; refine wpList_append_all rfl (.tmp 52) (.tmp 58) 83 rfl Z.heap.size 3 inf _ 1 8 Tryz.underlying83 i1 i2 i3 i4 rfl (by decide) _ _ _ rfl (HO1.out.alloc _) (some ⟨Z1.heap.size, 0, none⟩) 1 1 [.int .i64 d] rfl (.inr ⟨_, rfl, rfl, int_new⟩) (int_cells _) (by simp [maxLen] <;> omega) (by omega) (by have := hB1.out.size; simp <;> omega) ?_; intro v2 Z2 ho2 hg2; have hB2 := Lib.hid (own_belowN (xa hB1.out _) (HO1.out.alloc _) hg2); have HO2 := Lib.hid ho2; clear hg2 ho2) | (at_builtin; refine wpList_append_all rfl (.tmp 60) (.tmp 63) 83 rfl Z.heap.size 3 inf _ 1 8 Tryz.underlying83 i1 i2 i3 i4 rfl (by decide) _ _ _ rfl HO2.out _ 0 _ (intsC (out.drop m)) rfl (.inl ⟨rfl, by rw [List.drop_eq_nil_of_le (by omega)]; rfl⟩) (ints_ones _) (by simp [maxLen] <;> omega) (by omega) hB2.out.size ?_; intro v3 Z3 ho3 hg3; have hB3 := Lib.hid (own_belowN hB2.out HO2.out hg3); have HO3 := Lib.hid ho3; clear hg3 ho3))
              go_roundw
              case rel => exact ⟨i + 1, insD out d, by omega, by have := (insD_len out d).1; omega, by go_num, Lib.hid (by rw [hstep.out, ← hout.out]), Lib.hid fun e => absurd e (by rw [insD_put hcut.out hne.out]; simp), Lib.hid (ins_own (r := 0) hcut.out hne.out (by omega) (by omega) HO3.out (by have := hbW.out.size; omega)), Lib.hid (below_trans hbW.out hB3.out)⟩
              case measure => simp [intOf]; omega

            · go_wp2_with (first | (at_builtin; refine wpList_append_all rfl (.tmp 47) (.tmp 50) 83 rfl Z.heap.size 3 inf _ 1 8 Tryz.underlying83 i1 i2 i3 i4 rfl (by decide) _ _ _ rfl (own_empty Z 3 1) _ m _ (intsC (out.take m)) rfl (.inr ⟨_, rfl, by simp [intsC]; omega, ints_take (fun k y hk => (below_alloc Z _).cell (p := ⟨q, k, none⟩) lqZ |>.trans (QZ.out k y hk)) m⟩) (ints_ones _) (by simp [maxLen] <;> omega) (by omega) (by simp) ?_; intro v1 Z1 ho1 hg1; have hB1 := Lib.hid (own_belowN (below_alloc Z _) (own_empty Z 3 1) hg1); have HO1 := Lib.hid ho1; have h1a := (hB1.out.cell (World.block_lt_of_cell? _ _ h1Z)).trans h1Z; have lba := World.block_lt_of_cell? _ _ h1a; simp only at lba; clear hg1 ho1) | (at_builtin; refine wpList_append_all rfl (.tmp 52) (.tmp 58) 83 rfl Z.heap.size 3 inf _ 1 8 Tryz.underlying83 i1 i2 i3 i4 rfl (by decide) _ _ _ rfl (HO1.out.alloc _) (some ⟨Z1.heap.size, 0, none⟩) 1 1 [.int .i64 d] rfl (.inr ⟨_, rfl, rfl, int_new⟩) (int_cells _) (by simp [maxLen] <;> omega) (by omega) (by have := hB1.out.size; simp <;> omega) ?_; intro v2 Z2 ho2 hg2; have hB2 := Lib.hid (own_belowN (xa hB1.out _) (HO1.out.alloc _) hg2); have HO2 := Lib.hid ho2; clear hg2 ho2) | (at_builtin; refine wpList_append_all rfl (.tmp 60) (.tmp 63) 83 rfl Z.heap.size 3 inf _ 1 8 Tryz.underlying83 i1 i2 i3 i4 rfl (by decide) _ _ _ rfl HO2.out _ 0 _ (intsC (out.drop m)) rfl (.inl ⟨rfl, by rw [List.drop_eq_nil_of_le (by omega)]; rfl⟩) (ints_ones _) (by simp [maxLen] <;> omega) (by omega) hB2.out.size ?_; intro v3 Z3 ho3 hg3; have hB3 := Lib.hid (own_belowN hB2.out HO2.out hg3); have HO3 := Lib.hid ho3; clear hg3 ho3))
              go_roundw
              case rel => exact ⟨i + 1, insD out d, by omega, by have := (insD_len out d).1; omega, by go_num, Lib.hid (by rw [hstep.out, ← hout.out]), Lib.hid fun e => absurd e (by rw [insD_put hcut.out hne.out]; simp), Lib.hid (ins_own (r := 0) hcut.out hne.out (by omega) (by omega) HO3.out (by have := hbW.out.size; omega)), Lib.hid (below_trans hbW.out hB3.out)⟩
              case measure => simp [intOf]; omega

    · obtain rfl : i = n := by omega
      have he : out = datesR l := by rw [hout.out, List.take_of_length_le (by rw [HN.out]; omega)]
      subst he
      have HO := hown
      go_wp2_with fail
      go_ret
      exact ⟨_, rfl, HO.out, hb.out⟩
end Go.Proofs.YthifeoebefbalaaGreatDoor

namespace Go.Proofs.YthifeoebefbalaaGreatDoor
open Go.RowKit

/-- One date more: the last run goes on, or a new one begins. -/
def runStep (out : List (Int × Int)) (d : Int) : List (Int × Int) := match out.getLast? with
  | some r => if r.1 + r.2 = d then out.dropLast ++ [(r.1, r.2 + 1)] else out ++ [(d, 1)]
  | none => out ++ [(d, 1)]
def runsF (ds : List Int) : List (Int × Int) := ds.foldl runStep []
def runsR (l : List Card) (st : Int) : List (Int × Int) := runsF ((datesR l).filter fun d => !(dailiesR l st d).isEmpty)
theorem runStep_on (P : List (Int × Int)) (x y d : Int) (h : x + y = d) : runStep (P ++ [(x, y)]) d = P ++ [(x, y + 1)] := by simp [runStep, h]
theorem runStep_new (P : List (Int × Int)) (x y d : Int) (h : ¬ x + y = d) : runStep (P ++ [(x, y)]) d = P ++ [(x, y)] ++ [(d, 1)] := by simp [runStep, h]
theorem runs_step {ds : List Int} {p : Int → Bool} {i : Nat} {d : Int} (h : ds[i]? = some d) : runsF ((ds.take (i + 1)).filter p) = if p d = true then runStep (runsF ((ds.take i).filter p)) d else runsF ((ds.take i).filter p) := by
  rw [List.take_add_one, h, List.filter_append]
  cases hp : p d <;> simp [runsF, hp]
theorem prs_at (P : List (Int × Int)) (r : Int × Int) (R : List (Int × Int)) (j : Nat) (hj : j < 2) : (prsC (P ++ r :: R))[P.length * 2 + j]? = (prC r)[j]? := by
  have hl : ∀ P : List (Int × Int), (prsC P).length = P.length * 2 := fun P => by
    induction P with
    | nil => rfl
    | cons a P ih => simp [prsC, prC] at ih ⊢; omega
  have e : prsC (P ++ r :: R) = prsC P ++ (prC r ++ prsC R) := by simp [prsC]
  rw [e, List.getElem?_append_right (by rw [hl]; omega), hl, show P.length * 2 + j - P.length * 2 = j by omega, List.getElem?_append_left (by simpa [prC] using hj)]
theorem prsC_len (P : List (Int × Int)) : (prsC P).length = P.length * 2 := by
  induction P with
  | nil => rfl
  | cons a P ih => simp [prsC, prC] at ih ⊢; omega
/-- A store into a row of one's own. -/
theorem own_set {W : World} {B e s g cap n j : Nat} {xs : List Value} (h : W.ownsRow B e s (.slice (some ⟨g, 0, none⟩) n cap) n xs) (u : Value) : (W.setCell ⟨g, j, none⟩ u).ownsRow B e s (.slice (some ⟨g, 0, none⟩) n cap) n (xs.set j u) := by
  obtain ⟨hl, hc⟩ := h
  rcases hc with ⟨e1, -⟩ | ⟨g', cap', cur, e1, hB, hh, hn, hm, hs, ht⟩
  · cases e1
  · injection e1 with a1 a2 a3
    injection a1 with a1
    injection a1 with a1
    subst a1; subst a3
    refine ⟨by simpa using hl, .inr ⟨g, cap, cur.setIfInBounds j u, rfl, hB, cells_set hh j u, hn, hm, by simpa using hs, ?_⟩⟩
    rw [Array.toList_setIfInBounds, List.take_set, ht]
theorem prs_set (P : List (Int × Int)) (x y z : Int) : (prsC (P ++ [(x, y)])).set (P.length * 2 + 1) (.int .i64 z) = prsC (P ++ [(x, z)]) := by
  have e : ∀ v : Int, prsC (P ++ [(x, v)]) = prsC P ++ [.int .i64 x, .int .i64 v] := fun v => by simp [prsC, prC]
  rw [e, e, List.set_append_right _ _ (by rw [prsC_len]; omega), prsC_len, show P.length * 2 + 1 - P.length * 2 = 1 by omega]
  try rfl
theorem own_prs {X : World} {Bb E : Nat} {v : Value} {P : List (Int × Int)} {x y : Int} (h : X.ownsRow Bb E 2 v (P ++ [(x, y)]).length (prsC (P ++ [(x, y)]))) : ∃ q cap, v = .slice (some ⟨q, 0, none⟩) (P.length + 1) cap ∧ q < X.heap.size ∧ Bb ≤ q ∧ X.cell? ⟨q, P.length * 2, none⟩ = some (.int .i64 x) ∧ X.cell? ⟨q, P.length * 2 + 1, none⟩ = some (.int .i64 y) ∧ ∀ j, X.frozen? ⟨q, j, none⟩ = false := by
  have h0 := h
  obtain ⟨hl, hc⟩ := h
  rcases hc with ⟨rfl, h1⟩ | ⟨g, cap, cur, rfl, hg, hh, hn, -⟩
  · simp at h1
  · refine ⟨g, cap, by simp, (Array.getElem?_eq_some_iff.1 hh).1, hg, ?_, ?_, fun j => by simp [World.frozen?, hh]⟩
    · rw [h0.cellAt _ (by simp <;> omega)]
      exact prs_at P (x, y) [] 0 (by decide)
    · rw [h0.cellAt _ (by simp <;> omega)]
      exact prs_at P (x, y) [] 1 (by decide)
theorem own_prs2 {X : World} {Bb E q m cq : Nat} {P : List (Int × Int)} {x y : Int} (h : X.ownsRow Bb E 2 (.slice (some ⟨q, 0, none⟩) m cq) (P ++ [(x, y)]).length (prsC (P ++ [(x, y)]))) : q < X.heap.size ∧ Bb ≤ q ∧ X.cell? ⟨q, P.length * 2, none⟩ = some (.int .i64 x) ∧ X.cell? ⟨q, P.length * 2 + 1, none⟩ = some (.int .i64 y) ∧ ∀ j, X.frozen? ⟨q, j, none⟩ = false := by
  obtain ⟨q', cap, e, h1, h2, h3, h4, h5⟩ := own_prs h
  have : q = q' := by
    injection e with e1
    injection e1 with e1
    injection e1 with e1
  subst this
  exact ⟨h1, h2, h3, h4, h5⟩
theorem pairs_snoc {W : World} {B E : Nat} {v : Value} {l : List (Int × Int)} {p : Int × Int} (h : W.ownsRow B E 2 v (l.length + 1) (prsC l ++ prC p)) : W.ownsRow B E 2 v (l ++ [p]).length (prsC (l ++ [p])) := by
  rw [prsC_snoc]
  simpa using h
theorem info99 : ∃ i, Tryz.prog.info? 99 = some i ∧ i.zero = some (.agg #[.int .i64 0, .int .i64 0]) ∧ i.size = 2 ∧ i.bytes = 16 := by
  have h : (Tryz.prog.info? 99).map (fun i => (i.zero, i.size, i.bytes)) = some (some (.agg #[.int .i64 0, .int .i64 0]), 2, 16) := by kernel_rfl
  cases hi : Tryz.prog.info? 99 with
  | none => rw [hi] at h; cases h
  | some i => rw [hi] at h; simp at h; exact ⟨i, rfl, h.1, h.2.1, h.2.2⟩
theorem datesR_len (l : List Card) : (datesR l).length ≤ l.length := by
  have : ∀ (ds out : List Int), (ds.foldl insD out).length ≤ out.length + ds.length := fun ds => by
    induction ds with
    | nil => intro out; simp
    | cons d ds ih =>
      intro out
      have h1 := ih (insD out d)
      have h2 := (insD_len out d).1
      simp; omega
  simpa [datesR] using this (l.map Card.da) []
theorem c113_H {l : List Card} {v : Value} {st da : Int} {W : World} (hcv : CardsV W v l) (hn : l.length ≤ 200) : Calls Tryz.prog 113 #[v, .int .i64 st, .int .i64 da] W fun e w' => (∃ a cap, e = .returned (.slice a (dailiesR l st da).length cap)) ∧ Below W.heap.size W w' := (c113 l v st da W hcv hn).mono fun e w' h => by
  obtain ⟨v', rfl, ho, hb⟩ := h
  rcases ho.2 with ⟨e1, e2⟩ | ⟨g, cap, cur, e1, -⟩
  · exact ⟨⟨none, 0, by rw [e1, e2]⟩, hb⟩
  · exact ⟨⟨_, cap, by rw [e1]⟩, hb⟩
theorem insD_mem {out : List Int} {d x : Int} (h : x ∈ insD out d) : x ∈ out ∨ x = d := by
  unfold insD at h
  split at h
  · exact .inl h
  · simp at h
    rcases h with h | h | h
    · exact .inl (List.mem_of_mem_take h)
    · exact .inr h
    · exact .inl (List.mem_of_mem_drop h)
theorem dates_mem {l : List Card} {x : Int} (h : x ∈ datesR l) : ∃ c ∈ l, c.da = x := by
  have : ∀ (ds out : List Int), x ∈ ds.foldl insD out → x ∈ out ∨ x ∈ ds := fun ds => by
    induction ds with
    | nil => intro out h; exact .inl h
    | cons d ds ih =>
      intro out h
      rcases ih _ h with h | h
      · rcases insD_mem h with h | rfl
        · exact .inl h
        · exact .inr (by simp)
      · exact .inr (by simp [h])
  rcases this _ _ h with h | h
  · cases h
  · obtain ⟨c, hc, e⟩ := List.mem_map.1 h
    exact ⟨c, hc, e⟩
set_option maxRecDepth 100000 in
set_option maxHeartbeats 16000000 in
theorem c70 (l : List Card) (v : Value) (st : Int) (w : World) (hcv : CardsV w v l) (hn : l.length ≤ 200) (hda : ∀ c ∈ l, 0 ≤ c.da ∧ c.da ≤ 60000) : Calls Tryz.prog 70 #[v, .int .i64 st] w fun e w' => ∃ v, e = .returned v ∧ w'.ownsRow w.heap.size 99 2 v (runsR l st).length (prsC (runsR l st)) ∧ Below w.heap.size w w' := by
  obtain ⟨inf, i1, i2, i3, i4⟩ := info99
  have HCV := Lib.hid hcv
  have H112 := Lib.hid (c112 l v w hcv hn)
  have HDA := Lib.hid hda
  obtain ⟨a0, cap0, ev, -⟩ := hcv
  subst ev
  clear hda
  obtain ⟨nn, hnn⟩ : ∃ nn, l.length = nn := ⟨_, rfl⟩
  rw [hnn] at HCV H112 ⊢
  have hdl := datesR_len l
  have HLN := Lib.hid hnn
  have HDB : Hid (∀ x ∈ datesR l, 0 ≤ x ∧ x ≤ 60000) := Lib.hid fun x hx => by
    obtain ⟨c, hc, rfl⟩ := dates_mem hx
    exact HDA.out c hc
  clear hnn HDA
  go_enter Tryz.func70, Tryz.ntmps70
  go_wp2_with fail
  refine H112.out.mono ?_
  rintro e w1 ⟨vd, rfl, hod, hb1⟩
  obtain ⟨ds, hds⟩ : ∃ ds, datesR l = ds := ⟨_, rfl⟩
  obtain ⟨n, hnd⟩ : ∃ n, ds.length = n := ⟨_, rfl⟩
  have hfd : ∃ p c, vd = .slice p n c := by
    rcases hod.2 with ⟨e1, e2⟩ | ⟨g, cp, cur, e1, -⟩
    · rw [hds, hnd] at e2; exact ⟨none, 0, by rw [e1, e2]⟩
    · rw [hds, hnd] at e1; exact ⟨_, cp, e1⟩
  obtain ⟨pd, cd, rfl⟩ := hfd
  rw [hds] at hod hdl HDB
  rw [hnd] at hdl
  have HOD := Lib.hid hod
  have HND := Lib.hid hnd
  have HDS := Lib.hid hds
  have HB1 := Lib.hid hb1
  clear hod hb1 hnd hds H112
  go_wp2_with fail
  go_loopw [5, 7] (fun v k wr => ∃ (i : Nat) (out : List (Int × Int)), i ≤ n ∧ out.length ≤ i ∧ k = .int .i64 i ∧ Hid (out = runsF ((ds.take i).filter fun d => !(dailiesR l st d).isEmpty)) ∧ Hid (∀ r ∈ out, 0 ≤ r.1 ∧ r.1 ≤ 60000 ∧ 0 ≤ r.2 ∧ r.2 ≤ (i : Int)) ∧ Hid (wr.ownsRow w1.heap.size 99 2 v out.length (prsC out)) ∧ Hid (Below w1.heap.size w1 wr)) (fun _ k _ => n - (intOf k).toNat)
  case atStart => exact ⟨0, [], by omega, by simp, rfl, Lib.hid rfl, Lib.hid (by simp), Lib.hid ⟨rfl, .inl ⟨rfl, rfl⟩⟩, Lib.hid (xr _)⟩
  case round =>
    obtain ⟨i, out, hi, hol, rfl, hout, hbd, hown, hb⟩ := hrel
    by_cases hlt : i < n
    · obtain ⟨d, hd⟩ : ∃ d, ds[i]? = some d := by
        have := HND.out
        exact ⟨ds[i]'(by omega), by simp⟩
      have hstep := runs_step (p := fun d => !(dailiesR l st d).isEmpty) hd
      have hdb := HDB.out d (List.mem_of_getElem? hd)
      have hod2 : (w1.ownsRow w.heap.size 3 1 (.slice pd n cd) ds.length (intsC ds)) := HOD.out
      obtain ⟨qd, cpd, ed, hcpd, lqd, -, hall⟩ := ints_at hod2 hd
      injection ed with ed1 ed2 ed3
      subst ed1
      have hdq := (hb.out.cell (p := ⟨qd, i, none⟩) lqd).trans (hall i d hd)
      have lqd2 := World.block_lt_of_cell? _ _ hdq
      simp only at lqd2
      clear hd hod2 hall ed2 ed3 hcpd lqd
      have hBw := below_trans HB1.out hb.out
      have H113 := Lib.hid (fun W (h : Below w.heap.size w W) => c113_H (st := st) (da := d) (HCV.out.below h) hn)
      obtain ⟨dl, hdl2⟩ : ∃ dl, dailiesR l st d = dl := ⟨_, rfl⟩
      rw [hdl2] at H113
      simp only [hdl2] at hstep
      clear hdl2
      cases dl with
      | nil =>
        have hH : Hid (out = runsF ((ds.take (i + 1)).filter fun d => !(dailiesR l st d).isEmpty)) := Lib.hid (by rw [hstep, hout.out]; rfl)
        have hbd2 : Hid (∀ r ∈ out, 0 ≤ r.1 ∧ r.1 ≤ 60000 ∧ 0 ≤ r.2 ∧ r.2 ≤ ((i + 1 : Nat) : Int)) := Lib.hid fun r hr => by have := hbd.out r hr; omega
        clear hstep hout hbd
        go_wp2_with fail
        refine (H113.out _ hBw).mono ?_
        rintro e w2 ⟨⟨a2, cap2, rfl⟩, hb2⟩
        clear H113 hBw
        go_wp2_with fail
        go_roundw
        case rel => exact ⟨i + 1, out, by omega, by omega, by go_num, hH, hbd2, Lib.hid (own_keepN hown.out hb2), Lib.hid (below_trans hb.out hb2)⟩
        case measure => simp [intOf]; omega
      | cons c0 cs =>
        have hH : Hid (runStep out d = runsF ((ds.take (i + 1)).filter fun d => !(dailiesR l st d).isEmpty)) := Lib.hid (by rw [hstep, hout.out]; rfl)
        clear hstep hout
        rcases List.eq_nil_or_concat out with rfl | ⟨P, r, eP⟩
        · have hf : ∃ p c, u5 = .slice p 0 c := by
            rcases hown.out.2 with ⟨e1, e2⟩ | ⟨g, cp, cur, e1, -⟩
            · exact ⟨none, 0, e1⟩
            · exact ⟨_, cp, e1⟩
          obtain ⟨p5, c5, rfl⟩ := hf
          go_wp2_with fail
          refine (H113.out _ hBw).mono ?_
          rintro e w2 ⟨⟨a2, cap2, rfl⟩, hb2⟩
          have hown2 := Lib.hid (own_keepN hown.out hb2)
          have hbw2 := Lib.hid (below_trans hb.out hb2)
          clear H113 hBw hown hb hb2 hdq lqd2
          go_wp2_with fail
          refine wp_region_gw (by kernel_rfl) (by kernel_rfl) ?_
          repeat (go_big_quiet_step (fail))
          refine wpQuiet_nil ?_
          rintro _ ⟨y, rfl⟩
          obtain ⟨Z, hZ⟩ : ∃ Z, gw w2 y = Z := ⟨_, rfl⟩
          have hbZ : Below w2.heap.size w2 Z := by rw [← hZ]; exact gw_below _ _
          have hownZ := Lib.hid (own_keepN hown2.out hbZ)
          have hbwZ := Lib.hid (below_trans hbw2.out hbZ)
          rw [hZ]
          clear hZ y hbZ hown2 hbw2
          go_wp2_with (at_builtin; refine wpList_append_own _ rfl (.tmp 56) (.tmp 59) 95 rfl w1.heap.size 99 inf _ 2 16 Tryz.underlying95 i1 i2 i3 i4 rfl (by decide) _ _ _ rfl (hownZ.out.alloc _) ⟨Z.heap.size, 0, none⟩ 1 1 (prC (d, 1)) rfl rfl pr_new (pr_cells _ _) (by simp [maxLen] <;> omega) (by simp <;> omega) (by have := hbwZ.out.size; simp <;> omega) ?_; intro v1 w3 hown1 hgrow1 _; have hB1 := Lib.hid (own_belowN (xa hbwZ.out _) (hownZ.out.alloc _) hgrow1); clear hgrow1)
          go_roundw
          case rel => exact ⟨i + 1, [(d, 1)], by omega, by simp, by go_num, hH, Lib.hid (by intro r hr; simp at hr; subst hr; simp; omega), Lib.hid (pairs_snoc (l := []) hown1), hB1⟩
          case measure => simp [intOf]; omega
        · rw [List.concat_eq_append] at eP
          subst eP
          obtain ⟨x, y⟩ := r
          have hxy := hbd.out (x, y) (by simp)
          simp only at hxy
          have hPl : P.length + 1 ≤ i := by simpa using hol
          obtain ⟨q, cq, rfl, lq, hBq, -, -, -⟩ := own_prs hown.out
          go_wp2_with fail
          refine (H113.out _ hBw).mono ?_
          rintro e w2 ⟨⟨a2, cap2, rfl⟩, hb2⟩
          have hown2 := Lib.hid (own_keepN hown.out hb2)
          have hbw2 := Lib.hid (below_trans hb.out hb2)
          clear H113 hBw hown hb hb2 hdq lqd2 lq
          obtain ⟨lq, -, z0, z1, zF⟩ := own_prs2 hown2.out
          by_cases hx : x + y = d
          · have hxb : (x + y == d) = true := by simpa using hx
            have hH2 : Hid (P ++ [(x, y + 1)] = runsF ((ds.take (i + 1)).filter fun d => !(dailiesR l st d).isEmpty)) := Lib.hid (by rw [← hH.out, runStep_on P x y d hx])
            go_wp2_with fail
            refine wp_region_gw (by kernel_rfl) (by kernel_rfl) ?_
            repeat (go_big_quiet_step (fail))
            refine wpQuiet_nil ?_
            rintro _ ⟨yy, rfl⟩
            obtain ⟨Z, hZ⟩ : ∃ Z, gw w2 yy = Z := ⟨_, rfl⟩
            have hbZ : Below w2.heap.size w2 Z := by rw [← hZ]; exact gw_below _ _
            have hownZ := Lib.hid (own_keepN hown2.out hbZ)
            have hbwZ := Lib.hid (below_trans hbw2.out hbZ)
            rw [hZ]
            clear hZ yy hown2 hbw2 z0 z1 zF lq
            obtain ⟨lq, -, z0, z1, zF⟩ := own_prs2 hownZ.out
            clear hH hx
            go_wp2_with fail
            go_roundw
            case rel => exact ⟨i + 1, P ++ [(x, y + 1)], by omega, by simp; omega, by go_num, hH2, Lib.hid (by
                intro r hr
                rcases List.mem_append.1 hr with h | h
                · have := hbd.out r (List.mem_append_left _ h); omega
                · simp at h; subst h; simp; omega), Lib.hid (by have h8 := hownZ.out; rw [show (P ++ [(x, y)]).length = P.length + 1 by simp] at h8; have h9 := own_set (j := P.length * 2 + 1) h8 (.int .i64 (y + 1)); rw [prs_set] at h9; rw [show (P ++ [(x, y + 1)]).length = P.length + 1 by simp]; exact h9), Lib.hid (xs hbwZ.out (by simpa using hBq) _)⟩
            case measure => simp [intOf]; omega

          · have hxb : (x + y == d) = false := by simpa using hx
            have hH2 : Hid (P ++ [(x, y)] ++ [(d, 1)] = runsF ((ds.take (i + 1)).filter fun d => !(dailiesR l st d).isEmpty)) := Lib.hid (by rw [← hH.out, runStep_new P x y d hx])
            go_wp2_with fail
            refine wp_region_gw (by kernel_rfl) (by kernel_rfl) ?_
            repeat (go_big_quiet_step (fail))
            refine wpQuiet_nil ?_
            rintro _ ⟨yy, rfl⟩
            obtain ⟨Z, hZ⟩ : ∃ Z, gw w2 yy = Z := ⟨_, rfl⟩
            have hbZ : Below w2.heap.size w2 Z := by rw [← hZ]; exact gw_below _ _
            have hownZ := Lib.hid (own_keepN hown2.out hbZ)
            have hbwZ := Lib.hid (below_trans hbw2.out hbZ)
            rw [hZ]
            clear hZ yy hown2 hbw2 z0 z1 zF lq
            obtain ⟨lq, -, z0, z1, zF⟩ := own_prs2 hownZ.out
            clear hH z0 z1 zF lq
            go_wp2_with (at_builtin; refine wpList_append_own _ rfl (.tmp 56) (.tmp 59) 95 rfl w1.heap.size 99 inf _ 2 16 Tryz.underlying95 i1 i2 i3 i4 rfl (by decide) _ _ _ rfl (hownZ.out.alloc _) ⟨Z.heap.size, 0, none⟩ 1 1 (prC (d, 1)) rfl rfl pr_new (pr_cells _ _) (by simp [maxLen] <;> omega) (by simp <;> omega) (by have := hbwZ.out.size; simp <;> omega) ?_; intro v1 w3 hown1 hgrow1 _; have hB1 := Lib.hid (own_belowN (xa hbwZ.out _) (hownZ.out.alloc _) hgrow1); clear hgrow1)
            go_roundw
            case rel => exact ⟨i + 1, P ++ [(x, y)] ++ [(d, 1)], by omega, by simp; omega, by go_num, hH2, Lib.hid (by
                intro r hr
                rcases List.mem_append.1 hr with h | h
                · have := hbd.out r h; omega
                · simp at h; subst h; simp; omega), Lib.hid (pairs_snoc hown1), hB1⟩
            case measure => simp [intOf]; omega

    · obtain rfl : i = n := by omega
      have he : out = runsR l st := by rw [hout.out, List.take_of_length_le (by rw [HND.out]; omega), runsR, HDS.out]
      subst he
      have HO := hown
      go_wp2_with fail
      go_ret
      exact ⟨_, rfl, ownsRow_base HO.out HB1.out.size, below_trans HB1.out hb.out⟩
end Go.Proofs.YthifeoebefbalaaGreatDoor

namespace Go.Proofs.YthifeoebefbalaaGreatDoor
open Go.RowKit Go.Maps

/-- An element of the map is held as the value that it is. -/
def rv (v : Value) : Option (DataW Value × List MemPlace) := some (.held v, [])
def nilS : Value := .slice none 0 0
theorem keyed3 : Keyed Tryz.prog 3 := int_keyed Tryz.underlying3
def ik (d : Int) : Lit := .int .i64 d
theorem ik_wf {d : Int} (h1 : -9223372036854775808 ≤ d) (h2 : d ≤ 9223372036854775807) : (ik d).wf = true := by simp [ik, Lit.wf]; exact ⟨h1, h2⟩
theorem wf_ik {d : Int} (h : (Lit.int .i64 d).wf = true) : -9223372036854775808 ≤ d ∧ d ≤ 9223372036854775807 := by simp [Lit.wf] at h; exact h
theorem key3 {d : Int} (h1 : -9223372036854775808 ≤ d) (h2 : d ≤ 9223372036854775807) : keyOf Tryz.prog 3 (.int .i64 d) = some (ik d) := keyOf_int_mk Tryz.underlying3 (ik_wf h1 h2)
theorem ik_key (d : Int) : WideAt.IsKeyLit (ik d) := by simp [ik, WideAt.IsKeyLit]
theorem ik_ne {d e : Int} (h : d ≠ e) : ik d ≠ ik e := fun h' => by injection h' with _ h'; exact h h'
theorem ik_same (d e : Int) : (ik d).sameKey (ik e) = (d == e) := by
  by_cases h : d = e <;> simp [ik, Lit.sameKey, h]
theorem zero49 (w : World) : (zeroValue 49).run Tryz.prog w = .ok nilS w := by kernel_rfl

/-- Block b is a map of at most n entries, with V d at d; K d says whether d is there. -/
def CMap (w : World) (b n : Nat) (V : Int → Value) (K : Int → Bool) : Prop := ∃ D : DataW Value, w.ownsMap Tryz.prog 3 rv b n D ∧ ∀ d, has D (ik d) = K d ∧ D.atKey (ik d) (.held nilS) = .held (V d)
theorem CMap.made (w : World) : CMap (w.alloc (.map #[] 0)) w.heap.size 0 (fun _ => nilS) (fun _ => false) := ⟨.map [], World.ownsMap_made w _ _ _, fun d => ⟨rfl, rfl⟩⟩
theorem CMap.mono {w : World} {b n n' : Nat} {V : Int → Value} {K : Int → Bool} (h : CMap w b n V K) (hn : n ≤ n') : CMap w b n' V K := by
  obtain ⟨D, h1, h2⟩ := h
  exact ⟨D, h1.mono hn, h2⟩
theorem CMap.lt {w : World} {b n : Nat} {V : Int → Value} {K : Int → Bool} (h : CMap w b n V K) : b < w.heap.size := by
  obtain ⟨D, h1, h2⟩ := h
  exact h1.lt
theorem CMap.kept {w w' : World} {b n : Nat} {V : Int → Value} {K : Int → Bool} {row : Option Nat} (h : CMap w b n V K) (hg : w.grownBy w' row) (hne : some b ≠ row) : CMap w' b n V K := by
  obtain ⟨D, h1, h2⟩ := h
  exact ⟨D, h1.kept hg hne, h2⟩
theorem CMap.below {w w' : World} {b n : Nat} {V : Int → Value} {K : Int → Bool} {B : Nat} (h : CMap w b n V K) (hg : Below B w w') (hb : b < B) : CMap w' b n V K := by
  obtain ⟨D, ⟨es, clock, h1, h2⟩, h3⟩ := h
  exact ⟨D, ⟨es, clock, (hg.block b hb).trans h1, h2⟩, h3⟩
/-- m[d]. -/
theorem CMap.look {w : World} {b n : Nat} {V : Int → Value} {K : Int → Bool} (h : CMap w b n V K) {d : Int} (h1 : -9223372036854775808 ≤ d) (h2 : d ≤ 9223372036854775807) : (Instr.lookup 133 (.map (some b)) (.int .i64 d) false).run Tryz.prog w = .ok (V d) w := by
  obtain ⟨D, ho, hd⟩ := h
  obtain ⟨v, ps, hr, hv⟩ := ho.lookup keyed3 Tryz.underlying133 (zero49 w) (zd := .held nilS) (zp := []) rfl (key3 h1 h2)
  rw [(hd d).2] at hv
  simp only [rv, Option.some.injEq, Prod.mk.injEq, DataW.held.injEq] at hv
  rw [hr, hv.1]
/-- m[d] = v. -/
theorem CMap.store {w : World} {b n : Nat} {V : Int → Value} {K : Int → Bool} (h : CMap w b n V K) (hn : n < maxLen) {d : Int} (v : Value) (h1 : -9223372036854775808 ≤ d) (h2 : d ≤ 9223372036854775807) :
    ∃ w', (Instr.mapUpdate 133 (.map (some b)) (.int .i64 d) v).run Tryz.prog w = .ok () w' ∧ CMap w' b (n + 1) (fun z => if z = d then v else V z) (fun z => z == d || K z) ∧ w.grownBy w' (some b) := by
  obtain ⟨D, ho, hd⟩ := h
  obtain ⟨w', hr, ho', hg⟩ := ho.update keyed3 Tryz.underlying133 hn (key3 h1 h2) (d := .held v) (ps := []) (val := v) rfl
  refine ⟨w', hr, ⟨_, ho', fun z => ?_⟩, hg⟩
  by_cases hz : z = d
  · subst hz
    simp only [if_true, beq_self_eq_true, Bool.true_or]
    exact ⟨has_put_same ho.isMap (ik_key z) _, atKey_put_same ho.isMap (ik_key z) _ _⟩
  · have hb : (z == d) = false := by simpa using hz
    simp only [if_neg hz, hb, Bool.false_or]
    exact ⟨(has_put_other (ik_ne hz) _).trans (hd z).1, (atKey_put_other (ik_ne hz) _ _).trans (hd z).2⟩

/-- A loop over the map is under way in the iterator r: L d says whether d is still to come. -/
def CRange (w : World) (b r n : Nat) (V : Int → Value) (K L : Int → Bool) (cnt : Nat) : Prop := ∃ (D : DataW Value) (left : Lit → Bool), w.ranges Tryz.prog 3 rv b r n D left cnt ∧ (∀ d, has D (ik d) = K d ∧ D.atKey (ik d) (.held nilS) = .held (V d)) ∧ (∀ d, left (ik d) = L d) ∧ ∀ d, L d = true → K d = true
theorem CRange.owns {w : World} {b r n : Nat} {V : Int → Value} {K L : Int → Bool} {cnt : Nat} (h : CRange w b r n V K L cnt) : CMap w b n V K := by
  obtain ⟨D, left, h1, h2, -⟩ := h
  exact ⟨D, h1.owns, h2⟩
theorem CRange.left_eq {w : World} {b r n : Nat} {V : Int → Value} {K L : Int → Bool} {cnt : Nat} (h : CRange w b r n V K L cnt) : w.rangeLeft b r = cnt := by
  obtain ⟨D, left, h1, -⟩ := h
  exact h1.left_eq
theorem CRange.ne {w : World} {b r n : Nat} {V : Int → Value} {K L : Int → Bool} {cnt : Nat} (h : CRange w b r n V K L cnt) : r ≠ b := by
  obtain ⟨D, left, h1, -⟩ := h
  exact h1.ne
theorem CRange.lt {w : World} {b r n : Nat} {V : Int → Value} {K L : Int → Bool} {cnt : Nat} (h : CRange w b r n V K L cnt) : r < w.heap.size := by
  obtain ⟨D, left, h1, -⟩ := h
  exact h1.lt
theorem CRange.kept {w w' : World} {b r n : Nat} {V : Int → Value} {K L : Int → Bool} {cnt : Nat} {row : Option Nat} (h : CRange w b r n V K L cnt) (hg : w.grownBy w' row) (hb : some b ≠ row) (hr : some r ≠ row) : CRange w' b r n V K L cnt := by
  obtain ⟨D, left, h1, h2⟩ := h
  exact ⟨D, left, h1.kept hg hb hr, h2⟩
theorem CRange.below {w w' : World} {b r n : Nat} {V : Int → Value} {K L : Int → Bool} {cnt B : Nat} (h : CRange w b r n V K L cnt) (hg : Below B w w') (hb : b < B) (hr : r < B) : CRange w' b r n V K L cnt := by
  obtain ⟨D, left, ⟨es, clock, since, seen, c0, h1, h2, h3, h4, h5, h6⟩, h7⟩ := h
  exact ⟨D, left, ⟨es, clock, since, seen, c0, (hg.block b hb).trans h1, h2, h3, h4, (hg.block r hr).trans h5, h6⟩, h7⟩
section
variable {w : World} {ops : Array Oper} {rest : List Oper} {o : Oper} {a : Act} {Q : Exit → Act → World → Prop}
/-- range m. -/
theorem wpList_range_cards (hg : o.guard = none) (m : Operand) (hop : o.op = Op.range 133 m) (b n : Nat) (V : Int → Value) (K : Int → Bool) (hm : a.eval m = .map (some b)) (hown : CMap w b n V K)
    (hK : ∀ w' cnt, CRange w' b w.heap.size n V K K cnt → cnt ≤ n → w.grownBy w' none → w'.heap.size = w.heap.size + 1 → wpList Tryz.prog ops Q rest (a.put o.dst (.pointer (some ⟨w.heap.size, 0, none⟩))) w') :
    wpList Tryz.prog ops Q (o :: rest) a w := by
  obtain ⟨D, ho, hd⟩ := hown
  refine wpList_range_own w hg m 133 hop 3 49 keyed3 Tryz.underlying133 rv b n D hm ho fun w' h1 h2 h3 => hK w' _ ⟨D, has D, h1, hd, fun d => (hd d).1, fun d h => h⟩ ho.size_le h2 h3
/-- The step. -/
theorem wpList_next_cards (hg : o.guard = none) (it : Operand) (hop : o.op = Op.next it false) (b r n : Nat) (V : Int → Value) (K L : Int → Bool) (cnt : Nat) (hit : a.eval it = .pointer (some ⟨r, 0, none⟩)) (h : CRange w b r n V K L cnt)
    (hDone : (∀ d, L d = false) → wpList Tryz.prog ops Q rest (a.put o.dst (.tuple #[.bool false])) w)
    (hMore : ∀ (x : Int) (w' : World) (cnt' : Nat), (-9223372036854775808 ≤ x ∧ x ≤ 9223372036854775807) → L x = true → K x = true → CRange w' b r n V K (fun z => L z && !(z == x)) cnt' → cnt' < cnt →
      w.grownBy w' (some r) → w'.heap.size = w.heap.size → (Instr.entry (.pointer (some ⟨r, 0, none⟩))).run Tryz.prog w' = .ok (.tuple #[.int .i64 x, V x]) w' → wpList Tryz.prog ops Q rest (a.put o.dst (.tuple #[.bool true, .int .i64 x, V x])) w') :
    wpList Tryz.prog ops Q (o :: rest) a w := by
  obtain ⟨D, left, hr, hd, hl, hlk⟩ := h
  refine wpList_next_ranges w hg it hop 3 keyed3 rv (Value.int .i64) id (fun key kl hkey => by obtain ⟨x, rfl, _⟩ := keyOf_int_inv Tryz.underlying3 hkey; exact ⟨x, rfl⟩) (fun v y hv => ⟨v, rfl⟩) b r n D left cnt hit hr (fun _ h0 => hDone fun d => (hl d).symm.trans (h0 _)) ?_
  intro x c kl y w' cnt' hkey hlx hv hat hrg hlt hgr hsz hen
  obtain ⟨x', ex, rfl, hwx⟩ := keyOf_int_inv Tryz.underlying3 hkey
  cases ex
  have hL : L x = true := (hl x).symm.trans hlx
  have hc : c = V x := by
    have h1 := hat (.held nilS)
    rw [show Lit.int .i64 x = ik x from rfl, (hd x).2] at h1
    simp only [rv, id, Option.some.injEq] at hv
    rw [← hv] at h1
    exact (DataW.held.inj h1).symm
  subst hc
  exact hMore x w' cnt' (wf_ik hwx) hL (hlk x hL) ⟨D, _, hrg, hd, fun d => by show (left (ik d) && !(ik d).sameKey (ik x)) = _; rw [hl, ik_same], fun d h => hlk d (by simp at h; exact h.1)⟩ hlt hgr hsz hen
end
end Go.Proofs.YthifeoebefbalaaGreatDoor
