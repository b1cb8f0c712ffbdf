/- Lists of cards that come in; their errors; PrintSheet. -/
import Derived.Test.YthifeoebefbalaaGreatDoorV14
import Derived.Test.YthifeoebefbalaaGreatDoorZ14
import Derived.Deep.Slices
set_option linter.unusedVariables false
set_option linter.unusedSimpArgs false
namespace Go.Proofs.YthifeoebefbalaaGreatDoor
open Go.ChangeShapes Go.WideShapes Go.ChangeAt Go.RowKit

/-- A slice of cards. -/
def CardsV (w : World) (v : Value) (l : List Card) : Prop := ∃ a cap, v = .slice a l.length cap ∧ (l ≠ [] → ∃ b o, a = some ⟨b, o, none⟩ ∧ CardsAt w b o l)
theorem CardsV.below {w w' : World} {v : Value} {l : List Card} (h : CardsV w v l) (hb : Below w.heap.size w w') : CardsV w' v l := by
  obtain ⟨a, cap, rfl, k⟩ := h
  refine ⟨a, cap, rfl, fun hne => ?_⟩
  obtain ⟨b, o, e, hc⟩ := k hne
  exact ⟨b, o, e, hc.below hb⟩
set_option maxRecDepth 100000 in
theorem c93_nil (a : Option Addr) (cap : Nat) (w : World) : Calls Tryz.prog 93 #[.slice a 0 cap] w fun e w' => e = .returned (.int .i64 0) ∧ Below w.heap.size w w' := by
  go_enter Tryz.func93, Tryz.ntmps93
  go_wp2
  refine wp_loop_rounds 1 ?_
  rw [rounds_succ]
  go_wp2
  go_ret
  exact ⟨rfl, xr _⟩
theorem c93v (l : List Card) (v : Value) (w : World) (h : CardsV w v l) (hlen : l.length < 2 ^ 40) : Calls Tryz.prog 93 #[v] w fun e w' => e = .returned (.int .i64 (eachErr l)) ∧ Below w.heap.size w w' := by
  obtain ⟨a, cap, rfl, k⟩ := h
  by_cases hne : l = []
  · subst hne; exact c93_nil a cap w
  · obtain ⟨b, o, rfl, hc⟩ := k hne
    exact c93 l b o cap w hc hlen
def allErr (l : List Card) : Int := if 100 < l.length then 2 else eachErr l
theorem c87 (l : List Card) (v : Value) (w : World) (h : CardsV w v l) (hlen : l.length < 2 ^ 40) : Calls Tryz.prog 87 #[v] w fun e w' => e = .returned (.int .i64 (allErr l)) ∧ Below w.heap.size w w' := by
  have H := Lib.hid (c93v l v w h hlen)
  obtain ⟨a, cap, rfl, -⟩ := h
  unfold allErr
  generalize eachErr l = x at *
  generalize l.length = n at *
  by_cases hn : 100 < n
  · rw [if_pos hn]
    go_enter Tryz.func87, Tryz.ntmps87
    go_wp2_with fail
    go_ret
    exact ⟨rfl, xr _⟩
  · rw [if_neg hn]
    go_enter Tryz.func87, Tryz.ntmps87
    go_wp2_with (go_at_call 93; refine H.out.mono ?_; rintro e w1 ⟨rfl, hb1⟩)
    go_ret
    exact ⟨rfl, hb1⟩
theorem c88f (st da dy ki am fi : Int) (w : World) (hE : Env w) (h : isCard ⟨st, da, dy, ki, am, fi⟩ = true) : Calls Tryz.prog 88 #[.agg #[.int .i64 st, .int .i64 da, .int .i64 dy, .int .i64 ki, .int .i64 am, .int .i64 fi]] w fun e w' => e = .returned (.string ⟨(ctext ⟨st, da, dy, ki, am, fi⟩).toArray⟩) ∧ Below w.heap.size w w' := c88 ⟨st, da, dy, ki, am, fi⟩ w hE h
def psheet (l : List Card) : List UInt8 × Int := if allErr l = 0 then (sheetText l, 0) else ([], allErr l)
theorem c40_bad (l : List Card) (v : Value) (w : World) (h : CardsV w v l) (hlen : l.length < 2 ^ 40) (he : allErr l ≠ 0) : Calls Tryz.prog 40 #[v] w fun e w' => e = .returned (.tuple #[.string ⟨#[]⟩, .int .i64 (allErr l)]) ∧ Below w.heap.size w w' := by
  have H := Lib.hid (c87 l v w h hlen)
  generalize allErr l = x at *
  clear h
  go_enter Tryz.func40, Tryz.ntmps40
  go_wp2_with (go_at_call 87; refine H.out.mono ?_; rintro e w1 ⟨rfl, hb1⟩)
  go_ret2
  exact ⟨rfl, hb1⟩
theorem eachErr_true {l : List Card} (h : allErr l = 0) : l.length ≤ 100 ∧ ∀ c ∈ l, isCard c = true := by
  unfold allErr at h
  split at h
  · cases h
  · rename_i hn
    unfold eachErr at h
    split at h
    · rename_i ha
      exact ⟨by omega, fun c hc => List.all_eq_true.1 ha c hc⟩
    · cases h
set_option maxRecDepth 100000 in
theorem c40_nil (a : Option Addr) (cap : Nat) (w : World) : Calls Tryz.prog 40 #[.slice a 0 cap] w fun e w' => e = .returned (.tuple #[.string ⟨#[]⟩, .int .i64 0]) ∧ Below w.heap.size w w' := by
  have H := Lib.hid (c87 [] (.slice a 0 cap) w ⟨a, cap, rfl, fun h => absurd rfl h⟩ (by simp))
  have e : allErr [] = 0 := rfl
  rw [e] at H
  go_enter Tryz.func40, Tryz.ntmps40
  go_wp2_with (go_at_call 87; refine H.out.mono ?_; rintro e w1 ⟨rfl, hb1⟩)
  refine wp_loop_rounds 1 ?_
  rw [rounds_succ]
  go_wp2
  go_ret2
  exact ⟨rfl, hb1⟩
set_option maxRecDepth 100000 in
set_option maxHeartbeats 2000000 in
theorem c40_ok (l : List Card) (b o cap : Nat) (w : World) (hE : Env w) (h : CardsAt w b o l) (he : allErr l = 0) (hne : l ≠ []) : Calls Tryz.prog 40 #[.slice (some ⟨b, o, none⟩) l.length cap] w fun e w' => e = .returned (.tuple #[.string ⟨(sheetText l).toArray⟩, .int .i64 0]) ∧ Below w.heap.size w w' := by
  obtain ⟨h100, hv⟩ := eachErr_true he
  have H := Lib.hid (c87 l (.slice (some ⟨b, o, none⟩) l.length cap) w ⟨_, cap, rfl, fun _ => ⟨b, o, rfl, h⟩⟩ (by omega))
  rw [he] at H
  have HB := Lib.hid h
  have HV := Lib.hid hv
  have HE := Lib.hid hE
  clear h hv hE he hne
  obtain ⟨n, hn⟩ : ∃ n, l.length = n := ⟨_, rfl⟩
  rw [hn] at H h100 ⊢
  have HN := Lib.hid hn
  clear hn
  go_enter Tryz.func40, Tryz.ntmps40
  go_wp2_with (go_at_call 87; refine H.out.mono ?_; rintro e w1 ⟨rfl, hb1⟩)
  go_loopw [5, 15] (fun v k wr => ∃ (i : Nat) (t : List UInt8), i ≤ n ∧ k = .int .i64 i ∧ v = .string ⟨t.toArray⟩ ∧ Hid (t = sheetText (l.take i)) ∧ Below w.heap.size w wr) (fun _ k _ => n - (intOf k).toNat)
  case atStart => exact ⟨0, [], by omega, rfl, rfl, Lib.hid rfl, hb1⟩
  case round =>
    clear hb1
    obtain ⟨i, t, hi, rfl, rfl, HT, hb⟩ := hrel
    by_cases hlt : i < n
    · obtain ⟨c, hc⟩ : ∃ c, l[i]? = some c := by
        have := HN.out
        exact ⟨l[i]'(by omega), by simp⟩
      have hcs := (HB.out.below hb) i c hc
      have HC := Lib.hid hc
      have HCC := Lib.hid (HV.out c (List.mem_of_getElem? hc))
      have hl1 : t.length ≤ 5000 := by
        have h1 := sheetText_len (l.take i) (fun d hd => HV.out d (List.mem_of_mem_take hd))
        rw [← HT.out, List.length_take] at h1
        omega
      have hl2 := (print_read c HCC.out).1
      have HTT : Hid (sheetText (l.take (i + 1)) = t ++ (ctext c ++ [10])) := Lib.hid (by rw [List.take_add_one, hc, HT.out]; simp [sheetText])
      obtain ⟨st, da, dy, ki, am, fi⟩ := c
      obtain ⟨h0, h1, h2, h3, h4, h5⟩ := hcs
      have HP := fun W hW => Lib.hid (c88f st da dy ki am fi W hW HCC.out)
      generalize ctext ⟨st, da, dy, ki, am, fi⟩ = C at *
      clear hc
      simp only at h0 h1 h2 h3 h4 h5
      go_wp2_with (go_at_call 88; refine (HP _ (HE.out.below (xa hb _))).out.mono ?_; rintro e w2 ⟨rfl, hb2⟩)
      go_roundw
      case rel => exact ⟨i + 1, t ++ (C ++ [10]), by omega, by go_num, by first | rfl | simp, Lib.hid HTT.out.symm, below_trans (xa hb _) hb2⟩
      case measure => simp [intOf]; omega
    · go_wp2
      go_ret2
      have hin : i = n := by omega
      subst hin
      refine ⟨?_, hb⟩
      rw [HT.out, List.take_of_length_le (by rw [HN.out]; omega)]
      rfl
theorem c40 (l : List Card) (v : Value) (w : World) (hE : Env w) (h : CardsV w v l) (hlen : l.length < 2 ^ 40) : Calls Tryz.prog 40 #[v] w fun e w' => e = .returned (.tuple #[.string ⟨(psheet l).1.toArray⟩, .int .i64 (psheet l).2]) ∧ Below w.heap.size w w' := by
  unfold psheet
  by_cases he : allErr l = 0
  · rw [if_pos he]
    obtain ⟨a, cap, rfl, k⟩ := h
    by_cases hne : l = []
    · subst hne; exact c40_nil a cap w
    · obtain ⟨b, o, rfl, hc⟩ := k hne
      exact c40_ok l b o cap w hE hc he hne
  · rw [if_neg he]
    exact c40_bad l v w h hlen he
set_option maxRecDepth 100000 in
/-- One card's cells, read as data. -/
theorem card_cells {H : Type} {enc : TypeId × Value → H} {w : World} {base : Nat} {sp : Nat → Bool} {held : Bool} {fuel : Nat} {cs : List Value} {x : DataW H × List MemPlace} (hlen : cs.length = 6) (h : DataW.trod enc Tryz.prog w base sp held fuel 24 cs = some x) : ∃ c : Card, cs = cardCells c := by
  obtain ⟨xs, n, -, -, -, hxl, hg⟩ := DataW.trod_struct Tryz.underlying24 h
  have hc3 : Tryz.prog.cellsOf 3 = 1 := by kernel_rfl
  have hx6 : xs.length = 6 := hxl
  match cs, hlen, xs, hx6 with
  | [v0, v1, v2, v3, v4, v5], _, [y0, y1, y2, y3, y4, y5], _ =>
    have g0 : DataW.trod enc Tryz.prog w base sp held n 3 [v0] = some y0 := by have := hg 0 _ rfl; simpa [hc3] using this
    have g1 : DataW.trod enc Tryz.prog w base sp held n 3 [v1] = some y1 := by have := hg 1 _ rfl; simpa [hc3] using this
    have g2 : DataW.trod enc Tryz.prog w base sp held n 3 [v2] = some y2 := by have := hg 2 _ rfl; simpa [hc3] using this
    have g3 : DataW.trod enc Tryz.prog w base sp held n 3 [v3] = some y3 := by have := hg 3 _ rfl; simpa [hc3] using this
    have g4 : DataW.trod enc Tryz.prog w base sp held n 3 [v4] = some y4 := by have := hg 4 _ rfl; simpa [hc3] using this
    have g5 : DataW.trod enc Tryz.prog w base sp held n 3 [v5] = some y5 := by have := hg 5 _ rfl; simpa [hc3] using this
    obtain ⟨a0, e0, -, -⟩ := DataW.trod_int Tryz.underlying3 g0
    obtain ⟨a1, e1, -, -⟩ := DataW.trod_int Tryz.underlying3 g1
    obtain ⟨a2, e2, -, -⟩ := DataW.trod_int Tryz.underlying3 g2
    obtain ⟨a3, e3, -, -⟩ := DataW.trod_int Tryz.underlying3 g3
    obtain ⟨a4, e4, -, -⟩ := DataW.trod_int Tryz.underlying3 g4
    obtain ⟨a5, e5, -, -⟩ := DataW.trod_int Tryz.underlying3 g5
    simp only [List.cons.injEq, and_true] at e0 e1 e2 e3 e4 e5
    subst e0 e1 e2 e3 e4 e5
    exact ⟨⟨a0, a1, a2, a3, a4, a5⟩, rfl⟩
set_option maxRecDepth 100000 in
/-- A slice of cards that comes in. -/
theorem open_cards {H : Type} {enc : TypeId × Value → H} {w : World} {base b0 : Nat} {sp : Nat → Bool} {held : Bool} {r : Reach} {v : Value} {d : DataW H} {p : List MemPlace}
    (hv : Value.okWide Tryz.prog w r b0 49 v) (h : DataW.Trod enc Tryz.prog w base sp held 49 v d p) : ∃ l : List Card, CardsV w v l ∧ l.length ≤ maxLen := by
  obtain ⟨a0, len0, cap0, rfl⟩ := okWide_slice Tryz.underlying49 hv
  obtain ⟨fuel, hf⟩ := h
  rcases Go.Deep.open_slice Tryz.underlying49 hf with ⟨hcs, -⟩ | ⟨a, len, cap, m, n, D, Pl, hcs, -, hl, hm, hmm, -, hx⟩
  · simp [Value.cells] at hcs
    obtain ⟨rfl, rfl, rfl⟩ := hcs
    exact ⟨[], ⟨none, 0, rfl, fun h => absurd rfl h⟩, by simp⟩
  · simp [Value.cells] at hcs
    obtain ⟨rfl, rfl, rfl⟩ := hcs
    have hlm : len0 ≤ m := by rw [hmm]; split <;> omega
    have hc6 : Tryz.prog.cellsOf 24 = 6 := by kernel_rfl
    have each : ∀ i, i < len0 → ∃ c : Card, ∀ j, j < 6 → w.cell? ((a.add (i * 6)).add j) = (cardCells c)[j]? := fun i hi => by
      obtain ⟨cs', h1, h2⟩ := hx i (by omega)
      rw [hc6] at h1
      obtain ⟨_, hlen, hcell⟩ := World.cells?_some h1
      obtain ⟨c, rfl⟩ := card_cells hlen h2
      exact ⟨c, fun j hj => hcell j hj⟩
    haveI : Inhabited Card := ⟨zcard⟩
    obtain ⟨q, hq⟩ := Go.Deep.choose_lt each
    refine ⟨(List.range len0).map q, ⟨some a, cap0, by simp, fun hne => ?_⟩, by simp; omega⟩
    have h0 : 0 < len0 := by
      rcases Nat.eq_zero_or_pos len0 with e | e
      · subst e; simp at hne
      · exact e
    obtain ⟨b, o, spot⟩ := a
    have hspot : spot = none := by
      have := (hq 0 h0) 0 (by decide)
      have e : (cardCells (q 0))[0]? = some (.int .i64 (q 0).st) := rfl
      rw [e] at this
      simpa [Addr.add] using World.cell?_spot this
    subst hspot
    refine ⟨b, o, rfl, fun i c hc => ?_⟩
    have hi : i < len0 := by
      have := (List.getElem?_eq_some_iff.1 hc).1
      simpa using this
    have hqc : q i = c := by simpa [List.getElem?_map, hi] using hc
    subst hqc
    have k := fun j hj => (hq i hi) j hj
    have ea : ∀ j, ((⟨b, o, none⟩ : Addr).add (i * 6)).add j = ⟨b, o + i * 6 + j, none⟩ := fun j => by rw [Go.Deep.add_add, Go.WideShapes.add_plain, ← Nat.add_assoc]
    simp only [ea] at k
    exact ⟨k 0 (by decide), k 1 (by decide), k 2 (by decide), k 3 (by decide), k 4 (by decide), k 5 (by decide)⟩
end Go.Proofs.YthifeoebefbalaaGreatDoor
