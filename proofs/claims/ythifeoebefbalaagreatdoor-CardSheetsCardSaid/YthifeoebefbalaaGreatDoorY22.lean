/- The law CardSheets: its walk. -/
import Derived.Test.YthifeoebefbalaaGreatDoorY21
import Derived.Test.YthifeoebefbalaaGreatDoorZ13
import Derived.Test.YthifeoebefbalaaGreatDoorR10
set_option linter.unusedVariables false
set_option linter.unusedSimpArgs false
namespace Go.Proofs.YthifeoebefbalaaGreatDoor
open Go.RowKit

set_option maxRecDepth 100000 in
set_option maxHeartbeats 16000000 in
theorem c38_many (text : List UInt8) (w : World) (hl : text.length ≤ 4000) (hn : 100 < (linesR text).length) : Calls Tryz.prog 38 #[.string ⟨text.toArray⟩] w fun e w' => ∃ v, e = .returned (.agg #[v, .int .i64 2, .int .i64 (-1)]) ∧ CardsV w' v [] ∧ Below w.heap.size w w' := by
  have H34 := fun W => Lib.hid (c34 text W hl)
  obtain ⟨ls, hls⟩ : ∃ ls, linesR text = ls := ⟨_, rfl⟩
  rw [hls] at H34 hn
  clear hls
  obtain ⟨n, hnl⟩ : ∃ n, ls.length = n := ⟨_, rfl⟩
  rw [hnl] at hn
  go_enter Tryz.func38, Tryz.ntmps38
  go_wp2_with fail
  refine (H34 _).out.mono ?_
  rintro e w1 ⟨v0, rfl, hsv, hb1⟩
  obtain ⟨a, cap, rfl, hcap, -⟩ := hsv
  rw [hnl] at hcap ⊢
  clear hnl H34
  have r0 := cell_on (p := ⟨w.heap.size, 0, none⟩) (v := .slice none 0 0) hb1 (by simp [go_sem])
  have r1 := cell_on (p := ⟨w.heap.size, 1, none⟩) (v := .int .i64 0) hb1 (by simp [go_sem])
  have r2 := cell_on (p := ⟨w.heap.size, 2, none⟩) (v := .int .i64 0) hb1 (by simp [go_sem])
  have rF : ∀ j, w1.frozen? ⟨w.heap.size, j, none⟩ = false := fun j => (hb1.frozen (p := ⟨w.heap.size, j, none⟩) (by simp)).trans (by simp [go_sem])
  have hB1 : Below w.heap.size w w1 := below_trans (below_alloc _ _) hb1
  clear hb1
  go_wp2_with fail
  exact bodyPost_ret (v := .agg #[.slice none 0 0, .int .i64 2, .int .i64 (-1)]) (by simp [results, Tryz.results38, go_sem, r0, r1, r2, rF]) rfl ⟨.slice none 0 0, rfl, ⟨none, 0, rfl, fun h => absurd rfl h⟩, xs (xs (xs hB1 (by simp) _) (by simp) _) (by simp) _⟩
theorem c38 (text : List UInt8) (w : World) (hl : text.length ≤ 4000) : Calls Tryz.prog 38 #[.string ⟨text.toArray⟩] w fun e w' => ∃ v, e = .returned (.agg #[v, .int .i64 (sheetR text).2.1, .int .i64 (sheetR text).2.2]) ∧ CardsV w' v (sheetR text).1 ∧ Below w.heap.size w w' := by
  have hs := (lines_same text).1
  unfold sheetR
  rw [← hs]
  by_cases hn : 100 < (linesR text).length
  · rw [if_pos hn]; exact c38_many text w hl hn
  · rw [if_neg hn]; exact c38_main text w hl hn
theorem sheet_len (ls : List (List UInt8)) : ∀ (i : Int) (out : List Card) (last : Card), (sheetFrom ls i out last).1.length ≤ out.length + ls.length := by
  induction ls with
  | nil => intro i out last; simp [sheetFrom]
  | cons s ls ih =>
    intro i out last
    rw [sheetFrom]
    split
    · have := ih (i + 1) out last
      simp; omega
    · split
      · have := ih (i + 1) (out ++ [rdC (lineR s last)]) (rdC (lineR s last))
        simp at this ⊢; omega
      · simp
theorem sheetR_len (text : List UInt8) : (sheetR text).1.length ≤ 1000 := by
  unfold sheetR
  split
  · simp
  · have := sheet_len (linesOf text) 0 [] zcard
    simp at this ⊢
    omega
theorem c42_F (st da dy ki am fi : Int) (h : isCard ⟨st, da, dy, ki, am, fi⟩ = true) : ∀ W, Hid (Calls Tryz.prog 42 #[.agg #[.int .i64 st, .int .i64 da, .int .i64 dy, .int .i64 ki, .int .i64 am, .int .i64 fi]] W fun e w' => e = .returned (.string ⟨(ctext ⟨st, da, dy, ki, am, fi⟩).toArray⟩) ∧ Below W.heap.size W w') := fun W => Lib.hid (c42 ⟨st, da, dy, ki, am, fi⟩ W h)
theorem c33_F (text : List UInt8) (hl : text.length ≤ 4000) : ∀ W, Cell0 W → Hid (Calls Tryz.prog 33 #[.string ⟨text.toArray⟩] W fun e w' => (∃ v, e = .returned (.tuple #[v, .int .i64 (sheetR text).2.1, .int .i64 (sheetR text).2.2]) ∧ CardsV w' v (sheetR text).1) ∧ Below W.heap.size W w') := fun W hW => Lib.hid ((c33 text W hW hl).mono fun e w' h => by
  obtain ⟨v, rfl, ho, hb⟩ := h
  exact ⟨⟨v, rfl, own_cardsV ho⟩, hb⟩)
theorem c38_F (text : List UInt8) (hl : text.length ≤ 4000) : ∀ W, Hid (Calls Tryz.prog 38 #[.string ⟨text.toArray⟩] W fun e w' => (∃ v, e = .returned (.agg #[v, .int .i64 (sheetR text).2.1, .int .i64 (sheetR text).2.2]) ∧ CardsV w' v (sheetR text).1) ∧ Below W.heap.size W w') := fun W => Lib.hid ((c38 text W hl).mono fun e w' h => by
  obtain ⟨v, rfl, ho, hb⟩ := h
  exact ⟨⟨v, rfl, ho⟩, hb⟩)
set_option maxRecDepth 100000 in
set_option maxHeartbeats 16000000 in
theorem c10_bad (text : List UInt8) (out l : List Card) (E A x : Int) (a : Option Addr) (cap : Nat) (w : World) (hE : Env w) (hC : Cell0 w) (ht : text.length ≤ 2000) (hl : l.length ≤ 110) (ho : out.length ≤ 1000) (hcv : CardsV w (.slice a l.length cap) l) (he : allErr l = x) (hx : ¬ x = 0) (hxb : (x != 0) = true)
    (H33 : ∀ W, Cell0 W → Hid (Calls Tryz.prog 33 #[.string ⟨text.toArray⟩] W fun e w' => (∃ v, e = .returned (.tuple #[v, .int .i64 E, .int .i64 A]) ∧ CardsV w' v out) ∧ Below W.heap.size W w'))
    (H38 : ∀ W, Hid (Calls Tryz.prog 38 #[.string ⟨text.toArray⟩] W fun e w' => (∃ v, e = .returned (.agg #[v, .int .i64 E, .int .i64 A]) ∧ CardsV w' v out) ∧ Below W.heap.size W w'))
    : Calls Tryz.prog 10 #[.string ⟨text.toArray⟩, .slice a l.length cap] w fun e w' => e = .returned (.bool true) ∧ Below w.heap.size w w' := by
  have HE := Lib.hid hE
  have HC := Lib.hid hC
  have HCV := Lib.hid hcv
  have H33 := Lib.hid H33
  have H40 : Hid (∀ W, Env W → CardsV W (.slice a l.length cap) l → Calls Tryz.prog 40 #[.slice a l.length cap] W fun e w' => e = .returned (.tuple #[.string ⟨#[]⟩, .int .i64 x]) ∧ Below W.heap.size W w') := Lib.hid fun W hW hv => by
    have := c40 l (.slice a l.length cap) W hW hv (by omega)
    rw [psheet, if_neg (by rw [he]; exact hx), he] at this
    exact this
  have H41 : Hid (∀ W, CardsV W (.slice a l.length cap) l → Calls Tryz.prog 41 #[.slice a l.length cap] W fun e w' => e = .returned (.int .i64 x) ∧ Below W.heap.size W w') := Lib.hid fun W hv => by
    have := c41 l (.slice a l.length cap) W hv
    rw [he] at this
    exact this
  have H39 : Hid (∀ W v v', CardsV W v out → CardsV W v' out → Calls Tryz.prog 39 #[v, v'] W fun e w' => e = .returned (.bool true) ∧ Below W.heap.size W w') := Lib.hid fun W v v' h h' => c39 out v v' W h h' ho
  clear hE hC hcv he
  obtain ⟨m, hm⟩ : ∃ m, out.length = m := ⟨_, rfl⟩
  obtain ⟨n, hn⟩ : ∃ n, l.length = n := ⟨_, rfl⟩
  rw [hn] at hl H40 H41 HCV ⊢
  have HN := Lib.hid hn
  clear hn
  go_enter Tryz.func10, Tryz.ntmps10
  go_wp2_with fail
  refine (H33.out _ HC.out).out.mono ?_
  rintro e w1 ⟨⟨v1, rfl, hv1⟩, hb1⟩
  obtain ⟨a1, cap1, e1, -⟩ := id hv1
  subst e1
  have HV1 := Lib.hid hv1
  rw [hm] at HV1 ⊢
  clear hv1
  go_wp2_with fail
  refine (H38 _).out.mono ?_
  rintro e w2 ⟨⟨v2, rfl, hv2⟩, hb2⟩
  obtain ⟨a2, cap2, e2, -⟩ := id hv2
  subst e2
  have HV2 := Lib.hid hv2
  rw [hm] at HV2 ⊢
  clear hv2 hm H33 H38
  go_wp2_with fail
  refine (H39.out _ _ _ (HV1.out.below (hb2.trans ((below_alloc _ _).mono hb2.size))) (HV2.out.below (below_alloc _ _))).mono ?_
  rintro e w3 ⟨rfl, hb3⟩
  have hB3 : Below w.heap.size w w3 := below_trans (below_trans (below_trans hb1 hb2) (below_alloc _ _)) hb3
  clear hb1 hb2 hb3 HV1 HV2 H39
  go_wp2_with fail
  refine (H40.out _ (HE.out.below hB3) (HCV.out.below hB3)).mono ?_
  rintro e w4 ⟨rfl, hb4⟩
  have hB4 := below_trans hB3 hb4
  clear hb4
  go_wp2_with fail
  refine (H41.out _ (HCV.out.below hB4)).mono ?_
  rintro e w5 ⟨rfl, hb5⟩
  have hB5 := below_trans hB4 hb5
  clear hb5 hB3 hB4 H40 H41
  go_wp2_with fail
  refine (c22 _ (HE.out.below hB5) (HC.out.below hB5 HC.out.lt)).mono ?_
  rintro e w6 ⟨rfl, hb6⟩
  go_wp2_with fail
  go_ret
  exact ⟨rfl, below_trans hB5 hb6⟩
set_option maxRecDepth 100000 in
set_option maxHeartbeats 16000000 in
theorem c10_ok (text : List UInt8) (out l : List Card) (E A x : Int) (a : Option Addr) (cap : Nat) (w : World) (hE : Env w) (hC : Cell0 w) (ht : text.length ≤ 2000) (hl : l.length ≤ 110) (ho : out.length ≤ 1000) (hcv : CardsV w (.slice a l.length cap) l) (he : allErr l = x) (hx : x = 0)
    (H33 : ∀ W, Cell0 W → Hid (Calls Tryz.prog 33 #[.string ⟨text.toArray⟩] W fun e w' => (∃ v, e = .returned (.tuple #[v, .int .i64 E, .int .i64 A]) ∧ CardsV w' v out) ∧ Below W.heap.size W w'))
    (H38 : ∀ W, Hid (Calls Tryz.prog 38 #[.string ⟨text.toArray⟩] W fun e w' => (∃ v, e = .returned (.agg #[v, .int .i64 E, .int .i64 A]) ∧ CardsV w' v out) ∧ Below W.heap.size W w'))
    : Calls Tryz.prog 10 #[.string ⟨text.toArray⟩, .slice a l.length cap] w fun e w' => e = .returned (.bool true) ∧ Below w.heap.size w w' := by
  have HE := Lib.hid hE
  have HC := Lib.hid hC
  have HCV := Lib.hid hcv
  have H33 := Lib.hid H33
  subst hx
  obtain ⟨h100, hvall⟩ := eachErr_true he
  have HV := Lib.hid hvall
  have H40 : Hid (∀ W, Env W → CardsV W (.slice a l.length cap) l → Calls Tryz.prog 40 #[.slice a l.length cap] W fun e w' => e = .returned (.tuple #[.string ⟨(sheetText l).toArray⟩, .int .i64 0]) ∧ Below W.heap.size W w') := Lib.hid fun W hW hv => by
    have := c40 l (.slice a l.length cap) W hW hv (by omega)
    rw [psheet, if_pos he] at this
    exact this
  have H41 : Hid (∀ W, CardsV W (.slice a l.length cap) l → Calls Tryz.prog 41 #[.slice a l.length cap] W fun e w' => e = .returned (.int .i64 0) ∧ Below W.heap.size W w') := Lib.hid fun W hv => by
    have := c41 l (.slice a l.length cap) W hv
    rw [he] at this
    exact this
  have H39 : Hid (∀ W v v', CardsV W v out → CardsV W v' out → Calls Tryz.prog 39 #[v, v'] W fun e w' => e = .returned (.bool true) ∧ Below W.heap.size W w') := Lib.hid fun W v v' h h' => c39 out v v' W h h' ho
  clear hE hC hcv he hvall
  obtain ⟨m, hm⟩ : ∃ m, out.length = m := ⟨_, rfl⟩
  obtain ⟨n, hn⟩ : ∃ n, l.length = n := ⟨_, rfl⟩
  rw [hn] at hl H40 H41 HCV ⊢
  have HN := Lib.hid hn
  clear hn
  go_enter Tryz.func10, Tryz.ntmps10
  go_wp2_with fail
  refine (H33.out _ HC.out).out.mono ?_
  rintro e w1 ⟨⟨v1, rfl, hv1⟩, hb1⟩
  obtain ⟨a1, cap1, e1, -⟩ := id hv1
  subst e1
  have HV1 := Lib.hid hv1
  rw [hm] at HV1 ⊢
  clear hv1
  go_wp2_with fail
  refine (H38 _).out.mono ?_
  rintro e w2 ⟨⟨v2, rfl, hv2⟩, hb2⟩
  obtain ⟨a2, cap2, e2, -⟩ := id hv2
  subst e2
  have HV2 := Lib.hid hv2
  rw [hm] at HV2 ⊢
  clear hv2 hm H33 H38
  go_wp2_with fail
  refine (H39.out _ _ _ (HV1.out.below (hb2.trans ((below_alloc _ _).mono hb2.size))) (HV2.out.below (below_alloc _ _))).mono ?_
  rintro e w3 ⟨rfl, hb3⟩
  have hB3 : Below w.heap.size w w3 := below_trans (below_trans (below_trans hb1 hb2) (below_alloc _ _)) hb3
  clear hb1 hb2 hb3 HV1 HV2 H39
  go_wp2_with fail
  refine (H40.out _ (HE.out.below hB3) (HCV.out.below hB3)).mono ?_
  rintro e w4 ⟨rfl, hb4⟩
  have hB4 := below_trans hB3 hb4
  clear hb4
  go_wp2_with fail
  refine (H41.out _ (HCV.out.below hB4)).mono ?_
  rintro e w5 ⟨rfl, hb5⟩
  have hB5 := below_trans hB4 hb5
  clear hb5 hB3 hB4 H40 H41
  obtain ⟨T, hT⟩ : ∃ T, sheetText l = T := ⟨_, rfl⟩
  rw [hT]
  have HT := Lib.hid hT
  clear hT
  have hB5' := Lib.hid hB5
  clear hB5
  go_wp2_with fail
  go_loopw [12, 13] (fun v k wr => ∃ (i : Nat) (t : List UInt8), i ≤ n ∧ k = .int .i64 i ∧ v = .string ⟨t.toArray⟩ ∧ Hid (t = sheetText (l.take i)) ∧ Hid (Below w.heap.size w wr)) (fun _ k _ => n - (intOf k).toNat)
  case atStart => exact ⟨0, [], by omega, rfl, rfl, Lib.hid rfl, hB5'⟩
  case round =>
    clear hB5'
    obtain ⟨i, t, hi, rfl, rfl, HTT0, hb⟩ := hrel
    by_cases hlt : i < n
    · obtain ⟨c, hc⟩ : ∃ c, l[i]? = some c := by
        have := HN.out
        exact ⟨l[i]'(by omega), by simp⟩
      obtain ⟨av, capv, ev, kv⟩ := HCV.out
      obtain ⟨b, o, rfl, hca⟩ := kv (fun e => by rw [e] at hc; cases hc)
      have hcs := (hca.below hb.out) i c hc
      have HCC := Lib.hid (HV.out c (List.mem_of_getElem? hc))
      have hl1 : t.length ≤ 5000 := by
        have h1 := sheetText_len (l.take i) (fun d hd => HV.out d (List.mem_of_mem_take hd))
        rw [← HTT0.out, List.length_take] at h1
        omega
      have hl2 := (print_read c HCC.out).1
      have HTT : Hid (sheetText (l.take (i + 1)) = t ++ (ctext c ++ [10])) := Lib.hid (by rw [List.take_add_one, hc, HTT0.out]; simp [sheetText])
      obtain ⟨st, da, dy, ki, am, fi⟩ := c
      obtain ⟨h0, h1, h2, h3, h4, h5⟩ := hcs
      have HP := c42_F st da dy ki am fi HCC.out
      generalize ctext ⟨st, da, dy, ki, am, fi⟩ = C at *
      injection ev with ev1 ev2 ev3
      subst ev1
      clear hc ev2 ev3 kv hca
      simp only at h0 h1 h2 h3 h4 h5
      go_wp2_with (go_at_call 42; refine (HP _).out.mono ?_; rintro e w6 ⟨rfl, hb6⟩)
      go_roundw
      case rel => exact ⟨i + 1, t ++ (C ++ [10]), by omega, by go_num, by first | rfl | simp, Lib.hid HTT.out.symm, Lib.hid (below_trans hb.out hb6)⟩
      case measure => simp [intOf]; omega
    · have hin : i = n := by omega
      subst hin
      have htT : t = T := by rw [HTT0.out, List.take_of_length_le (by rw [HN.out]; omega), HT.out]
      subst htT
      go_wp2_with fail
      refine (c22 _ (HE.out.below hb.out) (HC.out.below hb.out HC.out.lt)).mono ?_
      rintro e w6 ⟨rfl, hb6⟩
      go_wp2_with fail
      go_ret
      exact ⟨rfl, below_trans hb.out hb6⟩
set_option maxRecDepth 100000 in
set_option maxHeartbeats 16000000 in
theorem c10_long (text : List UInt8) (a : Option Addr) (n cap : Nat) (w : World) (hE : Env w) (hC : Cell0 w) (hl : 2000 < text.length) : Calls Tryz.prog 10 #[.string ⟨text.toArray⟩, .slice a n cap] w fun e w' => e = .returned (.bool true) ∧ Below w.heap.size w w' := by
  have HE := Lib.hid hE
  have HC := Lib.hid hC
  clear hE hC
  go_enter Tryz.func10, Tryz.ntmps10
  go_wp2_with fail
  refine (c22 _ HE.out HC.out).mono ?_
  rintro e w1 ⟨rfl, hb1⟩
  go_wp2_with fail
  go_ret
  exact ⟨rfl, hb1⟩
set_option maxRecDepth 100000 in
set_option maxHeartbeats 16000000 in
theorem c10_many (text : List UInt8) (a : Option Addr) (n cap : Nat) (w : World) (hE : Env w) (hC : Cell0 w) (hl : text.length ≤ 2000) (hn : 110 < n) : Calls Tryz.prog 10 #[.string ⟨text.toArray⟩, .slice a n cap] w fun e w' => e = .returned (.bool true) ∧ Below w.heap.size w w' := by
  have HE := Lib.hid hE
  have HC := Lib.hid hC
  clear hE hC
  go_enter Tryz.func10, Tryz.ntmps10
  go_wp2_with fail
  refine (c22 _ HE.out HC.out).mono ?_
  rintro e w1 ⟨rfl, hb1⟩
  go_wp2_with fail
  go_ret
  exact ⟨rfl, hb1⟩
theorem c10 (text : List UInt8) (v : Value) (l : List Card) (w : World) (hE : Env w) (hC : Cell0 w) (hcv : CardsV w v l) : Calls Tryz.prog 10 #[.string ⟨text.toArray⟩, v] w fun e w' => e = .returned (.bool true) ∧ Below w.heap.size w w' := by
  obtain ⟨a, cap, rfl, -⟩ := id hcv
  by_cases ht : 2000 < text.length
  · exact c10_long text a _ cap w hE hC ht
  · by_cases hn : 110 < l.length
    · exact c10_many text a _ cap w hE hC (by omega) hn
    · obtain ⟨x, hx⟩ : ∃ x, allErr l = x := ⟨_, rfl⟩
      by_cases h0 : x = 0
      · exact c10_ok text _ l _ _ x a cap w hE hC (by omega) (by omega) (sheetR_len text) hcv hx h0 (c33_F text (by omega)) (c38_F text (by omega))
      · exact c10_bad text _ l _ _ x a cap w hE hC (by omega) (by omega) (sheetR_len text) hcv hx h0 (by simpa using h0) (c33_F text (by omega)) (c38_F text (by omega))
theorem w10 (text : ByteArray) (v : Value) (w : World) (_ : text.size ≤ 140737488351232) (hV : ∃ l : List Card, CardsV w v l ∧ l.length ≤ maxLen) (hE : Env w) (hC : Cell0 w) : Calls Tryz.prog 10 #[.string text, v] w fun e w' => e = .returned (.bool true) ∧ Below w.heap.size w w' := by
  obtain ⟨l, h1, h2⟩ := hV
  have e : text = ⟨text.data.toList.toArray⟩ := by cases text; simp
  rw [e]
  exact c10 text.data.toList v l w hE hC h1
end Go.Proofs.YthifeoebefbalaaGreatDoor
