/- A text made restless: the walk. -/
import Derived.Test.YthifeoebefbalaaGreatDoorR18
import Derived.Lib.BufferRead
namespace Go.Proofs.YthifeoebefbalaaGreatDoor
open Go.RowKit

theorem own_more {W : World} {B : Nat} {v : Value} {o : List UInt8} (r : List UInt8) {m : Nat} {xs : List Value} (hm : m = r.length) (hx : xs = r.map u8v) (h : W.ownsRow B 5 1 v (o.length + m) (o.map u8v ++ xs)) : W.ownsRow B 5 1 v (o ++ r).length ((o ++ r).map u8v) := by
  subst hm hx
  simpa using h
theorem own_eq {W : World} {B : Nat} {v : Value} {a o r : List UInt8} (h : a = o ++ r) (k : W.ownsRow B 5 1 v (o ++ r).length ((o ++ r).map u8v)) : W.ownsRow B 5 1 v a.length (a.map u8v) := by rw [h]; exact k
theorem own_three {W : World} {B : Nat} {v : Value} {o : List UInt8} {g : UInt8} (h : W.ownsRow B 5 1 v (o.length + 1 + 2) ((o.map u8v ++ [.int .u8 (g.toNat : Int)]) ++ [.int .u8 59, .int .u8 9])) : W.ownsRow B 5 1 v (o ++ [g, 59, 9]).length ((o ++ [g, 59, 9]).map u8v) := by
  have e : (o ++ [g, 59, 9]).map u8v = (o.map u8v ++ [.int .u8 (g.toNat : Int)]) ++ [.int .u8 59, .int .u8 9] := by simp [u8v]
  rw [e]
  simpa using h
theorem own_text {W : World} {B : Nat} {v : Value} {o : List UInt8} (h : W.ownsRow B 5 1 v o.length (o.map u8v)) : (convert 111 9 v).run Tryz.prog W = .ok (.string ⟨o.toArray⟩) W := by
  have h0 := h
  obtain ⟨hl, hc⟩ := h
  rcases hc with ⟨rfl, h1⟩ | ⟨g, cap, cur, rfl, -⟩
  · have : o = [] := List.length_eq_zero_iff.1 h1
    subst this
    exact Lib.run_convert_nil_bytes W 111 9 5 0 Tryz.underlying111 Tryz.underlying5 Tryz.underlying9
  · refine run_convert_bytes_back (P := Tryz.prog) W 111 9 5 ⟨g, 0, none⟩ cap o Tryz.underlying111 Tryz.underlying5 Tryz.underlying9 (fun j hj => ?_)
    have e : (⟨g, 0, none⟩ : Addr).add j = ⟨g, j, none⟩ := by simp [Addr.add]; intro h; exact h.symm
    rw [e, h0.cellAt j (by omega)]
    simp [u8v, hj]
set_option maxRecDepth 100000 in
set_option maxHeartbeats 16000000 in
theorem c28 (t : List UInt8) (bits : Int) (w : World) (hl : t.length ≤ 60) (_ : -9223372036854775808 ≤ bits) (_ : bits ≤ 9223372036854775807) : Calls Tryz.prog 28 #[strv t, .int .i64 bits] w fun e w' => e = .returned (strv (restL t bits)) ∧ Below w.heap.size w w' := by
  unfold strv
  obtain ⟨i0, i1, i2, i3, i4⟩ := info_parts Tryz.info5
  have e0 : Go.bits BinOp.and IntKind.i64 0 1 = 0 := by decide
  have e1 : Go.bits BinOp.and IntKind.i64 1 1 = 1 := by decide
  have e2 : Go.bits BinOp.and IntKind.i64 2 1 = 0 := by decide
  have e3 : Go.bits BinOp.and IntKind.i64 3 1 = 1 := by decide
  go_enter Tryz.func28, Tryz.ntmps28
  go_wp2
  go_loopw [5, 6] (fun v i wr => ∃ k : Nat, k ≤ t.length ∧ i = .int .i64 k ∧ wr.ownsRow w.heap.size 5 1 v (rlR t bits k).length ((rlR t bits k).map u8v) ∧ Below w.heap.size w wr) (fun _ i _ => 100 - (intOf i).toNat)
  case atStart => exact ⟨0, by omega, rfl, World.ownsRow_nil _ _ _ _, xr _⟩
  case round =>
    obtain ⟨k, hk, rfl, hown, hB⟩ := hrel
    have ho := (rlR_fold t bits k hk).2
    obtain ⟨o, hoo⟩ : ∃ o, rlR t bits k = o := ⟨_, rfl⟩
    rw [hoo] at hown ho
    have HO := Lib.hid hoo
    clear hoo
    have hbs := hB.size
    by_cases hlt : k < t.length
    · obtain ⟨c, hc⟩ : ∃ c, t[k]? = some c := ⟨_, List.getElem?_eq_some_iff.2 ⟨hlt, rfl⟩⟩
      have HT := Lib.hid (rlR_succ (bits := bits) hc)
      by_cases g1 : c = 32
      · subst g1
        have hi : ∀ W, (Instr.index 9 (.string ⟨t.toArray⟩) (.int .i64 (k : Int))).run Tryz.prog W = .ok (.int .u8 32) W := idx_str t k 32 hc
        clear hc
        rcases and3 (bits / 2 ^ (k % 40)) with hq | hq | hq | hq
        · go_wp2_with ((at_builtin; refine wpList_append_own _ rfl (.tmp 34) (.tmp 39) 111 rfl w.heap.size 5 i0 (.int .u8 0) 1 1 Tryz.underlying111 i1 i2 i3 i4 rfl (by decide) _ _ _ rfl ((hown.alloc _).alloc _) ⟨wr.heap.size + 1, 0, none⟩ 1 1 [.int .u8 32] rfl rfl (one_new (by simp)) (u8_cells _) (by simp only [maxLen]; omega) (by omega) (by simp; omega) ?_; intro v1 w1 hown1 hgrow1 _; have hB1 := Lib.hid (own_below (xa (xa hB _) _) ((hown.alloc _).alloc _) hgrow1); clear hgrow1; have hbs1 := hB1.out.size))
          go_roundw
          case rel => exact ⟨k + 1, by omega, by go_num, own_eq (r := [32]) (by rw [HT.out, HO.out, qAt, hq]; rfl) (own_more [32] rfl rfl hown1), hB1.out⟩
          case measure => simp [intOf]; omega
        · go_wp2_with ((at_builtin; refine wpList_append_own _ rfl (.tmp 34) (.tmp 39) 111 rfl w.heap.size 5 i0 (.int .u8 0) 1 1 Tryz.underlying111 i1 i2 i3 i4 rfl (by decide) _ _ _ rfl ((hown.alloc _).alloc _) ⟨wr.heap.size + 1, 0, none⟩ 1 1 [.int .u8 9] rfl rfl (one_new (by simp)) (u8_cells _) (by simp only [maxLen]; omega) (by omega) (by simp; omega) ?_; intro v1 w1 hown1 hgrow1 _; have hB1 := Lib.hid (own_below (xa (xa hB _) _) ((hown.alloc _).alloc _) hgrow1); clear hgrow1; have hbs1 := hB1.out.size))
          go_roundw
          case rel => exact ⟨k + 1, by omega, by go_num, own_eq (r := [9]) (by rw [HT.out, HO.out, qAt, hq]; rfl) (own_more [9] rfl rfl hown1), hB1.out⟩
          case measure => simp [intOf]; omega
        · go_wp2_with ((at_builtin; refine wpList_append_own _ rfl (.tmp 34) (.tmp 39) 111 rfl w.heap.size 5 i0 (.int .u8 0) 1 1 Tryz.underlying111 i1 i2 i3 i4 rfl (by decide) _ _ _ rfl ((hown.alloc _).alloc _) ⟨wr.heap.size + 1, 0, none⟩ 1 1 [.int .u8 59] rfl rfl (one_new (by simp)) (u8_cells _) (by simp only [maxLen]; omega) (by omega) (by simp; omega) ?_; intro v1 w1 hown1 hgrow1 _; have hB1 := Lib.hid (own_below (xa (xa hB _) _) ((hown.alloc _).alloc _) hgrow1); clear hgrow1; have hbs1 := hB1.out.size))
          go_roundw
          case rel => exact ⟨k + 1, by omega, by go_num, own_eq (r := [59]) (by rw [HT.out, HO.out, qAt, hq]; rfl) (own_more [59] rfl rfl hown1), hB1.out⟩
          case measure => simp [intOf]; omega
        · go_wp2_with (first | (at_builtin; refine wpList_append_own _ rfl (.tmp 34) (.tmp 39) 111 rfl w.heap.size 5 i0 (.int .u8 0) 1 1 Tryz.underlying111 i1 i2 i3 i4 rfl (by decide) _ _ _ rfl ((hown.alloc _).alloc _) ⟨wr.heap.size + 1, 0, none⟩ 1 1 [.int .u8 32] rfl rfl (one_new (by simp)) (u8_cells _) (by simp only [maxLen]; omega) (by omega) (by simp; omega) ?_; intro v1 w1 hown1 hgrow1 _; have hB1 := Lib.hid (own_below (xa (xa hB _) _) ((hown.alloc _).alloc _) hgrow1); clear hgrow1; have hbs1 := hB1.out.size) | (at_builtin; refine wpList_append_own _ rfl (.tmp 43) (.tmp 44) 111 rfl w.heap.size 5 i0 (.int .u8 0) 1 1 Tryz.underlying111 i1 i2 i3 i4 rfl (by decide) _ _ _ rfl (hown1.alloc _) ⟨w1.heap.size, 0, none⟩ 2 2 [.int .u8 59, .int .u8 9] rfl rfl (two_new rfl) (u8_cells2 _ _) (by simp only [maxLen]; omega) (by omega) (by simp; omega) ?_; intro v2 w2 hown2 hgrow2 _; have hB2 := Lib.hid (own_below (xa hB1.out _) (hown1.alloc _) hgrow2); clear hgrow2))
          go_roundw
          case rel => exact ⟨k + 1, by omega, by go_num, own_eq (r := [32, 59, 9]) (by rw [HT.out, HO.out, qAt, hq]; rfl) (own_three hown2), hB2.out⟩
          case measure => simp [intOf]; omega
      by_cases g2 : c = 9
      · subst g2
        have hi : ∀ W, (Instr.index 9 (.string ⟨t.toArray⟩) (.int .i64 (k : Int))).run Tryz.prog W = .ok (.int .u8 9) W := idx_str t k 9 hc
        clear hc g1
        rcases and3 (bits / 2 ^ (k % 40)) with hq | hq | hq | hq
        · go_wp2_with ((at_builtin; refine wpList_append_own _ rfl (.tmp 34) (.tmp 39) 111 rfl w.heap.size 5 i0 (.int .u8 0) 1 1 Tryz.underlying111 i1 i2 i3 i4 rfl (by decide) _ _ _ rfl ((hown.alloc _).alloc _) ⟨wr.heap.size + 1, 0, none⟩ 1 1 [.int .u8 32] rfl rfl (one_new (by simp)) (u8_cells _) (by simp only [maxLen]; omega) (by omega) (by simp; omega) ?_; intro v1 w1 hown1 hgrow1 _; have hB1 := Lib.hid (own_below (xa (xa hB _) _) ((hown.alloc _).alloc _) hgrow1); clear hgrow1; have hbs1 := hB1.out.size))
          go_roundw
          case rel => exact ⟨k + 1, by omega, by go_num, own_eq (r := [32]) (by rw [HT.out, HO.out, qAt, hq]; rfl) (own_more [32] rfl rfl hown1), hB1.out⟩
          case measure => simp [intOf]; omega
        · go_wp2_with ((at_builtin; refine wpList_append_own _ rfl (.tmp 34) (.tmp 39) 111 rfl w.heap.size 5 i0 (.int .u8 0) 1 1 Tryz.underlying111 i1 i2 i3 i4 rfl (by decide) _ _ _ rfl ((hown.alloc _).alloc _) ⟨wr.heap.size + 1, 0, none⟩ 1 1 [.int .u8 9] rfl rfl (one_new (by simp)) (u8_cells _) (by simp only [maxLen]; omega) (by omega) (by simp; omega) ?_; intro v1 w1 hown1 hgrow1 _; have hB1 := Lib.hid (own_below (xa (xa hB _) _) ((hown.alloc _).alloc _) hgrow1); clear hgrow1; have hbs1 := hB1.out.size))
          go_roundw
          case rel => exact ⟨k + 1, by omega, by go_num, own_eq (r := [9]) (by rw [HT.out, HO.out, qAt, hq]; rfl) (own_more [9] rfl rfl hown1), hB1.out⟩
          case measure => simp [intOf]; omega
        · go_wp2_with ((at_builtin; refine wpList_append_own _ rfl (.tmp 34) (.tmp 39) 111 rfl w.heap.size 5 i0 (.int .u8 0) 1 1 Tryz.underlying111 i1 i2 i3 i4 rfl (by decide) _ _ _ rfl ((hown.alloc _).alloc _) ⟨wr.heap.size + 1, 0, none⟩ 1 1 [.int .u8 59] rfl rfl (one_new (by simp)) (u8_cells _) (by simp only [maxLen]; omega) (by omega) (by simp; omega) ?_; intro v1 w1 hown1 hgrow1 _; have hB1 := Lib.hid (own_below (xa (xa hB _) _) ((hown.alloc _).alloc _) hgrow1); clear hgrow1; have hbs1 := hB1.out.size))
          go_roundw
          case rel => exact ⟨k + 1, by omega, by go_num, own_eq (r := [59]) (by rw [HT.out, HO.out, qAt, hq]; rfl) (own_more [59] rfl rfl hown1), hB1.out⟩
          case measure => simp [intOf]; omega
        · go_wp2_with (first | (at_builtin; refine wpList_append_own _ rfl (.tmp 34) (.tmp 39) 111 rfl w.heap.size 5 i0 (.int .u8 0) 1 1 Tryz.underlying111 i1 i2 i3 i4 rfl (by decide) _ _ _ rfl ((hown.alloc _).alloc _) ⟨wr.heap.size + 1, 0, none⟩ 1 1 [.int .u8 32] rfl rfl (one_new (by simp)) (u8_cells _) (by simp only [maxLen]; omega) (by omega) (by simp; omega) ?_; intro v1 w1 hown1 hgrow1 _; have hB1 := Lib.hid (own_below (xa (xa hB _) _) ((hown.alloc _).alloc _) hgrow1); clear hgrow1; have hbs1 := hB1.out.size) | (at_builtin; refine wpList_append_own _ rfl (.tmp 43) (.tmp 44) 111 rfl w.heap.size 5 i0 (.int .u8 0) 1 1 Tryz.underlying111 i1 i2 i3 i4 rfl (by decide) _ _ _ rfl (hown1.alloc _) ⟨w1.heap.size, 0, none⟩ 2 2 [.int .u8 59, .int .u8 9] rfl rfl (two_new rfl) (u8_cells2 _ _) (by simp only [maxLen]; omega) (by omega) (by simp; omega) ?_; intro v2 w2 hown2 hgrow2 _; have hB2 := Lib.hid (own_below (xa hB1.out _) (hown1.alloc _) hgrow2); clear hgrow2))
          go_roundw
          case rel => exact ⟨k + 1, by omega, by go_num, own_eq (r := [32, 59, 9]) (by rw [HT.out, HO.out, qAt, hq]; rfl) (own_three hown2), hB2.out⟩
          case measure => simp [intOf]; omega
      by_cases g3 : c = 59
      · subst g3
        have hi : ∀ W, (Instr.index 9 (.string ⟨t.toArray⟩) (.int .i64 (k : Int))).run Tryz.prog W = .ok (.int .u8 59) W := idx_str t k 59 hc
        clear hc g1 g2
        rcases and3 (bits / 2 ^ (k % 40)) with hq | hq | hq | hq
        · go_wp2_with ((at_builtin; refine wpList_append_own _ rfl (.tmp 34) (.tmp 39) 111 rfl w.heap.size 5 i0 (.int .u8 0) 1 1 Tryz.underlying111 i1 i2 i3 i4 rfl (by decide) _ _ _ rfl ((hown.alloc _).alloc _) ⟨wr.heap.size + 1, 0, none⟩ 1 1 [.int .u8 32] rfl rfl (one_new (by simp)) (u8_cells _) (by simp only [maxLen]; omega) (by omega) (by simp; omega) ?_; intro v1 w1 hown1 hgrow1 _; have hB1 := Lib.hid (own_below (xa (xa hB _) _) ((hown.alloc _).alloc _) hgrow1); clear hgrow1; have hbs1 := hB1.out.size))
          go_roundw
          case rel => exact ⟨k + 1, by omega, by go_num, own_eq (r := [32]) (by rw [HT.out, HO.out, qAt, hq]; rfl) (own_more [32] rfl rfl hown1), hB1.out⟩
          case measure => simp [intOf]; omega
        · go_wp2_with ((at_builtin; refine wpList_append_own _ rfl (.tmp 34) (.tmp 39) 111 rfl w.heap.size 5 i0 (.int .u8 0) 1 1 Tryz.underlying111 i1 i2 i3 i4 rfl (by decide) _ _ _ rfl ((hown.alloc _).alloc _) ⟨wr.heap.size + 1, 0, none⟩ 1 1 [.int .u8 9] rfl rfl (one_new (by simp)) (u8_cells _) (by simp only [maxLen]; omega) (by omega) (by simp; omega) ?_; intro v1 w1 hown1 hgrow1 _; have hB1 := Lib.hid (own_below (xa (xa hB _) _) ((hown.alloc _).alloc _) hgrow1); clear hgrow1; have hbs1 := hB1.out.size))
          go_roundw
          case rel => exact ⟨k + 1, by omega, by go_num, own_eq (r := [9]) (by rw [HT.out, HO.out, qAt, hq]; rfl) (own_more [9] rfl rfl hown1), hB1.out⟩
          case measure => simp [intOf]; omega
        · go_wp2_with ((at_builtin; refine wpList_append_own _ rfl (.tmp 34) (.tmp 39) 111 rfl w.heap.size 5 i0 (.int .u8 0) 1 1 Tryz.underlying111 i1 i2 i3 i4 rfl (by decide) _ _ _ rfl ((hown.alloc _).alloc _) ⟨wr.heap.size + 1, 0, none⟩ 1 1 [.int .u8 59] rfl rfl (one_new (by simp)) (u8_cells _) (by simp only [maxLen]; omega) (by omega) (by simp; omega) ?_; intro v1 w1 hown1 hgrow1 _; have hB1 := Lib.hid (own_below (xa (xa hB _) _) ((hown.alloc _).alloc _) hgrow1); clear hgrow1; have hbs1 := hB1.out.size))
          go_roundw
          case rel => exact ⟨k + 1, by omega, by go_num, own_eq (r := [59]) (by rw [HT.out, HO.out, qAt, hq]; rfl) (own_more [59] rfl rfl hown1), hB1.out⟩
          case measure => simp [intOf]; omega
        · go_wp2_with (first | (at_builtin; refine wpList_append_own _ rfl (.tmp 34) (.tmp 39) 111 rfl w.heap.size 5 i0 (.int .u8 0) 1 1 Tryz.underlying111 i1 i2 i3 i4 rfl (by decide) _ _ _ rfl ((hown.alloc _).alloc _) ⟨wr.heap.size + 1, 0, none⟩ 1 1 [.int .u8 32] rfl rfl (one_new (by simp)) (u8_cells _) (by simp only [maxLen]; omega) (by omega) (by simp; omega) ?_; intro v1 w1 hown1 hgrow1 _; have hB1 := Lib.hid (own_below (xa (xa hB _) _) ((hown.alloc _).alloc _) hgrow1); clear hgrow1; have hbs1 := hB1.out.size) | (at_builtin; refine wpList_append_own _ rfl (.tmp 43) (.tmp 44) 111 rfl w.heap.size 5 i0 (.int .u8 0) 1 1 Tryz.underlying111 i1 i2 i3 i4 rfl (by decide) _ _ _ rfl (hown1.alloc _) ⟨w1.heap.size, 0, none⟩ 2 2 [.int .u8 59, .int .u8 9] rfl rfl (two_new rfl) (u8_cells2 _ _) (by simp only [maxLen]; omega) (by omega) (by simp; omega) ?_; intro v2 w2 hown2 hgrow2 _; have hB2 := Lib.hid (own_below (xa hB1.out _) (hown1.alloc _) hgrow2); clear hgrow2))
          go_roundw
          case rel => exact ⟨k + 1, by omega, by go_num, own_eq (r := [32, 59, 9]) (by rw [HT.out, HO.out, qAt, hq]; rfl) (own_three hown2), hB2.out⟩
          case measure => simp [intOf]; omega
      have n1 : ¬ (c.toNat : Int) = 32 := fun h => g1 (UInt8.toNat_inj.1 (by have : (32 : UInt8).toNat = 32 := rfl; omega))
      have n2 : ¬ (c.toNat : Int) = 9 := fun h => g2 (UInt8.toNat_inj.1 (by have : (9 : UInt8).toNat = 9 := rfl; omega))
      have n3 : ¬ (c.toNat : Int) = 59 := fun h => g3 (UInt8.toNat_inj.1 (by have : (59 : UInt8).toNat = 59 := rfl; omega))
      have hi := idx_str t k c hc
      have m1 : ((c.toNat : Int) == 32) = false := by simpa using n1
      have m2 : ((c.toNat : Int) == 9) = false := by simpa using n2
      have m3 : ((c.toNat : Int) == 59) = false := by simpa using n3
      have o1 : ¬ c.toNat = 32 := by omega
      have o2 : ¬ c.toNat = 9 := by omega
      have o3 : ¬ c.toNat = 59 := by omega
      have HG := Lib.hid (show gapU c = false by simp [gapU, g1, g2, g3])
      clear hc g1 g2 g3
      rcases and3 (bits / 2 ^ (k % 40)) with hq | hq | hq | hq
      · go_wp2_with ((at_builtin; refine wpList_append_own _ rfl (.tmp 51) (.tmp 53) 111 rfl w.heap.size 5 i0 (.int .u8 0) 1 1 Tryz.underlying111 i1 i2 i3 i4 rfl (by decide) _ _ _ rfl (hown.alloc _) ⟨wr.heap.size, 0, none⟩ 1 1 [.int .u8 (c.toNat : Int)] rfl rfl (one_new rfl) (u8_cells _) (by simp only [maxLen]; omega) (by omega) (by simp; omega) ?_; intro v1 w1 hown1 hgrow1 _; have hB1 := Lib.hid (own_below (xa hB _) (hown.alloc _) hgrow1); clear hgrow1))
        go_roundw
        case rel => exact ⟨k + 1, by omega, by go_num, own_eq (r := [c]) (by rw [HT.out, HO.out, qAt, hq, restB, if_neg (by rw [HG.out]; decide)]; rfl) (own_more [_] rfl rfl hown1), hB1.out⟩
        case measure => simp [intOf]; omega
      · go_wp2_with (first | (go_at_call 79; refine (c79 _ _).mono ?_; rintro e wz ⟨rfl, rfl⟩) | (at_builtin; refine wpList_append_own _ rfl (.tmp 51) (.tmp 53) 111 rfl w.heap.size 5 i0 (.int .u8 0) 1 1 Tryz.underlying111 i1 i2 i3 i4 rfl (by decide) _ _ _ rfl (hown.alloc _) ⟨wr.heap.size, 0, none⟩ 1 1 [.int .u8 ((largeB c).toNat : Int)] rfl rfl (one_new rfl) (u8_cells _) (by simp only [maxLen]; omega) (by omega) (by simp; omega) ?_; intro v1 w1 hown1 hgrow1 _; have hB1 := Lib.hid (own_below (xa hB _) (hown.alloc _) hgrow1); clear hgrow1))
        go_roundw
        case rel => exact ⟨k + 1, by omega, by go_num, own_eq (r := [largeB c]) (by rw [HT.out, HO.out, qAt, hq, restB, if_neg (by rw [HG.out]; decide)]; rfl) (own_more [_] rfl rfl hown1), hB1.out⟩
        case measure => simp [intOf]; omega
      · go_wp2_with ((at_builtin; refine wpList_append_own _ rfl (.tmp 51) (.tmp 53) 111 rfl w.heap.size 5 i0 (.int .u8 0) 1 1 Tryz.underlying111 i1 i2 i3 i4 rfl (by decide) _ _ _ rfl (hown.alloc _) ⟨wr.heap.size, 0, none⟩ 1 1 [.int .u8 (c.toNat : Int)] rfl rfl (one_new rfl) (u8_cells _) (by simp only [maxLen]; omega) (by omega) (by simp; omega) ?_; intro v1 w1 hown1 hgrow1 _; have hB1 := Lib.hid (own_below (xa hB _) (hown.alloc _) hgrow1); clear hgrow1))
        go_roundw
        case rel => exact ⟨k + 1, by omega, by go_num, own_eq (r := [c]) (by rw [HT.out, HO.out, qAt, hq, restB, if_neg (by rw [HG.out]; decide)]; rfl) (own_more [_] rfl rfl hown1), hB1.out⟩
        case measure => simp [intOf]; omega
      · go_wp2_with (first | (go_at_call 79; refine (c79 _ _).mono ?_; rintro e wz ⟨rfl, rfl⟩) | (at_builtin; refine wpList_append_own _ rfl (.tmp 51) (.tmp 53) 111 rfl w.heap.size 5 i0 (.int .u8 0) 1 1 Tryz.underlying111 i1 i2 i3 i4 rfl (by decide) _ _ _ rfl (hown.alloc _) ⟨wr.heap.size, 0, none⟩ 1 1 [.int .u8 ((largeB c).toNat : Int)] rfl rfl (one_new rfl) (u8_cells _) (by simp only [maxLen]; omega) (by omega) (by simp; omega) ?_; intro v1 w1 hown1 hgrow1 _; have hB1 := Lib.hid (own_below (xa hB _) (hown.alloc _) hgrow1); clear hgrow1))
        go_roundw
        case rel => exact ⟨k + 1, by omega, by go_num, own_eq (r := [largeB c]) (by rw [HT.out, HO.out, qAt, hq, restB, if_neg (by rw [HG.out]; decide)]; rfl) (own_more [_] rfl rfl hown1), hB1.out⟩
        case measure => simp [intOf]; omega
    · have hkl : k = t.length := by omega
      have hback := own_text hown
      go_wp2
      go_ret
      exact ⟨ret_str (by rw [restL, ← hkl, HO.out]), hB⟩
end Go.Proofs.YthifeoebefbalaaGreatDoor
