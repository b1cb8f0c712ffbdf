/- The reference: words, the walk. -/
import Derived.Test.YthifeoebefbalaaGreatDoorX1
set_option linter.unusedVariables false
set_option linter.unusedSimpArgs false
namespace Go.Proofs.YthifeoebefbalaaGreatDoor
open Go.RowKit

set_option maxRecDepth 100000 in
theorem byte_text (c : UInt8) (w : World) : (convert 111 9 (.slice (some ⟨w.heap.size, 0, none⟩) 1 1)).run Tryz.prog (w.alloc (.cells #[.int .u8 (c.toNat : Int)] 5)) = .ok (.string ⟨[c].toArray⟩) (w.alloc (.cells #[.int .u8 (c.toNat : Int)] 5)) := by
  have hlt := c.toNat_lt
  have h := one_byte w (c.toNat : Int) (by omega) (by omega)
  have e : UInt8.ofNat ((c.toNat : Int)).toNat = c := by simp
  rw [e] at h
  exact h
theorem words_end {t : List UInt8} {P : List (List UInt8)} {q : List UInt8} (h : wAt t t.length = (P, q)) : wordsOf t = if q = [] then P else P ++ [q] := by
  rw [wAt, List.take_length] at h
  rw [wordsOf, h]
set_option maxRecDepth 100000 in
set_option maxHeartbeats 16000000 in
theorem c35 (t : List UInt8) (w : World) (hl : t.length ≤ 4000) : Calls Tryz.prog 35 #[.string ⟨t.toArray⟩] w fun e w' => ∃ v, e = .returned v ∧ w'.ownsRow w.heap.size 9 1 v (wordsOf t).length (strC (wordsOf t)) ∧ Below w.heap.size w w' := by
  obtain ⟨i0, i1, i2, i3, i4⟩ := info_parts Tryz.info9
  go_enter Tryz.func35, Tryz.ntmps35
  go_wp2
  go_loopw [3, 4, 5] (fun v u i wr => ∃ (k : Nat) (P : List (List UInt8)) (q : List UInt8), i = .int .i64 k ∧ u = .string ⟨q.toArray⟩ ∧ wr.ownsRow w.heap.size 9 1 v P.length (strC P) ∧ Below w.heap.size w wr ∧ ((k ≤ t.length ∧ Hid (wAt t k = (P, q))) ∨ (k = t.length + 1 ∧ Hid (P = wordsOf t)))) (fun _ _ i _ => t.length + 2 - (intOf i).toNat)
  case atStart => exact ⟨0, [], [], rfl, rfl, World.ownsRow_nil _ _ _ _, xr _, .inl ⟨by omega, Lib.hid rfl⟩⟩
  case round =>
    obtain ⟨k, P, q, rfl, rfl, hown, hB, hcase⟩ := hrel
    rcases hcase with ⟨hk, HW⟩ | ⟨hk, HP⟩
    · have hlen := wAt_len t k
      rw [HW.out] at hlen
      simp only at hlen
      have hbs := hB.size
      by_cases hlt : k < t.length
      · obtain ⟨c, hc⟩ : ∃ c, t[k]? = some c := ⟨_, List.getElem?_eq_some_iff.2 ⟨hlt, rfl⟩⟩
        have HS := Lib.hid ((wAt_step hc).trans (by rw [HW.out]))
        by_cases g1 : c = 32
        · subst g1
          have hi : ∀ W, (Instr.index 9 (.string ⟨t.toArray⟩) (.int .i64 (k : Int))).run Tryz.prog W = .ok (.int .u8 32) W := idx_st t k 32 hc
          clear hc
          cases q with
          | nil =>
            go_wp2_with fail
            go_roundw
            case rel => exact ⟨k + 1, P, [], by go_num, rfl, hown, hB, .inl ⟨by omega, Lib.hid (by rw [HS.out, wstep, if_pos (by decide), if_pos rfl])⟩⟩
            case measure => simp [intOf]; omega
          | cons d q =>
            simp only [List.length_cons] at hlen
            go_wp2_with (at_builtin; refine wpList_append_own _ rfl (.tmp 44) (.tmp 46) 44 rfl w.heap.size 9 i0 (.string ⟨#[]⟩) 1 16 Tryz.underlying44 i1 i2 i3 i4 rfl (by decide) _ _ _ rfl (hown.alloc _) ⟨wr.heap.size, 0, none⟩ 1 1 [.string ⟨(d :: q).toArray⟩] rfl rfl (one_new9 rfl) (str_one _) (by simp only [maxLen]; omega) (by omega) (by simp; omega) ?_; intro v1 w1 hown1 hgrow1 _; have hB1 := Lib.hid (own_below9 (xa hB _) (hown.alloc _) hgrow1); clear hgrow1)
            go_roundw
            case rel => exact ⟨k + 1, P ++ [d :: q], [], by go_num, rfl, own_snoc9 hown1, hB1.out, .inl ⟨by omega, Lib.hid (by rw [HS.out, wstep, if_pos (by decide), if_neg (by simp)])⟩⟩
            case measure => simp [intOf]; omega
        by_cases g2 : c = 9
        · subst g2
          have hi : ∀ W, (Instr.index 9 (.string ⟨t.toArray⟩) (.int .i64 (k : Int))).run Tryz.prog W = .ok (.int .u8 9) W := idx_st t k 9 hc
          clear hc g1
          cases q with
          | nil =>
            go_wp2_with fail
            go_roundw
            case rel => exact ⟨k + 1, P, [], by go_num, rfl, hown, hB, .inl ⟨by omega, Lib.hid (by rw [HS.out, wstep, if_pos (by decide), if_pos rfl])⟩⟩
            case measure => simp [intOf]; omega
          | cons d q =>
            simp only [List.length_cons] at hlen
            go_wp2_with (at_builtin; refine wpList_append_own _ rfl (.tmp 44) (.tmp 46) 44 rfl w.heap.size 9 i0 (.string ⟨#[]⟩) 1 16 Tryz.underlying44 i1 i2 i3 i4 rfl (by decide) _ _ _ rfl (hown.alloc _) ⟨wr.heap.size, 0, none⟩ 1 1 [.string ⟨(d :: q).toArray⟩] rfl rfl (one_new9 rfl) (str_one _) (by simp only [maxLen]; omega) (by omega) (by simp; omega) ?_; intro v1 w1 hown1 hgrow1 _; have hB1 := Lib.hid (own_below9 (xa hB _) (hown.alloc _) hgrow1); clear hgrow1)
            go_roundw
            case rel => exact ⟨k + 1, P ++ [d :: q], [], by go_num, rfl, own_snoc9 hown1, hB1.out, .inl ⟨by omega, Lib.hid (by rw [HS.out, wstep, if_pos (by decide), if_neg (by simp)])⟩⟩
            case measure => simp [intOf]; omega
        by_cases g3 : c = 59
        · subst g3
          have hi : ∀ W, (Instr.index 9 (.string ⟨t.toArray⟩) (.int .i64 (k : Int))).run Tryz.prog W = .ok (.int .u8 59) W := idx_st t k 59 hc
          clear hc g1 g2
          cases q with
          | nil =>
            go_wp2_with fail
            go_roundw
            case rel => exact ⟨k + 1, P, [], by go_num, rfl, hown, hB, .inl ⟨by omega, Lib.hid (by rw [HS.out, wstep, if_pos (by decide), if_pos rfl])⟩⟩
            case measure => simp [intOf]; omega
          | cons d q =>
            simp only [List.length_cons] at hlen
            go_wp2_with (at_builtin; refine wpList_append_own _ rfl (.tmp 44) (.tmp 46) 44 rfl w.heap.size 9 i0 (.string ⟨#[]⟩) 1 16 Tryz.underlying44 i1 i2 i3 i4 rfl (by decide) _ _ _ rfl (hown.alloc _) ⟨wr.heap.size, 0, none⟩ 1 1 [.string ⟨(d :: q).toArray⟩] rfl rfl (one_new9 rfl) (str_one _) (by simp only [maxLen]; omega) (by omega) (by simp; omega) ?_; intro v1 w1 hown1 hgrow1 _; have hB1 := Lib.hid (own_below9 (xa hB _) (hown.alloc _) hgrow1); clear hgrow1)
            go_roundw
            case rel => exact ⟨k + 1, P ++ [d :: q], [], by go_num, rfl, own_snoc9 hown1, hB1.out, .inl ⟨by omega, Lib.hid (by rw [HS.out, wstep, if_pos (by decide), if_neg (by simp)])⟩⟩
            case measure => simp [intOf]; omega
        have n1 : ¬ (c.toNat : Int) = 32 := fun h => g1 (UInt8.toNat_inj.1 (by have : (32 : UInt8).toNat = 32 := rfl; omega))
        have n2 : ¬ (c.toNat : Int) = 9 := fun h => g2 (UInt8.toNat_inj.1 (by have : (9 : UInt8).toNat = 9 := rfl; omega))
        have n3 : ¬ (c.toNat : Int) = 59 := fun h => g3 (UInt8.toNat_inj.1 (by have : (59 : UInt8).toNat = 59 := rfl; omega))
        have m1 : ((c.toNat : Int) == 32) = false := by simpa using n1
        have m2 : ((c.toNat : Int) == 9) = false := by simpa using n2
        have m3 : ((c.toNat : Int) == 59) = false := by simpa using n3
        have b1 : ((c.toNat : Int) != 32) = true := by rw [bne, m1]; rfl
        have b2 : ((c.toNat : Int) != 9) = true := by rw [bne, m2]; rfl
        have b3 : ((c.toNat : Int) != 59) = true := by rw [bne, m3]; rfl
        have o1 : ¬ c.toNat = 32 := by omega
        have o2 : ¬ c.toNat = 9 := by omega
        have o3 : ¬ c.toNat = 59 := by omega
        have hi := idx_st t k c hc
        have hb8 := byte_text (smallB c)
        have HG := Lib.hid (show gapU c = false by simp [gapU, g1, g2, g3])
        clear hc g1 g2 g3
        go_wp2_with (go_at_call 86; refine (c86 _ _).mono ?_; rintro e wz ⟨rfl, rfl⟩)
        go_roundw
        case rel => exact ⟨k + 1, P, q ++ [smallB c], by go_num, rfl, hown.alloc _, xa hB _, .inl ⟨by omega, Lib.hid (by rw [HS.out, wstep, if_neg (by rw [HG.out]; exact Bool.false_ne_true)])⟩⟩
        case measure => simp [intOf]; omega
      · have hke : k = t.length := by omega
        subst hke
        have HS := Lib.hid (words_end HW.out)
        cases q with
        | nil =>
          go_wp2_with fail
          go_roundw
          case rel => exact ⟨t.length + 1, P, [], by go_num, rfl, hown, hB, .inr ⟨rfl, Lib.hid (by rw [HS.out, if_pos rfl])⟩⟩
          case measure => simp [intOf]
        | cons d q =>
          simp only [List.length_cons] at hlen
          go_wp2_with (at_builtin; refine wpList_append_own _ rfl (.tmp 44) (.tmp 46) 44 rfl w.heap.size 9 i0 (.string ⟨#[]⟩) 1 16 Tryz.underlying44 i1 i2 i3 i4 rfl (by decide) _ _ _ rfl (hown.alloc _) ⟨wr.heap.size, 0, none⟩ 1 1 [.string ⟨(d :: q).toArray⟩] rfl rfl (one_new9 rfl) (str_one _) (by simp only [maxLen]; omega) (by omega) (by simp; omega) ?_; intro v1 w1 hown1 hgrow1 _; have hB1 := Lib.hid (own_below9 (xa hB _) (hown.alloc _) hgrow1); clear hgrow1)
          go_roundw
          case rel => exact ⟨t.length + 1, P ++ [d :: q], [], by go_num, rfl, own_snoc9 hown1, hB1.out, .inr ⟨rfl, Lib.hid (by rw [HS.out, if_neg (by simp)])⟩⟩
          case measure => simp [intOf]
    · subst hk
      go_wp2
      go_ret
      exact ⟨_, rfl, by rw [← HP.out]; exact hown, hB⟩
end Go.Proofs.YthifeoebefbalaaGreatDoor
