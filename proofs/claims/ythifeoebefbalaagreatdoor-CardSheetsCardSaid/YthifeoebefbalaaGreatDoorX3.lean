/- The reference: parts, lines. -/
import Derived.Test.YthifeoebefbalaaGreatDoorX2
import Derived.Test.YthifeoebefbalaaGreatDoorV6
set_option linter.unusedVariables false
set_option linter.unusedSimpArgs false
namespace Go.Proofs.YthifeoebefbalaaGreatDoor
open Go.RowKit

theorem drop_at {t : List UInt8} {f k : Nat} {c : UInt8} (hf : f ≤ k) (h : t[k]? = some c) : t.drop f = (t.drop f).take (k - f) ++ c :: t.drop (k + 1) := by
  obtain ⟨hk, hc⟩ := List.getElem?_eq_some_iff.1 h
  have e1 : (t.drop f).drop (k - f) = t.drop k := by rw [List.drop_drop]; congr 1; omega
  have e2 : t.drop k = c :: t.drop (k + 1) := by rw [← hc]; exact List.drop_eq_getElem_cons hk
  conv => lhs; rw [← List.take_append_drop (k - f) (t.drop f), e1, e2]
theorem parts_hit {t : List UInt8} {s : UInt8} {f k : Nat} {P : List (List UInt8)} (hf : f ≤ k) (h : t[k]? = some s) (hs : splitL s t = P ++ splitL s (t.drop f)) (hn : ∀ c ∈ (t.drop f).take (k - f), c ≠ s) : splitL s t = (P ++ [(t.drop f).take (k - f)]) ++ splitL s (t.drop (k + 1)) := by
  rw [hs, drop_at hf h, split_at _ hn]
  have e : ((t.drop f).take (k - f) ++ s :: t.drop (k + 1)).take (k - f) = (t.drop f).take (k - f) := by rw [← drop_at hf h]
  rw [e]
  simp
theorem parts_end {t : List UInt8} {s : UInt8} {f : Nat} {P : List (List UInt8)} (hs : splitL s t = P ++ splitL s (t.drop f)) (hn : ∀ c ∈ (t.drop f).take (t.length - f), c ≠ s) : splitL s t = P ++ [(t.drop f).take (t.length - f)] := by
  have e : (t.drop f).take (t.length - f) = t.drop f := List.take_of_length_le (by rw [List.length_drop]; exact Nat.le_refl _)
  rw [e] at hn ⊢
  rw [hs, split_none hn]
theorem parts_miss {t : List UInt8} {s c : UInt8} {f k : Nat} (hf : f ≤ k) (h : t[k]? = some c) (hc : c ≠ s) (hn : ∀ c ∈ (t.drop f).take (k - f), c ≠ s) : ∀ c ∈ (t.drop f).take (k + 1 - f), c ≠ s := by
  obtain ⟨hk, hcc⟩ := List.getElem?_eq_some_iff.1 h
  have e : (t.drop f).take (k + 1 - f) = (t.drop f).take (k - f) ++ [c] := by
    rw [show k + 1 - f = (k - f) + 1 by omega, List.take_add_one]
    congr 1
    rw [List.getElem?_drop, show f + (k - f) = k by omega, h]
    rfl
  intro d hd
  rw [e] at hd
  rcases List.mem_append.1 hd with hd | hd
  · exact hn d hd
  · rw [List.mem_singleton.1 hd]; exact hc
set_option maxRecDepth 100000 in
set_option maxHeartbeats 16000000 in
theorem c85 (t : List UInt8) (s : UInt8) (w : World) (hl : t.length ≤ 4000) : Calls Tryz.prog 85 #[.string ⟨t.toArray⟩, .int .u8 (s.toNat : Int)] w fun e w' => ∃ v, e = .returned v ∧ w'.ownsRow w.heap.size 9 1 v (splitL s t).length (strC (splitL s t)) ∧ Below w.heap.size w w' := by
  obtain ⟨i0, i1, i2, i3, i4⟩ := info_parts Tryz.info9
  go_enter Tryz.func85, Tryz.ntmps85
  go_wp2
  go_loopw [5, 6, 7] (fun v fr i wr => ∃ (k f : Nat) (P : List (List UInt8)), i = .int .i64 k ∧ fr = .int .i64 f ∧ wr.ownsRow w.heap.size 9 1 v P.length (strC P) ∧ Below w.heap.size w wr ∧ P.length ≤ k ∧ k ≤ t.length + 1 ∧ ((k ≤ t.length ∧ f ≤ k ∧ Hid (splitL s t = P ++ splitL s (t.drop f)) ∧ Hid (∀ c ∈ (t.drop f).take (k - f), c ≠ s)) ∨ (k = t.length + 1 ∧ Hid (P = splitL s t)))) (fun _ _ i _ => t.length + 2 - (intOf i).toNat)
  case atStart => exact ⟨0, 0, [], rfl, rfl, World.ownsRow_nil _ _ _ _, xr _, by simp, by omega, .inl ⟨by omega, by omega, Lib.hid rfl, Lib.hid (by simp)⟩⟩
  case round =>
    obtain ⟨k, f, P, rfl, rfl, hown, hB, hPk, hk1, hcase⟩ := hrel
    rcases hcase with ⟨hk, hf, HS, HN⟩ | ⟨hk, HP⟩
    · have hbs := hB.size
      by_cases hlt : k < t.length
      · obtain ⟨c, hc⟩ : ∃ c, t[k]? = some c := ⟨_, List.getElem?_eq_some_iff.2 ⟨hlt, rfl⟩⟩
        by_cases hcs : c = s
        · subst hcs
          have hi := idx_st t k c hc
          have HH := Lib.hid (parts_hit hf hc HS.out HN.out)
          have n0 : ¬ (k : Int) = (t.length : Int) := by omega
          have n1 : ((k : Int) == (t.length : Int)) = false := by simpa using n0
          clear hc
          obtain ⟨U, hU⟩ : ∃ U, (t.drop f).take (k - f) = U := ⟨_, rfl⟩
          rw [hU] at HH
          have HU := Lib.hid hU
          clear hU
          go_wp2_with (at_builtin; refine wpList_append_own _ rfl (.tmp 25) (.tmp 30) 44 rfl w.heap.size 9 i0 (.string ⟨#[]⟩) 1 16 Tryz.underlying44 i1 i2 i3 i4 rfl (by decide) _ _ _ rfl (hown.alloc _) ⟨wr.heap.size, 0, none⟩ 1 1 [.string ⟨(List.take (k - f) (List.drop f t)).toArray⟩] rfl rfl (one_new9 rfl) (str_one _) (by simp only [maxLen]; omega) (by omega) (by simp; omega) ?_; intro v1 w1 hown1 hgrow1 _; have hB1 := Lib.hid (own_below9 (xa hB _) (hown.alloc _) hgrow1); clear hgrow1)
          go_roundw
          case rel => exact ⟨k + 1, k + 1, P ++ [U], by go_num, by go_num, own_snoc9 (by rw [HU.out] at hown1; exact hown1), hB1.out, by simp; omega, by omega, .inl ⟨by omega, by omega, HH, Lib.hid (by simp)⟩⟩
          case measure => simp [intOf]; omega
        · have hi := idx_st t k c hc
          have HM := Lib.hid (parts_miss hf hc hcs HN.out)
          have n0 : ¬ (k : Int) = (t.length : Int) := by omega
          have n1 : ((k : Int) == (t.length : Int)) = false := by simpa using n0
          have q1 : ¬ c.toNat = s.toNat := fun h => hcs (UInt8.toNat_inj.1 h)
          have q2 : ¬ (c.toNat : Int) = (s.toNat : Int) := by omega
          have q3 : ((c.toNat : Int) == (s.toNat : Int)) = false := beq_eq_false_iff_ne.2 q2
          clear hc hcs
          go_wp2_with fail
          go_roundw
          case rel => exact ⟨k + 1, f, P, by go_num, rfl, hown, hB, by omega, by omega, .inl ⟨by omega, by omega, HS, HM⟩⟩
          case measure => simp [intOf]; omega
      · have hke : k = t.length := by omega
        subst hke
        have HH := Lib.hid (parts_end HS.out HN.out)
        obtain ⟨U, hU⟩ : ∃ U, (t.drop f).take (t.length - f) = U := ⟨_, rfl⟩
        rw [hU] at HH
        have HU := Lib.hid hU
        clear hU
        go_wp2_with (at_builtin; refine wpList_append_own _ rfl (.tmp 25) (.tmp 30) 44 rfl w.heap.size 9 i0 (.string ⟨#[]⟩) 1 16 Tryz.underlying44 i1 i2 i3 i4 rfl (by decide) _ _ _ rfl (hown.alloc _) ⟨wr.heap.size, 0, none⟩ 1 1 [.string ⟨(List.take (t.length - f) (List.drop f t)).toArray⟩] rfl rfl (one_new9 rfl) (str_one _) (by simp only [maxLen]; omega) (by omega) (by simp; omega) ?_; intro v1 w1 hown1 hgrow1 _; have hB1 := Lib.hid (own_below9 (xa hB _) (hown.alloc _) hgrow1); clear hgrow1)
        go_roundw
        case rel => exact ⟨t.length + 1, t.length + 1, P ++ [U], by go_num, by go_num, own_snoc9 (by rw [HU.out] at hown1; exact hown1), hB1.out, by simp; omega, by omega, .inr ⟨rfl, Lib.hid HH.out.symm⟩⟩
        case measure => simp [intOf]
    · subst hk
      go_wp2
      go_ret
      exact ⟨_, rfl, by rw [← HP.out]; exact hown, hB⟩
end Go.Proofs.YthifeoebefbalaaGreatDoor
