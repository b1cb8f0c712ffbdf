/- Reading: dates. -/
import Derived.Test.YthifeoebefbalaaGreatDoorV2
set_option linter.unusedVariables false
set_option linter.unusedSimpArgs false
namespace Go.Proofs.YthifeoebefbalaaGreatDoor
open Go.RowKit

theorem split_none {s : UInt8} {l : List UInt8} (h : ∀ c ∈ l, c ≠ s) : splitL s l = [l] := by
  induction l with
  | nil => rfl
  | cons x l ih => rw [splitL, if_neg (h x (by simp)), ih (fun c hc => h c (by simp [hc]))]
theorem split_at {s : UInt8} {l : List UInt8} (r : List UInt8) (h : ∀ c ∈ l, c ≠ s) : splitL s (l ++ s :: r) = l :: splitL s r := by
  induction l with
  | nil => rw [List.nil_append, splitL, if_pos rfl]
  | cons x l ih => rw [List.cons_append, splitL, if_neg (h x (by simp)), ih (fun c hc => h c (by simp [hc]))]
/-- Without a sign there is no joined date. -/
theorem joined_none {x : List UInt8} (h : ∀ c ∈ x, c ≠ 47 ∧ c ≠ 46 ∧ c ≠ 45) : joinedO x = .no := by
  have a1 : joinAt 47 x = .no := by rw [joinAt, split_none (fun c hc => (h c hc).1)]
  have a2 : joinAt 46 x = .no := by rw [joinAt, split_none (fun c hc => (h c hc).2.1)]
  have a3 : joinAt 45 x = .no := by rw [joinAt, split_none (fun c hc => (h c hc).2.2)]
  rw [joinedO, signs, joinedFrom, a1, joinedFrom, a2, joinedFrom, a3]
  rfl
theorem dig_signs {x : List UInt8} (h : ∀ c ∈ x, isDig c = true) : ∀ c ∈ x, c ≠ 47 ∧ c ≠ 46 ∧ c ≠ 45 := fun c hc => by
  obtain ⟨-, -, -, -, -, h6, h7, h8, -⟩ := dig_all c (h c hc)
  exact ⟨h6, h7, h8⟩
/-- Three numbers with a sign between them. -/
theorem split_three {s : UInt8} {a b c : List UInt8} (ha : ∀ x ∈ a, x ≠ s) (hb : ∀ x ∈ b, x ≠ s) (hc : ∀ x ∈ c, x ≠ s) : splitL s (a ++ s :: (b ++ s :: c)) = [a, b, c] := by
  rw [split_at _ ha, split_at _ hb, split_none hc]
theorem numO_spec {l : List UInt8} {v : Int} (h : numO l = some v) : isNum l = true ∧ (numV l : Int) = v := by
  unfold numO at h
  split at h
  · rename_i hn; simp at h; exact ⟨hn, h⟩
  · cases h
theorem join3_dmy {a b c : List UInt8} {x y z : Int} (dash : Bool) (hd : (dash && decide (a.length = 4)) = false) (ha : numO a = some x) (hb : numO b = some y) (hc : numO c = some z) (h4 : c.length = 4) (h1 : 1 ≤ y) (h2 : y ≤ 12) : join3 dash a b c = .date ⟨z, y, x⟩ := by
  obtain ⟨a1, a2⟩ := numO_spec ha
  obtain ⟨b1, b2⟩ := numO_spec hb
  obtain ⟨c1, c2⟩ := numO_spec hc
  have e : (decide (1 ≤ numV b) && decide (numV b ≤ 12)) = true := by simp; omega
  rw [join3, a1, b1, c1, e, hd, yearO, if_pos h4, hc]
  simp only [Bool.and_self, if_true, Bool.false_eq_true, if_false, a2, b2]
theorem join3_ymd {a b c : List UInt8} {x y z : Int} (h4 : a.length = 4) (ha : numO a = some x) (hb : numO b = some y) (hc : numO c = some z) (h1 : 1 ≤ y) (h2 : y ≤ 12) : join3 true a b c = .date ⟨x, y, z⟩ := by
  obtain ⟨a1, a2⟩ := numO_spec ha
  obtain ⟨b1, b2⟩ := numO_spec hb
  obtain ⟨c1, c2⟩ := numO_spec hc
  have e : (decide (1 ≤ numV b) && decide (numV b ≤ 12)) = true := by simp; omega
  rw [join3, a1, b1, c1, e, h4]
  simp only [Bool.and_self, if_true, decide_true, a2, b2, c2]
theorem joined_47 {a b c : List UInt8} {x y z : Int} (da : ∀ u ∈ a, isDig u = true) (db : ∀ u ∈ b, isDig u = true) (dc : ∀ u ∈ c, isDig u = true) (ha : numO a = some x) (hb : numO b = some y) (hc : numO c = some z) (h4 : c.length = 4) (h1 : 1 ≤ y) (h2 : y ≤ 12) : joinedO (a ++ 47 :: (b ++ 47 :: c)) = .date ⟨z, y, x⟩ := by
  have s1 := split_three (s := 47) (fun u hu => (dig_signs da u hu).1) (fun u hu => (dig_signs db u hu).1) (fun u hu => (dig_signs dc u hu).1)
  have e : joinAt 47 (a ++ 47 :: (b ++ 47 :: c)) = .date ⟨z, y, x⟩ := by
    rw [joinAt, s1]
    exact join3_dmy _ (by rfl) ha hb hc h4 h1 h2
  rw [joinedO, signs, joinedFrom, e]
theorem mem_three {s : UInt8} {a b c : List UInt8} {u : UInt8} (h : u ∈ a ++ s :: (b ++ s :: c)) : u ∈ a ∨ u = s ∨ u ∈ b ∨ u ∈ c := by
  simp only [List.mem_append, List.mem_cons] at h
  rcases h with h | h | h | h | h
  · exact .inl h
  · exact .inr (.inl h)
  · exact .inr (.inr (.inl h))
  · exact .inr (.inl h)
  · exact .inr (.inr (.inr h))
theorem joined_46 {a b c : List UInt8} {x y z : Int} (da : ∀ u ∈ a, isDig u = true) (db : ∀ u ∈ b, isDig u = true) (dc : ∀ u ∈ c, isDig u = true) (ha : numO a = some x) (hb : numO b = some y) (hc : numO c = some z) (h4 : c.length = 4) (h1 : 1 ≤ y) (h2 : y ≤ 12) : joinedO (a ++ 46 :: (b ++ 46 :: c)) = .date ⟨z, y, x⟩ := by
  have e0 : joinAt 47 (a ++ 46 :: (b ++ 46 :: c)) = .no := by
    rw [joinAt, split_none (fun u hu => by
      rcases mem_three hu with h | h | h | h
      · exact (dig_signs da u h).1
      · rw [h]; decide
      · exact (dig_signs db u h).1
      · exact (dig_signs dc u h).1)]
  have s1 := split_three (s := 46) (fun u hu => (dig_signs da u hu).2.1) (fun u hu => (dig_signs db u hu).2.1) (fun u hu => (dig_signs dc u hu).2.1)
  have e : joinAt 46 (a ++ 46 :: (b ++ 46 :: c)) = .date ⟨z, y, x⟩ := by
    rw [joinAt, s1]
    exact join3_dmy _ (by rfl) ha hb hc h4 h1 h2
  rw [joinedO, signs, joinedFrom, e0, joinedFrom, e]
theorem joined_45 {a b c : List UInt8} (v : Jn) (hv : v ≠ .no) (da : ∀ u ∈ a, isDig u = true) (db : ∀ u ∈ b, isDig u = true) (dc : ∀ u ∈ c, isDig u = true) (h : join3 true a b c = v) : joinedO (a ++ 45 :: (b ++ 45 :: c)) = v := by
  have hm : ∀ s : UInt8, s = 47 ∨ s = 46 → ∀ u ∈ a ++ 45 :: (b ++ 45 :: c), u ≠ s := fun s hs u hu => by
    rcases mem_three hu with h | h | h | h
    · rcases hs with rfl | rfl
      · exact (dig_signs da u h).1
      · exact (dig_signs da u h).2.1
    · rcases hs with rfl | rfl <;> (rw [h]; decide)
    · rcases hs with rfl | rfl
      · exact (dig_signs db u h).1
      · exact (dig_signs db u h).2.1
    · rcases hs with rfl | rfl
      · exact (dig_signs dc u h).1
      · exact (dig_signs dc u h).2.1
  have e0 : joinAt 47 (a ++ 45 :: (b ++ 45 :: c)) = .no := by rw [joinAt, split_none (hm 47 (.inl rfl))]
  have e1 : joinAt 46 (a ++ 45 :: (b ++ 45 :: c)) = .no := by rw [joinAt, split_none (hm 46 (.inr rfl))]
  have s1 := split_three (s := 45) (fun u hu => (dig_signs da u hu).2.2) (fun u hu => (dig_signs db u hu).2.2) (fun u hu => (dig_signs dc u hu).2.2)
  have e : joinAt 45 (a ++ 45 :: (b ++ 45 :: c)) = v := by
    rw [joinAt, s1]
    exact h
  rw [joinedO, signs, joinedFrom, e0, joinedFrom, e1, joinedFrom, e]
  cases v with
  | no => exact absurd rfl hv
  | date d => rfl
  | stop => rfl
end Go.Proofs.YthifeoebefbalaaGreatDoor
