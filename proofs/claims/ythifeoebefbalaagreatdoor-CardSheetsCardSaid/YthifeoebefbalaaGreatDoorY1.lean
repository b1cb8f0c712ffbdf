/- The reference: a word as a number, its ends, a year, a day. -/
import Derived.Test.YthifeoebefbalaaGreatDoorX1
set_option linter.unusedVariables false
set_option linter.unusedSimpArgs false
namespace Go.Proofs.YthifeoebefbalaaGreatDoor
open Go.RowKit

def orM (o : Option Int) : Int := o.getD (-1)
theorem numV_le (l : List UInt8) (h : l.all isDig = true) : numV l < 10 ^ l.length := by
  suffices k : ∀ r : List UInt8, r.reverse.all isDig = true → numV r.reverse < 10 ^ r.length by
    have := k l.reverse (by simpa using h)
    simpa using this
  intro r
  induction r with
  | nil => intro _; decide
  | cons c r ih =>
    intro h
    rw [List.reverse_cons, List.all_append] at h
    simp only [Bool.and_eq_true, List.all_cons, List.all_nil, Bool.and_true] at h
    have i := ih h.1
    have hd := h.2
    simp only [isDig, Bool.and_eq_true, decide_eq_true_eq] at hd
    have e : numV (r.reverse ++ [c]) = numV r.reverse * 10 + (c.toNat - 48) := by rw [numV, List.foldl_append]; rfl
    rw [List.reverse_cons, e, List.length_cons, Nat.pow_succ]
    omega
theorem numV_step {l : List UInt8} {k : Nat} {c : UInt8} (h : l[k]? = some c) : numV (l.take (k + 1)) = numV (l.take k) * 10 + (c.toNat - 48) := by
  rw [take_one h, numV, List.foldl_append]; rfl
theorem dig_sub (c : UInt8) (h : 48 ≤ c.toNat) : (c.toNat : Int) - 48 = ((c.toNat - 48 : Nat) : Int) := by omega
set_option maxRecDepth 100000 in
set_option maxHeartbeats 4000000 in
theorem c118 (l : List UInt8) (w : World) : Calls Tryz.prog 118 #[.string ⟨l.toArray⟩] w fun e w' => e = .returned (.int .i64 (orM (numO l))) ∧ w = w' := by
  obtain ⟨R, hR⟩ : ∃ R, orM (numO l) = R := ⟨_, rfl⟩
  rw [hR]
  by_cases h0 : l.length < 1
  · have : R = -1 := by rw [← hR, numO, isNum, decide_eq_false (by omega)]; rfl
    subst this
    clear hR
    go_enter Tryz.func118, Tryz.ntmps118
    go_wp2_with fail
    go_ret
    exact ⟨rfl, rfl⟩
  by_cases h10 : 10 < l.length
  · have : R = -1 := by rw [← hR, numO, isNum, decide_eq_false (p := l.length ≤ 10) (by omega), Bool.and_false]; rfl
    subst this
    clear hR
    go_enter Tryz.func118, Tryz.ntmps118
    go_wp2_with fail
    go_ret
    exact ⟨rfl, rfl⟩
  have HR := Lib.hid hR
  clear hR
  go_enter Tryz.func118, Tryz.ntmps118
  go_wp2_with fail
  go_loopw [3, 4] (fun n i wr => ∃ (k m : Nat), k ≤ l.length ∧ i = .int .i64 k ∧ n = .int .i64 m ∧ Hid ((l.take k).all isDig = true) ∧ Hid (numV (l.take k) = m) ∧ w = wr) (fun _ i _ => 20 - (intOf i).toNat)
  case atStart => exact ⟨0, 0, by omega, rfl, rfl, Lib.hid rfl, Lib.hid rfl, rfl⟩
  case round =>
    obtain ⟨k, m, hk, rfl, rfl, HA, HM, rfl⟩ := hrel
    by_cases hlt : k < l.length
    · obtain ⟨c, hc⟩ : ∃ c, l[k]? = some c := ⟨_, List.getElem?_eq_some_iff.2 ⟨hlt, rfl⟩⟩
      have hi := idx_st l k c hc
      have HS := Lib.hid (numV_step hc)
      have HT := Lib.hid (take_one hc)
      have hm := numV_le (l.take k) HA.out
      rw [HM.out] at hm
      have hm2 : m < 10000000000 := Nat.lt_of_lt_of_le hm (Nat.le_trans (Nat.pow_le_pow_right (by omega) (show (l.take k).length ≤ 10 by rw [List.length_take]; omega)) (by decide))
      have hcl := c.toNat_lt
      have HMEM := Lib.hid (List.mem_of_getElem? hc)
      clear hc hm
      by_cases hd1 : 48 ≤ c.toNat
      · by_cases hd2 : c.toNat ≤ 57
        · have hdec1 : decide ((c.toNat : Int) < 48) = false := decide_eq_false (by omega)
          have hdec2 : decide ((57 : Int) < (c.toNat : Int)) = false := decide_eq_false (by omega)
          go_wp2_with fail
          go_roundw
          case rel => exact ⟨k + 1, m * 10 + (c.toNat - 48), by omega, by go_num, by congr 1; omega, Lib.hid (by rw [HT.out, List.all_append, HA.out]; simp [isDig, hd1, hd2]), Lib.hid (by rw [HS.out, HM.out]), trivial⟩
          case measure => simp [intOf]; omega
        · have : R = -1 := by
            rw [← HR.out, numO, if_neg]; rfl
            intro hn
            simp only [isNum, Bool.and_eq_true, List.all_eq_true] at hn
            have := hn.2 c HMEM.out
            simp [isDig] at this
            omega
          subst this
          go_wp2_with fail
          go_ret
          exact ⟨rfl, rfl⟩
      · have : R = -1 := by
          rw [← HR.out, numO, if_neg]; rfl
          intro hn
          simp only [isNum, Bool.and_eq_true, List.all_eq_true] at hn
          have := hn.2 c HMEM.out
          simp [isDig] at this
          omega
        subst this
        go_wp2_with fail
        go_ret
        exact ⟨rfl, rfl⟩
    · have hkl : k = l.length := by omega
      have : R = m := by
        rw [← HR.out, numO, if_pos]
        · show ((numV l : Nat) : Int) = m
          rw [← HM.out, hkl, List.take_length]
        · have h := HA.out
          rw [hkl, List.take_length] at h
          rw [isNum, h, decide_eq_true (by omega), decide_eq_true (by omega)]
          rfl
      subst this
      go_wp2_with fail
      go_ret
      exact ⟨rfl, rfl⟩
end Go.Proofs.YthifeoebefbalaaGreatDoor
