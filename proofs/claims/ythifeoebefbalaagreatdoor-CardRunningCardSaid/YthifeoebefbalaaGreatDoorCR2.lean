/- Parts: Z2. -/
import Derived.Test.YthifeoebefbalaaGreatDoorProg
import Derived.WalkKit
import Derived.WalkLawsBesides
import Derived.WalkSpells
import Derived.Lib.Hide
import Derived.BigQuiet
import Derived.Deep.QuietTactic
import Derived.Test.YthifeoebefbalaaGreatDoorCR1
import Derived.Lib.AppendIntMem
import Derived.Lib.ItoaLen
set_option linter.unusedVariables false
set_option linter.unusedSimpArgs false
set_option linter.unnecessarySimpa false
namespace Go.Proofs.YthifeoebefbalaaGreatDoor
open Go.RowKit

theorem ret_int {k : IntKind} {a b : Int} (h : a = b) : Ending.returned (.int k a) = .returned (.int k b) := by rw [h]
theorem ret_bool {a b : Bool} (h : a = b) : Ending.returned (.bool a) = .returned (.bool b) := by rw [h]
theorem ret_str {a b : List UInt8} (h : a = b) : Ending.returned (.string ⟨a.toArray⟩) = .returned (.string ⟨b.toArray⟩) := by rw [h]

@[go_sem] theorem ba_app (a b : List UInt8) : (⟨a.toArray⟩ : ByteArray) ++ ⟨b.toArray⟩ = ⟨(a ++ b).toArray⟩ := by
  apply ByteArray.ext
  simp

@[go_sem] theorem ba_extract (l : List UInt8) (i j : Nat) : (⟨l.toArray⟩ : ByteArray).extract i j = ⟨((l.drop i).take (j - i)).toArray⟩ := by
  apply ByteArray.ext
  simp

/-- An array's element, each of one cell: an index that is a natural number. -/
theorem run_index_arr {P : Program} {t e : TypeId} {n : Nat} {d : TypeDesc} {inf : TypeInfo} (ht : P.underlying t = some (.array n e)) (he : P.underlying e = some d) (hd : (match d with | .struct _ | .array _ _ => false | _ => true) = true)
    (hi : P.info? e = some inf) (hs : inf.size = 1) (cs : Array Value) (i : Nat) (v : Value) (hn : i < n) (hc : cs[i]? = some v) (w : World) :
    (Instr.index t (.agg cs) (.int .i64 (i : Int))).run P w = .ok v w := by
  have hn' : (i : Int) < (n : Int) := by omega
  have ha : ∀ w, (isAgg e).run P w = .ok false w := fun w => by cases d <;> simp [isAgg, run_underlying he] <;> simp at hd
  simp [Instr.index, run_underlying ht, asIntOf, part, ha, sizeOf, typeInfo, hi, hs, hn, hc]

@[go_sem high] theorem drew_heap (w : World) : w.drew.heap = w.heap := (Eq.refl w.heap).trans rfl
@[go_sem high] theorem drewN_heap (w : World) (n : Nat) : (w.drewN n).heap = w.heap := (Eq.refl w.heap).trans rfl
/-- A world that has grown from W. -/
noncomputable def gw (W x : World) : World := by
  classical exact if Below W.heap.size W x then x else W
theorem gw_below (W x : World) : Below W.heap.size W (gw W x) := by
  unfold gw
  split
  · assumption
  · exact Below.refl _ _
theorem of_below {W x : World} (h : Below W.heap.size W x) : ∃ y, x = gw W y := ⟨x, by unfold gw; rw [if_pos h]⟩
theorem below_trans {W x y : World} (h : Below W.heap.size W x) (k : Below x.heap.size x y) : Below W.heap.size W y := h.trans (k.mono h.size)
theorem gw_cell (W x : World) {b o : Nat} {v : Value} (h : W.cell? ⟨b, o, none⟩ = some v) : (gw W x).cell? ⟨b, o, none⟩ = some v := by
  have hb : b < W.heap.size := World.block_lt_of_cell? W ⟨b, o, none⟩ h
  rw [(gw_below W x).cell (p := ⟨b, o, none⟩) hb, h]
@[go_sem] theorem gw_cell? (W x : World) (b o : Nat) (h : b < W.heap.size) : (gw W x).cell? ⟨b, o, none⟩ = W.cell? ⟨b, o, none⟩ := (gw_below W x).cell (p := ⟨b, o, none⟩) h
@[go_sem] theorem gw_frozen? (W x : World) (b o : Nat) (h : b < W.heap.size) : (gw W x).frozen? ⟨b, o, none⟩ = W.frozen? ⟨b, o, none⟩ := (gw_below W x).frozen (p := ⟨b, o, none⟩) h
@[go_sem] theorem gw_lt (W x : World) (b : Nat) (h : b < W.heap.size) : b < (gw W x).heap.size := Nat.lt_of_lt_of_le h (gw_below W x).size
@[go_sem] theorem gw_lt1 (W x : World) (b k : Nat) (h : b < W.heap.size) : b < (gw W x).heap.size + k := Nat.lt_of_lt_of_le (gw_lt W x b h) (Nat.le_add_right _ _)
/-- A block that was laid, in whatever world comes behind. -/
structure BlkAt (W : World) (b : Nat) (f : Nat → Option Value) : Prop where
  lt : b < W.heap.size
  cell : ∀ i, W.cell? ⟨b, i, none⟩ = f i
theorem blk_new {w W : World} {cs : Array Value} {T : TypeId} (h : Below (w.alloc (.cells cs T)).heap.size (w.alloc (.cells cs T)) W) : BlkAt W w.heap.size (fun i => cs[i]?) :=
  ⟨Nat.lt_of_lt_of_le (by simp) h.size, fun i => by
    rw [h.cell (p := ⟨w.heap.size, i, none⟩) (by simp)]
    exact cell_of_row _ _ i cs T (0, 0) (heap_alloc_new w _)⟩
theorem BlkAt.below {W W' : World} {b : Nat} {f : Nat → Option Value} (h : BlkAt W b f) (hb : Below W.heap.size W W') : BlkAt W' b f :=
  ⟨Nat.lt_of_lt_of_le h.lt hb.size, fun i => (hb.cell (p := ⟨b, i, none⟩) h.lt).trans (h.cell i)⟩
theorem BlkAt.alloc {W : World} {b : Nat} {f : Nat → Option Value} (h : BlkAt W b f) (o : Obj) : BlkAt (W.alloc o) b f := h.below ((Below.refl _ _).alloc (Nat.le_refl _) _)
theorem below_alloc (w : World) (o : Obj) : Below w.heap.size w (w.alloc o) := (Below.refl _ _).alloc (Nat.le_refl _) _
theorem xr (w : World) : Below w.heap.size w w := Below.refl _ _
theorem xa {w W : World} (h : Below w.heap.size w W) (o : Obj) : Below w.heap.size w (W.alloc o) := h.alloc h.size _
theorem xg {w W : World} (h : Below w.heap.size w W) (x : World) : Below w.heap.size w (gw W x) := h.trans ((gw_below W x).mono h.size)
theorem xs {w W : World} (h : Below w.heap.size w W) {p : Addr} (hp : w.heap.size ≤ p.block) (v : Value) : Below w.heap.size w (W.setCell p v) := h.setCell hp _
theorem xd {w W : World} (h : Below w.heap.size w W) : Below w.heap.size w W.drew := h.drew
theorem gw_call {P : Program} {f : FuncId} {args : Array Value} {W n : World} {v : Value} (h : Calls P f args (gw W n) fun e w' => e = .returned v ∧ Below (gw W n).heap.size (gw W n) w') :
    Calls P f args (gw W n) fun e w'' => e = .returned v ∧ ∃ m, w'' = gw W m :=
  h.mono fun _ _ ⟨he, hb⟩ => ⟨he, of_below (below_trans (gw_below W n) hb)⟩
theorem gw_same {P : Program} {f : FuncId} {args : Array Value} {W n : World} {v : Value} (h : Calls P f args (gw W n) fun e w' => e = .returned v ∧ gw W n = w') :
    Calls P f args (gw W n) fun e w'' => e = .returned v ∧ ∃ m, w'' = gw W m :=
  h.mono fun _ _ ⟨he, hb⟩ => ⟨he, n, hb.symm⟩
theorem wp_region_gw {P : Program} {id : Nat} {Q : Exit → Act → World → Prop} {a : Act} {w : World} {l : List Oper} (hm : P.follows .mixedOrders = true) (hB : Region.lexB .any l.toArray = true)
    (h : wpQuiet P l.toArray (fun w' => ∃ n, w' = gw w n) (fun a' => ∀ w', (∃ n, w' = gw w n) → Q .normal a' w') l a) : (Code.region id l.toArray true).wp P Q a w :=
  wp_region_quiet (C := fun w' => ∃ n, w' = gw w n) hm hB (of_below (Below.refl _ _).drew) (by simpa using h)
/-- The same, the region's world one that has grown from W. -/
theorem wp_region_gwn {P : Program} {id : Nat} {Q : Exit → Act → World → Prop} {a : Act} {w : World} (W : World) {l : List Oper} (hm : P.follows .mixedOrders = true) (hB : Region.lexB .any l.toArray = true) (hw : Below W.heap.size W w)
    (h : wpQuiet P l.toArray (fun w' => ∃ n, w' = gw W n) (fun a' => ∀ w', (∃ n, w' = gw W n) → Q .normal a' w') l a) : (Code.region id l.toArray true).wp P Q a w :=
  wp_region_quiet (C := fun w' => ∃ n, w' = gw W n) hm hB (of_below hw.drew) (by simpa using h)
theorem gw_step {W x y : World} (h : Below (gw W x).heap.size (gw W x) y) : ∃ z, y = gw W z := of_below (below_trans (gw_below W x) h)
end Go.Proofs.YthifeoebefbalaaGreatDoor

namespace Go.Proofs.YthifeoebefbalaaGreatDoor
open Go.RowKit

@[ext] structure Card where
  st : Int
  da : Int
  dy : Int
  ki : Int
  am : Int
  fi : Int
deriving DecidableEq

def cv (c : Card) : Value := .agg #[.int .i64 c.st, .int .i64 c.da, .int .i64 c.dy, .int .i64 c.ki, .int .i64 c.am, .int .i64 c.fi]

def within (n lo hi : Int) : Bool := decide (lo ≤ n) && decide (n ≤ hi)
theorem within_true {n lo hi : Int} : within n lo hi = true ↔ lo ≤ n ∧ n ≤ hi := by simp [within]
theorem c122 (n lo hi : Int) (w : World) : Calls Tryz.prog 122 #[.int .i64 n, .int .i64 lo, .int .i64 hi] w fun e w' => e = .returned (.bool (within n lo hi)) ∧ w = w' := by
  by_cases h1 : lo ≤ n
  all_goals by_cases h2 : n ≤ hi
  all_goals go_enter Tryz.func122, Tryz.ntmps122
  all_goals go_wp2
  all_goals go_ret
  all_goals exact ⟨by simp [within, h1, h2], rfl⟩

def isCard (c : Card) : Bool :=
  within c.st 1 1073741824 && within c.da 0 60000 && within c.dy 1 62 && within c.ki 1 4 &&
  if c.ki != 1 then c.am == 0 && c.fi == 0 else within c.fi 1 100 && within c.am 0 200000 && c.am.tmod c.fi == 0

theorem c76 (st da dy ki am fi : Int) (w : World) : Calls Tryz.prog 76 #[.agg #[.int .i64 st, .int .i64 da, .int .i64 dy, .int .i64 ki, .int .i64 am, .int .i64 fi]] w fun e w' => e = .returned (.bool (isCard ⟨st, da, dy, ki, am, fi⟩)) ∧ Below w.heap.size w w' := by
  go_enter Tryz.func76, Tryz.ntmps76
  go_wp2_with (go_at_call 122; refine (c122 _ _ _ _).mono ?_; rintro e w' ⟨rfl, rfl⟩)
  all_goals first
    | go_ret
      refine ⟨ret_bool ?_, (Below.refl _ _).alloc (Nat.le_refl _) _⟩
      simp_all [isCard]
    | (exfalso
       have h1 : within fi 1 100 = true := by assumption
       have := within_true.1 h1
       omega)

theorem isCard_true {c : Card} (h : isCard c = true) : 1 ≤ c.st ∧ c.st ≤ 1073741824 ∧ 0 ≤ c.da ∧ c.da ≤ 60000 ∧ 1 ≤ c.dy ∧ c.dy ≤ 62 ∧ 1 ≤ c.ki ∧ c.ki ≤ 4 ∧ (c.ki = 1 → 1 ≤ c.fi ∧ c.fi ≤ 100 ∧ 0 ≤ c.am ∧ c.am ≤ 200000 ∧ c.am % c.fi = 0) ∧ (c.ki ≠ 1 → c.am = 0 ∧ c.fi = 0) := by
  simp only [isCard, Bool.and_eq_true, within_true] at h
  obtain ⟨⟨⟨⟨h1, h2⟩, h3⟩, h4⟩, h5⟩ := h
  refine ⟨h1.1, h1.2, h2.1, h2.2, h3.1, h3.2, h4.1, h4.2, fun hk => ?_, fun hk => ?_⟩
  · simp [hk] at h5
    simp only [within_true] at h5
    obtain ⟨⟨h6, h7⟩, h8⟩ := h5
    rw [Int.tmod_eq_emod_of_nonneg h7.1] at h8
    exact ⟨h6.1, h6.2, h7.1, h7.2, h8⟩
  · simpa [hk] using h5
end Go.Proofs.YthifeoebefbalaaGreatDoor

namespace Go.Proofs.YthifeoebefbalaaGreatDoor
open Go.RowKit

def leap (y : Int) : Bool := y % 4 == 0 && (y % 100 != 0 || y % 400 == 0)
def mlens : List Int := [31, 28, 31, 30, 31, 30, 31, 31, 30, 31, 30, 31]
def mlen (y m : Int) : Int := if m = 2 ∧ leap y = true then 29 else mlens.getD (m - 1).toNat 0
def leaps (y : Int) : Int := (y - 1) / 4 - (y - 1) / 100 + (y - 1) / 400
def dfirst (y : Int) : Int := 365 * (y - 1850) + leaps y - 448
def cum (y : Int) : Nat → Int
  | 0 => 0
  | k + 1 => cum y k + mlen y (k + 1)
def dbegin (m : Int) : Int := dfirst (1850 + m / 12) + cum (1850 + m / 12) (m % 12).toNat

theorem c209 (y : Int) (w : World) (h0 : 0 ≤ y) : Calls Tryz.prog 209 #[.int .i64 y] w fun e w' => e = .returned (.bool (leap y)) ∧ w = w' := by
  by_cases h1 : y % 4 = 0
  all_goals by_cases h2 : y % 100 = 0
  all_goals by_cases h3 : y % 400 = 0
  all_goals go_enter Tryz.func209, Tryz.ntmps209
  all_goals go_wp2
  all_goals go_ret
  all_goals exact ⟨by simp [leap, h1, h2, h3], rfl⟩

theorem c208 (y : Int) (w : World) (h0 : 1 ≤ y) (h1 : y ≤ 10000) : Calls Tryz.prog 208 #[.int .i64 y] w fun e w' => e = .returned (.int .i64 (leaps y)) ∧ w = w' := by
  go_enter Tryz.func208, Tryz.ntmps208
  go_wp2
  go_ret
  exact ⟨rfl, rfl⟩

theorem leaps_1850 : leaps 1850 = 448 := by decide
theorem leaps_bd (y : Int) (h0 : 1 ≤ y) (h1 : y ≤ 10000) : 0 ≤ leaps y ∧ leaps y ≤ 2500 := by unfold leaps; omega

theorem c167 (y : Int) (w : World) (h0 : 1 ≤ y) (h1 : y ≤ 10000) : Calls Tryz.prog 167 #[.int .i64 y] w fun e w' => e = .returned (.int .i64 (dfirst y)) ∧ w = w' := by
  have hb := leaps_bd y h0 h1
  have hl : 448 ≤ leaps 1850 ∧ leaps 1850 ≤ 448 := by rw [leaps_1850]; omega
  go_enter Tryz.func167, Tryz.ntmps167
  go_wp2_with (go_at_call 208; refine (c208 _ _ (by omega) (by omega)).mono ?_; rintro e w' ⟨rfl, rfl⟩)
  go_ret
  exact ⟨ret_int (by simp only [leaps_1850]; rfl), rfl⟩

def mlensV : Value := .agg #[.int .i64 31, .int .i64 28, .int .i64 31, .int .i64 30, .int .i64 31, .int .i64 30, .int .i64 31, .int .i64 31, .int .i64 30, .int .i64 31, .int .i64 30, .int .i64 31]
theorem c210 (w : World) : Calls Tryz.prog 210 #[] w fun e w' => e = .returned mlensV ∧ Below w.heap.size w w' := by
  go_enter Tryz.func210, Tryz.ntmps210
  go_wp2
  exact bodyPost_ret (v := mlensV) (by simp [results, Tryz.results210, go_sem, mlensV]) rfl ⟨rfl, (Below.refl _ _).alloc (Nat.le_refl _) _⟩

theorem A.info3 : (Tryz.prog.info? 3).map (fun i => (i.zero, i.size, i.bytes)) = some (some (.int .i64 0), 1, 8) := by kernel_rfl
theorem idx_mlens (i : Nat) (h : i < 12) (w : World) : (Instr.index 222 mlensV (.int .i64 (i : Int))).run Tryz.prog w = .ok (.int .i64 (mlens.getD i 0)) w := by
  obtain ⟨i0, hi, hz0, hz1, hz2⟩ := info_parts A.info3
  refine run_index_arr Tryz.underlying222 Tryz.underlying3 rfl hi hz1 _ i _ h ?_ w
  match i, h with
  | 0, _ | 1, _ | 2, _ | 3, _ | 4, _ | 5, _ | 6, _ | 7, _ | 8, _ | 9, _ | 10, _ | 11, _ => rfl

theorem mlen_leap {y : Int} (h : leap y = true) : mlen y 2 = 29 := by simp [mlen, h]
theorem mlen_not {y : Int} {i : Nat} (h : ¬ (i = 1 ∧ leap y = true)) : mlen y ((i : Int) + 1) = mlens.getD i 0 := by
  unfold mlen
  rw [if_neg (fun h' => h ⟨by omega, h'.2⟩), show ((i : Int) + 1 - 1).toNat = i by omega]

set_option maxRecDepth 100000 in
theorem c168 (y m : Int) (w : World) (h0 : 0 ≤ y) (h1 : 1 ≤ m) (h2 : m ≤ 12) : Calls Tryz.prog 168 #[.int .i64 y, .int .i64 m] w fun e w' => e = .returned (.int .i64 (mlen y m)) ∧ Below w.heap.size w w' := by
  obtain ⟨i, rfl⟩ : ∃ i : Nat, m = i + 1 := ⟨(m - 1).toNat, by omega⟩
  have hi : i < 12 := by omega
  have hx := idx_mlens i hi
  have hx1 : ∀ w, (Instr.index 222 mlensV (.int .i64 1)).run Tryz.prog w = .ok (.int .i64 28) w := idx_mlens 1 (by omega)
  cases h3 : leap y
  all_goals
    have H3 := Lib.hid h3
    clear h3
    go_enter Tryz.func168, Tryz.ntmps168
    go_wp2_with (first | (go_at_call 209; refine (c209 _ _ (by omega)).mono ?_; rintro e w' ⟨rfl, rfl⟩; rw [H3.out]) | (go_at_call 210; refine (c210 _).mono ?_; rintro e w1 ⟨rfl, hb⟩))
  all_goals go_ret
  · have : i = 1 := by omega
    subst this
    exact ⟨ret_int (mlen_not (i := 1) (by simp [H3.out])).symm, by assumption⟩
  · exact ⟨ret_int (mlen_not (by omega)).symm, by assumption⟩
  · have : i = 1 := by omega
    subst this
    exact ⟨ret_int (mlen_leap H3.out).symm, Below.refl _ _⟩
  · exact ⟨ret_int (mlen_not (by omega)).symm, by assumption⟩

theorem mlen_bd (y m : Int) : 0 ≤ mlen y m ∧ mlen y m ≤ 31 := by
  unfold mlen
  split
  · omega
  · have : ∀ x ∈ mlens, 0 ≤ x ∧ x ≤ 31 := by decide
    rw [List.getD_eq_getElem?_getD]
    cases h : mlens[(m - 1).toNat]? with
    | none => simp
    | some x => simpa using this x (List.mem_of_getElem? h)
theorem cum_bd (y : Int) (k : Nat) : 0 ≤ cum y k ∧ cum y k ≤ 31 * k := by
  induction k with
  | zero => simp [cum]
  | succ k ih => have := mlen_bd y (k + 1); simp only [cum]; omega
theorem dfirst_bd (y : Int) (h0 : 1850 ≤ y) (h1 : y ≤ 10000) : 0 ≤ dfirst y ∧ dfirst y ≤ 4000000 := by unfold dfirst leaps; omega

theorem c125 (m : Int) (w : World) (h0 : 0 ≤ m) (h1 : m ≤ 2000) : Calls Tryz.prog 125 #[.int .i64 m] w fun e w' => e = .returned (.int .i64 (dbegin m)) ∧ Below w.heap.size w w' := by
  have hf := dfirst_bd (1850 + m / 12) (by omega) (by omega)
  go_enter Tryz.func125, Tryz.ntmps125
  go_wp2_with (go_at_call 167; refine (c167 _ _ (by omega) (by omega)).mono ?_; rintro e w' ⟨rfl, rfl⟩)
  go_loopw [4, 5] (fun n k wr => ∃ j : Nat, j ≤ (m % 12).toNat ∧ k = .int .i64 (j + 1) ∧ n = .int .i64 (dfirst (1850 + m / 12) + cum (1850 + m / 12) j) ∧ Below w.heap.size w wr) (fun _ k _ => (20 - intOf k).toNat)
  case atStart => exact ⟨0, by omega, rfl, by simp [cum], Below.refl _ _⟩
  case round =>
    obtain ⟨j, hj, rfl, rfl, hb⟩ := hrel
    have hc := cum_bd (1850 + m / 12) j
    by_cases hlt : (j : Int) + 1 ≤ m % 12
    · have hd := mlen_bd (1850 + m / 12) (j + 1)
      go_wp2_with (go_at_call 168; refine (c168 _ _ _ (by omega) (by omega) (by omega)).mono ?_; rintro e w1 ⟨rfl, hb1⟩)
      go_roundw
      case rel => exact ⟨j + 1, by omega, by go_num, by simp only [cum]; rw [Int.add_assoc], hb.trans (hb1.mono hb.size)⟩
      case measure => simp [intOf]; omega
    · go_wp2
      go_ret
      have : j = (m % 12).toNat := by omega
      subst this
      exact ⟨rfl, hb⟩

def isDay (n : Int) : Bool := decide (0 ≤ n) && decide (n ≤ 60000)
theorem c80 (n : Int) (w : World) : Calls Tryz.prog 80 #[.int .i64 n] w fun e w' => e = .returned (.bool (isDay n)) ∧ w = w' := by
  by_cases h1 : 0 ≤ n
  all_goals by_cases h2 : n ≤ 60000
  all_goals go_enter Tryz.func80, Tryz.ntmps80
  all_goals go_wp2
  all_goals go_ret
  all_goals exact ⟨by simp [isDay, h1, h2], rfl⟩

/-- The calendar has the date. -/
def dexists (y m d : Int) : Bool := decide (1850 ≤ y) && decide (y ≤ 2014) && decide (1 ≤ m) && decide (m ≤ 12) && decide (1 ≤ d) && decide (d ≤ mlen y m)
end Go.Proofs.YthifeoebefbalaaGreatDoor

namespace Go.Proofs.YthifeoebefbalaaGreatDoor
open Go.RowKit

theorem dexists_true {y m d : Int} : dexists y m d = true ↔ 1850 ≤ y ∧ y ≤ 2014 ∧ 1 ≤ m ∧ m ≤ 12 ∧ 1 ≤ d ∧ d ≤ mlen y m := by simp [dexists, and_assoc]

theorem c238 (y m d : Int) (w : World) : Calls Tryz.prog 238 #[.agg #[.int .i64 y, .int .i64 m, .int .i64 d]] w fun e w' => e = .returned (.bool (dexists y m d)) ∧ Below w.heap.size w w' := by
  have hcell0 := fun x => gw_cell (w.alloc (.cells #[.int .i64 y, .int .i64 m, .int .i64 d] 220)) x (b := w.heap.size) (o := 0) (v := .int .i64 y) (by go_simp)
  have hcell1 := fun x => gw_cell (w.alloc (.cells #[.int .i64 y, .int .i64 m, .int .i64 d] 220)) x (b := w.heap.size) (o := 1) (v := .int .i64 m) (by go_simp)
  have hcell2 := fun x => gw_cell (w.alloc (.cells #[.int .i64 y, .int .i64 m, .int .i64 d] 220)) x (b := w.heap.size) (o := 2) (v := .int .i64 d) (by go_simp)
  have hall : y < 1850 ∨ (1850 ≤ y ∧ 2014 < y) ∨ (1850 ≤ y ∧ y ≤ 2014 ∧ m < 1) ∨ (1850 ≤ y ∧ y ≤ 2014 ∧ 1 ≤ m ∧ 12 < m) ∨ (1850 ≤ y ∧ y ≤ 2014 ∧ 1 ≤ m ∧ m ≤ 12 ∧ d < 1) ∨ (1850 ≤ y ∧ y ≤ 2014 ∧ 1 ≤ m ∧ m ≤ 12 ∧ 1 ≤ d) := by omega
  rcases hall with h1 | ⟨h1, h2⟩ | ⟨h1, h2, h3⟩ | ⟨h1, h2, h3, h4⟩ | ⟨h1, h2, h3, h4, h5⟩ | ⟨h1, h2, h3, h4, h5⟩
  case' inl => have hd : decide (1850 ≤ y) = false := decide_eq_false (by omega)
  case' inr.inl => have hd : decide (y ≤ 2014) = false := decide_eq_false (by omega)
  case' inr.inr.inl => have hd : decide (1 ≤ m) = false := decide_eq_false (by omega)
  case' inr.inr.inr.inl => have hd : decide (m ≤ 12) = false := decide_eq_false (by omega)
  case' inr.inr.inr.inr.inl => have hd : decide (1 ≤ d) = false := decide_eq_false (by omega)
  all_goals
    go_enter Tryz.func238, Tryz.ntmps238
    go_wp2_with fail
    refine wp_region_gw (by kernel_rfl) (by kernel_rfl) ?_
    repeat (go_big_quiet_step ((go_at_call 168; exact gw_call (c168 _ _ _ (by omega) (by omega) (by omega)))))
    refine wpQuiet_nil ?_
    rintro _ ⟨x, rfl⟩
    go_wp2
    go_ret
  all_goals refine ⟨?_, below_trans ((Below.refl _ _).alloc (Nat.le_refl _) _) (gw_below _ _)⟩
  all_goals first
    | (simp [dexists, hd]; done)
    | simp [dexists, h1, h2, h3, h4, h5]

def dday (y m d : Int) : Int := dbegin (12 * (y - 1850) + m - 1) + d - 1
/-- The day of a date; -1 if it is that of none. -/
def dnum (y m d : Int) : Option Int := if dexists y m d = true ∧ isDay (dday y m d) = true then some (dday y m d) else none

def dval (y m d : Int) : Int := if dexists y m d = true then dday y m d else 0

theorem dbegin_bd (m : Int) (h0 : 0 ≤ m) (h1 : m ≤ 2000) : 0 ≤ dbegin m ∧ dbegin m ≤ 4000400 := by
  have hf := dfirst_bd (1850 + m / 12) (by omega) (by omega)
  have hc := cum_bd (1850 + m / 12) (m % 12).toNat
  unfold dbegin
  omega

theorem c203 (y m d : Int) (w : World) : Calls Tryz.prog 203 #[.agg #[.int .i64 y, .int .i64 m, .int .i64 d]] w fun e w' =>
    e = .returned (.tuple #[.int .i64 (dval y m d), .bool (dnum y m d).isSome]) ∧ Below w.heap.size w w' := by
  have hcell0 := fun x => gw_cell (w.alloc (.cells #[.int .i64 y, .int .i64 m, .int .i64 d] 220)) x (b := w.heap.size) (o := 0) (v := .int .i64 y) (by go_simp)
  have hcell1 := fun x => gw_cell (w.alloc (.cells #[.int .i64 y, .int .i64 m, .int .i64 d] 220)) x (b := w.heap.size) (o := 1) (v := .int .i64 m) (by go_simp)
  have hcell2 := fun x => gw_cell (w.alloc (.cells #[.int .i64 y, .int .i64 m, .int .i64 d] 220)) x (b := w.heap.size) (o := 2) (v := .int .i64 d) (by go_simp)
  by_cases he : dexists y m d = true
  · obtain ⟨h1, h2, h3, h4, h5, h6⟩ := dexists_true.1 he
    have hm := mlen_bd y m
    have hb := dbegin_bd (12 * (y - 1850) + m - 1) (by omega) (by omega)
    have he := Lib.hid he
    go_enter Tryz.func203, Tryz.ntmps203
    go_wp2_with (go_at_call 238; refine (c238 _ _ _ _).mono ?_; rintro e w1 ⟨rfl, hb1⟩; obtain ⟨x1, rfl⟩ := of_below hb1; rw [he.out])
    refine wp_region_gwn (w.alloc (.cells #[.int .i64 y, .int .i64 m, .int .i64 d] 220)) (by kernel_rfl) (by kernel_rfl) (gw_below _ _) ?_
    repeat (go_big_quiet_step ((go_at_call 125; exact gw_call (c125 _ _ (by omega) (by omega)))))
    refine wpQuiet_nil ?_
    rintro _ ⟨x, rfl⟩
    go_wp2_with (go_at_call 80; refine (c80 _ _).mono ?_; rintro e w1 ⟨rfl, rfl⟩)
    go_ret2
    have he := he.out
    refine ⟨?_, below_trans ((Below.refl _ _).alloc (Nat.le_refl _) _) (gw_below _ _)⟩
    have e1 : (dnum y m d).isSome = isDay (dday y m d) := by
      unfold dnum
      by_cases h7 : isDay (dday y m d) = true <;> simp [he, h7]
    have e2 : dval y m d = dday y m d := if_pos he
    rw [e1, e2]
    rfl
  · have e1 : dnum y m d = none := by simp [dnum, he]
    have he' : dexists y m d = false := by simpa using he
    have H1 := Lib.hid e1
    have H := Lib.hid he'
    clear e1 he he'
    go_enter Tryz.func203, Tryz.ntmps203
    go_wp2_with (go_at_call 238; refine (c238 _ _ _ _).mono ?_; rintro e w1 ⟨rfl, hb1⟩; rw [H.out])
    go_ret2
    have e2 : dval y m d = 0 := if_neg (by rw [H.out]; simp)
    exact ⟨by rw [H1.out, e2]; rfl, below_trans ((Below.refl _ _).alloc (Nat.le_refl _) _) hb1⟩

def errno (o : Option Int) : Int := if o.isSome = true then 0 else 1
theorem c177 (y m d : Int) (w : World) : Calls Tryz.prog 177 #[.agg #[.int .i64 y, .int .i64 m, .int .i64 d]] w fun e w' => e = .returned (.bool (dnum y m d).isSome) ∧ Below w.heap.size w w' := by
  go_enter Tryz.func177, Tryz.ntmps177
  go_wp2_with (go_at_call 203; refine (c203 _ _ _ _).mono ?_; rintro e w1 ⟨rfl, hb1⟩)
  go_ret
  exact ⟨rfl, below_trans ((Below.refl _ _).alloc (Nat.le_refl _) _) hb1⟩
theorem c157 (y m d : Int) (w : World) : Calls Tryz.prog 157 #[.agg #[.int .i64 y, .int .i64 m, .int .i64 d]] w fun e w' => e = .returned (.tuple #[.int .i64 ((dnum y m d).getD 0), .int .i64 (errno (dnum y m d))]) ∧ Below w.heap.size w w' := by
  cases h : dnum y m d
  all_goals
    have H := Lib.hid h
    clear h
    go_enter Tryz.func157, Tryz.ntmps157
    go_wp2_with (go_at_call 203; refine (c203 _ _ _ _).mono ?_; rintro e w1 ⟨rfl, hb1⟩; rw [H.out])
    go_ret2
  · exact ⟨rfl, below_trans ((Below.refl _ _).alloc (Nat.le_refl _) _) hb1⟩
  · refine ⟨?_, below_trans ((Below.refl _ _).alloc (Nat.le_refl _) _) hb1⟩
    have h := H.out
    unfold dnum at h
    split at h
    · rename_i h1
      injection h with h
      simp [dval, h1.1, h, errno]
    · cases h
end Go.Proofs.YthifeoebefbalaaGreatDoor

namespace Go.Proofs.YthifeoebefbalaaGreatDoor
open Go.RowKit

/-- What is asked of the library's variables. -/
structure Env (w : World) : Prop where
  maxLen : ∃ m, w.cell? ⟨0, 0, none⟩ = some (.int .i64 m)
  pow10 : Lib.TabIs Tryz.prog w "internal/strconv.uint64pow10" .u64 Lib.pow10Tab
theorem Env.below {w w' : World} (h : Env w) (hb : Below w.heap.size w w') : Env w' :=
  ⟨by obtain ⟨m, hm⟩ := h.maxLen; exact ⟨m, (hb.cell (p := ⟨0, 0, none⟩) (World.block_lt_of_cell? w _ hm)).trans hm⟩, Lib.tabBelow_of_tabIs h.pow10 w' hb⟩
theorem Env.alloc {w : World} (h : Env w) (o : Obj) : Env (w.alloc o) := h.below ((Below.refl _ _).alloc (Nat.le_refl _) _)
theorem Env.gw {W : World} (h : Env W) (x : World) : Env (gw W x) := h.below (gw_below W x)
theorem below_sortGrow {B : Nat} {w W : World} (h : Below B w W) (hB : B ≤ W.heap.size) (os : Array Obj) : Below B w (Go.Sort.grow W os) :=
  h.trans ⟨rfl, rfl, rfl, by simp [Go.Sort.grow], fun k hk => by simp only [Go.Sort.grow]; rw [Array.getElem?_append_left (by omega)]⟩
theorem c136 (n : Int) (h0 : -9223372036854775808 ≤ n) (h1 : n ≤ 9223372036854775807) (w : World) (hE : Env w) :
    Calls Tryz.prog 136 #[.int .i64 n] w fun e w' => e = .returned (.string ⟨(Lib.itoa n).toArray⟩) ∧ Below w.heap.size w w' :=
  (Tryz.strconv_Itoa n h0 h1 w hE.pow10).mono fun e w' ⟨he, k, os, hw⟩ => ⟨he, by
    rw [hw]
    exact below_sortGrow (w := w) (W := w.drewN k) (B := w.heap.size) ⟨rfl, rfl, rfl, Nat.le_refl _, fun _ _ => rfl⟩ (Nat.le_refl _) os⟩

/-- The number of the month of a day: from a guess downwards. -/
def mdown (day : Int) : Nat → Int
  | 0 => 0
  | k + 1 => if dbegin (k + 1) > day then mdown day k else k + 1
def mguess (day : Int) : Nat := (min (day / 28) 1971).toNat
def mfind (day : Int) : Int := mdown day (mguess day)
theorem mdown_bd (day : Int) (k : Nat) : 0 ≤ mdown day k ∧ mdown day k ≤ k := by
  induction k with
  | zero => simp [mdown]
  | succ k ih => simp only [mdown]; split <;> omega
theorem dbegin_0 : dbegin 0 = 0 := by decide
theorem mdown_stop {day : Int} {k : Nat} (h : ¬ dbegin k > day) : mdown day k = k := by
  cases k with
  | zero => rfl
  | succ k => rw [mdown, if_neg (by simpa using h)]; rfl

theorem c124 (day : Int) (w : World) (h0 : 0 ≤ day) (h1 : day ≤ 60000) : Calls Tryz.prog 124 #[.int .i64 day] w fun e w' => e = .returned (.int .i64 (mfind day)) ∧ Below w.heap.size w w' := by
  have hg : ((mguess day : Nat) : Int) = min (day / 28) 1971 := by unfold mguess; omega
  have hgb : mguess day ≤ 1971 := by omega
  have HG := Lib.hid hg
  clear hg
  go_enter Tryz.func124, Tryz.ntmps124
  go_wp2
  go_loopw [3] (fun m wr => ∃ k : Nat, k ≤ 1971 ∧ m = .int .i64 k ∧ Hid (mfind day = mdown day k) ∧ Below w.heap.size w wr) (fun m _ => (intOf m).toNat)
  case atStart => exact ⟨mguess day, hgb, by rw [HG.out], rfl, Below.refl _ _⟩
  case round =>
    obtain ⟨k, hk, rfl, hf, hb⟩ := hrel
    by_cases hgt : day < dbegin k
    · cases k with
      | zero => exact absurd hgt (by rw [show ((0 : Nat) : Int) = 0 from rfl, dbegin_0]; omega)
      | succ k =>
        have hgt' : day < dbegin ((k : Int) + 1) := by simpa using hgt
        clear hgt
        go_wp2_with (go_at_call 125; refine (c125 _ _ (by omega) (by omega)).mono ?_; rintro e w1 ⟨rfl, hb1⟩)
        go_roundw
        case rel => exact ⟨k, by omega, by go_num, (show mfind day = mdown day k by rw [hf.out, mdown, if_pos (by omega)]), hb.trans (hb1.mono hb.size)⟩
        case measure => simp [intOf]
    · go_wp2_with (go_at_call 125; refine (c125 _ _ (by omega) (by omega)).mono ?_; rintro e w1 ⟨rfl, hb1⟩)
      go_ret
      exact ⟨ret_int (by rw [hf.out, mdown_stop (by simpa using hgt)]), hb.trans (hb1.mono hb.size)⟩

structure Dt where
  y : Int
  m : Int
  d : Int
def dtv (x : Dt) : Value := .agg #[.int .i64 x.y, .int .i64 x.m, .int .i64 x.d]
/-- The date of a day. -/
def dof (day : Int) : Dt := ⟨1850 + mfind day / 12, mfind day % 12 + 1, day - dbegin (mfind day) + 1⟩
theorem mfind_bd (day : Int) : 0 ≤ mfind day ∧ mfind day ≤ 1971 := by
  have := mdown_bd day (mguess day)
  unfold mfind
  unfold mguess at *
  omega

theorem c81 (day : Int) (w : World) (h0 : 0 ≤ day) (h1 : day ≤ 60000) : Calls Tryz.prog 81 #[.int .i64 day] w fun e w' => e = .returned (dtv (dof day)) ∧ Below w.heap.size w w' := by
  have hm := mfind_bd day
  have hd := dbegin_bd (mfind day) (by omega) (by omega)
  go_enter Tryz.func81, Tryz.ntmps81
  go_wp2_with (first | (go_at_call 124; refine (c124 _ _ (by omega) (by omega)).mono ?_; rintro e w1 ⟨rfl, hb1⟩; obtain ⟨x1, rfl⟩ := of_below hb1) | (go_at_call 125; refine (c125 _ _ (by omega) (by omega)).mono ?_; rintro e w2 ⟨rfl, hb2⟩; obtain ⟨x2, rfl⟩ := gw_step hb2))
  exact bodyPost_ret (v := dtv (dof day)) (by simp [results, Tryz.results81, go_sem, dtv, dof]) rfl ⟨rfl,
    (((below_trans ((Below.refl _ _).alloc (Nat.le_refl _) _) (gw_below _ _)).setCell (Nat.le_refl _) _).setCell (Nat.le_refl _) _).setCell (Nat.le_refl _) _⟩

theorem c29 (day : Int) (w : World) (h0 : 0 ≤ day) (h1 : day ≤ 60000) : Calls Tryz.prog 29 #[.int .i64 day] w fun e w' => e = .returned (.tuple #[dtv (dof day), .int .i64 0]) ∧ Below w.heap.size w w' := by
  have hd : isDay day = true := by simp [isDay, h0, h1]
  have Hd := Lib.hid hd
  clear hd
  go_enter Tryz.func29, Tryz.ntmps29
  go_wp2_with (first | (go_at_call 80; refine (c80 _ _).mono ?_; rintro e w1 ⟨rfl, rfl⟩; rw [Hd.out]) | (go_at_call 81; refine (c81 _ _ (by omega) (by omega)).mono ?_; rintro e w2 ⟨rfl, hb2⟩; obtain ⟨x2, rfl⟩ := of_below hb2; unfold dtv))
  exact bodyPost_ret (v := .tuple #[dtv (dof day), .int .i64 0]) (by simp [results, Tryz.results29, go_sem, dtv]) rfl ⟨rfl,
    (((below_trans ((Below.refl _ _).alloc (Nat.le_refl _) _) (gw_below _ _)).setCell (Nat.le_refl _) _).setCell (Nat.le_refl _) _).setCell (Nat.le_refl _) _⟩
end Go.Proofs.YthifeoebefbalaaGreatDoor

namespace Go.Proofs.YthifeoebefbalaaGreatDoor
open Go.RowKit

def dletters : List UInt8 := [74, 97, 110, 70, 101, 98, 77, 97, 114, 65, 112, 114, 77, 97, 121, 74, 117, 110, 74, 117, 108, 65, 117, 103, 83, 101, 112, 79, 99, 116, 78, 111, 118, 68, 101, 99]
/-- The text of a date. -/
def dtext (y m d : Int) : List UInt8 := Lib.itoa d ++ 32 :: ((dletters.drop (3 * m - 3).toNat).take ((3 * m).toNat - (3 * m - 3).toNat) ++ 32 :: Lib.itoa y)

theorem c135 (y m d : Int) (w : World) (hE : Env w) (hv : (dnum y m d).isSome = true) : Calls Tryz.prog 135 #[.agg #[.int .i64 y, .int .i64 m, .int .i64 d]] w fun e w' => e = .returned (.tuple #[.string ⟨(dtext y m d).toArray⟩, .int .i64 0]) ∧ Below w.heap.size w w' := by
  have he : dexists y m d = true := by
    unfold dnum at hv
    split at hv
    · rename_i h; exact h.1
    · cases hv
  obtain ⟨h1, h2, h3, h4, h5, h6⟩ := dexists_true.1 he
  have hm := mlen_bd y m
  have l1 := Lib.itoa_length_le d (by omega) (by omega)
  have l2 := Lib.itoa_length_le y (by omega) (by omega)
  have H := Lib.hid hv
  clear hv he
  go_enter Tryz.func135, Tryz.ntmps135
  go_wp2_with (go_at_call 177; refine (c177 _ _ _ _).mono ?_; rintro e w1 ⟨rfl, hb1⟩; obtain ⟨x1, rfl⟩ := of_below hb1; rw [H.out])
  refine wp_region_gwn (w.alloc (.cells #[.int .i64 y, .int .i64 m, .int .i64 d] 41)) (by kernel_rfl) (by kernel_rfl) (gw_below _ _) ?_
  repeat (go_big_quiet_step ((go_at_call 136; exact gw_call (c136 _ (by omega) (by omega) _ ((hE.alloc _).gw _)))))
  refine wpQuiet_nil ?_
  rintro _ ⟨x, rfl⟩
  go_wp2
  go_ret2
  refine ⟨?_, below_trans ((Below.refl _ _).alloc (Nat.le_refl _) _) (gw_below _ _)⟩
  rfl
end Go.Proofs.YthifeoebefbalaaGreatDoor

namespace Go.Proofs.YthifeoebefbalaaGreatDoor
open Go.RowKit

def wordOf (k : Int) : List UInt8 := if k = 3 then [110, 105, 108] else if k = 2 then [116, 114, 97, 99, 101] else if k = 4 then [109, 105, 115, 115, 105, 110, 103] else []
theorem c137 (k : Int) (w : World) : Calls Tryz.prog 137 #[.int .i64 k] w fun e w' => e = .returned (.string ⟨(wordOf k).toArray⟩) ∧ w = w' := by
  by_cases h3 : k = 3
  · subst h3
    go_enter Tryz.func137, Tryz.ntmps137
    go_wp2
    go_ret
    exact ⟨rfl, rfl⟩
  by_cases h2 : k = 2
  · subst h2
    go_enter Tryz.func137, Tryz.ntmps137
    go_wp2
    go_ret
    exact ⟨rfl, rfl⟩
  by_cases h4 : k = 4
  · subst h4
    go_enter Tryz.func137, Tryz.ntmps137
    go_wp2
    go_ret
    exact ⟨rfl, rfl⟩
  go_enter Tryz.func137, Tryz.ntmps137
  go_wp2
  go_ret
  exact ⟨ret_str (by simp [wordOf, h2, h3, h4]), rfl⟩

theorem itoa_three (r : Int) (h0 : 0 ≤ r) (h1 : r < 100) : (Lib.itoa (100 + r)).length = 3 := by
  unfold Lib.itoa
  rw [if_neg (by omega), Lib.decDigits_length, Lib.nDigits_unique 2 _ (by omega) (by omega)]

theorem take_tail {α : Type} (l : List α) : List.take (l.length - 1) l.tail = l.tail := List.take_of_length_le (by simp)
/-- A number of hundredths with some digits behind a point. -/
def decText (n : Int) (d : Nat) : List UInt8 := Lib.itoa (n / 100) ++ if d = 0 then [] else 46 :: ((Lib.itoa (100 + n % 100)).drop 1).take d
theorem c138 (n : Int) (d : Nat) (w : World) (hE : Env w) (h0 : 0 ≤ n) (h1 : n ≤ 1000000000000) (hd : d ≤ 2) : Calls Tryz.prog 138 #[.int .i64 n, .int .i64 d] w fun e w' => e = .returned (.string ⟨(decText n d).toArray⟩) ∧ Below w.heap.size w w' := by
  have l1 := Lib.itoa_length_le (n / 100) (by omega) (by omega)
  have l3 := itoa_three (n % 100) (by omega) (by omega)
  have l3a : 3 ≤ (Lib.itoa (100 + n % 100)).length := by omega
  have l3b : (Lib.itoa (100 + n % 100)).length ≤ 3 := by omega
  clear l3
  have hcases : d = 0 ∨ d = 1 ∨ d = 2 := by omega
  rcases hcases with rfl | rfl | rfl
  all_goals
    go_enter Tryz.func138, Tryz.ntmps138
    go_wp2_with (go_at_call 136; refine (c136 _ (by omega) (by omega) _ (by first | exact hE | (exact hE.below (by assumption)))).mono ?_; rintro e w1 ⟨rfl, hb1⟩)
    go_ret
  · exact ⟨ret_str (by simp [decText]), below_trans (by assumption) (by assumption)⟩
  · exact ⟨ret_str (by simp [decText, take_tail]), below_trans (by assumption) (by assumption)⟩
  · exact ⟨ret_str (by simp [decText, take_tail]), below_trans (by assumption) (by assumption)⟩

theorem c138_two (n : Int) (w : World) (hE : Env w) (h0 : 0 ≤ n) (h1 : n ≤ 1000000000000) : Calls Tryz.prog 138 #[.int .i64 n, .int .i64 2] w fun e w' => e = .returned (.string ⟨(decText n 2).toArray⟩) ∧ Below w.heap.size w w' := c138 n 2 w hE h0 h1 (by omega)
theorem c138_one (n : Int) (w : World) (hE : Env w) (h0 : 0 ≤ n) (h1 : n ≤ 1000000000000) : Calls Tryz.prog 138 #[.int .i64 n, .int .i64 1] w fun e w' => e = .returned (.string ⟨(decText n 1).toArray⟩) ∧ Below w.heap.size w w' := c138 n 1 w hE h0 h1 (by omega)
theorem c138_zero (n : Int) (w : World) (hE : Env w) (h0 : 0 ≤ n) (h1 : n ≤ 1000000000000) : Calls Tryz.prog 138 #[.int .i64 n, .int .i64 0] w fun e w' => e = .returned (.string ⟨(decText n 0).toArray⟩) ∧ Below w.heap.size w w' := c138 n 0 w hE h0 h1 (by omega)
theorem decText_len (n : Int) (d : Nat) (h0 : 0 ≤ n) (h1 : n ≤ 1000000000000) : (decText n d).length ≤ 24 := by
  have l1 := Lib.itoa_length_le (n / 100) (by omega) (by omega)
  have l3 := itoa_three (n % 100) (by omega) (by omega)
  unfold decText
  split <;> simp <;> omega

/-- The text of a valid card. -/
def cardHead (c : Card) : List UInt8 := Lib.itoa c.st ++ 32 :: (dtext (dof c.da).y (dof c.da).m (dof c.da).d ++ 32 :: (Lib.itoa c.dy ++ ([32, 100, 97, 121] ++ (if c.dy = 1 then [] else [115]) ++ 32 :: wordOf c.ki)))
def cardAmount (c : Card) : List UInt8 :=
  if c.ki = 1 then (if c.fi = 1 then decText c.am 2 else if c.fi = 10 then decText c.am 1 else if c.fi = 100 then decText c.am 0 else decText c.am 2 ++ ([32, 116, 111, 32] ++ decText c.fi 2)) else []
def ctext (c : Card) : List UInt8 := cardHead c ++ cardAmount c

theorem dtext_len (y m d : Int) (_h0 : 0 ≤ y) (_h1 : y ≤ 100000) (_h2 : 0 ≤ d) (_h3 : d ≤ 100000) : (dtext y m d).length ≤ 100 := by
  have l1 := Lib.itoa_length_le y (by omega) (by omega)
  have l2 := Lib.itoa_length_le d (by omega) (by omega)
  have : dletters.length = 36 := rfl
  unfold dtext
  simp
  omega
end Go.Proofs.YthifeoebefbalaaGreatDoor

namespace Go.Proofs.YthifeoebefbalaaGreatDoor
open Go.RowKit

theorem mlens_get : mlens.getD 0 0 = 31 ∧ mlens.getD 1 0 = 28 ∧ mlens.getD 2 0 = 31 ∧ mlens.getD 3 0 = 30 ∧ mlens.getD 4 0 = 31 ∧ mlens.getD 5 0 = 30 ∧ mlens.getD 6 0 = 31 ∧ mlens.getD 7 0 = 31 ∧ mlens.getD 8 0 = 30 ∧ mlens.getD 9 0 = 31 ∧ mlens.getD 10 0 = 30 ∧ mlens.getD 11 0 = 31 := by decide
theorem mlen_feb (y : Int) : mlen y 2 = if leap y = true then 29 else 28 := by
  unfold mlen
  by_cases h : leap y = true <;> simp [h, mlens]
theorem mlen_other (y : Int) (m : Int) (h : m ≠ 2) : mlen y m = mlens.getD (m - 1).toNat 0 := by
  unfold mlen
  rw [if_neg (fun h' => h h'.1)]
theorem cum_12 (y : Int) : cum y 12 = if leap y = true then 366 else 365 := by
  simp only [cum]
  rw [mlen_other y ((0 : Nat) + 1) (by decide), mlen_other y ((2 : Nat) + 1) (by decide), mlen_other y ((3 : Nat) + 1) (by decide), mlen_other y ((4 : Nat) + 1) (by decide), mlen_other y ((5 : Nat) + 1) (by decide), mlen_other y ((6 : Nat) + 1) (by decide), mlen_other y ((7 : Nat) + 1) (by decide), mlen_other y ((8 : Nat) + 1) (by decide), mlen_other y ((9 : Nat) + 1) (by decide), mlen_other y ((10 : Nat) + 1) (by decide), mlen_other y ((11 : Nat) + 1) (by decide)]
  rw [show (((1 : Nat) : Int) + 1) = 2 from rfl, mlen_feb]
  split <;> simp [mlens]
theorem leap_iff (y : Int) : leap y = true ↔ y % 4 = 0 ∧ (y % 100 ≠ 0 ∨ y % 400 = 0) := by simp [leap]
theorem dfirst_succ (y : Int) : dfirst (y + 1) = dfirst y + if leap y = true then 366 else 365 := by
  unfold dfirst leaps
  split <;> rename_i h <;> rw [leap_iff] at h <;> omega
theorem dbegin_succ (m : Int) (_h : 0 ≤ m) : dbegin (m + 1) = dbegin m + mlen (1850 + m / 12) (m % 12 + 1) := by
  unfold dbegin
  by_cases h11 : m % 12 = 11
  · have e1 : (m + 1) / 12 = m / 12 + 1 := by omega
    have e2 : (m + 1) % 12 = 0 := by omega
    have h12 := cum_12 (1850 + m / 12)
    have h13 : cum (1850 + m / 12) 12 = cum (1850 + m / 12) 11 + mlen (1850 + m / 12) 12 := rfl
    rw [e1, e2, h11, show 1850 + (m / 12 + 1) = 1850 + m / 12 + 1 by omega, dfirst_succ, ← h12, h13]
    simp only [Int.reduceToNat, cum]
    show dfirst _ + (cum _ 11 + _) + 0 = dfirst _ + cum _ 11 + mlen _ 12
    omega
  · have e1 : (m + 1) / 12 = m / 12 := by omega
    have e2 : ((m + 1) % 12).toNat = (m % 12).toNat + 1 := by omega
    rw [e1, e2, cum, show (((m % 12).toNat : Nat) : Int) = m % 12 by omega]
    omega
theorem mlen_28 (y m : Int) (h1 : 1 ≤ m) (h2 : m ≤ 12) : 28 ≤ mlen y m := by
  by_cases h : m = 2
  · subst h; rw [mlen_feb]; split <;> omega
  · rw [mlen_other y m h]
    have := mlens_get
    have : m = 1 ∨ m = 3 ∨ m = 4 ∨ m = 5 ∨ m = 6 ∨ m = 7 ∨ m = 8 ∨ m = 9 ∨ m = 10 ∨ m = 11 ∨ m = 12 := by omega
    rcases this with rfl | rfl | rfl | rfl | rfl | rfl | rfl | rfl | rfl | rfl | rfl <;> decide
theorem dbegin_28 (k : Nat) : 28 * (k : Int) ≤ dbegin k := by
  induction k with
  | zero => rw [show ((0 : Nat) : Int) = 0 from rfl, dbegin_0]; omega
  | succ k ih =>
    have h1 := dbegin_succ k (by omega)
    have h2 := mlen_28 (1850 + (k : Int) / 12) ((k : Int) % 12 + 1) (by omega) (by omega)
    rw [show ((k + 1 : Nat) : Int) = (k : Int) + 1 from rfl]
    omega
theorem dbegin_1972 : dbegin 1972 > 60000 := by decide

theorem mdown_spec (day : Int) (h0 : 0 ≤ day) (k : Nat) (hk : dbegin ((k : Int) + 1) > day) : dbegin (mdown day k) ≤ day ∧ dbegin (mdown day k + 1) > day := by
  induction k with
  | zero => exact ⟨by show dbegin 0 ≤ day; rw [dbegin_0]; exact h0, hk⟩
  | succ k ih =>
    rw [mdown]
    split
    · rename_i h; exact ih (by simpa using h)
    · rename_i h; exact ⟨by omega, by simpa using hk⟩
theorem mfind_spec (day : Int) (h0 : 0 ≤ day) (h1 : day ≤ 60000) : dbegin (mfind day) ≤ day ∧ dbegin (mfind day + 1) > day := by
  refine mdown_spec day h0 _ ?_
  have hg : ((mguess day : Nat) : Int) = min (day / 28) 1971 := by unfold mguess; omega
  by_cases h : day / 28 ≤ 1971
  · have h2 := dbegin_28 (mguess day + 1)
    rw [show ((mguess day + 1 : Nat) : Int) = (mguess day : Int) + 1 from rfl] at h2
    omega
  · have e : ((mguess day : Nat) : Int) = 1971 := by omega
    rw [e]
    have := dbegin_1972
    exact Int.lt_of_le_of_lt h1 this

/-- The date of a day is that of this day. -/
theorem dnum_dof (day : Int) (h0 : 0 ≤ day) (h1 : day ≤ 60000) : dnum (dof day).y (dof day).m (dof day).d = some day := by
  have hb := mfind_bd day
  obtain ⟨hs1, hs2⟩ := mfind_spec day h0 h1
  rw [dbegin_succ _ hb.1] at hs2
  have he : dexists (dof day).y (dof day).m (dof day).d = true := by
    rw [dexists_true]
    simp only [dof]
    omega
  have hd : dday (dof day).y (dof day).m (dof day).d = day := by
    unfold dday dof
    simp only
    rw [show 12 * (1850 + mfind day / 12 - 1850) + (mfind day % 12 + 1) - 1 = mfind day by omega]
    omega
  unfold dnum
  rw [hd, if_pos ⟨he, by simp [isDay, h0, h1]⟩]
end Go.Proofs.YthifeoebefbalaaGreatDoor

namespace Go.Proofs.YthifeoebefbalaaGreatDoor
open Go.RowKit

set_option maxHeartbeats 1000000 in
theorem c88 (c : Card) (w : World) (hE : Env w) (h : isCard c = true) : Calls Tryz.prog 88 #[cv c] w fun e w' => e = .returned (.string ⟨(ctext c).toArray⟩) ∧ Below w.heap.size w w' := by
  obtain ⟨h1, h2, h3, h4, h5, h6, h7, h8, h9, h10⟩ := isCard_true h
  have hd := dnum_dof c.da h3 h4
  have hv : (dnum (dof c.da).y (dof c.da).m (dof c.da).d).isSome = true := by rw [hd]; rfl
  have ht : (dtext (dof c.da).y (dof c.da).m (dof c.da).d).length ≤ 100 := by
    unfold dnum at hd
    split at hd
    · rename_i h
      obtain ⟨a1, a2, a3, a4, a5, a6⟩ := dexists_true.1 h.1
      have := mlen_bd (dof c.da).y (dof c.da).m
      exact dtext_len _ _ _ (by omega) (by omega) (by omega) (by omega)
    · cases hd
  have Hv := Lib.hid hv
  clear hd hv h
  obtain ⟨st, da, dy, ki, am, fi⟩ := c
  unfold cv
  simp only at h1 h2 h3 h4 h5 h6 h7 h8 h9 h10 Hv ht ⊢
  have H9 := Lib.hid h9
  have H10 := Lib.hid h10
  clear h9 h10
  have l1 := Lib.itoa_length_le st (by omega) (by omega)
  have l2 := Lib.itoa_length_le dy (by omega) (by omega)
  go_enter Tryz.func88, Tryz.ntmps88
  go_wp2_with (first
    | (go_at_call 29; refine (c29 _ _ (by omega) (by omega)).mono ?_; rintro e w1 ⟨rfl, hb1⟩; obtain ⟨hl1, hc1⟩ := blk_new hb1; unfold dtv)
    | (go_at_call 135; refine (c135 _ _ _ _ ((hE.below (below_trans (below_alloc _ _) hb1)).alloc _) Hv.out).mono ?_; rintro e w2 ⟨rfl, hb2⟩; obtain ⟨hl2, hc2⟩ := ((BlkAt.mk hl1 hc1).alloc _).below hb2))
  have hB2 := below_trans (below_trans (below_trans (below_alloc _ _) hb1) (below_alloc _ _)) hb2
  clear hb1 hb2 hl1 hc1
  have hE2 := hE.below hB2
  refine wp_region_gwn w2 (by kernel_rfl) (by kernel_rfl) (Below.refl _ _) ?_
  repeat (go_big_quiet_step ((go_at_call 136; exact gw_call (c136 _ (by omega) (by omega) _ (hE2.gw _)))))
  refine wpQuiet_nil ?_
  rintro _ ⟨x3, rfl⟩
  have l3 : (wordOf ki).length ≤ 7 := by unfold wordOf; split <;> (try split) <;> (try split) <;> simp
  have hB3 := below_trans hB2 (gw_below w2 x3)
  by_cases hk : ki = 1
  · obtain ⟨g1, g2, g3, g4, -⟩ := H9.out hk
    subst hk
    have l4 := decText_len am 0 g3 (by omega)
    have l5 := decText_len am 1 g3 (by omega)
    have l6 := decText_len am 2 g3 (by omega)
    have l7 := decText_len fi 2 (by omega) (by omega)
    by_cases hy : dy = 1
    case' pos => subst hy
    all_goals
      by_cases f1 : fi = 1
      · subst f1
        go_wp2_with (first
          | (go_at_call 137; refine (c137 _ _).mono ?_; rintro e w3 ⟨rfl, rfl⟩)
          | (go_at_call 138; refine (c138_two _ _ (hE2.gw _) (by omega) (by omega)).mono ?_; rintro e w4 ⟨rfl, hb4⟩))
        go_ret
        exact ⟨ret_str (by simp [ctext, cardHead, cardAmount, *]), below_trans hB3 hb4⟩
      by_cases f10 : fi = 10
      · subst f10
        go_wp2_with (first
          | (go_at_call 137; refine (c137 _ _).mono ?_; rintro e w3 ⟨rfl, rfl⟩)
          | (go_at_call 138; refine (c138_one _ _ (hE2.gw _) (by omega) (by omega)).mono ?_; rintro e w4 ⟨rfl, hb4⟩))
        go_ret
        exact ⟨ret_str (by simp [ctext, cardHead, cardAmount, *]), below_trans hB3 hb4⟩
      by_cases f100 : fi = 100
      · subst f100
        go_wp2_with (first
          | (go_at_call 137; refine (c137 _ _).mono ?_; rintro e w3 ⟨rfl, rfl⟩)
          | (go_at_call 138; refine (c138_zero _ _ (hE2.gw _) (by omega) (by omega)).mono ?_; rintro e w4 ⟨rfl, hb4⟩))
        go_ret
        exact ⟨ret_str (by simp [ctext, cardHead, cardAmount, *]), below_trans hB3 hb4⟩
      go_wp2_with (go_at_call 137; refine (c137 _ _).mono ?_; rintro e w3 ⟨rfl, rfl⟩)
      refine wp_region_gwn w2 (by kernel_rfl) (by kernel_rfl) (gw_below _ _) ?_
      repeat (go_big_quiet_step ((go_at_call 138; exact gw_call (c138_two _ _ (hE2.gw _) (by omega) (by omega)))))
      refine wpQuiet_nil ?_
      rintro _ ⟨x4, rfl⟩
      go_wp2
      go_ret
      exact ⟨ret_str (by simp [ctext, cardHead, cardAmount, *]), below_trans hB2 (gw_below _ _)⟩
  · obtain ⟨g1, g2⟩ := H10.out hk
    subst g1 g2
    by_cases hy : dy = 1
    case' pos => subst hy
    all_goals
      go_wp2_with (go_at_call 137; refine (c137 _ _).mono ?_; rintro e w3 ⟨rfl, rfl⟩)
      go_ret
      exact ⟨ret_str (by simp [ctext, cardHead, cardAmount, *]), hB3⟩
end Go.Proofs.YthifeoebefbalaaGreatDoor

namespace Go.Proofs.YthifeoebefbalaaGreatDoor
open Go.RowKit

theorem c46 (c : Card) (w : World) (hE : Env w) (h : isCard c = true) : Calls Tryz.prog 46 #[cv c] w fun e w' => e = .returned (.tuple #[.string ⟨(ctext c).toArray⟩, .int .i64 0]) ∧ Below w.heap.size w w' := by
  have H := Lib.hid h
  clear h
  unfold cv
  go_enter Tryz.func46, Tryz.ntmps46
  go_wp2_with (first
    | (go_at_call 76; refine (c76 _ _ _ _ _ _ _).mono ?_; rintro e w1 ⟨rfl, hb1⟩; rw [H.out]; obtain ⟨hl1, hc1⟩ := blk_new hb1)
    | (go_at_call 88; refine (c88 c _ (hE.below (below_trans (below_alloc _ _) hb1)) H.out).mono ?_; rintro e w2 ⟨rfl, hb2⟩))
  go_ret2
  exact ⟨rfl, below_trans (below_trans (below_alloc _ _) hb1) hb2⟩
structure Sp where
  lo : Int
  hi : Int
deriving DecidableEq
def spv (s : Sp) : Value := .agg #[.int .i64 s.lo, .int .i64 s.hi]
/-- What a valid card says. -/
def says (c : Card) : Sp := if c.ki = 2 then ⟨1, 4⟩ else if c.ki = 3 then ⟨0, 0⟩ else if c.ki = 4 then ⟨0, 1073741824⟩ else ⟨max 0 (c.am - c.fi / 2), c.am + c.fi / 2⟩

theorem c77 (c : Card) (w : World) (h : isCard c = true) : Calls Tryz.prog 77 #[cv c] w fun e w' => e = .returned (spv (says c)) ∧ Below w.heap.size w w' := by
  obtain ⟨h1, h2, h3, h4, h5, h6, h7, h8, h9, h10⟩ := isCard_true h
  clear h
  obtain ⟨st, da, dy, ki, am, fi⟩ := c
  unfold cv
  simp only at h1 h2 h3 h4 h5 h6 h7 h8 h9 h10
  by_cases hk : ki = 1
  · obtain ⟨g1, g2, g3, g4, -⟩ := h9 hk
    subst hk
    clear h9 h10
    go_enter Tryz.func77, Tryz.ntmps77
    go_wp2
    exact bodyPost_ret (v := spv (says _)) (by simp [results, Tryz.results77, go_sem, spv, says]) rfl ⟨rfl, below_trans (below_alloc _ _) (below_alloc _ _)⟩
  · obtain ⟨g1, g2⟩ := h10 hk
    subst g1 g2
    clear h9 h10
    have : ki = 2 ∨ ki = 3 ∨ ki = 4 := by omega
    rcases this with rfl | rfl | rfl
    all_goals
      go_enter Tryz.func77, Tryz.ntmps77
      go_wp2
      exact bodyPost_ret (v := spv (says _)) (by simp [results, Tryz.results77, go_sem, spv, says]) rfl ⟨rfl, below_trans (below_alloc _ _) (below_alloc _ _)⟩

def ofv (c : Card) : Value := .agg #[.int .i64 c.st, .int .i64 c.da, .int .i64 c.dy]
theorem c96 (c : Card) (w : World) : Calls Tryz.prog 96 #[cv c] w fun e w' => e = .returned (ofv c) ∧ Below w.heap.size w w' := by
  unfold cv
  go_enter Tryz.func96, Tryz.ntmps96
  go_wp2
  exact bodyPost_ret (v := ofv c) (by simp [results, Tryz.results96, go_sem, ofv]) rfl ⟨rfl, below_trans (below_alloc _ _) (below_alloc _ _)⟩
end Go.Proofs.YthifeoebefbalaaGreatDoor
