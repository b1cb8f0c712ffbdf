/- Parts: Z3. -/
import Derived.Test.YthifeoebefbalaaGreatDoorCR2
import Derived.Deep.RegionHeld3
import Derived.Maps.AppendAt
import Derived.Lib.ConvBytes
import Derived.Lib.AtoiErrMem
import Derived.Laws.IdiomStrings
import Derived.Lib.DecodeN
import Derived.Lib.OthersKept
import Derived.Lib.RuneCountTail
set_option linter.unusedVariables false
set_option linter.unusedSimpArgs false
set_option linter.unnecessarySimpa false
namespace Go.Proofs.YthifeoebefbalaaGreatDoor
open Go.RowKit

section
variable {P : Program} {ops : Array Oper} {Q : Exit → Act → World → Prop} {W : World} {C : World → Prop}

def Grown (w w' : World) : Prop := Below w.heap.size w w'
theorem Grown.refl (w : World) : Grown w w := Below.refl _ _
theorem Grown.trans {a b c : World} (h : Grown a b) (k : Grown b c) : Grown a c := below_trans h k
theorem Grown.gw (w x : World) : Grown w (gw w x) := gw_below _ _

/-- In state a, in every world of the class, the operation yields v, and leaves a world that has grown. -/
def YieldsC (P : Program) (ops : Array Oper) (C : World → Prop) (o : Oper) (v : Value) (a : Act) : Prop :=
  (Region.wanted o (yielded ops a.tmps) = true ∧ ∀ w, C w → o.quietAt P a (fun w' => Grown w w') w v) ∨ (Region.wanted o (yielded ops a.tmps) = false ∧ v = undef)

theorem YieldsC.of_same {o : Oper} {v : Value} {a a' : Act} (hy : YieldsC P ops C o v a) (he : execOp a'.eval o = execOp a.eval o)
    (hw : Region.wanted o (yielded ops a'.tmps) = Region.wanted o (yielded ops a.tmps)) : YieldsC P ops C o v a' := by
  unfold YieldsC Oper.quietAt at *
  rw [he, hw]
  exact hy

theorem YieldsC.wpOp {i : Nat} {o : Oper} {v : Value} {a : Act} (hi : ops[i]? = some o) (hy : YieldsC P ops C o v a) {K : Act → World → Prop} {w : World} (hS : C w)
    (h : ∀ w', Grown w w' → K (a.put o.dst v) w') : wpOp P ops Q i K a w := by
  unfold Go.wpOp
  simp only [hi]
  rcases hy with ⟨hw, hv⟩ | ⟨hw, rfl⟩
  · simp only [hw, if_true]
    left
    have h3 := hv w hS
    unfold Oper.quietAt at h3
    unfold Oper.wp
    generalize (execOp a.eval o).run P w = r at *
    cases r with
    | ok n w' =>
      cases n <;> simp only [Oper.quietUpon] at h3 <;> simp only [Oper.upon]
      case value u => obtain ⟨e1, e2⟩ := h3; rw [e1, e2]; exact h _ (Grown.refl _)
      case skip => obtain ⟨e1, e2⟩ := h3; rw [e1, ← e2]; exact h _ (Grown.refl _)
      case enter f args => obtain ⟨e1, hc⟩ := h3; rw [e1]; exact hc.mono fun e w'' ⟨he, hw''⟩ => by subst he; exact h _ hw''
    | halt x w' => simp only [Oper.quietUpon] at h3
  · simp only [hw, Bool.false_eq_true, if_false]; exact h _ (Grown.refl _)

/-- What is asked at a panic does not hang on the temporaries. -/
class PanicStill (Q : Exit → Act → World → Prop) : Prop where
  put : ∀ c (a : Act) d v w, Q (.panic c) (a.put d v) w → Q (.panic c) a w
instance (Q : Exit → Act → World → Prop) : PanicStill (NoPanic Q) := ⟨fun _ _ _ _ _ h => (h : False).elim⟩

theorem wpOp_putG [PanicStill Q] {j : Nat} {oi oj : Oper} {v : Value} (hj : ops[j]? = some oj) (hap : oi.apart ops oj = true) (hsi : ∀ cs b, oi.op ≠ .select cs b) (hsj : ∀ cs b, oj.op ≠ .select cs b)
    {K : Act → World → Prop} {a : Act} {w : World} (hy : YieldsC P ops C oi v a) (h : wpOp P ops Q j K (a.put oi.dst v) w) :
    wpOp P ops Q j (fun a' w' => YieldsC P ops C oi v a' ∧ K (a'.put oi.dst v) w') a w := by
  obtain ⟨h1, h2, h3⟩ := Oper.apart_spec hap
  have keep : ∀ (a : Act), YieldsC P ops C oi v a → ∀ u, YieldsC P ops C oi v (a.put oj.dst u) := fun a hy u =>
    hy.of_same (execOp_put oi hsi a oj.dst u h3) (wanted_put oi a oj.dst u h3)
  have keepD : ∀ d, YieldsC P ops C oi v { a with defers := d :: a.defers } := fun d => hy.of_same rfl rfl
  unfold Go.wpOp at *
  simp only [hj] at *
  rw [wanted_put oj a oi.dst v h1] at h
  split
  · rename_i hw
    simp only [hw, if_true] at h
    rcases h with h | ⟨hasks, hl⟩
    case inr => exact .inr ⟨by unfold Oper.asks at *; rw [execOp_put oj hsj a oi.dst v h1] at hasks; exact hasks, hl⟩
    refine .inl ?_
    unfold Oper.wp at *
    rw [execOp_put oj hsj a oi.dst v h1] at h
    generalize (execOp a.eval oj).run P w = r at *
    cases r with
    | ok n w' =>
      cases n <;> simp only [Oper.upon] at h ⊢
      case value u => exact ⟨keep a hy u, by rw [← Act.put_comm a v u h2]; exact h⟩
      case skip => exact ⟨keep a hy _, by rw [← Act.put_comm a v undef h2]; exact h⟩
      case defer d => exact ⟨keep _ (keepD d) _, by rw [← Act.put_comm _ v undef h2, ← Act.put_defers]; exact h⟩
      case enter f args =>
        refine Calls.mono h fun e w'' he => ?_
        cases e with
        | returned u => exact ⟨keep a hy u, by rw [← Act.put_comm a v u h2]; exact he⟩
        | panicked c => exact PanicStill.put _ _ _ _ _ he
        | outgrown => exact he
      case row row args => exact Rows.mono h fun u w'' he => ⟨keep a hy u, by rw [← Act.put_comm a v u h2]; exact he⟩
    | halt x w' =>
      cases x <;> simp only [Oper.upon] at h ⊢
      case panic u => exact PanicStill.put _ _ _ _ _ h
  · rename_i hw
    simp only [hw] at h
    exact ⟨keep a hy _, by rw [← Act.put_comm a v undef h2]; exact h⟩

/-- Whatever order is picked from here on, the world having grown behind each operation. -/
def WC (P : Program) (ops : Array Oper) (Q : Exit → Act → World → Prop) (C : World → Prop) : Nat → Array Bool → Act → World → Prop
  | 0, listed, a, w => Region.ready .any ops listed = [] ∧ Q .normal a w
  | fuel + 1, listed, a, w => (Region.ready .any ops listed = [] → Q .normal a w) ∧
    ∀ i ∈ Region.ready .any ops listed, wpOp P ops Q i (fun a' w' => C w' ∧ ∀ w'', Grown w' w'' → WC P ops Q C fuel (listed.setIfInBounds i true) a' w'') a w

theorem wpAny_of_WC : ∀ (fuel : Nat) (listed : Array Bool) (a : Act) (w : World), WC P ops Q C fuel listed a w → wpAny P .any ops Q fuel listed a w
  | 0, _, _, _, h => h
  | fuel + 1, _, _, _, h => ⟨h.1, fun i hi => wpOp_mono (fun a' w' h' => wpAny_of_WC fuel _ a' w' (h'.2 _ (Grown.refl _))) (h.2 i hi)⟩

theorem WC_first [PanicStill Q] {i : Nat} {oi : Oper} {v : Value} (hi : ops[i]? = some oi) (hs : Region.noSelect ops = true) (hC : ∀ w w', C w → Grown w w' → C w') :
    ∀ (fuel : Nat) (listed : Array Bool) (a : Act) (w : World),
      (∀ j oj, ops[j]? = some oj → j ≠ i → listed.getD j true = false → (∀ e ∈ oj.after, Region.binds .any e = true → e.on ≠ i) → oi.apart ops oj = true) →
      i ∈ Region.ready .any ops listed → YieldsC P ops C oi v a → C w →
      (∀ w1, Grown w w1 → WC P ops Q C fuel (listed.setIfInBounds i true) (a.put oi.dst v) w1) → WC P ops Q C (fuel + 1) listed a w := by
  intro fuel
  induction fuel with
  | zero =>
    intro listed a w _ hr hy hS H
    refine ⟨fun h => (by rw [h] at hr; cases hr), fun j hj => ?_⟩
    by_cases hji : j = i
    · subst hji; exact hy.wpOp hi hS fun w' hw' => ⟨hC _ _ hS hw', fun w'' hw'' => H _ (hw'.trans hw'')⟩
    · have := ready_mono hj hji
      rw [(H w (Grown.refl _)).1] at this
      cases this
  | succ fuel ih =>
    intro listed a w hfree hr hy hS H
    refine ⟨fun h => (by rw [h] at hr; cases hr), fun j hj => ?_⟩
    by_cases hji : j = i
    · subst hji; exact hy.wpOp hi hS fun w' hw' => ⟨hC _ _ hS hw', fun w'' hw'' => H _ (hw'.trans hw'')⟩
    · have h1 := (H w (Grown.refl _)).2 j (ready_mono hj hji)
      obtain ⟨hjun, oj, hoj, hall⟩ := mem_ready.1 hj
      have hnot : ∀ e ∈ oj.after, Region.binds .any e = true → e.on ≠ i := fun e he hb heq => by
        have h1 := hall e he hb
        have h0 := (mem_ready.1 hr).1
        rw [heq] at h1
        rcases Nat.lt_or_ge i listed.size with h' | h'
        · simp [h'] at h0 h1; rw [h0] at h1; cases h1
        · simp [Array.getElem?_eq_none h'] at h1
      have h2 := wpOp_putG hoj (hfree j oj hoj hji hjun hnot) (fun cs b => Region.noSelect_spec hs i oi cs b hi) (fun cs b => Region.noSelect_spec hs j oj cs b hoj) hy h1
      have hfree' : ∀ k ok, ops[k]? = some ok → k ≠ i → (listed.setIfInBounds j true).getD k true = false →
          (∀ e ∈ ok.after, Region.binds .any e = true → e.on ≠ i) → oi.apart ops ok = true := fun k ok hk hki hun hno => by
        refine hfree k ok hk hki ?_ hno
        by_cases hjk : j = k
        · subst hjk; exact hjun
        · rw [getD_set_ne true hjk] at hun; exact hun
      refine wpOp_mono (fun a' w' h3 => ⟨h3.2.1, fun w'' hw'' => ih (listed.setIfInBounds j true) a' w'' hfree' (ready_mono hr (Ne.symm hji)) h3.1 (hC _ _ h3.2.1 hw'') fun w1 hw1 => ?_⟩) h2
      rw [Array.setIfInBounds_comm _ _ hji]
      exact h3.2.2 w1 (hw''.trans hw1)

/-- Take number i first: it yields v (in every world of the class). -/
theorem WC_take [PanicStill Q] (i : Nat) {l rest : List Oper} {oi : Oper} {v : Value} {fuel : Nat} {listed : Array Bool} {a a' : Act} {w : World} (hC : ∀ w w', C w → Grown w w' → C w') (hi : l.drop i = oi :: rest) (hs : Region.noSelect l.toArray = true)
    (hf : Region.free .any l.toArray listed i = true) (hr : (Region.ready .any l.toArray listed).contains i = true) (hW : C w)
    (hy : Region.wanted oi (yielded l.toArray a.tmps) = true ∧ ∀ w', C w' → oi.quiet P a (fun w'' => ∃ n, w'' = gw w' n) (fun b => b = a'))
    (ha : a' = a.put oi.dst v) (d : Nat) (hd : oi.dst = some d) (hl : decide (d < a.tmps.size) = true)
    (h : ∀ x, WC P l.toArray Q C fuel (listed.setIfInBounds i true) a' (gw w x)) : WC P l.toArray Q C (fuel + 1) listed a w := by
  have hi : l.toArray[i]? = some oi := by
    have := congrArg (fun m => m[0]?) hi
    simpa using this
  have hput : ∀ u, a.put oi.dst u = a' → u = v := fun u hu => by
    rw [ha] at hu
    simp only [Act.put, hd] at hu
    have h1 := congrArg (fun b : Act => b.tmps[d]?) hu
    simpa [of_decide_eq_true hl] using h1
  subst ha
  refine WC_first hi hs hC fuel listed a w (Region.free_spec hi hf) (by simpa using hr) (.inl ⟨hy.1, fun w' hw' => ?_⟩) hW fun w1 hw1 => by obtain ⟨x, rfl⟩ := of_below hw1; exact h x
  obtain ⟨u, h1, h2⟩ := hy.2 w' hw'
  rw [← hput u h2]
  have h3 := h1 w' (of_below (Below.refl _ _))
  unfold Oper.quietAt at h3 ⊢
  generalize (execOp a.eval oi).run P w' = r at *
  cases r with
  | ok n w' =>
    cases n <;> simp only [Oper.quietUpon] at h3 ⊢
    case value u => exact h3
    case skip => exact h3
    case enter f args => exact ⟨h3.1, h3.2.mono fun e w'' ⟨he, n, hn⟩ => ⟨he, by rw [hn]; exact Grown.gw _ _⟩⟩
  | halt x w' => simp only [Oper.quietUpon] at h3

abbrev WG (P : Program) (ops : Array Oper) (Q : Exit → Act → World → Prop) (W : World) : Nat → Array Bool → Act → World → Prop := WC P ops Q (Grown W)

/-- The same, the class being the worlds that have grown from W. -/
theorem WG_take [PanicStill Q] (i : Nat) {l rest : List Oper} {oi : Oper} {v : Value} {fuel : Nat} {listed : Array Bool} {a a' : Act} {w : World} (hi : l.drop i = oi :: rest) (hs : Region.noSelect l.toArray = true)
    (hf : Region.free .any l.toArray listed i = true) (hr : (Region.ready .any l.toArray listed).contains i = true) (hW : Grown W w)
    (hy : Region.wanted oi (yielded l.toArray a.tmps) = true ∧ ∀ x, oi.quiet P a (fun w' => ∃ n, w' = gw (gw W x) n) (fun b => b = a'))
    (ha : a' = a.put oi.dst v) (d : Nat) (hd : oi.dst = some d) (hl : decide (d < a.tmps.size) = true)
    (h : ∀ x, WG P l.toArray Q W fuel (listed.setIfInBounds i true) a' (gw w x)) : WG P l.toArray Q W (fuel + 1) listed a w :=
  WC_take i (fun _ _ h k => h.trans k) hi hs hf hr hW ⟨hy.1, fun w' hw' => by obtain ⟨x, rfl⟩ := of_below hw'; exact hy.2 x⟩ ha d hd hl h

/-- The same, the worlds behind it said as grown from W. -/
theorem WG_take0 [PanicStill Q] (i : Nat) {l rest : List Oper} {oi : Oper} {v : Value} {fuel : Nat} {listed : Array Bool} {a a' : Act} {x : World} (hi : l.drop i = oi :: rest) (hs : Region.noSelect l.toArray = true)
    (hf : Region.free .any l.toArray listed i = true) (hr : (Region.ready .any l.toArray listed).contains i = true)
    (hy : Region.wanted oi (yielded l.toArray a.tmps) = true ∧ ∀ x, oi.quiet P a (fun w' => ∃ n, w' = gw (gw W x) n) (fun b => b = a'))
    (ha : a' = a.put oi.dst v) (d : Nat) (hd : oi.dst = some d) (hl : decide (d < a.tmps.size) = true)
    (h : ∀ x, WG P l.toArray Q W fuel (listed.setIfInBounds i true) a' (gw W x)) : WG P l.toArray Q W (fuel + 1) listed a (gw W x) :=
  WG_take i hi hs hf hr (Grown.gw _ _) hy ha d hd hl fun y => by
    obtain ⟨z, hz⟩ := gw_step (gw_below (gw W x) y)
    rw [hz]
    exact h z

theorem WC_done {listed : Array Bool} {a : Act} {w : World} (hr : Region.ready .any ops listed = []) (h : Q .normal a w) : ∀ fuel, WC P ops Q C fuel listed a w
  | 0 => ⟨hr, h⟩
  | _ + 1 => ⟨fun _ => h, by rw [hr]; simp⟩

theorem WC_all (rs : List Nat) {fuel : Nat} {listed : Array Bool} {a : Act} {w : World} (hr : Region.ready .any ops listed = rs) (hne : rs ≠ [])
    (h : ∀ i ∈ rs, wpOp P ops Q i (fun a' w' => C w' ∧ ∀ x, WC P ops Q C fuel (listed.setIfInBounds i true) a' (gw w' x)) a w) : WC P ops Q C (fuel + 1) listed a w :=
  ⟨fun h0 => absurd (hr ▸ h0) hne, hr ▸ fun i hi => wpOp_mono (fun a' w' h' => ⟨h'.1, fun w'' hw'' => by obtain ⟨x, rfl⟩ := of_below hw''; exact h'.2 x⟩) (h i hi)⟩

/-- Memory made in a world that has grown, and what is known of it in every world that comes behind. -/
theorem new_at {W w : World} (hW : Grown W w) (cs : Array Value) (T : TypeId) (y : World) :
    ∃ p w1, w.heap.size = p ∧ gw (w.alloc (.cells cs T)) y = w1 ∧ W.heap.size ≤ p ∧ Grown W w1 ∧ Grown w w1 ∧ p < w1.heap.size ∧ (∀ i, w1.frozen? ⟨p, i, none⟩ = false) ∧ ∀ i, w1.cell? ⟨p, i, none⟩ = cs[i]? := by
  refine ⟨_, _, rfl, rfl, hW.size, hW.trans ((below_alloc _ _).trans ((gw_below _ _).mono (by simp))), (below_alloc _ _).trans ((gw_below _ _).mono (by simp)), ?_, ?_, ?_⟩
  · exact Nat.lt_of_lt_of_le (by simp) (gw_below _ y).size
  · intro i
    rw [(gw_below _ y).frozen (p := ⟨w.heap.size, i, none⟩) (by simp)]
    simp [go_sem]
  · intro i
    rw [(gw_below _ y).cell (p := ⟨w.heap.size, i, none⟩) (by simp)]
    exact cell_of_row _ _ i cs T (0, 0) (heap_alloc_new w _)
theorem kept {w w1 : World} (h : Grown w w1) {p i : Nat} (hp : p < w.heap.size) : w1.cell? ⟨p, i, none⟩ = w.cell? ⟨p, i, none⟩ := h.cell (p := ⟨p, i, none⟩) hp

theorem keptF {w w1 : World} (h : Grown w w1) {p i : Nat} (hp : p < w.heap.size) : w1.frozen? ⟨p, i, none⟩ = w.frozen? ⟨p, i, none⟩ := h.frozen (p := ⟨p, i, none⟩) hp

/-- A store of two cells into memory of our own, in a world that has grown, and what is known of it in every world that comes behind. -/
theorem stored2 {W w : World} {p : Nat} {u0 u1 : Value} (hW : Grown W w) (hp : W.heap.size ≤ p) (hc : ∀ i, w.cell? ⟨p, i, none⟩ = #[u0, u1][i]?) (hF : ∀ i, w.frozen? ⟨p, i, none⟩ = false) (v0 v1 : Value) (y : World) :
    ∃ w1, gw ((w.setCell ⟨p, 0, none⟩ v0).setCell ⟨p, 1, none⟩ v1) y = w1 ∧ Grown W w1 ∧ w.heap.size ≤ w1.heap.size ∧ (∀ i, w1.cell? ⟨p, i, none⟩ = #[v0, v1][i]?) ∧ (∀ i, w1.frozen? ⟨p, i, none⟩ = false) ∧
      ∀ q, q < w.heap.size → p ≠ q → (∀ i, w1.cell? ⟨q, i, none⟩ = w.cell? ⟨q, i, none⟩) ∧ ∀ i, w1.frozen? ⟨q, i, none⟩ = w.frozen? ⟨q, i, none⟩ := by
  have h0 : w.cell? ⟨p, 0, none⟩ = some u0 := by rw [hc]; rfl
  have hl : p < w.heap.size := World.block_lt_of_cell? w ⟨p, 0, none⟩ h0
  have hs : ((w.setCell ⟨p, 0, none⟩ v0).setCell ⟨p, 1, none⟩ v1).heap.size = w.heap.size := by simp
  refine ⟨_, rfl, Grown.trans (xs (xs hW (by exact hp) _) (by exact hp) _) (Grown.gw _ _), ?_, fun i => ?_, fun i => ?_, fun q hq hpq => ⟨fun i => ?_, fun i => ?_⟩⟩
  · exact Nat.le_trans (Nat.le_of_eq hs.symm) (gw_below _ y).size
  · rw [gw_cell? _ _ _ _ (by rw [hs]; exact hl)]
    match i with
    | 0 => simp [go_sem, hc]
    | 1 => simp [go_sem, hc]
    | i + 2 => simp [go_sem, hc]
  · rw [gw_frozen? _ _ _ _ (by rw [hs]; exact hl)]
    simp [go_sem, hF]
  · rw [gw_cell? _ _ _ _ (by rw [hs]; exact hq)]
    simp [go_sem, hpq]
  · rw [gw_frozen? _ _ _ _ (by rw [hs]; exact hq)]
    simp [go_sem]

/-- Operation number i comes up. -/
theorem WG_op {i : Nat} {l rest : List Oper} {oi : Oper} {a : Act} {w : World} {K : Act → World → Prop} (hi : l.drop i = oi :: rest) (hw : Region.wanted oi (yielded l.toArray a.tmps) = true)
    (h : ∀ K' : Act → World → Prop, (∀ a w, K a w → K' a w) → Oper.wp P oi a w K' Q) : wpOp P l.toArray Q i K a w := by
  have hi : l.toArray[i]? = some oi := by
    have := congrArg (fun m => m[0]?) hi
    simpa using this
  exact wpOp_step hi fun K' hK => by rw [if_pos hw]; exact h K' hK

theorem WG_done {listed : Array Bool} {a : Act} {w : World} (hr : Region.ready .any ops listed = []) (h : Q .normal a w) (fuel : Nat) : WG P ops Q W fuel listed a w := WC_done hr h fuel
theorem WG_all (rs : List Nat) {fuel : Nat} {listed : Array Bool} {a : Act} {w : World} (hr : Region.ready .any ops listed = rs) (hne : rs ≠ [])
    (h : ∀ i ∈ rs, wpOp P ops Q i (fun a' w' => Grown W w' ∧ ∀ x, WG P ops Q W fuel (listed.setIfInBounds i true) a' (gw w' x)) a w) : WG P ops Q W (fuel + 1) listed a w := WC_all rs hr hne h
theorem wp_region_grows {id : Nat} {l : List Oper} {a : Act} {w : World} (W : World) (hm : P.follows .mixedOrders = true) (hW : Grown W w)
    (h : ∀ x, WG P l.toArray (NoPanic Q) W l.length (Array.replicate l.length false) a (gw W x)) : (Code.region id l.toArray true).wp P Q a w := by
  refine wp_region_noPanic (wp_region_any hm ?_)
  obtain ⟨x, hx⟩ := of_below (show Below W.heap.size W w.drew from Below.drew hW)
  have := wpAny_of_WC _ _ _ _ (h x)
  rw [← hx] at this
  simpa using this
/-- append onto a row of the call's own, as one operation. -/
theorem wp_append_own {o : Oper} {a : Act} {w : World} {K : Act → World → Prop} {Q' : Exit → Act → World → Prop} (s x : Operand) (t : TypeId)
    (hop : o.op = Op.call { callee := Callee.builtin Builtin.append, args := #[s, x], argTypes := #[t, t] })
    (base : Nat) (e : TypeId) (i : TypeInfo) (z : Value) (size bytes : Nat) (ht : P.underlying t = some (.slice e)) (hi : P.info? e = some i) (hz : i.zero = some z)
    (hsize : i.size = size) (hby : i.bytes = bytes) (hzs : z.cells.size = size) (hsz : 0 < size)
    (v : Value) (hv : a.eval s = v) (n : Nat) (xs : List Value) (hown : w.ownsRow base e size v n xs)
    (ad : Addr) (m c : Nat) (hx : a.eval x = .slice (some ad) m c) (news : List Value) (hl : news.length = m * size) (hnews : ∀ j u, news[j]? = some u → w.cell? (ad.add j) = some u) (h1 : ∀ u ∈ news, u.oneCell' = true)
    (h63 : n + m ≤ maxLen) (hbytes : (n + m) * bytes ≤ 140737488355328) (hbase : base ≤ w.heap.size)
    (hK : ∀ v' w', w'.ownsRow base e size v' (n + m) (xs ++ news) → w.grownBy w' v.ownBlock → K (a.put o.dst v') w') : Oper.wp P o a w K Q' := by
  obtain ⟨v', w', hrun, hown', hg, -, -⟩ := run_append_own_at (P := P) w base t o.type e i z size bytes ht hi hz hsize hby hzs hsz v n xs hown ad m c news hl hnews h1 h63 hbytes hbase
  unfold Oper.wp
  simp [execOp, hop, resolve, invoke, builtin, hv, hx, hrun, Result.andThen]
  exact hK v' w' hown' hg
end
end Go.Proofs.YthifeoebefbalaaGreatDoor

namespace Go.Proofs.YthifeoebefbalaaGreatDoor
open Go.RowKit

def common (s t : Sp) : Sp := ⟨max s.lo t.lo, min s.hi t.hi⟩
set_option maxHeartbeats 4000000 in
theorem c97 (a b : Card) (w : World) (ha : isCard a = true) (hb : isCard b = true) : Calls Tryz.prog 97 #[cv a, cv b] w fun e w' => e = .returned (.tuple #[spv (common (says a) (says b)), .bool (decide ((common (says a) (says b)).lo ≤ (common (says a) (says b)).hi))]) ∧ Below w.heap.size w w' := by
  have Ha := Lib.hid ha
  have Hb := Lib.hid hb
  clear ha hb
  unfold cv
  go_enter Tryz.func97, Tryz.ntmps97
  go_wp2_with fail
  obtain ⟨w0, hw0⟩ : ∃ w0, ((w.alloc (.cells #[.int .i64 a.st, .int .i64 a.da, .int .i64 a.dy, .int .i64 a.ki, .int .i64 a.am, .int .i64 a.fi] 24)).alloc (.cells #[.int .i64 b.st, .int .i64 b.da, .int .i64 b.dy, .int .i64 b.ki, .int .i64 b.am, .int .i64 b.fi] 24)).alloc (.cells #[.int .i64 0, .int .i64 0] 33) = w0 := ⟨_, rfl⟩
  have f1 : BlkAt w0 w.heap.size (fun i => #[Value.int .i64 a.st, .int .i64 a.da, .int .i64 a.dy, .int .i64 a.ki, .int .i64 a.am, .int .i64 a.fi][i]?) := by
    rw [← hw0]; exact ((blk_new (xr _)).alloc _).alloc _
  have f2 : BlkAt w0 (w.heap.size + 1) (fun i => #[Value.int .i64 b.st, .int .i64 b.da, .int .i64 b.dy, .int .i64 b.ki, .int .i64 b.am, .int .i64 b.fi][i]?) := by
    rw [← hw0]
    have := (blk_new (w := w.alloc (.cells #[.int .i64 a.st, .int .i64 a.da, .int .i64 a.dy, .int .i64 a.ki, .int .i64 a.am, .int .i64 a.fi] 24)) (cs := #[Value.int .i64 b.st, .int .i64 b.da, .int .i64 b.dy, .int .i64 b.ki, .int .i64 b.am, .int .i64 b.fi]) (T := 24) (xr _)).alloc (.cells #[.int .i64 0, .int .i64 0] 33)
    simpa using this
  have f3 : w0.heap.size = w.heap.size + 3 := by rw [← hw0]; simp
  have f4 : Below w.heap.size w w0 := by rw [← hw0]; exact xa (xa (xa (xr _) _) _) _
  have f5 : ∀ i, w0.cell? ⟨w.heap.size + 1 + 1, i, none⟩ = #[Value.int .i64 0, .int .i64 0][i]? := fun i => by
    rw [← hw0]
    have := cell_of_row (((w.alloc (.cells #[.int .i64 a.st, .int .i64 a.da, .int .i64 a.dy, .int .i64 a.ki, .int .i64 a.am, .int .i64 a.fi] 24)).alloc (.cells #[.int .i64 b.st, .int .i64 b.da, .int .i64 b.dy, .int .i64 b.ki, .int .i64 b.am, .int .i64 b.fi] 24)).alloc (.cells #[.int .i64 0, .int .i64 0] 33)) _ i _ _ (0, 0) (heap_alloc_new _ _)
    simpa using this
  have f6 : ∀ i, w0.frozen? ⟨w.heap.size + 1 + 1, i, none⟩ = false := fun i => by rw [← hw0]; simp [go_sem]
  obtain ⟨g1, g2⟩ := f1
  obtain ⟨g3, g4⟩ := f2
  rw [hw0]
  clear hw0
  refine wp_region_grows w0 (by kernel_rfl) (Grown.refl _) fun x => ?_
  refine WG_take0 (v := ?_) (a' := ?_) 0 rfl (by kernel_rfl) (by kernel_rfl) (by kernel_rfl) ⟨rfl, fun y => ?_⟩ ?_ 9 rfl (by kernel_rfl) fun x => ?_
  rotate_left 2
  · go_big_quiet_op; exact rfl
  · exact rfl
  refine WG_take0 (v := ?_) (a' := ?_) 1 rfl (by kernel_rfl) (by kernel_rfl) (by kernel_rfl) ⟨rfl, fun y => ?_⟩ ?_ 10 rfl (by kernel_rfl) fun x => ?_
  rotate_left 2
  · go_big_quiet_op
    apply Exists.intro; refine ⟨fun n => ?_, ?_⟩
    · go_at_call 77
      exact gw_call (c77 a _ Ha.out)
    exact rfl
  · exact rfl
  refine WG_take0 (v := ?_) (a' := ?_) 2 rfl (by kernel_rfl) (by kernel_rfl) (by kernel_rfl) ⟨rfl, fun y => ?_⟩ ?_ 11 rfl (by kernel_rfl) fun x => ?_
  rotate_left 2
  · go_big_quiet_op; exact rfl
  · exact rfl
  refine WG_take0 (v := ?_) (a' := ?_) 3 rfl (by kernel_rfl) (by kernel_rfl) (by kernel_rfl) ⟨rfl, fun y => ?_⟩ ?_ 12 rfl (by kernel_rfl) fun x => ?_
  rotate_left 2
  · go_big_quiet_op
    apply Exists.intro; refine ⟨fun n => ?_, ?_⟩
    · go_at_call 77
      exact gw_call (c77 b _ Hb.out)
    exact rfl
  · exact rfl
  refine WG_all [4, 5] (by kernel_rfl) (by simp) ?_
  intro i hi
  rcases List.mem_cons.1 hi with rfl | hi
  case' inl =>
    refine WG_op rfl rfl fun K hK => ?_
    go_big_op
    refine hK _ _ ⟨xa (Grown.gw _ _) _, fun y => ?_⟩
    obtain ⟨p, w1, e1, e2, p1, p2, p3, p4, pF, p5⟩ := new_at (Grown.gw w0 x) #[.int .i64 0, .int .i64 0] 33 y
    rw [e1, e2]
    clear e1 e2
    refine WG_all [5] (by kernel_rfl) (by simp) fun i hi => ?_
    rcases List.mem_singleton.1 hi with rfl
    refine WG_op rfl rfl fun K hK => ?_
    go_big_op
    refine hK _ _ ⟨xa p2 _, fun y => ?_⟩
    obtain ⟨q, w2, e1, e2, q1, q2, q3, q4, qF, q5⟩ := new_at p2 #[.int .i64 0, .int .i64 0] 33 y
    have p6 : p < w2.heap.size := Nat.lt_of_lt_of_le p4 q3.size
    have p7 : ∀ i, w2.cell? ⟨p, i, none⟩ = #[Value.int .i64 0, .int .i64 0][i]? := fun i => by rw [kept q3 p4, p5]
    have p9 : ∀ i, w2.frozen? ⟨p, i, none⟩ = false := fun i => by rw [keptF q3 p4, pF]
    have p8 : p ≠ q := by omega
    rw [e1, e2]
    clear e1 e2 p5 pF q3 p4 p3 p2 w1
  case' inr =>
    rcases List.mem_singleton.1 hi with rfl
    refine WG_op rfl rfl fun K hK => ?_
    go_big_op
    refine hK _ _ ⟨xa (Grown.gw _ _) _, fun y => ?_⟩
    obtain ⟨q, w1, e1, e2, q1, q2, q3, q4, qF, q5⟩ := new_at (Grown.gw w0 x) #[.int .i64 0, .int .i64 0] 33 y
    rw [e1, e2]
    clear e1 e2
    refine WG_all [4] (by kernel_rfl) (by simp) fun i hi => ?_
    rcases List.mem_singleton.1 hi with rfl
    refine WG_op rfl rfl fun K hK => ?_
    go_big_op
    refine hK _ _ ⟨xa q2 _, fun y => ?_⟩
    obtain ⟨p, w2, e1, e2, p1, p2, p3, p4, pF, p5⟩ := new_at q2 #[.int .i64 0, .int .i64 0] 33 y
    have q6 : q < w2.heap.size := Nat.lt_of_lt_of_le q4 p3.size
    have q7 : ∀ i, w2.cell? ⟨q, i, none⟩ = #[Value.int .i64 0, .int .i64 0][i]? := fun i => by rw [kept p3 q4, q5]
    have q9 : ∀ i, w2.frozen? ⟨q, i, none⟩ = false := fun i => by rw [keptF p3 q4, qF]
    have p8 : p ≠ q := by omega
    rw [e1, e2]
    clear e1 e2 q5 qF p3 q4 q3 q2 w1
    have p6 := p4
    have p7 := p5
    have p9 := pF
    have q4 := q6
    have q5 := q7
    have qF := q9
    have q2 := p2
    clear q6 q7 q9 p4 p5 pF p2
  all_goals
    refine WG_all [6] (by kernel_rfl) (by simp) fun i hi => ?_
    rcases List.mem_singleton.1 hi with rfl
    refine WG_op rfl rfl fun K hK => ?_
    unfold spv
    go_big_op
    refine hK _ _ ⟨xs (xs q2 p1 _) p1 _, fun y => ?_⟩
    obtain ⟨w3, e3, r1, r2, r3, r4, r5⟩ := stored2 q2 p1 p7 p9 (.int .i64 (says a).lo) (.int .i64 (says a).hi) y
    obtain ⟨r6, r7⟩ := r5 q q4 p8
    simp only [q5, qF] at r6 r7
    rw [e3]
    have r8 := Nat.lt_of_lt_of_le p6 r2
    clear e3 r5 p6 p7 p9 q4 q5 q2 qF r2 w2
    refine WG_all [7] (by kernel_rfl) (by simp) fun i hi => ?_
    rcases List.mem_singleton.1 hi with rfl
    refine WG_op rfl rfl fun K hK => ?_
    go_big_op
    refine hK _ _ ⟨xs (xs r1 q1 _) q1 _, fun y => ?_⟩
    obtain ⟨w4, e4, s1, s2, s3, s4, s5⟩ := stored2 r1 q1 r6 r7 (.int .i64 (says b).lo) (.int .i64 (says b).hi) y
    obtain ⟨s6, s7⟩ := s5 p r8 (Ne.symm p8)
    simp only [r3, r4] at s6 s7
    rw [e4]
    clear e4 s5 r8 r1 r3 r4 r6 r7 s2 w3
    refine WG_done (by kernel_rfl) ?_ _
    have t0 : w4.cell? ⟨p, 0, none⟩ = some (.int .i64 (says a).lo) := s6 0
    have t1 : w4.cell? ⟨p, 1, none⟩ = some (.int .i64 (says a).hi) := s6 1
    have t2 : w4.cell? ⟨q, 0, none⟩ = some (.int .i64 (says b).lo) := s3 0
    have t3 : w4.cell? ⟨q, 1, none⟩ = some (.int .i64 (says b).hi) := s3 1
    have t4 : w4.cell? ⟨w.heap.size + 1 + 1, 0, none⟩ = some (.int .i64 0) := by rw [kept s1 (by omega), f5]; rfl
    have t5 : w4.cell? ⟨w.heap.size + 1 + 1, 1, none⟩ = some (.int .i64 0) := by rw [kept s1 (by omega), f5]; rfl
    have t6 : ∀ i, w4.frozen? ⟨w.heap.size + 1 + 1, i, none⟩ = false := fun i => by rw [keptF s1 (by omega), f6]
    have t7 : w.heap.size + 1 + 1 < w4.heap.size := Nat.lt_of_lt_of_le (by omega) s1.size
    have t8 : Below w.heap.size w w4 := f4.trans (s1.mono f4.size)
    clear s1 s3 s4 s6 s7 p1 q1 p8 f3 f4 f5 f6 g1 g2 g3 g4 hi
    unfold NoPanic
    go_wp2_with fail
    clear t0 t1 t2 t3 Ha Hb
    go_region
    all_goals go_wp2_with fail
    all_goals exact bodyPost_ret (v := .tuple #[spv (common (says a) (says b)), .bool (decide ((common (says a) (says b)).lo ≤ (common (says a) (says b)).hi))]) (by simp [results, Tryz.results97, go_sem, spv, common, t4, t5, t7, World.cell?_alloc_lt] <;> first | rfl | congr) rfl ⟨rfl, by repeat (first | exact t8 | apply xd | apply xa | (refine xs ?_ (by simp <;> omega) _))⟩
end Go.Proofs.YthifeoebefbalaaGreatDoor

namespace Go.Proofs.YthifeoebefbalaaGreatDoor
open Go.RowKit

/-- Cards one behind the other in memory. -/
def CardsAt (w : World) (b o : Nat) (l : List Card) : Prop :=
  ∀ i c, l[i]? = some c → w.cell? ⟨b, o + i * 6, none⟩ = some (.int .i64 c.st) ∧ w.cell? ⟨b, o + i * 6 + 1, none⟩ = some (.int .i64 c.da) ∧ w.cell? ⟨b, o + i * 6 + 2, none⟩ = some (.int .i64 c.dy) ∧
    w.cell? ⟨b, o + i * 6 + 3, none⟩ = some (.int .i64 c.ki) ∧ w.cell? ⟨b, o + i * 6 + 4, none⟩ = some (.int .i64 c.am) ∧ w.cell? ⟨b, o + i * 6 + 5, none⟩ = some (.int .i64 c.fi)
theorem CardsAt.below {w w' : World} {b o : Nat} {l : List Card} (h : CardsAt w b o l) (hb : Below w.heap.size w w') : CardsAt w' b o l := fun i c hc => by
  obtain ⟨h0, h1, h2, h3, h4, h5⟩ := h i c hc
  have hl : b < w.heap.size := World.block_lt_of_cell? w _ h0
  exact ⟨by rw [hb.cell (p := ⟨b, _, none⟩) hl, h0], by rw [hb.cell (p := ⟨b, _, none⟩) hl, h1], by rw [hb.cell (p := ⟨b, _, none⟩) hl, h2], by rw [hb.cell (p := ⟨b, _, none⟩) hl, h3], by rw [hb.cell (p := ⟨b, _, none⟩) hl, h4], by rw [hb.cell (p := ⟨b, _, none⟩) hl, h5]⟩

def eachErr (l : List Card) : Int := if l.all isCard then 0 else 1
set_option maxHeartbeats 1000000 in
theorem c93 (l : List Card) (b o : Nat) (cap : Nat) (w : World) (hb : CardsAt w b o l) (hlen : l.length < 2 ^ 40) : Calls Tryz.prog 93 #[.slice (some ⟨b, o, none⟩) l.length cap] w fun e w' => e = .returned (.int .i64 (eachErr l)) ∧ Below w.heap.size w w' := by
  have HB := Lib.hid hb
  clear hb
  obtain ⟨n, hn⟩ : ∃ n, l.length = n := ⟨_, rfl⟩
  rw [hn]
  have HN := Lib.hid hn
  rw [hn] at hlen
  clear hn
  go_enter Tryz.func93, Tryz.ntmps93
  go_wp2
  go_loopw [7] (fun k wr => ∃ i : Nat, i ≤ n ∧ k = .int .i64 i ∧ Hid ((l.take i).all isCard = true) ∧ Below w.heap.size w wr) (fun k _ => n - (intOf k).toNat)
  case atStart => exact ⟨0, by omega, rfl, rfl, Below.refl _ _⟩
  case round =>
    obtain ⟨i, hi, rfl, hf, hb⟩ := hrel
    by_cases hlt : i < n
    · obtain ⟨c, hc⟩ : ∃ c, l[i]? = some c := by
        have := HN.out
        exact ⟨l[i]'(by omega), by simp⟩
      have hcs := (HB.out.below hb) i c hc
      have HC := Lib.hid hc
      obtain ⟨h0, h1, h2, h3, h4, h5⟩ := hcs
      clear hc
      by_cases hcc : isCard c = true
      · have HCC := Lib.hid hcc
        clear hcc
        go_wp2_with (go_at_call 76; refine (c76 _ _ _ _ _ _ _).mono ?_; rintro e w1 ⟨rfl, hb1⟩; rw [HCC.out]; obtain ⟨x1, rfl⟩ := of_below hb1; clear hb1)
        go_roundw
        case rel => exact ⟨i + 1, by omega, by go_num, (show _ = true by rw [List.take_add_one, HC.out]; simp [hf.out, HCC.out]), below_trans hb (by repeat (first | exact xr _ | apply xa | apply xg))⟩
        case measure => simp [intOf]; omega
      · have HCC := Lib.hid (Bool.eq_false_iff.2 hcc)
        clear hcc
        go_wp2_with (go_at_call 76; refine (c76 _ _ _ _ _ _ _).mono ?_; rintro e w1 ⟨rfl, hb1⟩; rw [HCC.out]; obtain ⟨x1, rfl⟩ := of_below hb1; clear hb1)
        go_ret
        exact ⟨ret_int (by rw [eachErr, if_neg]; intro hall; have := List.all_eq_true.1 hall c (List.mem_of_getElem? HC.out); rw [HCC.out] at this; cases this), below_trans hb (by repeat (first | exact xr _ | apply xa | apply xg))⟩
    · go_wp2
      go_ret
      exact ⟨ret_int (by rw [eachErr, if_pos]; rw [← hf.out, List.take_of_length_le (by rw [HN.out]; omega)]), hb⟩

/-- Two cards, as the compiler lays them for a call. -/
theorem cards2 (a b : Card) (w : World) (k : Nat) (h : ∀ i, w.cell? ⟨k, i, none⟩ = #[Value.int .i64 a.st, .int .i64 a.da, .int .i64 a.dy, .int .i64 a.ki, .int .i64 a.am, .int .i64 a.fi, .int .i64 b.st, .int .i64 b.da, .int .i64 b.dy, .int .i64 b.ki, .int .i64 b.am, .int .i64 b.fi][i]?) : CardsAt w k 0 [a, b] := by
  intro i c hc
  match i with
  | 0 => simp at hc; subst hc; refine ⟨?_, ?_, ?_, ?_, ?_, ?_⟩ <;> · rw [h]; rfl
  | 1 => simp at hc; subst hc; refine ⟨?_, ?_, ?_, ?_, ?_, ?_⟩ <;> · rw [h]; rfl
  | i + 2 => simp at hc

/-- Two cards that a function has boxed. -/
structure Boxed2 (w W : World) (a b : Card) : Prop where
  fst : BlkAt W w.heap.size (fun i => #[Value.int .i64 a.st, .int .i64 a.da, .int .i64 a.dy, .int .i64 a.ki, .int .i64 a.am, .int .i64 a.fi][i]?)
  snd : BlkAt W (w.heap.size + 1) (fun i => #[Value.int .i64 b.st, .int .i64 b.da, .int .i64 b.dy, .int .i64 b.ki, .int .i64 b.am, .int .i64 b.fi][i]?)
  below : Below w.heap.size w W
  big : w.heap.size + 2 ≤ W.heap.size
theorem boxed2 (w : World) (a b : Card) : Boxed2 w ((w.alloc (.cells #[.int .i64 a.st, .int .i64 a.da, .int .i64 a.dy, .int .i64 a.ki, .int .i64 a.am, .int .i64 a.fi] 24)).alloc (.cells #[.int .i64 b.st, .int .i64 b.da, .int .i64 b.dy, .int .i64 b.ki, .int .i64 b.am, .int .i64 b.fi] 24)) a b :=
  ⟨(blk_new (xr _)).alloc _, by
    have := blk_new (w := w.alloc (.cells #[.int .i64 a.st, .int .i64 a.da, .int .i64 a.dy, .int .i64 a.ki, .int .i64 a.am, .int .i64 a.fi] 24)) (cs := #[Value.int .i64 b.st, .int .i64 b.da, .int .i64 b.dy, .int .i64 b.ki, .int .i64 b.am, .int .i64 b.fi]) (T := 24) (xr _)
    simpa using this, xa (xa (xr _) _) _, by simp⟩
theorem Boxed2.grown {w W X : World} {a b : Card} (h : Boxed2 w W a b) (hX : Below W.heap.size W X) : Boxed2 w X a b :=
  ⟨h.fst.below hX, h.snd.below hX, h.below.trans (hX.mono h.below.size), Nat.le_trans h.big hX.size⟩

theorem c96' (st da dy ki am fi : Int) (w : World) : Calls Tryz.prog 96 #[.agg #[.int .i64 st, .int .i64 da, .int .i64 dy, .int .i64 ki, .int .i64 am, .int .i64 fi]] w fun e w' => e = .returned (.agg #[.int .i64 st, .int .i64 da, .int .i64 dy]) ∧ Below w.heap.size w w' :=
  c96 ⟨st, da, dy, ki, am, fi⟩ w
def sameOf (a b : Card) : Bool := decide (a.st = b.st) && decide (a.da = b.da) && decide (a.dy = b.dy)
def some2 (a b : Card) : Bool := decide ((common (says a) (says b)).lo ≤ (common (says a) (says b)).hi)
set_option maxHeartbeats 1000000 in
set_option maxRecDepth 100000 in
theorem c95 (a b : Card) (w : World) (ha : isCard a = true) (hb : isCard b = true) : Calls Tryz.prog 95 #[cv a, cv b] w fun e w' => e = .returned (.bool (sameOf a b && !some2 a b)) ∧ Below w.heap.size w w' := by
  have Ha := Lib.hid ha
  have Hb := Lib.hid hb
  clear ha hb
  unfold cv
  go_enter Tryz.func95, Tryz.ntmps95
  go_wp2_with (first
    | (go_at_call 97; refine (c97 a b _ Ha.out Hb.out).mono ?_; rintro e w1 ⟨rfl, hb1⟩; obtain ⟨x1, rfl⟩ := of_below hb1; clear hb1; unfold spv))
  have hbx := ((boxed2 w a b).grown (gw_below _ x1)).grown (below_alloc _ (.cells #[.int .i64 (common (says a) (says b)).lo, .int .i64 (common (says a) (says b)).hi] 33))
  generalize (gw ((w.alloc (.cells #[.int .i64 a.st, .int .i64 a.da, .int .i64 a.dy, .int .i64 a.ki, .int .i64 a.am, .int .i64 a.fi] 24)).alloc (.cells #[.int .i64 b.st, .int .i64 b.da, .int .i64 b.dy, .int .i64 b.ki, .int .i64 b.am, .int .i64 b.fi] 24)) x1).alloc (.cells #[.int .i64 (common (says a) (says b)).lo, .int .i64 (common (says a) (says b)).hi] 33) = W at hbx ⊢
  obtain ⟨⟨g1, g2⟩, ⟨g3, g4⟩, g5, -⟩ := hbx
  have hs : ∀ b1 b2 : Bool, sameOf a b = b1 → some2 a b = b2 → (sameOf a b && !some2 a b) = (b1 && !b2) := fun _ _ h k => by rw [h, k]
  have HS := Lib.hid hs
  clear hs
  have h0 : decide ((common (says a) (says b)).lo ≤ (common (says a) (says b)).hi) = some2 a b := rfl
  rw [h0]
  clear h0
  have hd : ∀ b1 : Bool, sameOf a b = b1 → (sameOf a b && !some2 a b) = (b1 && !some2 a b) := fun _ h => by rw [h]
  have HD := Lib.hid hd
  clear hd HS
  by_cases h1 : a.st = b.st
  all_goals by_cases h2 : a.da = b.da
  all_goals by_cases h3 : a.dy = b.dy
  all_goals
    refine wp_region_gw (by kernel_rfl) (by kernel_rfl) ?_
    repeat (go_big_quiet_step ((go_at_call 96; exact gw_call (c96' _ _ _ _ _ _ _))))
    refine wpQuiet_nil ?_
    rintro _ ⟨x, rfl⟩
    go_wp2
    go_ret
    exact ⟨ret_bool (by simp [HD.out _ rfl, sameOf, h1, h2, h3]), xg g5 x⟩
end Go.Proofs.YthifeoebefbalaaGreatDoor

namespace Go.Proofs.YthifeoebefbalaaGreatDoor
open Go.RowKit

theorem c93_two (a b : Card) (k : Nat) (w : World) (T : TypeId) (hk : k = w.heap.size) :
    Calls Tryz.prog 93 #[.slice (some ⟨k, 0, none⟩) 2 2] (w.alloc (.cells #[.int .i64 a.st, .int .i64 a.da, .int .i64 a.dy, .int .i64 a.ki, .int .i64 a.am, .int .i64 a.fi, .int .i64 b.st, .int .i64 b.da, .int .i64 b.dy, .int .i64 b.ki, .int .i64 b.am, .int .i64 b.fi] T))
      fun e w' => e = .returned (.int .i64 (eachErr [a, b])) ∧ ∃ x, w' = gw (w.alloc (.cells #[.int .i64 a.st, .int .i64 a.da, .int .i64 a.dy, .int .i64 a.ki, .int .i64 a.am, .int .i64 a.fi, .int .i64 b.st, .int .i64 b.da, .int .i64 b.dy, .int .i64 b.ki, .int .i64 b.am, .int .i64 b.fi] T)) x := by
  subst hk
  exact (c93 [a, b] _ 0 2 _ (cards2 a b _ _ fun i => cell_of_row _ _ i _ _ (0, 0) (heap_alloc_new _ _)) (by simp)).mono fun e w' h => ⟨h.1, of_below h.2⟩

theorem eachErr_two (a b : Card) : eachErr [a, b] = if isCard a && isCard b then 0 else 1 := by simp [eachErr]

set_option maxHeartbeats 1000000 in
theorem c47 (a b : Card) (w : World) (ha : isCard a = true) (hb : isCard b = true) : Calls Tryz.prog 47 #[cv a, cv b] w fun e w' => e = .returned (.tuple #[.bool (sameOf a b && !some2 a b), .int .i64 0]) ∧ Below w.heap.size w w' := by
  have Ha := Lib.hid ha
  have Hb := Lib.hid hb
  have he : eachErr [a, b] = 0 := by rw [eachErr_two, ha, hb]; rfl
  have He := Lib.hid he
  clear ha hb he
  unfold cv
  go_enter Tryz.func47, Tryz.ntmps47
  go_wp2_with (first
    | (go_at_call 93; refine (c93_two a b _ _ _ (by simp)).mono ?_; rintro e w1 ⟨rfl, x1, rfl⟩; rw [He.out])
    | (go_at_call 95; refine (c95 a b _ Ha.out Hb.out).mono ?_; rintro e w2 ⟨rfl, hb2⟩; obtain ⟨x2, rfl⟩ := gw_step hb2; clear hb2))
  exact bodyPost_ret (v := .tuple #[.bool (sameOf a b && !some2 a b), .int .i64 0]) (by simp [results, Tryz.results47, go_sem]) rfl ⟨rfl, by repeat (first | exact xr _ | apply xa | apply xg)⟩
end Go.Proofs.YthifeoebefbalaaGreatDoor

namespace Go.Proofs.YthifeoebefbalaaGreatDoor
open Go.RowKit

def smallB (c : UInt8) : UInt8 := if 65 ≤ c.toNat ∧ c.toNat ≤ 90 then c + 32 else c
def smallL (l : List UInt8) : List UInt8 := l.map smallB
theorem smallB_yes (c : UInt8) (h1 : 65 ≤ c.toNat) (h2 : c.toNat ≤ 90) : (smallB c).toNat = c.toNat + 32 := by
  rw [smallB, if_pos ⟨h1, h2⟩, UInt8.toNat_add]
  have : (32 : UInt8).toNat = 32 := rfl
  omega

def isGapI (c : Int) : Bool := decide (c = 32) || decide (c = 9) || decide (c = 59)
theorem isGapI_beq (c : Int) : (c == 32 || c == 9 || c == 59) = isGapI c := by
  have e : ∀ a b : Int, (a == b) = decide (a = b) := fun a b => by by_cases h : a = b <;> simp [h]
  rw [isGapI, e, e, e]
theorem c151 (c : Int) (w : World) : Calls Tryz.prog 151 #[.int .i32 c] w fun e w' => e = .returned (.bool (isGapI c)) ∧ w = w' := by
  by_cases h1 : c = 32
  · subst h1
    go_enter Tryz.func151, Tryz.ntmps151
    go_wp2
    go_ret
    exact ⟨rfl, rfl⟩
  · by_cases h2 : c = 9
    · subst h2
      go_enter Tryz.func151, Tryz.ntmps151
      go_wp2
      go_ret
      exact ⟨rfl, rfl⟩
    · go_enter Tryz.func151, Tryz.ntmps151
      go_wp2
      go_ret
      exact ⟨ret_bool (isGapI_beq c), rfl⟩

theorem bytes_frozen (w : World) (e : TypeId) (s : ByteArray) (j : Nat) (hj : j < s.size) : (Lib.bytesWorld w e s).frozen? ⟨w.heap.size, j, none⟩ = false := by
  have : s.size ≤ (Lib.bytesCells w e s).size := by simp [Lib.bytesCells]
  simp [World.frozen?, Lib.bytesWorld_at_new]
  omega

set_option maxRecDepth 100000 in
set_option maxHeartbeats 1000000 in
theorem c152 (l : List UInt8) (w : World) (hl : l.length < 2 ^ 40) : Calls Tryz.prog 152 #[.string ⟨l.toArray⟩] w fun e w' => e = .returned (.string ⟨(smallL l).toArray⟩) ∧ Below w.heap.size w w' := by
  have hconv := Lib.run_convert_string_bytes (P := Tryz.prog) w 9 111 5 ⟨l.toArray⟩ Tryz.underlying9 Tryz.underlying111 Tryz.underlying5
  obtain ⟨n, hn⟩ : ∃ n, n = l.length := ⟨_, rfl⟩
  have hsz : (ByteArray.mk l.toArray).size = n := by simp [hn, ByteArray.size]
  have hw0 := Lib.bytesWorld_below w 5 ⟨l.toArray⟩
  have hcs : ∀ j c, l[j]? = some c → (Lib.bytesWorld w 5 ⟨l.toArray⟩).cell? ⟨w.heap.size, j, none⟩ = some (.int .u8 c.toNat) := fun j c hj => by
    rw [Lib.bytesWorld_cell _ _ _ _ (by rw [hsz, hn]; exact (List.getElem?_eq_some_iff.1 hj).1)]
    simp [hj, List.getD]
  have hfr : ∀ j, j < n → (Lib.bytesWorld w 5 ⟨l.toArray⟩).frozen? ⟨w.heap.size, j, none⟩ = false := fun j hj => bytes_frozen _ _ _ _ (by rw [hsz]; exact hj)
  generalize Lib.bytesWorld w 5 ⟨l.toArray⟩ = W at *
  generalize grownCap w (ByteArray.mk l.toArray).size 0 5 = cap at *
  rw [hsz] at hconv
  rw [← hn] at hl
  have HN := Lib.hid hn
  have HC := Lib.hid hcs
  have HF := Lib.hid hfr
  clear hn hcs hfr hsz
  go_enter Tryz.func152, Tryz.ntmps152
  go_wp2
  go_loopw [10] (fun k wr => ∃ i : Nat, i ≤ n ∧ k = .int .i64 i ∧ Hid (∀ j, j < n → wr.frozen? ⟨w.heap.size, j, none⟩ = false) ∧
      Hid (∀ j c, l[j]? = some c → wr.cell? ⟨w.heap.size, j, none⟩ = some (.int .u8 ((if j < i then smallB c else c).toNat : Int))) ∧ Below w.heap.size w wr) (fun k _ => n - (intOf k).toNat)
  case atStart => exact ⟨0, by omega, rfl, HF, Lib.hid (by simpa using HC.out), hw0⟩
  case round =>
    obtain ⟨i, hi, rfl, hf, hc, hb⟩ := hrel
    by_cases hlt : i < n
    · obtain ⟨c, hci⟩ : ∃ c, l[i]? = some c := by
        have := HN.out
        exact ⟨l[i]'(by omega), by simp⟩
      have hcc := hc.out i c hci
      rw [if_neg (Nat.lt_irrefl i)] at hcc
      have hff := hf.out i hlt
      have HCI := Lib.hid hci
      have h256 : c.toNat < 256 := c.toNat_lt
      clear hci
      obtain ⟨m, hm⟩ : ∃ m, c.toNat = m := ⟨_, rfl⟩
      rw [hm] at hcc h256
      have HM := Lib.hid hm
      clear hm
      -- what the invariant says behind a round that lays the small letter
      have key : ∀ wr' : World, wr'.cell? ⟨w.heap.size, i, none⟩ = some (.int .u8 ((smallB c).toNat : Int)) → (∀ j, j ≠ i → wr'.cell? ⟨w.heap.size, j, none⟩ = wr.cell? ⟨w.heap.size, j, none⟩) →
          ∀ j d, l[j]? = some d → wr'.cell? ⟨w.heap.size, j, none⟩ = some (.int .u8 ((if j < i + 1 then smallB d else d).toNat : Int)) := fun wr' e1 e2 j d hd => by
        by_cases hji : j = i
        · subst hji
          rw [HCI.out] at hd
          cases hd
          rw [if_pos (Nat.lt_succ_self _), e1]
        · rw [e2 j hji, hc.out j d hd]
          by_cases hj : j < i
          · rw [if_pos hj, if_pos (by omega)]
          · rw [if_neg hj, if_neg (by omega)]
      have KEY := Lib.hid key
      clear key
      have hcc' := Lib.hid hcc
      by_cases h1 : 65 ≤ m
      · by_cases h2 : m ≤ 90
        · go_wp2
          go_roundw
          case rel =>
            refine ⟨i + 1, by omega, by go_num, Lib.hid fun j hj => by simpa using hf.out j hj, Lib.hid (KEY.out _ ?_ fun j hj => ?_), xs hb (by simp) _⟩
            · rw [World.cell?_setCell_same' _ _ _ (by rw [hcc]; rfl), smallB_yes _ (by rw [HM.out]; exact h1) (by rw [HM.out]; exact h2), HM.out]
              go_num
            · exact World.cell?_setCell_other _ _ _ _ (by simp <;> omega)
          case measure => simp [intOf]; omega
        · go_wp2
          go_roundw
          case rel =>
            refine ⟨i + 1, by omega, by go_num, hf, Lib.hid (KEY.out _ ?_ fun j hj => rfl), hb⟩
            rw [hcc, smallB, if_neg (by rw [HM.out]; omega), HM.out]
          case measure => simp [intOf]; omega
      · go_wp2
        go_roundw
        case rel =>
          refine ⟨i + 1, by omega, by go_num, hf, Lib.hid (KEY.out _ ?_ fun j hj => rfl), hb⟩
          rw [hcc, smallB, if_neg (by rw [HM.out]; omega), HM.out]
        case measure => simp [intOf]; omega
    · have hback := run_convert_bytes_back (P := Tryz.prog) wr 111 9 5 ⟨w.heap.size, 0, none⟩ cap (smallL l) Tryz.underlying111 Tryz.underlying5 Tryz.underlying9 (fun j hj => by
        have hj' : j < l.length := by simpa [smallL] using hj
        have := hc.out j l[j] (by simp [hj'])
        rw [if_pos (by have := HN.out; omega)] at this
        rw [show (⟨w.heap.size, 0, none⟩ : Addr).add j = ⟨w.heap.size, j, none⟩ by simp [Addr.add]; intro h; exact h.symm]
        simpa [smallL] using this)
      rw [show (smallL l).length = n by simp [smallL, HN.out]] at hback
      go_wp2
      go_ret
      exact ⟨rfl, hb⟩
end Go.Proofs.YthifeoebefbalaaGreatDoor

namespace Go.Proofs.YthifeoebefbalaaGreatDoor
open Go.RowKit

theorem decN (n b0 b1 b2 b3 : Nat) (hn : 1 ≤ n) : 1 ≤ (Lib.decodeN n b0 b1 b2 b3).2 ∧ (Lib.decodeN n b0 b1 b2 b3).2 ≤ n ∧ (Lib.decodeN n b0 b1 b2 b3).2 ≤ 4 ∧ (b0 < 128 → Lib.decodeN n b0 b1 b2 b3 = (b0, 1)) ∧
    (128 ≤ b0 → 128 ≤ (Lib.decodeN n b0 b1 b2 b3).1 ∧ (2 ≤ (Lib.decodeN n b0 b1 b2 b3).2 → 128 ≤ b1) ∧ (3 ≤ (Lib.decodeN n b0 b1 b2 b3).2 → 128 ≤ b2) ∧ (4 ≤ (Lib.decodeN n b0 b1 b2 b3).2 → 128 ≤ b3)) := by
  unfold Lib.decodeN
  repeat' split
  all_goals simp only [] at *
  all_goals refine ⟨?_, ?_, ?_, ?_, ?_⟩
  all_goals first
    | omega
    | (intro h; first | rfl | trivial | (exfalso; omega) | (refine ⟨?_, ?_, ?_, ?_⟩ <;> omega))

def gapU (c : UInt8) : Bool := c == 32 || c == 9 || c == 59
/-- The machine that cuts a text into words: the words so far, and the one that has begun. -/
def wstep (st : List (List UInt8) × List UInt8) (c : UInt8) : List (List UInt8) × List UInt8 :=
  if gapU c then (if st.2 = [] then st else (st.1 ++ [st.2], [])) else (st.1, st.2 ++ [smallB c])
def wfold (l : List UInt8) : List (List UInt8) × List UInt8 := l.foldl wstep ([], [])
def wordsOf (l : List UInt8) : List (List UInt8) := if (wfold l).2 = [] then (wfold l).1 else (wfold l).1 ++ [(wfold l).2]

theorem wfold_snoc (l : List UInt8) (c : UInt8) : wfold (l ++ [c]) = wstep (wfold l) c := by simp [wfold]
theorem gapU_big (c : UInt8) (h : 128 ≤ c.toNat) : gapU c = false := by
  have : ∀ d : UInt8, d.toNat < 128 → (c == d) = false := fun d hd => by
    rw [beq_eq_false_iff_ne]; rintro rfl; omega
  simp [gapU, this]
theorem gapU_int (c : UInt8) : isGapI (c.toNat : Int) = gapU c := by
  have : ∀ d : UInt8, decide ((c.toNat : Int) = (d.toNat : Int)) = (c == d) := fun d => by
    by_cases h : c = d
    · subst h; simp
    · rw [beq_eq_false_iff_ne.2 h]
      simp only [decide_eq_false_iff_not]
      intro e
      exact h (UInt8.toNat_inj.1 (by omega))
  have h1 := this 32
  have h2 := this 9
  have h3 := this 59
  simp only [gapU, isGapI, ← h1, ← h2, ← h3]
  rfl
theorem isGapI_big (n : Nat) (h : 128 ≤ n) : isGapI (n : Int) = false := by
  simp [isGapI]; omega
/-- A run of bytes that are no gaps. -/
theorem wfold_run (l m : List UInt8) (h : ∀ c ∈ m, gapU c = false) : wfold (l ++ m) = ((wfold l).1, (wfold l).2 ++ smallL m) := by
  induction m generalizing l with
  | nil => simp [smallL]
  | cons c m ih =>
    rw [show l ++ c :: m = (l ++ [c]) ++ m by simp, ih _ (fun d hd => h d (by simp [hd])), wfold_snoc, wstep, if_neg (by simp [h c])]
    simp [smallL]
theorem wfold_len (l : List UInt8) : (wfold l).1.length + (wfold l).2.length ≤ l.length := by
  suffices h : ∀ (m : List UInt8) (st : List (List UInt8) × List UInt8), (m.foldl wstep st).1.length + (m.foldl wstep st).2.length ≤ st.1.length + st.2.length + m.length by
    have := h l ([], [])
    simpa [wfold] using this
  intro m
  induction m with
  | nil => intro st; simp
  | cons c m ih =>
    intro st
    have := ih (wstep st c)
    have h2 : (wstep st c).1.length + (wstep st c).2.length ≤ st.1.length + st.2.length + 1 := by
      unfold wstep
      split
      · split <;> simp <;> omega
      · simp; omega
    simp only [List.foldl_cons, List.length_cons]
    omega
theorem wordsOf_len (l : List UInt8) : (wordsOf l).length ≤ l.length := by
  have := wfold_len l
  unfold wordsOf
  split
  · omega
  · rename_i h
    have : 0 < (wfold l).2.length := List.length_pos_iff.2 h
    simp; omega
theorem words_ne (l : List UInt8) : ∀ x ∈ wordsOf l, x ≠ [] := by
  have h : ∀ (m : List UInt8) (st : List (List UInt8) × List UInt8), (∀ x ∈ st.1, x ≠ []) → ∀ x ∈ (m.foldl wstep st).1, x ≠ [] := by
    intro m
    induction m with
    | nil => intro st h; simpa using h
    | cons c m ih =>
      intro st h
      refine ih _ ?_
      unfold wstep
      split
      · split
        · exact h
        · rename_i h2
          intro x hx
          rcases List.mem_append.1 hx with hx | hx
          · exact h x hx
          · simp at hx; rw [hx]; exact h2
      · exact h
  intro x hx
  unfold wordsOf at hx
  split at hx
  · exact h l _ (by simp) x hx
  · rename_i h2
    rcases List.mem_append.1 hx with hx | hx
    · exact h l _ (by simp) x hx
    · simp at hx; rw [hx]; exact h2
theorem get_of_list (l : List UInt8) (i : Nat) (h : i < l.length) : (ByteArray.mk l.toArray).get! i = l[i] := by
  rw [← Lib.getD_get!']
  simp [h]

/-- One rune. -/
theorem rune_step (l : List UInt8) (p : Nat) (h : p < l.length) :
    1 ≤ (Utf8.decode ⟨l.toArray⟩ p).2 ∧ p + (Utf8.decode ⟨l.toArray⟩ p).2 ≤ l.length ∧
    (isGapI ((Utf8.decode ⟨l.toArray⟩ p).1 : Int) = true → (Utf8.decode ⟨l.toArray⟩ p).2 = 1 ∧
      wfold (l.take (p + 1)) = if (wfold (l.take p)).2 = [] then wfold (l.take p) else ((wfold (l.take p)).1 ++ [(wfold (l.take p)).2], [])) ∧
    (isGapI ((Utf8.decode ⟨l.toArray⟩ p).1 : Int) = false → wfold (l.take (p + (Utf8.decode ⟨l.toArray⟩ p).2)) = ((wfold (l.take p)).1, (wfold (l.take p)).2 ++ smallL ((l.drop p).take (Utf8.decode ⟨l.toArray⟩ p).2))) := by
  have hd := Lib.decode_at ⟨l.toArray⟩ p
  have hsz : (ByteArray.mk l.toArray).size = l.length := by simp [ByteArray.size]
  have hD := decN ((ByteArray.mk l.toArray).size - p) ((ByteArray.mk l.toArray).get! p).toNat ((ByteArray.mk l.toArray).get! (p + 1)).toNat ((ByteArray.mk l.toArray).get! (p + 2)).toNat ((ByteArray.mk l.toArray).get! (p + 3)).toNat (by omega)
  rw [← hd, hsz] at hD
  rw [get_of_list l p h] at hD
  have g1 : ∀ j, p + j < l.length → (ByteArray.mk l.toArray).get! (p + j) = (l.drop p).getD j 0 := fun j hj => by
    rw [get_of_list l (p + j) hj]; simp [List.getD, hj]
  generalize Utf8.decode ⟨l.toArray⟩ p = rk at *
  obtain ⟨r, k⟩ := rk
  simp only at hD ⊢
  obtain ⟨d1, d2, d3, d4, d5⟩ := hD
  have hstep : l.take (p + 1) = l.take p ++ [l[p]] := by rw [List.take_add_one]; simp [h]
  by_cases hb : (l[p]).toNat < 128
  · have e := d4 hb
    simp only [Prod.mk.injEq] at e
    obtain ⟨rfl, rfl⟩ := e
    refine ⟨d1, by omega, fun hg => ⟨rfl, ?_⟩, fun hg => ?_⟩
    · rw [gapU_int] at hg
      rw [hstep, wfold_snoc, wstep, if_pos hg]
    · rw [gapU_int] at hg
      rw [hstep, wfold_snoc, wstep, if_neg (by simp [hg])]
      congr 2
      rw [List.take_one]
      simp [h, smallL]
  · obtain ⟨e1, e2, e3, e4⟩ := d5 (by omega)
    refine ⟨d1, by omega, fun hg => ?_, fun _ => ?_⟩
    · rw [isGapI_big _ e1] at hg; cases hg
    · rw [List.take_add, wfold_run]
      intro c hc
      refine gapU_big c ?_
      obtain ⟨j, hj, rfl⟩ := List.mem_iff_getElem.1 hc
      simp only [List.length_take, List.length_drop] at hj
      have hjk : j < k := by omega
      have hgj : (List.take k (l.drop p))[j] = (l.drop p).getD j 0 := by
        simp only [List.getElem_take, List.getD]
        rw [List.getElem?_eq_getElem (by simp; omega)]
        rfl
      rw [hgj]
      match j with
      | 0 => simp [List.getD, h]; omega
      | 1 => rw [← g1 1 (by omega)]; exact e2 (by omega)
      | 2 => rw [← g1 2 (by omega)]; exact e3 (by omega)
      | 3 => rw [← g1 3 (by omega)]; exact e4 (by omega)
      | j + 4 => omega
end Go.Proofs.YthifeoebefbalaaGreatDoor
