/- A region that draws its order, in a function that calls yield: at the wide fence. Of no program. -/
import Derived.Test.YtgchepijbpcckaaDoorPlan
import Derived.OrdersIn
import Derived.OrdersHeld
namespace Go

section
variable {n : Nat} {P : Program} {ops : Array Oper} {Q : Exit → Act → World → Prop} {md : Region.Mode} {S : World → Prop}

theorem YieldsIf.wpOpIn {i : Nat} {o : Oper} {v : Value} {a : Act} (hi : ops[i]? = some o) (hy : YieldsIf P ops S o v a)
    {K : Act → World → Prop} {w : World} (hS : S w) (h : K (a.put o.dst v) w) : wpOpIn Fence.wide n P ops Q i K a w := by
  unfold Go.wpOpIn
  simp only [hi]
  have hab : ∀ f, o.about P w a.eval = some f → Fence.wide.fn f := fun f _ => trivial
  rcases hy with ⟨hw, hv⟩ | ⟨hw, rfl⟩
  · simp only [hw, if_true, Oper.wpIn, show Fence.wide.round = none from rfl, Oper.semAt_none, hv w hS, Oper.uponIn]; exact ⟨hab, h⟩
  · simp only [hw, Bool.false_eq_true, if_false]; exact ⟨hab, h⟩

theorem wpOpIn_putIf {j : Nat} {oi oj : Oper} {v : Value} (hj : ops[j]? = some oj) (hap : oi.apart ops oj = true)
    (hsi : ∀ cs b, oi.op ≠ .select cs b) (hsj : ∀ cs b, oj.op ≠ .select cs b)
    (hQ : ∀ c a w, Q (.panic c) (a.put oi.dst v) w → Q (.panic c) a w) {K : Act → World → Prop} {a : Act} {w : World}
    (hy : YieldsIf P ops S oi v a) (h : wpOpIn Fence.wide n P ops Q j K (a.put oi.dst v) w) :
    wpOpIn Fence.wide n P ops Q j (fun a' w' => YieldsIf P ops S oi v a' ∧ K (a'.put oi.dst v) w') a w := by
  obtain ⟨h1, h2, h3⟩ := Oper.apart_spec hap
  have keep : ∀ (a : Act), YieldsIf P ops S oi v a → ∀ u, YieldsIf P ops S oi v (a.put oj.dst u) := fun a hy u =>
    hy.of_same (execOp_put oi hsi a oj.dst u h3) (wanted_put oi a oj.dst u h3)
  have keepD : ∀ d, YieldsIf P ops S oi v { a with defers := d :: a.defers } := fun d => hy.of_same rfl rfl
  unfold wpOpIn at *
  simp only [hj] at *
  rw [wanted_put oj a oi.dst v h1] at h
  split
  · rename_i hw
    simp only [hw, if_true] at h
    unfold Oper.wpIn at *
    refine ⟨fun f _ => trivial, ?_⟩
    have h := h.2
    have hro : Fence.wide.round = none := rfl
    rw [hro, Oper.semAt_none, execOp_put oj hsj a oi.dst v h1] at h
    rw [hro, Oper.semAt_none]
    generalize (execOp a.eval oj).run P w = r at *
    cases r with
    | ok x w' =>
      cases x <;> simp only [Oper.uponIn] at h ⊢
      case value u => exact ⟨keep a hy u, by rw [← Act.put_comm a v u h2]; exact h⟩
      case skip => exact ⟨keep a hy _, by rw [← Act.put_comm a v undef h2]; exact h⟩
      case defer d =>
        refine ⟨keep _ (keepD d) _, ?_⟩
        rw [← Act.put_comm _ v undef h2, ← Act.put_defers]
        exact h
      case enter f args =>
        refine ⟨h.1, CallsIn.mono h.2 fun e w'' he => ?_⟩
        cases e with
        | returned u => exact ⟨keep a hy u, by rw [← Act.put_comm a v u h2]; exact he⟩
        | panicked c => exact hQ _ _ _ he
        | outgrown => exact he
      case row row args => exact ⟨h.1, RowsIn.mono h.2 fun u w'' he => ⟨keep a hy u, by rw [← Act.put_comm a v u h2]; exact he⟩⟩
      case round l f tmps assign body =>
        refine ⟨h.1, RoundIn.mono h.2 fun e w'' he => ?_⟩
        cases e with
        | returned u => exact ⟨keep a hy u, by rw [← Act.put_comm a v u h2]; exact he⟩
        | panicked c => exact hQ _ _ _ he
        | outgrown => exact he
    | halt x w' =>
      cases x <;> simp only [Oper.uponIn] at h ⊢
      case panic u => exact hQ _ _ _ h
  · rename_i hw
    simp only [hw] at h
    exact ⟨fun f _ => trivial, keep a hy _, by rw [← Act.put_comm a v undef h2]; exact h.2⟩

/-- Operation number i is told apart in time from all the others: it waits for them, or they wait for it. -/
def Region.lone (md : Region.Mode) (ops : Array Oper) (i : Nat) : Bool := (List.range ops.size).all fun k => k == i || Region.waits md ops 12 i k || Region.waits md ops 12 k i

theorem lone_ready {l : Array Bool} {i j : Nat} (hc : Region.Closed md ops l) (hr : i ∈ Region.ready md ops l) (hj : j ∈ Region.ready md ops l) (hne : j ≠ i) : Region.lone md ops j = false := by
  obtain ⟨hjl, oj, hoj, hall⟩ := mem_ready.1 hj
  obtain ⟨hil, oi, hoi, halli⟩ := mem_ready.1 hr
  by_cases he : Region.lone md ops j = true
  · exfalso
    simp only [Region.lone, List.all_eq_true, List.mem_range] at he
    have hlt : i < ops.size := (Array.getElem?_eq_some_iff.1 hoi).1
    have h1 := he i hlt
    simp only [Bool.or_eq_true, beq_iff_eq, Ne.symm hne, false_or] at h1
    have bad : ∀ k, l.getD k true = false → l.getD k false = true → False := fun k h0 h2 => by
      by_cases hz : k < l.size
      · simp [hz] at h0 h2
        rw [h0] at h2
        cases h2
      · simp [hz] at h2
    rcases h1 with h1 | h1
    · exact bad i hil (Region.waits_listed hc 12 j i oj hoj hall h1)
    · exact bad j hjl (Region.waits_listed hc 12 i j oi hoi halli h1)
  · simpa using he

/-- Whatever order is picked from here on; S holds behind each operation but those that are told apart in time from all. -/
def wpHeldIn (n : Nat) (P : Program) (md : Region.Mode) (ops : Array Oper) (Q : Exit → Act → World → Prop) (S : World → Prop) : Nat → Array Bool → Act → World → Prop
  | 0, listed, a, w => Region.ready md ops listed = [] ∧ Q .normal a w
  | fuel + 1, listed, a, w =>
    (Region.ready md ops listed = [] → Q .normal a w) ∧
    ∀ i ∈ Region.ready md ops listed, wpOpIn Fence.wide n P ops Q i (fun a' w' => (Region.lone md ops i = false → S w') ∧ wpHeldIn n P md ops Q S fuel (listed.setIfInBounds i true) a' w') a w

theorem wpHeldIn.any : ∀ (fuel : Nat) (listed : Array Bool) (a : Act) (w : World), wpHeldIn n P md ops Q S fuel listed a w → wpAnyIn Fence.wide n P md ops Q fuel listed a w
  | 0, _, _, _, h => h
  | fuel + 1, _, _, _, h => ⟨h.1, fun i hi => wpOpIn_mono (fun a' w' h' => wpHeldIn.any fuel _ a' w' h'.2) (h.2 i hi)⟩

theorem wpHeldIn.first {i : Nat} {oi : Oper} {v : Value} (hi : ops[i]? = some oi) (hsel : ∀ (j : Nat) (o : Oper) cs b, ops[j]? = some o → o.op ≠ .select cs b)
    (hQ : ∀ c a w, Q (.panic c) (a.put oi.dst v) w → Q (.panic c) a w) :
    ∀ (fuel : Nat) (listed : Array Bool) (a : Act) (w : World), Region.Closed md ops listed →
      (∀ j oj, ops[j]? = some oj → j ≠ i → listed.getD j true = false → (∀ e ∈ oj.after, Region.binds md e = true → e.on ≠ i) → oi.apart ops oj = true) →
      i ∈ Region.ready md ops listed → YieldsIf P ops S oi v a → S w →
      wpHeldIn n P md ops Q S fuel (listed.setIfInBounds i true) (a.put oi.dst v) w → wpHeldIn n P md ops Q S (fuel + 1) listed a w := by
  intro fuel
  induction fuel with
  | zero =>
    intro listed a w _ _ hr hy hS H
    refine ⟨fun h => (by rw [h] at hr; cases hr), fun j hj => ?_⟩
    by_cases hji : j = i
    · subst hji; exact hy.wpOpIn hi hS ⟨fun _ => hS, H⟩
    · have := ready_mono hj hji
      rw [H.1] at this
      cases this
  | succ fuel ih =>
    intro listed a w hc hfree hr hy hS H
    refine ⟨fun h => (by rw [h] at hr; cases hr), fun j hj => ?_⟩
    by_cases hji : j = i
    · subst hji; exact hy.wpOpIn hi hS ⟨fun _ => hS, H⟩
    · have h1 := H.2 j (ready_mono hj hji)
      obtain ⟨hjun, oj, hoj, hall⟩ := mem_ready.1 hj
      have h2 := wpOpIn_putIf hoj (hfree j oj hoj hji hjun (not_listed hr hall)) (fun cs b => hsel i oi cs b hi) (fun cs b => hsel j oj cs b hoj) hQ hy h1
      have hfree' : ∀ k ok, ops[k]? = some ok → k ≠ i → (listed.setIfInBounds j true).getD k true = false →
          (∀ e ∈ ok.after, Region.binds md e = true → e.on ≠ i) → oi.apart ops ok = true := fun k ok hk hki hun hno => by
        refine hfree k ok hk hki ?_ hno
        by_cases hjk : j = k
        · subst hjk; exact hjun
        · rw [getD_set_ne true hjk] at hun; exact hun
      refine wpOpIn_mono (fun a' w' h3 => ?_) h2
      have hS' := h3.2.1 (lone_ready hc hr hj hji)
      refine ⟨h3.2.1, ih (listed.setIfInBounds j true) a' w' (hc.next hj) hfree' (ready_mono hr (Ne.symm hji)) h3.1 hS' ?_⟩
      rw [Array.setIfInBounds_comm _ _ hji]
      exact h3.2.2

def GoesIn (n : Nat) (P : Program) (ops : Array Oper) (Q : Exit → Act → World → Prop) (o : Oper) (K : Act → World → Prop) (a : Act) (w : World) : Prop :=
  if Region.wanted o (yielded ops a.tmps) = true then o.wpIn Fence.wide n P a w K Q else K (a.put o.dst undef) w
theorem GoesIn.op {o : Oper} {K : Act → World → Prop} {a : Act} {w : World} {i : Nat} (ho : ops[i]? = some o) (h : GoesIn n P ops Q o K a w) : wpOpIn Fence.wide n P ops Q i K a w := by
  unfold wpOpIn
  unfold GoesIn at h
  simp only [ho]
  split
  · rename_i hw; rw [if_pos hw] at h; exact h
  · rename_i hw; rw [if_neg hw] at h; exact ⟨fun f _ => trivial, h⟩

/-- The operations in an order that was chosen ahead: kind 0 yields its value in every world that meets S; kind 1 runs, and is told apart in time from all others. -/
def wpRowIn (n : Nat) (P : Program) (ops : Array Oper) (Q : Exit → Act → World → Prop) (S : World → Prop) : List (Nat × Oper) → Act → World → Prop
  | [], a, w => Q .normal a w
  | (0, o) :: r, a, w => ∃ v, YieldsIf P ops S o v a ∧ wpRowIn n P ops Q S r (a.put o.dst v) w
  | (_, o) :: r, a, w => GoesIn n P ops Q o (fun a' w' => wpRowIn n P ops Q S r a' w') a w

/-- First those of kind 0, then those of kind 1. -/
def rowKinds : List (Nat × Nat) → Bool
  | [] => true
  | (0, _) :: r => rowKinds r
  | (k + 1, _) :: r => k == 0 && r.all fun p => p.1 == 1

theorem rowKinds.ones : ∀ {r : List (Nat × Nat)}, (r.all fun p => p.1 == 1) = true → rowKinds r = true
  | [], _ => rfl
  | (0, _) :: _, h => by simp at h
  | (k + 1, _) :: r, h => by
    simp only [List.all_cons, Bool.and_eq_true] at h
    simp only [rowKinds, Bool.and_eq_true]
    exact ⟨by simpa using h.1, h.2⟩

theorem wpRowIn.sound (hs : Region.noSelect ops = true) (hQ : ∀ c a d v w, Q (.panic c) (Act.put a d v) w → Q (.panic c) a w) :
    ∀ (row : List (Nat × Nat)) (m : Nat) (l : Array Bool) (a : Act) (w : World), Region.Closed md ops l → row.length ≤ m → rowKinds row = true → (row.all fun p => p.1 == 0 || Region.lone md ops p.2) = true → Region.rowOk md ops row l = true → (S w ∨ (row.all fun p => p.1 == 1) = true) → wpRowIn n P ops Q S (Region.items ops row) a w → wpHeldIn n P md ops Q S m l a w := by
  intro row
  induction row with
  | nil =>
    intro m l a w _ _ _ _ hr _ h
    simp only [Region.rowOk, beq_iff_eq] at hr
    cases m with
    | zero => exact ⟨hr, h⟩
    | succ m => exact ⟨fun _ => h, by rw [hr]; simp⟩
  | cons p r ih =>
    intro m l a w hc hn hk hlo hr hS h
    obtain ⟨k, i⟩ := p
    obtain ⟨m, rfl⟩ : ∃ k, m = k + 1 := ⟨m - 1, by simp at hn; omega⟩
    have hn' : r.length ≤ m := by simpa using hn
    simp only [List.all_cons, Bool.and_eq_true] at hlo
    match k, hk with
    | 0, hk =>
      simp only [Region.rowOk, Bool.and_eq_true] at hr
      obtain ⟨⟨h1, h2⟩, h3⟩ := hr
      obtain ⟨o, ho⟩ := ready_op (md := md) (ops := ops) (l := l) (i := i) (by simpa using h2)
      simp only [Region.items, List.filterMap_cons, ho, Option.map_some, wpRowIn] at h
      obtain ⟨v, hy, h⟩ := h
      have hS' : S w := hS.resolve_right (by simp)
      exact wpHeldIn.first ho (Region.noSelect_spec hs) (fun c a w => hQ c a _ _ w) m l a w hc (Region.free_spec ho h1) (by simpa using h2) hy hS' (ih m _ _ _ (hc.next (by simpa using h2)) hn' hk hlo.2 h3 (.inl hS') h)
    | 1, hk =>
      simp only [rowKinds, Bool.and_eq_true] at hk
      simp only [Region.rowOk, Bool.and_eq_true, beq_iff_eq] at hr
      obtain ⟨h1, h3⟩ := hr
      obtain ⟨o, ho⟩ := ready_op (md := md) (ops := ops) (l := l) (i := i) (by rw [h1]; simp)
      simp only [Region.items, List.filterMap_cons, ho, Option.map_some, wpRowIn] at h
      have hlone : Region.lone md ops i = true := by simpa using hlo.1
      have hk2 := hk.2
      refine ⟨fun h0 => absurd (h1 ▸ h0) (by simp), fun j hj => ?_⟩
      rw [h1] at hj
      simp only [List.mem_cons, List.not_mem_nil, or_false] at hj
      subst hj
      exact wpOpIn_mono (fun a' w' h' => ⟨fun e => (by rw [hlone] at e; cases e), ih m _ _ _ (hc.next (by rw [h1]; simp)) hn' (rowKinds.ones hk2) hlo.2 h3 (.inr hk2) h'⟩) (h.op ho)
    | k + 2, hk => simp [rowKinds] at hk

/-- A region that draws its order, in an order that was chosen ahead. -/
theorem wpIn_region_row {id : Nat} {a : Act} {w : World} (S : World → Prop) (row : List (Nat × Nat)) (l : List (Nat × Oper)) (hl : Region.items ops row = l) (hm : P.follows .mixedOrders = true)
    (hs : Region.noSelect ops = true) (hr : Region.rowOk .any ops row (Array.replicate ops.size false) = true) (hz : row.length ≤ ops.size) (hk : (rowKinds row && (row.all fun p => p.1 == 0 || Region.lone .any ops p.2)) = true) (hQ : ∀ c a d v w, Q (.panic c) (Act.put a d v) w → Q (.panic c) a w)
    (hS : S w.drew) (h : wpRowIn n P ops Q S l a w.drew) : (Code.region id ops true).wpIn Fence.wide n P Q a w := by
  rw [Bool.and_eq_true] at hk
  exact wpIn_region_any hm (wpHeldIn.any _ _ _ _ (wpRowIn.sound hs hQ row ops.size _ a w.drew (Region.Closed.start _) hz hk.1 hk.2 hr (.inl hS) (hl ▸ h)))

theorem wpRowIn.take {o : Oper} {v : Value} {r : List (Nat × Oper)} {a : Act} {w : World} (hw : Region.wanted o (yielded ops a.tmps) = true) (hy : ∀ w, S w → (execOp a.eval o).run P w = .ok (.value v) w)
    (h : wpRowIn n P ops Q S r (a.put o.dst v) w) : wpRowIn n P ops Q S ((0, o) :: r) a w := ⟨v, .inl ⟨hw, hy⟩, h⟩
/-- The call of yield. -/
theorem wpRowIn.yield {o : Oper} {r : List (Nat × Oper)} {a : Act} {w : World} (hw : Region.wanted o (yielded ops a.tmps) = true) {l : Nat} {fn : FuncId} {tmps : Array Value} {assign body : Code}
    (he : (execOp a.eval o).run P w = .ok (.round l fn tmps assign body) w) {R : Ending → World → Prop} (hR : RoundIn Fence.wide (n - 1) P l fn tmps assign body w R)
    (hK : ∀ e w', R e w' → ∃ v, e = .returned v ∧ wpRowIn n P ops Q S r (a.put o.dst v) w') : wpRowIn n P ops Q S ((1, o) :: r) a w := by
  show GoesIn n P ops Q o _ a w
  unfold GoesIn
  rw [if_pos hw]
  refine ⟨fun f _ => trivial, ?_⟩
  rw [show Fence.wide.round = none from rfl, Oper.semAt_none, he]
  refine ⟨fun h => (by cases h), hR.mono fun e w' hr => ?_⟩
  obtain ⟨v, rfl, h2⟩ := hK e w' hr
  exact h2
theorem wpRowIn.go {o : Oper} {v : Value} {r : List (Nat × Oper)} {a : Act} {w : World} (hw : Region.wanted o (yielded ops a.tmps) = true) (hy : (execOp a.eval o).run P w = .ok (.value v) w)
    (h : wpRowIn n P ops Q S r (a.put o.dst v) w) : wpRowIn n P ops Q S ((1, o) :: r) a w := by
  show GoesIn n P ops Q o _ a w
  unfold GoesIn
  rw [if_pos hw]
  refine ⟨fun f _ => trivial, ?_⟩
  rw [show Fence.wide.round = none from rfl, Oper.semAt_none, hy]
  exact h
theorem wpRowIn.done {a : Act} {w : World} (h : Q .normal a w) : wpRowIn n P ops Q S [] a w := h
end
end Go
