/- Regions that draw their order: a plan with alternatives. -/
import Derived.Test.YtgchepijbpcckaaDoorReg
namespace Go

/-- take: yields its value in every world that meets S; alt: may come up next, and so may those of the rest; last: comes last. -/
inductive Plan (α : Type) where
  | done : Plan α
  | take (i : α) (p : Plan α) : Plan α
  | alt (i : α) (p rest : Plan α) : Plan α
  | none : Plan α
  | last (i : α) : Plan α

def Plan.map {α β : Type} (f : α → β) : Plan α → Plan β
  | .done => .done
  | .take i p => .take (f i) (p.map f)
  | .alt i p r => .alt (f i) (p.map f) (r.map f)
  | .none => .none
  | .last i => .last (f i)

def Plan.firsts : Plan Nat → List Nat
  | .alt i _ r => i :: r.firsts
  | _ => []

def Plan.ok (md : Region.Mode) (ops : Array Oper) : Plan Nat → Array Bool → Bool → Bool
  | .done, l, _ => Region.ready md ops l == []
  | .take i p, l, _ => Region.free md ops l i && (Region.ready md ops l).contains i && p.ok md ops (l.setIfInBounds i true) true
  | .alt i p r, l, new => (!new || Region.ready md ops l == i :: r.firsts) && (ops[i]?).isSome && p.ok md ops (l.setIfInBounds i true) true && r.ok md ops l false
  | .none, _, new => !new
  | .last i, l, new => new && Region.ready md ops l == [i] && Region.ends md ops i && Region.ready md ops (l.setIfInBounds i true) == []

section
variable {P : Program} {ops : Array Oper} {Q : Exit → Act → World → Prop} {md : Region.Mode} {S : World → Prop}

def wpPlan (P : Program) (ops : Array Oper) (Q : Exit → Act → World → Prop) (S : World → Prop) : Plan Oper → Act → World → Prop
  | .done, a, w => Q .normal a w
  | .take o p, a, w => ∃ v, YieldsIf P ops S o v a ∧ wpPlan P ops Q S p (a.put o.dst v) w
  | .alt o p r, a, w => Goes P ops Q o (fun a' w' => S w' ∧ wpPlan P ops Q S p a' w') a w ∧ wpPlan P ops Q S r a w
  | .none, _, _ => True
  | .last o, a, w => Goes P ops Q o (fun a' w' => Q .normal a' w') a w

def opOf (ops : Array Oper) (i : Nat) : Oper := (ops[i]?).getD default
theorem opOf_eq {i : Nat} {o : Oper} (h : ops[i]? = some o) : opOf ops i = o := by simp [opOf, h]

def Plan.depth {α : Type} : Plan α → Nat
  | .done => 0
  | .take _ p => p.depth + 1
  | .alt _ p r => max (p.depth + 1) r.depth
  | .none => 0
  | .last _ => 1

theorem wpPlan.both (hs : Region.noSelect ops = true) (hQ : ∀ c a d v w, Q (.panic c) (Act.put a d v) w → Q (.panic c) a w) (p : Plan Nat) :
    (∀ (l : Array Bool) (a : Act) (w : World) (m : Nat), Region.Closed md ops l → p.ok md ops l true = true → S w → wpPlan P ops Q S (p.map (opOf ops)) a w → p.depth ≤ m → wpTill P md ops Q S m l a w) ∧
    (∀ (l : Array Bool) (a : Act) (w : World) (m : Nat), Region.Closed md ops l → (∀ i ∈ p.firsts, i ∈ Region.ready md ops l) → p.ok md ops l false = true → wpPlan P ops Q S (p.map (opOf ops)) a w → p.depth ≤ m + 1 →
      ∀ i ∈ p.firsts, wpOp P ops Q i (fun a' w' => (Region.ends md ops i = false → S w') ∧ wpTill P md ops Q S m (l.setIfInBounds i true) a' w') a w) := by
  induction p with
  | done =>
    refine ⟨fun l a w m _ hr _ h _ => ?_, fun l a w m _ _ _ _ _ i hi => by simp [Plan.firsts] at hi⟩
    simp only [Plan.ok, beq_iff_eq] at hr
    exact wpTill.done hr h m
  | none => exact ⟨fun l a w m _ hr _ _ _ => by simp [Plan.ok] at hr, fun l a w m _ _ _ _ _ i hi => by simp [Plan.firsts] at hi⟩
  | last i =>
    refine ⟨fun l a w m _ hr hS h hd => ?_, fun l a w m _ _ _ _ _ i hi => by simp [Plan.firsts] at hi⟩
    simp only [Plan.ok, Bool.and_eq_true, beq_iff_eq, Bool.true_and] at hr
    obtain ⟨⟨h1, h2⟩, h4⟩ := hr
    obtain ⟨m, rfl⟩ : ∃ k, m = k + 1 := ⟨m - 1, by simp [Plan.depth] at hd; omega⟩
    obtain ⟨o, ho⟩ := ready_op (md := md) (ops := ops) (l := l) (i := i) (by rw [h1]; simp)
    simp only [Plan.map, wpPlan, opOf_eq ho] at h
    refine wpTill.ready h1 (by simp) fun j hj => ?_
    simp only [List.mem_cons, List.not_mem_nil, or_false] at hj
    subst hj
    exact wpOp_mono (fun a' w' h' => ⟨fun e => (by rw [h2] at e; cases e), wpTill.done h4 h' m⟩) (h.op ho)
  | take i p ih =>
    refine ⟨fun l a w m hc hr hS h hd => ?_, fun l a w m _ _ _ _ _ i hi => by simp [Plan.firsts] at hi⟩
    simp only [Plan.ok, Bool.and_eq_true] at hr
    obtain ⟨⟨h1, h2⟩, h3⟩ := hr
    obtain ⟨m, rfl⟩ : ∃ k, m = k + 1 := ⟨m - 1, by simp [Plan.depth] at hd; omega⟩
    obtain ⟨o, ho⟩ := ready_op (md := md) (ops := ops) (l := l) (i := i) (by simpa using h2)
    simp only [Plan.map, wpPlan, opOf_eq ho] at h
    obtain ⟨v, hy, h⟩ := h
    exact wpTill.take hc ho hs h1 h2 (fun c a w => hQ c a _ _ w) hy hS (ih.1 _ _ _ m (hc.next (by simpa using h2)) h3 hS h (by simp [Plan.depth] at hd; omega))
  | alt i p r ihp ihr =>
    have key : ∀ (l : Array Bool) (a : Act) (w : World) (m : Nat), Region.Closed md ops l → (∀ j ∈ i :: r.firsts, j ∈ Region.ready md ops l) → (ops[i]?).isSome = true → p.ok md ops (l.setIfInBounds i true) true = true → r.ok md ops l false = true → wpPlan P ops Q S ((Plan.alt i p r).map (opOf ops)) a w → (Plan.alt i p r).depth ≤ m + 1 →
        ∀ j ∈ i :: r.firsts, wpOp P ops Q j (fun a' w' => (Region.ends md ops j = false → S w') ∧ wpTill P md ops Q S m (l.setIfInBounds j true) a' w') a w := by
      intro l a w m hc hall h1 h2 h3 h hd j hj
      obtain ⟨o, ho⟩ := Option.isSome_iff_exists.1 h1
      simp only [Plan.map, wpPlan, opOf_eq ho] at h
      simp only [Plan.depth] at hd
      rcases List.mem_cons.1 hj with rfl | hj'
      · exact wpOp_mono (fun a' w' h' => ⟨fun _ => h'.1, ihp.1 _ _ _ m (hc.next (hall _ hj)) h2 h'.1 h'.2 (by omega)⟩) (h.1.op ho)
      · exact ihr.2 l a w m hc (fun k hk => hall k (List.mem_cons_of_mem _ hk)) h3 h.2 (by omega) j hj'
    refine ⟨fun l a w m hc hr hS h hd => ?_, fun l a w m hc hall hr h hd j hj => ?_⟩
    · simp only [Plan.ok, Bool.and_eq_true, Bool.not_true, Bool.false_or, beq_iff_eq] at hr
      obtain ⟨⟨⟨h0, h1⟩, h2⟩, h3⟩ := hr
      obtain ⟨m, rfl⟩ : ∃ k, m = k + 1 := ⟨m - 1, by simp [Plan.depth] at hd; omega⟩
      exact wpTill.ready h0 (by simp) (key l a w m hc (fun j hj => by rw [h0]; exact hj) h1 h2 h3 h hd)
    · simp only [Plan.ok, Bool.and_eq_true] at hr
      exact key l a w m hc hall hr.1.1.2 hr.1.2 hr.2 h hd j hj

/-- A region that draws its order, by a plan. -/
theorem wp_region_plan {id : Nat} {a : Act} {w : World} (S : World → Prop) (p : Plan Nat) (q : Plan Oper) (hq : p.map (opOf ops) = q) (hm : P.follows .mixedOrders = true)
    (hs : Region.noSelect ops = true) (hr : p.ok .any ops (Array.replicate ops.size false) true = true) (hz : p.depth ≤ ops.size) (hQ : ∀ c a d v w, Q (.panic c) (Act.put a d v) w → Q (.panic c) a w)
    (hS : S w.drew) (h : wpPlan P ops Q S q a w.drew) : (Code.region id ops true).wp P Q a w :=
  wpTill.start (S := S) hm hS fun hS => (wpPlan.both hs hQ p).1 _ a w.drew _ (Region.Closed.start _) hr hS (hq ▸ h) hz

theorem wpPlan.taken {o : Oper} {v : Value} {p : Plan Oper} {a : Act} {w : World} (hw : Region.wanted o (yielded ops a.tmps) = true) (hy : ∀ w, S w → (execOp a.eval o).run P w = .ok (.value v) w)
    (h : wpPlan P ops Q S p (a.put o.dst v) w) : wpPlan P ops Q S (.take o p) a w := ⟨v, .inl ⟨hw, hy⟩, h⟩
theorem wpPlan.passed {o : Oper} {p : Plan Oper} {a : Act} {w : World} (hw : Region.wanted o (yielded ops a.tmps) = false)
    (h : wpPlan P ops Q S p (a.put o.dst undef) w) : wpPlan P ops Q S (.take o p) a w := ⟨undef, .inr ⟨hw, rfl⟩, h⟩
theorem wpPlan.runs {o : Oper} {p : Plan Oper} {a : Act} {w : World}
    (h : ∀ K' : Act → World → Prop, Shut (∀ a w, S w → wpPlan P ops Q S p a w → K' a w) → if Region.wanted o (yielded ops a.tmps) = true then Oper.wp P o a w K' Q else K' (a.put o.dst undef) w) :
    wpPlan P ops Q S (.alt o p .none) a w := ⟨fun K' hK => h K' fun a w hs hr => hK a w ⟨hs, hr⟩, trivial⟩
theorem wpPlan.parts {o : Oper} {p r : Plan Oper} {a : Act} {w : World} (h1 : wpPlan P ops Q S (.alt o p .none) a w) (h2 : wpPlan P ops Q S r a w) : wpPlan P ops Q S (.alt o p r) a w := ⟨h1.1, h2⟩
theorem wpPlan.ends {o : Oper} {a : Act} {w : World}
    (h : ∀ K' : Act → World → Prop, Shut (∀ a w, Q .normal a w → K' a w) → if Region.wanted o (yielded ops a.tmps) = true then Oper.wp P o a w K' Q else K' (a.put o.dst undef) w) :
    wpPlan P ops Q S (.last o) a w := fun K' hK => h K' fun a w hr => hK a w hr
theorem wpPlan.done {a : Act} {w : World} (h : Q .normal a w) : wpPlan P ops Q S .done a w := h
end
end Go
