/- Regions that draw their order: one condition S on the world, which need hold only while an operation is still to come. -/
import Derived.Test.YtgchepijbpcckaaDoorGm
import Derived.Deep.RegionHeld3
namespace Go

section
variable {P : Program} {ops : Array Oper} {Q : Exit → Act → World → Prop} {md : Region.Mode} {S : World → Prop}

/-- Operation number i waits for number k, in f steps at most. -/
def Region.waits (md : Region.Mode) (ops : Array Oper) : Nat → Nat → Nat → Bool
  | 0, _, _ => false
  | f + 1, i, k => match ops[i]? with
    | none => false
    | some o => o.after.any fun e => Region.binds md e && (e.on == k || Region.waits md ops f e.on k)
/-- Operation number i waits for all the others: it comes last. -/
def Region.ends (md : Region.Mode) (ops : Array Oper) (i : Nat) : Bool := (List.range ops.size).all fun k => k == i || Region.waits md ops 2 i k

/-- What was listed had waited for nothing that is not listed. -/
def Region.Closed (md : Region.Mode) (ops : Array Oper) (l : Array Bool) : Prop := ∀ j o, ops[j]? = some o → l.getD j false = true → ∀ e ∈ o.after, Region.binds md e = true → l.getD e.on false = true
theorem Region.Closed.start (n : Nat) : Region.Closed md ops (Array.replicate n false) := fun j o _ h => by
  simp [Array.getElem?_replicate] at h
  split at h <;> simp at h
theorem Region.Closed.next {l : Array Bool} {i : Nat} (h : Region.Closed md ops l) (hi : i ∈ Region.ready md ops l) : Region.Closed md ops (l.setIfInBounds i true) := fun j o ho hj e he hb => by
  refine getD_set_true ?_
  by_cases hij : i = j
  · subst hij
    obtain ⟨_, o', ho', hall⟩ := mem_ready.1 hi
    rw [ho] at ho'
    cases ho'
    exact hall e he hb
  · exact h j o ho (by rw [getD_set_ne false hij] at hj; exact hj) e he hb
theorem Region.waits_listed {l : Array Bool} (h : Region.Closed md ops l) : ∀ (f i k : Nat) (o : Oper), ops[i]? = some o → (∀ e ∈ o.after, Region.binds md e = true → l.getD e.on false = true) → Region.waits md ops f i k = true → l.getD k false = true := by
  intro f
  induction f with
  | zero => intro i k o _ _ hw; simp [Region.waits] at hw
  | succ f ih =>
    intro i k o ho hall hw
    simp only [Region.waits, ho] at hw
    obtain ⟨e, hm, hb⟩ := Array.any_eq_true'.1 hw
    simp only [Bool.and_eq_true, Bool.or_eq_true, beq_iff_eq] at hb
    rcases hb.2 with h1 | h1
    · rw [← h1]; exact hall e hm hb.1
    · cases hoe : ops[e.on]? with
      | none =>
        cases f with
        | zero => simp [Region.waits] at h1
        | succ f => simp [Region.waits, hoe] at h1
      | some oe => exact ih e.on k oe hoe (h e.on oe hoe (hall e hm hb.1)) h1

/-- Whatever order is picked; S holds behind each operation but one that comes last. -/
def wpTill (P : Program) (md : Region.Mode) (ops : Array Oper) (Q : Exit → Act → World → Prop) (S : World → Prop) : Nat → Array Bool → Act → World → Prop
  | 0, l, a, w => Region.ready md ops l = [] ∧ Q .normal a w
  | n + 1, l, a, w =>
    (Region.ready md ops l = [] → Q .normal a w) ∧
    ∀ i ∈ Region.ready md ops l, wpOp P ops Q i (fun a' w' => (Region.ends md ops i = false → S w') ∧ wpTill P md ops Q S n (l.setIfInBounds i true) a' w') a w

theorem wpTill.any : ∀ (n : Nat) (l : Array Bool) (a : Act) (w : World), wpTill P md ops Q S n l a w → wpAny P md ops Q n l a w
  | 0, _, _, _, h => h
  | n + 1, _, _, _, h => ⟨h.1, fun i hi => wpOp_mono (fun a' w' h' => wpTill.any n _ a' w' h'.2) (h.2 i hi)⟩

theorem not_listed {l : Array Bool} {i : Nat} (hr : i ∈ Region.ready md ops l) {oj : Oper} (hall : ∀ e ∈ oj.after, Region.binds md e = true → l.getD e.on false = true) :
    ∀ e ∈ oj.after, Region.binds md e = true → e.on ≠ i := by
  intro e he hb heq
  have h1 := hall e he hb
  have h0 := (mem_ready.1 hr).1
  subst heq
  by_cases hz : e.on < l.size
  · simp [hz] at h0 h1
    rw [h0] at h1
    cases h1
  · simp [hz] at h1

/-- Where two may come up, neither comes last. -/
theorem no_end {l : Array Bool} {i j : Nat} (hc : Region.Closed md ops l) (hr : i ∈ Region.ready md ops l) (hj : j ∈ Region.ready md ops l) (hne : j ≠ i) : Region.ends md ops j = false := by
  obtain ⟨_, oj, hoj, hall⟩ := mem_ready.1 hj
  by_cases he : Region.ends md ops j = true
  · exfalso
    simp only [Region.ends, List.all_eq_true, List.mem_range] at he
    have hlt : i < ops.size := by
      obtain ⟨_, o, ho, _⟩ := mem_ready.1 hr
      exact (Array.getElem?_eq_some_iff.1 ho).1
    have h1 := he i hlt
    simp only [Bool.or_eq_true, beq_iff_eq, Ne.symm hne, false_or] at h1
    have h2 := Region.waits_listed hc 2 j i oj hoj hall h1
    have h0 := (mem_ready.1 hr).1
    by_cases hz : i < l.size
    · simp [hz] at h0 h2
      rw [h0] at h2
      cases h2
    · simp [hz] at h2
  · simpa using he

theorem wpTill.first {i : Nat} {oi : Oper} {v : Value} (hi : ops[i]? = some oi) (hsel : ∀ (j : Nat) (o : Oper) cs b, ops[j]? = some o → o.op ≠ .select cs b)
    (hQ : ∀ c a w, Q (.panic c) (a.put oi.dst v) w → Q (.panic c) a w) (n : Nat) :
    ∀ (l : Array Bool) (a : Act) (w : World), Region.Closed md ops l →
      (∀ j oj, ops[j]? = some oj → j ≠ i → l.getD j true = false → (∀ e ∈ oj.after, Region.binds md e = true → e.on ≠ i) → oi.apart ops oj = true) →
      i ∈ Region.ready md ops l → YieldsIf P ops S oi v a → S w →
      wpTill P md ops Q S n (l.setIfInBounds i true) (a.put oi.dst v) w → wpTill P md ops Q S (n + 1) l a w := by
  induction n with
  | zero =>
    intro l a w _ _ hr hy hS H
    refine ⟨fun h => (by rw [h] at hr; cases hr), fun j hj => ?_⟩
    by_cases hji : j = i
    · subst hji
      exact hy.wpOp hi hS ⟨fun _ => hS, H⟩
    · have h1 := ready_mono hj hji
      rw [H.1] at h1
      cases h1
  | succ n ih =>
    intro l a w hc hfree hr hy hS H
    refine ⟨fun h => (by rw [h] at hr; cases hr), fun j hj => ?_⟩
    by_cases hji : j = i
    · subst hji
      exact hy.wpOp hi hS ⟨fun _ => hS, H⟩
    · obtain ⟨hjl, oj, hoj, hall⟩ := mem_ready.1 hj
      have h2 := wpOp_putIf hoj (hfree j oj hoj hji hjl (not_listed hr hall)) (fun cs b => hsel i oi cs b hi) (fun cs b => hsel j oj cs b hoj) hQ hy (H.2 j (ready_mono hj hji))
      refine wpOp_mono (fun a' w' h3 => ?_) h2
      obtain ⟨hy', hS', hW'⟩ := h3
      rw [Array.setIfInBounds_comm _ _ (Ne.symm hji)] at hW'
      refine ⟨hS', ih (l.setIfInBounds j true) a' w' (hc.next hj) (fun k ok hk hki hun hno => hfree k ok hk hki ?_ hno) (ready_mono hr (Ne.symm hji)) hy' (hS' (no_end hc hr hj hji)) hW'⟩
      by_cases hjk : j = k
      · subst hjk
        exact hjl
      · rw [getD_set_ne true hjk] at hun
        exact hun

theorem wpTill.take {i : Nat} {oi : Oper} {v : Value} {n : Nat} {l : Array Bool} {a : Act} {w : World} (hc : Region.Closed md ops l) (hi : ops[i]? = some oi)
    (hs : Region.noSelect ops = true) (hf : Region.free md ops l i = true) (hr : (Region.ready md ops l).contains i = true)
    (hQ : ∀ c a w, Q (.panic c) (a.put oi.dst v) w → Q (.panic c) a w) (hy : YieldsIf P ops S oi v a) (hS : S w)
    (h : wpTill P md ops Q S n (l.setIfInBounds i true) (a.put oi.dst v) w) : wpTill P md ops Q S (n + 1) l a w :=
  wpTill.first hi (Region.noSelect_spec hs) hQ n l a w hc (Region.free_spec hi hf) (by simpa using hr) hy hS h

theorem wpTill.done {l : Array Bool} {a : Act} {w : World} (hr : Region.ready md ops l = []) (h : Q .normal a w) : ∀ n, wpTill P md ops Q S n l a w
  | 0 => ⟨hr, h⟩
  | _ + 1 => ⟨fun _ => h, by rw [hr]; simp⟩

theorem wpTill.ready {rs : List Nat} {n : Nat} {l : Array Bool} {a : Act} {w : World} (hr : Region.ready md ops l = rs) (hne : rs ≠ [])
    (h : ∀ i ∈ rs, wpOp P ops Q i (fun a' w' => (Region.ends md ops i = false → S w') ∧ wpTill P md ops Q S n (l.setIfInBounds i true) a' w') a w) : wpTill P md ops Q S (n + 1) l a w := ⟨fun h0 => absurd (hr ▸ h0) hne, hr ▸ h⟩

/-- One operation, handed over behind a '∀ K''. -/
def Goes (P : Program) (ops : Array Oper) (Q : Exit → Act → World → Prop) (o : Oper) (K : Act → World → Prop) (a : Act) (w : World) : Prop :=
  ∀ K' : Act → World → Prop, Shut (∀ a w, K a w → K' a w) → if Region.wanted o (yielded ops a.tmps) = true then Oper.wp P o a w K' Q else K' (a.put o.dst undef) w

theorem Goes.op {o : Oper} {K : Act → World → Prop} {a : Act} {w : World} {i : Nat} (ho : ops[i]? = some o) (h : Goes P ops Q o K a w) : wpOp P ops Q i K a w :=
  wpOp_step ho fun K' hK => h K' hK

/-- The operations one by one in an order that was chosen ahead: kind 0 yields its value in every world that meets S; kind 1 runs, and S is shown behind it; kind 2 runs, and comes last. -/
def wpRow (P : Program) (ops : Array Oper) (Q : Exit → Act → World → Prop) (S : World → Prop) : List (Nat × Oper) → Act → World → Prop
  | [], a, w => Q .normal a w
  | (0, o) :: r, a, w => ∃ v, YieldsIf P ops S o v a ∧ wpRow P ops Q S r (a.put o.dst v) w
  | (1, o) :: r, a, w => Goes P ops Q o (fun a' w' => S w' ∧ wpRow P ops Q S r a' w') a w
  | (_, o) :: r, a, w => Goes P ops Q o (fun a' w' => wpRow P ops Q S r a' w') a w

/-- Does the order do? -/
def Region.rowOk (md : Region.Mode) (ops : Array Oper) : List (Nat × Nat) → Array Bool → Bool
  | [], l => Region.ready md ops l == []
  | (0, i) :: r, l => Region.free md ops l i && (Region.ready md ops l).contains i && Region.rowOk md ops r (l.setIfInBounds i true)
  | (1, i) :: r, l => Region.ready md ops l == [i] && Region.rowOk md ops r (l.setIfInBounds i true)
  | (_, i) :: r, l => Region.ready md ops l == [i] && Region.ends md ops i && r == [] && Region.ready md ops (l.setIfInBounds i true) == []

def Region.items (ops : Array Oper) (row : List (Nat × Nat)) : List (Nat × Oper) := row.filterMap fun p => (ops[p.2]?).map fun o => (p.1, o)

theorem ready_op {l : Array Bool} {i : Nat} (h : i ∈ Region.ready md ops l) : ∃ o, ops[i]? = some o := by
  obtain ⟨_, o, ho, _⟩ := mem_ready.1 h
  exact ⟨o, ho⟩

theorem wpRow.sound (hs : Region.noSelect ops = true) (hQ : ∀ c a d v w, Q (.panic c) (Act.put a d v) w → Q (.panic c) a w) :
    ∀ (row : List (Nat × Nat)) (n : Nat) (l : Array Bool) (a : Act) (w : World), Region.Closed md ops l → row.length ≤ n → Region.rowOk md ops row l = true → S w → wpRow P ops Q S (Region.items ops row) a w → wpTill P md ops Q S n l a w := by
  intro row
  induction row with
  | nil =>
    intro n l a w _ _ hr _ h
    simp only [Region.rowOk, beq_iff_eq] at hr
    exact wpTill.done hr h n
  | cons p r ih =>
    intro n l a w hc hn hr hS h
    obtain ⟨k, i⟩ := p
    obtain ⟨n, rfl⟩ : ∃ m, n = m + 1 := ⟨n - 1, by simp at hn; omega⟩
    have hn' : r.length ≤ n := by simpa using hn
    match k with
    | 0 =>
      simp only [Region.rowOk, Bool.and_eq_true] at hr
      obtain ⟨⟨h1, h2⟩, h3⟩ := hr
      obtain ⟨o, ho⟩ := ready_op (md := md) (ops := ops) (l := l) (i := i) (by simpa using h2)
      simp only [Region.items, List.filterMap_cons, ho, Option.map_some, wpRow] at h
      obtain ⟨v, hy, h⟩ := h
      exact wpTill.take hc ho hs h1 h2 (fun c a w => hQ c a _ _ w) hy hS (ih n _ _ _ (hc.next (by simpa using h2)) hn' h3 hS h)
    | 1 =>
      simp only [Region.rowOk, Bool.and_eq_true, beq_iff_eq] at hr
      obtain ⟨h1, h3⟩ := hr
      obtain ⟨o, ho⟩ := ready_op (md := md) (ops := ops) (l := l) (i := i) (by rw [h1]; simp)
      simp only [Region.items, List.filterMap_cons, ho, Option.map_some, wpRow] at h
      refine wpTill.ready h1 (by simp) fun j hj => ?_
      simp only [List.mem_cons, List.not_mem_nil, or_false] at hj
      subst hj
      exact wpOp_mono (fun a' w' h' => ⟨fun _ => h'.1, ih n _ _ _ (hc.next (by rw [h1]; simp)) hn' h3 h'.1 h'.2⟩) (h.op ho)
    | k + 2 =>
      simp only [Region.rowOk, Bool.and_eq_true, beq_iff_eq] at hr
      obtain ⟨⟨⟨h1, h2⟩, h3⟩, h4⟩ := hr
      obtain ⟨o, ho⟩ := ready_op (md := md) (ops := ops) (l := l) (i := i) (by rw [h1]; simp)
      subst h3
      simp only [Region.items, List.filterMap_cons, List.filterMap_nil, ho, Option.map_some, wpRow] at h
      refine wpTill.ready h1 (by simp) fun j hj => ?_
      simp only [List.mem_cons, List.not_mem_nil, or_false] at hj
      subst hj
      exact wpOp_mono (fun a' w' h' => ⟨fun e => (by rw [h2] at e; cases e), wpTill.done h4 h' n⟩) (h.op ho)

theorem wpTill.start {id : Nat} {a : Act} {w : World} (hm : P.follows .mixedOrders = true) (hS : S w.drew)
    (h : S w.drew → wpTill P .any ops Q S ops.size (Array.replicate ops.size false) a w.drew) : (Code.region id ops true).wp P Q a w :=
  wp_region_any hm (wpTill.any _ _ _ _ (h hS))

/-- A region that draws its order, in an order that was chosen ahead. -/
theorem wp_region_row {id : Nat} {a : Act} {w : World} (S : World → Prop) (row : List (Nat × Nat)) (l : List (Nat × Oper)) (hl : Region.items ops row = l) (hm : P.follows .mixedOrders = true)
    (hs : Region.noSelect ops = true) (hr : Region.rowOk .any ops row (Array.replicate ops.size false) = true) (hz : row.length ≤ ops.size) (hQ : ∀ c a d v w, Q (.panic c) (Act.put a d v) w → Q (.panic c) a w)
    (hS : S w.drew) (h : wpRow P ops Q S l a w.drew) : (Code.region id ops true).wp P Q a w :=
  wpTill.start (S := S) hm hS fun hS => wpRow.sound hs hQ row ops.size _ a w.drew (Region.Closed.start _) hz hr hS (hl ▸ h)

theorem wpRow.take {o : Oper} {v : Value} {r : List (Nat × Oper)} {a : Act} {w : World} (hw : Region.wanted o (yielded ops a.tmps) = true) (hy : ∀ w, S w → (execOp a.eval o).run P w = .ok (.value v) w)
    (h : wpRow P ops Q S r (a.put o.dst v) w) : wpRow P ops Q S ((0, o) :: r) a w := ⟨v, .inl ⟨hw, hy⟩, h⟩
theorem wpRow.pass {o : Oper} {r : List (Nat × Oper)} {a : Act} {w : World} (hw : Region.wanted o (yielded ops a.tmps) = false)
    (h : wpRow P ops Q S r (a.put o.dst undef) w) : wpRow P ops Q S ((0, o) :: r) a w := ⟨undef, .inr ⟨hw, rfl⟩, h⟩
theorem wpRow.run {o : Oper} {r : List (Nat × Oper)} {a : Act} {w : World}
    (h : ∀ K' : Act → World → Prop, Shut (∀ a w, S w → wpRow P ops Q S r a w → K' a w) → if Region.wanted o (yielded ops a.tmps) = true then Oper.wp P o a w K' Q else K' (a.put o.dst undef) w) :
    wpRow P ops Q S ((1, o) :: r) a w := fun K' hK => h K' fun a w hs hr => hK a w ⟨hs, hr⟩
theorem wpRow.last {o : Oper} {r : List (Nat × Oper)} {a : Act} {w : World}
    (h : ∀ K' : Act → World → Prop, Shut (∀ a w, wpRow P ops Q S r a w → K' a w) → if Region.wanted o (yielded ops a.tmps) = true then Oper.wp P o a w K' Q else K' (a.put o.dst undef) w) :
    wpRow P ops Q S ((2, o) :: r) a w := fun K' hK => h K' fun a w hr => hK a w hr
theorem wpRow.done {a : Act} {w : World} (h : Q .normal a w) : wpRow P ops Q S [] a w := h
end

end Go

namespace Go.Gm
theorem Row.src {P : Program} {t e e' : TypeId} {sz bytes : Nat} (T : SliceT P t e sz bytes) {w : World} {v : Value} {n : Nat} {xs : List Value} (h : Row w e' sz v n xs) (h1 : ∀ u ∈ xs, u.oneCell' = true) : Src P sz t v n xs w := by
  rcases Nat.eq_zero_or_pos n with h0 | hp
  · obtain ⟨hl, ao, cap, rfl, -, -, h4⟩ := h
    have hx : xs = [] := List.eq_nil_of_length_eq_zero (by rw [hl, h0]; simp)
    subst hx h0
    rcases h4 with ⟨rfl, -⟩ | ⟨b, off, cur, rfl, -⟩
    · exact Src.ofNil w T.1 cap
    · exact Src.ofSlice w T.1 _ 0 cap [] (by simp) (by simp) (by simp)
  · have hl := h.len
    obtain ⟨b, off, cap, rfl, -, -, -, hc, -⟩ := h.cells hp
    exact Src.ofSlice w T.1 _ n cap xs hl (fun j u hj => by rw [add_plain]; exact hc j u hj) h1

theorem step_append_new {P : Program} {t e : TypeId} {sz bytes : Nat} {a : Act} {o : Oper} {w w0 : World} {Q : Exit → Act → World → Prop} {K : Act → World → Prop} {ops : Array Oper} {E : Prop} (T : SliceT P t e sz bytes) (hgd : o.guard = none) (s x : Operand) {tx : TypeId}
    (ho : o.op = .call { callee := .builtin .append, args := #[s, x], argTypes := #[t, tx] })
    {b : Nat} (hv : a.eval s = .slice (some ⟨b, 0, none⟩) 0 0) (hb : w.heap[b]? = some (.cells #[] e (0, 0))) (h0 : Step None w0 w) (hB : w0.heap.size ≤ b) {y : Value} {m : Nat} {news : List Value} (hy : a.eval x = y) (hs : Src P sz tx y m news w)
    (h63 : m ≤ maxLen) (hbytes : m * bytes ≤ 140737488355328)
    (hK : ∀ v' w', Row w' e sz v' m news → Step (fun k => k = b) w w' → Step None w0 w' → (∀ k, Leads v' k → w0.heap.size ≤ k) → K (a.put o.dst v') w') :
    if Region.wanted o (yielded ops a.tmps) = true then Oper.wp P o a w K Q else E := by
  refine step_append_row T hgd s x ho hv (Row.ofBlock (cur := #[]) hb (Nat.le_refl _) (by simp [maxLen]) (by simp)) hy hs (by omega) (by rw [Nat.zero_add]; exact hbytes) ?_
  intro v' w' h1 h2 h3
  rw [Nat.zero_add] at h1
  refine hK v' w' (by simpa using h1) (h2.mono fun k _ hk => ?_) (h0.trans h2 fun i hi hl => ?_) fun k hk => ?_
  · simpa [Leads, Value.ownBlock, eq_comm] using hk
  · simp [Leads, Value.ownBlock] at hl; omega
  · rcases h3 k hk with h | h
    · simp [Leads, Value.ownBlock] at h; omega
    · have := h0.size; omega
theorem wpList_append_new {P : Program} {t e : TypeId} {sz bytes : Nat} {a : Act} {o : Oper} {w w0 : World} {Q : Exit → Act → World → Prop} {ops : Array Oper} {rest : List Oper} (T : SliceT P t e sz bytes) (hgd : o.guard = none) (s x : Operand) {tx : TypeId}
    (ho : o.op = .call { callee := .builtin .append, args := #[s, x], argTypes := #[t, tx] })
    {b : Nat} (hv : a.eval s = .slice (some ⟨b, 0, none⟩) 0 0) {y : Value} (hy : a.eval x = y) (hb : w.heap[b]? = some (.cells #[] e (0, 0))) (h0 : Step None w0 w) (hB : w0.heap.size ≤ b) {m : Nat} {news : List Value} (hs : Src P sz tx y m news w)
    (h63 : m ≤ maxLen) (hbytes : m * bytes ≤ 140737488355328)
    (hK : ∀ v' w', Row w' e sz v' m news → Step (fun k => k = b) w w' → Step None w0 w' → (∀ k, Leads v' k → w0.heap.size ≤ k) → wpList P ops Q rest (a.put o.dst v') w') : wpList P ops Q (o :: rest) a w := by
  refine wpList_append_row T hgd s x ho hv (Row.ofBlock (cur := #[]) hb (Nat.le_refl _) (by simp [maxLen]) (by simp)) hy hs (by omega) (by rw [Nat.zero_add]; exact hbytes) ?_
  intro v' w' h1 h2 h3
  rw [Nat.zero_add] at h1
  refine hK v' w' (by simpa using h1) (h2.mono fun k _ hk => ?_) (h0.trans h2 fun i hi hl => ?_) fun k hk => ?_
  · simpa [Leads, Value.ownBlock, eq_comm] using hk
  · simp [Leads, Value.ownBlock] at hl; omega
  · rcases h3 k hk with h | h
    · simp [Leads, Value.ownBlock] at h; omega
    · have := h0.size; omega
end Go.Gm
