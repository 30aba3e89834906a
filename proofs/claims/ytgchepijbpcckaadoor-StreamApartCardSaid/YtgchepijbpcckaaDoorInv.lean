/- Regions that draw their order: operations that yield are taken first; the others run in whatever order, under one invariant over what was listed. -/
import Derived.Test.YtgchepijbpcckaaDoorPlan
namespace Go

section
variable {P : Program} {ops : Array Oper} {Q : Exit → Act → World → Prop} {md : Region.Mode} {S : World → Prop}

def unlisted (n : Nat) (l : Array Bool) : Nat := ((List.range n).filter fun i => !l.getD i true).length

theorem unlisted_set {n i : Nat} {l : Array Bool} (hi : i < n) (hl : l.getD i true = false) : unlisted n (l.setIfInBounds i true) < unlisted n l := by
  unfold unlisted
  have hsz : i < l.size := by
    rcases Nat.lt_or_ge i l.size with h | h
    · exact h
    · simp [Array.getElem?_eq_none h] at hl
  have hsub : ∀ k, (!(l.setIfInBounds i true).getD k true) = ((!l.getD k true) && !(k == i)) := by
    intro k
    by_cases h : i = k
    · subst h
      simp [hsz]
    · rw [getD_set_ne true h]
      have : (k == i) = false := by simp; omega
      simp [this]
  simp only [hsub]
  rw [← List.filter_filter]
  rw [← List.countP_eq_length_filter, ← List.countP_eq_length_filter, List.countP_filter]
  refine Nat.lt_of_lt_of_le ?_ (Nat.le_refl _)
  have hmem : i ∈ List.range n := List.mem_range.2 hi
  clear hsub
  generalize hR : List.range n = R at hmem
  clear hR hi
  induction R with
  | nil => cases hmem
  | cons x R ih =>
    simp only [List.countP_cons]
    have hle : R.countP (fun a => (!l.getD a true) && !(a == i)) ≤ R.countP (fun a => !l.getD a true) := List.countP_mono_left fun a _ h => by simp at h ⊢; exact h.1
    by_cases hx : x = i
    · subst hx
      simp [hl]
      simp at hle
      omega
    · have hm : i ∈ R := by simpa [Ne.symm hx] using hmem
      have h1 := ih hm
      have hxi : (x == i) = false := by simpa using hx
      simp only [hxi, Bool.not_false, Bool.and_true]
      omega

/-- Each operation waits for earlier ones alone. -/
def Region.back (ops : Array Oper) : Bool := (List.range ops.size).all fun i => match ops[i]? with | some o => o.after.all fun e => decide (e.on < i) | none => true

theorem all_listed (hb : Region.back ops = true) {l : Array Bool} (hs : l.size = ops.size) (hr : Region.ready md ops l = []) : ∀ i, i < ops.size → l.getD i false = true := by
  intro i
  induction i using Nat.strongRecOn with
  | _ i ih =>
    intro hi
    by_cases hl : l.getD i false = true
    · exact hl
    · exfalso
      have hl' : l.getD i true = false := by
        simp [hs, hi] at hl ⊢
        exact hl
      have : i ∈ Region.ready md ops l := by
        refine mem_ready.2 ⟨hl', ops[i], by simp [hi], fun e he _ => ?_⟩
        simp only [Region.back, List.all_eq_true, List.mem_range] at hb
        have h1 := hb i hi
        simp only [Array.getElem?_eq_getElem hi] at h1
        have h2 := Array.all_eq_true'.1 h1 e he
        simp only [decide_eq_true_eq] at h2
        exact ih e.on h2 (by omega)
      rw [hr] at this
      cases this

/-- What was listed, as a function. -/
def lst (l : Array Bool) (k : Nat) : Bool := l.getD k false

/-- The obligations: for each operation that runs. -/
def Keeps (P : Program) (md : Region.Mode) (ops : Array Oper) (Q : Exit → Act → World → Prop) (J : (Nat → Bool) → Act → World → Prop) (i : Nat) (o : Oper) : Prop :=
  ∀ (b : Nat → Bool) (a : Act) (w : World), J b a w → b i = false → (∀ e ∈ o.after, Region.binds md e = true → b e.on = true) →
    (∀ j oj, ops[j]? = some oj → b j = true → ∀ e ∈ oj.after, Region.binds md e = true → b e.on = true) →
    Goes P ops Q o (fun a' w' => J (fun k => if k = i then true else b k) a' w') a w

theorem wpTill.inv (hb : Region.back ops = true) (J : (Nat → Bool) → Act → World → Prop) (hJS : ∀ b a w, J b a w → S w) (es : List Nat)
    (hstep : ∀ i ∈ es, ∀ o, ops[i]? = some o → Keeps P md ops Q J i o) (hdone : ∀ b a w, (∀ i, i < ops.size → b i = true) → J b a w → Q .normal a w) :
    ∀ (m : Nat) (l : Array Bool) (a : Act) (w : World), l.size = ops.size → Region.Closed md ops l → unlisted ops.size l ≤ m → (∀ i, i < ops.size → l.getD i true = false → i ∈ es) → J (lst l) a w → wpTill P md ops Q S m l a w := by
  intro m
  have fin : ∀ (l : Array Bool) (a : Act) (w : World), l.size = ops.size → Region.ready md ops l = [] → J (lst l) a w → Q .normal a w := fun l a w hs hr hJ => hdone _ a w (all_listed hb hs hr) hJ
  induction m with
  | zero =>
    intro l a w hs hc hu he hJ
    have hr : Region.ready md ops l = [] := by
      rw [List.eq_nil_iff_forall_not_mem]
      intro i hi
      obtain ⟨h1, o, ho, -⟩ := mem_ready.1 hi
      have := unlisted_set (Array.getElem?_eq_some_iff.1 ho).1 h1
      omega
    exact ⟨hr, fin l a w hs hr hJ⟩
  | succ m ih =>
    intro l a w hs hc hu he hJ
    refine ⟨fun hr => fin l a w hs hr hJ, fun i hi => ?_⟩
    obtain ⟨h1, o, ho, hall⟩ := mem_ready.1 hi
    have hlt := (Array.getElem?_eq_some_iff.1 ho).1
    have hli : lst l i = false := by
      simp [lst, hs, hlt] at h1 ⊢
      exact h1
    have hg := hstep i (he i hlt h1) o ho (lst l) a w hJ hli hall (fun j oj hj hbj e hm hbe => hc j oj hj hbj e hm hbe)
    refine wpOp_mono (fun a' w' h' => ?_) (hg.op ho)
    have hset : lst (l.setIfInBounds i true) = fun k => if k = i then true else lst l k := by
      funext k
      by_cases hk : k = i
      · subst hk
        simp [lst, hs, hlt]
      · rw [if_neg hk]
        exact getD_set_ne false (Ne.symm hk)
    have hJ' : J (lst (l.setIfInBounds i true)) a' w' := by rw [hset]; exact h'
    refine ⟨fun _ => hJS _ _ _ hJ', ih _ a' w' (by simpa using hs) (hc.next hi) ?_ (fun k hk hkl => ?_) hJ'⟩
    · have := unlisted_set hlt h1
      omega
    · by_cases hki : i = k
      · subst hki
        simp [hs, hlt] at hkl
      · exact he k hk (by rw [getD_set_ne true hki] at hkl; exact hkl)

/-- First those that yield, in the order given; then J. -/
def wpPre (P : Program) (ops : Array Oper) (S : World → Prop) (J : Act → World → Prop) : List Oper → Act → World → Prop
  | [], a, w => J a w
  | o :: r, a, w => ∃ v, YieldsIf P ops S o v a ∧ wpPre P ops S J r (a.put o.dst v) w

def Region.preOk (md : Region.Mode) (ops : Array Oper) : List Nat → Array Bool → Bool
  | [], _ => true
  | i :: r, l => Region.free md ops l i && (Region.ready md ops l).contains i && Region.preOk md ops r (l.setIfInBounds i true)
def listAll : List Nat → Array Bool → Array Bool
  | [], l => l
  | i :: r, l => listAll r (l.setIfInBounds i true)

theorem wpPre.sound (hs : Region.noSelect ops = true) (hQ : ∀ c a d v w, Q (.panic c) (Act.put a d v) w → Q (.panic c) a w) {J : Array Bool → Act → World → Prop} :
    ∀ (pre : List Nat) (m : Nat) (l : Array Bool) (a : Act) (w : World), l.size = ops.size → Region.Closed md ops l → S w → Region.preOk md ops pre l = true →
      (∀ l' a' w, l'.size = ops.size → Region.Closed md ops l' → l' = listAll pre l → J l' a' w → wpTill P md ops Q S m l' a' w) → wpPre P ops S (J (listAll pre l)) (pre.map (opOf ops)) a w → wpTill P md ops Q S (m + pre.length) l a w := by
  intro pre
  induction pre with
  | nil => intro m l a w hz hc hS _ hJ h; exact hJ l a w hz hc rfl h
  | cons i r ih =>
    intro m l a w hz hc hS hp hJ h
    simp only [Region.preOk, Bool.and_eq_true] at hp
    obtain ⟨⟨h1, h2⟩, h3⟩ := hp
    obtain ⟨o, ho⟩ := ready_op (md := md) (ops := ops) (l := l) (i := i) (by simpa using h2)
    simp only [List.map_cons, opOf_eq ho, wpPre] at h
    obtain ⟨v, hy, h⟩ := h
    exact wpTill.take hc ho hs h1 h2 (fun c a w => hQ c a _ _ w) hy hS (ih m _ _ _ (by simpa using hz) (hc.next (by simpa using h2)) hS h3 hJ h)

theorem lst_set {l : Array Bool} {i : Nat} (hi : i < l.size) : lst (l.setIfInBounds i true) = fun k => if k = i then true else lst l k := by
  funext k
  by_cases hk : k = i
  · subst hk
    simp [lst, hi]
  · rw [if_neg hk]
    exact getD_set_ne false (Ne.symm hk)

theorem lst_pre : ∀ (pre : List Nat) (l : Array Bool), l.size = ops.size → Region.preOk md ops pre l = true → lst (listAll pre l) = fun k => pre.contains k || lst l k
  | [], l, _, _ => by funext k; simp [listAll]
  | i :: r, l, hz, hp => by
    simp only [Region.preOk, Bool.and_eq_true] at hp
    obtain ⟨⟨h1, h2⟩, h3⟩ := hp
    obtain ⟨o, ho⟩ := ready_op (md := md) (ops := ops) (l := l) (i := i) (by simpa using h2)
    have hi : i < l.size := by rw [hz]; exact (Array.getElem?_eq_some_iff.1 ho).1
    rw [listAll, lst_pre r _ (by simpa using hz) h3, lst_set hi]
    funext k
    by_cases hk : k = i
    · simp [hk]
    · simp [hk]

theorem lst_none (n : Nat) : lst (Array.replicate n false) = fun _ => false := by
  funext k
  simp only [lst, Array.getD_eq_getD_getElem?, Array.getElem?_replicate]
  split <;> rfl

/-- What is left of a region behind the operations pre. -/
def wpRest (P : Program) (ops : Array Oper) (Q : Exit → Act → World → Prop) (S : World → Prop) (pre : List Nat) (a : Act) (w : World) : Prop :=
  ∀ (m : Nat) (l : Array Bool), l.size = ops.size → Region.Closed .any ops l → (lst l = fun k => pre.contains k) → unlisted ops.size l ≤ m → wpTill P .any ops Q S m l a w

/-- A region that draws its order: pre first. -/
theorem wp_region_pre {id : Nat} {a : Act} {w : World} (S : World → Prop) (pre : List Nat) (p : List Oper) (hp : pre.map (opOf ops) = p)
    (hm : P.follows .mixedOrders = true) (hs : Region.noSelect ops = true) (hpre : Region.preOk .any ops pre (Array.replicate ops.size false) = true)
    (hz : unlisted ops.size (listAll pre (Array.replicate ops.size false)) + pre.length = ops.size)
    (hQ : ∀ c a d v w, Q (.panic c) (Act.put a d v) w → Q (.panic c) a w) (hS : S w.drew)
    (h : wpPre P ops S (wpRest P ops Q S pre) p a w.drew) : (Code.region id ops true).wp P Q a w := by
  refine wpTill.start (S := S) hm hS fun hS => ?_
  subst hp
  have hz0 : (Array.replicate ops.size false).size = ops.size := by simp
  have hl := lst_pre (md := .any) pre _ hz0 hpre
  rw [lst_none] at hl
  have hl' : lst (listAll pre (Array.replicate ops.size false)) = fun k => pre.contains k := by rw [hl]; funext k; simp
  have key := wpPre.sound (P := P) (md := .any) (Q := Q) (J := fun _ a w => wpRest P ops Q S pre a w) hs hQ pre (unlisted ops.size (listAll pre (Array.replicate ops.size false))) (Array.replicate ops.size false) a w.drew hz0 (Region.Closed.start _) hS hpre
    (fun l' a' w' hz' hc' hl'' hJ => by
      subst hl''
      exact hJ _ _ hz' hc' hl' (Nat.le_refl _))
    h
  rw [hz] at key
  exact key

theorem wpPre.taken {J : Act → World → Prop} {o : Oper} {v : Value} {r : List Oper} {a : Act} {w : World} (hw : Region.wanted o (yielded ops a.tmps) = true) (hy : ∀ w, S w → (execOp a.eval o).run P w = .ok (.value v) w)
    (h : wpPre P ops S J r (a.put o.dst v) w) : wpPre P ops S J (o :: r) a w := ⟨v, .inl ⟨hw, hy⟩, h⟩
theorem wpPre.done {J : Act → World → Prop} {a : Act} {w : World} (h : J a w) : wpPre P ops S J [] a w := h

/-- The rest runs in whatever order, under J (A: the frame at its beginning). -/
theorem wpRest.inv {pre : List Nat} {A : Act} {w : World} (J : Act → (Nat → Bool) → Act → World → Prop) (es : List Nat) (q : List (Nat × Oper)) (hq : es.map (fun i => (i, opOf ops i)) = q) (hb : Region.back ops = true)
    (hes : ((List.range ops.size).all fun i => pre.contains i || es.contains i) = true) (hJS : ∀ b a w, J A b a w → S w) (hstart : J A (fun k => pre.contains k) A w)
    (hdone : ∀ b a w, (∀ i, i < ops.size → b i = true) → J A b a w → Q .normal a w)
    (hstep : ∀ x ∈ q, Keeps P .any ops Q (J A) x.1 x.2) : wpRest P ops Q S pre A w := by
  subst hq
  have hst : ∀ i ∈ es, ∀ o, ops[i]? = some o → Keeps P .any ops Q (J A) i o := fun i hi o ho => by
    have := hstep (i, opOf ops i) (List.mem_map.2 ⟨i, hi, rfl⟩)
    rw [opOf_eq ho] at this
    exact this
  intro m l hz hc hl hu
  refine wpTill.inv hb (J A) hJS es hst hdone m l A w hz hc hu (fun i hi hli => ?_) (by rw [hl]; exact hstart)
  have := List.all_eq_true.1 hes i (List.mem_range.2 hi)
  simp only [Bool.or_eq_true] at this
  rcases this with h | h
  · have h2 := congrFun hl i
    simp only [h] at h2
    simp [lst, hz, hi] at h2 hli
    rw [hli] at h2
    cases h2
  · simpa using h
end
end Go
