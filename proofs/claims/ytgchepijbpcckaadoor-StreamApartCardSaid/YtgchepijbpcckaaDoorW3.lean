/- A stream in its block; the laws of its memory. -/
import Derived.Test.YtgchepijbpcckaaDoorW2
namespace Go.Proofs.YtgchepijbpcckaaDoor
open Go.RowKit Go.Gm

theorem Own5.one {w : World} {b : Value} {l : List Int} (h : Own5 w b l) : b.oneCell' = true := by
  obtain ⟨ao, cap, rfl, -, -⟩ := Row.form h
  rfl
/-- A stream in its block g, of type T; v: the slice of the notes, bs: their bodies. -/
structure Sm (T : TypeId) (w : World) (g : Nat) (v : Value) (s : Stm) (bs : List Value) : Prop where
  st : w.heap[g]? = some (.cells (s.cells v) T (0, 0))
  row : Row w 36 11 v s.ws.length (flatN (s.ws.zip bs))
  len : bs.length = s.ws.length
  body : ∀ (i : Nat) (n : Note) (b : Value), s.ws[i]? = some n → bs[i]? = some b → Own5 w b n.body
/-- What a step may touch. -/
def Of (g : Nat) (v : Value) : Nat → Prop := fun k => k = g ∨ Leads v k
section
variable {T : TypeId} {w w' w1 : World} {g : Nat} {v v' : Value} {s s' : Stm} {bs bs' : List Value}
theorem Sm.not5 (h : Sm T w g v s bs) (hT : T ≠ 5) : ∀ k, Of g v k → ∀ cs fr, w.heap[k]? ≠ some (.cells cs 5 fr) := fun k hk cs fr hc => by
  rcases hk with rfl | hk
  · exact blk_ne h.st hc hT rfl
  · exact h.row.ne hc (by decide) hk
/-- The notes are as they were. -/
theorem Sm.step {S : Nat → Prop} (h : Sm T w g v s bs) (hs : Step S w w') (hg : ¬ S g) (hv : ∀ k, Leads v k → ¬ S k) (h5 : ∀ k, S k → ∀ cs fr, w.heap[k]? ≠ some (.cells cs 5 fr)) : Sm T w' g v s bs :=
  ⟨hs.blk h.st hg, h.row.step hs hv, h.len, fun i n b h1 h2 => (h.body i n b h1 h2).step hs h5⟩
theorem Sm.still (h : Sm T w g v s bs) (hs : Step None w w') : Sm T w' g v s bs := h.step hs (fun s => s.elim) (fun _ _ s => s.elim) (fun _ s => s.elim)
theorem flatN_one {l : List (Note × Value)} (h : ∀ p ∈ l, p.2.oneCell' = true) : ∀ u ∈ flatN l, u.oneCell' = true := fun u hu => by
  obtain ⟨p, hp, hu⟩ := List.mem_flatMap.1 hu
  have hb := h p hp
  simp only [Note.cells, List.mem_cons, List.not_mem_nil, or_false] at hu
  rcases hu with rfl | rfl | rfl | rfl | rfl | rfl | rfl | rfl | rfl | rfl | rfl <;> first | rfl | exact hb
theorem Sm.one (h : Sm T w g v s bs) : ∀ p ∈ s.ws.zip bs, p.2.oneCell' = true := fun p hp => by
  obtain ⟨i, hi⟩ := List.getElem?_of_mem hp
  rw [List.getElem?_zip_eq_some] at hi
  exact (h.body i p.1 p.2 hi.1 hi.2).one
/-- Where the notes are other ones. -/
theorem Sm.put {S : Nat → Prop} (h : Sm T w g v s bs) (hst : w'.heap[g]? = some (.cells (s'.cells v') T (0, 0))) (hr : Row w' 36 11 v' s'.ws.length (flatN (s'.ws.zip bs'))) (hl : bs'.length = s'.ws.length)
    (hs : Step S w w') (h5 : ∀ k, S k → ∀ cs fr, w.heap[k]? ≠ some (.cells cs 5 fr)) (hb : ∀ (i : Nat) (n : Note) (b : Value), s'.ws[i]? = some n → bs'[i]? = some b → (∃ j : Nat, s.ws[j]? = some n ∧ bs[j]? = some b) ∨ Own5 w' b n.body) : Sm T w' g v' s' bs' :=
  ⟨hst, hr, hl, fun i n b h1 h2 => by
    rcases hb i n b h1 h2 with ⟨j, h3, h4⟩ | h3
    · exact (h.body j n b h3 h4).step hs h5
    · exact h3⟩
/-- A stream went on. -/
def Went (T : TypeId) (w w' : World) (g : Nat) (v : Value) (s' : Stm) : Prop := ∃ v' bs', Sm T w' g v' s' bs' ∧ Step (Of g v) w w' ∧ ∀ k, Leads v' k → Leads v k ∨ w.heap.size ≤ k
theorem Sm.went (h : Sm T w g v s bs) : Went T w w g v s := ⟨v, bs, h, Step.refl _ _, fun _ hk => .inl hk⟩
theorem zip_drop (a : List Note) (b : List Value) (m : Nat) : (a.drop m).zip (b.drop m) = (a.zip b).drop m := by
  simp [List.zip, List.drop_zipWith]
/-- What acked writes. -/
theorem Sm.acked (h : Sm T w g v s bs) (hT : T ≠ 36) (hT5 : T ≠ 5) {u : Value} {m : Nat} (r1 : Row w1 36 11 u (s.ws.length - m) ((flatN (s.ws.zip bs)).drop (m * 11))) (s1 : Step None w w1) (n1 : ∀ k, Leads u k → Leads v k ∨ w.heap.size ≤ k)
    (st : Step (fun k => k = g) w1 w') (hst : w'.heap[g]? = some (.cells (({ s with ws := s.ws.drop m, out := s.out - m, first := s.first + m } : Stm).cells u) T (0, 0))) :
    Went T w w' g v { s with ws := s.ws.drop m, out := s.out - m, first := s.first + m } := by
  have H1 := h.still s1
  have h5 : ∀ k, k = g → ∀ cs fr, w1.heap[k]? ≠ some (.cells cs 5 fr) := fun k hk => H1.not5 hT5 k (.inl hk)
  refine ⟨u, bs.drop m, H1.put hst ?_ ?_ st h5 ?_, (s1.none).trans st fun i _ hi => .inl hi, n1⟩
  · show Row w' 36 11 u (s.ws.drop m).length (flatN ((s.ws.drop m).zip (bs.drop m)))
    rw [List.length_drop, zip_drop, ← flatN_drop]
    exact r1.step st fun k hk e => by subst e; exact r1.ne H1.st hT hk
  · show (bs.drop m).length = (s.ws.drop m).length
    rw [List.length_drop, List.length_drop, h.len]
  · intro i n b h1 h2
    have h1' : (s.ws.drop m)[i]? = some n := h1
    rw [List.getElem?_drop] at h1' h2
    exact .inl ⟨_, h1', h2⟩
end
end Go.Proofs.YtgchepijbpcckaaDoor
