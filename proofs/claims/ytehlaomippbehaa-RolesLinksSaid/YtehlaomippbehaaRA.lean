/- A list of ports that is built by append. -/
import Derived.Test.YtehlaomippbehaaR8
import Derived.Test.YtehlaomippbehaaCutw
namespace Go.Proofs.Ytehlaomippbehaa
open Go.RowKit Go.Gm

theorem T44 : SliceT Try.prog 44 52 21 80 := SliceT.mk' Try.underlying44 (z := .agg zeroH) (by kernel_rfl) rfl (by decide)
def flatH (l : List Hrd) : List Value := l.flatMap fun x => x.cells.toList
theorem flatH_snoc (l : List Hrd) (x : Hrd) : flatH (l ++ [x]) = flatH l ++ x.cells.toList := by simp [flatH]
theorem flatH_get : ∀ (l : List Hrd) (i j : Nat) (x : Hrd) (u : Value), l[i]? = some x → x.cells[j]? = some u → (flatH l)[i * 21 + j]? = some u
  | [], i, j, x, u, h, _ => by simp at h
  | y :: r, 0, j, x, u, h, hu => by
    simp at h
    subst h
    have hj : j < 21 := (Array.getElem?_eq_some_iff.1 hu).1
    rw [Nat.zero_mul, Nat.zero_add]
    show (y.cells.toList ++ flatH r)[j]? = some u
    rw [List.getElem?_append_left (show j < y.cells.toList.length from hj)]
    simpa using hu
  | y :: r, i + 1, j, x, u, h, hu => by
    have ih := flatH_get r i j x u (by simpa using h) hu
    show (y.cells.toList ++ flatH r)[(i + 1) * 21 + j]? = some u
    have hl : y.cells.toList.length = 21 := rfl
    rw [List.getElem?_append_right (by rw [hl]; omega), hl, show (i + 1) * 21 + j - 21 = i * 21 + j by omega]
    exact ih

/-- v is a list of ports of the call's own. -/
structure Lst (w0 w : World) (v : Value) (l : List Hrd) : Prop where
  row : Row w 52 21 v l.length (flatH l)
  new : ∀ k, Leads v k → w0.heap.size ≤ k
  fine : ∀ x ∈ l, x.v.fine
  st : Step None w0 w
theorem Lst.nil (w0 w : World) (h : Step None w0 w) : Lst w0 w (.slice none 0 0) [] := ⟨Row.nil _ _ _, fun k h => by simp [Leads, Value.ownBlock] at h, fun x hx => by simp at hx, h⟩
theorem Lst.still {w0 w w' : World} {v : Value} {l : List Hrd} (h : Lst w0 w v l) (hs : Step None w w') : Lst w0 w' v l := ⟨h.row.step hs fun _ _ s => s.elim, h.new, h.fine, h.st.then_ hs⟩
theorem Lst.form {w0 w : World} {v : Value} {l : List Hrd} (h : Lst w0 w v l) : ∃ ao cap, v = .slice ao l.length cap ∧ Hears w ao l := by
  obtain ⟨ao, cap, rfl, -, -⟩ := h.row.form
  refine ⟨ao, cap, rfl, fun i x hx => ⟨h.fine x (List.mem_of_getElem? hx), ?_⟩⟩
  have hp : 0 < l.length := by have := (List.getElem?_eq_some_iff.1 hx).1; omega
  obtain ⟨b, off, cap', e, -, -, -, hc, -⟩ := h.row.cells hp
  simp only [Value.slice.injEq, true_and] at e
  refine ⟨b, off, e.1, fun j u hu => ?_⟩
  rw [Nat.add_assoc]
  exact hc _ u (flatH_get l i j x u hx hu)
/-- Behind an append; S: what was written. -/
theorem Lst.more {w0 w w' : World} {v v' : Value} {l : List Hrd} {x : Hrd} (h : Lst w0 w v l) (fx : x.v.fine) (hr : Row w' 52 21 v' (l.length + 1) (flatH l ++ x.cells.toList)) (hs : Step (Leads v) w w') (hl : ∀ k, Leads v' k → Leads v k ∨ w.heap.size ≤ k) : Lst w0 w' v' (l ++ [x]) := by
  refine ⟨by rw [List.length_append, flatH_snoc]; exact hr, fun k hk => ?_, fun y hy => ?_, h.st.trans hs fun i hi hk => by have := h.new i hk; omega⟩
  · rcases hl k hk with h1 | h1
    · exact h.new k h1
    · have := h.st.size; omega
  · rcases List.mem_append.1 hy with hy | hy
    · exact h.fine y hy
    · simp at hy; subst hy; exact fx
theorem Lst.blk {w0 w w' : World} {v : Value} {l : List Hrd} (h : Lst w0 w v l) (hs : Step (Leads v) w w') {k : Nat} {cs : Array Value} {t : TypeId} {fr : Nat × Nat} (hb : w.heap[k]? = some (.cells cs t fr)) (ht : t ≠ 52) : w'.heap[k]? = some (.cells cs t fr) :=
  hs.blk hb (h.row.ne hb ht)
theorem src_hrd {w : World} {g : Nat} {x : Hrd} (hb : w.heap[g]? = some (.cells x.cells 52 (0, 0))) : Src Try.prog 21 44 (.slice (some ⟨g, 0, none⟩) 1 1) 1 x.cells.toList w :=
  Src.ofBlock T44 (m := 1) (c := 1) hb (by rfl) (by simp [Hrd.cells, Value.oneCell'])
end Go.Proofs.Ytehlaomippbehaa
