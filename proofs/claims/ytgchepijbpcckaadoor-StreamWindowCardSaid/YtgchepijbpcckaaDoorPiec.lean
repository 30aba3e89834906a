/- Arguments that are structures and arrays: one piece after another. Of no program. -/
import Derived.Test.YtgchepijbpcckaaDoorArgs
namespace Go.Gm

section
variable {w : World} {l : List Value} {a b : Sh} {k : IntKind}

theorem Fits.aggc {n : Nat} (h : Fits w (.cat n a b) l) : ∃ x r, l = x ++ r ∧ Fits w a x ∧ Fits w b r :=
  ⟨l.take n, l.drop n, (List.take_append_drop n l).symm, h.1, h.2⟩
theorem Fits.intc {n : Nat} (h : Fits w (.cat n (.int k) b) l) : ∃ x r, l = .int k x :: r ∧ (Lit.int k x).wf = true ∧ Fits w b r := by
  obtain ⟨x, r, rfl, ⟨y, rfl, hw⟩, h2⟩ := h.aggc
  exact ⟨y, r, rfl, hw, h2⟩
theorem Fits.boolc {n : Nat} (h : Fits w (.cat n .bool b) l) : ∃ x r, l = .bool x :: r ∧ Fits w b r := by
  obtain ⟨x, r, rfl, ⟨y, rfl⟩, h2⟩ := h.aggc
  exact ⟨y, r, rfl, h2⟩
theorem Fits.slicec {n m by_ : Nat} {e : Sh} (h : Fits w (.cat n (.slice m by_ e) b) l) : ∃ v r, l = v :: r ∧ Fits w (.slice m by_ e) [v] ∧ Fits w b r := by
  obtain ⟨x, r, rfl, ⟨ao, len, cap, rfl, h1⟩, h2⟩ := h.aggc
  exact ⟨_, r, rfl, ⟨ao, len, cap, rfl, h1⟩, h2⟩
theorem Fits.nilc (h : Fits w .nil l) : l = [] := h
theorem Fits.intArr {m : Nat} (h : Fits w (.arr m 1 (.int k)) l) : ∃ xs : List Int, l = xs.map (.int k) ∧ xs.length = m ∧ ∀ x ∈ xs, (Lit.int k x).wf = true := by
  obtain ⟨hl, h⟩ := h
  rw [Nat.mul_one] at hl
  induction m generalizing l with
  | zero => exact ⟨[], List.eq_nil_of_length_eq_zero hl, rfl, by simp⟩
  | succ m ih =>
    cases l with
    | nil => simp at hl
    | cons v r =>
      obtain ⟨x, hx, hw⟩ := h 0 (by omega)
      simp only [Nat.zero_mul, List.drop_zero, List.take_succ_cons, List.take_zero, List.cons.injEq, and_true] at hx
      obtain ⟨xs, rfl, h1, h2⟩ := ih (l := r) (by simpa using hl) fun i hi => by
        have := h (i + 1) (by omega)
        simpa using this
      exact ⟨x :: xs, by simp [hx], by simp [h1], by
        intro y hy
        rcases List.mem_cons.1 hy with rfl | hy
        · exact hw
        · exact h2 y hy⟩
end

/-- i64 within its bounds. -/
theorem wf_i64 {n : Int} (h : (Lit.int .i64 n).wf = true) : -9223372036854775808 ≤ n ∧ n ≤ 9223372036854775807 := by
  have := bounds_i64 h
  omega

end Go.Gm
