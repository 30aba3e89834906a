/- Lists of numbers, compared number by number. Of no program. -/
import Derived.Test.YtehlaomippbehaaGm
namespace Go.Gm

/-- Which of two is less. -/
def cmpI (a b : Int) : Int := if a < b then -1 else if b < a then 1 else 0
theorem cmpI_rng (a b : Int) : cmpI a b = -1 ∨ cmpI a b = 0 ∨ cmpI a b = 1 := by unfold cmpI; split <;> (try split) <;> simp
theorem cmpI_self (a : Int) : cmpI a a = 0 := by simp [cmpI]
theorem cmpI_zero {a b : Int} : cmpI a b = 0 ↔ a = b := by
  unfold cmpI
  split
  · simp; omega
  · split
    · simp; omega
    · simp; omega
theorem cmpI_neg (a b : Int) : cmpI b a = - cmpI a b := by
  unfold cmpI
  by_cases h1 : a < b
  · have h2 : ¬ b < a := by omega
    simp [h1, h2]
  · by_cases h2 : b < a <;> simp [h1, h2]
theorem cmpI_lt {a b : Int} : cmpI a b = -1 ↔ a < b := by
  unfold cmpI
  by_cases h1 : a < b
  · simp [h1]
  · by_cases h2 : b < a <;> simp [h1, h2]
theorem cmpI_gt {a b : Int} : cmpI a b = 1 ↔ b < a := by
  unfold cmpI
  by_cases h1 : a < b
  · have h2 : ¬ b < a := by omega
    simp [h1, h2]
  · by_cases h2 : b < a <;> simp [h1, h2]

/-- Numbers, one after another: the first that differ decide. -/
def lex : List Int → List Int → Int
  | a :: as, b :: bs => if cmpI a b = 0 then lex as bs else cmpI a b
  | [], [] => 0
  | [], _ :: _ => -1
  | _ :: _, [] => 1

theorem lex_rng : ∀ a b : List Int, lex a b = -1 ∨ lex a b = 0 ∨ lex a b = 1
  | a :: as, b :: bs => by
    unfold lex
    split
    · exact lex_rng as bs
    · exact cmpI_rng a b
  | [], [] => by simp [lex]
  | [], _ :: _ => by simp [lex]
  | _ :: _, [] => by simp [lex]
theorem lex_self : ∀ a : List Int, lex a a = 0
  | [] => rfl
  | a :: as => by simp [lex, cmpI_self, lex_self as]
theorem lex_neg : ∀ a b : List Int, lex b a = - lex a b
  | a :: as, b :: bs => by
    have h := cmpI_neg a b
    unfold lex
    by_cases h0 : cmpI a b = 0
    · rw [if_pos (by omega), if_pos h0, lex_neg as bs]
    · rw [if_neg (by omega), if_neg h0, h]
  | [], [] => by simp [lex]
  | [], _ :: _ => by simp [lex]
  | _ :: _, [] => by simp [lex]
theorem lex_zero : ∀ {a b : List Int}, lex a b = 0 ↔ a = b
  | a :: as, b :: bs => by
    unfold lex
    by_cases h0 : cmpI a b = 0
    · rw [if_pos h0, lex_zero, cmpI_zero.1 h0]
      simp
    · rw [if_neg h0]
      simp only [h0, List.cons.injEq, false_iff]
      intro h
      exact h0 (cmpI_zero.2 h.1)
  | [], [] => by simp [lex]
  | [], _ :: _ => by simp [lex]
  | _ :: _, [] => by simp [lex]
/-- Not behind twice is not behind; and if one of both is ahead, ahead. -/
theorem lex_trans : ∀ {a b c : List Int}, lex a b ≤ 0 → lex b c ≤ 0 → lex a c ≤ 0 ∧ (lex a b < 0 ∨ lex b c < 0 → lex a c < 0)
  | [], b, [] => fun _ _ => by
    cases b <;> simp [lex] at *
  | [], _, _ :: _ => fun _ _ => by simp [lex]
  | _ :: _, [], _ => fun h _ => by simp [lex] at h
  | _ :: _, _ :: _, [] => fun _ h => by simp [lex] at h
  | a :: as, b :: bs, c :: cs => fun h1 h2 => by
    unfold lex at h1 h2 ⊢
    by_cases ab : a = b
    · subst ab
      rw [if_pos (cmpI_self a)] at h1 ⊢
      by_cases ac : a = c
      · subst ac
        rw [if_pos (cmpI_self a)] at h2 ⊢
        rw [if_pos (cmpI_self a)]
        exact lex_trans h1 h2
      · have hz : cmpI a c ≠ 0 := fun h => ac (cmpI_zero.1 h)
        rw [if_neg hz] at h2 ⊢
        have := cmpI_rng a c
        exact ⟨h2, fun _ => by omega⟩
    · have hz : cmpI a b ≠ 0 := fun h => ab (cmpI_zero.1 h)
      rw [if_neg hz] at h1 ⊢
      have r := cmpI_rng a b
      have hlt : a < b := cmpI_lt.1 (by omega)
      by_cases bc : b = c
      · subst bc
        rw [if_neg hz]
        exact ⟨h1, fun _ => by omega⟩
      · have hz2 : cmpI b c ≠ 0 := fun h => bc (cmpI_zero.1 h)
        rw [if_neg hz2] at h2
        have r2 := cmpI_rng b c
        have hlt2 : b < c := cmpI_lt.1 (by omega)
        have hac : cmpI a c = -1 := cmpI_lt.2 (by omega)
        rw [if_neg (by omega), hac]
        exact ⟨by omega, fun _ => by omega⟩
theorem lex_app : ∀ {a b x y : List Int}, a.length = b.length → lex (a ++ x) (b ++ y) = if lex a b = 0 then lex x y else lex a b
  | [], [], x, y, _ => by simp [lex]
  | a :: as, b :: bs, x, y, h => by
    have e1 : lex (a :: as ++ x) (b :: bs ++ y) = if cmpI a b = 0 then lex (as ++ x) (bs ++ y) else cmpI a b := rfl
    have e2 : lex (a :: as) (b :: bs) = if cmpI a b = 0 then lex as bs else cmpI a b := rfl
    rw [e1, e2]
    by_cases h0 : cmpI a b = 0
    · rw [if_pos h0, if_pos h0]
      exact lex_app (by simpa using h)
    · rw [if_neg h0, if_neg h0, if_neg h0]
theorem lex_one (a b : Int) : lex [a] [b] = cmpI a b := by
  unfold lex
  by_cases h0 : cmpI a b = 0
  · rw [if_pos h0, h0]
    rfl
  · rw [if_neg h0]

/-- The first that is not zero. -/
def firstNZ : List Int → Int
  | [] => 0
  | a :: as => if a = 0 then firstNZ as else a
end Go.Gm
