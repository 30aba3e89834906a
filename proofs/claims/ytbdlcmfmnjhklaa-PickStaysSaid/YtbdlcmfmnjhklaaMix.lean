/- A hash of bytes in 32 bits, and the one of greatest weight. Of no program. -/
import Derived.Test.YtbdlcmfmnjhklaaGm
import Derived.Laws.BitsAllLaws
namespace Go.Gm

/-- Bit by bit, either or. -/
def xr (x b : Int) : Int := ((x.toNat ^^^ b.toNat : Nat) : Int)
theorem xr_rng {x b : Int} (hx : 0 ≤ x ∧ x < 4294967296) (hb : 0 ≤ b ∧ b < 4294967296) : 0 ≤ xr x b ∧ xr x b < 4294967296 := by
  have := Nat.xor_lt_two_pow (n := 32) (show x.toNat < 2 ^ 32 by omega) (show b.toNat < 2 ^ 32 by omega)
  unfold xr
  omega
theorem xr_u32 {x b : Int} (hx : 0 ≤ x ∧ x < 4294967296) (hb : 0 ≤ b ∧ b < 4294967296) : bits .xor .u32 x b = xr x b := u32_xor x b hx.1 hx.2 hb.1 hb.2
theorem xr_u64 {x b : Int} (hx : 0 ≤ x ∧ x < 4294967296) (hb : 0 ≤ b ∧ b < 4294967296) : bits .xor .u64 x b = xr x b := u64_xor x b hx.1 (by omega) hb.1 (by omega)

/-- One byte more. -/
def mixB (x b : Int) : Int := xr x b * 16777619 % 4294967296
theorem mixB_rng (x b : Int) : 0 ≤ mixB x b ∧ mixB x b < 4294967296 := by unfold mixB; omega
def mixL (x : Int) (l : List Int) : Int := l.foldl mixB x
theorem mixL_rng {x : Int} (hx : 0 ≤ x ∧ x < 4294967296) : ∀ l : List Int, 0 ≤ mixL x l ∧ mixL x l < 4294967296 := fun l => by
  induction l generalizing x with
  | nil => exact hx
  | cons a l ih => exact ih (mixB_rng x a)
theorem mixL_snoc (x : Int) (l : List Int) (b : Int) : mixL x (l ++ [b]) = mixB (mixL x l) b := by simp [mixL]

/-- The last two steps of a weight. -/
def endW (x : Int) : Int :=
  let y := xr x (x / 32768) * 739982445 % 4294967296
  xr y (y / 4096)
def byteAt (m : Int) (k : Nat) : Int := m / 2 ^ (8 * k) % 256
/-- How much a member is for a hash. -/
def weight (h m : Int) : Int := endW (mixL h [byteAt m 0, byteAt m 1, byteAt m 2, byteAt m 3])

/-- Is x before m: of more weight, or of the same and less? -/
def ahead (W : Int → Int) (x m : Int) : Bool := decide (W m < W x) || (W x == W m && decide (x < m))
/-- The one ahead of all. -/
def chosen (W : Int → Int) : Int → List Int → Int
  | m, [] => m
  | m, x :: l => chosen W (if ahead W x m then x else m) l

theorem ahead_irrefl (W : Int → Int) (x : Int) : ahead W x x = false := by simp [ahead]
theorem ahead_total {W : Int → Int} {x y : Int} (h1 : ahead W x y = false) (h2 : ahead W y x = false) : x = y := by
  simp only [ahead, Bool.or_eq_false_iff, Bool.and_eq_false_imp, beq_iff_eq, decide_eq_false_iff_not] at h1 h2
  have : W x = W y := by omega
  have a := h1.2 this
  have b := h2.2 this.symm
  omega
theorem not_ahead_trans {W : Int → Int} {x y z : Int} (h1 : ahead W x y = false) (h2 : ahead W y z = false) : ahead W x z = false := by
  simp only [ahead, Bool.or_eq_false_iff, Bool.and_eq_false_imp, beq_iff_eq, decide_eq_false_iff_not] at *
  refine ⟨by omega, fun h => ?_⟩
  have e1 : W x = W y := by omega
  have e2 : W y = W z := by omega
  have a := h1.2 e1
  have b := h2.2 e2
  omega
theorem ahead_asymm {W : Int → Int} {x y : Int} (h : ahead W x y = true) : ahead W y x = false := by
  cases h2 : ahead W y x
  · rfl
  · exfalso
    simp only [ahead, Bool.or_eq_true, Bool.and_eq_true, beq_iff_eq, decide_eq_true_eq] at h h2
    omega

/-- It is one of them, and none is ahead of it. -/
theorem chosen_best (W : Int → Int) : ∀ (l : List Int) (m : Int), (chosen W m l = m ∨ chosen W m l ∈ l) ∧ ahead W m (chosen W m l) = false ∧ ∀ x ∈ l, ahead W x (chosen W m l) = false
  | [], m => ⟨.inl rfl, ahead_irrefl W m, fun x hx => by simp at hx⟩
  | x :: l, m => by
    obtain ⟨h1, h2, h3⟩ := chosen_best W l (if ahead W x m then x else m)
    simp only [chosen]
    cases ha : ahead W x m
    · simp only [ha, Bool.false_eq_true, if_false] at h1 h2 h3 ⊢
      refine ⟨?_, h2, fun y hy => ?_⟩
      · rcases h1 with h | h
        · exact .inl h
        · exact .inr (List.mem_cons_of_mem _ h)
      · rcases List.mem_cons.1 hy with rfl | hy
        · exact not_ahead_trans ha h2
        · exact h3 y hy
    · simp only [ha, if_true] at h1 h2 h3 ⊢
      refine ⟨?_, not_ahead_trans (ahead_asymm ha) h2, fun y hy => ?_⟩
      · rcases h1 with h | h
        · rw [h]; exact .inr (by simp)
        · exact .inr (List.mem_cons_of_mem _ h)
      · rcases List.mem_cons.1 hy with rfl | hy
        · exact h2
        · exact h3 y hy
theorem chosen_mem (W : Int → Int) (m : Int) (l : List Int) : chosen W m l ∈ m :: l := by
  rcases (chosen_best W l m).1 with h | h
  · rw [h]; simp
  · exact List.mem_cons_of_mem _ h
theorem chosen_top (W : Int → Int) (m : Int) (l : List Int) : ∀ x ∈ m :: l, ahead W x (chosen W m l) = false := fun x hx => by
  rcases List.mem_cons.1 hx with rfl | hx
  · exact (chosen_best W l x).2.1
  · exact (chosen_best W l m).2.2 x hx
/-- What is one of them, with none ahead of it, is the chosen one. -/
theorem chosen_only {W : Int → Int} {m c : Int} {l : List Int} (hc : c ∈ m :: l) (ht : ∀ x ∈ m :: l, ahead W x c = false) : c = chosen W m l :=
  ahead_total (chosen_top W m l c hc) (ht _ (chosen_mem W m l))
end Go.Gm
