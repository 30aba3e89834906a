/- Binary floats of 64 bits by their rungs: the number that a rung is, how two of them stand, what rounding gives. Of no program. -/
import Ieee.Arith
import GoSem.Core.Float
namespace Go.Flo
open Ieee

/-- What a rung is, in units of the least one. -/
def V (r : Nat) : Nat := if r < 2 ^ 52 then r else (2 ^ 52 + r % 2 ^ 52) * 2 ^ (r / 2 ^ 52 - 1)

theorem V_small {r : Nat} (h : r < 2 ^ 52) : V r = r := if_pos h
theorem V_big (a x : Nat) (hx : x < 2 ^ 52) : V ((a + 1) * 2 ^ 52 + x) = (2 ^ 52 + x) * 2 ^ a := by
  have h1 : ¬ (a + 1) * 2 ^ 52 + x < 2 ^ 52 := by omega
  have h2 : ((a + 1) * 2 ^ 52 + x) % 2 ^ 52 = x := by omega
  have h3 : ((a + 1) * 2 ^ 52 + x) / 2 ^ 52 - 1 = a := by omega
  rw [V, if_neg h1, h2, h3]
theorem rung_cases (r : Nat) : r < 2 ^ 52 ∨ ∃ a x, x < 2 ^ 52 ∧ r = (a + 1) * 2 ^ 52 + x := by
  by_cases h : r < 2 ^ 52
  · exact .inl h
  · exact .inr ⟨r / 2 ^ 52 - 1, r % 2 ^ 52, by omega, by omega⟩

theorem two_pow_le {a b : Nat} (h : a ≤ b) : 2 ^ a ≤ 2 ^ b := Nat.pow_le_pow_right (by decide) h

theorem V_lt {r s : Nat} (h : r < s) : V r < V s := by
  rcases rung_cases r with hr | ⟨a, x, hx, rfl⟩
  · rcases rung_cases s with hs | ⟨c, y, hy, rfl⟩
    · rw [V_small hr, V_small hs]; exact h
    · rw [V_small hr, V_big c y hy]
      have : (2 ^ 52 + y) * 1 ≤ (2 ^ 52 + y) * 2 ^ c := Nat.mul_le_mul_left _ (Nat.two_pow_pos c)
      omega
  · rcases rung_cases s with hs | ⟨c, y, hy, rfl⟩
    · omega
    · rw [V_big a x hx, V_big c y hy]
      by_cases hac : a = c
      · subst hac
        exact Nat.mul_lt_mul_of_pos_right (by omega) (Nat.two_pow_pos a)
      · have hlt : a < c := by omega
        have h1 : (2 ^ 52 + x) * 2 ^ a < (2 ^ 52 + 2 ^ 52) * 2 ^ a := Nat.mul_lt_mul_of_pos_right (by omega) (Nat.two_pow_pos a)
        have h2 : (2 ^ 52 + 2 ^ 52) * 2 ^ a = 2 ^ 52 * 2 ^ (a + 1) := by rw [Nat.pow_succ]; omega
        have h3 : 2 ^ 52 * 2 ^ (a + 1) ≤ 2 ^ 52 * 2 ^ c := Nat.mul_le_mul_left _ (two_pow_le (by omega))
        have h4 : 2 ^ 52 * 2 ^ c ≤ (2 ^ 52 + y) * 2 ^ c := Nat.mul_le_mul_right _ (by omega)
        omega
theorem V_le {r s : Nat} (h : r ≤ s) : V r ≤ V s := by
  rcases Nat.lt_or_eq_of_le h with h | rfl
  · exact Nat.le_of_lt (V_lt h)
  · exact Nat.le_refl _
theorem V_lt_iff {r s : Nat} : V r < V s ↔ r < s := ⟨fun h => Nat.lt_of_not_le fun h' => Nat.not_lt_of_le (V_le h') h, V_lt⟩
theorem V_le_iff {r s : Nat} : V r ≤ V s ↔ r ≤ s := ⟨fun h => Nat.le_of_not_lt fun h' => Nat.not_le_of_lt (V_lt h') h, V_le⟩
theorem V_inj {r s : Nat} (h : V r = V s) : r = s := Nat.le_antisymm (V_le_iff.1 (Nat.le_of_eq h)) (V_le_iff.1 (Nat.le_of_eq h.symm))
theorem V_zero : V 0 = 0 := rfl
theorem V_pos {r : Nat} (h : 0 < r) : 0 < V r := V_lt h

/-! ### Words -/

def inf : Nat := 2047 * 2 ^ 52
def sgn (w : Nat) : Bool := w / 2 ^ 63 % 2 == 1
def rung (w : Nat) : Nat := w % 2 ^ 63
def isNan (w : Nat) : Prop := inf < rung w
instance (w : Nat) : Decidable (isNan w) := inferInstanceAs (Decidable (_ < _))
def word (s : Bool) (r : Nat) : Nat := if s then 2 ^ 63 + r else r
theorem word_def (s : Bool) (r : Nat) : double.word s r = word s r := rfl
theorem sgn_word {r : Nat} (s : Bool) (h : r < 2 ^ 63) : sgn (word s r) = s := by
  cases s
  · have h2 : r / 2 ^ 63 = 0 := by omega
    simp only [sgn, word]
    simp [h2]
  · have h2 : (2 ^ 63 + r) / 2 ^ 63 = 1 := by omega
    simp only [sgn, word, if_true]
    rw [h2]; rfl
theorem rung_word {r : Nat} (s : Bool) (h : r < 2 ^ 63) : rung (word s r) = r := by
  cases s <;> simp only [rung, word, Bool.false_eq_true, if_false, if_true] <;> omega
theorem word_of (w : Nat) (h : w < 2 ^ 64) : word (sgn w) (rung w) = w := by
  unfold word sgn rung
  by_cases h1 : w / 2 ^ 63 % 2 = 1
  · simp [h1]; omega
  · simp [h1]; omega

/-- What a word that is a number is. -/
theorem read_lt {w : Nat} (h : rung w < inf) : ∃ m a, double.read w = .number (sgn w) m (-1074 + (a : Nat)) ∧ m * 2 ^ a = V (rung w) ∧ (rung w = 0 → m = 0) := by
  have sw : double.signWeight = 2 ^ 63 := rfl
  have bn : double.binade = 2 ^ 52 := rfl
  have ir : double.infRung = inf := rfl
  have lp : double.leastPlace = -1074 := rfl
  unfold Format.read
  simp only [sw, bn, ir, lp]
  show ∃ m a, (if rung w < 2 ^ 52 then _ else _) = _ ∧ _
  by_cases h1 : rung w < 2 ^ 52
  · refine ⟨rung w, 0, ?_, ?_, fun h => h⟩
    · rw [if_pos h1]; simp [sgn, rung]
    · rw [V_small h1]; simp
  · refine ⟨2 ^ 52 + rung w % 2 ^ 52, rung w / 2 ^ 52 - 1, ?_, ?_, fun h => absurd (show rung w < 2 ^ 52 by omega) h1⟩
    · rw [if_neg h1]
      have h2 : w % 2 ^ 63 < inf := h
      rw [if_pos h2]; rfl
    · rw [V, if_neg h1]
theorem read_inf {w : Nat} (h : rung w = inf) : double.read w = .infinity (sgn w) := by
  have h1 : ¬ rung w < 2 ^ 52 := by rw [h]; decide
  have h2 : ¬ rung w < inf := by omega
  show (if rung w < 2 ^ 52 then _ else if rung w < inf then _ else if rung w = inf then _ else _) = _
  rw [if_neg h1, if_neg h2, if_pos h]; rfl
theorem read_nan {w : Nat} (h : isNan w) : double.read w = .nan (sgn w) (rung w - inf) := by
  have h0 : inf < rung w := h
  have h1 : ¬ rung w < 2 ^ 52 := by have : 2 ^ 52 < inf := by decide
                                    omega
  have h2 : ¬ rung w < inf := by omega
  have h3 : ¬ rung w = inf := by omega
  show (if rung w < 2 ^ 52 then _ else if rung w < inf then _ else if rung w = inf then _ else _) = _
  rw [if_neg h1, if_neg h2, if_neg h3]; rfl

/-! ### How two stand -/

/-- A word's place among all: its rung with its sign. -/
def key (w : Nat) : Int := if sgn w then -(rung w : Int) else (rung w : Int)
/-- The number, in units. -/
def val (w : Nat) : Int := if sgn w then -(V (rung w) : Int) else (V (rung w) : Int)

theorem val_cmp (x y : Nat) : compare (val x) (val y) = compare (key x) (key y) := by
  have e : ∀ {a b c d : Int}, (a < b ↔ c < d) → (a = b ↔ c = d) → compare a b = compare c d := by
    intro a b c d h1 h2
    simp only [compare, compareOfLessAndEq]
    by_cases h : a < b
    · rw [if_pos h, if_pos (h1.1 h)]
    · rw [if_neg h, if_neg (fun h' => h (h1.2 h'))]
      by_cases h' : a = b
      · rw [if_pos h', if_pos (h2.1 h')]
      · rw [if_neg h', if_neg (fun h'' => h' (h2.2 h''))]
  have l := @V_lt_iff (rung x) (rung y)
  have g := @V_lt_iff (rung y) (rung x)
  have p := fun h => @V_pos (rung x) h
  have q := fun h => @V_pos (rung y) h
  have z : rung x = 0 → V (rung x) = 0 := fun h => by rw [h]; rfl
  have z' : rung y = 0 → V (rung y) = 0 := fun h => by rw [h]; rfl
  unfold val key
  generalize V (rung x) = a at *
  generalize V (rung y) = b at *
  generalize rung x = r at *
  generalize rung y = s at *
  cases sgn x <;> cases sgn y <;> simp only [Bool.false_eq_true, if_false, if_true] <;> apply e <;> omega

theorem compare_scale (a b : Int) {c : Nat} (hc : 0 < c) : compare (a * c) (b * c) = compare a b := by
  have hc' : (0 : Int) < c := by omega
  simp only [compare, compareOfLessAndEq]
  by_cases h : a < b
  · rw [if_pos h, if_pos (Int.mul_lt_mul_of_pos_right h hc')]
  · have h1 : ¬ a * c < b * c := fun h' => h (Int.lt_of_mul_lt_mul_right h' (by omega))
    rw [if_neg h, if_neg h1]
    by_cases h' : a = b
    · rw [if_pos h', if_pos (by rw [h'])]
    · rw [if_neg h', if_neg (fun h2 => h' (Int.eq_of_mul_eq_mul_right (by omega) h2))]

theorem signed_eq (s : Bool) (m k : Nat) : signed s m k = (if s then -((m * 2 ^ k : Nat) : Int) else ((m * 2 ^ k : Nat) : Int)) := by
  unfold signed
  rw [Nat.shiftLeft_eq]

theorem signed_scale (s : Bool) (m k c : Nat) : signed s m k * (2 ^ c : Nat) = signed s m (k + c) := by
  rw [signed_eq, signed_eq, Nat.pow_add, ← Nat.mul_assoc]
  cases s <;> simp [Int.neg_mul]

theorem order_nums (s t : Bool) (m n a b : Nat) : Datum.order (.number s m (-1074 + (a : Nat))) (.number t n (-1074 + (b : Nat))) = some (compare (signed s m a) (signed t n b)) := by
  simp only [Datum.order]
  have h1 : (-1074 + (a : Int) - min (-1074 + (a : Int)) (-1074 + b)).toNat = a - min a b := by omega
  have h2 : (-1074 + (b : Int) - min (-1074 + (a : Int)) (-1074 + b)).toNat = b - min a b := by omega
  rw [h1, h2, ← compare_scale (signed s m (a - min a b)) (signed t n (b - min a b)) (Nat.two_pow_pos (min a b)), signed_scale, signed_scale]
  have h3 : a - min a b + min a b = a := by omega
  have h4 : b - min a b + min a b = b := by omega
  rw [h3, h4]

theorem rung_lt (w : Nat) : rung w < 2 ^ 63 := Nat.mod_lt _ (by decide)

/-- Two that are not NaN stand as their places. -/
theorem order_key {x y : Nat} (hx : ¬ isNan x) (hy : ¬ isNan y) : double.order x y = some (compare (key x) (key y)) := by
  have hx' : rung x ≤ inf := Nat.le_of_not_lt hx
  have hy' : rung y ≤ inf := Nat.le_of_not_lt hy
  have hi : 0 < inf := by decide
  rcases Nat.lt_or_eq_of_le hx' with h1 | h1
  · rcases Nat.lt_or_eq_of_le hy' with h2 | h2
    · obtain ⟨m, a, e1, e2, -⟩ := read_lt h1
      obtain ⟨n, b, f1, f2, -⟩ := read_lt h2
      rw [Format.order, e1, f1, order_nums, ← val_cmp, signed_eq, signed_eq, e2, f2]; rfl
    · obtain ⟨m, a, e1, e2, -⟩ := read_lt h1
      rw [Format.order, e1, read_inf h2]
      unfold key
      rw [h2]
      generalize rung x = r at *
      have c1 : ∀ a b : Int, a < b → compare a b = .lt := fun a b h => by simp only [compare, compareOfLessAndEq, if_pos h]
      have c2 : ∀ a b : Int, b < a → compare a b = .gt := fun a b h => by simp only [compare, compareOfLessAndEq]; rw [if_neg (by omega), if_neg (by omega)]
      cases sgn x <;> cases sgn y <;> simp only [Datum.order, Bool.false_eq_true, if_false, if_true] <;> first | rw [c1 _ _ (by omega)] | rw [c2 _ _ (by omega)]
  · rcases Nat.lt_or_eq_of_le hy' with h2 | h2
    · obtain ⟨n, b, f1, f2, -⟩ := read_lt h2
      rw [Format.order, f1, read_inf h1]
      unfold key
      rw [h1]
      generalize rung y = r at *
      have c1 : ∀ a b : Int, a < b → compare a b = .lt := fun a b h => by simp only [compare, compareOfLessAndEq, if_pos h]
      have c2 : ∀ a b : Int, b < a → compare a b = .gt := fun a b h => by simp only [compare, compareOfLessAndEq]; rw [if_neg (by omega), if_neg (by omega)]
      cases sgn x <;> cases sgn y <;> simp only [Datum.order, Bool.false_eq_true, if_false, if_true] <;> first | rw [c1 _ _ (by omega)] | rw [c2 _ _ (by omega)]
    · rw [Format.order, read_inf h1, read_inf h2]
      unfold key
      rw [h1, h2]
      cases sgn x <;> cases sgn y <;> rfl
theorem order_nan_left {x : Nat} (y : Nat) (hx : isNan x) : double.order x y = none := by
  rw [Format.order, read_nan hx]; rfl
theorem order_nan_right (x : Nat) {y : Nat} (hy : isNan y) : double.order x y = none := by
  rw [Format.order, read_nan hy]
  cases double.read x <;> rfl

/-! ### Whole numbers -/

theorem cut_zero (s : Bool) (n d : Nat) : Toward.zero.cut s n d = n / 2 ^ d := by
  simp only [Toward.cut, Bool.toNat_false, Nat.add_zero, Nat.shiftLeft_eq, Nat.one_mul]
  by_cases h : d ≤ n.log2 + 2
  · rw [Nat.min_eq_left h]
  · rw [Nat.min_eq_right (by omega)]
    have h1 : n < 2 ^ (n.log2 + 1) := Nat.lt_log2_self
    have h2 : 2 ^ (n.log2 + 1) ≤ 2 ^ (n.log2 + 2) := two_pow_le (by omega)
    have h3 : 2 ^ (n.log2 + 2) ≤ 2 ^ d := two_pow_le (by omega)
    rw [Nat.div_eq_of_lt (by omega), Nat.div_eq_of_lt (by omega)]

theorem cut_shift (m a K : Nat) : m * 2 ^ ((-(K : Int) + (a : Int)).toNat) / 2 ^ ((-(-(K : Int) + (a : Int))).toNat) = m * 2 ^ a / 2 ^ K := by
  by_cases ha : a ≤ K
  · have h1 : ((-(K : Int) + (a : Int)).toNat) = 0 := by omega
    have h2 : ((-(-(K : Int) + (a : Int))).toNat) = K - a := by omega
    rw [h1, h2, Nat.pow_zero, Nat.mul_one]
    have h3 : 2 ^ K = 2 ^ (K - a) * 2 ^ a := by rw [← Nat.pow_add]; congr 1; omega
    rw [h3, Nat.mul_div_mul_right _ _ (Nat.two_pow_pos a)]
  · have h1 : ((-(K : Int) + (a : Int)).toNat) = a - K := by omega
    have h2 : ((-(-(K : Int) + (a : Int))).toNat) = 0 := by omega
    rw [h1, h2, Nat.pow_zero, Nat.div_one]
    have h3 : 2 ^ a = 2 ^ (a - K) * 2 ^ K := by rw [← Nat.pow_add]; congr 1; omega
    rw [h3, ← Nat.mul_assoc, Nat.mul_div_cancel _ (Nat.two_pow_pos K)]

/-- The least unit's share of one. -/
def K : Nat := 1074
def U : Nat := 2 ^ K
theorem U_pos : 0 < U := Nat.two_pow_pos _

/-- A number, cut towards nought. -/
theorem toInt_word {w : Nat} (h : rung w < inf) : (double.read w).toInt .zero = some (if sgn w then -((V (rung w) / U : Nat) : Int) else ((V (rung w) / U : Nat) : Int)) := by
  obtain ⟨m, a, e1, e2, -⟩ := read_lt h
  rw [e1]
  simp only [Datum.toInt, Datum.integral]
  rw [cut_zero, signed_eq, Nat.pow_zero, Nat.mul_one, Nat.shiftLeft_eq, ← e2]
  rw [show ((-1074 : Int)) = -((K : Nat) : Int) from rfl, cut_shift m a K, U]

end Go.Flo
