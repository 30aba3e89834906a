/- How floats are compared, the greater and the lesser of two, and what is cut, as the model's operations. Of no program. -/
import Derived.Test.YtfhfhajanpminaaF3
import Derived.WalkLawsBesides
namespace Go.Flo

def nanB (x : Nat) : Bool := decide (isNan x)
theorem cmp_lt (a b : Int) : (some (compare a b) == some Ordering.lt) = decide (a < b) := by
  simp only [compare, compareOfLessAndEq]
  by_cases h : a < b
  · simp [h]
  · by_cases h' : a = b <;> simp [h, h']
theorem cmp_gt (a b : Int) : (some (compare a b) == some Ordering.gt) = decide (b < a) := by
  simp only [compare, compareOfLessAndEq]
  by_cases h : a < b
  · have : ¬ b < a := by omega
    simp [h, this]
  · by_cases h' : a = b
    · subst h'; simp
    · have : b < a := by omega
      simp [h, h', this]
theorem cmp_eq (a b : Int) : (some (compare a b) == some Ordering.eq) = decide (a = b) := by
  simp only [compare, compareOfLessAndEq]
  by_cases h : a < b
  · have : ¬ a = b := by omega
    simp [h, this]
  · by_cases h' : a = b <;> simp [h, h']

theorem ord_lt (x y : Nat) : (FloatKind.f64.format.order x y == some .lt) = (!nanB x && !nanB y && decide (key x < key y)) := by
  show (Ieee.double.order x y == some .lt) = _
  by_cases hx : isNan x
  · rw [order_nan_left y hx]; simp [nanB, hx]
  · by_cases hy : isNan y
    · rw [order_nan_right x hy]; simp [nanB, hy]
    · rw [order_key hx hy, cmp_lt]; simp [nanB, hx, hy]
theorem ord_gt (x y : Nat) : (FloatKind.f64.format.order x y == some .gt) = (!nanB x && !nanB y && decide (key y < key x)) := by
  show (Ieee.double.order x y == some .gt) = _
  by_cases hx : isNan x
  · rw [order_nan_left y hx]; simp [nanB, hx]
  · by_cases hy : isNan y
    · rw [order_nan_right x hy]; simp [nanB, hy]
    · rw [order_key hx hy, cmp_gt]; simp [nanB, hx, hy]
theorem ord_eq (x y : Nat) : (FloatKind.f64.format.order x y == some .eq) = (!nanB x && !nanB y && decide (key x = key y)) := by
  show (Ieee.double.order x y == some .eq) = _
  by_cases hx : isNan x
  · rw [order_nan_left y hx]; simp [nanB, hx]
  · by_cases hy : isNan y
    · rw [order_nan_right x hy]; simp [nanB, hy]
    · rw [order_key hx hy, cmp_eq]; simp [nanB, hx, hy]
theorem ord_self (x : Nat) : (FloatKind.f64.format.order x x != some .eq) = nanB x := by
  rw [bne, ord_eq]; cases nanB x <;> simp
theorem pos_sgn {a : Nat} (h : a ≤ inf) : sgn a = false := by
  have := sgn_word (r := a) false (Nat.lt_of_le_of_lt h (by decide))
  exact this
theorem pos_rung {a : Nat} (h : a ≤ inf) : rung a = a := rung_word (r := a) false (Nat.lt_of_le_of_lt h (by decide))
theorem pos_key {a : Nat} (h : a ≤ inf) : key a = (a : Int) := by unfold key; rw [pos_sgn h, pos_rung h]; simp
theorem pos_nan {a : Nat} (h : a ≤ inf) : ¬ isNan a := by unfold isNan; rw [pos_rung h]; omega
theorem decode_neg (x : Nat) : (FloatKind.f64.decode x).neg = sgn x := by
  show (Ieee.double.read x).neg = _
  rcases Nat.lt_trichotomy (rung x) inf with h | h | h
  · obtain ⟨m, a, e, -⟩ := read_lt h; rw [e]; rfl
  · rw [read_inf h]; rfl
  · rw [read_nan h]; rfl
theorem max_pos {P : Program} (w : World) (ts : Array TypeId) (t : TypeId) {a b : Nat} (ha : a ≤ inf) (hb : b ≤ inf) : (Builtin.max_ ts t #[.float .f64 a, .float .f64 b]).run P w = .ok (.float .f64 (max a b)) w := by
  have e : FloatKind.f64.format.order a b = some (compare (a : Int) (b : Int)) := by
    rw [show FloatKind.f64.format = Ieee.double from rfl, order_key (pos_nan ha) (pos_nan hb), pos_key ha, pos_key hb]
  simp only [Builtin.max_, List.foldlM_cons, List.foldlM_nil, Builtin.max2, e, compare, compareOfLessAndEq, decode_neg, pos_sgn ha]
  by_cases h1 : (a : Int) < (b : Int)
  · have : max a b = b := by omega
    simp [h1, this]
  · by_cases h2 : (a : Int) = (b : Int)
    · have : max a b = a := by omega
      simp [h2, this]
    · have : max a b = a := by omega
      simp [h1, h2, this]
theorem min_pos {P : Program} (w : World) (ts : Array TypeId) (t : TypeId) {a b : Nat} (ha : a ≤ inf) (hb : b ≤ inf) : (Builtin.min_ ts t #[.float .f64 a, .float .f64 b]).run P w = .ok (.float .f64 (min a b)) w := by
  have e : FloatKind.f64.format.order a b = some (compare (a : Int) (b : Int)) := by
    rw [show FloatKind.f64.format = Ieee.double from rfl, order_key (pos_nan ha) (pos_nan hb), pos_key ha, pos_key hb]
  simp only [Builtin.min_, List.foldlM_cons, List.foldlM_nil, Builtin.min2, e, compare, compareOfLessAndEq, decode_neg, pos_sgn ha]
  by_cases h1 : (a : Int) < (b : Int)
  · have : min a b = a := by omega
    simp [h1, this]
  · by_cases h2 : (a : Int) = (b : Int)
    · have : min a b = b := by omega
      simp [h2, this]
    · have : min a b = b := by omega
      simp [h1, h2, this]
theorem toInt_pos {a : Nat} (ha : a < inf) (hb : V a / U < 2 ^ 63) : floatToIntVal .f64 a .i64 = some ((V a / U : Nat) : Int) := by
  unfold floatToIntVal
  have e : (FloatKind.f64.decode a).toInt .zero = some ((V a / U : Nat) : Int) := by
    show (Ieee.double.read a).toInt .zero = _
    rw [toInt_word (w := a) (by rw [pos_rung (Nat.le_of_lt ha)]; exact ha), pos_sgn (Nat.le_of_lt ha), pos_rung (Nat.le_of_lt ha)]
    rfl
  rw [e]
  generalize V a / U = n at *
  have h1 : IntKind.i64.min ≤ (n : Int) ∧ (n : Int) ≤ IntKind.i64.max := by
    have : IntKind.i64.min = -9223372036854775808 := by decide
    have : IntKind.i64.max = 9223372036854775807 := by decide
    omega
  simp only [h1, and_self, if_true]

/-- The greater than nought: no NaN, no sign, a rung. -/
theorem gt_zero {x : Nat} (hx : x < 2 ^ 64) (h : (FloatKind.f64.format.order x 0 == some .gt) = true) : 0 < x ∧ x ≤ inf := by
  rw [ord_gt] at h
  have k0 : key 0 = 0 := rfl
  rw [k0] at h
  simp only [Bool.and_eq_true, Bool.not_eq_true', decide_eq_true_eq, nanB, decide_eq_false_iff_not] at h
  obtain ⟨⟨h1, -⟩, h2⟩ := h
  have hs : sgn x = false := by
    cases hs : sgn x
    · rfl
    · unfold key at h2
      rw [hs] at h2
      simp only [if_true] at h2
      omega
  have hw := word_of x hx
  rw [hs] at hw
  have hw' : rung x = x := hw
  unfold isNan at h1
  unfold key at h2
  rw [hs] at h2
  simp only [Bool.false_eq_true, if_false] at h2
  omega

/-- 20000000, 1, 200000000, 100 as floats. -/
def cU : Nat := 4716133919349538816
def c1 : Nat := 4607182418800017408
def cD : Nat := 4730986895511650304
def cH : Nat := 4636737291354636288

theorem V_whole {w : Nat} (n s x a : Nat) (h0 : w = (a + 1) * 2 ^ 52 + x) (h : 2 ^ 52 + x = n * 2 ^ s) (ha : s + a = K) (hx : x < 2 ^ 52)   : V w = n * U := by
  rw [h0, V_big a x hx, h, Nat.mul_assoc, ← Nat.pow_add, ha, U]
theorem V_c1 : V c1 = 1 * U := V_whole 1 52 0 1022 (by decide) (by decide) (by decide) (by decide)
theorem V_cD : V cD = 200000000 * U := V_whole 200000000 25 (200000000 * 2 ^ 25 - 2 ^ 52) 1049 (by decide) (by decide) (by decide) (by decide)
theorem V_cU : V cU = 20000000 * U := V_whole 20000000 28 (20000000 * 2 ^ 28 - 2 ^ 52) 1046 (by decide) (by decide) (by decide) (by decide)
theorem V_cH : V cH = 100 * U := V_whole 100 46 (100 * 2 ^ 46 - 2 ^ 52) 1028 (by decide) (by decide) (by decide) (by decide)

theorem div_pos {a x : Nat} (ha : a < inf) (h : 0 < x ∧ x ≤ inf) : ∃ q, Ieee.double.div a x = some q ∧ q ≤ inf ∧ (x < inf → ∃ r, Rnd (V a * U) (V x) r ∧ q = min r inf) ∧ (x = inf → q = 0) := by
  have sa := pos_sgn (Nat.le_of_lt ha)
  have ra := pos_rung (Nat.le_of_lt ha)
  have sx := pos_sgn h.2
  have rx := pos_rung h.2
  by_cases hx : x = inf
  · refine ⟨0, ?_, Nat.zero_le _, fun h' => by omega, fun _ => rfl⟩
    obtain ⟨m, b, e, -⟩ := read_lt (w := a) (by omega)
    rw [Ieee.Format.div, e, read_inf (w := x) (by omega), sa, sx]
    rfl
  · obtain ⟨r, h1, h2⟩ := div_word (x := a) (y := x) (by omega) (by omega) (by omega)
    rw [sa, sx] at h2
    rw [ra, rx] at h1
    exact ⟨min r inf, h2, Nat.min_le_right _ _, fun _ => ⟨r, h1, rfl⟩, fun h' => absurd h' hx⟩

/-- What a speed costs: the quotient. -/
def costQ (x : Nat) : Nat := (Ieee.double.div cU x).getD 0
def costS (x : Nat) : Int := if (FloatKind.f64.format.order x 0 == some .gt) then ((V (min (max (costQ x) c1) cD) / U : Nat) : Int) else 200000000
theorem costQ_of {x : Nat} (h : 0 < x ∧ x ≤ inf) : Ieee.double.div cU x = some (costQ x) ∧ costQ x ≤ inf := by
  obtain ⟨q, h1, h2, -⟩ := div_pos (a := cU) (by decide) h
  unfold costQ
  rw [h1]
  exact ⟨rfl, h2⟩
theorem mid_lt (q : Nat) : min (max q c1) cD < inf ∧ V (min (max q c1) cD) / U < 2 ^ 63 ∧ c1 ≤ min (max q c1) cD := by
  have h1 : min (max q c1) cD ≤ cD := Nat.min_le_right _ _
  have h2 : cD < inf := by decide
  have h3 : c1 ≤ cD := by decide
  have h4 : V (min (max q c1) cD) / U ≤ V cD / U := Nat.div_le_div_right (V_le h1)
  rw [V_cD, Nat.mul_div_cancel _ U_pos] at h4
  exact ⟨by omega, by omega, by omega⟩
end Go.Flo
