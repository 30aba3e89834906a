/- What rounding gives: the rung nearest to a fraction, and that a greater one has no lesser rung. Of no program. -/
import Derived.Test.YtfhfhajanpminaaF1
namespace Go.Flo
open Ieee

/-- m over k, to the nearest whole number; between two to the even one. -/
def rne (m k : Nat) : Nat := m / k + (if k < 2 * (m % k) ∨ (k = 2 * (m % k) ∧ m / k % 2 = 1) then 1 else 0)

/-- What tells it: no farther than a half; at a half even. -/
structure Near (m k r : Nat) : Prop where
  low : 2 * r * k ≤ 2 * m + k
  high : 2 * m ≤ 2 * r * k + k
  lowE : 2 * r * k = 2 * m + k → r % 2 = 0
  highE : 2 * m = 2 * r * k + k → r % 2 = 0

theorem rne_near (m : Nat) {k : Nat} (hk : 0 < k) : Near m k (rne m k) := by
  have e : k * (m / k) + m % k = m := Nat.div_add_mod m k
  have hl : m % k < k := Nat.mod_lt _ hk
  unfold rne
  generalize m / k = q at *
  generalize m % k = t at *
  have e' : k * q = q * k := Nat.mul_comm _ _
  have x1 : 2 * q * k = 2 * (q * k) := Nat.mul_assoc _ _ _
  have x2 : 2 * (q + 1) * k = 2 * (q * k) + 2 * k := by rw [Nat.mul_assoc, Nat.add_mul, Nat.one_mul, Nat.mul_add]
  by_cases h : k < 2 * t ∨ (k = 2 * t ∧ q % 2 = 1)
  · rw [if_pos h]
    refine ⟨?_, ?_, ?_, ?_⟩
    · rw [x2]; omega
    · rw [x2]; omega
    · rw [x2]; omega
    · rw [x2]; omega
  · rw [if_neg h]
    have h1 : ¬ k < 2 * t := fun h' => h (.inl h')
    have h2 : k = 2 * t → ¬ q % 2 = 1 := fun h' h'' => h (.inr ⟨h', h''⟩)
    simp only [Nat.add_zero]
    refine ⟨?_, ?_, ?_, ?_⟩
    · rw [x1]; omega
    · rw [x1]; omega
    · rw [x1]; omega
    · rw [x1]; omega

theorem Near.mono {m k r n l s : Nat} (h : Near m k r) (g : Near n l s) (hk : 0 < k) (hl : 0 < l) (hmn : m * l ≤ n * k) : r ≤ s := by
  refine Nat.le_of_not_lt fun hsr => ?_
  -- (2 r - 1) k ≤ 2 m, 2 n ≤ (2 s + 1) l
  have a1 : (2 * r * k) * l ≤ (2 * m + k) * l := Nat.mul_le_mul_right _ h.low
  have a2 : (2 * n) * k ≤ (2 * s * l + l) * k := Nat.mul_le_mul_right _ g.high
  have a3 : (s + 1) * (k * l) ≤ r * (k * l) := Nat.mul_le_mul_right _ hsr
  have e1 : (2 * r * k) * l = 2 * (r * (k * l)) := by simp only [Nat.mul_assoc]
  have e2 : (2 * m + k) * l = 2 * (m * l) + k * l := by rw [Nat.add_mul, Nat.mul_assoc]
  have e3 : (2 * n) * k = 2 * (n * k) := Nat.mul_assoc _ _ _
  have e4 : (2 * s * l + l) * k = 2 * (s * (k * l)) + k * l := by
    rw [Nat.add_mul, Nat.mul_comm l k, Nat.mul_assoc, Nat.mul_assoc, Nat.mul_comm l k]
  have e5 : (s + 1) * (k * l) = s * (k * l) + k * l := by rw [Nat.add_mul, Nat.one_mul]
  have hp : 0 < k * l := Nat.mul_pos hk hl
  rw [e1, e2] at a1
  rw [e3, e4] at a2
  rw [e5] at a3
  -- all are equalities
  have q1 : r * (k * l) = s * (k * l) + k * l := by omega
  have q2 : 2 * (r * (k * l)) = 2 * (m * l) + k * l := by omega
  have q3 : 2 * (n * k) = 2 * (s * (k * l)) + k * l := by omega
  have r1 : r = s + 1 := by
    rw [← e5] at q1
    exact Nat.eq_of_mul_eq_mul_right hp q1
  have t1 : 2 * r * k = 2 * m + k := by
    rw [← e1, ← e2] at q2
    exact Nat.eq_of_mul_eq_mul_right hl q2
  have t2 : 2 * n = 2 * s * l + l := by
    rw [← e3, ← e4] at q3
    exact Nat.eq_of_mul_eq_mul_right hk q3
  have u1 := h.lowE t1
  have u2 := g.highE t2
  omega
theorem Near.uniq {m k r s : Nat} (h : Near m k r) (g : Near m k s) (hk : 0 < k) : r = s := Nat.le_antisymm (h.mono g hk hk (Nat.le_refl _)) (g.mono h hk hk (Nat.le_refl _))
theorem near_exact (r : Nat) {k : Nat} (hk : 0 < k) : Near (r * k) k r := by
  have e : 2 * r * k = 2 * (r * k) := Nat.mul_assoc _ _ _
  refine ⟨?_, ?_, ?_, ?_⟩ <;> rw [e] <;> omega
theorem Near.scale {m k r c : Nat} (h : Near m k r) (hc : 0 < c) : Near (c * m) (c * k) r := by
  have e1 : 2 * r * (c * k) = c * (2 * r * k) := by rw [← Nat.mul_assoc, ← Nat.mul_assoc, ← Nat.mul_assoc, Nat.mul_comm (2 * r) c, Nat.mul_assoc c 2 r]
  have e2 : 2 * (c * m) + c * k = c * (2 * m + k) := by rw [Nat.mul_add, Nat.mul_left_comm]
  have e3 : 2 * (c * m) = c * (2 * m) := Nat.mul_left_comm _ _ _
  have e4 : 2 * r * (c * k) + c * k = c * (2 * r * k + k) := by rw [e1, Nat.mul_add]
  refine ⟨?_, ?_, ?_, ?_⟩
  · rw [e1, e2]; exact Nat.mul_le_mul_left _ h.low
  · rw [e4, e3]; exact Nat.mul_le_mul_left _ h.high
  · rw [e1, e2]; exact fun q => h.lowE (Nat.eq_of_mul_eq_mul_left hc q)
  · rw [e4, e3]; exact fun q => h.highE (Nat.eq_of_mul_eq_mul_left hc q)

/-- r is the rung nearest to m over k units, were there rungs without end. -/
def Rnd (m k r : Nat) : Prop := ∃ d q, m < k * 2 ^ (d + 53) ∧ (0 < d → k * 2 ^ (d + 52) ≤ m) ∧ Near m (k * 2 ^ d) q ∧ r = d * 2 ^ 52 + q

theorem Rnd.mono {m k r n l s : Nat} (h : Rnd m k r) (g : Rnd n l s) (hk : 0 < k) (hl : 0 < l) (hmn : m * l ≤ n * k) : r ≤ s := by
  obtain ⟨d, q, h1, h2, h3, rfl⟩ := h
  obtain ⟨e, p, g1, g2, g3, rfl⟩ := g
  have pd := Nat.two_pow_pos d
  have pe := Nat.two_pow_pos e
  rcases Nat.lt_trichotomy d e with hde | hde | hde
  · -- q ≤ 2 ^ 53, 2 ^ 52 ≤ p
    have a1 : q ≤ 2 ^ 53 := by
      refine h3.mono (near_exact (2 ^ 53) (Nat.mul_pos hk pd)) (Nat.mul_pos hk pd) (Nat.mul_pos hk pd) ?_
      refine Nat.mul_le_mul_right _ ?_
      rw [Nat.pow_add, Nat.mul_comm (2 ^ d), ← Nat.mul_assoc, Nat.mul_comm k, Nat.mul_assoc] at h1
      exact Nat.le_of_lt h1
    have a2 : 2 ^ 52 ≤ p := by
      refine (near_exact (2 ^ 52) (Nat.mul_pos hl pe)).mono g3 (Nat.mul_pos hl pe) (Nat.mul_pos hl pe) ?_
      refine Nat.mul_le_mul_right _ ?_
      have := g2 (by omega)
      rw [Nat.pow_add, Nat.mul_comm (2 ^ e), ← Nat.mul_assoc, Nat.mul_comm l, Nat.mul_assoc] at this
      exact this
    omega
  · subst hde
    have : q ≤ p := by
      refine h3.mono g3 (Nat.mul_pos hk pd) (Nat.mul_pos hl pd) ?_
      rw [← Nat.mul_assoc, ← Nat.mul_assoc]
      exact Nat.mul_le_mul_right _ hmn
    omega
  · exfalso
    have b1 := h2 (by omega)
    have b2 : k * 2 ^ (d + 52) * l ≤ m * l := Nat.mul_le_mul_right _ b1
    have b3 : n * k < l * 2 ^ (e + 53) * k := Nat.mul_lt_mul_of_pos_right g1 hk
    have b4 : l * 2 ^ (e + 53) * k ≤ l * 2 ^ (d + 52) * k := Nat.mul_le_mul_right _ (Nat.mul_le_mul_left _ (two_pow_le (by omega)))
    have b5 : l * 2 ^ (d + 52) * k = k * 2 ^ (d + 52) * l := by rw [Nat.mul_comm l, Nat.mul_assoc, Nat.mul_comm l k, ← Nat.mul_assoc, Nat.mul_comm (2 ^ (d + 52)) k]
    omega
theorem Rnd.uniq {m k r s : Nat} (h : Rnd m k r) (g : Rnd m k s) (hk : 0 < k) : r = s := Nat.le_antisymm (h.mono g hk hk (Nat.le_refl _)) (g.mono h hk hk (Nat.le_refl _))
theorem Rnd.scale {m k r c : Nat} (h : Rnd m k r) (hc : 0 < c) : Rnd (c * m) (c * k) r := by
  obtain ⟨d, q, h1, h2, h3, rfl⟩ := h
  refine ⟨d, q, ?_, ?_, ?_, rfl⟩
  · rw [Nat.mul_assoc]; exact Nat.mul_lt_mul_of_pos_left h1 hc
  · rw [Nat.mul_assoc]; exact fun h => Nat.mul_le_mul_left _ (h2 h)
  · rw [Nat.mul_assoc]; exact h3.scale hc
/-- A rung's own number has that rung. -/
theorem rnd_V (r : Nat) : Rnd (V r) 1 r := by
  rcases rung_cases r with h | ⟨a, x, hx, rfl⟩
  · refine ⟨0, r, ?_, fun h => absurd h (by decide), ?_, by omega⟩
    · rw [V_small h]; simp only [Nat.one_mul, Nat.zero_add]; omega
    · rw [V_small h]
      have := near_exact r (k := 1 * 2 ^ 0) (by decide)
      simpa using this
  · refine ⟨a, 2 ^ 52 + x, ?_, fun _ => ?_, ?_, ?_⟩
    · rw [V_big a x hx, Nat.one_mul, Nat.pow_add, Nat.mul_comm (2 ^ a)]
      exact Nat.mul_lt_mul_of_pos_right (by omega) (Nat.two_pow_pos a)
    · rw [V_big a x hx, Nat.one_mul, Nat.pow_add, Nat.mul_comm (2 ^ a)]
      exact Nat.mul_le_mul_right _ (by omega)
    · rw [V_big a x hx, Nat.one_mul]
      exact near_exact _ (Nat.two_pow_pos a)
    · omega
theorem rnd_zero (k : Nat) (hk : 0 < k) : Rnd 0 k 0 := by
  have := (rnd_V 0).scale hk
  simpa [V_zero] using this

theorem cut_even (s : Bool) (n d : Nat) : Near n (2 ^ d) (Toward.even.cut s n d) := by
  have hc : Toward.even.cut s n d = rne n (1 <<< min d (n.log2 + 2)) := by
    simp only [Toward.cut, rne]
    congr 1
    generalize 1 <<< min d (n.log2 + 2) = g
    by_cases h1 : g < 2 * (n % g)
    · simp [h1]
    · by_cases h2 : g = 2 * (n % g)
      · by_cases h3 : n / g % 2 = 1
        · have : (2 * (n % g) == 2 * (n % g)) = true := by simp
          simp [← h2, h3]
        · simp [← h2, h3]
      · simp [h1, h2]
  rw [hc, Nat.shiftLeft_eq, Nat.one_mul]
  by_cases h : d ≤ n.log2 + 2
  · rw [Nat.min_eq_left h]
    exact rne_near n (Nat.two_pow_pos d)
  · rw [Nat.min_eq_right (by omega)]
    have h1 : n < 2 ^ (n.log2 + 1) := Nat.lt_log2_self
    have h2 : 2 ^ (n.log2 + 2) = 2 * 2 ^ (n.log2 + 1) := by rw [Nat.pow_succ 2 (n.log2 + 1)]; omega
    have h3 : 2 ^ (n.log2 + 2) ≤ 2 ^ d := two_pow_le (by omega)
    have h4 : n / 2 ^ (n.log2 + 2) = 0 := Nat.div_eq_of_lt (by omega)
    have h5 : n % 2 ^ (n.log2 + 2) = n := Nat.mod_eq_of_lt (by omega)
    have h6 : rne n (2 ^ (n.log2 + 2)) = 0 := by
      unfold rne
      rw [h4, h5, if_neg (by omega)]
    rw [h6]
    exact ⟨by omega, by omega, by omega, by omega⟩

/-- What nearest writes: the sign, and the rung; beyond the greatest one infinity. With D enough. -/
theorem nearest_rnd (s : Bool) (m : Nat) (p : Int) (D : Nat) (hD : 0 ≤ p + K + D) : ∃ r, Rnd (m * 2 ^ (p + K + D).toNat) (2 ^ D) r ∧ double.nearest s m p = word s (min r inf) := by
  have bn : double.binade = 2 ^ 52 := rfl
  have ir : double.infRung = inf := rfl
  have lp : double.leastPlace = -1074 := rfl
  have fb : (double.fractionBits : Int) = 52 := rfl
  have hK : K = 1074 := rfl
  unfold Format.nearest
  by_cases hm : m = 0
  · rw [if_pos hm]
    subst hm
    refine ⟨0, ?_, rfl⟩
    rw [Nat.zero_mul]
    exact rnd_zero _ (Nat.two_pow_pos D)
  · rw [if_neg hm]
    simp only [bn, ir, lp, fb, word_def]
    have l1 : 2 ^ m.log2 ≤ m := Nat.log2_self_le hm
    have l2 : m < 2 ^ (m.log2 + 1) := Nat.lt_log2_self
    generalize m.log2 = L at *
    refine ⟨_, ?_, rfl⟩
    generalize hlast : max (p + (L : Int) - 52) (-1074) = last
    have hn := cut_even s (m <<< (p - last).toNat) (last - p).toNat
    generalize Toward.even.cut s (m <<< (p - last).toNat) (last - p).toNat = q at hn
    rw [Nat.shiftLeft_eq] at hn
    -- d: how far the last place lies above the least one
    obtain ⟨d, hd⟩ : ∃ d : Nat, last = -1074 + d := ⟨(last + 1074).toNat, by omega⟩
    refine ⟨d, q, ?_, ?_, ?_, ?_⟩
    · -- m * 2 ^ (p + 1074 + D) < 2 ^ D * 2 ^ (d + 53)
      have : m * 2 ^ (p + K + D).toNat < 2 ^ (L + 1) * 2 ^ (p + K + D).toNat := Nat.mul_lt_mul_of_pos_right l2 (Nat.two_pow_pos _)
      refine Nat.lt_of_lt_of_le this ?_
      rw [← Nat.pow_add, ← Nat.pow_add]
      exact two_pow_le (by omega)
    · intro hd0
      have : 2 ^ L * 2 ^ (p + K + D).toNat ≤ m * 2 ^ (p + K + D).toNat := Nat.mul_le_mul_right _ l1
      refine Nat.le_trans ?_ this
      rw [← Nat.pow_add, ← Nat.pow_add]
      exact two_pow_le (by omega)
    · -- scale
      by_cases hpl : p ≤ last
      · have e1 : (p - last).toNat = 0 := by omega
        rw [e1, Nat.pow_zero, Nat.mul_one] at hn
        have := hn.scale (Nat.two_pow_pos (p + K + D).toNat)
        rw [← Nat.pow_add] at this
        have e2 : (p + K + (D : Int)).toNat + (last - p).toNat = D + d := by omega
        rw [e2, Nat.pow_add, Nat.mul_comm] at this
        exact this
      · have e1 : (last - p).toNat = 0 := by omega
        rw [e1] at hn
        have := hn.scale (Nat.two_pow_pos (D + d))
        rw [Nat.pow_zero, Nat.mul_one, Nat.mul_left_comm, ← Nat.pow_add] at this
        have e2 : D + d + (p - last).toNat = (p + K + (D : Int)).toNat := by omega
        rw [e2, Nat.pow_add 2 D d] at this
        exact this
    · have e1 : (last - -1074).toNat = d := by omega
      rw [e1]

end Go.Flo
