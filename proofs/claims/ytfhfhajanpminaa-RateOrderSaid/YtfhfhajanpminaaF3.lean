/- Quotient, product, and a whole number as a float, by their rungs. Of no program. -/
import Derived.Test.YtfhfhajanpminaaF2
namespace Go.Flo
open Ieee

theorem Near.unscale {m k r c : Nat} (h : Near (c * m) (c * k) r) (hc : 0 < c) : Near m k r := by
  obtain ⟨h1, h2, h3, h4⟩ := h
  have e1 : 2 * r * (c * k) = c * (2 * r * k) := by rw [← Nat.mul_assoc, ← Nat.mul_assoc, ← Nat.mul_assoc, Nat.mul_comm (2 * r) c, Nat.mul_assoc c 2 r]
  have e2 : 2 * (c * m) + c * k = c * (2 * m + k) := by rw [Nat.mul_add, Nat.mul_left_comm]
  have e3 : 2 * (c * m) = c * (2 * m) := Nat.mul_left_comm _ _ _
  have e4 : 2 * r * (c * k) + c * k = c * (2 * r * k + k) := by rw [e1, Nat.mul_add]
  rw [e1, e2] at h1 h3
  rw [e4, e3] at h2 h4
  exact ⟨Nat.le_of_mul_le_mul_left h1 hc, Nat.le_of_mul_le_mul_left h2 hc, fun q => h3 (by rw [q]), fun q => h4 (by rw [q])⟩
theorem Rnd.unscale {m k r c : Nat} (h : Rnd (c * m) (c * k) r) (hc : 0 < c) : Rnd m k r := by
  obtain ⟨d, q, h1, h2, h3, rfl⟩ := h
  rw [Nat.mul_assoc] at h1 h3
  refine ⟨d, q, Nat.lt_of_mul_lt_mul_left h1, fun h => ?_, h3.unscale hc, rfl⟩
  have := h2 h
  rw [Nat.mul_assoc] at this
  exact Nat.le_of_mul_le_mul_left this hc

/-- A number with a mark that something is left over stands to even ones as the quotient does. -/
theorem mark_le {D n E : Nat} (hE : E % 2 = 0) (h : E ≤ 2 * (D / n) + (D % n != 0).toNat) : n * E ≤ 2 * D := by
  have e : n * (D / n) + D % n = D := Nat.div_add_mod D n
  generalize D / n = q at *
  generalize D % n = t at *
  have hE' : E ≤ 2 * q := by
    have : (t != 0).toNat ≤ 1 := by cases (t != 0) <;> decide
    omega
  have : n * E ≤ n * (2 * q) := Nat.mul_le_mul_left _ hE'
  rw [Nat.mul_left_comm] at this
  omega
theorem mark_ge {D n E : Nat} (hn : 0 < n) (hE : E % 2 = 0) (h : 2 * (D / n) + (D % n != 0).toNat ≤ E) : 2 * D ≤ n * E := by
  have e : n * (D / n) + D % n = D := Nat.div_add_mod D n
  have hl : D % n < n := Nat.mod_lt _ hn
  generalize D / n = q at *
  generalize D % n = t at *
  by_cases ht : t = 0
  · have : n * (2 * q) ≤ n * E := Nat.mul_le_mul_left _ (by omega)
    rw [Nat.mul_left_comm] at this
    omega
  · have h1 : (t != 0).toNat = 1 := by simp [ht]
    have h2 : 2 * (q + 1) ≤ E := by omega
    have : n * (2 * (q + 1)) ≤ n * E := Nat.mul_le_mul_left _ h2
    rw [Nat.mul_left_comm, Nat.mul_add, Nat.mul_one] at this
    omega
theorem mark_eq {D n E : Nat} (hn : 0 < n) (hE : E % 2 = 0) (h : n * E = 2 * D) : E = 2 * (D / n) + (D % n != 0).toNat := by
  obtain ⟨F, rfl⟩ : ∃ F, E = 2 * F := ⟨E / 2, by omega⟩
  rw [Nat.mul_left_comm] at h
  have hD : D = n * F := by omega
  subst hD
  rw [Nat.mul_div_cancel_left _ hn, Nat.mul_mod_right]
  simp

theorem rnd_mark {D n u v r : Nat} (hn : 0 < n) (hQ : 2 ^ 54 ≤ 2 * (D / n) + (D % n != 0).toNat) (h : Rnd ((2 * (D / n) + (D % n != 0).toNat) * 2 ^ u) (2 ^ v) r) : Rnd (2 * D * 2 ^ u) (n * 2 ^ v) r := by
  have kl := fun E (hE : E % 2 = 0) => mark_le (D := D) (n := n) (E := E) hE
  have kg := fun E (hE : E % 2 = 0) => mark_ge (D := D) (n := n) (E := E) hn hE
  have ke := fun E (hE : E % 2 = 0) => mark_eq (D := D) (n := n) (E := E) hn hE
  generalize 2 * (D / n) + (D % n != 0).toNat = Q at *
  obtain ⟨d, q, h1, h2, h3, rfl⟩ := h
  have pu := Nat.two_pow_pos u
  -- v + d = u + 1 + g
  obtain ⟨g, hg, hg1⟩ : ∃ g, v + d = u + 1 + g ∧ 1 ≤ g := by
    refine ⟨v + d - u - 1, ?_⟩
    have a1 : 2 ^ 54 * 2 ^ u ≤ Q * 2 ^ u := Nat.mul_le_mul_right _ hQ
    rw [← Nat.pow_add] at a1
    rw [← Nat.pow_add] at h1
    have a2 : 2 ^ (54 + u) < 2 ^ (v + (d + 53)) := by omega
    have a3 := (Nat.pow_lt_pow_iff_right (a := 2) (by decide)).1 a2
    omega
  obtain ⟨f, rfl⟩ : ∃ f, g = f + 1 := ⟨g - 1, by omega⟩
  have ev : ∀ x : Nat, x * 2 ^ (f + 1) % 2 = 0 := fun x => by rw [Nat.pow_succ, ← Nat.mul_assoc]; exact Nat.mul_mod_left _ _
  refine ⟨d, q, ?_, ?_, ?_, rfl⟩
  · have e1 : 2 ^ v * 2 ^ (d + 53) = 2 * 2 ^ 53 * 2 ^ (f + 1) * 2 ^ u := by
      rw [← Nat.pow_succ', ← Nat.pow_add, ← Nat.pow_add, ← Nat.pow_add]; congr 1; omega
    rw [e1] at h1
    have h1' : Q < 2 * 2 ^ 53 * 2 ^ (f + 1) := Nat.lt_of_mul_lt_mul_right h1
    have c1 := kg _ (ev (2 * 2 ^ 53)) (Nat.le_of_lt h1')
    have c2 : n * (2 * 2 ^ 53 * 2 ^ (f + 1)) ≠ 2 * D := fun h => by have := ke _ (ev (2 * 2 ^ 53)) h; omega
    rw [Nat.mul_assoc n, e1, ← Nat.mul_assoc n]
    exact Nat.mul_lt_mul_of_pos_right (by omega) pu
  · intro hd
    have e1 : 2 ^ v * 2 ^ (d + 52) = 2 * 2 ^ 52 * 2 ^ (f + 1) * 2 ^ u := by
      rw [← Nat.pow_succ', ← Nat.pow_add, ← Nat.pow_add, ← Nat.pow_add]; congr 1; omega
    have h2' := h2 hd
    rw [e1] at h2'
    have := kl _ (ev (2 * 2 ^ 52)) (Nat.le_of_mul_le_mul_right h2' pu)
    rw [Nat.mul_assoc n, e1, ← Nat.mul_assoc n]
    exact Nat.mul_le_mul_right _ this
  · have e1 : 2 ^ v * 2 ^ d = 2 ^ u * (2 * 2 ^ (f + 1)) := by
      rw [← Nat.pow_succ', ← Nat.pow_add, ← Nat.pow_add]; congr 1; omega
    rw [e1, Nat.mul_comm Q] at h3
    have h4 := h3.unscale pu
    have t1 : 2 * D * 2 ^ u = 2 ^ u * (2 * D) := Nat.mul_comm _ _
    have t2 : n * 2 ^ v * 2 ^ d = 2 ^ u * (n * (2 * 2 ^ (f + 1))) := by rw [Nat.mul_assoc, e1, Nat.mul_left_comm]
    rw [t1, t2]
    refine Near.scale ?_ pu
    obtain ⟨i1, i2, i3, i4⟩ := h4
    -- h = 2 ^ (f + 1), even
    have hx : 2 ^ (f + 1) % 2 = 0 := by have := ev 1; rwa [Nat.one_mul] at this
    have evE : ∀ x : Nat, x * 2 ^ (f + 1) % 2 = 0 := ev
    generalize 2 ^ (f + 1) = H at *
    have x1 : 2 * q * (2 * H) = 2 * (2 * q * H) := by rw [Nat.mul_left_comm]
    have x2 : 2 * q * (n * (2 * H)) = 2 * (n * (2 * q * H)) := by
      rw [Nat.mul_left_comm (2 * q) n, x1, Nat.mul_left_comm n 2]
    have x3 : n * (2 * H) = 2 * (n * H) := Nat.mul_left_comm _ _ _
    have x4 : n * (2 * q * H + H) = n * (2 * q * H) + n * H := Nat.mul_add _ _ _
    have evQ := evE (2 * q)
    generalize hA : 2 * q * H = A at *
    -- lower end A - H, upper end A + H
    have hHA : q = 0 ∨ H ≤ A := by
      by_cases hq : q = 0
      · exact .inl hq
      · right
        rw [← hA]
        calc H = 1 * H := (Nat.one_mul H).symm
          _ ≤ 2 * q * H := Nat.mul_le_mul_right _ (by omega)
    have x5 : n * A = n * (A - H) + n * (A - (A - H)) := by rw [← Nat.mul_add]; congr 1; omega
    have x6 : q ≠ 0 → n * (A - (A - H)) = n * H := fun hq => by congr 1; rcases hHA with h | h <;> omega
    refine ⟨?_, ?_, ?_, ?_⟩
    · rw [x2, x3]
      by_cases hq : q = 0
      · subst hq
        have : A = 0 := by rw [← hA]; simp
        subst this
        simp
      · have := kl (A - H) (by omega) (by omega)
        have := x6 hq
        omega
    · rw [x2, x3]
      have := kg (A + H) (by omega) (by omega)
      omega
    · rw [x2, x3]
      intro hq
      by_cases hq0 : q = 0
      · omega
      · have h6 := x6 hq0
        have h7 := hHA.resolve_left hq0
        have := ke (A - H) (by omega) (by omega)
        exact i3 (by omega)
    · rw [x2, x3]
      intro hq
      have := ke (A + H) (by omega) (by omega)
      exact i4 (by omega)

theorem rung_pos_read {w m a : Nat} (h : m * 2 ^ a = V (rung w)) : (m = 0 ↔ rung w = 0) := by
  constructor
  · rintro rfl
    rw [Nat.zero_mul] at h
    exact V_inj (h.symm.trans V_zero.symm)
  · intro h0
    rw [h0, V_zero] at h
    rcases Nat.mul_eq_zero.1 h with h | h
    · exact h
    · exact absurd h (Nat.ne_of_gt (Nat.two_pow_pos a))

/-- The quotient of two numbers, the second one not nought. -/
theorem div_word {x y : Nat} (hx : rung x < inf) (hy : rung y < inf) (h0 : rung y ≠ 0) : ∃ r, Rnd (V (rung x) * U) (V (rung y)) r ∧ double.div x y = some (word (sgn x ^^ sgn y) (min r inf)) := by
  obtain ⟨m, a, e1, e2, -⟩ := read_lt hx
  obtain ⟨n, b, f1, f2, -⟩ := read_lt hy
  have hn : n ≠ 0 := fun h => h0 ((rung_pos_read f2).1 h)
  have hfb : double.fractionBits + 2 = 54 := rfl
  have hK : K = 1074 := rfl
  unfold Format.div
  rw [e1, f1, hfb]
  simp only [Datum.quotient, if_neg hn, Option.map_some, Format.write]
  have hm54 : 54 + n.log2 - m.log2 + m.log2 ≥ 54 + n.log2 := by omega
  generalize 54 + n.log2 - m.log2 = more at hm54
  have hD : m <<< more = m * 2 ^ more := Nat.shiftLeft_eq _ _
  have hp : (-1074 + (a : Int) - (-1074 + (b : Int)) - (more : Int) - 1) + K + ((b + more + 1 : Nat) : Int) = ((a + K : Nat) : Int) := by omega
  obtain ⟨r, h1, h2⟩ := nearest_rnd (sgn x ^^ sgn y) (2 * (m <<< more / n) + (m <<< more % n != 0).toNat) (-1074 + (a : Int) - (-1074 + (b : Int)) - (more : Int) - 1) (b + more + 1) (by omega)
  rw [hp, Int.toNat_natCast, hD] at h1
  refine ⟨r, ?_, by rw [h2]⟩
  by_cases hm : m = 0
  · subst hm
    have hV : V (rung x) = 0 := by rw [← e2, Nat.zero_mul]
    have z0 : (0 * 2 ^ more % n != 0) = false := by simp
    rw [z0, Nat.zero_mul, Nat.zero_div] at h1
    simp only [Nat.mul_zero, Bool.toNat_false, Nat.add_zero, Nat.zero_mul] at h1
    have := h1.uniq (rnd_zero _ (Nat.two_pow_pos _)) (Nat.two_pow_pos _)
    subst this
    rw [hV, Nat.zero_mul]
    exact rnd_zero _ (V_pos (by omega))
  · have l1 : 2 ^ m.log2 ≤ m := Nat.log2_self_le hm
    have l2 : n < 2 ^ (n.log2 + 1) := Nat.lt_log2_self
    have hbig : 2 ^ 53 ≤ m * 2 ^ more / n := by
      rw [Nat.le_div_iff_mul_le (by omega)]
      have b1 : 2 ^ m.log2 * 2 ^ more ≤ m * 2 ^ more := Nat.mul_le_mul_right _ l1
      rw [← Nat.pow_add] at b1
      have b2 : 2 ^ (53 + (n.log2 + 1)) ≤ 2 ^ (m.log2 + more) := two_pow_le (by omega)
      have b3 : 2 ^ 53 * n ≤ 2 ^ 53 * 2 ^ (n.log2 + 1) := Nat.mul_le_mul_left _ (by omega)
      rw [← Nat.pow_add] at b3
      omega
    have h3 := rnd_mark (n := n) (by omega) (by omega) h1
    have t1 : 2 * (m * 2 ^ more) * 2 ^ (a + K) = 2 ^ (more + 1) * (V (rung x) * U) := by
      rw [← e2, Nat.pow_add 2 a, Nat.pow_succ, U]
      simp only [Nat.mul_assoc, Nat.mul_left_comm, Nat.mul_comm]
    have t2 : n * 2 ^ (b + more + 1) = 2 ^ (more + 1) * V (rung y) := by
      rw [← f2, Nat.add_assoc, Nat.pow_add 2 b, ← Nat.mul_assoc, Nat.mul_comm]
    rw [t1, t2] at h3
    exact h3.unscale (Nat.two_pow_pos _)

/-- The product of two numbers. -/
theorem mul_word {x y : Nat} (hx : rung x < inf) (hy : rung y < inf) : ∃ r, Rnd (V (rung x) * V (rung y)) U r ∧ double.mul x y = some (word (sgn x ^^ sgn y) (min r inf)) := by
  obtain ⟨m, a, e1, e2, -⟩ := read_lt hx
  obtain ⟨n, b, f1, f2, -⟩ := read_lt hy
  unfold Format.mul
  rw [e1, f1]
  simp only [Datum.product, Option.map_some, Format.write]
  have hK : K = 1074 := rfl
  obtain ⟨r, h1, h2⟩ := nearest_rnd (sgn x ^^ sgn y) (m * n) (-1074 + (a : Int) + (-1074 + (b : Int))) K (by omega)
  refine ⟨r, ?_, by rw [h2]⟩
  have hp : (-1074 + (a : Int) + (-1074 + (b : Int)) + K + (K : Int)).toNat = a + b := by omega
  rw [hp] at h1
  have t1 : m * n * 2 ^ (a + b) = V (rung x) * V (rung y) := by
    rw [← e2, ← f2, Nat.pow_add]
    simp only [Nat.mul_assoc, Nat.mul_left_comm]
  rwa [t1] at h1

/-- A whole number below 2 ^ 53 has a rung of its own. -/
theorem whole_rung {n : Nat} (hn : n < 2 ^ 53) : ∃ r, V r = n * U := by
  by_cases h0 : n = 0
  · exact ⟨0, by rw [h0, Nat.zero_mul, V_zero]⟩
  · have l1 : 2 ^ n.log2 ≤ n := Nat.log2_self_le h0
    have l2 : n < 2 ^ (n.log2 + 1) := Nat.lt_log2_self
    have hL : n.log2 < 53 := (Nat.log2_lt h0).2 hn
    generalize n.log2 = L at *
    have p1 : 2 ^ L * 2 ^ (52 - L) ≤ n * 2 ^ (52 - L) := Nat.mul_le_mul_right _ l1
    have p2 : n * 2 ^ (52 - L) < 2 ^ (L + 1) * 2 ^ (52 - L) := Nat.mul_lt_mul_of_pos_right l2 (Nat.two_pow_pos _)
    rw [← Nat.pow_add] at p1 p2
    have q1 : L + (52 - L) = 52 := by omega
    have q2 : L + 1 + (52 - L) = 53 := by omega
    rw [q1] at p1
    rw [q2] at p2
    refine ⟨(1022 + L + 1) * 2 ^ 52 + (n * 2 ^ (52 - L) - 2 ^ 52), ?_⟩
    rw [V_big (1022 + L) _ (by omega)]
    have : 2 ^ 52 + (n * 2 ^ (52 - L) - 2 ^ 52) = n * 2 ^ (52 - L) := by omega
    have hK : 52 - L + (1022 + L) = K := by have : K = 1074 := rfl
                                            omega
    rw [this, Nat.mul_assoc, ← Nat.pow_add, hK, U]
theorem inf_above : V inf = 2 ^ (K + 1024) := by
  have hK : K = 1074 := rfl
  have h1 : inf = (K + 972 + 1) * 2 ^ 52 + 0 := by unfold inf; omega
  have h2 : 52 + (K + 972) = K + 1024 := by rw [hK]
  rw [h1, V_big (K + 972) 0 (by decide), Nat.add_zero, ← Nat.pow_add, h2]
theorem whole_lt_inf {n r : Nat} (hn : n < 2 ^ 53) (h : V r = n * U) : r < inf := by
  rw [← V_lt_iff, h, inf_above]
  have h1 : n * U < 2 ^ 53 * U := Nat.mul_lt_mul_of_pos_right hn U_pos
  rw [U, ← Nat.pow_add] at h1
  exact Nat.lt_of_lt_of_le h1 (two_pow_le (by omega))
theorem ofInt_word {n : Nat} (hn : n < 2 ^ 53) : ∃ r, V r = n * U ∧ r < inf ∧ FloatKind.f64.nearest (n : Int) = word false r := by
  obtain ⟨r, hr⟩ := whole_rung hn
  have hi := whole_lt_inf hn hr
  refine ⟨r, hr, hi, ?_⟩
  show double.nearest (decide ((n : Int) < 0)) (n : Int).natAbs 0 = _
  have h0 : decide ((n : Int) < 0) = false := by simp
  rw [h0, Int.natAbs_natCast]
  obtain ⟨q, h1, h2⟩ := nearest_rnd false n 0 0 (by decide)
  rw [h2]
  have e1 : ((0 : Int) + K + ((0 : Nat) : Int)).toNat = K := by omega
  rw [e1, Nat.pow_zero] at h1
  have h3 : Rnd (n * U) 1 q := h1
  rw [← hr] at h3
  have := h3.uniq (rnd_V r) (by decide)
  subst this
  rw [Nat.min_eq_left (Nat.le_of_lt hi)]

end Go.Flo
