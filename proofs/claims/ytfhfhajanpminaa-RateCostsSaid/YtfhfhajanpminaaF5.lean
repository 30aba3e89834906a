/- What a speed costs, how many a percentage lets through: the plain laws. Of no program. -/
import Derived.Test.YtfhfhajanpminaaF4
import Derived.Test.YtfhfhajanpminaaLex
namespace Go.Flo
open Ieee Go.Gm

theorem costS_rng (x : Nat) : 1 ≤ costS x ∧ costS x ≤ 200000000 := by
  unfold costS
  split
  · obtain ⟨-, -, h3⟩ := mid_lt (costQ x)
    have h4 : V c1 / U ≤ V (min (max (costQ x) c1) cD) / U := Nat.div_le_div_right (V_le h3)
    have h5 : V (min (max (costQ x) c1) cD) / U ≤ V cD / U := Nat.div_le_div_right (V_le (Nat.min_le_right _ _))
    rw [V_c1, Nat.mul_div_cancel _ U_pos] at h4
    rw [V_cD, Nat.mul_div_cancel _ U_pos] at h5
    omega
  · omega

theorem costQ_anti {a b : Nat} (ha : 0 < a) (hb : b ≤ inf) (h : a ≤ b) : costQ b ≤ costQ a := by
  obtain ⟨p, e1, -, e2, e3⟩ := div_pos (a := cU) (x := a) (by decide) ⟨ha, by omega⟩
  obtain ⟨q, f1, -, f2, f3⟩ := div_pos (a := cU) (x := b) (by decide) ⟨by omega, hb⟩
  unfold costQ
  rw [e1, f1]
  simp only [Option.getD_some]
  by_cases hbi : b = inf
  · rw [f3 hbi]; exact Nat.zero_le _
  · obtain ⟨s, f4, f5⟩ := f2 (by omega)
    obtain ⟨r, e4, e5⟩ := e2 (by omega)
    have : s ≤ r := f4.mono e4 (V_pos (by omega)) (V_pos ha) (Nat.mul_le_mul_left _ (V_le h))
    omega

/-- a ≤ b of two that are not NaN, by their places. -/
theorem le_key {a b : Nat} (ha : nanB a = false) (hb : nanB b = false) (h : (FloatKind.f64.format.order a b == some .gt) = false) : key a ≤ key b := by
  rw [ord_gt, ha, hb] at h
  simpa using h
theorem gt_key {a b : Nat} (ha : nanB a = false) (hb : nanB b = false) : (FloatKind.f64.format.order a b == some .gt) = decide (key b < key a) := by
  rw [ord_gt, ha, hb]; simp
theorem nan_zero : nanB 0 = false := by decide
theorem nan_cH : nanB cH = false := by decide
theorem key_zero : key 0 = 0 := rfl
theorem key_cH : key cH = (cH : Int) := pos_key (by decide)

theorem costS_anti {a b : Nat} (xa : a < 2 ^ 64) (xb : b < 2 ^ 64) (na : nanB a = false) (nb : nanB b = false) (h : key a ≤ key b) : costS b ≤ costS a := by
  have rb := costS_rng b
  by_cases h1 : (FloatKind.f64.format.order a 0 == some .gt) = true
  · have pa := gt_zero xa h1
    have h2 : (FloatKind.f64.format.order b 0 == some .gt) = true := by
      rw [gt_key nb nan_zero, key_zero]
      rw [gt_key na nan_zero, key_zero] at h1
      simp only [decide_eq_true_eq] at h1 ⊢
      omega
    have pb := gt_zero xb h2
    have ka := pos_key pa.2
    have kb := pos_key pb.2
    unfold costS
    rw [if_pos h1, if_pos h2]
    have hq := costQ_anti pa.1 pb.2 (by omega)
    have : V (min (max (costQ b) c1) cD) / U ≤ V (min (max (costQ a) c1) cD) / U := Nat.div_le_div_right (V_le (by omega))
    omega
  · have : costS a = 200000000 := by unfold costS; rw [if_neg h1]
    omega

/-- The share of n that a percentage between nought and a hundred is, as a float. -/
def limQ (p : Nat) : Nat := (double.div p cH).getD 0
def limF (n : Nat) : Nat := FloatKind.f64.nearest (n : Int)
def limX (p n : Nat) : Nat := (double.mul (limQ p) (limF n)).getD 0

structure LimOk (p n : Nat) : Prop where
  div : double.div p cH = some (limQ p)
  mul : double.mul (limQ p) (limF n) = some (limX p n)
  q : Rnd (V p * U) (V cH) (limQ p)
  qle : limQ p ≤ c1
  f : V (limF n) = n * U
  flt : limF n < inf
  x : Rnd (V (limQ p) * V (limF n)) U (limX p n)
  xle : limX p n ≤ limF n

theorem lim_ok {p n : Nat} (hp : p < cH) (hn : n < 2 ^ 53) : LimOk p n := by
  have hi : cH < inf := by decide
  have hc : c1 < inf := by decide
  obtain ⟨q, e1, -, e2, -⟩ := div_pos (a := p) (x := cH) (by omega) ⟨by decide, by decide⟩
  obtain ⟨r, e3, e4⟩ := e2 hi
  have hr : r ≤ c1 := by
    refine e3.mono (rnd_V c1) (V_pos (by decide)) (by decide) ?_
    rw [V_c1, Nat.mul_one, Nat.one_mul, Nat.mul_comm]
    exact Nat.mul_le_mul_left _ (V_le (Nat.le_of_lt hp))
  have hq : q = r := by omega
  subst hq
  have eq : limQ p = q := by unfold limQ; rw [e1]; rfl
  obtain ⟨f, f1, f2, f3⟩ := ofInt_word hn
  have ef : limF n = f := by unfold limF; rw [f3]; rfl
  have sq := pos_sgn (a := q) (by omega)
  have rq := pos_rung (a := q) (by omega)
  have sf := pos_sgn (a := f) (by omega)
  have rf := pos_rung (a := f) (by omega)
  obtain ⟨s, g1, g2⟩ := mul_word (x := q) (y := f) (by omega) (by omega)
  rw [rq, rf] at g1
  rw [sq, sf] at g2
  have hs : s ≤ f := by
    refine g1.mono (rnd_V f) U_pos (by decide) ?_
    rw [Nat.mul_one, Nat.mul_comm]
    refine Nat.mul_le_mul_left _ ?_
    have := V_le hr
    rwa [V_c1, Nat.one_mul] at this
  have g3 : double.mul q f = some s := by
    rw [g2, Nat.min_eq_left (by omega)]; rfl
  have ex : limX p n = s := by unfold limX; rw [eq, ef, g3]; rfl
  refine ⟨by rw [eq, e1], by rw [eq, ef, ex, g3], by rw [eq]; exact e3, by rw [eq]; exact hr, by rw [ef]; exact f1, by rw [ef]; exact f2, ?_, by rw [ef, ex]; exact hs⟩
  rw [eq, ef, ex]
  exact g1

theorem LimOk.share {p n : Nat} (h : LimOk p n) : V (limX p n) / U ≤ n := by
  have : V (limX p n) / U ≤ V (limF n) / U := Nat.div_le_div_right (V_le h.xle)
  rwa [h.f, Nat.mul_div_cancel _ U_pos] at this
theorem lim_mono {p q n m : Nat} (h : LimOk p n) (g : LimOk q m) (hpq : p ≤ q) (hnm : n ≤ m) : limX p n ≤ limX q m := by
  have h1 : limQ p ≤ limQ q := h.q.mono g.q (V_pos (by decide)) (V_pos (by decide)) (Nat.mul_le_mul_right _ (Nat.mul_le_mul_right _ (V_le hpq)))
  have h2 : V (limF n) ≤ V (limF m) := by rw [h.f, g.f]; exact Nat.mul_le_mul_right _ hnm
  exact h.x.mono g.x U_pos U_pos (Nat.mul_le_mul_right _ (Nat.mul_le_mul (V_le h1) h2))

/-- How many of c a percentage lets through. -/
def limN (c : Int) : Int := min c 1073741824
def limS (p : Nat) (c : Int) : Int :=
  if limN c < 1 then 0 else if (FloatKind.f64.format.order p 0 == some .gt) = true then
    (if (FloatKind.f64.format.order p cH == some .gt || FloatKind.f64.format.order p cH == some .eq) = true then limN c else ((V (limX p (limN c).toNat) / U : Nat) : Int)) else 0

/-- Between nought and a hundred. -/
theorem lim_mid {p : Nat} (hx : p < 2 ^ 64) (h : (FloatKind.f64.format.order p 0 == some .gt) = true) (h' : (FloatKind.f64.format.order p cH == some .gt || FloatKind.f64.format.order p cH == some .eq) = false) : 0 < p ∧ p < cH := by
  obtain ⟨h1, h2⟩ := gt_zero hx h
  refine ⟨h1, ?_⟩
  have hn : nanB p = false := by simp [nanB, pos_nan h2]
  rw [ord_gt, ord_eq, hn, nan_cH, key_cH, pos_key h2] at h'
  simp at h'
  omega

theorem limS_rng {p : Nat} (hp : p < 2 ^ 64) (c : Int) : 0 ≤ limS p c ∧ (limS p c ≤ c ∨ limS p c = 0) := by
  unfold limS
  split
  · omega
  · rename_i h0
    split
    · rename_i h1
      split
      · unfold limN at *; omega
      · rename_i h2
        obtain ⟨-, h3⟩ := lim_mid hp h1 (by simpa using h2)
        have := (lim_ok (n := (limN c).toNat) h3 (by unfold limN; omega)).share
        generalize V (limX p (limN c).toNat) / U = z at *
        unfold limN at *
        omega
    · omega

theorem limS_mono {p q : Nat} {c d : Int} (hp : p < 2 ^ 64) (hq : q < 2 ^ 64) (np : nanB p = false) (nq : nanB q = false) (h : key p ≤ key q) (hcd : c ≤ d) : limS p c ≤ limS q d := by
  have r := limS_rng hq d
  have hN : limN c ≤ limN d := by unfold limN; omega
  by_cases h0 : limN c < 1
  · have : limS p c = 0 := by unfold limS; rw [if_pos h0]
    omega
  have h0' : ¬ limN d < 1 := by omega
  by_cases h1 : (FloatKind.f64.format.order p 0 == some .gt) = true
  · have pp := gt_zero hp h1
    have h1' : (FloatKind.f64.format.order q 0 == some .gt) = true := by
      rw [gt_key nq nan_zero, key_zero]
      rw [gt_key np nan_zero, key_zero] at h1
      simp only [decide_eq_true_eq] at h1 ⊢
      omega
    have pq := gt_zero hq h1'
    have kp := pos_key pp.2
    have kq := pos_key pq.2
    have e : ∀ x : Nat, nanB x = false → (FloatKind.f64.format.order x cH == some .gt || FloatKind.f64.format.order x cH == some .eq) = decide ((cH : Int) ≤ key x) := by
      intro x hx
      rw [ord_gt, ord_eq, hx, nan_cH, key_cH]
      rw [Bool.eq_iff_iff]
      simp
      omega
    unfold limS
    rw [if_neg h0, if_neg h0', if_pos h1, if_pos h1', e p np, e q nq]
    by_cases h3 : (cH : Int) ≤ key p
    · have h3' : (cH : Int) ≤ key q := by omega
      simp only [h3, h3', decide_true, if_true]
      exact hN
    · have okp := lim_ok (p := p) (n := (limN c).toNat) (by omega) (by unfold limN; omega)
      simp only [h3, decide_false, Bool.false_eq_true, if_false]
      by_cases h3' : (cH : Int) ≤ key q
      · simp only [h3', decide_true, if_true]
        have := okp.share
        omega
      · have okq := lim_ok (p := q) (n := (limN d).toNat) (by omega) (by unfold limN; omega)
        simp only [h3', decide_false, Bool.false_eq_true, if_false]
        have : V (limX p (limN c).toNat) / U ≤ V (limX q (limN d).toNat) / U := Nat.div_le_div_right (V_le (lim_mono okp okq (by omega) (by omega)))
        omega
  · have : limS p c = 0 := by unfold limS; rw [if_neg h0, if_neg h1]
    omega

/-! ### The order of all -/

def sgI (x : Nat) : Int := if sgn x then 0 else 1
def cmpS (a b : Nat) : Int := if nanB a then (if nanB b then 0 else 1) else if nanB b then -1 else if cmpI (key a) (key b) = 0 then cmpI (sgI a) (sgI b) else cmpI (key a) (key b)

theorem cmpS_neg (a b : Nat) : cmpS b a = - cmpS a b := by
  unfold cmpS
  have h1 := cmpI_neg (key a) (key b)
  have h2 := cmpI_neg (sgI a) (sgI b)
  cases nanB a <;> cases nanB b <;> simp only [Bool.false_eq_true, if_false, if_true] <;> (try split) <;> (try split) <;> omega
/-- Two stand alike just if they are one word, or none is a number. -/
theorem key_sgn {a b : Nat} (ha : a < 2 ^ 64) (hb : b < 2 ^ 64) (h : key a = key b) (hs : sgn a = sgn b) : a = b := by
  have h1 := word_of a ha
  have h2 := word_of b hb
  unfold key at h
  rw [hs] at h h1
  have : rung a = rung b := by
    cases hb : sgn b <;> rw [hb] at h <;> simp at h <;> omega
  rw [this] at h1
  exact h1.symm.trans h2
theorem cmpS_zero {a b : Nat} (ha : a < 2 ^ 64) (hb : b < 2 ^ 64) : cmpS a b = 0 ↔ a = b ∨ (nanB a = true ∧ nanB b = true) := by
  unfold cmpS
  cases na : nanB a <;> cases nb : nanB b <;> simp only [Bool.false_eq_true, if_false, if_true]
  · have hk := @cmpI_zero (key a) (key b)
    have hs := @cmpI_zero (sgI a) (sgI b)
    constructor
    · intro h
      split at h
      · rename_i h0
        have e := hs.1 h
        refine .inl (key_sgn ha hb (hk.1 h0) ?_)
        unfold sgI at e
        cases x : sgn a <;> cases y : sgn b <;> simp [x, y] at e ⊢
      · contradiction
    · rintro (rfl | ⟨h, -⟩)
      · rw [if_pos (cmpI_self _)]; exact cmpI_self _
      · exact absurd h (by decide)
  · constructor
    · intro h; exact absurd h (by decide)
    · rintro (rfl | ⟨h, -⟩)
      · rw [na] at nb; exact absurd nb (by decide)
      · exact absurd h (by decide)
  · constructor
    · intro h; exact absurd h (by decide)
    · rintro (rfl | ⟨-, h⟩)
      · rw [na] at nb; exact absurd nb (by decide)
      · exact absurd h (by decide)
  · simp
def rankL (x : Nat) : List Int := [if nanB x then 1 else 0, if nanB x then 0 else key x, if nanB x then 0 else sgI x]
theorem cmpS_lex (a b : Nat) : cmpS a b = lex (rankL a) (rankL b) := by
  unfold cmpS rankL
  have h1 : cmpI 0 1 = -1 := by decide
  have h2 : cmpI 1 0 = 1 := by decide
  cases nanB a <;> cases nanB b <;> simp only [Bool.false_eq_true, if_false, if_true, lex, cmpI_self, h1, h2]
  · split
    · split
      · rename_i h; exact h
      · rfl
    · rfl
  · rfl
  · rfl
theorem cmpS_trans (a b c : Nat) (h1 : cmpS a b ≤ 0) (h2 : cmpS b c ≤ 0) : cmpS a c ≤ 0 ∧ (cmpS a c < 0 ∨ (cmpS a b = 0 ∧ cmpS b c = 0)) := by
  rw [cmpS_lex] at h1 h2
  rw [cmpS_lex a b, cmpS_lex b c, cmpS_lex a c]
  obtain ⟨h3, h4⟩ := lex_trans h1 h2
  refine ⟨h3, ?_⟩
  by_cases h5 : lex (rankL a) (rankL b) < 0 ∨ lex (rankL b) (rankL c) < 0
  · exact .inl (h4 h5)
  · exact .inr (by omega)
end Go.Flo
