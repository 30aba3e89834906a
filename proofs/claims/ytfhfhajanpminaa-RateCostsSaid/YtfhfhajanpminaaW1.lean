/- The small functions over floats. -/
import Derived.Test.YtfhfhajanpminaaRows
import Derived.Test.YtfhfhajanpminaaTyp
import Derived.Test.YtfhfhajanpminaaPlan
import Derived.Test.YtfhfhajanpminaaLex
import Derived.Test.YtfhfhajanpminaaF4
namespace Go.Proofs.Ytfhfhajanpminaa
open Go.RowKit Go.Gm Go.Flo

theorem isNaN_any (x : Nat) (w : World) : Calls Try.prog 13 #[.float .f64 x] w fun e w' => e = .returned (.bool (nanB x)) ∧ w = w' := by
  have e1 := ord_self x
  go_enter Try.func13, Try.ntmps13
  go_wp2_with fail
  go_ret
  exact ⟨rfl, rfl⟩
theorem isNaN36 (x : Nat) (w : World) : Calls Try.prog 36 #[.float .f64 x] w fun e w' => e = .returned (.bool (nanB x)) ∧ w = w' := by
  have e1 := ord_self x
  go_enter Try.func36, Try.ntmps36
  go_wp2_with fail
  go_ret
  exact ⟨rfl, rfl⟩
def rankI (x : Nat) : Int := if nanB x then 1 else 0
theorem rank_any (x : Nat) (w : World) : Calls Try.prog 26 #[.float .f64 x] w fun e w' => e = .returned (.int .i64 (rankI x)) ∧ w = w' := by
  have C := Lib.hid (isNaN_any x)
  unfold rankI
  generalize nanB x = b at *
  cases b
  · rw [if_neg (by decide)]
    go_enter Try.func26, Try.ntmps26
    go_wp2_with fail
    refine (C.out _).mono ?_
    rintro e w1 ⟨rfl, rfl⟩
    clear C
    go_wp2_with fail
    go_ret
    exact ⟨rfl, rfl⟩
  · rw [if_pos rfl]
    go_enter Try.func26, Try.ntmps26
    go_wp2_with fail
    refine (C.out _).mono ?_
    rintro e w1 ⟨rfl, rfl⟩
    clear C
    go_wp2_with fail
    go_ret
    exact ⟨rfl, rfl⟩
theorem run_float64bits (x : Nat) (w : World) : (callFunc 12 #[.float .f64 x]).run Try.prog w = .ok (.value (.int .u64 x)) w := by
  rw [run_callFunc_extern Try.func12 (by kernel_rfl) (by kernel_rfl) (by kernel_rfl) (e := Extern.MathFloatBits.float64bits) (by kernel_rfl)]
  rfl
theorem sgn_i64 {x : Nat} (hx : x < 2 ^ 64) : decide (wrap64 (x : Int) < 0) = sgn x := by
  have h : wrap64 (x : Int) = if x < 2 ^ 63 then (x : Int) else (x : Int) - 2 ^ 64 := by
    unfold wrap64
    split <;> omega
  rw [h]
  unfold sgn
  by_cases h1 : x < 2 ^ 63
  · have h2 : x / 2 ^ 63 % 2 = 0 := by omega
    rw [if_pos h1, h2]
    simp
  · have h2 : x / 2 ^ 63 % 2 = 1 := by omega
    rw [if_neg h1, h2]
    have : (x : Int) - 2 ^ 64 < 0 := by omega
    simp only [this, decide_true]
    rfl
theorem signbit_any (x : Nat) (w : World) (hx : x < 2 ^ 64) : Calls Try.prog 22 #[.float .f64 x] w fun e w' => e = .returned (.bool (sgn x)) ∧ w = w' := by
  have h := sgn_i64 hx
  generalize sgn x = s at *
  subst h
  go_enter Try.func22, Try.ntmps22
  go_wp2_with fail
  rw [run_float64bits, Oper.upon_value]
  go_wp2
  go_ret
  exact ⟨rfl, rfl⟩

theorem cmp_int (x y : Int) (w : World) : Calls Try.prog 25 #[.int .i64 x, .int .i64 y] w fun e w' => e = .returned (.int .i64 (cmpI x y)) ∧ w = w' := by
  unfold cmpI
  go_enter Try.func25, Try.ntmps25
  by_cases h1 : x < y
  · have d1 : decide (x < y) = true := by simpa using h1
    rw [if_pos h1]
    go_wp2
    go_ret
    exact ⟨rfl, rfl⟩
  · have d1 : decide (x < y) = false := by simpa using h1
    rw [if_neg h1]
    by_cases h2 : y < x
    · have d2 : decide (y < x) = true := by simpa using h2
      rw [if_pos h2]
      go_wp2
      go_ret
      exact ⟨rfl, rfl⟩
    · have d2 : decide (y < x) = false := by simpa using h2
      rw [if_neg h2]
      go_wp2
      go_ret
      exact ⟨rfl, rfl⟩

def cmpF (x y : Nat) : Int := if nanB x then (if nanB y then 0 else -1) else if nanB y then 1 else cmpI (key x) (key y)
theorem cmp_float (x y : Nat) (w : World) : Calls Try.prog 24 #[.float .f64 x, .float .f64 y] w fun e w' => e = .returned (.int .i64 (cmpF x y)) ∧ w = w' := by
  have hl := ord_lt x y
  have hg := ord_gt x y
  have C := Lib.hid (isNaN36 x)
  have D := Lib.hid (isNaN36 y)
  unfold cmpF cmpI
  generalize nanB x = b at *
  generalize nanB y = c at *
  cases b <;> cases c
  · rw [if_neg (by decide), if_neg (by decide)]
    by_cases h1 : key x < key y
    · have d1 : (FloatKind.f64.format.order x y == some .lt) = true := by rw [hl]; simp [h1]
      rw [if_pos h1]
      clear hl hg
      go_enter Try.func24, Try.ntmps24
      go_wp2_with fail
      refine (C.out _).mono ?_
      rintro e w1 ⟨rfl, rfl⟩
      go_wp2_with fail
      refine (D.out _).mono ?_
      rintro e w1 ⟨rfl, rfl⟩
      clear C D
      go_wp2
      go_ret
      exact ⟨rfl, rfl⟩
    · have d1 : (FloatKind.f64.format.order x y == some .lt) = false := by rw [hl]; simp [h1]
      rw [if_neg h1]
      by_cases h2 : key y < key x
      · have d2 : (FloatKind.f64.format.order x y == some .gt) = true := by rw [hg]; simp [h2]
        rw [if_pos h2]
        clear hl hg
        go_enter Try.func24, Try.ntmps24
        go_wp2_with fail
        refine (C.out _).mono ?_
        rintro e w1 ⟨rfl, rfl⟩
        go_wp2_with fail
        refine (D.out _).mono ?_
        rintro e w1 ⟨rfl, rfl⟩
        clear C D
        go_wp2
        go_ret
        exact ⟨rfl, rfl⟩
      · have d2 : (FloatKind.f64.format.order x y == some .gt) = false := by rw [hg]; simp [h2]
        rw [if_neg h2]
        clear hl hg
        go_enter Try.func24, Try.ntmps24
        go_wp2_with fail
        refine (C.out _).mono ?_
        rintro e w1 ⟨rfl, rfl⟩
        go_wp2_with fail
        refine (D.out _).mono ?_
        rintro e w1 ⟨rfl, rfl⟩
        clear C D
        go_wp2
        go_ret
        exact ⟨rfl, rfl⟩
  · rw [if_neg (by decide), if_pos rfl]
    go_enter Try.func24, Try.ntmps24
    go_wp2_with fail
    refine (C.out _).mono ?_
    rintro e w1 ⟨rfl, rfl⟩
    go_wp2_with fail
    refine (D.out _).mono ?_
    rintro e w1 ⟨rfl, rfl⟩
    clear C D
    go_wp2
    go_ret
    exact ⟨rfl, rfl⟩
  · rw [if_pos rfl, if_neg (by decide)]
    go_enter Try.func24, Try.ntmps24
    go_wp2_with fail
    refine (C.out _).mono ?_
    rintro e w1 ⟨rfl, rfl⟩
    go_wp2_with fail
    refine (D.out _).mono ?_
    rintro e w1 ⟨rfl, rfl⟩
    clear C D
    go_wp2
    go_ret
    exact ⟨rfl, rfl⟩
  · rw [if_pos rfl, if_pos rfl]
    go_enter Try.func24, Try.ntmps24
    go_wp2_with fail
    refine (C.out _).mono ?_
    rintro e w1 ⟨rfl, rfl⟩
    go_wp2_with fail
    refine (D.out _).mono ?_
    rintro e w1 ⟨rfl, rfl⟩
    clear C D
    go_wp2
    go_ret
    exact ⟨rfl, rfl⟩

theorem cost_any (x : Nat) (w : World) (hx : x < 2 ^ 64) : Calls Try.prog 15 #[.float .f64 x] w fun e w' => e = .returned (.int .i64 (costS x)) ∧ w = w' := by
  have hc : costS x = _ := costS.eq_1 x
  generalize costS x = r at *
  cases h : (FloatKind.f64.format.order x 0 == some .gt)
  · rw [h, if_neg (by decide)] at hc
    subst hc
    go_enter Try.func15, Try.ntmps15
    go_wp2_with fail
    go_ret
    exact ⟨rfl, rfl⟩
  · rw [h, if_pos rfl] at hc
    have hp := gt_zero hx h
    obtain ⟨hq, hqi⟩ := costQ_of hp
    obtain ⟨m1, m2, m3⟩ := mid_lt (costQ x)
    have hm : max (costQ x) c1 ≤ inf := by
      have : c1 ≤ inf := by decide
      omega
    have hd : 4730986895511650304 ≤ inf := by decide
    have e1 : ∀ w t, (binOp .quo t (.float .f64 4716133919349538816) (.float .f64 x)).run Try.prog w = .ok (.float .f64 (costQ x)) w := fun w t => run_float_arith w .quo t .f64 _ _ _ hq
    have e2 : ∀ w ts t, (Builtin.max_ ts t #[.float .f64 (costQ x), .float .f64 4607182418800017408]).run Try.prog w = .ok (.float .f64 (max (costQ x) c1)) w := fun w ts t => max_pos w ts t hqi (by decide)
    have e3 : ∀ w ts t, (Builtin.min_ ts t #[.float .f64 (max (costQ x) c1), .float .f64 4730986895511650304]).run Try.prog w = .ok (.float .f64 (min (max (costQ x) c1) cD)) w := fun w ts t => min_pos w ts t hm hd
    have e4 := Lib.hid (toInt_pos m1 m2)
    clear hq hqi hp m1 m2 m3 hm hd
    generalize min (max (costQ x) c1) cD = m at *
    subst hc
    go_enter Try.func15, Try.ntmps15
    have e5 := fun w => run_convert_float_int (P := Try.prog) w 22 3 .f64 .i64 m _ (by kernel_rfl) Try.underlying3 e4.out
    go_wp2_with (first | rw [e1] | rw [e2] | rw [e3] | rw [e5])
    go_ret
    exact ⟨rfl, rfl⟩
end Go.Proofs.Ytfhfhajanpminaa
