/- Cost, Limit and Compare: the document. -/
import Derived.Test.YtfhfhajanpminaaW2
namespace Go.Proofs.Ytfhfhajanpminaa
open Go.RowKit Go.Gm Go.Flo

/-- Infinity, of the greater ones. -/
theorem isInf_pos (x : Nat) (w : World) (hx : x ≤ inf) : Calls Try.prog 27 #[.float .f64 x, .int .i64 1] w fun e w' => e = .returned (.bool (x == inf)) ∧ w = w' := by
  have h : (FloatKind.f64.format.order x 9218868437227405311 == some .gt) = (x == inf) := by
    have h1 : (9218868437227405311 : Nat) ≤ inf := by decide
    have h2 : inf = 9218868437227405312 := by decide
    rw [ord_gt, pos_key hx, pos_key h1]
    simp only [nanB, pos_nan hx, pos_nan h1, decide_false, Bool.not_false, Bool.true_and]
    rw [Bool.eq_iff_iff]
    simp only [decide_eq_true_eq, beq_iff_eq]
    omega
  generalize (x == inf) = r at *
  subst h
  go_enter Try.func27, Try.ntmps27
  go_wp2_with fail
  go_ret
  exact ⟨rfl, rfl⟩

theorem rcost_any (x : Nat) (w : World) (hx : x < 2 ^ 64) : Calls Try.prog 16 #[.float .f64 x] w fun e w' => e = .returned (.int .i64 (costS x)) ∧ w = w' := by
  have C := Lib.hid (isNaN_any x)
  unfold costS
  cases h : (FloatKind.f64.format.order x 0 == some .gt)
  · rw [if_neg (by decide)]
    rw [ord_gt, nan_zero, key_zero] at h
    have h' : (FloatKind.f64.format.order x 0 == some .lt || FloatKind.f64.format.order x 0 == some .eq) = !nanB x := by
      rw [ord_lt, ord_eq, nan_zero, key_zero]
      cases hn : nanB x
      · rw [hn] at h
        simp at h
        rw [Bool.eq_iff_iff]
        simp
        omega
      · simp
    clear h
    generalize nanB x = n at *
    cases n
    · go_enter Try.func16, Try.ntmps16
      go_wp2_with fail
      refine (C.out _).mono ?_
      rintro e w1 ⟨rfl, rfl⟩
      go_wp2_with fail
      go_ret
      exact ⟨rfl, rfl⟩
    · go_enter Try.func16, Try.ntmps16
      go_wp2_with fail
      refine (C.out _).mono ?_
      rintro e w1 ⟨rfl, rfl⟩
      go_wp2_with fail
      go_ret
      exact ⟨rfl, rfl⟩
  · rw [if_pos rfl]
    have hp := gt_zero hx h
    obtain ⟨hq, hqi⟩ := costQ_of hp
    have hn : nanB x = false := by simp [nanB, pos_nan hp.2]
    rw [hn] at C
    have h' : (FloatKind.f64.format.order x 0 == some .lt || FloatKind.f64.format.order x 0 == some .eq) = false := by
      rw [ord_lt, ord_eq, nan_zero, key_zero, pos_key hp.2, hn]
      simp
      omega
    have D := Lib.hid (isInf_pos x · hp.2)
    by_cases hi : x = inf
    · have d0 : (x == inf) = true := by simp [hi]
      rw [d0] at D
      have hz : V (min (max (costQ x) c1) cD) / U = 1 := by
        have : costQ x = 0 := by
          obtain ⟨q, e1, -, -, e3⟩ := div_pos (a := cU) (x := x) (by decide) hp
          unfold costQ
          rw [e1, e3 hi]; rfl
        rw [this, show min (max 0 c1) cD = c1 by decide, V_c1, Nat.mul_div_cancel _ U_pos]
      rw [hz]
      clear hi
      go_enter Try.func16, Try.ntmps16
      go_wp2_with fail
      refine (C.out _).mono ?_
      rintro e w1 ⟨rfl, rfl⟩
      go_wp2_with fail
      refine (D.out _).mono ?_
      rintro e w1 ⟨rfl, rfl⟩
      go_wp2_with fail
      go_ret
      exact ⟨rfl, rfl⟩
    · have d0 : (x == inf) = false := by simp [hi]
      rw [d0] at D
      have e1 : ∀ w t, (binOp .quo t (.float .f64 4716133919349538816) (.float .f64 x)).run Try.prog w = .ok (.float .f64 (costQ x)) w := fun w t => run_float_arith w .quo t .f64 _ _ _ hq
      have iD : cD ≤ inf := by decide
      have i1 : c1 ≤ inf := by decide
      have f1 : (FloatKind.f64.format.order (costQ x) 4730986895511650304 == some .gt || FloatKind.f64.format.order (costQ x) 4730986895511650304 == some .eq) = decide (cD ≤ costQ x) := by
        show (FloatKind.f64.format.order (costQ x) cD == some .gt || FloatKind.f64.format.order (costQ x) cD == some .eq) = _
        rw [ord_gt, ord_eq, pos_key hqi, pos_key iD]
        simp only [nanB, pos_nan hqi, pos_nan iD, decide_false, Bool.not_false, Bool.true_and]
        rw [Bool.eq_iff_iff]
        simp
        omega
      have f2 : (FloatKind.f64.format.order (costQ x) 4607182418800017408 == some .lt) = decide (costQ x < c1) := by
        show (FloatKind.f64.format.order (costQ x) c1 == some .lt) = _
        rw [ord_lt, pos_key hqi, pos_key i1]
        simp only [nanB, pos_nan hqi, pos_nan i1, decide_false, Bool.not_false, Bool.true_and]
        rw [Bool.eq_iff_iff]
        simp
      have hm := toInt_pos (a := costQ x)
      have c1D : c1 ≤ cD := by decide
      have iDs : cD < inf := by decide
      by_cases g1 : cD ≤ costQ x
      · have d1 : decide (cD ≤ costQ x) = true := by simpa using g1
        rw [d1] at f1
        have hz : V (min (max (costQ x) c1) cD) / U = 200000000 := by
          rw [show min (max (costQ x) c1) cD = cD by omega, V_cD, Nat.mul_div_cancel _ U_pos]
        rw [hz]
        clear hm hq hqi hp h hn iD i1 f2 hi g1 hz d1 c1D iDs
        go_enter Try.func16, Try.ntmps16
        go_wp2_with fail
        refine (C.out _).mono ?_
        rintro e w1 ⟨rfl, rfl⟩
        go_wp2_with fail
        refine (D.out _).mono ?_
        rintro e w1 ⟨rfl, rfl⟩
        go_wp2_with (rw [e1])
        go_ret
        exact ⟨rfl, rfl⟩
      · have d1 : decide (cD ≤ costQ x) = false := by simpa using g1
        rw [d1] at f1
        by_cases g2 : costQ x < c1
        · have d2 : decide (costQ x < c1) = true := by simpa using g2
          rw [d2] at f2
          have hz : V (min (max (costQ x) c1) cD) / U = 1 := by
            rw [show min (max (costQ x) c1) cD = c1 by omega, V_c1, Nat.mul_div_cancel _ U_pos]
          rw [hz]
          clear hm hq hqi hp h hn iD i1 hi g1 hz d1 d2 g2 c1D iDs
          go_enter Try.func16, Try.ntmps16
          go_wp2_with fail
          refine (C.out _).mono ?_
          rintro e w1 ⟨rfl, rfl⟩
          go_wp2_with fail
          refine (D.out _).mono ?_
          rintro e w1 ⟨rfl, rfl⟩
          go_wp2_with (rw [e1])
          go_ret
          exact ⟨rfl, rfl⟩
        · have d2 : decide (costQ x < c1) = false := by simpa using g2
          rw [d2] at f2
          have hz : min (max (costQ x) c1) cD = costQ x := by omega
          rw [hz]
          have hb : V (costQ x) / U ≤ V cD / U := Nat.div_le_div_right (V_le (by omega))
          rw [V_cD, Nat.mul_div_cancel _ U_pos] at hb
          have e5 := fun w => run_convert_float_int (P := Try.prog) w 22 3 .f64 .i64 (costQ x) _ (by kernel_rfl) Try.underlying3 (hm (by omega) (by omega))
          clear hm hq hqi hp h hn iD i1 hi g1 hz d1 d2 g2 hb c1D iDs
          generalize (((V (costQ x) / U : Nat) : Int)) = z at *
          go_enter Try.func16, Try.ntmps16
          go_wp2_with fail
          refine (C.out _).mono ?_
          rintro e w1 ⟨rfl, rfl⟩
          go_wp2_with fail
          refine (D.out _).mono ?_
          rintro e w1 ⟨rfl, rfl⟩
          go_wp2_with (first | rw [e1] | rw [e5])
          go_ret
          exact ⟨rfl, rfl⟩

theorem rlimit_any (p : Nat) (c : Int) (w : World) (hp : p < 2 ^ 64) : Calls Try.prog 10 #[.float .f64 p, .int .i64 c] w fun e w' => e = .returned (.int .i64 (limS p c)) ∧ w = w' := by
  have C := Lib.hid (isNaN_any p)
  unfold limS
  by_cases h0 : c < 1
  · have d0 : decide (c < 1) = true := by simpa using h0
    rw [if_pos (by unfold limN; omega)]
    clear h0
    go_enter Try.func10, Try.ntmps10
    go_wp2_with fail
    go_ret
    exact ⟨rfl, rfl⟩
  · have d0 : decide (c < 1) = false := by simpa using h0
    rw [if_neg (by unfold limN; omega)]
    cases h1 : (FloatKind.f64.format.order p 0 == some .gt)
    · rw [if_neg (by decide)]
      rw [ord_gt, nan_zero, key_zero] at h1
      have h' : (FloatKind.f64.format.order p 0 == some .lt || FloatKind.f64.format.order p 0 == some .eq) = !nanB p := by
        rw [ord_lt, ord_eq, nan_zero, key_zero]
        cases hn : nanB p
        · rw [hn] at h1
          simp at h1
          rw [Bool.eq_iff_iff]
          simp
          omega
        · simp
      clear h1 h0
      generalize nanB p = n at *
      cases n
      · go_enter Try.func10, Try.ntmps10
        go_wp2_with fail
        refine (C.out _).mono ?_
        rintro e w1 ⟨rfl, rfl⟩
        go_wp2_with fail
        go_ret
        exact ⟨rfl, rfl⟩
      · go_enter Try.func10, Try.ntmps10
        go_wp2_with fail
        refine (C.out _).mono ?_
        rintro e w1 ⟨rfl, rfl⟩
        go_wp2_with fail
        go_ret
        exact ⟨rfl, rfl⟩
    · rw [if_pos rfl]
      have hq := gt_zero hp h1
      have hn : nanB p = false := by simp [nanB, pos_nan hq.2]
      rw [hn] at C
      have h' : (FloatKind.f64.format.order p 0 == some .lt || FloatKind.f64.format.order p 0 == some .eq) = false := by
        rw [ord_lt, ord_eq, nan_zero, key_zero, pos_key hq.2, hn]
        simp
        omega
      have hN0 : limN c = (((limN c).toNat : Nat) : Int) := by unfold limN; omega
      have hNb : (limN c).toNat < 2 ^ 53 := by unfold limN; omega
      have hNs : (limN c).toNat < 2 ^ 63 := by omega
      have hC : (FloatKind.f64.format.order p cH == some .gt || FloatKind.f64.format.order p cH == some .eq) = decide (cH ≤ p) := by
        have iH : cH ≤ inf := by decide
        rw [ord_gt, ord_eq, nan_cH, key_cH, pos_key hq.2, hn]
        rw [Bool.eq_iff_iff]
        simp
        omega
      have hC' : (FloatKind.f64.format.order p 4636737291354636288 == some .gt || FloatKind.f64.format.order p 4636737291354636288 == some .eq) = decide (cH ≤ p) := hC
      rw [hC]
      clear hC
      by_cases g1 : cH ≤ p
      · have d1 : decide (cH ≤ p) = true := by simpa using g1
        rw [d1] at hC'
        rw [d1, if_pos rfl]
        by_cases g4 : 1073741824 < c
        · have d4 : decide (1073741824 < c) = true := by simpa using g4
          have hc : limN c = 1073741824 := by unfold limN; omega
          rw [hc]
          clear hN0 hNb hNs g1 g4 hc h0 h1 hn hq d1
          go_enter Try.func10, Try.ntmps10
          go_wp2_with fail
          refine (C.out _).mono ?_
          rintro e w1 ⟨rfl, rfl⟩
          go_wp2_with fail
          go_ret
          exact ⟨rfl, rfl⟩
        · have d4 : decide (1073741824 < c) = false := by simpa using g4
          have hc : limN c = c := by unfold limN; omega
          rw [hc]
          clear hN0 hNb hNs g1 g4 hc h0 h1 hn hq d1
          go_enter Try.func10, Try.ntmps10
          go_wp2_with fail
          refine (C.out _).mono ?_
          rintro e w1 ⟨rfl, rfl⟩
          go_wp2_with fail
          go_ret
          exact ⟨rfl, rfl⟩
      · have d1 : decide (cH ≤ p) = false := by simpa using g1
        rw [d1] at hC'
        rw [d1, if_neg (by decide)]
        have ok := lim_ok (n := (limN c).toNat) (p := p) (by omega) hNb
        have hxi : limX p (limN c).toNat < inf := Nat.lt_of_le_of_lt ok.xle ok.flt
        have hsh := ok.share
        have hx := toInt_pos hxi (by omega)
        have e1 : ∀ w t, (binOp .quo t (.float .f64 p) (.float .f64 4636737291354636288)).run Try.prog w = .ok (.float .f64 (limQ p)) w := fun w t => run_float_arith w .quo t .f64 _ _ _ ok.div
        have e2 : ∀ w, (convert 3 22 (.int .i64 (limN c))).run Try.prog w = .ok (.float .f64 (limF (limN c).toNat)) w := fun w => by
          have := run_convert_int_float (P := Try.prog) w 3 22 .i64 .f64 (limN c) (by kernel_rfl) Try.underlying22
          rw [this]
          unfold limF
          rw [← hN0]
          rfl
        have e3 : ∀ w t, (binOp .mul t (.float .f64 (limQ p)) (.float .f64 (limF (limN c).toNat))).run Try.prog w = .ok (.float .f64 (limX p (limN c).toNat)) w := fun w t => run_float_arith w .mul t .f64 _ _ _ ok.mul
        have e5 := fun w => run_convert_float_int (P := Try.prog) w 22 3 .f64 .i64 (limX p (limN c).toNat) _ (by kernel_rfl) Try.underlying3 hx
        have f1 : (FloatKind.f64.format.order (limX p (limN c).toNat) (limF (limN c).toNat) == some .gt || FloatKind.f64.format.order (limX p (limN c).toNat) (limF (limN c).toNat) == some .eq) = decide (limX p (limN c).toNat = limF (limN c).toNat) := by
          have i1 := Nat.le_of_lt hxi
          have i2 := Nat.le_of_lt ok.flt
          have i3 := ok.xle
          rw [ord_gt, ord_eq, pos_key i1, pos_key i2]
          simp only [nanB, pos_nan i1, pos_nan i2, decide_false, Bool.not_false, Bool.true_and]
          rw [Bool.eq_iff_iff]
          simp
          omega
        have hfull : limX p (limN c).toNat = limF (limN c).toNat → ((V (limX p (limN c).toNat) / U : Nat) : Int) = limN c := fun h => by
          rw [h, ok.f, Nat.mul_div_cancel _ U_pos]; exact hN0.symm
        clear ok hxi hsh hx
        generalize (((V (limX p (limN c).toNat) / U : Nat) : Int)) = z at *
        generalize limX p (limN c).toNat = X at *
        generalize limF (limN c).toNat = F at *
        generalize limQ p = Q at *
        by_cases g4 : 1073741824 < c
        · have d4 : decide (1073741824 < c) = true := by simpa using g4
          have hc : limN c = 1073741824 := by unfold limN; omega
          rw [hc] at e2 hfull
          by_cases g2 : X = F
          · have d2 : decide (X = F) = true := by simpa using g2
            rw [d2] at f1
            rw [hfull g2]
            clear hN0 hNb hNs g1 g4 hc h0 h1 hn hq d1 hfull g2 d2
            go_enter Try.func10, Try.ntmps10
            go_wp2_with fail
            refine (C.out _).mono ?_
            rintro e w1 ⟨rfl, rfl⟩
            go_wp2_with (first | rw [e1] | rw [e2] | rw [e3] | rw [e5])
            go_ret
            exact ⟨rfl, rfl⟩
          · have d2 : decide (X = F) = false := by simpa using g2
            rw [d2] at f1
            clear hN0 hNb hNs g1 g4 hc h0 h1 hn hq d1 hfull g2 d2
            go_enter Try.func10, Try.ntmps10
            go_wp2_with fail
            refine (C.out _).mono ?_
            rintro e w1 ⟨rfl, rfl⟩
            go_wp2_with (first | rw [e1] | rw [e2] | rw [e3] | rw [e5])
            go_ret
            exact ⟨rfl, rfl⟩
        · have d4 : decide (1073741824 < c) = false := by simpa using g4
          have hc : limN c = c := by unfold limN; omega
          rw [hc] at e2 hfull
          by_cases g2 : X = F
          · have d2 : decide (X = F) = true := by simpa using g2
            rw [d2] at f1
            rw [hfull g2]
            clear hN0 hNb hNs g1 g4 hc h0 h1 hn hq d1 hfull g2 d2
            go_enter Try.func10, Try.ntmps10
            go_wp2_with fail
            refine (C.out _).mono ?_
            rintro e w1 ⟨rfl, rfl⟩
            go_wp2_with (first | rw [e1] | rw [e2] | rw [e3] | rw [e5])
            go_ret
            exact ⟨rfl, rfl⟩
          · have d2 : decide (X = F) = false := by simpa using g2
            rw [d2] at f1
            clear hN0 hNb hNs g1 g4 hc h0 h1 hn hq d1 hfull g2 d2
            go_enter Try.func10, Try.ntmps10
            go_wp2_with fail
            refine (C.out _).mono ?_
            rintro e w1 ⟨rfl, rfl⟩
            go_wp2_with (first | rw [e1] | rw [e2] | rw [e3] | rw [e5])
            go_ret
            exact ⟨rfl, rfl⟩

theorem rcompare_any (a b : Nat) (w : World) (ha : a < 2 ^ 64) (hb : b < 2 ^ 64) : Calls Try.prog 14 #[.float .f64 a, .float .f64 b] w fun e w' => e = .returned (.int .i64 (cmpS a b)) ∧ w = w' := by
  have C := Lib.hid (rank_any a)
  have D := Lib.hid (rank_any b)
  have E := Lib.hid (signbit_any a · ha)
  have F := Lib.hid (signbit_any b · hb)
  have hl := ord_lt a b
  have hg := ord_gt a b
  have hcl := @cmpI_lt (key a) (key b)
  have hcg := @cmpI_gt (key a) (key b)
  have hcz := @cmpI_zero (key a) (key b)
  unfold rankI at C D
  unfold cmpS sgI
  generalize nanB a = x at *
  generalize nanB b = y at *
  generalize sgn a = s at *
  generalize sgn b = t at *
  generalize cmpI (key a) (key b) = m at *
  generalize key a = ka at *
  generalize key b = kb at *
  cases x <;> cases y
  · rw [if_neg (by decide)] at C D
    rw [if_neg (by decide), if_neg (by decide)]
    by_cases h1 : ka < kb
    · have d1 : (FloatKind.f64.format.order a b == some .lt) = true := by rw [hl]; simp [h1]
      obtain rfl := hcl.2 h1
      rw [if_neg (by decide)]
      clear hl hg hcl hcg hcz h1
      go_enter Try.func14, Try.ntmps14
      go_wp2_with fail
      refine (C.out _).mono ?_
      rintro e w1 ⟨rfl, rfl⟩
      go_wp2_with fail
      refine (D.out _).mono ?_
      rintro e w1 ⟨rfl, rfl⟩
      go_wp2_with fail
      refine (C.out _).mono ?_
      rintro e w1 ⟨rfl, rfl⟩
      go_wp2_with fail
      go_ret
      exact ⟨rfl, rfl⟩
    · have d1 : (FloatKind.f64.format.order a b == some .lt) = false := by rw [hl]; simp [h1]
      by_cases h2 : kb < ka
      · have d2 : (FloatKind.f64.format.order a b == some .gt) = true := by rw [hg]; simp [h2]
        obtain rfl := hcg.2 h2
        rw [if_neg (by decide)]
        clear hl hg hcl hcg hcz h1 h2
        go_enter Try.func14, Try.ntmps14
        go_wp2_with fail
        refine (C.out _).mono ?_
        rintro e w1 ⟨rfl, rfl⟩
        go_wp2_with fail
        refine (D.out _).mono ?_
        rintro e w1 ⟨rfl, rfl⟩
        go_wp2_with fail
        refine (C.out _).mono ?_
        rintro e w1 ⟨rfl, rfl⟩
        go_wp2_with fail
        go_ret
        exact ⟨rfl, rfl⟩
      · have d2 : (FloatKind.f64.format.order a b == some .gt) = false := by rw [hg]; simp [h2]
        obtain rfl := hcz.2 (by omega)
        rw [if_pos rfl]
        clear hl hg hcl hcg hcz h1 h2
        cases s <;> cases t
        · show Calls Try.prog 14 _ _ fun e w' => e = .returned (.int .i64 (0)) ∧ w = w'
          go_enter Try.func14, Try.ntmps14
          go_wp2_with fail
          refine (C.out _).mono ?_
          rintro e w1 ⟨rfl, rfl⟩
          go_wp2_with fail
          refine (D.out _).mono ?_
          rintro e w1 ⟨rfl, rfl⟩
          go_wp2_with fail
          refine (C.out _).mono ?_
          rintro e w1 ⟨rfl, rfl⟩
          go_wp2_with fail
          refine (E.out _).mono ?_
          rintro e w1 ⟨rfl, rfl⟩
          go_wp2_with fail
          refine (F.out _).mono ?_
          rintro e w1 ⟨rfl, rfl⟩
          go_wp2_with fail
          go_ret
          exact ⟨rfl, rfl⟩
        · show Calls Try.prog 14 _ _ fun e w' => e = .returned (.int .i64 (1)) ∧ w = w'
          go_enter Try.func14, Try.ntmps14
          go_wp2_with fail
          refine (C.out _).mono ?_
          rintro e w1 ⟨rfl, rfl⟩
          go_wp2_with fail
          refine (D.out _).mono ?_
          rintro e w1 ⟨rfl, rfl⟩
          go_wp2_with fail
          refine (C.out _).mono ?_
          rintro e w1 ⟨rfl, rfl⟩
          go_wp2_with fail
          refine (E.out _).mono ?_
          rintro e w1 ⟨rfl, rfl⟩
          go_wp2_with fail
          refine (F.out _).mono ?_
          rintro e w1 ⟨rfl, rfl⟩
          go_wp2_with fail
          go_ret
          exact ⟨rfl, rfl⟩
        · show Calls Try.prog 14 _ _ fun e w' => e = .returned (.int .i64 (-1)) ∧ w = w'
          go_enter Try.func14, Try.ntmps14
          go_wp2_with fail
          refine (C.out _).mono ?_
          rintro e w1 ⟨rfl, rfl⟩
          go_wp2_with fail
          refine (D.out _).mono ?_
          rintro e w1 ⟨rfl, rfl⟩
          go_wp2_with fail
          refine (C.out _).mono ?_
          rintro e w1 ⟨rfl, rfl⟩
          go_wp2_with fail
          refine (E.out _).mono ?_
          rintro e w1 ⟨rfl, rfl⟩
          go_wp2_with fail
          refine (F.out _).mono ?_
          rintro e w1 ⟨rfl, rfl⟩
          go_wp2_with fail
          go_ret
          exact ⟨rfl, rfl⟩
        · show Calls Try.prog 14 _ _ fun e w' => e = .returned (.int .i64 (0)) ∧ w = w'
          go_enter Try.func14, Try.ntmps14
          go_wp2_with fail
          refine (C.out _).mono ?_
          rintro e w1 ⟨rfl, rfl⟩
          go_wp2_with fail
          refine (D.out _).mono ?_
          rintro e w1 ⟨rfl, rfl⟩
          go_wp2_with fail
          refine (C.out _).mono ?_
          rintro e w1 ⟨rfl, rfl⟩
          go_wp2_with fail
          refine (E.out _).mono ?_
          rintro e w1 ⟨rfl, rfl⟩
          go_wp2_with fail
          refine (F.out _).mono ?_
          rintro e w1 ⟨rfl, rfl⟩
          go_wp2_with fail
          go_ret
          exact ⟨rfl, rfl⟩
  · rw [if_neg (by decide)] at C
    rw [if_pos rfl] at D
    rw [if_neg (by decide), if_pos rfl]
    clear hl hg hcl hcg hcz E F
    go_enter Try.func14, Try.ntmps14
    go_wp2_with fail
    refine (C.out _).mono ?_
    rintro e w1 ⟨rfl, rfl⟩
    go_wp2_with fail
    refine (D.out _).mono ?_
    rintro e w1 ⟨rfl, rfl⟩
    go_wp2_with fail
    refine (C.out _).mono ?_
    rintro e w1 ⟨rfl, rfl⟩
    go_wp2_with fail
    refine (D.out _).mono ?_
    rintro e w1 ⟨rfl, rfl⟩
    go_wp2_with fail
    go_ret
    exact ⟨rfl, rfl⟩
  · rw [if_neg (by decide)] at D
    rw [if_pos rfl] at C
    rw [if_pos rfl, if_neg (by decide)]
    clear hl hg hcl hcg hcz E F
    go_enter Try.func14, Try.ntmps14
    go_wp2_with fail
    refine (C.out _).mono ?_
    rintro e w1 ⟨rfl, rfl⟩
    go_wp2_with fail
    refine (D.out _).mono ?_
    rintro e w1 ⟨rfl, rfl⟩
    go_wp2_with fail
    refine (C.out _).mono ?_
    rintro e w1 ⟨rfl, rfl⟩
    go_wp2_with fail
    refine (D.out _).mono ?_
    rintro e w1 ⟨rfl, rfl⟩
    go_wp2_with fail
    go_ret
    exact ⟨rfl, rfl⟩
  · rw [if_pos rfl] at C D
    rw [if_pos rfl, if_pos rfl]
    clear hl hg hcl hcg hcz E F
    go_enter Try.func14, Try.ntmps14
    go_wp2_with fail
    refine (C.out _).mono ?_
    rintro e w1 ⟨rfl, rfl⟩
    go_wp2_with fail
    refine (D.out _).mono ?_
    rintro e w1 ⟨rfl, rfl⟩
    go_wp2_with fail
    refine (C.out _).mono ?_
    rintro e w1 ⟨rfl, rfl⟩
    go_wp2_with fail
    go_ret
    exact ⟨rfl, rfl⟩
end Go.Proofs.Ytfhfhajanpminaa
