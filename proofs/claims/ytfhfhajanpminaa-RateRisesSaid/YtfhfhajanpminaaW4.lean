/- awake; RateCosts, RateLimits, RateOrder, RateRises. -/
import Derived.Test.YtfhfhajanpminaaW3
import Derived.Test.YtfhfhajanpminaaArgs
namespace Go.Proofs.Ytfhfhajanpminaa
open Go.RowKit Go.Gm Go.Flo

theorem cost_1000 : costS 4652007308841189376 = 20000 := by kernel_rfl
theorem limit_50 : limS 4632233691727265792 7 = 3 := by kernel_rfl
theorem cmp_12 : cmpS 4607182418800017408 4611686018427387904 = -1 := by kernel_rfl

theorem awake_any (w : World) : Calls Try.prog 8 #[] w fun e w' => e = .returned (.bool true) ∧ Step None w w' := by
  have C := Lib.hid (cost_any 4652007308841189376 · (by decide))
  have D := Lib.hid (limit_any 4632233691727265792 7 · (by decide))
  have E := Lib.hid (compare_any 4607182418800017408 4611686018427387904 · (by decide) (by decide))
  rw [cost_1000] at C
  rw [limit_50] at D
  rw [cmp_12] at E
  go_enter Try.func8, Try.ntmps8
  go_wp2_with fail
  refine (C.out _).mono ?_
  rintro e w1 ⟨rfl, rfl⟩
  go_wp2_with fail
  refine (D.out _).mono ?_
  rintro e w1 ⟨rfl, rfl⟩
  go_wp2_with fail
  refine (E.out _).mono ?_
  rintro e w1 ⟨rfl, s1⟩
  go_wp2_with fail
  go_ret
  exact ⟨rfl, s1⟩

theorem arg_float {w : World} {v : Value} (h : Arg w (.float .f64) v) : ∃ b, v = .float .f64 b ∧ b < 2 ^ 64 := by
  obtain ⟨b, hb', hb⟩ := h.one rfl
  obtain rfl : v = .float .f64 b := by simpa using hb'
  refine ⟨b, rfl, ?_⟩
  simpa [Lit.wf] using hb

theorem rateCosts_walk (v0 : Value) (w : World) (h0 : Arg w (.float .f64) v0) : Calls Try.prog 6 #[v0] w fun e w' => e = .returned (.bool true) ∧ Below w.heap.size w w' := by
  obtain ⟨b, rfl, hb⟩ := arg_float h0
  have C := Lib.hid (cost_any b · hb)
  have D := Lib.hid (rcost_any b · hb)
  generalize costS b = c at *
  go_enter Try.func6, Try.ntmps6
  go_wp2_with fail
  refine (awake_any _).mono ?_
  rintro e w1 ⟨rfl, s1⟩
  go_wp2_with fail
  refine (C.out _).mono ?_
  rintro e w2 ⟨rfl, rfl⟩
  go_wp2_with fail
  refine (D.out _).mono ?_
  rintro e w2 ⟨rfl, rfl⟩
  go_wp2_with fail
  go_ret
  exact ⟨by simp, s1.toBelow⟩

theorem rateLimits_walk (v0 v1 : Value) (w : World) (h0 : Arg w (.float .f64) v0) (h1 : Arg w (.int .i64) v1) : Calls Try.prog 3 #[v0, v1] w fun e w' => e = .returned (.bool true) ∧ Below w.heap.size w w' := by
  obtain ⟨b, rfl, hb⟩ := arg_float h0
  obtain ⟨n, rfl, hn⟩ := h1.int
  have C := Lib.hid (limit_any b n · hb)
  have D := Lib.hid (rlimit_any b n · hb)
  generalize limS b n = c at *
  go_enter Try.func3, Try.ntmps3
  go_wp2_with fail
  refine (awake_any _).mono ?_
  rintro e w1 ⟨rfl, s1⟩
  go_wp2_with fail
  refine (C.out _).mono ?_
  rintro e w2 ⟨rfl, rfl⟩
  go_wp2_with fail
  refine (D.out _).mono ?_
  rintro e w2 ⟨rfl, rfl⟩
  go_wp2_with fail
  go_ret
  exact ⟨by simp, s1.toBelow⟩

theorem cmpS_rng (a b : Nat) : cmpS a b = -1 ∨ cmpS a b = 0 ∨ cmpS a b = 1 := by
  rw [cmpS_lex]; exact lex_rng _ _

set_option maxHeartbeats 2000000 in
theorem rateOrder_walk (v0 v1 v2 : Value) (w : World) (h0 : Arg w (.float .f64) v0) (h1 : Arg w (.float .f64) v1) (h2 : Arg w (.float .f64) v2) : Calls Try.prog 4 #[v0, v1, v2] w fun e w' => e = .returned (.bool true) ∧ Below w.heap.size w w' := by
  obtain ⟨a, rfl, ha⟩ := arg_float h0
  obtain ⟨b, rfl, hb⟩ := arg_float h1
  obtain ⟨c, rfl, hc⟩ := arg_float h2
  have C := Lib.hid (compare_any a b · ha hb)
  have D := Lib.hid (compare_any b c · hb hc)
  have E := Lib.hid (compare_any a c · ha hc)
  have F := Lib.hid (rcompare_any a b · ha hb)
  have G := Lib.hid (compare_any b a · hb ha)
  have N := Lib.hid (isNaN_any a)
  have M := Lib.hid (isNaN_any b)
  have hneg := cmpS_neg a b
  have hz := cmpS_zero ha hb
  have hr := cmpS_rng a b
  have ht := cmpS_trans a b c
  generalize cmpS a b = x at *
  generalize cmpS b c = y at *
  generalize cmpS a c = z at *
  generalize cmpS b a = x' at *
  have hw : wrap64 (-x') = x := by unfold wrap64; omega
  have hxx : x = 0 ∨ x < 0 ∨ 0 < x := by omega
  clear hneg hr h0 h1 h2
  by_cases hab : a = b
  · have dab : ((a : Int) == (b : Int)) = true := by simp [hab]
    obtain rfl : x = 0 := hz.2 (.inl hab)
    clear hz hab hxx
    go_enter Try.func4, Try.ntmps4
    go_wp2_with fail
    refine (awake_any _).mono ?_
    rintro e w1 ⟨rfl, s1⟩
    go_wp2_with fail
    refine (C.out _).mono ?_
    rintro e w2 ⟨rfl, s2⟩
    go_wp2_with fail
    refine (D.out _).mono ?_
    rintro e w3 ⟨rfl, s3⟩
    go_wp2_with fail
    refine (E.out _).mono ?_
    rintro e w4 ⟨rfl, s4⟩
    have S := Lib.hid (((s1.then_ s2).then_ s3).then_ s4)
    clear s1 s2 s3 s4
    go_wp2_with fail
    rw [run_float64bits, Oper.upon_value]
    go_wp2_with (rw [run_float64bits, Oper.upon_value])
    refine (F.out _).mono ?_
    rintro e w5 ⟨rfl, rfl⟩
    go_wp2_with fail
    refine (G.out _).mono ?_
    rintro e w6 ⟨rfl, s6⟩
    go_wp2_with fail
    all_goals go_ret
    all_goals first
      | exact ⟨rfl, (S.out.then_ s6).toBelow⟩
      | exact ⟨by simp; omega, (S.out.then_ s6).toBelow⟩
      | (exfalso; simp_all <;> omega)
  · have dab : ((a : Int) == (b : Int)) = false := by simp; omega
    cases hna : nanB a
    · rw [hna] at N
      have dx : (x == 0) = false := by simp [hz, hab, hna]
      have hx0 : x ≠ 0 := by simpa using dx
      clear hz hab
      go_enter Try.func4, Try.ntmps4
      go_wp2_with fail
      refine (awake_any _).mono ?_
      rintro e w1 ⟨rfl, s1⟩
      go_wp2_with fail
      refine (C.out _).mono ?_
      rintro e w2 ⟨rfl, s2⟩
      go_wp2_with fail
      refine (D.out _).mono ?_
      rintro e w3 ⟨rfl, s3⟩
      go_wp2_with fail
      refine (E.out _).mono ?_
      rintro e w4 ⟨rfl, s4⟩
      have S := Lib.hid (((s1.then_ s2).then_ s3).then_ s4)
      clear s1 s2 s3 s4
      go_wp2_with fail
      rw [run_float64bits, Oper.upon_value]
      go_wp2_with (rw [run_float64bits, Oper.upon_value])
      refine (N.out _).mono ?_
      rintro e w5 ⟨rfl, rfl⟩
      go_wp2_with fail
      refine (F.out _).mono ?_
      rintro e w5 ⟨rfl, rfl⟩
      go_wp2_with fail
      refine (G.out _).mono ?_
      rintro e w6 ⟨rfl, s6⟩
      go_wp2_with fail
      all_goals go_ret
      all_goals first
        | exact ⟨rfl, (S.out.then_ s6).toBelow⟩
        | exact ⟨by simp; omega, (S.out.then_ s6).toBelow⟩
        | (exfalso; simp_all <;> omega)
    · rw [hna] at N
      cases hnb : nanB b
      · rw [hnb] at M
        have dx : (x == 0) = false := by simp [hz, hab, hnb]
        have hx0 : x ≠ 0 := by simpa using dx
        clear hz hab
        go_enter Try.func4, Try.ntmps4
        go_wp2_with fail
        refine (awake_any _).mono ?_
        rintro e w1 ⟨rfl, s1⟩
        go_wp2_with fail
        refine (C.out _).mono ?_
        rintro e w2 ⟨rfl, s2⟩
        go_wp2_with fail
        refine (D.out _).mono ?_
        rintro e w3 ⟨rfl, s3⟩
        go_wp2_with fail
        refine (E.out _).mono ?_
        rintro e w4 ⟨rfl, s4⟩
        have S := Lib.hid (((s1.then_ s2).then_ s3).then_ s4)
        clear s1 s2 s3 s4
        go_wp2_with fail
        rw [run_float64bits, Oper.upon_value]
        go_wp2_with (rw [run_float64bits, Oper.upon_value])
        refine (N.out _).mono ?_
        rintro e w5 ⟨rfl, rfl⟩
        go_wp2_with fail
        refine (M.out _).mono ?_
        rintro e w5 ⟨rfl, rfl⟩
        go_wp2_with fail
        refine (F.out _).mono ?_
        rintro e w5 ⟨rfl, rfl⟩
        go_wp2_with fail
        refine (G.out _).mono ?_
        rintro e w6 ⟨rfl, s6⟩
        go_wp2_with fail
        all_goals go_ret
        all_goals first
          | exact ⟨rfl, (S.out.then_ s6).toBelow⟩
          | exact ⟨by simp; omega, (S.out.then_ s6).toBelow⟩
          | (exfalso; simp_all <;> omega)
      · rw [hnb] at M
        obtain rfl : x = 0 := hz.2 (.inr ⟨hna, hnb⟩)
        clear hz hab hxx
        go_enter Try.func4, Try.ntmps4
        go_wp2_with fail
        refine (awake_any _).mono ?_
        rintro e w1 ⟨rfl, s1⟩
        go_wp2_with fail
        refine (C.out _).mono ?_
        rintro e w2 ⟨rfl, s2⟩
        go_wp2_with fail
        refine (D.out _).mono ?_
        rintro e w3 ⟨rfl, s3⟩
        go_wp2_with fail
        refine (E.out _).mono ?_
        rintro e w4 ⟨rfl, s4⟩
        have S := Lib.hid (((s1.then_ s2).then_ s3).then_ s4)
        clear s1 s2 s3 s4
        go_wp2_with fail
        rw [run_float64bits, Oper.upon_value]
        go_wp2_with (rw [run_float64bits, Oper.upon_value])
        refine (N.out _).mono ?_
        rintro e w5 ⟨rfl, rfl⟩
        go_wp2_with fail
        refine (M.out _).mono ?_
        rintro e w5 ⟨rfl, rfl⟩
        go_wp2_with fail
        refine (F.out _).mono ?_
        rintro e w5 ⟨rfl, rfl⟩
        go_wp2_with fail
        refine (G.out _).mono ?_
        rintro e w6 ⟨rfl, s6⟩
        go_wp2_with fail
        all_goals go_ret
        all_goals first
          | exact ⟨rfl, (S.out.then_ s6).toBelow⟩
          | exact ⟨by simp; omega, (S.out.then_ s6).toBelow⟩
          | (exfalso; simp_all <;> omega)

theorem arr2_float {w : World} {v : Value} (h : Arg w (.arr 2 1 (.float .f64)) v) : ∃ a b, v = .agg #[.float .f64 a, .float .f64 b] ∧ a < 2 ^ 64 ∧ b < 2 ^ 64 := by
  obtain ⟨cs, rfl, hl, hf⟩ := h.agg rfl
  obtain ⟨a, ha, wa⟩ := hf 0 (by decide)
  obtain ⟨b, hb, wb⟩ := hf 1 (by decide)
  refine ⟨a, b, ?_, by simpa [Lit.wf] using wa, by simpa [Lit.wf] using wb⟩
  obtain ⟨l⟩ := cs
  match l, hl with
  | [x, y], _ =>
    simp at ha hb
    rw [ha, hb]
theorem arr2_int {w : World} {v : Value} (h : Arg w (.arr 2 1 (.int .i64)) v) : ∃ a b, v = .agg #[.int .i64 a, .int .i64 b] := by
  obtain ⟨cs, rfl, hl, hf⟩ := h.agg rfl
  obtain ⟨a, ha, -⟩ := hf 0 (by decide)
  obtain ⟨b, hb, -⟩ := hf 1 (by decide)
  refine ⟨a, b, ?_⟩
  obtain ⟨l⟩ := cs
  match l, hl with
  | [x, y], _ =>
    simp at ha hb
    rw [ha, hb]

set_option maxHeartbeats 2000000 in
theorem rateRises_walk (v0 v1 : Value) (w : World) (h0 : Arg w (.arr 2 1 (.float .f64)) v0) (h1 : Arg w (.arr 2 1 (.int .i64)) v1) : Calls Try.prog 5 #[v0, v1] w fun e w' => e = .returned (.bool true) ∧ Below w.heap.size w w' := by
  obtain ⟨a, b, rfl, ha, hb⟩ := arr2_float h0
  obtain ⟨c, d, rfl⟩ := arr2_int h1
  have C := Lib.hid (cost_any a · ha)
  have D := Lib.hid (cost_any b · hb)
  have E := Lib.hid (limit_any a c · ha)
  have F := Lib.hid (limit_any b c · hb)
  have G := Lib.hid (limit_any a d · ha)
  have N := Lib.hid (isNaN_any a)
  have M := Lib.hid (isNaN_any b)
  have k1 := fun na nb h => costS_anti ha hb na nb (le_key na nb h)
  have k2 := costS_rng a
  have k3 := costS_rng b
  have k4 := fun na nb h => limS_mono (c := c) (d := c) ha hb na nb (le_key na nb h) (Int.le_refl _)
  have k5 := fun na h => limS_mono (p := a) (q := a) (c := c) (d := d) ha ha na na (Int.le_refl _) h
  have k6 := limS_rng ha c
  have k7 := limS_rng hb c
  clear h0 h1
  generalize costS a = ca at *
  generalize costS b = cb at *
  generalize limS a c = m at *
  generalize limS b c = n at *
  generalize limS a d = k at *
  cases hna : nanB a
  · rw [hna] at N k1 k4 k5
    cases hnb : nanB b
    · rw [hnb] at M k1 k4
      cases hg : (FloatKind.f64.format.order a b == some .gt)
      · have k1 := k1 rfl rfl hg
        have k4 := k4 rfl rfl hg
        have k5 := k5 rfl
        by_cases hcd : c ≤ d
        · have d0 : decide (d < c) = false := by simpa using hcd
          have k5 := k5 hcd
          have d1 : decide (ca < cb) = false := by simpa using k1
          have d2 : decide (cb < 1) = false := by simp; omega
          have d3 : decide (200000000 < ca) = false := by simp; omega
          have d4 : decide (m ≤ n) = true := by simpa using k4
          have d5 : decide (m ≤ k) = true := by simpa using k5
          have d6 : decide (0 ≤ m) = true := by simp; omega
          have d7 : n ≤ c ∨ n = 0 := k7.2
          clear k1 k2 k3 k4 k5 k6 k7 hcd hna hnb
          rcases d7 with d7 | rfl
          · have d8 : decide (n ≤ c) = true := by simpa using d7
            clear d7
            go_enter Try.func5, Try.ntmps5
            go_wp2_with fail
            refine (awake_any _).mono ?_
            rintro e w1 ⟨rfl, s1⟩
            have b0 : w1.heap[w.heap.size]? = some (.cells #[.float .f64 a, .float .f64 b] 31 (0, 0)) := s1.blk (by rw [Below.heap_alloc _ _ _ (by simp)]; exact heap_alloc_new w _) (fun s => s.elim)
            have b1 : w1.heap[w.heap.size + 1]? = some (.cells #[.int .i64 c, .int .i64 d] 32 (0, 0)) := s1.blk (by have := heap_alloc_new (w.alloc (.cells #[.float .f64 a, .float .f64 b] 31)) (.cells #[.int .i64 c, .int .i64 d] 32); simpa using this) (fun s => s.elim)
            have c0 : w1.cell? ⟨w.heap.size, 0, none⟩ = some (.float .f64 a) := by rw [blk_cell b0]; rfl
            have c1 : w1.cell? ⟨w.heap.size, 1, none⟩ = some (.float .f64 b) := by rw [blk_cell b0]; rfl
            have c2 : w1.cell? ⟨w.heap.size + 1, 0, none⟩ = some (.int .i64 c) := by rw [blk_cell b1]; rfl
            have c3 : w1.cell? ⟨w.heap.size + 1, 1, none⟩ = some (.int .i64 d) := by rw [blk_cell b1]; rfl
            have S := Lib.hid ((((Step.refl Go.Gm.None w).alloc _).alloc _).then_ s1).toBelow
            clear b0 b1 s1
            go_wp2_with fail
            refine (N.out _).mono ?_
            rintro e w5 ⟨rfl, rfl⟩
            go_wp2_with fail
            refine (M.out _).mono ?_
            rintro e w5 ⟨rfl, rfl⟩
            go_wp2_with fail
            refine (C.out _).mono ?_
            rintro e w5 ⟨rfl, rfl⟩
            go_wp2_with fail
            refine (D.out _).mono ?_
            rintro e w5 ⟨rfl, rfl⟩
            go_wp2_with fail
            refine (E.out _).mono ?_
            rintro e w5 ⟨rfl, rfl⟩
            go_wp2_with fail
            refine (F.out _).mono ?_
            rintro e w5 ⟨rfl, rfl⟩
            go_wp2_with fail
            refine (G.out _).mono ?_
            rintro e w5 ⟨rfl, rfl⟩
            go_wp2_with fail
            go_ret
            exact ⟨rfl, S.out⟩
          · cases d8 : decide (0 ≤ c)
            · go_enter Try.func5, Try.ntmps5
              go_wp2_with fail
              refine (awake_any _).mono ?_
              rintro e w1 ⟨rfl, s1⟩
              have b0 : w1.heap[w.heap.size]? = some (.cells #[.float .f64 a, .float .f64 b] 31 (0, 0)) := s1.blk (by rw [Below.heap_alloc _ _ _ (by simp)]; exact heap_alloc_new w _) (fun s => s.elim)
              have b1 : w1.heap[w.heap.size + 1]? = some (.cells #[.int .i64 c, .int .i64 d] 32 (0, 0)) := s1.blk (by have := heap_alloc_new (w.alloc (.cells #[.float .f64 a, .float .f64 b] 31)) (.cells #[.int .i64 c, .int .i64 d] 32); simpa using this) (fun s => s.elim)
              have c0 : w1.cell? ⟨w.heap.size, 0, none⟩ = some (.float .f64 a) := by rw [blk_cell b0]; rfl
              have c1 : w1.cell? ⟨w.heap.size, 1, none⟩ = some (.float .f64 b) := by rw [blk_cell b0]; rfl
              have c2 : w1.cell? ⟨w.heap.size + 1, 0, none⟩ = some (.int .i64 c) := by rw [blk_cell b1]; rfl
              have c3 : w1.cell? ⟨w.heap.size + 1, 1, none⟩ = some (.int .i64 d) := by rw [blk_cell b1]; rfl
              have S := Lib.hid ((((Step.refl Go.Gm.None w).alloc _).alloc _).then_ s1).toBelow
              clear b0 b1 s1
              go_wp2_with fail
              refine (N.out _).mono ?_
              rintro e w5 ⟨rfl, rfl⟩
              go_wp2_with fail
              refine (M.out _).mono ?_
              rintro e w5 ⟨rfl, rfl⟩
              go_wp2_with fail
              refine (C.out _).mono ?_
              rintro e w5 ⟨rfl, rfl⟩
              go_wp2_with fail
              refine (D.out _).mono ?_
              rintro e w5 ⟨rfl, rfl⟩
              go_wp2_with fail
              refine (E.out _).mono ?_
              rintro e w5 ⟨rfl, rfl⟩
              go_wp2_with fail
              refine (F.out _).mono ?_
              rintro e w5 ⟨rfl, rfl⟩
              go_wp2_with fail
              refine (G.out _).mono ?_
              rintro e w5 ⟨rfl, rfl⟩
              go_wp2_with fail
              go_ret
              exact ⟨rfl, S.out⟩
            · go_enter Try.func5, Try.ntmps5
              go_wp2_with fail
              refine (awake_any _).mono ?_
              rintro e w1 ⟨rfl, s1⟩
              have b0 : w1.heap[w.heap.size]? = some (.cells #[.float .f64 a, .float .f64 b] 31 (0, 0)) := s1.blk (by rw [Below.heap_alloc _ _ _ (by simp)]; exact heap_alloc_new w _) (fun s => s.elim)
              have b1 : w1.heap[w.heap.size + 1]? = some (.cells #[.int .i64 c, .int .i64 d] 32 (0, 0)) := s1.blk (by have := heap_alloc_new (w.alloc (.cells #[.float .f64 a, .float .f64 b] 31)) (.cells #[.int .i64 c, .int .i64 d] 32); simpa using this) (fun s => s.elim)
              have c0 : w1.cell? ⟨w.heap.size, 0, none⟩ = some (.float .f64 a) := by rw [blk_cell b0]; rfl
              have c1 : w1.cell? ⟨w.heap.size, 1, none⟩ = some (.float .f64 b) := by rw [blk_cell b0]; rfl
              have c2 : w1.cell? ⟨w.heap.size + 1, 0, none⟩ = some (.int .i64 c) := by rw [blk_cell b1]; rfl
              have c3 : w1.cell? ⟨w.heap.size + 1, 1, none⟩ = some (.int .i64 d) := by rw [blk_cell b1]; rfl
              have S := Lib.hid ((((Step.refl Go.Gm.None w).alloc _).alloc _).then_ s1).toBelow
              clear b0 b1 s1
              go_wp2_with fail
              refine (N.out _).mono ?_
              rintro e w5 ⟨rfl, rfl⟩
              go_wp2_with fail
              refine (M.out _).mono ?_
              rintro e w5 ⟨rfl, rfl⟩
              go_wp2_with fail
              refine (C.out _).mono ?_
              rintro e w5 ⟨rfl, rfl⟩
              go_wp2_with fail
              refine (D.out _).mono ?_
              rintro e w5 ⟨rfl, rfl⟩
              go_wp2_with fail
              refine (E.out _).mono ?_
              rintro e w5 ⟨rfl, rfl⟩
              go_wp2_with fail
              refine (F.out _).mono ?_
              rintro e w5 ⟨rfl, rfl⟩
              go_wp2_with fail
              refine (G.out _).mono ?_
              rintro e w5 ⟨rfl, rfl⟩
              go_wp2_with fail
              go_ret
              exact ⟨rfl, S.out⟩
        · have d0 : decide (d < c) = true := by simpa using hcd
          clear k1 k2 k3 k4 k5 k6 k7 hcd hna hnb
          go_enter Try.func5, Try.ntmps5
          go_wp2_with fail
          refine (awake_any _).mono ?_
          rintro e w1 ⟨rfl, s1⟩
          have b0 : w1.heap[w.heap.size]? = some (.cells #[.float .f64 a, .float .f64 b] 31 (0, 0)) := s1.blk (by rw [Below.heap_alloc _ _ _ (by simp)]; exact heap_alloc_new w _) (fun s => s.elim)
          have b1 : w1.heap[w.heap.size + 1]? = some (.cells #[.int .i64 c, .int .i64 d] 32 (0, 0)) := s1.blk (by have := heap_alloc_new (w.alloc (.cells #[.float .f64 a, .float .f64 b] 31)) (.cells #[.int .i64 c, .int .i64 d] 32); simpa using this) (fun s => s.elim)
          have c0 : w1.cell? ⟨w.heap.size, 0, none⟩ = some (.float .f64 a) := by rw [blk_cell b0]; rfl
          have c1 : w1.cell? ⟨w.heap.size, 1, none⟩ = some (.float .f64 b) := by rw [blk_cell b0]; rfl
          have c2 : w1.cell? ⟨w.heap.size + 1, 0, none⟩ = some (.int .i64 c) := by rw [blk_cell b1]; rfl
          have c3 : w1.cell? ⟨w.heap.size + 1, 1, none⟩ = some (.int .i64 d) := by rw [blk_cell b1]; rfl
          have S := Lib.hid ((((Step.refl Go.Gm.None w).alloc _).alloc _).then_ s1).toBelow
          clear b0 b1 s1
          go_wp2_with fail
          refine (N.out _).mono ?_
          rintro e w5 ⟨rfl, rfl⟩
          go_wp2_with fail
          refine (M.out _).mono ?_
          rintro e w5 ⟨rfl, rfl⟩
          go_wp2_with fail
          go_ret
          exact ⟨rfl, S.out⟩
      · clear k1 k2 k3 k4 k5 k6 k7 hna hnb
        go_enter Try.func5, Try.ntmps5
        go_wp2_with fail
        refine (awake_any _).mono ?_
        rintro e w1 ⟨rfl, s1⟩
        have b0 : w1.heap[w.heap.size]? = some (.cells #[.float .f64 a, .float .f64 b] 31 (0, 0)) := s1.blk (by rw [Below.heap_alloc _ _ _ (by simp)]; exact heap_alloc_new w _) (fun s => s.elim)
        have b1 : w1.heap[w.heap.size + 1]? = some (.cells #[.int .i64 c, .int .i64 d] 32 (0, 0)) := s1.blk (by have := heap_alloc_new (w.alloc (.cells #[.float .f64 a, .float .f64 b] 31)) (.cells #[.int .i64 c, .int .i64 d] 32); simpa using this) (fun s => s.elim)
        have c0 : w1.cell? ⟨w.heap.size, 0, none⟩ = some (.float .f64 a) := by rw [blk_cell b0]; rfl
        have c1 : w1.cell? ⟨w.heap.size, 1, none⟩ = some (.float .f64 b) := by rw [blk_cell b0]; rfl
        have c2 : w1.cell? ⟨w.heap.size + 1, 0, none⟩ = some (.int .i64 c) := by rw [blk_cell b1]; rfl
        have c3 : w1.cell? ⟨w.heap.size + 1, 1, none⟩ = some (.int .i64 d) := by rw [blk_cell b1]; rfl
        have S := Lib.hid ((((Step.refl Go.Gm.None w).alloc _).alloc _).then_ s1).toBelow
        clear b0 b1 s1
        go_wp2_with fail
        refine (N.out _).mono ?_
        rintro e w5 ⟨rfl, rfl⟩
        go_wp2_with fail
        refine (M.out _).mono ?_
        rintro e w5 ⟨rfl, rfl⟩
        go_wp2_with fail
        go_ret
        exact ⟨rfl, S.out⟩
    · rw [hnb] at M
      clear k1 k2 k3 k4 k5 k6 k7 hna hnb
      go_enter Try.func5, Try.ntmps5
      go_wp2_with fail
      refine (awake_any _).mono ?_
      rintro e w1 ⟨rfl, s1⟩
      have b0 : w1.heap[w.heap.size]? = some (.cells #[.float .f64 a, .float .f64 b] 31 (0, 0)) := s1.blk (by rw [Below.heap_alloc _ _ _ (by simp)]; exact heap_alloc_new w _) (fun s => s.elim)
      have b1 : w1.heap[w.heap.size + 1]? = some (.cells #[.int .i64 c, .int .i64 d] 32 (0, 0)) := s1.blk (by have := heap_alloc_new (w.alloc (.cells #[.float .f64 a, .float .f64 b] 31)) (.cells #[.int .i64 c, .int .i64 d] 32); simpa using this) (fun s => s.elim)
      have c0 : w1.cell? ⟨w.heap.size, 0, none⟩ = some (.float .f64 a) := by rw [blk_cell b0]; rfl
      have c1 : w1.cell? ⟨w.heap.size, 1, none⟩ = some (.float .f64 b) := by rw [blk_cell b0]; rfl
      have c2 : w1.cell? ⟨w.heap.size + 1, 0, none⟩ = some (.int .i64 c) := by rw [blk_cell b1]; rfl
      have c3 : w1.cell? ⟨w.heap.size + 1, 1, none⟩ = some (.int .i64 d) := by rw [blk_cell b1]; rfl
      have S := Lib.hid ((((Step.refl Go.Gm.None w).alloc _).alloc _).then_ s1).toBelow
      clear b0 b1 s1
      go_wp2_with fail
      refine (N.out _).mono ?_
      rintro e w5 ⟨rfl, rfl⟩
      go_wp2_with fail
      refine (M.out _).mono ?_
      rintro e w5 ⟨rfl, rfl⟩
      go_wp2_with fail
      go_ret
      exact ⟨rfl, S.out⟩
  · rw [hna] at N
    clear k1 k2 k3 k4 k5 k6 k7 hna
    go_enter Try.func5, Try.ntmps5
    go_wp2_with fail
    refine (awake_any _).mono ?_
    rintro e w1 ⟨rfl, s1⟩
    have b0 : w1.heap[w.heap.size]? = some (.cells #[.float .f64 a, .float .f64 b] 31 (0, 0)) := s1.blk (by rw [Below.heap_alloc _ _ _ (by simp)]; exact heap_alloc_new w _) (fun s => s.elim)
    have b1 : w1.heap[w.heap.size + 1]? = some (.cells #[.int .i64 c, .int .i64 d] 32 (0, 0)) := s1.blk (by have := heap_alloc_new (w.alloc (.cells #[.float .f64 a, .float .f64 b] 31)) (.cells #[.int .i64 c, .int .i64 d] 32); simpa using this) (fun s => s.elim)
    have c0 : w1.cell? ⟨w.heap.size, 0, none⟩ = some (.float .f64 a) := by rw [blk_cell b0]; rfl
    have c1 : w1.cell? ⟨w.heap.size, 1, none⟩ = some (.float .f64 b) := by rw [blk_cell b0]; rfl
    have c2 : w1.cell? ⟨w.heap.size + 1, 0, none⟩ = some (.int .i64 c) := by rw [blk_cell b1]; rfl
    have c3 : w1.cell? ⟨w.heap.size + 1, 1, none⟩ = some (.int .i64 d) := by rw [blk_cell b1]; rfl
    have S := Lib.hid ((((Step.refl Go.Gm.None w).alloc _).alloc _).then_ s1).toBelow
    clear b0 b1 s1
    go_wp2_with fail
    refine (N.out _).mono ?_
    rintro e w5 ⟨rfl, rfl⟩
    go_wp2_with fail
    go_ret
    exact ⟨rfl, S.out⟩
end Go.Proofs.Ytfhfhajanpminaa
