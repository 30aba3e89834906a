/- VectorBest, walked. -/
import Derived.Test.YtehlaomippbehaaW9
namespace Go.Proofs.Ytehlaomippbehaa
open Go.RowKit Go.Gm

theorem best_nil (ao : Option Addr) (cap : Nat) (w : World) : Calls Try.prog 21 #[.slice ao 0 cap] w fun e w' => e = .returned (.int .i64 (-1)) ∧ Step None w w' := by
  go_enter Try.func21, Try.ntmps21
  go_wp2_with fail
  go_loopw [3, 4, 7] (fun m _ i wr => i = .int .i64 0 ∧ m = .int .i64 (-1) ∧ wr = w) (fun _ _ _ _ => 0)
  case atStart => exact ⟨rfl, rfl, rfl⟩
  case round =>
    obtain ⟨rfl, rfl, rfl⟩ := hrel
    go_wp2_with fail
    go_ret
    exact ⟨rfl, Step.refl _ _⟩
theorem rbest_nil (ao : Option Addr) (cap : Nat) (w : World) : Calls Try.prog 22 #[.slice ao 0 cap] w fun e w' => e = .returned (.int .i64 (-1)) ∧ Step None w w' := by
  go_enter Try.func22, Try.ntmps22
  go_wp2_with fail
  go_loopw [3, 4] (fun m i wr => i = .int .i64 0 ∧ m = .int .i64 (-1) ∧ wr = w) (fun _ _ _ => 0)
  case atStart => exact ⟨rfl, rfl, rfl⟩
  case round =>
    obtain ⟨rfl, rfl, rfl⟩ := hrel
    go_wp2_with fail
    go_ret
    exact ⟨rfl, Step.refl _ _⟩

/-- The best one is no worse than any, and the first of its kind. -/
theorem bestK_best (l : List Vec) : ∀ k, 0 ≤ bestK l k → ∀ i, i < k → lex (l.getD (bestK l k).toNat default).flat (l.getD i default).flat ≤ 0 ∧ (lex (l.getD (bestK l k).toNat default).flat (l.getD i default).flat = 0 → bestK l k ≤ i)
  | 0, _ => fun i hi => by omega
  | k + 1, h0 => fun i hi => by
    rw [bestK] at h0 ⊢
    split
    · rename_i hc
      rw [Int.toNat_natCast]
      by_cases e : i = k
      · subst e
        rw [lex_self]
        exact ⟨by omega, fun _ => by omega⟩
      · rcases bestK_rng l k with ⟨hb, hk⟩ | hb
        · omega
        · rcases hc with hc | hc
          · omega
          · have ih := bestK_best l k hb.1 i (by omega)
            have tr := (lex_trans (by omega) ih.1).2 (.inl hc)
            exact ⟨by omega, fun h => by omega⟩
    · rename_i hc
      have hb : 0 ≤ bestK l k := by
        rcases bestK_rng l k with ⟨hb, hk⟩ | hb
        · exact absurd (.inl hb) hc
        · exact hb.1
      by_cases e : i = k
      · subst e
        have hn : ¬ lex (l.getD i default).flat (l.getD (bestK l i).toNat default).flat < 0 := fun h => hc (.inr h)
        have ng := lex_neg (l.getD i default).flat (l.getD (bestK l i).toNat default).flat
        refine ⟨by omega, fun _ => ?_⟩
        rcases bestK_rng l i with ⟨_, hk⟩ | hb2 <;> omega
      · exact bestK_best l k hb i (by omega)

theorem arg_ways {w : World} {v : Value} (h : Arg w (.slice 17 56 (.cat 7 (.cat 1 (.int .i64) (.cat 6 (.arr 6 1 (.int .u8)) .nil)) (.cat 1 (.int .i64) (.cat 7 (.cat 1 (.int .i64) (.cat 6 (.arr 6 1 (.int .u8)) .nil)) (.cat 1 (.int .i64) (.cat 1 (.int .i64) .nil)))))) v) : (∃ ao cap, v = .slice ao 0 cap) ∨ ∃ b off cap l, v = .slice (some ⟨b, off, none⟩) (List.length l) cap ∧ 0 < l.length ∧ l.length ≤ 140737488351232 ∧ Ways w b off l := by
  obtain ⟨ao, len, cap, rfl, h1, h2, h3, h4⟩ := (h.one rfl).elems (by decide)
  rcases Nat.eq_zero_or_pos len with rfl | hp
  · exact .inl ⟨ao, cap, rfl⟩
  · right
    obtain ⟨b, off, -, rfl, -, -, -⟩ := h4 0 hp
    have h5 : ∀ i, i < len → ∃ x : Vec, x.fine ∧ ∀ j u, x.cells[j]? = some u → w.cell? ⟨b, off + i * 17 + j, none⟩ = some u := fun i hi => by
      obtain ⟨b', off', cs, hb, hl, hc, hf⟩ := h4 i hi
      simp only [Option.some.injEq, Addr.mk.injEq, and_true] at hb
      obtain ⟨rfl, rfl⟩ := hb
      obtain ⟨x, rfl, fx⟩ := fits_vec hf
      refine ⟨x, fx, fun j u hj => ?_⟩
      have hj' : j < 17 := by
        rcases Nat.lt_or_ge j 17 with h | h
        · exact h
        · rw [Array.getElem?_eq_none (show x.cells.size ≤ j from h)] at hj; cases hj
      rw [hc j hj']
      simpa using hj
    have h6 : ∃ l : List Vec, l.length = len ∧ ∀ i x, l[i]? = some x → x.fine ∧ ∀ j u, x.cells[j]? = some u → w.cell? ⟨b, off + i * 17 + j, none⟩ = some u := by
      clear h1 h2 h3 h4 h hp
      induction len with
      | zero => exact ⟨[], rfl, fun i x hx => by simp at hx⟩
      | succ n ih =>
        obtain ⟨l, hl, hx⟩ := ih fun i hi => h5 i (by omega)
        obtain ⟨x, fx, hxx⟩ := h5 n (by omega)
        refine ⟨l ++ [x], by simp [hl], fun i y hy => ?_⟩
        rcases Nat.lt_or_ge i l.length with hi | hi
        · rw [List.getElem?_append_left hi] at hy
          exact hx i y hy
        · rw [List.getElem?_append_right hi] at hy
          have hi2 : i = n := by
            rcases Nat.eq_zero_or_pos (i - l.length) with h | h
            · omega
            · rw [List.getElem?_eq_none (by simp; omega)] at hy; cases hy
          subst hi2
          rw [show i - l.length = 0 by omega] at hy
          simp at hy
          subst hy
          exact ⟨fx, hxx⟩
    obtain ⟨l, rfl, hx⟩ := h6
    refine ⟨b, off, cap, l, rfl, hp, by omega, fun i v hv => (hx i v hv).2, fun v hv => ?_⟩
    obtain ⟨i, hi⟩ := List.getElem?_of_mem hv
    exact (hx i v hi).1

set_option linter.unusedSimpArgs false in
set_option maxHeartbeats 8000000 in
theorem vectorBest_walk (v0 : Value) (w : World) (h0 : Arg w (.slice 17 56 (.cat 7 (.cat 1 (.int .i64) (.cat 6 (.arr 6 1 (.int .u8)) .nil)) (.cat 1 (.int .i64) (.cat 7 (.cat 1 (.int .i64) (.cat 6 (.arr 6 1 (.int .u8)) .nil)) (.cat 1 (.int .i64) (.cat 1 (.int .i64) .nil)))))) v0) :
    Calls Try.prog 4 #[v0] w fun e w' => e = .returned (.bool true) ∧ Below w.heap.size w w' := by
  rcases arg_ways h0 with ⟨ao, cap, rfl⟩ | ⟨b, off, cap, l, rfl, hp, hmax, hW⟩
  · clear h0
    go_enter Try.func4, Try.ntmps4
    go_wp2_with fail
    refine (awake_any _).mono ?_
    rintro e w2 ⟨rfl, s2⟩
    have Z2 := Lib.hid s2
    clear s2
    go_wp2_with fail
    refine (best_nil _ _ _).mono ?_
    rintro e w3 ⟨rfl, s3⟩
    have Z3 := Lib.hid (Z2.out.then_ s3)
    clear s3
    go_wp2_with fail
    refine (rbest_nil _ _ _).mono ?_
    rintro e w4 ⟨rfl, s4⟩
    have Z4 := Lib.hid (Z3.out.then_ s4)
    clear s4
    go_wp2_with fail
    go_loopw [5, 6] (fun i _ wr => i = .int .i64 0 ∧ wr = w4) (fun _ _ _ => 0)
    case atStart => exact ⟨rfl, rfl⟩
    case round =>
      obtain ⟨rfl, rfl⟩ := hrel
      go_wp2_with fail
      go_ret
      exact ⟨rfl, Z4.out.toBelow⟩
  · clear h0
    have H := Lib.hid hW
    clear hW
    have hq : ((l.length : Int) ≤ 9223372036854775807) := by omega
    have HP := Lib.hid (And.intro hp hmax)
    clear hp hmax
    go_enter Try.func4, Try.ntmps4
    go_wp2_with fail
    refine (awake_any _).mono ?_
    rintro e w2 ⟨rfl, s2⟩
    have Z2 := Lib.hid s2
    clear s2
    cases hg : decide ((500 : Int) < (l.length : Int))
    rotate_left
    · go_wp2_with fail
      go_ret
      exact ⟨rfl, Z2.out.toBelow⟩
    have hl : l.length ≤ 1000 := by simp at hg; omega
    go_wp2_with fail
    refine (best_any l b off cap _ hl (H.out.step Z2.out (fun s => s.elim))).mono ?_
    rintro e w3 ⟨rfl, s3⟩
    have Z3 := Lib.hid (Z2.out.then_ s3)
    clear s3
    go_wp2_with fail
    refine (rbest_any l b off cap _ hl (H.out.step Z3.out (fun s => s.elim))).mono ?_
    rintro e w4 ⟨rfl, s4⟩
    have Z4 := Lib.hid (Z3.out.then_ s4)
    clear s4
    have hb : 0 ≤ bestK l l.length ∧ bestK l l.length < l.length := by
      rcases bestK_rng l l.length with ⟨_, h⟩ | h
      · have := HP.out.1; omega
      · exact h
    have BB := Lib.hid (bestK_best l l.length hb.1)
    obtain ⟨m, hm⟩ : ∃ m : Nat, bestK l l.length = m := ⟨(bestK l l.length).toNat, by omega⟩
    rw [hm] at hb BB ⊢
    have hml : m < l.length := by omega
    obtain ⟨x, hx⟩ : ∃ x, l[m]? = some x := ⟨l[m], List.getElem?_eq_getElem hml⟩
    have fx : Hid x.fine := H.out.fine x (List.mem_of_getElem? hx)
    have BX : Hid (∀ i y, l[i]? = some y → lex x.flat y.flat ≤ 0 ∧ (lex x.flat y.flat = 0 → m ≤ i)) := Lib.hid fun i y hy => by
      have hi : i < l.length := (List.getElem?_eq_some_iff.1 hy).1
      have := BB.out i hi
      rw [Int.toNat_natCast, show l.getD m default = x by simp [List.getD, hx], show l.getD i default = y by simp [List.getD, hy]] at this
      exact ⟨this.1, fun h => by have := this.2 h; omega⟩
    have HX := Lib.hid hx
    have g1 : decide ((0 : Int) ≤ (m : Int)) = true := by simp
    have g2 : decide ((0 : Int) < (l.length : Int)) = true := by simp; omega
    have g3 : decide (0 < l.length) = true := by simp; omega
    have g4 : 0 < l.length := by omega
    have c1 : (0 : Int) ≤ (m : Int) := by omega
    have c2 : (m : Int) < (l.length : Int) := by omega
    clear hm hb BB hx hml
    go_wp2_with fail
    go_loopw [5, 6] (fun i _ wr => ∃ j : Nat, j ≤ l.length ∧ i = .int .i64 j ∧ Hid (Step None w wr)) (fun i _ _ => l.length - (intOf i).toNat)
    case atStart => exact ⟨0, Nat.zero_le _, rfl, Z4⟩
    case round =>
      obtain ⟨j, hj, rfl, hs⟩ := hrel
      by_cases hlt : j < l.length
      · have d1 : decide ((j : Int) < (l.length : Int)) = true := by simpa using hlt
        have hw1 : IntKind.i64.wrap ((j : Int) + 1) = ((j + 1 : Nat) : Int) := by rw [IntWalk.i64_in _ (by omega)]; omega
        obtain ⟨y, hy⟩ : ∃ y, l[j]? = some y := ⟨l[j], List.getElem?_eq_getElem hlt⟩
        have fy : Hid y.fine := H.out.fine y (List.mem_of_getElem? hy)
        have hxy := BX.out j y hy
        have K : Hid (∀ w', Step None w w' → (Instr.loadAt 27 (.pointer (some ⟨b, off + m * 17, none⟩))).run Try.prog w' = .ok (.agg x.cells) w' ∧ (Instr.loadAt 27 (.pointer (some ⟨b, off + j * 17, none⟩))).run Try.prog w' = .ok (.agg y.cells) w') := fun w' h' =>
          ⟨(H.out.step h' (fun s => s.elim)).load HX.out, (H.out.step h' (fun s => s.elim)).load hy⟩
        have k0 : (0 : Int) ≤ (j : Int) := by omega
        have k1 : (j : Int) < (l.length : Int) := by omega
        have C := Lib.hid (vec_compare x y · fx.out fy.out)
        have rg := lex_rng x.flat y.flat
        clear hy
        generalize lex x.flat y.flat = r at *
        have f1 : decide (0 < r) = false := by simp; omega
        have RR := Lib.hid (And.intro hxy rg)
        clear hxy rg
        go_wp2_with fail
        refine wp_region_plan (fun w' => (Instr.loadAt 27 (.pointer (some ⟨b, off + m * 17, none⟩))).run Try.prog w' = .ok (.agg x.cells) w' ∧ (Instr.loadAt 27 (.pointer (some ⟨b, off + j * 17, none⟩))).run Try.prog w' = .ok (.agg y.cells) w') (.take 0 (.take 1 (.take 2 (.take 3 (.take 4 (.take 5 (.take 6 (.take 7 (.alt 8 (.take 9 .done) .none))))))))) _
          (by simp only [Plan.map, opOf, List.getElem?_toArray, List.getElem?_cons_zero, List.getElem?_cons_succ, Option.getD_some]; rfl) (by kernel_rfl) (by kernel_rfl) (by kernel_rfl) (by decide) (by intro c a d v w; cases d <;> exact fun h => h) (K.out _ hs.out.drew) ?_
        repeat (first | (refine wpPlan.taken (by rfl) (fun w' hS' => run_load_op rfl rfl hS'.1) ?_; simp only [Act.put, List.setIfInBounds_toArray, List.set_cons_zero, List.set_cons_succ]) | (refine wpPlan.taken (by rfl) (fun w' hS' => run_load_op rfl rfl hS'.2) ?_; simp only [Act.put, List.setIfInBounds_toArray, List.set_cons_zero, List.set_cons_succ]) | (refine wpPlan.taken (by rfl) (by intro w' hS'; (try dsimp only at hS'); go_split_ands; go_simp; try with_reducible rfl) ?_; simp only [Act.put, List.setIfInBounds_toArray, List.set_cons_zero, List.set_cons_succ]) | (refine wpPlan.passed (by rfl) ?_; simp only [Act.put, List.setIfInBounds_toArray, List.set_cons_zero, List.set_cons_succ]))
        refine wpPlan.runs fun K' hK => ?_
        go_simp
        refine (C.out _).mono ?_
        rintro e w5 ⟨rfl, s5⟩
        have Z5 := Lib.hid (hs.out.drew.then_ s5)
        refine hK.out _ _ (K.out _ Z5.out) ?_
        clear hK K' s5
        repeat (first | (refine wpPlan.taken (by rfl) (fun w' hS' => run_load_op rfl rfl hS'.1) ?_; simp only [Act.put, List.setIfInBounds_toArray, List.set_cons_zero, List.set_cons_succ]) | (refine wpPlan.taken (by rfl) (fun w' hS' => run_load_op rfl rfl hS'.2) ?_; simp only [Act.put, List.setIfInBounds_toArray, List.set_cons_zero, List.set_cons_succ]) | (refine wpPlan.taken (by rfl) (by intro w' hS'; (try dsimp only at hS'); go_split_ands; go_simp; try with_reducible rfl) ?_; simp only [Act.put, List.setIfInBounds_toArray, List.set_cons_zero, List.set_cons_succ]) | (refine wpPlan.passed (by rfl) ?_; simp only [Act.put, List.setIfInBounds_toArray, List.set_cons_zero, List.set_cons_succ]))
        refine wpPlan.done ?_
        cases f2 : (r == 0)
        · go_wp2_with fail
          go_roundw
          case rel => exact ⟨j + 1, by omega, rfl, Z5⟩
          case measure => simp [intOf]; omega
        · have f3 : decide ((j : Int) < (m : Int)) = false := by
            have := RR.out.1.2 (by simpa using f2)
            simp; omega
          have f4 : decide (j < m) = false := by simp at f3; simp; omega
          have f5 : ¬ j < m := by simp at f4; omega
          go_wp2_with fail
          go_roundw
          case rel => exact ⟨j + 1, by omega, rfl, Z5⟩
          case measure => simp [intOf]; omega
      · have d1 : decide ((j : Int) < (l.length : Int)) = false := by simpa using hlt
        go_wp2_with fail
        go_ret
        exact ⟨rfl, hs.out.toBelow⟩

end Go.Proofs.Ytehlaomippbehaa
