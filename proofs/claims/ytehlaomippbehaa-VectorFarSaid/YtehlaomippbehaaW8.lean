/- VectorOrder, VectorFar, walked. -/
import Derived.Test.YtehlaomippbehaaW7
namespace Go.Proofs.Ytehlaomippbehaa
open Go.RowKit Go.Gm

theorem three_new (w : World) (a b c : Array Value) (s t u : TypeId) : (((w.alloc (.cells a s)).alloc (.cells b t)).alloc (.cells c u)).heap[w.heap.size]? = some (.cells a s (0, 0)) ∧ (((w.alloc (.cells a s)).alloc (.cells b t)).alloc (.cells c u)).heap[w.heap.size + 1]? = some (.cells b t (0, 0)) ∧ (((w.alloc (.cells a s)).alloc (.cells b t)).alloc (.cells c u)).heap[w.heap.size + 2]? = some (.cells c u (0, 0)) := by
  obtain ⟨h1, h2⟩ := two_new w a b s t
  refine ⟨(Below.heap_alloc _ _ _ (by simp; omega)).trans h1, (Below.heap_alloc _ _ _ (by simp)).trans h2, ?_⟩
  have := heap_alloc_new ((w.alloc (.cells a s)).alloc (.cells b t)) (.cells c u)
  simpa using this

theorem wpList_load_if {P : Program} {ops : Array Oper} {rest : List Oper} {Q : Exit → Act → World → Prop} {o : Oper} {a : Act} {w : World} (ty : TypeId) (x : Operand) (ho : o.op = .load ty x) (hw : Region.wanted o (yielded ops a.tmps) = true) {y v : Value} (hx : a.eval x = y)
    (hl : (Instr.loadAt ty y).run P w = .ok v w) (h : wpList P ops Q rest (a.put o.dst v) w) : wpList P ops Q (o :: rest) a w :=
  wpList_step fun K hK => by
    rw [if_pos hw]
    unfold Oper.wp execOp
    simp only [ho, hx, Sem.run_bind, hl, Result.andThen_ok, Sem.run_pure]
    exact hK _ _ h

set_option linter.unusedSimpArgs false in
set_option maxHeartbeats 8000000 in
theorem vectorOrder_walk (v0 v1 v2 : Value) (w : World) (h0 : Arg w (.cat 7 (.cat 1 (.int .i64) (.cat 6 (.arr 6 1 (.int .u8)) .nil)) (.cat 1 (.int .i64) (.cat 7 (.cat 1 (.int .i64) (.cat 6 (.arr 6 1 (.int .u8)) .nil)) (.cat 1 (.int .i64) (.cat 1 (.int .i64) .nil))))) v0) (h1 : Arg w (.cat 7 (.cat 1 (.int .i64) (.cat 6 (.arr 6 1 (.int .u8)) .nil)) (.cat 1 (.int .i64) (.cat 7 (.cat 1 (.int .i64) (.cat 6 (.arr 6 1 (.int .u8)) .nil)) (.cat 1 (.int .i64) (.cat 1 (.int .i64) .nil))))) v1) (h2 : Arg w (.cat 7 (.cat 1 (.int .i64) (.cat 6 (.arr 6 1 (.int .u8)) .nil)) (.cat 1 (.int .i64) (.cat 7 (.cat 1 (.int .i64) (.cat 6 (.arr 6 1 (.int .u8)) .nil)) (.cat 1 (.int .i64) (.cat 1 (.int .i64) .nil))))) v2) :
    Calls Try.prog 5 #[v0, v1, v2] w fun e w' => e = .returned (.bool true) ∧ Below w.heap.size w w' := by
  obtain ⟨x, rfl, fx⟩ := arg_vec h0
  obtain ⟨y, rfl, fy⟩ := arg_vec h1
  obtain ⟨z, rfl, fz⟩ := arg_vec h2
  have F : Hid (x.fine ∧ y.fine ∧ z.fine) := Lib.hid ⟨fx, fy, fz⟩
  clear fx fy fz h0 h1 h2
  obtain ⟨p1, p2, p3⟩ := three_new w x.cells y.cells z.cells 27 27 27
  have S1 := Lib.hid ((((Step.refl None w).alloc (.cells x.cells 27)).alloc (.cells y.cells 27)).alloc (.cells z.cells 27))
  have P : Hid (∀ w', Step None (((w.alloc (.cells x.cells 27)).alloc (.cells y.cells 27)).alloc (.cells z.cells 27)) w' → w'.heap[w.heap.size]? = some (.cells x.cells 27 (0, 0)) ∧ w'.heap[w.heap.size + 1]? = some (.cells y.cells 27 (0, 0)) ∧ w'.heap[w.heap.size + 2]? = some (.cells z.cells 27 (0, 0))) := Lib.hid fun w' h' =>
    ⟨h'.blk p1 (fun s => s.elim), h'.blk p2 (fun s => s.elim), h'.blk p3 (fun s => s.elim)⟩
  have Z0 := Lib.hid (Step.refl None (((w.alloc (.cells x.cells 27)).alloc (.cells y.cells 27)).alloc (.cells z.cells 27)))
  clear p1 p2 p3
  have C1 := Lib.hid (vec_compare x y · F.out.1 F.out.2.1)
  have C2 := Lib.hid (vec_compare y z · F.out.2.1 F.out.2.2)
  have C3 := Lib.hid (vec_compare x z · F.out.1 F.out.2.2)
  have C4 := Lib.hid (vec_compare y x · F.out.2.1 F.out.1)
  have he := eq_vec x y
  have r1 := lex_rng x.flat y.flat
  have r2 := lex_rng y.flat z.flat
  have r3 := lex_rng x.flat z.flat
  have tr := lex_trans (a := x.flat) (b := y.flat) (c := z.flat)
  have hz : (x.flat == y.flat) = (lex x.flat y.flat == 0) := by
    rw [Bool.eq_iff_iff]
    simp [lex_zero]
  rw [hz] at he
  rw [lex_neg x.flat y.flat] at C4
  generalize lex x.flat y.flat = X at *
  generalize lex y.flat z.flat = Y at *
  generalize lex x.flat z.flat = Z at *
  have R := Lib.hid (And.intro r1 (And.intro r2 (And.intro r3 tr)))
  clear hz r1 r2 r3 tr
  go_enter Try.func5, Try.ntmps5
  go_wp2_with fail
  refine (awake_any _).mono ?_
  rintro e w2 ⟨rfl, s2⟩
  have Z2 := Lib.hid (Z0.out.then_ s2)
  clear s2 Z0
  go_wp2_with (first
    | (refine wpList_load_if 27 (.tmp 3) rfl rfl rfl (load_block (P.out _ Z2.out).1 rfl) ?_)
    | (refine wpList_load_if 27 (.tmp 4) rfl rfl rfl (load_block (P.out _ Z2.out).2.1 rfl) ?_)
    | (refine wpList_load_if 27 (.tmp 5) rfl rfl rfl (load_block (P.out _ Z2.out).2.2 rfl) ?_))
  refine (C1.out _).mono ?_
  rintro e w3 ⟨rfl, s3⟩
  have Z3 := Lib.hid (Z2.out.then_ s3)
  clear s3 Z2 C1
  go_wp2_with (first
    | (refine wpList_load_if 27 (.tmp 3) rfl rfl rfl (load_block (P.out _ Z3.out).1 rfl) ?_)
    | (refine wpList_load_if 27 (.tmp 4) rfl rfl rfl (load_block (P.out _ Z3.out).2.1 rfl) ?_)
    | (refine wpList_load_if 27 (.tmp 5) rfl rfl rfl (load_block (P.out _ Z3.out).2.2 rfl) ?_))
  refine (C2.out _).mono ?_
  rintro e w4 ⟨rfl, s4⟩
  have Z4 := Lib.hid (Z3.out.then_ s4)
  clear s4 Z3 C2
  go_wp2_with (first
    | (refine wpList_load_if 27 (.tmp 3) rfl rfl rfl (load_block (P.out _ Z4.out).1 rfl) ?_)
    | (refine wpList_load_if 27 (.tmp 4) rfl rfl rfl (load_block (P.out _ Z4.out).2.1 rfl) ?_)
    | (refine wpList_load_if 27 (.tmp 5) rfl rfl rfl (load_block (P.out _ Z4.out).2.2 rfl) ?_))
  refine (C3.out _).mono ?_
  rintro e w5 ⟨rfl, s5⟩
  have Z5 := Lib.hid (Z4.out.then_ s5)
  clear s5 Z4 C3
  obtain ⟨r1, r2, r3, tr⟩ := R.out
  clear R
  rcases r1 with rfl | rfl | rfl <;> rcases r2 with rfl | rfl | rfl <;> rcases r3 with rfl | rfl | rfl <;> first | (exfalso; simp at tr; done) | (exfalso; have := tr (by omega) (by omega); omega) | skip
  all_goals
    clear tr
    go_wp2_with (first
      | (refine wpList_load_if 27 (.tmp 3) rfl rfl rfl (load_block (P.out _ Z5.out).1 rfl) ?_)
      | (refine wpList_load_if 27 (.tmp 4) rfl rfl rfl (load_block (P.out _ Z5.out).2.1 rfl) ?_)
      | (refine wpList_load_if 27 (.tmp 5) rfl rfl rfl (load_block (P.out _ Z5.out).2.2 rfl) ?_))
    refine (C4.out _).mono ?_
    rintro e w6 ⟨rfl, s6⟩
    have Z6 := Lib.hid (Z5.out.then_ s6)
    clear s6 Z5 C4
    go_wp2_with (first
      | (refine wpList_load_if 27 (.tmp 3) rfl rfl rfl (load_block (P.out _ Z6.out).1 rfl) ?_)
      | (refine wpList_load_if 27 (.tmp 4) rfl rfl rfl (load_block (P.out _ Z6.out).2.1 rfl) ?_)
      | (refine wpList_load_if 27 (.tmp 5) rfl rfl rfl (load_block (P.out _ Z6.out).2.2 rfl) ?_))
    go_ret
    exact ⟨rfl, (S1.out.then_ Z6.out).toBelow⟩

end Go.Proofs.Ytehlaomippbehaa
