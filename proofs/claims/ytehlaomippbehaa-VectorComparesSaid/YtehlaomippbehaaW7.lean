/- VectorCompares, VectorOrder, VectorFar, VectorAdds, walked. -/
import Derived.Test.YtehlaomippbehaaW6
namespace Go.Proofs.Ytehlaomippbehaa
open Go.RowKit Go.Gm

theorem fits_id {w : World} {l : List Value} (h : Fits w (.cat 1 (.int .i64) (.cat 6 (.arr 6 1 (.int .u8)) .nil)) l) : ∃ x : Idn, l = x.cells.toList ∧ Small x.mac := by
  obtain ⟨p, _, rfl, -, h1⟩ := h.intc
  obtain ⟨_, _, rfl, hm, h2⟩ := h1.aggc
  obtain ⟨ms, rfl, hl, hw⟩ := hm.intArr
  obtain rfl := h2.nilc
  match ms, hl with
  | [a0, a1, a2, a3, a4, a5], _ => exact ⟨⟨p, a0, a1, a2, a3, a4, a5⟩, rfl, fun x hx => wf_u8 (hw x hx)⟩
theorem fits_vec {w : World} {l : List Value} (h : Fits w (.cat 7 (.cat 1 (.int .i64) (.cat 6 (.arr 6 1 (.int .u8)) .nil)) (.cat 1 (.int .i64) (.cat 7 (.cat 1 (.int .i64) (.cat 6 (.arr 6 1 (.int .u8)) .nil)) (.cat 1 (.int .i64) (.cat 1 (.int .i64) .nil))))) l) : ∃ x : Vec, l = x.cells.toList ∧ x.fine := by
  obtain ⟨_, _, rfl, hr, h1⟩ := h.aggc
  obtain ⟨r, rfl, fr⟩ := fits_id hr
  obtain ⟨c, _, rfl, -, h2⟩ := h1.intc
  obtain ⟨_, _, rfl, hb, h3⟩ := h2.aggc
  obtain ⟨b, rfl, fb⟩ := fits_id hb
  obtain ⟨p, _, rfl, -, h4⟩ := h3.intc
  obtain ⟨o, _, rfl, -, h5⟩ := h4.intc
  obtain rfl := h5.nilc
  exact ⟨⟨r, c, b, p, o⟩, rfl, fr, fb⟩
theorem arg_vec {w : World} {v : Value} (h : Arg w (.cat 7 (.cat 1 (.int .i64) (.cat 6 (.arr 6 1 (.int .u8)) .nil)) (.cat 1 (.int .i64) (.cat 7 (.cat 1 (.int .i64) (.cat 6 (.arr 6 1 (.int .u8)) .nil)) (.cat 1 (.int .i64) (.cat 1 (.int .i64) .nil))))) v) : ∃ x : Vec, v = .agg x.cells ∧ x.fine := by
  obtain ⟨⟨l⟩, rfl, hf⟩ := h.agg rfl
  obtain ⟨x, hx, fx⟩ := fits_vec hf
  exact ⟨x, by rw [show l = x.cells.toList from hx], fx⟩

theorem Vec.add_fine {x : Vec} (h : x.fine) (k : Int) : (x.add k).fine := h

/-- Two blocks stay. -/
theorem loads_two {w w' : World} {x y : Vec} (h : Step None ((w.alloc (.cells x.cells 27)).alloc (.cells y.cells 27)) w') : (Instr.loadAt 27 (.pointer (some ⟨w.heap.size, 0, none⟩))).run Try.prog w' = .ok (.agg x.cells) w' ∧ (Instr.loadAt 27 (.pointer (some ⟨w.heap.size + 1, 0, none⟩))).run Try.prog w' = .ok (.agg y.cells) w' :=
  ⟨load_block (h.blk (two_new w x.cells y.cells 27 27).1 (fun s => s.elim)) rfl, load_block (h.blk (two_new w x.cells y.cells 27 27).2 (fun s => s.elim)) rfl⟩

set_option linter.unusedSimpArgs false in
set_option maxHeartbeats 8000000 in
theorem vectorCompares_walk (v0 v1 v2 : Value) (w : World) (h0 : Arg w (.cat 7 (.cat 1 (.int .i64) (.cat 6 (.arr 6 1 (.int .u8)) .nil)) (.cat 1 (.int .i64) (.cat 7 (.cat 1 (.int .i64) (.cat 6 (.arr 6 1 (.int .u8)) .nil)) (.cat 1 (.int .i64) (.cat 1 (.int .i64) .nil))))) v0) (h1 : Arg w (.cat 7 (.cat 1 (.int .i64) (.cat 6 (.arr 6 1 (.int .u8)) .nil)) (.cat 1 (.int .i64) (.cat 7 (.cat 1 (.int .i64) (.cat 6 (.arr 6 1 (.int .u8)) .nil)) (.cat 1 (.int .i64) (.cat 1 (.int .i64) .nil))))) v1) (h2 : Arg w (.int .i64) v2) :
    Calls Try.prog 3 #[v0, v1, v2] w fun e w' => e = .returned (.bool true) ∧ Below w.heap.size w w' := by
  obtain ⟨x, rfl, fx⟩ := arg_vec h0
  obtain ⟨y, rfl, fy⟩ := arg_vec h1
  obtain ⟨k, rfl, -⟩ := h2.int
  have F := Lib.hid (And.intro fx fy)
  clear fx fy h0 h1 h2
  have S1 := Lib.hid (((Step.refl None w).alloc (.cells x.cells 27)).alloc (.cells y.cells 27))
  have Z0 := Lib.hid (Step.refl None ((w.alloc (.cells x.cells 27)).alloc (.cells y.cells 27)))
  have K : Hid (∀ w', Step None ((w.alloc (.cells x.cells 27)).alloc (.cells y.cells 27)) w' → (Instr.loadAt 27 (.pointer (some ⟨w.heap.size, 0, none⟩))).run Try.prog w' = .ok (.agg x.cells) w' ∧ (Instr.loadAt 27 (.pointer (some ⟨w.heap.size + 1, 0, none⟩))).run Try.prog w' = .ok (.agg y.cells) w') := fun w' h' => loads_two h'
  have he := eq_vec (x.add k) (x.add k)
  go_enter Try.func3, Try.ntmps3
  go_wp2_with fail
  refine (awake_any _).mono ?_
  rintro e w2 ⟨rfl, s2⟩
  have Z1 := Lib.hid (Z0.out.then_ s2)
  clear s2 Z0
  go_wp2_with fail
  refine wp_region_plan (fun w' => (Instr.loadAt 27 (.pointer (some ⟨w.heap.size, 0, none⟩))).run Try.prog w' = .ok (.agg x.cells) w' ∧ (Instr.loadAt 27 (.pointer (some ⟨w.heap.size + 1, 0, none⟩))).run Try.prog w' = .ok (.agg y.cells) w') (.take 0 (.take 1 (.take 2 (.take 3 (.take 5 (.take 6 (.alt 4 (.alt 7 (.take 8 (.take 9 (.take 10 (.take 11 (.take 12 (.take 14 (.take 15 (.alt 13 (.alt 16 (.take 17 (.take 18 (.take 19 .done))) .none) .none)))))))) .none) .none))))))) _
    (by simp only [Plan.map, opOf, List.getElem?_toArray, List.getElem?_cons_zero, List.getElem?_cons_succ, Option.getD_some]; rfl) (by kernel_rfl) (by kernel_rfl) (by kernel_rfl) (by decide) (by intro c a d v w; cases d <;> exact fun h => h) (K.out _ Z1.out.drew) ?_
  repeat (first | (refine wpPlan.taken (by rfl) (fun w' hS' => run_load_op rfl rfl hS'.1) ?_; simp only [Act.put, List.setIfInBounds_toArray, List.set_cons_zero, List.set_cons_succ]) | (refine wpPlan.taken (by rfl) (fun w' hS' => run_load_op rfl rfl hS'.2) ?_; simp only [Act.put, List.setIfInBounds_toArray, List.set_cons_zero, List.set_cons_succ]) | (refine wpPlan.taken (by rfl) (by intro w' hS'; (try dsimp only at hS'); go_split_ands; go_simp; try with_reducible rfl) ?_; simp only [Act.put, List.setIfInBounds_toArray, List.set_cons_zero, List.set_cons_succ]) | (refine wpPlan.passed (by rfl) ?_; simp only [Act.put, List.setIfInBounds_toArray, List.set_cons_zero, List.set_cons_succ]))
  refine wpPlan.runs fun K' hK => ?_
  go_simp
  refine (vec_compare x y _ F.out.1 F.out.2).mono ?_
  rintro e w3 ⟨rfl, s3⟩
  have Z3 := Lib.hid (Z1.out.drew.then_ s3)
  refine hK.out _ _ (K.out _ Z3.out) ?_
  clear hK K' s3 Z1
  refine wpPlan.runs fun K' hK => ?_
  go_simp
  refine (rvec_compare x y _ F.out.1 F.out.2).mono ?_
  rintro e w4 ⟨rfl, s4⟩
  have Z4 := Lib.hid (Z3.out.then_ s4)
  refine hK.out _ _ (K.out _ Z4.out) ?_
  clear hK K' s4 Z3
  repeat (first | (refine wpPlan.taken (by rfl) (fun w' hS' => run_load_op rfl rfl hS'.1) ?_; simp only [Act.put, List.setIfInBounds_toArray, List.set_cons_zero, List.set_cons_succ]) | (refine wpPlan.taken (by rfl) (fun w' hS' => run_load_op rfl rfl hS'.2) ?_; simp only [Act.put, List.setIfInBounds_toArray, List.set_cons_zero, List.set_cons_succ]) | (refine wpPlan.taken (by rfl) (by intro w' hS'; (try dsimp only at hS'); go_split_ands; go_simp; try with_reducible rfl) ?_; simp only [Act.put, List.setIfInBounds_toArray, List.set_cons_zero, List.set_cons_succ]) | (refine wpPlan.passed (by rfl) ?_; simp only [Act.put, List.setIfInBounds_toArray, List.set_cons_zero, List.set_cons_succ]))
  refine wpPlan.runs fun K' hK => ?_
  go_simp
  refine (add_any x k _).mono ?_
  rintro e w5 ⟨rfl, s5⟩
  have Z5 := Lib.hid (Z4.out.then_ s5)
  refine hK.out _ _ (K.out _ Z5.out) ?_
  clear hK K' s5 Z4
  refine wpPlan.runs fun K' hK => ?_
  go_simp
  refine (radd_any x k _).mono ?_
  rintro e w6 ⟨rfl, s6⟩
  have Z6 := Lib.hid (Z5.out.then_ s6)
  refine hK.out _ _ (K.out _ Z6.out) ?_
  clear hK K' s6 Z5
  repeat (first | (refine wpPlan.taken (by rfl) (fun w' hS' => run_load_op rfl rfl hS'.1) ?_; simp only [Act.put, List.setIfInBounds_toArray, List.set_cons_zero, List.set_cons_succ]) | (refine wpPlan.taken (by rfl) (fun w' hS' => run_load_op rfl rfl hS'.2) ?_; simp only [Act.put, List.setIfInBounds_toArray, List.set_cons_zero, List.set_cons_succ]) | (refine wpPlan.taken (by rfl) (by intro w' hS'; (try dsimp only at hS'); go_split_ands; go_simp; try with_reducible rfl) ?_; simp only [Act.put, List.setIfInBounds_toArray, List.set_cons_zero, List.set_cons_succ]) | (refine wpPlan.passed (by rfl) ?_; simp only [Act.put, List.setIfInBounds_toArray, List.set_cons_zero, List.set_cons_succ]))
  refine wpPlan.done ?_
  go_wp2_with fail
  go_ret
  exact ⟨rfl, (S1.out.then_ Z6.out).toBelow⟩

end Go.Proofs.Ytehlaomippbehaa
