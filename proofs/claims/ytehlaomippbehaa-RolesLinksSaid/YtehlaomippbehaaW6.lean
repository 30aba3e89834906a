/- awake, and what ways are that are handed in. -/
import Derived.Test.YtehlaomippbehaaW5
import Derived.Test.YtehlaomippbehaaPiec
namespace Go.Proofs.Ytehlaomippbehaa
open Go.RowKit Go.Gm

/-- awake's way. -/
def five : Vec := ⟨⟨0, 0, 0, 0, 0, 0, 0⟩, 5, ⟨0, 0, 0, 0, 0, 0, 0⟩, 0, 0⟩
theorem five_cells : five.cells = #[.int .i64 0, .int .u8 0, .int .u8 0, .int .u8 0, .int .u8 0, .int .u8 0, .int .u8 0, .int .i64 5, .int .i64 0, .int .u8 0, .int .u8 0, .int .u8 0, .int .u8 0, .int .u8 0, .int .u8 0, .int .i64 0, .int .i64 0] := rfl
theorem seven_cells : (five.add 2).cells = #[.int .i64 0, .int .u8 0, .int .u8 0, .int .u8 0, .int .u8 0, .int .u8 0, .int .u8 0, .int .i64 7, .int .i64 0, .int .u8 0, .int .u8 0, .int .u8 0, .int .u8 0, .int .u8 0, .int .u8 0, .int .i64 0, .int .i64 0] := by
  have h : addC 5 2 = 7 := by decide
  simp [Vec.cells, Vec.add, five, h]
theorem five_fine : five.fine := ⟨fun x hx => by simp [five, Idn.mac] at hx; omega, fun x hx => by simp [five, Idn.mac] at hx; omega⟩
theorem seven_fine : (five.add 2).fine := five_fine
theorem five_lex : lex five.flat (five.add 2).flat = -1 := by decide
theorem five_best : bestK [five.add 2, five] [five.add 2, five].length = 1 := by decide

theorem ways_two (w : World) (g : Nat) (h : w.heap[g]? = some (.cells #[.int .i64 0, .int .u8 0, .int .u8 0, .int .u8 0, .int .u8 0, .int .u8 0, .int .u8 0, .int .i64 7, .int .i64 0, .int .u8 0, .int .u8 0, .int .u8 0, .int .u8 0, .int .u8 0, .int .u8 0, .int .i64 0, .int .i64 0, .int .i64 0, .int .u8 0, .int .u8 0, .int .u8 0, .int .u8 0, .int .u8 0, .int .u8 0, .int .i64 5, .int .i64 0, .int .u8 0, .int .u8 0, .int .u8 0, .int .u8 0, .int .u8 0, .int .u8 0, .int .i64 0, .int .i64 0] 27 (0, 0))) : Ways w g 0 [five.add 2, five] := by
  refine ⟨fun i v hv j u hu => ?_, fun v hv => ?_⟩
  · rw [blk_cell h]
    match i, hv with
    | 0, hv =>
      simp only [List.getElem?_cons_zero, Option.some.injEq] at hv
      subst hv
      rw [seven_cells] at hu
      rw [← hu]
      match j, hu with
      | 0, _ => rfl
      | 1, _ => rfl
      | 2, _ => rfl
      | 3, _ => rfl
      | 4, _ => rfl
      | 5, _ => rfl
      | 6, _ => rfl
      | 7, _ => rfl
      | 8, _ => rfl
      | 9, _ => rfl
      | 10, _ => rfl
      | 11, _ => rfl
      | 12, _ => rfl
      | 13, _ => rfl
      | 14, _ => rfl
      | 15, _ => rfl
      | 16, _ => rfl
      | j + 17, hu => simp at hu
    | 1, hv =>
      simp only [List.getElem?_cons_succ, List.getElem?_cons_zero, Option.some.injEq] at hv
      subst hv
      rw [five_cells] at hu
      rw [← hu]
      match j, hu with
      | 0, _ => rfl
      | 1, _ => rfl
      | 2, _ => rfl
      | 3, _ => rfl
      | 4, _ => rfl
      | 5, _ => rfl
      | 6, _ => rfl
      | 7, _ => rfl
      | 8, _ => rfl
      | 9, _ => rfl
      | 10, _ => rfl
      | 11, _ => rfl
      | 12, _ => rfl
      | 13, _ => rfl
      | 14, _ => rfl
      | 15, _ => rfl
      | 16, _ => rfl
      | j + 17, hu => simp at hu
    | i + 2, hv => simp at hv
  · simp only [List.mem_cons, List.not_mem_nil, or_false] at hv
    rcases hv with rfl | rfl
    · exact seven_fine
    · exact five_fine

/-- A block of one way, read. -/
theorem load_block {w : World} {g : Nat} {cs : Array Value} {t : TypeId} {fr : Nat × Nat} (h : w.heap[g]? = some (.cells cs t fr)) (hs : cs.size = 17) : (Instr.loadAt 27 (.pointer (some ⟨g, 0, none⟩))).run Try.prog w = .ok (.agg cs) w := by
  have := run_loadAt_mid (P := Try.prog) w g 0 27 cs.toList _ (fun j u hj => by rw [blk_cell h]; simpa using hj) Try.underlying27 rfl (by rw [Array.length_toList, hs]; kernel_rfl)
  simpa using this

set_option maxHeartbeats 4000000 in
theorem awake_any (w : World) : Calls Try.prog 16 #[] w fun e w' => e = .returned (.bool true) ∧ Step None w w' := by
  have P1 := Lib.hid (heap_alloc_new w (.cells #[.int .i64 0, .int .u8 0, .int .u8 0, .int .u8 0, .int .u8 0, .int .u8 0, .int .u8 0, .int .i64 5, .int .i64 0, .int .u8 0, .int .u8 0, .int .u8 0, .int .u8 0, .int .u8 0, .int .u8 0, .int .i64 0, .int .i64 0] 27))
  have S1 := Lib.hid ((Step.refl None w).alloc (.cells #[.int .i64 0, .int .u8 0, .int .u8 0, .int .u8 0, .int .u8 0, .int .u8 0, .int .u8 0, .int .i64 5, .int .i64 0, .int .u8 0, .int .u8 0, .int .u8 0, .int .u8 0, .int .u8 0, .int .u8 0, .int .i64 0, .int .i64 0] 27))
  have K : Hid (∀ w', Step None (w.alloc (.cells #[.int .i64 0, .int .u8 0, .int .u8 0, .int .u8 0, .int .u8 0, .int .u8 0, .int .u8 0, .int .i64 5, .int .i64 0, .int .u8 0, .int .u8 0, .int .u8 0, .int .u8 0, .int .u8 0, .int .u8 0, .int .i64 0, .int .i64 0] 27)) w' → (Instr.loadAt 27 (.pointer (some ⟨w.heap.size, 0, none⟩))).run Try.prog w' = .ok (.agg #[.int .i64 0, .int .u8 0, .int .u8 0, .int .u8 0, .int .u8 0, .int .u8 0, .int .u8 0, .int .i64 5, .int .i64 0, .int .u8 0, .int .u8 0, .int .u8 0, .int .u8 0, .int .u8 0, .int .u8 0, .int .i64 0, .int .i64 0]) w') := fun w' h' => load_block (h'.blk P1.out (fun s => s.elim)) rfl
  go_enter Try.func16, Try.ntmps16
  go_wp2_with fail
  refine wp_region_plan (fun w' => (Instr.loadAt 27 (.pointer (some ⟨w.heap.size, 0, none⟩))).run Try.prog w' = .ok (.agg #[.int .i64 0, .int .u8 0, .int .u8 0, .int .u8 0, .int .u8 0, .int .u8 0, .int .u8 0, .int .i64 5, .int .i64 0, .int .u8 0, .int .u8 0, .int .u8 0, .int .u8 0, .int .u8 0, .int .u8 0, .int .i64 0, .int .i64 0]) w') (.take 0 (.take 1 (.alt 2 (.alt 3 (.take 4 (.take 5 (.take 6 (.take 8 (.alt 7 (.alt 9 (.alt 10 (.take 11 (.take 12 (.take 13 .done))) .none) .none) .none))))) .none) .none))) _
    (by simp only [Plan.map, opOf, List.getElem?_toArray, List.getElem?_cons_zero, List.getElem?_cons_succ, Option.getD_some]; rfl) (by kernel_rfl) (by kernel_rfl) (by kernel_rfl) (by decide) (by intro c a d v w; cases d <;> exact fun h => h) (K.out _ (Step.refl None _).drew) ?_
  repeat (first | (refine wpPlan.taken (by rfl) (fun w' hS' => run_load_op rfl rfl hS') ?_; simp only [Act.put, List.setIfInBounds_toArray, List.set_cons_zero, List.set_cons_succ]) | (refine wpPlan.taken (by rfl) (by intro w' hS'; (try dsimp only at hS'); go_split_ands; go_simp; try with_reducible rfl) ?_; simp only [Act.put, List.setIfInBounds_toArray, List.set_cons_zero, List.set_cons_succ]) | (refine wpPlan.passed (by rfl) ?_; simp only [Act.put, List.setIfInBounds_toArray, List.set_cons_zero, List.set_cons_succ]))
  have e0 := Lib.hid (Step.refl None (w.alloc (.cells #[.int .i64 0, .int .u8 0, .int .u8 0, .int .u8 0, .int .u8 0, .int .u8 0, .int .u8 0, .int .i64 5, .int .i64 0, .int .u8 0, .int .u8 0, .int .u8 0, .int .u8 0, .int .u8 0, .int .u8 0, .int .i64 0, .int .i64 0] 27))).drew
  refine wpPlan.runs fun K' hK => ?_
  go_simp
  refine (add_any five 2 _).mono ?_
  rintro e w1 ⟨rfl, s1⟩
  have e1 := Lib.hid (e0.out.then_ s1)
  refine hK.out _ _ (K.out _ e1.out) ?_
  clear hK K' s1 e0
  refine wpPlan.runs fun K' hK => ?_
  go_simp
  refine (vec_compare five (five.add 2) _ five_fine seven_fine).mono ?_
  rintro e w2 ⟨rfl, s2⟩
  rw [five_lex]
  have e2 := Lib.hid (e1.out.then_ s2)
  refine hK.out _ _ (K.out _ e2.out) ?_
  clear hK K' s2 e1
  repeat (first | (refine wpPlan.taken (by rfl) (fun w' hS' => run_load_op rfl rfl hS') ?_; simp only [Act.put, List.setIfInBounds_toArray, List.set_cons_zero, List.set_cons_succ]) | (refine wpPlan.taken (by rfl) (by intro w' hS'; (try dsimp only at hS'); go_split_ands; go_simp; try with_reducible rfl) ?_; simp only [Act.put, List.setIfInBounds_toArray, List.set_cons_zero, List.set_cons_succ]) | (refine wpPlan.passed (by rfl) ?_; simp only [Act.put, List.setIfInBounds_toArray, List.set_cons_zero, List.set_cons_succ]))
  refine wpPlan.runs fun K' hK => ?_
  go_simp
  refine (add_any five 2 _).mono ?_
  rintro e w3 ⟨rfl, s3⟩
  rw [seven_cells]
  have e3 := Lib.hid (e2.out.then_ s3)
  refine hK.out _ _ (K.out _ e3.out) ?_
  clear hK K' s3 e2
  repeat (first | (refine wpPlan.taken (by rfl) (fun w' hS' => run_load_op rfl rfl hS') ?_; simp only [Act.put, List.setIfInBounds_toArray, List.set_cons_zero, List.set_cons_succ]) | (refine wpPlan.taken (by rfl) (by intro w' hS'; (try dsimp only at hS'); go_split_ands; go_simp; try with_reducible rfl) ?_; simp only [Act.put, List.setIfInBounds_toArray, List.set_cons_zero, List.set_cons_succ]) | (refine wpPlan.passed (by rfl) ?_; simp only [Act.put, List.setIfInBounds_toArray, List.set_cons_zero, List.set_cons_succ]))
  refine wpPlan.runs fun K' hK => ?_
  go_simp
  refine hK.out _ _ (K.out _ (e3.out.alloc _)) ?_
  clear hK K'
  refine wpPlan.runs fun K' hK => ?_
  go_simp
  have e4 := Lib.hid (e3.out.alloc (.cells #[.int .i64 0, .int .u8 0, .int .u8 0, .int .u8 0, .int .u8 0, .int .u8 0, .int .u8 0, .int .i64 7, .int .i64 0, .int .u8 0, .int .u8 0, .int .u8 0, .int .u8 0, .int .u8 0, .int .u8 0, .int .i64 0, .int .i64 0, .int .i64 0, .int .u8 0, .int .u8 0, .int .u8 0, .int .u8 0, .int .u8 0, .int .u8 0, .int .i64 5, .int .i64 0, .int .u8 0, .int .u8 0, .int .u8 0, .int .u8 0, .int .u8 0, .int .u8 0, .int .i64 0, .int .i64 0] 27))
  refine (best_any [five.add 2, five] w3.heap.size 0 2 _ (by simp) (ways_two _ _ (heap_alloc_new w3 _))).mono ?_
  rintro e w5 ⟨rfl, s5⟩
  rw [five_best]
  have e5 := Lib.hid (e4.out.then_ s5)
  refine hK.out _ _ (K.out _ e5.out) ?_
  clear hK K' s5 e4 e3
  repeat (first | (refine wpPlan.taken (by rfl) (fun w' hS' => run_load_op rfl rfl hS') ?_; simp only [Act.put, List.setIfInBounds_toArray, List.set_cons_zero, List.set_cons_succ]) | (refine wpPlan.taken (by rfl) (by intro w' hS'; (try dsimp only at hS'); go_split_ands; go_simp; try with_reducible rfl) ?_; simp only [Act.put, List.setIfInBounds_toArray, List.set_cons_zero, List.set_cons_succ]) | (refine wpPlan.passed (by rfl) ?_; simp only [Act.put, List.setIfInBounds_toArray, List.set_cons_zero, List.set_cons_succ]))
  refine wpPlan.done ?_
  go_wp2_with fail
  go_ret
  exact ⟨rfl, S1.out.then_ e5.out⟩

end Go.Proofs.Ytehlaomippbehaa
