/- The fields of one, as the code lays them. -/
import Derived.Test.YtehlaomippbehaaB3
namespace Go.Proofs.Ytehlaomippbehaa
open Go.RowKit Go.Gm

def fieldCells (g : Nat) : Array Value := #[.pointer (some ⟨g, 1, none⟩), .int .i64 1, .pointer (some ⟨g, 2, none⟩), .int .i64 2, .pointer none, .int .i64 0, .pointer (some ⟨g, 9, none⟩), .int .i64 4, .pointer (some ⟨g, 10, none⟩), .int .i64 2, .pointer none, .int .i64 1, .pointer (some ⟨g, 17, none⟩), .int .i64 2, .pointer (some ⟨g, 18, none⟩), .int .i64 2, .pointer (some ⟨g, 19, none⟩), .int .i64 2, .pointer (some ⟨g, 20, none⟩), .int .i64 2, .pointer (some ⟨g, 21, none⟩), .int .i64 2]

set_option maxHeartbeats 4000000 in
theorem fields_any (g : Nat) (w : World) : Calls Try.prog 52 #[.pointer (some ⟨g, 0, none⟩)] w fun e w' => e = .returned (.slice (some ⟨w.heap.size, 0, none⟩) 11 11) ∧ w'.heap[w.heap.size]? = some (.cells (fieldCells g) 71 (0, 0)) ∧ Step None w w' := by
  go_enter Try.func52, Try.ntmps52
  go_wp2_with fail
  refine wp_region_plan (fun w' => True) (.take 0 (.take 1 (.take 2 (.take 3 (.take 4 (.take 5 (.take 6 (.take 7 (.take 8 (.take 9 (.take 10 (.take 11 (.take 12 (.take 13 (.take 14 (.take 15 (.take 16 (.take 17 (.take 18 (.take 19 (.take 20 (.take 21 (.take 22 (.take 23 (.take 24 (.take 25 (.take 26 (.take 27 (.take 28 (.take 29 (.take 30 (.take 31 (.take 32 (.take 33 (.take 34 (.take 35 (.take 36 (.take 37 (.take 38 (.take 39 (.alt 40 (.take 41 .done) .none))))))))))))))))))))))))))))))))))))))))) _
    (by simp only [Plan.map, opOf, List.getElem?_toArray, List.getElem?_cons_zero, List.getElem?_cons_succ, Option.getD_some]; rfl) (by kernel_rfl) (by kernel_rfl) (by kernel_rfl) (by decide) (by intro c a d v w; cases d <;> exact fun h => h) trivial ?_
  repeat (refine wpPlan.taken (by rfl) (by intro w' hS'; (try dsimp only at hS'); go_split_ands; go_simp; try with_reducible rfl) ?_; simp only [Act.put, List.setIfInBounds_toArray, List.set_cons_zero, List.set_cons_succ])
  refine wpPlan.runs fun K' hK => ?_
  go_simp
  refine hK.out _ _ trivial ?_
  clear hK K'
  repeat (refine wpPlan.taken (by rfl) (by intro w' hS'; (try dsimp only at hS'); go_split_ands; go_simp; try with_reducible rfl) ?_; simp only [Act.put, List.setIfInBounds_toArray, List.set_cons_zero, List.set_cons_succ])
  refine wpPlan.done ?_
  go_wp2_with fail
  go_ret
  exact ⟨rfl, heap_alloc_new w.drew _, (Step.refl None w).drew.alloc _⟩

end Go.Proofs.Ytehlaomippbehaa
