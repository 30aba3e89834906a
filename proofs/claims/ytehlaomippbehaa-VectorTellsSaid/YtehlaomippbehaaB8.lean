/- Right: its closure, and the whole: as the document's. -/
import Derived.Test.YtehlaomippbehaaB7
namespace Go.Proofs.Ytehlaomippbehaa
open Go.RowKit Go.Gm

def fitsB (v : Int) (k : Nat) : Bool := decide (0 ≤ v) && decide (v < 2 ^ (8 * k))

set_option maxHeartbeats 4000000 in
theorem right1 (g off k f : Nat) (kz v : Int) (b : Bool) (w : World) (hkz : kz = k) (hc : w.cell? ⟨g, off, none⟩ = some (.int .i64 v)) (hf : w.heap[f]? = some (.cells #[.bool b] 4 (0, 0))) (hk : k = 1 ∨ k = 2 ∨ k = 4) :
    Calls Try.prog 48 #[.agg #[.pointer (some ⟨g, off, none⟩), .int .i64 kz], .pointer (some ⟨f, 0, none⟩)] w fun e w' => e = .returned (.tuple #[]) ∧ w'.heap[f]? = some (.cells #[.bool (b && fitsB v k)] 4 (0, 0)) ∧ Step (· = f) w w' := by
  have HK := Lib.hid hkz
  clear hkz
  have al := (Step.refl None w).alloc (.cells #[.pointer (some ⟨g, off, none⟩), .int .i64 kz] 71)
  have hb := heap_alloc_new w (.cells #[.pointer (some ⟨g, off, none⟩), .int .i64 kz] 71)
  obtain ⟨W, hW⟩ : ∃ W, w.alloc (.cells #[.pointer (some ⟨g, off, none⟩), .int .i64 kz] 71) = W := ⟨_, rfl⟩
  rw [hW] at al hb
  have hf' := al.blk hf (fun s => s.elim)
  have hc' := (al.cell (p := ⟨g, off, none⟩) (World.block_lt_of_cell? _ _ hc) (fun s => s.elim)).trans hc
  have c0 := blk_cell hf' 0
  have c1 := blk_cell hb 0
  have c2 := blk_cell hb 1
  simp only [List.getElem?_toArray, List.getElem?_cons_zero, List.getElem?_cons_succ] at c0 c1 c2
  have HE := Lib.hid hW
  have FIN : Hid (∀ r : Bool, r = (b && fitsB v k) → (W.setCell ⟨f, 0, none⟩ (.bool r)).drew.heap[f]? = some (.cells #[.bool (b && fitsB v k)] 4 (0, 0)) ∧ Step (· = f) w (W.setCell ⟨f, 0, none⟩ (.bool r)).drew) := Lib.hid (by
    rintro r rfl
    exact ⟨blk_set hf' 0 _, ((al.none (S := (· = f))).setCell (p := ⟨f, 0, none⟩) (fun _ => rfl) _).drew⟩)
  have hfz := blk_frozen hf' 0
  clear al hc hf hW hf' hb
  have e1 : ∀ j : Nat, j = 1 ∨ j = 2 ∨ j = 4 → fitsB v j = (decide (0 ≤ v) && decide (v < 2 ^ (8 * j))) := fun j _ => rfl
  cases b
  · rw [Bool.false_and] at FIN ⊢
    go_enter Try.func48, Try.ntmps48
    go_wp2_with (rw [HE.out])
    refine wp_region_plan (fun w' => w'.cell? ⟨f, 0, none⟩ = some (.bool false) ∧ w'.cell? ⟨w.heap.size, 0, none⟩ = some (.pointer (some ⟨g, off, none⟩)) ∧ w'.cell? ⟨w.heap.size, 1, none⟩ = some (.int .i64 kz) ∧ w'.cell? ⟨g, off, none⟩ = some (.int .i64 v)) (.take 0 (.take 1 (.take 2 (.take 3 (.take 4 (.take 5 (.take 6 (.take 7 (.take 8 (.take 9 (.take 10 (.take 11 (.take 12 (.take 13 (.take 14 (.take 15 (.take 16 (.take 17 (.take 18 (.last 19)))))))))))))))))))) _
      (by simp only [Plan.map, opOf, List.getElem?_toArray, List.getElem?_cons_zero, List.getElem?_cons_succ, Option.getD_some]; rfl) (by kernel_rfl) (by kernel_rfl) (by kernel_rfl) (by decide) (by intro c a d v w; cases d <;> exact fun h => h) ⟨c0, c1, c2, hc'⟩ ?_
    repeat (first | (refine wpPlan.taken (by rfl) (by intro w' hS'; (try dsimp only at hS'); go_split_ands; go_simp; try with_reducible rfl) ?_; simp only [Act.put, List.setIfInBounds_toArray, List.set_cons_zero, List.set_cons_succ]) | (refine wpPlan.passed (by rfl) ?_; simp only [Act.put, List.setIfInBounds_toArray, List.set_cons_zero, List.set_cons_succ]))
    refine wpPlan.ends fun K' hK => ?_
    go_simp
    refine hK.out _ _ ?_
    clear hK K'
    go_wp2_with (rw [HE.out])
    go_end0
    exact ⟨rfl, FIN.out _ rfl⟩
  · cases d0 : decide (0 ≤ v)
    · rw [show (true && fitsB v k) = false by simp [fitsB, d0]] at FIN ⊢
      go_enter Try.func48, Try.ntmps48
      go_wp2_with (rw [HE.out])
      refine wp_region_plan (fun w' => w'.cell? ⟨f, 0, none⟩ = some (.bool true) ∧ w'.cell? ⟨w.heap.size, 0, none⟩ = some (.pointer (some ⟨g, off, none⟩)) ∧ w'.cell? ⟨w.heap.size, 1, none⟩ = some (.int .i64 kz) ∧ w'.cell? ⟨g, off, none⟩ = some (.int .i64 v)) (.take 0 (.take 1 (.take 2 (.take 3 (.take 4 (.take 5 (.take 6 (.take 7 (.take 8 (.take 9 (.take 10 (.take 11 (.take 12 (.take 13 (.take 14 (.take 15 (.take 16 (.take 17 (.take 18 (.last 19)))))))))))))))))))) _
        (by simp only [Plan.map, opOf, List.getElem?_toArray, List.getElem?_cons_zero, List.getElem?_cons_succ, Option.getD_some]; rfl) (by kernel_rfl) (by kernel_rfl) (by kernel_rfl) (by decide) (by intro c a d v w; cases d <;> exact fun h => h) ⟨c0, c1, c2, hc'⟩ ?_
      repeat (first | (refine wpPlan.taken (by rfl) (by intro w' hS'; (try dsimp only at hS'); go_split_ands; go_simp; try with_reducible rfl) ?_; simp only [Act.put, List.setIfInBounds_toArray, List.set_cons_zero, List.set_cons_succ]) | (refine wpPlan.passed (by rfl) ?_; simp only [Act.put, List.setIfInBounds_toArray, List.set_cons_zero, List.set_cons_succ]))
      refine wpPlan.ends fun K' hK => ?_
      go_simp
      refine hK.out _ _ ?_
      clear hK K'
      go_wp2_with (rw [HE.out])
      go_end0
      exact ⟨rfl, FIN.out _ rfl⟩
    · rw [show (true && fitsB v k) = decide (v < 2 ^ (8 * k)) by simp [fitsB, d0]] at FIN ⊢
      clear e1
      rcases hk with rfl | rfl | rfl
      · obtain rfl : kz = 1 := HK.out
        have hw8 : IntKind.i64.wrap 8 = 8 := by decide
        go_enter Try.func48, Try.ntmps48
        go_wp2_with (rw [HE.out])
        refine wp_region_plan (fun w' => w'.cell? ⟨f, 0, none⟩ = some (.bool true) ∧ w'.cell? ⟨w.heap.size, 0, none⟩ = some (.pointer (some ⟨g, off, none⟩)) ∧ w'.cell? ⟨w.heap.size, 1, none⟩ = some (.int .i64 1) ∧ w'.cell? ⟨g, off, none⟩ = some (.int .i64 v)) (.take 0 (.take 1 (.take 2 (.take 3 (.take 4 (.take 5 (.take 6 (.take 7 (.take 8 (.take 9 (.take 10 (.take 11 (.take 12 (.take 13 (.take 14 (.take 15 (.take 16 (.take 17 (.take 18 (.last 19)))))))))))))))))))) _
          (by simp only [Plan.map, opOf, List.getElem?_toArray, List.getElem?_cons_zero, List.getElem?_cons_succ, Option.getD_some]; rfl) (by kernel_rfl) (by kernel_rfl) (by kernel_rfl) (by decide) (by intro c a d v w; cases d <;> exact fun h => h) ⟨c0, c1, c2, hc'⟩ ?_
        repeat (first | (refine wpPlan.taken (by rfl) (by intro w' hS'; (try dsimp only at hS'); go_split_ands; go_simp; try with_reducible rfl) ?_; simp only [Act.put, List.setIfInBounds_toArray, List.set_cons_zero, List.set_cons_succ]) | (refine wpPlan.passed (by rfl) ?_; simp only [Act.put, List.setIfInBounds_toArray, List.set_cons_zero, List.set_cons_succ]))
        refine wpPlan.ends fun K' hK => ?_
        go_simp
        refine hK.out _ _ ?_
        clear hK K'
        go_wp2_with (rw [HE.out])
        go_end0
        exact ⟨rfl, FIN.out _ rfl⟩
      · obtain rfl : kz = 2 := HK.out
        have hw8 : IntKind.i64.wrap 16 = 16 := by decide
        go_enter Try.func48, Try.ntmps48
        go_wp2_with (rw [HE.out])
        refine wp_region_plan (fun w' => w'.cell? ⟨f, 0, none⟩ = some (.bool true) ∧ w'.cell? ⟨w.heap.size, 0, none⟩ = some (.pointer (some ⟨g, off, none⟩)) ∧ w'.cell? ⟨w.heap.size, 1, none⟩ = some (.int .i64 2) ∧ w'.cell? ⟨g, off, none⟩ = some (.int .i64 v)) (.take 0 (.take 1 (.take 2 (.take 3 (.take 4 (.take 5 (.take 6 (.take 7 (.take 8 (.take 9 (.take 10 (.take 11 (.take 12 (.take 13 (.take 14 (.take 15 (.take 16 (.take 17 (.take 18 (.last 19)))))))))))))))))))) _
          (by simp only [Plan.map, opOf, List.getElem?_toArray, List.getElem?_cons_zero, List.getElem?_cons_succ, Option.getD_some]; rfl) (by kernel_rfl) (by kernel_rfl) (by kernel_rfl) (by decide) (by intro c a d v w; cases d <;> exact fun h => h) ⟨c0, c1, c2, hc'⟩ ?_
        repeat (first | (refine wpPlan.taken (by rfl) (by intro w' hS'; (try dsimp only at hS'); go_split_ands; go_simp; try with_reducible rfl) ?_; simp only [Act.put, List.setIfInBounds_toArray, List.set_cons_zero, List.set_cons_succ]) | (refine wpPlan.passed (by rfl) ?_; simp only [Act.put, List.setIfInBounds_toArray, List.set_cons_zero, List.set_cons_succ]))
        refine wpPlan.ends fun K' hK => ?_
        go_simp
        refine hK.out _ _ ?_
        clear hK K'
        go_wp2_with (rw [HE.out])
        go_end0
        exact ⟨rfl, FIN.out _ rfl⟩
      · obtain rfl : kz = 4 := HK.out
        have hw8 : IntKind.i64.wrap 32 = 32 := by decide
        go_enter Try.func48, Try.ntmps48
        go_wp2_with (rw [HE.out])
        refine wp_region_plan (fun w' => w'.cell? ⟨f, 0, none⟩ = some (.bool true) ∧ w'.cell? ⟨w.heap.size, 0, none⟩ = some (.pointer (some ⟨g, off, none⟩)) ∧ w'.cell? ⟨w.heap.size, 1, none⟩ = some (.int .i64 4) ∧ w'.cell? ⟨g, off, none⟩ = some (.int .i64 v)) (.take 0 (.take 1 (.take 2 (.take 3 (.take 4 (.take 5 (.take 6 (.take 7 (.take 8 (.take 9 (.take 10 (.take 11 (.take 12 (.take 13 (.take 14 (.take 15 (.take 16 (.take 17 (.take 18 (.last 19)))))))))))))))))))) _
          (by simp only [Plan.map, opOf, List.getElem?_toArray, List.getElem?_cons_zero, List.getElem?_cons_succ, Option.getD_some]; rfl) (by kernel_rfl) (by kernel_rfl) (by kernel_rfl) (by decide) (by intro c a d v w; cases d <;> exact fun h => h) ⟨c0, c1, c2, hc'⟩ ?_
        repeat (first | (refine wpPlan.taken (by rfl) (by intro w' hS'; (try dsimp only at hS'); go_split_ands; go_simp; try with_reducible rfl) ?_; simp only [Act.put, List.setIfInBounds_toArray, List.set_cons_zero, List.set_cons_succ]) | (refine wpPlan.passed (by rfl) ?_; simp only [Act.put, List.setIfInBounds_toArray, List.set_cons_zero, List.set_cons_succ]))
        refine wpPlan.ends fun K' hK => ?_
        go_simp
        refine hK.out _ _ ?_
        clear hK K'
        go_wp2_with (rw [HE.out])
        go_end0
        exact ⟨rfl, FIN.out _ rfl⟩
end Go.Proofs.Ytehlaomippbehaa
