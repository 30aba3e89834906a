/- A session's own functions: the code. -/
import Derived.Test.YtaacpjihkmklbaaDoorK1
import Derived.Test.YtaacpjihkmklbaaDoorA1
import Derived.Test.YtaacpjihkmklbaaDoorPlan
namespace Go.Proofs.YtaacpjihkmklbaaDoor
open Go.RowKit Go.Gm

def _root_.Go.Gm.Ses.cells (s : Ses) (op : Int) : Array Value := #[.int .i64 s.prio, .int .i64 s.id, .int .i64 op, .int .i64 (1 - s.id), .int .i64 s.life, .int .i64 s.known, .bool s.up, .int .i64 s.role, .int .i64 s.claim, .int .i64 s.link, .int .i64 s.beat]

theorem moment_any (n : Int) (w : World) : Calls Tryd.prog 22 #[.int .i64 n] w fun e w' => e = .returned (.bool (mom n)) ∧ w = w' := by
  unfold mom
  cases h1 : decide (0 ≤ n)
  · go_enter Tryd.func22, Tryd.ntmps22
    go_wp2_with fail
    go_ret
    exact ⟨by simp, rfl⟩
  · cases h2 : decide (n ≤ 1099511627776)
    · go_enter Tryd.func22, Tryd.ntmps22
      go_wp2_with fail
      go_ret
      exact ⟨by simp, rfl⟩
    · go_enter Tryd.func22, Tryd.ntmps22
      go_wp2_with fail
      go_ret
      exact ⟨by simp, rfl⟩

theorem ahead_any (a b c d : Int) (w : World) : Calls Tryd.prog 31 #[.agg #[.int .i64 a, .int .i64 b], .agg #[.int .i64 c, .int .i64 d]] w fun e w' => e = .returned (.bool (if a == c then decide (b < d) else decide (a < c))) ∧ Step None w w' := by
  go_enter Tryd.func31, Tryd.ntmps31
  go_wp2_with fail
  all_goals go_ret
  all_goals exact ⟨rfl, ((Step.refl None w).alloc _).alloc _⟩

/-- The cells of a session's block. -/
structure SC (w : World) (g : Nat) (s : Ses) (op : Int) : Prop where
  c0 : w.cell? ⟨g, 0, none⟩ = some (.int .i64 s.prio)
  c1 : w.cell? ⟨g, 1, none⟩ = some (.int .i64 s.id)
  c2 : w.cell? ⟨g, 2, none⟩ = some (.int .i64 op)
  c3 : w.cell? ⟨g, 3, none⟩ = some (.int .i64 (1 - s.id))
  c4 : w.cell? ⟨g, 4, none⟩ = some (.int .i64 s.life)
  c5 : w.cell? ⟨g, 5, none⟩ = some (.int .i64 s.known)
  c6 : w.cell? ⟨g, 6, none⟩ = some (.bool s.up)
  c7 : w.cell? ⟨g, 7, none⟩ = some (.int .i64 s.role)
  c8 : w.cell? ⟨g, 8, none⟩ = some (.int .i64 s.claim)
  c9 : w.cell? ⟨g, 9, none⟩ = some (.int .i64 s.link)
  c10 : w.cell? ⟨g, 10, none⟩ = some (.int .i64 s.beat)
  fz : ∀ i, w.frozen? ⟨g, i, none⟩ = false
theorem SC.of {w : World} {g : Nat} {s : Ses} {op : Int} (h : w.heap[g]? = some (.cells (s.cells op) 63 (0, 0))) : SC w g s op :=
  ⟨blk_cell h 0, blk_cell h 1, blk_cell h 2, blk_cell h 3, blk_cell h 4, blk_cell h 5, blk_cell h 6, blk_cell h 7, blk_cell h 8, blk_cell h 9, blk_cell h 10, blk_frozen h⟩

theorem reborn_any (g : Nat) (s : Ses) (op : Int) (w : World) (hs : s.Ok) (h : w.heap[g]? = some (.cells (s.cells op) 63 (0, 0))) : Calls Tryd.prog 24 #[.pointer (some ⟨g, 0, none⟩)] w fun e w' => e = .returned (.tuple #[]) ∧ w'.heap[g]? = some (.cells (s.fresh.cells op) 63 (0, 0)) ∧ Step (· = g) w w' := by
  obtain ⟨c0, c1, c2, c3, c4, c5, c6, c7, c8, c9, c10, fz⟩ := SC.of h
  have f4 := fz 4
  have f6 := fz 6
  have f8 := fz 8
  have hw : wrap64 (s.life + 1) = s.life + 1 := by have := hs.life; unfold wrap64; omega
  have H := Lib.hid h
  clear h fz
  go_enter Tryd.func24, Tryd.ntmps24
  go_wp2_with fail
  all_goals go_end0
  all_goals refine ⟨rfl, ?_, (((Step.refl (· = g) w).setCell (p := ⟨g, 6, none⟩) (fun _ => rfl) _).setCell (p := ⟨g, 8, none⟩) (fun _ => rfl) _).setCell (p := ⟨g, 4, none⟩) (fun _ => rfl) _⟩
  all_goals rw [blk_set (blk_set (blk_set H.out 6 _) 8 _) 4 _]
  all_goals simp [Ses.fresh, Ses.cells]
  all_goals omega

theorem load_pair {w : World} {g off : Nat} {a b : Value} (h0 : w.cell? ⟨g, off, none⟩ = some a) (h1 : w.cell? ⟨g, off + 1, none⟩ = some b) : (Instr.loadAt 61 (.pointer (some ⟨g, off, none⟩))).run Tryd.prog w = .ok (.agg #[a, b]) w := by
  have := run_loadAt_mid (P := Tryd.prog) w g off 61 [a, b] _ (fun j u hj => by
    match j, hj with
    | 0, hj => simp at hj; subst hj; exact h0
    | 1, hj => simp at hj; subst hj; exact h1
    | j + 2, hj => simp at hj) Tryd.underlying61 rfl (by kernel_rfl)
  simpa using this
theorem run_load_op {P : Program} {ev : Operand → Value} {o : Oper} {ty : TypeId} {x : Operand} {y v : Value} {w : World} (ho : o.op = .load ty x) (hx : ev x = y) (hl : (Instr.loadAt ty y).run P w = .ok v w) : (execOp ev o).run P w = .ok (.value v) w := by
  unfold execOp
  simp only [ho, hx, Sem.run_bind, hl, Result.andThen_ok, Sem.run_pure]

set_option maxHeartbeats 2000000 in
theorem elect_any (g : Nat) (s : Ses) (op other : Int) (w : World) (hs : s.Ok) (h : w.heap[g]? = some (.cells (s.cells op) 63 (0, 0))) : Calls Tryd.prog 25 #[.pointer (some ⟨g, 0, none⟩), .int .i64 other] w fun e w' => e = .returned (.tuple #[]) ∧ w'.heap[g]? = some (.cells ({ s with role := if decide (other < s.claim) || (s.claim == other && s.first op) then 2 else 1 }.cells op) 63 (0, 0)) ∧ Step (· = g) w w' := by
  have A := Lib.hid (fun w => ahead_any s.prio s.id op (1 - s.id) w)
  have hf : (if (s.prio == op) = true then decide (s.id < 1 - s.id) else decide (s.prio < op)) = s.first op := by
    have := hs.id
    unfold Ses.first
    by_cases h1 : s.prio = op
    · subst h1
      simp
      rw [Bool.eq_iff_iff]; simp; omega
    · have h2 : (s.prio == op) = false := by simpa using h1
      simp [h2]
  rw [hf] at A
  have h2 : (w.setCell ⟨g, 7, none⟩ (.int .i64 1)).heap[g]? = some (.cells (({ s with role := 1 } : Ses).cells op) 63 (0, 0)) := blk_set h 7 (.int .i64 1)
  have s1 := (Step.refl (· = g) w).setCell (p := ⟨g, 7, none⟩) (fun _ => rfl) (.int .i64 1)
  obtain ⟨c0, c1, c2, c3, c4, c5, c6, c7, c8, c9, c10, fz⟩ := SC.of h
  have f7 := fz 7
  obtain ⟨W1, hW⟩ : ∃ W, w.setCell ⟨g, 7, none⟩ (.int .i64 1) = W := ⟨_, rfl⟩
  rw [hW] at h2 s1
  have HE := Lib.hid hW
  have S1 := Lib.hid s1
  have K : Hid (∀ w', Step None W1 w' → w'.cell? ⟨g, 8, none⟩ = some (.int .i64 s.claim) ∧ (Instr.loadAt 61 (.pointer (some ⟨g, 0, none⟩))).run Tryd.prog w' = .ok (.agg #[.int .i64 s.prio, .int .i64 s.id]) w' ∧ (Instr.loadAt 61 (.pointer (some ⟨g, 2, none⟩))).run Tryd.prog w' = .ok (.agg #[.int .i64 op, .int .i64 (1 - s.id)]) w') := Lib.hid fun w' h' => by
    have k := SC.of (h'.blk h2 (fun s => s.elim))
    exact ⟨k.c8, load_pair k.c0 k.c1, load_pair k.c2 k.c3⟩
  have F : Hid (∀ w', Step None W1 w' → w'.heap[g]? = some (.cells (({ s with role := 1 } : Ses).cells op) 63 (0, 0)) ∧ Step (· = g) w w') := Lib.hid fun w' h' => ⟨h'.blk h2 (fun s => s.elim), s1.then_ h'.none⟩
  clear h fz hf h2 s1 hW c0 c1 c2 c3 c4 c5 c6 c8 c9 c10
  cases d1 : decide (other < s.claim)
  · cases d2 : (s.claim == other)
    · go_enter Tryd.func25, Tryd.ntmps25
      go_wp2_with (rw [HE.out])
      refine wp_region_plan (fun w' => w'.cell? ⟨g, 8, none⟩ = some (.int .i64 s.claim) ∧ (Instr.loadAt 61 (.pointer (some ⟨g, 0, none⟩))).run Tryd.prog w' = .ok (.agg #[.int .i64 s.prio, .int .i64 s.id]) w' ∧ (Instr.loadAt 61 (.pointer (some ⟨g, 2, none⟩))).run Tryd.prog w' = .ok (.agg #[.int .i64 op, .int .i64 (1 - s.id)]) w') (.take 0 (.take 1 (.take 2 (.take 3 (.take 4 (.take 5 (.take 6 (.take 7 (.take 8 (.take 9 (.take 10 (.take 11 (.take 12 (.take 13 (.take 14 (.take 15 (.take 16 (.take 17 (.take 18 (.take 19 (.take 20 (.take 21 (.alt 22 (.take 23 (.take 24 .done)) .none))))))))))))))))))))))) _
        (by simp only [Plan.map, opOf, List.getElem?_toArray, List.getElem?_cons_zero, List.getElem?_cons_succ, Option.getD_some]; rfl) (by kernel_rfl) (by kernel_rfl) (by kernel_rfl) (by decide) (by intro c a d v w; cases d <;> exact fun h => h) (K.out _ (Step.refl None W1).drew) ?_
      repeat (first | (refine wpPlan.taken (by rfl) (fun w' hS' => run_load_op rfl rfl hS'.2.1) ?_; simp only [Act.put, List.setIfInBounds_toArray, List.set_cons_zero, List.set_cons_succ]) | (refine wpPlan.taken (by rfl) (fun w' hS' => run_load_op rfl rfl hS'.2.2) ?_; simp only [Act.put, List.setIfInBounds_toArray, List.set_cons_zero, List.set_cons_succ]) | (refine wpPlan.taken (by rfl) (by intro w' hS'; (try dsimp only at hS'); go_split_ands; go_simp; try with_reducible rfl) ?_; simp only [Act.put, List.setIfInBounds_toArray, List.set_cons_zero, List.set_cons_succ]) | (refine wpPlan.passed (by rfl) ?_; simp only [Act.put, List.setIfInBounds_toArray, List.set_cons_zero, List.set_cons_succ]))
      refine wpPlan.runs fun K' hK => ?_
      go_simp
      refine hK.out _ _ (K.out _ (Step.refl None W1).drew) ?_
      clear hK K'
      repeat (first | (refine wpPlan.taken (by rfl) (fun w' hS' => run_load_op rfl rfl hS'.2.1) ?_; simp only [Act.put, List.setIfInBounds_toArray, List.set_cons_zero, List.set_cons_succ]) | (refine wpPlan.taken (by rfl) (fun w' hS' => run_load_op rfl rfl hS'.2.2) ?_; simp only [Act.put, List.setIfInBounds_toArray, List.set_cons_zero, List.set_cons_succ]) | (refine wpPlan.taken (by rfl) (by intro w' hS'; (try dsimp only at hS'); go_split_ands; go_simp; try with_reducible rfl) ?_; simp only [Act.put, List.setIfInBounds_toArray, List.set_cons_zero, List.set_cons_succ]) | (refine wpPlan.passed (by rfl) ?_; simp only [Act.put, List.setIfInBounds_toArray, List.set_cons_zero, List.set_cons_succ]))
      refine wpPlan.done ?_
      go_wp2_with fail
      go_end0
      have B := F.out _ (Step.refl None W1).drew
      exact ⟨rfl, by simpa using B.1, B.2⟩
    · cases d3 : s.first op
      · rw [d3] at A
        go_enter Tryd.func25, Tryd.ntmps25
        go_wp2_with (rw [HE.out])
        refine wp_region_plan (fun w' => w'.cell? ⟨g, 8, none⟩ = some (.int .i64 s.claim) ∧ (Instr.loadAt 61 (.pointer (some ⟨g, 0, none⟩))).run Tryd.prog w' = .ok (.agg #[.int .i64 s.prio, .int .i64 s.id]) w' ∧ (Instr.loadAt 61 (.pointer (some ⟨g, 2, none⟩))).run Tryd.prog w' = .ok (.agg #[.int .i64 op, .int .i64 (1 - s.id)]) w') (.take 0 (.take 1 (.take 2 (.take 3 (.take 4 (.take 5 (.take 6 (.take 7 (.take 8 (.take 9 (.take 10 (.take 11 (.take 12 (.take 13 (.take 14 (.take 15 (.take 16 (.take 17 (.take 18 (.take 19 (.take 20 (.take 21 (.alt 22 (.take 23 (.take 24 .done)) .none))))))))))))))))))))))) _
          (by simp only [Plan.map, opOf, List.getElem?_toArray, List.getElem?_cons_zero, List.getElem?_cons_succ, Option.getD_some]; rfl) (by kernel_rfl) (by kernel_rfl) (by kernel_rfl) (by decide) (by intro c a d v w; cases d <;> exact fun h => h) (K.out _ (Step.refl None W1).drew) ?_
        repeat (first | (refine wpPlan.taken (by rfl) (fun w' hS' => run_load_op rfl rfl hS'.2.1) ?_; simp only [Act.put, List.setIfInBounds_toArray, List.set_cons_zero, List.set_cons_succ]) | (refine wpPlan.taken (by rfl) (fun w' hS' => run_load_op rfl rfl hS'.2.2) ?_; simp only [Act.put, List.setIfInBounds_toArray, List.set_cons_zero, List.set_cons_succ]) | (refine wpPlan.taken (by rfl) (by intro w' hS'; (try dsimp only at hS'); go_split_ands; go_simp; try with_reducible rfl) ?_; simp only [Act.put, List.setIfInBounds_toArray, List.set_cons_zero, List.set_cons_succ]) | (refine wpPlan.passed (by rfl) ?_; simp only [Act.put, List.setIfInBounds_toArray, List.set_cons_zero, List.set_cons_succ]))
        refine wpPlan.runs fun K' hK => ?_
        go_simp
        refine (A.out _).mono ?_
        rintro e w3 ⟨rfl, s3⟩
        refine hK.out _ _ (K.out _ ((Step.refl None W1).drew.then_ s3)) ?_
        clear hK K'
        have B := Lib.hid (F.out _ ((Step.refl None W1).drew.then_ s3))
        clear s3
        repeat (first | (refine wpPlan.taken (by rfl) (fun w' hS' => run_load_op rfl rfl hS'.2.1) ?_; simp only [Act.put, List.setIfInBounds_toArray, List.set_cons_zero, List.set_cons_succ]) | (refine wpPlan.taken (by rfl) (fun w' hS' => run_load_op rfl rfl hS'.2.2) ?_; simp only [Act.put, List.setIfInBounds_toArray, List.set_cons_zero, List.set_cons_succ]) | (refine wpPlan.taken (by rfl) (by intro w' hS'; (try dsimp only at hS'); go_split_ands; go_simp; try with_reducible rfl) ?_; simp only [Act.put, List.setIfInBounds_toArray, List.set_cons_zero, List.set_cons_succ]) | (refine wpPlan.passed (by rfl) ?_; simp only [Act.put, List.setIfInBounds_toArray, List.set_cons_zero, List.set_cons_succ]))
        refine wpPlan.done ?_
        go_wp2_with fail
        go_end0
        exact ⟨rfl, by simpa using B.out.1, B.out.2⟩
      · rw [d3] at A
        go_enter Tryd.func25, Tryd.ntmps25
        go_wp2_with (rw [HE.out])
        refine wp_region_plan (fun w' => w'.cell? ⟨g, 8, none⟩ = some (.int .i64 s.claim) ∧ (Instr.loadAt 61 (.pointer (some ⟨g, 0, none⟩))).run Tryd.prog w' = .ok (.agg #[.int .i64 s.prio, .int .i64 s.id]) w' ∧ (Instr.loadAt 61 (.pointer (some ⟨g, 2, none⟩))).run Tryd.prog w' = .ok (.agg #[.int .i64 op, .int .i64 (1 - s.id)]) w') (.take 0 (.take 1 (.take 2 (.take 3 (.take 4 (.take 5 (.take 6 (.take 7 (.take 8 (.take 9 (.take 10 (.take 11 (.take 12 (.take 13 (.take 14 (.take 15 (.take 16 (.take 17 (.take 18 (.take 19 (.take 20 (.take 21 (.alt 22 (.take 23 (.take 24 .done)) .none))))))))))))))))))))))) _
          (by simp only [Plan.map, opOf, List.getElem?_toArray, List.getElem?_cons_zero, List.getElem?_cons_succ, Option.getD_some]; rfl) (by kernel_rfl) (by kernel_rfl) (by kernel_rfl) (by decide) (by intro c a d v w; cases d <;> exact fun h => h) (K.out _ (Step.refl None W1).drew) ?_
        repeat (first | (refine wpPlan.taken (by rfl) (fun w' hS' => run_load_op rfl rfl hS'.2.1) ?_; simp only [Act.put, List.setIfInBounds_toArray, List.set_cons_zero, List.set_cons_succ]) | (refine wpPlan.taken (by rfl) (fun w' hS' => run_load_op rfl rfl hS'.2.2) ?_; simp only [Act.put, List.setIfInBounds_toArray, List.set_cons_zero, List.set_cons_succ]) | (refine wpPlan.taken (by rfl) (by intro w' hS'; (try dsimp only at hS'); go_split_ands; go_simp; try with_reducible rfl) ?_; simp only [Act.put, List.setIfInBounds_toArray, List.set_cons_zero, List.set_cons_succ]) | (refine wpPlan.passed (by rfl) ?_; simp only [Act.put, List.setIfInBounds_toArray, List.set_cons_zero, List.set_cons_succ]))
        refine wpPlan.runs fun K' hK => ?_
        go_simp
        refine (A.out _).mono ?_
        rintro e w3 ⟨rfl, s3⟩
        refine hK.out _ _ (K.out _ ((Step.refl None W1).drew.then_ s3)) ?_
        clear hK K'
        have B := Lib.hid (F.out _ ((Step.refl None W1).drew.then_ s3))
        clear s3
        repeat (first | (refine wpPlan.taken (by rfl) (fun w' hS' => run_load_op rfl rfl hS'.2.1) ?_; simp only [Act.put, List.setIfInBounds_toArray, List.set_cons_zero, List.set_cons_succ]) | (refine wpPlan.taken (by rfl) (fun w' hS' => run_load_op rfl rfl hS'.2.2) ?_; simp only [Act.put, List.setIfInBounds_toArray, List.set_cons_zero, List.set_cons_succ]) | (refine wpPlan.taken (by rfl) (by intro w' hS'; (try dsimp only at hS'); go_split_ands; go_simp; try with_reducible rfl) ?_; simp only [Act.put, List.setIfInBounds_toArray, List.set_cons_zero, List.set_cons_succ]) | (refine wpPlan.passed (by rfl) ?_; simp only [Act.put, List.setIfInBounds_toArray, List.set_cons_zero, List.set_cons_succ]))
        refine wpPlan.done ?_
        have f7' := blk_frozen B.out.1 7
        have c7' := blk_cell B.out.1 7
        simp only [Ses.cells, List.getElem?_toArray, List.getElem?_cons_zero, List.getElem?_cons_succ] at c7'
        go_wp2_with fail
        go_end0
        exact ⟨rfl, by rw [blk_set B.out.1 7 _]; simp [Ses.cells], B.out.2.setCell (p := ⟨g, 7, none⟩) (fun _ => rfl) _⟩
  · go_enter Tryd.func25, Tryd.ntmps25
    go_wp2_with (rw [HE.out])
    refine wp_region_plan (fun w' => w'.cell? ⟨g, 8, none⟩ = some (.int .i64 s.claim) ∧ (Instr.loadAt 61 (.pointer (some ⟨g, 0, none⟩))).run Tryd.prog w' = .ok (.agg #[.int .i64 s.prio, .int .i64 s.id]) w' ∧ (Instr.loadAt 61 (.pointer (some ⟨g, 2, none⟩))).run Tryd.prog w' = .ok (.agg #[.int .i64 op, .int .i64 (1 - s.id)]) w') (.take 0 (.take 1 (.take 2 (.take 3 (.take 4 (.take 5 (.take 6 (.take 7 (.take 8 (.take 9 (.take 10 (.take 11 (.take 12 (.take 13 (.take 14 (.take 15 (.take 16 (.take 17 (.take 18 (.take 19 (.take 20 (.take 21 (.alt 22 (.take 23 (.take 24 .done)) .none))))))))))))))))))))))) _
      (by simp only [Plan.map, opOf, List.getElem?_toArray, List.getElem?_cons_zero, List.getElem?_cons_succ, Option.getD_some]; rfl) (by kernel_rfl) (by kernel_rfl) (by kernel_rfl) (by decide) (by intro c a d v w; cases d <;> exact fun h => h) (K.out _ (Step.refl None W1).drew) ?_
    repeat (first | (refine wpPlan.taken (by rfl) (fun w' hS' => run_load_op rfl rfl hS'.2.1) ?_; simp only [Act.put, List.setIfInBounds_toArray, List.set_cons_zero, List.set_cons_succ]) | (refine wpPlan.taken (by rfl) (fun w' hS' => run_load_op rfl rfl hS'.2.2) ?_; simp only [Act.put, List.setIfInBounds_toArray, List.set_cons_zero, List.set_cons_succ]) | (refine wpPlan.taken (by rfl) (by intro w' hS'; (try dsimp only at hS'); go_split_ands; go_simp; try with_reducible rfl) ?_; simp only [Act.put, List.setIfInBounds_toArray, List.set_cons_zero, List.set_cons_succ]) | (refine wpPlan.passed (by rfl) ?_; simp only [Act.put, List.setIfInBounds_toArray, List.set_cons_zero, List.set_cons_succ]))
    refine wpPlan.runs fun K' hK => ?_
    go_simp
    refine hK.out _ _ (K.out _ (Step.refl None W1).drew) ?_
    clear hK K'
    repeat (first | (refine wpPlan.taken (by rfl) (fun w' hS' => run_load_op rfl rfl hS'.2.1) ?_; simp only [Act.put, List.setIfInBounds_toArray, List.set_cons_zero, List.set_cons_succ]) | (refine wpPlan.taken (by rfl) (fun w' hS' => run_load_op rfl rfl hS'.2.2) ?_; simp only [Act.put, List.setIfInBounds_toArray, List.set_cons_zero, List.set_cons_succ]) | (refine wpPlan.taken (by rfl) (by intro w' hS'; (try dsimp only at hS'); go_split_ands; go_simp; try with_reducible rfl) ?_; simp only [Act.put, List.setIfInBounds_toArray, List.set_cons_zero, List.set_cons_succ]) | (refine wpPlan.passed (by rfl) ?_; simp only [Act.put, List.setIfInBounds_toArray, List.set_cons_zero, List.set_cons_succ]))
    refine wpPlan.done ?_
    have B := Lib.hid (F.out _ (Step.refl None W1))
    have f7' := blk_frozen B.out.1 7
    have c7' := blk_cell B.out.1 7
    simp only [Ses.cells, List.getElem?_toArray, List.getElem?_cons_zero, List.getElem?_cons_succ] at c7'
    go_wp2_with fail
    go_end0
    exact ⟨rfl, by show (W1.setCell ⟨g, 7, none⟩ (.int .i64 2)).heap[g]? = _; rw [blk_set B.out.1 7 _]; simp [Ses.cells], B.out.2.setCell (p := ⟨g, 7, none⟩) (fun _ => rfl) _ |>.drew⟩
end Go.Proofs.YtaacpjihkmklbaaDoor
