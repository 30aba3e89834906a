/- VectorFar, VectorAdds, walked. -/
import Derived.Test.YtehlaomippbehaaW8
import Derived.Deep.WholeRow
namespace Go.Proofs.Ytehlaomippbehaa
open Go.RowKit Go.Gm

theorem load_root {w : World} {g : Nat} {x : Vec} {t : TypeId} {fr : Nat × Nat} (h : w.heap[g]? = some (.cells x.cells t fr)) : (Instr.loadAt 25 (.pointer (some ⟨g, 0, none⟩))).run Try.prog w = .ok (.agg x.r.cells) w := by
  have := run_loadAt_mid (P := Try.prog) w g 0 25 x.r.cells.toList _ (fun j u hj => by
    rw [blk_cell h]
    match j, hj with
    | 0, hj => exact hj
    | 1, hj => exact hj
    | 2, hj => exact hj
    | 3, hj => exact hj
    | 4, hj => exact hj
    | 5, hj => exact hj
    | 6, hj => exact hj
    | j + 7, hj => simp [Idn.cells] at hj) Try.underlying25 rfl (by kernel_rfl)
  simpa using this
theorem load_bridge {w : World} {g : Nat} {x : Vec} {t : TypeId} {fr : Nat × Nat} (h : w.heap[g]? = some (.cells x.cells t fr)) : (Instr.loadAt 25 (.pointer (some ⟨g, 8, none⟩))).run Try.prog w = .ok (.agg x.b.cells) w := by
  have := run_loadAt_mid (P := Try.prog) w g 8 25 x.b.cells.toList _ (fun j u hj => by
    rw [blk_cell h]
    match j, hj with
    | 0, hj => exact hj
    | 1, hj => exact hj
    | 2, hj => exact hj
    | 3, hj => exact hj
    | 4, hj => exact hj
    | 5, hj => exact hj
    | 6, hj => exact hj
    | j + 7, hj => simp [Idn.cells] at hj) Try.underlying25 rfl (by kernel_rfl)
  simpa using this

theorem lex_split (x y : Vec) : lex x.flat y.flat = if lex x.r.flat y.r.flat = 0 then (if cmpI x.c y.c = 0 then (if lex x.b.flat y.b.flat = 0 then lex [x.p, x.o] [y.p, y.o] else lex x.b.flat y.b.flat) else cmpI x.c y.c) else lex x.r.flat y.r.flat := by
  rw [show lex x.flat y.flat = if lex x.r.flat y.r.flat = 0 then lex (x.c :: (x.b.flat ++ [x.p, x.o])) (y.c :: (y.b.flat ++ [y.p, y.o])) else lex x.r.flat y.r.flat from lex_app (by rfl), lex_cons,
    show lex (x.b.flat ++ [x.p, x.o]) (y.b.flat ++ [y.p, y.o]) = if lex x.b.flat y.b.flat = 0 then lex [x.p, x.o] [y.p, y.o] else lex x.b.flat y.b.flat from lex_app (by rfl)]

set_option linter.unusedSimpArgs false in
set_option maxHeartbeats 8000000 in
theorem vectorFar_walk (v0 v1 : Value) (w : World) (h0 : Arg w (.cat 7 (.cat 1 (.int .i64) (.cat 6 (.arr 6 1 (.int .u8)) .nil)) (.cat 1 (.int .i64) (.cat 7 (.cat 1 (.int .i64) (.cat 6 (.arr 6 1 (.int .u8)) .nil)) (.cat 1 (.int .i64) (.cat 1 (.int .i64) .nil))))) v0) (h1 : Arg w (.cat 7 (.cat 1 (.int .i64) (.cat 6 (.arr 6 1 (.int .u8)) .nil)) (.cat 1 (.int .i64) (.cat 7 (.cat 1 (.int .i64) (.cat 6 (.arr 6 1 (.int .u8)) .nil)) (.cat 1 (.int .i64) (.cat 1 (.int .i64) .nil))))) v1) :
    Calls Try.prog 7 #[v0, v1] w fun e w' => e = .returned (.bool true) ∧ Below w.heap.size w w' := by
  obtain ⟨x, rfl, fx⟩ := arg_vec h0
  obtain ⟨y, rfl, fy⟩ := arg_vec h1
  have F : Hid (x.fine ∧ y.fine) := Lib.hid ⟨fx, fy⟩
  clear fx fy h0 h1
  obtain ⟨p1, p2⟩ := two_new w x.cells y.cells 27 27
  have S1 := Lib.hid (((Step.refl None w).alloc (.cells x.cells 27)).alloc (.cells y.cells 27))
  have P : Hid (∀ w', Step None ((w.alloc (.cells x.cells 27)).alloc (.cells y.cells 27)) w' → w'.heap[w.heap.size]? = some (.cells x.cells 27 (0, 0)) ∧ w'.heap[w.heap.size + 1]? = some (.cells y.cells 27 (0, 0))) := Lib.hid fun w' h' =>
    ⟨h'.blk p1 (fun s => s.elim), h'.blk p2 (fun s => s.elim)⟩
  have Z0 := Lib.hid (Step.refl None ((w.alloc (.cells x.cells 27)).alloc (.cells y.cells 27)))
  clear p1 p2
  have C1 := Lib.hid (vec_compare x y · F.out.1 F.out.2)
  have C2 := Lib.hid (rid_compare x.r y.r · F.out.1.1 F.out.2.1)
  have C3 := Lib.hid (rid_compare x.b y.b · F.out.1.2 F.out.2.2)
  have L := Lib.hid (lex_split x y)
  have r1 := Lib.hid (cmpI_rng x.c y.c)
  generalize lex x.flat y.flat = X at *
  generalize lex x.r.flat y.r.flat = R at *
  generalize lex x.b.flat y.b.flat = B at *
  go_enter Try.func7, Try.ntmps7
  go_wp2_with fail
  refine (awake_any _).mono ?_
  rintro e w2 ⟨rfl, s2⟩
  have Z2 := Lib.hid (Z0.out.then_ s2)
  clear s2 Z0
  go_wp2_with (first
    | (refine wpList_load_if 27 (.tmp 2) rfl rfl rfl (load_block (P.out _ Z2.out).1 rfl) ?_)
    | (refine wpList_load_if 27 (.tmp 3) rfl rfl rfl (load_block (P.out _ Z2.out).2 rfl) ?_))
  refine (C1.out _).mono ?_
  rintro e w3 ⟨rfl, s3⟩
  have Z3 := Lib.hid (Z2.out.then_ s3)
  clear s3 Z2
  go_wp2_with (first
    | (refine wpList_load_if 25 (.tmp 13) rfl rfl rfl (load_root (P.out _ Z3.out).1) ?_)
    | (refine wpList_load_if 25 (.tmp 15) rfl rfl rfl (load_root (P.out _ Z3.out).2) ?_)
    | (refine wpList_load_if 25 (.tmp 43) rfl rfl rfl (load_bridge (P.out _ Z3.out).1) ?_)
    | (refine wpList_load_if 25 (.tmp 45) rfl rfl rfl (load_bridge (P.out _ Z3.out).2) ?_))
  refine (C2.out _).mono ?_
  rintro e w4 ⟨rfl, s4⟩
  have Z4 := Lib.hid (Z3.out.then_ s4)
  clear s4 Z3
  have a7 := blk_cell (P.out _ Z4.out).1 7
  have b7 := blk_cell (P.out _ Z4.out).2 7
  simp only [Vec.cells, List.getElem?_toArray, List.getElem?_cons_zero, List.getElem?_cons_succ] at a7 b7
  cases h1 : (R == 0)
  · have h1' : (R != 0) = true := by simp [bne, h1]
    have hx : (X == R) = true := by rw [L.out, if_neg (by simpa using h1)]; simp
    go_wp2_with fail
    go_ret
    exact ⟨rfl, (S1.out.then_ Z4.out).toBelow⟩
  have h1' : (R != 0) = false := by simp [bne, h1]
  have hR : R = 0 := by simpa using h1
  by_cases h2 : x.c = y.c
  · have h2' : (x.c != y.c) = false := by simpa using h2
    have h2'' : cmpI x.c y.c = 0 := cmpI_zero.2 h2
    have hX := L.out
    rw [if_pos hR, if_pos h2''] at hX
    have HX := Lib.hid hX
    clear hX hR h2 h2'' L
    go_wp2_with (first
      | (refine wpList_load_if 25 (.tmp 13) rfl rfl rfl (load_root (P.out _ Z4.out).1) ?_)
      | (refine wpList_load_if 25 (.tmp 15) rfl rfl rfl (load_root (P.out _ Z4.out).2) ?_)
      | (refine wpList_load_if 25 (.tmp 43) rfl rfl rfl (load_bridge (P.out _ Z4.out).1) ?_)
      | (refine wpList_load_if 25 (.tmp 45) rfl rfl rfl (load_bridge (P.out _ Z4.out).2) ?_))
    refine (C3.out _).mono ?_
    rintro e w5 ⟨rfl, s5⟩
    have Z5 := Lib.hid (Z4.out.then_ s5)
    clear s5
    cases h3 : (B == 0)
    · have hx : (X == B) = true := by rw [HX.out, if_neg (by simpa using h3)]; simp
      go_wp2_with fail
      go_ret
      exact ⟨rfl, (S1.out.then_ Z5.out).toBelow⟩
    · go_wp2_with fail
      go_ret
      exact ⟨rfl, (S1.out.then_ Z5.out).toBelow⟩
  · have h2' : (x.c != y.c) = true := by simpa using h2
    have h2'' : ¬ cmpI x.c y.c = 0 := fun h => h2 (cmpI_zero.1 h)
    have hX := L.out
    rw [if_pos hR, if_neg h2''] at hX
    have hd : decide (X < 0) = decide (x.c < y.c) := by
      rw [hX]
      have a := @cmpI_lt x.c y.c
      have r := r1.out
      by_cases hc : x.c < y.c
      · have := a.2 hc; simp [this, hc]
      · have : ¬ cmpI x.c y.c = -1 := fun h => hc (a.1 h)
        have : ¬ cmpI x.c y.c < 0 := by omega
        simp [this, hc]
    clear hX hR h2 h2'' L
    go_wp2_with fail
    go_ret
    exact ⟨by simp [hd], (S1.out.then_ Z4.out).toBelow⟩

theorem add_zero (x : Vec) : x.add 0 = x := by
  have h : addC x.c 0 = x.c := by
    unfold addC
    by_cases hc : isC x.c = true
    · have h2 : x.c ≤ 4294967295 := by simp [isC] at hc; omega
      have h3 : isC 0 = true := by decide
      simp [hc, h3, h2]
    · simp [hc]
  simp [Vec.add, h]
theorem addC_ge (c k : Int) : c ≤ addC c k := by
  unfold addC
  split
  · rename_i h
    simp [isC] at h
    split <;> omega
  · omega
theorem lex_add_ge (x : Vec) (k : Int) : ¬ lex (x.add k).flat x.flat < 0 := by
  rw [lex_split, show (x.add k).r = x.r from rfl, show (x.add k).b = x.b from rfl, show (x.add k).p = x.p from rfl, show (x.add k).o = x.o from rfl, show (x.add k).c = addC x.c k from rfl, lex_self, if_pos rfl, lex_self, if_pos rfl, lex_self]
  have h := addC_ge x.c k
  split
  · omega
  · intro hlt
    have r := cmpI_rng (addC x.c k) x.c
    have := cmpI_lt (a := addC x.c k) (b := x.c)
    have : cmpI (addC x.c k) x.c = -1 := by omega
    have := cmpI_lt.1 this
    omega
theorem lex_add_same {x y : Vec} {k : Int} (h1 : 0 ≤ x.c ∧ x.c < 2147483648) (h2 : 0 ≤ y.c ∧ y.c < 2147483648) (h3 : 0 ≤ k ∧ k < 2147483648) : lex (x.add k).flat (y.add k).flat = lex x.flat y.flat := by
  have e : ∀ c : Int, 0 ≤ c ∧ c < 2147483648 → addC c k = c + k := fun c hc => by
    have a : isC c = true := by simp [isC]; omega
    have b : isC k = true := by simp [isC]; omega
    simp only [addC, a, b, Bool.and_self, if_true]
    rw [if_pos (by omega)]
  have ec : cmpI (x.c + k) (y.c + k) = cmpI x.c y.c := by
    unfold cmpI
    by_cases c1 : x.c < y.c
    · rw [if_pos (by omega), if_pos c1]
    · rw [if_neg (by omega), if_neg c1]
      by_cases c2 : y.c < x.c
      · rw [if_pos (by omega), if_pos c2]
      · rw [if_neg (by omega), if_neg c2]
  rw [lex_split, lex_split x y, show (x.add k).r = x.r from rfl, show (x.add k).b = x.b from rfl, show (x.add k).p = x.p from rfl, show (x.add k).o = x.o from rfl, show (x.add k).c = addC x.c k from rfl,
    show (y.add k).r = y.r from rfl, show (y.add k).b = y.b from rfl, show (y.add k).p = y.p from rfl, show (y.add k).o = y.o from rfl, show (y.add k).c = addC y.c k from rfl, e _ h1, e _ h2, ec]

/-- Three ways lie in blocks of their own. -/
theorem adds_loads {w w' : World} {a b c : Nat} {x y z : Vec} (P : w.heap[a]? = some (.cells x.cells 27 (0, 0)) ∧ w.heap[b]? = some (.cells y.cells 27 (0, 0)) ∧ w.heap[c]? = some (.cells z.cells 27 (0, 0))) (h : Step None w w') :
    (Instr.loadAt 27 (.pointer (some ⟨a, 0, none⟩))).run Try.prog w' = .ok (.agg x.cells) w' ∧ (Instr.loadAt 27 (.pointer (some ⟨b, 0, none⟩))).run Try.prog w' = .ok (.agg y.cells) w' ∧ (Instr.loadAt 27 (.pointer (some ⟨c, 0, none⟩))).run Try.prog w' = .ok (.agg z.cells) w' :=
  ⟨load_block (h.blk P.1 (fun s => s.elim)) rfl, load_block (h.blk P.2.1 (fun s => s.elim)) rfl, load_block (h.blk P.2.2 (fun s => s.elim)) rfl⟩

set_option linter.unusedSimpArgs false in
set_option maxHeartbeats 8000000 in
theorem vectorAdds_walk (v0 v1 v2 : Value) (w : World) (h0 : Arg w (.cat 7 (.cat 1 (.int .i64) (.cat 6 (.arr 6 1 (.int .u8)) .nil)) (.cat 1 (.int .i64) (.cat 7 (.cat 1 (.int .i64) (.cat 6 (.arr 6 1 (.int .u8)) .nil)) (.cat 1 (.int .i64) (.cat 1 (.int .i64) .nil))))) v0) (h1 : Arg w (.cat 7 (.cat 1 (.int .i64) (.cat 6 (.arr 6 1 (.int .u8)) .nil)) (.cat 1 (.int .i64) (.cat 7 (.cat 1 (.int .i64) (.cat 6 (.arr 6 1 (.int .u8)) .nil)) (.cat 1 (.int .i64) (.cat 1 (.int .i64) .nil))))) v1) (h2 : Arg w (.int .i64) v2) :
    Calls Try.prog 6 #[v0, v1, v2] w fun e w' => e = .returned (.bool true) ∧ Below w.heap.size w w' := by
  obtain ⟨x, rfl, fx⟩ := arg_vec h0
  obtain ⟨y, rfl, fy⟩ := arg_vec h1
  obtain ⟨k, rfl, -⟩ := h2.int
  have F : Hid (x.fine ∧ y.fine) := Lib.hid ⟨fx, fy⟩
  clear fx fy h0 h1 h2
  obtain ⟨p1, p2⟩ := two_new w x.cells y.cells 27 27
  have S1 := Lib.hid (((Step.refl None w).alloc (.cells x.cells 27)).alloc (.cells y.cells 27))
  have P : Hid (∀ w', Step None ((w.alloc (.cells x.cells 27)).alloc (.cells y.cells 27)) w' → w'.heap[w.heap.size]? = some (.cells x.cells 27 (0, 0)) ∧ w'.heap[w.heap.size + 1]? = some (.cells y.cells 27 (0, 0))) := Lib.hid fun w' h' =>
    ⟨h'.blk p1 (fun s => s.elim), h'.blk p2 (fun s => s.elim)⟩
  have Z0 := Lib.hid (Step.refl None ((w.alloc (.cells x.cells 27)).alloc (.cells y.cells 27)))
  clear p1 p2
  go_enter Try.func6, Try.ntmps6
  go_wp2_with fail
  refine (awake_any _).mono ?_
  rintro e w2 ⟨rfl, s2⟩
  have Z2 := Lib.hid (Z0.out.then_ s2)
  clear s2 Z0
  go_wp2_with (first
    | (refine wpList_load_if 27 (.tmp 3) rfl rfl rfl (load_block (P.out _ Z2.out).1 rfl) ?_))
  refine (add_any x k _).mono ?_
  rintro e w3 ⟨rfl, s3⟩
  have Z3 := Lib.hid (Z2.out.then_ s3)
  clear s3 Z2
  have P4 : Hid ((w3.alloc (.cells (x.add k).cells 27)).heap[w.heap.size]? = some (.cells x.cells 27 (0, 0)) ∧ (w3.alloc (.cells (x.add k).cells 27)).heap[w.heap.size + 1]? = some (.cells y.cells 27 (0, 0)) ∧ (w3.alloc (.cells (x.add k).cells 27)).heap[w3.heap.size]? = some (.cells (x.add k).cells 27 (0, 0))) :=
    Lib.hid ⟨(P.out _ (Z3.out.alloc _)).1, (P.out _ (Z3.out.alloc _)).2, heap_alloc_new _ _⟩
  have S4 := Lib.hid ((S1.out.then_ Z3.out).alloc (.cells (x.add k).cells 27))
  have hal : (w3.alloc (.cells #[.int .i64 0, .int .u8 0, .int .u8 0, .int .u8 0, .int .u8 0, .int .u8 0, .int .u8 0, .int .i64 0, .int .i64 0, .int .u8 0, .int .u8 0, .int .u8 0, .int .u8 0, .int .u8 0, .int .u8 0, .int .i64 0, .int .i64 0] 27)).setRow w3.heap.size (x.add k).cells = w3.alloc (.cells (x.add k).cells 27) := World.setRow_alloc_new w3 _ _ 27
  have HAL := Lib.hid hal
  clear hal
  obtain ⟨W, hW⟩ : ∃ W, w3.alloc (.cells (x.add k).cells 27) = W := ⟨_, rfl⟩
  rw [hW] at P4 S4 HAL
  clear hW
  have a7 := blk_cell P4.out.1 7
  have b7 := blk_cell P4.out.2.1 7
  simp only [Vec.cells, List.getElem?_toArray, List.getElem?_cons_zero, List.getElem?_cons_succ] at a7 b7
  have hge := decide_eq_false (lex_add_ge x k)
  have hz : (Op.equalIn 10000 27 (.agg (x.add 0).cells) (.agg x.cells)) = (Op.equalIn 10000 27 (.agg x.cells) (.agg x.cells)) := by rw [add_zero]
  have he := eq_vec x x
  have K : Hid (∀ w', Step None W w' → (Instr.loadAt 27 (.pointer (some ⟨w.heap.size, 0, none⟩))).run Try.prog w' = .ok (.agg x.cells) w' ∧ (Instr.loadAt 27 (.pointer (some ⟨(w.heap.size + 1), 0, none⟩))).run Try.prog w' = .ok (.agg y.cells) w' ∧ (Instr.loadAt 27 (.pointer (some ⟨w3.heap.size, 0, none⟩))).run Try.prog w' = .ok (.agg (x.add k).cells) w') := fun w' h' => adds_loads P4.out h'
  have Y0 := Lib.hid (Step.refl None W)
  go_wp2_with (first
    | (refine wpList_store_row rfl 27 (.tmp 8) (.tmp 13) rfl w3.heap.size (x.add k).cells rfl rfl 27 #[.int .i64 0, .int .u8 0, .int .u8 0, .int .u8 0, .int .u8 0, .int .u8 0, .int .u8 0, .int .i64 0, .int .i64 0, .int .u8 0, .int .u8 0, .int .u8 0, .int .u8 0, .int .u8 0, .int .u8 0, .int .i64 0, .int .i64 0] (heap_alloc_new w3 _) (by kernel_rfl) rfl (by simp [Vec.cells, Value.oneCell']) ?_; rw [HAL.out]))
  refine wp_region_plan (fun w' => (Instr.loadAt 27 (.pointer (some ⟨w.heap.size, 0, none⟩))).run Try.prog w' = .ok (.agg x.cells) w' ∧ (Instr.loadAt 27 (.pointer (some ⟨(w.heap.size + 1), 0, none⟩))).run Try.prog w' = .ok (.agg y.cells) w' ∧ (Instr.loadAt 27 (.pointer (some ⟨w3.heap.size, 0, none⟩))).run Try.prog w' = .ok (.agg (x.add k).cells) w') (.take 0 (.take 1 (.take 2 (.take 3 (.take 4 (.alt 5 (.take 6 (.take 7 (.take 8 (.take 9 (.take 11 (.alt 10 (.take 12 (.take 13 .done)) .none)))))) .none)))))) _
    (by simp only [Plan.map, opOf, List.getElem?_toArray, List.getElem?_cons_zero, List.getElem?_cons_succ, Option.getD_some]; rfl) (by kernel_rfl) (by kernel_rfl) (by kernel_rfl) (by decide) (by intro c a d v w; cases d <;> exact fun h => h) (K.out _ Y0.out.drew) ?_
  repeat (first | (refine wpPlan.taken (by rfl) (fun w' hS' => run_load_op rfl rfl hS'.1) ?_; simp only [Act.put, List.setIfInBounds_toArray, List.set_cons_zero, List.set_cons_succ]) | (refine wpPlan.taken (by rfl) (fun w' hS' => run_load_op rfl rfl hS'.2.1) ?_; simp only [Act.put, List.setIfInBounds_toArray, List.set_cons_zero, List.set_cons_succ]) | (refine wpPlan.taken (by rfl) (fun w' hS' => run_load_op rfl rfl hS'.2.2) ?_; simp only [Act.put, List.setIfInBounds_toArray, List.set_cons_zero, List.set_cons_succ]) | (refine wpPlan.taken (by rfl) (by intro w' hS'; (try dsimp only at hS'); go_split_ands; go_simp; try with_reducible rfl) ?_; simp only [Act.put, List.setIfInBounds_toArray, List.set_cons_zero, List.set_cons_succ]) | (refine wpPlan.passed (by rfl) ?_; simp only [Act.put, List.setIfInBounds_toArray, List.set_cons_zero, List.set_cons_succ]))
  refine wpPlan.runs fun K' hK => ?_
  go_simp
  refine (vec_compare (x.add k) x _ (Vec.add_fine F.out.1 k) F.out.1).mono ?_
  rintro e w5 ⟨rfl, s5⟩
  have Y5 := Lib.hid (Y0.out.drew.then_ s5)
  refine hK.out _ _ (K.out _ Y5.out) ?_
  clear hK K' s5 Y0
  generalize lex (x.add k).flat x.flat = g at *
  repeat (first | (refine wpPlan.taken (by rfl) (fun w' hS' => run_load_op rfl rfl hS'.1) ?_; simp only [Act.put, List.setIfInBounds_toArray, List.set_cons_zero, List.set_cons_succ]) | (refine wpPlan.taken (by rfl) (fun w' hS' => run_load_op rfl rfl hS'.2.1) ?_; simp only [Act.put, List.setIfInBounds_toArray, List.set_cons_zero, List.set_cons_succ]) | (refine wpPlan.taken (by rfl) (fun w' hS' => run_load_op rfl rfl hS'.2.2) ?_; simp only [Act.put, List.setIfInBounds_toArray, List.set_cons_zero, List.set_cons_succ]) | (refine wpPlan.taken (by rfl) (by intro w' hS'; (try dsimp only at hS'); go_split_ands; go_simp; try with_reducible rfl) ?_; simp only [Act.put, List.setIfInBounds_toArray, List.set_cons_zero, List.set_cons_succ]) | (refine wpPlan.passed (by rfl) ?_; simp only [Act.put, List.setIfInBounds_toArray, List.set_cons_zero, List.set_cons_succ]))
  refine wpPlan.runs fun K' hK => ?_
  go_simp
  refine (add_any x 0 _).mono ?_
  rintro e w6 ⟨rfl, s6⟩
  rw [add_zero]
  have Y6 := Lib.hid (Y5.out.then_ s6)
  refine hK.out _ _ (K.out _ Y6.out) ?_
  clear hK K' s6 Y5
  repeat (first | (refine wpPlan.taken (by rfl) (fun w' hS' => run_load_op rfl rfl hS'.1) ?_; simp only [Act.put, List.setIfInBounds_toArray, List.set_cons_zero, List.set_cons_succ]) | (refine wpPlan.taken (by rfl) (fun w' hS' => run_load_op rfl rfl hS'.2.1) ?_; simp only [Act.put, List.setIfInBounds_toArray, List.set_cons_zero, List.set_cons_succ]) | (refine wpPlan.taken (by rfl) (fun w' hS' => run_load_op rfl rfl hS'.2.2) ?_; simp only [Act.put, List.setIfInBounds_toArray, List.set_cons_zero, List.set_cons_succ]) | (refine wpPlan.taken (by rfl) (by intro w' hS'; (try dsimp only at hS'); go_split_ands; go_simp; try with_reducible rfl) ?_; simp only [Act.put, List.setIfInBounds_toArray, List.set_cons_zero, List.set_cons_succ]) | (refine wpPlan.passed (by rfl) ?_; simp only [Act.put, List.setIfInBounds_toArray, List.set_cons_zero, List.set_cons_succ]))
  refine wpPlan.done ?_
  have a7' := (Y6.out.cell (p := ⟨w.heap.size, 7, none⟩) (World.block_lt_of_cell? _ _ a7) (fun s => s.elim)).trans a7
  have b7' := (Y6.out.cell (p := ⟨w.heap.size + 1, 7, none⟩) (World.block_lt_of_cell? _ _ b7) (fun s => s.elim)).trans b7
  clear a7 b7 hz he hge
  have LS := Lib.hid (@lex_add_same x y k)
  have C1 := Lib.hid (vec_compare (x.add k) (y.add k) · (Vec.add_fine F.out.1 k) (Vec.add_fine F.out.2 k))
  have C2 := Lib.hid (vec_compare x y · F.out.1 F.out.2)
  cases d1 : decide (0 ≤ x.c)
  · clear LS
    go_wp2_with fail
    refine wp_region_plan (fun w' => True) (.take 0 (.take 1 (.take 2 (.take 3 (.take 4 (.take 5 (.take 8 (.take 9 (.alt 6 (.alt 7 (.alt 10 (.take 11 (.take 12 (.take 13 .done))) .none) .none) .none))))))))) _
      (by simp only [Plan.map, opOf, List.getElem?_toArray, List.getElem?_cons_zero, List.getElem?_cons_succ, Option.getD_some]; rfl) (by kernel_rfl) (by kernel_rfl) (by kernel_rfl) (by decide) (by intro c a d v w; cases d <;> exact fun h => h) trivial ?_
    repeat (first | (refine wpPlan.taken (by rfl) (by intro w' hS'; (try dsimp only at hS'); go_split_ands; go_simp; try with_reducible rfl) ?_; simp only [Act.put, List.setIfInBounds_toArray, List.set_cons_zero, List.set_cons_succ]) | (refine wpPlan.passed (by rfl) ?_; simp only [Act.put, List.setIfInBounds_toArray, List.set_cons_zero, List.set_cons_succ]))
    refine wpPlan.runs fun K' hK => ?_
    go_simp
    refine hK.out _ _ trivial ?_
    clear hK K'
    refine wpPlan.runs fun K' hK => ?_
    go_simp
    refine hK.out _ _ trivial ?_
    clear hK K'
    refine wpPlan.runs fun K' hK => ?_
    go_simp
    refine hK.out _ _ trivial ?_
    clear hK K'
    repeat (first | (refine wpPlan.taken (by rfl) (by intro w' hS'; (try dsimp only at hS'); go_split_ands; go_simp; try with_reducible rfl) ?_; simp only [Act.put, List.setIfInBounds_toArray, List.set_cons_zero, List.set_cons_succ]) | (refine wpPlan.passed (by rfl) ?_; simp only [Act.put, List.setIfInBounds_toArray, List.set_cons_zero, List.set_cons_succ]))
    refine wpPlan.done ?_
    go_wp2_with fail
    go_ret
    exact ⟨rfl, (S4.out.then_ Y6.out.drew).toBelow⟩
  cases d2 : decide (x.c < 2147483648)
  · clear LS
    go_wp2_with fail
    refine wp_region_plan (fun w' => True) (.take 0 (.take 1 (.take 2 (.take 3 (.take 4 (.take 5 (.take 8 (.take 9 (.alt 6 (.alt 7 (.alt 10 (.take 11 (.take 12 (.take 13 .done))) .none) .none) .none))))))))) _
      (by simp only [Plan.map, opOf, List.getElem?_toArray, List.getElem?_cons_zero, List.getElem?_cons_succ, Option.getD_some]; rfl) (by kernel_rfl) (by kernel_rfl) (by kernel_rfl) (by decide) (by intro c a d v w; cases d <;> exact fun h => h) trivial ?_
    repeat (first | (refine wpPlan.taken (by rfl) (by intro w' hS'; (try dsimp only at hS'); go_split_ands; go_simp; try with_reducible rfl) ?_; simp only [Act.put, List.setIfInBounds_toArray, List.set_cons_zero, List.set_cons_succ]) | (refine wpPlan.passed (by rfl) ?_; simp only [Act.put, List.setIfInBounds_toArray, List.set_cons_zero, List.set_cons_succ]))
    refine wpPlan.runs fun K' hK => ?_
    go_simp
    refine hK.out _ _ trivial ?_
    clear hK K'
    refine wpPlan.runs fun K' hK => ?_
    go_simp
    refine hK.out _ _ trivial ?_
    clear hK K'
    refine wpPlan.runs fun K' hK => ?_
    go_simp
    refine hK.out _ _ trivial ?_
    clear hK K'
    repeat (first | (refine wpPlan.taken (by rfl) (by intro w' hS'; (try dsimp only at hS'); go_split_ands; go_simp; try with_reducible rfl) ?_; simp only [Act.put, List.setIfInBounds_toArray, List.set_cons_zero, List.set_cons_succ]) | (refine wpPlan.passed (by rfl) ?_; simp only [Act.put, List.setIfInBounds_toArray, List.set_cons_zero, List.set_cons_succ]))
    refine wpPlan.done ?_
    go_wp2_with fail
    go_ret
    exact ⟨rfl, (S4.out.then_ Y6.out.drew).toBelow⟩
  cases d3 : decide (0 ≤ y.c)
  · clear LS
    go_wp2_with fail
    refine wp_region_plan (fun w' => True) (.take 0 (.take 1 (.take 2 (.take 3 (.take 4 (.take 5 (.take 8 (.take 9 (.alt 6 (.alt 7 (.alt 10 (.take 11 (.take 12 (.take 13 .done))) .none) .none) .none))))))))) _
      (by simp only [Plan.map, opOf, List.getElem?_toArray, List.getElem?_cons_zero, List.getElem?_cons_succ, Option.getD_some]; rfl) (by kernel_rfl) (by kernel_rfl) (by kernel_rfl) (by decide) (by intro c a d v w; cases d <;> exact fun h => h) trivial ?_
    repeat (first | (refine wpPlan.taken (by rfl) (by intro w' hS'; (try dsimp only at hS'); go_split_ands; go_simp; try with_reducible rfl) ?_; simp only [Act.put, List.setIfInBounds_toArray, List.set_cons_zero, List.set_cons_succ]) | (refine wpPlan.passed (by rfl) ?_; simp only [Act.put, List.setIfInBounds_toArray, List.set_cons_zero, List.set_cons_succ]))
    refine wpPlan.runs fun K' hK => ?_
    go_simp
    refine hK.out _ _ trivial ?_
    clear hK K'
    refine wpPlan.runs fun K' hK => ?_
    go_simp
    refine hK.out _ _ trivial ?_
    clear hK K'
    refine wpPlan.runs fun K' hK => ?_
    go_simp
    refine hK.out _ _ trivial ?_
    clear hK K'
    repeat (first | (refine wpPlan.taken (by rfl) (by intro w' hS'; (try dsimp only at hS'); go_split_ands; go_simp; try with_reducible rfl) ?_; simp only [Act.put, List.setIfInBounds_toArray, List.set_cons_zero, List.set_cons_succ]) | (refine wpPlan.passed (by rfl) ?_; simp only [Act.put, List.setIfInBounds_toArray, List.set_cons_zero, List.set_cons_succ]))
    refine wpPlan.done ?_
    go_wp2_with fail
    go_ret
    exact ⟨rfl, (S4.out.then_ Y6.out.drew).toBelow⟩
  cases d4 : decide (y.c < 2147483648)
  · clear LS
    go_wp2_with fail
    refine wp_region_plan (fun w' => True) (.take 0 (.take 1 (.take 2 (.take 3 (.take 4 (.take 5 (.take 8 (.take 9 (.alt 6 (.alt 7 (.alt 10 (.take 11 (.take 12 (.take 13 .done))) .none) .none) .none))))))))) _
      (by simp only [Plan.map, opOf, List.getElem?_toArray, List.getElem?_cons_zero, List.getElem?_cons_succ, Option.getD_some]; rfl) (by kernel_rfl) (by kernel_rfl) (by kernel_rfl) (by decide) (by intro c a d v w; cases d <;> exact fun h => h) trivial ?_
    repeat (first | (refine wpPlan.taken (by rfl) (by intro w' hS'; (try dsimp only at hS'); go_split_ands; go_simp; try with_reducible rfl) ?_; simp only [Act.put, List.setIfInBounds_toArray, List.set_cons_zero, List.set_cons_succ]) | (refine wpPlan.passed (by rfl) ?_; simp only [Act.put, List.setIfInBounds_toArray, List.set_cons_zero, List.set_cons_succ]))
    refine wpPlan.runs fun K' hK => ?_
    go_simp
    refine hK.out _ _ trivial ?_
    clear hK K'
    refine wpPlan.runs fun K' hK => ?_
    go_simp
    refine hK.out _ _ trivial ?_
    clear hK K'
    refine wpPlan.runs fun K' hK => ?_
    go_simp
    refine hK.out _ _ trivial ?_
    clear hK K'
    repeat (first | (refine wpPlan.taken (by rfl) (by intro w' hS'; (try dsimp only at hS'); go_split_ands; go_simp; try with_reducible rfl) ?_; simp only [Act.put, List.setIfInBounds_toArray, List.set_cons_zero, List.set_cons_succ]) | (refine wpPlan.passed (by rfl) ?_; simp only [Act.put, List.setIfInBounds_toArray, List.set_cons_zero, List.set_cons_succ]))
    refine wpPlan.done ?_
    go_wp2_with fail
    go_ret
    exact ⟨rfl, (S4.out.then_ Y6.out.drew).toBelow⟩
  cases d5 : decide (0 ≤ k)
  · clear LS
    go_wp2_with fail
    refine wp_region_plan (fun w' => True) (.take 0 (.take 1 (.take 2 (.take 3 (.take 4 (.take 5 (.take 8 (.take 9 (.alt 6 (.alt 7 (.alt 10 (.take 11 (.take 12 (.take 13 .done))) .none) .none) .none))))))))) _
      (by simp only [Plan.map, opOf, List.getElem?_toArray, List.getElem?_cons_zero, List.getElem?_cons_succ, Option.getD_some]; rfl) (by kernel_rfl) (by kernel_rfl) (by kernel_rfl) (by decide) (by intro c a d v w; cases d <;> exact fun h => h) trivial ?_
    repeat (first | (refine wpPlan.taken (by rfl) (by intro w' hS'; (try dsimp only at hS'); go_split_ands; go_simp; try with_reducible rfl) ?_; simp only [Act.put, List.setIfInBounds_toArray, List.set_cons_zero, List.set_cons_succ]) | (refine wpPlan.passed (by rfl) ?_; simp only [Act.put, List.setIfInBounds_toArray, List.set_cons_zero, List.set_cons_succ]))
    refine wpPlan.runs fun K' hK => ?_
    go_simp
    refine hK.out _ _ trivial ?_
    clear hK K'
    refine wpPlan.runs fun K' hK => ?_
    go_simp
    refine hK.out _ _ trivial ?_
    clear hK K'
    refine wpPlan.runs fun K' hK => ?_
    go_simp
    refine hK.out _ _ trivial ?_
    clear hK K'
    repeat (first | (refine wpPlan.taken (by rfl) (by intro w' hS'; (try dsimp only at hS'); go_split_ands; go_simp; try with_reducible rfl) ?_; simp only [Act.put, List.setIfInBounds_toArray, List.set_cons_zero, List.set_cons_succ]) | (refine wpPlan.passed (by rfl) ?_; simp only [Act.put, List.setIfInBounds_toArray, List.set_cons_zero, List.set_cons_succ]))
    refine wpPlan.done ?_
    go_wp2_with fail
    go_ret
    exact ⟨rfl, (S4.out.then_ Y6.out.drew).toBelow⟩
  cases d6 : decide (k < 2147483648)
  · clear LS
    go_wp2_with fail
    refine wp_region_plan (fun w' => True) (.take 0 (.take 1 (.take 2 (.take 3 (.take 4 (.take 5 (.take 8 (.take 9 (.alt 6 (.alt 7 (.alt 10 (.take 11 (.take 12 (.take 13 .done))) .none) .none) .none))))))))) _
      (by simp only [Plan.map, opOf, List.getElem?_toArray, List.getElem?_cons_zero, List.getElem?_cons_succ, Option.getD_some]; rfl) (by kernel_rfl) (by kernel_rfl) (by kernel_rfl) (by decide) (by intro c a d v w; cases d <;> exact fun h => h) trivial ?_
    repeat (first | (refine wpPlan.taken (by rfl) (by intro w' hS'; (try dsimp only at hS'); go_split_ands; go_simp; try with_reducible rfl) ?_; simp only [Act.put, List.setIfInBounds_toArray, List.set_cons_zero, List.set_cons_succ]) | (refine wpPlan.passed (by rfl) ?_; simp only [Act.put, List.setIfInBounds_toArray, List.set_cons_zero, List.set_cons_succ]))
    refine wpPlan.runs fun K' hK => ?_
    go_simp
    refine hK.out _ _ trivial ?_
    clear hK K'
    refine wpPlan.runs fun K' hK => ?_
    go_simp
    refine hK.out _ _ trivial ?_
    clear hK K'
    refine wpPlan.runs fun K' hK => ?_
    go_simp
    refine hK.out _ _ trivial ?_
    clear hK K'
    repeat (first | (refine wpPlan.taken (by rfl) (by intro w' hS'; (try dsimp only at hS'); go_split_ands; go_simp; try with_reducible rfl) ?_; simp only [Act.put, List.setIfInBounds_toArray, List.set_cons_zero, List.set_cons_succ]) | (refine wpPlan.passed (by rfl) ?_; simp only [Act.put, List.setIfInBounds_toArray, List.set_cons_zero, List.set_cons_succ]))
    refine wpPlan.done ?_
    go_wp2_with fail
    go_ret
    exact ⟨rfl, (S4.out.then_ Y6.out.drew).toBelow⟩
  have LE := Lib.hid (LS.out ⟨by simpa using d1, by simpa using d2⟩ ⟨by simpa using d3, by simpa using d4⟩ ⟨by simpa using d5, by simpa using d6⟩)
  rw [LE.out] at C1
  generalize lex x.flat y.flat = r at *
  clear LS LE
  go_wp2_with fail
  refine wp_region_plan (fun w' => (Instr.loadAt 27 (.pointer (some ⟨w.heap.size, 0, none⟩))).run Try.prog w' = .ok (.agg x.cells) w' ∧ (Instr.loadAt 27 (.pointer (some ⟨(w.heap.size + 1), 0, none⟩))).run Try.prog w' = .ok (.agg y.cells) w' ∧ (Instr.loadAt 27 (.pointer (some ⟨w3.heap.size, 0, none⟩))).run Try.prog w' = .ok (.agg (x.add k).cells) w') (.take 0 (.take 1 (.take 2 (.take 3 (.take 4 (.take 5 (.take 8 (.take 9 (.alt 6 (.alt 7 (.alt 10 (.take 11 (.take 12 (.take 13 .done))) .none) .none) .none))))))))) _
    (by simp only [Plan.map, opOf, List.getElem?_toArray, List.getElem?_cons_zero, List.getElem?_cons_succ, Option.getD_some]; rfl) (by kernel_rfl) (by kernel_rfl) (by kernel_rfl) (by decide) (by intro c a d v w; cases d <;> exact fun h => h) (K.out _ Y6.out.drew) ?_
  repeat (first | (refine wpPlan.taken (by rfl) (fun w' hS' => run_load_op rfl rfl hS'.1) ?_; simp only [Act.put, List.setIfInBounds_toArray, List.set_cons_zero, List.set_cons_succ]) | (refine wpPlan.taken (by rfl) (fun w' hS' => run_load_op rfl rfl hS'.2.1) ?_; simp only [Act.put, List.setIfInBounds_toArray, List.set_cons_zero, List.set_cons_succ]) | (refine wpPlan.taken (by rfl) (fun w' hS' => run_load_op rfl rfl hS'.2.2) ?_; simp only [Act.put, List.setIfInBounds_toArray, List.set_cons_zero, List.set_cons_succ]) | (refine wpPlan.taken (by rfl) (by intro w' hS'; (try dsimp only at hS'); go_split_ands; go_simp; try with_reducible rfl) ?_; simp only [Act.put, List.setIfInBounds_toArray, List.set_cons_zero, List.set_cons_succ]) | (refine wpPlan.passed (by rfl) ?_; simp only [Act.put, List.setIfInBounds_toArray, List.set_cons_zero, List.set_cons_succ]))
  refine wpPlan.runs fun K' hK => ?_
  go_simp
  refine (add_any y k _).mono ?_
  rintro e w7 ⟨rfl, s7⟩
  have Y7 := Lib.hid (Y6.out.drew.then_ s7)
  refine hK.out _ _ (K.out _ Y7.out) ?_
  clear hK K' s7 Y6
  refine wpPlan.runs fun K' hK => ?_
  go_simp
  refine (C1.out _).mono ?_
  rintro e w8 ⟨rfl, s8⟩
  have Y8 := Lib.hid (Y7.out.then_ s8)
  refine hK.out _ _ (K.out _ Y8.out) ?_
  clear hK K' s8 Y7
  refine wpPlan.runs fun K' hK => ?_
  go_simp
  refine (C2.out _).mono ?_
  rintro e w9 ⟨rfl, s9⟩
  have Y9 := Lib.hid (Y8.out.then_ s9)
  refine hK.out _ _ (K.out _ Y9.out) ?_
  clear hK K' s9 Y8
  repeat (first | (refine wpPlan.taken (by rfl) (fun w' hS' => run_load_op rfl rfl hS'.1) ?_; simp only [Act.put, List.setIfInBounds_toArray, List.set_cons_zero, List.set_cons_succ]) | (refine wpPlan.taken (by rfl) (fun w' hS' => run_load_op rfl rfl hS'.2.1) ?_; simp only [Act.put, List.setIfInBounds_toArray, List.set_cons_zero, List.set_cons_succ]) | (refine wpPlan.taken (by rfl) (fun w' hS' => run_load_op rfl rfl hS'.2.2) ?_; simp only [Act.put, List.setIfInBounds_toArray, List.set_cons_zero, List.set_cons_succ]) | (refine wpPlan.taken (by rfl) (by intro w' hS'; (try dsimp only at hS'); go_split_ands; go_simp; try with_reducible rfl) ?_; simp only [Act.put, List.setIfInBounds_toArray, List.set_cons_zero, List.set_cons_succ]) | (refine wpPlan.passed (by rfl) ?_; simp only [Act.put, List.setIfInBounds_toArray, List.set_cons_zero, List.set_cons_succ]))
  refine wpPlan.done ?_
  go_wp2_with fail
  go_ret
  exact ⟨rfl, (S4.out.then_ Y9.out).toBelow⟩

end Go.Proofs.Ytehlaomippbehaa
