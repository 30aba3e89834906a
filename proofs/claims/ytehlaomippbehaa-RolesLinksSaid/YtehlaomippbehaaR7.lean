/- A bridge that hears a better one. -/
import Derived.Test.YtehlaomippbehaaR6
import Derived.Test.YtehlaomippbehaaCutw
namespace Go.Proofs.Ytehlaomippbehaa
open Go.RowKit Go.Gm

def idN (n : Int) : Idn := ⟨32768, 2, 0, 0, 0, 0, n⟩
theorem idN_small {n : Int} (h : 0 ≤ n ∧ n ≤ 255) : Small (idN n).mac := fun x hx => by simp [idN, Idn.mac] at hx; omega
theorem id_is (n : Int) (w : World) (h : 0 ≤ n ∧ n ≤ 255) : Calls Try.prog 40 #[.int .i64 n] w fun e w' => e = .returned (.agg (idN n).cells) ∧ Step None w w' := by
  have wr := IntKind.wrap_u8 n
  rw [show n % 256 = n by omega] at wr
  have b1 := heap_alloc_new w (.cells noIdn.cells 25)
  have s1 := (Step.refl None w).alloc (.cells noIdn.cells 25)
  unfold noIdn Idn.cells at b1 s1
  dsimp only at b1 s1
  obtain ⟨W, hW⟩ : ∃ W, w.alloc (.cells #[.int .i64 0, .int .u8 0, .int .u8 0, .int .u8 0, .int .u8 0, .int .u8 0, .int .u8 0] 25) = W := ⟨_, rfl⟩
  rw [hW] at b1 s1
  have HE := Lib.hid hW
  have B1 := Lib.hid b1
  have S1 := Lib.hid s1
  clear hW b1 s1 h
  go_enter Try.func40, Try.ntmps40
  go_wp2_with (first
    | rw [HE.out]
    | (refine wpList_store_row rfl 25 (.tmp 2) (.tmp 6) rfl w.heap.size (idN n).cells rfl rfl 25 _ B1.out (by kernel_rfl) rfl (by simp [Idn.cells, Value.oneCell']) ?_))
  (try simp only [Exit.inBlock, Exit.then])
  refine bodyPost_ret (results_cell_row (P := Try.prog) (fn := Try.f40) rfl _ _ w.heap.size 25 (idN n).cells (0, 0) _ rfl (setRow_heap _ _ _ _ _ _ B1.out) Try.underlying25 rfl (by kernel_rfl)) rfl ?_
  exact ⟨rfl, step_setRow S1.out (fun h => by omega) _⟩

def twoH : List Hrd := [⟨1, 5, true, true, ⟨idN 1, 0, idN 1, 4, 0⟩⟩, ⟨2, 5, true, false, noVec⟩]
theorem two_fair : fairOf twoH = 0 := by decide
theorem two_best : bestOf (idN 2) twoH = ⟨idN 1, 5, idN 1, 4, 1⟩ := Vec.flat_inj (by rw [bestOf, if_pos two_fair]; decide +kernel)
theorem two_roles : rolesOf (idN 2) twoH = [1, 2] := by rw [rolesOf, if_pos two_fair]; decide +kernel
theorem two_hears {w : World} {g : Nat} (h : w.heap[g]? = some (.cells #[.int .i64 1, .int .i64 5, .bool true, .bool true, .int .i64 32768, .int .u8 2, .int .u8 0, .int .u8 0, .int .u8 0, .int .u8 0, .int .u8 1, .int .i64 0, .int .i64 32768, .int .u8 2, .int .u8 0, .int .u8 0, .int .u8 0, .int .u8 0, .int .u8 1, .int .i64 4, .int .i64 0, .int .i64 2, .int .i64 5, .bool true, .bool false, .int .i64 0, .int .u8 0, .int .u8 0, .int .u8 0, .int .u8 0, .int .u8 0, .int .u8 0, .int .i64 0, .int .i64 0, .int .u8 0, .int .u8 0, .int .u8 0, .int .u8 0, .int .u8 0, .int .u8 0, .int .i64 0, .int .i64 0] 52 (0, 0))) : Hears w (some ⟨g, 0, none⟩) twoH := fun i x hx => by
  have h41 : ∀ j u, (#[.int .i64 0] : Array Value)[j]? = some u → j < 1 := fun j u hj => by have := (Array.getElem?_eq_some_iff.1 hj).1; simpa using this
  have lt : ∀ (x : Hrd) j u, x.cells[j]? = some u → j < 21 := fun x j u hj => (Array.getElem?_eq_some_iff.1 hj).1
  match i, hx with
  | 0, hx =>
    simp only [twoH, List.getElem?_cons_zero, Option.some.injEq] at hx
    subst hx
    refine ⟨⟨idN_small (by omega), idN_small (by omega)⟩, g, 0, rfl, fun j u hj => ?_⟩
    have := lt _ j u hj
    rw [blk_cell h, ← hj]
    have hcs : j = 0 ∨ j = 1 ∨ j = 2 ∨ j = 3 ∨ j = 4 ∨ j = 5 ∨ j = 6 ∨ j = 7 ∨ j = 8 ∨ j = 9 ∨ j = 10 ∨ j = 11 ∨ j = 12 ∨ j = 13 ∨ j = 14 ∨ j = 15 ∨ j = 16 ∨ j = 17 ∨ j = 18 ∨ j = 19 ∨ j = 20 := by omega
    rcases hcs with rfl | rfl | rfl | rfl | rfl | rfl | rfl | rfl | rfl | rfl | rfl | rfl | rfl | rfl | rfl | rfl | rfl | rfl | rfl | rfl | rfl <;> rfl
  | 1, hx =>
    simp only [twoH, List.getElem?_cons_succ, List.getElem?_cons_zero, Option.some.injEq] at hx
    subst hx
    refine ⟨default_fine, g, 0, rfl, fun j u hj => ?_⟩
    have := lt _ j u hj
    rw [blk_cell h, ← hj]
    have hcs : j = 0 ∨ j = 1 ∨ j = 2 ∨ j = 3 ∨ j = 4 ∨ j = 5 ∨ j = 6 ∨ j = 7 ∨ j = 8 ∨ j = 9 ∨ j = 10 ∨ j = 11 ∨ j = 12 ∨ j = 13 ∨ j = 14 ∨ j = 15 ∨ j = 16 ∨ j = 17 ∨ j = 18 ∨ j = 19 ∨ j = 20 := by omega
    rcases hcs with rfl | rfl | rfl | rfl | rfl | rfl | rfl | rfl | rfl | rfl | rfl | rfl | rfl | rfl | rfl | rfl | rfl | rfl | rfl | rfl | rfl <;> rfl
  | i + 2, hx => simp [twoH] at hx

set_option maxRecDepth 100000 in
set_option maxHeartbeats 8000000 in
theorem rawake_any (w : World) : Calls Try.prog 26 #[] w fun e w' => e = .returned (.bool true) ∧ Step None w w' := by
  have hn := fun w0 => laid_new w0 zeroV #[.int .i64 32768, .int .u8 2, .int .u8 0, .int .u8 0, .int .u8 0, .int .u8 0, .int .u8 1, .int .i64 0, .int .i64 32768, .int .u8 2, .int .u8 0, .int .u8 0, .int .u8 0, .int .u8 0, .int .u8 1, .int .i64 4, .int .i64 0] 27
  unfold zeroV at hn
  have HN := Lib.hid hn
  have RF := Lib.hid two_fair
  have RB := Lib.hid two_best
  have RR := Lib.hid two_roles
  clear hn
  go_enter Try.func26, Try.ntmps26
  go_wp2_with fail
  refine (id_is 1 _ (by omega)).mono ?_
  rintro e w1 ⟨rfl, s1⟩
  unfold idN Idn.cells
  dsimp only
  go_wp2_with fail
  refine (id_is 1 _ (by omega)).mono ?_
  rintro e w2 ⟨rfl, s2⟩
  unfold idN Idn.cells
  dsimp only
  obtain ⟨W, hW⟩ : ∃ W, (w2.alloc (.cells #[.int .i64 0, .int .u8 0, .int .u8 0, .int .u8 0, .int .u8 0, .int .u8 0, .int .u8 0, .int .i64 0, .int .i64 0, .int .u8 0, .int .u8 0, .int .u8 0, .int .u8 0, .int .u8 0, .int .u8 0, .int .i64 0, .int .i64 0] 27)).setRow w2.heap.size #[.int .i64 32768, .int .u8 2, .int .u8 0, .int .u8 0, .int .u8 0, .int .u8 0, .int .u8 1, .int .i64 0, .int .i64 32768, .int .u8 2, .int .u8 0, .int .u8 0, .int .u8 0, .int .u8 0, .int .u8 1, .int .i64 4, .int .i64 0] = W := ⟨_, rfl⟩
  have h2 := HN.out w2
  rw [hW] at h2
  have HE := Lib.hid hW
  have Z := Lib.hid ((s1.then_ s2).then_ h2.2)
  have B := Lib.hid h2.1
  clear hW h2 s1 s2 HN
  go_wp2_with (first
    | rw [HE.out]
    | (refine wpList_store_row rfl 27 (.tmp 1) (.tmp 7) rfl w2.heap.size #[.int .i64 32768, .int .u8 2, .int .u8 0, .int .u8 0, .int .u8 0, .int .u8 0, .int .u8 1, .int .i64 0, .int .i64 32768, .int .u8 2, .int .u8 0, .int .u8 0, .int .u8 0, .int .u8 0, .int .u8 1, .int .i64 4, .int .i64 0] rfl rfl 27 _ (heap_alloc_new w2 _) (by kernel_rfl) rfl (by simp [Value.oneCell']) ?_))
  generalize w2.heap.size = G at *
  clear HE
  have K : Hid (∀ w', Step None W w' → (Instr.loadAt 27 (.pointer (some ⟨G, 0, none⟩))).run Try.prog w' = .ok (.agg #[.int .i64 32768, .int .u8 2, .int .u8 0, .int .u8 0, .int .u8 0, .int .u8 0, .int .u8 1, .int .i64 0, .int .i64 32768, .int .u8 2, .int .u8 0, .int .u8 0, .int .u8 0, .int .u8 0, .int .u8 1, .int .i64 4, .int .i64 0]) w') := Lib.hid fun w' h' => load_block (h'.blk B.out (fun s => s.elim)) rfl
  apply wp_cut4 (fun (N : Nat) (_ : Nat) (ao2 : Option Addr) (cap2 : Nat) (w' : World) => Step None W w' ∧ w'.heap[N]? = some (.cells (⟨idN 1, 5, idN 1, 4, 1⟩ : Vec).cells 27 (0, 0)) ∧ Ints w' ao2 [1, 2])
  · refine wp_region_plan (fun w' => Step None W w' ∧ (Instr.loadAt 27 (.pointer (some ⟨G, 0, none⟩))).run Try.prog w' = .ok (.agg #[.int .i64 32768, .int .u8 2, .int .u8 0, .int .u8 0, .int .u8 0, .int .u8 0, .int .u8 1, .int .i64 0, .int .i64 32768, .int .u8 2, .int .u8 0, .int .u8 0, .int .u8 0, .int .u8 0, .int .u8 1, .int .i64 4, .int .i64 0]) w') (.take 1 (.take 2 (.take 3 (.alt 0 (.alt 4 (.alt 5 (.take 6 (.take 7 (.take 8 (.take 9 (.alt 10 (.alt 11 (.take 12 (.take 13 .done)) .none) .none))))) (.alt 10 (.alt 5 (.take 6 (.take 7 (.take 8 (.take 9 (.alt 11 (.take 12 (.take 13 .done)) .none))))) .none) .none)) (.alt 10 (.alt 4 (.alt 5 (.take 6 (.take 7 (.take 8 (.take 9 (.alt 11 (.take 12 (.take 13 .done)) .none))))) .none) .none) .none)) (.alt 4 (.alt 0 (.alt 5 (.take 6 (.take 7 (.take 8 (.take 9 (.alt 10 (.alt 11 (.take 12 (.take 13 .done)) .none) .none))))) (.alt 10 (.alt 5 (.take 6 (.take 7 (.take 8 (.take 9 (.alt 11 (.take 12 (.take 13 .done)) .none))))) .none) .none)) (.alt 10 (.alt 0 (.alt 5 (.take 6 (.take 7 (.take 8 (.take 9 (.alt 11 (.take 12 (.take 13 .done)) .none))))) .none) .none) .none)) (.alt 10 (.alt 0 (.alt 4 (.alt 5 (.take 6 (.take 7 (.take 8 (.take 9 (.alt 11 (.take 12 (.take 13 .done)) .none))))) .none) .none) (.alt 4 (.alt 0 (.alt 5 (.take 6 (.take 7 (.take 8 (.take 9 (.alt 11 (.take 12 (.take 13 .done)) .none))))) .none) .none) .none)) .none)))))) _
      (by simp only [Plan.map, opOf, List.getElem?_toArray, List.getElem?_cons_zero, List.getElem?_cons_succ, Option.getD_some]; rfl) (by kernel_rfl) (by kernel_rfl) (by kernel_rfl) (by decide) (by intro c a d v w h; exact absurd h.1 (by simp)) ⟨(Step.refl None W).drew, K.out _ (Step.refl None W).drew⟩ ?_
    have Z0 := Lib.hid (Step.refl None W).drew
    generalize W.drew = w3 at *
    repeat (first | (refine wpPlan.taken (by rfl) (fun w' hS' => run_load_op rfl rfl hS'.2) ?_; simp only [Act.put, List.setIfInBounds_toArray, List.set_cons_zero, List.set_cons_succ]) | (refine wpPlan.taken (by rfl) (by intro w' hS'; (try dsimp only at hS'); go_split_ands; go_simp; try with_reducible rfl) ?_; simp only [Act.put, List.setIfInBounds_toArray, List.set_cons_zero, List.set_cons_succ]) | (refine wpPlan.passed (by rfl) ?_; simp only [Act.put, List.setIfInBounds_toArray, List.set_cons_zero, List.set_cons_succ]))
    refine wpPlan.parts ?_ ?_
    · refine wpPlan.runs fun K' hK => ?_
      go_simp
      refine (id_is 2 _ (by omega)).mono ?_
      rintro e w1x ⟨rfl, sx⟩
      have Z1 := Lib.hid (Z0.out.then_ sx)
      refine hK.out _ _ ⟨Z1.out, K.out _ Z1.out⟩ ?_
      clear hK K' sx
      unfold idN Idn.cells
      dsimp only
      refine wpPlan.parts ?_ ?_
      · refine wpPlan.runs fun K' hK => ?_
        go_simp
        have sx := (Step.refl None w1x).alloc (.cells #[.int .i64 1, .int .i64 5, .bool true, .bool true, .int .i64 32768, .int .u8 2, .int .u8 0, .int .u8 0, .int .u8 0, .int .u8 0, .int .u8 1, .int .i64 0, .int .i64 32768, .int .u8 2, .int .u8 0, .int .u8 0, .int .u8 0, .int .u8 0, .int .u8 1, .int .i64 4, .int .i64 0, .int .i64 2, .int .i64 5, .bool true, .bool false, .int .i64 0, .int .u8 0, .int .u8 0, .int .u8 0, .int .u8 0, .int .u8 0, .int .u8 0, .int .i64 0, .int .i64 0, .int .u8 0, .int .u8 0, .int .u8 0, .int .u8 0, .int .u8 0, .int .u8 0, .int .i64 0, .int .i64 0] 52)
        have bx := heap_alloc_new w1x (.cells #[.int .i64 1, .int .i64 5, .bool true, .bool true, .int .i64 32768, .int .u8 2, .int .u8 0, .int .u8 0, .int .u8 0, .int .u8 0, .int .u8 1, .int .i64 0, .int .i64 32768, .int .u8 2, .int .u8 0, .int .u8 0, .int .u8 0, .int .u8 0, .int .u8 1, .int .i64 4, .int .i64 0, .int .i64 2, .int .i64 5, .bool true, .bool false, .int .i64 0, .int .u8 0, .int .u8 0, .int .u8 0, .int .u8 0, .int .u8 0, .int .u8 0, .int .i64 0, .int .i64 0, .int .u8 0, .int .u8 0, .int .u8 0, .int .u8 0, .int .u8 0, .int .u8 0, .int .i64 0, .int .i64 0] 52)
        have Z2 := Lib.hid (Z1.out.then_ sx)
        have F4_2 := Lib.hid bx
        have G2 := Z1.out.size
        refine hK.out _ _ ⟨Z2.out, K.out _ Z2.out⟩ ?_
        clear hK K' sx bx
        generalize w1x.heap.size = N2 at *
        generalize hw2 : w1x.alloc (.cells #[.int .i64 1, .int .i64 5, .bool true, .bool true, .int .i64 32768, .int .u8 2, .int .u8 0, .int .u8 0, .int .u8 0, .int .u8 0, .int .u8 1, .int .i64 0, .int .i64 32768, .int .u8 2, .int .u8 0, .int .u8 0, .int .u8 0, .int .u8 0, .int .u8 1, .int .i64 4, .int .i64 0, .int .i64 2, .int .i64 5, .bool true, .bool false, .int .i64 0, .int .u8 0, .int .u8 0, .int .u8 0, .int .u8 0, .int .u8 0, .int .u8 0, .int .i64 0, .int .i64 0, .int .u8 0, .int .u8 0, .int .u8 0, .int .u8 0, .int .u8 0, .int .u8 0, .int .i64 0, .int .i64 0] 52) = w2x at *
        clear hw2
        refine wpPlan.parts ?_ ?_
        · refine wpPlan.runs fun K' hK => ?_
          go_simp
          refine (select_any (idN 2) (some ⟨N2, 0, none⟩) 2 twoH w2x (idN_small (by omega)) (fun x hx => by simp [twoH] at hx; rcases hx with rfl | rfl <;> decide) (by decide) (two_hears F4_2.out)).mono ?_
          rintro e w3x ⟨sx, ao2, cap2, rfl, ix⟩
          rw [RR.out] at ix ⊢
          rw [RF.out, RB.out]
          have Z3 := Lib.hid (Z2.out.then_ sx)
          have F4_2_3 := Lib.hid (sx.blk F4_2.out (fun s => s.elim))
          have I3 := Lib.hid ix
          refine hK.out _ _ ⟨Z3.out, K.out _ Z3.out⟩ ?_
          clear hK K' sx ix
          unfold idN Vec.cells
          dsimp only
          repeat (first | (refine wpPlan.taken (by rfl) (fun w' hS' => run_load_op rfl rfl hS'.2) ?_; simp only [Act.put, List.setIfInBounds_toArray, List.set_cons_zero, List.set_cons_succ]) | (refine wpPlan.taken (by rfl) (by intro w' hS'; (try dsimp only at hS'); go_split_ands; go_simp; try with_reducible rfl) ?_; simp only [Act.put, List.setIfInBounds_toArray, List.set_cons_zero, List.set_cons_succ]) | (refine wpPlan.passed (by rfl) ?_; simp only [Act.put, List.setIfInBounds_toArray, List.set_cons_zero, List.set_cons_succ]))
          refine wpPlan.runs fun K' hK => ?_
          go_simp
          have sx := (Step.refl None w3x).alloc (.cells #[.int .i64 0, .int .u8 0, .int .u8 0, .int .u8 0, .int .u8 0, .int .u8 0, .int .u8 0, .int .i64 0, .int .i64 0, .int .u8 0, .int .u8 0, .int .u8 0, .int .u8 0, .int .u8 0, .int .u8 0, .int .i64 0, .int .i64 0] 27)
          have bx := heap_alloc_new w3x (.cells #[.int .i64 0, .int .u8 0, .int .u8 0, .int .u8 0, .int .u8 0, .int .u8 0, .int .u8 0, .int .i64 0, .int .i64 0, .int .u8 0, .int .u8 0, .int .u8 0, .int .u8 0, .int .u8 0, .int .u8 0, .int .i64 0, .int .i64 0] 27)
          have F4_2_3_4 := Lib.hid (sx.blk F4_2_3.out (fun s => s.elim))
          have I3_4 := Lib.hid (I3.out.still sx)
          have Z4 := Lib.hid (Z3.out.then_ sx)
          have F10_4 := Lib.hid bx
          have G4 := Z3.out.size
          refine hK.out _ _ ⟨Z4.out, K.out _ Z4.out⟩ ?_
          clear hK K' sx bx
          generalize w3x.heap.size = N4 at *
          generalize hw4 : w3x.alloc (.cells #[.int .i64 0, .int .u8 0, .int .u8 0, .int .u8 0, .int .u8 0, .int .u8 0, .int .u8 0, .int .i64 0, .int .i64 0, .int .u8 0, .int .u8 0, .int .u8 0, .int .u8 0, .int .u8 0, .int .u8 0, .int .i64 0, .int .i64 0] 27) = w4x at *
          clear hw4
          refine wpPlan.runs fun K' hK => ?_
          have Z5 := Lib.hid (step_setRow Z4.out (fun h => absurd h (Nat.not_lt.2 G4)) (⟨idN 1, 5, idN 1, 4, 1⟩ : Vec).cells)
          have F10_5 := Lib.hid (setRow_heap w4x N4 _ (⟨idN 1, 5, idN 1, 4, 1⟩ : Vec).cells _ _ F10_4.out)
          have I5 := Lib.hid (Ints.row I3_4.out F10_4.out (by decide) (⟨idN 1, 5, idN 1, 4, 1⟩ : Vec).cells)
          rw [if_pos (by rfl)]
          refine wp_store_row 27 (.tmp 2) (.tmp 15) rfl N4 (⟨idN 1, 5, idN 1, 4, 1⟩ : Vec).cells rfl rfl 27 _ F10_4.out (by kernel_rfl) rfl (by simp [Vec.cells, Value.oneCell']) (hK.out _ _ ⟨Z5.out, K.out _ Z5.out⟩ ?_)
          clear hK K'
          repeat (first | (refine wpPlan.taken (by rfl) (fun w' hS' => run_load_op rfl rfl hS'.2) ?_; simp only [Act.put, List.setIfInBounds_toArray, List.set_cons_zero, List.set_cons_succ]) | (refine wpPlan.taken (by rfl) (by intro w' hS'; (try dsimp only at hS'); go_split_ands; go_simp; try with_reducible rfl) ?_; simp only [Act.put, List.setIfInBounds_toArray, List.set_cons_zero, List.set_cons_succ]) | (refine wpPlan.passed (by rfl) ?_; simp only [Act.put, List.setIfInBounds_toArray, List.set_cons_zero, List.set_cons_succ]))
          refine wpPlan.done ?_
          exact ⟨rfl, N4, N2, ao2, cap2, rfl, Z5.out, F10_5.out, I5.out⟩
        · skip
          refine wpPlan.runs fun K' hK => ?_
          go_simp
          have sx := (Step.refl None w2x).alloc (.cells #[.int .i64 0, .int .u8 0, .int .u8 0, .int .u8 0, .int .u8 0, .int .u8 0, .int .u8 0, .int .i64 0, .int .i64 0, .int .u8 0, .int .u8 0, .int .u8 0, .int .u8 0, .int .u8 0, .int .u8 0, .int .i64 0, .int .i64 0] 27)
          have bx := heap_alloc_new w2x (.cells #[.int .i64 0, .int .u8 0, .int .u8 0, .int .u8 0, .int .u8 0, .int .u8 0, .int .u8 0, .int .i64 0, .int .i64 0, .int .u8 0, .int .u8 0, .int .u8 0, .int .u8 0, .int .u8 0, .int .u8 0, .int .i64 0, .int .i64 0] 27)
          have F4_2_6 := Lib.hid (sx.blk F4_2.out (fun s => s.elim))
          have Z6 := Lib.hid (Z2.out.then_ sx)
          have F10_6 := Lib.hid bx
          have G6 := Z2.out.size
          refine hK.out _ _ ⟨Z6.out, K.out _ Z6.out⟩ ?_
          clear hK K' sx bx
          generalize w2x.heap.size = N6 at *
          generalize hw6 : w2x.alloc (.cells #[.int .i64 0, .int .u8 0, .int .u8 0, .int .u8 0, .int .u8 0, .int .u8 0, .int .u8 0, .int .i64 0, .int .i64 0, .int .u8 0, .int .u8 0, .int .u8 0, .int .u8 0, .int .u8 0, .int .u8 0, .int .i64 0, .int .i64 0] 27) = w6x at *
          clear hw6
          refine wpPlan.runs fun K' hK => ?_
          go_simp
          refine (select_any (idN 2) (some ⟨N2, 0, none⟩) 2 twoH w6x (idN_small (by omega)) (fun x hx => by simp [twoH] at hx; rcases hx with rfl | rfl <;> decide) (by decide) (two_hears F4_2_6.out)).mono ?_
          rintro e w7x ⟨sx, ao2, cap2, rfl, ix⟩
          rw [RR.out] at ix ⊢
          rw [RF.out, RB.out]
          have Z7 := Lib.hid (Z6.out.then_ sx)
          have F4_2_6_7 := Lib.hid (sx.blk F4_2_6.out (fun s => s.elim))
          have F10_6_7 := Lib.hid (sx.blk F10_6.out (fun s => s.elim))
          have I7 := Lib.hid ix
          refine hK.out _ _ ⟨Z7.out, K.out _ Z7.out⟩ ?_
          clear hK K' sx ix
          unfold idN Vec.cells
          dsimp only
          repeat (first | (refine wpPlan.taken (by rfl) (fun w' hS' => run_load_op rfl rfl hS'.2) ?_; simp only [Act.put, List.setIfInBounds_toArray, List.set_cons_zero, List.set_cons_succ]) | (refine wpPlan.taken (by rfl) (by intro w' hS'; (try dsimp only at hS'); go_split_ands; go_simp; try with_reducible rfl) ?_; simp only [Act.put, List.setIfInBounds_toArray, List.set_cons_zero, List.set_cons_succ]) | (refine wpPlan.passed (by rfl) ?_; simp only [Act.put, List.setIfInBounds_toArray, List.set_cons_zero, List.set_cons_succ]))
          refine wpPlan.runs fun K' hK => ?_
          have Z8 := Lib.hid (step_setRow Z7.out (fun h => absurd h (Nat.not_lt.2 G6)) (⟨idN 1, 5, idN 1, 4, 1⟩ : Vec).cells)
          have F10_8 := Lib.hid (setRow_heap w7x N6 _ (⟨idN 1, 5, idN 1, 4, 1⟩ : Vec).cells _ _ F10_6_7.out)
          have I8 := Lib.hid (Ints.row I7.out F10_6_7.out (by decide) (⟨idN 1, 5, idN 1, 4, 1⟩ : Vec).cells)
          rw [if_pos (by rfl)]
          refine wp_store_row 27 (.tmp 2) (.tmp 15) rfl N6 (⟨idN 1, 5, idN 1, 4, 1⟩ : Vec).cells rfl rfl 27 _ F10_6_7.out (by kernel_rfl) rfl (by simp [Vec.cells, Value.oneCell']) (hK.out _ _ ⟨Z8.out, K.out _ Z8.out⟩ ?_)
          clear hK K'
          repeat (first | (refine wpPlan.taken (by rfl) (fun w' hS' => run_load_op rfl rfl hS'.2) ?_; simp only [Act.put, List.setIfInBounds_toArray, List.set_cons_zero, List.set_cons_succ]) | (refine wpPlan.taken (by rfl) (by intro w' hS'; (try dsimp only at hS'); go_split_ands; go_simp; try with_reducible rfl) ?_; simp only [Act.put, List.setIfInBounds_toArray, List.set_cons_zero, List.set_cons_succ]) | (refine wpPlan.passed (by rfl) ?_; simp only [Act.put, List.setIfInBounds_toArray, List.set_cons_zero, List.set_cons_succ]))
          refine wpPlan.done ?_
          exact ⟨rfl, N6, N2, ao2, cap2, rfl, Z8.out, F10_8.out, I8.out⟩
      · skip
        refine wpPlan.runs fun K' hK => ?_
        go_simp
        have sx := (Step.refl None w1x).alloc (.cells #[.int .i64 0, .int .u8 0, .int .u8 0, .int .u8 0, .int .u8 0, .int .u8 0, .int .u8 0, .int .i64 0, .int .i64 0, .int .u8 0, .int .u8 0, .int .u8 0, .int .u8 0, .int .u8 0, .int .u8 0, .int .i64 0, .int .i64 0] 27)
        have bx := heap_alloc_new w1x (.cells #[.int .i64 0, .int .u8 0, .int .u8 0, .int .u8 0, .int .u8 0, .int .u8 0, .int .u8 0, .int .i64 0, .int .i64 0, .int .u8 0, .int .u8 0, .int .u8 0, .int .u8 0, .int .u8 0, .int .u8 0, .int .i64 0, .int .i64 0] 27)
        have Z9 := Lib.hid (Z1.out.then_ sx)
        have F10_9 := Lib.hid bx
        have G9 := Z1.out.size
        refine hK.out _ _ ⟨Z9.out, K.out _ Z9.out⟩ ?_
        clear hK K' sx bx
        generalize w1x.heap.size = N9 at *
        generalize hw9 : w1x.alloc (.cells #[.int .i64 0, .int .u8 0, .int .u8 0, .int .u8 0, .int .u8 0, .int .u8 0, .int .u8 0, .int .i64 0, .int .i64 0, .int .u8 0, .int .u8 0, .int .u8 0, .int .u8 0, .int .u8 0, .int .u8 0, .int .i64 0, .int .i64 0] 27) = w9x at *
        clear hw9
        refine wpPlan.runs fun K' hK => ?_
        go_simp
        have sx := (Step.refl None w9x).alloc (.cells #[.int .i64 1, .int .i64 5, .bool true, .bool true, .int .i64 32768, .int .u8 2, .int .u8 0, .int .u8 0, .int .u8 0, .int .u8 0, .int .u8 1, .int .i64 0, .int .i64 32768, .int .u8 2, .int .u8 0, .int .u8 0, .int .u8 0, .int .u8 0, .int .u8 1, .int .i64 4, .int .i64 0, .int .i64 2, .int .i64 5, .bool true, .bool false, .int .i64 0, .int .u8 0, .int .u8 0, .int .u8 0, .int .u8 0, .int .u8 0, .int .u8 0, .int .i64 0, .int .i64 0, .int .u8 0, .int .u8 0, .int .u8 0, .int .u8 0, .int .u8 0, .int .u8 0, .int .i64 0, .int .i64 0] 52)
        have bx := heap_alloc_new w9x (.cells #[.int .i64 1, .int .i64 5, .bool true, .bool true, .int .i64 32768, .int .u8 2, .int .u8 0, .int .u8 0, .int .u8 0, .int .u8 0, .int .u8 1, .int .i64 0, .int .i64 32768, .int .u8 2, .int .u8 0, .int .u8 0, .int .u8 0, .int .u8 0, .int .u8 1, .int .i64 4, .int .i64 0, .int .i64 2, .int .i64 5, .bool true, .bool false, .int .i64 0, .int .u8 0, .int .u8 0, .int .u8 0, .int .u8 0, .int .u8 0, .int .u8 0, .int .i64 0, .int .i64 0, .int .u8 0, .int .u8 0, .int .u8 0, .int .u8 0, .int .u8 0, .int .u8 0, .int .i64 0, .int .i64 0] 52)
        have F10_9_10 := Lib.hid (sx.blk F10_9.out (fun s => s.elim))
        have Z10 := Lib.hid (Z9.out.then_ sx)
        have F4_10 := Lib.hid bx
        have G10 := Z9.out.size
        refine hK.out _ _ ⟨Z10.out, K.out _ Z10.out⟩ ?_
        clear hK K' sx bx
        generalize w9x.heap.size = N10 at *
        generalize hw10 : w9x.alloc (.cells #[.int .i64 1, .int .i64 5, .bool true, .bool true, .int .i64 32768, .int .u8 2, .int .u8 0, .int .u8 0, .int .u8 0, .int .u8 0, .int .u8 1, .int .i64 0, .int .i64 32768, .int .u8 2, .int .u8 0, .int .u8 0, .int .u8 0, .int .u8 0, .int .u8 1, .int .i64 4, .int .i64 0, .int .i64 2, .int .i64 5, .bool true, .bool false, .int .i64 0, .int .u8 0, .int .u8 0, .int .u8 0, .int .u8 0, .int .u8 0, .int .u8 0, .int .i64 0, .int .i64 0, .int .u8 0, .int .u8 0, .int .u8 0, .int .u8 0, .int .u8 0, .int .u8 0, .int .i64 0, .int .i64 0] 52) = w10x at *
        clear hw10
        refine wpPlan.runs fun K' hK => ?_
        go_simp
        refine (select_any (idN 2) (some ⟨N10, 0, none⟩) 2 twoH w10x (idN_small (by omega)) (fun x hx => by simp [twoH] at hx; rcases hx with rfl | rfl <;> decide) (by decide) (two_hears F4_10.out)).mono ?_
        rintro e w11x ⟨sx, ao2, cap2, rfl, ix⟩
        rw [RR.out] at ix ⊢
        rw [RF.out, RB.out]
        have Z11 := Lib.hid (Z10.out.then_ sx)
        have F10_9_10_11 := Lib.hid (sx.blk F10_9_10.out (fun s => s.elim))
        have F4_10_11 := Lib.hid (sx.blk F4_10.out (fun s => s.elim))
        have I11 := Lib.hid ix
        refine hK.out _ _ ⟨Z11.out, K.out _ Z11.out⟩ ?_
        clear hK K' sx ix
        unfold idN Vec.cells
        dsimp only
        repeat (first | (refine wpPlan.taken (by rfl) (fun w' hS' => run_load_op rfl rfl hS'.2) ?_; simp only [Act.put, List.setIfInBounds_toArray, List.set_cons_zero, List.set_cons_succ]) | (refine wpPlan.taken (by rfl) (by intro w' hS'; (try dsimp only at hS'); go_split_ands; go_simp; try with_reducible rfl) ?_; simp only [Act.put, List.setIfInBounds_toArray, List.set_cons_zero, List.set_cons_succ]) | (refine wpPlan.passed (by rfl) ?_; simp only [Act.put, List.setIfInBounds_toArray, List.set_cons_zero, List.set_cons_succ]))
        refine wpPlan.runs fun K' hK => ?_
        have Z12 := Lib.hid (step_setRow Z11.out (fun h => absurd h (Nat.not_lt.2 G9)) (⟨idN 1, 5, idN 1, 4, 1⟩ : Vec).cells)
        have F10_12 := Lib.hid (setRow_heap w11x N9 _ (⟨idN 1, 5, idN 1, 4, 1⟩ : Vec).cells _ _ F10_9_10_11.out)
        have I12 := Lib.hid (Ints.row I11.out F10_9_10_11.out (by decide) (⟨idN 1, 5, idN 1, 4, 1⟩ : Vec).cells)
        rw [if_pos (by rfl)]
        refine wp_store_row 27 (.tmp 2) (.tmp 15) rfl N9 (⟨idN 1, 5, idN 1, 4, 1⟩ : Vec).cells rfl rfl 27 _ F10_9_10_11.out (by kernel_rfl) rfl (by simp [Vec.cells, Value.oneCell']) (hK.out _ _ ⟨Z12.out, K.out _ Z12.out⟩ ?_)
        clear hK K'
        repeat (first | (refine wpPlan.taken (by rfl) (fun w' hS' => run_load_op rfl rfl hS'.2) ?_; simp only [Act.put, List.setIfInBounds_toArray, List.set_cons_zero, List.set_cons_succ]) | (refine wpPlan.taken (by rfl) (by intro w' hS'; (try dsimp only at hS'); go_split_ands; go_simp; try with_reducible rfl) ?_; simp only [Act.put, List.setIfInBounds_toArray, List.set_cons_zero, List.set_cons_succ]) | (refine wpPlan.passed (by rfl) ?_; simp only [Act.put, List.setIfInBounds_toArray, List.set_cons_zero, List.set_cons_succ]))
        refine wpPlan.done ?_
        exact ⟨rfl, N9, N10, ao2, cap2, rfl, Z12.out, F10_12.out, I12.out⟩
    · skip
      refine wpPlan.parts ?_ ?_
      · refine wpPlan.runs fun K' hK => ?_
        go_simp
        have sx := (Step.refl None w3).alloc (.cells #[.int .i64 1, .int .i64 5, .bool true, .bool true, .int .i64 32768, .int .u8 2, .int .u8 0, .int .u8 0, .int .u8 0, .int .u8 0, .int .u8 1, .int .i64 0, .int .i64 32768, .int .u8 2, .int .u8 0, .int .u8 0, .int .u8 0, .int .u8 0, .int .u8 1, .int .i64 4, .int .i64 0, .int .i64 2, .int .i64 5, .bool true, .bool false, .int .i64 0, .int .u8 0, .int .u8 0, .int .u8 0, .int .u8 0, .int .u8 0, .int .u8 0, .int .i64 0, .int .i64 0, .int .u8 0, .int .u8 0, .int .u8 0, .int .u8 0, .int .u8 0, .int .u8 0, .int .i64 0, .int .i64 0] 52)
        have bx := heap_alloc_new w3 (.cells #[.int .i64 1, .int .i64 5, .bool true, .bool true, .int .i64 32768, .int .u8 2, .int .u8 0, .int .u8 0, .int .u8 0, .int .u8 0, .int .u8 1, .int .i64 0, .int .i64 32768, .int .u8 2, .int .u8 0, .int .u8 0, .int .u8 0, .int .u8 0, .int .u8 1, .int .i64 4, .int .i64 0, .int .i64 2, .int .i64 5, .bool true, .bool false, .int .i64 0, .int .u8 0, .int .u8 0, .int .u8 0, .int .u8 0, .int .u8 0, .int .u8 0, .int .i64 0, .int .i64 0, .int .u8 0, .int .u8 0, .int .u8 0, .int .u8 0, .int .u8 0, .int .u8 0, .int .i64 0, .int .i64 0] 52)
        have Z13 := Lib.hid (Z0.out.then_ sx)
        have F4_13 := Lib.hid bx
        have G13 := Z0.out.size
        refine hK.out _ _ ⟨Z13.out, K.out _ Z13.out⟩ ?_
        clear hK K' sx bx
        generalize w3.heap.size = N13 at *
        generalize hw13 : w3.alloc (.cells #[.int .i64 1, .int .i64 5, .bool true, .bool true, .int .i64 32768, .int .u8 2, .int .u8 0, .int .u8 0, .int .u8 0, .int .u8 0, .int .u8 1, .int .i64 0, .int .i64 32768, .int .u8 2, .int .u8 0, .int .u8 0, .int .u8 0, .int .u8 0, .int .u8 1, .int .i64 4, .int .i64 0, .int .i64 2, .int .i64 5, .bool true, .bool false, .int .i64 0, .int .u8 0, .int .u8 0, .int .u8 0, .int .u8 0, .int .u8 0, .int .u8 0, .int .i64 0, .int .i64 0, .int .u8 0, .int .u8 0, .int .u8 0, .int .u8 0, .int .u8 0, .int .u8 0, .int .i64 0, .int .i64 0] 52) = w13x at *
        clear hw13
        refine wpPlan.parts ?_ ?_
        · refine wpPlan.runs fun K' hK => ?_
          go_simp
          refine (id_is 2 _ (by omega)).mono ?_
          rintro e w14x ⟨rfl, sx⟩
          have Z14 := Lib.hid (Z13.out.then_ sx)
          have F4_13_14 := Lib.hid (sx.blk F4_13.out (fun s => s.elim))
          refine hK.out _ _ ⟨Z14.out, K.out _ Z14.out⟩ ?_
          clear hK K' sx
          unfold idN Idn.cells
          dsimp only
          refine wpPlan.parts ?_ ?_
          · refine wpPlan.runs fun K' hK => ?_
            go_simp
            refine (select_any (idN 2) (some ⟨N13, 0, none⟩) 2 twoH w14x (idN_small (by omega)) (fun x hx => by simp [twoH] at hx; rcases hx with rfl | rfl <;> decide) (by decide) (two_hears F4_13_14.out)).mono ?_
            rintro e w15x ⟨sx, ao2, cap2, rfl, ix⟩
            rw [RR.out] at ix ⊢
            rw [RF.out, RB.out]
            have Z15 := Lib.hid (Z14.out.then_ sx)
            have F4_13_14_15 := Lib.hid (sx.blk F4_13_14.out (fun s => s.elim))
            have I15 := Lib.hid ix
            refine hK.out _ _ ⟨Z15.out, K.out _ Z15.out⟩ ?_
            clear hK K' sx ix
            unfold idN Vec.cells
            dsimp only
            repeat (first | (refine wpPlan.taken (by rfl) (fun w' hS' => run_load_op rfl rfl hS'.2) ?_; simp only [Act.put, List.setIfInBounds_toArray, List.set_cons_zero, List.set_cons_succ]) | (refine wpPlan.taken (by rfl) (by intro w' hS'; (try dsimp only at hS'); go_split_ands; go_simp; try with_reducible rfl) ?_; simp only [Act.put, List.setIfInBounds_toArray, List.set_cons_zero, List.set_cons_succ]) | (refine wpPlan.passed (by rfl) ?_; simp only [Act.put, List.setIfInBounds_toArray, List.set_cons_zero, List.set_cons_succ]))
            refine wpPlan.runs fun K' hK => ?_
            go_simp
            have sx := (Step.refl None w15x).alloc (.cells #[.int .i64 0, .int .u8 0, .int .u8 0, .int .u8 0, .int .u8 0, .int .u8 0, .int .u8 0, .int .i64 0, .int .i64 0, .int .u8 0, .int .u8 0, .int .u8 0, .int .u8 0, .int .u8 0, .int .u8 0, .int .i64 0, .int .i64 0] 27)
            have bx := heap_alloc_new w15x (.cells #[.int .i64 0, .int .u8 0, .int .u8 0, .int .u8 0, .int .u8 0, .int .u8 0, .int .u8 0, .int .i64 0, .int .i64 0, .int .u8 0, .int .u8 0, .int .u8 0, .int .u8 0, .int .u8 0, .int .u8 0, .int .i64 0, .int .i64 0] 27)
            have F4_13_14_15_16 := Lib.hid (sx.blk F4_13_14_15.out (fun s => s.elim))
            have I15_16 := Lib.hid (I15.out.still sx)
            have Z16 := Lib.hid (Z15.out.then_ sx)
            have F10_16 := Lib.hid bx
            have G16 := Z15.out.size
            refine hK.out _ _ ⟨Z16.out, K.out _ Z16.out⟩ ?_
            clear hK K' sx bx
            generalize w15x.heap.size = N16 at *
            generalize hw16 : w15x.alloc (.cells #[.int .i64 0, .int .u8 0, .int .u8 0, .int .u8 0, .int .u8 0, .int .u8 0, .int .u8 0, .int .i64 0, .int .i64 0, .int .u8 0, .int .u8 0, .int .u8 0, .int .u8 0, .int .u8 0, .int .u8 0, .int .i64 0, .int .i64 0] 27) = w16x at *
            clear hw16
            refine wpPlan.runs fun K' hK => ?_
            have Z17 := Lib.hid (step_setRow Z16.out (fun h => absurd h (Nat.not_lt.2 G16)) (⟨idN 1, 5, idN 1, 4, 1⟩ : Vec).cells)
            have F10_17 := Lib.hid (setRow_heap w16x N16 _ (⟨idN 1, 5, idN 1, 4, 1⟩ : Vec).cells _ _ F10_16.out)
            have I17 := Lib.hid (Ints.row I15_16.out F10_16.out (by decide) (⟨idN 1, 5, idN 1, 4, 1⟩ : Vec).cells)
            rw [if_pos (by rfl)]
            refine wp_store_row 27 (.tmp 2) (.tmp 15) rfl N16 (⟨idN 1, 5, idN 1, 4, 1⟩ : Vec).cells rfl rfl 27 _ F10_16.out (by kernel_rfl) rfl (by simp [Vec.cells, Value.oneCell']) (hK.out _ _ ⟨Z17.out, K.out _ Z17.out⟩ ?_)
            clear hK K'
            repeat (first | (refine wpPlan.taken (by rfl) (fun w' hS' => run_load_op rfl rfl hS'.2) ?_; simp only [Act.put, List.setIfInBounds_toArray, List.set_cons_zero, List.set_cons_succ]) | (refine wpPlan.taken (by rfl) (by intro w' hS'; (try dsimp only at hS'); go_split_ands; go_simp; try with_reducible rfl) ?_; simp only [Act.put, List.setIfInBounds_toArray, List.set_cons_zero, List.set_cons_succ]) | (refine wpPlan.passed (by rfl) ?_; simp only [Act.put, List.setIfInBounds_toArray, List.set_cons_zero, List.set_cons_succ]))
            refine wpPlan.done ?_
            exact ⟨rfl, N16, N13, ao2, cap2, rfl, Z17.out, F10_17.out, I17.out⟩
          · skip
            refine wpPlan.runs fun K' hK => ?_
            go_simp
            have sx := (Step.refl None w14x).alloc (.cells #[.int .i64 0, .int .u8 0, .int .u8 0, .int .u8 0, .int .u8 0, .int .u8 0, .int .u8 0, .int .i64 0, .int .i64 0, .int .u8 0, .int .u8 0, .int .u8 0, .int .u8 0, .int .u8 0, .int .u8 0, .int .i64 0, .int .i64 0] 27)
            have bx := heap_alloc_new w14x (.cells #[.int .i64 0, .int .u8 0, .int .u8 0, .int .u8 0, .int .u8 0, .int .u8 0, .int .u8 0, .int .i64 0, .int .i64 0, .int .u8 0, .int .u8 0, .int .u8 0, .int .u8 0, .int .u8 0, .int .u8 0, .int .i64 0, .int .i64 0] 27)
            have F4_13_14_18 := Lib.hid (sx.blk F4_13_14.out (fun s => s.elim))
            have Z18 := Lib.hid (Z14.out.then_ sx)
            have F10_18 := Lib.hid bx
            have G18 := Z14.out.size
            refine hK.out _ _ ⟨Z18.out, K.out _ Z18.out⟩ ?_
            clear hK K' sx bx
            generalize w14x.heap.size = N18 at *
            generalize hw18 : w14x.alloc (.cells #[.int .i64 0, .int .u8 0, .int .u8 0, .int .u8 0, .int .u8 0, .int .u8 0, .int .u8 0, .int .i64 0, .int .i64 0, .int .u8 0, .int .u8 0, .int .u8 0, .int .u8 0, .int .u8 0, .int .u8 0, .int .i64 0, .int .i64 0] 27) = w18x at *
            clear hw18
            refine wpPlan.runs fun K' hK => ?_
            go_simp
            refine (select_any (idN 2) (some ⟨N13, 0, none⟩) 2 twoH w18x (idN_small (by omega)) (fun x hx => by simp [twoH] at hx; rcases hx with rfl | rfl <;> decide) (by decide) (two_hears F4_13_14_18.out)).mono ?_
            rintro e w19x ⟨sx, ao2, cap2, rfl, ix⟩
            rw [RR.out] at ix ⊢
            rw [RF.out, RB.out]
            have Z19 := Lib.hid (Z18.out.then_ sx)
            have F4_13_14_18_19 := Lib.hid (sx.blk F4_13_14_18.out (fun s => s.elim))
            have F10_18_19 := Lib.hid (sx.blk F10_18.out (fun s => s.elim))
            have I19 := Lib.hid ix
            refine hK.out _ _ ⟨Z19.out, K.out _ Z19.out⟩ ?_
            clear hK K' sx ix
            unfold idN Vec.cells
            dsimp only
            repeat (first | (refine wpPlan.taken (by rfl) (fun w' hS' => run_load_op rfl rfl hS'.2) ?_; simp only [Act.put, List.setIfInBounds_toArray, List.set_cons_zero, List.set_cons_succ]) | (refine wpPlan.taken (by rfl) (by intro w' hS'; (try dsimp only at hS'); go_split_ands; go_simp; try with_reducible rfl) ?_; simp only [Act.put, List.setIfInBounds_toArray, List.set_cons_zero, List.set_cons_succ]) | (refine wpPlan.passed (by rfl) ?_; simp only [Act.put, List.setIfInBounds_toArray, List.set_cons_zero, List.set_cons_succ]))
            refine wpPlan.runs fun K' hK => ?_
            have Z20 := Lib.hid (step_setRow Z19.out (fun h => absurd h (Nat.not_lt.2 G18)) (⟨idN 1, 5, idN 1, 4, 1⟩ : Vec).cells)
            have F10_20 := Lib.hid (setRow_heap w19x N18 _ (⟨idN 1, 5, idN 1, 4, 1⟩ : Vec).cells _ _ F10_18_19.out)
            have I20 := Lib.hid (Ints.row I19.out F10_18_19.out (by decide) (⟨idN 1, 5, idN 1, 4, 1⟩ : Vec).cells)
            rw [if_pos (by rfl)]
            refine wp_store_row 27 (.tmp 2) (.tmp 15) rfl N18 (⟨idN 1, 5, idN 1, 4, 1⟩ : Vec).cells rfl rfl 27 _ F10_18_19.out (by kernel_rfl) rfl (by simp [Vec.cells, Value.oneCell']) (hK.out _ _ ⟨Z20.out, K.out _ Z20.out⟩ ?_)
            clear hK K'
            repeat (first | (refine wpPlan.taken (by rfl) (fun w' hS' => run_load_op rfl rfl hS'.2) ?_; simp only [Act.put, List.setIfInBounds_toArray, List.set_cons_zero, List.set_cons_succ]) | (refine wpPlan.taken (by rfl) (by intro w' hS'; (try dsimp only at hS'); go_split_ands; go_simp; try with_reducible rfl) ?_; simp only [Act.put, List.setIfInBounds_toArray, List.set_cons_zero, List.set_cons_succ]) | (refine wpPlan.passed (by rfl) ?_; simp only [Act.put, List.setIfInBounds_toArray, List.set_cons_zero, List.set_cons_succ]))
            refine wpPlan.done ?_
            exact ⟨rfl, N18, N13, ao2, cap2, rfl, Z20.out, F10_20.out, I20.out⟩
        · skip
          refine wpPlan.runs fun K' hK => ?_
          go_simp
          have sx := (Step.refl None w13x).alloc (.cells #[.int .i64 0, .int .u8 0, .int .u8 0, .int .u8 0, .int .u8 0, .int .u8 0, .int .u8 0, .int .i64 0, .int .i64 0, .int .u8 0, .int .u8 0, .int .u8 0, .int .u8 0, .int .u8 0, .int .u8 0, .int .i64 0, .int .i64 0] 27)
          have bx := heap_alloc_new w13x (.cells #[.int .i64 0, .int .u8 0, .int .u8 0, .int .u8 0, .int .u8 0, .int .u8 0, .int .u8 0, .int .i64 0, .int .i64 0, .int .u8 0, .int .u8 0, .int .u8 0, .int .u8 0, .int .u8 0, .int .u8 0, .int .i64 0, .int .i64 0] 27)
          have F4_13_21 := Lib.hid (sx.blk F4_13.out (fun s => s.elim))
          have Z21 := Lib.hid (Z13.out.then_ sx)
          have F10_21 := Lib.hid bx
          have G21 := Z13.out.size
          refine hK.out _ _ ⟨Z21.out, K.out _ Z21.out⟩ ?_
          clear hK K' sx bx
          generalize w13x.heap.size = N21 at *
          generalize hw21 : w13x.alloc (.cells #[.int .i64 0, .int .u8 0, .int .u8 0, .int .u8 0, .int .u8 0, .int .u8 0, .int .u8 0, .int .i64 0, .int .i64 0, .int .u8 0, .int .u8 0, .int .u8 0, .int .u8 0, .int .u8 0, .int .u8 0, .int .i64 0, .int .i64 0] 27) = w21x at *
          clear hw21
          refine wpPlan.runs fun K' hK => ?_
          go_simp
          refine (id_is 2 _ (by omega)).mono ?_
          rintro e w22x ⟨rfl, sx⟩
          have Z22 := Lib.hid (Z21.out.then_ sx)
          have F4_13_21_22 := Lib.hid (sx.blk F4_13_21.out (fun s => s.elim))
          have F10_21_22 := Lib.hid (sx.blk F10_21.out (fun s => s.elim))
          refine hK.out _ _ ⟨Z22.out, K.out _ Z22.out⟩ ?_
          clear hK K' sx
          unfold idN Idn.cells
          dsimp only
          refine wpPlan.runs fun K' hK => ?_
          go_simp
          refine (select_any (idN 2) (some ⟨N13, 0, none⟩) 2 twoH w22x (idN_small (by omega)) (fun x hx => by simp [twoH] at hx; rcases hx with rfl | rfl <;> decide) (by decide) (two_hears F4_13_21_22.out)).mono ?_
          rintro e w23x ⟨sx, ao2, cap2, rfl, ix⟩
          rw [RR.out] at ix ⊢
          rw [RF.out, RB.out]
          have Z23 := Lib.hid (Z22.out.then_ sx)
          have F4_13_21_22_23 := Lib.hid (sx.blk F4_13_21_22.out (fun s => s.elim))
          have F10_21_22_23 := Lib.hid (sx.blk F10_21_22.out (fun s => s.elim))
          have I23 := Lib.hid ix
          refine hK.out _ _ ⟨Z23.out, K.out _ Z23.out⟩ ?_
          clear hK K' sx ix
          unfold idN Vec.cells
          dsimp only
          repeat (first | (refine wpPlan.taken (by rfl) (fun w' hS' => run_load_op rfl rfl hS'.2) ?_; simp only [Act.put, List.setIfInBounds_toArray, List.set_cons_zero, List.set_cons_succ]) | (refine wpPlan.taken (by rfl) (by intro w' hS'; (try dsimp only at hS'); go_split_ands; go_simp; try with_reducible rfl) ?_; simp only [Act.put, List.setIfInBounds_toArray, List.set_cons_zero, List.set_cons_succ]) | (refine wpPlan.passed (by rfl) ?_; simp only [Act.put, List.setIfInBounds_toArray, List.set_cons_zero, List.set_cons_succ]))
          refine wpPlan.runs fun K' hK => ?_
          have Z24 := Lib.hid (step_setRow Z23.out (fun h => absurd h (Nat.not_lt.2 G21)) (⟨idN 1, 5, idN 1, 4, 1⟩ : Vec).cells)
          have F10_24 := Lib.hid (setRow_heap w23x N21 _ (⟨idN 1, 5, idN 1, 4, 1⟩ : Vec).cells _ _ F10_21_22_23.out)
          have I24 := Lib.hid (Ints.row I23.out F10_21_22_23.out (by decide) (⟨idN 1, 5, idN 1, 4, 1⟩ : Vec).cells)
          rw [if_pos (by rfl)]
          refine wp_store_row 27 (.tmp 2) (.tmp 15) rfl N21 (⟨idN 1, 5, idN 1, 4, 1⟩ : Vec).cells rfl rfl 27 _ F10_21_22_23.out (by kernel_rfl) rfl (by simp [Vec.cells, Value.oneCell']) (hK.out _ _ ⟨Z24.out, K.out _ Z24.out⟩ ?_)
          clear hK K'
          repeat (first | (refine wpPlan.taken (by rfl) (fun w' hS' => run_load_op rfl rfl hS'.2) ?_; simp only [Act.put, List.setIfInBounds_toArray, List.set_cons_zero, List.set_cons_succ]) | (refine wpPlan.taken (by rfl) (by intro w' hS'; (try dsimp only at hS'); go_split_ands; go_simp; try with_reducible rfl) ?_; simp only [Act.put, List.setIfInBounds_toArray, List.set_cons_zero, List.set_cons_succ]) | (refine wpPlan.passed (by rfl) ?_; simp only [Act.put, List.setIfInBounds_toArray, List.set_cons_zero, List.set_cons_succ]))
          refine wpPlan.done ?_
          exact ⟨rfl, N21, N13, ao2, cap2, rfl, Z24.out, F10_24.out, I24.out⟩
      · skip
        refine wpPlan.runs fun K' hK => ?_
        go_simp
        have sx := (Step.refl None w3).alloc (.cells #[.int .i64 0, .int .u8 0, .int .u8 0, .int .u8 0, .int .u8 0, .int .u8 0, .int .u8 0, .int .i64 0, .int .i64 0, .int .u8 0, .int .u8 0, .int .u8 0, .int .u8 0, .int .u8 0, .int .u8 0, .int .i64 0, .int .i64 0] 27)
        have bx := heap_alloc_new w3 (.cells #[.int .i64 0, .int .u8 0, .int .u8 0, .int .u8 0, .int .u8 0, .int .u8 0, .int .u8 0, .int .i64 0, .int .i64 0, .int .u8 0, .int .u8 0, .int .u8 0, .int .u8 0, .int .u8 0, .int .u8 0, .int .i64 0, .int .i64 0] 27)
        have Z25 := Lib.hid (Z0.out.then_ sx)
        have F10_25 := Lib.hid bx
        have G25 := Z0.out.size
        refine hK.out _ _ ⟨Z25.out, K.out _ Z25.out⟩ ?_
        clear hK K' sx bx
        generalize w3.heap.size = N25 at *
        generalize hw25 : w3.alloc (.cells #[.int .i64 0, .int .u8 0, .int .u8 0, .int .u8 0, .int .u8 0, .int .u8 0, .int .u8 0, .int .i64 0, .int .i64 0, .int .u8 0, .int .u8 0, .int .u8 0, .int .u8 0, .int .u8 0, .int .u8 0, .int .i64 0, .int .i64 0] 27) = w25x at *
        clear hw25
        refine wpPlan.parts ?_ ?_
        · refine wpPlan.runs fun K' hK => ?_
          go_simp
          refine (id_is 2 _ (by omega)).mono ?_
          rintro e w26x ⟨rfl, sx⟩
          have Z26 := Lib.hid (Z25.out.then_ sx)
          have F10_25_26 := Lib.hid (sx.blk F10_25.out (fun s => s.elim))
          refine hK.out _ _ ⟨Z26.out, K.out _ Z26.out⟩ ?_
          clear hK K' sx
          unfold idN Idn.cells
          dsimp only
          refine wpPlan.runs fun K' hK => ?_
          go_simp
          have sx := (Step.refl None w26x).alloc (.cells #[.int .i64 1, .int .i64 5, .bool true, .bool true, .int .i64 32768, .int .u8 2, .int .u8 0, .int .u8 0, .int .u8 0, .int .u8 0, .int .u8 1, .int .i64 0, .int .i64 32768, .int .u8 2, .int .u8 0, .int .u8 0, .int .u8 0, .int .u8 0, .int .u8 1, .int .i64 4, .int .i64 0, .int .i64 2, .int .i64 5, .bool true, .bool false, .int .i64 0, .int .u8 0, .int .u8 0, .int .u8 0, .int .u8 0, .int .u8 0, .int .u8 0, .int .i64 0, .int .i64 0, .int .u8 0, .int .u8 0, .int .u8 0, .int .u8 0, .int .u8 0, .int .u8 0, .int .i64 0, .int .i64 0] 52)
          have bx := heap_alloc_new w26x (.cells #[.int .i64 1, .int .i64 5, .bool true, .bool true, .int .i64 32768, .int .u8 2, .int .u8 0, .int .u8 0, .int .u8 0, .int .u8 0, .int .u8 1, .int .i64 0, .int .i64 32768, .int .u8 2, .int .u8 0, .int .u8 0, .int .u8 0, .int .u8 0, .int .u8 1, .int .i64 4, .int .i64 0, .int .i64 2, .int .i64 5, .bool true, .bool false, .int .i64 0, .int .u8 0, .int .u8 0, .int .u8 0, .int .u8 0, .int .u8 0, .int .u8 0, .int .i64 0, .int .i64 0, .int .u8 0, .int .u8 0, .int .u8 0, .int .u8 0, .int .u8 0, .int .u8 0, .int .i64 0, .int .i64 0] 52)
          have F10_25_26_27 := Lib.hid (sx.blk F10_25_26.out (fun s => s.elim))
          have Z27 := Lib.hid (Z26.out.then_ sx)
          have F4_27 := Lib.hid bx
          have G27 := Z26.out.size
          refine hK.out _ _ ⟨Z27.out, K.out _ Z27.out⟩ ?_
          clear hK K' sx bx
          generalize w26x.heap.size = N27 at *
          generalize hw27 : w26x.alloc (.cells #[.int .i64 1, .int .i64 5, .bool true, .bool true, .int .i64 32768, .int .u8 2, .int .u8 0, .int .u8 0, .int .u8 0, .int .u8 0, .int .u8 1, .int .i64 0, .int .i64 32768, .int .u8 2, .int .u8 0, .int .u8 0, .int .u8 0, .int .u8 0, .int .u8 1, .int .i64 4, .int .i64 0, .int .i64 2, .int .i64 5, .bool true, .bool false, .int .i64 0, .int .u8 0, .int .u8 0, .int .u8 0, .int .u8 0, .int .u8 0, .int .u8 0, .int .i64 0, .int .i64 0, .int .u8 0, .int .u8 0, .int .u8 0, .int .u8 0, .int .u8 0, .int .u8 0, .int .i64 0, .int .i64 0] 52) = w27x at *
          clear hw27
          refine wpPlan.runs fun K' hK => ?_
          go_simp
          refine (select_any (idN 2) (some ⟨N27, 0, none⟩) 2 twoH w27x (idN_small (by omega)) (fun x hx => by simp [twoH] at hx; rcases hx with rfl | rfl <;> decide) (by decide) (two_hears F4_27.out)).mono ?_
          rintro e w28x ⟨sx, ao2, cap2, rfl, ix⟩
          rw [RR.out] at ix ⊢
          rw [RF.out, RB.out]
          have Z28 := Lib.hid (Z27.out.then_ sx)
          have F10_25_26_27_28 := Lib.hid (sx.blk F10_25_26_27.out (fun s => s.elim))
          have F4_27_28 := Lib.hid (sx.blk F4_27.out (fun s => s.elim))
          have I28 := Lib.hid ix
          refine hK.out _ _ ⟨Z28.out, K.out _ Z28.out⟩ ?_
          clear hK K' sx ix
          unfold idN Vec.cells
          dsimp only
          repeat (first | (refine wpPlan.taken (by rfl) (fun w' hS' => run_load_op rfl rfl hS'.2) ?_; simp only [Act.put, List.setIfInBounds_toArray, List.set_cons_zero, List.set_cons_succ]) | (refine wpPlan.taken (by rfl) (by intro w' hS'; (try dsimp only at hS'); go_split_ands; go_simp; try with_reducible rfl) ?_; simp only [Act.put, List.setIfInBounds_toArray, List.set_cons_zero, List.set_cons_succ]) | (refine wpPlan.passed (by rfl) ?_; simp only [Act.put, List.setIfInBounds_toArray, List.set_cons_zero, List.set_cons_succ]))
          refine wpPlan.runs fun K' hK => ?_
          have Z29 := Lib.hid (step_setRow Z28.out (fun h => absurd h (Nat.not_lt.2 G25)) (⟨idN 1, 5, idN 1, 4, 1⟩ : Vec).cells)
          have F10_29 := Lib.hid (setRow_heap w28x N25 _ (⟨idN 1, 5, idN 1, 4, 1⟩ : Vec).cells _ _ F10_25_26_27_28.out)
          have I29 := Lib.hid (Ints.row I28.out F10_25_26_27_28.out (by decide) (⟨idN 1, 5, idN 1, 4, 1⟩ : Vec).cells)
          rw [if_pos (by rfl)]
          refine wp_store_row 27 (.tmp 2) (.tmp 15) rfl N25 (⟨idN 1, 5, idN 1, 4, 1⟩ : Vec).cells rfl rfl 27 _ F10_25_26_27_28.out (by kernel_rfl) rfl (by simp [Vec.cells, Value.oneCell']) (hK.out _ _ ⟨Z29.out, K.out _ Z29.out⟩ ?_)
          clear hK K'
          repeat (first | (refine wpPlan.taken (by rfl) (fun w' hS' => run_load_op rfl rfl hS'.2) ?_; simp only [Act.put, List.setIfInBounds_toArray, List.set_cons_zero, List.set_cons_succ]) | (refine wpPlan.taken (by rfl) (by intro w' hS'; (try dsimp only at hS'); go_split_ands; go_simp; try with_reducible rfl) ?_; simp only [Act.put, List.setIfInBounds_toArray, List.set_cons_zero, List.set_cons_succ]) | (refine wpPlan.passed (by rfl) ?_; simp only [Act.put, List.setIfInBounds_toArray, List.set_cons_zero, List.set_cons_succ]))
          refine wpPlan.done ?_
          exact ⟨rfl, N25, N27, ao2, cap2, rfl, Z29.out, F10_29.out, I29.out⟩
        · skip
          refine wpPlan.runs fun K' hK => ?_
          go_simp
          have sx := (Step.refl None w25x).alloc (.cells #[.int .i64 1, .int .i64 5, .bool true, .bool true, .int .i64 32768, .int .u8 2, .int .u8 0, .int .u8 0, .int .u8 0, .int .u8 0, .int .u8 1, .int .i64 0, .int .i64 32768, .int .u8 2, .int .u8 0, .int .u8 0, .int .u8 0, .int .u8 0, .int .u8 1, .int .i64 4, .int .i64 0, .int .i64 2, .int .i64 5, .bool true, .bool false, .int .i64 0, .int .u8 0, .int .u8 0, .int .u8 0, .int .u8 0, .int .u8 0, .int .u8 0, .int .i64 0, .int .i64 0, .int .u8 0, .int .u8 0, .int .u8 0, .int .u8 0, .int .u8 0, .int .u8 0, .int .i64 0, .int .i64 0] 52)
          have bx := heap_alloc_new w25x (.cells #[.int .i64 1, .int .i64 5, .bool true, .bool true, .int .i64 32768, .int .u8 2, .int .u8 0, .int .u8 0, .int .u8 0, .int .u8 0, .int .u8 1, .int .i64 0, .int .i64 32768, .int .u8 2, .int .u8 0, .int .u8 0, .int .u8 0, .int .u8 0, .int .u8 1, .int .i64 4, .int .i64 0, .int .i64 2, .int .i64 5, .bool true, .bool false, .int .i64 0, .int .u8 0, .int .u8 0, .int .u8 0, .int .u8 0, .int .u8 0, .int .u8 0, .int .i64 0, .int .i64 0, .int .u8 0, .int .u8 0, .int .u8 0, .int .u8 0, .int .u8 0, .int .u8 0, .int .i64 0, .int .i64 0] 52)
          have F10_25_30 := Lib.hid (sx.blk F10_25.out (fun s => s.elim))
          have Z30 := Lib.hid (Z25.out.then_ sx)
          have F4_30 := Lib.hid bx
          have G30 := Z25.out.size
          refine hK.out _ _ ⟨Z30.out, K.out _ Z30.out⟩ ?_
          clear hK K' sx bx
          generalize w25x.heap.size = N30 at *
          generalize hw30 : w25x.alloc (.cells #[.int .i64 1, .int .i64 5, .bool true, .bool true, .int .i64 32768, .int .u8 2, .int .u8 0, .int .u8 0, .int .u8 0, .int .u8 0, .int .u8 1, .int .i64 0, .int .i64 32768, .int .u8 2, .int .u8 0, .int .u8 0, .int .u8 0, .int .u8 0, .int .u8 1, .int .i64 4, .int .i64 0, .int .i64 2, .int .i64 5, .bool true, .bool false, .int .i64 0, .int .u8 0, .int .u8 0, .int .u8 0, .int .u8 0, .int .u8 0, .int .u8 0, .int .i64 0, .int .i64 0, .int .u8 0, .int .u8 0, .int .u8 0, .int .u8 0, .int .u8 0, .int .u8 0, .int .i64 0, .int .i64 0] 52) = w30x at *
          clear hw30
          refine wpPlan.runs fun K' hK => ?_
          go_simp
          refine (id_is 2 _ (by omega)).mono ?_
          rintro e w31x ⟨rfl, sx⟩
          have Z31 := Lib.hid (Z30.out.then_ sx)
          have F10_25_30_31 := Lib.hid (sx.blk F10_25_30.out (fun s => s.elim))
          have F4_30_31 := Lib.hid (sx.blk F4_30.out (fun s => s.elim))
          refine hK.out _ _ ⟨Z31.out, K.out _ Z31.out⟩ ?_
          clear hK K' sx
          unfold idN Idn.cells
          dsimp only
          refine wpPlan.runs fun K' hK => ?_
          go_simp
          refine (select_any (idN 2) (some ⟨N30, 0, none⟩) 2 twoH w31x (idN_small (by omega)) (fun x hx => by simp [twoH] at hx; rcases hx with rfl | rfl <;> decide) (by decide) (two_hears F4_30_31.out)).mono ?_
          rintro e w32x ⟨sx, ao2, cap2, rfl, ix⟩
          rw [RR.out] at ix ⊢
          rw [RF.out, RB.out]
          have Z32 := Lib.hid (Z31.out.then_ sx)
          have F10_25_30_31_32 := Lib.hid (sx.blk F10_25_30_31.out (fun s => s.elim))
          have F4_30_31_32 := Lib.hid (sx.blk F4_30_31.out (fun s => s.elim))
          have I32 := Lib.hid ix
          refine hK.out _ _ ⟨Z32.out, K.out _ Z32.out⟩ ?_
          clear hK K' sx ix
          unfold idN Vec.cells
          dsimp only
          repeat (first | (refine wpPlan.taken (by rfl) (fun w' hS' => run_load_op rfl rfl hS'.2) ?_; simp only [Act.put, List.setIfInBounds_toArray, List.set_cons_zero, List.set_cons_succ]) | (refine wpPlan.taken (by rfl) (by intro w' hS'; (try dsimp only at hS'); go_split_ands; go_simp; try with_reducible rfl) ?_; simp only [Act.put, List.setIfInBounds_toArray, List.set_cons_zero, List.set_cons_succ]) | (refine wpPlan.passed (by rfl) ?_; simp only [Act.put, List.setIfInBounds_toArray, List.set_cons_zero, List.set_cons_succ]))
          refine wpPlan.runs fun K' hK => ?_
          have Z33 := Lib.hid (step_setRow Z32.out (fun h => absurd h (Nat.not_lt.2 G25)) (⟨idN 1, 5, idN 1, 4, 1⟩ : Vec).cells)
          have F10_33 := Lib.hid (setRow_heap w32x N25 _ (⟨idN 1, 5, idN 1, 4, 1⟩ : Vec).cells _ _ F10_25_30_31_32.out)
          have I33 := Lib.hid (Ints.row I32.out F10_25_30_31_32.out (by decide) (⟨idN 1, 5, idN 1, 4, 1⟩ : Vec).cells)
          rw [if_pos (by rfl)]
          refine wp_store_row 27 (.tmp 2) (.tmp 15) rfl N25 (⟨idN 1, 5, idN 1, 4, 1⟩ : Vec).cells rfl rfl 27 _ F10_25_30_31_32.out (by kernel_rfl) rfl (by simp [Vec.cells, Value.oneCell']) (hK.out _ _ ⟨Z33.out, K.out _ Z33.out⟩ ?_)
          clear hK K'
          repeat (first | (refine wpPlan.taken (by rfl) (fun w' hS' => run_load_op rfl rfl hS'.2) ?_; simp only [Act.put, List.setIfInBounds_toArray, List.set_cons_zero, List.set_cons_succ]) | (refine wpPlan.taken (by rfl) (by intro w' hS'; (try dsimp only at hS'); go_split_ands; go_simp; try with_reducible rfl) ?_; simp only [Act.put, List.setIfInBounds_toArray, List.set_cons_zero, List.set_cons_succ]) | (refine wpPlan.passed (by rfl) ?_; simp only [Act.put, List.setIfInBounds_toArray, List.set_cons_zero, List.set_cons_succ]))
          refine wpPlan.done ?_
          exact ⟨rfl, N25, N30, ao2, cap2, rfl, Z33.out, F10_33.out, I33.out⟩

  intro N _ ao2 cap2 w4 ⟨s4, b4, i4⟩
  obtain ⟨q0, o0, rfl, j0⟩ := i4.cell (j := 0) rfl
  obtain ⟨q1, o1, e1, j1⟩ := i4.cell (j := 1) rfl
  cases e1
  have c7 := blk_cell b4 7
  simp only [Vec.cells, List.getElem?_toArray, List.getElem?_cons_zero, List.getElem?_cons_succ] at c7
  have lb := load_rootOf b4
  unfold idN Idn.cells at lb
  dsimp only at lb
  have he := eq_idn (idN 1) (idN 1)
  rw [show ((idN 1).flat == (idN 1).flat) = true by simp] at he
  unfold idN Idn.cells at he
  dsimp only at he
  have Z4 := Lib.hid (Z.out.then_ s4)
  have B4 := Lib.hid b4
  have K4 : Hid (∀ w', Step None w4 w' → (Instr.loadAt 25 (.pointer (some ⟨N, 0, none⟩))).run Try.prog w' = .ok (.agg #[.int .i64 32768, .int .u8 2, .int .u8 0, .int .u8 0, .int .u8 0, .int .u8 0, .int .u8 1]) w' ∧ w'.cell? ⟨N, 7, none⟩ = some (.int .i64 5) ∧ w'.cell? ⟨q0, o0 + 0, none⟩ = some (.int .i64 1) ∧ w'.cell? ⟨q0, o0 + 1, none⟩ = some (.int .i64 2)) := Lib.hid fun w' h' =>
    ⟨by have := load_rootOf (h'.blk B4.out (fun s => s.elim)); unfold idN Idn.cells at this; exact this, (h'.cell (p := ⟨N, 7, none⟩) (World.block_lt_of_cell? _ _ c7) (fun s => s.elim)).trans c7, (h'.cell (p := ⟨q0, o0 + 0, none⟩) (World.block_lt_of_cell? _ _ j0) (fun s => s.elim)).trans j0, (h'.cell (p := ⟨q0, o0 + 1, none⟩) (World.block_lt_of_cell? _ _ j1) (fun s => s.elim)).trans j1⟩
  clear s4 b4 i4 j0 j1 c7 lb Z B K RF RB RR
  rw [Nat.add_zero] at K4
  go_wp2_with fail
  refine wp_region_plan (fun w' => (Instr.loadAt 25 (.pointer (some ⟨N, 0, none⟩))).run Try.prog w' = .ok (.agg #[.int .i64 32768, .int .u8 2, .int .u8 0, .int .u8 0, .int .u8 0, .int .u8 0, .int .u8 1]) w' ∧ w'.cell? ⟨N, 7, none⟩ = some (.int .i64 5) ∧ w'.cell? ⟨q0, o0, none⟩ = some (.int .i64 1) ∧ w'.cell? ⟨q0, o0 + 1, none⟩ = some (.int .i64 2)) (.take 0 (.take 1 (.take 2 (.take 3 (.take 4 (.alt 5 (.take 6 (.take 7 (.take 8 (.take 9 (.take 10 (.take 11 (.take 12 (.take 13 (.take 14 (.take 15 (.take 16 (.take 17 (.take 18 (.take 19 (.take 20 (.take 21 (.take 22 (.take 23 (.take 24 (.take 25 (.take 26 (.take 27 (.take 28 (.take 29 (.take 30 .done))))))))))))))))))))))))) .none)))))) _
    (by simp only [Plan.map, opOf, List.getElem?_toArray, List.getElem?_cons_zero, List.getElem?_cons_succ, Option.getD_some]; rfl) (by kernel_rfl) (by kernel_rfl) (by kernel_rfl) (by decide) (by intro c a d v w; cases d <;> exact fun h => h) (K4.out _ (Step.refl None w4).drew) ?_
  repeat (first | (refine wpPlan.taken (by rfl) (fun w' hS' => run_load_op rfl rfl hS'.1) ?_; simp only [Act.put, List.setIfInBounds_toArray, List.set_cons_zero, List.set_cons_succ]) | (refine wpPlan.taken (by rfl) (by intro w' hS'; (try dsimp only at hS'); go_split_ands; go_simp; try with_reducible rfl) ?_; simp only [Act.put, List.setIfInBounds_toArray, List.set_cons_zero, List.set_cons_succ]) | (refine wpPlan.passed (by rfl) ?_; simp only [Act.put, List.setIfInBounds_toArray, List.set_cons_zero, List.set_cons_succ]))
  refine wpPlan.runs fun K' hK => ?_
  go_simp
  refine (id_is 1 _ (by omega)).mono ?_
  rintro e w5 ⟨rfl, s5⟩
  have Z5 := Lib.hid ((Step.refl None w4).drew.then_ s5)
  refine hK.out _ _ (K4.out _ Z5.out) ?_
  clear hK K' s5
  unfold idN Idn.cells
  dsimp only
  repeat (first | (refine wpPlan.taken (by rfl) (fun w' hS' => run_load_op rfl rfl hS'.1) ?_; simp only [Act.put, List.setIfInBounds_toArray, List.set_cons_zero, List.set_cons_succ]) | (refine wpPlan.taken (by rfl) (by intro w' hS'; (try dsimp only at hS'); go_split_ands; go_simp; try with_reducible rfl) ?_; simp only [Act.put, List.setIfInBounds_toArray, List.set_cons_zero, List.set_cons_succ]) | (refine wpPlan.passed (by rfl) ?_; simp only [Act.put, List.setIfInBounds_toArray, List.set_cons_zero, List.set_cons_succ]))
  refine wpPlan.done ?_
  go_wp2_with fail
  go_ret
  exact ⟨rfl, Z4.out.then_ Z5.out⟩
end Go.Proofs.Ytehlaomippbehaa
