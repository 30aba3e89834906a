/- RolesBackup, walked. -/
import Derived.Test.YtehlaomippbehaaRA
namespace Go.Proofs.Ytehlaomippbehaa
open Go.RowKit Go.Gm

theorem arg_two {w : World} {v : Value} (h : Arg w (.arr 2 1 (.int .i64)) v) : ∃ a b, v = .agg #[.int .i64 a, .int .i64 b] ∧ (Lit.int .i64 a).wf = true ∧ (Lit.int .i64 b).wf = true := by
  obtain ⟨⟨l⟩, rfl, hf⟩ := h.agg rfl
  obtain ⟨xs, hx, hl, hw⟩ := hf.intArr
  match xs, hl with
  | [a, b], _ => exact ⟨a, b, by rw [show l = [.int .i64 a, .int .i64 b] from hx], hw a (by simp), hw b (by simp)⟩

/-- What stands in the variables of RolesBackup. -/
structure Bk (w0 w : World) (M C P D : Nat) (me : Idn) (c0 c1 p0 p1 : Int) : Prop where
  m : w.heap[M]? = some (.cells me.cells 25 (0, 0))
  c : w.heap[C]? = some (.cells #[.int .i64 c0, .int .i64 c1] 55 (0, 0))
  p : w.heap[P]? = some (.cells #[.int .i64 p0, .int .i64 p1] 55 (0, 0))
  d : w.heap[D]? = some (.cells (meV me).cells 27 (0, 0))
  st : Step None w0 w
theorem Bk.still {w0 w w' : World} {M C P D : Nat} {me : Idn} {c0 c1 p0 p1 : Int} (h : Bk w0 w M C P D me c0 c1 p0 p1) (hs : Step None w w') : Bk w0 w' M C P D me c0 c1 p0 p1 :=
  ⟨hs.blk h.m (fun s => s.elim), hs.blk h.c (fun s => s.elim), hs.blk h.p (fun s => s.elim), hs.blk h.d (fun s => s.elim), h.st.then_ hs⟩
theorem Bk.app {w0 w w' : World} {M C P D : Nat} {me : Idn} {c0 c1 p0 p1 : Int} {v : Value} {l : List Hrd} (h : Bk w0 w M C P D me c0 c1 p0 p1) (hl : Lst w0 w v l) (hs : Step (Leads v) w w') : Bk w0 w' M C P D me c0 c1 p0 p1 :=
  ⟨hl.blk hs h.m (by decide), hl.blk hs h.c (by decide), hl.blk hs h.p (by decide), hl.blk hs h.d (by decide), hl.st.trans hs fun i hi hk => by have := hl.new i hk; omega⟩
theorem Bk.loads {w0 w : World} {M C P D : Nat} {me : Idn} {c0 c1 p0 p1 : Int} (h : Bk w0 w M C P D me c0 c1 p0 p1) : (fun w' => (Instr.loadAt 25 (.pointer (some ⟨M, 0, none⟩))).run Try.prog w' = .ok (.agg #[.int .i64 me.p, .int .u8 me.m0, .int .u8 me.m1, .int .u8 me.m2, .int .u8 me.m3, .int .u8 me.m4, .int .u8 me.m5]) w' ∧ (Instr.loadAt 27 (.pointer (some ⟨D, 0, none⟩))).run Try.prog w' = .ok (.agg (meV me).cells) w' ∧ w'.cell? ⟨C, 0, none⟩ = some (.int .i64 c0) ∧ w'.cell? ⟨C, 1, none⟩ = some (.int .i64 c1) ∧ w'.cell? ⟨P, 0, none⟩ = some (.int .i64 p0) ∧ w'.cell? ⟨P, 1, none⟩ = some (.int .i64 p1)) w := by
  have lm := load_idn h.m
  unfold Idn.cells at lm
  exact ⟨lm, load_block h.d rfl, by rw [blk_cell h.c]; rfl, by rw [blk_cell h.c]; rfl, by rw [blk_cell h.p]; rfl, by rw [blk_cell h.p]; rfl⟩

set_option maxRecDepth 100000 in
set_option maxHeartbeats 8000000 in
theorem rolesBackup_walk (v0 v1 v2 : Value) (w : World) (h0 : Arg w (.cat 1 (.int .i64) (.cat 6 (.arr 6 1 (.int .u8)) .nil)) v0) (h1 : Arg w (.arr 2 1 (.int .i64)) v1) (h2 : Arg w (.arr 2 1 (.int .i64)) v2) :
    Calls Try.prog 15 #[v0, v1, v2] w fun e w' => e = .returned (.bool true) ∧ Below w.heap.size w w' := by
  obtain ⟨me, rfl, hme⟩ := arg_idn h0
  obtain ⟨c0, c1, rfl, -, -⟩ := arg_two h1
  obtain ⟨p0, p1, rfl, q0, q1⟩ := arg_two h2
  clear h0 h1 h2
  have b1 := heap_alloc_new w (.cells me.cells 25)
  have b2 := heap_alloc_new (w.alloc (.cells me.cells 25)) (.cells #[.int .i64 c0, .int .i64 c1] 55)
  have b3 := heap_alloc_new ((w.alloc (.cells me.cells 25)).alloc (.cells #[.int .i64 c0, .int .i64 c1] 55)) (.cells #[.int .i64 p0, .int .i64 p1] 55)
  have s1 := (((Step.refl None w).alloc (.cells me.cells 25)).alloc (.cells #[.int .i64 c0, .int .i64 c1] 55)).alloc (.cells #[.int .i64 p0, .int .i64 p1] 55)
  have b2 := ((Step.refl None _).alloc (.cells #[.int .i64 p0, .int .i64 p1] 55)).blk b2 (fun s => s.elim)
  have b1 := (((Step.refl None _).alloc (.cells #[.int .i64 c0, .int .i64 c1] 55)).alloc (.cells #[.int .i64 p0, .int .i64 p1] 55)).blk b1 (fun s => s.elim)
  simp only [World.size_alloc] at b2 b3
  obtain ⟨W, hW⟩ : ∃ W, ((w.alloc (.cells me.cells 25)).alloc (.cells #[.int .i64 c0, .int .i64 c1] 55)).alloc (.cells #[.int .i64 p0, .int .i64 p1] 55) = W := ⟨_, rfl⟩
  rw [hW] at b1 b2 b3 s1
  have HE := Lib.hid hW
  have B1 := Lib.hid b1
  have B2 := Lib.hid b2
  have B3 := Lib.hid b3
  have S1 := Lib.hid s1
  have F := Lib.hid (And.intro hme (And.intro q0 q1))
  clear hW b1 b2 b3 s1 hme q0 q1
  go_enter Try.func15, Try.ntmps15
  go_wp2_with (first
    | rw [HE.out])
  refine (rawake_any _).mono ?_
  rintro e w2 ⟨rfl, s2⟩
  have hn := laid_new w2 zeroV (meV me).cells 27
  unfold zeroV at hn
  obtain ⟨W3, hW3⟩ : ∃ W3, (w2.alloc (.cells #[.int .i64 0, .int .u8 0, .int .u8 0, .int .u8 0, .int .u8 0, .int .u8 0, .int .u8 0, .int .i64 0, .int .i64 0, .int .u8 0, .int .u8 0, .int .u8 0, .int .u8 0, .int .u8 0, .int .u8 0, .int .i64 0, .int .i64 0] 27)).setRow w2.heap.size (meV me).cells = W3 := ⟨_, rfl⟩
  rw [hW3] at hn
  have HE3 := Lib.hid hW3
  have BK := Lib.hid (Bk.mk (w0 := w) (w := W3) (M := w.heap.size) (C := w.heap.size + 1) (P := w.heap.size + 1 + 1) (D := w2.heap.size) (me := me) (hn.2.blk (s2.blk B1.out (fun s => s.elim)) (fun s => s.elim)) (hn.2.blk (s2.blk B2.out (fun s => s.elim)) (fun s => s.elim)) (hn.2.blk (s2.blk B3.out (fun s => s.elim)) (fun s => s.elim)) hn.1 ((S1.out.then_ s2).then_ hn.2))
  have lm := load_idn (s2.blk B1.out (fun s => s.elim))
  unfold Idn.cells at lm
  have LM := Lib.hid lm
  clear hW3 hn lm s2 B1 B2 B3 S1 HE
  go_wp2_with (first
    | (refine wpList_load_is 25 (.tmp 3) rfl rfl rfl LM.out ?_)
    | (refine wpList_store_row rfl 27 (.tmp 8) (.tmp 19) rfl w2.heap.size (meV me).cells rfl rfl 27 _ (heap_alloc_new w2 _) (by kernel_rfl) rfl (by simp [meV, Vec.cells, Value.oneCell']) ?_; rw [HE3.out]))
  generalize w2.heap.size = D at *
  clear HE3 LM
  generalize hM : w.heap.size = M at *
  clear hM
  have LS0 := Lib.hid (Lst.nil w W3 BK.out.st)
  go_loopw [9, 10] (fun v i wr => ∃ (k : Int) (W : World), W = wr ∧ (k = 0 ∨ k = 1 ∨ k = 2) ∧ i = .int .i64 k ∧ Hid (Bk w wr M (M + 1) (M + 1 + 1) D me c0 c1 p0 p1) ∧ Hid (Lst w wr v ((pairOf me c0 c1 p0 p1).take k.toNat))) (fun _ i _ => 2 - (intOf i).toNat)
  case atStart => exact ⟨0, _, rfl, .inl rfl, rfl, BK, LS0⟩
  case round =>
    obtain ⟨k, wr, rfl, hk, rfl, bk, ls⟩ := hrel
    obtain ⟨ao, cap, ev, hh⟩ := ls.out.form
    subst ev
    clear LS0 BK
    rcases hk with rfl | rfl | rfl
    · have LE := Lib.hid (show (pairOf me c0 c1 p0 p1).take (1 : Int).toNat = (pairOf me c0 c1 p0 p1).take (0 : Int).toNat ++ [(⟨p0, c0, true, true, offerV me (meV me) p1⟩ : Hrd)] from rfl)
      go_wp2_with fail
      refine wp_region_plan (fun w' => (Instr.loadAt 25 (.pointer (some ⟨M, 0, none⟩))).run Try.prog w' = .ok (.agg #[.int .i64 me.p, .int .u8 me.m0, .int .u8 me.m1, .int .u8 me.m2, .int .u8 me.m3, .int .u8 me.m4, .int .u8 me.m5]) w' ∧ (Instr.loadAt 27 (.pointer (some ⟨D, 0, none⟩))).run Try.prog w' = .ok (.agg (meV me).cells) w' ∧ w'.cell? ⟨M + 1, 0, none⟩ = some (.int .i64 c0) ∧ w'.cell? ⟨M + 1, 1, none⟩ = some (.int .i64 c1) ∧ w'.cell? ⟨M + 1 + 1, 0, none⟩ = some (.int .i64 p0) ∧ w'.cell? ⟨M + 1 + 1, 1, none⟩ = some (.int .i64 p1)) (.take 0 (.take 1 (.take 2 (.take 3 (.take 4 (.take 5 (.take 6 (.take 7 (.take 8 (.take 9 (.take 10 (.take 11 (.take 12 (.alt 13 (.take 14 (.alt 15 (.alt 16 (.take 17 .done) .none) .none)) .none)))))))))))))) _
        (by simp only [Plan.map, opOf, List.getElem?_toArray, List.getElem?_cons_zero, List.getElem?_cons_succ, Option.getD_some]; rfl) (by kernel_rfl) (by kernel_rfl) (by kernel_rfl) (by decide) (by intro c a d v w; cases d <;> exact fun h => h) (bk.out.still (Step.refl None wr).drew).loads ?_
      iterate 10 (first | (refine wpPlan.taken (by rfl) (fun w' hS' => run_load_op rfl rfl hS'.1) ?_; simp only [Act.put, List.setIfInBounds_toArray, List.set_cons_zero, List.set_cons_succ]) | (refine wpPlan.taken (by rfl) (fun w' hS' => run_load_op rfl rfl hS'.2.1) ?_; simp only [Act.put, List.setIfInBounds_toArray, List.set_cons_zero, List.set_cons_succ]) | (refine wpPlan.taken (by rfl) (by intro w' hS'; (try dsimp only at hS'); go_split_ands; go_simp; try with_reducible rfl) ?_; simp only [Act.put, List.setIfInBounds_toArray, List.set_cons_zero, List.set_cons_succ]))
      refine wpPlan.taken (v := .int .i64 1) (by rfl) (by intro w' hS'; go_simp; rfl) ?_
      simp only [Act.put, List.setIfInBounds_toArray, List.set_cons_zero, List.set_cons_succ]
      repeat (first | (refine wpPlan.taken (by rfl) (fun w' hS' => run_load_op rfl rfl hS'.1) ?_; simp only [Act.put, List.setIfInBounds_toArray, List.set_cons_zero, List.set_cons_succ]) | (refine wpPlan.taken (by rfl) (fun w' hS' => run_load_op rfl rfl hS'.2.1) ?_; simp only [Act.put, List.setIfInBounds_toArray, List.set_cons_zero, List.set_cons_succ]) | (refine wpPlan.taken (by rfl) (by intro w' hS'; (try dsimp only at hS'); go_split_ands; go_simp; try with_reducible rfl) ?_; simp only [Act.put, List.setIfInBounds_toArray, List.set_cons_zero, List.set_cons_succ]) | (refine wpPlan.passed (by rfl) ?_; simp only [Act.put, List.setIfInBounds_toArray, List.set_cons_zero, List.set_cons_succ]))
      have bk1 := Lib.hid (bk.out.still (Step.refl None wr).drew)
      have ls1 := Lib.hid (ls.out.still (Step.refl None wr).drew)
      refine wpPlan.runs fun K' hK => ?_
      go_simp
      refine (offer_any me (meV me) p1 _).mono ?_
      rintro e W4 ⟨rfl, s4⟩
      have bk4 := Lib.hid (bk1.out.still s4)
      have ls4 := Lib.hid (ls1.out.still s4)
      refine hK.out _ _ bk4.out.loads ?_
      clear hK K' s4 bk1 ls1 bk ls
      unfold offerV meV Vec.cells
      dsimp only
      repeat (first | (refine wpPlan.taken (by rfl) (fun w' hS' => run_load_op rfl rfl hS'.1) ?_; simp only [Act.put, List.setIfInBounds_toArray, List.set_cons_zero, List.set_cons_succ]) | (refine wpPlan.taken (by rfl) (fun w' hS' => run_load_op rfl rfl hS'.2.1) ?_; simp only [Act.put, List.setIfInBounds_toArray, List.set_cons_zero, List.set_cons_succ]) | (refine wpPlan.taken (by rfl) (by intro w' hS'; (try dsimp only at hS'); go_split_ands; go_simp; try with_reducible rfl) ?_; simp only [Act.put, List.setIfInBounds_toArray, List.set_cons_zero, List.set_cons_succ]) | (refine wpPlan.passed (by rfl) ?_; simp only [Act.put, List.setIfInBounds_toArray, List.set_cons_zero, List.set_cons_succ]))
      refine wpPlan.runs fun K' hK => ?_
      go_simp
      have sa := (Step.refl None W4).alloc (.cells (⟨p0, c0, true, true, offerV me (meV me) p1⟩ : Hrd).cells 52)
      have ba := Lib.hid (heap_alloc_new W4 (.cells (⟨p0, c0, true, true, offerV me (meV me) p1⟩ : Hrd).cells 52))
      have bk5 := Lib.hid (bk4.out.still sa)
      have ls5 := Lib.hid (ls4.out.still sa)
      refine hK.out _ _ bk5.out.loads ?_
      clear hK K' sa bk4 ls4
      refine wpPlan.runs fun K' hK => ?_
      refine step_append_row (m := 1) T44 (by rfl) (.tmp 24) (.tmp 39) (by rfl) (by rfl) ls5.out.row (by rfl) (src_hrd ba.out) (by simp [maxLen, pairOf]) (by simp [pairOf]) ?_
      intro v6 W6 r6 s6 l6
      have ls6 := Lib.hid (Lst.more (x := (⟨p0, c0, true, true, offerV me (meV me) p1⟩ : Hrd)) ls5.out ⟨F.out.1, F.out.1⟩ (by simpa using r6) s6 l6)
      have bk6 := Lib.hid (bk5.out.app ls5.out s6)
      refine hK.out _ _ bk6.out.loads ?_
      clear hK K' r6 s6 l6 ls5 bk5 ba
      repeat (first | (refine wpPlan.taken (by rfl) (fun w' hS' => run_load_op rfl rfl hS'.1) ?_; simp only [Act.put, List.setIfInBounds_toArray, List.set_cons_zero, List.set_cons_succ]) | (refine wpPlan.taken (by rfl) (fun w' hS' => run_load_op rfl rfl hS'.2.1) ?_; simp only [Act.put, List.setIfInBounds_toArray, List.set_cons_zero, List.set_cons_succ]) | (refine wpPlan.taken (by rfl) (by intro w' hS'; (try dsimp only at hS'); go_split_ands; go_simp; try with_reducible rfl) ?_; simp only [Act.put, List.setIfInBounds_toArray, List.set_cons_zero, List.set_cons_succ]) | (refine wpPlan.passed (by rfl) ?_; simp only [Act.put, List.setIfInBounds_toArray, List.set_cons_zero, List.set_cons_succ]))
      refine wpPlan.done ?_
      go_wp2_with fail
      go_roundw
      case rel => exact ⟨1, _, rfl, by decide, rfl, bk6, by rw [LE.out]; exact ls6⟩
      case measure => simp [intOf]
    · have LE := Lib.hid (show (pairOf me c0 c1 p0 p1).take (2 : Int).toNat = (pairOf me c0 c1 p0 p1).take (1 : Int).toNat ++ [(⟨p1, c1, true, true, offerV me (meV me) p0⟩ : Hrd)] from rfl)
      go_wp2_with fail
      refine wp_region_plan (fun w' => (Instr.loadAt 25 (.pointer (some ⟨M, 0, none⟩))).run Try.prog w' = .ok (.agg #[.int .i64 me.p, .int .u8 me.m0, .int .u8 me.m1, .int .u8 me.m2, .int .u8 me.m3, .int .u8 me.m4, .int .u8 me.m5]) w' ∧ (Instr.loadAt 27 (.pointer (some ⟨D, 0, none⟩))).run Try.prog w' = .ok (.agg (meV me).cells) w' ∧ w'.cell? ⟨M + 1, 0, none⟩ = some (.int .i64 c0) ∧ w'.cell? ⟨M + 1, 1, none⟩ = some (.int .i64 c1) ∧ w'.cell? ⟨M + 1 + 1, 0, none⟩ = some (.int .i64 p0) ∧ w'.cell? ⟨M + 1 + 1, 1, none⟩ = some (.int .i64 p1)) (.take 0 (.take 1 (.take 2 (.take 3 (.take 4 (.take 5 (.take 6 (.take 7 (.take 8 (.take 9 (.take 10 (.take 11 (.take 12 (.alt 13 (.take 14 (.alt 15 (.alt 16 (.take 17 .done) .none) .none)) .none)))))))))))))) _
        (by simp only [Plan.map, opOf, List.getElem?_toArray, List.getElem?_cons_zero, List.getElem?_cons_succ, Option.getD_some]; rfl) (by kernel_rfl) (by kernel_rfl) (by kernel_rfl) (by decide) (by intro c a d v w; cases d <;> exact fun h => h) (bk.out.still (Step.refl None wr).drew).loads ?_
      iterate 10 (first | (refine wpPlan.taken (by rfl) (fun w' hS' => run_load_op rfl rfl hS'.1) ?_; simp only [Act.put, List.setIfInBounds_toArray, List.set_cons_zero, List.set_cons_succ]) | (refine wpPlan.taken (by rfl) (fun w' hS' => run_load_op rfl rfl hS'.2.1) ?_; simp only [Act.put, List.setIfInBounds_toArray, List.set_cons_zero, List.set_cons_succ]) | (refine wpPlan.taken (by rfl) (by intro w' hS'; (try dsimp only at hS'); go_split_ands; go_simp; try with_reducible rfl) ?_; simp only [Act.put, List.setIfInBounds_toArray, List.set_cons_zero, List.set_cons_succ]))
      refine wpPlan.taken (v := .int .i64 0) (by rfl) (by intro w' hS'; go_simp; rfl) ?_
      simp only [Act.put, List.setIfInBounds_toArray, List.set_cons_zero, List.set_cons_succ]
      repeat (first | (refine wpPlan.taken (by rfl) (fun w' hS' => run_load_op rfl rfl hS'.1) ?_; simp only [Act.put, List.setIfInBounds_toArray, List.set_cons_zero, List.set_cons_succ]) | (refine wpPlan.taken (by rfl) (fun w' hS' => run_load_op rfl rfl hS'.2.1) ?_; simp only [Act.put, List.setIfInBounds_toArray, List.set_cons_zero, List.set_cons_succ]) | (refine wpPlan.taken (by rfl) (by intro w' hS'; (try dsimp only at hS'); go_split_ands; go_simp; try with_reducible rfl) ?_; simp only [Act.put, List.setIfInBounds_toArray, List.set_cons_zero, List.set_cons_succ]) | (refine wpPlan.passed (by rfl) ?_; simp only [Act.put, List.setIfInBounds_toArray, List.set_cons_zero, List.set_cons_succ]))
      have bk1 := Lib.hid (bk.out.still (Step.refl None wr).drew)
      have ls1 := Lib.hid (ls.out.still (Step.refl None wr).drew)
      refine wpPlan.runs fun K' hK => ?_
      go_simp
      refine (offer_any me (meV me) p0 _).mono ?_
      rintro e W4 ⟨rfl, s4⟩
      have bk4 := Lib.hid (bk1.out.still s4)
      have ls4 := Lib.hid (ls1.out.still s4)
      refine hK.out _ _ bk4.out.loads ?_
      clear hK K' s4 bk1 ls1 bk ls
      unfold offerV meV Vec.cells
      dsimp only
      repeat (first | (refine wpPlan.taken (by rfl) (fun w' hS' => run_load_op rfl rfl hS'.1) ?_; simp only [Act.put, List.setIfInBounds_toArray, List.set_cons_zero, List.set_cons_succ]) | (refine wpPlan.taken (by rfl) (fun w' hS' => run_load_op rfl rfl hS'.2.1) ?_; simp only [Act.put, List.setIfInBounds_toArray, List.set_cons_zero, List.set_cons_succ]) | (refine wpPlan.taken (by rfl) (by intro w' hS'; (try dsimp only at hS'); go_split_ands; go_simp; try with_reducible rfl) ?_; simp only [Act.put, List.setIfInBounds_toArray, List.set_cons_zero, List.set_cons_succ]) | (refine wpPlan.passed (by rfl) ?_; simp only [Act.put, List.setIfInBounds_toArray, List.set_cons_zero, List.set_cons_succ]))
      refine wpPlan.runs fun K' hK => ?_
      go_simp
      have sa := (Step.refl None W4).alloc (.cells (⟨p1, c1, true, true, offerV me (meV me) p0⟩ : Hrd).cells 52)
      have ba := Lib.hid (heap_alloc_new W4 (.cells (⟨p1, c1, true, true, offerV me (meV me) p0⟩ : Hrd).cells 52))
      have bk5 := Lib.hid (bk4.out.still sa)
      have ls5 := Lib.hid (ls4.out.still sa)
      refine hK.out _ _ bk5.out.loads ?_
      clear hK K' sa bk4 ls4
      refine wpPlan.runs fun K' hK => ?_
      refine step_append_row (m := 1) T44 (by rfl) (.tmp 24) (.tmp 39) (by rfl) (by rfl) ls5.out.row (by rfl) (src_hrd ba.out) (by simp [maxLen, pairOf]) (by simp [pairOf]) ?_
      intro v6 W6 r6 s6 l6
      have ls6 := Lib.hid (Lst.more (x := (⟨p1, c1, true, true, offerV me (meV me) p0⟩ : Hrd)) ls5.out ⟨F.out.1, F.out.1⟩ (by simpa using r6) s6 l6)
      have bk6 := Lib.hid (bk5.out.app ls5.out s6)
      refine hK.out _ _ bk6.out.loads ?_
      clear hK K' r6 s6 l6 ls5 bk5 ba
      repeat (first | (refine wpPlan.taken (by rfl) (fun w' hS' => run_load_op rfl rfl hS'.1) ?_; simp only [Act.put, List.setIfInBounds_toArray, List.set_cons_zero, List.set_cons_succ]) | (refine wpPlan.taken (by rfl) (fun w' hS' => run_load_op rfl rfl hS'.2.1) ?_; simp only [Act.put, List.setIfInBounds_toArray, List.set_cons_zero, List.set_cons_succ]) | (refine wpPlan.taken (by rfl) (by intro w' hS'; (try dsimp only at hS'); go_split_ands; go_simp; try with_reducible rfl) ?_; simp only [Act.put, List.setIfInBounds_toArray, List.set_cons_zero, List.set_cons_succ]) | (refine wpPlan.passed (by rfl) ?_; simp only [Act.put, List.setIfInBounds_toArray, List.set_cons_zero, List.set_cons_succ]))
      refine wpPlan.done ?_
      go_wp2_with fail
      go_roundw
      case rel => exact ⟨2, _, rfl, by decide, rfl, bk6, by rw [LE.out]; exact ls6⟩
      case measure => simp [intOf]
    · have LE := Lib.hid (show (pairOf me c0 c1 p0 p1).take (2 : Int).toNat = pairOf me c0 c1 p0 p1 from rfl)
      rw [LE.out] at ls hh ⊢
      have lm := load_idn bk.out.m
      unfold Idn.cells at lm
      have LM := Lib.hid lm
      clear lm
      go_wp2_with (first
        | (refine wpList_load_is 25 (.tmp 3) rfl rfl rfl LM.out ?_))
      refine (select_any me ao cap (pairOf me c0 c1 p0 p1) wr F.out.1 (fun x hx => by simp [pairOf] at hx; rcases hx with rfl | rfl; exact F.out.2.1; exact F.out.2.2) (by simp [pairOf]) hh).mono ?_
      rintro e w3 ⟨s3, ao2, cap2, rfl, ints⟩
      have bk3 := bk.out.still s3
      have hn := laid_new w3 zeroV (bestOf me (pairOf me c0 c1 p0 p1)).cells 27
      unfold zeroV at hn
      obtain ⟨W4, hW4⟩ : ∃ W4, (w3.alloc (.cells #[.int .i64 0, .int .u8 0, .int .u8 0, .int .u8 0, .int .u8 0, .int .u8 0, .int .u8 0, .int .i64 0, .int .i64 0, .int .u8 0, .int .u8 0, .int .u8 0, .int .u8 0, .int .u8 0, .int .u8 0, .int .i64 0, .int .i64 0] 27)).setRow w3.heap.size (bestOf me (pairOf me c0 c1 p0 p1)).cells = W4 := ⟨_, rfl⟩
      rw [hW4] at hn
      have HE4 := Lib.hid hW4
      have N4 := Lib.hid hn.1
      have BK4 := Lib.hid (bk3.still hn.2)
      have I4 := Lib.hid (ints.still hn.2)
      clear hn hW4 bk3 ints s3 bk ls hh LM
      have hr := fairOf_rng (pairOf me c0 c1 p0 p1)
      by_cases hf : fairOf (pairOf me c0 c1 p0 p1) = 0
      rotate_left
      · generalize rolesOf me (pairOf me c0 c1 p0 p1) = xs at *
        generalize fairOf (pairOf me c0 c1 p0 p1) = f at *
        generalize bestOf me (pairOf me c0 c1 p0 p1) = B at *
        rcases hr with hr | hr | hr
        · exact absurd hr hf
        · subst hr
          clear hf
          go_wp2_with (first
            | rw [HE4.out]
            | (refine wpList_store_row rfl 27 (.tmp 11) (.tmp 45) rfl w3.heap.size B.cells rfl rfl 27 _ (heap_alloc_new w3 _) (by kernel_rfl) rfl (by simp [Vec.cells, Value.oneCell']) ?_))
          go_ret
          exact ⟨rfl, BK4.out.st.toBelow⟩
        · subst hr
          clear hf
          go_wp2_with (first
            | rw [HE4.out]
            | (refine wpList_store_row rfl 27 (.tmp 11) (.tmp 45) rfl w3.heap.size B.cells rfl rfl 27 _ (heap_alloc_new w3 _) (by kernel_rfl) rfl (by simp [Vec.cells, Value.oneCell']) ?_))
          go_ret
          exact ⟨rfl, BK4.out.st.toBelow⟩
      have hB := pair_best hf
      have hX := pair_roles hf
      rw [hf, hX]
      rw [hX] at I4
      rw [hB] at HE4 N4
      rw [hB]
      clear hr hf hB hX LE
      obtain ⟨x0, hx0⟩ : ∃ x : Int, (if p1 < p0 then (4 : Int) else 2) = x := ⟨_, rfl⟩
      obtain ⟨x1, hx1⟩ : ∃ x : Int, (if p0 < p1 then (4 : Int) else 2) = x := ⟨_, rfl⟩
      rw [hx0, hx1] at I4
      rw [hx0, hx1]
      have X0 := Lib.hid hx0
      have X1 := Lib.hid hx1
      clear hx0 hx1
      go_wp2_with (first
        | rw [HE4.out]
        | (refine wpList_store_row rfl 27 (.tmp 11) (.tmp 45) rfl w3.heap.size (meV me).cells rfl rfl 27 _ (heap_alloc_new w3 _) (by kernel_rfl) rfl (by simp [Vec.cells, Value.oneCell']) ?_))
      generalize w3.heap.size = N at *
      clear HE4
      go_loopw [14, 15] (fun i _ wr => ∃ (k : Int) (W : World), W = wr ∧ (k = 0 ∨ k = 1 ∨ k = 2) ∧ i = .int .i64 k ∧ Hid (Step None W4 wr)) (fun i _ _ => 2 - (intOf i).toNat)
      case atStart => exact ⟨0, _, rfl, .inl rfl, rfl, Lib.hid (Step.refl _ _)⟩
      case round =>
        obtain ⟨k, wr2, rfl, hk, rfl, hs⟩ := hrel
        rcases hk with rfl | rfl | rfl
        · obtain ⟨q, qo, e2, cq⟩ := (I4.out.still (hs.out.drew)).cell (j := 0) rfl
          subst e2
          rw [Nat.add_zero] at cq
          have bk5 := Lib.hid ((BK4.out.still hs.out).still (Step.refl None wr2).drew)
          cases hg : decide (p1 < p0)
          · have hx : x0 = 2 := by rw [← X0.out, if_neg (by simpa using hg)]
            subst hx
            go_wp2_with fail
            refine wp_region_plan (fun w' => (Instr.loadAt 25 (.pointer (some ⟨M, 0, none⟩))).run Try.prog w' = .ok (.agg #[.int .i64 me.p, .int .u8 me.m0, .int .u8 me.m1, .int .u8 me.m2, .int .u8 me.m3, .int .u8 me.m4, .int .u8 me.m5]) w' ∧ (Instr.loadAt 27 (.pointer (some ⟨D, 0, none⟩))).run Try.prog w' = .ok (.agg (meV me).cells) w' ∧ w'.cell? ⟨M + 1, 0, none⟩ = some (.int .i64 c0) ∧ w'.cell? ⟨M + 1, 1, none⟩ = some (.int .i64 c1) ∧ w'.cell? ⟨M + 1 + 1, 0, none⟩ = some (.int .i64 p0) ∧ w'.cell? ⟨M + 1 + 1, 1, none⟩ = some (.int .i64 p1)) (.take 0 (.take 1 (.take 2 (.take 3 (.take 4 (.take 5 (.take 6 (.take 7 .done)))))))) _
              (by simp only [Plan.map, opOf, List.getElem?_toArray, List.getElem?_cons_zero, List.getElem?_cons_succ, Option.getD_some]; rfl) (by kernel_rfl) (by kernel_rfl) (by kernel_rfl) (by decide) (by intro c a d v w; cases d <;> exact fun h => h) bk5.out.loads ?_
            iterate 4 (first | (refine wpPlan.taken (by rfl) (fun w' hS' => run_load_op rfl rfl hS'.1) ?_; simp only [Act.put, List.setIfInBounds_toArray, List.set_cons_zero, List.set_cons_succ]) | (refine wpPlan.taken (by rfl) (fun w' hS' => run_load_op rfl rfl hS'.2.1) ?_; simp only [Act.put, List.setIfInBounds_toArray, List.set_cons_zero, List.set_cons_succ]) | (refine wpPlan.taken (by rfl) (by intro w' hS'; (try dsimp only at hS'); go_split_ands; go_simp; try with_reducible rfl) ?_; simp only [Act.put, List.setIfInBounds_toArray, List.set_cons_zero, List.set_cons_succ]))
            refine wpPlan.taken (v := .int .i64 1) (by rfl) (by intro w' hS'; go_simp; rfl) ?_
            simp only [Act.put, List.setIfInBounds_toArray, List.set_cons_zero, List.set_cons_succ]
            repeat (first | (refine wpPlan.taken (by rfl) (fun w' hS' => run_load_op rfl rfl hS'.1) ?_; simp only [Act.put, List.setIfInBounds_toArray, List.set_cons_zero, List.set_cons_succ]) | (refine wpPlan.taken (by rfl) (fun w' hS' => run_load_op rfl rfl hS'.2.1) ?_; simp only [Act.put, List.setIfInBounds_toArray, List.set_cons_zero, List.set_cons_succ]) | (refine wpPlan.taken (by rfl) (by intro w' hS'; (try dsimp only at hS'); go_split_ands; go_simp; try with_reducible rfl) ?_; simp only [Act.put, List.setIfInBounds_toArray, List.set_cons_zero, List.set_cons_succ]) | (refine wpPlan.passed (by rfl) ?_; simp only [Act.put, List.setIfInBounds_toArray, List.set_cons_zero, List.set_cons_succ]))
            refine wpPlan.done ?_
            go_wp2_with fail
            go_roundw
            case rel => exact ⟨1, _, rfl, by decide, rfl, Lib.hid hs.out.drew⟩
            case measure => simp [intOf]
          · have hx : x0 = 4 := by rw [← X0.out, if_pos (by simpa using hg)]
            subst hx
            go_wp2_with fail
            refine wp_region_plan (fun w' => (Instr.loadAt 25 (.pointer (some ⟨M, 0, none⟩))).run Try.prog w' = .ok (.agg #[.int .i64 me.p, .int .u8 me.m0, .int .u8 me.m1, .int .u8 me.m2, .int .u8 me.m3, .int .u8 me.m4, .int .u8 me.m5]) w' ∧ (Instr.loadAt 27 (.pointer (some ⟨D, 0, none⟩))).run Try.prog w' = .ok (.agg (meV me).cells) w' ∧ w'.cell? ⟨M + 1, 0, none⟩ = some (.int .i64 c0) ∧ w'.cell? ⟨M + 1, 1, none⟩ = some (.int .i64 c1) ∧ w'.cell? ⟨M + 1 + 1, 0, none⟩ = some (.int .i64 p0) ∧ w'.cell? ⟨M + 1 + 1, 1, none⟩ = some (.int .i64 p1)) (.take 0 (.take 1 (.take 2 (.take 3 (.take 4 (.take 5 (.take 6 (.take 7 .done)))))))) _
              (by simp only [Plan.map, opOf, List.getElem?_toArray, List.getElem?_cons_zero, List.getElem?_cons_succ, Option.getD_some]; rfl) (by kernel_rfl) (by kernel_rfl) (by kernel_rfl) (by decide) (by intro c a d v w; cases d <;> exact fun h => h) bk5.out.loads ?_
            iterate 4 (first | (refine wpPlan.taken (by rfl) (fun w' hS' => run_load_op rfl rfl hS'.1) ?_; simp only [Act.put, List.setIfInBounds_toArray, List.set_cons_zero, List.set_cons_succ]) | (refine wpPlan.taken (by rfl) (fun w' hS' => run_load_op rfl rfl hS'.2.1) ?_; simp only [Act.put, List.setIfInBounds_toArray, List.set_cons_zero, List.set_cons_succ]) | (refine wpPlan.taken (by rfl) (by intro w' hS'; (try dsimp only at hS'); go_split_ands; go_simp; try with_reducible rfl) ?_; simp only [Act.put, List.setIfInBounds_toArray, List.set_cons_zero, List.set_cons_succ]))
            refine wpPlan.taken (v := .int .i64 1) (by rfl) (by intro w' hS'; go_simp; rfl) ?_
            simp only [Act.put, List.setIfInBounds_toArray, List.set_cons_zero, List.set_cons_succ]
            repeat (first | (refine wpPlan.taken (by rfl) (fun w' hS' => run_load_op rfl rfl hS'.1) ?_; simp only [Act.put, List.setIfInBounds_toArray, List.set_cons_zero, List.set_cons_succ]) | (refine wpPlan.taken (by rfl) (fun w' hS' => run_load_op rfl rfl hS'.2.1) ?_; simp only [Act.put, List.setIfInBounds_toArray, List.set_cons_zero, List.set_cons_succ]) | (refine wpPlan.taken (by rfl) (by intro w' hS'; (try dsimp only at hS'); go_split_ands; go_simp; try with_reducible rfl) ?_; simp only [Act.put, List.setIfInBounds_toArray, List.set_cons_zero, List.set_cons_succ]) | (refine wpPlan.passed (by rfl) ?_; simp only [Act.put, List.setIfInBounds_toArray, List.set_cons_zero, List.set_cons_succ]))
            refine wpPlan.done ?_
            go_wp2_with fail
            go_roundw
            case rel => exact ⟨1, _, rfl, by decide, rfl, Lib.hid hs.out.drew⟩
            case measure => simp [intOf]
        · obtain ⟨q, qo, e2, cq⟩ := (I4.out.still (hs.out.drew)).cell (j := 1) rfl
          subst e2
          skip
          have bk5 := Lib.hid ((BK4.out.still hs.out).still (Step.refl None wr2).drew)
          cases hg : decide (p0 < p1)
          · have hx : x1 = 2 := by rw [← X1.out, if_neg (by simpa using hg)]
            subst hx
            go_wp2_with fail
            refine wp_region_plan (fun w' => (Instr.loadAt 25 (.pointer (some ⟨M, 0, none⟩))).run Try.prog w' = .ok (.agg #[.int .i64 me.p, .int .u8 me.m0, .int .u8 me.m1, .int .u8 me.m2, .int .u8 me.m3, .int .u8 me.m4, .int .u8 me.m5]) w' ∧ (Instr.loadAt 27 (.pointer (some ⟨D, 0, none⟩))).run Try.prog w' = .ok (.agg (meV me).cells) w' ∧ w'.cell? ⟨M + 1, 0, none⟩ = some (.int .i64 c0) ∧ w'.cell? ⟨M + 1, 1, none⟩ = some (.int .i64 c1) ∧ w'.cell? ⟨M + 1 + 1, 0, none⟩ = some (.int .i64 p0) ∧ w'.cell? ⟨M + 1 + 1, 1, none⟩ = some (.int .i64 p1)) (.take 0 (.take 1 (.take 2 (.take 3 (.take 4 (.take 5 (.take 6 (.take 7 .done)))))))) _
              (by simp only [Plan.map, opOf, List.getElem?_toArray, List.getElem?_cons_zero, List.getElem?_cons_succ, Option.getD_some]; rfl) (by kernel_rfl) (by kernel_rfl) (by kernel_rfl) (by decide) (by intro c a d v w; cases d <;> exact fun h => h) bk5.out.loads ?_
            iterate 4 (first | (refine wpPlan.taken (by rfl) (fun w' hS' => run_load_op rfl rfl hS'.1) ?_; simp only [Act.put, List.setIfInBounds_toArray, List.set_cons_zero, List.set_cons_succ]) | (refine wpPlan.taken (by rfl) (fun w' hS' => run_load_op rfl rfl hS'.2.1) ?_; simp only [Act.put, List.setIfInBounds_toArray, List.set_cons_zero, List.set_cons_succ]) | (refine wpPlan.taken (by rfl) (by intro w' hS'; (try dsimp only at hS'); go_split_ands; go_simp; try with_reducible rfl) ?_; simp only [Act.put, List.setIfInBounds_toArray, List.set_cons_zero, List.set_cons_succ]))
            refine wpPlan.taken (v := .int .i64 0) (by rfl) (by intro w' hS'; go_simp; rfl) ?_
            simp only [Act.put, List.setIfInBounds_toArray, List.set_cons_zero, List.set_cons_succ]
            repeat (first | (refine wpPlan.taken (by rfl) (fun w' hS' => run_load_op rfl rfl hS'.1) ?_; simp only [Act.put, List.setIfInBounds_toArray, List.set_cons_zero, List.set_cons_succ]) | (refine wpPlan.taken (by rfl) (fun w' hS' => run_load_op rfl rfl hS'.2.1) ?_; simp only [Act.put, List.setIfInBounds_toArray, List.set_cons_zero, List.set_cons_succ]) | (refine wpPlan.taken (by rfl) (by intro w' hS'; (try dsimp only at hS'); go_split_ands; go_simp; try with_reducible rfl) ?_; simp only [Act.put, List.setIfInBounds_toArray, List.set_cons_zero, List.set_cons_succ]) | (refine wpPlan.passed (by rfl) ?_; simp only [Act.put, List.setIfInBounds_toArray, List.set_cons_zero, List.set_cons_succ]))
            refine wpPlan.done ?_
            go_wp2_with fail
            go_roundw
            case rel => exact ⟨2, _, rfl, by decide, rfl, Lib.hid hs.out.drew⟩
            case measure => simp [intOf]
          · have hx : x1 = 4 := by rw [← X1.out, if_pos (by simpa using hg)]
            subst hx
            go_wp2_with fail
            refine wp_region_plan (fun w' => (Instr.loadAt 25 (.pointer (some ⟨M, 0, none⟩))).run Try.prog w' = .ok (.agg #[.int .i64 me.p, .int .u8 me.m0, .int .u8 me.m1, .int .u8 me.m2, .int .u8 me.m3, .int .u8 me.m4, .int .u8 me.m5]) w' ∧ (Instr.loadAt 27 (.pointer (some ⟨D, 0, none⟩))).run Try.prog w' = .ok (.agg (meV me).cells) w' ∧ w'.cell? ⟨M + 1, 0, none⟩ = some (.int .i64 c0) ∧ w'.cell? ⟨M + 1, 1, none⟩ = some (.int .i64 c1) ∧ w'.cell? ⟨M + 1 + 1, 0, none⟩ = some (.int .i64 p0) ∧ w'.cell? ⟨M + 1 + 1, 1, none⟩ = some (.int .i64 p1)) (.take 0 (.take 1 (.take 2 (.take 3 (.take 4 (.take 5 (.take 6 (.take 7 .done)))))))) _
              (by simp only [Plan.map, opOf, List.getElem?_toArray, List.getElem?_cons_zero, List.getElem?_cons_succ, Option.getD_some]; rfl) (by kernel_rfl) (by kernel_rfl) (by kernel_rfl) (by decide) (by intro c a d v w; cases d <;> exact fun h => h) bk5.out.loads ?_
            iterate 4 (first | (refine wpPlan.taken (by rfl) (fun w' hS' => run_load_op rfl rfl hS'.1) ?_; simp only [Act.put, List.setIfInBounds_toArray, List.set_cons_zero, List.set_cons_succ]) | (refine wpPlan.taken (by rfl) (fun w' hS' => run_load_op rfl rfl hS'.2.1) ?_; simp only [Act.put, List.setIfInBounds_toArray, List.set_cons_zero, List.set_cons_succ]) | (refine wpPlan.taken (by rfl) (by intro w' hS'; (try dsimp only at hS'); go_split_ands; go_simp; try with_reducible rfl) ?_; simp only [Act.put, List.setIfInBounds_toArray, List.set_cons_zero, List.set_cons_succ]))
            refine wpPlan.taken (v := .int .i64 0) (by rfl) (by intro w' hS'; go_simp; rfl) ?_
            simp only [Act.put, List.setIfInBounds_toArray, List.set_cons_zero, List.set_cons_succ]
            repeat (first | (refine wpPlan.taken (by rfl) (fun w' hS' => run_load_op rfl rfl hS'.1) ?_; simp only [Act.put, List.setIfInBounds_toArray, List.set_cons_zero, List.set_cons_succ]) | (refine wpPlan.taken (by rfl) (fun w' hS' => run_load_op rfl rfl hS'.2.1) ?_; simp only [Act.put, List.setIfInBounds_toArray, List.set_cons_zero, List.set_cons_succ]) | (refine wpPlan.taken (by rfl) (by intro w' hS'; (try dsimp only at hS'); go_split_ands; go_simp; try with_reducible rfl) ?_; simp only [Act.put, List.setIfInBounds_toArray, List.set_cons_zero, List.set_cons_succ]) | (refine wpPlan.passed (by rfl) ?_; simp only [Act.put, List.setIfInBounds_toArray, List.set_cons_zero, List.set_cons_succ]))
            refine wpPlan.done ?_
            go_wp2_with fail
            go_roundw
            case rel => exact ⟨2, _, rfl, by decide, rfl, Lib.hid hs.out.drew⟩
            case measure => simp [intOf]
        · have N5 := Lib.hid (hs.out.blk N4.out (fun s => s.elim))
          have D5 := Lib.hid (hs.out.blk BK4.out.d (fun s => s.elim))
          have he := eq_vec (meV me) (meV me)
          simp only [BEq.rfl] at he
          go_wp2_with (first
            | (refine wpList_load_is 27 (.tmp 11) rfl rfl rfl (load_block N5.out rfl) ?_)
            | (refine wpList_load_is 27 (.tmp 8) rfl rfl rfl (load_block D5.out rfl) ?_))
          go_ret
          exact ⟨rfl, (BK4.out.st.then_ hs.out).toBelow⟩
end Go.Proofs.Ytehlaomippbehaa
