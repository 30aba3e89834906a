/- The way that a BPDU tells; VectorTells, walked. -/
import Derived.Test.YtehlaomippbehaaB9
import Derived.Test.YtehlaomippbehaaBorn
import Derived.Test.YtehlaomippbehaaPiec
namespace Go.Proofs.Ytehlaomippbehaa
open Go.RowKit Go.Gm

theorem fits_idb {w : World} {l : List Value} (h : Fits w (.cat 1 (.int .i64) (.cat 6 (.arr 6 1 (.int .u8)) .nil)) l) : ∃ x : Idn, l = x.cells.toList ∧ Small x.mac := by
  obtain ⟨p, _, rfl, -, h1⟩ := h.intc
  obtain ⟨_, _, rfl, hm, h2⟩ := h1.aggc
  obtain ⟨ms, rfl, hl, hw⟩ := hm.intArr
  obtain rfl := h2.nilc
  match ms, hl with
  | [a0, a1, a2, a3, a4, a5], _ => exact ⟨⟨p, a0, a1, a2, a3, a4, a5⟩, rfl, fun x hx => wf_u8 (hw x hx)⟩
def Bpd.small (x : Bpd) : Prop := Small x.root.mac ∧ Small x.bridge.mac
theorem arg_bpd {w : World} {v : Value} (h : Arg w (.cat 1 (.int .i64) (.cat 1 (.int .i64) (.cat 7 (.cat 1 (.int .i64) (.cat 6 (.arr 6 1 (.int .u8)) .nil)) (.cat 1 (.int .i64) (.cat 7 (.cat 1 (.int .i64) (.cat 6 (.arr 6 1 (.int .u8)) .nil)) (.cat 1 (.int .i64) (.cat 1 (.int .i64) (.cat 1 (.int .i64) (.cat 1 (.int .i64) (.cat 1 (.int .i64) .nil)))))))))) v) : ∃ x : Bpd, v = .agg x.cells ∧ x.small := by
  obtain ⟨⟨l⟩, rfl, hf⟩ := h.agg rfl
  obtain ⟨k, _, e0, -, h1⟩ := hf.intc
  obtain ⟨f, _, rfl, -, h2⟩ := h1.intc
  obtain ⟨_, _, rfl, hr, h3⟩ := h2.aggc
  obtain ⟨r, rfl, fr⟩ := fits_idb hr
  obtain ⟨c, _, rfl, -, h4⟩ := h3.intc
  obtain ⟨_, _, rfl, hb, h5⟩ := h4.aggc
  obtain ⟨b, rfl, fb⟩ := fits_idb hb
  obtain ⟨p, _, rfl, -, h6⟩ := h5.intc
  obtain ⟨a, _, rfl, -, h7⟩ := h6.intc
  obtain ⟨m, _, rfl, -, h8⟩ := h7.intc
  obtain ⟨o, _, rfl, -, h9⟩ := h8.intc
  obtain ⟨g, _, rfl, -, h10⟩ := h9.intc
  obtain rfl := h10.nilc
  refine ⟨⟨k, f, r, c, b, p, a, m, o, g⟩, ?_, fr, fb⟩
  have e1 : l = _ := e0
  rw [e1]
  rfl

theorem load_broot {w : World} {g : Nat} {x : Bpd} {t : TypeId} {fr : Nat × Nat} (h : w.heap[g]? = some (.cells x.cells t fr)) : (Instr.loadAt 25 (.pointer (some ⟨g, 2, none⟩))).run Try.prog w = .ok (.agg x.root.cells) w := by
  have := run_loadAt_mid (P := Try.prog) w g 2 25 x.root.cells.toList _ (fun j u hj => by
    rw [blk_cell h]
    match j, hj with
    | 0, hj => exact hj
    | 1, hj => exact hj
    | 2, hj => exact hj
    | 3, hj => exact hj
    | 4, hj => exact hj
    | 5, hj => exact hj
    | 6, hj => exact hj
    | j + 7, hj => simp [Idn.cells] at hj) Try.underlying25 rfl (by kernel_rfl)
  simpa using this
theorem load_bbridge {w : World} {g : Nat} {x : Bpd} {t : TypeId} {fr : Nat × Nat} (h : w.heap[g]? = some (.cells x.cells t fr)) : (Instr.loadAt 25 (.pointer (some ⟨g, 10, none⟩))).run Try.prog w = .ok (.agg x.bridge.cells) w := by
  have := run_loadAt_mid (P := Try.prog) w g 10 25 x.bridge.cells.toList _ (fun j u hj => by
    rw [blk_cell h]
    match j, hj with
    | 0, hj => exact hj
    | 1, hj => exact hj
    | 2, hj => exact hj
    | 3, hj => exact hj
    | 4, hj => exact hj
    | 5, hj => exact hj
    | 6, hj => exact hj
    | j + 7, hj => simp [Idn.cells] at hj) Try.underlying25 rfl (by kernel_rfl)
  simpa using this

theorem load_bpdb {w : World} {g : Nat} {x : Bpd} {t : TypeId} {fr : Nat × Nat} (h : w.heap[g]? = some (.cells x.cells t fr)) : (Instr.loadAt 39 (.pointer (some ⟨g, 0, none⟩))).run Try.prog w = .ok (.agg x.cells) w := by
  have := run_loadAt_mid (P := Try.prog) w g 0 39 x.cells.toList _ (fun j u hj => by rw [blk_cell h]; simpa using hj) Try.underlying39 rfl (by kernel_rfl)
  simpa using this
theorem wpList_load_ib {P : Program} {ops : Array Oper} {rest : List Oper} {Q : Exit → Act → World → Prop} {o : Oper} {a : Act} {w : World} (ty : TypeId) (x : Operand) (ho : o.op = .load ty x) (hw : Region.wanted o (yielded ops a.tmps) = true) {y v : Value} (hx : a.eval x = y)
    (hl : (Instr.loadAt ty y).run P w = .ok v w) (h : wpList P ops Q rest (a.put o.dst v) w) : wpList P ops Q (o :: rest) a w :=
  wpList_step fun K hK => by
    rw [if_pos hw]
    unfold Oper.wp execOp
    simp only [ho, hx, Sem.run_bind, hl, Result.andThen_ok, Sem.run_pure]
    exact hK _ _ h
def noVecB : Vec := ⟨⟨0, 0, 0, 0, 0, 0, 0⟩, 0, ⟨0, 0, 0, 0, 0, 0, 0⟩, 0, 0⟩
def ofE (x : Bpd) (own : Int) : Int := if okB x = false ∨ x.kind = 128 then 2 else if own < 1 ∨ 65535 < own then 1 else 0
def ofV (x : Bpd) (own : Int) : Vec := if ofE x own = 0 then ⟨x.root, x.cost, x.bridge, x.port, own⟩ else noVecB

set_option maxHeartbeats 8000000 in
theorem of_any (x : Bpd) (own : Int) (w : World) : Calls Try.prog 24 #[.agg x.cells, .int .i64 own] w fun e w' => e = .returned (.tuple #[.agg (ofV x own).cells, .int .i64 (ofE x own)]) ∧ Step None w w' := by
  have b1 := heap_alloc_new w (.cells x.cells 39)
  have b2 := heap_alloc_new (w.alloc (.cells x.cells 39)) (.cells #[.int .i64 0, .int .u8 0, .int .u8 0, .int .u8 0, .int .u8 0, .int .u8 0, .int .u8 0, .int .i64 0, .int .i64 0, .int .u8 0, .int .u8 0, .int .u8 0, .int .u8 0, .int .u8 0, .int .u8 0, .int .i64 0, .int .i64 0] 27)
  have s1 := ((Step.refl None w).alloc (.cells x.cells 39)).alloc (.cells #[.int .i64 0, .int .u8 0, .int .u8 0, .int .u8 0, .int .u8 0, .int .u8 0, .int .u8 0, .int .i64 0, .int .i64 0, .int .u8 0, .int .u8 0, .int .u8 0, .int .u8 0, .int .u8 0, .int .u8 0, .int .i64 0, .int .i64 0] 27)
  have b1 := ((Step.refl None _).alloc (.cells #[.int .i64 0, .int .u8 0, .int .u8 0, .int .u8 0, .int .u8 0, .int .u8 0, .int .u8 0, .int .i64 0, .int .i64 0, .int .u8 0, .int .u8 0, .int .u8 0, .int .u8 0, .int .u8 0, .int .u8 0, .int .i64 0, .int .i64 0] 27)).blk b1 (fun s => s.elim)
  simp only [World.size_alloc] at b2
  obtain ⟨W, hW⟩ : ∃ W, (w.alloc (.cells x.cells 39)).alloc (.cells #[.int .i64 0, .int .u8 0, .int .u8 0, .int .u8 0, .int .u8 0, .int .u8 0, .int .u8 0, .int .i64 0, .int .i64 0, .int .u8 0, .int .u8 0, .int .u8 0, .int .u8 0, .int .u8 0, .int .u8 0, .int .i64 0, .int .i64 0] 27) = W := ⟨_, rfl⟩
  rw [hW] at b1 b2 s1
  have HE := Lib.hid hW
  have B1 := Lib.hid b1
  have B2 := Lib.hid b2
  have S1 := Lib.hid s1
  have RG := Lib.hid (right_any x W)
  have OE := Lib.hid (show ofE x own = if okB x = false ∨ x.kind = 128 then 2 else if own < 1 ∨ 65535 < own then 1 else 0 from rfl)
  have OV := Lib.hid (show ofV x own = if ofE x own = 0 then ⟨x.root, x.cost, x.bridge, x.port, own⟩ else noVecB from rfl)
  clear hW b1 b2 s1
  go_enter Try.func24, Try.ntmps24
  go_wp2_with (first
    | rw [HE.out]
    | (refine wpList_load_ib 39 (.tmp 2) rfl rfl rfl (load_bpdb B1.out) ?_))
  refine RG.out.mono ?_
  rintro e w3 ⟨rfl, s3⟩
  have S3 := Lib.hid (S1.out.then_ s3)
  have b13 := s3.blk B1.out (fun s => s.elim)
  have B3 := Lib.hid b13
  have R3 := Lib.hid (s3.blk B2.out (fun s => s.elim))
  have c0 := blk_cell b13 0
  have c9 := blk_cell b13 9
  have c17 := blk_cell b13 17
  simp only [Bpd.cells, List.getElem?_toArray, List.getElem?_cons_zero, List.getElem?_cons_succ] at c0 c9 c17
  have lr := load_broot b13
  have lb := load_bbridge b13
  unfold Idn.cells at lr lb
  have LR := Lib.hid lr
  have LB := Lib.hid lb
  have PN := Lib.hid (setRow_heap w3 (w.heap.size + 1) _ noVecB.cells _ _ R3.out)
  have SN := Lib.hid (step_setRow S3.out (g := w.heap.size + 1) (fun h => by omega) noVecB.cells)
  have PV := Lib.hid (setRow_heap w3 (w.heap.size + 1) _ (⟨x.root, x.cost, x.bridge, x.port, own⟩ : Vec).cells _ _ R3.out)
  have SV := Lib.hid (step_setRow S3.out (g := w.heap.size + 1) (fun h => by omega) (⟨x.root, x.cost, x.bridge, x.port, own⟩ : Vec).cells)
  clear s3 b13 lr lb B1 B2 RG HE S1

  cases ok : okB x
  · have e1 : ofE x own = 2 := OE.out.trans (if_pos (.inl ok))
    have HO := Lib.hid e1
    have HV : Hid (ofV x own = noVecB) := Lib.hid (OV.out.trans (if_neg (by rw [e1]; decide)))
    clear e1
    go_wp2_with (first
      | (refine wpList_store_row rfl 27 (.tmp 4) (.tmp 15) rfl (w.heap.size + 1) noVecB.cells rfl rfl 27 _ R3.out (by kernel_rfl) rfl (by kernel_rfl) ?_))
    (try simp only [Exit.inBlock, Exit.then])
    refine bodyPost_ret (results_cell_row2 (P := Try.prog) (fn := Try.f24) rfl _ _ (w.heap.size + 1) 27 noVecB.cells (0, 0) _ rfl PN.out Try.underlying27 rfl (by kernel_rfl)) rfl ?_
    exact ⟨by rw [HV.out, HO.out]; rfl, SN.out⟩
  by_cases k8 : x.kind = 128
  · have e1 : ofE x own = 2 := OE.out.trans (if_pos (.inr k8))
    have HO := Lib.hid e1
    have HV : Hid (ofV x own = noVecB) := Lib.hid (OV.out.trans (if_neg (by rw [e1]; decide)))
    rw [k8] at c0
    clear e1 k8
    go_wp2_with (first
      | (refine wpList_store_row rfl 27 (.tmp 4) (.tmp 15) rfl (w.heap.size + 1) noVecB.cells rfl rfl 27 _ R3.out (by kernel_rfl) rfl (by kernel_rfl) ?_))
    (try simp only [Exit.inBlock, Exit.then])
    refine bodyPost_ret (results_cell_row2 (P := Try.prog) (fn := Try.f24) rfl _ _ (w.heap.size + 1) 27 noVecB.cells (0, 0) _ rfl PN.out Try.underlying27 rfl (by kernel_rfl)) rfl ?_
    exact ⟨by rw [HV.out, HO.out]; rfl, SN.out⟩
  have q8 : (x.kind == 128) = false := by simpa using k8
  have NK : Hid (¬ (okB x = false ∨ x.kind = 128)) := Lib.hid (fun h => h.elim (fun h => by rw [ok] at h; cases h) k8)
  clear k8
  by_cases o1 : own < 1
  · have e1 : ofE x own = 1 := OE.out.trans ((if_neg NK.out).trans (if_pos (.inl o1)))
    have HO := Lib.hid e1
    have HV : Hid (ofV x own = noVecB) := Lib.hid (OV.out.trans (if_neg (by rw [e1]; decide)))
    have d1 : decide (own < 1) = true := by simpa using o1
    clear e1 o1
    go_wp2_with (first
      | (refine wpList_store_row rfl 27 (.tmp 4) (.tmp 23) rfl (w.heap.size + 1) noVecB.cells rfl rfl 27 _ R3.out (by kernel_rfl) rfl (by kernel_rfl) ?_))
    (try simp only [Exit.inBlock, Exit.then])
    refine bodyPost_ret (results_cell_row2 (P := Try.prog) (fn := Try.f24) rfl _ _ (w.heap.size + 1) 27 noVecB.cells (0, 0) _ rfl PN.out Try.underlying27 rfl (by kernel_rfl)) rfl ?_
    exact ⟨by rw [HV.out, HO.out]; rfl, SN.out⟩
  have d1 : decide (own < 1) = false := by simpa using o1
  by_cases o2 : 65535 < own
  · have e1 : ofE x own = 1 := OE.out.trans ((if_neg NK.out).trans (if_pos (.inr o2)))
    have HO := Lib.hid e1
    have HV : Hid (ofV x own = noVecB) := Lib.hid (OV.out.trans (if_neg (by rw [e1]; decide)))
    have d2 : decide (65535 < own) = true := by simpa using o2
    clear e1 o1 o2
    go_wp2_with (first
      | (refine wpList_store_row rfl 27 (.tmp 4) (.tmp 23) rfl (w.heap.size + 1) noVecB.cells rfl rfl 27 _ R3.out (by kernel_rfl) rfl (by kernel_rfl) ?_))
    (try simp only [Exit.inBlock, Exit.then])
    refine bodyPost_ret (results_cell_row2 (P := Try.prog) (fn := Try.f24) rfl _ _ (w.heap.size + 1) 27 noVecB.cells (0, 0) _ rfl PN.out Try.underlying27 rfl (by kernel_rfl)) rfl ?_
    exact ⟨by rw [HV.out, HO.out]; rfl, SN.out⟩
  have d2 : decide (65535 < own) = false := by simpa using o2
  have e1 : ofE x own = 0 := OE.out.trans ((if_neg NK.out).trans (if_neg (by omega)))
  have HO := Lib.hid e1
  have HV : Hid (ofV x own = ⟨x.root, x.cost, x.bridge, x.port, own⟩) := Lib.hid (OV.out.trans (if_pos e1))
  clear e1 o1 o2
  go_wp2_with (first
    | (refine wpList_load_ib 25 (.tmp 24) rfl rfl rfl LR.out ?_)
    | (refine wpList_load_ib 25 (.tmp 28) rfl rfl rfl LB.out ?_)
    | (refine wpList_store_row rfl 27 (.tmp 4) (.tmp 33) rfl (w.heap.size + 1) (⟨x.root, x.cost, x.bridge, x.port, own⟩ : Vec).cells rfl rfl 27 _ R3.out (by kernel_rfl) rfl (by simp [Vec.cells, Value.oneCell']) ?_))
  (try simp only [Exit.inBlock, Exit.then])
  refine bodyPost_ret (results_cell_row2 (P := Try.prog) (fn := Try.f24) rfl _ _ (w.heap.size + 1) 27 (⟨x.root, x.cost, x.bridge, x.port, own⟩ : Vec).cells (0, 0) _ rfl PV.out Try.underlying27 rfl (by kernel_rfl)) rfl ?_
  exact ⟨by rw [HV.out, HO.out]; rfl, SV.out⟩

set_option maxHeartbeats 8000000 in
theorem rof_any (x : Bpd) (own : Int) (w : World) : Calls Try.prog 25 #[.agg x.cells, .int .i64 own] w fun e w' => e = .returned (.tuple #[.agg (ofV x own).cells, .int .i64 (ofE x own)]) ∧ Step None w w' := by
  have b1 := heap_alloc_new w (.cells x.cells 39)
  have b2 := heap_alloc_new (w.alloc (.cells x.cells 39)) (.cells #[.int .i64 0, .int .u8 0, .int .u8 0, .int .u8 0, .int .u8 0, .int .u8 0, .int .u8 0, .int .i64 0, .int .i64 0, .int .u8 0, .int .u8 0, .int .u8 0, .int .u8 0, .int .u8 0, .int .u8 0, .int .i64 0, .int .i64 0] 27)
  have s1 := ((Step.refl None w).alloc (.cells x.cells 39)).alloc (.cells #[.int .i64 0, .int .u8 0, .int .u8 0, .int .u8 0, .int .u8 0, .int .u8 0, .int .u8 0, .int .i64 0, .int .i64 0, .int .u8 0, .int .u8 0, .int .u8 0, .int .u8 0, .int .u8 0, .int .u8 0, .int .i64 0, .int .i64 0] 27)
  have b1 := ((Step.refl None _).alloc (.cells #[.int .i64 0, .int .u8 0, .int .u8 0, .int .u8 0, .int .u8 0, .int .u8 0, .int .u8 0, .int .i64 0, .int .i64 0, .int .u8 0, .int .u8 0, .int .u8 0, .int .u8 0, .int .u8 0, .int .u8 0, .int .i64 0, .int .i64 0] 27)).blk b1 (fun s => s.elim)
  simp only [World.size_alloc] at b2
  obtain ⟨W, hW⟩ : ∃ W, (w.alloc (.cells x.cells 39)).alloc (.cells #[.int .i64 0, .int .u8 0, .int .u8 0, .int .u8 0, .int .u8 0, .int .u8 0, .int .u8 0, .int .i64 0, .int .i64 0, .int .u8 0, .int .u8 0, .int .u8 0, .int .u8 0, .int .u8 0, .int .u8 0, .int .i64 0, .int .i64 0] 27) = W := ⟨_, rfl⟩
  rw [hW] at b1 b2 s1
  have HE := Lib.hid hW
  have B1 := Lib.hid b1
  have B2 := Lib.hid b2
  have S1 := Lib.hid s1
  have RG := Lib.hid (rright_any x W)
  have OE := Lib.hid (show ofE x own = if okB x = false ∨ x.kind = 128 then 2 else if own < 1 ∨ 65535 < own then 1 else 0 from rfl)
  have OV := Lib.hid (show ofV x own = if ofE x own = 0 then ⟨x.root, x.cost, x.bridge, x.port, own⟩ else noVecB from rfl)
  clear hW b1 b2 s1
  go_enter Try.func25, Try.ntmps25
  go_wp2_with (first
    | rw [HE.out]
    | (refine wpList_load_ib 39 (.tmp 2) rfl rfl rfl (load_bpdb B1.out) ?_))
  refine RG.out.mono ?_
  rintro e w3 ⟨rfl, s3⟩
  have S3 := Lib.hid (S1.out.then_ s3)
  have b13 := s3.blk B1.out (fun s => s.elim)
  have B3 := Lib.hid b13
  have R3 := Lib.hid (s3.blk B2.out (fun s => s.elim))
  have c0 := blk_cell b13 0
  have c9 := blk_cell b13 9
  have c17 := blk_cell b13 17
  simp only [Bpd.cells, List.getElem?_toArray, List.getElem?_cons_zero, List.getElem?_cons_succ] at c0 c9 c17
  have lr := load_broot b13
  have lb := load_bbridge b13
  unfold Idn.cells at lr lb
  have LR := Lib.hid lr
  have LB := Lib.hid lb
  have PN := Lib.hid (setRow_heap w3 (w.heap.size + 1) _ noVecB.cells _ _ R3.out)
  have SN := Lib.hid (step_setRow S3.out (g := w.heap.size + 1) (fun h => by omega) noVecB.cells)
  have PV := Lib.hid (setRow_heap w3 (w.heap.size + 1) _ (⟨x.root, x.cost, x.bridge, x.port, own⟩ : Vec).cells _ _ R3.out)
  have SV := Lib.hid (step_setRow S3.out (g := w.heap.size + 1) (fun h => by omega) (⟨x.root, x.cost, x.bridge, x.port, own⟩ : Vec).cells)
  clear s3 b13 lr lb B1 B2 RG HE S1

  cases ok : okB x
  · have e1 : ofE x own = 2 := OE.out.trans (if_pos (.inl ok))
    have HO := Lib.hid e1
    have HV : Hid (ofV x own = noVecB) := Lib.hid (OV.out.trans (if_neg (by rw [e1]; decide)))
    clear e1
    go_wp2_with (first
      | (refine wpList_store_row rfl 27 (.tmp 4) (.tmp 16) rfl (w.heap.size + 1) noVecB.cells rfl rfl 27 _ R3.out (by kernel_rfl) rfl (by kernel_rfl) ?_))
    (try simp only [Exit.inBlock, Exit.then])
    refine bodyPost_ret (results_cell_row2 (P := Try.prog) (fn := Try.f25) rfl _ _ (w.heap.size + 1) 27 noVecB.cells (0, 0) _ rfl PN.out Try.underlying27 rfl (by kernel_rfl)) rfl ?_
    exact ⟨by rw [HV.out, HO.out]; rfl, SN.out⟩
  by_cases k8 : x.kind = 128
  · have e1 : ofE x own = 2 := OE.out.trans (if_pos (.inr k8))
    have HO := Lib.hid e1
    have HV : Hid (ofV x own = noVecB) := Lib.hid (OV.out.trans (if_neg (by rw [e1]; decide)))
    rw [k8] at c0
    clear e1 k8
    go_wp2_with (first
      | (refine wpList_store_row rfl 27 (.tmp 4) (.tmp 16) rfl (w.heap.size + 1) noVecB.cells rfl rfl 27 _ R3.out (by kernel_rfl) rfl (by kernel_rfl) ?_))
    (try simp only [Exit.inBlock, Exit.then])
    refine bodyPost_ret (results_cell_row2 (P := Try.prog) (fn := Try.f25) rfl _ _ (w.heap.size + 1) 27 noVecB.cells (0, 0) _ rfl PN.out Try.underlying27 rfl (by kernel_rfl)) rfl ?_
    exact ⟨by rw [HV.out, HO.out]; rfl, SN.out⟩
  have q8 : (x.kind == 128) = false := by simpa using k8
  have NK : Hid (¬ (okB x = false ∨ x.kind = 128)) := Lib.hid (fun h => h.elim (fun h => by rw [ok] at h; cases h) k8)
  clear k8
  by_cases o1 : own < 1
  · have e1 : ofE x own = 1 := OE.out.trans ((if_neg NK.out).trans (if_pos (.inl o1)))
    have HO := Lib.hid e1
    have HV : Hid (ofV x own = noVecB) := Lib.hid (OV.out.trans (if_neg (by rw [e1]; decide)))
    have d1 : decide (own < 1) = true := by simpa using o1
    clear e1 o1
    go_wp2_with (first
      | (refine wpList_store_row rfl 27 (.tmp 4) (.tmp 23) rfl (w.heap.size + 1) noVecB.cells rfl rfl 27 _ R3.out (by kernel_rfl) rfl (by kernel_rfl) ?_))
    (try simp only [Exit.inBlock, Exit.then])
    refine bodyPost_ret (results_cell_row2 (P := Try.prog) (fn := Try.f25) rfl _ _ (w.heap.size + 1) 27 noVecB.cells (0, 0) _ rfl PN.out Try.underlying27 rfl (by kernel_rfl)) rfl ?_
    exact ⟨by rw [HV.out, HO.out]; rfl, SN.out⟩
  have d1 : decide (own < 1) = false := by simpa using o1
  by_cases o2 : 65535 < own
  · have e1 : ofE x own = 1 := OE.out.trans ((if_neg NK.out).trans (if_pos (.inr o2)))
    have HO := Lib.hid e1
    have HV : Hid (ofV x own = noVecB) := Lib.hid (OV.out.trans (if_neg (by rw [e1]; decide)))
    have d2 : decide (65535 < own) = true := by simpa using o2
    clear e1 o1 o2
    go_wp2_with (first
      | (refine wpList_store_row rfl 27 (.tmp 4) (.tmp 23) rfl (w.heap.size + 1) noVecB.cells rfl rfl 27 _ R3.out (by kernel_rfl) rfl (by kernel_rfl) ?_))
    (try simp only [Exit.inBlock, Exit.then])
    refine bodyPost_ret (results_cell_row2 (P := Try.prog) (fn := Try.f25) rfl _ _ (w.heap.size + 1) 27 noVecB.cells (0, 0) _ rfl PN.out Try.underlying27 rfl (by kernel_rfl)) rfl ?_
    exact ⟨by rw [HV.out, HO.out]; rfl, SN.out⟩
  have d2 : decide (65535 < own) = false := by simpa using o2
  have e1 : ofE x own = 0 := OE.out.trans ((if_neg NK.out).trans (if_neg (by omega)))
  have HO := Lib.hid e1
  have HV : Hid (ofV x own = ⟨x.root, x.cost, x.bridge, x.port, own⟩) := Lib.hid (OV.out.trans (if_pos e1))
  clear e1 o1 o2
  go_wp2_with (first
    | (refine wpList_load_ib 25 (.tmp 24) rfl rfl rfl LR.out ?_)
    | (refine wpList_load_ib 25 (.tmp 28) rfl rfl rfl LB.out ?_)
    | (refine wpList_store_row rfl 27 (.tmp 4) (.tmp 33) rfl (w.heap.size + 1) (⟨x.root, x.cost, x.bridge, x.port, own⟩ : Vec).cells rfl rfl 27 _ R3.out (by kernel_rfl) rfl (by simp [Vec.cells, Value.oneCell']) ?_))
  (try simp only [Exit.inBlock, Exit.then])
  refine bodyPost_ret (results_cell_row2 (P := Try.prog) (fn := Try.f25) rfl _ _ (w.heap.size + 1) 27 (⟨x.root, x.cost, x.bridge, x.port, own⟩ : Vec).cells (0, 0) _ rfl PV.out Try.underlying27 rfl (by kernel_rfl)) rfl ?_
  exact ⟨by rw [HV.out, HO.out]; rfl, SV.out⟩

set_option maxHeartbeats 4000000 in
theorem vectorTells_walk (v0 v1 : Value) (w : World) (h0 : Arg w (.cat 1 (.int .i64) (.cat 1 (.int .i64) (.cat 7 (.cat 1 (.int .i64) (.cat 6 (.arr 6 1 (.int .u8)) .nil)) (.cat 1 (.int .i64) (.cat 7 (.cat 1 (.int .i64) (.cat 6 (.arr 6 1 (.int .u8)) .nil)) (.cat 1 (.int .i64) (.cat 1 (.int .i64) (.cat 1 (.int .i64) (.cat 1 (.int .i64) (.cat 1 (.int .i64) .nil)))))))))) v0) (h1 : Arg w (.int .i64) v1) :
    Calls Try.prog 8 #[v0, v1] w fun e w' => e = .returned (.bool true) ∧ Below w.heap.size w w' := by
  obtain ⟨x, rfl, -⟩ := arg_bpd h0
  obtain ⟨own, rfl, -⟩ := h1.int
  clear h0 h1
  have b1 := heap_alloc_new w (.cells x.cells 39)
  have s1 := (Step.refl None w).alloc (.cells x.cells 39)
  obtain ⟨W, hW⟩ : ∃ W, w.alloc (.cells x.cells 39) = W := ⟨_, rfl⟩
  rw [hW] at b1 s1
  have HE := Lib.hid hW
  have B1 := Lib.hid b1
  have S1 := Lib.hid s1
  clear hW b1 s1
  go_enter Try.func8, Try.ntmps8
  go_wp2_with (first
    | rw [HE.out])
  refine (awake_any _).mono ?_
  rintro e w2 ⟨rfl, s2⟩
  have S2 := Lib.hid (S1.out.then_ s2)
  have B2 := Lib.hid (s2.blk B1.out (fun s => s.elim))
  clear s2 S1 B1 HE
  go_wp2_with (first
    | (refine wpList_load_ib 39 (.tmp 2) rfl rfl rfl (load_bpdb B2.out) ?_))
  refine (of_any x own w2).mono ?_
  rintro e w3 ⟨rfl, s3⟩
  obtain ⟨V, hV⟩ : ∃ V, ofV x own = V := ⟨_, rfl⟩
  have s4 := step_setRow ((Step.refl None w3).alloc (.cells #[.int .i64 0, .int .u8 0, .int .u8 0, .int .u8 0, .int .u8 0, .int .u8 0, .int .u8 0, .int .i64 0, .int .i64 0, .int .u8 0, .int .u8 0, .int .u8 0, .int .u8 0, .int .u8 0, .int .u8 0, .int .i64 0, .int .i64 0] 27)) (g := w3.heap.size) (fun h => by omega) V.cells
  have n4 := setRow_heap _ _ _ V.cells _ _ (heap_alloc_new w3 (.cells #[.int .i64 0, .int .u8 0, .int .u8 0, .int .u8 0, .int .u8 0, .int .u8 0, .int .u8 0, .int .i64 0, .int .i64 0, .int .u8 0, .int .u8 0, .int .u8 0, .int .u8 0, .int .u8 0, .int .u8 0, .int .i64 0, .int .i64 0] 27))
  obtain ⟨W4, hW4⟩ : ∃ W4, (w3.alloc (.cells #[.int .i64 0, .int .u8 0, .int .u8 0, .int .u8 0, .int .u8 0, .int .u8 0, .int .u8 0, .int .i64 0, .int .i64 0, .int .u8 0, .int .u8 0, .int .u8 0, .int .u8 0, .int .u8 0, .int .u8 0, .int .i64 0, .int .i64 0] 27)).setRow w3.heap.size V.cells = W4 := ⟨_, rfl⟩
  rw [hW4] at s4 n4
  rw [hV]
  have HE4 := Lib.hid hW4
  have N4 := Lib.hid n4
  have B4 := Lib.hid (s4.blk (s3.blk B2.out (fun s => s.elim)) (fun s => s.elim))
  have S4 := Lib.hid ((S2.out.then_ s3).then_ s4)
  clear hW4 s4 n4 s3 B2 S2
  go_wp2_with (first
    | rw [HE4.out]
    | (refine wpList_load_ib 39 (.tmp 2) rfl rfl rfl (load_bpdb B4.out) ?_)
    | (refine wpList_store_row rfl 27 (.tmp 6) (.tmp 15) rfl w3.heap.size V.cells rfl rfl 27 _ (heap_alloc_new w3 _) (by kernel_rfl) rfl (by simp [Vec.cells, Value.oneCell']) ?_))
  refine (rof_any x own W4).mono ?_
  rintro e w5 ⟨rfl, s5⟩
  have s6 := step_setRow ((Step.refl None w5).alloc (.cells #[.int .i64 0, .int .u8 0, .int .u8 0, .int .u8 0, .int .u8 0, .int .u8 0, .int .u8 0, .int .i64 0, .int .i64 0, .int .u8 0, .int .u8 0, .int .u8 0, .int .u8 0, .int .u8 0, .int .u8 0, .int .i64 0, .int .i64 0] 27)) (g := w5.heap.size) (fun h => by omega) V.cells
  have n6 := setRow_heap _ _ _ V.cells _ _ (heap_alloc_new w5 (.cells #[.int .i64 0, .int .u8 0, .int .u8 0, .int .u8 0, .int .u8 0, .int .u8 0, .int .u8 0, .int .i64 0, .int .i64 0, .int .u8 0, .int .u8 0, .int .u8 0, .int .u8 0, .int .u8 0, .int .u8 0, .int .i64 0, .int .i64 0] 27))
  obtain ⟨W6, hW6⟩ : ∃ W6, (w5.alloc (.cells #[.int .i64 0, .int .u8 0, .int .u8 0, .int .u8 0, .int .u8 0, .int .u8 0, .int .u8 0, .int .i64 0, .int .i64 0, .int .u8 0, .int .u8 0, .int .u8 0, .int .u8 0, .int .u8 0, .int .u8 0, .int .i64 0, .int .i64 0] 27)).setRow w5.heap.size V.cells = W6 := ⟨_, rfl⟩
  rw [hW6] at s6 n6
  rw [hV]
  have HE6 := Lib.hid hW6
  have N6 := Lib.hid (load_block n6 rfl)
  have N5 := Lib.hid (load_block (s6.blk (s5.blk N4.out (fun s => s.elim)) (fun s => s.elim)) rfl)
  have S6 := Lib.hid ((S4.out.then_ s5).then_ s6)
  have he := eq_vec V V
  simp only [BEq.rfl] at he
  clear hW6 s6 n6 s5 hV
  go_wp2_with (first
    | rw [HE6.out]
    | (refine wpList_load_ib 27 (.tmp 6) rfl rfl rfl N5.out ?_)
    | (refine wpList_load_ib 27 (.tmp 8) rfl rfl rfl N6.out ?_)
    | (refine wpList_store_row rfl 27 (.tmp 8) (.tmp 21) rfl w5.heap.size V.cells rfl rfl 27 _ (heap_alloc_new w5 _) (by kernel_rfl) rfl (by simp [Vec.cells, Value.oneCell']) ?_))
  go_ret
  exact ⟨rfl, S6.out.toBelow⟩
end Go.Proofs.Ytehlaomippbehaa
