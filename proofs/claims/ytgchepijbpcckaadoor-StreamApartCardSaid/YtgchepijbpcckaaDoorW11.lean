/- The document's Take. -/
import Derived.Test.YtgchepijbpcckaaDoorW10
import Derived.Test.YtgchepijbpcckaaDoorCut
namespace Go.Proofs.YtgchepijbpcckaaDoor
open Go.RowKit Go.Gm

set_option maxRecDepth 100000 in
set_option maxHeartbeats 8000000 in
theorem rtake_c1 (g : Nat) (v : Value) (s : Stm) (bs : List Value) (ep sq ak : Int) (n : Note) (bo : Option Addr) (bc : Nat) (w : World) (h : Sm 45 w g v s bs) (ok : s.Ok) (hb : Bytes w (.slice bo n.body.length bc) n.body) (hbl : n.body.length ≤ 10000) (hno : okP ep sq ak n = false) :
    Calls Tryd.prog 22 #[.pointer (some ⟨g, 0, none⟩), .agg (n.packet ep sq ak (.slice bo n.body.length bc))] w (TakeEnds g v s ep sq ak n bo bc w 45) := by
  have p1 := (heap_alloc_new w (.cells (n.packet ep sq ak (.slice bo n.body.length bc)) 38))
  have s1 := ((Step.refl None w).alloc (.cells (n.packet ep sq ak (.slice bo n.body.length bc)) 38)).alloc (.cells #[.int .i64 0, .int .i64 0, .int .u8 0, .int .u8 0, .int .u8 0, .int .u8 0, .int .u8 0, .int .u8 0, .int .i64 0, .int .i64 0, .slice none 0 0] 36)
  have p1' := (Below.heap_alloc _ (.cells #[.int .i64 0, .int .i64 0, .int .u8 0, .int .u8 0, .int .u8 0, .int .u8 0, .int .u8 0, .int .u8 0, .int .i64 0, .int .i64 0, .slice none 0 0] 36) w.heap.size (by simp)).trans p1
  have p2 := heap_alloc_new (w.alloc (.cells (n.packet ep sq ak (.slice bo n.body.length bc)) 38)) (.cells #[.int .i64 0, .int .i64 0, .int .u8 0, .int .u8 0, .int .u8 0, .int .u8 0, .int .u8 0, .int .u8 0, .int .i64 0, .int .i64 0, .slice none 0 0] 36)
  rw [World.size_alloc] at p2
  obtain ⟨W, hW⟩ : ∃ W, (w.alloc (.cells (n.packet ep sq ak (.slice bo n.body.length bc)) 38)).alloc (.cells #[.int .i64 0, .int .i64 0, .int .u8 0, .int .u8 0, .int .u8 0, .int .u8 0, .int .u8 0, .int .u8 0, .int .i64 0, .int .i64 0, .slice none 0 0] 36) = W := ⟨_, rfl⟩
  rw [hW] at p1' p2 s1
  have HE := Lib.hid hW
  have LD := Lib.hid (load_packet p1')
  have P1 := Lib.hid p1'
  have P2 := Lib.hid p2
  have S1 := Lib.hid s1
  have H := Lib.hid h
  have B1 := Lib.hid (hb.step s1 (fun _ _ s => s.elim))
  have HBL := Lib.hid hbl
  have OK := Lib.hid ok
  have gl := Lib.hid (blk_lt h.st)
  have E0 := Lib.hid (show s.take ⟨ep, sq, ak, n⟩ = (s, bare, false, 2) by unfold Stm.take; rw [if_pos hno])
  have hcode : codeB ep sq ak n = 1 := by simp [codeB, hno]
  clear h ok hb hW p1 p1' p2 s1 hbl
  go_enter Tryd.func22, Tryd.ntmps22
  go_wp2_with (first | rw [HE.out] | (refine wpList_load_if 38 (.tmp 3) rfl rfl rfl LD.out ?_))
  refine (rencode_all ep sq ak n bo bc W B1.out HBL.out).mono ?_
  rintro e w2 ⟨u, rfl, -, s2⟩
  rw [hcode]
  have S2 := Lib.hid (S1.out.then_ s2)
  have Q1 := Lib.hid (s2.blk P1.out (fun s => s.elim))
  have Q2 := Lib.hid (s2.blk P2.out (fun s => s.elim))
  have H2 := Lib.hid (H.out.still S2.out)
  clear s2 LD P1 P2 S1 B1 HE
  go_wp2_with (first | (refine wpList_store_row rfl 36 (.tmp 4) (.tmp 17) rfl (w.heap.size + 1) #[.int .i64 0, .int .i64 0, .int .u8 0, .int .u8 0, .int .u8 0, .int .u8 0, .int .u8 0, .int .u8 0, .int .i64 0, .int .i64 0, .slice none 0 0] rfl rfl 36 _ Q2.out (by kernel_rfl) rfl (by simp [Value.oneCell']) ?_))
  (try simp only [Exit.inBlock, Exit.then])
  refine bodyPost_ret (results_cell_row3 (P := Tryd.prog) (fn := Tryd.f22) rfl _ _ (w.heap.size + 1) 36 #[.int .i64 0, .int .i64 0, .int .u8 0, .int .u8 0, .int .u8 0, .int .u8 0, .int .u8 0, .int .u8 0, .int .i64 0, .int .i64 0, .slice none 0 0] (0, 0) _ rfl (setRow_heap _ _ _ _ _ _ Q2.out) Tryd.underlying36 rfl (by kernel_rfl)) rfl ?_
  have WW := Step.setRow (S := None) S2.out (g := w.heap.size + 1) (fun h => by omega) #[.int .i64 0, .int .i64 0, .int .u8 0, .int .u8 0, .int .u8 0, .int .u8 0, .int .u8 0, .int .u8 0, .int .i64 0, .int .i64 0, .slice none 0 0]
  refine ⟨_, by rw [E0.out]; rfl, by rw [E0.out]; rfl, ?_⟩
  rw [E0.out]
  exact ⟨_, _, H.out.still WW, WW.none, fun _ hk => .inl hk⟩
set_option maxRecDepth 100000 in
set_option maxHeartbeats 8000000 in
theorem rtake_c2 (g : Nat) (v : Value) (s : Stm) (bs : List Value) (ep sq ak : Int) (n : Note) (bo : Option Addr) (bc : Nat) (w : World) (h : Sm 45 w g v s bs) (ok : s.Ok) (hb : Bytes w (.slice bo n.body.length bc) n.body) (hbl : n.body.length ≤ 10000) (hyes : okP ep sq ak n = true) (hep : ep ≠ s.ep) :
    Calls Tryd.prog 22 #[.pointer (some ⟨g, 0, none⟩), .agg (n.packet ep sq ak (.slice bo n.body.length bc))] w (TakeEnds g v s ep sq ak n bo bc w 45) := by
  have p1 := (heap_alloc_new w (.cells (n.packet ep sq ak (.slice bo n.body.length bc)) 38))
  have s1 := ((Step.refl None w).alloc (.cells (n.packet ep sq ak (.slice bo n.body.length bc)) 38)).alloc (.cells #[.int .i64 0, .int .i64 0, .int .u8 0, .int .u8 0, .int .u8 0, .int .u8 0, .int .u8 0, .int .u8 0, .int .i64 0, .int .i64 0, .slice none 0 0] 36)
  have p1' := (Below.heap_alloc _ (.cells #[.int .i64 0, .int .i64 0, .int .u8 0, .int .u8 0, .int .u8 0, .int .u8 0, .int .u8 0, .int .u8 0, .int .i64 0, .int .i64 0, .slice none 0 0] 36) w.heap.size (by simp)).trans p1
  have p2 := heap_alloc_new (w.alloc (.cells (n.packet ep sq ak (.slice bo n.body.length bc)) 38)) (.cells #[.int .i64 0, .int .i64 0, .int .u8 0, .int .u8 0, .int .u8 0, .int .u8 0, .int .u8 0, .int .u8 0, .int .i64 0, .int .i64 0, .slice none 0 0] 36)
  rw [World.size_alloc] at p2
  obtain ⟨W, hW⟩ : ∃ W, (w.alloc (.cells (n.packet ep sq ak (.slice bo n.body.length bc)) 38)).alloc (.cells #[.int .i64 0, .int .i64 0, .int .u8 0, .int .u8 0, .int .u8 0, .int .u8 0, .int .u8 0, .int .u8 0, .int .i64 0, .int .i64 0, .slice none 0 0] 36) = W := ⟨_, rfl⟩
  rw [hW] at p1' p2 s1
  have HE := Lib.hid hW
  have LD := Lib.hid (load_packet p1')
  have P1 := Lib.hid p1'
  have P2 := Lib.hid p2
  have S1 := Lib.hid s1
  have H := Lib.hid h
  have B1 := Lib.hid (hb.step s1 (fun _ _ s => s.elim))
  have HBL := Lib.hid hbl
  have OK := Lib.hid ok
  have gl := Lib.hid (blk_lt h.st)
  have hok : okP ep sq ak n = true := hyes
  have hcode : codeB ep sq ak n = 0 := by simp [codeB, hok]
  have E0 := Lib.hid (show s.take ⟨ep, sq, ak, n⟩ = (s, bare, false, 6) by unfold Stm.take; rw [if_neg (by simp [hok]), if_pos hep])
  have dep : (ep != s.ep) = true := by simpa using hep
  clear hep hyes hok
  clear h ok hb hW p1 p1' p2 s1 hbl
  go_enter Tryd.func22, Tryd.ntmps22
  go_wp2_with (first | rw [HE.out] | (refine wpList_load_if 38 (.tmp 3) rfl rfl rfl LD.out ?_))
  refine (rencode_all ep sq ak n bo bc W B1.out HBL.out).mono ?_
  rintro e w2 ⟨u, rfl, -, s2⟩
  rw [hcode]
  have S2 := Lib.hid (S1.out.then_ s2)
  have Q1 := Lib.hid (s2.blk P1.out (fun s => s.elim))
  have Q2 := Lib.hid (s2.blk P2.out (fun s => s.elim))
  have H2 := Lib.hid (H.out.still S2.out)
  clear s2 LD P1 P2 S1 B1 HE
  go_wp2_with fail
  refine wp_region_plan (fun w' => w'.cell? ⟨w.heap.size, 0, none⟩ = some (.int .i64 ep) ∧ w'.cell? ⟨g, 0, none⟩ = some (.int .i64 s.ep)) (.take 0 (.take 1 (.take 2 (.take 3 (.take 4 (.take 5 (.take 6 .done))))))) _
    (by simp only [Plan.map, opOf, List.getElem?_toArray, List.getElem?_cons_zero, List.getElem?_cons_succ, Option.getD_some]; rfl) (by kernel_rfl) (by kernel_rfl) (by kernel_rfl) (by decide) (by intro c a d v w; cases d <;> exact fun h => h) ⟨blk_cell Q1.out 0, blk_cell H2.out.st 0⟩ ?_
  repeat (first | (refine wpPlan.taken (by rfl) (by intro w' hS'; (try dsimp only at hS'); go_split_ands; go_simp; try with_reducible rfl) ?_; simp only [Act.put, List.setIfInBounds_toArray, List.set_cons_zero, List.set_cons_succ]) | (refine wpPlan.passed (by rfl) ?_; simp only [Act.put, List.setIfInBounds_toArray, List.set_cons_zero, List.set_cons_succ]))
  refine wpPlan.done ?_
  have Q1d := Lib.hid (show w2.drew.heap[w.heap.size]? = _ from Q1.out)
  have Q2d := Lib.hid (show w2.drew.heap[w.heap.size + 1]? = _ from Q2.out)
  have H3 := Lib.hid (H2.out.still ((Step.refl None w2).drew))
  have S3 := Lib.hid (S2.out.drew)
  go_wp2_with (first | (refine wpList_store_row rfl 36 (.tmp 4) (.tmp 25) rfl (w.heap.size + 1) #[.int .i64 0, .int .i64 0, .int .u8 0, .int .u8 0, .int .u8 0, .int .u8 0, .int .u8 0, .int .u8 0, .int .i64 0, .int .i64 0, .slice none 0 0] rfl rfl 36 _ Q2d.out (by kernel_rfl) rfl (by simp [Value.oneCell']) ?_))
  (try simp only [Exit.inBlock, Exit.then])
  refine bodyPost_ret (results_cell_row3 (P := Tryd.prog) (fn := Tryd.f22) rfl _ _ (w.heap.size + 1) 36 #[.int .i64 0, .int .i64 0, .int .u8 0, .int .u8 0, .int .u8 0, .int .u8 0, .int .u8 0, .int .u8 0, .int .i64 0, .int .i64 0, .slice none 0 0] (0, 0) _ rfl (setRow_heap _ _ _ _ _ _ Q2d.out) Tryd.underlying36 rfl (by kernel_rfl)) rfl ?_
  have WW := Step.setRow (S := None) S3.out (g := w.heap.size + 1) (fun h => by omega) #[.int .i64 0, .int .i64 0, .int .u8 0, .int .u8 0, .int .u8 0, .int .u8 0, .int .u8 0, .int .u8 0, .int .i64 0, .int .i64 0, .slice none 0 0]
  refine ⟨_, by rw [E0.out]; rfl, by rw [E0.out]; rfl, ?_⟩
  rw [E0.out]
  exact ⟨_, _, H.out.still WW, WW.none, fun _ hk => .inl hk⟩
set_option maxRecDepth 100000 in
set_option maxHeartbeats 8000000 in
theorem rtake_c3 (g : Nat) (v : Value) (s : Stm) (bs : List Value) (ep sq ak : Int) (n : Note) (bo : Option Addr) (bc : Nat) (w : World) (h : Sm 45 w g v s bs) (ok : s.Ok) (hb : Bytes w (.slice bo n.body.length bc) n.body) (hbl : n.body.length ≤ 10000) (hyes : okP ep sq ak n = true) (hep : ep = s.ep) (hk : 0 < sq ∧ n.kind = 0) :
    Calls Tryd.prog 22 #[.pointer (some ⟨g, 0, none⟩), .agg (n.packet ep sq ak (.slice bo n.body.length bc))] w (TakeEnds g v s ep sq ak n bo bc w 45) := by
  have p1 := (heap_alloc_new w (.cells (n.packet ep sq ak (.slice bo n.body.length bc)) 38))
  have s1 := ((Step.refl None w).alloc (.cells (n.packet ep sq ak (.slice bo n.body.length bc)) 38)).alloc (.cells #[.int .i64 0, .int .i64 0, .int .u8 0, .int .u8 0, .int .u8 0, .int .u8 0, .int .u8 0, .int .u8 0, .int .i64 0, .int .i64 0, .slice none 0 0] 36)
  have p1' := (Below.heap_alloc _ (.cells #[.int .i64 0, .int .i64 0, .int .u8 0, .int .u8 0, .int .u8 0, .int .u8 0, .int .u8 0, .int .u8 0, .int .i64 0, .int .i64 0, .slice none 0 0] 36) w.heap.size (by simp)).trans p1
  have p2 := heap_alloc_new (w.alloc (.cells (n.packet ep sq ak (.slice bo n.body.length bc)) 38)) (.cells #[.int .i64 0, .int .i64 0, .int .u8 0, .int .u8 0, .int .u8 0, .int .u8 0, .int .u8 0, .int .u8 0, .int .i64 0, .int .i64 0, .slice none 0 0] 36)
  rw [World.size_alloc] at p2
  obtain ⟨W, hW⟩ : ∃ W, (w.alloc (.cells (n.packet ep sq ak (.slice bo n.body.length bc)) 38)).alloc (.cells #[.int .i64 0, .int .i64 0, .int .u8 0, .int .u8 0, .int .u8 0, .int .u8 0, .int .u8 0, .int .u8 0, .int .i64 0, .int .i64 0, .slice none 0 0] 36) = W := ⟨_, rfl⟩
  rw [hW] at p1' p2 s1
  have HE := Lib.hid hW
  have LD := Lib.hid (load_packet p1')
  have P1 := Lib.hid p1'
  have P2 := Lib.hid p2
  have S1 := Lib.hid s1
  have H := Lib.hid h
  have B1 := Lib.hid (hb.step s1 (fun _ _ s => s.elim))
  have HBL := Lib.hid hbl
  have OK := Lib.hid ok
  have gl := Lib.hid (blk_lt h.st)
  have hok : okP ep sq ak n = true := hyes
  have hcode : codeB ep sq ak n = 0 := by simp [codeB, hok]
  have E0 := Lib.hid (show s.take ⟨ep, sq, ak, n⟩ = (s, bare, false, 2) by unfold Stm.take; rw [if_neg (by simp [hok]), if_neg (by simpa using hep), if_pos hk])
  have dep : (ep != s.ep) = false := by simpa using hep
  have dsq : decide (0 < sq) = true := by simpa using hk.1
  have dk : (n.kind == 0) = true := by simpa using hk.2
  clear hep hyes hok hk
  clear h ok hb hW p1 p1' p2 s1 hbl
  go_enter Tryd.func22, Tryd.ntmps22
  go_wp2_with (first | rw [HE.out] | (refine wpList_load_if 38 (.tmp 3) rfl rfl rfl LD.out ?_))
  refine (rencode_all ep sq ak n bo bc W B1.out HBL.out).mono ?_
  rintro e w2 ⟨u, rfl, -, s2⟩
  rw [hcode]
  have S2 := Lib.hid (S1.out.then_ s2)
  have Q1 := Lib.hid (s2.blk P1.out (fun s => s.elim))
  have Q2 := Lib.hid (s2.blk P2.out (fun s => s.elim))
  have H2 := Lib.hid (H.out.still S2.out)
  clear s2 LD P1 P2 S1 B1 HE
  go_wp2_with fail
  refine wp_region_plan (fun w' => w'.cell? ⟨w.heap.size, 0, none⟩ = some (.int .i64 ep) ∧ w'.cell? ⟨g, 0, none⟩ = some (.int .i64 s.ep)) (.take 0 (.take 1 (.take 2 (.take 3 (.take 4 (.take 5 (.take 6 .done))))))) _
    (by simp only [Plan.map, opOf, List.getElem?_toArray, List.getElem?_cons_zero, List.getElem?_cons_succ, Option.getD_some]; rfl) (by kernel_rfl) (by kernel_rfl) (by kernel_rfl) (by decide) (by intro c a d v w; cases d <;> exact fun h => h) ⟨blk_cell Q1.out 0, blk_cell H2.out.st 0⟩ ?_
  repeat (first | (refine wpPlan.taken (by rfl) (by intro w' hS'; (try dsimp only at hS'); go_split_ands; go_simp; try with_reducible rfl) ?_; simp only [Act.put, List.setIfInBounds_toArray, List.set_cons_zero, List.set_cons_succ]) | (refine wpPlan.passed (by rfl) ?_; simp only [Act.put, List.setIfInBounds_toArray, List.set_cons_zero, List.set_cons_succ]))
  refine wpPlan.done ?_
  have Q1d := Lib.hid (show w2.drew.heap[w.heap.size]? = _ from Q1.out)
  have Q2d := Lib.hid (show w2.drew.heap[w.heap.size + 1]? = _ from Q2.out)
  have H3 := Lib.hid (H2.out.still ((Step.refl None w2).drew))
  have S3 := Lib.hid (S2.out.drew)
  have x1 := blk_cell Q1d.out 1
  have x3 := blk_cell Q1d.out 3
  have x2 := blk_cell Q1d.out 2
  simp only [Note.packet, List.getElem?_toArray, List.getElem?_cons_zero, List.getElem?_cons_succ] at x1 x2 x3
  go_wp2_with (first | (refine wpList_store_row rfl 36 (.tmp 4) (.tmp 35) rfl (w.heap.size + 1) #[.int .i64 0, .int .i64 0, .int .u8 0, .int .u8 0, .int .u8 0, .int .u8 0, .int .u8 0, .int .u8 0, .int .i64 0, .int .i64 0, .slice none 0 0] rfl rfl 36 _ Q2d.out (by kernel_rfl) rfl (by simp [Value.oneCell']) ?_))
  (try simp only [Exit.inBlock, Exit.then])
  refine bodyPost_ret (results_cell_row3 (P := Tryd.prog) (fn := Tryd.f22) rfl _ _ (w.heap.size + 1) 36 #[.int .i64 0, .int .i64 0, .int .u8 0, .int .u8 0, .int .u8 0, .int .u8 0, .int .u8 0, .int .u8 0, .int .i64 0, .int .i64 0, .slice none 0 0] (0, 0) _ rfl (setRow_heap _ _ _ _ _ _ Q2d.out) Tryd.underlying36 rfl (by kernel_rfl)) rfl ?_
  have WW := Step.setRow (S := None) S3.out (g := w.heap.size + 1) (fun h => by omega) #[.int .i64 0, .int .i64 0, .int .u8 0, .int .u8 0, .int .u8 0, .int .u8 0, .int .u8 0, .int .u8 0, .int .i64 0, .int .i64 0, .slice none 0 0]
  refine ⟨_, by rw [E0.out]; rfl, by rw [E0.out]; rfl, ?_⟩
  rw [E0.out]
  exact ⟨_, _, H.out.still WW, WW.none, fun _ hk => .inl hk⟩
set_option maxRecDepth 100000 in
set_option maxHeartbeats 8000000 in
theorem rtake_az (g : Nat) (v : Value) (s : Stm) (bs : List Value) (ep sq ak : Int) (n : Note) (bo : Option Addr) (bc : Nat) (w : World) (h : Sm 45 w g v s bs) (ok : s.Ok) (hb : Bytes w (.slice bo n.body.length bc) n.body) (hbl : n.body.length ≤ 10000) (hyes : okP ep sq ak n = true) (hep : ep = s.ep) (hz : sq = 0) (ha : ak < s.first) :
    Calls Tryd.prog 22 #[.pointer (some ⟨g, 0, none⟩), .agg (n.packet ep sq ak (.slice bo n.body.length bc))] w (TakeEnds g v s ep sq ak n bo bc w 45) := by
  have p1 := (heap_alloc_new w (.cells (n.packet ep sq ak (.slice bo n.body.length bc)) 38))
  have s1 := ((Step.refl None w).alloc (.cells (n.packet ep sq ak (.slice bo n.body.length bc)) 38)).alloc (.cells #[.int .i64 0, .int .i64 0, .int .u8 0, .int .u8 0, .int .u8 0, .int .u8 0, .int .u8 0, .int .u8 0, .int .i64 0, .int .i64 0, .slice none 0 0] 36)
  have p1' := (Below.heap_alloc _ (.cells #[.int .i64 0, .int .i64 0, .int .u8 0, .int .u8 0, .int .u8 0, .int .u8 0, .int .u8 0, .int .u8 0, .int .i64 0, .int .i64 0, .slice none 0 0] 36) w.heap.size (by simp)).trans p1
  have p2 := heap_alloc_new (w.alloc (.cells (n.packet ep sq ak (.slice bo n.body.length bc)) 38)) (.cells #[.int .i64 0, .int .i64 0, .int .u8 0, .int .u8 0, .int .u8 0, .int .u8 0, .int .u8 0, .int .u8 0, .int .i64 0, .int .i64 0, .slice none 0 0] 36)
  rw [World.size_alloc] at p2
  obtain ⟨W, hW⟩ : ∃ W, (w.alloc (.cells (n.packet ep sq ak (.slice bo n.body.length bc)) 38)).alloc (.cells #[.int .i64 0, .int .i64 0, .int .u8 0, .int .u8 0, .int .u8 0, .int .u8 0, .int .u8 0, .int .u8 0, .int .i64 0, .int .i64 0, .slice none 0 0] 36) = W := ⟨_, rfl⟩
  rw [hW] at p1' p2 s1
  have HE := Lib.hid hW
  have LD := Lib.hid (load_packet p1')
  have P1 := Lib.hid p1'
  have P2 := Lib.hid p2
  have S1 := Lib.hid s1
  have H := Lib.hid h
  have B1 := Lib.hid (hb.step s1 (fun _ _ s => s.elim))
  have HBL := Lib.hid hbl
  have OK := Lib.hid ok
  have gl := Lib.hid (blk_lt h.st)
  have hok : okP ep sq ak n = true := hyes
  have hcode : codeB ep sq ak n = 0 := by simp [codeB, hok]
  have E0 := Lib.hid (show s.take ⟨ep, sq, ak, n⟩ = ({ s.acked ak with due := s.due, taken := s.taken }, bare, false, 0) by
    unfold Stm.take; rw [if_neg (by simp [hok]), if_neg (by simpa using hep), if_neg (by simp [hz]), if_pos (.inl hz)]
    have e1 : (s.acked ak).taken = s.taken := by unfold Stm.acked; split <;> rfl
    have e3 : (s.acked ak).due = s.due := by unfold Stm.acked; split <;> rfl
    simp [hz, ← e1])
  have dsq : decide (0 < sq) = false := by simp [hz]
  have dz : (sq == 0) = true := by simpa using hz
  have dep : (ep != s.ep) = false := by simpa using hep
  have ADU := Lib.hid (show (s.acked ak).due = s.due by unfold Stm.acked; split <;> rfl)
  have ATK := Lib.hid (show (s.acked ak).taken = s.taken by unfold Stm.acked; split <;> rfl)
  have tk := ok.taken
  have fi := ok.first
  have fs := ok.sum
  have fo := ok.out
  have akb := (okP_parts hok).2.2.2
  have fle : s.first ≤ 1073741824 := by omega
  have wt1 : wrap64 (s.taken + 1) = s.taken + 1 := IntWalk.wrap64_in _ ⟨by omega, by omega⟩
  have wt2 : IntKind.i64.wrap (s.taken + 1) = s.taken + 1 := IntWalk.i64_in _ (by omega)
  have wo1 : wrap64 (s.first + s.out) = s.first + s.out := IntWalk.wrap64_in _ ⟨by omega, by omega⟩
  have wo2 : IntKind.i64.wrap (s.first + s.out) = s.first + s.out := IntWalk.i64_in _ (by omega)
  have HA := Lib.hid (show s.acked ak = s by unfold Stm.acked; rw [if_neg]; omega)
  have q1 : decide (s.first ≤ ak) = false := decide_eq_false (by omega)
  clear hyes hok hep tk fi fs fo akb fle ha hz
  clear h ok hb hW p1 p1' p2 s1 hbl
  go_enter Tryd.func22, Tryd.ntmps22
  go_wp2_with (first | rw [HE.out] | (refine wpList_load_if 38 (.tmp 3) rfl rfl rfl LD.out ?_))
  refine (rencode_all ep sq ak n bo bc W B1.out HBL.out).mono ?_
  rintro e w2 ⟨u, rfl, -, s2⟩
  rw [hcode]
  have S2 := Lib.hid (S1.out.then_ s2)
  have Q1 := Lib.hid (s2.blk P1.out (fun s => s.elim))
  have Q2 := Lib.hid (s2.blk P2.out (fun s => s.elim))
  have H2 := Lib.hid (H.out.still S2.out)
  clear s2 LD P1 P2 S1 B1 HE
  go_wp2_with fail
  refine wp_region_plan (fun w' => w'.cell? ⟨w.heap.size, 0, none⟩ = some (.int .i64 ep) ∧ w'.cell? ⟨g, 0, none⟩ = some (.int .i64 s.ep)) (.take 0 (.take 1 (.take 2 (.take 3 (.take 4 (.take 5 (.take 6 .done))))))) _
    (by simp only [Plan.map, opOf, List.getElem?_toArray, List.getElem?_cons_zero, List.getElem?_cons_succ, Option.getD_some]; rfl) (by kernel_rfl) (by kernel_rfl) (by kernel_rfl) (by decide) (by intro c a d v w; cases d <;> exact fun h => h) ⟨blk_cell Q1.out 0, blk_cell H2.out.st 0⟩ ?_
  repeat (first | (refine wpPlan.taken (by rfl) (by intro w' hS'; (try dsimp only at hS'); go_split_ands; go_simp; try with_reducible rfl) ?_; simp only [Act.put, List.setIfInBounds_toArray, List.set_cons_zero, List.set_cons_succ]) | (refine wpPlan.passed (by rfl) ?_; simp only [Act.put, List.setIfInBounds_toArray, List.set_cons_zero, List.set_cons_succ]))
  refine wpPlan.done ?_
  have Q1d := Lib.hid (show w2.drew.heap[w.heap.size]? = _ from Q1.out)
  have Q2d := Lib.hid (show w2.drew.heap[w.heap.size + 1]? = _ from Q2.out)
  have H3 := Lib.hid (H2.out.still ((Step.refl None w2).drew))
  have S3 := Lib.hid (S2.out.drew)
  have x1 := blk_cell Q1d.out 1
  have x3 := blk_cell Q1d.out 3
  have x2 := blk_cell Q1d.out 2
  simp only [Note.packet, List.getElem?_toArray, List.getElem?_cons_zero, List.getElem?_cons_succ] at x1 x2 x3
  go_wp2_with fail
  have g3 := blk_cell H3.out.st 3
  have g4 := blk_cell H3.out.st 4
  simp only [Stm.cells, List.getElem?_toArray, List.getElem?_cons_zero, List.getElem?_cons_succ] at g3 g4
  refine wp_region_plan (fun w' => w'.cell? ⟨w.heap.size, 2, none⟩ = some (.int .i64 ak) ∧ w'.cell? ⟨g, 3, none⟩ = some (.int .i64 s.first) ∧ w'.cell? ⟨g, 4, none⟩ = some (.int .i64 s.out)) (.take 0 (.take 1 (.take 2 (.take 3 (.take 4 (.take 5 (.take 6 (.take 7 (.take 8 (.take 9 (.take 10 (.take 11 (.take 12 (.take 13 (.take 14 (.take 15 (.take 16 (.take 17 (.take 18 (.take 19 (.take 20 .done))))))))))))))))))))) _
    (by simp only [Plan.map, opOf, List.getElem?_toArray, List.getElem?_cons_zero, List.getElem?_cons_succ, Option.getD_some]; rfl) (by kernel_rfl) (by kernel_rfl) (by kernel_rfl) (by decide) (by intro c a d v w; cases d <;> exact fun h => h) ⟨x2, g3, g4⟩ ?_
  repeat (first | (refine wpPlan.taken (by rfl) (by intro w' hS'; (try dsimp only at hS'); go_split_ands; go_simp; try with_reducible rfl) ?_; simp only [Act.put, List.setIfInBounds_toArray, List.set_cons_zero, List.set_cons_succ]) | (refine wpPlan.passed (by rfl) ?_; simp only [Act.put, List.setIfInBounds_toArray, List.set_cons_zero, List.set_cons_succ]))
  refine wpPlan.done ?_
  obtain ⟨w4, hw4⟩ : ∃ w4, w2.drew.drew = w4 := ⟨_, rfl⟩
  have s34 : Step None w2.drew w4 := by rw [← hw4]; exact (Step.refl None w2.drew).drew
  rw [hw4]
  have H4 : Hid (Sm 45 w4 g v (s.acked ak) bs) := Lib.hid (by rw [HA.out]; exact H3.out.still s34)
  have S4 : Hid (Step (Of g v) w w4) := Lib.hid ((S3.out.then_ s34).none)
  have L4 : Hid (∀ k, Leads v k → Leads v k ∨ w.heap.size + 2 ≤ k) := Lib.hid fun k hk => .inl hk
  have Q14 := Lib.hid (s34.blk Q1d.out (fun s => s.elim))
  have Q24 := Lib.hid (s34.blk Q2d.out (fun s => s.elim))
  clear hw4 s34 x1 x2 x3 g3 g4 H3 S3 Q1d Q2d H2 S2 Q1 Q2
  have y1 := blk_cell Q14.out 1
  simp only [Note.packet, List.getElem?_toArray, List.getElem?_cons_zero, List.getElem?_cons_succ] at y1
  go_wp2_with (first | (refine wpList_store_row rfl 36 (.tmp 4) (.tmp 95) rfl (w.heap.size + 1) #[.int .i64 0, .int .i64 0, .int .u8 0, .int .u8 0, .int .u8 0, .int .u8 0, .int .u8 0, .int .u8 0, .int .i64 0, .int .i64 0, .slice none 0 0] rfl rfl 36 _ Q24.out (by kernel_rfl) rfl (by simp [Value.oneCell']) ?_))
  (try simp only [Exit.inBlock, Exit.then])
  refine bodyPost_ret (results_cell_row3 (P := Tryd.prog) (fn := Tryd.f22) rfl _ _ (w.heap.size + 1) 36 #[.int .i64 0, .int .i64 0, .int .u8 0, .int .u8 0, .int .u8 0, .int .u8 0, .int .u8 0, .int .u8 0, .int .i64 0, .int .i64 0, .slice none 0 0] (0, 0) _ rfl (setRow_heap _ _ _ _ _ _ Q24.out) Tryd.underlying36 rfl (by kernel_rfl)) rfl ?_
  refine ⟨_, by rw [E0.out]; rfl, by rw [E0.out]; rfl, ?_⟩
  rw [E0.out]
  exact Went.take (s' := { s.acked ak with due := s.due, taken := s.taken }) (by decide) (by decide) H.out S4.out L4.out H4.out (Step.refl _ _) (H4.out.st.trans (by simp [Stm.cells, ATK.out, ADU.out])) rfl Q24.out _
set_option maxRecDepth 100000 in
set_option maxHeartbeats 8000000 in
theorem rtake_an (g : Nat) (v : Value) (s : Stm) (bs : List Value) (ep sq ak : Int) (n : Note) (bo : Option Addr) (bc : Nat) (w : World) (h : Sm 45 w g v s bs) (ok : s.Ok) (hb : Bytes w (.slice bo n.body.length bc) n.body) (hbl : n.body.length ≤ 10000) (hyes : okP ep sq ak n = true) (hep : ep = s.ep) (hk : ¬ (0 < sq ∧ n.kind = 0)) (hz : sq ≠ 0) (hn : sq ≠ s.taken + 1) (ha : ak < s.first) :
    Calls Tryd.prog 22 #[.pointer (some ⟨g, 0, none⟩), .agg (n.packet ep sq ak (.slice bo n.body.length bc))] w (TakeEnds g v s ep sq ak n bo bc w 45) := by
  have p1 := (heap_alloc_new w (.cells (n.packet ep sq ak (.slice bo n.body.length bc)) 38))
  have s1 := ((Step.refl None w).alloc (.cells (n.packet ep sq ak (.slice bo n.body.length bc)) 38)).alloc (.cells #[.int .i64 0, .int .i64 0, .int .u8 0, .int .u8 0, .int .u8 0, .int .u8 0, .int .u8 0, .int .u8 0, .int .i64 0, .int .i64 0, .slice none 0 0] 36)
  have p1' := (Below.heap_alloc _ (.cells #[.int .i64 0, .int .i64 0, .int .u8 0, .int .u8 0, .int .u8 0, .int .u8 0, .int .u8 0, .int .u8 0, .int .i64 0, .int .i64 0, .slice none 0 0] 36) w.heap.size (by simp)).trans p1
  have p2 := heap_alloc_new (w.alloc (.cells (n.packet ep sq ak (.slice bo n.body.length bc)) 38)) (.cells #[.int .i64 0, .int .i64 0, .int .u8 0, .int .u8 0, .int .u8 0, .int .u8 0, .int .u8 0, .int .u8 0, .int .i64 0, .int .i64 0, .slice none 0 0] 36)
  rw [World.size_alloc] at p2
  obtain ⟨W, hW⟩ : ∃ W, (w.alloc (.cells (n.packet ep sq ak (.slice bo n.body.length bc)) 38)).alloc (.cells #[.int .i64 0, .int .i64 0, .int .u8 0, .int .u8 0, .int .u8 0, .int .u8 0, .int .u8 0, .int .u8 0, .int .i64 0, .int .i64 0, .slice none 0 0] 36) = W := ⟨_, rfl⟩
  rw [hW] at p1' p2 s1
  have HE := Lib.hid hW
  have LD := Lib.hid (load_packet p1')
  have P1 := Lib.hid p1'
  have P2 := Lib.hid p2
  have S1 := Lib.hid s1
  have H := Lib.hid h
  have B1 := Lib.hid (hb.step s1 (fun _ _ s => s.elim))
  have HBL := Lib.hid hbl
  have OK := Lib.hid ok
  have gl := Lib.hid (blk_lt h.st)
  have hok : okP ep sq ak n = true := hyes
  have hcode : codeB ep sq ak n = 0 := by simp [codeB, hok]
  have hs0 := (okP_parts hok).2.2.1
  have dsq : decide (0 < sq) = true := by simp; omega
  have dz : (sq == 0) = false := by simpa using hz
  have dk : (n.kind == 0) = false := by simp; intro e; exact hk ⟨by omega, e⟩
  have E0 := Lib.hid (show s.take ⟨ep, sq, ak, n⟩ = ({ s.acked ak with due := true, taken := s.taken }, bare, false, 0) by
    unfold Stm.take; rw [if_neg (by simp [hok]), if_neg (by simpa using hep), if_neg hk, if_pos (.inr hn)]
    have e1 : (s.acked ak).taken = s.taken := by unfold Stm.acked; split <;> rfl
    have e3 : (s.acked ak).due = s.due := by unfold Stm.acked; split <;> rfl
    have e2 : 0 < sq := by omega
    simp [e2, ← e1])
  have dn : (sq != s.taken + 1) = true := by simpa using hn
  have dep : (ep != s.ep) = false := by simpa using hep
  have ADU := Lib.hid (show (s.acked ak).due = s.due by unfold Stm.acked; split <;> rfl)
  have ATK := Lib.hid (show (s.acked ak).taken = s.taken by unfold Stm.acked; split <;> rfl)
  have tk := ok.taken
  have fi := ok.first
  have fs := ok.sum
  have fo := ok.out
  have akb := (okP_parts hok).2.2.2
  have fle : s.first ≤ 1073741824 := by omega
  have wt1 : wrap64 (s.taken + 1) = s.taken + 1 := IntWalk.wrap64_in _ ⟨by omega, by omega⟩
  have wt2 : IntKind.i64.wrap (s.taken + 1) = s.taken + 1 := IntWalk.i64_in _ (by omega)
  have wo1 : wrap64 (s.first + s.out) = s.first + s.out := IntWalk.wrap64_in _ ⟨by omega, by omega⟩
  have wo2 : IntKind.i64.wrap (s.first + s.out) = s.first + s.out := IntWalk.i64_in _ (by omega)
  have HA := Lib.hid (show s.acked ak = s by unfold Stm.acked; rw [if_neg]; omega)
  have q1 : decide (s.first ≤ ak) = false := decide_eq_false (by omega)
  clear hyes hok hep tk fi fs fo akb fle ha hk hz hn hs0
  clear h ok hb hW p1 p1' p2 s1 hbl
  go_enter Tryd.func22, Tryd.ntmps22
  go_wp2_with (first | rw [HE.out] | (refine wpList_load_if 38 (.tmp 3) rfl rfl rfl LD.out ?_))
  refine (rencode_all ep sq ak n bo bc W B1.out HBL.out).mono ?_
  rintro e w2 ⟨u, rfl, -, s2⟩
  rw [hcode]
  have S2 := Lib.hid (S1.out.then_ s2)
  have Q1 := Lib.hid (s2.blk P1.out (fun s => s.elim))
  have Q2 := Lib.hid (s2.blk P2.out (fun s => s.elim))
  have H2 := Lib.hid (H.out.still S2.out)
  clear s2 LD P1 P2 S1 B1 HE
  go_wp2_with fail
  refine wp_region_plan (fun w' => w'.cell? ⟨w.heap.size, 0, none⟩ = some (.int .i64 ep) ∧ w'.cell? ⟨g, 0, none⟩ = some (.int .i64 s.ep)) (.take 0 (.take 1 (.take 2 (.take 3 (.take 4 (.take 5 (.take 6 .done))))))) _
    (by simp only [Plan.map, opOf, List.getElem?_toArray, List.getElem?_cons_zero, List.getElem?_cons_succ, Option.getD_some]; rfl) (by kernel_rfl) (by kernel_rfl) (by kernel_rfl) (by decide) (by intro c a d v w; cases d <;> exact fun h => h) ⟨blk_cell Q1.out 0, blk_cell H2.out.st 0⟩ ?_
  repeat (first | (refine wpPlan.taken (by rfl) (by intro w' hS'; (try dsimp only at hS'); go_split_ands; go_simp; try with_reducible rfl) ?_; simp only [Act.put, List.setIfInBounds_toArray, List.set_cons_zero, List.set_cons_succ]) | (refine wpPlan.passed (by rfl) ?_; simp only [Act.put, List.setIfInBounds_toArray, List.set_cons_zero, List.set_cons_succ]))
  refine wpPlan.done ?_
  have Q1d := Lib.hid (show w2.drew.heap[w.heap.size]? = _ from Q1.out)
  have Q2d := Lib.hid (show w2.drew.heap[w.heap.size + 1]? = _ from Q2.out)
  have H3 := Lib.hid (H2.out.still ((Step.refl None w2).drew))
  have S3 := Lib.hid (S2.out.drew)
  have x1 := blk_cell Q1d.out 1
  have x3 := blk_cell Q1d.out 3
  have x2 := blk_cell Q1d.out 2
  simp only [Note.packet, List.getElem?_toArray, List.getElem?_cons_zero, List.getElem?_cons_succ] at x1 x2 x3
  go_wp2_with fail
  have g3 := blk_cell H3.out.st 3
  have g4 := blk_cell H3.out.st 4
  simp only [Stm.cells, List.getElem?_toArray, List.getElem?_cons_zero, List.getElem?_cons_succ] at g3 g4
  refine wp_region_plan (fun w' => w'.cell? ⟨w.heap.size, 2, none⟩ = some (.int .i64 ak) ∧ w'.cell? ⟨g, 3, none⟩ = some (.int .i64 s.first) ∧ w'.cell? ⟨g, 4, none⟩ = some (.int .i64 s.out)) (.take 0 (.take 1 (.take 2 (.take 3 (.take 4 (.take 5 (.take 6 (.take 7 (.take 8 (.take 9 (.take 10 (.take 11 (.take 12 (.take 13 (.take 14 (.take 15 (.take 16 (.take 17 (.take 18 (.take 19 (.take 20 .done))))))))))))))))))))) _
    (by simp only [Plan.map, opOf, List.getElem?_toArray, List.getElem?_cons_zero, List.getElem?_cons_succ, Option.getD_some]; rfl) (by kernel_rfl) (by kernel_rfl) (by kernel_rfl) (by decide) (by intro c a d v w; cases d <;> exact fun h => h) ⟨x2, g3, g4⟩ ?_
  repeat (first | (refine wpPlan.taken (by rfl) (by intro w' hS'; (try dsimp only at hS'); go_split_ands; go_simp; try with_reducible rfl) ?_; simp only [Act.put, List.setIfInBounds_toArray, List.set_cons_zero, List.set_cons_succ]) | (refine wpPlan.passed (by rfl) ?_; simp only [Act.put, List.setIfInBounds_toArray, List.set_cons_zero, List.set_cons_succ]))
  refine wpPlan.done ?_
  obtain ⟨w4, hw4⟩ : ∃ w4, w2.drew.drew = w4 := ⟨_, rfl⟩
  have s34 : Step None w2.drew w4 := by rw [← hw4]; exact (Step.refl None w2.drew).drew
  rw [hw4]
  have H4 : Hid (Sm 45 w4 g v (s.acked ak) bs) := Lib.hid (by rw [HA.out]; exact H3.out.still s34)
  have S4 : Hid (Step (Of g v) w w4) := Lib.hid ((S3.out.then_ s34).none)
  have L4 : Hid (∀ k, Leads v k → Leads v k ∨ w.heap.size + 2 ≤ k) := Lib.hid fun k hk => .inl hk
  have Q14 := Lib.hid (s34.blk Q1d.out (fun s => s.elim))
  have Q24 := Lib.hid (s34.blk Q2d.out (fun s => s.elim))
  clear hw4 s34 x1 x2 x3 g3 g4 H3 S3 Q1d Q2d H2 S2 Q1 Q2
  have y1 := blk_cell Q14.out 1
  simp only [Note.packet, List.getElem?_toArray, List.getElem?_cons_zero, List.getElem?_cons_succ] at y1
  have c7 := blk_cell H4.out.st 7
  have f7 := blk_frozen H4.out.st 7
  simp only [Stm.cells, List.getElem?_toArray, List.getElem?_cons_zero, List.getElem?_cons_succ] at c7
  go_wp2_with fail
  have st5 := Lib.hid ((Step.refl (fun k => k = g) w4).setCell (p := ⟨g, 7, none⟩) (fun _ => rfl) (.bool true))
  have b5 := Lib.hid (blk_set H4.out.st 7 (.bool true))
  obtain ⟨W5, hW5⟩ : ∃ W5, w4.setCell ⟨g, 7, none⟩ (.bool true) = W5 := ⟨_, rfl⟩
  rw [hW5] at st5 b5 ⊢
  clear hW5 c7 f7 y1
  have gN : ¬ w.heap.size = g := by have := gl.out; omega
  have gN1 : ¬ w.heap.size + 1 = g := by have := gl.out; omega
  have Q15 := Lib.hid (st5.out.blk Q14.out gN)
  have Q25 := Lib.hid (st5.out.blk Q24.out gN1)
  have z1 := blk_cell Q15.out 1
  have z6 := blk_cell b5.out 6
  have Q16 := Lib.hid (show W5.drew.heap[w.heap.size]? = _ from Q15.out)
  have Q26 := Lib.hid (show W5.drew.heap[w.heap.size + 1]? = _ from Q25.out)
  have b6 := Lib.hid (show W5.drew.heap[g]? = _ from b5.out)
  have st6 := Lib.hid (st5.out.drew)
  clear gN gN1
  simp [Stm.cells, Note.packet, ATK.out] at z1 z6
  refine wp_region_plan (fun w' => w'.cell? ⟨w.heap.size, 1, none⟩ = some (.int .i64 sq) ∧ w'.cell? ⟨g, 6, none⟩ = some (.int .i64 s.taken)) (.take 0 (.take 1 (.take 2 (.take 3 (.take 4 (.take 5 (.take 6 (.take 7 .done)))))))) _
    (by simp only [Plan.map, opOf, List.getElem?_toArray, List.getElem?_cons_zero, List.getElem?_cons_succ, Option.getD_some]; rfl) (by kernel_rfl) (by kernel_rfl) (by kernel_rfl) (by decide) (by intro c a d v w; cases d <;> exact fun h => h) ⟨z1, z6⟩ ?_
  repeat (first | (refine wpPlan.taken (by rfl) (by intro w' hS'; (try dsimp only at hS'); go_split_ands; go_simp; try with_reducible rfl) ?_; simp only [Act.put, List.setIfInBounds_toArray, List.set_cons_zero, List.set_cons_succ]) | (refine wpPlan.passed (by rfl) ?_; simp only [Act.put, List.setIfInBounds_toArray, List.set_cons_zero, List.set_cons_succ]))
  refine wpPlan.done ?_
  go_wp2_with (first | (refine wpList_store_row rfl 36 (.tmp 4) (.tmp 107) rfl (w.heap.size + 1) #[.int .i64 0, .int .i64 0, .int .u8 0, .int .u8 0, .int .u8 0, .int .u8 0, .int .u8 0, .int .u8 0, .int .i64 0, .int .i64 0, .slice none 0 0] rfl rfl 36 _ Q26.out (by kernel_rfl) rfl (by simp [Value.oneCell']) ?_))
  (try simp only [Exit.inBlock, Exit.then])
  refine bodyPost_ret (results_cell_row3 (P := Tryd.prog) (fn := Tryd.f22) rfl _ _ (w.heap.size + 1) 36 #[.int .i64 0, .int .i64 0, .int .u8 0, .int .u8 0, .int .u8 0, .int .u8 0, .int .u8 0, .int .u8 0, .int .i64 0, .int .i64 0, .slice none 0 0] (0, 0) _ rfl (setRow_heap _ _ _ _ _ _ Q26.out) Tryd.underlying36 rfl (by kernel_rfl)) rfl ?_
  refine ⟨_, by rw [E0.out]; rfl, by rw [E0.out]; rfl, ?_⟩
  rw [E0.out]
  exact Went.take (s' := { s.acked ak with due := true, taken := s.taken }) (by decide) (by decide) H.out S4.out L4.out H4.out st6.out (b6.out.trans (by simp [Stm.cells, ATK.out])) rfl Q26.out _
set_option maxRecDepth 100000 in
set_option maxHeartbeats 8000000 in
theorem rtake_at (g : Nat) (v : Value) (s : Stm) (bs : List Value) (ep sq ak : Int) (n : Note) (bo : Option Addr) (bc : Nat) (w : World) (h : Sm 45 w g v s bs) (ok : s.Ok) (hb : Bytes w (.slice bo n.body.length bc) n.body) (hbl : n.body.length ≤ 10000) (hyes : okP ep sq ak n = true) (hep : ep = s.ep) (hk : ¬ (0 < sq ∧ n.kind = 0)) (hz : sq ≠ 0) (hn : sq = s.taken + 1) (ha : ak < s.first) :
    Calls Tryd.prog 22 #[.pointer (some ⟨g, 0, none⟩), .agg (n.packet ep sq ak (.slice bo n.body.length bc))] w (TakeEnds g v s ep sq ak n bo bc w 45) := by
  have p1 := (heap_alloc_new w (.cells (n.packet ep sq ak (.slice bo n.body.length bc)) 38))
  have s1 := ((Step.refl None w).alloc (.cells (n.packet ep sq ak (.slice bo n.body.length bc)) 38)).alloc (.cells #[.int .i64 0, .int .i64 0, .int .u8 0, .int .u8 0, .int .u8 0, .int .u8 0, .int .u8 0, .int .u8 0, .int .i64 0, .int .i64 0, .slice none 0 0] 36)
  have p1' := (Below.heap_alloc _ (.cells #[.int .i64 0, .int .i64 0, .int .u8 0, .int .u8 0, .int .u8 0, .int .u8 0, .int .u8 0, .int .u8 0, .int .i64 0, .int .i64 0, .slice none 0 0] 36) w.heap.size (by simp)).trans p1
  have p2 := heap_alloc_new (w.alloc (.cells (n.packet ep sq ak (.slice bo n.body.length bc)) 38)) (.cells #[.int .i64 0, .int .i64 0, .int .u8 0, .int .u8 0, .int .u8 0, .int .u8 0, .int .u8 0, .int .u8 0, .int .i64 0, .int .i64 0, .slice none 0 0] 36)
  rw [World.size_alloc] at p2
  obtain ⟨W, hW⟩ : ∃ W, (w.alloc (.cells (n.packet ep sq ak (.slice bo n.body.length bc)) 38)).alloc (.cells #[.int .i64 0, .int .i64 0, .int .u8 0, .int .u8 0, .int .u8 0, .int .u8 0, .int .u8 0, .int .u8 0, .int .i64 0, .int .i64 0, .slice none 0 0] 36) = W := ⟨_, rfl⟩
  rw [hW] at p1' p2 s1
  have HE := Lib.hid hW
  have LD := Lib.hid (load_packet p1')
  have P1 := Lib.hid p1'
  have P2 := Lib.hid p2
  have S1 := Lib.hid s1
  have H := Lib.hid h
  have B1 := Lib.hid (hb.step s1 (fun _ _ s => s.elim))
  have HBL := Lib.hid hbl
  have OK := Lib.hid ok
  have gl := Lib.hid (blk_lt h.st)
  have hok : okP ep sq ak n = true := hyes
  have hcode : codeB ep sq ak n = 0 := by simp [codeB, hok]
  have hs0 := (okP_parts hok).2.2.1
  have dsq : decide (0 < sq) = true := by simp; omega
  have dz : (sq == 0) = false := by simpa using hz
  have dk : (n.kind == 0) = false := by simp; intro e; exact hk ⟨by omega, e⟩
  have E0 := Lib.hid (show s.take ⟨ep, sq, ak, n⟩ = ({ s.acked ak with due := true, taken := s.taken + 1 }, n, true, 0) by
    unfold Stm.take; rw [if_neg (by simp [hok]), if_neg (by simpa using hep), if_neg hk, if_neg (by simp [hn]; omega)])
  have dn : (sq != s.taken + 1) = false := by simpa using hn
  have dep : (ep != s.ep) = false := by simpa using hep
  have ADU := Lib.hid (show (s.acked ak).due = s.due by unfold Stm.acked; split <;> rfl)
  have ATK := Lib.hid (show (s.acked ak).taken = s.taken by unfold Stm.acked; split <;> rfl)
  have tk := ok.taken
  have fi := ok.first
  have fs := ok.sum
  have fo := ok.out
  have akb := (okP_parts hok).2.2.2
  have fle : s.first ≤ 1073741824 := by omega
  have wt1 : wrap64 (s.taken + 1) = s.taken + 1 := IntWalk.wrap64_in _ ⟨by omega, by omega⟩
  have wt2 : IntKind.i64.wrap (s.taken + 1) = s.taken + 1 := IntWalk.i64_in _ (by omega)
  have wo1 : wrap64 (s.first + s.out) = s.first + s.out := IntWalk.wrap64_in _ ⟨by omega, by omega⟩
  have wo2 : IntKind.i64.wrap (s.first + s.out) = s.first + s.out := IntWalk.i64_in _ (by omega)
  have HA := Lib.hid (show s.acked ak = s by unfold Stm.acked; rw [if_neg]; omega)
  have q1 : decide (s.first ≤ ak) = false := decide_eq_false (by omega)
  clear hyes hok hep tk fi fs fo akb fle ha hk hz hn hs0
  clear h ok hb hW p1 p1' p2 s1 hbl
  go_enter Tryd.func22, Tryd.ntmps22
  go_wp2_with (first | rw [HE.out] | (refine wpList_load_if 38 (.tmp 3) rfl rfl rfl LD.out ?_))
  refine (rencode_all ep sq ak n bo bc W B1.out HBL.out).mono ?_
  rintro e w2 ⟨u, rfl, -, s2⟩
  rw [hcode]
  have S2 := Lib.hid (S1.out.then_ s2)
  have Q1 := Lib.hid (s2.blk P1.out (fun s => s.elim))
  have Q2 := Lib.hid (s2.blk P2.out (fun s => s.elim))
  have H2 := Lib.hid (H.out.still S2.out)
  clear s2 LD P1 P2 S1 B1 HE
  go_wp2_with fail
  refine wp_region_plan (fun w' => w'.cell? ⟨w.heap.size, 0, none⟩ = some (.int .i64 ep) ∧ w'.cell? ⟨g, 0, none⟩ = some (.int .i64 s.ep)) (.take 0 (.take 1 (.take 2 (.take 3 (.take 4 (.take 5 (.take 6 .done))))))) _
    (by simp only [Plan.map, opOf, List.getElem?_toArray, List.getElem?_cons_zero, List.getElem?_cons_succ, Option.getD_some]; rfl) (by kernel_rfl) (by kernel_rfl) (by kernel_rfl) (by decide) (by intro c a d v w; cases d <;> exact fun h => h) ⟨blk_cell Q1.out 0, blk_cell H2.out.st 0⟩ ?_
  repeat (first | (refine wpPlan.taken (by rfl) (by intro w' hS'; (try dsimp only at hS'); go_split_ands; go_simp; try with_reducible rfl) ?_; simp only [Act.put, List.setIfInBounds_toArray, List.set_cons_zero, List.set_cons_succ]) | (refine wpPlan.passed (by rfl) ?_; simp only [Act.put, List.setIfInBounds_toArray, List.set_cons_zero, List.set_cons_succ]))
  refine wpPlan.done ?_
  have Q1d := Lib.hid (show w2.drew.heap[w.heap.size]? = _ from Q1.out)
  have Q2d := Lib.hid (show w2.drew.heap[w.heap.size + 1]? = _ from Q2.out)
  have H3 := Lib.hid (H2.out.still ((Step.refl None w2).drew))
  have S3 := Lib.hid (S2.out.drew)
  have x1 := blk_cell Q1d.out 1
  have x3 := blk_cell Q1d.out 3
  have x2 := blk_cell Q1d.out 2
  simp only [Note.packet, List.getElem?_toArray, List.getElem?_cons_zero, List.getElem?_cons_succ] at x1 x2 x3
  go_wp2_with fail
  have g3 := blk_cell H3.out.st 3
  have g4 := blk_cell H3.out.st 4
  simp only [Stm.cells, List.getElem?_toArray, List.getElem?_cons_zero, List.getElem?_cons_succ] at g3 g4
  refine wp_region_plan (fun w' => w'.cell? ⟨w.heap.size, 2, none⟩ = some (.int .i64 ak) ∧ w'.cell? ⟨g, 3, none⟩ = some (.int .i64 s.first) ∧ w'.cell? ⟨g, 4, none⟩ = some (.int .i64 s.out)) (.take 0 (.take 1 (.take 2 (.take 3 (.take 4 (.take 5 (.take 6 (.take 7 (.take 8 (.take 9 (.take 10 (.take 11 (.take 12 (.take 13 (.take 14 (.take 15 (.take 16 (.take 17 (.take 18 (.take 19 (.take 20 .done))))))))))))))))))))) _
    (by simp only [Plan.map, opOf, List.getElem?_toArray, List.getElem?_cons_zero, List.getElem?_cons_succ, Option.getD_some]; rfl) (by kernel_rfl) (by kernel_rfl) (by kernel_rfl) (by decide) (by intro c a d v w; cases d <;> exact fun h => h) ⟨x2, g3, g4⟩ ?_
  repeat (first | (refine wpPlan.taken (by rfl) (by intro w' hS'; (try dsimp only at hS'); go_split_ands; go_simp; try with_reducible rfl) ?_; simp only [Act.put, List.setIfInBounds_toArray, List.set_cons_zero, List.set_cons_succ]) | (refine wpPlan.passed (by rfl) ?_; simp only [Act.put, List.setIfInBounds_toArray, List.set_cons_zero, List.set_cons_succ]))
  refine wpPlan.done ?_
  obtain ⟨w4, hw4⟩ : ∃ w4, w2.drew.drew = w4 := ⟨_, rfl⟩
  have s34 : Step None w2.drew w4 := by rw [← hw4]; exact (Step.refl None w2.drew).drew
  rw [hw4]
  have H4 : Hid (Sm 45 w4 g v (s.acked ak) bs) := Lib.hid (by rw [HA.out]; exact H3.out.still s34)
  have S4 : Hid (Step (Of g v) w w4) := Lib.hid ((S3.out.then_ s34).none)
  have L4 : Hid (∀ k, Leads v k → Leads v k ∨ w.heap.size + 2 ≤ k) := Lib.hid fun k hk => .inl hk
  have Q14 := Lib.hid (s34.blk Q1d.out (fun s => s.elim))
  have Q24 := Lib.hid (s34.blk Q2d.out (fun s => s.elim))
  clear hw4 s34 x1 x2 x3 g3 g4 H3 S3 Q1d Q2d H2 S2 Q1 Q2
  have y1 := blk_cell Q14.out 1
  simp only [Note.packet, List.getElem?_toArray, List.getElem?_cons_zero, List.getElem?_cons_succ] at y1
  have c7 := blk_cell H4.out.st 7
  have f7 := blk_frozen H4.out.st 7
  simp only [Stm.cells, List.getElem?_toArray, List.getElem?_cons_zero, List.getElem?_cons_succ] at c7
  go_wp2_with fail
  have st5 := Lib.hid ((Step.refl (fun k => k = g) w4).setCell (p := ⟨g, 7, none⟩) (fun _ => rfl) (.bool true))
  have b5 := Lib.hid (blk_set H4.out.st 7 (.bool true))
  obtain ⟨W5, hW5⟩ : ∃ W5, w4.setCell ⟨g, 7, none⟩ (.bool true) = W5 := ⟨_, rfl⟩
  rw [hW5] at st5 b5 ⊢
  clear hW5 c7 f7 y1
  have gN : ¬ w.heap.size = g := by have := gl.out; omega
  have gN1 : ¬ w.heap.size + 1 = g := by have := gl.out; omega
  have Q15 := Lib.hid (st5.out.blk Q14.out gN)
  have Q25 := Lib.hid (st5.out.blk Q24.out gN1)
  have z1 := blk_cell Q15.out 1
  have z6 := blk_cell b5.out 6
  have Q16 := Lib.hid (show W5.drew.heap[w.heap.size]? = _ from Q15.out)
  have Q26 := Lib.hid (show W5.drew.heap[w.heap.size + 1]? = _ from Q25.out)
  have b6 := Lib.hid (show W5.drew.heap[g]? = _ from b5.out)
  have st6 := Lib.hid (st5.out.drew)
  clear gN gN1
  simp [Stm.cells, Note.packet, ATK.out] at z1 z6
  refine wp_region_plan (fun w' => w'.cell? ⟨w.heap.size, 1, none⟩ = some (.int .i64 sq) ∧ w'.cell? ⟨g, 6, none⟩ = some (.int .i64 s.taken)) (.take 0 (.take 1 (.take 2 (.take 3 (.take 4 (.take 5 (.take 6 (.take 7 .done)))))))) _
    (by simp only [Plan.map, opOf, List.getElem?_toArray, List.getElem?_cons_zero, List.getElem?_cons_succ, Option.getD_some]; rfl) (by kernel_rfl) (by kernel_rfl) (by kernel_rfl) (by decide) (by intro c a d v w; cases d <;> exact fun h => h) ⟨z1, z6⟩ ?_
  repeat (first | (refine wpPlan.taken (by rfl) (by intro w' hS'; (try dsimp only at hS'); go_split_ands; go_simp; try with_reducible rfl) ?_; simp only [Act.put, List.setIfInBounds_toArray, List.set_cons_zero, List.set_cons_succ]) | (refine wpPlan.passed (by rfl) ?_; simp only [Act.put, List.setIfInBounds_toArray, List.set_cons_zero, List.set_cons_succ]))
  refine wpPlan.done ?_
  have z6d : W5.drew.cell? ⟨g, 6, none⟩ = some (.int .i64 s.taken) := z6
  have f6d := blk_frozen b6.out 6
  have gN : ¬ w.heap.size = g := by have := gl.out; omega
  have gN1 : ¬ w.heap.size + 1 = g := by have := gl.out; omega
  have s7 := (Step.refl (fun k => k = g) W5.drew).setCell (p := ⟨g, 6, none⟩) (fun _ => rfl) (.int .i64 (s.taken + 1))
  have Q17 := Lib.hid (s7.blk Q16.out gN)
  have Q27 := Lib.hid (s7.blk Q26.out gN1)
  have LP7 := Lib.hid (load_pnote Q17.out)
  clear s7 gN gN1 z1 z6
  go_wp2_with (first | (refine wpList_load_if 36 (.tmp 115) rfl rfl rfl LP7.out ?_) | (refine wpList_store_row rfl 36 (.tmp 4) (.tmp 116) rfl (w.heap.size + 1) #[.int .i64 n.kind, .int .i64 n.vlan, .int .u8 n.m0, .int .u8 n.m1, .int .u8 n.m2, .int .u8 n.m3, .int .u8 n.m4, .int .u8 n.m5, .int .i64 n.port, .int .i64 n.state, .slice bo n.body.length bc] rfl rfl 36 _ Q27.out (by kernel_rfl) rfl (by simp [Value.oneCell']) ?_))
  (try simp only [Exit.inBlock, Exit.then])
  refine bodyPost_ret (results_cell_row3 (P := Tryd.prog) (fn := Tryd.f22) rfl _ _ (w.heap.size + 1) 36 #[.int .i64 n.kind, .int .i64 n.vlan, .int .u8 n.m0, .int .u8 n.m1, .int .u8 n.m2, .int .u8 n.m3, .int .u8 n.m4, .int .u8 n.m5, .int .i64 n.port, .int .i64 n.state, .slice bo n.body.length bc] (0, 0) _ rfl (setRow_heap _ _ _ _ _ _ Q27.out) Tryd.underlying36 rfl (by kernel_rfl)) rfl ?_
  refine ⟨_, by rw [E0.out]; rfl, by rw [E0.out]; rfl, ?_⟩
  rw [E0.out]
  exact Went.take (s' := { s.acked ak with due := true, taken := s.taken + 1 }) (by decide) (by decide) H.out S4.out L4.out H4.out (st6.out.setCell (p := ⟨g, 6, none⟩) (fun _ => rfl) _) ((blk_set b6.out 6 _).trans (by simp [Stm.cells])) rfl Q27.out _
set_option maxRecDepth 100000 in
set_option maxHeartbeats 8000000 in
theorem rtake_bz (g : Nat) (v : Value) (s : Stm) (bs : List Value) (ep sq ak : Int) (n : Note) (bo : Option Addr) (bc : Nat) (w : World) (h : Sm 45 w g v s bs) (ok : s.Ok) (hb : Bytes w (.slice bo n.body.length bc) n.body) (hbl : n.body.length ≤ 10000) (hyes : okP ep sq ak n = true) (hep : ep = s.ep) (hz : sq = 0) (ha : s.first ≤ ak) (hb2 : s.first + s.out ≤ ak) :
    Calls Tryd.prog 22 #[.pointer (some ⟨g, 0, none⟩), .agg (n.packet ep sq ak (.slice bo n.body.length bc))] w (TakeEnds g v s ep sq ak n bo bc w 45) := by
  have p1 := (heap_alloc_new w (.cells (n.packet ep sq ak (.slice bo n.body.length bc)) 38))
  have s1 := ((Step.refl None w).alloc (.cells (n.packet ep sq ak (.slice bo n.body.length bc)) 38)).alloc (.cells #[.int .i64 0, .int .i64 0, .int .u8 0, .int .u8 0, .int .u8 0, .int .u8 0, .int .u8 0, .int .u8 0, .int .i64 0, .int .i64 0, .slice none 0 0] 36)
  have p1' := (Below.heap_alloc _ (.cells #[.int .i64 0, .int .i64 0, .int .u8 0, .int .u8 0, .int .u8 0, .int .u8 0, .int .u8 0, .int .u8 0, .int .i64 0, .int .i64 0, .slice none 0 0] 36) w.heap.size (by simp)).trans p1
  have p2 := heap_alloc_new (w.alloc (.cells (n.packet ep sq ak (.slice bo n.body.length bc)) 38)) (.cells #[.int .i64 0, .int .i64 0, .int .u8 0, .int .u8 0, .int .u8 0, .int .u8 0, .int .u8 0, .int .u8 0, .int .i64 0, .int .i64 0, .slice none 0 0] 36)
  rw [World.size_alloc] at p2
  obtain ⟨W, hW⟩ : ∃ W, (w.alloc (.cells (n.packet ep sq ak (.slice bo n.body.length bc)) 38)).alloc (.cells #[.int .i64 0, .int .i64 0, .int .u8 0, .int .u8 0, .int .u8 0, .int .u8 0, .int .u8 0, .int .u8 0, .int .i64 0, .int .i64 0, .slice none 0 0] 36) = W := ⟨_, rfl⟩
  rw [hW] at p1' p2 s1
  have HE := Lib.hid hW
  have LD := Lib.hid (load_packet p1')
  have P1 := Lib.hid p1'
  have P2 := Lib.hid p2
  have S1 := Lib.hid s1
  have H := Lib.hid h
  have B1 := Lib.hid (hb.step s1 (fun _ _ s => s.elim))
  have HBL := Lib.hid hbl
  have OK := Lib.hid ok
  have gl := Lib.hid (blk_lt h.st)
  have hok : okP ep sq ak n = true := hyes
  have hcode : codeB ep sq ak n = 0 := by simp [codeB, hok]
  have E0 := Lib.hid (show s.take ⟨ep, sq, ak, n⟩ = ({ s.acked ak with due := s.due, taken := s.taken }, bare, false, 0) by
    unfold Stm.take; rw [if_neg (by simp [hok]), if_neg (by simpa using hep), if_neg (by simp [hz]), if_pos (.inl hz)]
    have e1 : (s.acked ak).taken = s.taken := by unfold Stm.acked; split <;> rfl
    have e3 : (s.acked ak).due = s.due := by unfold Stm.acked; split <;> rfl
    simp [hz, ← e1])
  have dsq : decide (0 < sq) = false := by simp [hz]
  have dz : (sq == 0) = true := by simpa using hz
  have dep : (ep != s.ep) = false := by simpa using hep
  have ADU := Lib.hid (show (s.acked ak).due = s.due by unfold Stm.acked; split <;> rfl)
  have ATK := Lib.hid (show (s.acked ak).taken = s.taken by unfold Stm.acked; split <;> rfl)
  have tk := ok.taken
  have fi := ok.first
  have fs := ok.sum
  have fo := ok.out
  have akb := (okP_parts hok).2.2.2
  have fle : s.first ≤ 1073741824 := by omega
  have wt1 : wrap64 (s.taken + 1) = s.taken + 1 := IntWalk.wrap64_in _ ⟨by omega, by omega⟩
  have wt2 : IntKind.i64.wrap (s.taken + 1) = s.taken + 1 := IntWalk.i64_in _ (by omega)
  have wo1 : wrap64 (s.first + s.out) = s.first + s.out := IntWalk.wrap64_in _ ⟨by omega, by omega⟩
  have wo2 : IntKind.i64.wrap (s.first + s.out) = s.first + s.out := IntWalk.i64_in _ (by omega)
  have HA := Lib.hid (show s.acked ak = s by unfold Stm.acked; rw [if_neg]; omega)
  have q1 : decide (s.first ≤ ak) = true := decide_eq_true ha
  have q2 : decide (ak < s.first + s.out) = false := decide_eq_false (by omega)
  clear hyes hok hep tk fi fs fo akb fle ha hb2 hz
  clear h ok hb hW p1 p1' p2 s1 hbl
  go_enter Tryd.func22, Tryd.ntmps22
  go_wp2_with (first | rw [HE.out] | (refine wpList_load_if 38 (.tmp 3) rfl rfl rfl LD.out ?_))
  refine (rencode_all ep sq ak n bo bc W B1.out HBL.out).mono ?_
  rintro e w2 ⟨u, rfl, -, s2⟩
  rw [hcode]
  have S2 := Lib.hid (S1.out.then_ s2)
  have Q1 := Lib.hid (s2.blk P1.out (fun s => s.elim))
  have Q2 := Lib.hid (s2.blk P2.out (fun s => s.elim))
  have H2 := Lib.hid (H.out.still S2.out)
  clear s2 LD P1 P2 S1 B1 HE
  go_wp2_with fail
  refine wp_region_plan (fun w' => w'.cell? ⟨w.heap.size, 0, none⟩ = some (.int .i64 ep) ∧ w'.cell? ⟨g, 0, none⟩ = some (.int .i64 s.ep)) (.take 0 (.take 1 (.take 2 (.take 3 (.take 4 (.take 5 (.take 6 .done))))))) _
    (by simp only [Plan.map, opOf, List.getElem?_toArray, List.getElem?_cons_zero, List.getElem?_cons_succ, Option.getD_some]; rfl) (by kernel_rfl) (by kernel_rfl) (by kernel_rfl) (by decide) (by intro c a d v w; cases d <;> exact fun h => h) ⟨blk_cell Q1.out 0, blk_cell H2.out.st 0⟩ ?_
  repeat (first | (refine wpPlan.taken (by rfl) (by intro w' hS'; (try dsimp only at hS'); go_split_ands; go_simp; try with_reducible rfl) ?_; simp only [Act.put, List.setIfInBounds_toArray, List.set_cons_zero, List.set_cons_succ]) | (refine wpPlan.passed (by rfl) ?_; simp only [Act.put, List.setIfInBounds_toArray, List.set_cons_zero, List.set_cons_succ]))
  refine wpPlan.done ?_
  have Q1d := Lib.hid (show w2.drew.heap[w.heap.size]? = _ from Q1.out)
  have Q2d := Lib.hid (show w2.drew.heap[w.heap.size + 1]? = _ from Q2.out)
  have H3 := Lib.hid (H2.out.still ((Step.refl None w2).drew))
  have S3 := Lib.hid (S2.out.drew)
  have x1 := blk_cell Q1d.out 1
  have x3 := blk_cell Q1d.out 3
  have x2 := blk_cell Q1d.out 2
  simp only [Note.packet, List.getElem?_toArray, List.getElem?_cons_zero, List.getElem?_cons_succ] at x1 x2 x3
  go_wp2_with fail
  have g3 := blk_cell H3.out.st 3
  have g4 := blk_cell H3.out.st 4
  simp only [Stm.cells, List.getElem?_toArray, List.getElem?_cons_zero, List.getElem?_cons_succ] at g3 g4
  refine wp_region_plan (fun w' => w'.cell? ⟨w.heap.size, 2, none⟩ = some (.int .i64 ak) ∧ w'.cell? ⟨g, 3, none⟩ = some (.int .i64 s.first) ∧ w'.cell? ⟨g, 4, none⟩ = some (.int .i64 s.out)) (.take 0 (.take 1 (.take 2 (.take 3 (.take 4 (.take 5 (.take 6 (.take 7 (.take 8 (.take 9 (.take 10 (.take 11 (.take 12 (.take 13 (.take 14 (.take 15 (.take 16 (.take 17 (.take 18 (.take 19 (.take 20 .done))))))))))))))))))))) _
    (by simp only [Plan.map, opOf, List.getElem?_toArray, List.getElem?_cons_zero, List.getElem?_cons_succ, Option.getD_some]; rfl) (by kernel_rfl) (by kernel_rfl) (by kernel_rfl) (by decide) (by intro c a d v w; cases d <;> exact fun h => h) ⟨x2, g3, g4⟩ ?_
  repeat (first | (refine wpPlan.taken (by rfl) (by intro w' hS'; (try dsimp only at hS'); go_split_ands; go_simp; try with_reducible rfl) ?_; simp only [Act.put, List.setIfInBounds_toArray, List.set_cons_zero, List.set_cons_succ]) | (refine wpPlan.passed (by rfl) ?_; simp only [Act.put, List.setIfInBounds_toArray, List.set_cons_zero, List.set_cons_succ]))
  refine wpPlan.done ?_
  obtain ⟨w4, hw4⟩ : ∃ w4, w2.drew.drew = w4 := ⟨_, rfl⟩
  have s34 : Step None w2.drew w4 := by rw [← hw4]; exact (Step.refl None w2.drew).drew
  rw [hw4]
  have H4 : Hid (Sm 45 w4 g v (s.acked ak) bs) := Lib.hid (by rw [HA.out]; exact H3.out.still s34)
  have S4 : Hid (Step (Of g v) w w4) := Lib.hid ((S3.out.then_ s34).none)
  have L4 : Hid (∀ k, Leads v k → Leads v k ∨ w.heap.size + 2 ≤ k) := Lib.hid fun k hk => .inl hk
  have Q14 := Lib.hid (s34.blk Q1d.out (fun s => s.elim))
  have Q24 := Lib.hid (s34.blk Q2d.out (fun s => s.elim))
  clear hw4 s34 x1 x2 x3 g3 g4 H3 S3 Q1d Q2d H2 S2 Q1 Q2
  have y1 := blk_cell Q14.out 1
  simp only [Note.packet, List.getElem?_toArray, List.getElem?_cons_zero, List.getElem?_cons_succ] at y1
  go_wp2_with (first | (refine wpList_store_row rfl 36 (.tmp 4) (.tmp 95) rfl (w.heap.size + 1) #[.int .i64 0, .int .i64 0, .int .u8 0, .int .u8 0, .int .u8 0, .int .u8 0, .int .u8 0, .int .u8 0, .int .i64 0, .int .i64 0, .slice none 0 0] rfl rfl 36 _ Q24.out (by kernel_rfl) rfl (by simp [Value.oneCell']) ?_))
  (try simp only [Exit.inBlock, Exit.then])
  refine bodyPost_ret (results_cell_row3 (P := Tryd.prog) (fn := Tryd.f22) rfl _ _ (w.heap.size + 1) 36 #[.int .i64 0, .int .i64 0, .int .u8 0, .int .u8 0, .int .u8 0, .int .u8 0, .int .u8 0, .int .u8 0, .int .i64 0, .int .i64 0, .slice none 0 0] (0, 0) _ rfl (setRow_heap _ _ _ _ _ _ Q24.out) Tryd.underlying36 rfl (by kernel_rfl)) rfl ?_
  refine ⟨_, by rw [E0.out]; rfl, by rw [E0.out]; rfl, ?_⟩
  rw [E0.out]
  exact Went.take (s' := { s.acked ak with due := s.due, taken := s.taken }) (by decide) (by decide) H.out S4.out L4.out H4.out (Step.refl _ _) (H4.out.st.trans (by simp [Stm.cells, ATK.out, ADU.out])) rfl Q24.out _
set_option maxRecDepth 100000 in
set_option maxHeartbeats 8000000 in
theorem rtake_bn (g : Nat) (v : Value) (s : Stm) (bs : List Value) (ep sq ak : Int) (n : Note) (bo : Option Addr) (bc : Nat) (w : World) (h : Sm 45 w g v s bs) (ok : s.Ok) (hb : Bytes w (.slice bo n.body.length bc) n.body) (hbl : n.body.length ≤ 10000) (hyes : okP ep sq ak n = true) (hep : ep = s.ep) (hk : ¬ (0 < sq ∧ n.kind = 0)) (hz : sq ≠ 0) (hn : sq ≠ s.taken + 1) (ha : s.first ≤ ak) (hb2 : s.first + s.out ≤ ak) :
    Calls Tryd.prog 22 #[.pointer (some ⟨g, 0, none⟩), .agg (n.packet ep sq ak (.slice bo n.body.length bc))] w (TakeEnds g v s ep sq ak n bo bc w 45) := by
  have p1 := (heap_alloc_new w (.cells (n.packet ep sq ak (.slice bo n.body.length bc)) 38))
  have s1 := ((Step.refl None w).alloc (.cells (n.packet ep sq ak (.slice bo n.body.length bc)) 38)).alloc (.cells #[.int .i64 0, .int .i64 0, .int .u8 0, .int .u8 0, .int .u8 0, .int .u8 0, .int .u8 0, .int .u8 0, .int .i64 0, .int .i64 0, .slice none 0 0] 36)
  have p1' := (Below.heap_alloc _ (.cells #[.int .i64 0, .int .i64 0, .int .u8 0, .int .u8 0, .int .u8 0, .int .u8 0, .int .u8 0, .int .u8 0, .int .i64 0, .int .i64 0, .slice none 0 0] 36) w.heap.size (by simp)).trans p1
  have p2 := heap_alloc_new (w.alloc (.cells (n.packet ep sq ak (.slice bo n.body.length bc)) 38)) (.cells #[.int .i64 0, .int .i64 0, .int .u8 0, .int .u8 0, .int .u8 0, .int .u8 0, .int .u8 0, .int .u8 0, .int .i64 0, .int .i64 0, .slice none 0 0] 36)
  rw [World.size_alloc] at p2
  obtain ⟨W, hW⟩ : ∃ W, (w.alloc (.cells (n.packet ep sq ak (.slice bo n.body.length bc)) 38)).alloc (.cells #[.int .i64 0, .int .i64 0, .int .u8 0, .int .u8 0, .int .u8 0, .int .u8 0, .int .u8 0, .int .u8 0, .int .i64 0, .int .i64 0, .slice none 0 0] 36) = W := ⟨_, rfl⟩
  rw [hW] at p1' p2 s1
  have HE := Lib.hid hW
  have LD := Lib.hid (load_packet p1')
  have P1 := Lib.hid p1'
  have P2 := Lib.hid p2
  have S1 := Lib.hid s1
  have H := Lib.hid h
  have B1 := Lib.hid (hb.step s1 (fun _ _ s => s.elim))
  have HBL := Lib.hid hbl
  have OK := Lib.hid ok
  have gl := Lib.hid (blk_lt h.st)
  have hok : okP ep sq ak n = true := hyes
  have hcode : codeB ep sq ak n = 0 := by simp [codeB, hok]
  have hs0 := (okP_parts hok).2.2.1
  have dsq : decide (0 < sq) = true := by simp; omega
  have dz : (sq == 0) = false := by simpa using hz
  have dk : (n.kind == 0) = false := by simp; intro e; exact hk ⟨by omega, e⟩
  have E0 := Lib.hid (show s.take ⟨ep, sq, ak, n⟩ = ({ s.acked ak with due := true, taken := s.taken }, bare, false, 0) by
    unfold Stm.take; rw [if_neg (by simp [hok]), if_neg (by simpa using hep), if_neg hk, if_pos (.inr hn)]
    have e1 : (s.acked ak).taken = s.taken := by unfold Stm.acked; split <;> rfl
    have e3 : (s.acked ak).due = s.due := by unfold Stm.acked; split <;> rfl
    have e2 : 0 < sq := by omega
    simp [e2, ← e1])
  have dn : (sq != s.taken + 1) = true := by simpa using hn
  have dep : (ep != s.ep) = false := by simpa using hep
  have ADU := Lib.hid (show (s.acked ak).due = s.due by unfold Stm.acked; split <;> rfl)
  have ATK := Lib.hid (show (s.acked ak).taken = s.taken by unfold Stm.acked; split <;> rfl)
  have tk := ok.taken
  have fi := ok.first
  have fs := ok.sum
  have fo := ok.out
  have akb := (okP_parts hok).2.2.2
  have fle : s.first ≤ 1073741824 := by omega
  have wt1 : wrap64 (s.taken + 1) = s.taken + 1 := IntWalk.wrap64_in _ ⟨by omega, by omega⟩
  have wt2 : IntKind.i64.wrap (s.taken + 1) = s.taken + 1 := IntWalk.i64_in _ (by omega)
  have wo1 : wrap64 (s.first + s.out) = s.first + s.out := IntWalk.wrap64_in _ ⟨by omega, by omega⟩
  have wo2 : IntKind.i64.wrap (s.first + s.out) = s.first + s.out := IntWalk.i64_in _ (by omega)
  have HA := Lib.hid (show s.acked ak = s by unfold Stm.acked; rw [if_neg]; omega)
  have q1 : decide (s.first ≤ ak) = true := decide_eq_true ha
  have q2 : decide (ak < s.first + s.out) = false := decide_eq_false (by omega)
  clear hyes hok hep tk fi fs fo akb fle ha hb2 hk hz hn hs0
  clear h ok hb hW p1 p1' p2 s1 hbl
  go_enter Tryd.func22, Tryd.ntmps22
  go_wp2_with (first | rw [HE.out] | (refine wpList_load_if 38 (.tmp 3) rfl rfl rfl LD.out ?_))
  refine (rencode_all ep sq ak n bo bc W B1.out HBL.out).mono ?_
  rintro e w2 ⟨u, rfl, -, s2⟩
  rw [hcode]
  have S2 := Lib.hid (S1.out.then_ s2)
  have Q1 := Lib.hid (s2.blk P1.out (fun s => s.elim))
  have Q2 := Lib.hid (s2.blk P2.out (fun s => s.elim))
  have H2 := Lib.hid (H.out.still S2.out)
  clear s2 LD P1 P2 S1 B1 HE
  go_wp2_with fail
  refine wp_region_plan (fun w' => w'.cell? ⟨w.heap.size, 0, none⟩ = some (.int .i64 ep) ∧ w'.cell? ⟨g, 0, none⟩ = some (.int .i64 s.ep)) (.take 0 (.take 1 (.take 2 (.take 3 (.take 4 (.take 5 (.take 6 .done))))))) _
    (by simp only [Plan.map, opOf, List.getElem?_toArray, List.getElem?_cons_zero, List.getElem?_cons_succ, Option.getD_some]; rfl) (by kernel_rfl) (by kernel_rfl) (by kernel_rfl) (by decide) (by intro c a d v w; cases d <;> exact fun h => h) ⟨blk_cell Q1.out 0, blk_cell H2.out.st 0⟩ ?_
  repeat (first | (refine wpPlan.taken (by rfl) (by intro w' hS'; (try dsimp only at hS'); go_split_ands; go_simp; try with_reducible rfl) ?_; simp only [Act.put, List.setIfInBounds_toArray, List.set_cons_zero, List.set_cons_succ]) | (refine wpPlan.passed (by rfl) ?_; simp only [Act.put, List.setIfInBounds_toArray, List.set_cons_zero, List.set_cons_succ]))
  refine wpPlan.done ?_
  have Q1d := Lib.hid (show w2.drew.heap[w.heap.size]? = _ from Q1.out)
  have Q2d := Lib.hid (show w2.drew.heap[w.heap.size + 1]? = _ from Q2.out)
  have H3 := Lib.hid (H2.out.still ((Step.refl None w2).drew))
  have S3 := Lib.hid (S2.out.drew)
  have x1 := blk_cell Q1d.out 1
  have x3 := blk_cell Q1d.out 3
  have x2 := blk_cell Q1d.out 2
  simp only [Note.packet, List.getElem?_toArray, List.getElem?_cons_zero, List.getElem?_cons_succ] at x1 x2 x3
  go_wp2_with fail
  have g3 := blk_cell H3.out.st 3
  have g4 := blk_cell H3.out.st 4
  simp only [Stm.cells, List.getElem?_toArray, List.getElem?_cons_zero, List.getElem?_cons_succ] at g3 g4
  refine wp_region_plan (fun w' => w'.cell? ⟨w.heap.size, 2, none⟩ = some (.int .i64 ak) ∧ w'.cell? ⟨g, 3, none⟩ = some (.int .i64 s.first) ∧ w'.cell? ⟨g, 4, none⟩ = some (.int .i64 s.out)) (.take 0 (.take 1 (.take 2 (.take 3 (.take 4 (.take 5 (.take 6 (.take 7 (.take 8 (.take 9 (.take 10 (.take 11 (.take 12 (.take 13 (.take 14 (.take 15 (.take 16 (.take 17 (.take 18 (.take 19 (.take 20 .done))))))))))))))))))))) _
    (by simp only [Plan.map, opOf, List.getElem?_toArray, List.getElem?_cons_zero, List.getElem?_cons_succ, Option.getD_some]; rfl) (by kernel_rfl) (by kernel_rfl) (by kernel_rfl) (by decide) (by intro c a d v w; cases d <;> exact fun h => h) ⟨x2, g3, g4⟩ ?_
  repeat (first | (refine wpPlan.taken (by rfl) (by intro w' hS'; (try dsimp only at hS'); go_split_ands; go_simp; try with_reducible rfl) ?_; simp only [Act.put, List.setIfInBounds_toArray, List.set_cons_zero, List.set_cons_succ]) | (refine wpPlan.passed (by rfl) ?_; simp only [Act.put, List.setIfInBounds_toArray, List.set_cons_zero, List.set_cons_succ]))
  refine wpPlan.done ?_
  obtain ⟨w4, hw4⟩ : ∃ w4, w2.drew.drew = w4 := ⟨_, rfl⟩
  have s34 : Step None w2.drew w4 := by rw [← hw4]; exact (Step.refl None w2.drew).drew
  rw [hw4]
  have H4 : Hid (Sm 45 w4 g v (s.acked ak) bs) := Lib.hid (by rw [HA.out]; exact H3.out.still s34)
  have S4 : Hid (Step (Of g v) w w4) := Lib.hid ((S3.out.then_ s34).none)
  have L4 : Hid (∀ k, Leads v k → Leads v k ∨ w.heap.size + 2 ≤ k) := Lib.hid fun k hk => .inl hk
  have Q14 := Lib.hid (s34.blk Q1d.out (fun s => s.elim))
  have Q24 := Lib.hid (s34.blk Q2d.out (fun s => s.elim))
  clear hw4 s34 x1 x2 x3 g3 g4 H3 S3 Q1d Q2d H2 S2 Q1 Q2
  have y1 := blk_cell Q14.out 1
  simp only [Note.packet, List.getElem?_toArray, List.getElem?_cons_zero, List.getElem?_cons_succ] at y1
  have c7 := blk_cell H4.out.st 7
  have f7 := blk_frozen H4.out.st 7
  simp only [Stm.cells, List.getElem?_toArray, List.getElem?_cons_zero, List.getElem?_cons_succ] at c7
  go_wp2_with fail
  have st5 := Lib.hid ((Step.refl (fun k => k = g) w4).setCell (p := ⟨g, 7, none⟩) (fun _ => rfl) (.bool true))
  have b5 := Lib.hid (blk_set H4.out.st 7 (.bool true))
  obtain ⟨W5, hW5⟩ : ∃ W5, w4.setCell ⟨g, 7, none⟩ (.bool true) = W5 := ⟨_, rfl⟩
  rw [hW5] at st5 b5 ⊢
  clear hW5 c7 f7 y1
  have gN : ¬ w.heap.size = g := by have := gl.out; omega
  have gN1 : ¬ w.heap.size + 1 = g := by have := gl.out; omega
  have Q15 := Lib.hid (st5.out.blk Q14.out gN)
  have Q25 := Lib.hid (st5.out.blk Q24.out gN1)
  have z1 := blk_cell Q15.out 1
  have z6 := blk_cell b5.out 6
  have Q16 := Lib.hid (show W5.drew.heap[w.heap.size]? = _ from Q15.out)
  have Q26 := Lib.hid (show W5.drew.heap[w.heap.size + 1]? = _ from Q25.out)
  have b6 := Lib.hid (show W5.drew.heap[g]? = _ from b5.out)
  have st6 := Lib.hid (st5.out.drew)
  clear gN gN1
  simp [Stm.cells, Note.packet, ATK.out] at z1 z6
  refine wp_region_plan (fun w' => w'.cell? ⟨w.heap.size, 1, none⟩ = some (.int .i64 sq) ∧ w'.cell? ⟨g, 6, none⟩ = some (.int .i64 s.taken)) (.take 0 (.take 1 (.take 2 (.take 3 (.take 4 (.take 5 (.take 6 (.take 7 .done)))))))) _
    (by simp only [Plan.map, opOf, List.getElem?_toArray, List.getElem?_cons_zero, List.getElem?_cons_succ, Option.getD_some]; rfl) (by kernel_rfl) (by kernel_rfl) (by kernel_rfl) (by decide) (by intro c a d v w; cases d <;> exact fun h => h) ⟨z1, z6⟩ ?_
  repeat (first | (refine wpPlan.taken (by rfl) (by intro w' hS'; (try dsimp only at hS'); go_split_ands; go_simp; try with_reducible rfl) ?_; simp only [Act.put, List.setIfInBounds_toArray, List.set_cons_zero, List.set_cons_succ]) | (refine wpPlan.passed (by rfl) ?_; simp only [Act.put, List.setIfInBounds_toArray, List.set_cons_zero, List.set_cons_succ]))
  refine wpPlan.done ?_
  go_wp2_with (first | (refine wpList_store_row rfl 36 (.tmp 4) (.tmp 107) rfl (w.heap.size + 1) #[.int .i64 0, .int .i64 0, .int .u8 0, .int .u8 0, .int .u8 0, .int .u8 0, .int .u8 0, .int .u8 0, .int .i64 0, .int .i64 0, .slice none 0 0] rfl rfl 36 _ Q26.out (by kernel_rfl) rfl (by simp [Value.oneCell']) ?_))
  (try simp only [Exit.inBlock, Exit.then])
  refine bodyPost_ret (results_cell_row3 (P := Tryd.prog) (fn := Tryd.f22) rfl _ _ (w.heap.size + 1) 36 #[.int .i64 0, .int .i64 0, .int .u8 0, .int .u8 0, .int .u8 0, .int .u8 0, .int .u8 0, .int .u8 0, .int .i64 0, .int .i64 0, .slice none 0 0] (0, 0) _ rfl (setRow_heap _ _ _ _ _ _ Q26.out) Tryd.underlying36 rfl (by kernel_rfl)) rfl ?_
  refine ⟨_, by rw [E0.out]; rfl, by rw [E0.out]; rfl, ?_⟩
  rw [E0.out]
  exact Went.take (s' := { s.acked ak with due := true, taken := s.taken }) (by decide) (by decide) H.out S4.out L4.out H4.out st6.out (b6.out.trans (by simp [Stm.cells, ATK.out])) rfl Q26.out _
set_option maxRecDepth 100000 in
set_option maxHeartbeats 8000000 in
theorem rtake_bt (g : Nat) (v : Value) (s : Stm) (bs : List Value) (ep sq ak : Int) (n : Note) (bo : Option Addr) (bc : Nat) (w : World) (h : Sm 45 w g v s bs) (ok : s.Ok) (hb : Bytes w (.slice bo n.body.length bc) n.body) (hbl : n.body.length ≤ 10000) (hyes : okP ep sq ak n = true) (hep : ep = s.ep) (hk : ¬ (0 < sq ∧ n.kind = 0)) (hz : sq ≠ 0) (hn : sq = s.taken + 1) (ha : s.first ≤ ak) (hb2 : s.first + s.out ≤ ak) :
    Calls Tryd.prog 22 #[.pointer (some ⟨g, 0, none⟩), .agg (n.packet ep sq ak (.slice bo n.body.length bc))] w (TakeEnds g v s ep sq ak n bo bc w 45) := by
  have p1 := (heap_alloc_new w (.cells (n.packet ep sq ak (.slice bo n.body.length bc)) 38))
  have s1 := ((Step.refl None w).alloc (.cells (n.packet ep sq ak (.slice bo n.body.length bc)) 38)).alloc (.cells #[.int .i64 0, .int .i64 0, .int .u8 0, .int .u8 0, .int .u8 0, .int .u8 0, .int .u8 0, .int .u8 0, .int .i64 0, .int .i64 0, .slice none 0 0] 36)
  have p1' := (Below.heap_alloc _ (.cells #[.int .i64 0, .int .i64 0, .int .u8 0, .int .u8 0, .int .u8 0, .int .u8 0, .int .u8 0, .int .u8 0, .int .i64 0, .int .i64 0, .slice none 0 0] 36) w.heap.size (by simp)).trans p1
  have p2 := heap_alloc_new (w.alloc (.cells (n.packet ep sq ak (.slice bo n.body.length bc)) 38)) (.cells #[.int .i64 0, .int .i64 0, .int .u8 0, .int .u8 0, .int .u8 0, .int .u8 0, .int .u8 0, .int .u8 0, .int .i64 0, .int .i64 0, .slice none 0 0] 36)
  rw [World.size_alloc] at p2
  obtain ⟨W, hW⟩ : ∃ W, (w.alloc (.cells (n.packet ep sq ak (.slice bo n.body.length bc)) 38)).alloc (.cells #[.int .i64 0, .int .i64 0, .int .u8 0, .int .u8 0, .int .u8 0, .int .u8 0, .int .u8 0, .int .u8 0, .int .i64 0, .int .i64 0, .slice none 0 0] 36) = W := ⟨_, rfl⟩
  rw [hW] at p1' p2 s1
  have HE := Lib.hid hW
  have LD := Lib.hid (load_packet p1')
  have P1 := Lib.hid p1'
  have P2 := Lib.hid p2
  have S1 := Lib.hid s1
  have H := Lib.hid h
  have B1 := Lib.hid (hb.step s1 (fun _ _ s => s.elim))
  have HBL := Lib.hid hbl
  have OK := Lib.hid ok
  have gl := Lib.hid (blk_lt h.st)
  have hok : okP ep sq ak n = true := hyes
  have hcode : codeB ep sq ak n = 0 := by simp [codeB, hok]
  have hs0 := (okP_parts hok).2.2.1
  have dsq : decide (0 < sq) = true := by simp; omega
  have dz : (sq == 0) = false := by simpa using hz
  have dk : (n.kind == 0) = false := by simp; intro e; exact hk ⟨by omega, e⟩
  have E0 := Lib.hid (show s.take ⟨ep, sq, ak, n⟩ = ({ s.acked ak with due := true, taken := s.taken + 1 }, n, true, 0) by
    unfold Stm.take; rw [if_neg (by simp [hok]), if_neg (by simpa using hep), if_neg hk, if_neg (by simp [hn]; omega)])
  have dn : (sq != s.taken + 1) = false := by simpa using hn
  have dep : (ep != s.ep) = false := by simpa using hep
  have ADU := Lib.hid (show (s.acked ak).due = s.due by unfold Stm.acked; split <;> rfl)
  have ATK := Lib.hid (show (s.acked ak).taken = s.taken by unfold Stm.acked; split <;> rfl)
  have tk := ok.taken
  have fi := ok.first
  have fs := ok.sum
  have fo := ok.out
  have akb := (okP_parts hok).2.2.2
  have fle : s.first ≤ 1073741824 := by omega
  have wt1 : wrap64 (s.taken + 1) = s.taken + 1 := IntWalk.wrap64_in _ ⟨by omega, by omega⟩
  have wt2 : IntKind.i64.wrap (s.taken + 1) = s.taken + 1 := IntWalk.i64_in _ (by omega)
  have wo1 : wrap64 (s.first + s.out) = s.first + s.out := IntWalk.wrap64_in _ ⟨by omega, by omega⟩
  have wo2 : IntKind.i64.wrap (s.first + s.out) = s.first + s.out := IntWalk.i64_in _ (by omega)
  have HA := Lib.hid (show s.acked ak = s by unfold Stm.acked; rw [if_neg]; omega)
  have q1 : decide (s.first ≤ ak) = true := decide_eq_true ha
  have q2 : decide (ak < s.first + s.out) = false := decide_eq_false (by omega)
  clear hyes hok hep tk fi fs fo akb fle ha hb2 hk hz hn hs0
  clear h ok hb hW p1 p1' p2 s1 hbl
  go_enter Tryd.func22, Tryd.ntmps22
  go_wp2_with (first | rw [HE.out] | (refine wpList_load_if 38 (.tmp 3) rfl rfl rfl LD.out ?_))
  refine (rencode_all ep sq ak n bo bc W B1.out HBL.out).mono ?_
  rintro e w2 ⟨u, rfl, -, s2⟩
  rw [hcode]
  have S2 := Lib.hid (S1.out.then_ s2)
  have Q1 := Lib.hid (s2.blk P1.out (fun s => s.elim))
  have Q2 := Lib.hid (s2.blk P2.out (fun s => s.elim))
  have H2 := Lib.hid (H.out.still S2.out)
  clear s2 LD P1 P2 S1 B1 HE
  go_wp2_with fail
  refine wp_region_plan (fun w' => w'.cell? ⟨w.heap.size, 0, none⟩ = some (.int .i64 ep) ∧ w'.cell? ⟨g, 0, none⟩ = some (.int .i64 s.ep)) (.take 0 (.take 1 (.take 2 (.take 3 (.take 4 (.take 5 (.take 6 .done))))))) _
    (by simp only [Plan.map, opOf, List.getElem?_toArray, List.getElem?_cons_zero, List.getElem?_cons_succ, Option.getD_some]; rfl) (by kernel_rfl) (by kernel_rfl) (by kernel_rfl) (by decide) (by intro c a d v w; cases d <;> exact fun h => h) ⟨blk_cell Q1.out 0, blk_cell H2.out.st 0⟩ ?_
  repeat (first | (refine wpPlan.taken (by rfl) (by intro w' hS'; (try dsimp only at hS'); go_split_ands; go_simp; try with_reducible rfl) ?_; simp only [Act.put, List.setIfInBounds_toArray, List.set_cons_zero, List.set_cons_succ]) | (refine wpPlan.passed (by rfl) ?_; simp only [Act.put, List.setIfInBounds_toArray, List.set_cons_zero, List.set_cons_succ]))
  refine wpPlan.done ?_
  have Q1d := Lib.hid (show w2.drew.heap[w.heap.size]? = _ from Q1.out)
  have Q2d := Lib.hid (show w2.drew.heap[w.heap.size + 1]? = _ from Q2.out)
  have H3 := Lib.hid (H2.out.still ((Step.refl None w2).drew))
  have S3 := Lib.hid (S2.out.drew)
  have x1 := blk_cell Q1d.out 1
  have x3 := blk_cell Q1d.out 3
  have x2 := blk_cell Q1d.out 2
  simp only [Note.packet, List.getElem?_toArray, List.getElem?_cons_zero, List.getElem?_cons_succ] at x1 x2 x3
  go_wp2_with fail
  have g3 := blk_cell H3.out.st 3
  have g4 := blk_cell H3.out.st 4
  simp only [Stm.cells, List.getElem?_toArray, List.getElem?_cons_zero, List.getElem?_cons_succ] at g3 g4
  refine wp_region_plan (fun w' => w'.cell? ⟨w.heap.size, 2, none⟩ = some (.int .i64 ak) ∧ w'.cell? ⟨g, 3, none⟩ = some (.int .i64 s.first) ∧ w'.cell? ⟨g, 4, none⟩ = some (.int .i64 s.out)) (.take 0 (.take 1 (.take 2 (.take 3 (.take 4 (.take 5 (.take 6 (.take 7 (.take 8 (.take 9 (.take 10 (.take 11 (.take 12 (.take 13 (.take 14 (.take 15 (.take 16 (.take 17 (.take 18 (.take 19 (.take 20 .done))))))))))))))))))))) _
    (by simp only [Plan.map, opOf, List.getElem?_toArray, List.getElem?_cons_zero, List.getElem?_cons_succ, Option.getD_some]; rfl) (by kernel_rfl) (by kernel_rfl) (by kernel_rfl) (by decide) (by intro c a d v w; cases d <;> exact fun h => h) ⟨x2, g3, g4⟩ ?_
  repeat (first | (refine wpPlan.taken (by rfl) (by intro w' hS'; (try dsimp only at hS'); go_split_ands; go_simp; try with_reducible rfl) ?_; simp only [Act.put, List.setIfInBounds_toArray, List.set_cons_zero, List.set_cons_succ]) | (refine wpPlan.passed (by rfl) ?_; simp only [Act.put, List.setIfInBounds_toArray, List.set_cons_zero, List.set_cons_succ]))
  refine wpPlan.done ?_
  obtain ⟨w4, hw4⟩ : ∃ w4, w2.drew.drew = w4 := ⟨_, rfl⟩
  have s34 : Step None w2.drew w4 := by rw [← hw4]; exact (Step.refl None w2.drew).drew
  rw [hw4]
  have H4 : Hid (Sm 45 w4 g v (s.acked ak) bs) := Lib.hid (by rw [HA.out]; exact H3.out.still s34)
  have S4 : Hid (Step (Of g v) w w4) := Lib.hid ((S3.out.then_ s34).none)
  have L4 : Hid (∀ k, Leads v k → Leads v k ∨ w.heap.size + 2 ≤ k) := Lib.hid fun k hk => .inl hk
  have Q14 := Lib.hid (s34.blk Q1d.out (fun s => s.elim))
  have Q24 := Lib.hid (s34.blk Q2d.out (fun s => s.elim))
  clear hw4 s34 x1 x2 x3 g3 g4 H3 S3 Q1d Q2d H2 S2 Q1 Q2
  have y1 := blk_cell Q14.out 1
  simp only [Note.packet, List.getElem?_toArray, List.getElem?_cons_zero, List.getElem?_cons_succ] at y1
  have c7 := blk_cell H4.out.st 7
  have f7 := blk_frozen H4.out.st 7
  simp only [Stm.cells, List.getElem?_toArray, List.getElem?_cons_zero, List.getElem?_cons_succ] at c7
  go_wp2_with fail
  have st5 := Lib.hid ((Step.refl (fun k => k = g) w4).setCell (p := ⟨g, 7, none⟩) (fun _ => rfl) (.bool true))
  have b5 := Lib.hid (blk_set H4.out.st 7 (.bool true))
  obtain ⟨W5, hW5⟩ : ∃ W5, w4.setCell ⟨g, 7, none⟩ (.bool true) = W5 := ⟨_, rfl⟩
  rw [hW5] at st5 b5 ⊢
  clear hW5 c7 f7 y1
  have gN : ¬ w.heap.size = g := by have := gl.out; omega
  have gN1 : ¬ w.heap.size + 1 = g := by have := gl.out; omega
  have Q15 := Lib.hid (st5.out.blk Q14.out gN)
  have Q25 := Lib.hid (st5.out.blk Q24.out gN1)
  have z1 := blk_cell Q15.out 1
  have z6 := blk_cell b5.out 6
  have Q16 := Lib.hid (show W5.drew.heap[w.heap.size]? = _ from Q15.out)
  have Q26 := Lib.hid (show W5.drew.heap[w.heap.size + 1]? = _ from Q25.out)
  have b6 := Lib.hid (show W5.drew.heap[g]? = _ from b5.out)
  have st6 := Lib.hid (st5.out.drew)
  clear gN gN1
  simp [Stm.cells, Note.packet, ATK.out] at z1 z6
  refine wp_region_plan (fun w' => w'.cell? ⟨w.heap.size, 1, none⟩ = some (.int .i64 sq) ∧ w'.cell? ⟨g, 6, none⟩ = some (.int .i64 s.taken)) (.take 0 (.take 1 (.take 2 (.take 3 (.take 4 (.take 5 (.take 6 (.take 7 .done)))))))) _
    (by simp only [Plan.map, opOf, List.getElem?_toArray, List.getElem?_cons_zero, List.getElem?_cons_succ, Option.getD_some]; rfl) (by kernel_rfl) (by kernel_rfl) (by kernel_rfl) (by decide) (by intro c a d v w; cases d <;> exact fun h => h) ⟨z1, z6⟩ ?_
  repeat (first | (refine wpPlan.taken (by rfl) (by intro w' hS'; (try dsimp only at hS'); go_split_ands; go_simp; try with_reducible rfl) ?_; simp only [Act.put, List.setIfInBounds_toArray, List.set_cons_zero, List.set_cons_succ]) | (refine wpPlan.passed (by rfl) ?_; simp only [Act.put, List.setIfInBounds_toArray, List.set_cons_zero, List.set_cons_succ]))
  refine wpPlan.done ?_
  have z6d : W5.drew.cell? ⟨g, 6, none⟩ = some (.int .i64 s.taken) := z6
  have f6d := blk_frozen b6.out 6
  have gN : ¬ w.heap.size = g := by have := gl.out; omega
  have gN1 : ¬ w.heap.size + 1 = g := by have := gl.out; omega
  have s7 := (Step.refl (fun k => k = g) W5.drew).setCell (p := ⟨g, 6, none⟩) (fun _ => rfl) (.int .i64 (s.taken + 1))
  have Q17 := Lib.hid (s7.blk Q16.out gN)
  have Q27 := Lib.hid (s7.blk Q26.out gN1)
  have LP7 := Lib.hid (load_pnote Q17.out)
  clear s7 gN gN1 z1 z6
  go_wp2_with (first | (refine wpList_load_if 36 (.tmp 115) rfl rfl rfl LP7.out ?_) | (refine wpList_store_row rfl 36 (.tmp 4) (.tmp 116) rfl (w.heap.size + 1) #[.int .i64 n.kind, .int .i64 n.vlan, .int .u8 n.m0, .int .u8 n.m1, .int .u8 n.m2, .int .u8 n.m3, .int .u8 n.m4, .int .u8 n.m5, .int .i64 n.port, .int .i64 n.state, .slice bo n.body.length bc] rfl rfl 36 _ Q27.out (by kernel_rfl) rfl (by simp [Value.oneCell']) ?_))
  (try simp only [Exit.inBlock, Exit.then])
  refine bodyPost_ret (results_cell_row3 (P := Tryd.prog) (fn := Tryd.f22) rfl _ _ (w.heap.size + 1) 36 #[.int .i64 n.kind, .int .i64 n.vlan, .int .u8 n.m0, .int .u8 n.m1, .int .u8 n.m2, .int .u8 n.m3, .int .u8 n.m4, .int .u8 n.m5, .int .i64 n.port, .int .i64 n.state, .slice bo n.body.length bc] (0, 0) _ rfl (setRow_heap _ _ _ _ _ _ Q27.out) Tryd.underlying36 rfl (by kernel_rfl)) rfl ?_
  refine ⟨_, by rw [E0.out]; rfl, by rw [E0.out]; rfl, ?_⟩
  rw [E0.out]
  exact Went.take (s' := { s.acked ak with due := true, taken := s.taken + 1 }) (by decide) (by decide) H.out S4.out L4.out H4.out (st6.out.setCell (p := ⟨g, 6, none⟩) (fun _ => rfl) _) ((blk_set b6.out 6 _).trans (by simp [Stm.cells])) rfl Q27.out _
set_option maxRecDepth 100000 in
set_option maxHeartbeats 8000000 in
theorem rtake_cz (g : Nat) (v : Value) (s : Stm) (bs : List Value) (ep sq ak : Int) (n : Note) (bo : Option Addr) (bc : Nat) (w : World) (h : Sm 45 w g v s bs) (ok : s.Ok) (hb : Bytes w (.slice bo n.body.length bc) n.body) (hbl : n.body.length ≤ 10000) (hyes : okP ep sq ak n = true) (hep : ep = s.ep) (hz : sq = 0) (ha : s.first ≤ ak) (hb2 : ak < s.first + s.out) :
    Calls Tryd.prog 22 #[.pointer (some ⟨g, 0, none⟩), .agg (n.packet ep sq ak (.slice bo n.body.length bc))] w (TakeEnds g v s ep sq ak n bo bc w 45) := by
  have p1 := (heap_alloc_new w (.cells (n.packet ep sq ak (.slice bo n.body.length bc)) 38))
  have s1 := ((Step.refl None w).alloc (.cells (n.packet ep sq ak (.slice bo n.body.length bc)) 38)).alloc (.cells #[.int .i64 0, .int .i64 0, .int .u8 0, .int .u8 0, .int .u8 0, .int .u8 0, .int .u8 0, .int .u8 0, .int .i64 0, .int .i64 0, .slice none 0 0] 36)
  have p1' := (Below.heap_alloc _ (.cells #[.int .i64 0, .int .i64 0, .int .u8 0, .int .u8 0, .int .u8 0, .int .u8 0, .int .u8 0, .int .u8 0, .int .i64 0, .int .i64 0, .slice none 0 0] 36) w.heap.size (by simp)).trans p1
  have p2 := heap_alloc_new (w.alloc (.cells (n.packet ep sq ak (.slice bo n.body.length bc)) 38)) (.cells #[.int .i64 0, .int .i64 0, .int .u8 0, .int .u8 0, .int .u8 0, .int .u8 0, .int .u8 0, .int .u8 0, .int .i64 0, .int .i64 0, .slice none 0 0] 36)
  rw [World.size_alloc] at p2
  obtain ⟨W, hW⟩ : ∃ W, (w.alloc (.cells (n.packet ep sq ak (.slice bo n.body.length bc)) 38)).alloc (.cells #[.int .i64 0, .int .i64 0, .int .u8 0, .int .u8 0, .int .u8 0, .int .u8 0, .int .u8 0, .int .u8 0, .int .i64 0, .int .i64 0, .slice none 0 0] 36) = W := ⟨_, rfl⟩
  rw [hW] at p1' p2 s1
  have HE := Lib.hid hW
  have LD := Lib.hid (load_packet p1')
  have P1 := Lib.hid p1'
  have P2 := Lib.hid p2
  have S1 := Lib.hid s1
  have H := Lib.hid h
  have B1 := Lib.hid (hb.step s1 (fun _ _ s => s.elim))
  have HBL := Lib.hid hbl
  have OK := Lib.hid ok
  have gl := Lib.hid (blk_lt h.st)
  have hok : okP ep sq ak n = true := hyes
  have hcode : codeB ep sq ak n = 0 := by simp [codeB, hok]
  have E0 := Lib.hid (show s.take ⟨ep, sq, ak, n⟩ = ({ s.acked ak with due := s.due, taken := s.taken }, bare, false, 0) by
    unfold Stm.take; rw [if_neg (by simp [hok]), if_neg (by simpa using hep), if_neg (by simp [hz]), if_pos (.inl hz)]
    have e1 : (s.acked ak).taken = s.taken := by unfold Stm.acked; split <;> rfl
    have e3 : (s.acked ak).due = s.due := by unfold Stm.acked; split <;> rfl
    simp [hz, ← e1])
  have dsq : decide (0 < sq) = false := by simp [hz]
  have dz : (sq == 0) = true := by simpa using hz
  have dep : (ep != s.ep) = false := by simpa using hep
  have ADU := Lib.hid (show (s.acked ak).due = s.due by unfold Stm.acked; split <;> rfl)
  have ATK := Lib.hid (show (s.acked ak).taken = s.taken by unfold Stm.acked; split <;> rfl)
  have tk := ok.taken
  have fi := ok.first
  have fs := ok.sum
  have fo := ok.out
  have akb := (okP_parts hok).2.2.2
  have fle : s.first ≤ 1073741824 := by omega
  have wt1 : wrap64 (s.taken + 1) = s.taken + 1 := IntWalk.wrap64_in _ ⟨by omega, by omega⟩
  have wt2 : IntKind.i64.wrap (s.taken + 1) = s.taken + 1 := IntWalk.i64_in _ (by omega)
  have wo1 : wrap64 (s.first + s.out) = s.first + s.out := IntWalk.wrap64_in _ ⟨by omega, by omega⟩
  have wo2 : IntKind.i64.wrap (s.first + s.out) = s.first + s.out := IntWalk.i64_in _ (by omega)
  obtain ⟨m, hm⟩ : ∃ m : Nat, ak - s.first + 1 = (m : Int) := ⟨(ak - s.first + 1).toNat, by omega⟩
  have HA := Lib.hid (show s.acked ak = { s with ws := s.ws.drop m, out := s.out - m, first := s.first + m } by unfold Stm.acked; rw [if_pos (by omega), hm]; rfl)
  have q1 : decide (s.first ≤ ak) = true := decide_eq_true ha
  have q2 : decide (ak < s.first + s.out) = true := decide_eq_true hb2
  have HM : Hid (m ≤ s.ws.length) := Lib.hid (by omega)
  have HP : Hid (0 < s.ws.length) := Lib.hid (by omega)
  obtain ⟨b, off, cap, cur, hv, -⟩ := H.out.row.lies HP.out
  subst hv
  have i0 : (0 : Int) ≤ (m : Int) := by omega
  have i1 : (m : Int) ≤ (s.ws.length : Int) := by omega
  have bm : (m : Int) ≤ 2000000000000 := by omega
  have b1 : 0 ≤ s.out - (m : Int) ∧ s.out - (m : Int) ≤ 2000000000000 := by omega
  have b2 : 0 ≤ s.first + (m : Int) ∧ s.first + (m : Int) ≤ 2000000000000 := by omega
  have b3 : 0 ≤ ak - s.first ∧ ak - s.first ≤ 2000000000000 := by omega
  have b4 : 0 ≤ ak - s.first + 1 ∧ ak - s.first + 1 ≤ 2000000000000 := by omega
  obtain ⟨e1, e3⟩ := small_wrap b3.1 b3.2
  obtain ⟨e2', e4'⟩ := small_wrap b4.1 b4.2
  have e2 := e2'.trans hm
  have e4 := e4'.trans hm
  obtain ⟨-, em⟩ := small_wrap i0 bm
  obtain ⟨o1, o3⟩ := small_wrap b1.1 b1.2
  obtain ⟨o2, o4⟩ := small_wrap b2.1 b2.2
  clear e2' e4' bm b1 b2 b3 b4
  obtain ⟨q, hq⟩ : ∃ q : Option Addr, (if cap = m then some (⟨b, off, none⟩ : Addr) else some ⟨b, off + m * 11, none⟩) = q := ⟨_, rfl⟩
  have HQ := Lib.hid hq
  clear hq hm
  clear hyes hok hep tk fi fs fo akb fle ha hb2 hz
  clear h ok hb hW p1 p1' p2 s1 hbl
  go_enter Tryd.func22, Tryd.ntmps22
  go_wp2_with (first | rw [HE.out] | (refine wpList_load_if 38 (.tmp 3) rfl rfl rfl LD.out ?_))
  refine (rencode_all ep sq ak n bo bc W B1.out HBL.out).mono ?_
  rintro e w2 ⟨u, rfl, -, s2⟩
  rw [hcode]
  have S2 := Lib.hid (S1.out.then_ s2)
  have Q1 := Lib.hid (s2.blk P1.out (fun s => s.elim))
  have Q2 := Lib.hid (s2.blk P2.out (fun s => s.elim))
  have H2 := Lib.hid (H.out.still S2.out)
  clear s2 LD P1 P2 S1 B1 HE
  go_wp2_with fail
  refine wp_region_plan (fun w' => w'.cell? ⟨w.heap.size, 0, none⟩ = some (.int .i64 ep) ∧ w'.cell? ⟨g, 0, none⟩ = some (.int .i64 s.ep)) (.take 0 (.take 1 (.take 2 (.take 3 (.take 4 (.take 5 (.take 6 .done))))))) _
    (by simp only [Plan.map, opOf, List.getElem?_toArray, List.getElem?_cons_zero, List.getElem?_cons_succ, Option.getD_some]; rfl) (by kernel_rfl) (by kernel_rfl) (by kernel_rfl) (by decide) (by intro c a d v w; cases d <;> exact fun h => h) ⟨blk_cell Q1.out 0, blk_cell H2.out.st 0⟩ ?_
  repeat (first | (refine wpPlan.taken (by rfl) (by intro w' hS'; (try dsimp only at hS'); go_split_ands; go_simp; try with_reducible rfl) ?_; simp only [Act.put, List.setIfInBounds_toArray, List.set_cons_zero, List.set_cons_succ]) | (refine wpPlan.passed (by rfl) ?_; simp only [Act.put, List.setIfInBounds_toArray, List.set_cons_zero, List.set_cons_succ]))
  refine wpPlan.done ?_
  have Q1d := Lib.hid (show w2.drew.heap[w.heap.size]? = _ from Q1.out)
  have Q2d := Lib.hid (show w2.drew.heap[w.heap.size + 1]? = _ from Q2.out)
  have H3 := Lib.hid (H2.out.still ((Step.refl None w2).drew))
  have S3 := Lib.hid (S2.out.drew)
  have x1 := blk_cell Q1d.out 1
  have x3 := blk_cell Q1d.out 3
  have x2 := blk_cell Q1d.out 2
  simp only [Note.packet, List.getElem?_toArray, List.getElem?_cons_zero, List.getElem?_cons_succ] at x1 x2 x3
  go_wp2_with fail
  have g3 := blk_cell H3.out.st 3
  have g4 := blk_cell H3.out.st 4
  simp only [Stm.cells, List.getElem?_toArray, List.getElem?_cons_zero, List.getElem?_cons_succ] at g3 g4
  refine wp_region_plan (fun w' => w'.cell? ⟨w.heap.size, 2, none⟩ = some (.int .i64 ak) ∧ w'.cell? ⟨g, 3, none⟩ = some (.int .i64 s.first) ∧ w'.cell? ⟨g, 4, none⟩ = some (.int .i64 s.out)) (.take 0 (.take 1 (.take 2 (.take 3 (.take 4 (.take 5 (.take 6 (.take 7 (.take 8 (.take 9 (.take 10 (.take 11 (.take 12 (.take 13 (.take 14 (.take 15 (.take 16 (.take 17 (.take 18 (.take 19 (.take 20 .done))))))))))))))))))))) _
    (by simp only [Plan.map, opOf, List.getElem?_toArray, List.getElem?_cons_zero, List.getElem?_cons_succ, Option.getD_some]; rfl) (by kernel_rfl) (by kernel_rfl) (by kernel_rfl) (by decide) (by intro c a d v w; cases d <;> exact fun h => h) ⟨x2, g3, g4⟩ ?_
  repeat (first | (refine wpPlan.taken (by rfl) (by intro w' hS'; (try dsimp only at hS'); go_split_ands; go_simp; try with_reducible rfl) ?_; simp only [Act.put, List.setIfInBounds_toArray, List.set_cons_zero, List.set_cons_succ]) | (refine wpPlan.passed (by rfl) ?_; simp only [Act.put, List.setIfInBounds_toArray, List.set_cons_zero, List.set_cons_succ]))
  refine wpPlan.done ?_
  go_wp2_with fail
  refine wp_region_plan (fun w' => w'.cell? ⟨w.heap.size, 2, none⟩ = some (.int .i64 ak) ∧ w'.cell? ⟨g, 3, none⟩ = some (.int .i64 s.first)) (.take 0 (.take 1 (.take 2 (.take 3 (.take 4 (.take 5 (.take 6 (.take 7 (.take 8 .done))))))))) _
    (by simp only [Plan.map, opOf, List.getElem?_toArray, List.getElem?_cons_zero, List.getElem?_cons_succ, Option.getD_some]; rfl) (by kernel_rfl) (by kernel_rfl) (by kernel_rfl) (by decide) (by intro c a d v w; cases d <;> exact fun h => h) ⟨x2, g3⟩ ?_
  repeat (first | (refine wpPlan.taken (by rfl) (by intro w' hS'; (try dsimp only at hS'); go_split_ands; go_simp; try with_reducible rfl) ?_; simp only [Act.put, List.setIfInBounds_toArray, List.set_cons_zero, List.set_cons_succ]) | (refine wpPlan.passed (by rfl) ?_; simp only [Act.put, List.setIfInBounds_toArray, List.set_cons_zero, List.set_cons_succ]))
  refine wpPlan.done ?_
  have sD : Step None w2.drew w2.drew.drew.drew := (Step.refl None w2.drew).drew.drew
  obtain ⟨WD, hWD⟩ : ∃ WD, w2.drew.drew.drew = WD := ⟨_, rfl⟩
  rw [hWD] at sD ⊢
  clear hWD
  have HD := Lib.hid (H3.out.still sD)
  have SD := Lib.hid (S3.out.then_ sD)
  have Q1D := Lib.hid (sD.blk Q1d.out (fun s => s.elim))
  have Q2D := Lib.hid (sD.blk Q2d.out (fun s => s.elim))
  clear sD x1 x2 x3
  have g2d := blk_cell HD.out.st 2
  have g3d := blk_cell HD.out.st 3
  have g4d := blk_cell HD.out.st 4
  have f2d := blk_frozen HD.out.st 2
  have f3d := blk_frozen HD.out.st 3
  have f4d := blk_frozen HD.out.st 4
  simp only [Stm.cells, List.getElem?_toArray, List.getElem?_cons_zero, List.getElem?_cons_succ] at g2d g3d g4d
  clear g3 g4
  go_wp2_with (first | rw [HQ.out] | with_reducible refine stop_at 92 ?_)
  clear g2d g3d g4d f2d f3d f4d e1 e2 e3 e4 em o1 o2 o3 o4
  have st4 : Step (fun k => k = g) WD (((WD.setCell ⟨g, 2, none⟩ (.slice q (s.ws.length - m) (cap - m))).setCell ⟨g, 4, none⟩ (.int .i64 (s.out - m))).setCell ⟨g, 3, none⟩ (.int .i64 (s.first + m))) := (((Step.refl (fun k => k = g) _).setCell (p := ⟨g, 2, none⟩) (fun _ => rfl) _).setCell (p := ⟨g, 4, none⟩) (fun _ => rfl) _).setCell (p := ⟨g, 3, none⟩) (fun _ => rfl) _
  have W4 : Went 45 WD (((WD.setCell ⟨g, 2, none⟩ (.slice q (s.ws.length - m) (cap - m))).setCell ⟨g, 4, none⟩ (.int .i64 (s.out - m))).setCell ⟨g, 3, none⟩ (.int .i64 (s.first + m))) g (.slice (some ⟨b, off, none⟩) s.ws.length cap) (s.acked ak) := by
    rw [HA.out]
    obtain ⟨b', off', cap', cur, ev, hc1, hc2, hb, hfit, htk⟩ := HD.out.row.lies HP.out
    simp only [Value.slice.injEq, Option.some.injEq, Addr.mk.injEq] at ev
    obtain ⟨⟨rfl, rfl, -⟩, -, rfl⟩ := ev
    have hR : ∀ off', (off' = off + m * 11 ∨ s.ws.length = m ∧ off' + (cap - m) * 11 ≤ cur.size) → Row WD 36 11 (.slice (some ⟨b, off', none⟩) (s.ws.length - m) (cap - m)) (s.ws.length - m) ((flatN (s.ws.zip bs)).drop (m * 11)) := fun off' ho' => Row.dropped hb HM.out hc1 hc2 hfit htk ho'
    have hq := HQ.out
    by_cases hcm : cap = m
    · rw [if_pos hcm] at hq
      subst hq
      exact HD.out.acked (by decide) (by decide) (hR off (.inr ⟨by have := HM.out; omega, by subst hcm; omega⟩)) (Step.refl _ _) (fun k hk => .inl hk) st4 (blk_set (blk_set (blk_set HD.out.st 2 _) 4 _) 3 _)
    · rw [if_neg hcm] at hq
      subst hq
      exact HD.out.acked (by decide) (by decide) (hR _ (.inl rfl)) (Step.refl _ _) (fun k hk => .inl hk) st4 (blk_set (blk_set (blk_set HD.out.st 2 _) 4 _) 3 _)
  obtain ⟨w4, hw4⟩ : ∃ w4, (((WD.setCell ⟨g, 2, none⟩ (.slice q (s.ws.length - m) (cap - m))).setCell ⟨g, 4, none⟩ (.int .i64 (s.out - m))).setCell ⟨g, 3, none⟩ (.int .i64 (s.first + m))) = w4 := ⟨_, rfl⟩
  rw [hw4] at W4 st4 ⊢
  refine Lib.hid ?_
  obtain ⟨v4, bs4, h4, s4, l4⟩ := W4
  have nN : ¬ w.heap.size = g := by have := gl.out; omega
  have nN1 : ¬ w.heap.size + 1 = g := by have := gl.out; omega
  have Q14 := Lib.hid (st4.blk Q1D.out nN)
  have Q24 := Lib.hid (st4.blk Q2D.out nN1)
  have S4 := Lib.hid (((SD.out).none (S := Of g (.slice (some ⟨b, off, none⟩) s.ws.length cap))).then_ s4)
  have L4 : Hid (∀ k, Leads v4 k → Leads (.slice (some ⟨b, off, none⟩) s.ws.length cap) k ∨ w.heap.size + 2 ≤ k) := Lib.hid fun k hk => (l4 k hk).imp id fun h => by
    exact Nat.le_trans (blk_lt Q2D.out) h
  have H4 := Lib.hid h4
  clear hw4 st4 h4 s4 l4 nN nN1 HD SD Q1D Q2D H3 S3 Q1d Q2d H2 S2 Q1 Q2
  have y1 := blk_cell Q14.out 1
  simp only [Note.packet, List.getElem?_toArray, List.getElem?_cons_zero, List.getElem?_cons_succ] at y1
  go_wp2_with (first | (refine wpList_store_row rfl 36 (.tmp 4) (.tmp 95) rfl (w.heap.size + 1) #[.int .i64 0, .int .i64 0, .int .u8 0, .int .u8 0, .int .u8 0, .int .u8 0, .int .u8 0, .int .u8 0, .int .i64 0, .int .i64 0, .slice none 0 0] rfl rfl 36 _ Q24.out (by kernel_rfl) rfl (by simp [Value.oneCell']) ?_))
  (try simp only [Exit.inBlock, Exit.then])
  refine bodyPost_ret (results_cell_row3 (P := Tryd.prog) (fn := Tryd.f22) rfl _ _ (w.heap.size + 1) 36 #[.int .i64 0, .int .i64 0, .int .u8 0, .int .u8 0, .int .u8 0, .int .u8 0, .int .u8 0, .int .u8 0, .int .i64 0, .int .i64 0, .slice none 0 0] (0, 0) _ rfl (setRow_heap _ _ _ _ _ _ Q24.out) Tryd.underlying36 rfl (by kernel_rfl)) rfl ?_
  refine ⟨_, by rw [E0.out]; rfl, by rw [E0.out]; rfl, ?_⟩
  rw [E0.out]
  exact Went.take (s' := { s.acked ak with due := s.due, taken := s.taken }) (by decide) (by decide) H.out S4.out L4.out H4.out (Step.refl _ _) (H4.out.st.trans (by simp [Stm.cells, ATK.out, ADU.out])) rfl Q24.out _
set_option maxRecDepth 100000 in
set_option maxHeartbeats 8000000 in
theorem rtake_cn (g : Nat) (v : Value) (s : Stm) (bs : List Value) (ep sq ak : Int) (n : Note) (bo : Option Addr) (bc : Nat) (w : World) (h : Sm 45 w g v s bs) (ok : s.Ok) (hb : Bytes w (.slice bo n.body.length bc) n.body) (hbl : n.body.length ≤ 10000) (hyes : okP ep sq ak n = true) (hep : ep = s.ep) (hk : ¬ (0 < sq ∧ n.kind = 0)) (hz : sq ≠ 0) (hn : sq ≠ s.taken + 1) (ha : s.first ≤ ak) (hb2 : ak < s.first + s.out) :
    Calls Tryd.prog 22 #[.pointer (some ⟨g, 0, none⟩), .agg (n.packet ep sq ak (.slice bo n.body.length bc))] w (TakeEnds g v s ep sq ak n bo bc w 45) := by
  have p1 := (heap_alloc_new w (.cells (n.packet ep sq ak (.slice bo n.body.length bc)) 38))
  have s1 := ((Step.refl None w).alloc (.cells (n.packet ep sq ak (.slice bo n.body.length bc)) 38)).alloc (.cells #[.int .i64 0, .int .i64 0, .int .u8 0, .int .u8 0, .int .u8 0, .int .u8 0, .int .u8 0, .int .u8 0, .int .i64 0, .int .i64 0, .slice none 0 0] 36)
  have p1' := (Below.heap_alloc _ (.cells #[.int .i64 0, .int .i64 0, .int .u8 0, .int .u8 0, .int .u8 0, .int .u8 0, .int .u8 0, .int .u8 0, .int .i64 0, .int .i64 0, .slice none 0 0] 36) w.heap.size (by simp)).trans p1
  have p2 := heap_alloc_new (w.alloc (.cells (n.packet ep sq ak (.slice bo n.body.length bc)) 38)) (.cells #[.int .i64 0, .int .i64 0, .int .u8 0, .int .u8 0, .int .u8 0, .int .u8 0, .int .u8 0, .int .u8 0, .int .i64 0, .int .i64 0, .slice none 0 0] 36)
  rw [World.size_alloc] at p2
  obtain ⟨W, hW⟩ : ∃ W, (w.alloc (.cells (n.packet ep sq ak (.slice bo n.body.length bc)) 38)).alloc (.cells #[.int .i64 0, .int .i64 0, .int .u8 0, .int .u8 0, .int .u8 0, .int .u8 0, .int .u8 0, .int .u8 0, .int .i64 0, .int .i64 0, .slice none 0 0] 36) = W := ⟨_, rfl⟩
  rw [hW] at p1' p2 s1
  have HE := Lib.hid hW
  have LD := Lib.hid (load_packet p1')
  have P1 := Lib.hid p1'
  have P2 := Lib.hid p2
  have S1 := Lib.hid s1
  have H := Lib.hid h
  have B1 := Lib.hid (hb.step s1 (fun _ _ s => s.elim))
  have HBL := Lib.hid hbl
  have OK := Lib.hid ok
  have gl := Lib.hid (blk_lt h.st)
  have hok : okP ep sq ak n = true := hyes
  have hcode : codeB ep sq ak n = 0 := by simp [codeB, hok]
  have hs0 := (okP_parts hok).2.2.1
  have dsq : decide (0 < sq) = true := by simp; omega
  have dz : (sq == 0) = false := by simpa using hz
  have dk : (n.kind == 0) = false := by simp; intro e; exact hk ⟨by omega, e⟩
  have E0 := Lib.hid (show s.take ⟨ep, sq, ak, n⟩ = ({ s.acked ak with due := true, taken := s.taken }, bare, false, 0) by
    unfold Stm.take; rw [if_neg (by simp [hok]), if_neg (by simpa using hep), if_neg hk, if_pos (.inr hn)]
    have e1 : (s.acked ak).taken = s.taken := by unfold Stm.acked; split <;> rfl
    have e3 : (s.acked ak).due = s.due := by unfold Stm.acked; split <;> rfl
    have e2 : 0 < sq := by omega
    simp [e2, ← e1])
  have dn : (sq != s.taken + 1) = true := by simpa using hn
  have dep : (ep != s.ep) = false := by simpa using hep
  have ADU := Lib.hid (show (s.acked ak).due = s.due by unfold Stm.acked; split <;> rfl)
  have ATK := Lib.hid (show (s.acked ak).taken = s.taken by unfold Stm.acked; split <;> rfl)
  have tk := ok.taken
  have fi := ok.first
  have fs := ok.sum
  have fo := ok.out
  have akb := (okP_parts hok).2.2.2
  have fle : s.first ≤ 1073741824 := by omega
  have wt1 : wrap64 (s.taken + 1) = s.taken + 1 := IntWalk.wrap64_in _ ⟨by omega, by omega⟩
  have wt2 : IntKind.i64.wrap (s.taken + 1) = s.taken + 1 := IntWalk.i64_in _ (by omega)
  have wo1 : wrap64 (s.first + s.out) = s.first + s.out := IntWalk.wrap64_in _ ⟨by omega, by omega⟩
  have wo2 : IntKind.i64.wrap (s.first + s.out) = s.first + s.out := IntWalk.i64_in _ (by omega)
  obtain ⟨m, hm⟩ : ∃ m : Nat, ak - s.first + 1 = (m : Int) := ⟨(ak - s.first + 1).toNat, by omega⟩
  have HA := Lib.hid (show s.acked ak = { s with ws := s.ws.drop m, out := s.out - m, first := s.first + m } by unfold Stm.acked; rw [if_pos (by omega), hm]; rfl)
  have q1 : decide (s.first ≤ ak) = true := decide_eq_true ha
  have q2 : decide (ak < s.first + s.out) = true := decide_eq_true hb2
  have HM : Hid (m ≤ s.ws.length) := Lib.hid (by omega)
  have HP : Hid (0 < s.ws.length) := Lib.hid (by omega)
  obtain ⟨b, off, cap, cur, hv, -⟩ := H.out.row.lies HP.out
  subst hv
  have i0 : (0 : Int) ≤ (m : Int) := by omega
  have i1 : (m : Int) ≤ (s.ws.length : Int) := by omega
  have bm : (m : Int) ≤ 2000000000000 := by omega
  have b1 : 0 ≤ s.out - (m : Int) ∧ s.out - (m : Int) ≤ 2000000000000 := by omega
  have b2 : 0 ≤ s.first + (m : Int) ∧ s.first + (m : Int) ≤ 2000000000000 := by omega
  have b3 : 0 ≤ ak - s.first ∧ ak - s.first ≤ 2000000000000 := by omega
  have b4 : 0 ≤ ak - s.first + 1 ∧ ak - s.first + 1 ≤ 2000000000000 := by omega
  obtain ⟨e1, e3⟩ := small_wrap b3.1 b3.2
  obtain ⟨e2', e4'⟩ := small_wrap b4.1 b4.2
  have e2 := e2'.trans hm
  have e4 := e4'.trans hm
  obtain ⟨-, em⟩ := small_wrap i0 bm
  obtain ⟨o1, o3⟩ := small_wrap b1.1 b1.2
  obtain ⟨o2, o4⟩ := small_wrap b2.1 b2.2
  clear e2' e4' bm b1 b2 b3 b4
  obtain ⟨q, hq⟩ : ∃ q : Option Addr, (if cap = m then some (⟨b, off, none⟩ : Addr) else some ⟨b, off + m * 11, none⟩) = q := ⟨_, rfl⟩
  have HQ := Lib.hid hq
  clear hq hm
  clear hyes hok hep tk fi fs fo akb fle ha hb2 hk hz hn hs0
  clear h ok hb hW p1 p1' p2 s1 hbl
  go_enter Tryd.func22, Tryd.ntmps22
  go_wp2_with (first | rw [HE.out] | (refine wpList_load_if 38 (.tmp 3) rfl rfl rfl LD.out ?_))
  refine (rencode_all ep sq ak n bo bc W B1.out HBL.out).mono ?_
  rintro e w2 ⟨u, rfl, -, s2⟩
  rw [hcode]
  have S2 := Lib.hid (S1.out.then_ s2)
  have Q1 := Lib.hid (s2.blk P1.out (fun s => s.elim))
  have Q2 := Lib.hid (s2.blk P2.out (fun s => s.elim))
  have H2 := Lib.hid (H.out.still S2.out)
  clear s2 LD P1 P2 S1 B1 HE
  go_wp2_with fail
  refine wp_region_plan (fun w' => w'.cell? ⟨w.heap.size, 0, none⟩ = some (.int .i64 ep) ∧ w'.cell? ⟨g, 0, none⟩ = some (.int .i64 s.ep)) (.take 0 (.take 1 (.take 2 (.take 3 (.take 4 (.take 5 (.take 6 .done))))))) _
    (by simp only [Plan.map, opOf, List.getElem?_toArray, List.getElem?_cons_zero, List.getElem?_cons_succ, Option.getD_some]; rfl) (by kernel_rfl) (by kernel_rfl) (by kernel_rfl) (by decide) (by intro c a d v w; cases d <;> exact fun h => h) ⟨blk_cell Q1.out 0, blk_cell H2.out.st 0⟩ ?_
  repeat (first | (refine wpPlan.taken (by rfl) (by intro w' hS'; (try dsimp only at hS'); go_split_ands; go_simp; try with_reducible rfl) ?_; simp only [Act.put, List.setIfInBounds_toArray, List.set_cons_zero, List.set_cons_succ]) | (refine wpPlan.passed (by rfl) ?_; simp only [Act.put, List.setIfInBounds_toArray, List.set_cons_zero, List.set_cons_succ]))
  refine wpPlan.done ?_
  have Q1d := Lib.hid (show w2.drew.heap[w.heap.size]? = _ from Q1.out)
  have Q2d := Lib.hid (show w2.drew.heap[w.heap.size + 1]? = _ from Q2.out)
  have H3 := Lib.hid (H2.out.still ((Step.refl None w2).drew))
  have S3 := Lib.hid (S2.out.drew)
  have x1 := blk_cell Q1d.out 1
  have x3 := blk_cell Q1d.out 3
  have x2 := blk_cell Q1d.out 2
  simp only [Note.packet, List.getElem?_toArray, List.getElem?_cons_zero, List.getElem?_cons_succ] at x1 x2 x3
  go_wp2_with fail
  have g3 := blk_cell H3.out.st 3
  have g4 := blk_cell H3.out.st 4
  simp only [Stm.cells, List.getElem?_toArray, List.getElem?_cons_zero, List.getElem?_cons_succ] at g3 g4
  refine wp_region_plan (fun w' => w'.cell? ⟨w.heap.size, 2, none⟩ = some (.int .i64 ak) ∧ w'.cell? ⟨g, 3, none⟩ = some (.int .i64 s.first) ∧ w'.cell? ⟨g, 4, none⟩ = some (.int .i64 s.out)) (.take 0 (.take 1 (.take 2 (.take 3 (.take 4 (.take 5 (.take 6 (.take 7 (.take 8 (.take 9 (.take 10 (.take 11 (.take 12 (.take 13 (.take 14 (.take 15 (.take 16 (.take 17 (.take 18 (.take 19 (.take 20 .done))))))))))))))))))))) _
    (by simp only [Plan.map, opOf, List.getElem?_toArray, List.getElem?_cons_zero, List.getElem?_cons_succ, Option.getD_some]; rfl) (by kernel_rfl) (by kernel_rfl) (by kernel_rfl) (by decide) (by intro c a d v w; cases d <;> exact fun h => h) ⟨x2, g3, g4⟩ ?_
  repeat (first | (refine wpPlan.taken (by rfl) (by intro w' hS'; (try dsimp only at hS'); go_split_ands; go_simp; try with_reducible rfl) ?_; simp only [Act.put, List.setIfInBounds_toArray, List.set_cons_zero, List.set_cons_succ]) | (refine wpPlan.passed (by rfl) ?_; simp only [Act.put, List.setIfInBounds_toArray, List.set_cons_zero, List.set_cons_succ]))
  refine wpPlan.done ?_
  go_wp2_with fail
  refine wp_region_plan (fun w' => w'.cell? ⟨w.heap.size, 2, none⟩ = some (.int .i64 ak) ∧ w'.cell? ⟨g, 3, none⟩ = some (.int .i64 s.first)) (.take 0 (.take 1 (.take 2 (.take 3 (.take 4 (.take 5 (.take 6 (.take 7 (.take 8 .done))))))))) _
    (by simp only [Plan.map, opOf, List.getElem?_toArray, List.getElem?_cons_zero, List.getElem?_cons_succ, Option.getD_some]; rfl) (by kernel_rfl) (by kernel_rfl) (by kernel_rfl) (by decide) (by intro c a d v w; cases d <;> exact fun h => h) ⟨x2, g3⟩ ?_
  repeat (first | (refine wpPlan.taken (by rfl) (by intro w' hS'; (try dsimp only at hS'); go_split_ands; go_simp; try with_reducible rfl) ?_; simp only [Act.put, List.setIfInBounds_toArray, List.set_cons_zero, List.set_cons_succ]) | (refine wpPlan.passed (by rfl) ?_; simp only [Act.put, List.setIfInBounds_toArray, List.set_cons_zero, List.set_cons_succ]))
  refine wpPlan.done ?_
  have sD : Step None w2.drew w2.drew.drew.drew := (Step.refl None w2.drew).drew.drew
  obtain ⟨WD, hWD⟩ : ∃ WD, w2.drew.drew.drew = WD := ⟨_, rfl⟩
  rw [hWD] at sD ⊢
  clear hWD
  have HD := Lib.hid (H3.out.still sD)
  have SD := Lib.hid (S3.out.then_ sD)
  have Q1D := Lib.hid (sD.blk Q1d.out (fun s => s.elim))
  have Q2D := Lib.hid (sD.blk Q2d.out (fun s => s.elim))
  clear sD x1 x2 x3
  have g2d := blk_cell HD.out.st 2
  have g3d := blk_cell HD.out.st 3
  have g4d := blk_cell HD.out.st 4
  have f2d := blk_frozen HD.out.st 2
  have f3d := blk_frozen HD.out.st 3
  have f4d := blk_frozen HD.out.st 4
  simp only [Stm.cells, List.getElem?_toArray, List.getElem?_cons_zero, List.getElem?_cons_succ] at g2d g3d g4d
  clear g3 g4
  go_wp2_with (first | rw [HQ.out] | with_reducible refine stop_at 92 ?_)
  clear g2d g3d g4d f2d f3d f4d e1 e2 e3 e4 em o1 o2 o3 o4
  have st4 : Step (fun k => k = g) WD (((WD.setCell ⟨g, 2, none⟩ (.slice q (s.ws.length - m) (cap - m))).setCell ⟨g, 4, none⟩ (.int .i64 (s.out - m))).setCell ⟨g, 3, none⟩ (.int .i64 (s.first + m))) := (((Step.refl (fun k => k = g) _).setCell (p := ⟨g, 2, none⟩) (fun _ => rfl) _).setCell (p := ⟨g, 4, none⟩) (fun _ => rfl) _).setCell (p := ⟨g, 3, none⟩) (fun _ => rfl) _
  have W4 : Went 45 WD (((WD.setCell ⟨g, 2, none⟩ (.slice q (s.ws.length - m) (cap - m))).setCell ⟨g, 4, none⟩ (.int .i64 (s.out - m))).setCell ⟨g, 3, none⟩ (.int .i64 (s.first + m))) g (.slice (some ⟨b, off, none⟩) s.ws.length cap) (s.acked ak) := by
    rw [HA.out]
    obtain ⟨b', off', cap', cur, ev, hc1, hc2, hb, hfit, htk⟩ := HD.out.row.lies HP.out
    simp only [Value.slice.injEq, Option.some.injEq, Addr.mk.injEq] at ev
    obtain ⟨⟨rfl, rfl, -⟩, -, rfl⟩ := ev
    have hR : ∀ off', (off' = off + m * 11 ∨ s.ws.length = m ∧ off' + (cap - m) * 11 ≤ cur.size) → Row WD 36 11 (.slice (some ⟨b, off', none⟩) (s.ws.length - m) (cap - m)) (s.ws.length - m) ((flatN (s.ws.zip bs)).drop (m * 11)) := fun off' ho' => Row.dropped hb HM.out hc1 hc2 hfit htk ho'
    have hq := HQ.out
    by_cases hcm : cap = m
    · rw [if_pos hcm] at hq
      subst hq
      exact HD.out.acked (by decide) (by decide) (hR off (.inr ⟨by have := HM.out; omega, by subst hcm; omega⟩)) (Step.refl _ _) (fun k hk => .inl hk) st4 (blk_set (blk_set (blk_set HD.out.st 2 _) 4 _) 3 _)
    · rw [if_neg hcm] at hq
      subst hq
      exact HD.out.acked (by decide) (by decide) (hR _ (.inl rfl)) (Step.refl _ _) (fun k hk => .inl hk) st4 (blk_set (blk_set (blk_set HD.out.st 2 _) 4 _) 3 _)
  obtain ⟨w4, hw4⟩ : ∃ w4, (((WD.setCell ⟨g, 2, none⟩ (.slice q (s.ws.length - m) (cap - m))).setCell ⟨g, 4, none⟩ (.int .i64 (s.out - m))).setCell ⟨g, 3, none⟩ (.int .i64 (s.first + m))) = w4 := ⟨_, rfl⟩
  rw [hw4] at W4 st4 ⊢
  refine Lib.hid ?_
  obtain ⟨v4, bs4, h4, s4, l4⟩ := W4
  have nN : ¬ w.heap.size = g := by have := gl.out; omega
  have nN1 : ¬ w.heap.size + 1 = g := by have := gl.out; omega
  have Q14 := Lib.hid (st4.blk Q1D.out nN)
  have Q24 := Lib.hid (st4.blk Q2D.out nN1)
  have S4 := Lib.hid (((SD.out).none (S := Of g (.slice (some ⟨b, off, none⟩) s.ws.length cap))).then_ s4)
  have L4 : Hid (∀ k, Leads v4 k → Leads (.slice (some ⟨b, off, none⟩) s.ws.length cap) k ∨ w.heap.size + 2 ≤ k) := Lib.hid fun k hk => (l4 k hk).imp id fun h => by
    exact Nat.le_trans (blk_lt Q2D.out) h
  have H4 := Lib.hid h4
  clear hw4 st4 h4 s4 l4 nN nN1 HD SD Q1D Q2D H3 S3 Q1d Q2d H2 S2 Q1 Q2
  have y1 := blk_cell Q14.out 1
  simp only [Note.packet, List.getElem?_toArray, List.getElem?_cons_zero, List.getElem?_cons_succ] at y1
  have c7 := blk_cell H4.out.st 7
  have f7 := blk_frozen H4.out.st 7
  simp only [Stm.cells, List.getElem?_toArray, List.getElem?_cons_zero, List.getElem?_cons_succ] at c7
  go_wp2_with fail
  have st5 := Lib.hid ((Step.refl (fun k => k = g) w4).setCell (p := ⟨g, 7, none⟩) (fun _ => rfl) (.bool true))
  have b5 := Lib.hid (blk_set H4.out.st 7 (.bool true))
  obtain ⟨W5, hW5⟩ : ∃ W5, w4.setCell ⟨g, 7, none⟩ (.bool true) = W5 := ⟨_, rfl⟩
  rw [hW5] at st5 b5 ⊢
  clear hW5 c7 f7 y1
  have gN : ¬ w.heap.size = g := by have := gl.out; omega
  have gN1 : ¬ w.heap.size + 1 = g := by have := gl.out; omega
  have Q15 := Lib.hid (st5.out.blk Q14.out gN)
  have Q25 := Lib.hid (st5.out.blk Q24.out gN1)
  have z1 := blk_cell Q15.out 1
  have z6 := blk_cell b5.out 6
  have Q16 := Lib.hid (show W5.drew.heap[w.heap.size]? = _ from Q15.out)
  have Q26 := Lib.hid (show W5.drew.heap[w.heap.size + 1]? = _ from Q25.out)
  have b6 := Lib.hid (show W5.drew.heap[g]? = _ from b5.out)
  have st6 := Lib.hid (st5.out.drew)
  clear gN gN1
  simp [Stm.cells, Note.packet, ATK.out] at z1 z6
  refine wp_region_plan (fun w' => w'.cell? ⟨w.heap.size, 1, none⟩ = some (.int .i64 sq) ∧ w'.cell? ⟨g, 6, none⟩ = some (.int .i64 s.taken)) (.take 0 (.take 1 (.take 2 (.take 3 (.take 4 (.take 5 (.take 6 (.take 7 .done)))))))) _
    (by simp only [Plan.map, opOf, List.getElem?_toArray, List.getElem?_cons_zero, List.getElem?_cons_succ, Option.getD_some]; rfl) (by kernel_rfl) (by kernel_rfl) (by kernel_rfl) (by decide) (by intro c a d v w; cases d <;> exact fun h => h) ⟨z1, z6⟩ ?_
  repeat (first | (refine wpPlan.taken (by rfl) (by intro w' hS'; (try dsimp only at hS'); go_split_ands; go_simp; try with_reducible rfl) ?_; simp only [Act.put, List.setIfInBounds_toArray, List.set_cons_zero, List.set_cons_succ]) | (refine wpPlan.passed (by rfl) ?_; simp only [Act.put, List.setIfInBounds_toArray, List.set_cons_zero, List.set_cons_succ]))
  refine wpPlan.done ?_
  go_wp2_with (first | (refine wpList_store_row rfl 36 (.tmp 4) (.tmp 107) rfl (w.heap.size + 1) #[.int .i64 0, .int .i64 0, .int .u8 0, .int .u8 0, .int .u8 0, .int .u8 0, .int .u8 0, .int .u8 0, .int .i64 0, .int .i64 0, .slice none 0 0] rfl rfl 36 _ Q26.out (by kernel_rfl) rfl (by simp [Value.oneCell']) ?_))
  (try simp only [Exit.inBlock, Exit.then])
  refine bodyPost_ret (results_cell_row3 (P := Tryd.prog) (fn := Tryd.f22) rfl _ _ (w.heap.size + 1) 36 #[.int .i64 0, .int .i64 0, .int .u8 0, .int .u8 0, .int .u8 0, .int .u8 0, .int .u8 0, .int .u8 0, .int .i64 0, .int .i64 0, .slice none 0 0] (0, 0) _ rfl (setRow_heap _ _ _ _ _ _ Q26.out) Tryd.underlying36 rfl (by kernel_rfl)) rfl ?_
  refine ⟨_, by rw [E0.out]; rfl, by rw [E0.out]; rfl, ?_⟩
  rw [E0.out]
  exact Went.take (s' := { s.acked ak with due := true, taken := s.taken }) (by decide) (by decide) H.out S4.out L4.out H4.out st6.out (b6.out.trans (by simp [Stm.cells, ATK.out])) rfl Q26.out _
set_option maxRecDepth 100000 in
set_option maxHeartbeats 8000000 in
theorem rtake_ct (g : Nat) (v : Value) (s : Stm) (bs : List Value) (ep sq ak : Int) (n : Note) (bo : Option Addr) (bc : Nat) (w : World) (h : Sm 45 w g v s bs) (ok : s.Ok) (hb : Bytes w (.slice bo n.body.length bc) n.body) (hbl : n.body.length ≤ 10000) (hyes : okP ep sq ak n = true) (hep : ep = s.ep) (hk : ¬ (0 < sq ∧ n.kind = 0)) (hz : sq ≠ 0) (hn : sq = s.taken + 1) (ha : s.first ≤ ak) (hb2 : ak < s.first + s.out) :
    Calls Tryd.prog 22 #[.pointer (some ⟨g, 0, none⟩), .agg (n.packet ep sq ak (.slice bo n.body.length bc))] w (TakeEnds g v s ep sq ak n bo bc w 45) := by
  have p1 := (heap_alloc_new w (.cells (n.packet ep sq ak (.slice bo n.body.length bc)) 38))
  have s1 := ((Step.refl None w).alloc (.cells (n.packet ep sq ak (.slice bo n.body.length bc)) 38)).alloc (.cells #[.int .i64 0, .int .i64 0, .int .u8 0, .int .u8 0, .int .u8 0, .int .u8 0, .int .u8 0, .int .u8 0, .int .i64 0, .int .i64 0, .slice none 0 0] 36)
  have p1' := (Below.heap_alloc _ (.cells #[.int .i64 0, .int .i64 0, .int .u8 0, .int .u8 0, .int .u8 0, .int .u8 0, .int .u8 0, .int .u8 0, .int .i64 0, .int .i64 0, .slice none 0 0] 36) w.heap.size (by simp)).trans p1
  have p2 := heap_alloc_new (w.alloc (.cells (n.packet ep sq ak (.slice bo n.body.length bc)) 38)) (.cells #[.int .i64 0, .int .i64 0, .int .u8 0, .int .u8 0, .int .u8 0, .int .u8 0, .int .u8 0, .int .u8 0, .int .i64 0, .int .i64 0, .slice none 0 0] 36)
  rw [World.size_alloc] at p2
  obtain ⟨W, hW⟩ : ∃ W, (w.alloc (.cells (n.packet ep sq ak (.slice bo n.body.length bc)) 38)).alloc (.cells #[.int .i64 0, .int .i64 0, .int .u8 0, .int .u8 0, .int .u8 0, .int .u8 0, .int .u8 0, .int .u8 0, .int .i64 0, .int .i64 0, .slice none 0 0] 36) = W := ⟨_, rfl⟩
  rw [hW] at p1' p2 s1
  have HE := Lib.hid hW
  have LD := Lib.hid (load_packet p1')
  have P1 := Lib.hid p1'
  have P2 := Lib.hid p2
  have S1 := Lib.hid s1
  have H := Lib.hid h
  have B1 := Lib.hid (hb.step s1 (fun _ _ s => s.elim))
  have HBL := Lib.hid hbl
  have OK := Lib.hid ok
  have gl := Lib.hid (blk_lt h.st)
  have hok : okP ep sq ak n = true := hyes
  have hcode : codeB ep sq ak n = 0 := by simp [codeB, hok]
  have hs0 := (okP_parts hok).2.2.1
  have dsq : decide (0 < sq) = true := by simp; omega
  have dz : (sq == 0) = false := by simpa using hz
  have dk : (n.kind == 0) = false := by simp; intro e; exact hk ⟨by omega, e⟩
  have E0 := Lib.hid (show s.take ⟨ep, sq, ak, n⟩ = ({ s.acked ak with due := true, taken := s.taken + 1 }, n, true, 0) by
    unfold Stm.take; rw [if_neg (by simp [hok]), if_neg (by simpa using hep), if_neg hk, if_neg (by simp [hn]; omega)])
  have dn : (sq != s.taken + 1) = false := by simpa using hn
  have dep : (ep != s.ep) = false := by simpa using hep
  have ADU := Lib.hid (show (s.acked ak).due = s.due by unfold Stm.acked; split <;> rfl)
  have ATK := Lib.hid (show (s.acked ak).taken = s.taken by unfold Stm.acked; split <;> rfl)
  have tk := ok.taken
  have fi := ok.first
  have fs := ok.sum
  have fo := ok.out
  have akb := (okP_parts hok).2.2.2
  have fle : s.first ≤ 1073741824 := by omega
  have wt1 : wrap64 (s.taken + 1) = s.taken + 1 := IntWalk.wrap64_in _ ⟨by omega, by omega⟩
  have wt2 : IntKind.i64.wrap (s.taken + 1) = s.taken + 1 := IntWalk.i64_in _ (by omega)
  have wo1 : wrap64 (s.first + s.out) = s.first + s.out := IntWalk.wrap64_in _ ⟨by omega, by omega⟩
  have wo2 : IntKind.i64.wrap (s.first + s.out) = s.first + s.out := IntWalk.i64_in _ (by omega)
  obtain ⟨m, hm⟩ : ∃ m : Nat, ak - s.first + 1 = (m : Int) := ⟨(ak - s.first + 1).toNat, by omega⟩
  have HA := Lib.hid (show s.acked ak = { s with ws := s.ws.drop m, out := s.out - m, first := s.first + m } by unfold Stm.acked; rw [if_pos (by omega), hm]; rfl)
  have q1 : decide (s.first ≤ ak) = true := decide_eq_true ha
  have q2 : decide (ak < s.first + s.out) = true := decide_eq_true hb2
  have HM : Hid (m ≤ s.ws.length) := Lib.hid (by omega)
  have HP : Hid (0 < s.ws.length) := Lib.hid (by omega)
  obtain ⟨b, off, cap, cur, hv, -⟩ := H.out.row.lies HP.out
  subst hv
  have i0 : (0 : Int) ≤ (m : Int) := by omega
  have i1 : (m : Int) ≤ (s.ws.length : Int) := by omega
  have bm : (m : Int) ≤ 2000000000000 := by omega
  have b1 : 0 ≤ s.out - (m : Int) ∧ s.out - (m : Int) ≤ 2000000000000 := by omega
  have b2 : 0 ≤ s.first + (m : Int) ∧ s.first + (m : Int) ≤ 2000000000000 := by omega
  have b3 : 0 ≤ ak - s.first ∧ ak - s.first ≤ 2000000000000 := by omega
  have b4 : 0 ≤ ak - s.first + 1 ∧ ak - s.first + 1 ≤ 2000000000000 := by omega
  obtain ⟨e1, e3⟩ := small_wrap b3.1 b3.2
  obtain ⟨e2', e4'⟩ := small_wrap b4.1 b4.2
  have e2 := e2'.trans hm
  have e4 := e4'.trans hm
  obtain ⟨-, em⟩ := small_wrap i0 bm
  obtain ⟨o1, o3⟩ := small_wrap b1.1 b1.2
  obtain ⟨o2, o4⟩ := small_wrap b2.1 b2.2
  clear e2' e4' bm b1 b2 b3 b4
  obtain ⟨q, hq⟩ : ∃ q : Option Addr, (if cap = m then some (⟨b, off, none⟩ : Addr) else some ⟨b, off + m * 11, none⟩) = q := ⟨_, rfl⟩
  have HQ := Lib.hid hq
  clear hq hm
  clear hyes hok hep tk fi fs fo akb fle ha hb2 hk hz hn hs0
  clear h ok hb hW p1 p1' p2 s1 hbl
  go_enter Tryd.func22, Tryd.ntmps22
  go_wp2_with (first | rw [HE.out] | (refine wpList_load_if 38 (.tmp 3) rfl rfl rfl LD.out ?_))
  refine (rencode_all ep sq ak n bo bc W B1.out HBL.out).mono ?_
  rintro e w2 ⟨u, rfl, -, s2⟩
  rw [hcode]
  have S2 := Lib.hid (S1.out.then_ s2)
  have Q1 := Lib.hid (s2.blk P1.out (fun s => s.elim))
  have Q2 := Lib.hid (s2.blk P2.out (fun s => s.elim))
  have H2 := Lib.hid (H.out.still S2.out)
  clear s2 LD P1 P2 S1 B1 HE
  go_wp2_with fail
  refine wp_region_plan (fun w' => w'.cell? ⟨w.heap.size, 0, none⟩ = some (.int .i64 ep) ∧ w'.cell? ⟨g, 0, none⟩ = some (.int .i64 s.ep)) (.take 0 (.take 1 (.take 2 (.take 3 (.take 4 (.take 5 (.take 6 .done))))))) _
    (by simp only [Plan.map, opOf, List.getElem?_toArray, List.getElem?_cons_zero, List.getElem?_cons_succ, Option.getD_some]; rfl) (by kernel_rfl) (by kernel_rfl) (by kernel_rfl) (by decide) (by intro c a d v w; cases d <;> exact fun h => h) ⟨blk_cell Q1.out 0, blk_cell H2.out.st 0⟩ ?_
  repeat (first | (refine wpPlan.taken (by rfl) (by intro w' hS'; (try dsimp only at hS'); go_split_ands; go_simp; try with_reducible rfl) ?_; simp only [Act.put, List.setIfInBounds_toArray, List.set_cons_zero, List.set_cons_succ]) | (refine wpPlan.passed (by rfl) ?_; simp only [Act.put, List.setIfInBounds_toArray, List.set_cons_zero, List.set_cons_succ]))
  refine wpPlan.done ?_
  have Q1d := Lib.hid (show w2.drew.heap[w.heap.size]? = _ from Q1.out)
  have Q2d := Lib.hid (show w2.drew.heap[w.heap.size + 1]? = _ from Q2.out)
  have H3 := Lib.hid (H2.out.still ((Step.refl None w2).drew))
  have S3 := Lib.hid (S2.out.drew)
  have x1 := blk_cell Q1d.out 1
  have x3 := blk_cell Q1d.out 3
  have x2 := blk_cell Q1d.out 2
  simp only [Note.packet, List.getElem?_toArray, List.getElem?_cons_zero, List.getElem?_cons_succ] at x1 x2 x3
  go_wp2_with fail
  have g3 := blk_cell H3.out.st 3
  have g4 := blk_cell H3.out.st 4
  simp only [Stm.cells, List.getElem?_toArray, List.getElem?_cons_zero, List.getElem?_cons_succ] at g3 g4
  refine wp_region_plan (fun w' => w'.cell? ⟨w.heap.size, 2, none⟩ = some (.int .i64 ak) ∧ w'.cell? ⟨g, 3, none⟩ = some (.int .i64 s.first) ∧ w'.cell? ⟨g, 4, none⟩ = some (.int .i64 s.out)) (.take 0 (.take 1 (.take 2 (.take 3 (.take 4 (.take 5 (.take 6 (.take 7 (.take 8 (.take 9 (.take 10 (.take 11 (.take 12 (.take 13 (.take 14 (.take 15 (.take 16 (.take 17 (.take 18 (.take 19 (.take 20 .done))))))))))))))))))))) _
    (by simp only [Plan.map, opOf, List.getElem?_toArray, List.getElem?_cons_zero, List.getElem?_cons_succ, Option.getD_some]; rfl) (by kernel_rfl) (by kernel_rfl) (by kernel_rfl) (by decide) (by intro c a d v w; cases d <;> exact fun h => h) ⟨x2, g3, g4⟩ ?_
  repeat (first | (refine wpPlan.taken (by rfl) (by intro w' hS'; (try dsimp only at hS'); go_split_ands; go_simp; try with_reducible rfl) ?_; simp only [Act.put, List.setIfInBounds_toArray, List.set_cons_zero, List.set_cons_succ]) | (refine wpPlan.passed (by rfl) ?_; simp only [Act.put, List.setIfInBounds_toArray, List.set_cons_zero, List.set_cons_succ]))
  refine wpPlan.done ?_
  go_wp2_with fail
  refine wp_region_plan (fun w' => w'.cell? ⟨w.heap.size, 2, none⟩ = some (.int .i64 ak) ∧ w'.cell? ⟨g, 3, none⟩ = some (.int .i64 s.first)) (.take 0 (.take 1 (.take 2 (.take 3 (.take 4 (.take 5 (.take 6 (.take 7 (.take 8 .done))))))))) _
    (by simp only [Plan.map, opOf, List.getElem?_toArray, List.getElem?_cons_zero, List.getElem?_cons_succ, Option.getD_some]; rfl) (by kernel_rfl) (by kernel_rfl) (by kernel_rfl) (by decide) (by intro c a d v w; cases d <;> exact fun h => h) ⟨x2, g3⟩ ?_
  repeat (first | (refine wpPlan.taken (by rfl) (by intro w' hS'; (try dsimp only at hS'); go_split_ands; go_simp; try with_reducible rfl) ?_; simp only [Act.put, List.setIfInBounds_toArray, List.set_cons_zero, List.set_cons_succ]) | (refine wpPlan.passed (by rfl) ?_; simp only [Act.put, List.setIfInBounds_toArray, List.set_cons_zero, List.set_cons_succ]))
  refine wpPlan.done ?_
  have sD : Step None w2.drew w2.drew.drew.drew := (Step.refl None w2.drew).drew.drew
  obtain ⟨WD, hWD⟩ : ∃ WD, w2.drew.drew.drew = WD := ⟨_, rfl⟩
  rw [hWD] at sD ⊢
  clear hWD
  have HD := Lib.hid (H3.out.still sD)
  have SD := Lib.hid (S3.out.then_ sD)
  have Q1D := Lib.hid (sD.blk Q1d.out (fun s => s.elim))
  have Q2D := Lib.hid (sD.blk Q2d.out (fun s => s.elim))
  clear sD x1 x2 x3
  have g2d := blk_cell HD.out.st 2
  have g3d := blk_cell HD.out.st 3
  have g4d := blk_cell HD.out.st 4
  have f2d := blk_frozen HD.out.st 2
  have f3d := blk_frozen HD.out.st 3
  have f4d := blk_frozen HD.out.st 4
  simp only [Stm.cells, List.getElem?_toArray, List.getElem?_cons_zero, List.getElem?_cons_succ] at g2d g3d g4d
  clear g3 g4
  go_wp2_with (first | rw [HQ.out] | with_reducible refine stop_at 92 ?_)
  clear g2d g3d g4d f2d f3d f4d e1 e2 e3 e4 em o1 o2 o3 o4
  have st4 : Step (fun k => k = g) WD (((WD.setCell ⟨g, 2, none⟩ (.slice q (s.ws.length - m) (cap - m))).setCell ⟨g, 4, none⟩ (.int .i64 (s.out - m))).setCell ⟨g, 3, none⟩ (.int .i64 (s.first + m))) := (((Step.refl (fun k => k = g) _).setCell (p := ⟨g, 2, none⟩) (fun _ => rfl) _).setCell (p := ⟨g, 4, none⟩) (fun _ => rfl) _).setCell (p := ⟨g, 3, none⟩) (fun _ => rfl) _
  have W4 : Went 45 WD (((WD.setCell ⟨g, 2, none⟩ (.slice q (s.ws.length - m) (cap - m))).setCell ⟨g, 4, none⟩ (.int .i64 (s.out - m))).setCell ⟨g, 3, none⟩ (.int .i64 (s.first + m))) g (.slice (some ⟨b, off, none⟩) s.ws.length cap) (s.acked ak) := by
    rw [HA.out]
    obtain ⟨b', off', cap', cur, ev, hc1, hc2, hb, hfit, htk⟩ := HD.out.row.lies HP.out
    simp only [Value.slice.injEq, Option.some.injEq, Addr.mk.injEq] at ev
    obtain ⟨⟨rfl, rfl, -⟩, -, rfl⟩ := ev
    have hR : ∀ off', (off' = off + m * 11 ∨ s.ws.length = m ∧ off' + (cap - m) * 11 ≤ cur.size) → Row WD 36 11 (.slice (some ⟨b, off', none⟩) (s.ws.length - m) (cap - m)) (s.ws.length - m) ((flatN (s.ws.zip bs)).drop (m * 11)) := fun off' ho' => Row.dropped hb HM.out hc1 hc2 hfit htk ho'
    have hq := HQ.out
    by_cases hcm : cap = m
    · rw [if_pos hcm] at hq
      subst hq
      exact HD.out.acked (by decide) (by decide) (hR off (.inr ⟨by have := HM.out; omega, by subst hcm; omega⟩)) (Step.refl _ _) (fun k hk => .inl hk) st4 (blk_set (blk_set (blk_set HD.out.st 2 _) 4 _) 3 _)
    · rw [if_neg hcm] at hq
      subst hq
      exact HD.out.acked (by decide) (by decide) (hR _ (.inl rfl)) (Step.refl _ _) (fun k hk => .inl hk) st4 (blk_set (blk_set (blk_set HD.out.st 2 _) 4 _) 3 _)
  obtain ⟨w4, hw4⟩ : ∃ w4, (((WD.setCell ⟨g, 2, none⟩ (.slice q (s.ws.length - m) (cap - m))).setCell ⟨g, 4, none⟩ (.int .i64 (s.out - m))).setCell ⟨g, 3, none⟩ (.int .i64 (s.first + m))) = w4 := ⟨_, rfl⟩
  rw [hw4] at W4 st4 ⊢
  refine Lib.hid ?_
  obtain ⟨v4, bs4, h4, s4, l4⟩ := W4
  have nN : ¬ w.heap.size = g := by have := gl.out; omega
  have nN1 : ¬ w.heap.size + 1 = g := by have := gl.out; omega
  have Q14 := Lib.hid (st4.blk Q1D.out nN)
  have Q24 := Lib.hid (st4.blk Q2D.out nN1)
  have S4 := Lib.hid (((SD.out).none (S := Of g (.slice (some ⟨b, off, none⟩) s.ws.length cap))).then_ s4)
  have L4 : Hid (∀ k, Leads v4 k → Leads (.slice (some ⟨b, off, none⟩) s.ws.length cap) k ∨ w.heap.size + 2 ≤ k) := Lib.hid fun k hk => (l4 k hk).imp id fun h => by
    exact Nat.le_trans (blk_lt Q2D.out) h
  have H4 := Lib.hid h4
  clear hw4 st4 h4 s4 l4 nN nN1 HD SD Q1D Q2D H3 S3 Q1d Q2d H2 S2 Q1 Q2
  have y1 := blk_cell Q14.out 1
  simp only [Note.packet, List.getElem?_toArray, List.getElem?_cons_zero, List.getElem?_cons_succ] at y1
  have c7 := blk_cell H4.out.st 7
  have f7 := blk_frozen H4.out.st 7
  simp only [Stm.cells, List.getElem?_toArray, List.getElem?_cons_zero, List.getElem?_cons_succ] at c7
  go_wp2_with fail
  have st5 := Lib.hid ((Step.refl (fun k => k = g) w4).setCell (p := ⟨g, 7, none⟩) (fun _ => rfl) (.bool true))
  have b5 := Lib.hid (blk_set H4.out.st 7 (.bool true))
  obtain ⟨W5, hW5⟩ : ∃ W5, w4.setCell ⟨g, 7, none⟩ (.bool true) = W5 := ⟨_, rfl⟩
  rw [hW5] at st5 b5 ⊢
  clear hW5 c7 f7 y1
  have gN : ¬ w.heap.size = g := by have := gl.out; omega
  have gN1 : ¬ w.heap.size + 1 = g := by have := gl.out; omega
  have Q15 := Lib.hid (st5.out.blk Q14.out gN)
  have Q25 := Lib.hid (st5.out.blk Q24.out gN1)
  have z1 := blk_cell Q15.out 1
  have z6 := blk_cell b5.out 6
  have Q16 := Lib.hid (show W5.drew.heap[w.heap.size]? = _ from Q15.out)
  have Q26 := Lib.hid (show W5.drew.heap[w.heap.size + 1]? = _ from Q25.out)
  have b6 := Lib.hid (show W5.drew.heap[g]? = _ from b5.out)
  have st6 := Lib.hid (st5.out.drew)
  clear gN gN1
  simp [Stm.cells, Note.packet, ATK.out] at z1 z6
  refine wp_region_plan (fun w' => w'.cell? ⟨w.heap.size, 1, none⟩ = some (.int .i64 sq) ∧ w'.cell? ⟨g, 6, none⟩ = some (.int .i64 s.taken)) (.take 0 (.take 1 (.take 2 (.take 3 (.take 4 (.take 5 (.take 6 (.take 7 .done)))))))) _
    (by simp only [Plan.map, opOf, List.getElem?_toArray, List.getElem?_cons_zero, List.getElem?_cons_succ, Option.getD_some]; rfl) (by kernel_rfl) (by kernel_rfl) (by kernel_rfl) (by decide) (by intro c a d v w; cases d <;> exact fun h => h) ⟨z1, z6⟩ ?_
  repeat (first | (refine wpPlan.taken (by rfl) (by intro w' hS'; (try dsimp only at hS'); go_split_ands; go_simp; try with_reducible rfl) ?_; simp only [Act.put, List.setIfInBounds_toArray, List.set_cons_zero, List.set_cons_succ]) | (refine wpPlan.passed (by rfl) ?_; simp only [Act.put, List.setIfInBounds_toArray, List.set_cons_zero, List.set_cons_succ]))
  refine wpPlan.done ?_
  have z6d : W5.drew.cell? ⟨g, 6, none⟩ = some (.int .i64 s.taken) := z6
  have f6d := blk_frozen b6.out 6
  have gN : ¬ w.heap.size = g := by have := gl.out; omega
  have gN1 : ¬ w.heap.size + 1 = g := by have := gl.out; omega
  have s7 := (Step.refl (fun k => k = g) W5.drew).setCell (p := ⟨g, 6, none⟩) (fun _ => rfl) (.int .i64 (s.taken + 1))
  have Q17 := Lib.hid (s7.blk Q16.out gN)
  have Q27 := Lib.hid (s7.blk Q26.out gN1)
  have LP7 := Lib.hid (load_pnote Q17.out)
  clear s7 gN gN1 z1 z6
  go_wp2_with (first | (refine wpList_load_if 36 (.tmp 115) rfl rfl rfl LP7.out ?_) | (refine wpList_store_row rfl 36 (.tmp 4) (.tmp 116) rfl (w.heap.size + 1) #[.int .i64 n.kind, .int .i64 n.vlan, .int .u8 n.m0, .int .u8 n.m1, .int .u8 n.m2, .int .u8 n.m3, .int .u8 n.m4, .int .u8 n.m5, .int .i64 n.port, .int .i64 n.state, .slice bo n.body.length bc] rfl rfl 36 _ Q27.out (by kernel_rfl) rfl (by simp [Value.oneCell']) ?_))
  (try simp only [Exit.inBlock, Exit.then])
  refine bodyPost_ret (results_cell_row3 (P := Tryd.prog) (fn := Tryd.f22) rfl _ _ (w.heap.size + 1) 36 #[.int .i64 n.kind, .int .i64 n.vlan, .int .u8 n.m0, .int .u8 n.m1, .int .u8 n.m2, .int .u8 n.m3, .int .u8 n.m4, .int .u8 n.m5, .int .i64 n.port, .int .i64 n.state, .slice bo n.body.length bc] (0, 0) _ rfl (setRow_heap _ _ _ _ _ _ Q27.out) Tryd.underlying36 rfl (by kernel_rfl)) rfl ?_
  refine ⟨_, by rw [E0.out]; rfl, by rw [E0.out]; rfl, ?_⟩
  rw [E0.out]
  exact Went.take (s' := { s.acked ak with due := true, taken := s.taken + 1 }) (by decide) (by decide) H.out S4.out L4.out H4.out (st6.out.setCell (p := ⟨g, 6, none⟩) (fun _ => rfl) _) ((blk_set b6.out 6 _).trans (by simp [Stm.cells])) rfl Q27.out _
theorem rtake_any (g : Nat) (v : Value) (s : Stm) (bs : List Value) (ep sq ak : Int) (n : Note) (bo : Option Addr) (bc : Nat) (w : World) (h : Sm 45 w g v s bs) (ok : s.Ok) (hb : Bytes w (.slice bo n.body.length bc) n.body) (hbl : n.body.length ≤ 10000) :
    Calls Tryd.prog 22 #[.pointer (some ⟨g, 0, none⟩), .agg (n.packet ep sq ak (.slice bo n.body.length bc))] w (TakeEnds g v s ep sq ak n bo bc w 45) := by
  cases hyes : okP ep sq ak n
  · exact rtake_c1 g v s bs ep sq ak n bo bc w h ok hb hbl hyes
  by_cases hep : ep = s.ep
  rotate_left
  · exact rtake_c2 g v s bs ep sq ak n bo bc w h ok hb hbl hyes hep
  by_cases hk : 0 < sq ∧ n.kind = 0
  · exact rtake_c3 g v s bs ep sq ak n bo bc w h ok hb hbl hyes hep hk
  by_cases ha : s.first ≤ ak
  · by_cases hb2 : ak < s.first + s.out
    · by_cases hz : sq = 0
      · exact rtake_cz g v s bs ep sq ak n bo bc w h ok hb hbl hyes hep hz ha hb2
      by_cases hn : sq = s.taken + 1
      · exact rtake_ct g v s bs ep sq ak n bo bc w h ok hb hbl hyes hep hk hz hn ha hb2
      · exact rtake_cn g v s bs ep sq ak n bo bc w h ok hb hbl hyes hep hk hz hn ha hb2
    · by_cases hz : sq = 0
      · exact rtake_bz g v s bs ep sq ak n bo bc w h ok hb hbl hyes hep hz ha (by omega)
      by_cases hn : sq = s.taken + 1
      · exact rtake_bt g v s bs ep sq ak n bo bc w h ok hb hbl hyes hep hk hz hn ha (by omega)
      · exact rtake_bn g v s bs ep sq ak n bo bc w h ok hb hbl hyes hep hk hz hn ha (by omega)
  · by_cases hz : sq = 0
    · exact rtake_az g v s bs ep sq ak n bo bc w h ok hb hbl hyes hep hz (by omega)
    by_cases hn : sq = s.taken + 1
    · exact rtake_at g v s bs ep sq ak n bo bc w h ok hb hbl hyes hep hk hz hn (by omega)
    · exact rtake_an g v s bs ep sq ak n bo bc w h ok hb hbl hyes hep hk hz hn (by omega)
end Go.Proofs.YtgchepijbpcckaaDoor
