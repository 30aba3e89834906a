/- Take of the code. -/
import Derived.Test.YtgchepijbpcckaaDoorW5
import Derived.Test.YtgchepijbpcckaaDoorCutw
namespace Go.Proofs.YtgchepijbpcckaaDoor
open Go.RowKit Go.Gm

theorem load_packet {w : World} {g : Nat} {n : Note} {ep sq ak : Int} {bv : Value} {t : TypeId} {fr : Nat × Nat} (h : w.heap[g]? = some (.cells (n.packet ep sq ak bv) t fr)) : (Instr.loadAt 38 (.pointer (some ⟨g, 0, none⟩))).run Tryd.prog w = .ok (.agg (n.packet ep sq ak bv)) w := by
  have := run_loadAt_mid (P := Tryd.prog) w g 0 38 (n.packet ep sq ak bv).toList _ (fun j u hj => by rw [blk_cell h, Nat.zero_add]; simpa using hj) Tryd.underlying38 rfl (by kernel_rfl)
  simpa using this
theorem load_pnote {w : World} {g : Nat} {n : Note} {ep sq ak : Int} {bv : Value} {t : TypeId} {fr : Nat × Nat} (h : w.heap[g]? = some (.cells (n.packet ep sq ak bv) t fr)) : (Instr.loadAt 36 (.pointer (some ⟨g, 3, none⟩))).run Tryd.prog w = .ok (.agg #[.int .i64 n.kind, .int .i64 n.vlan, .int .u8 n.m0, .int .u8 n.m1, .int .u8 n.m2, .int .u8 n.m3, .int .u8 n.m4, .int .u8 n.m5, .int .i64 n.port, .int .i64 n.state, bv]) w := by
  have := run_loadAt_mid (P := Tryd.prog) w g 3 36 (n.cells bv).toList _ (fun j u hj => by
    rw [blk_cell h]
    match j, hj with
    | 0, hj => exact hj
    | 1, hj => exact hj
    | 2, hj => exact hj
    | 3, hj => exact hj
    | 4, hj => exact hj
    | 5, hj => exact hj
    | 6, hj => exact hj
    | 7, hj => exact hj
    | 8, hj => exact hj
    | 9, hj => exact hj
    | 10, hj => exact hj
    | j + 11, hj => simp [Note.cells] at hj) Tryd.underlying36 rfl (by kernel_rfl)
  simpa [Note.cells] using this
/-- Where the notes are the same. -/
theorem Sm.tail {T : TypeId} {w w' : World} {g : Nat} {v : Value} {s s' : Stm} {bs : List Value} (h : Sm T w g v s bs) (hT : T ≠ 36) (hT5 : T ≠ 5) (hw : s'.ws = s.ws) (hs : Step (fun k => k = g) w w') (hst : w'.heap[g]? = some (.cells (s'.cells v) T (0, 0))) : Sm T w' g v s' bs := by
  refine ⟨hst, ?_, by rw [hw]; exact h.len, fun i n b h1 h2 => ?_⟩
  · rw [hw]
    exact h.row.step hs fun k hk e => by subst e; exact h.row.ne h.st hT hk
  · rw [hw] at h1
    exact (h.body i n b h1 h2).step hs fun k e => h.not5 hT5 k (.inl e)
/-- The end of Take: behind acked, what is written of g's numbers, and of the result's cells. -/
theorem Went.take {T : TypeId} {w w4 wx : World} {g : Nat} {v v4 : Value} {s s1 s' : Stm} {bs bs4 : List Value} (hT : T ≠ 36) (hT5 : T ≠ 5) (H : Sm T w g v s bs) (S4 : Step (Of g v) w w4) (L4 : ∀ k, Leads v4 k → Leads v k ∨ w.heap.size + 2 ≤ k) (H4 : Sm T w4 g v4 s1 bs4)
    (st : Step (fun k => k = g) w4 wx) (hst : wx.heap[g]? = some (.cells (s'.cells v4) T (0, 0))) (hw : s'.ws = s1.ws) {old : Array Value} (hz : wx.heap[w.heap.size + 1]? = some (.cells old 36 (0, 0))) (cs : Array Value) : Went T w (wx.setRow (w.heap.size + 1) cs) g v s' := by
  have N8 := H4.tail hT hT5 hw st hst
  have gl := blk_lt H.st
  have s9 := Step.setRow (S := fun k => k = w.heap.size + 1) (Step.refl _ wx) (g := w.heap.size + 1) (fun _ => rfl) cs
  refine ⟨v4, bs4, N8.step s9 (fun e => by omega) (fun k hk e => ?_) (fun k e cs' fr hc => ?_), (S4.trans st fun _ _ e => .inl e).trans s9 fun k hk e => by omega, fun k hk => (L4 k hk).imp id fun h => by omega⟩
  · subst e
    rcases L4 _ hk with h | h
    · have := H.row.lt h; omega
    · omega
  · subst e; exact blk_ne hz hc (by decide) rfl

/-- The zero note in the result's cell. -/
theorem bare_cells : bare.cells (.slice none 0 0) = #[.int .i64 0, .int .i64 0, .int .u8 0, .int .u8 0, .int .u8 0, .int .u8 0, .int .u8 0, .int .u8 0, .int .i64 0, .int .i64 0, .slice none 0 0] := rfl
section
variable (g : Nat) (v : Value) (s : Stm) (bs : List Value) (ep sq ak : Int) (n : Note) (bo : Option Addr) (bc : Nat) (w : World)
/-- The head of every way: the blocks, Encode's answer. -/
def TakeEnds (T : TypeId) (e : Ending) (w' : World) : Prop := ∃ bv, e = .returned (.tuple #[.agg ((s.take ⟨ep, sq, ak, n⟩).2.1.cells bv), .bool (s.take ⟨ep, sq, ak, n⟩).2.2.1, .int .i64 (s.take ⟨ep, sq, ak, n⟩).2.2.2]) ∧ (bv = if (s.take ⟨ep, sq, ak, n⟩).2.2.1 then (.slice bo n.body.length bc) else .slice none 0 0) ∧ Went T w w' g v (s.take ⟨ep, sq, ak, n⟩).1
end
set_option maxHeartbeats 8000000 in
theorem take_c1 (g : Nat) (v : Value) (s : Stm) (bs : List Value) (ep sq ak : Int) (n : Note) (bo : Option Addr) (bc : Nat) (w : World) (h : Sm 66 w g v s bs) (ok : s.Ok) (hT : HasAt 0 w) (hb : Bytes w (.slice bo n.body.length bc) n.body) (hbl : n.body.length ≤ 10000) (hno : okP ep sq ak n = false) :
    Calls Tryd.prog 18 #[.pointer (some ⟨g, 0, none⟩), .agg (n.packet ep sq ak (.slice bo n.body.length bc))] w (TakeEnds g v s ep sq ak n bo bc w 66) := by
  have p1 := (heap_alloc_new w (.cells (n.packet ep sq ak (.slice bo n.body.length bc)) 38))
  have s1 := ((Step.refl None w).alloc (.cells (n.packet ep sq ak (.slice bo n.body.length bc)) 38)).alloc (.cells #[.int .i64 0, .int .i64 0, .int .u8 0, .int .u8 0, .int .u8 0, .int .u8 0, .int .u8 0, .int .u8 0, .int .i64 0, .int .i64 0, .slice none 0 0] 36)
  have p1' := (Below.heap_alloc _ (.cells #[.int .i64 0, .int .i64 0, .int .u8 0, .int .u8 0, .int .u8 0, .int .u8 0, .int .u8 0, .int .u8 0, .int .i64 0, .int .i64 0, .slice none 0 0] 36) w.heap.size (by simp)).trans p1
  have p2 := heap_alloc_new (w.alloc (.cells (n.packet ep sq ak (.slice bo n.body.length bc)) 38)) (.cells #[.int .i64 0, .int .i64 0, .int .u8 0, .int .u8 0, .int .u8 0, .int .u8 0, .int .u8 0, .int .u8 0, .int .i64 0, .int .i64 0, .slice none 0 0] 36)
  rw [World.size_alloc] at p2
  obtain ⟨W, hW⟩ : ∃ W, (w.alloc (.cells (n.packet ep sq ak (.slice bo n.body.length bc)) 38)).alloc (.cells #[.int .i64 0, .int .i64 0, .int .u8 0, .int .u8 0, .int .u8 0, .int .u8 0, .int .u8 0, .int .u8 0, .int .i64 0, .int .i64 0, .slice none 0 0] 36) = W := ⟨_, rfl⟩
  rw [hW] at p1' p2 s1
  have HE := Lib.hid hW
  have LD := Lib.hid (load_packet p1')
  have P1 := Lib.hid p1'
  have P2 := Lib.hid p2
  have S1 := Lib.hid s1
  have H := Lib.hid h
  have T1 := Lib.hid (hT.still s1)
  have B1 := Lib.hid (hb.step s1 (fun _ _ s => s.elim))
  have HBL := Lib.hid hbl
  have OK := Lib.hid ok
  have gl := Lib.hid (blk_lt h.st)
  have E0 := Lib.hid (show s.take ⟨ep, sq, ak, n⟩ = (s, bare, false, 2) by unfold Stm.take; rw [if_pos hno])
  have hcode : codeB ep sq ak n = 1 := by simp [codeB, hno]
  clear h ok hT hb hW p1 p1' p2 s1 hbl
  go_enter Tryd.func18, Tryd.ntmps18
  go_wp2_with (first | rw [HE.out] | (refine wpList_load_if 38 (.tmp 3) rfl rfl rfl LD.out ?_))
  refine (encode_all ep sq ak n bo bc W T1.out B1.out HBL.out).mono ?_
  rintro e w2 ⟨u, rfl, -, s2⟩
  rw [hcode]
  have S2 := Lib.hid (S1.out.then_ s2)
  have Q1 := Lib.hid (s2.blk P1.out (fun s => s.elim))
  have Q2 := Lib.hid (s2.blk P2.out (fun s => s.elim))
  have H2 := Lib.hid (H.out.still S2.out)
  clear s2 LD P1 P2 S1 T1 B1 HE
  go_wp2_with (first | (refine wpList_store_row rfl 36 (.tmp 4) (.tmp 17) rfl (w.heap.size + 1) #[.int .i64 0, .int .i64 0, .int .u8 0, .int .u8 0, .int .u8 0, .int .u8 0, .int .u8 0, .int .u8 0, .int .i64 0, .int .i64 0, .slice none 0 0] rfl rfl 36 _ Q2.out (by kernel_rfl) rfl (by simp [Value.oneCell']) ?_))
  (try simp only [Exit.inBlock, Exit.then])
  refine bodyPost_ret (results_cell_row3 (P := Tryd.prog) (fn := Tryd.f18) rfl _ _ (w.heap.size + 1) 36 #[.int .i64 0, .int .i64 0, .int .u8 0, .int .u8 0, .int .u8 0, .int .u8 0, .int .u8 0, .int .u8 0, .int .i64 0, .int .i64 0, .slice none 0 0] (0, 0) _ rfl (setRow_heap _ _ _ _ _ _ Q2.out) Tryd.underlying36 rfl (by kernel_rfl)) rfl ?_
  have WW := Step.setRow (S := None) S2.out (g := w.heap.size + 1) (fun h => by omega) #[.int .i64 0, .int .i64 0, .int .u8 0, .int .u8 0, .int .u8 0, .int .u8 0, .int .u8 0, .int .u8 0, .int .i64 0, .int .i64 0, .slice none 0 0]
  refine ⟨_, by rw [E0.out]; rfl, by rw [E0.out]; rfl, ?_⟩
  rw [E0.out]
  exact ⟨_, _, H.out.still WW, WW.none, fun _ hk => .inl hk⟩
set_option maxHeartbeats 8000000 in
theorem take_c2 (g : Nat) (v : Value) (s : Stm) (bs : List Value) (ep sq ak : Int) (n : Note) (bo : Option Addr) (bc : Nat) (w : World) (h : Sm 66 w g v s bs) (ok : s.Ok) (hT : HasAt 0 w) (hb : Bytes w (.slice bo n.body.length bc) n.body) (hbl : n.body.length ≤ 10000) (hyes : okP ep sq ak n = true) (hep : ep ≠ s.ep) :
    Calls Tryd.prog 18 #[.pointer (some ⟨g, 0, none⟩), .agg (n.packet ep sq ak (.slice bo n.body.length bc))] w (TakeEnds g v s ep sq ak n bo bc w 66) := by
  have p1 := (heap_alloc_new w (.cells (n.packet ep sq ak (.slice bo n.body.length bc)) 38))
  have s1 := ((Step.refl None w).alloc (.cells (n.packet ep sq ak (.slice bo n.body.length bc)) 38)).alloc (.cells #[.int .i64 0, .int .i64 0, .int .u8 0, .int .u8 0, .int .u8 0, .int .u8 0, .int .u8 0, .int .u8 0, .int .i64 0, .int .i64 0, .slice none 0 0] 36)
  have p1' := (Below.heap_alloc _ (.cells #[.int .i64 0, .int .i64 0, .int .u8 0, .int .u8 0, .int .u8 0, .int .u8 0, .int .u8 0, .int .u8 0, .int .i64 0, .int .i64 0, .slice none 0 0] 36) w.heap.size (by simp)).trans p1
  have p2 := heap_alloc_new (w.alloc (.cells (n.packet ep sq ak (.slice bo n.body.length bc)) 38)) (.cells #[.int .i64 0, .int .i64 0, .int .u8 0, .int .u8 0, .int .u8 0, .int .u8 0, .int .u8 0, .int .u8 0, .int .i64 0, .int .i64 0, .slice none 0 0] 36)
  rw [World.size_alloc] at p2
  obtain ⟨W, hW⟩ : ∃ W, (w.alloc (.cells (n.packet ep sq ak (.slice bo n.body.length bc)) 38)).alloc (.cells #[.int .i64 0, .int .i64 0, .int .u8 0, .int .u8 0, .int .u8 0, .int .u8 0, .int .u8 0, .int .u8 0, .int .i64 0, .int .i64 0, .slice none 0 0] 36) = W := ⟨_, rfl⟩
  rw [hW] at p1' p2 s1
  have HE := Lib.hid hW
  have LD := Lib.hid (load_packet p1')
  have P1 := Lib.hid p1'
  have P2 := Lib.hid p2
  have S1 := Lib.hid s1
  have H := Lib.hid h
  have T1 := Lib.hid (hT.still s1)
  have B1 := Lib.hid (hb.step s1 (fun _ _ s => s.elim))
  have HBL := Lib.hid hbl
  have OK := Lib.hid ok
  have gl := Lib.hid (blk_lt h.st)
  have hok : okP ep sq ak n = true := hyes
  have hcode : codeB ep sq ak n = 0 := by simp [codeB, hok]
  have E0 := Lib.hid (show s.take ⟨ep, sq, ak, n⟩ = (s, bare, false, 6) by unfold Stm.take; rw [if_neg (by simp [hok]), if_pos hep])
  have dep : (ep != s.ep) = true := by simpa using hep
  clear hep hyes hok
  clear h ok hT hb hW p1 p1' p2 s1 hbl
  go_enter Tryd.func18, Tryd.ntmps18
  go_wp2_with (first | rw [HE.out] | (refine wpList_load_if 38 (.tmp 3) rfl rfl rfl LD.out ?_))
  refine (encode_all ep sq ak n bo bc W T1.out B1.out HBL.out).mono ?_
  rintro e w2 ⟨u, rfl, -, s2⟩
  rw [hcode]
  have S2 := Lib.hid (S1.out.then_ s2)
  have Q1 := Lib.hid (s2.blk P1.out (fun s => s.elim))
  have Q2 := Lib.hid (s2.blk P2.out (fun s => s.elim))
  have H2 := Lib.hid (H.out.still S2.out)
  clear s2 LD P1 P2 S1 T1 B1 HE
  go_wp2_with fail
  refine wp_region_plan (fun w' => w'.cell? ⟨w.heap.size, 0, none⟩ = some (.int .i64 ep) ∧ w'.cell? ⟨g, 0, none⟩ = some (.int .i64 s.ep)) (.take 0 (.take 1 (.take 2 (.take 3 (.take 4 (.take 5 (.take 6 (.take 7 .done)))))))) _
    (by simp only [Plan.map, opOf, List.getElem?_toArray, List.getElem?_cons_zero, List.getElem?_cons_succ, Option.getD_some]; rfl) (by kernel_rfl) (by kernel_rfl) (by kernel_rfl) (by decide) (by intro c a d v w; cases d <;> exact fun h => h) ⟨blk_cell Q1.out 0, blk_cell H2.out.st 0⟩ ?_
  repeat (first | (refine wpPlan.taken (by rfl) (by intro w' hS'; (try dsimp only at hS'); go_split_ands; go_simp; try with_reducible rfl) ?_; simp only [Act.put, List.setIfInBounds_toArray, List.set_cons_zero, List.set_cons_succ]) | (refine wpPlan.passed (by rfl) ?_; simp only [Act.put, List.setIfInBounds_toArray, List.set_cons_zero, List.set_cons_succ]))
  refine wpPlan.done ?_
  have Q1d := Lib.hid (show w2.drew.heap[w.heap.size]? = _ from Q1.out)
  have Q2d := Lib.hid (show w2.drew.heap[w.heap.size + 1]? = _ from Q2.out)
  have H3 := Lib.hid (H2.out.still ((Step.refl None w2).drew))
  have S3 := Lib.hid (S2.out.drew)
  go_wp2_with (first | (refine wpList_store_row rfl 36 (.tmp 4) (.tmp 26) rfl (w.heap.size + 1) #[.int .i64 0, .int .i64 0, .int .u8 0, .int .u8 0, .int .u8 0, .int .u8 0, .int .u8 0, .int .u8 0, .int .i64 0, .int .i64 0, .slice none 0 0] rfl rfl 36 _ Q2d.out (by kernel_rfl) rfl (by simp [Value.oneCell']) ?_))
  (try simp only [Exit.inBlock, Exit.then])
  refine bodyPost_ret (results_cell_row3 (P := Tryd.prog) (fn := Tryd.f18) rfl _ _ (w.heap.size + 1) 36 #[.int .i64 0, .int .i64 0, .int .u8 0, .int .u8 0, .int .u8 0, .int .u8 0, .int .u8 0, .int .u8 0, .int .i64 0, .int .i64 0, .slice none 0 0] (0, 0) _ rfl (setRow_heap _ _ _ _ _ _ Q2d.out) Tryd.underlying36 rfl (by kernel_rfl)) rfl ?_
  have WW := Step.setRow (S := None) S3.out (g := w.heap.size + 1) (fun h => by omega) #[.int .i64 0, .int .i64 0, .int .u8 0, .int .u8 0, .int .u8 0, .int .u8 0, .int .u8 0, .int .u8 0, .int .i64 0, .int .i64 0, .slice none 0 0]
  refine ⟨_, by rw [E0.out]; rfl, by rw [E0.out]; rfl, ?_⟩
  rw [E0.out]
  exact ⟨_, _, H.out.still WW, WW.none, fun _ hk => .inl hk⟩
set_option maxHeartbeats 8000000 in
theorem take_c3 (g : Nat) (v : Value) (s : Stm) (bs : List Value) (ep sq ak : Int) (n : Note) (bo : Option Addr) (bc : Nat) (w : World) (h : Sm 66 w g v s bs) (ok : s.Ok) (hT : HasAt 0 w) (hb : Bytes w (.slice bo n.body.length bc) n.body) (hbl : n.body.length ≤ 10000) (hyes : okP ep sq ak n = true) (hep : ep = s.ep) (hk : 0 < sq ∧ n.kind = 0) :
    Calls Tryd.prog 18 #[.pointer (some ⟨g, 0, none⟩), .agg (n.packet ep sq ak (.slice bo n.body.length bc))] w (TakeEnds g v s ep sq ak n bo bc w 66) := by
  have p1 := (heap_alloc_new w (.cells (n.packet ep sq ak (.slice bo n.body.length bc)) 38))
  have s1 := ((Step.refl None w).alloc (.cells (n.packet ep sq ak (.slice bo n.body.length bc)) 38)).alloc (.cells #[.int .i64 0, .int .i64 0, .int .u8 0, .int .u8 0, .int .u8 0, .int .u8 0, .int .u8 0, .int .u8 0, .int .i64 0, .int .i64 0, .slice none 0 0] 36)
  have p1' := (Below.heap_alloc _ (.cells #[.int .i64 0, .int .i64 0, .int .u8 0, .int .u8 0, .int .u8 0, .int .u8 0, .int .u8 0, .int .u8 0, .int .i64 0, .int .i64 0, .slice none 0 0] 36) w.heap.size (by simp)).trans p1
  have p2 := heap_alloc_new (w.alloc (.cells (n.packet ep sq ak (.slice bo n.body.length bc)) 38)) (.cells #[.int .i64 0, .int .i64 0, .int .u8 0, .int .u8 0, .int .u8 0, .int .u8 0, .int .u8 0, .int .u8 0, .int .i64 0, .int .i64 0, .slice none 0 0] 36)
  rw [World.size_alloc] at p2
  obtain ⟨W, hW⟩ : ∃ W, (w.alloc (.cells (n.packet ep sq ak (.slice bo n.body.length bc)) 38)).alloc (.cells #[.int .i64 0, .int .i64 0, .int .u8 0, .int .u8 0, .int .u8 0, .int .u8 0, .int .u8 0, .int .u8 0, .int .i64 0, .int .i64 0, .slice none 0 0] 36) = W := ⟨_, rfl⟩
  rw [hW] at p1' p2 s1
  have HE := Lib.hid hW
  have LD := Lib.hid (load_packet p1')
  have P1 := Lib.hid p1'
  have P2 := Lib.hid p2
  have S1 := Lib.hid s1
  have H := Lib.hid h
  have T1 := Lib.hid (hT.still s1)
  have B1 := Lib.hid (hb.step s1 (fun _ _ s => s.elim))
  have HBL := Lib.hid hbl
  have OK := Lib.hid ok
  have gl := Lib.hid (blk_lt h.st)
  have hok : okP ep sq ak n = true := hyes
  have hcode : codeB ep sq ak n = 0 := by simp [codeB, hok]
  have E0 := Lib.hid (show s.take ⟨ep, sq, ak, n⟩ = (s, bare, false, 2) by unfold Stm.take; rw [if_neg (by simp [hok]), if_neg (by simpa using hep), if_pos hk])
  have dep : (ep != s.ep) = false := by simpa using hep
  have dsq : decide (0 < sq) = true := by simpa using hk.1
  have dk : (n.kind == 0) = true := by simpa using hk.2
  clear hep hyes hok hk
  clear h ok hT hb hW p1 p1' p2 s1 hbl
  go_enter Tryd.func18, Tryd.ntmps18
  go_wp2_with (first | rw [HE.out] | (refine wpList_load_if 38 (.tmp 3) rfl rfl rfl LD.out ?_))
  refine (encode_all ep sq ak n bo bc W T1.out B1.out HBL.out).mono ?_
  rintro e w2 ⟨u, rfl, -, s2⟩
  rw [hcode]
  have S2 := Lib.hid (S1.out.then_ s2)
  have Q1 := Lib.hid (s2.blk P1.out (fun s => s.elim))
  have Q2 := Lib.hid (s2.blk P2.out (fun s => s.elim))
  have H2 := Lib.hid (H.out.still S2.out)
  clear s2 LD P1 P2 S1 T1 B1 HE
  go_wp2_with fail
  refine wp_region_plan (fun w' => w'.cell? ⟨w.heap.size, 0, none⟩ = some (.int .i64 ep) ∧ w'.cell? ⟨g, 0, none⟩ = some (.int .i64 s.ep)) (.take 0 (.take 1 (.take 2 (.take 3 (.take 4 (.take 5 (.take 6 (.take 7 .done)))))))) _
    (by simp only [Plan.map, opOf, List.getElem?_toArray, List.getElem?_cons_zero, List.getElem?_cons_succ, Option.getD_some]; rfl) (by kernel_rfl) (by kernel_rfl) (by kernel_rfl) (by decide) (by intro c a d v w; cases d <;> exact fun h => h) ⟨blk_cell Q1.out 0, blk_cell H2.out.st 0⟩ ?_
  repeat (first | (refine wpPlan.taken (by rfl) (by intro w' hS'; (try dsimp only at hS'); go_split_ands; go_simp; try with_reducible rfl) ?_; simp only [Act.put, List.setIfInBounds_toArray, List.set_cons_zero, List.set_cons_succ]) | (refine wpPlan.passed (by rfl) ?_; simp only [Act.put, List.setIfInBounds_toArray, List.set_cons_zero, List.set_cons_succ]))
  refine wpPlan.done ?_
  have Q1d := Lib.hid (show w2.drew.heap[w.heap.size]? = _ from Q1.out)
  have Q2d := Lib.hid (show w2.drew.heap[w.heap.size + 1]? = _ from Q2.out)
  have H3 := Lib.hid (H2.out.still ((Step.refl None w2).drew))
  have S3 := Lib.hid (S2.out.drew)
  have x1 := blk_cell Q1d.out 1
  have x3 := blk_cell Q1d.out 3
  have x2 := blk_cell Q1d.out 2
  simp only [Note.packet, List.getElem?_toArray, List.getElem?_cons_zero, List.getElem?_cons_succ] at x1 x2 x3
  go_wp2_with (first | (refine wpList_store_row rfl 36 (.tmp 4) (.tmp 37) rfl (w.heap.size + 1) #[.int .i64 0, .int .i64 0, .int .u8 0, .int .u8 0, .int .u8 0, .int .u8 0, .int .u8 0, .int .u8 0, .int .i64 0, .int .i64 0, .slice none 0 0] rfl rfl 36 _ Q2d.out (by kernel_rfl) rfl (by simp [Value.oneCell']) ?_))
  (try simp only [Exit.inBlock, Exit.then])
  refine bodyPost_ret (results_cell_row3 (P := Tryd.prog) (fn := Tryd.f18) rfl _ _ (w.heap.size + 1) 36 #[.int .i64 0, .int .i64 0, .int .u8 0, .int .u8 0, .int .u8 0, .int .u8 0, .int .u8 0, .int .u8 0, .int .i64 0, .int .i64 0, .slice none 0 0] (0, 0) _ rfl (setRow_heap _ _ _ _ _ _ Q2d.out) Tryd.underlying36 rfl (by kernel_rfl)) rfl ?_
  have WW := Step.setRow (S := None) S3.out (g := w.heap.size + 1) (fun h => by omega) #[.int .i64 0, .int .i64 0, .int .u8 0, .int .u8 0, .int .u8 0, .int .u8 0, .int .u8 0, .int .u8 0, .int .i64 0, .int .i64 0, .slice none 0 0]
  refine ⟨_, by rw [E0.out]; rfl, by rw [E0.out]; rfl, ?_⟩
  rw [E0.out]
  exact ⟨_, _, H.out.still WW, WW.none, fun _ hk => .inl hk⟩
set_option maxHeartbeats 8000000 in
theorem take_kfz (g : Nat) (v : Value) (s : Stm) (bs : List Value) (ep sq ak : Int) (n : Note) (bo : Option Addr) (bc : Nat) (w : World) (h : Sm 66 w g v s bs) (ok : s.Ok) (hT : HasAt 0 w) (hb : Bytes w (.slice bo n.body.length bc) n.body) (hbl : n.body.length ≤ 10000) (hyes : okP ep sq ak n = true) (hep : ep = s.ep) (hz : sq = 0) (hdue : s.due = false) :
    Calls Tryd.prog 18 #[.pointer (some ⟨g, 0, none⟩), .agg (n.packet ep sq ak (.slice bo n.body.length bc))] w (TakeEnds g v s ep sq ak n bo bc w 66) := by
  have p1 := (heap_alloc_new w (.cells (n.packet ep sq ak (.slice bo n.body.length bc)) 38))
  have s1 := ((Step.refl None w).alloc (.cells (n.packet ep sq ak (.slice bo n.body.length bc)) 38)).alloc (.cells #[.int .i64 0, .int .i64 0, .int .u8 0, .int .u8 0, .int .u8 0, .int .u8 0, .int .u8 0, .int .u8 0, .int .i64 0, .int .i64 0, .slice none 0 0] 36)
  have p1' := (Below.heap_alloc _ (.cells #[.int .i64 0, .int .i64 0, .int .u8 0, .int .u8 0, .int .u8 0, .int .u8 0, .int .u8 0, .int .u8 0, .int .i64 0, .int .i64 0, .slice none 0 0] 36) w.heap.size (by simp)).trans p1
  have p2 := heap_alloc_new (w.alloc (.cells (n.packet ep sq ak (.slice bo n.body.length bc)) 38)) (.cells #[.int .i64 0, .int .i64 0, .int .u8 0, .int .u8 0, .int .u8 0, .int .u8 0, .int .u8 0, .int .u8 0, .int .i64 0, .int .i64 0, .slice none 0 0] 36)
  rw [World.size_alloc] at p2
  obtain ⟨W, hW⟩ : ∃ W, (w.alloc (.cells (n.packet ep sq ak (.slice bo n.body.length bc)) 38)).alloc (.cells #[.int .i64 0, .int .i64 0, .int .u8 0, .int .u8 0, .int .u8 0, .int .u8 0, .int .u8 0, .int .u8 0, .int .i64 0, .int .i64 0, .slice none 0 0] 36) = W := ⟨_, rfl⟩
  rw [hW] at p1' p2 s1
  have HE := Lib.hid hW
  have LD := Lib.hid (load_packet p1')
  have P1 := Lib.hid p1'
  have P2 := Lib.hid p2
  have S1 := Lib.hid s1
  have H := Lib.hid h
  have T1 := Lib.hid (hT.still s1)
  have B1 := Lib.hid (hb.step s1 (fun _ _ s => s.elim))
  have HBL := Lib.hid hbl
  have OK := Lib.hid ok
  have gl := Lib.hid (blk_lt h.st)
  have hok : okP ep sq ak n = true := hyes
  have hcode : codeB ep sq ak n = 0 := by simp [codeB, hok]
  have E0 := Lib.hid (show s.take ⟨ep, sq, ak, n⟩ = ({ s.acked ak with due := false, taken := s.taken }, bare, false, 0) by
    unfold Stm.take; rw [if_neg (by simp [hok]), if_neg (by simpa using hep), if_neg (by simp [hz]), if_pos (.inl hz)]
    have e1 : (s.acked ak).taken = s.taken := by unfold Stm.acked; split <;> rfl
    simp [hdue, hz, ← e1])
  have dsq : decide (0 < sq) = false := by simp [hz]
  have dz : (sq == 0) = true := by simpa using hz
  have dep : (ep != s.ep) = false := by simpa using hep
  have AK := Lib.hid (okP_parts hok).2.2.2
  have ADU := Lib.hid (show (s.acked ak).due = s.due by unfold Stm.acked; split <;> rfl)
  have ATK := Lib.hid (show (s.acked ak).taken = s.taken by unfold Stm.acked; split <;> rfl)
  have tk := ok.taken
  have wt1 : wrap64 (s.taken + 1) = s.taken + 1 := IntWalk.wrap64_in _ ⟨by omega, by omega⟩
  have wt2 : IntKind.i64.wrap (s.taken + 1) = s.taken + 1 := IntWalk.i64_in _ (by omega)
  clear hyes hok hep tk hz
  clear h ok hT hb hW p1 p1' p2 s1 hbl
  go_enter Tryd.func18, Tryd.ntmps18
  go_wp2_with (first | rw [HE.out] | (refine wpList_load_if 38 (.tmp 3) rfl rfl rfl LD.out ?_))
  refine (encode_all ep sq ak n bo bc W T1.out B1.out HBL.out).mono ?_
  rintro e w2 ⟨u, rfl, -, s2⟩
  rw [hcode]
  have S2 := Lib.hid (S1.out.then_ s2)
  have Q1 := Lib.hid (s2.blk P1.out (fun s => s.elim))
  have Q2 := Lib.hid (s2.blk P2.out (fun s => s.elim))
  have H2 := Lib.hid (H.out.still S2.out)
  clear s2 LD P1 P2 S1 T1 B1 HE
  go_wp2_with fail
  refine wp_region_plan (fun w' => w'.cell? ⟨w.heap.size, 0, none⟩ = some (.int .i64 ep) ∧ w'.cell? ⟨g, 0, none⟩ = some (.int .i64 s.ep)) (.take 0 (.take 1 (.take 2 (.take 3 (.take 4 (.take 5 (.take 6 (.take 7 .done)))))))) _
    (by simp only [Plan.map, opOf, List.getElem?_toArray, List.getElem?_cons_zero, List.getElem?_cons_succ, Option.getD_some]; rfl) (by kernel_rfl) (by kernel_rfl) (by kernel_rfl) (by decide) (by intro c a d v w; cases d <;> exact fun h => h) ⟨blk_cell Q1.out 0, blk_cell H2.out.st 0⟩ ?_
  repeat (first | (refine wpPlan.taken (by rfl) (by intro w' hS'; (try dsimp only at hS'); go_split_ands; go_simp; try with_reducible rfl) ?_; simp only [Act.put, List.setIfInBounds_toArray, List.set_cons_zero, List.set_cons_succ]) | (refine wpPlan.passed (by rfl) ?_; simp only [Act.put, List.setIfInBounds_toArray, List.set_cons_zero, List.set_cons_succ]))
  refine wpPlan.done ?_
  have Q1d := Lib.hid (show w2.drew.heap[w.heap.size]? = _ from Q1.out)
  have Q2d := Lib.hid (show w2.drew.heap[w.heap.size + 1]? = _ from Q2.out)
  have H3 := Lib.hid (H2.out.still ((Step.refl None w2).drew))
  have S3 := Lib.hid (S2.out.drew)
  have x1 := blk_cell Q1d.out 1
  have x3 := blk_cell Q1d.out 3
  have x2 := blk_cell Q1d.out 2
  simp only [Note.packet, List.getElem?_toArray, List.getElem?_cons_zero, List.getElem?_cons_succ] at x1 x2 x3
  go_wp2_with fail
  refine (acked_any g v s bs ak w2.drew H3.out OK.out AK.out.1 AK.out.2).mono ?_
  rintro e w4 ⟨rfl, v4, bs4, h4, s4, l4⟩
  have nN : ¬ Of g v w.heap.size := fun hk => hk.elim (fun e => by have := gl.out; omega) fun hk => by have := H.out.row.lt hk; omega
  have nN1 : ¬ Of g v (w.heap.size + 1) := fun hk => hk.elim (fun e => by have := gl.out; omega) fun hk => by have := H.out.row.lt hk; omega
  have Q14 := Lib.hid (s4.blk Q1d.out nN)
  have Q24 := Lib.hid (s4.blk Q2d.out nN1)
  have S4 := Lib.hid ((S3.out.none (S := Of g v)).then_ s4)
  have L4 : Hid (∀ k, Leads v4 k → Leads v k ∨ w.heap.size + 2 ≤ k) := Lib.hid fun k hk => (l4 k hk).imp id fun h => by have := blk_lt Q2d.out; omega
  have c7 := blk_cell h4.st 7
  have f7 := blk_frozen h4.st 7
  simp only [Stm.cells, List.getElem?_toArray, List.getElem?_cons_zero, List.getElem?_cons_succ] at c7
  rw [ADU.out, hdue] at c7
  have y1 := blk_cell Q14.out 1
  simp only [Note.packet, List.getElem?_toArray, List.getElem?_cons_zero, List.getElem?_cons_succ] at y1
  have H4 := Lib.hid h4
  clear h4 s4 l4 nN nN1 x1 x2 x3 H3 S3 Q1d Q2d H2 S2 Q1 Q2
  go_wp2_with fail
  have st5 := Lib.hid ((Step.refl (fun k => k = g) w4).setCell (p := ⟨g, 7, none⟩) (fun _ => rfl) (.bool false))
  have b5 := Lib.hid (blk_set H4.out.st 7 (.bool false))
  obtain ⟨W5, hW5⟩ : ∃ W5, w4.setCell ⟨g, 7, none⟩ (.bool false) = W5 := ⟨_, rfl⟩
  rw [hW5] at st5 b5 ⊢
  clear hW5 c7 f7 y1
  have gN : ¬ w.heap.size = g := by have := gl.out; omega
  have gN1 : ¬ w.heap.size + 1 = g := by have := gl.out; omega
  have Q15 := Lib.hid (st5.out.blk Q14.out gN)
  have Q25 := Lib.hid (st5.out.blk Q24.out gN1)
  have z1 := blk_cell Q15.out 1
  have z6 := blk_cell b5.out 6
  have Q16 := Lib.hid (show W5.drew.heap[w.heap.size]? = _ from Q15.out)
  have Q26 := Lib.hid (show W5.drew.heap[w.heap.size + 1]? = _ from Q25.out)
  have lp6 := Lib.hid (load_pnote Q16.out)
  have b6 := Lib.hid (show W5.drew.heap[g]? = _ from b5.out)
  have st6 := Lib.hid (st5.out.drew)
  clear gN gN1
  simp [Stm.cells, Note.packet, ATK.out] at z1 z6
  refine wp_region_plan (fun w' => w'.cell? ⟨w.heap.size, 1, none⟩ = some (.int .i64 sq) ∧ w'.cell? ⟨g, 6, none⟩ = some (.int .i64 s.taken)) (.take 0 (.take 1 (.take 2 (.take 3 (.take 4 (.take 5 (.take 6 (.take 7 (.take 8 (.take 9 (.take 10 (.take 11 (.take 12 .done))))))))))))) _
    (by simp only [Plan.map, opOf, List.getElem?_toArray, List.getElem?_cons_zero, List.getElem?_cons_succ, Option.getD_some]; rfl) (by kernel_rfl) (by kernel_rfl) (by kernel_rfl) (by decide) (by intro c a d v w; cases d <;> exact fun h => h) ⟨z1, z6⟩ ?_
  repeat (first | (refine wpPlan.taken (by rfl) (by intro w' hS'; (try dsimp only at hS'); go_split_ands; go_simp; try with_reducible rfl) ?_; simp only [Act.put, List.setIfInBounds_toArray, List.set_cons_zero, List.set_cons_succ]) | (refine wpPlan.passed (by rfl) ?_; simp only [Act.put, List.setIfInBounds_toArray, List.set_cons_zero, List.set_cons_succ]))
  refine wpPlan.done ?_
  go_wp2_with (first | (refine wpList_store_row rfl 36 (.tmp 4) (.tmp 67) rfl (w.heap.size + 1) #[.int .i64 0, .int .i64 0, .int .u8 0, .int .u8 0, .int .u8 0, .int .u8 0, .int .u8 0, .int .u8 0, .int .i64 0, .int .i64 0, .slice none 0 0] rfl rfl 36 _ Q26.out (by kernel_rfl) rfl (by simp [Value.oneCell']) ?_))
  (try simp only [Exit.inBlock, Exit.then])
  refine bodyPost_ret (results_cell_row3 (P := Tryd.prog) (fn := Tryd.f18) rfl _ _ (w.heap.size + 1) 36 #[.int .i64 0, .int .i64 0, .int .u8 0, .int .u8 0, .int .u8 0, .int .u8 0, .int .u8 0, .int .u8 0, .int .i64 0, .int .i64 0, .slice none 0 0] (0, 0) _ rfl (setRow_heap _ _ _ _ _ _ Q26.out) Tryd.underlying36 rfl (by kernel_rfl)) rfl ?_
  refine ⟨_, by rw [E0.out]; rfl, by rw [E0.out]; rfl, ?_⟩
  rw [E0.out]
  exact Went.take (s' := { s.acked ak with due := false, taken := s.taken }) (by decide) (by decide) H.out S4.out L4.out H4.out st6.out (b6.out.trans (by simp [Stm.cells, ATK.out])) rfl Q26.out _
set_option maxHeartbeats 8000000 in
theorem take_kfn (g : Nat) (v : Value) (s : Stm) (bs : List Value) (ep sq ak : Int) (n : Note) (bo : Option Addr) (bc : Nat) (w : World) (h : Sm 66 w g v s bs) (ok : s.Ok) (hT : HasAt 0 w) (hb : Bytes w (.slice bo n.body.length bc) n.body) (hbl : n.body.length ≤ 10000) (hyes : okP ep sq ak n = true) (hep : ep = s.ep) (hk : ¬ (0 < sq ∧ n.kind = 0)) (hz : sq ≠ 0) (hn : sq ≠ s.taken + 1) (hdue : s.due = false) :
    Calls Tryd.prog 18 #[.pointer (some ⟨g, 0, none⟩), .agg (n.packet ep sq ak (.slice bo n.body.length bc))] w (TakeEnds g v s ep sq ak n bo bc w 66) := by
  have p1 := (heap_alloc_new w (.cells (n.packet ep sq ak (.slice bo n.body.length bc)) 38))
  have s1 := ((Step.refl None w).alloc (.cells (n.packet ep sq ak (.slice bo n.body.length bc)) 38)).alloc (.cells #[.int .i64 0, .int .i64 0, .int .u8 0, .int .u8 0, .int .u8 0, .int .u8 0, .int .u8 0, .int .u8 0, .int .i64 0, .int .i64 0, .slice none 0 0] 36)
  have p1' := (Below.heap_alloc _ (.cells #[.int .i64 0, .int .i64 0, .int .u8 0, .int .u8 0, .int .u8 0, .int .u8 0, .int .u8 0, .int .u8 0, .int .i64 0, .int .i64 0, .slice none 0 0] 36) w.heap.size (by simp)).trans p1
  have p2 := heap_alloc_new (w.alloc (.cells (n.packet ep sq ak (.slice bo n.body.length bc)) 38)) (.cells #[.int .i64 0, .int .i64 0, .int .u8 0, .int .u8 0, .int .u8 0, .int .u8 0, .int .u8 0, .int .u8 0, .int .i64 0, .int .i64 0, .slice none 0 0] 36)
  rw [World.size_alloc] at p2
  obtain ⟨W, hW⟩ : ∃ W, (w.alloc (.cells (n.packet ep sq ak (.slice bo n.body.length bc)) 38)).alloc (.cells #[.int .i64 0, .int .i64 0, .int .u8 0, .int .u8 0, .int .u8 0, .int .u8 0, .int .u8 0, .int .u8 0, .int .i64 0, .int .i64 0, .slice none 0 0] 36) = W := ⟨_, rfl⟩
  rw [hW] at p1' p2 s1
  have HE := Lib.hid hW
  have LD := Lib.hid (load_packet p1')
  have P1 := Lib.hid p1'
  have P2 := Lib.hid p2
  have S1 := Lib.hid s1
  have H := Lib.hid h
  have T1 := Lib.hid (hT.still s1)
  have B1 := Lib.hid (hb.step s1 (fun _ _ s => s.elim))
  have HBL := Lib.hid hbl
  have OK := Lib.hid ok
  have gl := Lib.hid (blk_lt h.st)
  have hok : okP ep sq ak n = true := hyes
  have hcode : codeB ep sq ak n = 0 := by simp [codeB, hok]
  have hs0 := (okP_parts hok).2.2.1
  have E0 := Lib.hid (show s.take ⟨ep, sq, ak, n⟩ = ({ s.acked ak with due := true, taken := s.taken }, bare, false, 0) by
    unfold Stm.take; rw [if_neg (by simp [hok]), if_neg (by simpa using hep), if_neg hk, if_pos (.inr hn)]
    have e1 : (s.acked ak).taken = s.taken := by unfold Stm.acked; split <;> rfl
    have e2 : 0 < sq := by omega
    simp [hdue, e2, ← e1])
  have dsq : decide (0 < sq) = true := by simp; omega
  have dz : (sq == 0) = false := by simpa using hz
  have dk : (n.kind == 0) = false := by simp; intro e; exact hk ⟨by omega, e⟩
  have dn : (sq != s.taken + 1) = true := by simpa using hn
  have dep : (ep != s.ep) = false := by simpa using hep
  have AK := Lib.hid (okP_parts hok).2.2.2
  have ADU := Lib.hid (show (s.acked ak).due = s.due by unfold Stm.acked; split <;> rfl)
  have ATK := Lib.hid (show (s.acked ak).taken = s.taken by unfold Stm.acked; split <;> rfl)
  have tk := ok.taken
  have wt1 : wrap64 (s.taken + 1) = s.taken + 1 := IntWalk.wrap64_in _ ⟨by omega, by omega⟩
  have wt2 : IntKind.i64.wrap (s.taken + 1) = s.taken + 1 := IntWalk.i64_in _ (by omega)
  clear hyes hok hep tk hk hz hn hs0
  clear h ok hT hb hW p1 p1' p2 s1 hbl
  go_enter Tryd.func18, Tryd.ntmps18
  go_wp2_with (first | rw [HE.out] | (refine wpList_load_if 38 (.tmp 3) rfl rfl rfl LD.out ?_))
  refine (encode_all ep sq ak n bo bc W T1.out B1.out HBL.out).mono ?_
  rintro e w2 ⟨u, rfl, -, s2⟩
  rw [hcode]
  have S2 := Lib.hid (S1.out.then_ s2)
  have Q1 := Lib.hid (s2.blk P1.out (fun s => s.elim))
  have Q2 := Lib.hid (s2.blk P2.out (fun s => s.elim))
  have H2 := Lib.hid (H.out.still S2.out)
  clear s2 LD P1 P2 S1 T1 B1 HE
  go_wp2_with fail
  refine wp_region_plan (fun w' => w'.cell? ⟨w.heap.size, 0, none⟩ = some (.int .i64 ep) ∧ w'.cell? ⟨g, 0, none⟩ = some (.int .i64 s.ep)) (.take 0 (.take 1 (.take 2 (.take 3 (.take 4 (.take 5 (.take 6 (.take 7 .done)))))))) _
    (by simp only [Plan.map, opOf, List.getElem?_toArray, List.getElem?_cons_zero, List.getElem?_cons_succ, Option.getD_some]; rfl) (by kernel_rfl) (by kernel_rfl) (by kernel_rfl) (by decide) (by intro c a d v w; cases d <;> exact fun h => h) ⟨blk_cell Q1.out 0, blk_cell H2.out.st 0⟩ ?_
  repeat (first | (refine wpPlan.taken (by rfl) (by intro w' hS'; (try dsimp only at hS'); go_split_ands; go_simp; try with_reducible rfl) ?_; simp only [Act.put, List.setIfInBounds_toArray, List.set_cons_zero, List.set_cons_succ]) | (refine wpPlan.passed (by rfl) ?_; simp only [Act.put, List.setIfInBounds_toArray, List.set_cons_zero, List.set_cons_succ]))
  refine wpPlan.done ?_
  have Q1d := Lib.hid (show w2.drew.heap[w.heap.size]? = _ from Q1.out)
  have Q2d := Lib.hid (show w2.drew.heap[w.heap.size + 1]? = _ from Q2.out)
  have H3 := Lib.hid (H2.out.still ((Step.refl None w2).drew))
  have S3 := Lib.hid (S2.out.drew)
  have x1 := blk_cell Q1d.out 1
  have x3 := blk_cell Q1d.out 3
  have x2 := blk_cell Q1d.out 2
  simp only [Note.packet, List.getElem?_toArray, List.getElem?_cons_zero, List.getElem?_cons_succ] at x1 x2 x3
  go_wp2_with fail
  refine (acked_any g v s bs ak w2.drew H3.out OK.out AK.out.1 AK.out.2).mono ?_
  rintro e w4 ⟨rfl, v4, bs4, h4, s4, l4⟩
  have nN : ¬ Of g v w.heap.size := fun hk => hk.elim (fun e => by have := gl.out; omega) fun hk => by have := H.out.row.lt hk; omega
  have nN1 : ¬ Of g v (w.heap.size + 1) := fun hk => hk.elim (fun e => by have := gl.out; omega) fun hk => by have := H.out.row.lt hk; omega
  have Q14 := Lib.hid (s4.blk Q1d.out nN)
  have Q24 := Lib.hid (s4.blk Q2d.out nN1)
  have S4 := Lib.hid ((S3.out.none (S := Of g v)).then_ s4)
  have L4 : Hid (∀ k, Leads v4 k → Leads v k ∨ w.heap.size + 2 ≤ k) := Lib.hid fun k hk => (l4 k hk).imp id fun h => by have := blk_lt Q2d.out; omega
  have c7 := blk_cell h4.st 7
  have f7 := blk_frozen h4.st 7
  simp only [Stm.cells, List.getElem?_toArray, List.getElem?_cons_zero, List.getElem?_cons_succ] at c7
  rw [ADU.out, hdue] at c7
  have y1 := blk_cell Q14.out 1
  simp only [Note.packet, List.getElem?_toArray, List.getElem?_cons_zero, List.getElem?_cons_succ] at y1
  have H4 := Lib.hid h4
  clear h4 s4 l4 nN nN1 x1 x2 x3 H3 S3 Q1d Q2d H2 S2 Q1 Q2
  go_wp2_with fail
  have st5 := Lib.hid ((Step.refl (fun k => k = g) w4).setCell (p := ⟨g, 7, none⟩) (fun _ => rfl) (.bool true))
  have b5 := Lib.hid (blk_set H4.out.st 7 (.bool true))
  obtain ⟨W5, hW5⟩ : ∃ W5, w4.setCell ⟨g, 7, none⟩ (.bool true) = W5 := ⟨_, rfl⟩
  rw [hW5] at st5 b5 ⊢
  clear hW5 c7 f7 y1
  have gN : ¬ w.heap.size = g := by have := gl.out; omega
  have gN1 : ¬ w.heap.size + 1 = g := by have := gl.out; omega
  have Q15 := Lib.hid (st5.out.blk Q14.out gN)
  have Q25 := Lib.hid (st5.out.blk Q24.out gN1)
  have z1 := blk_cell Q15.out 1
  have z6 := blk_cell b5.out 6
  have Q16 := Lib.hid (show W5.drew.heap[w.heap.size]? = _ from Q15.out)
  have Q26 := Lib.hid (show W5.drew.heap[w.heap.size + 1]? = _ from Q25.out)
  have lp6 := Lib.hid (load_pnote Q16.out)
  have b6 := Lib.hid (show W5.drew.heap[g]? = _ from b5.out)
  have st6 := Lib.hid (st5.out.drew)
  clear gN gN1
  simp [Stm.cells, Note.packet, ATK.out] at z1 z6
  refine wp_region_plan (fun w' => w'.cell? ⟨w.heap.size, 1, none⟩ = some (.int .i64 sq) ∧ w'.cell? ⟨g, 6, none⟩ = some (.int .i64 s.taken)) (.take 0 (.take 1 (.take 2 (.take 3 (.take 4 (.take 5 (.take 6 (.take 7 (.take 8 (.take 9 (.take 10 (.take 11 (.take 12 .done))))))))))))) _
    (by simp only [Plan.map, opOf, List.getElem?_toArray, List.getElem?_cons_zero, List.getElem?_cons_succ, Option.getD_some]; rfl) (by kernel_rfl) (by kernel_rfl) (by kernel_rfl) (by decide) (by intro c a d v w; cases d <;> exact fun h => h) ⟨z1, z6⟩ ?_
  repeat (first | (refine wpPlan.taken (by rfl) (by intro w' hS'; (try dsimp only at hS'); go_split_ands; go_simp; try with_reducible rfl) ?_; simp only [Act.put, List.setIfInBounds_toArray, List.set_cons_zero, List.set_cons_succ]) | (refine wpPlan.passed (by rfl) ?_; simp only [Act.put, List.setIfInBounds_toArray, List.set_cons_zero, List.set_cons_succ]))
  refine wpPlan.done ?_
  go_wp2_with (first | (refine wpList_store_row rfl 36 (.tmp 4) (.tmp 67) rfl (w.heap.size + 1) #[.int .i64 0, .int .i64 0, .int .u8 0, .int .u8 0, .int .u8 0, .int .u8 0, .int .u8 0, .int .u8 0, .int .i64 0, .int .i64 0, .slice none 0 0] rfl rfl 36 _ Q26.out (by kernel_rfl) rfl (by simp [Value.oneCell']) ?_))
  (try simp only [Exit.inBlock, Exit.then])
  refine bodyPost_ret (results_cell_row3 (P := Tryd.prog) (fn := Tryd.f18) rfl _ _ (w.heap.size + 1) 36 #[.int .i64 0, .int .i64 0, .int .u8 0, .int .u8 0, .int .u8 0, .int .u8 0, .int .u8 0, .int .u8 0, .int .i64 0, .int .i64 0, .slice none 0 0] (0, 0) _ rfl (setRow_heap _ _ _ _ _ _ Q26.out) Tryd.underlying36 rfl (by kernel_rfl)) rfl ?_
  refine ⟨_, by rw [E0.out]; rfl, by rw [E0.out]; rfl, ?_⟩
  rw [E0.out]
  exact Went.take (s' := { s.acked ak with due := true, taken := s.taken }) (by decide) (by decide) H.out S4.out L4.out H4.out st6.out (b6.out.trans (by simp [Stm.cells, ATK.out])) rfl Q26.out _
set_option maxHeartbeats 8000000 in
theorem take_tf (g : Nat) (v : Value) (s : Stm) (bs : List Value) (ep sq ak : Int) (n : Note) (bo : Option Addr) (bc : Nat) (w : World) (h : Sm 66 w g v s bs) (ok : s.Ok) (hT : HasAt 0 w) (hb : Bytes w (.slice bo n.body.length bc) n.body) (hbl : n.body.length ≤ 10000) (hyes : okP ep sq ak n = true) (hep : ep = s.ep) (hk : ¬ (0 < sq ∧ n.kind = 0)) (hz : sq ≠ 0) (hn : sq = s.taken + 1) (hdue : s.due = false) :
    Calls Tryd.prog 18 #[.pointer (some ⟨g, 0, none⟩), .agg (n.packet ep sq ak (.slice bo n.body.length bc))] w (TakeEnds g v s ep sq ak n bo bc w 66) := by
  have p1 := (heap_alloc_new w (.cells (n.packet ep sq ak (.slice bo n.body.length bc)) 38))
  have s1 := ((Step.refl None w).alloc (.cells (n.packet ep sq ak (.slice bo n.body.length bc)) 38)).alloc (.cells #[.int .i64 0, .int .i64 0, .int .u8 0, .int .u8 0, .int .u8 0, .int .u8 0, .int .u8 0, .int .u8 0, .int .i64 0, .int .i64 0, .slice none 0 0] 36)
  have p1' := (Below.heap_alloc _ (.cells #[.int .i64 0, .int .i64 0, .int .u8 0, .int .u8 0, .int .u8 0, .int .u8 0, .int .u8 0, .int .u8 0, .int .i64 0, .int .i64 0, .slice none 0 0] 36) w.heap.size (by simp)).trans p1
  have p2 := heap_alloc_new (w.alloc (.cells (n.packet ep sq ak (.slice bo n.body.length bc)) 38)) (.cells #[.int .i64 0, .int .i64 0, .int .u8 0, .int .u8 0, .int .u8 0, .int .u8 0, .int .u8 0, .int .u8 0, .int .i64 0, .int .i64 0, .slice none 0 0] 36)
  rw [World.size_alloc] at p2
  obtain ⟨W, hW⟩ : ∃ W, (w.alloc (.cells (n.packet ep sq ak (.slice bo n.body.length bc)) 38)).alloc (.cells #[.int .i64 0, .int .i64 0, .int .u8 0, .int .u8 0, .int .u8 0, .int .u8 0, .int .u8 0, .int .u8 0, .int .i64 0, .int .i64 0, .slice none 0 0] 36) = W := ⟨_, rfl⟩
  rw [hW] at p1' p2 s1
  have HE := Lib.hid hW
  have LD := Lib.hid (load_packet p1')
  have P1 := Lib.hid p1'
  have P2 := Lib.hid p2
  have S1 := Lib.hid s1
  have H := Lib.hid h
  have T1 := Lib.hid (hT.still s1)
  have B1 := Lib.hid (hb.step s1 (fun _ _ s => s.elim))
  have HBL := Lib.hid hbl
  have OK := Lib.hid ok
  have gl := Lib.hid (blk_lt h.st)
  have hok : okP ep sq ak n = true := hyes
  have hcode : codeB ep sq ak n = 0 := by simp [codeB, hok]
  have hs0 := (okP_parts hok).2.2.1
  have E0 := Lib.hid (show s.take ⟨ep, sq, ak, n⟩ = ({ s.acked ak with due := true, taken := s.taken + 1 }, n, true, 0) by
    unfold Stm.take; rw [if_neg (by simp [hok]), if_neg (by simpa using hep), if_neg hk, if_neg (by simp [hn]; omega)])
  have dsq : decide (0 < sq) = true := by simp; omega
  have dz : (sq == 0) = false := by simpa using hz
  have dk : (n.kind == 0) = false := by simp; intro e; exact hk ⟨by omega, e⟩
  have dn : (sq != s.taken + 1) = false := by simpa using hn
  have dep : (ep != s.ep) = false := by simpa using hep
  have AK := Lib.hid (okP_parts hok).2.2.2
  have ADU := Lib.hid (show (s.acked ak).due = s.due by unfold Stm.acked; split <;> rfl)
  have ATK := Lib.hid (show (s.acked ak).taken = s.taken by unfold Stm.acked; split <;> rfl)
  have tk := ok.taken
  have wt1 : wrap64 (s.taken + 1) = s.taken + 1 := IntWalk.wrap64_in _ ⟨by omega, by omega⟩
  have wt2 : IntKind.i64.wrap (s.taken + 1) = s.taken + 1 := IntWalk.i64_in _ (by omega)
  clear hyes hok hep tk hk hz hn hs0
  clear h ok hT hb hW p1 p1' p2 s1 hbl
  go_enter Tryd.func18, Tryd.ntmps18
  go_wp2_with (first | rw [HE.out] | (refine wpList_load_if 38 (.tmp 3) rfl rfl rfl LD.out ?_))
  refine (encode_all ep sq ak n bo bc W T1.out B1.out HBL.out).mono ?_
  rintro e w2 ⟨u, rfl, -, s2⟩
  rw [hcode]
  have S2 := Lib.hid (S1.out.then_ s2)
  have Q1 := Lib.hid (s2.blk P1.out (fun s => s.elim))
  have Q2 := Lib.hid (s2.blk P2.out (fun s => s.elim))
  have H2 := Lib.hid (H.out.still S2.out)
  clear s2 LD P1 P2 S1 T1 B1 HE
  go_wp2_with fail
  refine wp_region_plan (fun w' => w'.cell? ⟨w.heap.size, 0, none⟩ = some (.int .i64 ep) ∧ w'.cell? ⟨g, 0, none⟩ = some (.int .i64 s.ep)) (.take 0 (.take 1 (.take 2 (.take 3 (.take 4 (.take 5 (.take 6 (.take 7 .done)))))))) _
    (by simp only [Plan.map, opOf, List.getElem?_toArray, List.getElem?_cons_zero, List.getElem?_cons_succ, Option.getD_some]; rfl) (by kernel_rfl) (by kernel_rfl) (by kernel_rfl) (by decide) (by intro c a d v w; cases d <;> exact fun h => h) ⟨blk_cell Q1.out 0, blk_cell H2.out.st 0⟩ ?_
  repeat (first | (refine wpPlan.taken (by rfl) (by intro w' hS'; (try dsimp only at hS'); go_split_ands; go_simp; try with_reducible rfl) ?_; simp only [Act.put, List.setIfInBounds_toArray, List.set_cons_zero, List.set_cons_succ]) | (refine wpPlan.passed (by rfl) ?_; simp only [Act.put, List.setIfInBounds_toArray, List.set_cons_zero, List.set_cons_succ]))
  refine wpPlan.done ?_
  have Q1d := Lib.hid (show w2.drew.heap[w.heap.size]? = _ from Q1.out)
  have Q2d := Lib.hid (show w2.drew.heap[w.heap.size + 1]? = _ from Q2.out)
  have H3 := Lib.hid (H2.out.still ((Step.refl None w2).drew))
  have S3 := Lib.hid (S2.out.drew)
  have x1 := blk_cell Q1d.out 1
  have x3 := blk_cell Q1d.out 3
  have x2 := blk_cell Q1d.out 2
  simp only [Note.packet, List.getElem?_toArray, List.getElem?_cons_zero, List.getElem?_cons_succ] at x1 x2 x3
  go_wp2_with fail
  refine (acked_any g v s bs ak w2.drew H3.out OK.out AK.out.1 AK.out.2).mono ?_
  rintro e w4 ⟨rfl, v4, bs4, h4, s4, l4⟩
  have nN : ¬ Of g v w.heap.size := fun hk => hk.elim (fun e => by have := gl.out; omega) fun hk => by have := H.out.row.lt hk; omega
  have nN1 : ¬ Of g v (w.heap.size + 1) := fun hk => hk.elim (fun e => by have := gl.out; omega) fun hk => by have := H.out.row.lt hk; omega
  have Q14 := Lib.hid (s4.blk Q1d.out nN)
  have Q24 := Lib.hid (s4.blk Q2d.out nN1)
  have S4 := Lib.hid ((S3.out.none (S := Of g v)).then_ s4)
  have L4 : Hid (∀ k, Leads v4 k → Leads v k ∨ w.heap.size + 2 ≤ k) := Lib.hid fun k hk => (l4 k hk).imp id fun h => by have := blk_lt Q2d.out; omega
  have c7 := blk_cell h4.st 7
  have f7 := blk_frozen h4.st 7
  simp only [Stm.cells, List.getElem?_toArray, List.getElem?_cons_zero, List.getElem?_cons_succ] at c7
  rw [ADU.out, hdue] at c7
  have y1 := blk_cell Q14.out 1
  simp only [Note.packet, List.getElem?_toArray, List.getElem?_cons_zero, List.getElem?_cons_succ] at y1
  have H4 := Lib.hid h4
  clear h4 s4 l4 nN nN1 x1 x2 x3 H3 S3 Q1d Q2d H2 S2 Q1 Q2
  go_wp2_with fail
  have st5 := Lib.hid ((Step.refl (fun k => k = g) w4).setCell (p := ⟨g, 7, none⟩) (fun _ => rfl) (.bool true))
  have b5 := Lib.hid (blk_set H4.out.st 7 (.bool true))
  obtain ⟨W5, hW5⟩ : ∃ W5, w4.setCell ⟨g, 7, none⟩ (.bool true) = W5 := ⟨_, rfl⟩
  rw [hW5] at st5 b5 ⊢
  clear hW5 c7 f7 y1
  have gN : ¬ w.heap.size = g := by have := gl.out; omega
  have gN1 : ¬ w.heap.size + 1 = g := by have := gl.out; omega
  have Q15 := Lib.hid (st5.out.blk Q14.out gN)
  have Q25 := Lib.hid (st5.out.blk Q24.out gN1)
  have z1 := blk_cell Q15.out 1
  have z6 := blk_cell b5.out 6
  have Q16 := Lib.hid (show W5.drew.heap[w.heap.size]? = _ from Q15.out)
  have Q26 := Lib.hid (show W5.drew.heap[w.heap.size + 1]? = _ from Q25.out)
  have lp6 := Lib.hid (load_pnote Q16.out)
  have b6 := Lib.hid (show W5.drew.heap[g]? = _ from b5.out)
  have st6 := Lib.hid (st5.out.drew)
  clear gN gN1
  simp [Stm.cells, Note.packet, ATK.out] at z1 z6
  refine wp_region_plan (fun w' => w'.cell? ⟨w.heap.size, 1, none⟩ = some (.int .i64 sq) ∧ w'.cell? ⟨g, 6, none⟩ = some (.int .i64 s.taken)) (.take 0 (.take 1 (.take 2 (.take 3 (.take 4 (.take 5 (.take 6 (.take 7 (.take 8 (.take 9 (.take 10 (.take 11 (.take 12 .done))))))))))))) _
    (by simp only [Plan.map, opOf, List.getElem?_toArray, List.getElem?_cons_zero, List.getElem?_cons_succ, Option.getD_some]; rfl) (by kernel_rfl) (by kernel_rfl) (by kernel_rfl) (by decide) (by intro c a d v w; cases d <;> exact fun h => h) ⟨z1, z6⟩ ?_
  repeat (first | (refine wpPlan.taken (by rfl) (by intro w' hS'; (try dsimp only at hS'); go_split_ands; go_simp; try with_reducible rfl) ?_; simp only [Act.put, List.setIfInBounds_toArray, List.set_cons_zero, List.set_cons_succ]) | (refine wpPlan.passed (by rfl) ?_; simp only [Act.put, List.setIfInBounds_toArray, List.set_cons_zero, List.set_cons_succ]))
  refine wpPlan.done ?_
  have z6d : W5.drew.cell? ⟨g, 6, none⟩ = some (.int .i64 s.taken) := z6
  have f6d := blk_frozen b6.out 6
  have gN : ¬ w.heap.size = g := by have := gl.out; omega
  have gN1 : ¬ w.heap.size + 1 = g := by have := gl.out; omega
  have s7 := (Step.refl (fun k => k = g) W5.drew).setCell (p := ⟨g, 6, none⟩) (fun _ => rfl) (.int .i64 (s.taken + 1))
  have Q17 := Lib.hid (s7.blk Q16.out gN)
  have Q27 := Lib.hid (s7.blk Q26.out gN1)
  have LP7 := Lib.hid (load_pnote Q17.out)
  clear s7 gN gN1 z1 z6
  go_wp2_with (first | (refine wpList_load_if 36 (.tmp 75) rfl rfl rfl LP7.out ?_) | (refine wpList_store_row rfl 36 (.tmp 4) (.tmp 76) rfl (w.heap.size + 1) #[.int .i64 n.kind, .int .i64 n.vlan, .int .u8 n.m0, .int .u8 n.m1, .int .u8 n.m2, .int .u8 n.m3, .int .u8 n.m4, .int .u8 n.m5, .int .i64 n.port, .int .i64 n.state, .slice bo n.body.length bc] rfl rfl 36 _ Q27.out (by kernel_rfl) rfl (by simp [Value.oneCell']) ?_))
  (try simp only [Exit.inBlock, Exit.then])
  refine bodyPost_ret (results_cell_row3 (P := Tryd.prog) (fn := Tryd.f18) rfl _ _ (w.heap.size + 1) 36 #[.int .i64 n.kind, .int .i64 n.vlan, .int .u8 n.m0, .int .u8 n.m1, .int .u8 n.m2, .int .u8 n.m3, .int .u8 n.m4, .int .u8 n.m5, .int .i64 n.port, .int .i64 n.state, .slice bo n.body.length bc] (0, 0) _ rfl (setRow_heap _ _ _ _ _ _ Q27.out) Tryd.underlying36 rfl (by kernel_rfl)) rfl ?_
  refine ⟨_, by rw [E0.out]; rfl, by rw [E0.out]; rfl, ?_⟩
  rw [E0.out]
  exact Went.take (s' := { s.acked ak with due := true, taken := s.taken + 1 }) (by decide) (by decide) H.out S4.out L4.out H4.out (st6.out.setCell (p := ⟨g, 6, none⟩) (fun _ => rfl) _) ((blk_set b6.out 6 _).trans (by simp [Stm.cells])) rfl Q27.out _
set_option maxHeartbeats 8000000 in
theorem take_ktz (g : Nat) (v : Value) (s : Stm) (bs : List Value) (ep sq ak : Int) (n : Note) (bo : Option Addr) (bc : Nat) (w : World) (h : Sm 66 w g v s bs) (ok : s.Ok) (hT : HasAt 0 w) (hb : Bytes w (.slice bo n.body.length bc) n.body) (hbl : n.body.length ≤ 10000) (hyes : okP ep sq ak n = true) (hep : ep = s.ep) (hz : sq = 0) (hdue : s.due = true) :
    Calls Tryd.prog 18 #[.pointer (some ⟨g, 0, none⟩), .agg (n.packet ep sq ak (.slice bo n.body.length bc))] w (TakeEnds g v s ep sq ak n bo bc w 66) := by
  have p1 := (heap_alloc_new w (.cells (n.packet ep sq ak (.slice bo n.body.length bc)) 38))
  have s1 := ((Step.refl None w).alloc (.cells (n.packet ep sq ak (.slice bo n.body.length bc)) 38)).alloc (.cells #[.int .i64 0, .int .i64 0, .int .u8 0, .int .u8 0, .int .u8 0, .int .u8 0, .int .u8 0, .int .u8 0, .int .i64 0, .int .i64 0, .slice none 0 0] 36)
  have p1' := (Below.heap_alloc _ (.cells #[.int .i64 0, .int .i64 0, .int .u8 0, .int .u8 0, .int .u8 0, .int .u8 0, .int .u8 0, .int .u8 0, .int .i64 0, .int .i64 0, .slice none 0 0] 36) w.heap.size (by simp)).trans p1
  have p2 := heap_alloc_new (w.alloc (.cells (n.packet ep sq ak (.slice bo n.body.length bc)) 38)) (.cells #[.int .i64 0, .int .i64 0, .int .u8 0, .int .u8 0, .int .u8 0, .int .u8 0, .int .u8 0, .int .u8 0, .int .i64 0, .int .i64 0, .slice none 0 0] 36)
  rw [World.size_alloc] at p2
  obtain ⟨W, hW⟩ : ∃ W, (w.alloc (.cells (n.packet ep sq ak (.slice bo n.body.length bc)) 38)).alloc (.cells #[.int .i64 0, .int .i64 0, .int .u8 0, .int .u8 0, .int .u8 0, .int .u8 0, .int .u8 0, .int .u8 0, .int .i64 0, .int .i64 0, .slice none 0 0] 36) = W := ⟨_, rfl⟩
  rw [hW] at p1' p2 s1
  have HE := Lib.hid hW
  have LD := Lib.hid (load_packet p1')
  have P1 := Lib.hid p1'
  have P2 := Lib.hid p2
  have S1 := Lib.hid s1
  have H := Lib.hid h
  have T1 := Lib.hid (hT.still s1)
  have B1 := Lib.hid (hb.step s1 (fun _ _ s => s.elim))
  have HBL := Lib.hid hbl
  have OK := Lib.hid ok
  have gl := Lib.hid (blk_lt h.st)
  have hok : okP ep sq ak n = true := hyes
  have hcode : codeB ep sq ak n = 0 := by simp [codeB, hok]
  have E0 := Lib.hid (show s.take ⟨ep, sq, ak, n⟩ = ({ s.acked ak with due := true, taken := s.taken }, bare, false, 0) by
    unfold Stm.take; rw [if_neg (by simp [hok]), if_neg (by simpa using hep), if_neg (by simp [hz]), if_pos (.inl hz)]
    have e1 : (s.acked ak).taken = s.taken := by unfold Stm.acked; split <;> rfl
    simp [hdue, hz, ← e1])
  have dsq : decide (0 < sq) = false := by simp [hz]
  have dz : (sq == 0) = true := by simpa using hz
  have dep : (ep != s.ep) = false := by simpa using hep
  have AK := Lib.hid (okP_parts hok).2.2.2
  have ADU := Lib.hid (show (s.acked ak).due = s.due by unfold Stm.acked; split <;> rfl)
  have ATK := Lib.hid (show (s.acked ak).taken = s.taken by unfold Stm.acked; split <;> rfl)
  have tk := ok.taken
  have wt1 : wrap64 (s.taken + 1) = s.taken + 1 := IntWalk.wrap64_in _ ⟨by omega, by omega⟩
  have wt2 : IntKind.i64.wrap (s.taken + 1) = s.taken + 1 := IntWalk.i64_in _ (by omega)
  clear hyes hok hep tk hz
  clear h ok hT hb hW p1 p1' p2 s1 hbl
  go_enter Tryd.func18, Tryd.ntmps18
  go_wp2_with (first | rw [HE.out] | (refine wpList_load_if 38 (.tmp 3) rfl rfl rfl LD.out ?_))
  refine (encode_all ep sq ak n bo bc W T1.out B1.out HBL.out).mono ?_
  rintro e w2 ⟨u, rfl, -, s2⟩
  rw [hcode]
  have S2 := Lib.hid (S1.out.then_ s2)
  have Q1 := Lib.hid (s2.blk P1.out (fun s => s.elim))
  have Q2 := Lib.hid (s2.blk P2.out (fun s => s.elim))
  have H2 := Lib.hid (H.out.still S2.out)
  clear s2 LD P1 P2 S1 T1 B1 HE
  go_wp2_with fail
  refine wp_region_plan (fun w' => w'.cell? ⟨w.heap.size, 0, none⟩ = some (.int .i64 ep) ∧ w'.cell? ⟨g, 0, none⟩ = some (.int .i64 s.ep)) (.take 0 (.take 1 (.take 2 (.take 3 (.take 4 (.take 5 (.take 6 (.take 7 .done)))))))) _
    (by simp only [Plan.map, opOf, List.getElem?_toArray, List.getElem?_cons_zero, List.getElem?_cons_succ, Option.getD_some]; rfl) (by kernel_rfl) (by kernel_rfl) (by kernel_rfl) (by decide) (by intro c a d v w; cases d <;> exact fun h => h) ⟨blk_cell Q1.out 0, blk_cell H2.out.st 0⟩ ?_
  repeat (first | (refine wpPlan.taken (by rfl) (by intro w' hS'; (try dsimp only at hS'); go_split_ands; go_simp; try with_reducible rfl) ?_; simp only [Act.put, List.setIfInBounds_toArray, List.set_cons_zero, List.set_cons_succ]) | (refine wpPlan.passed (by rfl) ?_; simp only [Act.put, List.setIfInBounds_toArray, List.set_cons_zero, List.set_cons_succ]))
  refine wpPlan.done ?_
  have Q1d := Lib.hid (show w2.drew.heap[w.heap.size]? = _ from Q1.out)
  have Q2d := Lib.hid (show w2.drew.heap[w.heap.size + 1]? = _ from Q2.out)
  have H3 := Lib.hid (H2.out.still ((Step.refl None w2).drew))
  have S3 := Lib.hid (S2.out.drew)
  have x1 := blk_cell Q1d.out 1
  have x3 := blk_cell Q1d.out 3
  have x2 := blk_cell Q1d.out 2
  simp only [Note.packet, List.getElem?_toArray, List.getElem?_cons_zero, List.getElem?_cons_succ] at x1 x2 x3
  go_wp2_with fail
  refine (acked_any g v s bs ak w2.drew H3.out OK.out AK.out.1 AK.out.2).mono ?_
  rintro e w4 ⟨rfl, v4, bs4, h4, s4, l4⟩
  have nN : ¬ Of g v w.heap.size := fun hk => hk.elim (fun e => by have := gl.out; omega) fun hk => by have := H.out.row.lt hk; omega
  have nN1 : ¬ Of g v (w.heap.size + 1) := fun hk => hk.elim (fun e => by have := gl.out; omega) fun hk => by have := H.out.row.lt hk; omega
  have Q14 := Lib.hid (s4.blk Q1d.out nN)
  have Q24 := Lib.hid (s4.blk Q2d.out nN1)
  have S4 := Lib.hid ((S3.out.none (S := Of g v)).then_ s4)
  have L4 : Hid (∀ k, Leads v4 k → Leads v k ∨ w.heap.size + 2 ≤ k) := Lib.hid fun k hk => (l4 k hk).imp id fun h => by have := blk_lt Q2d.out; omega
  have c7 := blk_cell h4.st 7
  have f7 := blk_frozen h4.st 7
  simp only [Stm.cells, List.getElem?_toArray, List.getElem?_cons_zero, List.getElem?_cons_succ] at c7
  rw [ADU.out, hdue] at c7
  have y1 := blk_cell Q14.out 1
  simp only [Note.packet, List.getElem?_toArray, List.getElem?_cons_zero, List.getElem?_cons_succ] at y1
  have H4 := Lib.hid h4
  clear h4 s4 l4 nN nN1 x1 x2 x3 H3 S3 Q1d Q2d H2 S2 Q1 Q2
  go_wp2_with fail
  have st5 := Lib.hid ((Step.refl (fun k => k = g) w4).setCell (p := ⟨g, 7, none⟩) (fun _ => rfl) (.bool true))
  have b5 := Lib.hid (blk_set H4.out.st 7 (.bool true))
  obtain ⟨W5, hW5⟩ : ∃ W5, w4.setCell ⟨g, 7, none⟩ (.bool true) = W5 := ⟨_, rfl⟩
  rw [hW5] at st5 b5 ⊢
  clear hW5 c7 f7 y1
  have gN : ¬ w.heap.size = g := by have := gl.out; omega
  have gN1 : ¬ w.heap.size + 1 = g := by have := gl.out; omega
  have Q15 := Lib.hid (st5.out.blk Q14.out gN)
  have Q25 := Lib.hid (st5.out.blk Q24.out gN1)
  have z1 := blk_cell Q15.out 1
  have z6 := blk_cell b5.out 6
  have Q16 := Lib.hid (show W5.drew.heap[w.heap.size]? = _ from Q15.out)
  have Q26 := Lib.hid (show W5.drew.heap[w.heap.size + 1]? = _ from Q25.out)
  have lp6 := Lib.hid (load_pnote Q16.out)
  have b6 := Lib.hid (show W5.drew.heap[g]? = _ from b5.out)
  have st6 := Lib.hid (st5.out.drew)
  clear gN gN1
  simp [Stm.cells, Note.packet, ATK.out] at z1 z6
  refine wp_region_plan (fun w' => w'.cell? ⟨w.heap.size, 1, none⟩ = some (.int .i64 sq) ∧ w'.cell? ⟨g, 6, none⟩ = some (.int .i64 s.taken)) (.take 0 (.take 1 (.take 2 (.take 3 (.take 4 (.take 5 (.take 6 (.take 7 (.take 8 (.take 9 (.take 10 (.take 11 (.take 12 .done))))))))))))) _
    (by simp only [Plan.map, opOf, List.getElem?_toArray, List.getElem?_cons_zero, List.getElem?_cons_succ, Option.getD_some]; rfl) (by kernel_rfl) (by kernel_rfl) (by kernel_rfl) (by decide) (by intro c a d v w; cases d <;> exact fun h => h) ⟨z1, z6⟩ ?_
  repeat (first | (refine wpPlan.taken (by rfl) (by intro w' hS'; (try dsimp only at hS'); go_split_ands; go_simp; try with_reducible rfl) ?_; simp only [Act.put, List.setIfInBounds_toArray, List.set_cons_zero, List.set_cons_succ]) | (refine wpPlan.passed (by rfl) ?_; simp only [Act.put, List.setIfInBounds_toArray, List.set_cons_zero, List.set_cons_succ]))
  refine wpPlan.done ?_
  go_wp2_with (first | (refine wpList_store_row rfl 36 (.tmp 4) (.tmp 67) rfl (w.heap.size + 1) #[.int .i64 0, .int .i64 0, .int .u8 0, .int .u8 0, .int .u8 0, .int .u8 0, .int .u8 0, .int .u8 0, .int .i64 0, .int .i64 0, .slice none 0 0] rfl rfl 36 _ Q26.out (by kernel_rfl) rfl (by simp [Value.oneCell']) ?_))
  (try simp only [Exit.inBlock, Exit.then])
  refine bodyPost_ret (results_cell_row3 (P := Tryd.prog) (fn := Tryd.f18) rfl _ _ (w.heap.size + 1) 36 #[.int .i64 0, .int .i64 0, .int .u8 0, .int .u8 0, .int .u8 0, .int .u8 0, .int .u8 0, .int .u8 0, .int .i64 0, .int .i64 0, .slice none 0 0] (0, 0) _ rfl (setRow_heap _ _ _ _ _ _ Q26.out) Tryd.underlying36 rfl (by kernel_rfl)) rfl ?_
  refine ⟨_, by rw [E0.out]; rfl, by rw [E0.out]; rfl, ?_⟩
  rw [E0.out]
  exact Went.take (s' := { s.acked ak with due := true, taken := s.taken }) (by decide) (by decide) H.out S4.out L4.out H4.out st6.out (b6.out.trans (by simp [Stm.cells, ATK.out])) rfl Q26.out _
set_option maxHeartbeats 8000000 in
theorem take_ktn (g : Nat) (v : Value) (s : Stm) (bs : List Value) (ep sq ak : Int) (n : Note) (bo : Option Addr) (bc : Nat) (w : World) (h : Sm 66 w g v s bs) (ok : s.Ok) (hT : HasAt 0 w) (hb : Bytes w (.slice bo n.body.length bc) n.body) (hbl : n.body.length ≤ 10000) (hyes : okP ep sq ak n = true) (hep : ep = s.ep) (hk : ¬ (0 < sq ∧ n.kind = 0)) (hz : sq ≠ 0) (hn : sq ≠ s.taken + 1) (hdue : s.due = true) :
    Calls Tryd.prog 18 #[.pointer (some ⟨g, 0, none⟩), .agg (n.packet ep sq ak (.slice bo n.body.length bc))] w (TakeEnds g v s ep sq ak n bo bc w 66) := by
  have p1 := (heap_alloc_new w (.cells (n.packet ep sq ak (.slice bo n.body.length bc)) 38))
  have s1 := ((Step.refl None w).alloc (.cells (n.packet ep sq ak (.slice bo n.body.length bc)) 38)).alloc (.cells #[.int .i64 0, .int .i64 0, .int .u8 0, .int .u8 0, .int .u8 0, .int .u8 0, .int .u8 0, .int .u8 0, .int .i64 0, .int .i64 0, .slice none 0 0] 36)
  have p1' := (Below.heap_alloc _ (.cells #[.int .i64 0, .int .i64 0, .int .u8 0, .int .u8 0, .int .u8 0, .int .u8 0, .int .u8 0, .int .u8 0, .int .i64 0, .int .i64 0, .slice none 0 0] 36) w.heap.size (by simp)).trans p1
  have p2 := heap_alloc_new (w.alloc (.cells (n.packet ep sq ak (.slice bo n.body.length bc)) 38)) (.cells #[.int .i64 0, .int .i64 0, .int .u8 0, .int .u8 0, .int .u8 0, .int .u8 0, .int .u8 0, .int .u8 0, .int .i64 0, .int .i64 0, .slice none 0 0] 36)
  rw [World.size_alloc] at p2
  obtain ⟨W, hW⟩ : ∃ W, (w.alloc (.cells (n.packet ep sq ak (.slice bo n.body.length bc)) 38)).alloc (.cells #[.int .i64 0, .int .i64 0, .int .u8 0, .int .u8 0, .int .u8 0, .int .u8 0, .int .u8 0, .int .u8 0, .int .i64 0, .int .i64 0, .slice none 0 0] 36) = W := ⟨_, rfl⟩
  rw [hW] at p1' p2 s1
  have HE := Lib.hid hW
  have LD := Lib.hid (load_packet p1')
  have P1 := Lib.hid p1'
  have P2 := Lib.hid p2
  have S1 := Lib.hid s1
  have H := Lib.hid h
  have T1 := Lib.hid (hT.still s1)
  have B1 := Lib.hid (hb.step s1 (fun _ _ s => s.elim))
  have HBL := Lib.hid hbl
  have OK := Lib.hid ok
  have gl := Lib.hid (blk_lt h.st)
  have hok : okP ep sq ak n = true := hyes
  have hcode : codeB ep sq ak n = 0 := by simp [codeB, hok]
  have hs0 := (okP_parts hok).2.2.1
  have E0 := Lib.hid (show s.take ⟨ep, sq, ak, n⟩ = ({ s.acked ak with due := true, taken := s.taken }, bare, false, 0) by
    unfold Stm.take; rw [if_neg (by simp [hok]), if_neg (by simpa using hep), if_neg hk, if_pos (.inr hn)]
    have e1 : (s.acked ak).taken = s.taken := by unfold Stm.acked; split <;> rfl
    have e2 : 0 < sq := by omega
    simp [hdue, e2, ← e1])
  have dsq : decide (0 < sq) = true := by simp; omega
  have dz : (sq == 0) = false := by simpa using hz
  have dk : (n.kind == 0) = false := by simp; intro e; exact hk ⟨by omega, e⟩
  have dn : (sq != s.taken + 1) = true := by simpa using hn
  have dep : (ep != s.ep) = false := by simpa using hep
  have AK := Lib.hid (okP_parts hok).2.2.2
  have ADU := Lib.hid (show (s.acked ak).due = s.due by unfold Stm.acked; split <;> rfl)
  have ATK := Lib.hid (show (s.acked ak).taken = s.taken by unfold Stm.acked; split <;> rfl)
  have tk := ok.taken
  have wt1 : wrap64 (s.taken + 1) = s.taken + 1 := IntWalk.wrap64_in _ ⟨by omega, by omega⟩
  have wt2 : IntKind.i64.wrap (s.taken + 1) = s.taken + 1 := IntWalk.i64_in _ (by omega)
  clear hyes hok hep tk hk hz hn hs0
  clear h ok hT hb hW p1 p1' p2 s1 hbl
  go_enter Tryd.func18, Tryd.ntmps18
  go_wp2_with (first | rw [HE.out] | (refine wpList_load_if 38 (.tmp 3) rfl rfl rfl LD.out ?_))
  refine (encode_all ep sq ak n bo bc W T1.out B1.out HBL.out).mono ?_
  rintro e w2 ⟨u, rfl, -, s2⟩
  rw [hcode]
  have S2 := Lib.hid (S1.out.then_ s2)
  have Q1 := Lib.hid (s2.blk P1.out (fun s => s.elim))
  have Q2 := Lib.hid (s2.blk P2.out (fun s => s.elim))
  have H2 := Lib.hid (H.out.still S2.out)
  clear s2 LD P1 P2 S1 T1 B1 HE
  go_wp2_with fail
  refine wp_region_plan (fun w' => w'.cell? ⟨w.heap.size, 0, none⟩ = some (.int .i64 ep) ∧ w'.cell? ⟨g, 0, none⟩ = some (.int .i64 s.ep)) (.take 0 (.take 1 (.take 2 (.take 3 (.take 4 (.take 5 (.take 6 (.take 7 .done)))))))) _
    (by simp only [Plan.map, opOf, List.getElem?_toArray, List.getElem?_cons_zero, List.getElem?_cons_succ, Option.getD_some]; rfl) (by kernel_rfl) (by kernel_rfl) (by kernel_rfl) (by decide) (by intro c a d v w; cases d <;> exact fun h => h) ⟨blk_cell Q1.out 0, blk_cell H2.out.st 0⟩ ?_
  repeat (first | (refine wpPlan.taken (by rfl) (by intro w' hS'; (try dsimp only at hS'); go_split_ands; go_simp; try with_reducible rfl) ?_; simp only [Act.put, List.setIfInBounds_toArray, List.set_cons_zero, List.set_cons_succ]) | (refine wpPlan.passed (by rfl) ?_; simp only [Act.put, List.setIfInBounds_toArray, List.set_cons_zero, List.set_cons_succ]))
  refine wpPlan.done ?_
  have Q1d := Lib.hid (show w2.drew.heap[w.heap.size]? = _ from Q1.out)
  have Q2d := Lib.hid (show w2.drew.heap[w.heap.size + 1]? = _ from Q2.out)
  have H3 := Lib.hid (H2.out.still ((Step.refl None w2).drew))
  have S3 := Lib.hid (S2.out.drew)
  have x1 := blk_cell Q1d.out 1
  have x3 := blk_cell Q1d.out 3
  have x2 := blk_cell Q1d.out 2
  simp only [Note.packet, List.getElem?_toArray, List.getElem?_cons_zero, List.getElem?_cons_succ] at x1 x2 x3
  go_wp2_with fail
  refine (acked_any g v s bs ak w2.drew H3.out OK.out AK.out.1 AK.out.2).mono ?_
  rintro e w4 ⟨rfl, v4, bs4, h4, s4, l4⟩
  have nN : ¬ Of g v w.heap.size := fun hk => hk.elim (fun e => by have := gl.out; omega) fun hk => by have := H.out.row.lt hk; omega
  have nN1 : ¬ Of g v (w.heap.size + 1) := fun hk => hk.elim (fun e => by have := gl.out; omega) fun hk => by have := H.out.row.lt hk; omega
  have Q14 := Lib.hid (s4.blk Q1d.out nN)
  have Q24 := Lib.hid (s4.blk Q2d.out nN1)
  have S4 := Lib.hid ((S3.out.none (S := Of g v)).then_ s4)
  have L4 : Hid (∀ k, Leads v4 k → Leads v k ∨ w.heap.size + 2 ≤ k) := Lib.hid fun k hk => (l4 k hk).imp id fun h => by have := blk_lt Q2d.out; omega
  have c7 := blk_cell h4.st 7
  have f7 := blk_frozen h4.st 7
  simp only [Stm.cells, List.getElem?_toArray, List.getElem?_cons_zero, List.getElem?_cons_succ] at c7
  rw [ADU.out, hdue] at c7
  have y1 := blk_cell Q14.out 1
  simp only [Note.packet, List.getElem?_toArray, List.getElem?_cons_zero, List.getElem?_cons_succ] at y1
  have H4 := Lib.hid h4
  clear h4 s4 l4 nN nN1 x1 x2 x3 H3 S3 Q1d Q2d H2 S2 Q1 Q2
  go_wp2_with fail
  have st5 := Lib.hid ((Step.refl (fun k => k = g) w4).setCell (p := ⟨g, 7, none⟩) (fun _ => rfl) (.bool true))
  have b5 := Lib.hid (blk_set H4.out.st 7 (.bool true))
  obtain ⟨W5, hW5⟩ : ∃ W5, w4.setCell ⟨g, 7, none⟩ (.bool true) = W5 := ⟨_, rfl⟩
  rw [hW5] at st5 b5 ⊢
  clear hW5 c7 f7 y1
  have gN : ¬ w.heap.size = g := by have := gl.out; omega
  have gN1 : ¬ w.heap.size + 1 = g := by have := gl.out; omega
  have Q15 := Lib.hid (st5.out.blk Q14.out gN)
  have Q25 := Lib.hid (st5.out.blk Q24.out gN1)
  have z1 := blk_cell Q15.out 1
  have z6 := blk_cell b5.out 6
  have Q16 := Lib.hid (show W5.drew.heap[w.heap.size]? = _ from Q15.out)
  have Q26 := Lib.hid (show W5.drew.heap[w.heap.size + 1]? = _ from Q25.out)
  have lp6 := Lib.hid (load_pnote Q16.out)
  have b6 := Lib.hid (show W5.drew.heap[g]? = _ from b5.out)
  have st6 := Lib.hid (st5.out.drew)
  clear gN gN1
  simp [Stm.cells, Note.packet, ATK.out] at z1 z6
  refine wp_region_plan (fun w' => w'.cell? ⟨w.heap.size, 1, none⟩ = some (.int .i64 sq) ∧ w'.cell? ⟨g, 6, none⟩ = some (.int .i64 s.taken)) (.take 0 (.take 1 (.take 2 (.take 3 (.take 4 (.take 5 (.take 6 (.take 7 (.take 8 (.take 9 (.take 10 (.take 11 (.take 12 .done))))))))))))) _
    (by simp only [Plan.map, opOf, List.getElem?_toArray, List.getElem?_cons_zero, List.getElem?_cons_succ, Option.getD_some]; rfl) (by kernel_rfl) (by kernel_rfl) (by kernel_rfl) (by decide) (by intro c a d v w; cases d <;> exact fun h => h) ⟨z1, z6⟩ ?_
  repeat (first | (refine wpPlan.taken (by rfl) (by intro w' hS'; (try dsimp only at hS'); go_split_ands; go_simp; try with_reducible rfl) ?_; simp only [Act.put, List.setIfInBounds_toArray, List.set_cons_zero, List.set_cons_succ]) | (refine wpPlan.passed (by rfl) ?_; simp only [Act.put, List.setIfInBounds_toArray, List.set_cons_zero, List.set_cons_succ]))
  refine wpPlan.done ?_
  go_wp2_with (first | (refine wpList_store_row rfl 36 (.tmp 4) (.tmp 67) rfl (w.heap.size + 1) #[.int .i64 0, .int .i64 0, .int .u8 0, .int .u8 0, .int .u8 0, .int .u8 0, .int .u8 0, .int .u8 0, .int .i64 0, .int .i64 0, .slice none 0 0] rfl rfl 36 _ Q26.out (by kernel_rfl) rfl (by simp [Value.oneCell']) ?_))
  (try simp only [Exit.inBlock, Exit.then])
  refine bodyPost_ret (results_cell_row3 (P := Tryd.prog) (fn := Tryd.f18) rfl _ _ (w.heap.size + 1) 36 #[.int .i64 0, .int .i64 0, .int .u8 0, .int .u8 0, .int .u8 0, .int .u8 0, .int .u8 0, .int .u8 0, .int .i64 0, .int .i64 0, .slice none 0 0] (0, 0) _ rfl (setRow_heap _ _ _ _ _ _ Q26.out) Tryd.underlying36 rfl (by kernel_rfl)) rfl ?_
  refine ⟨_, by rw [E0.out]; rfl, by rw [E0.out]; rfl, ?_⟩
  rw [E0.out]
  exact Went.take (s' := { s.acked ak with due := true, taken := s.taken }) (by decide) (by decide) H.out S4.out L4.out H4.out st6.out (b6.out.trans (by simp [Stm.cells, ATK.out])) rfl Q26.out _
set_option maxHeartbeats 8000000 in
theorem take_tt (g : Nat) (v : Value) (s : Stm) (bs : List Value) (ep sq ak : Int) (n : Note) (bo : Option Addr) (bc : Nat) (w : World) (h : Sm 66 w g v s bs) (ok : s.Ok) (hT : HasAt 0 w) (hb : Bytes w (.slice bo n.body.length bc) n.body) (hbl : n.body.length ≤ 10000) (hyes : okP ep sq ak n = true) (hep : ep = s.ep) (hk : ¬ (0 < sq ∧ n.kind = 0)) (hz : sq ≠ 0) (hn : sq = s.taken + 1) (hdue : s.due = true) :
    Calls Tryd.prog 18 #[.pointer (some ⟨g, 0, none⟩), .agg (n.packet ep sq ak (.slice bo n.body.length bc))] w (TakeEnds g v s ep sq ak n bo bc w 66) := by
  have p1 := (heap_alloc_new w (.cells (n.packet ep sq ak (.slice bo n.body.length bc)) 38))
  have s1 := ((Step.refl None w).alloc (.cells (n.packet ep sq ak (.slice bo n.body.length bc)) 38)).alloc (.cells #[.int .i64 0, .int .i64 0, .int .u8 0, .int .u8 0, .int .u8 0, .int .u8 0, .int .u8 0, .int .u8 0, .int .i64 0, .int .i64 0, .slice none 0 0] 36)
  have p1' := (Below.heap_alloc _ (.cells #[.int .i64 0, .int .i64 0, .int .u8 0, .int .u8 0, .int .u8 0, .int .u8 0, .int .u8 0, .int .u8 0, .int .i64 0, .int .i64 0, .slice none 0 0] 36) w.heap.size (by simp)).trans p1
  have p2 := heap_alloc_new (w.alloc (.cells (n.packet ep sq ak (.slice bo n.body.length bc)) 38)) (.cells #[.int .i64 0, .int .i64 0, .int .u8 0, .int .u8 0, .int .u8 0, .int .u8 0, .int .u8 0, .int .u8 0, .int .i64 0, .int .i64 0, .slice none 0 0] 36)
  rw [World.size_alloc] at p2
  obtain ⟨W, hW⟩ : ∃ W, (w.alloc (.cells (n.packet ep sq ak (.slice bo n.body.length bc)) 38)).alloc (.cells #[.int .i64 0, .int .i64 0, .int .u8 0, .int .u8 0, .int .u8 0, .int .u8 0, .int .u8 0, .int .u8 0, .int .i64 0, .int .i64 0, .slice none 0 0] 36) = W := ⟨_, rfl⟩
  rw [hW] at p1' p2 s1
  have HE := Lib.hid hW
  have LD := Lib.hid (load_packet p1')
  have P1 := Lib.hid p1'
  have P2 := Lib.hid p2
  have S1 := Lib.hid s1
  have H := Lib.hid h
  have T1 := Lib.hid (hT.still s1)
  have B1 := Lib.hid (hb.step s1 (fun _ _ s => s.elim))
  have HBL := Lib.hid hbl
  have OK := Lib.hid ok
  have gl := Lib.hid (blk_lt h.st)
  have hok : okP ep sq ak n = true := hyes
  have hcode : codeB ep sq ak n = 0 := by simp [codeB, hok]
  have hs0 := (okP_parts hok).2.2.1
  have E0 := Lib.hid (show s.take ⟨ep, sq, ak, n⟩ = ({ s.acked ak with due := true, taken := s.taken + 1 }, n, true, 0) by
    unfold Stm.take; rw [if_neg (by simp [hok]), if_neg (by simpa using hep), if_neg hk, if_neg (by simp [hn]; omega)])
  have dsq : decide (0 < sq) = true := by simp; omega
  have dz : (sq == 0) = false := by simpa using hz
  have dk : (n.kind == 0) = false := by simp; intro e; exact hk ⟨by omega, e⟩
  have dn : (sq != s.taken + 1) = false := by simpa using hn
  have dep : (ep != s.ep) = false := by simpa using hep
  have AK := Lib.hid (okP_parts hok).2.2.2
  have ADU := Lib.hid (show (s.acked ak).due = s.due by unfold Stm.acked; split <;> rfl)
  have ATK := Lib.hid (show (s.acked ak).taken = s.taken by unfold Stm.acked; split <;> rfl)
  have tk := ok.taken
  have wt1 : wrap64 (s.taken + 1) = s.taken + 1 := IntWalk.wrap64_in _ ⟨by omega, by omega⟩
  have wt2 : IntKind.i64.wrap (s.taken + 1) = s.taken + 1 := IntWalk.i64_in _ (by omega)
  clear hyes hok hep tk hk hz hn hs0
  clear h ok hT hb hW p1 p1' p2 s1 hbl
  go_enter Tryd.func18, Tryd.ntmps18
  go_wp2_with (first | rw [HE.out] | (refine wpList_load_if 38 (.tmp 3) rfl rfl rfl LD.out ?_))
  refine (encode_all ep sq ak n bo bc W T1.out B1.out HBL.out).mono ?_
  rintro e w2 ⟨u, rfl, -, s2⟩
  rw [hcode]
  have S2 := Lib.hid (S1.out.then_ s2)
  have Q1 := Lib.hid (s2.blk P1.out (fun s => s.elim))
  have Q2 := Lib.hid (s2.blk P2.out (fun s => s.elim))
  have H2 := Lib.hid (H.out.still S2.out)
  clear s2 LD P1 P2 S1 T1 B1 HE
  go_wp2_with fail
  refine wp_region_plan (fun w' => w'.cell? ⟨w.heap.size, 0, none⟩ = some (.int .i64 ep) ∧ w'.cell? ⟨g, 0, none⟩ = some (.int .i64 s.ep)) (.take 0 (.take 1 (.take 2 (.take 3 (.take 4 (.take 5 (.take 6 (.take 7 .done)))))))) _
    (by simp only [Plan.map, opOf, List.getElem?_toArray, List.getElem?_cons_zero, List.getElem?_cons_succ, Option.getD_some]; rfl) (by kernel_rfl) (by kernel_rfl) (by kernel_rfl) (by decide) (by intro c a d v w; cases d <;> exact fun h => h) ⟨blk_cell Q1.out 0, blk_cell H2.out.st 0⟩ ?_
  repeat (first | (refine wpPlan.taken (by rfl) (by intro w' hS'; (try dsimp only at hS'); go_split_ands; go_simp; try with_reducible rfl) ?_; simp only [Act.put, List.setIfInBounds_toArray, List.set_cons_zero, List.set_cons_succ]) | (refine wpPlan.passed (by rfl) ?_; simp only [Act.put, List.setIfInBounds_toArray, List.set_cons_zero, List.set_cons_succ]))
  refine wpPlan.done ?_
  have Q1d := Lib.hid (show w2.drew.heap[w.heap.size]? = _ from Q1.out)
  have Q2d := Lib.hid (show w2.drew.heap[w.heap.size + 1]? = _ from Q2.out)
  have H3 := Lib.hid (H2.out.still ((Step.refl None w2).drew))
  have S3 := Lib.hid (S2.out.drew)
  have x1 := blk_cell Q1d.out 1
  have x3 := blk_cell Q1d.out 3
  have x2 := blk_cell Q1d.out 2
  simp only [Note.packet, List.getElem?_toArray, List.getElem?_cons_zero, List.getElem?_cons_succ] at x1 x2 x3
  go_wp2_with fail
  refine (acked_any g v s bs ak w2.drew H3.out OK.out AK.out.1 AK.out.2).mono ?_
  rintro e w4 ⟨rfl, v4, bs4, h4, s4, l4⟩
  have nN : ¬ Of g v w.heap.size := fun hk => hk.elim (fun e => by have := gl.out; omega) fun hk => by have := H.out.row.lt hk; omega
  have nN1 : ¬ Of g v (w.heap.size + 1) := fun hk => hk.elim (fun e => by have := gl.out; omega) fun hk => by have := H.out.row.lt hk; omega
  have Q14 := Lib.hid (s4.blk Q1d.out nN)
  have Q24 := Lib.hid (s4.blk Q2d.out nN1)
  have S4 := Lib.hid ((S3.out.none (S := Of g v)).then_ s4)
  have L4 : Hid (∀ k, Leads v4 k → Leads v k ∨ w.heap.size + 2 ≤ k) := Lib.hid fun k hk => (l4 k hk).imp id fun h => by have := blk_lt Q2d.out; omega
  have c7 := blk_cell h4.st 7
  have f7 := blk_frozen h4.st 7
  simp only [Stm.cells, List.getElem?_toArray, List.getElem?_cons_zero, List.getElem?_cons_succ] at c7
  rw [ADU.out, hdue] at c7
  have y1 := blk_cell Q14.out 1
  simp only [Note.packet, List.getElem?_toArray, List.getElem?_cons_zero, List.getElem?_cons_succ] at y1
  have H4 := Lib.hid h4
  clear h4 s4 l4 nN nN1 x1 x2 x3 H3 S3 Q1d Q2d H2 S2 Q1 Q2
  go_wp2_with fail
  have st5 := Lib.hid ((Step.refl (fun k => k = g) w4).setCell (p := ⟨g, 7, none⟩) (fun _ => rfl) (.bool true))
  have b5 := Lib.hid (blk_set H4.out.st 7 (.bool true))
  obtain ⟨W5, hW5⟩ : ∃ W5, w4.setCell ⟨g, 7, none⟩ (.bool true) = W5 := ⟨_, rfl⟩
  rw [hW5] at st5 b5 ⊢
  clear hW5 c7 f7 y1
  have gN : ¬ w.heap.size = g := by have := gl.out; omega
  have gN1 : ¬ w.heap.size + 1 = g := by have := gl.out; omega
  have Q15 := Lib.hid (st5.out.blk Q14.out gN)
  have Q25 := Lib.hid (st5.out.blk Q24.out gN1)
  have z1 := blk_cell Q15.out 1
  have z6 := blk_cell b5.out 6
  have Q16 := Lib.hid (show W5.drew.heap[w.heap.size]? = _ from Q15.out)
  have Q26 := Lib.hid (show W5.drew.heap[w.heap.size + 1]? = _ from Q25.out)
  have lp6 := Lib.hid (load_pnote Q16.out)
  have b6 := Lib.hid (show W5.drew.heap[g]? = _ from b5.out)
  have st6 := Lib.hid (st5.out.drew)
  clear gN gN1
  simp [Stm.cells, Note.packet, ATK.out] at z1 z6
  refine wp_region_plan (fun w' => w'.cell? ⟨w.heap.size, 1, none⟩ = some (.int .i64 sq) ∧ w'.cell? ⟨g, 6, none⟩ = some (.int .i64 s.taken)) (.take 0 (.take 1 (.take 2 (.take 3 (.take 4 (.take 5 (.take 6 (.take 7 (.take 8 (.take 9 (.take 10 (.take 11 (.take 12 .done))))))))))))) _
    (by simp only [Plan.map, opOf, List.getElem?_toArray, List.getElem?_cons_zero, List.getElem?_cons_succ, Option.getD_some]; rfl) (by kernel_rfl) (by kernel_rfl) (by kernel_rfl) (by decide) (by intro c a d v w; cases d <;> exact fun h => h) ⟨z1, z6⟩ ?_
  repeat (first | (refine wpPlan.taken (by rfl) (by intro w' hS'; (try dsimp only at hS'); go_split_ands; go_simp; try with_reducible rfl) ?_; simp only [Act.put, List.setIfInBounds_toArray, List.set_cons_zero, List.set_cons_succ]) | (refine wpPlan.passed (by rfl) ?_; simp only [Act.put, List.setIfInBounds_toArray, List.set_cons_zero, List.set_cons_succ]))
  refine wpPlan.done ?_
  have z6d : W5.drew.cell? ⟨g, 6, none⟩ = some (.int .i64 s.taken) := z6
  have f6d := blk_frozen b6.out 6
  have gN : ¬ w.heap.size = g := by have := gl.out; omega
  have gN1 : ¬ w.heap.size + 1 = g := by have := gl.out; omega
  have s7 := (Step.refl (fun k => k = g) W5.drew).setCell (p := ⟨g, 6, none⟩) (fun _ => rfl) (.int .i64 (s.taken + 1))
  have Q17 := Lib.hid (s7.blk Q16.out gN)
  have Q27 := Lib.hid (s7.blk Q26.out gN1)
  have LP7 := Lib.hid (load_pnote Q17.out)
  clear s7 gN gN1 z1 z6
  go_wp2_with (first | (refine wpList_load_if 36 (.tmp 75) rfl rfl rfl LP7.out ?_) | (refine wpList_store_row rfl 36 (.tmp 4) (.tmp 76) rfl (w.heap.size + 1) #[.int .i64 n.kind, .int .i64 n.vlan, .int .u8 n.m0, .int .u8 n.m1, .int .u8 n.m2, .int .u8 n.m3, .int .u8 n.m4, .int .u8 n.m5, .int .i64 n.port, .int .i64 n.state, .slice bo n.body.length bc] rfl rfl 36 _ Q27.out (by kernel_rfl) rfl (by simp [Value.oneCell']) ?_))
  (try simp only [Exit.inBlock, Exit.then])
  refine bodyPost_ret (results_cell_row3 (P := Tryd.prog) (fn := Tryd.f18) rfl _ _ (w.heap.size + 1) 36 #[.int .i64 n.kind, .int .i64 n.vlan, .int .u8 n.m0, .int .u8 n.m1, .int .u8 n.m2, .int .u8 n.m3, .int .u8 n.m4, .int .u8 n.m5, .int .i64 n.port, .int .i64 n.state, .slice bo n.body.length bc] (0, 0) _ rfl (setRow_heap _ _ _ _ _ _ Q27.out) Tryd.underlying36 rfl (by kernel_rfl)) rfl ?_
  refine ⟨_, by rw [E0.out]; rfl, by rw [E0.out]; rfl, ?_⟩
  rw [E0.out]
  exact Went.take (s' := { s.acked ak with due := true, taken := s.taken + 1 }) (by decide) (by decide) H.out S4.out L4.out H4.out (st6.out.setCell (p := ⟨g, 6, none⟩) (fun _ => rfl) _) ((blk_set b6.out 6 _).trans (by simp [Stm.cells])) rfl Q27.out _
theorem take_any (g : Nat) (v : Value) (s : Stm) (bs : List Value) (ep sq ak : Int) (n : Note) (bo : Option Addr) (bc : Nat) (w : World) (h : Sm 66 w g v s bs) (ok : s.Ok) (hT : HasAt 0 w) (hb : Bytes w (.slice bo n.body.length bc) n.body) (hbl : n.body.length ≤ 10000) :
    Calls Tryd.prog 18 #[.pointer (some ⟨g, 0, none⟩), .agg (n.packet ep sq ak (.slice bo n.body.length bc))] w (TakeEnds g v s ep sq ak n bo bc w 66) := by
  cases hyes : okP ep sq ak n
  · exact take_c1 g v s bs ep sq ak n bo bc w h ok hT hb hbl hyes
  by_cases hep : ep = s.ep
  rotate_left
  · exact take_c2 g v s bs ep sq ak n bo bc w h ok hT hb hbl hyes hep
  by_cases hk : 0 < sq ∧ n.kind = 0
  · exact take_c3 g v s bs ep sq ak n bo bc w h ok hT hb hbl hyes hep hk
  by_cases hz : sq = 0
  · cases hd : s.due
    · exact take_kfz g v s bs ep sq ak n bo bc w h ok hT hb hbl hyes hep hz hd
    · exact take_ktz g v s bs ep sq ak n bo bc w h ok hT hb hbl hyes hep hz hd
  by_cases hn : sq = s.taken + 1
  · cases hd : s.due
    · exact take_tf g v s bs ep sq ak n bo bc w h ok hT hb hbl hyes hep hk hz hn hd
    · exact take_tt g v s bs ep sq ak n bo bc w h ok hT hb hbl hyes hep hk hz hn hd
  · cases hd : s.due
    · exact take_kfn g v s bs ep sq ak n bo bc w h ok hT hb hbl hyes hep hk hz hn hd
    · exact take_ktn g v s bs ep sq ak n bo bc w h ok hT hb hbl hyes hep hk hz hn hd
end Go.Proofs.YtgchepijbpcckaaDoor
