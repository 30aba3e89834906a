/- PickTalks, walked. -/
import Derived.Test.YtbdlcmfmnjhklaaW7
import Derived.Deep.WholeRow
namespace Go.Proofs.Ytbdlcmfmnjhklaa
open Go.RowKit Go.Gm

theorem two_new (w : World) (a b : Array Value) (s t : TypeId) : ((w.alloc (.cells a s)).alloc (.cells b t)).heap[w.heap.size]? = some (.cells a s (0, 0)) ∧ ((w.alloc (.cells a s)).alloc (.cells b t)).heap[w.heap.size + 1]? = some (.cells b t (0, 0)) := by
  refine ⟨(Below.heap_alloc _ _ _ (by simp)).trans (heap_alloc_new _ _), ?_⟩
  have := heap_alloc_new (w.alloc (.cells a s)) (.cells b t)
  simpa using this

theorem arg_frame2 {w : World} {v : Value} (h : Arg w (.cat 6 (.arr 6 1 (.int .u8)) (.cat 6 (.arr 6 1 (.int .u8)) (.cat 1 .bool (.cat 1 (.int .i64) (.cat 1 (.int .i64) (.cat 1 (.int .i64) (.cat 1 (.slice 1 1 (.int .u8)) .nil))))))) v) : ∃ f : Frm, v = .agg f.cells ∧ Small f.dst ∧ Small f.src ∧ f.body.oneCell' = true := by
  obtain ⟨⟨l⟩, rfl, hf⟩ := h.agg rfl
  obtain ⟨_, _, rfl, hd, h1⟩ := Fits.aggc hf
  obtain ⟨ds, rfl, hdl, hdw⟩ := hd.intArr
  obtain ⟨_, _, rfl, hs, h2⟩ := h1.aggc
  obtain ⟨ss, rfl, hsl, hsw⟩ := hs.intArr
  obtain ⟨tg, _, rfl, h3⟩ := h2.boolc
  obtain ⟨vl, _, rfl, -, h4⟩ := h3.intc
  obtain ⟨pr, _, rfl, -, h5⟩ := h4.intc
  obtain ⟨ty, _, rfl, -, h6⟩ := h5.intc
  obtain ⟨bv, _, rfl, hbv, h7⟩ := h6.slicec
  obtain ⟨ao, len, cap, hv, -⟩ := hbv
  simp only [List.cons.injEq, and_true] at hv
  subst hv
  obtain rfl := h7.nilc
  match ds, hdl, ss, hsl with
  | [d0, d1, d2, d3, d4, d5], _, [s0, s1, s2, s3, s4, s5], _ =>
    exact ⟨⟨d0, d1, d2, d3, d4, d5, s0, s1, s2, s3, s4, s5, tg, vl, pr, ty, .slice ao len cap⟩, rfl, fun x hx => wf_u8 (hdw x hx), fun x hx => wf_u8 (hsw x hx), rfl⟩

set_option linter.unusedSimpArgs false in
set_option maxHeartbeats 4000000 in
theorem pickTalks_walk (v0 v1 v2 : Value) (w : World) (h0 : Arg w (.cat 6 (.arr 6 1 (.int .u8)) (.cat 6 (.arr 6 1 (.int .u8)) (.cat 1 .bool (.cat 1 (.int .i64) (.cat 1 (.int .i64) (.cat 1 (.int .i64) (.cat 1 (.slice 1 1 (.int .u8)) .nil))))))) v0) (h1 : Arg w (.slice 1 1 (.int .u8)) v1) (h2 : Arg w (.arr 2 1 (.int .i64)) v2) :
    Calls Try.prog 7 #[v0, v1, v2] w fun e w' => e = .returned (.bool true) ∧ Below w.heap.size w w' := by
  obtain ⟨f, rfl, hd, hs, hbody⟩ := arg_frame2 h0
  have hbody : f.body.oneCell' = true := hbody
  obtain ⟨ao, len, cap, rfl⟩ : ∃ ao len cap, v1 = .slice ao len cap := by
    obtain ⟨ao, len, cap, hv, -⟩ := h1.one rfl
    exact ⟨ao, len, cap, by simpa using hv⟩
  obtain ⟨x0, x1, rfl⟩ : ∃ x y, v2 = .agg #[.int .i64 x, .int .i64 y] := by
    obtain ⟨⟨l⟩, rfl, hf⟩ := h2.agg rfl
    obtain ⟨xs, hx, hl, -⟩ := Fits.intArr hf
    match xs, hl with
    | [a, b], _ => exact ⟨a, b, by rw [show l = _ from hx]; rfl⟩
  obtain ⟨g, hg⟩ : ∃ g : Frm, g = { f with tag := !f.tag, typ := x0, prio := x1, body := .slice ao len cap } := ⟨_, rfl⟩
  have G := Lib.hid hg
  have H1 := Lib.hid (hash_any f · hd hs)
  have H2 : Hid (∀ w', Calls Try.prog 10 #[.agg g.cells] w' fun e w'' => e = .returned (.int .u32 (hashF f)) ∧ Step None w' w'') := Lib.hid fun w' => by
    have := hash_any g w' (by rw [hg]; exact hd) (by rw [hg]; exact hs)
    rwa [show hashF g = hashF f by rw [hg]; rfl] at this
  clear h0 h1 h2 hd hs hg
  obtain ⟨p1, p2⟩ := two_new w f.cells #[.int .i64 x0, .int .i64 x1] 26 37
  have S1 := Lib.hid (((Step.refl None w).alloc (.cells f.cells 26)).alloc (.cells #[.int .i64 x0, .int .i64 x1] 37))
  have P : Hid (∀ w', Step None ((w.alloc (.cells f.cells 26)).alloc (.cells #[.int .i64 x0, .int .i64 x1] 37)) w' → w'.heap[w.heap.size]? = some (.cells f.cells 26 (0, 0)) ∧ w'.heap[w.heap.size + 1]? = some (.cells #[.int .i64 x0, .int .i64 x1] 37 (0, 0))) := Lib.hid fun w' h' => ⟨h'.blk p1 (fun s => s.elim), h'.blk p2 (fun s => s.elim)⟩
  have Z0 := Lib.hid (Step.refl None ((w.alloc (.cells f.cells 26)).alloc (.cells #[.int .i64 x0, .int .i64 x1] 37)))
  have hzs : w.heap.size + 1 < ((w.alloc (.cells f.cells 26)).alloc (.cells #[.int .i64 x0, .int .i64 x1] 37)).heap.size := by simp
  have HZ := Lib.hid hzs
  clear p1 p2 hzs
  generalize hashF f = R at *
  go_enter Try.func7, Try.ntmps7
  go_wp2_with fail
  refine (awake_any _).mono ?_
  rintro e w2 ⟨rfl, s2⟩
  have Z2 := Lib.hid (Z0.out.then_ s2)
  have hlt : w.heap.size + 1 < w2.heap.size := Nat.lt_of_lt_of_le HZ.out s2.size
  clear s2 Z0 HZ
  have hal : (w2.alloc (.cells #[.int .u8 0, .int .u8 0, .int .u8 0, .int .u8 0, .int .u8 0, .int .u8 0, .int .u8 0, .int .u8 0, .int .u8 0, .int .u8 0, .int .u8 0, .int .u8 0, .bool false, .int .i64 0, .int .i64 0, .int .i64 0, .slice none 0 0] 26)).setRow w2.heap.size f.cells = w2.alloc (.cells f.cells 26) := World.setRow_alloc_new w2 _ _ 26
  have n1 : w.heap.size ≠ w2.heap.size := by omega
  have n2 : w.heap.size + 1 ≠ w2.heap.size := by omega
  obtain ⟨W0, hW0⟩ : ∃ W, w2.alloc (.cells f.cells 26) = W := ⟨_, rfl⟩
  have a0 : W0.heap[w.heap.size]? = some (.cells f.cells 26 (0, 0)) := by rw [← hW0]; exact (P.out _ (Z2.out.alloc _)).1
  have b0 : W0.heap[w.heap.size + 1]? = some (.cells #[.int .i64 x0, .int .i64 x1] 37 (0, 0)) := by rw [← hW0]; exact (P.out _ (Z2.out.alloc _)).2
  have c0 : W0.heap[w2.heap.size]? = some (.cells #[.int .u8 f.d0, .int .u8 f.d1, .int .u8 f.d2, .int .u8 f.d3, .int .u8 f.d4, .int .u8 f.d5, .int .u8 f.s0, .int .u8 f.s1, .int .u8 f.s2, .int .u8 f.s3, .int .u8 f.s4, .int .u8 f.s5, .bool f.tag, .int .i64 f.vlan, .int .i64 f.prio, .int .i64 f.typ, f.body] 26 (0, 0)) := by rw [← hW0]; exact heap_alloc_new _ _
  have s0 : Step None w W0 := by rw [← hW0]; exact (S1.out.then_ Z2.out).alloc _
  rw [hW0] at hal
  have HAL := Lib.hid hal
  clear hal hW0
  obtain ⟨W1, hW1⟩ : ∃ W, W0.setCell ⟨w2.heap.size, 16, none⟩ (.slice ao len cap) = W := ⟨_, rfl⟩
  have a1 : W1.heap[w.heap.size]? = some (.cells f.cells 26 (0, 0)) := by rw [← hW1, heap_setCell_other _ _ _ _ (by simpa using n1)]; exact a0
  have b1 : W1.heap[w.heap.size + 1]? = some (.cells #[.int .i64 x0, .int .i64 x1] 37 (0, 0)) := by rw [← hW1, heap_setCell_other _ _ _ _ (by simpa using n2)]; exact b0
  have c1 : W1.heap[w2.heap.size]? = some (.cells #[.int .u8 f.d0, .int .u8 f.d1, .int .u8 f.d2, .int .u8 f.d3, .int .u8 f.d4, .int .u8 f.d5, .int .u8 f.s0, .int .u8 f.s1, .int .u8 f.s2, .int .u8 f.s3, .int .u8 f.s4, .int .u8 f.s5, .bool f.tag, .int .i64 f.vlan, .int .i64 f.prio, .int .i64 f.typ, (.slice ao len cap)] 26 (0, 0)) := by
    have := blk_set c0 16 (.slice ao len cap)
    rw [hW1] at this
    simpa using this
  have s1 : Step None w W1 := by rw [← hW1]; exact s0.setCell (fun h => by simp at h; omega) _
  have E1 := Lib.hid hW1
  clear hW1
  obtain ⟨W2, hW2⟩ : ∃ W, W1.setCell ⟨w2.heap.size, 15, none⟩ (.int .i64 x0) = W := ⟨_, rfl⟩
  have a2 : W2.heap[w.heap.size]? = some (.cells f.cells 26 (0, 0)) := by rw [← hW2, heap_setCell_other _ _ _ _ (by simpa using n1)]; exact a1
  have b2 : W2.heap[w.heap.size + 1]? = some (.cells #[.int .i64 x0, .int .i64 x1] 37 (0, 0)) := by rw [← hW2, heap_setCell_other _ _ _ _ (by simpa using n2)]; exact b1
  have c2 : W2.heap[w2.heap.size]? = some (.cells #[.int .u8 f.d0, .int .u8 f.d1, .int .u8 f.d2, .int .u8 f.d3, .int .u8 f.d4, .int .u8 f.d5, .int .u8 f.s0, .int .u8 f.s1, .int .u8 f.s2, .int .u8 f.s3, .int .u8 f.s4, .int .u8 f.s5, .bool f.tag, .int .i64 f.vlan, .int .i64 f.prio, .int .i64 x0, (.slice ao len cap)] 26 (0, 0)) := by
    have := blk_set c1 15 (.int .i64 x0)
    rw [hW2] at this
    simpa using this
  have s2 : Step None w W2 := by rw [← hW2]; exact s1.setCell (fun h => by simp at h; omega) _
  have E2 := Lib.hid hW2
  clear hW2
  obtain ⟨W3, hW3⟩ : ∃ W, W2.setCell ⟨w2.heap.size, 14, none⟩ (.int .i64 x1) = W := ⟨_, rfl⟩
  have a3 : W3.heap[w.heap.size]? = some (.cells f.cells 26 (0, 0)) := by rw [← hW3, heap_setCell_other _ _ _ _ (by simpa using n1)]; exact a2
  have b3 : W3.heap[w.heap.size + 1]? = some (.cells #[.int .i64 x0, .int .i64 x1] 37 (0, 0)) := by rw [← hW3, heap_setCell_other _ _ _ _ (by simpa using n2)]; exact b2
  have c3 : W3.heap[w2.heap.size]? = some (.cells #[.int .u8 f.d0, .int .u8 f.d1, .int .u8 f.d2, .int .u8 f.d3, .int .u8 f.d4, .int .u8 f.d5, .int .u8 f.s0, .int .u8 f.s1, .int .u8 f.s2, .int .u8 f.s3, .int .u8 f.s4, .int .u8 f.s5, .bool f.tag, .int .i64 f.vlan, .int .i64 x1, .int .i64 x0, (.slice ao len cap)] 26 (0, 0)) := by
    have := blk_set c2 14 (.int .i64 x1)
    rw [hW3] at this
    simpa using this
  have s3 : Step None w W3 := by rw [← hW3]; exact s2.setCell (fun h => by simp at h; omega) _
  have E3 := Lib.hid hW3
  clear hW3
  obtain ⟨W4, hW4⟩ : ∃ W, W3.setCell ⟨w2.heap.size, 12, none⟩ (.bool (!f.tag)) = W := ⟨_, rfl⟩
  have a4 : W4.heap[w.heap.size]? = some (.cells f.cells 26 (0, 0)) := by rw [← hW4, heap_setCell_other _ _ _ _ (by simpa using n1)]; exact a3
  have b4 : W4.heap[w.heap.size + 1]? = some (.cells #[.int .i64 x0, .int .i64 x1] 37 (0, 0)) := by rw [← hW4, heap_setCell_other _ _ _ _ (by simpa using n2)]; exact b3
  have c4 : W4.heap[w2.heap.size]? = some (.cells #[.int .u8 f.d0, .int .u8 f.d1, .int .u8 f.d2, .int .u8 f.d3, .int .u8 f.d4, .int .u8 f.d5, .int .u8 f.s0, .int .u8 f.s1, .int .u8 f.s2, .int .u8 f.s3, .int .u8 f.s4, .int .u8 f.s5, .bool (!f.tag), .int .i64 f.vlan, .int .i64 x1, .int .i64 x0, (.slice ao len cap)] 26 (0, 0)) := by
    have := blk_set c3 12 (.bool (!f.tag))
    rw [hW4] at this
    simpa using this
  have s4 : Step None w W4 := by rw [← hW4]; exact s3.setCell (fun h => by simp at h; omega) _
  have E4 := Lib.hid hW4
  clear hW4
  have e0 := blk_cell c0 16
  have f0 := blk_frozen c0 16
  have e1 := blk_cell c1 15
  have f1 := blk_frozen c1 15
  have e2 := blk_cell c2 14
  have f2 := blk_frozen c2 14
  have e3 := blk_cell c3 12
  have f3 := blk_frozen c3 12
  have x1a := blk_cell b1 0
  have x2a := blk_cell b2 1
  have x3a := blk_cell a3 12
  simp only [Frm.cells, List.getElem?_toArray, List.getElem?_cons_zero, List.getElem?_cons_succ] at e0 e1 e2 e3 x1a x2a x3a
  have c4' : W4.heap[w2.heap.size]? = some (.cells (Frm.cells g) 26 (0, 0)) := by rw [G.out]; exact c4
  have K : Hid (∀ w', Step None W4 w' → (Instr.loadAt 26 (.pointer (some ⟨w.heap.size, 0, none⟩))).run Try.prog w' = .ok (.agg f.cells) w' ∧ (Instr.loadAt 26 (.pointer (some ⟨w2.heap.size, 0, none⟩))).run Try.prog w' = .ok (.agg (Frm.cells g)) w') := Lib.hid fun w' h' => ⟨load_frame (h'.blk a4 (fun s => s.elim)), load_frame (h'.blk c4' (fun s => s.elim))⟩
  have S4 := Lib.hid s4
  clear a0 b0 c0 s0 a1 b1 c1 s1 a2 b2 c2 s2 a3 b3 c3 s3 a4 b4 c4 c4' s4 n1 n2
  go_wp2_with (first
    | (refine wpList_load_row rfl 26 (.tmp 3) rfl w.heap.size rfl 26 f.cells (0, 0) _ (P.out _ Z2.out).1 Try.underlying26 rfl (by kernel_rfl) ?_)
    | (refine wpList_store_row rfl 26 (.tmp 8) (.tmp 10) rfl w2.heap.size f.cells rfl rfl 26 #[.int .u8 0, .int .u8 0, .int .u8 0, .int .u8 0, .int .u8 0, .int .u8 0, .int .u8 0, .int .u8 0, .int .u8 0, .int .u8 0, .int .u8 0, .int .u8 0, .bool false, .int .i64 0, .int .i64 0, .int .i64 0, .slice none 0 0] (heap_alloc_new w2 _) (by kernel_rfl) rfl (by have hb := hbody; simp only [Value.oneCell'] at hb; simp [Frm.cells, Value.oneCell', hb]) ?_; rw [HAL.out])
    | rw [E1.out] | rw [E2.out] | rw [E3.out] | rw [E4.out])
  refine wp_region_plan (fun w' => (Instr.loadAt 26 (.pointer (some ⟨w.heap.size, 0, none⟩))).run Try.prog w' = .ok (.agg f.cells) w' ∧ (Instr.loadAt 26 (.pointer (some ⟨w2.heap.size, 0, none⟩))).run Try.prog w' = .ok (.agg (Frm.cells g)) w') (.take 0 (.take 1 (.take 2 (.take 4 (.alt 3 (.alt 5 (.take 6 (.take 7 (.take 8 .done))) .none) .none))))) _
    (by simp only [Plan.map, opOf, List.getElem?_toArray, List.getElem?_cons_zero, List.getElem?_cons_succ, Option.getD_some]; rfl) (by kernel_rfl) (by kernel_rfl) (by kernel_rfl) (by decide) (by intro c a d v w; cases d <;> exact fun h => h) (K.out _ (Step.refl None _).drew) ?_
  repeat (first | (refine wpPlan.taken (by rfl) (fun w' hS' => run_load_op rfl rfl hS'.1) ?_; simp only [Act.put, List.setIfInBounds_toArray, List.set_cons_zero, List.set_cons_succ]) | (refine wpPlan.taken (by rfl) (fun w' hS' => run_load_op rfl rfl hS'.2) ?_; simp only [Act.put, List.setIfInBounds_toArray, List.set_cons_zero, List.set_cons_succ]) | (refine wpPlan.taken (by rfl) (by intro w' hS'; (try dsimp only at hS'); go_split_ands; go_simp; try with_reducible rfl) ?_; simp only [Act.put, List.setIfInBounds_toArray, List.set_cons_zero, List.set_cons_succ]))
  refine wpPlan.runs fun K' hK => ?_
  go_simp
  refine (H1.out _).mono ?_
  rintro e w3 ⟨rfl, s3⟩
  have Y3 := Lib.hid ((Step.refl None W4).drew.then_ s3)
  refine hK.out _ _ (K.out _ Y3.out) ?_
  clear hK K' s3
  repeat (first | (refine wpPlan.taken (by rfl) (fun w' hS' => run_load_op rfl rfl hS'.1) ?_; simp only [Act.put, List.setIfInBounds_toArray, List.set_cons_zero, List.set_cons_succ]) | (refine wpPlan.taken (by rfl) (fun w' hS' => run_load_op rfl rfl hS'.2) ?_; simp only [Act.put, List.setIfInBounds_toArray, List.set_cons_zero, List.set_cons_succ]) | (refine wpPlan.taken (by rfl) (by intro w' hS'; (try dsimp only at hS'); go_split_ands; go_simp; try with_reducible rfl) ?_; simp only [Act.put, List.setIfInBounds_toArray, List.set_cons_zero, List.set_cons_succ]))
  refine wpPlan.runs fun K' hK => ?_
  go_simp
  refine (H2.out _).mono ?_
  rintro e w4 ⟨rfl, s4⟩
  have Y4 := Lib.hid (Y3.out.then_ s4)
  refine hK.out _ _ (K.out _ Y4.out) ?_
  clear hK K' s4
  repeat (first | (refine wpPlan.taken (by rfl) (fun w' hS' => run_load_op rfl rfl hS'.1) ?_; simp only [Act.put, List.setIfInBounds_toArray, List.set_cons_zero, List.set_cons_succ]) | (refine wpPlan.taken (by rfl) (fun w' hS' => run_load_op rfl rfl hS'.2) ?_; simp only [Act.put, List.setIfInBounds_toArray, List.set_cons_zero, List.set_cons_succ]) | (refine wpPlan.taken (by rfl) (by intro w' hS'; (try dsimp only at hS'); go_split_ands; go_simp; try with_reducible rfl) ?_; simp only [Act.put, List.setIfInBounds_toArray, List.set_cons_zero, List.set_cons_succ]))
  refine wpPlan.done ?_
  go_wp2_with fail
  go_ret
  exact ⟨rfl, (S4.out.then_ Y4.out).toBelow⟩

end Go.Proofs.Ytbdlcmfmnjhklaa
