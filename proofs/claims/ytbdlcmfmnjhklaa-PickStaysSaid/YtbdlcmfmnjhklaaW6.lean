/- awake; PickHashes, PickChooses, walked. -/
import Derived.Test.YtbdlcmfmnjhklaaW5
import Derived.Test.YtbdlcmfmnjhklaaPiec
import Derived.Deep.MidRow
namespace Go.Proofs.Ytbdlcmfmnjhklaa
open Go.RowKit Go.Gm

theorem awake_any (w : World) : Calls Try.prog 9 #[] w fun e w' => e = .returned (.bool true) ∧ Step None w w' := by
  have hm := chosen_mem (weight 7) 3 [4]
  have hc : Gm.chosen (weight 7) 3 [4] = 3 ∨ Gm.chosen (weight 7) 3 [4] = 4 := by simpa using hm
  have C := Lib.hid (choose_any 3 [4] 7 w.heap.size 0 2 (w.alloc (.cells #[.int .i64 3, .int .i64 4] 3)) (by decide) (by simp) (by simp) (fun j x hj => by
    rw [blk_cell (heap_alloc_new w _)]
    match j, hj with
    | 0, hj => simp at hj; simp [hj]
    | 1, hj => simp at hj; simp [hj]
    | j + 2, hj => simp at hj))
  have S1 := Lib.hid ((Step.refl None w).alloc (.cells #[.int .i64 3, .int .i64 4] 3))
  have F := Lib.hid (hash_any noFrame · (fun x hx => by simp [Frm.dst, noFrame] at hx; omega) (fun x hx => by simp [Frm.src, noFrame] at hx; omega))
  have HN := noFrame_hash
  clear hm
  generalize Gm.chosen (weight 7) 3 [4] = c at *
  generalize hashF noFrame = N at *
  go_enter Try.func9, Try.ntmps9
  go_wp2_with fail
  refine C.out.mono ?_
  rintro e w2 ⟨rfl, s2⟩
  have S2 := Lib.hid (S1.out.then_ s2)
  clear s2 C
  go_wp2_with fail
  refine (choose_nil _ _ _ _).mono ?_
  rintro e w3 ⟨rfl, s3⟩
  have S3 := Lib.hid (S2.out.then_ s3)
  clear s3 S2
  rcases hc with rfl | rfl
  all_goals
    go_wp2_with fail
    refine (F.out _).mono ?_
    rintro e w4 ⟨rfl, s4⟩
    have S4 := Lib.hid (S3.out.then_ s4)
    clear s4
    go_wp2_with fail
    go_ret
    exact ⟨rfl, S4.out⟩

theorem run_load_op {P : Program} {ev : Operand → Value} {o : Oper} {ty : TypeId} {x : Operand} {y v : Value} {w : World} (ho : o.op = .load ty x) (hx : ev x = y) (hl : (Instr.loadAt ty y).run P w = .ok v w) : (execOp ev o).run P w = .ok (.value v) w := by
  unfold execOp
  simp only [ho, hx, Sem.run_bind, hl, Result.andThen_ok, Sem.run_pure]

theorem load_frame {w : World} {g : Nat} {f : Frm} {t : TypeId} {fr : Nat × Nat} (h : w.heap[g]? = some (.cells f.cells t fr)) : (Instr.loadAt 26 (.pointer (some ⟨g, 0, none⟩))).run Try.prog w = .ok (.agg f.cells) w := by
  have := run_loadAt_mid (P := Try.prog) w g 0 26 f.cells.toList _ (fun j u hj => by rw [blk_cell h]; simpa using hj) Try.underlying26 rfl (by kernel_rfl)
  simpa using this

theorem arg_frame {w : World} {v : Value} (h : Arg w (.cat 6 (.arr 6 1 (.int .u8)) (.cat 6 (.arr 6 1 (.int .u8)) (.cat 1 .bool (.cat 1 (.int .i64) (.cat 1 (.int .i64) (.cat 1 (.int .i64) (.cat 1 (.slice 1 1 (.int .u8)) .nil))))))) v) : ∃ f : Frm, v = .agg f.cells ∧ Small f.dst ∧ Small f.src := by
  obtain ⟨⟨l⟩, rfl, hf⟩ := h.agg rfl
  obtain ⟨_, _, rfl, hd, h1⟩ := Fits.aggc hf
  obtain ⟨ds, rfl, hdl, hdw⟩ := hd.intArr
  obtain ⟨_, _, rfl, hs, h2⟩ := h1.aggc
  obtain ⟨ss, rfl, hsl, hsw⟩ := hs.intArr
  obtain ⟨tg, _, rfl, h3⟩ := h2.boolc
  obtain ⟨vl, _, rfl, -, h4⟩ := h3.intc
  obtain ⟨pr, _, rfl, -, h5⟩ := h4.intc
  obtain ⟨ty, _, rfl, -, h6⟩ := h5.intc
  obtain ⟨bv, _, rfl, -, h7⟩ := h6.slicec
  obtain rfl := h7.nilc
  match ds, hdl, ss, hsl with
  | [d0, d1, d2, d3, d4, d5], _, [s0, s1, s2, s3, s4, s5], _ =>
    exact ⟨⟨d0, d1, d2, d3, d4, d5, s0, s1, s2, s3, s4, s5, tg, vl, pr, ty, bv⟩, rfl, fun x hx => wf_u8 (hdw x hx), fun x hx => wf_u8 (hsw x hx)⟩

theorem wf_u32 {n : Int} (h : (Lit.int .u32 n).wf = true) : 0 ≤ n ∧ n < 4294967296 := by
  have := bounds_u32 h
  omega

set_option linter.unusedSimpArgs false in
set_option maxHeartbeats 2000000 in
theorem pickHashes_walk (v0 v1 v2 : Value) (w : World) (h0 : Arg w (.cat 6 (.arr 6 1 (.int .u8)) (.cat 6 (.arr 6 1 (.int .u8)) (.cat 1 .bool (.cat 1 (.int .i64) (.cat 1 (.int .i64) (.cat 1 (.int .i64) (.cat 1 (.slice 1 1 (.int .u8)) .nil))))))) v0) (h1 : Arg w (.int .u32) v1) (h2 : Arg w (.int .i64) v2) :
    Calls Try.prog 3 #[v0, v1, v2] w fun e w' => e = .returned (.bool true) ∧ Below w.heap.size w w' := by
  obtain ⟨f, rfl, hd, hs⟩ := arg_frame h0
  obtain ⟨h, rfl, hw⟩ := h1.int
  obtain ⟨m, rfl, -⟩ := h2.int
  have hh := wf_u32 hw
  have H1 := Lib.hid (hash_any f · hd hs)
  have H2 := Lib.hid (rhash_any f · hd hs)
  have W1 := Lib.hid (weigh_any h m · hh)
  have W2 := Lib.hid (rweigh_any h m · hh)
  clear h0 h1 h2 hd hs hw hh
  have p1 := heap_alloc_new w (.cells f.cells 26)
  have S1 := Lib.hid ((Step.refl None w).alloc (.cells f.cells 26))
  have Z0 := Lib.hid (Step.refl None (w.alloc (.cells f.cells 26)))
  have K : Hid (∀ w', Step None (w.alloc (.cells f.cells 26)) w' → (Instr.loadAt 26 (.pointer (some ⟨w.heap.size, 0, none⟩))).run Try.prog w' = .ok (.agg f.cells) w') := Lib.hid fun w' h' => load_frame (h'.blk p1 (fun s => s.elim))
  clear p1
  generalize hashF f = R at *
  generalize weight h m = Q at *
  go_enter Try.func3, Try.ntmps3
  go_wp2_with fail
  refine (awake_any _).mono ?_
  rintro e w2 ⟨rfl, s2⟩
  have Z2 := Lib.hid (Z0.out.then_ s2)
  clear s2 Z0
  go_wp2_with fail
  refine wp_region_plan (fun w' => (Instr.loadAt 26 (.pointer (some ⟨w.heap.size, 0, none⟩))).run Try.prog w' = .ok (.agg f.cells) w') (.take 0 (.take 1 (.take 2 (.take 4 (.alt 3 (.alt 5 (.take 6 (.take 7 (.take 8 (.take 9 (.take 10 (.take 12 (.take 13 (.alt 11 (.alt 14 (.take 15 (.take 16 (.take 17 .done))) .none) .none)))))))) .none) .none))))) _
    (by simp only [Plan.map, opOf, List.getElem?_toArray, List.getElem?_cons_zero, List.getElem?_cons_succ, Option.getD_some]; rfl) (by kernel_rfl) (by kernel_rfl) (by kernel_rfl) (by decide) (by intro c a d v w; cases d <;> exact fun h => h) (K.out _ Z2.out.drew) ?_
  repeat (first | (refine wpPlan.taken (by rfl) (fun w' hS' => run_load_op rfl rfl hS') ?_; simp only [Act.put, List.setIfInBounds_toArray, List.set_cons_zero, List.set_cons_succ]) | (refine wpPlan.taken (by rfl) (by intro w' hS'; (try dsimp only at hS'); go_split_ands; go_simp; try with_reducible rfl) ?_; simp only [Act.put, List.setIfInBounds_toArray, List.set_cons_zero, List.set_cons_succ]))
  refine wpPlan.runs fun K' hK => ?_
  go_simp
  refine (H1.out _).mono ?_
  rintro e w3 ⟨rfl, s3⟩
  have Z3 := Lib.hid (Z2.out.drew.then_ s3)
  refine hK.out _ _ (K.out _ Z3.out) ?_
  clear s3
  clear hK K'
  repeat (first | (refine wpPlan.taken (by rfl) (fun w' hS' => run_load_op rfl rfl hS') ?_; simp only [Act.put, List.setIfInBounds_toArray, List.set_cons_zero, List.set_cons_succ]) | (refine wpPlan.taken (by rfl) (by intro w' hS'; (try dsimp only at hS'); go_split_ands; go_simp; try with_reducible rfl) ?_; simp only [Act.put, List.setIfInBounds_toArray, List.set_cons_zero, List.set_cons_succ]))
  refine wpPlan.runs fun K' hK => ?_
  go_simp
  refine (H2.out _).mono ?_
  rintro e w4 ⟨rfl, s4⟩
  have Z4 := Lib.hid (Z3.out.then_ s4)
  refine hK.out _ _ (K.out _ Z4.out) ?_
  clear s4
  clear hK K'
  repeat (first | (refine wpPlan.taken (by rfl) (fun w' hS' => run_load_op rfl rfl hS') ?_; simp only [Act.put, List.setIfInBounds_toArray, List.set_cons_zero, List.set_cons_succ]) | (refine wpPlan.taken (by rfl) (by intro w' hS'; (try dsimp only at hS'); go_split_ands; go_simp; try with_reducible rfl) ?_; simp only [Act.put, List.setIfInBounds_toArray, List.set_cons_zero, List.set_cons_succ]))
  refine wpPlan.runs fun K' hK => ?_
  go_simp
  refine (W1.out _).mono ?_
  rintro e w5 ⟨rfl, s5⟩
  have Z5 := Lib.hid (Z4.out.then_ s5)
  refine hK.out _ _ (K.out _ Z5.out) ?_
  clear s5
  clear hK K'
  repeat (first | (refine wpPlan.taken (by rfl) (fun w' hS' => run_load_op rfl rfl hS') ?_; simp only [Act.put, List.setIfInBounds_toArray, List.set_cons_zero, List.set_cons_succ]) | (refine wpPlan.taken (by rfl) (by intro w' hS'; (try dsimp only at hS'); go_split_ands; go_simp; try with_reducible rfl) ?_; simp only [Act.put, List.setIfInBounds_toArray, List.set_cons_zero, List.set_cons_succ]))
  refine wpPlan.runs fun K' hK => ?_
  go_simp
  refine (W2.out _).mono ?_
  rintro e w6 ⟨rfl, rfl⟩
  refine hK.out _ _ (K.out _ Z5.out) ?_
  clear hK K'
  repeat (first | (refine wpPlan.taken (by rfl) (fun w' hS' => run_load_op rfl rfl hS') ?_; simp only [Act.put, List.setIfInBounds_toArray, List.set_cons_zero, List.set_cons_succ]) | (refine wpPlan.taken (by rfl) (by intro w' hS'; (try dsimp only at hS'); go_split_ands; go_simp; try with_reducible rfl) ?_; simp only [Act.put, List.setIfInBounds_toArray, List.set_cons_zero, List.set_cons_succ]))
  refine wpPlan.done ?_
  go_wp2_with fail
  go_ret
  exact ⟨rfl, (S1.out.then_ Z5.out).toBelow⟩

/-- Members that are handed in. -/
theorem arg_members {w : World} {v : Value} (h : Arg w (.slice 1 8 (.int .i64)) v) : (∃ ao cap, v = .slice ao 0 cap) ∨ ∃ b off cap m l, v = .slice (some ⟨b, off, none⟩) (List.length l + 1) cap ∧ l.length + 1 ≤ 140737488351232 ∧ b < w.heap.size ∧ ∀ j x, (m :: l)[j]? = some x → w.cell? ⟨b, off + j, none⟩ = some (.int .i64 x) := by
  obtain ⟨ao, bs, cap, rfl, h1, h2, hw, h3⟩ := (h.one rfl).ints
  cases bs with
  | nil => exact .inl ⟨ao, cap, rfl⟩
  | cons m l =>
    right
    rcases h3 with ⟨rfl, rfl⟩ | ⟨a, rfl, h4, h5⟩
    · simp at h1
    · have hc := h5 0 (.int .i64 m) rfl
      obtain ⟨b, off, spot⟩ := a
      have hsp : spot = none := by
        have := World.cell?_spot hc
        simpa [Addr.add] using this
      subst hsp
      refine ⟨b, off, cap, m, l, rfl, by simp at h1; omega, ?_, fun j y hj => ?_⟩
      · have := World.block_lt_of_cell? _ _ hc
        rw [add_plain] at this
        exact this
      · have := h5 j (.int .i64 y) (by rw [List.getElem?_map, hj]; rfl)
        rwa [add_plain] at this

set_option maxHeartbeats 2000000 in
theorem pickChooses_walk (v0 v1 : Value) (w : World) (h0 : Arg w (.slice 1 8 (.int .i64)) v0) (h1 : Arg w (.int .u32) v1) :
    Calls Try.prog 4 #[v0, v1] w fun e w' => e = .returned (.bool true) ∧ Below w.heap.size w w' := by
  obtain ⟨h, rfl, hw⟩ := h1.int
  have hh := wf_u32 hw
  rcases arg_members h0 with ⟨ao, cap, rfl⟩ | ⟨b, off, cap, m, l, rfl, hmax, hb, hc⟩
  · clear h0 h1 hw hh
    go_enter Try.func4, Try.ntmps4
    go_wp2_with fail
    refine (awake_any _).mono ?_
    rintro e w2 ⟨rfl, s2⟩
    have Z2 := Lib.hid s2
    clear s2
    go_wp2_with fail
    refine (choose_nil _ _ _ _).mono ?_
    rintro e w3 ⟨rfl, s3⟩
    have Z3 := Lib.hid (Z2.out.then_ s3)
    clear s3
    go_wp2_with fail
    refine (rchoose_nil _ _ _ _).mono ?_
    rintro e w4 ⟨rfl, s4⟩
    have Z4 := Lib.hid (Z3.out.then_ s4)
    clear s4
    go_wp2_with fail
    go_ret
    exact ⟨rfl, Z4.out.toBelow⟩
  · have HH := Lib.hid hh
    have HC := Lib.hid hc
    have HB := Lib.hid hb
    have q1 : ((l.length : Int) + 1 ≤ 9223372036854775807) := by omega
    have hst : Hid (∀ w', Step None w w' → b < w'.heap.size ∧ ∀ j x, (m :: l)[j]? = some x → w'.cell? ⟨b, off + j, none⟩ = some (.int .i64 x)) := Lib.hid fun w' h' =>
      ⟨Nat.lt_of_lt_of_le hb h'.size, fun j x hj => by rw [h'.cell (p := ⟨b, off + j, none⟩) hb (fun s => s.elim)]; exact hc j x hj⟩
    clear h0 h1 hw hh hc hb
    go_enter Try.func4, Try.ntmps4
    go_wp2_with fail
    refine (awake_any _).mono ?_
    rintro e w2 ⟨rfl, s2⟩
    have Z2 := Lib.hid s2
    clear s2
    cases hg : decide ((500 : Int) < (l.length : Int) + 1)
    rotate_left
    · go_wp2_with fail
      go_ret
      exact ⟨rfl, Z2.out.toBelow⟩
    have hl : l.length ≤ 2000 := by simp at hg; omega
    have hg2 : decide (500 < l.length + 1) = false := by simp at hg; simp; omega
    go_wp2_with fail
    refine (choose_any m l h b off cap _ HH.out hl (hst.out _ Z2.out).1 (hst.out _ Z2.out).2).mono ?_
    rintro e w3 ⟨rfl, s3⟩
    have Z3 := Lib.hid (Z2.out.then_ s3)
    clear s3
    go_wp2_with fail
    refine (rchoose_any m l h b off cap _ HH.out hl (hst.out _ Z3.out).2).mono ?_
    rintro e w4 ⟨rfl, s4⟩
    have Z4 := Lib.hid (Z3.out.then_ s4)
    clear s4
    go_wp2_with fail
    go_ret
    exact ⟨by simp, Z4.out.toBelow⟩

end Go.Proofs.Ytbdlcmfmnjhklaa
