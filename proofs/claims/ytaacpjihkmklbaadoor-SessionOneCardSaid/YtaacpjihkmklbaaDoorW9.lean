/- SessionScripts, walked. -/
import Derived.Test.YtaacpjihkmklbaaDoorW8
namespace Go.Proofs.YtaacpjihkmklbaaDoor
open Go.RowKit Go.Gm

theorem field_ack (n : Note) (ep sq ak : Int) (bv : Value) (w : World) : (Instr.field 36 (.agg (Note.packet n ep sq ak bv)) 2).run Tryd.prog w = .ok (.int .i64 ak) w := by kernel_rfl
theorem run_field_op {P : Program} {ev : Operand → Value} {o : Oper} {t : TypeId} {x : Operand} {i : Nat} {y v : Value} {w : World} (ho : o.op = .field t x i) (hx : ev x = y) (hl : (Instr.field t y i).run P w = .ok v w) : (execOp ev o).run P w = .ok (.value v) w := by
  unfold execOp
  simp only [ho, hx, Sem.run_bind, hl, Result.andThen_ok, Sem.run_pure]

/-- The steps that are handed in. -/
def StepsAt (w : World) (ao : Option Addr) (len : Nat) : Prop :=
  ∀ i, i < len → ∃ b off n bo bc d now ep sq ak, ao = some ⟨b, off, none⟩ ∧ (∀ j u, (stepC n d now ep sq ak (.slice bo n.body.length bc))[j]? = some u → w.cell? ⟨b, off + i * 16 + j, none⟩ = some u) ∧ Bytes w (.slice bo n.body.length bc) n.body ∧ n.body.length ≤ 140737488351232
theorem steps_arg {w : World} {v : Value} (h : Arg w (.slice 16 104 (.cat 1 (.int .i64) (.cat 1 (.int .i64) (.cat 14 (.cat 1 (.int .i64) (.cat 1 (.int .i64) (.cat 1 (.int .i64) (.cat 11 (.cat 1 (.int .i64) (.cat 1 (.int .i64) (.cat 6 (.arr 6 1 (.int .u8)) (.cat 1 (.int .i64) (.cat 1 (.int .i64) (.cat 1 (.slice 1 1 (.int .u8)) .nil)))))) .nil)))) .nil)))) v) : ∃ ao len cap, v = .slice ao len cap ∧ len ≤ cap ∧ (len : Int) ≤ 9223372036854775807 ∧ StepsAt w ao len := by
  obtain ⟨ao, len, cap, rfl, h1, h2, h3, h4⟩ := (h.one rfl).elems (by decide)
  refine ⟨ao, len, cap, rfl, h1, by omega, fun i hi => ?_⟩
  obtain ⟨b, off, cs, rfl, hl, hc, hf⟩ := h4 i hi
  obtain ⟨d, _, rfl, -, k1⟩ := hf.intc
  obtain ⟨now, _, rfl, -, k2⟩ := k1.intc
  obtain ⟨_, _, rfl, hp, k3⟩ := k2.aggc
  obtain rfl := k3.nilc
  obtain ⟨ep, _, rfl, -, m1⟩ := hp.intc
  obtain ⟨sq, _, rfl, -, m2⟩ := m1.intc
  obtain ⟨ak, _, rfl, -, m3⟩ := m2.intc
  obtain ⟨_, _, rfl, hn, m4⟩ := m3.aggc
  obtain rfl := m4.nilc
  obtain ⟨n, bo, bc, rfl, hb, -, -, hlen⟩ := fits_note hn
  refine ⟨b, off, n, bo, bc, d, now, ep, sq, ak, rfl, fun j u hj => ?_, hb, hlen⟩
  have hjl : j < 16 := by
    have := (Array.getElem?_eq_some_iff.1 hj).1
    simpa [stepC] using this
  rw [hc j hjl, ← hj]
  simp [stepC, Note.cells]
theorem load_step {w : World} {b k : Nat} {cs : Array Value} (hs : cs.size = 16) (h : ∀ j u, cs[j]? = some u → w.cell? ⟨b, k + j, none⟩ = some u) : (Instr.loadAt 55 (.pointer (some ⟨b, k, none⟩))).run Tryd.prog w = .ok (.agg cs) w := by
  have := run_loadAt_mid (P := Tryd.prog) w b k 55 cs.toList _ (fun j u hj => h j u (by simpa using hj)) Tryd.underlying55 rfl (by rw [Array.length_toList, hs]; kernel_rfl)
  simpa using this
theorem arr3_int {w : World} {v : Value} (h : Arg w (.arr 3 1 (.int .i64)) v) : ∃ a b c, v = .agg #[.int .i64 a, .int .i64 b, .int .i64 c] := by
  obtain ⟨cs, rfl, hl, hf⟩ := h.agg rfl
  obtain ⟨a, ha, -⟩ := hf 0 (by decide)
  obtain ⟨b, hb, -⟩ := hf 1 (by decide)
  obtain ⟨c, hc, -⟩ := hf 2 (by decide)
  refine ⟨a, b, c, ?_⟩
  obtain ⟨l⟩ := cs
  match l, hl with
  | [x, y, z], _ =>
    simp at ha hb hc
    rw [ha, hb, hc]

set_option maxRecDepth 10000 in
set_option maxHeartbeats 16000000 in
theorem sessionScripts_walk (v0 v1 : Value) (w : World) (hT : HasAt 0 w) (h0 : Arg w (.arr 3 1 (.int .i64)) v0) (h1 : Arg w (.slice 16 104 (.cat 1 (.int .i64) (.cat 1 (.int .i64) (.cat 14 (.cat 1 (.int .i64) (.cat 1 (.int .i64) (.cat 1 (.int .i64) (.cat 11 (.cat 1 (.int .i64) (.cat 1 (.int .i64) (.cat 6 (.arr 6 1 (.int .u8)) (.cat 1 (.int .i64) (.cat 1 (.int .i64) (.cat 1 (.slice 1 1 (.int .u8)) .nil)))))) .nil)))) .nil)))) v1) :
    Calls Tryd.prog 6 #[v0, v1] w fun e w' => e = .returned (.bool true) ∧ Below w.heap.size w w' := by
  obtain ⟨a, b, c, rfl⟩ := arr3_int h0
  obtain ⟨ao, len, cap, rfl, hcap, hlen, hsteps⟩ := steps_arg h1
  clear h0 h1
  have HST := Lib.hid hsteps
  have p1 := heap_alloc_new w (.cells #[.int .i64 a, .int .i64 b, .int .i64 c] 47)
  have s1 := (Step.refl None w).alloc (.cells #[.int .i64 a, .int .i64 b, .int .i64 c] 47)
  obtain ⟨W, hW⟩ : ∃ W, w.alloc (.cells #[.int .i64 a, .int .i64 b, .int .i64 c] 47) = W := ⟨_, rfl⟩
  rw [hW] at p1 s1
  have HE := Lib.hid hW
  have P1 := Lib.hid p1
  have S1 := Lib.hid s1
  have T1 := Lib.hid (hT.still s1)
  clear hW p1 s1 hsteps hT
  by_cases hok : newOk a b c
  rotate_left
  · have N := Lib.hid (fun w => new_bad a b c w hok)
    have R := Lib.hid (fun w => rnew_bad a b c w hok)
    clear hok
    go_enter Tryd.func6, Tryd.ntmps6
    go_wp2_with (rw [HE.out])
    refine (awake_any W T1.out).mono ?_
    rintro e w2 ⟨rfl, s2⟩
    have k := blk_cell (s2.blk P1.out (fun s => s.elim))
    have k0 := k 0
    have k1 := k 1
    have k2 := k 2
    simp only [List.getElem?_toArray, List.getElem?_cons_zero, List.getElem?_cons_succ] at k0 k1 k2
    have S2 := Lib.hid (S1.out.then_ s2)
    clear s2 k
    go_wp2_with fail
    refine (N.out _).mono ?_
    rintro e w3 ⟨rfl, rfl⟩
    go_wp2_with fail
    refine (R.out _).mono ?_
    rintro e w3 ⟨rfl, rfl⟩
    go_wp2_with fail
    go_loopw [10] (fun t wr => t = .int .i64 0 ∧ wr = w2) (fun _ _ => 0)
    case atStart => exact ⟨rfl, rfl⟩
    case round =>
      obtain ⟨rfl, rfl⟩ := hrel
      go_wp2_with fail
      all_goals go_ret
      all_goals exact ⟨rfl, S2.out.toBelow⟩
  · have N := Lib.hid (fun w => new_ok a b c w hok)
    have R := Lib.hid (fun w => rnew_ok a b c w hok)
    have OK := Lib.hid (ses0_ok hok)
    clear hok
    go_enter Tryd.func6, Tryd.ntmps6
    go_wp2_with (rw [HE.out])
    refine (awake_any W T1.out).mono ?_
    rintro e w2 ⟨rfl, s2⟩
    have P2 := Lib.hid (s2.blk P1.out (fun s => s.elim))
    have k := blk_cell P2.out
    have k0 := k 0
    have k1 := k 1
    have k2 := k 2
    simp only [List.getElem?_toArray, List.getElem?_cons_zero, List.getElem?_cons_succ] at k0 k1 k2
    have T2 := Lib.hid (T1.out.still s2)
    have S2 := Lib.hid (S1.out.then_ s2)
    clear s2 k P1 S1 HE
    go_wp2_with fail
    refine (N.out _).mono ?_
    rintro e w3 ⟨rfl, a3, s3⟩
    have k := blk_cell (s3.blk P2.out (fun s => s.elim))
    have k0 := k 0
    have k1 := k 1
    have k2 := k 2
    simp only [List.getElem?_toArray, List.getElem?_cons_zero, List.getElem?_cons_succ] at k0 k1 k2
    have A3 := Lib.hid a3
    have T3 := Lib.hid (T2.out.still s3)
    have S3 := Lib.hid (S2.out.then_ s3)
    clear a3 s3 k
    go_wp2_with fail
    refine (R.out _).mono ?_
    rintro e w4 ⟨rfl, b4, s4⟩
    have BO : Hid (Both w w4 w2.heap.size w3.heap.size (ses0 a b c)) := Lib.hid ⟨⟨0, s4.blk A3.out (fun s => s.elim)⟩, b4, by have := blk_lt A3.out; omega, (S3.out.then_ s4).none, OK.out, T3.out.still s4⟩
    have GG : Hid (w.heap.size ≤ w2.heap.size ∧ w.heap.size ≤ w3.heap.size) := Lib.hid ⟨S2.out.size, S3.out.size⟩
    clear b4 s4 A3 S3 N R P2 S2 OK T1 T2 T3 k0 k1 k2
    generalize w2.heap.size = g at *
    generalize w3.heap.size = r at *
    go_wp2_with fail
    go_loopw [10] (fun t wr => ∃ i : Nat, i ≤ len ∧ t = .int .i64 i ∧ ∃ s, Hid (Both w wr g r s)) (fun t _ => len - (intOf t).toNat)
    case atStart => exact ⟨0, by omega, rfl, _, BO⟩
    case round =>
      obtain ⟨i, hi, rfl, s, hB⟩ := hrel
      rename_i wr
      clear BO
      have BL : Hid (∀ w', Step None wr w' → Step None w w') := Lib.hid fun w' h' => (hB.out.st.mono (T := Go.Gm.None) (fun k hk e => by have := GG.out; omega)).then_ h'
      cases d1 : decide ((i : Int) < (len : Int))
      · have d1' : decide (i < len) = false := by simpa using d1
        go_wp2_with fail
        go_ret
        exact ⟨rfl, (BL.out _ (Step.refl _ _)).toBelow⟩
      · have hlt : i < len := by simpa using d1
        have d1' : decide (i < len) = true := by simpa using d1
        cases d2 : decide ((i : Int) < 150)
        · go_wp2_with fail
          go_ret
          exact ⟨rfl, (BL.out _ (Step.refl _ _)).toBelow⟩
        · obtain ⟨b0, off, n, bo, bc, d, now, ep, sq, ak, rfl, hcells, hby, hbl⟩ := HST.out i hlt
          have c0i : (0 : Int) ≤ (i : Int) := by omega
          have c1i : (i : Int) < (len : Int) := by omega
          have kb := (BL.out _ (Step.refl _ _)).cell (p := ⟨b0, off + i * 16 + 15, none⟩) (World.block_lt_of_cell? _ _ (hcells 15 (.slice bo n.body.length bc) rfl)) (fun s => s.elim)
          rw [hcells 15 (.slice bo n.body.length bc) rfl] at kb
          cases d3 : decide ((2000 : Int) < (n.body.length : Int))
          rotate_left
          · have d3' : decide (2000 < n.body.length) = true := by simp at d3 ⊢; omega
            go_wp2_with fail
            go_ret
            exact ⟨rfl, (BL.out _ (Step.refl _ _)).toBelow⟩
          have d3' : decide (2000 < n.body.length) = false := by simp at d3 ⊢; omega
          have hb2 : n.body.length ≤ 10000 := by simp at d3; omega
          have ls : Hid ((Instr.loadAt 55 (.pointer (some ⟨b0, off + i * 16, none⟩))).run Tryd.prog wr = .ok (.agg (stepC n d now ep sq ak (.slice bo n.body.length bc))) wr) := Lib.hid (load_step rfl (fun j u hj => by
            have hx := hcells j u hj
            rw [(BL.out _ (Step.refl _ _)).cell (p := ⟨b0, off + i * 16 + j, none⟩) (World.block_lt_of_cell? _ _ hx) (fun s => s.elim)]
            exact hx))
          have SA := Lib.hid (step_any s g r n bo bc d now ep sq ak w wr hB.out (hby.step (BL.out _ (Step.refl _ _)) (fun _ _ s => s.elim)) (fun w' h' => hby.step ((hB.out.st.then_ (h'.mono (T := fun k => k = g ∨ k = r) fun k _ e => .inl e)).mono (T := Go.Gm.None) (fun k hk e => by have := GG.out; omega)) (fun _ _ s => s.elim)) hb2)
          clear hcells hby
          go_wp2_with (refine wpList_load_if 55 (.tmp 74) rfl rfl rfl ls.out ?_)
          refine SA.out.mono ?_
          rintro e w5 ⟨rfl, h5⟩
          have B5 := Lib.hid h5
          clear h5 SA ls hB
          obtain ⟨t, ht⟩ : ∃ t, stepS s n d now ep sq ak = t := ⟨_, rfl⟩
          rw [ht] at B5
          clear ht
          obtain ⟨op5, g5⟩ := B5.out.one
          have G5 := Lib.hid g5
          clear g5
          have K : Hid (∀ w', Step None w5 w' → w'.cell? ⟨r, 4, none⟩ = some (.bool t.up) ∧ w'.cell? ⟨r, 2, none⟩ = some (.int .i64 t.life) ∧ w'.cell? ⟨r, 5, none⟩ = some (.int .i64 t.role) ∧ w'.cell? ⟨r, 3, none⟩ = some (.int .i64 t.known)) := Lib.hid fun w' h' =>
            have k := RC.of (h'.blk B5.out.two (fun s => s.elim))
            ⟨k.c4, k.c2, k.c5, k.c3⟩
          have GK : Hid (∀ w', Step None w5 w' → w'.heap[g]? = some (.cells (t.cells op5) 63 (0, 0)) ∧ w'.heap[r]? = some (.cells t.rcells 58 (0, 0))) := Lib.hid fun w' h' => ⟨h'.blk G5.out (fun s => s.elim), h'.blk B5.out.two (fun s => s.elim)⟩
          go_wp2_with fail
          refine wp_region_plan (fun w' => w'.cell? ⟨r, 4, none⟩ = some (.bool t.up) ∧ w'.cell? ⟨r, 2, none⟩ = some (.int .i64 t.life) ∧ w'.cell? ⟨r, 5, none⟩ = some (.int .i64 t.role) ∧ w'.cell? ⟨r, 3, none⟩ = some (.int .i64 t.known)) (.take 0 (.take 1 (.take 2 (.take 3 (.take 5 (.take 6 (.take 7 (.take 8 (.alt 4 (.take 9 (.take 10 (.take 11 (.take 12 (.take 14 (.alt 13 (.alt 15 (.take 16 (.take 17 (.take 18 (.take 19 (.take 21 (.take 22 (.take 23 (.take 24 (.alt 20 (.take 25 (.take 26 (.take 27 (.take 28 (.take 30 (.take 31 (.take 32 (.take 33 (.alt 29 (.take 34 (.take 35 (.take 36 (.take 37 (.take 40 (.take 41 (.take 42 (.take 43 (.alt 38 (.take 39 (.take 44 (.take 45 .done))) .none))))))))) .none))))))))) .none))))))))) .none) .none)))))) .none))))))))) _
            (by simp only [Plan.map, opOf, List.getElem?_toArray, List.getElem?_cons_zero, List.getElem?_cons_succ, Option.getD_some]; rfl) (by kernel_rfl) (by kernel_rfl) (by kernel_rfl) (by decide) (by intro c a d v w; cases d <;> exact fun h => h) (K.out _ (Step.refl None w5).drew) ?_
          repeat (first | (refine wpPlan.taken (by rfl) (by intro w' hS'; (try dsimp only at hS'); go_split_ands; go_simp; try with_reducible rfl) ?_; simp only [Act.put, List.setIfInBounds_toArray, List.set_cons_zero, List.set_cons_succ]) | (refine wpPlan.passed (by rfl) ?_; simp only [Act.put, List.setIfInBounds_toArray, List.set_cons_zero, List.set_cons_succ]))
          refine wpPlan.runs fun K' hK => ?_
          go_simp
          refine (up_any g t op5 _ (GK.out _ (Step.refl None w5).drew).1).mono ?_
          rintro e w6 ⟨rfl, rfl⟩
          refine hK.out _ _ (K.out _ (Step.refl None w5).drew) ?_
          clear hK K'
          repeat (first | (refine wpPlan.taken (by rfl) (by intro w' hS'; (try dsimp only at hS'); go_split_ands; go_simp; try with_reducible rfl) ?_; simp only [Act.put, List.setIfInBounds_toArray, List.set_cons_zero, List.set_cons_succ]) | (refine wpPlan.passed (by rfl) ?_; simp only [Act.put, List.setIfInBounds_toArray, List.set_cons_zero, List.set_cons_succ]))
          refine wpPlan.runs fun K' hK => ?_
          go_simp
          refine (epoch_any g t op5 _ B5.out.ok (GK.out _ (Step.refl None w5).drew).1).mono ?_
          rintro e w6 ⟨rfl, s6⟩
          refine hK.out _ _ (K.out _ ((Step.refl None w5).drew.then_ s6)) ?_
          clear hK K'
          repeat (first | (refine wpPlan.taken (by rfl) (by intro w' hS'; (try dsimp only at hS'); go_split_ands; go_simp; try with_reducible rfl) ?_; simp only [Act.put, List.setIfInBounds_toArray, List.set_cons_zero, List.set_cons_succ]) | (refine wpPlan.passed (by rfl) ?_; simp only [Act.put, List.setIfInBounds_toArray, List.set_cons_zero, List.set_cons_succ]))
          refine wpPlan.runs fun K' hK => ?_
          go_simp
          refine (repoch_any r t _ B5.out.ok (GK.out _ ((Step.refl None w5).drew.then_ s6)).2).mono ?_
          rintro e w7 ⟨rfl, s7⟩
          refine hK.out _ _ (K.out _ (((Step.refl None w5).drew.then_ s6).then_ s7)) ?_
          clear hK K'
          repeat (first | (refine wpPlan.taken (by rfl) (by intro w' hS'; (try dsimp only at hS'); go_split_ands; go_simp; try with_reducible rfl) ?_; simp only [Act.put, List.setIfInBounds_toArray, List.set_cons_zero, List.set_cons_succ]) | (refine wpPlan.passed (by rfl) ?_; simp only [Act.put, List.setIfInBounds_toArray, List.set_cons_zero, List.set_cons_succ]))
          refine wpPlan.runs fun K' hK => ?_
          go_simp
          refine (life_any g t op5 _ (GK.out _ (((Step.refl None w5).drew.then_ s6).then_ s7)).1).mono ?_
          rintro e w8 ⟨rfl, rfl⟩
          refine hK.out _ _ (K.out _ (((Step.refl None w5).drew.then_ s6).then_ s7)) ?_
          clear hK K'
          repeat (first | (refine wpPlan.taken (by rfl) (by intro w' hS'; (try dsimp only at hS'); go_split_ands; go_simp; try with_reducible rfl) ?_; simp only [Act.put, List.setIfInBounds_toArray, List.set_cons_zero, List.set_cons_succ]) | (refine wpPlan.passed (by rfl) ?_; simp only [Act.put, List.setIfInBounds_toArray, List.set_cons_zero, List.set_cons_succ]))
          refine wpPlan.runs fun K' hK => ?_
          go_simp
          refine (role_any g t op5 _ (GK.out _ (((Step.refl None w5).drew.then_ s6).then_ s7)).1).mono ?_
          rintro e w8 ⟨rfl, rfl⟩
          refine hK.out _ _ (K.out _ (((Step.refl None w5).drew.then_ s6).then_ s7)) ?_
          clear hK K'
          repeat (first | (refine wpPlan.taken (by rfl) (by intro w' hS'; (try dsimp only at hS'); go_split_ands; go_simp; try with_reducible rfl) ?_; simp only [Act.put, List.setIfInBounds_toArray, List.set_cons_zero, List.set_cons_succ]) | (refine wpPlan.passed (by rfl) ?_; simp only [Act.put, List.setIfInBounds_toArray, List.set_cons_zero, List.set_cons_succ]))
          refine wpPlan.runs fun K' hK => ?_
          go_simp
          refine (say_any g t op5 _ (GK.out _ (((Step.refl None w5).drew.then_ s6).then_ s7)).1).mono ?_
          rintro e w8 ⟨rfl, s8⟩
          refine hK.out _ _ (K.out _ ((((Step.refl None w5).drew.then_ s6).then_ s7).then_ s8)) ?_
          clear hK K'
          repeat (first | (refine wpPlan.taken (by rfl) (fun w' _ => run_field_op rfl rfl (field_ack _ _ _ _ _ w')) ?_; simp only [Act.put, List.setIfInBounds_toArray, List.set_cons_zero, List.set_cons_succ]) | (refine wpPlan.taken (by rfl) (by intro w' hS'; (try dsimp only at hS'); go_split_ands; go_simp; try with_reducible rfl) ?_; simp only [Act.put, List.setIfInBounds_toArray, List.set_cons_zero, List.set_cons_succ]) | (refine wpPlan.passed (by rfl) ?_; simp only [Act.put, List.setIfInBounds_toArray, List.set_cons_zero, List.set_cons_succ]))
          refine wpPlan.done ?_
          have B8 := Lib.hid (B5.out.still ((((Step.refl None w5).drew.then_ s6).then_ s7).then_ s8))
          clear s6 s7 s8 K GK G5 B5
          go_wp2_with fail
          go_roundw
          case rel => exact ⟨i + 1, by omega, by first | rfl | simp, t, B8⟩
          case measure => simp [intOf]; omega
end Go.Proofs.YtaacpjihkmklbaaDoor
