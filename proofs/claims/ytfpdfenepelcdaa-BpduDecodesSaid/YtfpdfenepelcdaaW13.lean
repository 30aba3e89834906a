/- BpduEncodes, BpduRight, BpduLong, walked. -/
import Derived.Test.YtfpdfenepelcdaaW12
namespace Go.Proofs.Ytfpdfenepelcdaa
open Go.RowKit Go.Gm

def Bpd.small (x : Bpd) : Prop := Small x.root.mac ∧ Small x.bridge.mac
theorem arg_bpd {w : World} {v : Value} (h : Arg w (.cat 1 (.int .i64) (.cat 1 (.int .i64) (.cat 7 (.cat 1 (.int .i64) (.cat 6 (.arr 6 1 (.int .u8)) .nil)) (.cat 1 (.int .i64) (.cat 7 (.cat 1 (.int .i64) (.cat 6 (.arr 6 1 (.int .u8)) .nil)) (.cat 1 (.int .i64) (.cat 1 (.int .i64) (.cat 1 (.int .i64) (.cat 1 (.int .i64) (.cat 1 (.int .i64) .nil)))))))))) v) : ∃ x : Bpd, v = .agg x.cells ∧ x.small := by
  obtain ⟨⟨l⟩, rfl, hf⟩ := h.agg rfl
  obtain ⟨k, _, e0, -, h1⟩ := hf.intc
  obtain ⟨f, _, rfl, -, h2⟩ := h1.intc
  obtain ⟨_, _, rfl, hr, h3⟩ := h2.aggc
  obtain ⟨r, rfl, fr⟩ := fits_id hr
  obtain ⟨c, _, rfl, -, h4⟩ := h3.intc
  obtain ⟨_, _, rfl, hb, h5⟩ := h4.aggc
  obtain ⟨b, rfl, fb⟩ := fits_id hb
  obtain ⟨p, _, rfl, -, h6⟩ := h5.intc
  obtain ⟨a, _, rfl, -, h7⟩ := h6.intc
  obtain ⟨m, _, rfl, -, h8⟩ := h7.intc
  obtain ⟨o, _, rfl, -, h9⟩ := h8.intc
  obtain ⟨g, _, rfl, -, h10⟩ := h9.intc
  obtain rfl := h10.nilc
  refine ⟨⟨k, f, r, c, b, p, a, m, o, g⟩, ?_, fr, fb⟩
  have e1 : l = _ := e0
  rw [e1]
  rfl

theorem run_load_op {P : Program} {ty : TypeId} {x : Operand} {a : Act} {o : Oper} {w : World} {y v : Value} (ho : o.op = .load ty x) (hx : a.eval x = y) (hl : (Instr.loadAt ty y).run P w = .ok v w) : (execOp a.eval o).run P w = .ok (.value v) w := by
  unfold execOp
  simp only [ho, hx, Sem.run_bind, hl, Result.andThen_ok, Sem.run_pure]
theorem load_bpd {w : World} {g : Nat} {x : Bpd} {t : TypeId} {fr : Nat × Nat} (h : w.heap[g]? = some (.cells x.cells t fr)) : (Instr.loadAt 27 (.pointer (some ⟨g, 0, none⟩))).run Try.prog w = .ok (.agg x.cells) w := by
  have := run_loadAt_mid (P := Try.prog) w g 0 27 x.cells.toList _ (fun j u hj => by rw [blk_cell h]; simpa using hj) Try.underlying27 rfl (by kernel_rfl)
  simpa using this

set_option maxHeartbeats 8000000 in
theorem bpduEncodes_walk (v0 : Value) (w : World) (h0 : Arg w (.cat 1 (.int .i64) (.cat 1 (.int .i64) (.cat 7 (.cat 1 (.int .i64) (.cat 6 (.arr 6 1 (.int .u8)) .nil)) (.cat 1 (.int .i64) (.cat 7 (.cat 1 (.int .i64) (.cat 6 (.arr 6 1 (.int .u8)) .nil)) (.cat 1 (.int .i64) (.cat 1 (.int .i64) (.cat 1 (.int .i64) (.cat 1 (.int .i64) (.cat 1 (.int .i64) .nil)))))))))) v0) :
    Calls Try.prog 3 #[v0] w fun e w' => e = .returned (.bool true) ∧ Below w.heap.size w w' := by
  obtain ⟨x, rfl, -⟩ := arg_bpd h0
  clear h0
  have p1 := heap_alloc_new w (.cells x.cells 27)
  have s1 := (Step.refl None w).alloc (.cells x.cells 27)
  obtain ⟨W, hW⟩ : ∃ W, w.alloc (.cells x.cells 27) = W := ⟨_, rfl⟩
  rw [hW] at p1 s1
  have HE := Lib.hid hW
  have P1 := Lib.hid p1
  have S1 := Lib.hid s1
  clear hW p1 s1
  have C := Lib.hid (encode_all x)
  have D := Lib.hid (rencode_all x)
  have E := Lib.hid (right_any x)
  have F := Lib.hid (rright_any x)
  generalize code x = c at *
  generalize okB x = r at *
  go_enter Try.func3, Try.ntmps3
  go_wp2_with (rw [HE.out])
  refine (awake_any _).mono ?_
  rintro e w2 ⟨rfl, s2⟩
  have K : Hid (∀ w', Step None w2 w' → (Instr.loadAt 27 (.pointer (some ⟨w.heap.size, 0, none⟩))).run Try.prog w' = .ok (.agg x.cells) w') := Lib.hid fun w' h' => load_bpd ((s2.then_ h').blk P1.out (fun s => s.elim))
  have S2 := Lib.hid (S1.out.then_ s2)
  clear s2 P1 S1 HE
  have k2 := K.out w2 (Step.refl _ _)
  go_wp2_with (refine wpList_load_if 27 (.tmp 1) rfl rfl rfl k2 ?_)
  refine (C.out _).mono ?_
  rintro e w3 ⟨u1, rfl, b1, s3⟩
  have k3 := K.out w3 s3
  have B1 := Lib.hid b1
  have S3 := Lib.hid s3
  clear b1 s3 k2
  go_wp2_with (refine wpList_load_if 27 (.tmp 1) rfl rfl rfl k3 ?_)
  refine (D.out _).mono ?_
  rintro e w4 ⟨u2, rfl, b2, s4⟩
  have K4 : Hid (∀ w', Step None w4 w' → (convert 29 9 u1).run Try.prog w' = .ok (.string (strOfNums (encA x))) w' ∧ (convert 29 9 u2).run Try.prog w' = .ok (.string (strOfNums (encA x))) w' ∧ (Instr.loadAt 27 (.pointer (some ⟨w.heap.size, 0, none⟩))).run Try.prog w' = .ok (.agg x.cells) w') :=
    Lib.hid fun w' h' => ⟨text_of (B1.out.still (s4.then_ h')), text_of (b2.still h'), K.out w' ((S3.out.then_ s4).then_ h')⟩
  have S4 := Lib.hid (S3.out.then_ s4)
  clear b2 s4 k3 B1
  generalize strOfNums (encA x) = T at *
  go_wp2_with fail
  refine wp_region_plan (fun w' => (convert 29 9 u1).run Try.prog w' = .ok (.string T) w' ∧ (convert 29 9 u2).run Try.prog w' = .ok (.string T) w' ∧ (Instr.loadAt 27 (.pointer (some ⟨w.heap.size, 0, none⟩))).run Try.prog w' = .ok (.agg x.cells) w') (.take 0 (.take 1 (.take 2 (.take 3 (.take 4 (.take 5 (.take 6 (.take 7 (.take 8 (.take 9 (.take 10 (.take 11 (.take 12 (.take 13 (.take 14 (.take 16 (.alt 15 (.alt 17 (.take 18 (.take 19 (.take 20 .done))) .none) .none))))))))))))))))) _
    (by simp only [Plan.map, opOf, List.getElem?_toArray, List.getElem?_cons_zero, List.getElem?_cons_succ, Option.getD_some]; rfl) (by kernel_rfl) (by kernel_rfl) (by kernel_rfl) (by decide) (by intro c a d v w; cases d <;> exact fun h => h) (K4.out _ (Step.refl None w4).drew) ?_
  repeat (first | (refine wpPlan.taken (by rfl) (fun w' hS' => run_load_op rfl rfl hS'.2.2) ?_; simp only [Act.put, List.setIfInBounds_toArray, List.set_cons_zero, List.set_cons_succ]) | (refine wpPlan.taken (by rfl) (by intro w' hS'; (try dsimp only at hS'); go_split_ands; go_simp; try with_reducible rfl) ?_; simp only [Act.put, List.setIfInBounds_toArray, List.set_cons_zero, List.set_cons_succ]) | (refine wpPlan.passed (by rfl) ?_; simp only [Act.put, List.setIfInBounds_toArray, List.set_cons_zero, List.set_cons_succ]))
  refine wpPlan.runs fun K' hK => ?_
  go_simp
  refine (E.out _).mono ?_
  rintro e w5 ⟨rfl, s5⟩
  refine hK.out _ _ (K4.out _ ((Step.refl None w4).drew.then_ s5)) ?_
  clear hK K'
  refine wpPlan.runs fun K' hK => ?_
  go_simp
  refine (F.out _).mono ?_
  rintro e w6 ⟨rfl, s6⟩
  refine hK.out _ _ (K4.out _ (((Step.refl None w4).drew.then_ s5).then_ s6)) ?_
  clear hK K'
  have Z := Lib.hid ((S2.out.then_ S4.out).then_ (((Step.refl None w4).drew.then_ s5).then_ s6)).toBelow
  clear s5 s6
  repeat (first | (refine wpPlan.taken (by rfl) (fun w' hS' => run_load_op rfl rfl hS'.2.2) ?_; simp only [Act.put, List.setIfInBounds_toArray, List.set_cons_zero, List.set_cons_succ]) | (refine wpPlan.taken (by rfl) (by intro w' hS'; (try dsimp only at hS'); go_split_ands; go_simp; try with_reducible rfl) ?_; simp only [Act.put, List.setIfInBounds_toArray, List.set_cons_zero, List.set_cons_succ]) | (refine wpPlan.passed (by rfl) ?_; simp only [Act.put, List.setIfInBounds_toArray, List.set_cons_zero, List.set_cons_succ]))
  refine wpPlan.done ?_
  go_wp2_with fail
  go_ret
  exact ⟨rfl, Z.out⟩
end Go.Proofs.Ytfpdfenepelcdaa
