/- Send of the code. -/
import Derived.Test.YtgchepijbpcckaaDoorW4
namespace Go.Proofs.YtgchepijbpcckaaDoor
open Go.RowKit Go.Gm

theorem load_note {w : World} {g : Nat} {n : Note} {bv : Value} {t : TypeId} {fr : Nat × Nat} (h : w.heap[g]? = some (.cells (n.cells bv) t fr)) : (Instr.loadAt 36 (.pointer (some ⟨g, 0, none⟩))).run Tryd.prog w = .ok (.agg #[.int .i64 n.kind, .int .i64 n.vlan, .int .u8 n.m0, .int .u8 n.m1, .int .u8 n.m2, .int .u8 n.m3, .int .u8 n.m4, .int .u8 n.m5, .int .i64 n.port, .int .i64 n.state, bv]) w := by
  have := run_loadAt_mid (P := Tryd.prog) w g 0 36 (n.cells bv).toList _ (fun j u hj => by rw [blk_cell h, Nat.zero_add]; simpa using hj) Tryd.underlying36 rfl (by kernel_rfl)
  simpa [Note.cells] using this
theorem wpList_load_if {P : Program} {ops : Array Oper} {rest : List Oper} {Q : Exit → Act → World → Prop} {o : Oper} {a : Act} {w : World} (ty : TypeId) (x : Operand) (ho : o.op = .load ty x) (hw : Region.wanted o (yielded ops a.tmps) = true) {y v : Value} (hx : a.eval x = y)
    (hl : (Instr.loadAt ty y).run P w = .ok v w) (h : wpList P ops Q rest (a.put o.dst v) w) : wpList P ops Q (o :: rest) a w :=
  wpList_step fun K hK => by
    rw [if_pos hw]
    unfold Oper.wp execOp
    simp only [ho, hx, Sem.run_bind, hl, Result.andThen_ok, Sem.run_pure]
    exact hK _ _ h
theorem run_load_op {P : Program} {ev : Operand → Value} {o : Oper} {ty : TypeId} {x : Operand} {y v : Value} {w : World} (ho : o.op = .load ty x) (hx : ev x = y) (hl : (Instr.loadAt ty y).run P w = .ok v w) : (execOp ev o).run P w = .ok (.value v) w := by
  unfold execOp
  simp only [ho, hx, Sem.run_bind, hl, Result.andThen_ok, Sem.run_pure]
theorem clone_any (v : Value) (l : List Int) (w : World) (hb : Bytes w v l) (hl : l.length ≤ 100000) :
    Calls Tryd.prog 25 #[v] w fun e w' => ∃ u, e = .returned u ∧ Own5 w' u l ∧ Step None w w' ∧ ∀ k, Leads u k → w.heap.size ≤ k := by
  have hb' := hb
  rcases hb with ⟨rfl, rfl⟩ | ⟨a, cap, rfl, -, -⟩
  · refine (clone_nil w).mono ?_
    rintro e w' ⟨rfl, rfl⟩
    exact ⟨_, rfl, Own5.nil _, Step.refl _ _, fun k hk => by simp [Leads, Value.ownBlock] at hk⟩
  · exact clone_some a cap l w hb' hl
theorem zip_snoc {l : List Note} {bs : List Value} (h : bs.length = l.length) (n : Note) (b : Value) : (l ++ [n]).zip (bs ++ [b]) = l.zip bs ++ [(n, b)] := by
  rw [List.zip_append h.symm]; rfl
/-- A note more. -/
theorem Sm.more {T : TypeId} {w w1 w' : World} {g : Nat} {v v' b : Value} {s : Stm} {bs : List Value} {n : Note} (h : Sm T w g v s bs) (hT : T ≠ 36) (hT5 : T ≠ 5) (s1 : Step None w w1) (hb : Own5 w1 b n.body)
    {w2 : World} (s2 : Step (Leads v) w1 w2) (r : Row w2 36 11 v' (s.ws.length + 1) (flatN (s.ws.zip bs) ++ (n.cells b).toList)) (hl : ∀ k, Leads v' k → Leads v k ∨ w1.heap.size ≤ k)
    (st : Step (fun k => k = g) w2 w') (hst : w'.heap[g]? = some (.cells (({ s with ws := s.ws ++ [n] } : Stm).cells v') T (0, 0))) : Went T w w' g v { s with ws := s.ws ++ [n] } := by
  have H1 := h.still s1
  have s3 : Step (Of g v) w1 w' := (s2.mono fun _ _ e => .inr e).trans st fun _ _ e => .inl e
  refine ⟨v', bs ++ [b], H1.put hst ?_ ?_ s3 (H1.not5 hT5) ?_, (s1.none).then_ s3, fun k hk => ?_⟩
  · show Row w' 36 11 v' (s.ws ++ [n]).length (flatN ((s.ws ++ [n]).zip (bs ++ [b])))
    rw [zip_snoc h.len, flatN_snoc, List.length_append]
    have hg2 : w2.heap[g]? = some (.cells (s.cells v) T (0, 0)) := s2.blk H1.st fun e => H1.row.ne H1.st hT e
    exact r.step st fun k hk e => by subst e; exact r.ne hg2 hT hk
  · show (bs ++ [b]).length = (s.ws ++ [n]).length
    simp [h.len]
  · intro i m c h1 h2
    have h1' : (s.ws ++ [n])[i]? = some m := h1
    rcases Nat.lt_or_ge i s.ws.length with hi | hi
    · rw [List.getElem?_append_left hi] at h1'
      rw [List.getElem?_append_left (by rw [h.len]; exact hi)] at h2
      exact .inl ⟨i, h1', h2⟩
    · rw [List.getElem?_append_right hi] at h1'
      rw [List.getElem?_append_right (by rw [h.len]; exact hi), h.len] at h2
      cases hd : i - s.ws.length with
      | zero =>
        rw [hd] at h1' h2
        simp at h1' h2
        subst h1' h2
        exact .inr (hb.step s3 (H1.not5 hT5))
      | succ j => rw [hd] at h1'; simp at h1'
  · rcases hl k hk with h1 | h1
    · exact .inl h1
    · have := s1.size; exact .inr (by omega)

set_option maxHeartbeats 8000000 in
theorem send_any (g : Nat) (v : Value) (s : Stm) (bs : List Value) (n : Note) (bo : Option Addr) (bc : Nat) (w : World) (h : Sm 66 w g v s bs) (ok : s.Ok) (hT : HasAt 0 w) (hb : Bytes w (.slice bo n.body.length bc) n.body) :
    Calls Tryd.prog 14 #[.pointer (some ⟨g, 0, none⟩), .agg (n.cells (.slice bo n.body.length bc))] w fun e w' => e = .returned (.int .i64 (s.send n).2) ∧ Went 66 w w' g v (s.send n).1 := by
  obtain ⟨ao, cap, rfl, hcap, -⟩ := h.row.form
  have hf := ok.first
  have hsum := ok.sum
  have hlen := ok.len
  have p1 := heap_alloc_new w (.cells (n.cells (.slice bo n.body.length bc)) 36)
  have s1 := (Step.refl None w).alloc (.cells (n.cells (.slice bo n.body.length bc)) 36)
  obtain ⟨W, hW⟩ : ∃ W, w.alloc (.cells (n.cells (.slice bo n.body.length bc)) 36) = W := ⟨_, rfl⟩
  rw [hW] at p1 s1
  have ld := load_note p1
  have k0 := blk_cell p1 0
  simp only [Note.cells, List.getElem?_toArray, List.getElem?_cons_zero] at k0
  have HE := Lib.hid hW
  have P1 := Lib.hid p1
  have S1 := Lib.hid s1
  have H := Lib.hid h
  have H1 := Lib.hid (h.still s1)
  have T1 := Lib.hid (hT.still s1)
  have B1 := Lib.hid (hb.step s1 (fun _ _ s => s.elim))
  have LN : Hid (s.ws.length ≤ 5000 ∧ 1 ≤ s.first ∧ s.first ≤ 1073741824) := Lib.hid ⟨hlen, hf, by omega⟩
  have LD := Lib.hid ld
  clear h ok hT hb hW p1 s1 hsum ld hf hlen
  cases kz : (n.kind == 0)
  rotate_left
  · have e0 : s.send n = (s, 2) := by unfold Stm.send; rw [if_pos (.inl (by simpa using kz))]
    rw [e0]
    clear e0
    go_enter Tryd.func14, Tryd.ntmps14
    go_wp2_with (first | rw [HE.out])
    go_ret
    exact ⟨rfl, _, _, H1.out, S1.out.none, fun _ hk => .inl hk⟩
  cases hr : right n
  · have e0 : s.send n = (s, 2) := by unfold Stm.send; rw [if_pos (.inr hr)]
    rw [e0]
    clear e0
    go_enter Tryd.func14, Tryd.ntmps14
    go_wp2_with (first | rw [HE.out] | (refine wpList_load_if 36 (.tmp 3) rfl rfl rfl LD.out ?_))
    refine (right_any n bo bc W T1.out).mono ?_
    rintro e w2 ⟨rfl, s2⟩
    rw [hr]
    have H2 := Lib.hid (H1.out.still s2)
    have S2 := Lib.hid (S1.out.then_ s2)
    clear s2
    go_wp2_with fail
    go_ret
    exact ⟨rfl, _, _, H2.out, S2.out.none, fun _ hk => .inl hk⟩
  have k0' : ¬ n.kind = 0 := by simpa using kz
  by_cases hfull : 5000 ≤ s.ws.length ∨ 1073741824 ≤ s.first + s.ws.length
  · have e0 : s.send n = (s, 3) := by unfold Stm.send; rw [if_neg (by rw [hr]; simp [k0']), if_pos hfull]
    rw [e0]
    clear e0
    go_enter Tryd.func14, Tryd.ntmps14
    go_wp2_with (first | rw [HE.out] | (refine wpList_load_if 36 (.tmp 3) rfl rfl rfl LD.out ?_))
    refine (right_any n bo bc W T1.out).mono ?_
    rintro e w2 ⟨rfl, s2⟩
    rw [hr]
    have H2 := Lib.hid (H1.out.still s2)
    have S2 := Lib.hid (S1.out.then_ s2)
    have D2 := Lib.hid (H2.out.still ((Step.refl None w2).drew))
    have c2 := blk_cell D2.out.st 2
    have c3 := blk_cell D2.out.st 3
    simp only [Stm.cells, List.getElem?_toArray, List.getElem?_cons_zero, List.getElem?_cons_succ] at c2 c3
    clear s2
    go_wp2_with fail
    cases d5 : decide ((5000 : Int) ≤ (s.ws.length : Int))
    rotate_left
    · skip
      have wr1 : wrap64 (s.first + (s.ws.length : Int)) = s.first + (s.ws.length : Int) := IntWalk.wrap64_in _ ⟨by have := LN.out; omega, by have := LN.out; omega⟩
      have wr2 : IntKind.i64.wrap (s.first + (s.ws.length : Int)) = s.first + (s.ws.length : Int) := IntWalk.i64_in _ (by have := LN.out; omega)
      refine wp_region_plan (fun w' => w'.cell? ⟨g, 2, none⟩ = some (.slice ao s.ws.length cap) ∧ w'.cell? ⟨g, 3, none⟩ = some (.int .i64 s.first)) (.take 0 (.take 1 (.take 2 (.take 3 (.take 4 (.take 5 (.take 6 (.take 7 (.take 8 (.take 9 (.take 10 (.take 11 (.take 12 (.take 13 (.take 14 (.take 15 (.take 16 (.take 17 (.take 18 (.take 19 .done)))))))))))))))))))) _
        (by simp only [Plan.map, opOf, List.getElem?_toArray, List.getElem?_cons_zero, List.getElem?_cons_succ, Option.getD_some]; rfl) (by kernel_rfl) (by kernel_rfl) (by kernel_rfl) (by decide) (by intro c a d v w; cases d <;> exact fun h => h) ⟨c2, c3⟩ ?_
      repeat (first | (refine wpPlan.taken (by rfl) (by intro w' hS'; (try dsimp only at hS'); go_split_ands; go_simp; try with_reducible rfl) ?_; simp only [Act.put, List.setIfInBounds_toArray, List.set_cons_zero, List.set_cons_succ]) | (refine wpPlan.passed (by rfl) ?_; simp only [Act.put, List.setIfInBounds_toArray, List.set_cons_zero, List.set_cons_succ]))
      refine wpPlan.done ?_
      go_wp2_with fail
      go_ret
      exact ⟨rfl, _, _, D2.out, S2.out.none.drew, fun _ hk => .inl hk⟩
    have d6 : decide (1073741824 ≤ s.first + (s.ws.length : Int)) = true := by simp at d5 ⊢; omega
    clear hfull
    have wr1 : wrap64 (s.first + (s.ws.length : Int)) = s.first + (s.ws.length : Int) := IntWalk.wrap64_in _ ⟨by have := LN.out; omega, by have := LN.out; omega⟩
    have wr2 : IntKind.i64.wrap (s.first + (s.ws.length : Int)) = s.first + (s.ws.length : Int) := IntWalk.i64_in _ (by have := LN.out; omega)
    refine wp_region_plan (fun w' => w'.cell? ⟨g, 2, none⟩ = some (.slice ao s.ws.length cap) ∧ w'.cell? ⟨g, 3, none⟩ = some (.int .i64 s.first)) (.take 0 (.take 1 (.take 2 (.take 3 (.take 4 (.take 5 (.take 6 (.take 7 (.take 8 (.take 9 (.take 10 (.take 11 (.take 12 (.take 13 (.take 14 (.take 15 (.take 16 (.take 17 (.take 18 (.take 19 .done)))))))))))))))))))) _
      (by simp only [Plan.map, opOf, List.getElem?_toArray, List.getElem?_cons_zero, List.getElem?_cons_succ, Option.getD_some]; rfl) (by kernel_rfl) (by kernel_rfl) (by kernel_rfl) (by decide) (by intro c a d v w; cases d <;> exact fun h => h) ⟨c2, c3⟩ ?_
    repeat (first | (refine wpPlan.taken (by rfl) (by intro w' hS'; (try dsimp only at hS'); go_split_ands; go_simp; try with_reducible rfl) ?_; simp only [Act.put, List.setIfInBounds_toArray, List.set_cons_zero, List.set_cons_succ]) | (refine wpPlan.passed (by rfl) ?_; simp only [Act.put, List.setIfInBounds_toArray, List.set_cons_zero, List.set_cons_succ]))
    refine wpPlan.done ?_
    go_wp2_with fail
    go_ret
    exact ⟨rfl, _, _, D2.out, S2.out.none.drew, fun _ hk => .inl hk⟩
  have e0 : s.send n = ({ s with ws := s.ws ++ [n] }, 0) := by unfold Stm.send; rw [if_neg (by rw [hr]; simp [k0']), if_neg hfull]
  rw [e0]
  clear e0
  have d5 : decide ((5000 : Int) ≤ (s.ws.length : Int)) = false := by simp; omega
  have d6 : decide (1073741824 ≤ s.first + (s.ws.length : Int)) = false := by simp; omega
  have HF := Lib.hid (show n.body.length ≤ 1600 from Stm.right_len hr)
  have L5 : Hid (s.ws.length < 5000) := Lib.hid (by omega)
  clear hfull
  go_enter Tryd.func14, Tryd.ntmps14
  go_wp2_with (first | rw [HE.out] | (refine wpList_load_if 36 (.tmp 3) rfl rfl rfl LD.out ?_))
  refine (right_any n bo bc W T1.out).mono ?_
  rintro e w2 ⟨rfl, s2⟩
  rw [hr]
  have H2 := Lib.hid (H1.out.still s2)
  have S2 := Lib.hid (S1.out.then_ s2)
  have D2 := Lib.hid (H2.out.still ((Step.refl None w2).drew))
  have c2 := blk_cell D2.out.st 2
  have c3 := blk_cell D2.out.st 3
  simp only [Stm.cells, List.getElem?_toArray, List.getElem?_cons_zero, List.getElem?_cons_succ] at c2 c3
  have P2 := Lib.hid (s2.blk P1.out (fun s => s.elim))
  have s2h := Lib.hid s2
  have S2b := Lib.hid S2.out
  clear s2
  go_wp2_with fail
  have wr1 : wrap64 (s.first + (s.ws.length : Int)) = s.first + (s.ws.length : Int) := IntWalk.wrap64_in _ ⟨by have := LN.out; omega, by have := LN.out; omega⟩
  have wr2 : IntKind.i64.wrap (s.first + (s.ws.length : Int)) = s.first + (s.ws.length : Int) := IntWalk.i64_in _ (by have := LN.out; omega)
  refine wp_region_plan (fun w' => w'.cell? ⟨g, 2, none⟩ = some (.slice ao s.ws.length cap) ∧ w'.cell? ⟨g, 3, none⟩ = some (.int .i64 s.first)) (.take 0 (.take 1 (.take 2 (.take 3 (.take 4 (.take 5 (.take 6 (.take 7 (.take 8 (.take 9 (.take 10 (.take 11 (.take 12 (.take 13 (.take 14 (.take 15 (.take 16 (.take 17 (.take 18 (.take 19 .done)))))))))))))))))))) _
    (by simp only [Plan.map, opOf, List.getElem?_toArray, List.getElem?_cons_zero, List.getElem?_cons_succ, Option.getD_some]; rfl) (by kernel_rfl) (by kernel_rfl) (by kernel_rfl) (by decide) (by intro c a d v w; cases d <;> exact fun h => h) ⟨c2, c3⟩ ?_
  repeat (first | (refine wpPlan.taken (by rfl) (by intro w' hS'; (try dsimp only at hS'); go_split_ands; go_simp; try with_reducible rfl) ?_; simp only [Act.put, List.setIfInBounds_toArray, List.set_cons_zero, List.set_cons_succ]) | (refine wpPlan.passed (by rfl) ?_; simp only [Act.put, List.setIfInBounds_toArray, List.set_cons_zero, List.set_cons_succ]))
  refine wpPlan.done ?_
  have P3 := Lib.hid (show w2.drew.heap[w.heap.size]? = _ from P2.out)
  have k := blk_cell P3.out 10
  simp only [Note.cells, List.getElem?_toArray, List.getElem?_cons_zero, List.getElem?_cons_succ] at k
  have kf := blk_frozen P3.out 10
  have B3 := Lib.hid (B1.out.step (s2h.out.drew) (fun _ _ s => s.elim))
  clear c2 c3 S2 H2 D2 LD
  go_wp2_with fail
  refine (clone_any (.slice bo n.body.length bc) n.body w2.drew B3.out (by have := HF.out; omega)).mono ?_
  rintro e w3 ⟨u, rfl, o3, s3, n3⟩
  have O3 := Lib.hid o3
  have S3 := Lib.hid ((S2b.out.drew).then_ s3)
  have P4 := Lib.hid (s3.blk P3.out (fun s => s.elim))
  have k4 := blk_cell P4.out 10
  simp only [Note.cells, List.getElem?_toArray, List.getElem?_cons_zero, List.getElem?_cons_succ] at k4
  have kf4 := blk_frozen P4.out 10
  have G0 := Lib.hid (H.out.still S3.out)
  clear k kf o3 s3 n3
  obtain ⟨uo, uc, rfl, -, -⟩ := Row.form O3.out
  go_wp2_with fail
  have P5 := Lib.hid (show (w3.setCell ⟨w.heap.size, 10, none⟩ (.slice uo n.body.length uc)).heap[w.heap.size]? = some (.cells (n.cells (.slice uo n.body.length uc)) 36 (0, 0)) from blk_set P4.out 10 _)
  have S5 := Lib.hid ((S3.out.setCell (p := ⟨w.heap.size, 10, none⟩) (fun h => absurd h (Nat.lt_irrefl _)) (.slice uo n.body.length uc)).drew)
  have O5 : Hid (Own5 (w3.setCell ⟨w.heap.size, 10, none⟩ (.slice uo n.body.length uc)).drew (.slice uo n.body.length uc) n.body) := Lib.hid (O3.out.step ((Step.setCell (S := fun k => k = w.heap.size) (Step.refl _ w3) (p := ⟨w.heap.size, 10, none⟩) (fun _ => rfl) _).drew) (fun k hk cs fr hc => by subst hk; exact blk_ne P4.out hc (by decide) rfl))
  clear k4 kf4 P4 O3 S3 G0
  obtain ⟨W5, hW5⟩ : ∃ W5, (w3.setCell ⟨w.heap.size, 10, none⟩ (.slice uo n.body.length uc)) = W5 := ⟨_, rfl⟩
  rw [hW5] at P5 S5 O5 ⊢
  have G5 := Lib.hid (H.out.still S5.out)
  have c5 := blk_cell G5.out.st 2
  simp only [Stm.cells, List.getElem?_toArray, List.getElem?_cons_zero, List.getElem?_cons_succ] at c5
  have ld5 := load_note (w := W5.drew) P5.out
  clear hW5
  refine wp_region_plan (fun w' => w'.cell? ⟨g, 2, none⟩ = some (.slice ao s.ws.length cap) ∧ (Instr.loadAt 36 (.pointer (some ⟨w.heap.size, 0, none⟩))).run Tryd.prog w' = .ok (.agg #[.int .i64 n.kind, .int .i64 n.vlan, .int .u8 n.m0, .int .u8 n.m1, .int .u8 n.m2, .int .u8 n.m3, .int .u8 n.m4, .int .u8 n.m5, .int .i64 n.port, .int .i64 n.state, .slice uo n.body.length uc]) w') (.take 0 (.take 1 (.take 2 (.take 3 (.take 4 (.take 5 (.alt 6 (.alt 7 (.take 8 (.take 9 (.last 10))) .none) .none))))))) _
    (by simp only [Plan.map, opOf, List.getElem?_toArray, List.getElem?_cons_zero, List.getElem?_cons_succ, Option.getD_some]; rfl) (by kernel_rfl) (by kernel_rfl) (by kernel_rfl) (by decide) (by intro c a d v w; cases d <;> exact fun h => h) ⟨c5, ld5⟩ ?_
  repeat (first | (refine wpPlan.taken (by rfl) (fun w' hS' => run_load_op rfl rfl hS'.2) ?_; simp only [Act.put, List.setIfInBounds_toArray, List.set_cons_zero, List.set_cons_succ]) | (refine wpPlan.taken (by rfl) (by intro w' hS'; (try dsimp only at hS'); go_split_ands; go_simp; try with_reducible rfl) ?_; simp only [Act.put, List.setIfInBounds_toArray, List.set_cons_zero, List.set_cons_succ]) | (refine wpPlan.passed (by rfl) ?_; simp only [Act.put, List.setIfInBounds_toArray, List.set_cons_zero, List.set_cons_succ]))
  refine wpPlan.runs fun K' hK => ?_
  go_simp
  have sa := (Step.refl None W5.drew).alloc (.cells (n.cells (.slice uo n.body.length uc)) 36)
  have ba := Lib.hid (heap_alloc_new W5.drew (.cells (n.cells (.slice uo n.body.length uc)) 36))
  have G6 := Lib.hid (G5.out.still sa)
  have S6 := Lib.hid (S5.out.then_ sa)
  have O6 := Lib.hid (O5.out.step sa (fun _ s => s.elim))
  have P6 := Lib.hid (sa.blk (show W5.drew.heap[w.heap.size]? = _ from P5.out) (fun s => s.elim))
  have c6 := blk_cell G6.out.st 2
  simp only [Stm.cells, List.getElem?_toArray, List.getElem?_cons_zero, List.getElem?_cons_succ] at c6
  refine hK.out _ _ ⟨c6, load_note P6.out⟩ ?_
  clear hK K' c6 c5 ld5 sa
  refine wpPlan.runs fun K' hK => ?_
  refine step_append_row (m := 1) T43 (by rfl) (.tmp 42) (.tmp 44) (by rfl) (by rfl) G6.out.row (by rfl) (Src.ofBlock T43 (m := 1) (c := 1) ba.out (by rfl) (by simp [Note.cells, Value.oneCell'])) (by have := L5.out; simp [maxLen]; omega) (by have := L5.out; simp; omega) ?_
  intro v7 w7 r7 s7 l7
  have hne : ¬ Leads (.slice ao s.ws.length cap) g := G6.out.row.ne G6.out.st (by decide)
  have g7 := s7.blk G6.out.st hne
  have hn8 : ¬ Leads (.slice ao s.ws.length cap) w.heap.size := fun hk => by
    have := H.out.row.lt hk
    omega
  have p7 := s7.blk P6.out hn8
  have c7 := blk_cell g7 2
  have f7 := blk_frozen g7 2
  simp only [Stm.cells, List.getElem?_toArray, List.getElem?_cons_zero, List.getElem?_cons_succ] at c7
  refine hK.out _ _ ⟨c7, load_note p7⟩ ?_
  clear hK K' hne hn8
  repeat (first | (refine wpPlan.taken (by rfl) (fun w' hS' => run_load_op rfl rfl hS'.2) ?_; simp only [Act.put, List.setIfInBounds_toArray, List.set_cons_zero, List.set_cons_succ]) | (refine wpPlan.taken (by rfl) (by intro w' hS'; (try dsimp only at hS'); go_split_ands; go_simp; try with_reducible rfl) ?_; simp only [Act.put, List.setIfInBounds_toArray, List.set_cons_zero, List.set_cons_succ]) | (refine wpPlan.passed (by rfl) ?_; simp only [Act.put, List.setIfInBounds_toArray, List.set_cons_zero, List.set_cons_succ]))
  obtain ⟨vo, vc, rfl, -, -⟩ := r7.form
  have FIN := Lib.hid (Sm.more (n := n) (w' := w7.setCell ⟨g, 2, none⟩ (.slice vo (s.ws.length + 1) vc)) H.out (by decide) (by decide) S6.out O6.out s7 (by simpa using r7) l7 ((Step.refl (fun k => k = g) w7).setCell (p := ⟨g, 2, none⟩) (fun _ => rfl) _) (blk_set g7 2 _))
  clear r7 s7 l7 p7 g7
  refine wpPlan.ends fun K' hK => ?_
  go_simp
  refine hK.out _ _ ?_
  clear hK K'
  go_wp2_with fail
  go_ret
  exact ⟨rfl, FIN.out⟩
end Go.Proofs.YtgchepijbpcckaaDoor
