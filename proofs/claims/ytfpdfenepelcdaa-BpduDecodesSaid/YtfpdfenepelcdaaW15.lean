/- BpduLong, walked. -/
import Derived.Test.YtfpdfenepelcdaaW14
namespace Go.Proofs.Ytfpdfenepelcdaa
open Go.RowKit Go.Gm

theorem bare_kind {x : Bpd} (h : okB x = true) (hk : x.kind = 128) : x.flat = (bare 128).flat := by
  have k1 : (x.kind == 128) = true := by simp [hk]
  simpa [okB, k1] using h
theorem okB_kind {x : Bpd} (h : okB x = true) : x.kind = 128 ∨ (x.kind = 0 ∧ fine x = true) ∨ (x.kind = 2 ∧ fine x = true) := by
  cases k1 : (x.kind == 128)
  · cases k2 : (x.kind == 0)
    · cases k3 : (x.kind == 2)
      · simp [okB, k1, k2, k3] at h
      · simp [okB, k1, k2, k3] at h
        exact .inr (.inr ⟨by simpa using k3, h⟩)
    · simp [okB, k1, k2] at h
      exact .inr (.inl ⟨by simpa using k2, h⟩)
  · exact .inl (by simpa using k1)

set_option maxHeartbeats 2000000 in
/-- No two unlike ones have the same bytes. -/
theorem enc_inj {x y : Bpd} (hx : okB x = true) (hy : okB y = true) (h : encB x = encB y) : x.flat = y.flat := by
  have hk : x.kind % 256 = y.kind % 256 := by
    have h3 : (encB x)[3]? = (encB y)[3]? := by rw [h]
    have g : ∀ z : Bpd, (encB z)[3]? = some (z.kind % 256) := by
      intro z
      unfold encB
      split <;> simp
    rw [g, g] at h3
    exact Option.some.inj h3
  have kx := okB_kind hx
  have ky := okB_kind hy
  have kk : x.kind = y.kind := by omega
  by_cases h1 : x.kind = 128
  · rw [bare_kind hx h1, bare_kind hy (by omega)]
  · have fx : fine x = true := by rcases kx with h | h | h; exact absurd h h1; exact h.2; exact h.2
    have fy : fine y = true := by rcases ky with h | h | h; omega; exact h.2; exact h.2
    have e1 : (x.kind == 128) = false := by simpa using h1
    have e2 : (y.kind == 128) = false := by rw [← kk]; exact e1
    have rx := fine_rng fx
    have ry := fine_rng fy
    unfold encB at h
    rw [e1, e2] at h
    simp only [Bool.false_eq_true, if_false, Idn.bytes, Idn.mac, two, four, List.cons_append, List.nil_append, List.cons.injEq] at h
    obtain ⟨-, -, -, -, f, r1, r2, a0, a1, a2, a3, a4, a5, c1, c2, c3, c4, b1, b2, g0, g1, g2, g3, g4, g5, p1, p2, q1, q2, m1, m2, o1, o2, w1, w2, -⟩ := h
    have e3 : x.flags = y.flags := by omega
    have e4 : x.root.p = y.root.p := by omega
    have e5 : x.cost = y.cost := by omega
    have e6 : x.bridge.p = y.bridge.p := by omega
    have e7 : x.port = y.port := by omega
    have e8 : x.age = y.age := by omega
    have e9 : x.most = y.most := by omega
    have e10 : x.hello = y.hello := by omega
    have e11 : x.fwd = y.fwd := by omega
    simp [Bpd.flat, Idn.flat, Idn.mac, kk, e3, e4, e5, e6, e7, e8, e9, e10, e11, a0, a1, a2, a3, a4, a5, g0, g1, g2, g3, g4, g5]
theorem flat_enc {x y : Bpd} (h : x.flat = y.flat) : encB x = encB y := by
  simp only [Bpd.flat, Idn.flat, Idn.mac, List.cons_append, List.nil_append, List.cons.injEq] at h
  obtain ⟨h1, h2, h3, a0, a1, a2, a3, a4, a5, h4, h5, b0, b1, b2, b3, b4, b5, h6, h7, h8, h9, h10, -⟩ := h
  simp [encB, version, Idn.bytes, Idn.mac, h1, h2, h3, a0, a1, a2, a3, a4, a5, h4, h5, b0, b1, b2, b3, b4, b5, h6, h7, h8, h9, h10]
theorem small_nil : Small [] := fun _ h => by simp at h
theorem small_cons {a : Int} {l : List Int} (h0 : 0 ≤ a) (h1 : a ≤ 255) (h : Small l) : Small (a :: l) := fun z hz => by
  rcases List.mem_cons.1 hz with rfl | hz
  · exact ⟨h0, h1⟩
  · exact h z hz
theorem small_app {a b : List Int} (h : Small a) (g : Small b) : Small (a ++ b) := fun z hz => by
  rcases List.mem_append.1 hz with hz | hz
  · exact h z hz
  · exact g z hz
theorem small_two (v : Int) : Small (two v) := small_cons (by omega) (by omega) (small_cons (by omega) (by omega) small_nil)
theorem small_four (v : Int) : Small (four v) := small_cons (by omega) (by omega) (small_cons (by omega) (by omega) (small_cons (by omega) (by omega) (small_cons (by omega) (by omega) small_nil)))
theorem encB_small {x : Bpd} (h : x.small) : Small (encB x) := by
  have v : 0 ≤ version x ∧ version x ≤ 255 := by unfold version; split <;> omega
  have hd : Small [0, 0, version x, x.kind % 256] := small_cons (by omega) (by omega) (small_cons (by omega) (by omega) (small_cons v.1 v.2 (small_cons (by omega) (by omega) small_nil)))
  unfold encB Idn.bytes
  split
  · exact hd
  · refine small_app (small_app (small_app (small_app (small_app (small_app (small_app (small_app (small_app (small_app hd ?_) ?_) ?_) ?_) ?_) ?_) ?_) ?_) ?_) ?_
    · exact small_cons (by omega) (by omega) small_nil
    · exact small_app (small_two _) h.1
    · exact small_four _
    · exact small_app (small_two _) h.2
    · exact small_two _
    · exact small_two _
    · exact small_two _
    · exact small_two _
    · exact small_two _
    · split
      · exact small_cons (by omega) (by omega) small_nil
      · exact small_nil

set_option maxHeartbeats 8000000 in
theorem bpduLong_walk (v0 v1 : Value) (w : World) (h0 : Arg w (.cat 1 (.int .i64) (.cat 1 (.int .i64) (.cat 7 (.cat 1 (.int .i64) (.cat 6 (.arr 6 1 (.int .u8)) .nil)) (.cat 1 (.int .i64) (.cat 7 (.cat 1 (.int .i64) (.cat 6 (.arr 6 1 (.int .u8)) .nil)) (.cat 1 (.int .i64) (.cat 1 (.int .i64) (.cat 1 (.int .i64) (.cat 1 (.int .i64) (.cat 1 (.int .i64) .nil)))))))))) v0) (h1 : Arg w (.cat 1 (.int .i64) (.cat 1 (.int .i64) (.cat 7 (.cat 1 (.int .i64) (.cat 6 (.arr 6 1 (.int .u8)) .nil)) (.cat 1 (.int .i64) (.cat 7 (.cat 1 (.int .i64) (.cat 6 (.arr 6 1 (.int .u8)) .nil)) (.cat 1 (.int .i64) (.cat 1 (.int .i64) (.cat 1 (.int .i64) (.cat 1 (.int .i64) (.cat 1 (.int .i64) .nil)))))))))) v1) :
    Calls Try.prog 4 #[v0, v1] w fun e w' => e = .returned (.bool true) ∧ Below w.heap.size w w' := by
  obtain ⟨x, rfl, fx⟩ := arg_bpd h0
  obtain ⟨y, rfl, fy⟩ := arg_bpd h1
  clear h0 h1
  have p1 := heap_alloc_new w (.cells x.cells 27)
  have s1 := (Step.refl None w).alloc (.cells x.cells 27)
  have p2 : ((w.alloc (.cells x.cells 27)).alloc (.cells y.cells 27)).heap[w.heap.size + 1]? = some (.cells y.cells 27 (0, 0)) := by
    have := heap_alloc_new (w.alloc (.cells x.cells 27)) (.cells y.cells 27)
    simpa using this
  have p1' : ((w.alloc (.cells x.cells 27)).alloc (.cells y.cells 27)).heap[w.heap.size]? = some (.cells x.cells 27 (0, 0)) := ((Step.refl None _).alloc _).blk p1 (fun s => s.elim)
  have s2 := s1.alloc (.cells y.cells 27)
  obtain ⟨W, hW⟩ : ∃ W, (w.alloc (.cells x.cells 27)).alloc (.cells y.cells 27) = W := ⟨_, rfl⟩
  rw [hW] at p1' p2 s2
  have HE := Lib.hid hW
  have P1 := Lib.hid p1'
  have P2 := Lib.hid p2
  have S1 := Lib.hid s2
  clear hW p1 s1 p2 p1' s2
  have C := Lib.hid (encode_all x)
  have D := Lib.hid (encode_all y)
  have FX := Lib.hid fx
  have FY := Lib.hid fy
  clear fx fy
  unfold code at C D
  cases hx : okB x
  · rw [hx] at C
    rw [if_neg (by decide)] at C
    go_enter Try.func4, Try.ntmps4
    go_wp2_with (rw [HE.out])
    refine (awake_any _).mono ?_
    rintro e w2 ⟨rfl, s2⟩
    have K : Hid (∀ w', Step None w2 w' → (Instr.loadAt 27 (.pointer (some ⟨w.heap.size, 0, none⟩))).run Try.prog w' = .ok (.agg x.cells) w' ∧ (Instr.loadAt 27 (.pointer (some ⟨w.heap.size + 1, 0, none⟩))).run Try.prog w' = .ok (.agg y.cells) w') := Lib.hid fun w' h' => ⟨load_bpd ((s2.then_ h').blk P1.out (fun s => s.elim)), load_bpd ((s2.then_ h').blk P2.out (fun s => s.elim))⟩
    have k0 : Hid (∀ w', Step None w2 w' → w'.cell? ⟨w.heap.size, 0, none⟩ = some (.int .i64 x.kind)) := Lib.hid fun w' h' => blk_cell ((s2.then_ h').blk P1.out (fun s => s.elim)) 0
    have S2 := Lib.hid (S1.out.then_ s2)
    clear s2 P1 P2 S1 HE
    have k2 := (K.out w2 (Step.refl _ _)).1
    go_wp2_with (refine wpList_load_if 27 (.tmp 2) rfl rfl rfl k2 ?_)
    refine (C.out _).mono ?_
    rintro e w3 ⟨u1, rfl, b1, s3⟩
    have k3 := (K.out w3 s3).2
    have B1 := Lib.hid b1
    have S3 := Lib.hid s3
    clear b1 s3 k2
    go_wp2_with (refine wpList_load_if 27 (.tmp 3) rfl rfl rfl k3 ?_)
    refine (D.out _).mono ?_
    rintro e w4 ⟨u2, rfl, b2, s4⟩
    obtain ⟨ao, cp, rfl⟩ := B1.out.form
    obtain ⟨bo, bp, rfl⟩ := b2.form
    have K4 : Hid (∀ w', Step None w4 w' → (convert 29 9 (.slice ao (encA x).length cp)).run Try.prog w' = .ok (.string (strOfNums (encA x))) w' ∧ (convert 29 9 (.slice bo (encA y).length bp)).run Try.prog w' = .ok (.string (strOfNums (encA y))) w' ∧ (Instr.loadAt 27 (.pointer (some ⟨w.heap.size, 0, none⟩))).run Try.prog w' = .ok (.agg x.cells) w' ∧ (Instr.loadAt 27 (.pointer (some ⟨w.heap.size + 1, 0, none⟩))).run Try.prog w' = .ok (.agg y.cells) w') :=
      Lib.hid fun w' h' => ⟨text_of (B1.out.still (s4.then_ h')), text_of (b2.still h'), K.out w' ((S3.out.then_ s4).then_ h')⟩
    have Z4 := Lib.hid ((S2.out.then_ S3.out).then_ s4)
    have c4 := k0.out w4 (S3.out.then_ s4)
    clear b2 s4 k3 B1 k0 K S3 C D
    go_wp2_with fail
    all_goals go_ret
    all_goals exact ⟨rfl, Z4.out.toBelow⟩
  · cases hy : okB y
    · rw [hy] at D
      rw [if_neg (by decide)] at D
      go_enter Try.func4, Try.ntmps4
      go_wp2_with (rw [HE.out])
      refine (awake_any _).mono ?_
      rintro e w2 ⟨rfl, s2⟩
      have K : Hid (∀ w', Step None w2 w' → (Instr.loadAt 27 (.pointer (some ⟨w.heap.size, 0, none⟩))).run Try.prog w' = .ok (.agg x.cells) w' ∧ (Instr.loadAt 27 (.pointer (some ⟨w.heap.size + 1, 0, none⟩))).run Try.prog w' = .ok (.agg y.cells) w') := Lib.hid fun w' h' => ⟨load_bpd ((s2.then_ h').blk P1.out (fun s => s.elim)), load_bpd ((s2.then_ h').blk P2.out (fun s => s.elim))⟩
      have k0 : Hid (∀ w', Step None w2 w' → w'.cell? ⟨w.heap.size, 0, none⟩ = some (.int .i64 x.kind)) := Lib.hid fun w' h' => blk_cell ((s2.then_ h').blk P1.out (fun s => s.elim)) 0
      have S2 := Lib.hid (S1.out.then_ s2)
      clear s2 P1 P2 S1 HE
      have k2 := (K.out w2 (Step.refl _ _)).1
      go_wp2_with (refine wpList_load_if 27 (.tmp 2) rfl rfl rfl k2 ?_)
      refine (C.out _).mono ?_
      rintro e w3 ⟨u1, rfl, b1, s3⟩
      have k3 := (K.out w3 s3).2
      have B1 := Lib.hid b1
      have S3 := Lib.hid s3
      clear b1 s3 k2
      go_wp2_with (refine wpList_load_if 27 (.tmp 3) rfl rfl rfl k3 ?_)
      refine (D.out _).mono ?_
      rintro e w4 ⟨u2, rfl, b2, s4⟩
      obtain ⟨ao, cp, rfl⟩ := B1.out.form
      obtain ⟨bo, bp, rfl⟩ := b2.form
      have K4 : Hid (∀ w', Step None w4 w' → (convert 29 9 (.slice ao (encA x).length cp)).run Try.prog w' = .ok (.string (strOfNums (encA x))) w' ∧ (convert 29 9 (.slice bo (encA y).length bp)).run Try.prog w' = .ok (.string (strOfNums (encA y))) w' ∧ (Instr.loadAt 27 (.pointer (some ⟨w.heap.size, 0, none⟩))).run Try.prog w' = .ok (.agg x.cells) w' ∧ (Instr.loadAt 27 (.pointer (some ⟨w.heap.size + 1, 0, none⟩))).run Try.prog w' = .ok (.agg y.cells) w') :=
        Lib.hid fun w' h' => ⟨text_of (B1.out.still (s4.then_ h')), text_of (b2.still h'), K.out w' ((S3.out.then_ s4).then_ h')⟩
      have Z4 := Lib.hid ((S2.out.then_ S3.out).then_ s4)
      have c4 := k0.out w4 (S3.out.then_ s4)
      clear b2 s4 k3 B1 k0 K S3 C D
      go_wp2_with fail
      all_goals go_ret
      all_goals exact ⟨rfl, Z4.out.toBelow⟩
    · rw [hx] at C
      rw [hy] at D
      rw [if_pos rfl] at C D
      go_enter Try.func4, Try.ntmps4
      go_wp2_with (rw [HE.out])
      refine (awake_any _).mono ?_
      rintro e w2 ⟨rfl, s2⟩
      have K : Hid (∀ w', Step None w2 w' → (Instr.loadAt 27 (.pointer (some ⟨w.heap.size, 0, none⟩))).run Try.prog w' = .ok (.agg x.cells) w' ∧ (Instr.loadAt 27 (.pointer (some ⟨w.heap.size + 1, 0, none⟩))).run Try.prog w' = .ok (.agg y.cells) w') := Lib.hid fun w' h' => ⟨load_bpd ((s2.then_ h').blk P1.out (fun s => s.elim)), load_bpd ((s2.then_ h').blk P2.out (fun s => s.elim))⟩
      have k0 : Hid (∀ w', Step None w2 w' → w'.cell? ⟨w.heap.size, 0, none⟩ = some (.int .i64 x.kind)) := Lib.hid fun w' h' => blk_cell ((s2.then_ h').blk P1.out (fun s => s.elim)) 0
      have S2 := Lib.hid (S1.out.then_ s2)
      clear s2 P1 P2 S1 HE
      have k2 := (K.out w2 (Step.refl _ _)).1
      go_wp2_with (refine wpList_load_if 27 (.tmp 2) rfl rfl rfl k2 ?_)
      refine (C.out _).mono ?_
      rintro e w3 ⟨u1, rfl, b1, s3⟩
      have k3 := (K.out w3 s3).2
      have B1 := Lib.hid b1
      have S3 := Lib.hid s3
      clear b1 s3 k2
      go_wp2_with (refine wpList_load_if 27 (.tmp 3) rfl rfl rfl k3 ?_)
      refine (D.out _).mono ?_
      rintro e w4 ⟨u2, rfl, b2, s4⟩
      obtain ⟨ao, cp, rfl⟩ := B1.out.form
      obtain ⟨bo, bp, rfl⟩ := b2.form
      have K4 : Hid (∀ w', Step None w4 w' → (convert 29 9 (.slice ao (encA x).length cp)).run Try.prog w' = .ok (.string (strOfNums (encA x))) w' ∧ (convert 29 9 (.slice bo (encA y).length bp)).run Try.prog w' = .ok (.string (strOfNums (encA y))) w' ∧ (Instr.loadAt 27 (.pointer (some ⟨w.heap.size, 0, none⟩))).run Try.prog w' = .ok (.agg x.cells) w' ∧ (Instr.loadAt 27 (.pointer (some ⟨w.heap.size + 1, 0, none⟩))).run Try.prog w' = .ok (.agg y.cells) w') :=
        Lib.hid fun w' h' => ⟨text_of (B1.out.still (s4.then_ h')), text_of (b2.still h'), K.out w' ((S3.out.then_ s4).then_ h')⟩
      have Z4 := Lib.hid ((S2.out.then_ S3.out).then_ s4)
      have c4 := k0.out w4 (S3.out.then_ s4)
      have l4 := K4.out w4 (Step.refl _ _)
      obtain ⟨t1, t2, lx, ly⟩ := l4
      clear b2 s4 k3 B1 k0 K S3 C D
      have he := fun w => eq_bpd x y w
      have htx := text_beq (encB_small FX.out) (encB_small FY.out)
      have hin : decide (encB x = encB y) = (x.flat == y.flat) := by
        rw [Bool.eq_iff_iff]
        simp only [decide_eq_true_eq, beq_iff_eq]
        exact ⟨enc_inj hx hy, flat_enc⟩
      rw [hin] at htx
      have hlen := encB_len x
      rw [show encA x = encB x by simp [encA, hx]] at *
      rw [show encA y = encB y by simp [encA, hy]] at *
      clear hin FX FY t1 t2 lx ly
      cases k1 : (x.kind == 128)
      · cases k2 : (x.kind == 2)
        · rw [k1, k2, if_neg (by decide), if_neg (by decide)] at hlen
          have HLn := Lib.hid hlen
          rw [hlen]
          go_wp2_with fail
          refine wp_region_plan (fun w' => (convert 29 9 (.slice ao 35 cp)).run Try.prog w' = .ok (.string (strOfNums (encB x))) w' ∧ (convert 29 9 (.slice bo (encB y).length bp)).run Try.prog w' = .ok (.string (strOfNums (encB y))) w' ∧ (Instr.loadAt 27 (.pointer (some ⟨w.heap.size, 0, none⟩))).run Try.prog w' = .ok (.agg x.cells) w' ∧ (Instr.loadAt 27 (.pointer (some ⟨w.heap.size + 1, 0, none⟩))).run Try.prog w' = .ok (.agg y.cells) w') (.take 0 (.take 1 (.take 2 (.take 3 (.take 4 (.take 5 (.take 6 (.take 7 (.take 8 (.take 9 (.take 10 (.take 11 (.take 12 (.take 13 (.take 14 (.take 15 .done)))))))))))))))) _
            (by simp only [Plan.map, opOf, List.getElem?_toArray, List.getElem?_cons_zero, List.getElem?_cons_succ, Option.getD_some]; rfl) (by kernel_rfl) (by kernel_rfl) (by kernel_rfl) (by decide) (by intro c a d v w; cases d <;> exact fun h => h) (by have := K4.out _ (Step.refl None w4).drew; rw [HLn.out] at this; exact this) ?_
          repeat (first | (refine wpPlan.taken (by rfl) (fun w' hS' => run_load_op rfl rfl hS'.2.2.1) ?_; simp only [Act.put, List.setIfInBounds_toArray, List.set_cons_zero, List.set_cons_succ]) | (refine wpPlan.taken (by rfl) (fun w' hS' => run_load_op rfl rfl hS'.2.2.2) ?_; simp only [Act.put, List.setIfInBounds_toArray, List.set_cons_zero, List.set_cons_succ]) | (refine wpPlan.taken (by rfl) (by intro w' hS'; (try dsimp only at hS'); go_split_ands; go_simp; try with_reducible rfl) ?_; simp only [Act.put, List.setIfInBounds_toArray, List.set_cons_zero, List.set_cons_succ]) | (refine wpPlan.passed (by rfl) ?_; simp only [Act.put, List.setIfInBounds_toArray, List.set_cons_zero, List.set_cons_succ]))
          refine wpPlan.done ?_
          go_wp2_with fail
          go_ret
          exact ⟨rfl, Z4.out.drew.toBelow⟩
        · rw [k1, k2, if_neg (by decide), if_pos rfl] at hlen
          have HLn := Lib.hid hlen
          rw [hlen]
          go_wp2_with fail
          refine wp_region_plan (fun w' => (convert 29 9 (.slice ao 36 cp)).run Try.prog w' = .ok (.string (strOfNums (encB x))) w' ∧ (convert 29 9 (.slice bo (encB y).length bp)).run Try.prog w' = .ok (.string (strOfNums (encB y))) w' ∧ (Instr.loadAt 27 (.pointer (some ⟨w.heap.size, 0, none⟩))).run Try.prog w' = .ok (.agg x.cells) w' ∧ (Instr.loadAt 27 (.pointer (some ⟨w.heap.size + 1, 0, none⟩))).run Try.prog w' = .ok (.agg y.cells) w') (.take 0 (.take 1 (.take 2 (.take 3 (.take 4 (.take 5 (.take 6 (.take 7 (.take 8 (.take 9 (.take 10 (.take 11 (.take 12 (.take 13 (.take 14 (.take 15 .done)))))))))))))))) _
            (by simp only [Plan.map, opOf, List.getElem?_toArray, List.getElem?_cons_zero, List.getElem?_cons_succ, Option.getD_some]; rfl) (by kernel_rfl) (by kernel_rfl) (by kernel_rfl) (by decide) (by intro c a d v w; cases d <;> exact fun h => h) (by have := K4.out _ (Step.refl None w4).drew; rw [HLn.out] at this; exact this) ?_
          repeat (first | (refine wpPlan.taken (by rfl) (fun w' hS' => run_load_op rfl rfl hS'.2.2.1) ?_; simp only [Act.put, List.setIfInBounds_toArray, List.set_cons_zero, List.set_cons_succ]) | (refine wpPlan.taken (by rfl) (fun w' hS' => run_load_op rfl rfl hS'.2.2.2) ?_; simp only [Act.put, List.setIfInBounds_toArray, List.set_cons_zero, List.set_cons_succ]) | (refine wpPlan.taken (by rfl) (by intro w' hS'; (try dsimp only at hS'); go_split_ands; go_simp; try with_reducible rfl) ?_; simp only [Act.put, List.setIfInBounds_toArray, List.set_cons_zero, List.set_cons_succ]) | (refine wpPlan.passed (by rfl) ?_; simp only [Act.put, List.setIfInBounds_toArray, List.set_cons_zero, List.set_cons_succ]))
          refine wpPlan.done ?_
          go_wp2_with fail
          go_ret
          exact ⟨rfl, Z4.out.drew.toBelow⟩
      · rw [k1, if_pos rfl] at hlen
        have HLn := Lib.hid hlen
        rw [hlen]
        go_wp2_with fail
        refine wp_region_plan (fun w' => (convert 29 9 (.slice ao 4 cp)).run Try.prog w' = .ok (.string (strOfNums (encB x))) w' ∧ (convert 29 9 (.slice bo (encB y).length bp)).run Try.prog w' = .ok (.string (strOfNums (encB y))) w' ∧ (Instr.loadAt 27 (.pointer (some ⟨w.heap.size, 0, none⟩))).run Try.prog w' = .ok (.agg x.cells) w' ∧ (Instr.loadAt 27 (.pointer (some ⟨w.heap.size + 1, 0, none⟩))).run Try.prog w' = .ok (.agg y.cells) w') (.take 0 (.take 1 (.take 2 (.take 3 (.take 4 (.take 5 (.take 6 (.take 7 (.take 8 (.take 9 (.take 10 (.take 11 (.take 12 (.take 13 (.take 14 (.take 15 .done)))))))))))))))) _
          (by simp only [Plan.map, opOf, List.getElem?_toArray, List.getElem?_cons_zero, List.getElem?_cons_succ, Option.getD_some]; rfl) (by kernel_rfl) (by kernel_rfl) (by kernel_rfl) (by decide) (by intro c a d v w; cases d <;> exact fun h => h) (by have := K4.out _ (Step.refl None w4).drew; rw [HLn.out] at this; exact this) ?_
        repeat (first | (refine wpPlan.taken (by rfl) (fun w' hS' => run_load_op rfl rfl hS'.2.2.1) ?_; simp only [Act.put, List.setIfInBounds_toArray, List.set_cons_zero, List.set_cons_succ]) | (refine wpPlan.taken (by rfl) (fun w' hS' => run_load_op rfl rfl hS'.2.2.2) ?_; simp only [Act.put, List.setIfInBounds_toArray, List.set_cons_zero, List.set_cons_succ]) | (refine wpPlan.taken (by rfl) (by intro w' hS'; (try dsimp only at hS'); go_split_ands; go_simp; try with_reducible rfl) ?_; simp only [Act.put, List.setIfInBounds_toArray, List.set_cons_zero, List.set_cons_succ]) | (refine wpPlan.passed (by rfl) ?_; simp only [Act.put, List.setIfInBounds_toArray, List.set_cons_zero, List.set_cons_succ]))
        refine wpPlan.done ?_
        go_wp2_with fail
        go_ret
        exact ⟨rfl, Z4.out.drew.toBelow⟩
end Go.Proofs.Ytfpdfenepelcdaa
