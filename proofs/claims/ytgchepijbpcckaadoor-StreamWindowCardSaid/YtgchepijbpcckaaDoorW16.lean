/- StreamApart, walked. -/
import Derived.Test.YtgchepijbpcckaaDoorW15
namespace Go.Proofs.YtgchepijbpcckaaDoor
open Go.RowKit Go.Gm

theorem StepsAt.still {w w' : World} {ao : Option Addr} {len : Nat} (h : StepsAt w ao len) (hs : Step None w w') : StepsAt w' ao len := fun i hi => by
  obtain ⟨b, off, p, bo, bc, d, now, e, hb, hc⟩ := h i hi
  exact ⟨b, off, p, bo, bc, d, now, e, hb.step hs (fun _ _ s => s.elim), fun j u hj => (hs.cell (p := ⟨b, off + i * 16 + j, none⟩) (World.block_lt_of_cell? _ _ (hc j u hj)) (fun s => s.elim)).trans (hc j u hj)⟩
theorem acked_ep (s : Stm) (k : Int) : (s.acked k).ep = s.ep := by unfold Stm.acked; split <;> rfl
theorem stepS_ep (s : Stm) (p : Pkt) (d now : Int) : (stepS s p d now).ep = s.ep := by
  unfold stepS
  split
  · unfold Stm.send
    split
    · rfl
    · split <;> rfl
  · split
    · unfold Stm.take
      split
      · rfl
      · split
        · rfl
        · split
          · rfl
          · split <;> exact acked_ep s p.ak
    · unfold Stm.tick
      split
      · rfl
      · simp only
        split
        · rfl
        · split <;> rfl
theorem take_ep {s : Stm} {p : Pkt} (h : (s.take p).2.2.2 = 0) : p.ep = s.ep := by
  unfold Stm.take at h
  split at h
  · cases h
  · split at h
    · cases h
    · rename_i he
      exact Classical.not_not.1 he
theorem take_bad {s : Stm} {p : Pkt} (h : (s.take p).2.2.2 ≠ 0) : (s.take p).1 = s ∧ (s.take p).2.2.1 = false := by
  unfold Stm.take at h ⊢
  split
  · exact ⟨rfl, rfl⟩
  · split
    · exact ⟨rfl, rfl⟩
    · split
      · exact ⟨rfl, rfl⟩
      · rename_i h1 h2 h3
        rw [if_neg h1, if_neg h2, if_neg h3] at h
        split at h <;> exact absurd rfl h
theorem tick_same {s : Stm} (now : Int) : (s.tick now).1.ws = s.ws ∧ (s.tick now).1.taken = s.taken := by
  unfold Stm.tick
  split
  · exact ⟨rfl, rfl⟩
  · simp only
    split
    · exact ⟨rfl, rfl⟩
    · split <;> exact ⟨rfl, rfl⟩
theorem tick_code {s : Stm} {now : Int} (h : 0 ≤ now) (h2 : now ≤ 1099511627776) : (s.tick now).2.2 = 0 := by
  unfold Stm.tick
  rw [if_neg (by omega)]
  simp only
  split
  · rfl
  · split <;> rfl
set_option maxRecDepth 100000 in
set_option maxHeartbeats 16000000 in
theorem streamApart_walk (v0 v1 : Value) (w : World) (hT : HasAt 0 w) (h0 : Arg w (.slice 16 104 (.cat 1 (.int .i64) (.cat 1 (.int .i64) (.cat 14 (.cat 1 (.int .i64) (.cat 1 (.int .i64) (.cat 1 (.int .i64) (.cat 11 (.cat 1 (.int .i64) (.cat 1 (.int .i64) (.cat 6 (.arr 6 1 (.int .u8)) (.cat 1 (.int .i64) (.cat 1 (.int .i64) (.cat 1 (.slice 1 1 (.int .u8)) .nil)))))) .nil)))) .nil)))) v0) (h1 : Arg w (.cat 1 (.int .i64) (.cat 1 (.int .i64) (.cat 1 (.int .i64) (.cat 11 (.cat 1 (.int .i64) (.cat 1 (.int .i64) (.cat 6 (.arr 6 1 (.int .u8)) (.cat 1 (.int .i64) (.cat 1 (.int .i64) (.cat 1 (.slice 1 1 (.int .u8)) .nil)))))) .nil)))) v1) :
    Calls Tryd.prog 5 #[v0, v1] w fun e w' => e = .returned (.bool true) ∧ Below w.heap.size w w' := by
  obtain ⟨ao, len, cap, rfl, hcap, hlen, hsteps⟩ := steps_arg h0
  obtain ⟨ep, sq, ak, n, bo0, bc0, rfl, hby0, -, -, -⟩ := arg_packet h1
  clear h0 h1
  have b := heap_alloc_new w (.cells (n.packet ep sq ak (.slice bo0 n.body.length bc0)) 38)
  obtain ⟨W, hW⟩ : ∃ W, w.alloc (.cells (n.packet ep sq ak (.slice bo0 n.body.length bc0)) 38) = W := ⟨_, rfl⟩
  have s1 : Step None w W := by rw [← hW]; exact (Step.refl None w).alloc _
  rw [hW] at b
  have HE := Lib.hid hW
  have T1 := Lib.hid (hT.still s1)
  have AW := Lib.hid (awake_any W T1.out)
  have S1 := Lib.hid s1
  have B1 := Lib.hid b
  have HST0 := Lib.hid hsteps
  have HBY0 := Lib.hid hby0
  clear hT hW s1 b hsteps hby0
  go_enter Tryd.func5, Tryd.ntmps5
  go_wp2_with (first | rw [HE.out])
  refine AW.out.mono ?_
  rintro e w2 ⟨rfl, s2⟩
  have S2 := Lib.hid (S1.out.then_ s2)
  have HST := Lib.hid (HST0.out.still S2.out)
  have HBY := Lib.hid (HBY0.out.step S2.out (fun _ _ s => s.elim))
  have B2 := Lib.hid (s2.blk B1.out (fun s => s.elim))
  have T2 := Lib.hid (T1.out.still s2)
  clear s2 HST0 HBY0 B1 S1 T1 AW HE
  go_wp2_with fail
  refine (new_ok 5 3 w2 (by kernel_rfl)).mono ?_
  rintro e w3 ⟨rfl, b3, s3⟩
  have B3 := Lib.hid b3
  have S3 := Lib.hid s3
  have kb := blk_cell (s3.blk B2.out (fun s => s.elim)) 13
  simp only [Note.packet, List.getElem?_toArray, List.getElem?_cons_zero, List.getElem?_cons_succ] at kb
  obtain ⟨g, hg⟩ : ∃ g, w2.heap.size = g := ⟨_, rfl⟩
  rw [hg] at B3 ⊢
  have HG := Lib.hid hg
  clear b3 s3 hg
  cases d0 : decide ((2000 : Int) < (n.body.length : Int))
  rotate_left
  · have d0' : decide (2000 < n.body.length) = true := by simp at d0 ⊢; omega
    go_wp2_with fail
    go_ret
    exact ⟨rfl, (S2.out.then_ S3.out).toBelow⟩
  have d0' : decide (2000 < n.body.length) = false := by simp at d0 ⊢; omega
  have HN : Hid (n.body.length ≤ 10000) := Lib.hid (by simp at d0; omega)
  go_wp2_with fail
  refine (rnew_ok 5 3 w3 (by kernel_rfl)).mono ?_
  rintro e w4 ⟨rfl, b4, s4⟩
  obtain ⟨r, hr⟩ : ∃ r, w3.heap.size = r := ⟨_, rfl⟩
  rw [hr] at b4 ⊢
  have DD : Hid (Pair2 66 45 w2 w4 g r (Stm.start 5 3) (Stm.start 5 3)) := Lib.hid ⟨_, _, _, _, Duo.fresh T2.out ⟨by decide, by decide⟩ ⟨by decide, by decide⟩ S3.out s4 (Nat.le_of_eq HG.out) (Nat.le_of_eq hr) B3.out b4⟩
  have OK := Lib.hid (Stm.start_ok (ep := 5) (win := 3) (by kernel_rfl))
  have EP0 : Hid ((Stm.start 5 3).ep = 5) := Lib.hid rfl
  clear b4 s4 hr B3 S3 HG kb d0 d0'
  generalize Stm.start 5 3 = s0 at *
  go_wp2_with fail
  go_loopw [10] (fun t wr => ∃ i : Nat, i ≤ len ∧ t = .int .i64 i ∧ i ≤ 60 ∧ ∃ s, Hid (Pair2 66 45 w2 wr g r s s) ∧ Hid s.Ok ∧ Hid (s.ep = 5)) (fun t _ => len - (intOf t).toNat)
  case atStart => exact ⟨0, by omega, rfl, by omega, s0, DD, OK, EP0⟩
  case round =>
    obtain ⟨i, hi, rfl, h150, s, hP, hO, hE⟩ := hrel
    rename_i wr
    obtain ⟨v, u, bs, cs, hD0⟩ := hP.out
    have hD := Lib.hid hD0
    clear DD OK EP0 hD0
    have BL := Lib.hid hD.out.st
    cases d1 : decide ((i : Int) < (len : Int))
    · have d1' : decide (i < len) = false := by simpa using d1
      go_wp2_with fail
      refine (waits_any g v s bs wr hD.out.one).mono ?_
      rintro e wz ⟨rfl, rfl⟩
      go_wp2_with fail
      refine (taken_any g v s bs wr hD.out.one).mono ?_
      rintro e wz ⟨rfl, rfl⟩
      have PB := Lib.hid (BL.out.blk B2.out (fun s => s.elim))
      have lpk := load_packet PB.out
      go_wp2_with (refine wpList_load_if 38 (.tmp 3) rfl rfl rfl lpk ?_)
      refine (take_any g v s bs ep sq ak n bo0 bc0 wr hD.out.one hO.out hD.out.tab (HBY.out.step BL.out (fun _ _ s => s.elim)) HN.out).mono ?_
      rintro e w5 ⟨bv, rfl, hbv, went⟩
      obtain ⟨v5, bs5, d5⟩ := hD.out.left went
      have D5 := Lib.hid d5
      have nO : ¬ Of g v w.heap.size := fun e => by
        have h1 := blk_lt B2.out
        rcases e with e | e
        · have := hD.out.g0; omega
        · have := hD.out.v0 _ e; omega
      have P5 := Lib.hid (by
        obtain ⟨_, _, -, hs5, -⟩ := went
        exact hs5.blk PB.out nO)
      have hbv' : bv = if (s.take ⟨ep, sq, ak, n⟩).2.2.1 then (.slice bo0 n.body.length bc0) else .slice none 0 0 := hbv
      obtain ⟨bo', bc', rfl, -⟩ := take_bv (p := ⟨ep, sq, ak, n⟩) HBY.out hbv'
      clear d5 went nO hbv hbv' lpk
      obtain ⟨n', hn'⟩ : ∃ n', (s.take ⟨ep, sq, ak, n⟩).2.1 = n' := ⟨_, rfl⟩
      obtain ⟨tl, htl⟩ : ∃ tl, (s.take ⟨ep, sq, ak, n⟩).2.2.1 = tl := ⟨_, rfl⟩
      obtain ⟨cd, hcd⟩ : ∃ cd, (s.take ⟨ep, sq, ak, n⟩).2.2.2 = cd := ⟨_, rfl⟩
      rw [hn', htl, hcd]
      have HTL := Lib.hid htl
      have HCD := Lib.hid hcd
      clear hn' htl hcd
      have a1 := heap_alloc_new w5 (.cells #[.int .i64 0, .int .i64 0, .int .u8 0, .int .u8 0, .int .u8 0, .int .u8 0, .int .u8 0, .int .u8 0, .int .i64 0, .int .i64 0, .slice none 0 0] 36)
      obtain ⟨WA, hWA⟩ : ∃ WA, w5.alloc (.cells #[.int .i64 0, .int .i64 0, .int .u8 0, .int .u8 0, .int .u8 0, .int .u8 0, .int .u8 0, .int .u8 0, .int .i64 0, .int .i64 0, .slice none 0 0] 36) = WA := ⟨_, rfl⟩
      have sA : Step None w5 WA := by rw [← hWA]; exact (Step.refl None w5).alloc _
      rw [hWA] at a1
      have HA := Lib.hid hWA
      have A1 := Lib.hid a1
      have sR := sA.setRow (g := w5.heap.size) (fun h => by omega) (n'.cells (.slice bo' n'.body.length bc'))
      have DR := Lib.hid (D5.out.still sR)
      have x0 := blk_cell (sR.blk P5.out (fun s => s.elim)) 0
      simp only [Note.packet, List.getElem?_toArray, List.getElem?_cons_zero] at x0
      clear hWA a1 sA sR
      cases hc0 : (cd == 0)
      rotate_left
      · have he : ep = 5 := (take_ep (s := s) (p := ⟨ep, sq, ak, n⟩) (by rw [HCD.out]; simpa using hc0)).trans hE.out
        have he2 : (ep == 5) = true := by simpa using he
        clear he
        go_wp2_with (first | rw [HA.out] | (refine wpList_store_row rfl 36 (.tmp 13) (.tmp 86) rfl w5.heap.size (n'.cells (.slice bo' n'.body.length bc')) rfl rfl 36 _ A1.out (by kernel_rfl) rfl (by simp [Note.cells, Value.oneCell']) ?_))
        go_ret
        exact ⟨rfl, (S2.out.then_ DR.out.st).toBelow⟩
      obtain ⟨hs1, hs2⟩ := take_bad (s := s) (p := ⟨ep, sq, ak, n⟩) (by rw [HCD.out]; simpa using hc0)
      rw [hs1] at DR
      rw [HTL.out] at hs2
      subst hs2
      clear hs1 x0
      go_wp2_with (first | rw [HA.out] | (refine wpList_store_row rfl 36 (.tmp 13) (.tmp 86) rfl w5.heap.size (n'.cells (.slice bo' n'.body.length bc')) rfl rfl 36 _ A1.out (by kernel_rfl) rfl (by simp [Note.cells, Value.oneCell']) ?_))
      obtain ⟨W6, hW6⟩ : ∃ W6, WA.setRow w5.heap.size (n'.cells (.slice bo' n'.body.length bc')) = W6 := ⟨_, rfl⟩
      rw [hW6] at DR ⊢
      clear hW6 P5 D5 HCD HTL
      refine (tick_any g v5 s bs5 549755813888 W6 DR.out.one hO.out).mono ?_
      rintro e w7 ⟨x, xs, rfl, pk, sm, hs2⟩
      obtain ⟨v7, bs7, d7⟩ := DR.out.left (sm.ticked hs2)
      have D7 := Lib.hid d7
      have PK := Lib.hid pk
      clear d7 pk sm hs2
      obtain ⟨xo, xc, rfl, -, -⟩ := PK.out.row.form
      rw [tick_code (by decide) (by decide)]
      go_wp2_with fail
      refine (rtick_any r u s cs 549755813888 w7 D7.out.two hO.out).mono ?_
      rintro e w8 ⟨y, ys, rfl, pk3, sm3, hs3⟩
      obtain ⟨u8, cs8, d8⟩ := D7.out.right (sm3.ticked hs3)
      have D8 := Lib.hid d8
      have PK3 := Lib.hid pk3
      have PK2 := Lib.hid (PK.out.step hs3 (fun k hk e => by subst e; exact PK.out.row.ne D7.out.two.st (by decide) hk) (fun k e => D7.out.two.not5 (by decide) k (.inl e)))
      clear d8 pk3 sm3 hs3
      obtain ⟨yo, yc, rfl, -, -⟩ := PK3.out.row.form
      rw [tick_code (by decide) (by decide)]
      go_wp2_with fail
      refine (same_any w8 _ _ _ _ _ _ _ PK2.out PK3.out (tick_len hO.out _) (tick_bodies hO.out _)).mono ?_
      rintro e w9 ⟨rfl, s9⟩
      have D9 := Lib.hid (D8.out.still s9)
      clear s9
      go_wp2_with fail
      refine (waits_any g v7 _ bs7 w9 D9.out.one).mono ?_
      rintro e wz ⟨rfl, rfl⟩
      rw [(tick_same _).1]
      go_wp2_with fail
      refine (taken_any g v7 _ bs7 w9 D9.out.one).mono ?_
      rintro e wz ⟨rfl, rfl⟩
      rw [(tick_same _).2]
      go_wp2_with fail
      go_ret
      exact ⟨rfl, (S2.out.then_ D9.out.st).toBelow⟩
    have hlt : i < len := by simpa using d1
    have d1' : decide (i < len) = true := by simpa using d1
    cases d2 : decide ((i : Int) < 60)
    · have d2' : decide (i < 60) = false := by simp at d2 ⊢; omega
      go_wp2_with fail
      refine (waits_any g v s bs wr hD.out.one).mono ?_
      rintro e wz ⟨rfl, rfl⟩
      go_wp2_with fail
      refine (taken_any g v s bs wr hD.out.one).mono ?_
      rintro e wz ⟨rfl, rfl⟩
      have PB := Lib.hid (BL.out.blk B2.out (fun s => s.elim))
      have lpk := load_packet PB.out
      go_wp2_with (refine wpList_load_if 38 (.tmp 3) rfl rfl rfl lpk ?_)
      refine (take_any g v s bs ep sq ak n bo0 bc0 wr hD.out.one hO.out hD.out.tab (HBY.out.step BL.out (fun _ _ s => s.elim)) HN.out).mono ?_
      rintro e w5 ⟨bv, rfl, hbv, went⟩
      obtain ⟨v5, bs5, d5⟩ := hD.out.left went
      have D5 := Lib.hid d5
      have nO : ¬ Of g v w.heap.size := fun e => by
        have h1 := blk_lt B2.out
        rcases e with e | e
        · have := hD.out.g0; omega
        · have := hD.out.v0 _ e; omega
      have P5 := Lib.hid (by
        obtain ⟨_, _, -, hs5, -⟩ := went
        exact hs5.blk PB.out nO)
      have hbv' : bv = if (s.take ⟨ep, sq, ak, n⟩).2.2.1 then (.slice bo0 n.body.length bc0) else .slice none 0 0 := hbv
      obtain ⟨bo', bc', rfl, -⟩ := take_bv (p := ⟨ep, sq, ak, n⟩) HBY.out hbv'
      clear d5 went nO hbv hbv' lpk
      obtain ⟨n', hn'⟩ : ∃ n', (s.take ⟨ep, sq, ak, n⟩).2.1 = n' := ⟨_, rfl⟩
      obtain ⟨tl, htl⟩ : ∃ tl, (s.take ⟨ep, sq, ak, n⟩).2.2.1 = tl := ⟨_, rfl⟩
      obtain ⟨cd, hcd⟩ : ∃ cd, (s.take ⟨ep, sq, ak, n⟩).2.2.2 = cd := ⟨_, rfl⟩
      rw [hn', htl, hcd]
      have HTL := Lib.hid htl
      have HCD := Lib.hid hcd
      clear hn' htl hcd
      have a1 := heap_alloc_new w5 (.cells #[.int .i64 0, .int .i64 0, .int .u8 0, .int .u8 0, .int .u8 0, .int .u8 0, .int .u8 0, .int .u8 0, .int .i64 0, .int .i64 0, .slice none 0 0] 36)
      obtain ⟨WA, hWA⟩ : ∃ WA, w5.alloc (.cells #[.int .i64 0, .int .i64 0, .int .u8 0, .int .u8 0, .int .u8 0, .int .u8 0, .int .u8 0, .int .u8 0, .int .i64 0, .int .i64 0, .slice none 0 0] 36) = WA := ⟨_, rfl⟩
      have sA : Step None w5 WA := by rw [← hWA]; exact (Step.refl None w5).alloc _
      rw [hWA] at a1
      have HA := Lib.hid hWA
      have A1 := Lib.hid a1
      have sR := sA.setRow (g := w5.heap.size) (fun h => by omega) (n'.cells (.slice bo' n'.body.length bc'))
      have DR := Lib.hid (D5.out.still sR)
      have x0 := blk_cell (sR.blk P5.out (fun s => s.elim)) 0
      simp only [Note.packet, List.getElem?_toArray, List.getElem?_cons_zero] at x0
      clear hWA a1 sA sR
      cases hc0 : (cd == 0)
      rotate_left
      · have he : ep = 5 := (take_ep (s := s) (p := ⟨ep, sq, ak, n⟩) (by rw [HCD.out]; simpa using hc0)).trans hE.out
        have he2 : (ep == 5) = true := by simpa using he
        clear he
        go_wp2_with (first | rw [HA.out] | (refine wpList_store_row rfl 36 (.tmp 13) (.tmp 86) rfl w5.heap.size (n'.cells (.slice bo' n'.body.length bc')) rfl rfl 36 _ A1.out (by kernel_rfl) rfl (by simp [Note.cells, Value.oneCell']) ?_))
        go_ret
        exact ⟨rfl, (S2.out.then_ DR.out.st).toBelow⟩
      obtain ⟨hs1, hs2⟩ := take_bad (s := s) (p := ⟨ep, sq, ak, n⟩) (by rw [HCD.out]; simpa using hc0)
      rw [hs1] at DR
      rw [HTL.out] at hs2
      subst hs2
      clear hs1 x0
      go_wp2_with (first | rw [HA.out] | (refine wpList_store_row rfl 36 (.tmp 13) (.tmp 86) rfl w5.heap.size (n'.cells (.slice bo' n'.body.length bc')) rfl rfl 36 _ A1.out (by kernel_rfl) rfl (by simp [Note.cells, Value.oneCell']) ?_))
      obtain ⟨W6, hW6⟩ : ∃ W6, WA.setRow w5.heap.size (n'.cells (.slice bo' n'.body.length bc')) = W6 := ⟨_, rfl⟩
      rw [hW6] at DR ⊢
      clear hW6 P5 D5 HCD HTL
      refine (tick_any g v5 s bs5 549755813888 W6 DR.out.one hO.out).mono ?_
      rintro e w7 ⟨x, xs, rfl, pk, sm, hs2⟩
      obtain ⟨v7, bs7, d7⟩ := DR.out.left (sm.ticked hs2)
      have D7 := Lib.hid d7
      have PK := Lib.hid pk
      clear d7 pk sm hs2
      obtain ⟨xo, xc, rfl, -, -⟩ := PK.out.row.form
      rw [tick_code (by decide) (by decide)]
      go_wp2_with fail
      refine (rtick_any r u s cs 549755813888 w7 D7.out.two hO.out).mono ?_
      rintro e w8 ⟨y, ys, rfl, pk3, sm3, hs3⟩
      obtain ⟨u8, cs8, d8⟩ := D7.out.right (sm3.ticked hs3)
      have D8 := Lib.hid d8
      have PK3 := Lib.hid pk3
      have PK2 := Lib.hid (PK.out.step hs3 (fun k hk e => by subst e; exact PK.out.row.ne D7.out.two.st (by decide) hk) (fun k e => D7.out.two.not5 (by decide) k (.inl e)))
      clear d8 pk3 sm3 hs3
      obtain ⟨yo, yc, rfl, -, -⟩ := PK3.out.row.form
      rw [tick_code (by decide) (by decide)]
      go_wp2_with fail
      refine (same_any w8 _ _ _ _ _ _ _ PK2.out PK3.out (tick_len hO.out _) (tick_bodies hO.out _)).mono ?_
      rintro e w9 ⟨rfl, s9⟩
      have D9 := Lib.hid (D8.out.still s9)
      clear s9
      go_wp2_with fail
      refine (waits_any g v7 _ bs7 w9 D9.out.one).mono ?_
      rintro e wz ⟨rfl, rfl⟩
      rw [(tick_same _).1]
      go_wp2_with fail
      refine (taken_any g v7 _ bs7 w9 D9.out.one).mono ?_
      rintro e wz ⟨rfl, rfl⟩
      rw [(tick_same _).2]
      go_wp2_with fail
      go_ret
      exact ⟨rfl, (S2.out.then_ D9.out.st).toBelow⟩
    have hlim : i < 60 := by simp at d2; omega
    have d2' : decide (i < 60) = true := by simp; omega
    obtain ⟨b0, off, p, bo, bc, d, now, rfl, hby, hcells⟩ := HST.out i hlt
    have c0i : (0 : Int) ≤ (i : Int) := by omega
    have c1i : (i : Int) < (len : Int) := by omega
    have hw1 : 0 ≤ (i : Int) + 1 ∧ (i : Int) + 1 ≤ 2000000000000 := by omega
    obtain ⟨wi1, wi2⟩ := small_wrap hw1.1 hw1.2
    clear hw1
    have CE : Hid (∀ w', Step None w2 w' → ∀ j u, (stepC p d now (.slice bo p.n.body.length bc))[j]? = some u → w'.cell? ⟨b0, off + i * 16 + j, none⟩ = some u) := Lib.hid fun w' h' j u hj => (h'.cell (p := ⟨b0, off + i * 16 + j, none⟩) (World.block_lt_of_cell? _ _ (hcells j u hj)) (fun s => s.elim)).trans (hcells j u hj)
    clear hcells
    have kb := CE.out _ BL.out 15 (.slice bo p.n.body.length bc) rfl
    cases d3 : decide ((2000 : Int) < (p.n.body.length : Int))
    rotate_left
    · have d3' : decide (2000 < p.n.body.length) = true := by simp at d3 ⊢; omega
      go_wp2_with fail
      go_ret
      exact ⟨rfl, (S2.out.then_ BL.out).toBelow⟩
    have d3' : decide (2000 < p.n.body.length) = false := by simp at d3 ⊢; omega
    have hbl : p.n.body.length ≤ 10000 := by simp at d3; omega
    have ls : Hid ((Instr.loadAt 40 (.pointer (some ⟨b0, off + i * 16, none⟩))).run Tryd.prog wr = .ok (.agg (stepC p d now (.slice bo p.n.body.length bc))) wr) := Lib.hid (load_step rfl (CE.out _ BL.out))
    have SA := Lib.hid (step_any s g r p bo bc d now w2 wr hO.out hP.out hby hbl)
    have OK2 : Hid (stepS s p d now).Ok := Lib.hid (stepS_ok hO.out p d now)
    have EP2 : Hid ((stepS s p d now).ep = 5) := Lib.hid ((stepS_ep s p d now).trans hE.out)
    clear hO hby hbl hD hP hE
    go_wp2_with (refine wpList_load_if 40 (.tmp 75) rfl rfl rfl ls.out ?_)
    refine SA.out.mono ?_
    rintro e w5 ⟨rfl, d5⟩
    have D5 := Lib.hid d5
    clear d5 SA ls kb BL
    generalize stepS s p d now = t at *
    go_wp2_with fail
    go_roundw
    case rel => exact ⟨i + 1, by omega, by first | rfl | simp, by omega, t, D5, OK2, EP2⟩
    case measure => simp [intOf]; omega
end Go.Proofs.YtgchepijbpcckaaDoor
