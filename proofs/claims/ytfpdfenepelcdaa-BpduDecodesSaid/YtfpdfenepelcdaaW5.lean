/- What one is in bytes: the document's Encode, of what may be. -/
import Derived.Test.YtfpdfenepelcdaaW4
namespace Go.Proofs.Ytfpdfenepelcdaa
open Go.RowKit Go.Gm

set_option linter.unusedSimpArgs false in
set_option maxHeartbeats 8000000 in
theorem rencode_change (x : Bpd) (w : World) (hyes : okB x = true) (hk : x.kind = 128) : Calls Try.prog 11 #[.agg x.cells] w fun e w' => ∃ u, e = .returned (.tuple #[u, .int .i64 0]) ∧ Buf 5 w' w.heap.size u (encB x) ∧ Step None w w' := by
  have p1 := heap_alloc_new w (.cells x.cells 27)
  have s1 := (Step.refl None w).alloc (.cells x.cells 27)
  obtain ⟨W, hW⟩ : ∃ W, w.alloc (.cells x.cells 27) = W := ⟨_, rfl⟩
  rw [hW] at p1 s1
  have HE := Lib.hid hW
  have P1 := Lib.hid p1
  have S1 := Lib.hid s1
  have R := Lib.hid (rright_any x W)
  rw [hyes] at R
  have k0 : (x.kind == 128) = true := by rw [hk]; decide
  have k2 : (x.kind == 2) = false := by rw [hk]; decide
  have k00 : (x.kind == 0) = false := by rw [hk]; decide
  clear hW p1 s1 hyes hk
  go_enter Try.func11, Try.ntmps11
  go_wp2_with (first | rw [HE.out] | (refine wpList_load_row rfl 27 (.tmp 1) rfl w.heap.size rfl 27 x.cells (0, 0) _ P1.out Try.underlying27 rfl (by kernel_rfl) ?_))
  refine R.out.mono ?_
  rintro e w2 ⟨rfl, s2⟩
  have P2 := Lib.hid (s2.blk P1.out (fun s => s.elim))
  have S2 := Lib.hid (S1.out.then_ s2)
  clear s2 P1 S1 R
  have c0 := blk_cell P2.out 0
  simp only [Bpd.cells, List.getElem?_toArray, List.getElem?_cons_zero, List.getElem?_cons_succ] at c0
  have hh : Hid (Wr w (w2.alloc (.cells #[.int .u8 0, .int .u8 0, .int .u8 0, .int .u8 (x.kind % 256)] 5)) w.heap.size x (.slice (some ⟨w2.heap.size, 0, none⟩) 4 4) [0, 0, 0, x.kind % 256]) := Lib.hid
    ⟨((Step.refl None w2).alloc _).blk P2.out (fun s => s.elim), ⟨Row.ofBlock (cur := #[.int .u8 0, .int .u8 0, .int .u8 0, .int .u8 (x.kind % 256)]) (heap_alloc_new w2 _) (Nat.le_refl _) (by simp [maxLen]) (by simp), fun k hk => by simp [Leads, Value.ownBlock] at hk; have := S2.out.size; omega⟩, S2.out.alloc _⟩
  obtain ⟨W3, hW3⟩ : ∃ W3, w2.alloc (.cells #[.int .u8 0, .int .u8 0, .int .u8 0, .int .u8 (x.kind % 256)] 5) = W3 := ⟨_, rfl⟩
  rw [hW3] at hh
  have HE3 := Lib.hid hW3
  clear hW3
  have d0 := blk_cell hh.out.one 0
  have d1 := blk_cell hh.out.one 1
  simp only [Bpd.cells, List.getElem?_toArray, List.getElem?_cons_zero, List.getElem?_cons_succ] at d0 d1
  go_wp2_with (rw [HE3.out])
  go_ret2
  exact ⟨_, rfl, by simpa [encB, version, k0, k2] using hh.out.buf, hh.out.st⟩

set_option linter.unusedSimpArgs false in
set_option maxHeartbeats 8000000 in
theorem rencode_config (x : Bpd) (w : World) (hyes : okB x = true) (hk : x.kind = 0) : Calls Try.prog 11 #[.agg x.cells] w fun e w' => ∃ u, e = .returned (.tuple #[u, .int .i64 0]) ∧ Buf 5 w' w.heap.size u (encB x) ∧ Step None w w' := by
  have p1 := heap_alloc_new w (.cells x.cells 27)
  have s1 := (Step.refl None w).alloc (.cells x.cells 27)
  obtain ⟨W, hW⟩ : ∃ W, w.alloc (.cells x.cells 27) = W := ⟨_, rfl⟩
  rw [hW] at p1 s1
  have HE := Lib.hid hW
  have P1 := Lib.hid p1
  have S1 := Lib.hid s1
  have R := Lib.hid (rright_any x W)
  rw [hyes] at R
  have k0 : (x.kind == 128) = false := by rw [hk]; decide
  have k2 : (x.kind == 2) = false := by rw [hk]; decide
  have k00 : (x.kind == 0) = true := by rw [hk]; decide
  have hf : fine x = true := by
    simp only [okB, k0, k2, k00] at hyes
    simpa using hyes
  have G := Lib.hid (fine_rng hf)
  clear hf
  clear hW p1 s1 hyes hk
  go_enter Try.func11, Try.ntmps11
  go_wp2_with (first | rw [HE.out] | (refine wpList_load_row rfl 27 (.tmp 1) rfl w.heap.size rfl 27 x.cells (0, 0) _ P1.out Try.underlying27 rfl (by kernel_rfl) ?_))
  refine R.out.mono ?_
  rintro e w2 ⟨rfl, s2⟩
  have P2 := Lib.hid (s2.blk P1.out (fun s => s.elim))
  have S2 := Lib.hid (S1.out.then_ s2)
  clear s2 P1 S1 R
  have c0 := blk_cell P2.out 0
  simp only [Bpd.cells, List.getElem?_toArray, List.getElem?_cons_zero, List.getElem?_cons_succ] at c0
  have hh : Hid (Wr w (w2.alloc (.cells #[.int .u8 0, .int .u8 0, .int .u8 0, .int .u8 (x.kind % 256)] 5)) w.heap.size x (.slice (some ⟨w2.heap.size, 0, none⟩) 4 4) [0, 0, 0, x.kind % 256]) := Lib.hid
    ⟨((Step.refl None w2).alloc _).blk P2.out (fun s => s.elim), ⟨Row.ofBlock (cur := #[.int .u8 0, .int .u8 0, .int .u8 0, .int .u8 (x.kind % 256)]) (heap_alloc_new w2 _) (Nat.le_refl _) (by simp [maxLen]) (by simp), fun k hk => by simp [Leads, Value.ownBlock] at hk; have := S2.out.size; omega⟩, S2.out.alloc _⟩
  obtain ⟨W3, hW3⟩ : ∃ W3, w2.alloc (.cells #[.int .u8 0, .int .u8 0, .int .u8 0, .int .u8 (x.kind % 256)] 5) = W3 := ⟨_, rfl⟩
  rw [hW3] at hh
  have HE3 := Lib.hid hW3
  clear hW3
  have d0 := blk_cell hh.out.one 0
  have d1 := blk_cell hh.out.one 1
  simp only [Bpd.cells, List.getElem?_toArray, List.getElem?_cons_zero, List.getElem?_cons_succ] at d0 d1
  go_wp2_with (first | rw [HE3.out] | (at_builtin; refine wpList_append_row T29 rfl (.tmp 23) (.tmp 27) rfl rfl (hh.out.buf.row.alloc _) rfl (Src.ofBlock T29 (c := 1) (heap_alloc_new W3 (.cells #[.int .u8 (x.flags % 256)] 5)) (by rfl) (by simp [Value.oneCell'])) ?ha ?hb ?_))
  case ha => simp [maxLen]
  case hb => simp
  intro v4 w4 r4 t4 g4
  have h4 := Lib.hid ((hh.out.still ((Step.refl None W3).alloc (.cells #[.int .u8 (x.flags % 256)] 5))).more (more := [x.flags % 256]) r4 t4 (by simpa using g4))
  clear r4 t4 g4 hh c0 d0 d1
  go_wp2_with (first | (refine wpList_load_if 25 (.tmp 30) rfl rfl rfl (load_root h4.out.one) ?_))
  refine (id_any x.root _ G.out.2.2.2.2.2.1.1 (by have := G.out.2.2.2.2.2.1; omega)).mono ?_
  rintro e a5 ⟨u5, rfl, f5, s5⟩
  have m5 := Lib.hid (h4.out.still s5)
  have B5 := Lib.hid f5
  clear s5 f5 h4
  go_wp2_with (first | (at_builtin; refine wpList_append_row T29 rfl (.tmp 29) (.tmp 32) rfl rfl m5.out.buf.row rfl (Row.src T29 B5.out.row (nums_one _ _)) ?ha ?hb ?_))
  case ha => simp [maxLen, two, four, Idn.bytes, Idn.mac]
  case hb => simp [two, four, Idn.bytes, Idn.mac]
  intro v5 w5 r5 t5 g5
  have h5 := Lib.hid (m5.out.more (more := x.root.bytes) r5 t5 g5)
  clear r5 t5 g5 B5 m5
  have c6 := blk_cell h5.out.one 9
  simp only [Bpd.cells, List.getElem?_toArray, List.getElem?_cons_zero, List.getElem?_cons_succ] at c6
  go_wp2_with fail
  refine (number_four x.cost _ G.out.2.2.2.2.2.2.2.2.1 (by have := G.out.2.2.2.2.2.2.2.2; omega)).mono ?_
  rintro e a6 ⟨u6, rfl, f6, s6⟩
  have m6 := Lib.hid (h5.out.still s6)
  have B6 := Lib.hid f6
  clear s6 f6 h5 c6
  go_wp2_with (first | (at_builtin; refine wpList_append_row T29 rfl (.tmp 34) (.tmp 37) rfl rfl m6.out.buf.row rfl (Row.src T29 B6.out.row (nums_one _ _)) ?ha ?hb ?_))
  case ha => simp [maxLen, two, four, Idn.bytes, Idn.mac]
  case hb => simp [two, four, Idn.bytes, Idn.mac]
  intro v6 w6 r6 t6 g6
  have h6 := Lib.hid (m6.out.more (more := four x.cost) r6 t6 g6)
  clear r6 t6 g6 B6 m6
  go_wp2_with (first | (refine wpList_load_if 25 (.tmp 40) rfl rfl rfl (load_bridge h6.out.one) ?_))
  refine (id_any x.bridge _ G.out.2.2.2.2.2.2.1.1 (by have := G.out.2.2.2.2.2.2.1; omega)).mono ?_
  rintro e a7 ⟨u7, rfl, f7, s7⟩
  have m7 := Lib.hid (h6.out.still s7)
  have B7 := Lib.hid f7
  clear s7 f7 h6
  go_wp2_with (first | (at_builtin; refine wpList_append_row T29 rfl (.tmp 39) (.tmp 42) rfl rfl m7.out.buf.row rfl (Row.src T29 B7.out.row (nums_one _ _)) ?ha ?hb ?_))
  case ha => simp [maxLen, two, four, Idn.bytes, Idn.mac]
  case hb => simp [two, four, Idn.bytes, Idn.mac]
  intro v7 w7 r7 t7 g7
  have h7 := Lib.hid (m7.out.more (more := x.bridge.bytes) r7 t7 g7)
  clear r7 t7 g7 B7 m7
  have c8 := blk_cell h7.out.one 17
  simp only [Bpd.cells, List.getElem?_toArray, List.getElem?_cons_zero, List.getElem?_cons_succ] at c8
  go_wp2_with fail
  refine (number_two x.port _ G.out.2.2.2.2.2.2.2.1.1 (by have := G.out.2.2.2.2.2.2.2.1; omega)).mono ?_
  rintro e a8 ⟨u8, rfl, f8, s8⟩
  have m8 := Lib.hid (h7.out.still s8)
  have B8 := Lib.hid f8
  clear s8 f8 h7 c8
  go_wp2_with (first | (at_builtin; refine wpList_append_row T29 rfl (.tmp 44) (.tmp 47) rfl rfl m8.out.buf.row rfl (Row.src T29 B8.out.row (nums_one _ _)) ?ha ?hb ?_))
  case ha => simp [maxLen, two, four, Idn.bytes, Idn.mac]
  case hb => simp [two, four, Idn.bytes, Idn.mac]
  intro v8 w8 r8 t8 g8
  have h8 := Lib.hid (m8.out.more (more := two x.port) r8 t8 g8)
  clear r8 t8 g8 B8 m8
  have c9 := blk_cell h8.out.one 18
  simp only [Bpd.cells, List.getElem?_toArray, List.getElem?_cons_zero, List.getElem?_cons_succ] at c9
  go_wp2_with fail
  refine (number_two x.age _ G.out.1.1 (by have := G.out.1; omega)).mono ?_
  rintro e a9 ⟨u9, rfl, f9, s9⟩
  have m9 := Lib.hid (h8.out.still s9)
  have B9 := Lib.hid f9
  clear s9 f9 h8 c9
  go_wp2_with (first | (at_builtin; refine wpList_append_row T29 rfl (.tmp 49) (.tmp 52) rfl rfl m9.out.buf.row rfl (Row.src T29 B9.out.row (nums_one _ _)) ?ha ?hb ?_))
  case ha => simp [maxLen, two, four, Idn.bytes, Idn.mac]
  case hb => simp [two, four, Idn.bytes, Idn.mac]
  intro v9 w9 r9 t9 g9
  have h9 := Lib.hid (m9.out.more (more := two x.age) r9 t9 g9)
  clear r9 t9 g9 B9 m9
  have c10 := blk_cell h9.out.one 19
  simp only [Bpd.cells, List.getElem?_toArray, List.getElem?_cons_zero, List.getElem?_cons_succ] at c10
  go_wp2_with fail
  refine (number_two x.most _ G.out.2.1.1 (by have := G.out.2.1; omega)).mono ?_
  rintro e a10 ⟨u10, rfl, f10, s10⟩
  have m10 := Lib.hid (h9.out.still s10)
  have B10 := Lib.hid f10
  clear s10 f10 h9 c10
  go_wp2_with (first | (at_builtin; refine wpList_append_row T29 rfl (.tmp 54) (.tmp 57) rfl rfl m10.out.buf.row rfl (Row.src T29 B10.out.row (nums_one _ _)) ?ha ?hb ?_))
  case ha => simp [maxLen, two, four, Idn.bytes, Idn.mac]
  case hb => simp [two, four, Idn.bytes, Idn.mac]
  intro v10 w10 r10 t10 g10
  have h10 := Lib.hid (m10.out.more (more := two x.most) r10 t10 g10)
  clear r10 t10 g10 B10 m10
  have c11 := blk_cell h10.out.one 20
  simp only [Bpd.cells, List.getElem?_toArray, List.getElem?_cons_zero, List.getElem?_cons_succ] at c11
  go_wp2_with fail
  refine (number_two x.hello _ G.out.2.2.1.1 (by have := G.out.2.2.1; omega)).mono ?_
  rintro e a11 ⟨u11, rfl, f11, s11⟩
  have m11 := Lib.hid (h10.out.still s11)
  have B11 := Lib.hid f11
  clear s11 f11 h10 c11
  go_wp2_with (first | (at_builtin; refine wpList_append_row T29 rfl (.tmp 59) (.tmp 62) rfl rfl m11.out.buf.row rfl (Row.src T29 B11.out.row (nums_one _ _)) ?ha ?hb ?_))
  case ha => simp [maxLen, two, four, Idn.bytes, Idn.mac]
  case hb => simp [two, four, Idn.bytes, Idn.mac]
  intro v11 w11 r11 t11 g11
  have h11 := Lib.hid (m11.out.more (more := two x.hello) r11 t11 g11)
  clear r11 t11 g11 B11 m11
  have c12 := blk_cell h11.out.one 21
  simp only [Bpd.cells, List.getElem?_toArray, List.getElem?_cons_zero, List.getElem?_cons_succ] at c12
  go_wp2_with fail
  refine (number_two x.fwd _ G.out.2.2.2.1.1 (by have := G.out.2.2.2.1; omega)).mono ?_
  rintro e a12 ⟨u12, rfl, f12, s12⟩
  have m12 := Lib.hid (h11.out.still s12)
  have B12 := Lib.hid f12
  clear s12 f12 h11 c12
  go_wp2_with (first | (at_builtin; refine wpList_append_row T29 rfl (.tmp 64) (.tmp 67) rfl rfl m12.out.buf.row rfl (Row.src T29 B12.out.row (nums_one _ _)) ?ha ?hb ?_))
  case ha => simp [maxLen, two, four, Idn.bytes, Idn.mac]
  case hb => simp [two, four, Idn.bytes, Idn.mac]
  intro v12 w12 r12 t12 g12
  have h12 := Lib.hid (m12.out.more (more := two x.fwd) r12 t12 g12)
  clear r12 t12 g12 B12 m12
  have z0 := blk_cell h12.out.one 0
  simp only [Bpd.cells, List.getElem?_toArray, List.getElem?_cons_zero, List.getElem?_cons_succ] at z0
  go_wp2_with fail
  go_ret2
  exact ⟨_, rfl, by simpa [encB, version, k0, k2] using h12.out.buf, h12.out.st⟩

set_option linter.unusedSimpArgs false in
set_option maxHeartbeats 8000000 in
theorem rencode_rapid (x : Bpd) (w : World) (hyes : okB x = true) (hk : x.kind = 2) : Calls Try.prog 11 #[.agg x.cells] w fun e w' => ∃ u, e = .returned (.tuple #[u, .int .i64 0]) ∧ Buf 5 w' w.heap.size u (encB x) ∧ Step None w w' := by
  have p1 := heap_alloc_new w (.cells x.cells 27)
  have s1 := (Step.refl None w).alloc (.cells x.cells 27)
  obtain ⟨W, hW⟩ : ∃ W, w.alloc (.cells x.cells 27) = W := ⟨_, rfl⟩
  rw [hW] at p1 s1
  have HE := Lib.hid hW
  have P1 := Lib.hid p1
  have S1 := Lib.hid s1
  have R := Lib.hid (rright_any x W)
  rw [hyes] at R
  have k0 : (x.kind == 128) = false := by rw [hk]; decide
  have k2 : (x.kind == 2) = true := by rw [hk]; decide
  have k00 : (x.kind == 0) = false := by rw [hk]; decide
  have hf : fine x = true := by
    simp only [okB, k0, k2, k00] at hyes
    simpa using hyes
  have G := Lib.hid (fine_rng hf)
  clear hf
  clear hW p1 s1 hyes hk
  go_enter Try.func11, Try.ntmps11
  go_wp2_with (first | rw [HE.out] | (refine wpList_load_row rfl 27 (.tmp 1) rfl w.heap.size rfl 27 x.cells (0, 0) _ P1.out Try.underlying27 rfl (by kernel_rfl) ?_))
  refine R.out.mono ?_
  rintro e w2 ⟨rfl, s2⟩
  have P2 := Lib.hid (s2.blk P1.out (fun s => s.elim))
  have S2 := Lib.hid (S1.out.then_ s2)
  clear s2 P1 S1 R
  have c0 := blk_cell P2.out 0
  simp only [Bpd.cells, List.getElem?_toArray, List.getElem?_cons_zero, List.getElem?_cons_succ] at c0
  have hh : Hid (Wr w (w2.alloc (.cells #[.int .u8 0, .int .u8 0, .int .u8 2, .int .u8 (x.kind % 256)] 5)) w.heap.size x (.slice (some ⟨w2.heap.size, 0, none⟩) 4 4) [0, 0, 2, x.kind % 256]) := Lib.hid
    ⟨((Step.refl None w2).alloc _).blk P2.out (fun s => s.elim), ⟨Row.ofBlock (cur := #[.int .u8 0, .int .u8 0, .int .u8 2, .int .u8 (x.kind % 256)]) (heap_alloc_new w2 _) (Nat.le_refl _) (by simp [maxLen]) (by simp), fun k hk => by simp [Leads, Value.ownBlock] at hk; have := S2.out.size; omega⟩, S2.out.alloc _⟩
  obtain ⟨W3, hW3⟩ : ∃ W3, w2.alloc (.cells #[.int .u8 0, .int .u8 0, .int .u8 2, .int .u8 (x.kind % 256)] 5) = W3 := ⟨_, rfl⟩
  rw [hW3] at hh
  have HE3 := Lib.hid hW3
  clear hW3
  have d0 := blk_cell hh.out.one 0
  have d1 := blk_cell hh.out.one 1
  simp only [Bpd.cells, List.getElem?_toArray, List.getElem?_cons_zero, List.getElem?_cons_succ] at d0 d1
  go_wp2_with (first | rw [HE3.out] | (at_builtin; refine wpList_append_row T29 rfl (.tmp 23) (.tmp 27) rfl rfl (hh.out.buf.row.alloc _) rfl (Src.ofBlock T29 (c := 1) (heap_alloc_new W3 (.cells #[.int .u8 (x.flags % 256)] 5)) (by rfl) (by simp [Value.oneCell'])) ?ha ?hb ?_))
  case ha => simp [maxLen]
  case hb => simp
  intro v4 w4 r4 t4 g4
  have h4 := Lib.hid ((hh.out.still ((Step.refl None W3).alloc (.cells #[.int .u8 (x.flags % 256)] 5))).more (more := [x.flags % 256]) r4 t4 (by simpa using g4))
  clear r4 t4 g4 hh c0 d0 d1
  go_wp2_with (first | (refine wpList_load_if 25 (.tmp 30) rfl rfl rfl (load_root h4.out.one) ?_))
  refine (id_any x.root _ G.out.2.2.2.2.2.1.1 (by have := G.out.2.2.2.2.2.1; omega)).mono ?_
  rintro e a5 ⟨u5, rfl, f5, s5⟩
  have m5 := Lib.hid (h4.out.still s5)
  have B5 := Lib.hid f5
  clear s5 f5 h4
  go_wp2_with (first | (at_builtin; refine wpList_append_row T29 rfl (.tmp 29) (.tmp 32) rfl rfl m5.out.buf.row rfl (Row.src T29 B5.out.row (nums_one _ _)) ?ha ?hb ?_))
  case ha => simp [maxLen, two, four, Idn.bytes, Idn.mac]
  case hb => simp [two, four, Idn.bytes, Idn.mac]
  intro v5 w5 r5 t5 g5
  have h5 := Lib.hid (m5.out.more (more := x.root.bytes) r5 t5 g5)
  clear r5 t5 g5 B5 m5
  have c6 := blk_cell h5.out.one 9
  simp only [Bpd.cells, List.getElem?_toArray, List.getElem?_cons_zero, List.getElem?_cons_succ] at c6
  go_wp2_with fail
  refine (number_four x.cost _ G.out.2.2.2.2.2.2.2.2.1 (by have := G.out.2.2.2.2.2.2.2.2; omega)).mono ?_
  rintro e a6 ⟨u6, rfl, f6, s6⟩
  have m6 := Lib.hid (h5.out.still s6)
  have B6 := Lib.hid f6
  clear s6 f6 h5 c6
  go_wp2_with (first | (at_builtin; refine wpList_append_row T29 rfl (.tmp 34) (.tmp 37) rfl rfl m6.out.buf.row rfl (Row.src T29 B6.out.row (nums_one _ _)) ?ha ?hb ?_))
  case ha => simp [maxLen, two, four, Idn.bytes, Idn.mac]
  case hb => simp [two, four, Idn.bytes, Idn.mac]
  intro v6 w6 r6 t6 g6
  have h6 := Lib.hid (m6.out.more (more := four x.cost) r6 t6 g6)
  clear r6 t6 g6 B6 m6
  go_wp2_with (first | (refine wpList_load_if 25 (.tmp 40) rfl rfl rfl (load_bridge h6.out.one) ?_))
  refine (id_any x.bridge _ G.out.2.2.2.2.2.2.1.1 (by have := G.out.2.2.2.2.2.2.1; omega)).mono ?_
  rintro e a7 ⟨u7, rfl, f7, s7⟩
  have m7 := Lib.hid (h6.out.still s7)
  have B7 := Lib.hid f7
  clear s7 f7 h6
  go_wp2_with (first | (at_builtin; refine wpList_append_row T29 rfl (.tmp 39) (.tmp 42) rfl rfl m7.out.buf.row rfl (Row.src T29 B7.out.row (nums_one _ _)) ?ha ?hb ?_))
  case ha => simp [maxLen, two, four, Idn.bytes, Idn.mac]
  case hb => simp [two, four, Idn.bytes, Idn.mac]
  intro v7 w7 r7 t7 g7
  have h7 := Lib.hid (m7.out.more (more := x.bridge.bytes) r7 t7 g7)
  clear r7 t7 g7 B7 m7
  have c8 := blk_cell h7.out.one 17
  simp only [Bpd.cells, List.getElem?_toArray, List.getElem?_cons_zero, List.getElem?_cons_succ] at c8
  go_wp2_with fail
  refine (number_two x.port _ G.out.2.2.2.2.2.2.2.1.1 (by have := G.out.2.2.2.2.2.2.2.1; omega)).mono ?_
  rintro e a8 ⟨u8, rfl, f8, s8⟩
  have m8 := Lib.hid (h7.out.still s8)
  have B8 := Lib.hid f8
  clear s8 f8 h7 c8
  go_wp2_with (first | (at_builtin; refine wpList_append_row T29 rfl (.tmp 44) (.tmp 47) rfl rfl m8.out.buf.row rfl (Row.src T29 B8.out.row (nums_one _ _)) ?ha ?hb ?_))
  case ha => simp [maxLen, two, four, Idn.bytes, Idn.mac]
  case hb => simp [two, four, Idn.bytes, Idn.mac]
  intro v8 w8 r8 t8 g8
  have h8 := Lib.hid (m8.out.more (more := two x.port) r8 t8 g8)
  clear r8 t8 g8 B8 m8
  have c9 := blk_cell h8.out.one 18
  simp only [Bpd.cells, List.getElem?_toArray, List.getElem?_cons_zero, List.getElem?_cons_succ] at c9
  go_wp2_with fail
  refine (number_two x.age _ G.out.1.1 (by have := G.out.1; omega)).mono ?_
  rintro e a9 ⟨u9, rfl, f9, s9⟩
  have m9 := Lib.hid (h8.out.still s9)
  have B9 := Lib.hid f9
  clear s9 f9 h8 c9
  go_wp2_with (first | (at_builtin; refine wpList_append_row T29 rfl (.tmp 49) (.tmp 52) rfl rfl m9.out.buf.row rfl (Row.src T29 B9.out.row (nums_one _ _)) ?ha ?hb ?_))
  case ha => simp [maxLen, two, four, Idn.bytes, Idn.mac]
  case hb => simp [two, four, Idn.bytes, Idn.mac]
  intro v9 w9 r9 t9 g9
  have h9 := Lib.hid (m9.out.more (more := two x.age) r9 t9 g9)
  clear r9 t9 g9 B9 m9
  have c10 := blk_cell h9.out.one 19
  simp only [Bpd.cells, List.getElem?_toArray, List.getElem?_cons_zero, List.getElem?_cons_succ] at c10
  go_wp2_with fail
  refine (number_two x.most _ G.out.2.1.1 (by have := G.out.2.1; omega)).mono ?_
  rintro e a10 ⟨u10, rfl, f10, s10⟩
  have m10 := Lib.hid (h9.out.still s10)
  have B10 := Lib.hid f10
  clear s10 f10 h9 c10
  go_wp2_with (first | (at_builtin; refine wpList_append_row T29 rfl (.tmp 54) (.tmp 57) rfl rfl m10.out.buf.row rfl (Row.src T29 B10.out.row (nums_one _ _)) ?ha ?hb ?_))
  case ha => simp [maxLen, two, four, Idn.bytes, Idn.mac]
  case hb => simp [two, four, Idn.bytes, Idn.mac]
  intro v10 w10 r10 t10 g10
  have h10 := Lib.hid (m10.out.more (more := two x.most) r10 t10 g10)
  clear r10 t10 g10 B10 m10
  have c11 := blk_cell h10.out.one 20
  simp only [Bpd.cells, List.getElem?_toArray, List.getElem?_cons_zero, List.getElem?_cons_succ] at c11
  go_wp2_with fail
  refine (number_two x.hello _ G.out.2.2.1.1 (by have := G.out.2.2.1; omega)).mono ?_
  rintro e a11 ⟨u11, rfl, f11, s11⟩
  have m11 := Lib.hid (h10.out.still s11)
  have B11 := Lib.hid f11
  clear s11 f11 h10 c11
  go_wp2_with (first | (at_builtin; refine wpList_append_row T29 rfl (.tmp 59) (.tmp 62) rfl rfl m11.out.buf.row rfl (Row.src T29 B11.out.row (nums_one _ _)) ?ha ?hb ?_))
  case ha => simp [maxLen, two, four, Idn.bytes, Idn.mac]
  case hb => simp [two, four, Idn.bytes, Idn.mac]
  intro v11 w11 r11 t11 g11
  have h11 := Lib.hid (m11.out.more (more := two x.hello) r11 t11 g11)
  clear r11 t11 g11 B11 m11
  have c12 := blk_cell h11.out.one 21
  simp only [Bpd.cells, List.getElem?_toArray, List.getElem?_cons_zero, List.getElem?_cons_succ] at c12
  go_wp2_with fail
  refine (number_two x.fwd _ G.out.2.2.2.1.1 (by have := G.out.2.2.2.1; omega)).mono ?_
  rintro e a12 ⟨u12, rfl, f12, s12⟩
  have m12 := Lib.hid (h11.out.still s12)
  have B12 := Lib.hid f12
  clear s12 f12 h11 c12
  go_wp2_with (first | (at_builtin; refine wpList_append_row T29 rfl (.tmp 64) (.tmp 67) rfl rfl m12.out.buf.row rfl (Row.src T29 B12.out.row (nums_one _ _)) ?ha ?hb ?_))
  case ha => simp [maxLen, two, four, Idn.bytes, Idn.mac]
  case hb => simp [two, four, Idn.bytes, Idn.mac]
  intro v12 w12 r12 t12 g12
  have h12 := Lib.hid (m12.out.more (more := two x.fwd) r12 t12 g12)
  clear r12 t12 g12 B12 m12
  have z0 := blk_cell h12.out.one 0
  simp only [Bpd.cells, List.getElem?_toArray, List.getElem?_cons_zero, List.getElem?_cons_succ] at z0
  go_wp2_with (first | (at_builtin; refine wpList_append_row T29 rfl (.tmp 72) (.tmp 73) rfl rfl (h12.out.buf.row.alloc _) rfl (Src.ofBlock T29 (c := 1) (heap_alloc_new _ (.cells #[.int .u8 0] 5)) (by rfl) (by simp [Value.oneCell'])) ?ha ?hb ?_))
  case ha => simp [maxLen, two, four, Idn.bytes, Idn.mac]
  case hb => simp [two, four, Idn.bytes, Idn.mac]
  intro vz wz rz tz gz
  have hz := Lib.hid ((h12.out.still ((Step.refl None _).alloc (.cells #[.int .u8 0] 5))).more (more := [0]) rz tz (by simpa using gz))
  clear rz tz gz
  go_wp2_with fail
  go_ret2
  exact ⟨_, rfl, by simpa [encB, version, k0, k2] using hz.out.buf, hz.out.st⟩

end Go.Proofs.Ytfpdfenepelcdaa
