/- BpduOrder, walked. -/
import Derived.Test.YtfpdfenepelcdaaC2
namespace Go.Proofs.Ytfpdfenepelcdaa
open Go.RowKit Go.Gm

theorem arg_id {w : World} {v : Value} (h : Arg w (.cat 1 (.int .i64) (.cat 6 (.arr 6 1 (.int .u8)) .nil)) v) : ∃ x : Idn, v = .agg x.cells ∧ Small x.mac := by
  obtain ⟨⟨l⟩, rfl, hf⟩ := h.agg rfl
  obtain ⟨x, hx, fx⟩ := fits_id hf
  exact ⟨x, by rw [show l = x.cells.toList from hx], fx⟩
theorem load_id {w : World} {g : Nat} {x : Idn} {t : TypeId} {fr : Nat × Nat} (h : w.heap[g]? = some (.cells x.cells t fr)) : (Instr.loadAt 25 (.pointer (some ⟨g, 0, none⟩))).run Try.prog w = .ok (.agg x.cells) w := by
  have := run_loadAt_mid (P := Try.prog) w g 0 25 x.cells.toList _ (fun j u hj => by rw [blk_cell h]; simpa using hj) Try.underlying25 rfl (by kernel_rfl)
  simpa using this
theorem eq_mac9 (x y : Idn) (w : World) : (Op.equalIn 9999 23 (.agg #[.int .u8 x.m0, .int .u8 x.m1, .int .u8 x.m2, .int .u8 x.m3, .int .u8 x.m4, .int .u8 x.m5]) (.agg #[.int .u8 y.m0, .int .u8 y.m1, .int .u8 y.m2, .int .u8 y.m3, .int .u8 y.m4, .int .u8 y.m5])).run Try.prog w = .ok (x.mac == y.mac) w := by
  rw [run_equalIn_six w 9997 23 5 Try.underlying23 Try.underlying5 (fun w => by kernel_rfl)]
  congr 1
  simp [Idn.mac, Bool.and_assoc]
set_option linter.unusedSimpArgs false in
theorem eq_id10 (x y : Idn) (w : World) : (Op.equalIn 10000 25 (.agg x.cells) (.agg y.cells)).run Try.prog w = .ok (x.flat == y.flat) w := by
  have u3 := Try.underlying3
  have a3 := Try.isAgg3
  have z3 := Try.sizeOf3
  have a23 := Try.isAgg23
  have z23 := Try.sizeOf23
  have hS : Try.prog.underlying 25 = some (.struct (Try.prog.fieldsOf 25)) := by kernel_rfl
  have hm := eq_mac9 x y
  rw [show (10000 : Nat) = 9999 + 1 from rfl, run_equalIn_agg w 9999 25 _ _ hS (by kernel_rfl)]
  simp only [Program.fieldsOf, Try.underlying25]
  unfold Idn.cells
  go_simp
  by_cases h1 : x.p = y.p <;> by_cases h2 : x.mac = y.mac <;> simp [Idn.flat, h1, h2]

set_option maxHeartbeats 8000000 in
theorem bpduOrder_walk (v0 v1 v2 : Value) (w : World) (h0 : Arg w (.cat 1 (.int .i64) (.cat 6 (.arr 6 1 (.int .u8)) .nil)) v0) (h1 : Arg w (.cat 1 (.int .i64) (.cat 6 (.arr 6 1 (.int .u8)) .nil)) v1) (h2 : Arg w (.cat 1 (.int .i64) (.cat 6 (.arr 6 1 (.int .u8)) .nil)) v2) :
    Calls Try.prog 8 #[v0, v1, v2] w fun e w' => e = .returned (.bool true) ∧ Below w.heap.size w w' := by
  obtain ⟨a, rfl, fa⟩ := arg_id h0
  obtain ⟨b, rfl, fb⟩ := arg_id h1
  obtain ⟨c, rfl, fc⟩ := arg_id h2
  clear h0 h1 h2
  have q0 : (((w.alloc (.cells a.cells 25)).alloc (.cells b.cells 25)).alloc (.cells c.cells 25)).heap[w.heap.size]? = some (.cells a.cells 25 (0, 0)) := (((Step.refl None _).alloc _).alloc _).blk (heap_alloc_new w _) (fun s => s.elim)
  have q1 : (((w.alloc (.cells a.cells 25)).alloc (.cells b.cells 25)).alloc (.cells c.cells 25)).heap[w.heap.size + 1]? = some (.cells b.cells 25 (0, 0)) := ((Step.refl None _).alloc _).blk (by have := heap_alloc_new (w.alloc (.cells a.cells 25)) (.cells b.cells 25); simpa using this) (fun s => s.elim)
  have q2 : (((w.alloc (.cells a.cells 25)).alloc (.cells b.cells 25)).alloc (.cells c.cells 25)).heap[w.heap.size + 1 + 1]? = some (.cells c.cells 25 (0, 0)) := by have := heap_alloc_new ((w.alloc (.cells a.cells 25)).alloc (.cells b.cells 25)) (.cells c.cells 25); simpa using this
  have s0 := (((Step.refl None w).alloc (.cells a.cells 25)).alloc (.cells b.cells 25)).alloc (.cells c.cells 25)
  obtain ⟨W, hW⟩ : ∃ W, ((w.alloc (.cells a.cells 25)).alloc (.cells b.cells 25)).alloc (.cells c.cells 25) = W := ⟨_, rfl⟩
  rw [hW] at q0 q1 q2 s0
  have HE := Lib.hid hW
  have S0 := Lib.hid s0
  have K : Hid (∀ w', Step None W w' → (Instr.loadAt 25 (.pointer (some ⟨w.heap.size, 0, none⟩))).run Try.prog w' = .ok (.agg a.cells) w' ∧ (Instr.loadAt 25 (.pointer (some ⟨w.heap.size + 1, 0, none⟩))).run Try.prog w' = .ok (.agg b.cells) w' ∧ (Instr.loadAt 25 (.pointer (some ⟨w.heap.size + 1 + 1, 0, none⟩))).run Try.prog w' = .ok (.agg c.cells) w') := Lib.hid fun w' h' => ⟨load_id (h'.blk q0 (fun s => s.elim)), load_id (h'.blk q1 (fun s => s.elim)), load_id (h'.blk q2 (fun s => s.elim))⟩
  have C := Lib.hid (id_compare a b · fa fb)
  have D := Lib.hid (id_compare b c · fb fc)
  have E := Lib.hid (id_compare a c · fa fc)
  have F := Lib.hid (rid_compare a b · fa fb)
  have G := Lib.hid (id_compare b a · fb fa)
  have he := eq_id10 a b
  have hneg := lex_neg a.flat b.flat
  have hz := @lex_zero a.flat b.flat
  have hr := lex_rng a.flat b.flat
  have ht := @lex_trans a.flat b.flat c.flat
  have hx : (lex a.flat b.flat == 0) = (a.flat == b.flat) := by
    rw [Bool.eq_iff_iff]; simp only [beq_iff_eq]; exact hz
  rw [← hx] at he
  clear hW q0 q1 q2 s0 hz hx fa fb fc
  generalize lex a.flat b.flat = x at *
  generalize lex b.flat c.flat = y at *
  generalize lex a.flat c.flat = z at *
  generalize lex b.flat a.flat = x' at *
  have hw : wrap64 (-x') = x := by unfold wrap64; omega
  have hxx : x = 0 ∨ x < 0 ∨ 0 < x := by omega
  have hyy : y = 0 ∨ y < 0 ∨ 0 < y := by omega
  clear hneg
  go_enter Try.func8, Try.ntmps8
  go_wp2_with (rw [HE.out])
  refine (awake_any _).mono ?_
  rintro e w2 ⟨rfl, s2⟩
  have Z2 := Lib.hid s2
  clear s2
  have kk2 := K.out _ Z2.out
  obtain ⟨ka, kb, kc⟩ := kk2
  go_wp2_with (first | (refine wpList_load_if 25 (.tmp 3) rfl rfl rfl ka ?_) | (refine wpList_load_if 25 (.tmp 4) rfl rfl rfl kb ?_) | (refine wpList_load_if 25 (.tmp 5) rfl rfl rfl kc ?_))
  refine (C.out _).mono ?_
  rintro e w3 ⟨rfl, s3⟩
  have Z3 := Lib.hid (Z2.out.then_ s3)
  clear s3 ka kb kc
  have kk3 := K.out _ Z3.out
  obtain ⟨ka, kb, kc⟩ := kk3
  go_wp2_with (first | (refine wpList_load_if 25 (.tmp 3) rfl rfl rfl ka ?_) | (refine wpList_load_if 25 (.tmp 4) rfl rfl rfl kb ?_) | (refine wpList_load_if 25 (.tmp 5) rfl rfl rfl kc ?_))
  refine (D.out _).mono ?_
  rintro e w4 ⟨rfl, s4⟩
  have Z4 := Lib.hid (Z3.out.then_ s4)
  clear s4 ka kb kc
  have kk4 := K.out _ Z4.out
  obtain ⟨ka, kb, kc⟩ := kk4
  go_wp2_with (first | (refine wpList_load_if 25 (.tmp 3) rfl rfl rfl ka ?_) | (refine wpList_load_if 25 (.tmp 4) rfl rfl rfl kb ?_) | (refine wpList_load_if 25 (.tmp 5) rfl rfl rfl kc ?_))
  refine (E.out _).mono ?_
  rintro e w5 ⟨rfl, s5⟩
  have Z5 := Lib.hid (Z4.out.then_ s5)
  clear s5 ka kb kc
  have kk5 := K.out _ Z5.out
  obtain ⟨ka, kb, kc⟩ := kk5
  go_wp2_with (first | (refine wpList_load_if 25 (.tmp 3) rfl rfl rfl ka ?_) | (refine wpList_load_if 25 (.tmp 4) rfl rfl rfl kb ?_) | (refine wpList_load_if 25 (.tmp 5) rfl rfl rfl kc ?_))
  refine (F.out _).mono ?_
  rintro e w6 ⟨rfl, s6⟩
  have Z6 := Lib.hid (Z5.out.then_ s6)
  clear s6 ka kb kc
  have kk6 := K.out _ Z6.out
  obtain ⟨ka, kb, kc⟩ := kk6
  go_wp2_with (first | (refine wpList_load_if 25 (.tmp 3) rfl rfl rfl ka ?_) | (refine wpList_load_if 25 (.tmp 4) rfl rfl rfl kb ?_) | (refine wpList_load_if 25 (.tmp 5) rfl rfl rfl kc ?_))
  refine (G.out _).mono ?_
  rintro e w7 ⟨rfl, s7⟩
  have Z7 := Lib.hid (Z6.out.then_ s7)
  clear s7 ka kb kc
  have kk7 := K.out _ Z7.out
  obtain ⟨ka, kb, kc⟩ := kk7
  clear C D E F G K hr
  rcases hxx with hx | hx | hx
  · subst hx
    go_wp2_with (first | (refine wpList_load_if 25 (.tmp 3) rfl rfl rfl ka ?_) | (refine wpList_load_if 25 (.tmp 4) rfl rfl rfl kb ?_) | (refine wpList_load_if 25 (.tmp 5) rfl rfl rfl kc ?_))
    all_goals go_ret
    all_goals first
      | exact ⟨rfl, (S0.out.then_ Z7.out).toBelow⟩
      | exact ⟨by simp; omega, (S0.out.then_ Z7.out).toBelow⟩
      | (exfalso; simp_all <;> omega)
  · have dx : (x == 0) = false := by simp; omega
    go_wp2_with (first | (refine wpList_load_if 25 (.tmp 3) rfl rfl rfl ka ?_) | (refine wpList_load_if 25 (.tmp 4) rfl rfl rfl kb ?_) | (refine wpList_load_if 25 (.tmp 5) rfl rfl rfl kc ?_))
    all_goals go_ret
    all_goals first
      | exact ⟨rfl, (S0.out.then_ Z7.out).toBelow⟩
      | exact ⟨by simp; omega, (S0.out.then_ Z7.out).toBelow⟩
      | (exfalso; simp_all <;> omega)
  · have dx : (x == 0) = false := by simp; omega
    have d0 : decide (0 < x) = true := by simpa using hx
    go_wp2_with (first | (refine wpList_load_if 25 (.tmp 3) rfl rfl rfl ka ?_) | (refine wpList_load_if 25 (.tmp 4) rfl rfl rfl kb ?_) | (refine wpList_load_if 25 (.tmp 5) rfl rfl rfl kc ?_))
    all_goals go_ret
    all_goals first
      | exact ⟨rfl, (S0.out.then_ Z7.out).toBelow⟩
      | exact ⟨by simp; omega, (S0.out.then_ Z7.out).toBelow⟩
      | (exfalso; simp_all <;> omega)
end Go.Proofs.Ytfpdfenepelcdaa
