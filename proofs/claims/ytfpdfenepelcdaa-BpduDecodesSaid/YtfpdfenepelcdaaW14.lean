/- BpduRight, walked. -/
import Derived.Test.YtfpdfenepelcdaaW13
namespace Go.Proofs.Ytfpdfenepelcdaa
open Go.RowKit Go.Gm

theorem step_setRow {S : Nat → Prop} {a w : World} (h : Step S a w) {g : Nat} (hg : g < a.heap.size → S g) (cs : Array Value) : Step S a (w.setRow g cs) :=
  ⟨h.os, h.tape, h.output, by rw [setRow_size]; exact h.size, fun k hk hn => (setRow_other w g k cs (fun e => hn (by subst e; exact hg hk))).trans (h.block k hk hn)⟩
theorem encB_len (x : Bpd) : (encB x).length = if x.kind == 128 then 4 else if x.kind == 2 then 36 else 35 := by
  unfold encB
  cases k1 : (x.kind == 128)
  · simp only [Bool.false_eq_true, if_false]
    cases k2 : (x.kind == 2) <;> simp [Idn.bytes, Idn.mac, two, four]
  · simp

set_option maxHeartbeats 8000000 in
theorem bpduRight_walk (v0 : Value) (w : World) (h0 : Arg w (.cat 1 (.int .i64) (.cat 1 (.int .i64) (.cat 7 (.cat 1 (.int .i64) (.cat 6 (.arr 6 1 (.int .u8)) .nil)) (.cat 1 (.int .i64) (.cat 7 (.cat 1 (.int .i64) (.cat 6 (.arr 6 1 (.int .u8)) .nil)) (.cat 1 (.int .i64) (.cat 1 (.int .i64) (.cat 1 (.int .i64) (.cat 1 (.int .i64) (.cat 1 (.int .i64) .nil)))))))))) v0) :
    Calls Try.prog 5 #[v0] w fun e w' => e = .returned (.bool true) ∧ Below w.heap.size w w' := by
  obtain ⟨x, rfl, -⟩ := arg_bpd h0
  clear h0
  have p1 := heap_alloc_new w (.cells x.cells 27)
  have s1 := (Step.refl None w).alloc (.cells x.cells 27)
  obtain ⟨W, hW⟩ : ∃ W, w.alloc (.cells x.cells 27) = W := ⟨_, rfl⟩
  rw [hW] at p1 s1
  have HE := Lib.hid hW
  have P1 := Lib.hid p1
  have S1 := Lib.hid s1
  clear hW p1 s1
  have C := Lib.hid (encode_all x)
  have E := Lib.hid (right_any x)
  have he : ∀ w, (Op.equalIn 10000 27 (.agg x.cells) (.agg (bare 128).cells)).run Try.prog w = .ok (x.flat == (bare 128).flat) w := fun w => eq_bpd x (bare 128) w
  unfold code encA at C
  cases hr : okB x
  · rw [hr] at E C
    rw [if_neg (by decide), if_neg (by decide)] at C
    go_enter Try.func5, Try.ntmps5
    go_wp2_with (rw [HE.out])
    refine (awake_any _).mono ?_
    rintro e w2 ⟨rfl, s2⟩
    have P2 := Lib.hid (s2.blk P1.out (fun s => s.elim))
    have S2 := Lib.hid (S1.out.then_ s2)
    clear s2 P1 S1 HE
    have k2 := load_bpd P2.out
    go_wp2_with (refine wpList_load_if 27 (.tmp 1) rfl rfl rfl k2 ?_)
    refine (C.out _).mono ?_
    rintro e w3 ⟨u1, rfl, b1, s3⟩
    obtain ⟨ao, cp, rfl⟩ := b1.form
    have P3 := Lib.hid (s3.blk P2.out (fun s => s.elim))
    have S3 := Lib.hid (S2.out.then_ s3)
    have N0 := heap_alloc_new w3 (.cells #[.int .i64 0, .int .i64 0, .int .i64 0, .int .u8 0, .int .u8 0, .int .u8 0, .int .u8 0, .int .u8 0, .int .u8 0, .int .i64 0, .int .i64 0, .int .u8 0, .int .u8 0, .int .u8 0, .int .u8 0, .int .u8 0, .int .u8 0, .int .i64 0, .int .i64 0, .int .i64 0, .int .i64 0, .int .i64 0] 27)
    have al := (Step.refl None w3).alloc (.cells #[.int .i64 0, .int .i64 0, .int .i64 0, .int .u8 0, .int .u8 0, .int .u8 0, .int .u8 0, .int .u8 0, .int .u8 0, .int .i64 0, .int .i64 0, .int .u8 0, .int .u8 0, .int .u8 0, .int .u8 0, .int .u8 0, .int .u8 0, .int .i64 0, .int .i64 0, .int .i64 0, .int .i64 0, .int .i64 0] 27)
    obtain ⟨W0, hW0⟩ : ∃ W, w3.alloc (.cells #[.int .i64 0, .int .i64 0, .int .i64 0, .int .u8 0, .int .u8 0, .int .u8 0, .int .u8 0, .int .u8 0, .int .u8 0, .int .i64 0, .int .i64 0, .int .u8 0, .int .u8 0, .int .u8 0, .int .u8 0, .int .u8 0, .int .u8 0, .int .i64 0, .int .i64 0, .int .i64 0, .int .i64 0, .int .i64 0] 27) = W := ⟨_, rfl⟩
    rw [hW0] at N0 al
    have HE0 := Lib.hid hW0
    have NN := Lib.hid N0
    have N4 : (W0.setRow w3.heap.size (bare 128).cells).heap[w3.heap.size]? = some (.cells (bare 128).cells 27 (0, 0)) := setRow_heap _ _ _ _ _ _ N0
    have al2 : Step None w3 (W0.setRow w3.heap.size (bare 128).cells) := step_setRow al (fun h => by omega) _
    have Z4 := Lib.hid (S3.out.then_ al2)
    have P4 := Lib.hid (al2.blk P3.out (fun s => s.elim))
    have B4 := Lib.hid N4
    obtain ⟨W4, hW4⟩ : ∃ W, W0.setRow w3.heap.size (bare 128).cells = W := ⟨_, rfl⟩
    rw [hW4] at Z4 P4 B4
    have HE4 : Hid (W0.setRow w3.heap.size #[.int .i64 128, .int .i64 0, .int .i64 0, .int .u8 0, .int .u8 0, .int .u8 0, .int .u8 0, .int .u8 0, .int .u8 0, .int .i64 0, .int .i64 0, .int .u8 0, .int .u8 0, .int .u8 0, .int .u8 0, .int .u8 0, .int .u8 0, .int .i64 0, .int .i64 0, .int .i64 0, .int .i64 0, .int .i64 0] = W4) := Lib.hid hW4
    clear b1 s3 k2 P2 S2 P3 hW4 N4 al al2 C hW0 N0
    have k4 := load_bpd P4.out
    go_wp2_with (first | rw [HE0.out] | rw [HE4.out] | (refine wpList_store_row rfl 27 (.tmp 6) (.tmp 13) rfl w3.heap.size #[.int .i64 128, .int .i64 0, .int .i64 0, .int .u8 0, .int .u8 0, .int .u8 0, .int .u8 0, .int .u8 0, .int .u8 0, .int .i64 0, .int .i64 0, .int .u8 0, .int .u8 0, .int .u8 0, .int .u8 0, .int .u8 0, .int .u8 0, .int .i64 0, .int .i64 0, .int .i64 0, .int .i64 0, .int .i64 0] rfl rfl 27 #[.int .i64 0, .int .i64 0, .int .i64 0, .int .u8 0, .int .u8 0, .int .u8 0, .int .u8 0, .int .u8 0, .int .u8 0, .int .i64 0, .int .i64 0, .int .u8 0, .int .u8 0, .int .u8 0, .int .u8 0, .int .u8 0, .int .u8 0, .int .i64 0, .int .i64 0, .int .i64 0, .int .i64 0, .int .i64 0] NN.out (by kernel_rfl) rfl (by simp [Value.oneCell']) ?_) | (refine wpList_load_if 27 (.tmp 1) rfl rfl rfl k4 ?_))
    refine (E.out _).mono ?_
    rintro e w5 ⟨rfl, s5⟩
    have P5 := Lib.hid (s5.blk P4.out (fun s => s.elim))
    have B5 := Lib.hid (s5.blk B4.out (fun s => s.elim))
    have Z5 := Lib.hid (Z4.out.then_ s5)
    have k5 := load_bpd P5.out
    have k6 := load_bpd B5.out
    have c5 := blk_cell P5.out 0
    simp only [Bpd.cells, List.getElem?_toArray, List.getElem?_cons_zero] at c5
    clear s5 P4 B4 Z4 k4 HE4 HE0 NN E
    go_wp2_with (first | (refine wpList_load_if 27 (.tmp 1) rfl rfl rfl k5 ?_) | (refine wpList_load_if 27 (.tmp 6) rfl rfl rfl k6 ?_))
    go_ret
    exact ⟨rfl, Z5.out.toBelow⟩
  · rw [hr] at E C
    rw [if_pos rfl, if_pos rfl] at C
    have hlen := encB_len x
    have hk : x.kind = 128 → (x.flat == (bare 128).flat) = true := fun hk => by
      have k1 : (x.kind == 128) = true := by simp [hk]
      simpa [okB, k1] using hr
    have hpos : (0 : Int) < ((encB x).length : Int) := by rw [hlen]; split <;> (try split) <;> decide
    have dposN : decide (0 < (encB x).length) = true := by simp only [decide_eq_true_eq]; omega
    have dpos : decide ((0 : Int) < ((encB x).length : Int)) = true := by simpa using hpos
    clear hlen hr hpos
    go_enter Try.func5, Try.ntmps5
    go_wp2_with (rw [HE.out])
    refine (awake_any _).mono ?_
    rintro e w2 ⟨rfl, s2⟩
    have P2 := Lib.hid (s2.blk P1.out (fun s => s.elim))
    have S2 := Lib.hid (S1.out.then_ s2)
    clear s2 P1 S1 HE
    have k2 := load_bpd P2.out
    go_wp2_with (refine wpList_load_if 27 (.tmp 1) rfl rfl rfl k2 ?_)
    refine (C.out _).mono ?_
    rintro e w3 ⟨u1, rfl, b1, s3⟩
    obtain ⟨ao, cp, rfl⟩ := b1.form
    have P3 := Lib.hid (s3.blk P2.out (fun s => s.elim))
    have S3 := Lib.hid (S2.out.then_ s3)
    have N0 := heap_alloc_new w3 (.cells #[.int .i64 0, .int .i64 0, .int .i64 0, .int .u8 0, .int .u8 0, .int .u8 0, .int .u8 0, .int .u8 0, .int .u8 0, .int .i64 0, .int .i64 0, .int .u8 0, .int .u8 0, .int .u8 0, .int .u8 0, .int .u8 0, .int .u8 0, .int .i64 0, .int .i64 0, .int .i64 0, .int .i64 0, .int .i64 0] 27)
    have al := (Step.refl None w3).alloc (.cells #[.int .i64 0, .int .i64 0, .int .i64 0, .int .u8 0, .int .u8 0, .int .u8 0, .int .u8 0, .int .u8 0, .int .u8 0, .int .i64 0, .int .i64 0, .int .u8 0, .int .u8 0, .int .u8 0, .int .u8 0, .int .u8 0, .int .u8 0, .int .i64 0, .int .i64 0, .int .i64 0, .int .i64 0, .int .i64 0] 27)
    obtain ⟨W0, hW0⟩ : ∃ W, w3.alloc (.cells #[.int .i64 0, .int .i64 0, .int .i64 0, .int .u8 0, .int .u8 0, .int .u8 0, .int .u8 0, .int .u8 0, .int .u8 0, .int .i64 0, .int .i64 0, .int .u8 0, .int .u8 0, .int .u8 0, .int .u8 0, .int .u8 0, .int .u8 0, .int .i64 0, .int .i64 0, .int .i64 0, .int .i64 0, .int .i64 0] 27) = W := ⟨_, rfl⟩
    rw [hW0] at N0 al
    have HE0 := Lib.hid hW0
    have NN := Lib.hid N0
    have N4 : (W0.setRow w3.heap.size (bare 128).cells).heap[w3.heap.size]? = some (.cells (bare 128).cells 27 (0, 0)) := setRow_heap _ _ _ _ _ _ N0
    have al2 : Step None w3 (W0.setRow w3.heap.size (bare 128).cells) := step_setRow al (fun h => by omega) _
    have Z4 := Lib.hid (S3.out.then_ al2)
    have P4 := Lib.hid (al2.blk P3.out (fun s => s.elim))
    have B4 := Lib.hid N4
    obtain ⟨W4, hW4⟩ : ∃ W, W0.setRow w3.heap.size (bare 128).cells = W := ⟨_, rfl⟩
    rw [hW4] at Z4 P4 B4
    have HE4 : Hid (W0.setRow w3.heap.size #[.int .i64 128, .int .i64 0, .int .i64 0, .int .u8 0, .int .u8 0, .int .u8 0, .int .u8 0, .int .u8 0, .int .u8 0, .int .i64 0, .int .i64 0, .int .u8 0, .int .u8 0, .int .u8 0, .int .u8 0, .int .u8 0, .int .u8 0, .int .i64 0, .int .i64 0, .int .i64 0, .int .i64 0, .int .i64 0] = W4) := Lib.hid hW4
    clear b1 s3 k2 P2 S2 P3 hW4 N4 al al2 C hW0 N0
    have k4 := load_bpd P4.out
    go_wp2_with (first | rw [HE0.out] | rw [HE4.out] | (refine wpList_store_row rfl 27 (.tmp 6) (.tmp 13) rfl w3.heap.size #[.int .i64 128, .int .i64 0, .int .i64 0, .int .u8 0, .int .u8 0, .int .u8 0, .int .u8 0, .int .u8 0, .int .u8 0, .int .i64 0, .int .i64 0, .int .u8 0, .int .u8 0, .int .u8 0, .int .u8 0, .int .u8 0, .int .u8 0, .int .i64 0, .int .i64 0, .int .i64 0, .int .i64 0, .int .i64 0] rfl rfl 27 #[.int .i64 0, .int .i64 0, .int .i64 0, .int .u8 0, .int .u8 0, .int .u8 0, .int .u8 0, .int .u8 0, .int .u8 0, .int .i64 0, .int .i64 0, .int .u8 0, .int .u8 0, .int .u8 0, .int .u8 0, .int .u8 0, .int .u8 0, .int .i64 0, .int .i64 0, .int .i64 0, .int .i64 0, .int .i64 0] NN.out (by kernel_rfl) rfl (by simp [Value.oneCell']) ?_) | (refine wpList_load_if 27 (.tmp 1) rfl rfl rfl k4 ?_))
    refine (E.out _).mono ?_
    rintro e w5 ⟨rfl, s5⟩
    have P5 := Lib.hid (s5.blk P4.out (fun s => s.elim))
    have B5 := Lib.hid (s5.blk B4.out (fun s => s.elim))
    have Z5 := Lib.hid (Z4.out.then_ s5)
    have k5 := load_bpd P5.out
    have k6 := load_bpd B5.out
    have c5 := blk_cell P5.out 0
    simp only [Bpd.cells, List.getElem?_toArray, List.getElem?_cons_zero] at c5
    clear s5 P4 B4 Z4 k4 HE4 HE0 NN E
    cases k1 : (x.kind == 128)
    · have k1' : (x.kind != 128) = true := by simp [bne, k1]
      go_wp2_with (first | (refine wpList_load_if 27 (.tmp 1) rfl rfl rfl k5 ?_) | (refine wpList_load_if 27 (.tmp 6) rfl rfl rfl k6 ?_))
      go_ret
      exact ⟨rfl, Z5.out.toBelow⟩
    · have k1' : (x.kind != 128) = false := by simp [bne, k1]
      have hk' := hk (by simpa using k1)
      rw [hk'] at he
      generalize (bare 128).cells = bc at *
      generalize x.cells = xc at *
      clear hk hk'
      go_wp2_with (first | (refine wpList_load_if 27 (.tmp 1) rfl rfl rfl k5 ?_) | (refine wpList_load_if 27 (.tmp 6) rfl rfl rfl k6 ?_))
      go_ret
      exact ⟨rfl, Z5.out.toBelow⟩
end Go.Proofs.Ytfpdfenepelcdaa
