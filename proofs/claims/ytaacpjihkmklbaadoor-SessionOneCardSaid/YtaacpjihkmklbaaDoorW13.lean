/- SessionSticks, walked. -/
import Derived.Test.YtaacpjihkmklbaaDoorW12
import Derived.Test.YtaacpjihkmklbaaDoorBits
namespace Go.Proofs.YtaacpjihkmklbaaDoor
open Go.RowKit Go.Gm

theorem arr2_int {w : World} {v : Value} (h : Arg w (.arr 2 1 (.int .i64)) v) : ∃ a b, v = .agg #[.int .i64 a, .int .i64 b] := by
  obtain ⟨cs, rfl, hl, hf⟩ := h.agg rfl
  obtain ⟨a, ha, -⟩ := hf 0 (by decide)
  obtain ⟨b, hb, -⟩ := hf 1 (by decide)
  refine ⟨a, b, ?_⟩
  obtain ⟨l⟩ := cs
  match l, hl with
  | [x, y], _ =>
    simp at ha hb
    rw [ha, hb]
/-- One that was alone: Primary, in its next life. -/
def prim (id prio life : Int) : Ses := ((ses0 id prio life).tick 6).2.2
theorem prim_is {id prio life : Int} (h : life ≤ 268435456) : prim id prio life = ⟨id, prio, life + 1, 0, false, 2, 2, 0, 0⟩ := by
  unfold prim Ses.tick
  rw [if_pos (by decide), if_pos (by show 6 ≤ (6 : Int) - 0; omega), if_neg (by show ¬ false = true; decide), if_pos (by show 6 ≤ (6 : Int) - 0 ∧ (0 : Int) ≠ 2; omega)]
  simp only [Ses.fresh, ses0]
  rw [show min (life + 1) 536870912 = life + 1 by omega]
theorem prim_tick {id prio life : Int} (_ : life ≤ 268435456) : (ses0 id prio life).tick 6 = (false, 0, prim id prio life) := by
  unfold prim Ses.tick
  rw [if_pos (by decide), if_pos (by show 6 ≤ (6 : Int) - 0; omega), if_neg (by show ¬ false = true; decide), if_pos (by show 6 ≤ (6 : Int) - 0 ∧ (0 : Int) ≠ 2; omega)]
theorem prim_far {id jd p q m n : Int} (ha : newOk id p m) (hb : newOk jd q n) (lm : m ≤ 268435456) (ln : n ≤ 268435456) : Far (prim id p m) (ses0 jd q n) := by
  have h1 := ha.2.2
  have h2 := hb.2.2
  have ok := (ses0_ok ha).tick 6
  change (prim id p m).Ok at ok
  rw [prim_is lm] at ok ⊢
  exact ⟨ok, ses0_ok hb, rfl, rfl, by show 0 < n; omega, by show 0 < m + 1; omega, by show m + 1 < 536870912; omega, by show n < 536870912; omega, rfl, rfl⟩
theorem prim_roles {id jd p q m n now : Int} (lm : m ≤ 268435456) : (joined (prim id p m) (ses0 jd q n) now).role = 2 ∧ (joined (ses0 jd q n) (prim id p m) now).role = 1 := by
  rw [prim_is lm]
  constructor
  · simp [joined, Ses.meet, ses0]
  · simp [joined, Ses.meet, ses0]

theorem Two.lifeA {w0 w : World} {g h : Nat} {a b : Ses} (t : Two w0 w g h a b) : Calls Tryd.prog 16 #[.pointer (some ⟨g, 0, none⟩)] w fun e w' => e = .returned (.int .i64 a.life) ∧ w = w' := by
  obtain ⟨op, h1⟩ := t.one
  exact life_any g a op w h1

set_option maxRecDepth 10000 in
set_option maxHeartbeats 16000000 in
theorem sessionSticks_walk (v0 v1 v2 : Value) (w : World) (hT : HasAt 0 w) (h0 : Arg w (.arr 2 1 (.int .i64)) v0) (h1 : Arg w (.arr 2 1 (.int .i64)) v1) (h2 : Arg w (.int .i64) v2) :
    Calls Tryd.prog 4 #[v0, v1, v2] w fun e w' => e = .returned (.bool true) ∧ Below w.heap.size w w' := by
  obtain ⟨x0, x1, rfl⟩ := arr2_int h0
  obtain ⟨l0, l1, rfl⟩ := arr2_int h1
  obtain ⟨first, rfl, -⟩ := h2.int
  clear h0 h1
  have p1 := heap_alloc_new w (.cells #[.int .i64 x0, .int .i64 x1] 41)
  have s1 := (Step.refl None w).alloc (.cells #[.int .i64 x0, .int .i64 x1] 41)
  obtain ⟨V, hV⟩ : ∃ V, w.alloc (.cells #[.int .i64 x0, .int .i64 x1] 41) = V := ⟨_, rfl⟩
  rw [hV] at p1 s1
  have q1 := heap_alloc_new V (.cells #[.int .i64 l0, .int .i64 l1] 41)
  have r1 := (Step.refl None V).alloc (.cells #[.int .i64 l0, .int .i64 l1] 41)
  obtain ⟨W, hW⟩ : ∃ W, V.alloc (.cells #[.int .i64 l0, .int .i64 l1] 41) = W := ⟨_, rfl⟩
  rw [hW] at q1 r1
  have HV := Lib.hid hV
  have HE := Lib.hid hW
  have P1 := Lib.hid (r1.blk p1 (fun s => s.elim))
  have Q1 := Lib.hid q1
  have S1 := Lib.hid (s1.then_ r1)
  have T1 := Lib.hid (hT.still (s1.then_ r1))
  clear hV hW p1 s1 q1 r1 hT
  by_cases hA : newOk 0 x0 l0
  rotate_left
  · by_cases hB : newOk 1 x1 l1
    · have N := Lib.hid (fun w => new_bad 0 x0 l0 w hA)
      have M := Lib.hid (fun w => new_ok 1 x1 l1 w hB)
      clear hA hB
      go_enter Tryd.func4, Tryd.ntmps4
      go_wp2_with (first | rw [HV.out] | rw [HE.out])
      refine (awake_any W T1.out).mono ?_
      rintro e w2 ⟨rfl, s2⟩
      have P2 := Lib.hid (s2.blk P1.out (fun s => s.elim))
      have Q2 := Lib.hid (s2.blk Q1.out (fun s => s.elim))
      have S2 := Lib.hid (S1.out.then_ s2)
      have T2 := Lib.hid (T1.out.still s2)
      have k := blk_cell P2.out
      have k0 := k 0
      have k1 := k 1
      have m := blk_cell Q2.out
      have m0 := m 0
      have m1 := m 1
      simp only [List.getElem?_toArray, List.getElem?_cons_zero, List.getElem?_cons_succ] at k0 k1 m0 m1
      clear k m
      clear s2 P1 Q1 S1 T1
      go_wp2_with fail
      refine (N.out _).mono ?_
      rintro e wz ⟨rfl, rfl⟩
      go_wp2_with fail
      refine (M.out _).mono ?_
      rintro e w3 ⟨rfl, -, s3⟩
      clear k0 k1 m0 m1
      have P3 := Lib.hid (s3.blk P2.out (fun s => s.elim))
      have Q3 := Lib.hid (s3.blk Q2.out (fun s => s.elim))
      have S3 := Lib.hid (S2.out.then_ s3)
      have T3 := Lib.hid (T2.out.still s3)
      have k := blk_cell P3.out
      have k0 := k 0
      have k1 := k 1
      have m := blk_cell Q3.out
      have m0 := m 0
      have m1 := m 1
      simp only [List.getElem?_toArray, List.getElem?_cons_zero, List.getElem?_cons_succ] at k0 k1 m0 m1
      clear k m
      go_wp2_with fail
      go_ret
      exact ⟨rfl, S3.out.toBelow⟩
    · have N := Lib.hid (fun w => new_bad 0 x0 l0 w hA)
      have M := Lib.hid (fun w => new_bad 1 x1 l1 w hB)
      clear hA hB
      go_enter Tryd.func4, Tryd.ntmps4
      go_wp2_with (first | rw [HV.out] | rw [HE.out])
      refine (awake_any W T1.out).mono ?_
      rintro e w2 ⟨rfl, s2⟩
      have P2 := Lib.hid (s2.blk P1.out (fun s => s.elim))
      have Q2 := Lib.hid (s2.blk Q1.out (fun s => s.elim))
      have S2 := Lib.hid (S1.out.then_ s2)
      have T2 := Lib.hid (T1.out.still s2)
      have k := blk_cell P2.out
      have k0 := k 0
      have k1 := k 1
      have m := blk_cell Q2.out
      have m0 := m 0
      have m1 := m 1
      simp only [List.getElem?_toArray, List.getElem?_cons_zero, List.getElem?_cons_succ] at k0 k1 m0 m1
      clear k m
      clear s2 P1 Q1 S1 T1
      go_wp2_with fail
      refine (N.out _).mono ?_
      rintro e wz ⟨rfl, rfl⟩
      go_wp2_with fail
      refine (M.out _).mono ?_
      rintro e wz ⟨rfl, rfl⟩
      go_wp2_with fail
      go_ret
      exact ⟨rfl, S2.out.toBelow⟩
  by_cases hB : newOk 1 x1 l1
  rotate_left
  · have N := Lib.hid (fun w => new_ok 0 x0 l0 w hA)
    have M := Lib.hid (fun w => new_bad 1 x1 l1 w hB)
    clear hA hB
    go_enter Tryd.func4, Tryd.ntmps4
    go_wp2_with (first | rw [HV.out] | rw [HE.out])
    refine (awake_any W T1.out).mono ?_
    rintro e w2 ⟨rfl, s2⟩
    have P2 := Lib.hid (s2.blk P1.out (fun s => s.elim))
    have Q2 := Lib.hid (s2.blk Q1.out (fun s => s.elim))
    have S2 := Lib.hid (S1.out.then_ s2)
    have T2 := Lib.hid (T1.out.still s2)
    have k := blk_cell P2.out
    have k0 := k 0
    have k1 := k 1
    have m := blk_cell Q2.out
    have m0 := m 0
    have m1 := m 1
    simp only [List.getElem?_toArray, List.getElem?_cons_zero, List.getElem?_cons_succ] at k0 k1 m0 m1
    clear k m
    clear s2 P1 Q1 S1 T1
    go_wp2_with fail
    refine (N.out _).mono ?_
    rintro e w3 ⟨rfl, -, s3⟩
    clear k0 k1 m0 m1
    have P3 := Lib.hid (s3.blk P2.out (fun s => s.elim))
    have Q3 := Lib.hid (s3.blk Q2.out (fun s => s.elim))
    have S3 := Lib.hid (S2.out.then_ s3)
    have T3 := Lib.hid (T2.out.still s3)
    have k := blk_cell P3.out
    have k0 := k 0
    have k1 := k 1
    have m := blk_cell Q3.out
    have m0 := m 0
    have m1 := m 1
    simp only [List.getElem?_toArray, List.getElem?_cons_zero, List.getElem?_cons_succ] at k0 k1 m0 m1
    clear k m
    go_wp2_with fail
    refine (M.out _).mono ?_
    rintro e wz ⟨rfl, rfl⟩
    go_wp2_with fail
    go_ret
    exact ⟨rfl, S3.out.toBelow⟩
  have N := Lib.hid (fun w => new_ok 0 x0 l0 w hA)
  have M := Lib.hid (fun w => new_ok 1 x1 l1 w hB)
  have HA := Lib.hid hA
  have HB := Lib.hid hB
  clear hA hB
  go_enter Tryd.func4, Tryd.ntmps4
  go_wp2_with (first | rw [HV.out] | rw [HE.out])
  refine (awake_any W T1.out).mono ?_
  rintro e w2 ⟨rfl, s2⟩
  have P2 := Lib.hid (s2.blk P1.out (fun s => s.elim))
  have Q2 := Lib.hid (s2.blk Q1.out (fun s => s.elim))
  have S2 := Lib.hid (S1.out.then_ s2)
  have T2 := Lib.hid (T1.out.still s2)
  have k := blk_cell P2.out
  have k0 := k 0
  have k1 := k 1
  have m := blk_cell Q2.out
  have m0 := m 0
  have m1 := m 1
  simp only [List.getElem?_toArray, List.getElem?_cons_zero, List.getElem?_cons_succ] at k0 k1 m0 m1
  clear k m
  clear s2 P1 Q1 S1 T1
  go_wp2_with fail
  refine (N.out _).mono ?_
  rintro e w3 ⟨rfl, a3, s3⟩
  clear k0 k1 m0 m1
  have P3 := Lib.hid (s3.blk P2.out (fun s => s.elim))
  have Q3 := Lib.hid (s3.blk Q2.out (fun s => s.elim))
  have S3 := Lib.hid (S2.out.then_ s3)
  have T3 := Lib.hid (T2.out.still s3)
  have k := blk_cell P3.out
  have k0 := k 0
  have k1 := k 1
  have m := blk_cell Q3.out
  have m0 := m 0
  have m1 := m 1
  simp only [List.getElem?_toArray, List.getElem?_cons_zero, List.getElem?_cons_succ] at k0 k1 m0 m1
  clear k m
  have A3 := Lib.hid a3
  clear a3 s3
  go_wp2_with fail
  refine (M.out _).mono ?_
  rintro e w4 ⟨rfl, b4, s4⟩
  clear k0 k1 m0 m1
  have P4 := Lib.hid (s4.blk P3.out (fun s => s.elim))
  have Q4 := Lib.hid (s4.blk Q3.out (fun s => s.elim))
  have S4 := Lib.hid (S3.out.then_ s4)
  have T4 := Lib.hid (T3.out.still s4)
  have k := blk_cell P4.out
  have k0 := k 0
  have k1 := k 1
  have m := blk_cell Q4.out
  have m0 := m 0
  have m1 := m 1
  simp only [List.getElem?_toArray, List.getElem?_cons_zero, List.getElem?_cons_succ] at k0 k1 m0 m1
  clear k m
  have A4 := Lib.hid (s4.blk A3.out (fun s => s.elim))
  have B4 := Lib.hid b4
  have NE : Hid (¬ w2.heap.size = w3.heap.size) := Lib.hid (by have := blk_lt A3.out; omega)
  have GG : Hid (w.heap.size ≤ w2.heap.size ∧ w.heap.size ≤ w3.heap.size) := Lib.hid ⟨S2.out.size, S3.out.size⟩
  clear b4 s4 A3 N M P2 Q2 S2 T2 P3 Q3 S3 T3
  generalize w2.heap.size = g at *
  generalize w3.heap.size = r at *
  cases d1 : decide (268435456 < l0)
  rotate_left
  · go_wp2_with fail
    go_ret
    exact ⟨rfl, S4.out.toBelow⟩
  cases d2 : decide (268435456 < l1)
  rotate_left
  · go_wp2_with fail
    go_ret
    exact ⟨rfl, S4.out.toBelow⟩
  have L0 : Hid (l0 ≤ 268435456) := Lib.hid (by simpa using d1)
  have L1 : Hid (l1 ≤ 268435456) := Lib.hid (by simpa using d2)
  have p5 := heap_alloc_new w4 (.cells #[.pointer (some ⟨g, 0, none⟩), .pointer (some ⟨r, 0, none⟩)] 42)
  have s5 := (Step.refl None w4).alloc (.cells #[.pointer (some ⟨g, 0, none⟩), .pointer (some ⟨r, 0, none⟩)] 42)
  obtain ⟨X, hX⟩ : ∃ X, w4.alloc (.cells #[.pointer (some ⟨g, 0, none⟩), .pointer (some ⟨r, 0, none⟩)] 42) = X := ⟨_, rfl⟩
  rw [hX] at p5 s5
  have HX := Lib.hid hX
  have X5 := Lib.hid p5
  have TA : Hid (Two X X g r (ses0 0 x0 l0) (ses0 1 x1 l1)) := Lib.hid ⟨⟨0, s5.blk A4.out (fun s => s.elim)⟩, ⟨0, s5.blk B4.out (fun s => s.elim)⟩, NE.out, Step.refl _ _, ses0_ok HA.out, ses0_ok HB.out, T4.out.still s5⟩
  have TB : Hid (Two X X r g (ses0 1 x1 l1) (ses0 0 x0 l0)) := Lib.hid ⟨⟨0, s5.blk B4.out (fun s => s.elim)⟩, ⟨0, s5.blk A4.out (fun s => s.elim)⟩, fun e => NE.out e.symm, Step.refl _ _, ses0_ok HB.out, ses0_ok HA.out, T4.out.still s5⟩
  have NB : Hid (¬ w4.heap.size = g ∧ ¬ w4.heap.size = r) := Lib.hid (by have := blk_lt A4.out; have := blk_lt B4.out; omega)
  have Q5 := Lib.hid (s5.blk Q4.out (fun s => s.elim))
  have NQ : Hid (¬ V.heap.size = g ∧ ¬ V.heap.size = r) := Lib.hid (by
    have h1 := Q4.out
    constructor
    · rintro rfl
      rw [A4.out] at h1
      simp at h1
    · rintro rfl
      rw [B4.out] at h1
      simp at h1)
  have k := blk_cell X5.out
  have b0 := k 0
  have b1 := k 1
  have m := blk_cell Q5.out
  have c0 := m 0
  have c1 := m 1
  simp only [List.getElem?_toArray, List.getElem?_cons_zero, List.getElem?_cons_succ] at b0 b1 c0 c1
  clear k m
  have S5 := Lib.hid (S4.out.then_ s5)
  clear p5 s5 A4 B4 P4 S4 T4 hX
  have h01 : first % 2 = 0 ∨ first % 2 = 1 := by omega
  rcases h01 with hk | hk
  · have eb : bits BinOp.and IntKind.i64 first 1 = 0 := by rw [and_1]; omega
    have HF := Lib.hid hk
    clear hk TB
    have FAR := Lib.hid (prim_far HA.out HB.out L0.out L1.out)
    have PR := Lib.hid (prim_is (id := 0) (prio := x0) (life := l0) L0.out)
    have RO := Lib.hid (prim_roles (id := 0) (jd := 1) (p := x0) (q := x1) (m := l0) (n := l1) (now := 7) L0.out)
    have wl : wrap64 (l0 + 1) = l0 + 1 := by have := L0.out; have := HA.out.2.2; unfold wrap64; omega
    have ul : IntKind.i64.wrap (l0 + 1) = l0 + 1 := by have := L0.out; have := HA.out.2.2; rw [IntKind.wrap_i64]; omega
    go_wp2_with (rw [HX.out])
    generalize w4.heap.size = bx at *
    refine (TA.out.tickA 6).mono ?_
    rw [prim_tick L0.out]
    rintro e w5 ⟨rfl, t5⟩
    have T5 := Lib.hid t5
    clear t5 TA k0 k1 m0 m1 b0 b1 c0 c1
    have KK : Hid (∀ w' a b, Two X w' g r a b → (fun w' => w'.cell? ⟨bx, 0, none⟩ = some (.pointer (some ⟨g, 0, none⟩)) ∧ w'.cell? ⟨bx, 1, none⟩ = some (.pointer (some ⟨r, 0, none⟩)) ∧ w'.cell? ⟨V.heap.size, 0, none⟩ = some (.int .i64 l0) ∧ w'.cell? ⟨V.heap.size, 1, none⟩ = some (.int .i64 l1)) w') := Lib.hid (by
      intro w' a b t
      have k := blk_cell (t.st.blk X5.out (fun e => e.elim NB.out.1 NB.out.2))
      have m := blk_cell (t.st.blk Q5.out (fun e => e.elim NQ.out.1 NQ.out.2))
      exact ⟨k 0, k 1, m 0, m 1⟩)
    go_wp2_with fail
    refine wp_region_plan (fun w' => w'.cell? ⟨bx, 0, none⟩ = some (.pointer (some ⟨g, 0, none⟩)) ∧ w'.cell? ⟨bx, 1, none⟩ = some (.pointer (some ⟨r, 0, none⟩)) ∧ w'.cell? ⟨V.heap.size, 0, none⟩ = some (.int .i64 l0) ∧ w'.cell? ⟨V.heap.size, 1, none⟩ = some (.int .i64 l1)) (.take 0 (.take 1 (.take 2 (.alt 3 (.take 4 (.take 5 (.take 6 (.take 7 (.take 8 (.alt 9 (.take 10 (.take 11 (.take 12 (.take 13 (.take 14 (.take 16 (.take 17 (.take 18 (.take 19 (.alt 15 (.take 20 (.take 21 .done)) .none)))))))))) .none)))))) .none)))) _
      (by simp only [Plan.map, opOf, List.getElem?_toArray, List.getElem?_cons_zero, List.getElem?_cons_succ, Option.getD_some]; rfl) (by kernel_rfl) (by kernel_rfl) (by kernel_rfl) (by decide) (by intro c a d v w; cases d <;> exact fun h => h)
      (KK.out _ _ _ (T5.out.still ((Step.refl None _).drew))) ?_
    repeat (first | (refine wpPlan.taken (by rfl) (by intro w' hS'; (try dsimp only at hS'); go_split_ands; go_simp; try with_reducible rfl) ?_; simp only [Act.put, List.setIfInBounds_toArray, List.set_cons_zero, List.set_cons_succ]) | (refine wpPlan.passed (by rfl) ?_; simp only [Act.put, List.setIfInBounds_toArray, List.set_cons_zero, List.set_cons_succ]))
    refine wpPlan.runs fun K' hK => ?_
    go_simp
    refine (T5.out.still ((Step.refl None _).drew)).roleA.mono ?_
    rintro e wz ⟨rfl, rfl⟩
    rw [PR.out]
    refine hK.out _ _ (KK.out _ _ _ (T5.out.still ((Step.refl None _).drew))) ?_
    clear hK K'
    repeat (first | (refine wpPlan.taken (by rfl) (by intro w' hS'; (try dsimp only at hS'); go_split_ands; go_simp; try with_reducible rfl) ?_; simp only [Act.put, List.setIfInBounds_toArray, List.set_cons_zero, List.set_cons_succ]) | (refine wpPlan.passed (by rfl) ?_; simp only [Act.put, List.setIfInBounds_toArray, List.set_cons_zero, List.set_cons_succ]))
    refine wpPlan.runs fun K' hK => ?_
    go_simp
    refine (T5.out.still ((Step.refl None _).drew)).upA.mono ?_
    rintro e wz ⟨rfl, rfl⟩
    rw [PR.out]
    refine hK.out _ _ (KK.out _ _ _ (T5.out.still ((Step.refl None _).drew))) ?_
    clear hK K'
    repeat (first | (refine wpPlan.taken (by rfl) (by intro w' hS'; (try dsimp only at hS'); go_split_ands; go_simp; try with_reducible rfl) ?_; simp only [Act.put, List.setIfInBounds_toArray, List.set_cons_zero, List.set_cons_succ]) | (refine wpPlan.passed (by rfl) ?_; simp only [Act.put, List.setIfInBounds_toArray, List.set_cons_zero, List.set_cons_succ]))
    refine wpPlan.runs fun K' hK => ?_
    go_simp
    refine (T5.out.still ((Step.refl None _).drew)).lifeA.mono ?_
    rintro e wz ⟨rfl, rfl⟩
    rw [PR.out]
    refine hK.out _ _ (KK.out _ _ _ (T5.out.still ((Step.refl None _).drew))) ?_
    clear hK K'
    repeat (first | (refine wpPlan.taken (by rfl) (by intro w' hS'; (try dsimp only at hS'); go_split_ands; go_simp; try with_reducible rfl) ?_; simp only [Act.put, List.setIfInBounds_toArray, List.set_cons_zero, List.set_cons_succ]) | (refine wpPlan.passed (by rfl) ?_; simp only [Act.put, List.setIfInBounds_toArray, List.set_cons_zero, List.set_cons_succ]))
    refine wpPlan.done ?_
    have T6 := Lib.hid (T5.out.still ((Step.refl None _).drew))
    clear T5
    generalize hp : prim 0 x0 l0 = p at *
    generalize hq : ses0 1 x1 l1 = q at *
    go_wp2_with fail
    have m0 : Hid (mom 7 = true) := Lib.hid (by decide)
    have HPQ := Lib.hid (And.intro hp hq)
    clear hp hq
    go_loopw [14] (fun t wr => ∃ k : Nat, k ≤ 3 ∧ t = .int .i64 k ∧ Hid (Two X wr g r (sa p q 7 k) (sb p q 7 k))) (fun t _ => 3 - (intOf t).toNat)
    case atStart => exact ⟨0, by omega, rfl, T6⟩
    case round =>
      obtain ⟨k, hk, rfl, hC⟩ := hrel
      clear T6
      cases d1 : decide ((k : Int) < 3)
      rotate_left
      · have hk3 : k < 3 := by simp at d1; omega
        go_wp2_with fail
        refine wp_region_plan (fun w' => w'.cell? ⟨bx, 0, none⟩ = some (.pointer (some ⟨g, 0, none⟩)) ∧ w'.cell? ⟨bx, 1, none⟩ = some (.pointer (some ⟨r, 0, none⟩)) ∧ w'.cell? ⟨V.heap.size, 0, none⟩ = some (.int .i64 l0) ∧ w'.cell? ⟨V.heap.size, 1, none⟩ = some (.int .i64 l1)) (.take 0 (.take 1 (.take 2 (.take 3 (.take 4 (.take 5 (.take 6 (.alt 7 (.alt 8 .done .none) .none)))))))) _
          (by simp only [Plan.map, opOf, List.getElem?_toArray, List.getElem?_cons_zero, List.getElem?_cons_succ, Option.getD_some]; rfl) (by kernel_rfl) (by kernel_rfl) (by kernel_rfl) (by decide) (by intro c a d v w; cases d <;> exact fun h => h)
          (KK.out _ _ _ (hC.out.still ((Step.refl None _).drew))) ?_
        (refine wpPlan.taken (by rfl) (by intro w' hS'; (try dsimp only at hS'); go_split_ands; go_simp; try with_reducible rfl) ?_; simp only [Act.put, List.setIfInBounds_toArray, List.set_cons_zero, List.set_cons_succ])
        refine wpPlan.taken (v := .int .i64 1) (by rfl) (by intro w' hS'; go_simp; rfl) ?_; simp only [Act.put, List.setIfInBounds_toArray, List.set_cons_zero, List.set_cons_succ]
        repeat (first | (refine wpPlan.taken (by rfl) (by intro w' hS'; (try dsimp only at hS'); go_split_ands; go_simp; try with_reducible rfl) ?_; simp only [Act.put, List.setIfInBounds_toArray, List.set_cons_zero, List.set_cons_succ]) | (refine wpPlan.passed (by rfl) ?_; simp only [Act.put, List.setIfInBounds_toArray, List.set_cons_zero, List.set_cons_succ]))
        refine wpPlan.runs fun K' hK => ?_
        go_simp
        refine (hC.out.still ((Step.refl None _).drew)).sayA.mono ?_
        rintro e w6 ⟨rfl, t6⟩
        have C6 := Lib.hid t6
        clear t6 hC
        refine hK.out _ _ (KK.out _ _ _ C6.out) ?_
        clear hK K'
        refine wpPlan.runs fun K' hK => ?_
        go_simp
        refine (C6.out.hearsB C6.out.oka 7).mono ?_
        rintro e w7 ⟨rfl, t7⟩
        have e7 := sb_next FAR.out m0.out k
        rw [congrArg Prod.snd e7] at t7
        rw [congrArg Prod.fst e7]
        have C7 := Lib.hid t7
        clear t7 C6 e7
        generalize ((sb p q 7 k).hears (sa p q 7 k) 7).1 = x7
        refine hK.out _ _ (KK.out _ _ _ C7.out) ?_
        clear hK K'
        refine wpPlan.done ?_
        go_wp2_with fail
        refine wp_region_plan (fun w' => w'.cell? ⟨bx, 0, none⟩ = some (.pointer (some ⟨g, 0, none⟩)) ∧ w'.cell? ⟨bx, 1, none⟩ = some (.pointer (some ⟨r, 0, none⟩)) ∧ w'.cell? ⟨V.heap.size, 0, none⟩ = some (.int .i64 l0) ∧ w'.cell? ⟨V.heap.size, 1, none⟩ = some (.int .i64 l1)) (.take 0 (.take 1 (.take 2 (.take 3 (.take 4 (.take 5 (.take 6 (.alt 7 (.alt 8 .done .none) .none)))))))) _
          (by simp only [Plan.map, opOf, List.getElem?_toArray, List.getElem?_cons_zero, List.getElem?_cons_succ, Option.getD_some]; rfl) (by kernel_rfl) (by kernel_rfl) (by kernel_rfl) (by decide) (by intro c a d v w; cases d <;> exact fun h => h)
          (KK.out _ _ _ (C7.out.still ((Step.refl None _).drew))) ?_
        (refine wpPlan.taken (by rfl) (by intro w' hS'; (try dsimp only at hS'); go_split_ands; go_simp; try with_reducible rfl) ?_; simp only [Act.put, List.setIfInBounds_toArray, List.set_cons_zero, List.set_cons_succ])
        (refine wpPlan.taken (by rfl) (by intro w' hS'; (try dsimp only at hS'); go_split_ands; go_simp; try with_reducible rfl) ?_; simp only [Act.put, List.setIfInBounds_toArray, List.set_cons_zero, List.set_cons_succ])
        (refine wpPlan.taken (by rfl) (by intro w' hS'; (try dsimp only at hS'); go_split_ands; go_simp; try with_reducible rfl) ?_; simp only [Act.put, List.setIfInBounds_toArray, List.set_cons_zero, List.set_cons_succ])
        (refine wpPlan.taken (by rfl) (by intro w' hS'; (try dsimp only at hS'); go_split_ands; go_simp; try with_reducible rfl) ?_; simp only [Act.put, List.setIfInBounds_toArray, List.set_cons_zero, List.set_cons_succ])
        refine wpPlan.taken (v := .int .i64 1) (by rfl) (by intro w' hS'; go_simp; rfl) ?_; simp only [Act.put, List.setIfInBounds_toArray, List.set_cons_zero, List.set_cons_succ]
        repeat (first | (refine wpPlan.taken (by rfl) (by intro w' hS'; (try dsimp only at hS'); go_split_ands; go_simp; try with_reducible rfl) ?_; simp only [Act.put, List.setIfInBounds_toArray, List.set_cons_zero, List.set_cons_succ]) | (refine wpPlan.passed (by rfl) ?_; simp only [Act.put, List.setIfInBounds_toArray, List.set_cons_zero, List.set_cons_succ]))
        refine wpPlan.runs fun K' hK => ?_
        go_simp
        refine (C7.out.still ((Step.refl None _).drew)).sayB.mono ?_
        rintro e w8 ⟨rfl, t8⟩
        have C8 := Lib.hid t8
        clear t8 C7
        refine hK.out _ _ (KK.out _ _ _ C8.out) ?_
        clear hK K'
        refine wpPlan.runs fun K' hK => ?_
        go_simp
        refine (C8.out.hearsA C8.out.okb 7).mono ?_
        rintro e w9 ⟨rfl, t9⟩
        have e9 := sa_next FAR.out m0.out k
        rw [congrArg Prod.snd e9] at t9
        rw [congrArg Prod.fst e9]
        have C9 := Lib.hid t9
        clear t9 C8 e9
        generalize ((sa p q 7 k).hears (sb p q 7 (k + 1)) 7).1 = x9
        refine hK.out _ _ (KK.out _ _ _ C9.out) ?_
        clear hK K'
        refine wpPlan.done ?_
        go_wp2_with fail
        go_roundw
        case rel => exact ⟨k + 1, by omega, by first | rfl | simp, C9⟩
        case measure => simp [intOf]; omega
      · have hk3 : k = 3 := by simp at d1; omega
        have hD := hC.out
        rw [hk3] at hD
        have hD : Hid (Two X _ g r (joined p q 7) (joined q p 7)) := Lib.hid hD
        clear hC hk3
        have ep : (joined p q 7).epoch = (joined q p 7).epoch := by rw [joined_epoch, joined_epoch]; omega
        have HEP := Lib.hid ep
        clear ep
        have KC := KK.out _ _ _ hD.out
        obtain ⟨k0, k1, -, -⟩ := KC
        go_wp2_with fail
        refine hD.out.upA.mono ?_
        rintro e wz ⟨rfl, rfl⟩
        rw [show (joined p q 7).up = true from rfl]
        go_wp2_with fail
        refine hD.out.upB.mono ?_
        rintro e wz ⟨rfl, rfl⟩
        rw [show (joined q p 7).up = true from rfl]
        go_wp2_with fail
        refine hD.out.epochA.mono ?_
        rintro e w10 ⟨rfl, t10⟩
        have D10 := Lib.hid t10
        clear t10 hD k0 k1
        go_wp2_with fail
        refine D10.out.epochB.mono ?_
        rintro e w11 ⟨rfl, t11⟩
        have D11 := Lib.hid t11
        clear t11 D10
        obtain ⟨k0, k1, -, -⟩ := KK.out _ _ _ D11.out
        rw [← HEP.out]
        go_wp2_with fail
        refine D11.out.roleA.mono ?_
        rintro e wz ⟨rfl, rfl⟩
        rw [RO.out.1]
        go_wp2_with fail
        refine D11.out.roleB.mono ?_
        rintro e wz ⟨rfl, rfl⟩
        rw [RO.out.2]
        go_wp2_with fail
        go_ret
        exact ⟨by simp, (S5.out.trans D11.out.st (fun i hi e => by have := GG.out; show False; omega)).toBelow⟩
  · have eb : bits BinOp.and IntKind.i64 first 1 = 1 := by rw [and_1]; omega
    have HF := Lib.hid hk
    clear hk TA
    have FAR := Lib.hid (prim_far HB.out HA.out L1.out L0.out)
    have PR := Lib.hid (prim_is (id := 1) (prio := x1) (life := l1) L1.out)
    have RO := Lib.hid (prim_roles (id := 1) (jd := 0) (p := x1) (q := x0) (m := l1) (n := l0) (now := 7) L1.out)
    have wl : wrap64 (l1 + 1) = l1 + 1 := by have := L1.out; have := HB.out.2.2; unfold wrap64; omega
    have ul : IntKind.i64.wrap (l1 + 1) = l1 + 1 := by have := L1.out; have := HB.out.2.2; rw [IntKind.wrap_i64]; omega
    go_wp2_with (rw [HX.out])
    generalize w4.heap.size = bx at *
    refine (TB.out.tickA 6).mono ?_
    rw [prim_tick L1.out]
    rintro e w5 ⟨rfl, t5⟩
    have T5 := Lib.hid t5
    clear t5 TB k0 k1 m0 m1 b0 b1 c0 c1
    have KK : Hid (∀ w' a b, Two X w' r g a b → (fun w' => w'.cell? ⟨bx, 0, none⟩ = some (.pointer (some ⟨g, 0, none⟩)) ∧ w'.cell? ⟨bx, 1, none⟩ = some (.pointer (some ⟨r, 0, none⟩)) ∧ w'.cell? ⟨V.heap.size, 0, none⟩ = some (.int .i64 l0) ∧ w'.cell? ⟨V.heap.size, 1, none⟩ = some (.int .i64 l1)) w') := Lib.hid (by
      intro w' a b t
      have k := blk_cell (t.st.blk X5.out (fun e => e.elim NB.out.2 NB.out.1))
      have m := blk_cell (t.st.blk Q5.out (fun e => e.elim NQ.out.2 NQ.out.1))
      exact ⟨k 0, k 1, m 0, m 1⟩)
    go_wp2_with fail
    refine wp_region_plan (fun w' => w'.cell? ⟨bx, 0, none⟩ = some (.pointer (some ⟨g, 0, none⟩)) ∧ w'.cell? ⟨bx, 1, none⟩ = some (.pointer (some ⟨r, 0, none⟩)) ∧ w'.cell? ⟨V.heap.size, 0, none⟩ = some (.int .i64 l0) ∧ w'.cell? ⟨V.heap.size, 1, none⟩ = some (.int .i64 l1)) (.take 0 (.take 1 (.take 2 (.alt 3 (.take 4 (.take 5 (.take 6 (.take 7 (.take 8 (.alt 9 (.take 10 (.take 11 (.take 12 (.take 13 (.take 14 (.take 16 (.take 17 (.take 18 (.take 19 (.alt 15 (.take 20 (.take 21 .done)) .none)))))))))) .none)))))) .none)))) _
      (by simp only [Plan.map, opOf, List.getElem?_toArray, List.getElem?_cons_zero, List.getElem?_cons_succ, Option.getD_some]; rfl) (by kernel_rfl) (by kernel_rfl) (by kernel_rfl) (by decide) (by intro c a d v w; cases d <;> exact fun h => h)
      (KK.out _ _ _ (T5.out.still ((Step.refl None _).drew))) ?_
    repeat (first | (refine wpPlan.taken (by rfl) (by intro w' hS'; (try dsimp only at hS'); go_split_ands; go_simp; try with_reducible rfl) ?_; simp only [Act.put, List.setIfInBounds_toArray, List.set_cons_zero, List.set_cons_succ]) | (refine wpPlan.passed (by rfl) ?_; simp only [Act.put, List.setIfInBounds_toArray, List.set_cons_zero, List.set_cons_succ]))
    refine wpPlan.runs fun K' hK => ?_
    go_simp
    refine (T5.out.still ((Step.refl None _).drew)).roleA.mono ?_
    rintro e wz ⟨rfl, rfl⟩
    rw [PR.out]
    refine hK.out _ _ (KK.out _ _ _ (T5.out.still ((Step.refl None _).drew))) ?_
    clear hK K'
    repeat (first | (refine wpPlan.taken (by rfl) (by intro w' hS'; (try dsimp only at hS'); go_split_ands; go_simp; try with_reducible rfl) ?_; simp only [Act.put, List.setIfInBounds_toArray, List.set_cons_zero, List.set_cons_succ]) | (refine wpPlan.passed (by rfl) ?_; simp only [Act.put, List.setIfInBounds_toArray, List.set_cons_zero, List.set_cons_succ]))
    refine wpPlan.runs fun K' hK => ?_
    go_simp
    refine (T5.out.still ((Step.refl None _).drew)).upA.mono ?_
    rintro e wz ⟨rfl, rfl⟩
    rw [PR.out]
    refine hK.out _ _ (KK.out _ _ _ (T5.out.still ((Step.refl None _).drew))) ?_
    clear hK K'
    repeat (first | (refine wpPlan.taken (by rfl) (by intro w' hS'; (try dsimp only at hS'); go_split_ands; go_simp; try with_reducible rfl) ?_; simp only [Act.put, List.setIfInBounds_toArray, List.set_cons_zero, List.set_cons_succ]) | (refine wpPlan.passed (by rfl) ?_; simp only [Act.put, List.setIfInBounds_toArray, List.set_cons_zero, List.set_cons_succ]))
    refine wpPlan.runs fun K' hK => ?_
    go_simp
    refine (T5.out.still ((Step.refl None _).drew)).lifeA.mono ?_
    rintro e wz ⟨rfl, rfl⟩
    rw [PR.out]
    refine hK.out _ _ (KK.out _ _ _ (T5.out.still ((Step.refl None _).drew))) ?_
    clear hK K'
    repeat (first | (refine wpPlan.taken (by rfl) (by intro w' hS'; (try dsimp only at hS'); go_split_ands; go_simp; try with_reducible rfl) ?_; simp only [Act.put, List.setIfInBounds_toArray, List.set_cons_zero, List.set_cons_succ]) | (refine wpPlan.passed (by rfl) ?_; simp only [Act.put, List.setIfInBounds_toArray, List.set_cons_zero, List.set_cons_succ]))
    refine wpPlan.done ?_
    have T6 := Lib.hid (T5.out.still ((Step.refl None _).drew))
    clear T5
    generalize hp : prim 1 x1 l1 = p at *
    generalize hq : ses0 0 x0 l0 = q at *
    go_wp2_with fail
    have m0 : Hid (mom 7 = true) := Lib.hid (by decide)
    have HPQ := Lib.hid (And.intro hp hq)
    clear hp hq
    go_loopw [14] (fun t wr => ∃ k : Nat, k ≤ 3 ∧ t = .int .i64 k ∧ Hid (Two X wr r g (sa p q 7 k) (sb p q 7 k))) (fun t _ => 3 - (intOf t).toNat)
    case atStart => exact ⟨0, by omega, rfl, T6⟩
    case round =>
      obtain ⟨k, hk, rfl, hC⟩ := hrel
      clear T6
      cases d1 : decide ((k : Int) < 3)
      rotate_left
      · have hk3 : k < 3 := by simp at d1; omega
        go_wp2_with fail
        refine wp_region_plan (fun w' => w'.cell? ⟨bx, 0, none⟩ = some (.pointer (some ⟨g, 0, none⟩)) ∧ w'.cell? ⟨bx, 1, none⟩ = some (.pointer (some ⟨r, 0, none⟩)) ∧ w'.cell? ⟨V.heap.size, 0, none⟩ = some (.int .i64 l0) ∧ w'.cell? ⟨V.heap.size, 1, none⟩ = some (.int .i64 l1)) (.take 0 (.take 1 (.take 2 (.take 3 (.take 4 (.take 5 (.take 6 (.alt 7 (.alt 8 .done .none) .none)))))))) _
          (by simp only [Plan.map, opOf, List.getElem?_toArray, List.getElem?_cons_zero, List.getElem?_cons_succ, Option.getD_some]; rfl) (by kernel_rfl) (by kernel_rfl) (by kernel_rfl) (by decide) (by intro c a d v w; cases d <;> exact fun h => h)
          (KK.out _ _ _ (hC.out.still ((Step.refl None _).drew))) ?_
        (refine wpPlan.taken (by rfl) (by intro w' hS'; (try dsimp only at hS'); go_split_ands; go_simp; try with_reducible rfl) ?_; simp only [Act.put, List.setIfInBounds_toArray, List.set_cons_zero, List.set_cons_succ])
        refine wpPlan.taken (v := .int .i64 0) (by rfl) (by intro w' hS'; go_simp; rfl) ?_; simp only [Act.put, List.setIfInBounds_toArray, List.set_cons_zero, List.set_cons_succ]
        repeat (first | (refine wpPlan.taken (by rfl) (by intro w' hS'; (try dsimp only at hS'); go_split_ands; go_simp; try with_reducible rfl) ?_; simp only [Act.put, List.setIfInBounds_toArray, List.set_cons_zero, List.set_cons_succ]) | (refine wpPlan.passed (by rfl) ?_; simp only [Act.put, List.setIfInBounds_toArray, List.set_cons_zero, List.set_cons_succ]))
        refine wpPlan.runs fun K' hK => ?_
        go_simp
        refine (hC.out.still ((Step.refl None _).drew)).sayA.mono ?_
        rintro e w6 ⟨rfl, t6⟩
        have C6 := Lib.hid t6
        clear t6 hC
        refine hK.out _ _ (KK.out _ _ _ C6.out) ?_
        clear hK K'
        refine wpPlan.runs fun K' hK => ?_
        go_simp
        refine (C6.out.hearsB C6.out.oka 7).mono ?_
        rintro e w7 ⟨rfl, t7⟩
        have e7 := sb_next FAR.out m0.out k
        rw [congrArg Prod.snd e7] at t7
        rw [congrArg Prod.fst e7]
        have C7 := Lib.hid t7
        clear t7 C6 e7
        generalize ((sb p q 7 k).hears (sa p q 7 k) 7).1 = x7
        refine hK.out _ _ (KK.out _ _ _ C7.out) ?_
        clear hK K'
        refine wpPlan.done ?_
        go_wp2_with fail
        refine wp_region_plan (fun w' => w'.cell? ⟨bx, 0, none⟩ = some (.pointer (some ⟨g, 0, none⟩)) ∧ w'.cell? ⟨bx, 1, none⟩ = some (.pointer (some ⟨r, 0, none⟩)) ∧ w'.cell? ⟨V.heap.size, 0, none⟩ = some (.int .i64 l0) ∧ w'.cell? ⟨V.heap.size, 1, none⟩ = some (.int .i64 l1)) (.take 0 (.take 1 (.take 2 (.take 3 (.take 4 (.take 5 (.take 6 (.alt 7 (.alt 8 .done .none) .none)))))))) _
          (by simp only [Plan.map, opOf, List.getElem?_toArray, List.getElem?_cons_zero, List.getElem?_cons_succ, Option.getD_some]; rfl) (by kernel_rfl) (by kernel_rfl) (by kernel_rfl) (by decide) (by intro c a d v w; cases d <;> exact fun h => h)
          (KK.out _ _ _ (C7.out.still ((Step.refl None _).drew))) ?_
        (refine wpPlan.taken (by rfl) (by intro w' hS'; (try dsimp only at hS'); go_split_ands; go_simp; try with_reducible rfl) ?_; simp only [Act.put, List.setIfInBounds_toArray, List.set_cons_zero, List.set_cons_succ])
        (refine wpPlan.taken (by rfl) (by intro w' hS'; (try dsimp only at hS'); go_split_ands; go_simp; try with_reducible rfl) ?_; simp only [Act.put, List.setIfInBounds_toArray, List.set_cons_zero, List.set_cons_succ])
        (refine wpPlan.taken (by rfl) (by intro w' hS'; (try dsimp only at hS'); go_split_ands; go_simp; try with_reducible rfl) ?_; simp only [Act.put, List.setIfInBounds_toArray, List.set_cons_zero, List.set_cons_succ])
        (refine wpPlan.taken (by rfl) (by intro w' hS'; (try dsimp only at hS'); go_split_ands; go_simp; try with_reducible rfl) ?_; simp only [Act.put, List.setIfInBounds_toArray, List.set_cons_zero, List.set_cons_succ])
        refine wpPlan.taken (v := .int .i64 0) (by rfl) (by intro w' hS'; go_simp; rfl) ?_; simp only [Act.put, List.setIfInBounds_toArray, List.set_cons_zero, List.set_cons_succ]
        repeat (first | (refine wpPlan.taken (by rfl) (by intro w' hS'; (try dsimp only at hS'); go_split_ands; go_simp; try with_reducible rfl) ?_; simp only [Act.put, List.setIfInBounds_toArray, List.set_cons_zero, List.set_cons_succ]) | (refine wpPlan.passed (by rfl) ?_; simp only [Act.put, List.setIfInBounds_toArray, List.set_cons_zero, List.set_cons_succ]))
        refine wpPlan.runs fun K' hK => ?_
        go_simp
        refine (C7.out.still ((Step.refl None _).drew)).sayB.mono ?_
        rintro e w8 ⟨rfl, t8⟩
        have C8 := Lib.hid t8
        clear t8 C7
        refine hK.out _ _ (KK.out _ _ _ C8.out) ?_
        clear hK K'
        refine wpPlan.runs fun K' hK => ?_
        go_simp
        refine (C8.out.hearsA C8.out.okb 7).mono ?_
        rintro e w9 ⟨rfl, t9⟩
        have e9 := sa_next FAR.out m0.out k
        rw [congrArg Prod.snd e9] at t9
        rw [congrArg Prod.fst e9]
        have C9 := Lib.hid t9
        clear t9 C8 e9
        generalize ((sa p q 7 k).hears (sb p q 7 (k + 1)) 7).1 = x9
        refine hK.out _ _ (KK.out _ _ _ C9.out) ?_
        clear hK K'
        refine wpPlan.done ?_
        go_wp2_with fail
        go_roundw
        case rel => exact ⟨k + 1, by omega, by first | rfl | simp, C9⟩
        case measure => simp [intOf]; omega
      · have hk3 : k = 3 := by simp at d1; omega
        have hD := hC.out
        rw [hk3] at hD
        have hD : Hid (Two X _ r g (joined p q 7) (joined q p 7)) := Lib.hid hD
        clear hC hk3
        have ep : (joined p q 7).epoch = (joined q p 7).epoch := by rw [joined_epoch, joined_epoch]; omega
        have HEP := Lib.hid ep
        clear ep
        have KC := KK.out _ _ _ hD.out
        obtain ⟨k0, k1, -, -⟩ := KC
        go_wp2_with fail
        refine hD.out.upB.mono ?_
        rintro e wz ⟨rfl, rfl⟩
        rw [show (joined q p 7).up = true from rfl]
        go_wp2_with fail
        refine hD.out.upA.mono ?_
        rintro e wz ⟨rfl, rfl⟩
        rw [show (joined p q 7).up = true from rfl]
        go_wp2_with fail
        refine hD.out.epochB.mono ?_
        rintro e w10 ⟨rfl, t10⟩
        have D10 := Lib.hid t10
        clear t10 hD k0 k1
        go_wp2_with fail
        refine D10.out.epochA.mono ?_
        rintro e w11 ⟨rfl, t11⟩
        have D11 := Lib.hid t11
        clear t11 D10
        obtain ⟨k0, k1, -, -⟩ := KK.out _ _ _ D11.out
        rw [← HEP.out]
        go_wp2_with fail
        refine D11.out.roleA.mono ?_
        rintro e wz ⟨rfl, rfl⟩
        rw [RO.out.1]
        go_wp2_with fail
        refine D11.out.roleB.mono ?_
        rintro e wz ⟨rfl, rfl⟩
        rw [RO.out.2]
        go_wp2_with fail
        go_ret
        exact ⟨by simp, (S5.out.trans D11.out.st (fun i hi e => by have := GG.out; show False; omega)).toBelow⟩

end Go.Proofs.YtaacpjihkmklbaaDoor
