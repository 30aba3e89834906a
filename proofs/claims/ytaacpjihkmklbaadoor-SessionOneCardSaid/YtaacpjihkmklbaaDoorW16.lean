/- SessionOne, walked. -/
import Derived.Test.YtaacpjihkmklbaaDoorW15
import Derived.Test.YtaacpjihkmklbaaDoorCut
namespace Go.Proofs.YtaacpjihkmklbaaDoor
open Go.RowKit Go.Gm

def RowsAt (w : World) (ao : Option Addr) (len : Nat) : Prop :=
  ∀ i, i < len → ∃ b off x y z, ao = some ⟨b, off, none⟩ ∧ w.cell? ⟨b, off + i * 3 + 0, none⟩ = some (.int .i64 x) ∧ w.cell? ⟨b, off + i * 3 + 1, none⟩ = some (.int .i64 y) ∧ w.cell? ⟨b, off + i * 3 + 2, none⟩ = some (.int .i64 z)
theorem rows_arg {w : World} {v : Value} (h : Arg w (.slice 3 24 (.arr 3 1 (.int .i64))) v) : ∃ ao len cap, v = .slice ao len cap ∧ len ≤ cap ∧ (len : Int) ≤ 9223372036854775807 ∧ RowsAt w ao len := by
  obtain ⟨ao, len, cap, rfl, h1, h2, h3, h4⟩ := (h.one rfl).elems (by decide)
  refine ⟨ao, len, cap, rfl, h1, by omega, fun i hi => ?_⟩
  obtain ⟨b, off, cs, rfl, hl, hc, hf⟩ := h4 i hi
  obtain ⟨x, hx, -⟩ := hf.2 0 (by decide)
  obtain ⟨y, hy, -⟩ := hf.2 1 (by decide)
  obtain ⟨z, hz, -⟩ := hf.2 2 (by decide)
  match cs, hl with
  | [p, q, r], _ =>
    simp at hx hy hz
    subst hx hy hz
    exact ⟨b, off, x, y, z, rfl, hc 0 (by decide), hc 1 (by decide), hc 2 (by decide)⟩

set_option maxRecDepth 10000 in
set_option maxHeartbeats 64000000 in
theorem sessionOne_walk (v0 v1 : Value) (w : World) (hT : HasAt 0 w) (h0 : Arg w (.arr 2 1 (.int .i64)) v0) (h1 : Arg w (.slice 3 24 (.arr 3 1 (.int .i64))) v1) :
    Calls Tryd.prog 5 #[v0, v1] w fun e w' => e = .returned (.bool true) ∧ Below w.heap.size w w' := by
  obtain ⟨x0, x1, rfl⟩ := arr2_int h0
  obtain ⟨ao, len, cap, rfl, hcap, hlen, hrows⟩ := rows_arg h1
  clear h0 h1
  have HROWS := Lib.hid hrows
  have T0 := Lib.hid hT.lt
  have p1 := heap_alloc_new w (.cells #[.int .i64 x0, .int .i64 x1] 41)
  have s1 := (Step.refl None w).alloc (.cells #[.int .i64 x0, .int .i64 x1] 41)
  obtain ⟨W, hW⟩ : ∃ W, w.alloc (.cells #[.int .i64 x0, .int .i64 x1] 41) = W := ⟨_, rfl⟩
  rw [hW] at p1 s1
  have HE := Lib.hid hW
  have P1 := Lib.hid p1
  have S1 := Lib.hid s1
  have T1 := Lib.hid (hT.still s1)
  clear hW p1 s1 hT hrows
  by_cases hA : newOk 0 x0 1
  rotate_left
  · by_cases hB : newOk 1 x1 1
    · have N := Lib.hid (fun w => new_bad 0 x0 1 w hA)
      have M := Lib.hid (fun w => new_ok 1 x1 1 w hB)
      clear hA hB
      go_enter Tryd.func5, Tryd.ntmps5
      go_wp2_with (first | rw [HE.out])
      refine (awake_any W T1.out).mono ?_
      rintro e w2 ⟨rfl, s2⟩
      have P2 := Lib.hid (s2.blk P1.out (fun s => s.elim))
      have S2 := Lib.hid (S1.out.then_ s2)
      have T2 := Lib.hid (T1.out.still s2)
      have k := blk_cell P2.out
      have k0 := k 0
      have k1 := k 1
      simp only [List.getElem?_toArray, List.getElem?_cons_zero, List.getElem?_cons_succ] at k0 k1
      clear k
      clear s2 P1 S1 T1
      go_wp2_with fail
      refine (N.out _).mono ?_
      rintro e wz ⟨rfl, rfl⟩
      go_wp2_with fail
      refine (M.out _).mono ?_
      rintro e w3 ⟨rfl, -, s3⟩
      clear k0 k1
      have P3 := Lib.hid (s3.blk P2.out (fun s => s.elim))
      have S3 := Lib.hid (S2.out.then_ s3)
      have T3 := Lib.hid (T2.out.still s3)
      have k := blk_cell P3.out
      have k0 := k 0
      have k1 := k 1
      simp only [List.getElem?_toArray, List.getElem?_cons_zero, List.getElem?_cons_succ] at k0 k1
      clear k
      go_wp2_with fail
      go_ret
      exact ⟨rfl, S3.out.toBelow⟩
    · have N := Lib.hid (fun w => new_bad 0 x0 1 w hA)
      have M := Lib.hid (fun w => new_bad 1 x1 1 w hB)
      clear hA hB
      go_enter Tryd.func5, Tryd.ntmps5
      go_wp2_with (first | rw [HE.out])
      refine (awake_any W T1.out).mono ?_
      rintro e w2 ⟨rfl, s2⟩
      have P2 := Lib.hid (s2.blk P1.out (fun s => s.elim))
      have S2 := Lib.hid (S1.out.then_ s2)
      have T2 := Lib.hid (T1.out.still s2)
      have k := blk_cell P2.out
      have k0 := k 0
      have k1 := k 1
      simp only [List.getElem?_toArray, List.getElem?_cons_zero, List.getElem?_cons_succ] at k0 k1
      clear k
      clear s2 P1 S1 T1
      go_wp2_with fail
      refine (N.out _).mono ?_
      rintro e wz ⟨rfl, rfl⟩
      go_wp2_with fail
      refine (M.out _).mono ?_
      rintro e wz ⟨rfl, rfl⟩
      go_wp2_with fail
      go_ret
      exact ⟨rfl, S2.out.toBelow⟩
  by_cases hB : newOk 1 x1 1
  rotate_left
  · have N := Lib.hid (fun w => new_ok 0 x0 1 w hA)
    have M := Lib.hid (fun w => new_bad 1 x1 1 w hB)
    clear hA hB
    go_enter Tryd.func5, Tryd.ntmps5
    go_wp2_with (first | rw [HE.out])
    refine (awake_any W T1.out).mono ?_
    rintro e w2 ⟨rfl, s2⟩
    have P2 := Lib.hid (s2.blk P1.out (fun s => s.elim))
    have S2 := Lib.hid (S1.out.then_ s2)
    have T2 := Lib.hid (T1.out.still s2)
    have k := blk_cell P2.out
    have k0 := k 0
    have k1 := k 1
    simp only [List.getElem?_toArray, List.getElem?_cons_zero, List.getElem?_cons_succ] at k0 k1
    clear k
    clear s2 P1 S1 T1
    go_wp2_with fail
    refine (N.out _).mono ?_
    rintro e w3 ⟨rfl, -, s3⟩
    clear k0 k1
    have P3 := Lib.hid (s3.blk P2.out (fun s => s.elim))
    have S3 := Lib.hid (S2.out.then_ s3)
    have T3 := Lib.hid (T2.out.still s3)
    have k := blk_cell P3.out
    have k0 := k 0
    have k1 := k 1
    simp only [List.getElem?_toArray, List.getElem?_cons_zero, List.getElem?_cons_succ] at k0 k1
    clear k
    go_wp2_with fail
    refine (M.out _).mono ?_
    rintro e wz ⟨rfl, rfl⟩
    go_wp2_with fail
    go_ret
    exact ⟨rfl, S3.out.toBelow⟩
  have N := Lib.hid (fun w => new_ok 0 x0 1 w hA)
  have M := Lib.hid (fun w => new_ok 1 x1 1 w hB)
  have HA := Lib.hid hA
  have HB := Lib.hid hB
  clear hA hB
  go_enter Tryd.func5, Tryd.ntmps5
  go_wp2_with (first | rw [HE.out])
  refine (awake_any W T1.out).mono ?_
  rintro e w2 ⟨rfl, s2⟩
  have P2 := Lib.hid (s2.blk P1.out (fun s => s.elim))
  have S2 := Lib.hid (S1.out.then_ s2)
  have T2 := Lib.hid (T1.out.still s2)
  have k := blk_cell P2.out
  have k0 := k 0
  have k1 := k 1
  simp only [List.getElem?_toArray, List.getElem?_cons_zero, List.getElem?_cons_succ] at k0 k1
  clear k
  clear s2 P1 S1 T1
  go_wp2_with fail
  refine (N.out _).mono ?_
  rintro e w3 ⟨rfl, a3, s3⟩
  clear k0 k1
  have P3 := Lib.hid (s3.blk P2.out (fun s => s.elim))
  have S3 := Lib.hid (S2.out.then_ s3)
  have T3 := Lib.hid (T2.out.still s3)
  have k := blk_cell P3.out
  have k0 := k 0
  have k1 := k 1
  simp only [List.getElem?_toArray, List.getElem?_cons_zero, List.getElem?_cons_succ] at k0 k1
  clear k
  have A3 := Lib.hid a3
  clear a3 s3
  go_wp2_with fail
  refine (M.out _).mono ?_
  rintro e w4 ⟨rfl, b4, s4⟩
  clear k0 k1
  have P4 := Lib.hid (s4.blk P3.out (fun s => s.elim))
  have S4 := Lib.hid (S3.out.then_ s4)
  have T4 := Lib.hid (T3.out.still s4)
  have A4 := Lib.hid (s4.blk A3.out (fun s => s.elim))
  have B4 := Lib.hid b4
  have NE : Hid (w2.heap.size ≠ w3.heap.size) := Lib.hid (by have := blk_lt A3.out; omega)
  have G0 : Hid (w.heap.size ≤ w2.heap.size) := Lib.hid S2.out.size
  have H0 : Hid (w.heap.size ≤ w3.heap.size) := Lib.hid S3.out.size
  clear b4 s4 A3 N M P2 S2 T2 P3 S3 T3
  generalize w2.heap.size = g at *
  generalize w3.heap.size = r at *
  have p5 := heap_alloc_new w4 (.cells #[.pointer (some ⟨g, 0, none⟩), .pointer (some ⟨r, 0, none⟩)] 42)
  have s5 := (Step.refl None w4).alloc (.cells #[.pointer (some ⟨g, 0, none⟩), .pointer (some ⟨r, 0, none⟩)] 42)
  obtain ⟨V, hV⟩ : ∃ V, w4.alloc (.cells #[.pointer (some ⟨g, 0, none⟩), .pointer (some ⟨r, 0, none⟩)] 42) = V := ⟨_, rfl⟩
  rw [hV] at p5 s5
  have p6 := heap_alloc_new V (.cells #[.slice none 0 0, .slice none 0 0] 46)
  have s6 := (Step.refl None V).alloc (.cells #[.slice none 0 0, .slice none 0 0] 46)
  obtain ⟨X, hX⟩ : ∃ X, V.alloc (.cells #[.slice none 0 0, .slice none 0 0] 46) = X := ⟨_, rfl⟩
  rw [hX] at p6 s6
  have HV := Lib.hid hV
  have HX := Lib.hid hX
  have d0 : Duet w X g r w4.heap.size V.heap.size (ses0 0 x0 1) (ses0 1 x1 1) (.slice none 0 0) (.slice none 0 0) [] [] :=
    ⟨⟨0, s6.blk (s5.blk A4.out (fun s => s.elim)) (fun s => s.elim)⟩, ⟨0, s6.blk (s5.blk B4.out (fun s => s.elim)) (fun s => s.elim)⟩, s6.blk p5 (fun s => s.elim), p6, Row.nil _ _ _, Row.nil _ _ _, G0.out, H0.out, by have := S4.out.size; have := s5.size; omega, T0.out,
      fun k hk => by simp [Leads, Value.ownBlock] at hk, fun k hk => by simp [Leads, Value.ownBlock] at hk, fun k hk => by simp [Leads, Value.ownBlock] at hk, NE.out, (S4.out.then_ s5).then_ s6, ses0_ok HA.out, ses0_ok HB.out, (T4.out.still s5).still s6⟩
  have D0 := Lib.hid d0
  have U0 := Lib.hid (duo_new HA.out HB.out)
  clear d0 p5 s5 p6 s6 A4 B4 P4 S4 T4 hX hV HA HB NE G0 H0
  go_wp2_with (first | rw [HV.out] | rw [HX.out])
  generalize w4.heap.size = bx at *
  generalize V.heap.size = bs at *
  go_loopw [12, 13] (fun tn t wr => ∃ i : Nat, i ≤ len ∧ i ≤ 300 ∧ t = .int .i64 i ∧ ∃ (now : Int) (a b : Ses) (va vb : Value) (A B : List Ses), tn = .int .i64 now ∧ 0 ≤ now ∧ now ≤ 7 * (i : Int) ∧ A.length ≤ i ∧ B.length ≤ i ∧ Hid (Duet w wr g r bx bs a b va vb A B) ∧ Hid (Duo a b A B i)) (fun _ t _ => len - (intOf t).toNat)
  case atStart => exact ⟨0, by omega, by omega, rfl, 0, _, _, _, _, [], [], rfl, by omega, by omega, by simp, by simp, D0, U0⟩
  case round =>
    obtain ⟨i, hi, h300, rfl, now, a, b, va, vb, A, B, rfl, n0, n1, lA, lB, hD, hU⟩ := hrel
    rename_i wr
    clear D0 U0
    have ST := Lib.hid hD.out.st
    cases d1 : decide ((i : Int) < (len : Int))
    · have d1' : decide (i < len) = false := by simpa using d1
      go_wp2_with fail
      go_ret
      exact ⟨rfl, ST.out.toBelow⟩
    have hlt : i < len := by simpa using d1
    have d1' : decide (i < len) = true := by simpa using d1
    cases d2 : decide ((i : Int) < 300)
    · go_wp2_with fail
      go_ret
      exact ⟨rfl, ST.out.toBelow⟩
    have hl3 : i < 300 := by simp at d2; omega
    obtain ⟨b0, off, op, kk, z, rfl, c0, c1, c2⟩ := HROWS.out i hlt
    have c0i : (0 : Int) ≤ (i : Int) := by omega
    have c1i : (i : Int) < (len : Int) := by omega
    rw [Nat.add_zero] at c0
    have CC : Hid (∀ w', Step None w w' → w'.cell? ⟨b0, off + i * 3, none⟩ = some (.int .i64 op) ∧ w'.cell? ⟨b0, off + i * 3 + 1, none⟩ = some (.int .i64 kk) ∧ w'.cell? ⟨b0, off + i * 3 + 2, none⟩ = some (.int .i64 z)) := Lib.hid (fun w' h' =>
      ⟨(h'.cell (p := ⟨b0, off + i * 3, none⟩) (World.block_lt_of_cell? _ _ c0) (fun s => s.elim)).trans c0, (h'.cell (p := ⟨b0, off + i * 3 + 1, none⟩) (World.block_lt_of_cell? _ _ c1) (fun s => s.elim)).trans c1, (h'.cell (p := ⟨b0, off + i * 3 + 2, none⟩) (World.block_lt_of_cell? _ _ c2) (fun s => s.elim)).trans c2⟩)
    clear c0 c1 c2
    obtain ⟨q0, q1, q2⟩ := CC.out _ ST.out
    have mz : mom now = true := by simp [mom]; omega
    have MZ := Lib.hid mz
    clear mz
    obtain ⟨kz, hkz⟩ : ∃ kz, bits BinOp.and IntKind.i64 kk 1 = kz := ⟨_, rfl⟩
    go_wp2_with (with_reducible refine stop_at 78 ?_)
    rename_i K3 h3 K2 h2 K1 h1
    have cut : ∀ (c4 c14 c58 c59 c60 c61 c62 c63 c64 c65 c66 c67 c68 c69 c70 c71 c72 c73 c74 c75 c76 c77 c78 c79 c80 c81 c82 c83 c84 c85 c86 c87 c88 c89 c90 c91 c92 c93 c94 c95 c96 c97 c98 c99 c100 c101 c102 c103 c104 c105 c106 c107 c108 c109 c110 c111 c112 c113 c114 c115 c116 c117 c118 c119 c120 c121 c122 c123 c124 c125 c126 c127 c128 c129 c130 c131 c132 c133 c134 c135 c136 c137 c138 c139 c140 c141 c142 c143 c144 c145 c146 c147 c148 c149 c150 c151 c152 c153 c154 c155 c156 c157 c158 c159 c160 c161 c162 c163 c164 c165 c166 c167 c168 c169 c170 c171 c172 c173 c174 c175 c176 c177 c178 c179 c180 c181 c182 c183 c184 c185 c186 c187 c188 c189 c190 c191 c192 c193 c194 c195 c196 c197 : Value) (wr : World) (now : Int) (a b : Ses) (va vb : Value) (A B : List Ses), 0 ≤ now → now ≤ 7 * ((i : Int) + 1) → A.length ≤ i + 1 → B.length ≤ i + 1 → Hid (Duet w wr g r bx bs a b va vb A B) → Hid (Duo a b A B (i + 1)) → K2 ⟨#[Value.agg #[Value.int IntKind.i64 x0, Value.int IntKind.i64 x1], Value.slice (some { block := b0, off := off }) len cap, Value.pointer (some { block := w.heap.size, off := 0 }), undef, c4, Value.bool true, Value.pointer (some { block := g, off := 0 }), Value.int IntKind.i64 0, Value.pointer (some { block := r, off := 0 }), Value.int IntKind.i64 0, Value.pointer (some { block := bx, off := 0 }), Value.pointer (some { block := bs, off := 0 }), Value.int IntKind.i64 now, Value.int IntKind.i64 ↑i, c14, Value.bool true, Value.tuple #[Value.pointer (some { block := g, off := 0 }), Value.int IntKind.i64 0], Value.pointer (some { block := w.heap.size, off := 0 }), Value.int IntKind.i64 x0, Value.tuple #[Value.pointer (some { block := g, off := 0 }), Value.int IntKind.i64 0], Value.pointer (some { block := g, off := 0 }), Value.int IntKind.i64 0, Value.tuple #[Value.pointer (some { block := r, off := 0 }), Value.int IntKind.i64 0], Value.pointer (some { block := w.heap.size, off := 1 }), Value.int IntKind.i64 x1, Value.tuple #[Value.pointer (some { block := r, off := 0 }), Value.int IntKind.i64 0], Value.pointer (some { block := r, off := 0 }), Value.int IntKind.i64 0, Value.bool true, Value.bool false, Value.bool false, Value.int IntKind.i64 0, Value.bool false, Value.bool false, Value.bool false, Value.int IntKind.i64 0, Value.bool false, Value.bool false, undef, undef, undef, undef, undef, undef, undef, undef, undef, undef, undef, undef, undef, undef, undef, undef, undef, Value.pointer (some { block := g, off := 0 }), Value.pointer (some { block := r, off := 0 }), Value.agg #[Value.pointer (some { block := g, off := 0 }), Value.pointer (some { block := r, off := 0 })], c58, c59, c60, c61, c62, c63, c64, c65, c66, c67, c68, c69, c70, c71, c72, c73, c74, c75, c76, c77, c78, c79, c80, c81, c82, c83, c84, c85, c86, c87, c88, c89, c90, c91, c92, c93, c94, c95, c96, c97, c98, c99, c100, c101, c102, c103, c104, c105, c106, c107, c108, c109, c110, c111, c112, c113, c114, c115, c116, c117, c118, c119, c120, c121, c122, c123, c124, c125, c126, c127, c128, c129, c130, c131, c132, c133, c134, c135, c136, c137, c138, c139, c140, c141, c142, c143, c144, c145, c146, c147, c148, c149, c150, c151, c152, c153, c154, c155, c156, c157, c158, c159, c160, c161, c162, c163, c164, c165, c166, c167, c168, c169, c170, c171, c172, c173, c174, c175, c176, c177, c178, c179, c180, c181, c182, c183, c184, c185, c186, c187, c188, c189, c190, c191, c192, c193, c194, c195, c196, c197], []⟩ wr := by
      clear h1 K1 MZ CC ST hD hU n0 n1 lA lB q1 hkz
      intro c4 c14 c58 c59 c60 c61 c62 c63 c64 c65 c66 c67
      intro c68 c69 c70 c71 c72 c73 c74 c75 c76 c77 c78 c79
      intro c80 c81 c82 c83 c84 c85 c86 c87 c88 c89 c90 c91
      intro c92 c93 c94 c95 c96 c97 c98 c99 c100 c101 c102 c103
      intro c104 c105 c106 c107 c108 c109 c110 c111 c112 c113 c114 c115
      intro c116 c117 c118 c119 c120 c121 c122 c123 c124 c125 c126 c127
      intro c128 c129 c130 c131 c132 c133 c134 c135 c136 c137 c138 c139
      intro c140 c141 c142 c143 c144 c145 c146 c147 c148 c149 c150 c151
      intro c152 c153 c154 c155 c156 c157 c158 c159 c160 c161 c162 c163
      intro c164 c165 c166 c167 c168 c169 c170 c171 c172 c173 c174 c175
      intro c176 c177 c178 c179 c180 c181 c182 c183 c184 c185 c186 c187
      intro c188 c189 c190 c191 c192 c193 c194 c195 c196 c197
      intro wr now a b va vb A B n0 n1 lA lB DD UU
      refine h2 _ _ ?_
      clear h2
      have pos := UU.out.pos
      have one := UU.out.one
      have r0a := UU.out.roleA
      have r0b := UU.out.roleB
      cases ua : Ses.up a
      · simp only [ua] at pos
        clear one r0a
        cases ub : Ses.up b
        · clear r0b
          go_wp2_with fail
          refine DD.out.two'.upA.mono ?_
          rintro e wz ⟨rfl, rfl⟩
          rw [ua]
          go_wp2_with fail
          refine DD.out.two'.upA.mono ?_
          rintro e wz ⟨rfl, rfl⟩
          rw [ua]
          go_wp2_with fail
          refine DD.out.two'.upB.mono ?_
          rintro e wz ⟨rfl, rfl⟩
          rw [ub]
          go_wp2_with fail
          refine DD.out.two'.upA.mono ?_
          rintro e wz ⟨rfl, rfl⟩
          rw [ua]
          go_wp2_with fail
          refine DD.out.two'.epochA.mono ?_
          rintro e wy ⟨rfl, ty⟩
          have DD := Lib.hid (DD.out.next ty)
          clear ty
          go_wp2_with fail
          go_roundw
          case rel => exact ⟨i + 1, by omega, by omega, by first | rfl | simp, _, _, _, _, _, _, _, rfl, by omega, by simp only [Int.natCast_add, Int.natCast_one]; omega, by (try simp only [List.length_append, List.length_cons, List.length_nil]); omega, by (try simp only [List.length_append, List.length_cons, List.length_nil]); omega, DD, UU⟩
          case measure => simp [intOf]; omega
        · replace r0b := r0b ub
          go_wp2_with fail
          refine DD.out.two'.upA.mono ?_
          rintro e wz ⟨rfl, rfl⟩
          rw [ua]
          go_wp2_with fail
          refine DD.out.two'.upA.mono ?_
          rintro e wz ⟨rfl, rfl⟩
          rw [ua]
          go_wp2_with fail
          refine DD.out.two'.upB.mono ?_
          rintro e wz ⟨rfl, rfl⟩
          rw [ub]
          go_wp2_with fail
          refine DD.out.two'.roleB.mono ?_
          rintro e wz ⟨rfl, rfl⟩
          go_wp2_with fail
          refine DD.out.two'.upA.mono ?_
          rintro e wz ⟨rfl, rfl⟩
          rw [ua]
          go_wp2_with fail
          refine DD.out.two'.epochA.mono ?_
          rintro e wy ⟨rfl, ty⟩
          have DD := Lib.hid (DD.out.next ty)
          clear ty
          go_wp2_with fail
          go_roundw
          case rel => exact ⟨i + 1, by omega, by omega, by first | rfl | simp, _, _, _, _, _, _, _, rfl, by omega, by simp only [Int.natCast_add, Int.natCast_one]; omega, by (try simp only [List.length_append, List.length_cons, List.length_nil]); omega, by (try simp only [List.length_append, List.length_cons, List.length_nil]); omega, DD, UU⟩
          case measure => simp [intOf]; omega
      · simp only [ua] at pos
        replace r0a := r0a ua
        cases ub : Ses.up b
        · clear r0b one
          go_wp2_with fail
          refine DD.out.two'.upA.mono ?_
          rintro e wz ⟨rfl, rfl⟩
          rw [ua]
          go_wp2_with fail
          refine DD.out.two'.upB.mono ?_
          rintro e wz ⟨rfl, rfl⟩
          rw [ub]
          go_wp2_with fail
          refine DD.out.two'.upA.mono ?_
          rintro e wz ⟨rfl, rfl⟩
          rw [ua]
          go_wp2_with fail
          refine DD.out.two'.roleA.mono ?_
          rintro e wz ⟨rfl, rfl⟩
          go_wp2_with fail
          refine DD.out.two'.upB.mono ?_
          rintro e wz ⟨rfl, rfl⟩
          rw [ub]
          go_wp2_with fail
          refine DD.out.two'.upA.mono ?_
          rintro e wz ⟨rfl, rfl⟩
          rw [ua]
          go_wp2_with fail
          refine DD.out.two'.epochA.mono ?_
          rintro e wy ⟨rfl, ty⟩
          have DD := Lib.hid (DD.out.next ty)
          clear ty
          go_wp2_with fail
          go_roundw
          case rel => exact ⟨i + 1, by omega, by omega, by first | rfl | simp, _, _, _, _, _, _, _, rfl, by omega, by simp only [Int.natCast_add, Int.natCast_one]; omega, by (try simp only [List.length_append, List.length_cons, List.length_nil]); omega, by (try simp only [List.length_append, List.length_cons, List.length_nil]); omega, DD, UU⟩
          case measure => simp [intOf]; omega
        · replace r0b := r0b ub
          cases he : (Ses.epoch a == Ses.epoch b)
          · clear one
            go_wp2_with fail
            refine DD.out.two'.upA.mono ?_
            rintro e wz ⟨rfl, rfl⟩
            rw [ua]
            go_wp2_with fail
            refine DD.out.two'.upB.mono ?_
            rintro e wz ⟨rfl, rfl⟩
            rw [ub]
            go_wp2_with fail
            refine DD.out.two'.epochA.mono ?_
            rintro e wy ⟨rfl, ty⟩
            have DD := Lib.hid (DD.out.next ty)
            clear ty
            go_wp2_with fail
            refine DD.out.two'.epochB.mono ?_
            rintro e wy ⟨rfl, ty⟩
            have DD := Lib.hid (DD.out.next ty)
            clear ty
            go_wp2_with fail
            refine DD.out.two'.upA.mono ?_
            rintro e wz ⟨rfl, rfl⟩
            rw [ua]
            go_wp2_with fail
            refine DD.out.two'.roleA.mono ?_
            rintro e wz ⟨rfl, rfl⟩
            go_wp2_with fail
            refine DD.out.two'.upB.mono ?_
            rintro e wz ⟨rfl, rfl⟩
            rw [ub]
            go_wp2_with fail
            refine DD.out.two'.roleB.mono ?_
            rintro e wz ⟨rfl, rfl⟩
            go_wp2_with fail
            refine DD.out.two'.upA.mono ?_
            rintro e wz ⟨rfl, rfl⟩
            rw [ua]
            go_wp2_with fail
            refine DD.out.two'.epochA.mono ?_
            rintro e wy ⟨rfl, ty⟩
            have DD := Lib.hid (DD.out.next ty)
            clear ty
            go_wp2_with fail
            go_roundw
            case rel => exact ⟨i + 1, by omega, by omega, by first | rfl | simp, _, _, _, _, _, _, _, rfl, by omega, by simp only [Int.natCast_add, Int.natCast_one]; omega, by (try simp only [List.length_append, List.length_cons, List.length_nil]); omega, by (try simp only [List.length_append, List.length_cons, List.length_nil]); omega, DD, UU⟩
            case measure => simp [intOf]; omega
          · replace one := one ua ub (by simpa using he)
            go_wp2_with fail
            refine DD.out.two'.upA.mono ?_
            rintro e wz ⟨rfl, rfl⟩
            rw [ua]
            go_wp2_with fail
            refine DD.out.two'.upB.mono ?_
            rintro e wz ⟨rfl, rfl⟩
            rw [ub]
            go_wp2_with fail
            refine DD.out.two'.epochA.mono ?_
            rintro e wy ⟨rfl, ty⟩
            have DD := Lib.hid (DD.out.next ty)
            clear ty
            go_wp2_with fail
            refine DD.out.two'.epochB.mono ?_
            rintro e wy ⟨rfl, ty⟩
            have DD := Lib.hid (DD.out.next ty)
            clear ty
            go_wp2_with fail
            refine DD.out.two'.roleA.mono ?_
            rintro e wz ⟨rfl, rfl⟩
            go_wp2_with fail
            refine DD.out.two'.roleB.mono ?_
            rintro e wz ⟨rfl, rfl⟩
            go_wp2_with fail
            refine DD.out.two'.upA.mono ?_
            rintro e wz ⟨rfl, rfl⟩
            rw [ua]
            go_wp2_with fail
            refine DD.out.two'.roleA.mono ?_
            rintro e wz ⟨rfl, rfl⟩
            go_wp2_with fail
            refine DD.out.two'.upB.mono ?_
            rintro e wz ⟨rfl, rfl⟩
            rw [ub]
            go_wp2_with fail
            refine DD.out.two'.roleB.mono ?_
            rintro e wz ⟨rfl, rfl⟩
            go_wp2_with fail
            refine DD.out.two'.upA.mono ?_
            rintro e wz ⟨rfl, rfl⟩
            rw [ua]
            go_wp2_with fail
            refine DD.out.two'.epochA.mono ?_
            rintro e wy ⟨rfl, ty⟩
            have DD := Lib.hid (DD.out.next ty)
            clear ty
            go_wp2_with fail
            go_roundw
            case rel => exact ⟨i + 1, by omega, by omega, by first | rfl | simp, _, _, _, _, _, _, _, rfl, by omega, by simp only [Int.natCast_add, Int.natCast_one]; omega, by (try simp only [List.length_append, List.length_cons, List.length_nil]); omega, by (try simp only [List.length_append, List.length_cons, List.length_nil]); omega, DD, UU⟩
            case measure => simp [intOf]; omega
    have CUT := Lib.hid cut
    clear cut h2
    refine Lib.hid ?_
    have h01 : kk % 2 = 0 ∨ kk % 2 = 1 := by omega
    rcases h01 with hk | hk
    · have eb : kz = 0 := by rw [← hkz, and_1]; omega
      subst eb
      clear hk hkz
      by_cases o0 : op = 0
      · subst o0
        obtain ⟨ao1, cap1, rfl, hac, ham⟩ := hD.out.ra.form
        obtain ⟨ao2, cap2, rfl, hbc, hbm⟩ := hD.out.rb.form
        have hD1 := hD.out
        obtain ⟨k0, k1, m0, m1⟩ := hD1.cells hD1.ra (Step.refl _ _)
        have dr : Step None wr wr.drew := (Step.refl None wr).drew
        have hc1 := fun w' (s : Step (Leads (.slice ao1 A.length cap1)) wr w') => hD1.cells hD1.ra s
        have HC1 := Lib.hid hc1
        clear hc1
        go_wp2_with fail
        refine wp_region_plan (fun w' => w'.cell? ⟨bx, 0, none⟩ = some (.pointer (some ⟨g, 0, none⟩)) ∧ w'.cell? ⟨bx, 1, none⟩ = some (.pointer (some ⟨r, 0, none⟩)) ∧ w'.cell? ⟨bs, 0, none⟩ = some (.slice ao1 A.length cap1) ∧ w'.cell? ⟨bs, 1, none⟩ = some (.slice ao2 B.length cap2)) (.take 0 (.take 1 (.take 2 (.take 3 (.take 4 (.take 5 (.take 6 (.alt 7 (.alt 8 (.alt 9 (.take 10 (.last 11)) .none) .none) .none)))))))) _
          (by simp only [Plan.map, opOf, List.getElem?_toArray, List.getElem?_cons_zero, List.getElem?_cons_succ, Option.getD_some]; rfl) (by kernel_rfl) (by kernel_rfl) (by kernel_rfl) (by decide) (by intro c a d v w; cases d <;> exact fun h => h)
          (HC1.out _ dr.none) ?_
        repeat (first | (refine wpPlan.taken (by rfl) (by intro w' hS'; (try dsimp only at hS'); go_split_ands; go_simp; try with_reducible rfl) ?_; simp only [Act.put, List.setIfInBounds_toArray, List.set_cons_zero, List.set_cons_succ]) | (refine wpPlan.passed (by rfl) ?_; simp only [Act.put, List.setIfInBounds_toArray, List.set_cons_zero, List.set_cons_succ]))
        refine wpPlan.runs fun K' hK => ?_
        go_simp
        refine (hD1.still dr).two'.sayA.mono ?_
        rintro e w5 ⟨rfl, t5⟩
        have d5 := (hD1.still dr).next t5
        refine hK.out _ _ (d5.cells d5.ra (Step.refl _ _)) ?_
        clear hK K' t5 HC1 dr k0 k1 m0 m1 hD1
        have D5 := Lib.hid d5
        clear d5 hD
        have al := (Step.refl None w5).alloc (.cells #[.int .i64 a.life, .int .i64 0, .int .i64 a.known, .int .i64 6, .int .i64 0, .int .u8 0, .int .u8 0, .int .u8 0, .int .u8 0, .int .u8 0, .int .u8 0, .int .i64 a.prio, .int .i64 a.claim, .slice none 0 0] 36)
        have ob : (w5.alloc (.cells #[.int .i64 a.life, .int .i64 0, .int .i64 a.known, .int .i64 6, .int .i64 0, .int .u8 0, .int .u8 0, .int .u8 0, .int .u8 0, .int .u8 0, .int .u8 0, .int .i64 a.prio, .int .i64 a.claim, .slice none 0 0] 36)).heap[w5.heap.size]? = some (.cells #[.int .i64 a.life, .int .i64 0, .int .i64 a.known, .int .i64 6, .int .i64 0, .int .u8 0, .int .u8 0, .int .u8 0, .int .u8 0, .int .u8 0, .int .u8 0, .int .i64 a.prio, .int .i64 a.claim, .slice none 0 0] 36 (0, 0)) := heap_alloc_new w5 (.cells #[.int .i64 a.life, .int .i64 0, .int .i64 a.known, .int .i64 6, .int .i64 0, .int .u8 0, .int .u8 0, .int .u8 0, .int .u8 0, .int .u8 0, .int .u8 0, .int .i64 a.prio, .int .i64 a.claim, .slice none 0 0] 36)
        have AL := Lib.hid al
        have OB := Lib.hid ob
        clear al ob
        refine wpPlan.runs fun K' hK => ?_
        simp only [Note.packet, Ses.note]
        go_simp
        have d6 := D5.out.still AL.out
        refine hK.out _ _ (d6.cells d6.ra (Step.refl _ _)) ?_
        have D6 := Lib.hid d6
        clear hK K' d6 D5 AL
        refine wpPlan.runs fun K' hK => ?_
        refine step_append_row (m := 1) T45 (by rfl) (.tmp 84) (.tmp 89) (by rfl) (by rfl) D6.out.ra (by rfl) (Src.ofBlock T45 (m := 1) (c := 1) OB.out (by rfl) (by simp [Value.oneCell'])) (by simp [maxLen]; omega) (by omega) ?_
        intro v2 w2 hr2 hs2 hl2
        refine hK.out _ _ (D6.out.cells D6.out.ra hs2) ?_
        clear hK K'
        have DD : Hid (Duet _ _ _ _ _ _ _ _ _ _ _ _) := Lib.hid (D6.out.saidA (x := a) hs2 hr2 hl2)
        have fz := blk_frozen (hs2.blk D6.out.sd (D6.out.ra.ne D6.out.sd (by decide))) 0
        obtain ⟨k0, k1, m0, m1⟩ := D6.out.cells D6.out.ra hs2
        obtain ⟨vo, vc, rfl, -, -⟩ := hr2.form
        clear D6 OB hr2 hs2 hl2
        repeat (first | (refine wpPlan.taken (by rfl) (by intro w' hS'; (try dsimp only at hS'); go_split_ands; go_simp; try with_reducible rfl) ?_; simp only [Act.put, List.setIfInBounds_toArray, List.set_cons_zero, List.set_cons_succ]) | (refine wpPlan.passed (by rfl) ?_; simp only [Act.put, List.setIfInBounds_toArray, List.set_cons_zero, List.set_cons_succ]))
        refine wpPlan.ends fun K' hK => ?_
        go_simp
        refine hK.out _ _ ?_
        clear hK K' fz k0 k1 m0 m1
        have UU := Lib.hid hU.out.sayA
        clear hU
        go_wp2_with fail
        exact CUT.out _ _ _ _ _ _ _ _ _ _ _ _ _ _ _ _ _ _ _ _ _ _ _ _ _ _ _ _ _ _ _ _ _ _ _ _ _ _ _ _ _ _ _ _ _ _ _ _ _ _ _ _ _ _ _ _ _ _ _ _ _ _ _ _ _ _ _ _ _ _ _ _ _ _ _ _ _ _ _ _ _ _ _ _ _ _ _ _ _ _ _ _ _ _ _ _ _ _ _ _ _ _ _ _ _ _ _ _ _ _ _ _ _ _ _ _ _ _ _ _ _ _ _ _ _ _ _ _ _ _ _ _ _ _ _ _ _ _ _ _ _ _ _ _ _ _ _ _ _ _ (by omega) (by omega) (by (try simp only [List.length_append, List.length_cons, List.length_nil]); omega) (by (try simp only [List.length_append, List.length_cons, List.length_nil]); omega) DD UU
      by_cases o1 : op = 1
      · subst o1
        clear o0
        obtain ⟨ao1, cap1, rfl, hac, ham⟩ := hD.out.ra.form
        obtain ⟨ao2, cap2, rfl, hbc, hbm⟩ := hD.out.rb.form
        have hD1 := hD.out
        obtain ⟨k0, k1, m0, m1⟩ := hD1.cells hD1.rb (Step.refl _ _)
        cases hn : decide ((0 : Int) < (B.length : Int))
        · have hn' : decide (0 < B.length) = false := by simp at hn ⊢; omega
          go_wp2_with fail
          have DD := hD
          have UU := Lib.hid hU.out.none
          clear hD hD1 hU k0 k1 m0 m1
          go_wp2_with fail
          exact CUT.out _ _ _ _ _ _ _ _ _ _ _ _ _ _ _ _ _ _ _ _ _ _ _ _ _ _ _ _ _ _ _ _ _ _ _ _ _ _ _ _ _ _ _ _ _ _ _ _ _ _ _ _ _ _ _ _ _ _ _ _ _ _ _ _ _ _ _ _ _ _ _ _ _ _ _ _ _ _ _ _ _ _ _ _ _ _ _ _ _ _ _ _ _ _ _ _ _ _ _ _ _ _ _ _ _ _ _ _ _ _ _ _ _ _ _ _ _ _ _ _ _ _ _ _ _ _ _ _ _ _ _ _ _ _ _ _ _ _ _ _ _ _ _ _ _ _ _ _ _ _ (by omega) (by omega) (by (try simp only [List.length_append, List.length_cons, List.length_nil]); omega) (by (try simp only [List.length_append, List.length_cons, List.length_nil]); omega) DD UU
        · have hpos : 0 < B.length := by simpa using hn
          have hn' : decide (0 < B.length) = true := by simpa using hpos
          have em : bits BinOp.and IntKind.i64 z 1023 = z % 1024 := and_1023 z
          obtain ⟨zm, hzm⟩ : ∃ zm : Nat, z % 1024 = zm := ⟨(z % 1024).toNat, by omega⟩
          obtain ⟨ix, hix⟩ : ∃ ix : Nat, zm % B.length = ix := ⟨_, rfl⟩
          have hm1 : ix < B.length := by rw [← hix]; exact Nat.mod_lt _ hpos
          have ht : (zm : Int).tmod (B.length : Int) = (ix : Int) := by rw [Int.tmod_eq_emod_of_nonneg (by omega), ← hix]; simp
          have hne : ¬ B = [] := by intro e; rw [e] at hpos; simp at hpos
          clear hix
          obtain ⟨x, hx⟩ : ∃ x, B[ix]? = some x := ⟨_, List.getElem?_eq_getElem hm1⟩
          obtain ⟨b1, off1, cap3, hv, hld, hlo⟩ := said_load hD1.rb hx
          simp only [Value.slice.injEq] at hv
          obtain ⟨rfl, -, rfl⟩ := hv
          have hlo2 := fun w' (s : Step None wr w') => (said_load ((hD1.still s).rb) hx)
          have HS : Hid (∀ w', Step None wr w' → (Instr.loadAt 36 (.pointer (some ⟨b1, off1 + ix * 14, none⟩))).run Tryd.prog w' = .ok (.agg (helloC x)) w') := Lib.hid (fun w' s => by
            obtain ⟨b2, off2, cap4, hv, -, h⟩ := hlo2 w' s
            simp only [Value.slice.injEq, Option.some.injEq, Addr.mk.injEq] at hv
            obtain ⟨⟨rfl, rfl, -⟩, -, -⟩ := hv
            exact h)
          have dr : Step None wr wr.drew := (Step.refl None wr).drew
          have qq := CC.out _ (ST.out.then_ dr)
          have kk2 := (hD1.still dr).cells (hD1.still dr).rb (Step.refl _ _)
          have okx : x.Ok := (hU.out.ab.said x (List.mem_of_getElem? hx)).1
          have c2i : ((ix : Nat) : Int) < (B.length : Int) := by omega
          clear hlo hlo2 hld
          have hU1 := hU
          have hD2 := Lib.hid hD1
          clear hD hD1 hU
          go_wp2_with fail
          clear k0 k1 m0 m1 q0 q1 q2
          refine wp_region_plan (fun w' => ((w'.cell? ⟨b0, off + i * 3, none⟩ = some (.int .i64 1) ∧ w'.cell? ⟨b0, off + i * 3 + 1, none⟩ = some (.int .i64 kk) ∧ w'.cell? ⟨b0, off + i * 3 + 2, none⟩ = some (.int .i64 z)) ∧ (w'.cell? ⟨bx, 0, none⟩ = some (.pointer (some ⟨g, 0, none⟩)) ∧ w'.cell? ⟨bx, 1, none⟩ = some (.pointer (some ⟨r, 0, none⟩)) ∧ w'.cell? ⟨bs, 0, none⟩ = some (.slice ao1 A.length cap1) ∧ w'.cell? ⟨bs, 1, none⟩ = some (.slice (some ⟨b1, off1, none⟩) B.length cap2))) ∧ (Instr.loadAt 36 (.pointer (some ⟨b1, off1 + ix * 14, none⟩))).run Tryd.prog w' = .ok (.agg (helloC x)) w') (.take 0 (.take 1 (.take 2 (.take 3 (.take 4 (.take 5 (.take 6 (.take 7 (.take 8 (.take 9 (.take 10 (.take 11 (.take 12 (.take 13 (.take 14 (.take 15 (.take 16 (.take 17 (.take 18 (.take 19 (.take 20 (.take 21 (.alt 22 .done .none))))))))))))))))))))))) _
            (by simp only [Plan.map, opOf, List.getElem?_toArray, List.getElem?_cons_zero, List.getElem?_cons_succ, Option.getD_some]; rfl) (by kernel_rfl) (by kernel_rfl) (by kernel_rfl) (by decide) (by intro c a d v w; cases d <;> exact fun h => h)
            ⟨⟨qq, kk2⟩, HS.out _ dr⟩ ?_
          (refine wpPlan.taken (by rfl) (by intro w' hS'; (try dsimp only at hS'); go_split_ands; go_simp; try with_reducible rfl) ?_; simp only [Act.put, List.setIfInBounds_toArray, List.set_cons_zero, List.set_cons_succ])
          (refine wpPlan.taken (by rfl) (by intro w' hS'; (try dsimp only at hS'); go_split_ands; go_simp; try with_reducible rfl) ?_; simp only [Act.put, List.setIfInBounds_toArray, List.set_cons_zero, List.set_cons_succ])
          (refine wpPlan.taken (by rfl) (by intro w' hS'; (try dsimp only at hS'); go_split_ands; go_simp; try with_reducible rfl) ?_; simp only [Act.put, List.setIfInBounds_toArray, List.set_cons_zero, List.set_cons_succ])
          (refine wpPlan.taken (by rfl) (by intro w' hS'; (try dsimp only at hS'); go_split_ands; go_simp; try with_reducible rfl) ?_; simp only [Act.put, List.setIfInBounds_toArray, List.set_cons_zero, List.set_cons_succ])
          refine wpPlan.taken (v := .int .i64 1) (by rfl) (by intro w' hS'; go_simp; rfl) ?_; simp only [Act.put, List.setIfInBounds_toArray, List.set_cons_zero, List.set_cons_succ]
          (refine wpPlan.taken (by rfl) (by intro w' hS'; (try dsimp only at hS'); go_split_ands; go_simp; try with_reducible rfl) ?_; simp only [Act.put, List.setIfInBounds_toArray, List.set_cons_zero, List.set_cons_succ])
          (refine wpPlan.taken (by rfl) (by intro w' hS'; (try dsimp only at hS'); go_split_ands; go_simp; try with_reducible rfl) ?_; simp only [Act.put, List.setIfInBounds_toArray, List.set_cons_zero, List.set_cons_succ])
          (refine wpPlan.taken (by rfl) (by intro w' hS'; (try dsimp only at hS'); go_split_ands; go_simp; try with_reducible rfl) ?_; simp only [Act.put, List.setIfInBounds_toArray, List.set_cons_zero, List.set_cons_succ])
          (refine wpPlan.taken (by rfl) (by intro w' hS'; (try dsimp only at hS'); go_split_ands; go_simp; try with_reducible rfl) ?_; simp only [Act.put, List.setIfInBounds_toArray, List.set_cons_zero, List.set_cons_succ])
          (refine wpPlan.taken (by rfl) (by intro w' hS'; (try dsimp only at hS'); go_split_ands; go_simp; try with_reducible rfl) ?_; simp only [Act.put, List.setIfInBounds_toArray, List.set_cons_zero, List.set_cons_succ])
          (refine wpPlan.taken (by rfl) (by intro w' hS'; (try dsimp only at hS'); go_split_ands; go_simp; try with_reducible rfl) ?_; simp only [Act.put, List.setIfInBounds_toArray, List.set_cons_zero, List.set_cons_succ])
          (refine wpPlan.taken (by rfl) (by intro w' hS'; (try dsimp only at hS'); go_split_ands; go_simp; try with_reducible rfl) ?_; simp only [Act.put, List.setIfInBounds_toArray, List.set_cons_zero, List.set_cons_succ])
          refine wpPlan.taken (v := .int .i64 (zm : Int)) (by rfl) (by intro w' hS'; go_simp; try rw [em, hzm]) ?_; simp only [Act.put, List.setIfInBounds_toArray, List.set_cons_zero, List.set_cons_succ]
          (refine wpPlan.taken (by rfl) (by intro w' hS'; (try dsimp only at hS'); go_split_ands; go_simp; try with_reducible rfl) ?_; simp only [Act.put, List.setIfInBounds_toArray, List.set_cons_zero, List.set_cons_succ])
          refine wpPlan.taken (v := .int .i64 1) (by rfl) (by intro w' hS'; go_simp; rfl) ?_; simp only [Act.put, List.setIfInBounds_toArray, List.set_cons_zero, List.set_cons_succ]
          (refine wpPlan.taken (by rfl) (by intro w' hS'; (try dsimp only at hS'); go_split_ands; go_simp; try with_reducible rfl) ?_; simp only [Act.put, List.setIfInBounds_toArray, List.set_cons_zero, List.set_cons_succ])
          (refine wpPlan.taken (by rfl) (by intro w' hS'; (try dsimp only at hS'); go_split_ands; go_simp; try with_reducible rfl) ?_; simp only [Act.put, List.setIfInBounds_toArray, List.set_cons_zero, List.set_cons_succ])
          (refine wpPlan.taken (by rfl) (by intro w' hS'; (try dsimp only at hS'); go_split_ands; go_simp; try with_reducible rfl) ?_; simp only [Act.put, List.setIfInBounds_toArray, List.set_cons_zero, List.set_cons_succ])
          refine wpPlan.taken (v := .int .i64 ((ix : Nat) : Int)) (by rfl) (by intro w' hS'; go_simp; try rw [if_neg hne, ht]) ?_; simp only [Act.put, List.setIfInBounds_toArray, List.set_cons_zero, List.set_cons_succ]
          (refine wpPlan.taken (by rfl) (by intro w' hS'; (try dsimp only at hS'); go_split_ands; go_simp; try with_reducible rfl) ?_; simp only [Act.put, List.setIfInBounds_toArray, List.set_cons_zero, List.set_cons_succ])
          refine wpPlan.taken (by rfl) (fun w' hS' => run_load_op rfl rfl hS'.2) ?_; simp only [Act.put, List.setIfInBounds_toArray, List.set_cons_zero, List.set_cons_succ]
          (refine wpPlan.taken (by rfl) (by intro w' hS'; (try dsimp only at hS'); go_split_ands; go_simp; try with_reducible rfl) ?_; simp only [Act.put, List.setIfInBounds_toArray, List.set_cons_zero, List.set_cons_succ])
          refine wpPlan.runs fun K' hK => ?_
          go_simp
          refine ((hD2.out.still dr).two'.hearsA okx now).mono ?_
          rintro e w5 ⟨rfl, t5⟩
          have d5 := (hD2.out.still dr).next t5
          have DD := Lib.hid d5
          have UU := Lib.hid (hU1.out.left (Ses.Ok.hears hU1.out.oka okx now) (move_hears (by have := hU1.out.la; omega) now) (ear_hears hU1.out.ab (List.mem_of_getElem? hx) now))
          refine hK.out _ _ ⟨⟨CC.out _ d5.st, d5.cells d5.rb (Step.refl _ _)⟩, ?_⟩ ?_
          · obtain ⟨b2, off2, cap4, hv, -, h⟩ := said_load (d5.rb) hx
            simp only [Value.slice.injEq, Option.some.injEq, Addr.mk.injEq] at hv
            obtain ⟨⟨rfl, rfl, -⟩, -, -⟩ := hv
            exact h
          clear hK K' t5 d5 HS dr qq kk2 hU1 hD2 okx hm1 c2i hx
          generalize (Ses.hears a x now).2.2 = y at *
          refine wpPlan.done ?_
          go_wp2_with fail
          exact CUT.out _ _ _ _ _ _ _ _ _ _ _ _ _ _ _ _ _ _ _ _ _ _ _ _ _ _ _ _ _ _ _ _ _ _ _ _ _ _ _ _ _ _ _ _ _ _ _ _ _ _ _ _ _ _ _ _ _ _ _ _ _ _ _ _ _ _ _ _ _ _ _ _ _ _ _ _ _ _ _ _ _ _ _ _ _ _ _ _ _ _ _ _ _ _ _ _ _ _ _ _ _ _ _ _ _ _ _ _ _ _ _ _ _ _ _ _ _ _ _ _ _ _ _ _ _ _ _ _ _ _ _ _ _ _ _ _ _ _ _ _ _ _ _ _ _ _ _ _ _ _ (by omega) (by omega) (by (try simp only [List.length_append, List.length_cons, List.length_nil]); omega) (by (try simp only [List.length_append, List.length_cons, List.length_nil]); omega) DD UU

      by_cases o2 : op = 2
      · subst o2
        clear o0 o1
        obtain ⟨ao1, cap1, rfl, hac, ham⟩ := hD.out.ra.form
        obtain ⟨ao2, cap2, rfl, hbc, hbm⟩ := hD.out.rb.form
        have hD1 := hD.out
        obtain ⟨k0, k1, m0, m1⟩ := hD1.cells hD1.ra (Step.refl _ _)
        have eb7 : bits BinOp.and IntKind.i64 z 7 = z % 8 := and_7 z
        obtain ⟨nx, hnx⟩ : ∃ nx, now + z % 8 = nx := ⟨_, rfl⟩
        have m0' : 0 ≤ nx := by omega
        have m1' : nx ≤ 7 * ((i : Int) + 1) := by omega
        have wz : wrap64 (now + z % 8) = nx := by unfold wrap64; omega
        have uz : IntKind.i64.wrap (now + z % 8) = nx := by rw [IntKind.wrap_i64]; omega
        clear hnx
        go_wp2_with fail
        refine (hD1.two'.tickA nx).mono ?_
        rintro e w5 ⟨rfl, t5⟩
        have DD := Lib.hid (hD1.next t5)
        have UU := Lib.hid (hU.out.left (hU.out.oka.tick nx) (move_tick (by have := hU.out.la; omega) nx) (ear_tick hU.out.ab nx))
        clear t5 hD hD1 hU k0 k1 m0 m1
        generalize (Ses.tick a nx).2.2 = y at *
        go_wp2_with fail
        exact CUT.out _ _ _ _ _ _ _ _ _ _ _ _ _ _ _ _ _ _ _ _ _ _ _ _ _ _ _ _ _ _ _ _ _ _ _ _ _ _ _ _ _ _ _ _ _ _ _ _ _ _ _ _ _ _ _ _ _ _ _ _ _ _ _ _ _ _ _ _ _ _ _ _ _ _ _ _ _ _ _ _ _ _ _ _ _ _ _ _ _ _ _ _ _ _ _ _ _ _ _ _ _ _ _ _ _ _ _ _ _ _ _ _ _ _ _ _ _ _ _ _ _ _ _ _ _ _ _ _ _ _ _ _ _ _ _ _ _ _ _ _ _ _ _ _ _ _ _ _ _ _ (by omega) (by omega) (by (try simp only [List.length_append, List.length_cons, List.length_nil]); omega) (by (try simp only [List.length_append, List.length_cons, List.length_nil]); omega) DD UU
      by_cases o3 : op = 3
      · subst o3
        clear o0 o1 o2
        obtain ⟨ao1, cap1, rfl, hac, ham⟩ := hD.out.ra.form
        obtain ⟨ao2, cap2, rfl, hbc, hbm⟩ := hD.out.rb.form
        have hD1 := hD.out
        obtain ⟨k0, k1, m0, m1⟩ := hD1.cells hD1.ra (Step.refl _ _)
        go_wp2_with fail
        refine (hD1.two'.seenA now).mono ?_
        rintro e w5 ⟨rfl, t5⟩
        have DD := Lib.hid (hD1.next t5)
        have UU := Lib.hid (hU.out.left (hU.out.oka.seen now) (move_seen _ _) (ear_seen hU.out.ab now))
        clear t5 hD hD1 hU k0 k1 m0 m1
        generalize (Ses.seen a now).2 = y at *
        go_wp2_with fail
        exact CUT.out _ _ _ _ _ _ _ _ _ _ _ _ _ _ _ _ _ _ _ _ _ _ _ _ _ _ _ _ _ _ _ _ _ _ _ _ _ _ _ _ _ _ _ _ _ _ _ _ _ _ _ _ _ _ _ _ _ _ _ _ _ _ _ _ _ _ _ _ _ _ _ _ _ _ _ _ _ _ _ _ _ _ _ _ _ _ _ _ _ _ _ _ _ _ _ _ _ _ _ _ _ _ _ _ _ _ _ _ _ _ _ _ _ _ _ _ _ _ _ _ _ _ _ _ _ _ _ _ _ _ _ _ _ _ _ _ _ _ _ _ _ _ _ _ _ _ _ _ _ _ (by omega) (by omega) (by (try simp only [List.length_append, List.length_cons, List.length_nil]); omega) (by (try simp only [List.length_append, List.length_cons, List.length_nil]); omega) DD UU
      by_cases o4 : op = 4
      · subst o4
        clear o0 o1 o2 o3
        obtain ⟨ao1, cap1, rfl, hac, ham⟩ := hD.out.ra.form
        obtain ⟨ao2, cap2, rfl, hbc, hbm⟩ := hD.out.rb.form
        have hD1 := hD.out
        obtain ⟨k0, k1, m0, m1⟩ := hD1.cells hD1.ra (Step.refl _ _)
        go_wp2_with fail
        refine (hD1.two'.aliveA now).mono ?_
        rintro e w5 ⟨rfl, t5⟩
        have DD := Lib.hid (hD1.next t5)
        have UU := Lib.hid (hU.out.left (hU.out.oka.alive now) (move_alive _ _) (ear_alive hU.out.ab now))
        clear t5 hD hD1 hU k0 k1 m0 m1
        generalize (Ses.alive a now).2 = y at *
        go_wp2_with fail
        exact CUT.out _ _ _ _ _ _ _ _ _ _ _ _ _ _ _ _ _ _ _ _ _ _ _ _ _ _ _ _ _ _ _ _ _ _ _ _ _ _ _ _ _ _ _ _ _ _ _ _ _ _ _ _ _ _ _ _ _ _ _ _ _ _ _ _ _ _ _ _ _ _ _ _ _ _ _ _ _ _ _ _ _ _ _ _ _ _ _ _ _ _ _ _ _ _ _ _ _ _ _ _ _ _ _ _ _ _ _ _ _ _ _ _ _ _ _ _ _ _ _ _ _ _ _ _ _ _ _ _ _ _ _ _ _ _ _ _ _ _ _ _ _ _ _ _ _ _ _ _ _ _ (by omega) (by omega) (by (try simp only [List.length_append, List.length_cons, List.length_nil]); omega) (by (try simp only [List.length_append, List.length_cons, List.length_nil]); omega) DD UU
      have e0 : (op == 0) = false := by simpa using o0
      have e1 : (op == 1) = false := by simpa using o1
      have e2 : (op == 2) = false := by simpa using o2
      have e3 : (op == 3) = false := by simpa using o3
      have e4 : (op == 4) = false := by simpa using o4
      clear o0 o1 o2 o3 o4
      have DD := hD
      have UU := Lib.hid hU.out.none
      clear hD hU
      go_wp2_with fail
      exact CUT.out _ _ _ _ _ _ _ _ _ _ _ _ _ _ _ _ _ _ _ _ _ _ _ _ _ _ _ _ _ _ _ _ _ _ _ _ _ _ _ _ _ _ _ _ _ _ _ _ _ _ _ _ _ _ _ _ _ _ _ _ _ _ _ _ _ _ _ _ _ _ _ _ _ _ _ _ _ _ _ _ _ _ _ _ _ _ _ _ _ _ _ _ _ _ _ _ _ _ _ _ _ _ _ _ _ _ _ _ _ _ _ _ _ _ _ _ _ _ _ _ _ _ _ _ _ _ _ _ _ _ _ _ _ _ _ _ _ _ _ _ _ _ _ _ _ _ _ _ _ _ (by omega) (by omega) (by (try simp only [List.length_append, List.length_cons, List.length_nil]); omega) (by (try simp only [List.length_append, List.length_cons, List.length_nil]); omega) DD UU
    · have eb : kz = 1 := by rw [← hkz, and_1]; omega
      subst eb
      clear hk hkz
      by_cases o0 : op = 0
      · subst o0
        obtain ⟨ao1, cap1, rfl, hac, ham⟩ := hD.out.ra.form
        obtain ⟨ao2, cap2, rfl, hbc, hbm⟩ := hD.out.rb.form
        have hD1 := hD.out
        obtain ⟨k0, k1, m0, m1⟩ := hD1.cells hD1.rb (Step.refl _ _)
        have dr : Step None wr wr.drew := (Step.refl None wr).drew
        have hc1 := fun w' (s : Step (Leads (.slice ao2 B.length cap2)) wr w') => hD1.cells hD1.rb s
        have HC1 := Lib.hid hc1
        clear hc1
        go_wp2_with fail
        refine wp_region_plan (fun w' => w'.cell? ⟨bx, 0, none⟩ = some (.pointer (some ⟨g, 0, none⟩)) ∧ w'.cell? ⟨bx, 1, none⟩ = some (.pointer (some ⟨r, 0, none⟩)) ∧ w'.cell? ⟨bs, 0, none⟩ = some (.slice ao1 A.length cap1) ∧ w'.cell? ⟨bs, 1, none⟩ = some (.slice ao2 B.length cap2)) (.take 0 (.take 1 (.take 2 (.take 3 (.take 4 (.take 5 (.take 6 (.alt 7 (.alt 8 (.alt 9 (.take 10 (.last 11)) .none) .none) .none)))))))) _
          (by simp only [Plan.map, opOf, List.getElem?_toArray, List.getElem?_cons_zero, List.getElem?_cons_succ, Option.getD_some]; rfl) (by kernel_rfl) (by kernel_rfl) (by kernel_rfl) (by decide) (by intro c a d v w; cases d <;> exact fun h => h)
          (HC1.out _ dr.none) ?_
        repeat (first | (refine wpPlan.taken (by rfl) (by intro w' hS'; (try dsimp only at hS'); go_split_ands; go_simp; try with_reducible rfl) ?_; simp only [Act.put, List.setIfInBounds_toArray, List.set_cons_zero, List.set_cons_succ]) | (refine wpPlan.passed (by rfl) ?_; simp only [Act.put, List.setIfInBounds_toArray, List.set_cons_zero, List.set_cons_succ]))
        refine wpPlan.runs fun K' hK => ?_
        go_simp
        refine (hD1.still dr).two'.sayB.mono ?_
        rintro e w5 ⟨rfl, t5⟩
        have d5 := (hD1.still dr).next t5
        refine hK.out _ _ (d5.cells d5.rb (Step.refl _ _)) ?_
        clear hK K' t5 HC1 dr k0 k1 m0 m1 hD1
        have D5 := Lib.hid d5
        clear d5 hD
        have al := (Step.refl None w5).alloc (.cells #[.int .i64 b.life, .int .i64 0, .int .i64 b.known, .int .i64 6, .int .i64 0, .int .u8 0, .int .u8 0, .int .u8 0, .int .u8 0, .int .u8 0, .int .u8 0, .int .i64 b.prio, .int .i64 b.claim, .slice none 0 0] 36)
        have ob : (w5.alloc (.cells #[.int .i64 b.life, .int .i64 0, .int .i64 b.known, .int .i64 6, .int .i64 0, .int .u8 0, .int .u8 0, .int .u8 0, .int .u8 0, .int .u8 0, .int .u8 0, .int .i64 b.prio, .int .i64 b.claim, .slice none 0 0] 36)).heap[w5.heap.size]? = some (.cells #[.int .i64 b.life, .int .i64 0, .int .i64 b.known, .int .i64 6, .int .i64 0, .int .u8 0, .int .u8 0, .int .u8 0, .int .u8 0, .int .u8 0, .int .u8 0, .int .i64 b.prio, .int .i64 b.claim, .slice none 0 0] 36 (0, 0)) := heap_alloc_new w5 (.cells #[.int .i64 b.life, .int .i64 0, .int .i64 b.known, .int .i64 6, .int .i64 0, .int .u8 0, .int .u8 0, .int .u8 0, .int .u8 0, .int .u8 0, .int .u8 0, .int .i64 b.prio, .int .i64 b.claim, .slice none 0 0] 36)
        have AL := Lib.hid al
        have OB := Lib.hid ob
        clear al ob
        refine wpPlan.runs fun K' hK => ?_
        simp only [Note.packet, Ses.note]
        go_simp
        have d6 := D5.out.still AL.out
        refine hK.out _ _ (d6.cells d6.rb (Step.refl _ _)) ?_
        have D6 := Lib.hid d6
        clear hK K' d6 D5 AL
        refine wpPlan.runs fun K' hK => ?_
        refine step_append_row (m := 1) T45 (by rfl) (.tmp 84) (.tmp 89) (by rfl) (by rfl) D6.out.rb (by rfl) (Src.ofBlock T45 (m := 1) (c := 1) OB.out (by rfl) (by simp [Value.oneCell'])) (by simp [maxLen]; omega) (by omega) ?_
        intro v2 w2 hr2 hs2 hl2
        refine hK.out _ _ (D6.out.cells D6.out.rb hs2) ?_
        clear hK K'
        have DD : Hid (Duet _ _ _ _ _ _ _ _ _ _ _ _) := Lib.hid (D6.out.saidB (x := b) hs2 hr2 hl2)
        have fz := blk_frozen (hs2.blk D6.out.sd (D6.out.rb.ne D6.out.sd (by decide))) 1
        obtain ⟨k0, k1, m0, m1⟩ := D6.out.cells D6.out.rb hs2
        obtain ⟨vo, vc, rfl, -, -⟩ := hr2.form
        clear D6 OB hr2 hs2 hl2
        repeat (first | (refine wpPlan.taken (by rfl) (by intro w' hS'; (try dsimp only at hS'); go_split_ands; go_simp; try with_reducible rfl) ?_; simp only [Act.put, List.setIfInBounds_toArray, List.set_cons_zero, List.set_cons_succ]) | (refine wpPlan.passed (by rfl) ?_; simp only [Act.put, List.setIfInBounds_toArray, List.set_cons_zero, List.set_cons_succ]))
        refine wpPlan.ends fun K' hK => ?_
        go_simp
        refine hK.out _ _ ?_
        clear hK K' fz k0 k1 m0 m1
        have UU := Lib.hid hU.out.sayB
        clear hU
        go_wp2_with fail
        exact CUT.out _ _ _ _ _ _ _ _ _ _ _ _ _ _ _ _ _ _ _ _ _ _ _ _ _ _ _ _ _ _ _ _ _ _ _ _ _ _ _ _ _ _ _ _ _ _ _ _ _ _ _ _ _ _ _ _ _ _ _ _ _ _ _ _ _ _ _ _ _ _ _ _ _ _ _ _ _ _ _ _ _ _ _ _ _ _ _ _ _ _ _ _ _ _ _ _ _ _ _ _ _ _ _ _ _ _ _ _ _ _ _ _ _ _ _ _ _ _ _ _ _ _ _ _ _ _ _ _ _ _ _ _ _ _ _ _ _ _ _ _ _ _ _ _ _ _ _ _ _ _ (by omega) (by omega) (by (try simp only [List.length_append, List.length_cons, List.length_nil]); omega) (by (try simp only [List.length_append, List.length_cons, List.length_nil]); omega) DD UU
      by_cases o1 : op = 1
      · subst o1
        clear o0
        obtain ⟨ao1, cap1, rfl, hac, ham⟩ := hD.out.ra.form
        obtain ⟨ao2, cap2, rfl, hbc, hbm⟩ := hD.out.rb.form
        have hD1 := hD.out
        obtain ⟨k0, k1, m0, m1⟩ := hD1.cells hD1.ra (Step.refl _ _)
        cases hn : decide ((0 : Int) < (A.length : Int))
        · have hn' : decide (0 < A.length) = false := by simp at hn ⊢; omega
          go_wp2_with fail
          have DD := hD
          have UU := Lib.hid hU.out.none
          clear hD hD1 hU k0 k1 m0 m1
          go_wp2_with fail
          exact CUT.out _ _ _ _ _ _ _ _ _ _ _ _ _ _ _ _ _ _ _ _ _ _ _ _ _ _ _ _ _ _ _ _ _ _ _ _ _ _ _ _ _ _ _ _ _ _ _ _ _ _ _ _ _ _ _ _ _ _ _ _ _ _ _ _ _ _ _ _ _ _ _ _ _ _ _ _ _ _ _ _ _ _ _ _ _ _ _ _ _ _ _ _ _ _ _ _ _ _ _ _ _ _ _ _ _ _ _ _ _ _ _ _ _ _ _ _ _ _ _ _ _ _ _ _ _ _ _ _ _ _ _ _ _ _ _ _ _ _ _ _ _ _ _ _ _ _ _ _ _ _ (by omega) (by omega) (by (try simp only [List.length_append, List.length_cons, List.length_nil]); omega) (by (try simp only [List.length_append, List.length_cons, List.length_nil]); omega) DD UU
        · have hpos : 0 < A.length := by simpa using hn
          have hn' : decide (0 < A.length) = true := by simpa using hpos
          have em : bits BinOp.and IntKind.i64 z 1023 = z % 1024 := and_1023 z
          obtain ⟨zm, hzm⟩ : ∃ zm : Nat, z % 1024 = zm := ⟨(z % 1024).toNat, by omega⟩
          obtain ⟨ix, hix⟩ : ∃ ix : Nat, zm % A.length = ix := ⟨_, rfl⟩
          have hm1 : ix < A.length := by rw [← hix]; exact Nat.mod_lt _ hpos
          have ht : (zm : Int).tmod (A.length : Int) = (ix : Int) := by rw [Int.tmod_eq_emod_of_nonneg (by omega), ← hix]; simp
          have hne : ¬ A = [] := by intro e; rw [e] at hpos; simp at hpos
          clear hix
          obtain ⟨x, hx⟩ : ∃ x, A[ix]? = some x := ⟨_, List.getElem?_eq_getElem hm1⟩
          obtain ⟨b1, off1, cap3, hv, hld, hlo⟩ := said_load hD1.ra hx
          simp only [Value.slice.injEq] at hv
          obtain ⟨rfl, -, rfl⟩ := hv
          have hlo2 := fun w' (s : Step None wr w') => (said_load ((hD1.still s).ra) hx)
          have HS : Hid (∀ w', Step None wr w' → (Instr.loadAt 36 (.pointer (some ⟨b1, off1 + ix * 14, none⟩))).run Tryd.prog w' = .ok (.agg (helloC x)) w') := Lib.hid (fun w' s => by
            obtain ⟨b2, off2, cap4, hv, -, h⟩ := hlo2 w' s
            simp only [Value.slice.injEq, Option.some.injEq, Addr.mk.injEq] at hv
            obtain ⟨⟨rfl, rfl, -⟩, -, -⟩ := hv
            exact h)
          have dr : Step None wr wr.drew := (Step.refl None wr).drew
          have qq := CC.out _ (ST.out.then_ dr)
          have kk2 := (hD1.still dr).cells (hD1.still dr).ra (Step.refl _ _)
          have okx : x.Ok := (hU.out.ba.said x (List.mem_of_getElem? hx)).1
          have c2i : ((ix : Nat) : Int) < (A.length : Int) := by omega
          clear hlo hlo2 hld
          have hU1 := hU
          have hD2 := Lib.hid hD1
          clear hD hD1 hU
          go_wp2_with fail
          clear k0 k1 m0 m1 q0 q1 q2
          refine wp_region_plan (fun w' => ((w'.cell? ⟨b0, off + i * 3, none⟩ = some (.int .i64 1) ∧ w'.cell? ⟨b0, off + i * 3 + 1, none⟩ = some (.int .i64 kk) ∧ w'.cell? ⟨b0, off + i * 3 + 2, none⟩ = some (.int .i64 z)) ∧ (w'.cell? ⟨bx, 0, none⟩ = some (.pointer (some ⟨g, 0, none⟩)) ∧ w'.cell? ⟨bx, 1, none⟩ = some (.pointer (some ⟨r, 0, none⟩)) ∧ w'.cell? ⟨bs, 0, none⟩ = some (.slice (some ⟨b1, off1, none⟩) A.length cap1) ∧ w'.cell? ⟨bs, 1, none⟩ = some (.slice ao2 B.length cap2))) ∧ (Instr.loadAt 36 (.pointer (some ⟨b1, off1 + ix * 14, none⟩))).run Tryd.prog w' = .ok (.agg (helloC x)) w') (.take 0 (.take 1 (.take 2 (.take 3 (.take 4 (.take 5 (.take 6 (.take 7 (.take 8 (.take 9 (.take 10 (.take 11 (.take 12 (.take 13 (.take 14 (.take 15 (.take 16 (.take 17 (.take 18 (.take 19 (.take 20 (.take 21 (.alt 22 .done .none))))))))))))))))))))))) _
            (by simp only [Plan.map, opOf, List.getElem?_toArray, List.getElem?_cons_zero, List.getElem?_cons_succ, Option.getD_some]; rfl) (by kernel_rfl) (by kernel_rfl) (by kernel_rfl) (by decide) (by intro c a d v w; cases d <;> exact fun h => h)
            ⟨⟨qq, kk2⟩, HS.out _ dr⟩ ?_
          (refine wpPlan.taken (by rfl) (by intro w' hS'; (try dsimp only at hS'); go_split_ands; go_simp; try with_reducible rfl) ?_; simp only [Act.put, List.setIfInBounds_toArray, List.set_cons_zero, List.set_cons_succ])
          (refine wpPlan.taken (by rfl) (by intro w' hS'; (try dsimp only at hS'); go_split_ands; go_simp; try with_reducible rfl) ?_; simp only [Act.put, List.setIfInBounds_toArray, List.set_cons_zero, List.set_cons_succ])
          (refine wpPlan.taken (by rfl) (by intro w' hS'; (try dsimp only at hS'); go_split_ands; go_simp; try with_reducible rfl) ?_; simp only [Act.put, List.setIfInBounds_toArray, List.set_cons_zero, List.set_cons_succ])
          (refine wpPlan.taken (by rfl) (by intro w' hS'; (try dsimp only at hS'); go_split_ands; go_simp; try with_reducible rfl) ?_; simp only [Act.put, List.setIfInBounds_toArray, List.set_cons_zero, List.set_cons_succ])
          refine wpPlan.taken (v := .int .i64 0) (by rfl) (by intro w' hS'; go_simp; rfl) ?_; simp only [Act.put, List.setIfInBounds_toArray, List.set_cons_zero, List.set_cons_succ]
          (refine wpPlan.taken (by rfl) (by intro w' hS'; (try dsimp only at hS'); go_split_ands; go_simp; try with_reducible rfl) ?_; simp only [Act.put, List.setIfInBounds_toArray, List.set_cons_zero, List.set_cons_succ])
          (refine wpPlan.taken (by rfl) (by intro w' hS'; (try dsimp only at hS'); go_split_ands; go_simp; try with_reducible rfl) ?_; simp only [Act.put, List.setIfInBounds_toArray, List.set_cons_zero, List.set_cons_succ])
          (refine wpPlan.taken (by rfl) (by intro w' hS'; (try dsimp only at hS'); go_split_ands; go_simp; try with_reducible rfl) ?_; simp only [Act.put, List.setIfInBounds_toArray, List.set_cons_zero, List.set_cons_succ])
          (refine wpPlan.taken (by rfl) (by intro w' hS'; (try dsimp only at hS'); go_split_ands; go_simp; try with_reducible rfl) ?_; simp only [Act.put, List.setIfInBounds_toArray, List.set_cons_zero, List.set_cons_succ])
          (refine wpPlan.taken (by rfl) (by intro w' hS'; (try dsimp only at hS'); go_split_ands; go_simp; try with_reducible rfl) ?_; simp only [Act.put, List.setIfInBounds_toArray, List.set_cons_zero, List.set_cons_succ])
          (refine wpPlan.taken (by rfl) (by intro w' hS'; (try dsimp only at hS'); go_split_ands; go_simp; try with_reducible rfl) ?_; simp only [Act.put, List.setIfInBounds_toArray, List.set_cons_zero, List.set_cons_succ])
          (refine wpPlan.taken (by rfl) (by intro w' hS'; (try dsimp only at hS'); go_split_ands; go_simp; try with_reducible rfl) ?_; simp only [Act.put, List.setIfInBounds_toArray, List.set_cons_zero, List.set_cons_succ])
          refine wpPlan.taken (v := .int .i64 (zm : Int)) (by rfl) (by intro w' hS'; go_simp; try rw [em, hzm]) ?_; simp only [Act.put, List.setIfInBounds_toArray, List.set_cons_zero, List.set_cons_succ]
          (refine wpPlan.taken (by rfl) (by intro w' hS'; (try dsimp only at hS'); go_split_ands; go_simp; try with_reducible rfl) ?_; simp only [Act.put, List.setIfInBounds_toArray, List.set_cons_zero, List.set_cons_succ])
          refine wpPlan.taken (v := .int .i64 0) (by rfl) (by intro w' hS'; go_simp; rfl) ?_; simp only [Act.put, List.setIfInBounds_toArray, List.set_cons_zero, List.set_cons_succ]
          (refine wpPlan.taken (by rfl) (by intro w' hS'; (try dsimp only at hS'); go_split_ands; go_simp; try with_reducible rfl) ?_; simp only [Act.put, List.setIfInBounds_toArray, List.set_cons_zero, List.set_cons_succ])
          (refine wpPlan.taken (by rfl) (by intro w' hS'; (try dsimp only at hS'); go_split_ands; go_simp; try with_reducible rfl) ?_; simp only [Act.put, List.setIfInBounds_toArray, List.set_cons_zero, List.set_cons_succ])
          (refine wpPlan.taken (by rfl) (by intro w' hS'; (try dsimp only at hS'); go_split_ands; go_simp; try with_reducible rfl) ?_; simp only [Act.put, List.setIfInBounds_toArray, List.set_cons_zero, List.set_cons_succ])
          refine wpPlan.taken (v := .int .i64 ((ix : Nat) : Int)) (by rfl) (by intro w' hS'; go_simp; try rw [if_neg hne, ht]) ?_; simp only [Act.put, List.setIfInBounds_toArray, List.set_cons_zero, List.set_cons_succ]
          (refine wpPlan.taken (by rfl) (by intro w' hS'; (try dsimp only at hS'); go_split_ands; go_simp; try with_reducible rfl) ?_; simp only [Act.put, List.setIfInBounds_toArray, List.set_cons_zero, List.set_cons_succ])
          refine wpPlan.taken (by rfl) (fun w' hS' => run_load_op rfl rfl hS'.2) ?_; simp only [Act.put, List.setIfInBounds_toArray, List.set_cons_zero, List.set_cons_succ]
          (refine wpPlan.taken (by rfl) (by intro w' hS'; (try dsimp only at hS'); go_split_ands; go_simp; try with_reducible rfl) ?_; simp only [Act.put, List.setIfInBounds_toArray, List.set_cons_zero, List.set_cons_succ])
          refine wpPlan.runs fun K' hK => ?_
          go_simp
          refine ((hD2.out.still dr).two'.hearsB okx now).mono ?_
          rintro e w5 ⟨rfl, t5⟩
          have d5 := (hD2.out.still dr).next t5
          have DD := Lib.hid d5
          have UU := Lib.hid (hU1.out.right (Ses.Ok.hears hU1.out.okb okx now) (move_hears (by have := hU1.out.lb; omega) now) (ear_hears hU1.out.ba (List.mem_of_getElem? hx) now))
          refine hK.out _ _ ⟨⟨CC.out _ d5.st, d5.cells d5.ra (Step.refl _ _)⟩, ?_⟩ ?_
          · obtain ⟨b2, off2, cap4, hv, -, h⟩ := said_load (d5.ra) hx
            simp only [Value.slice.injEq, Option.some.injEq, Addr.mk.injEq] at hv
            obtain ⟨⟨rfl, rfl, -⟩, -, -⟩ := hv
            exact h
          clear hK K' t5 d5 HS dr qq kk2 hU1 hD2 okx hm1 c2i hx
          generalize (Ses.hears b x now).2.2 = y at *
          refine wpPlan.done ?_
          go_wp2_with fail
          exact CUT.out _ _ _ _ _ _ _ _ _ _ _ _ _ _ _ _ _ _ _ _ _ _ _ _ _ _ _ _ _ _ _ _ _ _ _ _ _ _ _ _ _ _ _ _ _ _ _ _ _ _ _ _ _ _ _ _ _ _ _ _ _ _ _ _ _ _ _ _ _ _ _ _ _ _ _ _ _ _ _ _ _ _ _ _ _ _ _ _ _ _ _ _ _ _ _ _ _ _ _ _ _ _ _ _ _ _ _ _ _ _ _ _ _ _ _ _ _ _ _ _ _ _ _ _ _ _ _ _ _ _ _ _ _ _ _ _ _ _ _ _ _ _ _ _ _ _ _ _ _ _ (by omega) (by omega) (by (try simp only [List.length_append, List.length_cons, List.length_nil]); omega) (by (try simp only [List.length_append, List.length_cons, List.length_nil]); omega) DD UU

      by_cases o2 : op = 2
      · subst o2
        clear o0 o1
        obtain ⟨ao1, cap1, rfl, hac, ham⟩ := hD.out.ra.form
        obtain ⟨ao2, cap2, rfl, hbc, hbm⟩ := hD.out.rb.form
        have hD1 := hD.out
        obtain ⟨k0, k1, m0, m1⟩ := hD1.cells hD1.rb (Step.refl _ _)
        have eb7 : bits BinOp.and IntKind.i64 z 7 = z % 8 := and_7 z
        obtain ⟨nx, hnx⟩ : ∃ nx, now + z % 8 = nx := ⟨_, rfl⟩
        have m0' : 0 ≤ nx := by omega
        have m1' : nx ≤ 7 * ((i : Int) + 1) := by omega
        have wz : wrap64 (now + z % 8) = nx := by unfold wrap64; omega
        have uz : IntKind.i64.wrap (now + z % 8) = nx := by rw [IntKind.wrap_i64]; omega
        clear hnx
        go_wp2_with fail
        refine (hD1.two'.tickB nx).mono ?_
        rintro e w5 ⟨rfl, t5⟩
        have DD := Lib.hid (hD1.next t5)
        have UU := Lib.hid (hU.out.right (hU.out.okb.tick nx) (move_tick (by have := hU.out.lb; omega) nx) (ear_tick hU.out.ba nx))
        clear t5 hD hD1 hU k0 k1 m0 m1
        generalize (Ses.tick b nx).2.2 = y at *
        go_wp2_with fail
        exact CUT.out _ _ _ _ _ _ _ _ _ _ _ _ _ _ _ _ _ _ _ _ _ _ _ _ _ _ _ _ _ _ _ _ _ _ _ _ _ _ _ _ _ _ _ _ _ _ _ _ _ _ _ _ _ _ _ _ _ _ _ _ _ _ _ _ _ _ _ _ _ _ _ _ _ _ _ _ _ _ _ _ _ _ _ _ _ _ _ _ _ _ _ _ _ _ _ _ _ _ _ _ _ _ _ _ _ _ _ _ _ _ _ _ _ _ _ _ _ _ _ _ _ _ _ _ _ _ _ _ _ _ _ _ _ _ _ _ _ _ _ _ _ _ _ _ _ _ _ _ _ _ (by omega) (by omega) (by (try simp only [List.length_append, List.length_cons, List.length_nil]); omega) (by (try simp only [List.length_append, List.length_cons, List.length_nil]); omega) DD UU
      by_cases o3 : op = 3
      · subst o3
        clear o0 o1 o2
        obtain ⟨ao1, cap1, rfl, hac, ham⟩ := hD.out.ra.form
        obtain ⟨ao2, cap2, rfl, hbc, hbm⟩ := hD.out.rb.form
        have hD1 := hD.out
        obtain ⟨k0, k1, m0, m1⟩ := hD1.cells hD1.rb (Step.refl _ _)
        go_wp2_with fail
        refine (hD1.two'.seenB now).mono ?_
        rintro e w5 ⟨rfl, t5⟩
        have DD := Lib.hid (hD1.next t5)
        have UU := Lib.hid (hU.out.right (hU.out.okb.seen now) (move_seen _ _) (ear_seen hU.out.ba now))
        clear t5 hD hD1 hU k0 k1 m0 m1
        generalize (Ses.seen b now).2 = y at *
        go_wp2_with fail
        exact CUT.out _ _ _ _ _ _ _ _ _ _ _ _ _ _ _ _ _ _ _ _ _ _ _ _ _ _ _ _ _ _ _ _ _ _ _ _ _ _ _ _ _ _ _ _ _ _ _ _ _ _ _ _ _ _ _ _ _ _ _ _ _ _ _ _ _ _ _ _ _ _ _ _ _ _ _ _ _ _ _ _ _ _ _ _ _ _ _ _ _ _ _ _ _ _ _ _ _ _ _ _ _ _ _ _ _ _ _ _ _ _ _ _ _ _ _ _ _ _ _ _ _ _ _ _ _ _ _ _ _ _ _ _ _ _ _ _ _ _ _ _ _ _ _ _ _ _ _ _ _ _ (by omega) (by omega) (by (try simp only [List.length_append, List.length_cons, List.length_nil]); omega) (by (try simp only [List.length_append, List.length_cons, List.length_nil]); omega) DD UU
      by_cases o4 : op = 4
      · subst o4
        clear o0 o1 o2 o3
        obtain ⟨ao1, cap1, rfl, hac, ham⟩ := hD.out.ra.form
        obtain ⟨ao2, cap2, rfl, hbc, hbm⟩ := hD.out.rb.form
        have hD1 := hD.out
        obtain ⟨k0, k1, m0, m1⟩ := hD1.cells hD1.rb (Step.refl _ _)
        go_wp2_with fail
        refine (hD1.two'.aliveB now).mono ?_
        rintro e w5 ⟨rfl, t5⟩
        have DD := Lib.hid (hD1.next t5)
        have UU := Lib.hid (hU.out.right (hU.out.okb.alive now) (move_alive _ _) (ear_alive hU.out.ba now))
        clear t5 hD hD1 hU k0 k1 m0 m1
        generalize (Ses.alive b now).2 = y at *
        go_wp2_with fail
        exact CUT.out _ _ _ _ _ _ _ _ _ _ _ _ _ _ _ _ _ _ _ _ _ _ _ _ _ _ _ _ _ _ _ _ _ _ _ _ _ _ _ _ _ _ _ _ _ _ _ _ _ _ _ _ _ _ _ _ _ _ _ _ _ _ _ _ _ _ _ _ _ _ _ _ _ _ _ _ _ _ _ _ _ _ _ _ _ _ _ _ _ _ _ _ _ _ _ _ _ _ _ _ _ _ _ _ _ _ _ _ _ _ _ _ _ _ _ _ _ _ _ _ _ _ _ _ _ _ _ _ _ _ _ _ _ _ _ _ _ _ _ _ _ _ _ _ _ _ _ _ _ _ (by omega) (by omega) (by (try simp only [List.length_append, List.length_cons, List.length_nil]); omega) (by (try simp only [List.length_append, List.length_cons, List.length_nil]); omega) DD UU
      have e0 : (op == 0) = false := by simpa using o0
      have e1 : (op == 1) = false := by simpa using o1
      have e2 : (op == 2) = false := by simpa using o2
      have e3 : (op == 3) = false := by simpa using o3
      have e4 : (op == 4) = false := by simpa using o4
      clear o0 o1 o2 o3 o4
      have DD := hD
      have UU := Lib.hid hU.out.none
      clear hD hU
      go_wp2_with fail
      exact CUT.out _ _ _ _ _ _ _ _ _ _ _ _ _ _ _ _ _ _ _ _ _ _ _ _ _ _ _ _ _ _ _ _ _ _ _ _ _ _ _ _ _ _ _ _ _ _ _ _ _ _ _ _ _ _ _ _ _ _ _ _ _ _ _ _ _ _ _ _ _ _ _ _ _ _ _ _ _ _ _ _ _ _ _ _ _ _ _ _ _ _ _ _ _ _ _ _ _ _ _ _ _ _ _ _ _ _ _ _ _ _ _ _ _ _ _ _ _ _ _ _ _ _ _ _ _ _ _ _ _ _ _ _ _ _ _ _ _ _ _ _ _ _ _ _ _ _ _ _ _ _ (by omega) (by omega) (by (try simp only [List.length_append, List.length_cons, List.length_nil]); omega) (by (try simp only [List.length_append, List.length_cons, List.length_nil]); omega) DD UU

end Go.Proofs.YtaacpjihkmklbaaDoor
