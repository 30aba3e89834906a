/- ShakeCalm: a branch of the main loop's round. -/
import Derived.Test.YthebgpbofjgcoaaDoorC0
namespace Go.Proofs.YthebgpbofjgcoaaDoor
open Go.RowKit Go.Gm
set_option linter.unusedVariables false
set_option maxRecDepth 10000 in
set_option maxHeartbeats 64000000 in
theorem calm_0_1 {w wr : World} {g b h c bx bs ib len cap i b0 off : Nat} {op kk z : Int} {s t : Shk} {va vb : Value} {A B : List Itm} {c1 c3 c4 c5 c6 c7 c11 c12 c13 c21 c22 c23 c24 c25 c26 c27 c28 c29 c30 c31 c32 c33 c34 c35 c36 c37 c38 c39 c40 c41 c42 c43 c44 c45 c46 c47 c48 c49 c50 c51 c52 c53 c54 c55 c56 c57 c58 c59 c60 c61 c62 c63 c64 c65 c66 c67 c68 c69 c70 c71 c72 c73 c74 c161 c162 c163 c164 c165 c166 c167 c168 c169 c170 c171 c172 c173 c174 c175 c176 c177 c178 c179 c180 c181 c182 c183 c184 c185 c186 c187 c188 c189 c190 c191 c192 c193 c194 c195 c196 c197 c198 c199 c200 c201 c202 c203 c204 c205 c206 c207 c208 c209 c210 c211 c212 c213 c214 c215 c216 : Value} {u2 u15 u16 u17 u18 u19 u20 u75 u76 u77 u78 u79 u80 u81 u82 u83 u84 u85 u86 u87 u88 u89 u90 u91 u92 u93 u94 u95 u96 u97 u98 u99 u100 u101 u102 u103 u104 u105 u106 u107 u108 u109 u110 u111 u112 u113 u114 u115 u116 u117 u118 u119 u120 u121 u122 u123 u124 u125 u126 u127 u128 u129 u130 u131 u132 u133 u134 u135 u136 u137 u138 u139 u140 u141 u142 u143 u144 u145 u146 u147 u148 u149 u150 u151 u152 u153 u154 u155 u156 u157 u158 u159 u160 : Value} {K : Act → World → Prop} {Q0 : Exit → Act → World → Prop}
    (hK : ∀ (u2 u15 u16 u17 u18 u19 u20 u75 u76 u77 u78 u79 u80 u81 u82 u83 u84 u85 u86 u87 u88 u89 u90 u91 u92 u93 u94 u95 u96 u97 u98 u99 u100 u101 u102 u103 u104 u105 u106 u107 u108 u109 u110 u111 u112 u113 u114 u115 u116 u117 u118 u119 u120 u121 u122 u123 u124 u125 u126 u127 u128 u129 u130 u131 u132 u133 u134 u135 u136 u137 u138 u139 u140 u141 u142 u143 u144 u145 u146 u147 u148 u149 u150 u151 u152 u153 u154 u155 u156 u157 u158 u159 u160 : Value) (wr : World) (s t : Shk) (va vb : Value) (A B : List Itm), Hid (Way w wr g b h c bx bs s t va vb A B) → Hid (Gm.Calm s t A B) → Hid (s.Ok (63 + ((i + 1 : Nat) : Int)) ∧ t.Ok (63 + ((i + 1 : Nat) : Int))) → Hid (A.length ≤ 3 + 2 * (i + 1) ∧ B.length ≤ 3 + 2 * (i + 1)) → Hid (wr.heap[ib]? = some (.cells (isB s t) 57 (0, 0))) → K ⟨#[.slice (some ⟨b0, off, none⟩) len cap, c1, u2, c3, c4, c5, c6, c7, .pointer (some ⟨bx, 0, none⟩), .pointer (some ⟨bs, 0, none⟩), .pointer (some ⟨ib, 0, none⟩), c11, c12, c13, .int .i64 ((i : Int) + 1), u15, u16, u17, u18, u19, u20, c21, c22, c23, c24, c25, c26, c27, c28, c29, c30, c31, c32, c33, c34, c35, c36, c37, c38, c39, c40, c41, c42, c43, c44, c45, c46, c47, c48, c49, c50, c51, c52, c53, c54, c55, c56, c57, c58, c59, c60, c61, c62, c63, c64, c65, c66, c67, c68, c69, c70, c71, c72, c73, c74, u75, u76, u77, u78, u79, u80, u81, u82, u83, u84, u85, u86, u87, u88, u89, u90, u91, u92, u93, u94, u95, u96, u97, u98, u99, u100, u101, u102, u103, u104, u105, u106, u107, u108, u109, u110, u111, u112, u113, u114, u115, u116, u117, u118, u119, u120, u121, u122, u123, u124, u125, u126, u127, u128, u129, u130, u131, u132, u133, u134, u135, u136, u137, u138, u139, u140, u141, u142, u143, u144, u145, u146, u147, u148, u149, u150, u151, u152, u153, u154, u155, u156, u157, u158, u159, u160, c161, c162, c163, c164, c165, c166, c167, c168, c169, c170, c171, c172, c173, c174, c175, c176, c177, c178, c179, c180, c181, c182, c183, c184, c185, c186, c187, c188, c189, c190, c191, c192, c193, c194, c195, c196, c197, c198, c199, c200, c201, c202, c203, c204, c205, c206, c207, c208, c209, c210, c211, c212, c213, c214, c215, c216], []⟩ wr)
    (hce : ∀ w', Step None w w' → w'.cell? ⟨b0, off + i * 3, none⟩ = some (.int .i64 op) ∧ w'.cell? ⟨b0, off + i * 3 + 1, none⟩ = some (.int .i64 kk) ∧ w'.cell? ⟨b0, off + i * 3 + 2, none⟩ = some (.int .i64 z))
    (hQ0 : ∀ c a d v w, Q0 (.panic c) (Act.put a d v) w → Q0 (.panic c) a w)
    (hkz : bits BinOp.and IntKind.i64 kk 1 = 0) (hlz : bits BinOp.and IntKind.i64 z 1 = 0) (hlt : i < len) (hl2 : i < 200) (hlen : (len : Int) ≤ 9223372036854775807)
    (hY : Hid (Way w wr g b h c bx bs s t va vb A B)) (hC : Hid (Gm.Calm s t A B)) (hO : Hid (s.Ok (63 + (i : Int)) ∧ t.Ok (63 + (i : Int)))) (hN : Hid (A.length ≤ 3 + 2 * i ∧ B.length ≤ 3 + 2 * i)) (hI : Hid (wr.heap[ib]? = some (.cells (isB s t) 57 (0, 0)))) (IB0 : w.heap.size ≤ ib) :
    Code.wp Tryd.prog calmBody (Exit.then K Q0) ⟨#[.slice (some ⟨b0, off, none⟩) len cap, c1, u2, c3, c4, c5, c6, c7, .pointer (some ⟨bx, 0, none⟩), .pointer (some ⟨bs, 0, none⟩), .pointer (some ⟨ib, 0, none⟩), c11, c12, c13, .int .i64 (i : Int), u15, u16, u17, u18, u19, u20, c21, c22, c23, c24, c25, c26, c27, c28, c29, c30, c31, c32, c33, c34, c35, c36, c37, c38, c39, c40, c41, c42, c43, c44, c45, c46, c47, c48, c49, c50, c51, c52, c53, c54, c55, c56, c57, c58, c59, c60, c61, c62, c63, c64, c65, c66, c67, c68, c69, c70, c71, c72, c73, c74, u75, u76, u77, u78, u79, u80, u81, u82, u83, u84, u85, u86, u87, u88, u89, u90, u91, u92, u93, u94, u95, u96, u97, u98, u99, u100, u101, u102, u103, u104, u105, u106, u107, u108, u109, u110, u111, u112, u113, u114, u115, u116, u117, u118, u119, u120, u121, u122, u123, u124, u125, u126, u127, u128, u129, u130, u131, u132, u133, u134, u135, u136, u137, u138, u139, u140, u141, u142, u143, u144, u145, u146, u147, u148, u149, u150, u151, u152, u153, u154, u155, u156, u157, u158, u159, u160, c161, c162, c163, c164, c165, c166, c167, c168, c169, c170, c171, c172, c173, c174, c175, c176, c177, c178, c179, c180, c181, c182, c183, c184, c185, c186, c187, c188, c189, c190, c191, c192, c193, c194, c195, c196, c197, c198, c199, c200, c201, c202, c203, c204, c205, c206, c207, c208, c209, c210, c211, c212, c213, c214, c215, c216], []⟩ wr := by
  conv => arg 2; whnf
  have HK := Lib.hid hK
  have HQ0 := Lib.hid hQ0
  have CE := Lib.hid hce
  have ST := Lib.hid hY.out.st
  obtain ⟨q0, q1, q2⟩ := CE.out _ ST.out
  clear hK hce hQ0
  have d1 : decide ((i : Int) < (len : Int)) = true := by simp; omega
  have d1' : decide (i < len) = true := by simpa using hlt
  have d2 : decide ((i : Int) < 200) = true := by simp; omega
  have d2' : decide (i < 200) = true := by simp; omega
  have c0i : (0 : Int) ≤ (i : Int) := by omega
  have c1i : (i : Int) < (len : Int) := by omega
  obtain ⟨up, hup⟩ : ∃ up, (bits BinOp.and IntKind.i64 z 4 == 4) = up := ⟨_, rfl⟩
  obtain ⟨k0, k1, -, -⟩ := hY.out.here
  go_wp2_with fail
  have dr : Step None wr wr.drew := (Step.refl None wr).drew
  refine wp_region_plan (fun w' => (w'.cell? ⟨bx, 0, none⟩ = some (.pointer (some ⟨g, 0, none⟩)) ∧ w'.cell? ⟨bx, 1, none⟩ = some (.pointer (some ⟨h, 0, none⟩))) ∧ w'.cell? ⟨b0, off + i * 3 + 2, none⟩ = some (.int .i64 z)) (.take 0 (.take 1 (.take 2 (.take 3 (.take 4 (.take 5 (.take 6 (.take 7 (.take 8 (.take 9 (.take 10 (.alt 11 (.take 12 (.take 13 (.take 14 (.take 15 (.take 16 .done))))) .none)))))))))))) _
    (by simp only [Plan.map, opOf, List.getElem?_toArray, List.getElem?_cons_zero, List.getElem?_cons_succ, Option.getD_some]; rfl) (by kernel_rfl) (by kernel_rfl) (by kernel_rfl) (by decide) (by intro c a d v w; exact HQ0.out c a d v w)
    ⟨⟨k0, k1⟩, q2⟩ ?_
  (refine wpPlan.taken (by rfl) (by intro w' hS'; (try dsimp only at hS'); go_split_ands; go_simp; try with_reducible rfl) ?_; simp only [Act.put, List.setIfInBounds_toArray, List.set_cons_zero, List.set_cons_succ])
  (refine wpPlan.taken (by rfl) (by intro w' hS'; (try dsimp only at hS'); go_split_ands; go_simp; try with_reducible rfl) ?_; simp only [Act.put, List.setIfInBounds_toArray, List.set_cons_zero, List.set_cons_succ])
  (refine wpPlan.taken (by rfl) (by intro w' hS'; (try dsimp only at hS'); go_split_ands; go_simp; try with_reducible rfl) ?_; simp only [Act.put, List.setIfInBounds_toArray, List.set_cons_zero, List.set_cons_succ])
  (refine wpPlan.taken (by rfl) (by intro w' hS'; (try dsimp only at hS'); go_split_ands; go_simp; try with_reducible rfl) ?_; simp only [Act.put, List.setIfInBounds_toArray, List.set_cons_zero, List.set_cons_succ])
  (refine wpPlan.taken (by rfl) (by intro w' hS'; (try dsimp only at hS'); go_split_ands; go_simp; try with_reducible rfl) ?_; simp only [Act.put, List.setIfInBounds_toArray, List.set_cons_zero, List.set_cons_succ])
  (refine wpPlan.taken (by rfl) (by intro w' hS'; (try dsimp only at hS'); go_split_ands; go_simp; try with_reducible rfl) ?_; simp only [Act.put, List.setIfInBounds_toArray, List.set_cons_zero, List.set_cons_succ])
  (refine wpPlan.taken (by rfl) (by intro w' hS'; (try dsimp only at hS'); go_split_ands; go_simp; try with_reducible rfl) ?_; simp only [Act.put, List.setIfInBounds_toArray, List.set_cons_zero, List.set_cons_succ])
  (refine wpPlan.taken (by rfl) (by intro w' hS'; (try dsimp only at hS'); go_split_ands; go_simp; try with_reducible rfl) ?_; simp only [Act.put, List.setIfInBounds_toArray, List.set_cons_zero, List.set_cons_succ])
  (refine wpPlan.taken (by rfl) (by intro w' hS'; (try dsimp only at hS'); go_split_ands; go_simp; try with_reducible rfl) ?_; simp only [Act.put, List.setIfInBounds_toArray, List.set_cons_zero, List.set_cons_succ])
  refine wpPlan.taken (v := .int .i64 (bits BinOp.and IntKind.i64 z 4)) (by rfl) (by intro w' hS'; go_simp; try rw [rfl]) ?_; simp only [Act.put, List.setIfInBounds_toArray, List.set_cons_zero, List.set_cons_succ]
  refine wpPlan.taken (v := .bool up) (by rfl) (by intro w' hS'; go_simp; try rw [hup]) ?_; simp only [Act.put, List.setIfInBounds_toArray, List.set_cons_zero, List.set_cons_succ]
  refine wpPlan.runs fun K' hK => ?_
  go_simp
  refine (local_any g b s 1 up _ _ hO.out.1 (by omega) (by omega) (hY.out.still dr).one).mono ?_
  rintro e w5 ⟨ul, rfl, t5, r5, s5⟩
  have Y5 := Lib.hid ((hY.out.still dr).next1 (s5.mono fun _ _ e => .inr e) r5)
  have hh := Y5.out.here
  have hI5 := Lib.hid (s5.blk (dr.blk hI.out (fun s => s.elim)) (fun e => blk_ne hI.out hY.out.one.row (by decide) e))
  refine hK.out _ _ ⟨⟨hh.1, hh.2.1⟩, (CE.out _ Y5.out.st).2.2⟩ ?_
  clear hK K' hh k0 k1 hI
  have U5 := Lib.hid (t5.mono (Nat.zero_le _))
  have LL0 := Lib.hid (Shk.loc_count s 1 up)
  have C5 := Lib.hid (hC.out.loc 1 up)
  have O5 := Lib.hid (Shk.loc_ok hO.out.1 (by omega) 1 up)
  have IS : Hid ((isB s t).setIfInBounds 1 (.bool up) = isB (s.loc 1 up).1 t) := Lib.hid (isB_loc1 hC.out.sl hC.out.ses 1 (by decide) (by decide) up)
  obtain ⟨uo, uc, rfl, -, -⟩ := t5.row.form
  clear t5 r5 s5 hY hC dr
  obtain ⟨q, hq⟩ : ∃ q, s.loc 1 up = q := ⟨_, rfl⟩
  rw [hq] at Y5 U5 LL0 C5 O5 IS ⊢
  clear hq
  obtain ⟨s', l, e0⟩ := q
  simp only at Y5 U5 LL0 C5 O5 IS ⊢
  repeat (first | (refine wpPlan.taken (by rfl) (by intro w' hS'; (try dsimp only at hS'); go_split_ands; go_simp; try with_reducible rfl) ?_; simp only [Act.put, List.setIfInBounds_toArray, List.set_cons_zero, List.set_cons_succ]) | (refine wpPlan.passed (by rfl) ?_; simp only [Act.put, List.setIfInBounds_toArray, List.set_cons_zero, List.set_cons_succ]))
  refine wpPlan.done ?_
  go_wp2_with fail
  have z2 := (CE.out _ (Y5.out.still (Step.refl None w5).drew).st).2.2
  refine wp_region_plan (fun w' => w'.cell? ⟨b0, off + i * 3 + 2, none⟩ = some (.int .i64 z)) (.take 0 (.take 1 (.take 2 (.take 3 (.take 4 (.take 5 (.take 6 (.take 7 (.take 8 (.take 9 (.take 10 (.last 11)))))))))))) _
    (by simp only [Plan.map, opOf, List.getElem?_toArray, List.getElem?_cons_zero, List.getElem?_cons_succ, Option.getD_some]; rfl) (by kernel_rfl) (by kernel_rfl) (by kernel_rfl) (by decide) (by intro c a d v w; exact HQ0.out c a d v w)
    z2 ?_
  have dr : Step None w5 w5.drew := (Step.refl None w5).drew
  (refine wpPlan.taken (by rfl) (by intro w' hS'; (try dsimp only at hS'); go_split_ands; go_simp; try with_reducible rfl) ?_; simp only [Act.put, List.setIfInBounds_toArray, List.set_cons_zero, List.set_cons_succ])
  (refine wpPlan.taken (by rfl) (by intro w' hS'; (try dsimp only at hS'); go_split_ands; go_simp; try with_reducible rfl) ?_; simp only [Act.put, List.setIfInBounds_toArray, List.set_cons_zero, List.set_cons_succ])
  (refine wpPlan.taken (by rfl) (by intro w' hS'; (try dsimp only at hS'); go_split_ands; go_simp; try with_reducible rfl) ?_; simp only [Act.put, List.setIfInBounds_toArray, List.set_cons_zero, List.set_cons_succ])
  (refine wpPlan.taken (by rfl) (by intro w' hS'; (try dsimp only at hS'); go_split_ands; go_simp; try with_reducible rfl) ?_; simp only [Act.put, List.setIfInBounds_toArray, List.set_cons_zero, List.set_cons_succ])
  (refine wpPlan.taken (by rfl) (by intro w' hS'; (try dsimp only at hS'); go_split_ands; go_simp; try with_reducible rfl) ?_; simp only [Act.put, List.setIfInBounds_toArray, List.set_cons_zero, List.set_cons_succ])
  (refine wpPlan.taken (by rfl) (by intro w' hS'; (try dsimp only at hS'); go_split_ands; go_simp; try with_reducible rfl) ?_; simp only [Act.put, List.setIfInBounds_toArray, List.set_cons_zero, List.set_cons_succ])
  (refine wpPlan.taken (by rfl) (by intro w' hS'; (try dsimp only at hS'); go_split_ands; go_simp; try with_reducible rfl) ?_; simp only [Act.put, List.setIfInBounds_toArray, List.set_cons_zero, List.set_cons_succ])
  refine wpPlan.taken (v := .int .i64 (bits BinOp.and IntKind.i64 z 4)) (by rfl) (by intro w' hS'; go_simp; try rw [rfl]) ?_; simp only [Act.put, List.setIfInBounds_toArray, List.set_cons_zero, List.set_cons_succ]
  refine wpPlan.taken (v := .bool up) (by rfl) (by intro w' hS'; go_simp; try rw [hup]) ?_; simp only [Act.put, List.setIfInBounds_toArray, List.set_cons_zero, List.set_cons_succ]
  (refine wpPlan.taken (by rfl) (by intro w' hS'; (try dsimp only at hS'); go_split_ands; go_simp; try with_reducible rfl) ?_; simp only [Act.put, List.setIfInBounds_toArray, List.set_cons_zero, List.set_cons_succ])
  (refine wpPlan.taken (by rfl) (by intro w' hS'; (try dsimp only at hS'); go_split_ands; go_simp; try with_reducible rfl) ?_; simp only [Act.put, List.setIfInBounds_toArray, List.set_cons_zero, List.set_cons_succ])
  have ci := blk_cell hI5.out 1
  have fi := blk_frozen hI5.out 1
  simp only [isB, List.getElem?_toArray, List.getElem?_cons_zero, List.getElem?_cons_succ] at ci
  have si := (Step.refl (· = ib) w5.drew).setCell (p := ⟨ib, 1, none⟩) (fun _ => rfl) (.bool up)
  have Y6 := Lib.hid ((Y5.out.still dr).is (dr.blk hI5.out (fun s => s.elim)) IB0 si)
  have U6 := Lib.hid ((U5.out.step dr (fun _ _ s => s.elim)).step si (fun k hk e => by
    obtain ⟨cur, hcur⟩ := U5.out.row.typed hk
    have e' : k = ib := e
    subst e'
    exact blk_ne hI5.out hcur (by decide) rfl))
  have I6 : Hid ((w5.drew.setCell ⟨ib, 1, none⟩ (.bool up)).heap[ib]? = some (.cells (isB s' t) 57 (0, 0))) := Lib.hid (by rw [blk_set (w := w5.drew) hI5.out 1 (.bool up), IS.out])
  refine wpPlan.ends fun K' hK => ?_
  go_simp
  refine hK.out _ _ ?_
  clear hK K' ci fi si dr z2 Y5 U5 hI5 IS
  have LL : Hid (l.length ≤ 3) := Lib.hid (by have := LL0.out; omega)
  have hU := U6
  have hY := Y6
  have hI := I6
  clear U6 Y6 I6
  obtain ⟨xo, xc, hxv, -, -⟩ := hY.out.ra.form
  subst hxv
  have OB : Hid (B.length ≤ 1000) := Lib.hid (by have := hN.out; omega)
  have hli : ((l.length : Nat) : Int) ≤ 9223372036854775807 := by have := LL.out; omega
  go_wp2_with fail
  go_loopw [19] (fun tj wr => ∃ j : Nat, j ≤ l.length ∧ tj = .int .i64 j ∧ Hid (Tells wr 0 (.slice uo l.length uc) l) ∧ ∃ u', Hid (Way w wr g b h c bx bs s' t (.slice xo A.length xc) u' A (B ++ (l.take j).map Itm.ofTell)) ∧ Hid (wr.heap[ib]? = some (.cells (isB s' t) 57 (0, 0)))) (fun tj _ => l.length - (intOf tj).toNat)
  case atStart => exact ⟨0, by omega, rfl, hU, vb, by simp only [List.take_zero, List.map_nil, List.append_nil]; exact hY, hI⟩
  case round =>
    clear hU hY hI
    obtain ⟨j, hj, rfl, hU, u', hY, hI⟩ := hrel
    rename_i wr
    cases c1 : decide ((j : Int) < (l.length : Int))
    · have c1' : decide (j < l.length) = false := by simp at c1 ⊢; omega
      have hin : j = l.length := by simp at c1; omega
      rw [hin, List.take_length] at hY
      clear hin hU
      have ST2 := Lib.hid hY.out.st
      obtain ⟨q0, -, -⟩ := CE.out _ ST2.out
      have C6 : Hid (Gm.Calm s' t A (B ++ l.map Itm.ofTell)) := C5
      have O6 : Hid (s'.Ok (63 + (i : Int) + 1) ∧ t.Ok (63 + (i : Int) + 1)) := Lib.hid ⟨O5.out, hO.out.2.mono (by omega)⟩
      have N6 : Hid (A.length ≤ 3 + 2 * i ∧ (B ++ l.map Itm.ofTell).length ≤ 3 + 2 * i + 1) := Lib.hid (by have := hN.out; have := LL0.out; rw [List.length_append, List.length_map]; omega)
      clear C5 O5 hO hN LL0 LL OB
      generalize B ++ l.map Itm.ofTell = D2 at *
      cases o0 : decide ((0 : Int) < op)
      · go_wp2_with fail
        exact HK.out _ _ _ _ _ _ _ _ _ _ _ _ _ _ _ _ _ _ _ _ _ _ _ _ _ _ _ _ _ _ _ _ _ _ _ _ _ _ _ _ _ _ _ _ _ _ _ _ _ _ _ _ _ _ _ _ _ _ _ _ _ _ _ _ _ _ _ _ _ _ _ _ _ _ _ _ _ _ _ _ _ _ _ _ _ _ _ _ _ _ _ _ _ _ _ _ _ _ _ _ (hY) (C6) (Lib.hid ⟨O6.out.1.mono (by omega), O6.out.2.mono (by omega)⟩) (Lib.hid (by have := N6.out; omega)) (hI)
      obtain ⟨k0, k1, -, -⟩ := hY.out.here
      go_wp2_with fail
      have dr : Step None wr wr.drew := (Step.refl None wr).drew
      refine wp_region_plan (fun w' => w'.cell? ⟨bx, 0, none⟩ = some (.pointer (some ⟨g, 0, none⟩)) ∧ w'.cell? ⟨bx, 1, none⟩ = some (.pointer (some ⟨h, 0, none⟩))) (.take 0 (.take 1 (.take 2 (.take 3 (.take 4 (.take 5 (.take 6 (.take 7 (.alt 8 (.take 9 .done) .none))))))))) _
        (by simp only [Plan.map, opOf, List.getElem?_toArray, List.getElem?_cons_zero, List.getElem?_cons_succ, Option.getD_some]; rfl) (by kernel_rfl) (by kernel_rfl) (by kernel_rfl) (by decide) (by intro c a d v w; exact HQ0.out c a d v w)
        ⟨k0, k1⟩ ?_
      (refine wpPlan.taken (by rfl) (by intro w' hS'; (try dsimp only at hS'); go_split_ands; go_simp; try with_reducible rfl) ?_; simp only [Act.put, List.setIfInBounds_toArray, List.set_cons_zero, List.set_cons_succ])
      (refine wpPlan.taken (by rfl) (by intro w' hS'; (try dsimp only at hS'); go_split_ands; go_simp; try with_reducible rfl) ?_; simp only [Act.put, List.setIfInBounds_toArray, List.set_cons_zero, List.set_cons_succ])
      (refine wpPlan.taken (by rfl) (by intro w' hS'; (try dsimp only at hS'); go_split_ands; go_simp; try with_reducible rfl) ?_; simp only [Act.put, List.setIfInBounds_toArray, List.set_cons_zero, List.set_cons_succ])
      (refine wpPlan.taken (by rfl) (by intro w' hS'; (try dsimp only at hS'); go_split_ands; go_simp; try with_reducible rfl) ?_; simp only [Act.put, List.setIfInBounds_toArray, List.set_cons_zero, List.set_cons_succ])
      (refine wpPlan.taken (by rfl) (by intro w' hS'; (try dsimp only at hS'); go_split_ands; go_simp; try with_reducible rfl) ?_; simp only [Act.put, List.setIfInBounds_toArray, List.set_cons_zero, List.set_cons_succ])
      (refine wpPlan.taken (by rfl) (by intro w' hS'; (try dsimp only at hS'); go_split_ands; go_simp; try with_reducible rfl) ?_; simp only [Act.put, List.setIfInBounds_toArray, List.set_cons_zero, List.set_cons_succ])
      refine wpPlan.taken (v := .int .i64 1) (by rfl) (by intro w' hS'; go_simp; rfl) ?_; simp only [Act.put, List.setIfInBounds_toArray, List.set_cons_zero, List.set_cons_succ]
      (refine wpPlan.taken (by rfl) (by intro w' hS'; (try dsimp only at hS'); go_split_ands; go_simp; try with_reducible rfl) ?_; simp only [Act.put, List.setIfInBounds_toArray, List.set_cons_zero, List.set_cons_succ])
      refine wpPlan.runs fun K' hK => ?_
      go_simp
      refine (hear2A (hY.out.still dr) C6.out O6.out.1 (by omega) (by omega) (by have := N6.out; omega)).mono ?_
      rintro e w5 ⟨rfl, s'', va', vb', A', B', hw, hd, hkp⟩
      have Y7 := Lib.hid hw
      have D7 := Lib.hid hd
      have I7 : Hid (w5.heap[ib]? = some (.cells (isB s'' t) 57 (0, 0))) := Lib.hid (by
        have := hkp ib _ (dr.blk hI.out (fun s => s.elim))
        rw [isB_same (s := s') (t := t) (s' := s'') (t' := t) hd.up (fun _ _ => rfl)]
        exact this)
      have hh := hw.here
      refine hK.out _ _ ⟨hh.1, hh.2.1⟩ ?_
      clear hK K' hh k0 k1 hY C6 hI hw hd hkp dr
      repeat (first | (refine wpPlan.taken (by rfl) (by intro w' hS'; (try dsimp only at hS'); go_split_ands; go_simp; try with_reducible rfl) ?_; simp only [Act.put, List.setIfInBounds_toArray, List.set_cons_zero, List.set_cons_succ]) | (refine wpPlan.passed (by rfl) ?_; simp only [Act.put, List.setIfInBounds_toArray, List.set_cons_zero, List.set_cons_succ]))
      refine wpPlan.done ?_
      go_wp2_with fail
      exact HK.out _ _ _ _ _ _ _ _ _ _ _ _ _ _ _ _ _ _ _ _ _ _ _ _ _ _ _ _ _ _ _ _ _ _ _ _ _ _ _ _ _ _ _ _ _ _ _ _ _ _ _ _ _ _ _ _ _ _ _ _ _ _ _ _ _ _ _ _ _ _ _ _ _ _ _ _ _ _ _ _ _ _ _ _ _ _ _ _ _ _ _ _ _ _ _ _ _ _ _ _ (Y7) (Lib.hid D7.out.calm) (Lib.hid ⟨D7.out.ok.mono (by omega), O6.out.2.mono (by omega)⟩) (Lib.hid (by have := N6.out; have := D7.out.la; have := D7.out.lb; omega)) (I7)
    have hlt : j < l.length := by simp at c1; omega
    have c1' : decide (j < l.length) = true := by simpa using hlt
    obtain ⟨D, hD⟩ : ∃ D, B ++ (l.take j).map Itm.ofTell = D := ⟨_, rfl⟩
    rw [hD] at hY
    have BN : Hid (D.length ≤ 1000010) := Lib.hid (by have := LL.out; have := OB.out; rw [← hD, List.length_append, List.length_map, List.length_take]; omega)
    have HD := Lib.hid hD
    clear hD
    obtain ⟨tt, htt⟩ : ∃ tt, l[j]? = some tt := ⟨_, List.getElem?_eq_getElem hlt⟩
    have NX : Hid (l.take (j + 1) = l.take j ++ [tt]) := Lib.hid (by rw [List.take_add_one, htt]; rfl)
    obtain ⟨zo, zc, rfl, -, -⟩ := hY.out.rb.form
    obtain ⟨b9, o9, k9, e9, hl9, h9⟩ := tells_load hU.out htt
    simp only [Value.slice.injEq] at e9
    obtain ⟨rfl, -, rfl⟩ := e9
    have NL : Hid (∀ w', Step (Leads (.slice zo D.length zc)) wr w' → (Instr.loadAt 35 (.pointer (some ⟨b9, o9 + j * 11, none⟩))).run Tryd.prog w' = .ok (.agg #[.int .i64 tt.kind, .int .i64 0, .int .u8 0, .int .u8 0, .int .u8 0, .int .u8 0, .int .u8 0, .int .u8 0, .int .i64 tt.port, .int .i64 tt.state, .slice none 0 0]) w' ∧ Tells w' 0 (.slice (some ⟨b9, o9, none⟩) l.length uc) l) := Lib.hid (fun w' h' => by
      have hU2 := hU.out.step h' (fun k hk => by
        obtain ⟨cur, hcur⟩ := hU.out.row.typed hk
        exact hY.out.rb.ne hcur (by decide))
      obtain ⟨x1, y1, z1, q1, -, f1⟩ := tells_load hU2 htt
      simp only [Value.slice.injEq, Option.some.injEq, Addr.mk.injEq] at q1
      obtain ⟨⟨rfl, rfl, -⟩, -, -⟩ := q1
      exact ⟨f1, hU2⟩)
    have j0 : (0 : Int) ≤ (j : Int) := by omega
    have j1 : (j : Int) < (l.length : Int) := by omega
    have WAY := Lib.hid (fun w' (h' : Step (Leads (.slice zo D.length zc)) wr w') => And.intro (hY.out.cells hY.out.rb h') (NL.out w' h').1)
    have NWS : Hid (∀ w', Step (Leads (.slice zo D.length zc)) wr w' → ∀ k, Leads (.slice (some ⟨b9, o9, none⟩) l.length uc) k → ¬ k = bs) := Lib.hid (fun w' h' k hk e => by
      obtain ⟨cur, hcur⟩ := hU.out.row.typed hk
      subst e
      exact blk_ne hY.out.ways hcur (by decide) rfl)
    clear htt hl9 h9
    have dr : Step None wr wr.drew := (Step.refl None wr).drew
    have al := dr.alloc (.cells #[.int .i64 tt.kind, .int .i64 0, .int .u8 0, .int .u8 0, .int .u8 0, .int .u8 0, .int .u8 0, .int .u8 0, .int .i64 tt.port, .int .i64 tt.state, .slice none 0 0, .bool false, .bool false, .bool false, .bool false, .bool false] 53)
    have ob : (wr.drew.alloc (.cells #[.int .i64 tt.kind, .int .i64 0, .int .u8 0, .int .u8 0, .int .u8 0, .int .u8 0, .int .u8 0, .int .u8 0, .int .i64 tt.port, .int .i64 tt.state, .slice none 0 0, .bool false, .bool false, .bool false, .bool false, .bool false] 53)).heap[wr.heap.size]? = some (.cells #[.int .i64 tt.kind, .int .i64 0, .int .u8 0, .int .u8 0, .int .u8 0, .int .u8 0, .int .u8 0, .int .u8 0, .int .i64 tt.port, .int .i64 tt.state, .slice none 0 0, .bool false, .bool false, .bool false, .bool false, .bool false] 53 (0, 0)) := heap_alloc_new wr.drew (.cells #[.int .i64 tt.kind, .int .i64 0, .int .u8 0, .int .u8 0, .int .u8 0, .int .u8 0, .int .u8 0, .int .u8 0, .int .i64 tt.port, .int .i64 tt.state, .slice none 0 0, .bool false, .bool false, .bool false, .bool false, .bool false] 53)
    go_wp2_with fail
    refine wp_region_plan (fun w' => (w'.cell? ⟨bx, 0, none⟩ = some (.pointer (some ⟨g, 0, none⟩)) ∧ w'.cell? ⟨bx, 1, none⟩ = some (.pointer (some ⟨h, 0, none⟩)) ∧ w'.cell? ⟨bs, 0, none⟩ = some (.slice xo A.length xc) ∧ w'.cell? ⟨bs, 1, none⟩ = some (.slice zo D.length zc)) ∧ (Instr.loadAt 35 (.pointer (some ⟨b9, o9 + j * 11, none⟩))).run Tryd.prog w' = .ok (.agg #[.int .i64 tt.kind, .int .i64 0, .int .u8 0, .int .u8 0, .int .u8 0, .int .u8 0, .int .u8 0, .int .u8 0, .int .i64 tt.port, .int .i64 tt.state, .slice none 0 0]) w') (.take 0 (.take 1 (.take 2 (.take 3 (.take 4 (.take 5 (.take 6 (.take 7 (.take 8 (.take 9 (.take 10 (.alt 11 (.alt 12 (.take 13 (.last 14)) .none) .none)))))))))))) _
      (by simp only [Plan.map, opOf, List.getElem?_toArray, List.getElem?_cons_zero, List.getElem?_cons_succ, Option.getD_some]; rfl) (by kernel_rfl) (by kernel_rfl) (by kernel_rfl) (by decide) (by intro c a d v w; exact HQ0.out c a d v w)
      (WAY.out _ dr.none) ?_
    (refine wpPlan.taken (by rfl) (by intro w' hS'; (try dsimp only at hS'); go_split_ands; go_simp; try with_reducible rfl) ?_; simp only [Act.put, List.setIfInBounds_toArray, List.set_cons_zero, List.set_cons_succ])
    refine wpPlan.taken (v := .int .i64 1) (by rfl) (by intro w' hS'; go_simp; rfl) ?_; simp only [Act.put, List.setIfInBounds_toArray, List.set_cons_zero, List.set_cons_succ]
    (refine wpPlan.taken (by rfl) (by intro w' hS'; (try dsimp only at hS'); go_split_ands; go_simp; try with_reducible rfl) ?_; simp only [Act.put, List.setIfInBounds_toArray, List.set_cons_zero, List.set_cons_succ])
    refine wpPlan.taken (v := .int .i64 1) (by rfl) (by intro w' hS'; go_simp; rfl) ?_; simp only [Act.put, List.setIfInBounds_toArray, List.set_cons_zero, List.set_cons_succ]
    repeat (first | (refine wpPlan.taken (by rfl) (fun w' hS' => run_load_op rfl rfl hS'.2) ?_; simp only [Act.put, List.setIfInBounds_toArray, List.set_cons_zero, List.set_cons_succ]) | (refine wpPlan.taken (by rfl) (by intro w' hS'; (try dsimp only at hS'); go_split_ands; go_simp; try with_reducible rfl) ?_; simp only [Act.put, List.setIfInBounds_toArray, List.set_cons_zero, List.set_cons_succ]) | (refine wpPlan.passed (by rfl) ?_; simp only [Act.put, List.setIfInBounds_toArray, List.set_cons_zero, List.set_cons_succ]))
    refine wpPlan.runs fun K' hK => ?_
    go_simp
    refine hK.out _ _ (WAY.out _ al.none) ?_
    clear hK K'
    have Y6 := Lib.hid (hY.out.still al)
    refine wpPlan.runs fun K' hK => ?_
    refine step_append_row (m := 1) T43 (by rfl) (.tmp 135) (.tmp 141) (by rfl) (by rfl) Y6.out.rb (by rfl) (Src.ofBlock T43 (m := 1) (c := 1) ob (by rfl) (by simp [Value.oneCell'])) (by have := BN.out; simp [maxLen]; omega) (by have := BN.out; omega) ?_
    intro v7 w7 r7 s7 g7
    refine hK.out _ _ (WAY.out _ (al.none.then_ s7)) ?_
    clear hK K'
    have Y7 := Lib.hid (Y6.out.turnB (B' := D ++ [Itm.ofTell tt]) s7 (by rw [List.length_append, flatI_app]; exact r7) g7)
    have U7 := Lib.hid (((NL.out _ (al.none.then_ s7)).2).step ((Step.refl (· = bs) w7).setCell (p := ⟨bs, 1, none⟩) (fun _ => rfl) v7) (NWS.out _ (al.none.then_ s7)))
    have i1 := al.blk hI.out (fun s => s.elim)
    have i2 := s7.blk i1 (Y6.out.rb.ne i1 (by decide))
    have I7 := Lib.hid (((Step.refl (· = bs) w7).setCell (p := ⟨bs, 1, none⟩) (fun _ => rfl) v7).blk i2 (fun e => blk_ne i2 (s7.blk Y6.out.ways (Y6.out.rb.ne Y6.out.ways (by decide))) (by decide) e))
    clear i1 i2
    have fz7 := blk_frozen (s7.blk Y6.out.ways (Y6.out.rb.ne Y6.out.ways (by decide))) 1
    have HT := WAY.out _ (al.none.then_ s7)
    obtain ⟨⟨m0, m1, m2, m3⟩, -⟩ := HT
    obtain ⟨vo7, vc7, rfl, -, -⟩ := r7.form
    clear hI Y6 hY hU NL WAY NWS al ob dr r7 s7 g7
    repeat (first | (refine wpPlan.taken (by rfl) (fun w' hS' => run_load_op rfl rfl hS'.2) ?_; simp only [Act.put, List.setIfInBounds_toArray, List.set_cons_zero, List.set_cons_succ]) | (refine wpPlan.taken (by rfl) (by intro w' hS'; (try dsimp only at hS'); go_split_ands; go_simp; try with_reducible rfl) ?_; simp only [Act.put, List.setIfInBounds_toArray, List.set_cons_zero, List.set_cons_succ]) | (refine wpPlan.passed (by rfl) ?_; simp only [Act.put, List.setIfInBounds_toArray, List.set_cons_zero, List.set_cons_succ]))
    refine wpPlan.ends fun K' hK => ?_
    go_simp
    refine hK.out _ _ ?_
    clear hK K' fz7 m0 m1 m2 m3
    go_wp2_with fail
    go_roundw
    case rel => exact ⟨j + 1, by omega, by first | rfl | simp, U7, _, by rw [NX.out, List.map_append, ← List.append_assoc, HD.out]; exact Y7, I7⟩
    case measure => simp [intOf]; omega
end Go.Proofs.YthebgpbofjgcoaaDoor
