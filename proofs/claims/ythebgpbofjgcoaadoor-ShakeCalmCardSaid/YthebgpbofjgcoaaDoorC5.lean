/- ShakeCalm: a round of the loop that hears what is left. -/
import Derived.Test.YthebgpbofjgcoaaDoorC0
namespace Go.Gm
theorem len_weight : ∀ l : List Itm, l.length ≤ Itm.weight l
  | [] => Nat.le_refl _
  | x :: r => by
    have := len_weight r
    rw [Itm.weight, List.length_cons]
    split
    · omega
    · split <;> omega
end Go.Gm
namespace Go.Proofs.YthebgpbofjgcoaaDoor
open Go.RowKit Go.Gm
set_option linter.unusedVariables false
set_option maxRecDepth 10000 in
set_option maxHeartbeats 64000000 in
theorem calm_drain {w wr : World} {g b h c bx bs ib : Nat} {s t : Shk} {va vb : Value} {A B : List Itm} {c0 c1 c3 c4 c5 c6 c7 c11 c12 c13 c14 c15 c16 c17 c18 c19 c20 c23 c24 c25 c26 c27 c28 c29 c30 c31 c32 c33 c34 c35 c36 c37 c38 c39 c40 c41 c42 c43 c44 c45 c46 c47 c48 c49 c50 c51 c52 c53 c54 c55 c56 c57 c58 c59 c60 c61 c62 c63 c64 c65 c66 c67 c68 c69 c70 c71 c72 c73 c74 c75 c76 c77 c78 c79 c80 c81 c82 c83 c84 c85 c86 c87 c88 c89 c90 c91 c92 c93 c94 c95 c96 c97 c98 c99 c100 c101 c102 c103 c104 c105 c106 c107 c108 c109 c110 c111 c112 c113 c114 c115 c116 c117 c118 c119 c120 c121 c122 c123 c124 c125 c126 c127 c128 c129 c130 c131 c132 c133 c134 c135 c136 c137 c138 c139 c140 c141 c142 c143 c144 c145 c146 c147 c148 c149 c150 c151 c152 c153 c154 c155 c156 c157 c158 c159 c160 c184 c185 c186 c187 c188 c189 c190 c191 c192 c193 c194 c195 c196 c197 c198 c199 c200 c201 c202 c203 c204 c205 c206 c207 c208 c209 c210 c211 c212 c213 c214 c215 c216 : Value} {u2 u21 u22 u161 u162 u163 u164 u165 u166 u167 u168 u169 u170 u171 u172 u173 u174 u175 u176 u177 u178 u179 u180 u181 u182 u183 : Value} {K : Act → World → Prop} {Q0 : Exit → Act → World → Prop}
    (hK : ∀ (u2 u21 u22 u161 u162 u163 u164 u165 u166 u167 u168 u169 u170 u171 u172 u173 u174 u175 u176 u177 u178 u179 u180 u181 u182 u183 : Value) (wr : World) (s t : Shk) (va vb : Value) (A1 B1 : List Itm), Hid (Way w wr g b h c bx bs s t va vb A1 B1) → Hid (Gm.Calm s t A1 B1) → Hid (s.Ok 300 ∧ t.Ok 300) → Hid (wr.heap[ib]? = some (.cells (isB s t) 57 (0, 0))) → Hid (Itm.weight A1 + Itm.weight B1 < Itm.weight A + Itm.weight B) → K ⟨#[c0, c1, u2, c3, c4, c5, c6, c7, .pointer (some ⟨bx, 0, none⟩), .pointer (some ⟨bs, 0, none⟩), .pointer (some ⟨ib, 0, none⟩), c11, c12, c13, c14, c15, c16, c17, c18, c19, c20, u21, u22, c23, c24, c25, c26, c27, c28, c29, c30, c31, c32, c33, c34, c35, c36, c37, c38, c39, c40, c41, c42, c43, c44, c45, c46, c47, c48, c49, c50, c51, c52, c53, c54, c55, c56, c57, c58, c59, c60, c61, c62, c63, c64, c65, c66, c67, c68, c69, c70, c71, c72, c73, c74, c75, c76, c77, c78, c79, c80, c81, c82, c83, c84, c85, c86, c87, c88, c89, c90, c91, c92, c93, c94, c95, c96, c97, c98, c99, c100, c101, c102, c103, c104, c105, c106, c107, c108, c109, c110, c111, c112, c113, c114, c115, c116, c117, c118, c119, c120, c121, c122, c123, c124, c125, c126, c127, c128, c129, c130, c131, c132, c133, c134, c135, c136, c137, c138, c139, c140, c141, c142, c143, c144, c145, c146, c147, c148, c149, c150, c151, c152, c153, c154, c155, c156, c157, c158, c159, c160, u161, u162, u163, u164, u165, u166, u167, u168, u169, u170, u171, u172, u173, u174, u175, u176, u177, u178, u179, u180, u181, u182, u183, c184, c185, c186, c187, c188, c189, c190, c191, c192, c193, c194, c195, c196, c197, c198, c199, c200, c201, c202, c203, c204, c205, c206, c207, c208, c209, c210, c211, c212, c213, c214, c215, c216], []⟩ wr)
    (hQ0 : ∀ c a d v w, Q0 (.panic c) (Act.put a d v) w → Q0 (.panic c) a w)
    (hne : 0 < A.length + B.length) (hwt : Itm.weight A + Itm.weight B ≤ 2000)
    (hY : Hid (Way w wr g b h c bx bs s t va vb A B)) (hC : Hid (Gm.Calm s t A B)) (hO : Hid (s.Ok 300 ∧ t.Ok 300)) (hI : Hid (wr.heap[ib]? = some (.cells (isB s t) 57 (0, 0)))) :
    Code.wp Tryd.prog drainBody (Exit.then K Q0) ⟨#[c0, c1, u2, c3, c4, c5, c6, c7, .pointer (some ⟨bx, 0, none⟩), .pointer (some ⟨bs, 0, none⟩), .pointer (some ⟨ib, 0, none⟩), c11, c12, c13, c14, c15, c16, c17, c18, c19, c20, u21, u22, c23, c24, c25, c26, c27, c28, c29, c30, c31, c32, c33, c34, c35, c36, c37, c38, c39, c40, c41, c42, c43, c44, c45, c46, c47, c48, c49, c50, c51, c52, c53, c54, c55, c56, c57, c58, c59, c60, c61, c62, c63, c64, c65, c66, c67, c68, c69, c70, c71, c72, c73, c74, c75, c76, c77, c78, c79, c80, c81, c82, c83, c84, c85, c86, c87, c88, c89, c90, c91, c92, c93, c94, c95, c96, c97, c98, c99, c100, c101, c102, c103, c104, c105, c106, c107, c108, c109, c110, c111, c112, c113, c114, c115, c116, c117, c118, c119, c120, c121, c122, c123, c124, c125, c126, c127, c128, c129, c130, c131, c132, c133, c134, c135, c136, c137, c138, c139, c140, c141, c142, c143, c144, c145, c146, c147, c148, c149, c150, c151, c152, c153, c154, c155, c156, c157, c158, c159, c160, u161, u162, u163, u164, u165, u166, u167, u168, u169, u170, u171, u172, u173, u174, u175, u176, u177, u178, u179, u180, u181, u182, u183, c184, c185, c186, c187, c188, c189, c190, c191, c192, c193, c194, c195, c196, c197, c198, c199, c200, c201, c202, c203, c204, c205, c206, c207, c208, c209, c210, c211, c212, c213, c214, c215, c216], []⟩ wr := by
  conv => arg 2; whnf
  have HK := Lib.hid hK
  have HQ0 := Lib.hid hQ0
  have HWT := Lib.hid hwt
  have HNE := Lib.hid hne
  have la := len_weight A
  have lb := len_weight B
  obtain ⟨xo, xc, hxv, -, -⟩ := hY.out.ra.form
  subst hxv
  obtain ⟨yo, yc, hyv, -, -⟩ := hY.out.rb.form
  subst hyv
  obtain ⟨-, -, m0, m1⟩ := hY.out.here
  have d1 : decide ((0 : Int) < (A.length : Int) + (B.length : Int)) = true := decide_eq_true (by omega)
  have d2 : wrap64 ((A.length : Int) + (B.length : Int)) = (A.length : Int) + (B.length : Int) := IntWalk.wrap64_in _ ⟨by omega, by omega⟩
  have d3 : IntKind.i64.wrap ((A.length : Int) + (B.length : Int)) = (A.length : Int) + (B.length : Int) := IntWalk.i64_in _ (by omega)
  clear hK hQ0 hne hwt la lb
  go_wp2_with fail
  clear d1 d2 d3 m0 m1
  go_loopw [21] (fun tk wr => ∃ k : Int, tk = .int .i64 k ∧ ((k = 0 ∧ (∃ va vb, Hid (Way w wr g b h c bx bs s t va vb A B) ∧ Hid (Gm.Calm s t A B) ∧ Hid (s.Ok 300 ∧ t.Ok 300) ∧ Hid (wr.heap[ib]? = some (.cells (isB s t) 57 (0, 0))))) ∨ (k = 1 ∧ ∃ s1 A1 B1, (∃ va vb, Hid (Way w wr g b h c bx bs s1 t va vb A1 B1) ∧ Hid (Gm.Calm s1 t A1 B1) ∧ Hid (s1.Ok 300 ∧ t.Ok 300) ∧ Hid (wr.heap[ib]? = some (.cells (isB s1 t) 57 (0, 0)))) ∧ Hid (Itm.weight A1 + Itm.weight B1 < Itm.weight A + Itm.weight B ∨ A = [] ∧ B1 = B)  ∧ Hid (Itm.weight A1 + Itm.weight B1 ≤ Itm.weight A + Itm.weight B)) ∨ (k = 2 ∧ ∃ s1 t1 A1 B1, (∃ va vb, Hid (Way w wr g b h c bx bs s1 t1 va vb A1 B1) ∧ Hid (Gm.Calm s1 t1 A1 B1) ∧ Hid (s1.Ok 300 ∧ t1.Ok 300) ∧ Hid (wr.heap[ib]? = some (.cells (isB s1 t1) 57 (0, 0)))) ∧ Hid (Itm.weight A1 + Itm.weight B1 < Itm.weight A + Itm.weight B)))) (fun tk _ => 2 - (intOf tk).toNat)
  case atStart => exact ⟨0, rfl, .inl ⟨rfl, _, _, hY, hC, hO, hI⟩⟩
  case round =>
    clear hY hC hO hI
    obtain ⟨k, rfl, hk⟩ := hrel
    rename_i wr
    rcases hk with ⟨rfl, va, vb, hY, hC, hO, hI⟩ | ⟨rfl, s1, A1, B1, ⟨va, vb, hY, hC, hO, hI⟩, hlt1, hle1⟩ | ⟨rfl, s1, t1, A1, B1, ⟨va, vb, hY, hC, hO, hI⟩, hlt1⟩
    · obtain ⟨k0, k1, -, -⟩ := hY.out.here
      go_wp2_with fail
      have dr : Step None wr wr.drew := (Step.refl None wr).drew
      refine wp_region_plan (fun w' => w'.cell? ⟨bx, 0, none⟩ = some (.pointer (some ⟨g, 0, none⟩)) ∧ w'.cell? ⟨bx, 1, none⟩ = some (.pointer (some ⟨h, 0, none⟩))) (.take 0 (.take 1 (.take 2 (.take 3 (.take 4 (.take 5 (.take 6 (.take 7 (.alt 8 (.take 9 .done) .none))))))))) _
        (by simp only [Plan.map, opOf, List.getElem?_toArray, List.getElem?_cons_zero, List.getElem?_cons_succ, Option.getD_some]; rfl) (by kernel_rfl) (by kernel_rfl) (by kernel_rfl) (by decide) (by intro c a d v w; exact HQ0.out c a d v w)
        ⟨k0, k1⟩ ?_
      (refine wpPlan.taken (by rfl) (by intro w' hS'; (try dsimp only at hS'); go_split_ands; go_simp; try with_reducible rfl) ?_; simp only [Act.put, List.setIfInBounds_toArray, List.set_cons_zero, List.set_cons_succ])
      (refine wpPlan.taken (by rfl) (by intro w' hS'; (try dsimp only at hS'); go_split_ands; go_simp; try with_reducible rfl) ?_; simp only [Act.put, List.setIfInBounds_toArray, List.set_cons_zero, List.set_cons_succ])
      (refine wpPlan.taken (by rfl) (by intro w' hS'; (try dsimp only at hS'); go_split_ands; go_simp; try with_reducible rfl) ?_; simp only [Act.put, List.setIfInBounds_toArray, List.set_cons_zero, List.set_cons_succ])
      (refine wpPlan.taken (by rfl) (by intro w' hS'; (try dsimp only at hS'); go_split_ands; go_simp; try with_reducible rfl) ?_; simp only [Act.put, List.setIfInBounds_toArray, List.set_cons_zero, List.set_cons_succ])
      (refine wpPlan.taken (by rfl) (by intro w' hS'; (try dsimp only at hS'); go_split_ands; go_simp; try with_reducible rfl) ?_; simp only [Act.put, List.setIfInBounds_toArray, List.set_cons_zero, List.set_cons_succ])
      (refine wpPlan.taken (by rfl) (by intro w' hS'; (try dsimp only at hS'); go_split_ands; go_simp; try with_reducible rfl) ?_; simp only [Act.put, List.setIfInBounds_toArray, List.set_cons_zero, List.set_cons_succ])
      refine wpPlan.taken (v := .int .i64 1) (by rfl) (by intro w' hS'; go_simp; rfl) ?_; simp only [Act.put, List.setIfInBounds_toArray, List.set_cons_zero, List.set_cons_succ]
      (refine wpPlan.taken (by rfl) (by intro w' hS'; (try dsimp only at hS'); go_split_ands; go_simp; try with_reducible rfl) ?_; simp only [Act.put, List.setIfInBounds_toArray, List.set_cons_zero, List.set_cons_succ])
      refine wpPlan.runs fun K' hK => ?_
      go_simp
      refine (hear2A (hY.out.still dr) hC.out hO.out.1 (by decide) (by decide) (by have := HWT.out; have := len_weight B; omega)).mono ?_
      rintro e w5 ⟨rfl, s', va', vb', A', B', hw, hd, hkp⟩
      have Y7 := Lib.hid hw
      have D7 := Lib.hid hd
      have I7 : Hid (w5.heap[ib]? = some (.cells (isB s' t) 57 (0, 0))) := Lib.hid (by
        have := hkp ib _ (dr.blk hI.out (fun s => s.elim))
        rw [isB_same (s := s) (t := t) (s' := s') (t' := t) hd.up (fun _ _ => rfl)]
        exact this)
      have hh := hw.here
      refine hK.out _ _ ⟨hh.1, hh.2.1⟩ ?_
      clear hK K' hh k0 k1 hY hI hw hd hkp dr
      repeat (first | (refine wpPlan.taken (by rfl) (by intro w' hS'; (try dsimp only at hS'); go_split_ands; go_simp; try with_reducible rfl) ?_; simp only [Act.put, List.setIfInBounds_toArray, List.set_cons_zero, List.set_cons_succ]) | (refine wpPlan.passed (by rfl) ?_; simp only [Act.put, List.setIfInBounds_toArray, List.set_cons_zero, List.set_cons_succ]))
      refine wpPlan.done ?_
      go_wp2_with fail
      go_roundw
      case rel => exact ⟨1, by first | rfl | simp, .inr (.inl ⟨rfl, s', A', B', ⟨_, _, Y7, Lib.hid D7.out.calm, Lib.hid ⟨D7.out.ok, hO.out.2⟩, I7⟩, Lib.hid (by
        rcases D7.out.less with h | ⟨h1, h2, h3, h4⟩
        · exact .inl h
        · exact .inr ⟨h1, h3⟩), Lib.hid (by
        rcases D7.out.less with h | ⟨h1, h2, h3, h4⟩
        · omega
        · rw [h2, h3]; exact Nat.le_refl _)⟩)⟩
      case measure => simp [intOf]
    · obtain ⟨k0, k1, -, -⟩ := hY.out.here
      go_wp2_with fail
      have dr : Step None wr wr.drew := (Step.refl None wr).drew
      refine wp_region_plan (fun w' => w'.cell? ⟨bx, 0, none⟩ = some (.pointer (some ⟨g, 0, none⟩)) ∧ w'.cell? ⟨bx, 1, none⟩ = some (.pointer (some ⟨h, 0, none⟩))) (.take 0 (.take 1 (.take 2 (.take 3 (.take 4 (.take 5 (.take 6 (.take 7 (.alt 8 (.take 9 .done) .none))))))))) _
        (by simp only [Plan.map, opOf, List.getElem?_toArray, List.getElem?_cons_zero, List.getElem?_cons_succ, Option.getD_some]; rfl) (by kernel_rfl) (by kernel_rfl) (by kernel_rfl) (by decide) (by intro c a d v w; exact HQ0.out c a d v w)
        ⟨k0, k1⟩ ?_
      (refine wpPlan.taken (by rfl) (by intro w' hS'; (try dsimp only at hS'); go_split_ands; go_simp; try with_reducible rfl) ?_; simp only [Act.put, List.setIfInBounds_toArray, List.set_cons_zero, List.set_cons_succ])
      (refine wpPlan.taken (by rfl) (by intro w' hS'; (try dsimp only at hS'); go_split_ands; go_simp; try with_reducible rfl) ?_; simp only [Act.put, List.setIfInBounds_toArray, List.set_cons_zero, List.set_cons_succ])
      (refine wpPlan.taken (by rfl) (by intro w' hS'; (try dsimp only at hS'); go_split_ands; go_simp; try with_reducible rfl) ?_; simp only [Act.put, List.setIfInBounds_toArray, List.set_cons_zero, List.set_cons_succ])
      (refine wpPlan.taken (by rfl) (by intro w' hS'; (try dsimp only at hS'); go_split_ands; go_simp; try with_reducible rfl) ?_; simp only [Act.put, List.setIfInBounds_toArray, List.set_cons_zero, List.set_cons_succ])
      (refine wpPlan.taken (by rfl) (by intro w' hS'; (try dsimp only at hS'); go_split_ands; go_simp; try with_reducible rfl) ?_; simp only [Act.put, List.setIfInBounds_toArray, List.set_cons_zero, List.set_cons_succ])
      (refine wpPlan.taken (by rfl) (by intro w' hS'; (try dsimp only at hS'); go_split_ands; go_simp; try with_reducible rfl) ?_; simp only [Act.put, List.setIfInBounds_toArray, List.set_cons_zero, List.set_cons_succ])
      refine wpPlan.taken (v := .int .i64 0) (by rfl) (by intro w' hS'; go_simp; rfl) ?_; simp only [Act.put, List.setIfInBounds_toArray, List.set_cons_zero, List.set_cons_succ]
      (refine wpPlan.taken (by rfl) (by intro w' hS'; (try dsimp only at hS'); go_split_ands; go_simp; try with_reducible rfl) ?_; simp only [Act.put, List.setIfInBounds_toArray, List.set_cons_zero, List.set_cons_succ])
      refine wpPlan.runs fun K' hK => ?_
      go_simp
      refine (hear2B (hY.out.still dr) hC.out.swap hO.out.2 (by decide) (by decide) (by have := HWT.out; have := hle1.out; have := len_weight A1; omega)).mono ?_
      rintro e w5 ⟨rfl, s', va', vb', B', A', hw, hd, hkp⟩
      have Y7 := Lib.hid hw
      have D7 := Lib.hid hd
      have I7 : Hid (w5.heap[ib]? = some (.cells (isB s1 s') 57 (0, 0))) := Lib.hid (by
        have := hkp ib _ (dr.blk hI.out (fun s => s.elim))
        rw [isB_same (s := s1) (t := t) (s' := s1) (t' := s') (fun _ _ => rfl) hd.up]
        exact this)
      have hh := hw.here
      refine hK.out _ _ ⟨hh.1, hh.2.1⟩ ?_
      clear hK K' hh k0 k1 hY hI hw hd hkp dr
      repeat (first | (refine wpPlan.taken (by rfl) (by intro w' hS'; (try dsimp only at hS'); go_split_ands; go_simp; try with_reducible rfl) ?_; simp only [Act.put, List.setIfInBounds_toArray, List.set_cons_zero, List.set_cons_succ]) | (refine wpPlan.passed (by rfl) ?_; simp only [Act.put, List.setIfInBounds_toArray, List.set_cons_zero, List.set_cons_succ]))
      refine wpPlan.done ?_
      go_wp2_with fail
      go_roundw
      case rel => exact ⟨2, by first | rfl | simp, .inr (.inr ⟨rfl, s1, s', B', A', ⟨_, _, Y7, Lib.hid D7.out.calm.swap, Lib.hid ⟨hO.out.1, D7.out.ok⟩, I7⟩, Lib.hid (by
        have hle := hle1.out
        rcases D7.out.less with h | ⟨h1, h2, h3, h4⟩
        · omega
        · rw [h2, h3]
          rcases hlt1.out with q | ⟨q1, q2⟩
          · omega
          · have hne := HNE.out
            subst q1
            rw [← q2, h1] at hne
            simp at hne)⟩)⟩
      case measure => simp [intOf]
    · go_wp2_with fail
      exact HK.out _ _ _ _ _ _ _ _ _ _ _ _ _ _ _ _ _ _ _ _ _ _ _ _ _ _ _ _ _ _ _ _ _ hY hC hO hI hlt1
end Go.Proofs.YthebgpbofjgcoaaDoor
