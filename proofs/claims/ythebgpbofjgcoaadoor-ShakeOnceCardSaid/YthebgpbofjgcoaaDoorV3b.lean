/- ShakeOnce: a branch of the main loop's round. -/
import Derived.Test.YthebgpbofjgcoaaDoorV0
namespace Go.Proofs.YthebgpbofjgcoaaDoor
open Go.RowKit Go.Gm
set_option linter.unusedVariables false
set_option maxRecDepth 10000 in
set_option maxHeartbeats 64000000 in
theorem once_2_1 {w wr : World} {g b h c bx bs len cap i b0 off : Nat} {op kk z : Int} {s t : Shk} {va vb : Value} {A B : List Itm} {c1 c3 c4 c5 c6 c7 c10 c11 c12 c13 c14 c23 c24 c25 c26 c27 c28 c29 c30 c31 c32 c33 c34 c35 c36 c37 c38 c39 c40 c41 c42 c43 c44 c45 c46 c47 c48 c49 c50 c51 c52 c53 c54 c55 c56 c57 c58 c59 c60 c61 c62 c63 c64 c65 c66 c67 c68 c69 c70 c71 c72 c73 c74 c75 c76 c77 c78 c79 c80 c81 c82 c83 c84 c85 c86 c87 c88 c89 c90 c91 c92 c93 c94 c95 c96 c97 c98 c99 c100 c101 c102 : Value} {u2 u16 u17 u18 u19 u20 u21 u22 u103 u104 u105 u106 u107 u108 u109 u110 u111 u112 u113 u114 u115 u116 u117 u118 u119 u120 u121 u122 u123 u124 u125 u126 u127 u128 u129 u130 u131 u132 u133 u134 u135 u136 u137 u138 u139 u140 u141 u142 u143 u144 u145 u146 u147 u148 u149 u150 u151 u152 u153 u154 u155 u156 u157 u158 u159 u160 u161 u162 u163 u164 u165 u166 u167 u168 u169 u170 u171 u172 u173 u174 u175 u176 u177 u178 u179 u180 u181 u182 u183 u184 u185 u186 u187 u188 u189 u190 u191 u192 u193 u194 u195 u196 u197 u198 u199 u200 u201 u202 u203 u204 : Value} {K : Act → World → Prop} {Q0 : Exit → Act → World → Prop}
    (hK : ∀ (u2 u16 u17 u18 u19 u20 u21 u22 u103 u104 u105 u106 u107 u108 u109 u110 u111 u112 u113 u114 u115 u116 u117 u118 u119 u120 u121 u122 u123 u124 u125 u126 u127 u128 u129 u130 u131 u132 u133 u134 u135 u136 u137 u138 u139 u140 u141 u142 u143 u144 u145 u146 u147 u148 u149 u150 u151 u152 u153 u154 u155 u156 u157 u158 u159 u160 u161 u162 u163 u164 u165 u166 u167 u168 u169 u170 u171 u172 u173 u174 u175 u176 u177 u178 u179 u180 u181 u182 u183 u184 u185 u186 u187 u188 u189 u190 u191 u192 u193 u194 u195 u196 u197 u198 u199 u200 u201 u202 u203 u204 : Value) (wr : World) (s t : Shk) (va vb : Value) (A B : List Itm), Hid (Way w wr g b h c bx bs s t va vb A B) → Hid (Gm.Calm s t A B) → Hid (s.Ok (63 + ((i + 1 : Nat) : Int)) ∧ t.Ok (63 + ((i + 1 : Nat) : Int))) → Hid (A.length ≤ 3 + 2 * (i + 1) ∧ B.length ≤ 3 + 2 * (i + 1)) → K ⟨#[.slice (some ⟨b0, off, none⟩) len cap, c1, u2, c3, c4, c5, c6, c7, .pointer (some ⟨bx, 0, none⟩), .pointer (some ⟨bs, 0, none⟩), c10, c11, c12, c13, c14, .int .i64 ((i : Int) + 1), u16, u17, u18, u19, u20, u21, u22, c23, c24, c25, c26, c27, c28, c29, c30, c31, c32, c33, c34, c35, c36, c37, c38, c39, c40, c41, c42, c43, c44, c45, c46, c47, c48, c49, c50, c51, c52, c53, c54, c55, c56, c57, c58, c59, c60, c61, c62, c63, c64, c65, c66, c67, c68, c69, c70, c71, c72, c73, c74, c75, c76, c77, c78, c79, c80, c81, c82, c83, c84, c85, c86, c87, c88, c89, c90, c91, c92, c93, c94, c95, c96, c97, c98, c99, c100, c101, c102, u103, u104, u105, u106, u107, u108, u109, u110, u111, u112, u113, u114, u115, u116, u117, u118, u119, u120, u121, u122, u123, u124, u125, u126, u127, u128, u129, u130, u131, u132, u133, u134, u135, u136, u137, u138, u139, u140, u141, u142, u143, u144, u145, u146, u147, u148, u149, u150, u151, u152, u153, u154, u155, u156, u157, u158, u159, u160, u161, u162, u163, u164, u165, u166, u167, u168, u169, u170, u171, u172, u173, u174, u175, u176, u177, u178, u179, u180, u181, u182, u183, u184, u185, u186, u187, u188, u189, u190, u191, u192, u193, u194, u195, u196, u197, u198, u199, u200, u201, u202, u203, u204], []⟩ wr)
    (hce : ∀ w', Step None w w' → w'.cell? ⟨b0, off + i * 3, none⟩ = some (.int .i64 2) ∧ w'.cell? ⟨b0, off + i * 3 + 1, none⟩ = some (.int .i64 kk) ∧ w'.cell? ⟨b0, off + i * 3 + 2, none⟩ = some (.int .i64 z))
    (hQ0 : ∀ c a d v w, Q0 (.panic c) (Act.put a d v) w → Q0 (.panic c) a w)
    (hkz : bits BinOp.and IntKind.i64 kk 1 = 1) (hlt : i < len) (hl3 : i < 300) (hlen : (len : Int) ≤ 9223372036854775807)
    (hY : Hid (Way w wr g b h c bx bs s t va vb A B)) (hC : Hid (Gm.Calm s t A B)) (hO : Hid (s.Ok (63 + (i : Int)) ∧ t.Ok (63 + (i : Int)))) (hN : Hid (A.length ≤ 3 + 2 * i ∧ B.length ≤ 3 + 2 * i)) :
    Code.wp Tryd.prog onceBody (Exit.then K Q0) ⟨#[.slice (some ⟨b0, off, none⟩) len cap, c1, u2, c3, c4, c5, c6, c7, .pointer (some ⟨bx, 0, none⟩), .pointer (some ⟨bs, 0, none⟩), c10, c11, c12, c13, c14, .int .i64 (i : Int), u16, u17, u18, u19, u20, u21, u22, c23, c24, c25, c26, c27, c28, c29, c30, c31, c32, c33, c34, c35, c36, c37, c38, c39, c40, c41, c42, c43, c44, c45, c46, c47, c48, c49, c50, c51, c52, c53, c54, c55, c56, c57, c58, c59, c60, c61, c62, c63, c64, c65, c66, c67, c68, c69, c70, c71, c72, c73, c74, c75, c76, c77, c78, c79, c80, c81, c82, c83, c84, c85, c86, c87, c88, c89, c90, c91, c92, c93, c94, c95, c96, c97, c98, c99, c100, c101, c102, u103, u104, u105, u106, u107, u108, u109, u110, u111, u112, u113, u114, u115, u116, u117, u118, u119, u120, u121, u122, u123, u124, u125, u126, u127, u128, u129, u130, u131, u132, u133, u134, u135, u136, u137, u138, u139, u140, u141, u142, u143, u144, u145, u146, u147, u148, u149, u150, u151, u152, u153, u154, u155, u156, u157, u158, u159, u160, u161, u162, u163, u164, u165, u166, u167, u168, u169, u170, u171, u172, u173, u174, u175, u176, u177, u178, u179, u180, u181, u182, u183, u184, u185, u186, u187, u188, u189, u190, u191, u192, u193, u194, u195, u196, u197, u198, u199, u200, u201, u202, u203, u204], []⟩ wr := by
  conv => arg 2; whnf
  have HK := Lib.hid hK
  have HQ0 := Lib.hid hQ0
  have CE := Lib.hid hce
  have ST := Lib.hid hY.out.st
  obtain ⟨q0, q1, q2⟩ := CE.out _ ST.out
  clear hK hce hQ0
  have d1 : decide ((i : Int) < (len : Int)) = true := by simp; omega
  have d1' : decide (i < len) = true := by simpa using hlt
  have d2 : decide ((i : Int) < 300) = true := by simp; omega
  have c0i : (0 : Int) ≤ (i : Int) := by omega
  have c1i : (i : Int) < (len : Int) := by omega
  obtain ⟨k0, k1, -, -⟩ := hY.out.here
  go_wp2_with fail
  have dr : Step None wr wr.drew := (Step.refl None wr).drew
  refine wp_region_plan (fun w' => w'.cell? ⟨bx, 0, none⟩ = some (.pointer (some ⟨g, 0, none⟩)) ∧ w'.cell? ⟨bx, 1, none⟩ = some (.pointer (some ⟨h, 0, none⟩))) (.take 0 (.take 1 (.take 2 (.take 3 (.take 4 (.take 5 (.take 6 (.take 7 (.alt 8 (.take 9 .done) .none))))))))) _
    (by simp only [Plan.map, opOf, List.getElem?_toArray, List.getElem?_cons_zero, List.getElem?_cons_succ, Option.getD_some]; rfl) (by kernel_rfl) (by kernel_rfl) (by kernel_rfl) (by decide) (by intro c a d v w; exact HQ0.out c a d v w)
    ⟨k0, k1⟩ ?_
  (refine wpPlan.taken (by rfl) (by intro w' hS'; (try dsimp only at hS'); go_split_ands; go_simp; try with_reducible rfl) ?_; simp only [Act.put, List.setIfInBounds_toArray, List.set_cons_zero, List.set_cons_succ])
  (refine wpPlan.taken (by rfl) (by intro w' hS'; (try dsimp only at hS'); go_split_ands; go_simp; try with_reducible rfl) ?_; simp only [Act.put, List.setIfInBounds_toArray, List.set_cons_zero, List.set_cons_succ])
  (refine wpPlan.taken (by rfl) (by intro w' hS'; (try dsimp only at hS'); go_split_ands; go_simp; try with_reducible rfl) ?_; simp only [Act.put, List.setIfInBounds_toArray, List.set_cons_zero, List.set_cons_succ])
  (refine wpPlan.taken (by rfl) (by intro w' hS'; (try dsimp only at hS'); go_split_ands; go_simp; try with_reducible rfl) ?_; simp only [Act.put, List.setIfInBounds_toArray, List.set_cons_zero, List.set_cons_succ])
  (refine wpPlan.taken (by rfl) (by intro w' hS'; (try dsimp only at hS'); go_split_ands; go_simp; try with_reducible rfl) ?_; simp only [Act.put, List.setIfInBounds_toArray, List.set_cons_zero, List.set_cons_succ])
  (refine wpPlan.taken (by rfl) (by intro w' hS'; (try dsimp only at hS'); go_split_ands; go_simp; try with_reducible rfl) ?_; simp only [Act.put, List.setIfInBounds_toArray, List.set_cons_zero, List.set_cons_succ])
  refine wpPlan.taken (v := .int .i64 0) (by rfl) (by intro w' hS'; go_simp; rfl) ?_; simp only [Act.put, List.setIfInBounds_toArray, List.set_cons_zero, List.set_cons_succ]
  (refine wpPlan.taken (by rfl) (by intro w' hS'; (try dsimp only at hS'); go_split_ands; go_simp; try with_reducible rfl) ?_; simp only [Act.put, List.setIfInBounds_toArray, List.set_cons_zero, List.set_cons_succ])
  refine wpPlan.runs fun K' hK => ?_
  go_simp
  refine (hear2B (hY.out.still dr) hC.out.swap hO.out.2 (by omega) (by omega) (by have := hN.out; omega)).mono ?_
  rintro e w5 ⟨rfl, s', va', vb', A', B', hw, hd⟩
  have Y5 := Lib.hid hw
  have D5 := Lib.hid hd
  have hh := hw.here
  refine hK.out _ _ ⟨hh.1, hh.2.1⟩ ?_
  clear hK K' hh k0 k1 hY hC hw hd dr
  repeat (first | (refine wpPlan.taken (by rfl) (by intro w' hS'; (try dsimp only at hS'); go_split_ands; go_simp; try with_reducible rfl) ?_; simp only [Act.put, List.setIfInBounds_toArray, List.set_cons_zero, List.set_cons_succ]) | (refine wpPlan.passed (by rfl) ?_; simp only [Act.put, List.setIfInBounds_toArray, List.set_cons_zero, List.set_cons_succ]))
  refine wpPlan.done ?_
  go_wp2_with fail
  exact HK.out _ _ _ _ _ _ _ _ _ _ _ _ _ _ _ _ _ _ _ _ _ _ _ _ _ _ _ _ _ _ _ _ _ _ _ _ _ _ _ _ _ _ _ _ _ _ _ _ _ _ _ _ _ _ _ _ _ _ _ _ _ _ _ _ _ _ _ _ _ _ _ _ _ _ _ _ _ _ _ _ _ _ _ _ _ _ _ _ _ _ _ _ _ _ _ _ _ _ _ _ _ _ _ _ _ _ _ _ _ _ _ _ _ _ _ _ _ (Y5) (Lib.hid D5.out.calm.swap) (Lib.hid ⟨hO.out.1.mono (by omega), D5.out.ok.mono (by omega)⟩) (Lib.hid (by have := hN.out; have := D5.out.la; have := D5.out.lb; omega))
end Go.Proofs.YthebgpbofjgcoaaDoor
