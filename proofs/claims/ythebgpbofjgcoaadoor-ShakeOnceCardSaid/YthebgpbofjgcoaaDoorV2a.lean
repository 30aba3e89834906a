/- ShakeOnce: a branch of the main loop's round. -/
import Derived.Test.YthebgpbofjgcoaaDoorV0
namespace Go.Proofs.YthebgpbofjgcoaaDoor
open Go.RowKit Go.Gm
set_option linter.unusedVariables false
set_option maxRecDepth 10000 in
set_option maxHeartbeats 64000000 in
theorem once_1_0 {w wr : World} {g b h c bx bs len cap i b0 off : Nat} {op kk z : Int} {s t : Shk} {va vb : Value} {A B : List Itm} {c1 c3 c4 c5 c6 c7 c10 c11 c12 c13 c14 c23 c24 c25 c26 c27 c28 c29 c30 c31 c32 c33 c34 c35 c36 c37 c38 c39 c40 c41 c42 c43 c44 c45 c46 c47 c48 c49 c50 c51 c52 c53 c54 c55 c56 c57 c58 c59 c60 c61 c62 c63 c64 c65 c66 c67 c68 c69 c70 c71 c72 c73 c74 c75 c76 c77 c78 c79 c80 c81 c82 c83 c84 c85 c86 c87 c88 c89 c90 c91 c92 c93 c94 c95 c96 c97 c98 c99 c100 c101 c102 : Value} {u2 u16 u17 u18 u19 u20 u21 u22 u103 u104 u105 u106 u107 u108 u109 u110 u111 u112 u113 u114 u115 u116 u117 u118 u119 u120 u121 u122 u123 u124 u125 u126 u127 u128 u129 u130 u131 u132 u133 u134 u135 u136 u137 u138 u139 u140 u141 u142 u143 u144 u145 u146 u147 u148 u149 u150 u151 u152 u153 u154 u155 u156 u157 u158 u159 u160 u161 u162 u163 u164 u165 u166 u167 u168 u169 u170 u171 u172 u173 u174 u175 u176 u177 u178 u179 u180 u181 u182 u183 u184 u185 u186 u187 u188 u189 u190 u191 u192 u193 u194 u195 u196 u197 u198 u199 u200 u201 u202 u203 u204 : Value} {K : Act → World → Prop} {Q0 : Exit → Act → World → Prop}
    (hK : ∀ (u2 u16 u17 u18 u19 u20 u21 u22 u103 u104 u105 u106 u107 u108 u109 u110 u111 u112 u113 u114 u115 u116 u117 u118 u119 u120 u121 u122 u123 u124 u125 u126 u127 u128 u129 u130 u131 u132 u133 u134 u135 u136 u137 u138 u139 u140 u141 u142 u143 u144 u145 u146 u147 u148 u149 u150 u151 u152 u153 u154 u155 u156 u157 u158 u159 u160 u161 u162 u163 u164 u165 u166 u167 u168 u169 u170 u171 u172 u173 u174 u175 u176 u177 u178 u179 u180 u181 u182 u183 u184 u185 u186 u187 u188 u189 u190 u191 u192 u193 u194 u195 u196 u197 u198 u199 u200 u201 u202 u203 u204 : Value) (wr : World) (s t : Shk) (va vb : Value) (A B : List Itm), Hid (Way w wr g b h c bx bs s t va vb A B) → Hid (Gm.Calm s t A B) → Hid (s.Ok (63 + ((i + 1 : Nat) : Int)) ∧ t.Ok (63 + ((i + 1 : Nat) : Int))) → Hid (A.length ≤ 3 + 2 * (i + 1) ∧ B.length ≤ 3 + 2 * (i + 1)) → K ⟨#[.slice (some ⟨b0, off, none⟩) len cap, c1, u2, c3, c4, c5, c6, c7, .pointer (some ⟨bx, 0, none⟩), .pointer (some ⟨bs, 0, none⟩), c10, c11, c12, c13, c14, .int .i64 ((i : Int) + 1), u16, u17, u18, u19, u20, u21, u22, c23, c24, c25, c26, c27, c28, c29, c30, c31, c32, c33, c34, c35, c36, c37, c38, c39, c40, c41, c42, c43, c44, c45, c46, c47, c48, c49, c50, c51, c52, c53, c54, c55, c56, c57, c58, c59, c60, c61, c62, c63, c64, c65, c66, c67, c68, c69, c70, c71, c72, c73, c74, c75, c76, c77, c78, c79, c80, c81, c82, c83, c84, c85, c86, c87, c88, c89, c90, c91, c92, c93, c94, c95, c96, c97, c98, c99, c100, c101, c102, u103, u104, u105, u106, u107, u108, u109, u110, u111, u112, u113, u114, u115, u116, u117, u118, u119, u120, u121, u122, u123, u124, u125, u126, u127, u128, u129, u130, u131, u132, u133, u134, u135, u136, u137, u138, u139, u140, u141, u142, u143, u144, u145, u146, u147, u148, u149, u150, u151, u152, u153, u154, u155, u156, u157, u158, u159, u160, u161, u162, u163, u164, u165, u166, u167, u168, u169, u170, u171, u172, u173, u174, u175, u176, u177, u178, u179, u180, u181, u182, u183, u184, u185, u186, u187, u188, u189, u190, u191, u192, u193, u194, u195, u196, u197, u198, u199, u200, u201, u202, u203, u204], []⟩ wr)
    (hce : ∀ w', Step None w w' → w'.cell? ⟨b0, off + i * 3, none⟩ = some (.int .i64 1) ∧ w'.cell? ⟨b0, off + i * 3 + 1, none⟩ = some (.int .i64 kk) ∧ w'.cell? ⟨b0, off + i * 3 + 2, none⟩ = some (.int .i64 z))
    (hQ0 : ∀ c a d v w, Q0 (.panic c) (Act.put a d v) w → Q0 (.panic c) a w)
    (hkz : bits BinOp.and IntKind.i64 kk 1 = 0) (hlt : i < len) (hl3 : i < 300) (hlen : (len : Int) ≤ 9223372036854775807)
    (hY : Hid (Way w wr g b h c bx bs s t va vb A B)) (hC : Hid (Gm.Calm s t A B)) (hO : Hid (s.Ok (63 + (i : Int)) ∧ t.Ok (63 + (i : Int)))) (hN : Hid (A.length ≤ 3 + 2 * i ∧ B.length ≤ 3 + 2 * i)) :
    Code.wp Tryd.prog onceBody (Exit.then K Q0) ⟨#[.slice (some ⟨b0, off, none⟩) len cap, c1, u2, c3, c4, c5, c6, c7, .pointer (some ⟨bx, 0, none⟩), .pointer (some ⟨bs, 0, none⟩), c10, c11, c12, c13, c14, .int .i64 (i : Int), u16, u17, u18, u19, u20, u21, u22, c23, c24, c25, c26, c27, c28, c29, c30, c31, c32, c33, c34, c35, c36, c37, c38, c39, c40, c41, c42, c43, c44, c45, c46, c47, c48, c49, c50, c51, c52, c53, c54, c55, c56, c57, c58, c59, c60, c61, c62, c63, c64, c65, c66, c67, c68, c69, c70, c71, c72, c73, c74, c75, c76, c77, c78, c79, c80, c81, c82, c83, c84, c85, c86, c87, c88, c89, c90, c91, c92, c93, c94, c95, c96, c97, c98, c99, c100, c101, c102, u103, u104, u105, u106, u107, u108, u109, u110, u111, u112, u113, u114, u115, u116, u117, u118, u119, u120, u121, u122, u123, u124, u125, u126, u127, u128, u129, u130, u131, u132, u133, u134, u135, u136, u137, u138, u139, u140, u141, u142, u143, u144, u145, u146, u147, u148, u149, u150, u151, u152, u153, u154, u155, u156, u157, u158, u159, u160, u161, u162, u163, u164, u165, u166, u167, u168, u169, u170, u171, u172, u173, u174, u175, u176, u177, u178, u179, u180, u181, u182, u183, u184, u185, u186, u187, u188, u189, u190, u191, u192, u193, u194, u195, u196, u197, u198, u199, u200, u201, u202, u203, u204], []⟩ wr := by
  conv => arg 2; whnf
  have HK := Lib.hid hK
  have HQ0 := Lib.hid hQ0
  have CE := Lib.hid hce
  have ST := Lib.hid hY.out.st
  obtain ⟨q0, q1, q2⟩ := CE.out _ ST.out
  clear hK hce hQ0
  have d1 : decide ((i : Int) < (len : Int)) = true := by simp; omega
  have d1' : decide (i < len) = true := by simpa using hlt
  have d2 : decide ((i : Int) < 300) = true := by simp; omega
  have c0i : (0 : Int) ≤ (i : Int) := by omega
  have c1i : (i : Int) < (len : Int) := by omega
  have p1 := heap_alloc_new wr (.cells #[.int .i64 0, .int .i64 0, .int .u8 0, .int .u8 0, .int .u8 0, .int .u8 0, .int .u8 0, .int .u8 0, .int .i64 0, .int .i64 0, .slice none 0 0, .bool true, .bool false, .bool false, .bool false, .bool false] 53)
  have s1 := (Step.refl None wr).alloc (.cells #[.int .i64 0, .int .i64 0, .int .u8 0, .int .u8 0, .int .u8 0, .int .u8 0, .int .u8 0, .int .u8 0, .int .i64 0, .int .i64 0, .slice none 0 0, .bool true, .bool false, .bool false, .bool false, .bool false] 53)
  obtain ⟨Y1, hY1⟩ : ∃ Y1, wr.alloc (.cells #[.int .i64 0, .int .i64 0, .int .u8 0, .int .u8 0, .int .u8 0, .int .u8 0, .int .u8 0, .int .u8 0, .int .i64 0, .int .i64 0, .slice none 0 0, .bool true, .bool false, .bool false, .bool false, .bool false] 53) = Y1 := ⟨_, rfl⟩
  rw [hY1] at p1 s1
  have HY1 := Lib.hid hY1
  have Q1 := Lib.hid p1
  have W1 := Lib.hid (hY.out.still s1)
  have HA : Hid (¬ Leads va wr.heap.size) := Lib.hid (fun e => by have := hY.out.ra.lt e; omega)
  have HB : Hid (¬ Leads vb wr.heap.size) := Lib.hid (fun e => by have := hY.out.rb.lt e; omega)
  have H0 : Hid (w.heap.size ≤ wr.heap.size) := Lib.hid ST.out.size
  clear hY1 p1 s1 hY
  go_wp2_with (first | rw [HY1.out])
  generalize wr.heap.size = yb at *
  go_loopw [21] (fun tj wr => ∃ j : Int, tj = .int .i64 j ∧ Hid (Way w wr g b h c bx bs s t va vb A B) ∧ ((j = 1 ∧ Hid (wr.heap[yb]? = some (.cells #[.int .i64 0, .int .i64 0, .int .u8 0, .int .u8 0, .int .u8 0, .int .u8 0, .int .u8 0, .int .u8 0, .int .i64 0, .int .i64 0, .slice none 0 0, .bool true, .bool false, .bool false, .bool false, .bool false] 53 (0, 0)))) ∨ (j = 2 ∧ Hid (wr.heap[yb]? = some (.cells #[.int .i64 0, .int .i64 0, .int .u8 0, .int .u8 0, .int .u8 0, .int .u8 0, .int .u8 0, .int .u8 0, .int .i64 0, .int .i64 0, .slice none 0 0, .bool true, .bool false, .bool (s.serves 1), .bool false, .bool false] 53 (0, 0)))) ∨ (j = 3 ∧ Hid (wr.heap[yb]? = some (.cells #[.int .i64 0, .int .i64 0, .int .u8 0, .int .u8 0, .int .u8 0, .int .u8 0, .int .u8 0, .int .u8 0, .int .i64 0, .int .i64 0, .slice none 0 0, .bool true, .bool false, .bool (s.serves 1), .bool (s.serves 2), .bool false] 53 (0, 0)))) ∨ (j = 4 ∧ Hid (wr.heap[yb]? = some (.cells #[.int .i64 0, .int .i64 0, .int .u8 0, .int .u8 0, .int .u8 0, .int .u8 0, .int .u8 0, .int .u8 0, .int .i64 0, .int .i64 0, .slice none 0 0, .bool true, .bool false, .bool (s.serves 1), .bool (s.serves 2), .bool (s.serves 3)] 53 (0, 0)))))) (fun tj _ => 4 - (intOf tj).toNat)
  case atStart => exact ⟨1, rfl, W1, .inl ⟨rfl, Q1⟩⟩
  case round =>
    clear W1 Q1
    obtain ⟨j, rfl, hY, hj⟩ := hrel
    rename_i wr
    rcases hj with ⟨rfl, hq⟩ | ⟨rfl, hq⟩ | ⟨rfl, hq⟩ | ⟨rfl, hq⟩
    · obtain ⟨k0, k1, -, -⟩ := hY.out.here
      have sv := (serves_any g b s 1 _ hO.out.1.len hY.out.one)
      obtain ⟨v, hv⟩ : ∃ v, s.serves 1 = v := ⟨_, rfl⟩
      rw [hv] at sv
      have SV := Lib.hid sv
      have HV2 := Lib.hid hv
      clear sv hv
      have fz := blk_frozen hq.out 13
      have cx := blk_cell hq.out 13
      simp only [List.getElem?_toArray, List.getElem?_cons_zero, List.getElem?_cons_succ] at cx
      go_wp2_with fail
      refine SV.out.mono ?_
      rintro e wz ⟨rfl, rfl⟩
      have p3 := blk_set hq.out 13 (.bool v)
      have t3 := (Step.refl (· = yb) wr).setCell (p := ⟨yb, 13, none⟩) (fun _ => rfl) (.bool v)
      have Y3 := Lib.hid (hY.out.mine hq.out H0.out HA.out HB.out t3)
      have Q3 : Hid ((wr.setCell ⟨yb, 13, none⟩ (.bool v)).heap[yb]? = some (.cells #[.int .i64 0, .int .i64 0, .int .u8 0, .int .u8 0, .int .u8 0, .int .u8 0, .int .u8 0, .int .u8 0, .int .i64 0, .int .i64 0, .slice none 0 0, .bool true, .bool false, .bool (s.serves 1), .bool false, .bool false] 53 (0, 0))) := Lib.hid (by rw [p3, HV2.out]; rfl)
      clear p3 t3 SV hY hq
      go_wp2_with fail
      go_roundw
      case rel => exact ⟨2, by first | rfl | simp, Y3, .inr (.inl ⟨rfl, Q3⟩)⟩
      case measure => simp [intOf]
    · obtain ⟨k0, k1, -, -⟩ := hY.out.here
      have sv := (serves_any g b s 2 _ hO.out.1.len hY.out.one)
      obtain ⟨v, hv⟩ : ∃ v, s.serves 2 = v := ⟨_, rfl⟩
      rw [hv] at sv
      have SV := Lib.hid sv
      have HV2 := Lib.hid hv
      clear sv hv
      have fz := blk_frozen hq.out 14
      have cx := blk_cell hq.out 14
      simp only [List.getElem?_toArray, List.getElem?_cons_zero, List.getElem?_cons_succ] at cx
      go_wp2_with fail
      refine SV.out.mono ?_
      rintro e wz ⟨rfl, rfl⟩
      have p3 := blk_set hq.out 14 (.bool v)
      have t3 := (Step.refl (· = yb) wr).setCell (p := ⟨yb, 14, none⟩) (fun _ => rfl) (.bool v)
      have Y3 := Lib.hid (hY.out.mine hq.out H0.out HA.out HB.out t3)
      have Q3 : Hid ((wr.setCell ⟨yb, 14, none⟩ (.bool v)).heap[yb]? = some (.cells #[.int .i64 0, .int .i64 0, .int .u8 0, .int .u8 0, .int .u8 0, .int .u8 0, .int .u8 0, .int .u8 0, .int .i64 0, .int .i64 0, .slice none 0 0, .bool true, .bool false, .bool (s.serves 1), .bool (s.serves 2), .bool false] 53 (0, 0))) := Lib.hid (by rw [p3, HV2.out]; rfl)
      clear p3 t3 SV hY hq
      go_wp2_with fail
      go_roundw
      case rel => exact ⟨3, by first | rfl | simp, Y3, .inr (.inr (.inl ⟨rfl, Q3⟩))⟩
      case measure => simp [intOf]
    · obtain ⟨k0, k1, -, -⟩ := hY.out.here
      have sv := (serves_any g b s 3 _ hO.out.1.len hY.out.one)
      obtain ⟨v, hv⟩ : ∃ v, s.serves 3 = v := ⟨_, rfl⟩
      rw [hv] at sv
      have SV := Lib.hid sv
      have HV2 := Lib.hid hv
      clear sv hv
      have fz := blk_frozen hq.out 15
      have cx := blk_cell hq.out 15
      simp only [List.getElem?_toArray, List.getElem?_cons_zero, List.getElem?_cons_succ] at cx
      go_wp2_with fail
      refine SV.out.mono ?_
      rintro e wz ⟨rfl, rfl⟩
      have p3 := blk_set hq.out 15 (.bool v)
      have t3 := (Step.refl (· = yb) wr).setCell (p := ⟨yb, 15, none⟩) (fun _ => rfl) (.bool v)
      have Y3 := Lib.hid (hY.out.mine hq.out H0.out HA.out HB.out t3)
      have Q3 : Hid ((wr.setCell ⟨yb, 15, none⟩ (.bool v)).heap[yb]? = some (.cells #[.int .i64 0, .int .i64 0, .int .u8 0, .int .u8 0, .int .u8 0, .int .u8 0, .int .u8 0, .int .u8 0, .int .i64 0, .int .i64 0, .slice none 0 0, .bool true, .bool false, .bool (s.serves 1), .bool (s.serves 2), .bool (s.serves 3)] 53 (0, 0))) := Lib.hid (by rw [p3, HV2.out]; rfl)
      clear p3 t3 SV hY hq
      go_wp2_with fail
      go_roundw
      case rel => exact ⟨4, by first | rfl | simp, Y3, .inr (.inr (.inr ⟨rfl, Q3⟩))⟩
      case measure => simp [intOf]
    · obtain ⟨zo, zc, hzv, -, -⟩ := hY.out.rb.form
      subst hzv
      have NLD : Hid (∀ w', Step (Leads (.slice zo B.length zc)) wr w' → (Instr.loadAt 53 (.pointer (some ⟨yb, 0, none⟩))).run Tryd.prog w' = .ok (.agg #[.int .i64 0, .int .i64 0, .int .u8 0, .int .u8 0, .int .u8 0, .int .u8 0, .int .u8 0, .int .u8 0, .int .i64 0, .int .i64 0, .slice none 0 0, .bool true, .bool false, .bool (s.serves 1), .bool (s.serves 2), .bool (s.serves 3)]) w') := Lib.hid (fun w' h' => by
        have hq2 := h'.blk hq.out HB.out
        have := run_loadAt_mid (P := Tryd.prog) w' yb 0 53 (#[.int .i64 0, .int .i64 0, .int .u8 0, .int .u8 0, .int .u8 0, .int .u8 0, .int .u8 0, .int .u8 0, .int .i64 0, .int .i64 0, .slice none 0 0, .bool true, .bool false, .bool (s.serves 1), .bool (s.serves 2), .bool (s.serves 3)] : Array Value).toList _ (fun j u hj => by rw [blk_cell hq2, Nat.zero_add]; simpa using hj) Tryd.underlying53 rfl (by kernel_rfl)
        simpa using this)
      have WAY := Lib.hid (fun w' (h' : Step (Leads (.slice zo B.length zc)) wr w') => And.intro (hY.out.cells hY.out.rb h') (NLD.out w' h'))
      have BN : Hid (B.length ≤ 1000) := Lib.hid (by have := hN.out; omega)
      have dr : Step None wr wr.drew := (Step.refl None wr).drew
      have al := dr.alloc (.cells #[.int .i64 0, .int .i64 0, .int .u8 0, .int .u8 0, .int .u8 0, .int .u8 0, .int .u8 0, .int .u8 0, .int .i64 0, .int .i64 0, .slice none 0 0, .bool true, .bool false, .bool (s.serves 1), .bool (s.serves 2), .bool (s.serves 3)] 53)
      have ob : (wr.drew.alloc (.cells #[.int .i64 0, .int .i64 0, .int .u8 0, .int .u8 0, .int .u8 0, .int .u8 0, .int .u8 0, .int .u8 0, .int .i64 0, .int .i64 0, .slice none 0 0, .bool true, .bool false, .bool (s.serves 1), .bool (s.serves 2), .bool (s.serves 3)] 53)).heap[wr.heap.size]? = some (.cells #[.int .i64 0, .int .i64 0, .int .u8 0, .int .u8 0, .int .u8 0, .int .u8 0, .int .u8 0, .int .u8 0, .int .i64 0, .int .i64 0, .slice none 0 0, .bool true, .bool false, .bool (s.serves 1), .bool (s.serves 2), .bool (s.serves 3)] 53 (0, 0)) := heap_alloc_new wr.drew (.cells #[.int .i64 0, .int .i64 0, .int .u8 0, .int .u8 0, .int .u8 0, .int .u8 0, .int .u8 0, .int .u8 0, .int .i64 0, .int .i64 0, .slice none 0 0, .bool true, .bool false, .bool (s.serves 1), .bool (s.serves 2), .bool (s.serves 3)] 53)
      have FR : Hid (#[.int .i64 0, .int .i64 0, .int .u8 0, .int .u8 0, .int .u8 0, .int .u8 0, .int .u8 0, .int .u8 0, .int .i64 0, .int .i64 0, .slice none 0 0, .bool true, .bool false, .bool (s.serves 1), .bool (s.serves 2), .bool (s.serves 3)] = itemC (Itm.ofFrame (s.serves 1) (s.serves 2) (s.serves 3))) := Lib.hid rfl
      have CF := Lib.hid hC.out.frame
      clear hq
      go_wp2_with fail
      refine wp_region_plan (fun w' => (w'.cell? ⟨bx, 0, none⟩ = some (.pointer (some ⟨g, 0, none⟩)) ∧ w'.cell? ⟨bx, 1, none⟩ = some (.pointer (some ⟨h, 0, none⟩)) ∧ w'.cell? ⟨bs, 0, none⟩ = some (va) ∧ w'.cell? ⟨bs, 1, none⟩ = some (.slice zo B.length zc)) ∧ (Instr.loadAt 53 (.pointer (some ⟨yb, 0, none⟩))).run Tryd.prog w' = .ok (.agg #[.int .i64 0, .int .i64 0, .int .u8 0, .int .u8 0, .int .u8 0, .int .u8 0, .int .u8 0, .int .u8 0, .int .i64 0, .int .i64 0, .slice none 0 0, .bool true, .bool false, .bool (s.serves 1), .bool (s.serves 2), .bool (s.serves 3)]) w') (.take 0 (.take 1 (.take 2 (.take 3 (.take 4 (.take 5 (.take 6 (.alt 7 (.alt 8 (.take 9 (.last 10)) .none) .none)))))))) _
        (by simp only [Plan.map, opOf, List.getElem?_toArray, List.getElem?_cons_zero, List.getElem?_cons_succ, Option.getD_some]; rfl) (by kernel_rfl) (by kernel_rfl) (by kernel_rfl) (by decide) (by intro c a d v w; exact HQ0.out c a d v w)
        (WAY.out _ dr.none) ?_
      (refine wpPlan.taken (by rfl) (by intro w' hS'; (try dsimp only at hS'); go_split_ands; go_simp; try with_reducible rfl) ?_; simp only [Act.put, List.setIfInBounds_toArray, List.set_cons_zero, List.set_cons_succ])
      refine wpPlan.taken (v := .int .i64 1) (by rfl) (by intro w' hS'; go_simp; rfl) ?_; simp only [Act.put, List.setIfInBounds_toArray, List.set_cons_zero, List.set_cons_succ]
      (refine wpPlan.taken (by rfl) (by intro w' hS'; (try dsimp only at hS'); go_split_ands; go_simp; try with_reducible rfl) ?_; simp only [Act.put, List.setIfInBounds_toArray, List.set_cons_zero, List.set_cons_succ])
      refine wpPlan.taken (v := .int .i64 1) (by rfl) (by intro w' hS'; go_simp; rfl) ?_; simp only [Act.put, List.setIfInBounds_toArray, List.set_cons_zero, List.set_cons_succ]
      repeat (first | (refine wpPlan.taken (by rfl) (fun w' hS' => run_load_op rfl rfl hS'.2) ?_; simp only [Act.put, List.setIfInBounds_toArray, List.set_cons_zero, List.set_cons_succ]) | (refine wpPlan.taken (by rfl) (by intro w' hS'; (try dsimp only at hS'); go_split_ands; go_simp; try with_reducible rfl) ?_; simp only [Act.put, List.setIfInBounds_toArray, List.set_cons_zero, List.set_cons_succ]) | (refine wpPlan.passed (by rfl) ?_; simp only [Act.put, List.setIfInBounds_toArray, List.set_cons_zero, List.set_cons_succ]))
      refine wpPlan.runs fun K' hK => ?_
      go_simp
      refine hK.out _ _ (WAY.out _ al.none) ?_
      clear hK K'
      have Y6 := Lib.hid (hY.out.still al)
      refine wpPlan.runs fun K' hK => ?_
      refine step_append_row (m := 1) T43 (by rfl) (.tmp 187) (.tmp 189) (by rfl) (by rfl) Y6.out.rb (by rfl) (Src.ofBlock T43 (m := 1) (c := 1) ob (by rfl) (by simp [Value.oneCell'])) (by have := BN.out; simp [maxLen]; omega) (by have := BN.out; omega) ?_
      intro v7 w7 r7 s7 g7
      refine hK.out _ _ (WAY.out _ (al.none.then_ s7)) ?_
      clear hK K'
      rw [FR.out] at r7
      have Y7 := Lib.hid (Y6.out.turnB (B' := B ++ [Itm.ofFrame (s.serves 1) (s.serves 2) (s.serves 3)]) s7 (by rw [List.length_append, flatI_app]; exact r7) g7)
      have fz7 := blk_frozen (s7.blk Y6.out.ways (Y6.out.rb.ne Y6.out.ways (by decide))) 1
      have HT := WAY.out _ (al.none.then_ s7)
      obtain ⟨⟨m0, m1, m2, m3⟩, -⟩ := HT
      obtain ⟨vo7, vc7, rfl, -, -⟩ := r7.form
      clear Y6 hY NLD WAY al ob dr r7 s7 g7 FR
      repeat (first | (refine wpPlan.taken (by rfl) (fun w' hS' => run_load_op rfl rfl hS'.2) ?_; simp only [Act.put, List.setIfInBounds_toArray, List.set_cons_zero, List.set_cons_succ]) | (refine wpPlan.taken (by rfl) (by intro w' hS'; (try dsimp only at hS'); go_split_ands; go_simp; try with_reducible rfl) ?_; simp only [Act.put, List.setIfInBounds_toArray, List.set_cons_zero, List.set_cons_succ]) | (refine wpPlan.passed (by rfl) ?_; simp only [Act.put, List.setIfInBounds_toArray, List.set_cons_zero, List.set_cons_succ]))
      refine wpPlan.ends fun K' hK => ?_
      go_simp
      refine hK.out _ _ ?_
      clear hK K' fz7 m0 m1 m2 m3
      go_wp2_with fail
      exact HK.out _ _ _ _ _ _ _ _ _ _ _ _ _ _ _ _ _ _ _ _ _ _ _ _ _ _ _ _ _ _ _ _ _ _ _ _ _ _ _ _ _ _ _ _ _ _ _ _ _ _ _ _ _ _ _ _ _ _ _ _ _ _ _ _ _ _ _ _ _ _ _ _ _ _ _ _ _ _ _ _ _ _ _ _ _ _ _ _ _ _ _ _ _ _ _ _ _ _ _ _ _ _ _ _ _ _ _ _ _ _ _ _ _ _ _ _ _ (Y7) (CF) (Lib.hid ⟨hO.out.1.mono (by omega), hO.out.2.mono (by omega)⟩) (Lib.hid (by have := hN.out; rw [List.length_append]; simp only [List.length_cons, List.length_nil]; omega))
end Go.Proofs.YthebgpbofjgcoaaDoor
