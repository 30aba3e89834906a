/- A frame's hash: the code and the document. -/
import Derived.Test.YtbdlcmfmnjhklaaW2
namespace Go.Proofs.Ytbdlcmfmnjhklaa
open Go.RowKit Go.Gm

/-- A frame. -/
structure Frm where
  d0 : Int
  d1 : Int
  d2 : Int
  d3 : Int
  d4 : Int
  d5 : Int
  s0 : Int
  s1 : Int
  s2 : Int
  s3 : Int
  s4 : Int
  s5 : Int
  tag : Bool
  vlan : Int
  prio : Int
  typ : Int
  body : Value
def Frm.cells (f : Frm) : Array Value := #[.int .u8 f.d0, .int .u8 f.d1, .int .u8 f.d2, .int .u8 f.d3, .int .u8 f.d4, .int .u8 f.d5, .int .u8 f.s0, .int .u8 f.s1, .int .u8 f.s2, .int .u8 f.s3, .int .u8 f.s4, .int .u8 f.s5, .bool f.tag, .int .i64 f.vlan, .int .i64 f.prio, .int .i64 f.typ, f.body]
def Frm.dst (f : Frm) : List Int := [f.d0, f.d1, f.d2, f.d3, f.d4, f.d5]
def Frm.src (f : Frm) : List Int := [f.s0, f.s1, f.s2, f.s3, f.s4, f.s5]
def hashF (f : Frm) : Int := mixL (mixL (mixL 2166136261 f.dst) f.src) [f.vlan / 256 % 256, f.vlan % 256]

theorem dst_cells {w : World} {g : Nat} {t : TypeId} {f : Frm} (h : w.heap[g]? = some (.cells f.cells t (0, 0))) : ∀ j y, f.dst[j]? = some y → w.cell? ⟨g, 0 + j, none⟩ = some (.int .u8 y) := fun j y hj => by
  rw [Nat.zero_add, blk_cell h]
  match j, hj with
  | 0, hj => simp [Frm.dst] at hj; simp [Frm.cells, hj]
  | 1, hj => simp [Frm.dst] at hj; simp [Frm.cells, hj]
  | 2, hj => simp [Frm.dst] at hj; simp [Frm.cells, hj]
  | 3, hj => simp [Frm.dst] at hj; simp [Frm.cells, hj]
  | 4, hj => simp [Frm.dst] at hj; simp [Frm.cells, hj]
  | 5, hj => simp [Frm.dst] at hj; simp [Frm.cells, hj]
  | j + 6, hj => simp [Frm.dst] at hj
theorem src_cells {w : World} {g : Nat} {t : TypeId} {f : Frm} (h : w.heap[g]? = some (.cells f.cells t (0, 0))) : ∀ j y, f.src[j]? = some y → w.cell? ⟨g, 6 + j, none⟩ = some (.int .u8 y) := fun j y hj => by
  rw [blk_cell h]
  match j, hj with
  | 0, hj => simp [Frm.src] at hj; simp [Frm.cells, hj]
  | 1, hj => simp [Frm.src] at hj; simp [Frm.cells, hj]
  | 2, hj => simp [Frm.src] at hj; simp [Frm.cells, hj]
  | 3, hj => simp [Frm.src] at hj; simp [Frm.cells, hj]
  | 4, hj => simp [Frm.src] at hj; simp [Frm.cells, hj]
  | 5, hj => simp [Frm.src] at hj; simp [Frm.cells, hj]
  | j + 6, hj => simp [Frm.src] at hj

set_option linter.unusedSimpArgs false in
set_option maxHeartbeats 2000000 in
theorem hash_any (f : Frm) (w : World) (hd : Small f.dst) (hs : Small f.src) :
    Calls Try.prog 10 #[.agg f.cells] w fun e w' => e = .returned (.int .u32 (hashF f)) ∧ Step None w w' := by
  have p1 := heap_alloc_new w (.cells f.cells 26)
  have S1 := Lib.hid ((Step.refl None w).alloc (.cells f.cells 26))
  have i0 : (0 : Int) ≤ 2166136261 ∧ (2166136261 : Int) < 4294967296 := by decide
  have X1 : Hid (∀ w', Step None (w.alloc (.cells f.cells 26)) w' → Calls Try.prog 16 #[.int .u32 2166136261, .slice (some ⟨w.heap.size, 0, none⟩) 6 6] w' fun e w'' => e = .returned (.int .u32 (mixL 2166136261 f.dst)) ∧ w' = w'') := Lib.hid fun w' h' =>
    mix_any 2166136261 w.heap.size 0 6 f.dst w' i0 (by simp [Frm.dst]) hd (dst_cells (h'.blk p1 (fun s => s.elim)))
  have X2 : Hid (∀ w', Step None (w.alloc (.cells f.cells 26)) w' → Calls Try.prog 16 #[.int .u32 (mixL 2166136261 f.dst), .slice (some ⟨w.heap.size, 6, none⟩) 6 6] w' fun e w'' => e = .returned (.int .u32 (mixL (mixL 2166136261 f.dst) f.src)) ∧ w' = w'') := Lib.hid fun w' h' =>
    mix_any _ w.heap.size 6 6 f.src w' (mixL_rng i0 _) (by simp [Frm.src]) hs (src_cells (h'.blk p1 (fun s => s.elim)))
  have RR := Lib.hid (mixL_rng (mixL_rng i0 f.dst) f.src)
  have c13 : Hid (∀ w', Step None (w.alloc (.cells f.cells 26)) w' → w'.cell? ⟨w.heap.size, 13, none⟩ = some (.int .i64 f.vlan)) := Lib.hid fun w' h' => blk_cell (h'.blk p1 (fun s => s.elim)) 13
  have Z := Lib.hid (Step.refl None (w.alloc (.cells f.cells 26))).drew
  have hF : Hid (hashF f = mixL (mixL (mixL 2166136261 f.dst) f.src) [f.vlan / 256 % 256, f.vlan % 256]) := Lib.hid rfl
  clear p1 hd hs i0
  generalize hashF f = R at *
  generalize mixL (mixL 2166136261 f.dst) f.src = A2 at *
  generalize mixL 2166136261 f.dst = A1 at *
  unfold Frm.cells at *
  go_enter Try.func10, Try.ntmps10
  go_wp2_with fail
  refine wp_region_plan (fun w' => True) (.take 0 (.take 1 (.take 3 (.take 4 (.alt 2 (.alt 5 (.take 6 .done) .none) .none))))) _
    (by simp only [Plan.map, opOf, List.getElem?_toArray, List.getElem?_cons_zero, List.getElem?_cons_succ, Option.getD_some]; rfl) (by kernel_rfl) (by kernel_rfl) (by kernel_rfl) (by decide) (by intro c a d v w; cases d <;> exact fun h => h) trivial ?_
  repeat (refine wpPlan.taken (by rfl) (by intro w' hS'; (try dsimp only at hS'); go_split_ands; go_simp; try with_reducible rfl) ?_; simp only [Act.put, List.setIfInBounds_toArray, List.set_cons_zero, List.set_cons_succ])
  refine wpPlan.runs fun K' hK => ?_
  go_simp
  refine (X1.out _ Z.out).mono ?_
  rintro e w2 ⟨rfl, rfl⟩
  refine hK.out _ _ trivial ?_
  clear hK K'
  repeat (refine wpPlan.taken (by rfl) (by intro w' hS'; (try dsimp only at hS'); go_split_ands; go_simp; try with_reducible rfl) ?_; simp only [Act.put, List.setIfInBounds_toArray, List.set_cons_zero, List.set_cons_succ])
  refine wpPlan.runs fun K' hK => ?_
  go_simp
  refine (X2.out _ Z.out).mono ?_
  rintro e w2 ⟨rfl, rfl⟩
  refine hK.out _ _ trivial ?_
  clear hK K'
  repeat (refine wpPlan.taken (by rfl) (by intro w' hS'; (try dsimp only at hS'); go_split_ands; go_simp; try with_reducible rfl) ?_; simp only [Act.put, List.setIfInBounds_toArray, List.set_cons_zero, List.set_cons_succ])
  refine wpPlan.done ?_
  have d13 := c13.out _ Z.out
  obtain ⟨W, hW⟩ : ∃ W, (w.alloc (.cells #[.int .u8 f.d0, .int .u8 f.d1, .int .u8 f.d2, .int .u8 f.d3, .int .u8 f.d4, .int .u8 f.d5, .int .u8 f.s0, .int .u8 f.s1, .int .u8 f.s2, .int .u8 f.s3, .int .u8 f.s4, .int .u8 f.s5, .bool f.tag, .int .i64 f.vlan, .int .i64 f.prio, .int .i64 f.typ, f.body] 26)).drew = W := ⟨_, rfl⟩
  rw [hW] at d13 ⊢
  have SW : Hid (Step None w W) := Lib.hid (by rw [← hW]; exact S1.out.drew)
  clear hW c13 Z X1 X2 S1
  go_wp2_with fail
  refine (mix_any A2 W.heap.size 0 2 [f.vlan / 256 % 256, f.vlan % 256] _ RR.out (by simp) (fun x hx => by simp at hx; omega) (fun i y hy => ?hcell)).mono ?_
  case hcell =>
    rw [blk_cell (heap_alloc_new W _)]
    match i, hy with
    | 0, hy => simp at hy; simp [hy]
    | 1, hy => simp at hy; simp [hy]
    | i + 2, hy => simp at hy
  rintro e w3 ⟨rfl, rfl⟩
  have S3 := Lib.hid (SW.out.alloc (.cells #[.int .u8 (f.vlan / 256 % 256), .int .u8 (f.vlan % 256)] 5))
  go_wp2_with fail
  go_ret
  exact ⟨by rw [hF.out]; rfl, S3.out⟩

set_option linter.unusedSimpArgs false in
set_option maxHeartbeats 4000000 in
theorem rhash_any (f : Frm) (w : World) (hd : Small f.dst) (hs : Small f.src) :
    Calls Try.prog 11 #[.agg f.cells] w fun e w' => e = .returned (.int .u32 (hashF f)) ∧ Step None w w' := by
  have key : ∀ x0 : Int, ∃ N : Nat → Int, mixL (mixL (mixL x0 f.dst) f.src) [f.vlan / 256 % 256, f.vlan % 256] = N 14 ∧ N 0 = x0 ∧ N 1 = mixB (N 0) (f.d0) ∧ N 2 = mixB (N 1) (f.d1) ∧ N 3 = mixB (N 2) (f.d2) ∧ N 4 = mixB (N 3) (f.d3) ∧ N 5 = mixB (N 4) (f.d4) ∧ N 6 = mixB (N 5) (f.d5) ∧ N 7 = mixB (N 6) (f.s0) ∧ N 8 = mixB (N 7) (f.s1) ∧ N 9 = mixB (N 8) (f.s2) ∧ N 10 = mixB (N 9) (f.s3) ∧ N 11 = mixB (N 10) (f.s4) ∧ N 12 = mixB (N 11) (f.s5) ∧ N 13 = mixB (N 12) (f.vlan / 256 % 256) ∧ N 14 = mixB (N 13) (f.vlan % 256) := fun x0 =>
    ⟨fun j => mixL x0 ([f.d0, f.d1, f.d2, f.d3, f.d4, f.d5, f.s0, f.s1, f.s2, f.s3, f.s4, f.s5, f.vlan / 256 % 256, f.vlan % 256].take j), by simp [mixL, Frm.dst, Frm.src], by simp [mixL], by simp [mixL], by simp [mixL], by simp [mixL], by simp [mixL], by simp [mixL], by simp [mixL], by simp [mixL], by simp [mixL], by simp [mixL], by simp [mixL], by simp [mixL], by simp [mixL], by simp [mixL], by simp [mixL]⟩
  obtain ⟨N, hN, n0, n1, n2, n3, n4, n5, n6, n7, n8, n9, n10, n11, n12, n13, n14⟩ := key 2166136261
  have hF : hashF f = N 14 := hN
  clear key hN
  rw [hF]
  have p1 := heap_alloc_new w (.cells f.cells 26)
  have cc := blk_cell p1
  have c0 := cc 0
  have c1 := cc 1
  have c2 := cc 2
  have c3 := cc 3
  have c4 := cc 4
  have c5 := cc 5
  have c6 := cc 6
  have c7 := cc 7
  have c8 := cc 8
  have c9 := cc 9
  have c10 := cc 10
  have c11 := cc 11
  have c13 := cc 13
  simp only [Frm.cells, List.getElem?_toArray, List.getElem?_cons_zero, List.getElem?_cons_succ] at c0 c1 c2 c3 c4 c5 c6 c7 c8 c9 c10 c11 c13
  clear cc p1
  have S1 := Lib.hid ((Step.refl None w).alloc (.cells f.cells 26))
  obtain ⟨W, hW⟩ : ∃ W, w.alloc (.cells f.cells 26) = W := ⟨_, rfl⟩
  unfold Frm.cells at *
  rw [hW] at S1 c0 c1 c2 c3 c4 c5 c6 c7 c8 c9 c10 c11 c13
  have HE := Lib.hid hW
  clear hW
  have r0 : 0 ≤ N 0 ∧ N 0 < 4294967296 := by rw [n0]; decide
  have r1 : 0 ≤ N 1 ∧ N 1 < 4294967296 := by rw [n1]; exact mixB_rng _ _
  have r2 : 0 ≤ N 2 ∧ N 2 < 4294967296 := by rw [n2]; exact mixB_rng _ _
  have r3 : 0 ≤ N 3 ∧ N 3 < 4294967296 := by rw [n3]; exact mixB_rng _ _
  have r4 : 0 ≤ N 4 ∧ N 4 < 4294967296 := by rw [n4]; exact mixB_rng _ _
  have r5 : 0 ≤ N 5 ∧ N 5 < 4294967296 := by rw [n5]; exact mixB_rng _ _
  have r6 : 0 ≤ N 6 ∧ N 6 < 4294967296 := by rw [n6]; exact mixB_rng _ _
  have r7 : 0 ≤ N 7 ∧ N 7 < 4294967296 := by rw [n7]; exact mixB_rng _ _
  have r8 : 0 ≤ N 8 ∧ N 8 < 4294967296 := by rw [n8]; exact mixB_rng _ _
  have r9 : 0 ≤ N 9 ∧ N 9 < 4294967296 := by rw [n9]; exact mixB_rng _ _
  have r10 : 0 ≤ N 10 ∧ N 10 < 4294967296 := by rw [n10]; exact mixB_rng _ _
  have r11 : 0 ≤ N 11 ∧ N 11 < 4294967296 := by rw [n11]; exact mixB_rng _ _
  have r12 : 0 ≤ N 12 ∧ N 12 < 4294967296 := by rw [n12]; exact mixB_rng _ _
  have r13 : 0 ≤ N 13 ∧ N 13 < 4294967296 := by rw [n13]; exact mixB_rng _ _
  have r14 : 0 ≤ N 14 ∧ N 14 < 4294967296 := by rw [n14]; exact mixB_rng _ _
  have y0 := hd f.d0 (by simp [Frm.dst])
  have y1 := hd f.d1 (by simp [Frm.dst])
  have y2 := hd f.d2 (by simp [Frm.dst])
  have y3 := hd f.d3 (by simp [Frm.dst])
  have y4 := hd f.d4 (by simp [Frm.dst])
  have y5 := hd f.d5 (by simp [Frm.dst])
  have y6 := hs f.s0 (by simp [Frm.src])
  have y7 := hs f.s1 (by simp [Frm.src])
  have y8 := hs f.s2 (by simp [Frm.src])
  have y9 := hs f.s3 (by simp [Frm.src])
  have y10 := hs f.s4 (by simp [Frm.src])
  have y11 := hs f.s5 (by simp [Frm.src])
  have v0 : IntKind.u64.wrap f.vlan = f.vlan % 18446744073709551616 := by simp [IntKind.wrap, IntKind.bits, IntKind.signed]
  have v1 : Int.tmod (f.vlan % 18446744073709551616) 65536 = f.vlan % 65536 := by rw [Int.tmod_eq_emod_of_nonneg (by omega)]; omega
  have v2 : IntKind.u64.wrap (f.vlan % 65536) = f.vlan % 65536 := IntWalk.u64_in _ (by omega)
  have v3 : Int.tdiv (f.vlan % 65536) 256 = f.vlan / 256 % 256 := by rw [Int.tdiv_eq_ediv_of_nonneg (by omega)]; omega
  have v4 : Int.tmod (f.vlan % 65536) 256 = f.vlan % 256 := by rw [Int.tmod_eq_emod_of_nonneg (by omega)]; omega
  have v5 : IntKind.u64.wrap (f.vlan / 256 % 256) = f.vlan / 256 % 256 := IntWalk.u64_in _ (by omega)
  have v6 : IntKind.u64.wrap (f.vlan % 256) = f.vlan % 256 := IntWalk.u64_in _ (by omega)
  have v7 : IntKind.u8.wrap (f.vlan / 256 % 256) = f.vlan / 256 % 256 := IntWalk.u8_in _ (by omega)
  have v8 : IntKind.u8.wrap (f.vlan % 256) = f.vlan % 256 := IntWalk.u8_in _ (by omega)
  have v9 : IntKind.u32.wrap (N 14) = N 14 := IntWalk.u32_in _ (by omega)
  have N0 := Lib.hid n0
  have R0 := Lib.hid r0
  have N1 := Lib.hid n1
  have R1 := Lib.hid r1
  have N2 := Lib.hid n2
  have R2 := Lib.hid r2
  have N3 := Lib.hid n3
  have R3 := Lib.hid r3
  have N4 := Lib.hid n4
  have R4 := Lib.hid r4
  have N5 := Lib.hid n5
  have R5 := Lib.hid r5
  have N6 := Lib.hid n6
  have R6 := Lib.hid r6
  have N7 := Lib.hid n7
  have R7 := Lib.hid r7
  have N8 := Lib.hid n8
  have R8 := Lib.hid r8
  have N9 := Lib.hid n9
  have R9 := Lib.hid r9
  have N10 := Lib.hid n10
  have R10 := Lib.hid r10
  have N11 := Lib.hid n11
  have R11 := Lib.hid r11
  have N12 := Lib.hid n12
  have R12 := Lib.hid r12
  have N13 := Lib.hid n13
  have R13 := Lib.hid r13
  have N14 := Lib.hid n14
  have R14 := Lib.hid r14
  have Y0 := Lib.hid y0
  have Y1 := Lib.hid y1
  have Y2 := Lib.hid y2
  have Y3 := Lib.hid y3
  have Y4 := Lib.hid y4
  have Y5 := Lib.hid y5
  have Y6 := Lib.hid y6
  have Y7 := Lib.hid y7
  have Y8 := Lib.hid y8
  have Y9 := Lib.hid y9
  have Y10 := Lib.hid y10
  have Y11 := Lib.hid y11
  clear hF hd hs n0 r0 n1 r1 n2 r2 n3 r3 n4 r4 n5 r5 n6 r6 n7 r7 n8 r8 n9 r9 n10 r10 n11 r11 n12 r12 n13 r13 n14 r14 y0 y1 y2 y3 y4 y5 y6 y7 y8 y9 y10 y11
  go_enter Try.func11, Try.ntmps11
  go_wp2_with (rw [HE.out])
  have HW : Hid (w.alloc (.cells #[.int .u8 f.d0, .int .u8 f.d1, .int .u8 f.d2, .int .u8 f.d3, .int .u8 f.d4, .int .u8 f.d5, .int .u8 f.s0, .int .u8 f.s1, .int .u8 f.s2, .int .u8 f.s3, .int .u8 f.s4, .int .u8 f.s5, .bool f.tag, .int .i64 f.vlan, .int .i64 f.prio, .int .i64 f.typ, f.body] 26) = W) := HE
  (try rw [HE.out])
  go_loopw [3, 4] (fun x i wr => ∃ j : Nat, j ≤ 6 ∧ i = .int .i64 j ∧ x = .int .u64 (N j) ∧ wr = W) (fun _ i _ => 6 - (intOf i).toNat)
  case atStart => exact ⟨0, by omega, rfl, by rw [N0.out], by trivial⟩
  case round =>
    obtain ⟨j, hj, rfl, rfl, rfl⟩ := hrel
    rcases (show j = 0 ∨ j = 1 ∨ j = 2 ∨ j = 3 ∨ j = 4 ∨ j = 5 ∨ j = 6 by omega) with rfl | rfl | rfl | rfl | rfl | rfl | rfl
    · go_wp2_with fail
      refine (step_any (N 0) f.d0 _ R0.out Y0.out).mono ?_
      rintro e w2 ⟨rfl, rfl⟩
      rw [← N1.out]
      go_wp2_with fail
      go_roundw
      case rel => exact ⟨1, by omega, rfl, rfl, by trivial⟩
      case measure => simp [intOf]
    · go_wp2_with fail
      refine (step_any (N 1) f.d1 _ R1.out Y1.out).mono ?_
      rintro e w2 ⟨rfl, rfl⟩
      rw [← N2.out]
      go_wp2_with fail
      go_roundw
      case rel => exact ⟨2, by omega, rfl, rfl, by trivial⟩
      case measure => simp [intOf]
    · go_wp2_with fail
      refine (step_any (N 2) f.d2 _ R2.out Y2.out).mono ?_
      rintro e w2 ⟨rfl, rfl⟩
      rw [← N3.out]
      go_wp2_with fail
      go_roundw
      case rel => exact ⟨3, by omega, rfl, rfl, by trivial⟩
      case measure => simp [intOf]
    · go_wp2_with fail
      refine (step_any (N 3) f.d3 _ R3.out Y3.out).mono ?_
      rintro e w2 ⟨rfl, rfl⟩
      rw [← N4.out]
      go_wp2_with fail
      go_roundw
      case rel => exact ⟨4, by omega, rfl, rfl, by trivial⟩
      case measure => simp [intOf]
    · go_wp2_with fail
      refine (step_any (N 4) f.d4 _ R4.out Y4.out).mono ?_
      rintro e w2 ⟨rfl, rfl⟩
      rw [← N5.out]
      go_wp2_with fail
      go_roundw
      case rel => exact ⟨5, by omega, rfl, rfl, by trivial⟩
      case measure => simp [intOf]
    · go_wp2_with fail
      refine (step_any (N 5) f.d5 _ R5.out Y5.out).mono ?_
      rintro e w2 ⟨rfl, rfl⟩
      rw [← N6.out]
      go_wp2_with fail
      go_roundw
      case rel => exact ⟨6, by omega, rfl, rfl, by trivial⟩
      case measure => simp [intOf]
    · go_wp2_with fail
      go_loopw [3, 5] (fun x i wx => ∃ j : Nat, j ≤ 6 ∧ i = .int .i64 j ∧ x = .int .u64 (N (6 + j)) ∧ wx = wr) (fun _ i _ => 6 - (intOf i).toNat)
      case atStart => exact ⟨0, by omega, rfl, rfl, by trivial⟩
      case round =>
        obtain ⟨j, hj, rfl, rfl, rfl⟩ := hrel
        rcases (show j = 0 ∨ j = 1 ∨ j = 2 ∨ j = 3 ∨ j = 4 ∨ j = 5 ∨ j = 6 by omega) with rfl | rfl | rfl | rfl | rfl | rfl | rfl
        · go_wp2_with fail
          refine (step_any (N 6) f.s0 _ R6.out Y6.out).mono ?_
          rintro e w2 ⟨rfl, rfl⟩
          rw [← N7.out]
          go_wp2_with fail
          go_roundw
          case rel => exact ⟨_, _, _, _, _, _, _, _, _, _, _, _, ⟨1, by omega, rfl, rfl, by trivial⟩, rfl⟩
          case measure => simp [intOf]
        · go_wp2_with fail
          refine (step_any (N 7) f.s1 _ R7.out Y7.out).mono ?_
          rintro e w2 ⟨rfl, rfl⟩
          rw [← N8.out]
          go_wp2_with fail
          go_roundw
          case rel => exact ⟨_, _, _, _, _, _, _, _, _, _, _, _, ⟨2, by omega, rfl, rfl, by trivial⟩, rfl⟩
          case measure => simp [intOf]
        · go_wp2_with fail
          refine (step_any (N 8) f.s2 _ R8.out Y8.out).mono ?_
          rintro e w2 ⟨rfl, rfl⟩
          rw [← N9.out]
          go_wp2_with fail
          go_roundw
          case rel => exact ⟨_, _, _, _, _, _, _, _, _, _, _, _, ⟨3, by omega, rfl, rfl, by trivial⟩, rfl⟩
          case measure => simp [intOf]
        · go_wp2_with fail
          refine (step_any (N 9) f.s3 _ R9.out Y9.out).mono ?_
          rintro e w2 ⟨rfl, rfl⟩
          rw [← N10.out]
          go_wp2_with fail
          go_roundw
          case rel => exact ⟨_, _, _, _, _, _, _, _, _, _, _, _, ⟨4, by omega, rfl, rfl, by trivial⟩, rfl⟩
          case measure => simp [intOf]
        · go_wp2_with fail
          refine (step_any (N 10) f.s4 _ R10.out Y10.out).mono ?_
          rintro e w2 ⟨rfl, rfl⟩
          rw [← N11.out]
          go_wp2_with fail
          go_roundw
          case rel => exact ⟨_, _, _, _, _, _, _, _, _, _, _, _, ⟨5, by omega, rfl, rfl, by trivial⟩, rfl⟩
          case measure => simp [intOf]
        · go_wp2_with fail
          refine (step_any (N 11) f.s5 _ R11.out Y11.out).mono ?_
          rintro e w2 ⟨rfl, rfl⟩
          rw [← N12.out]
          go_wp2_with fail
          go_roundw
          case rel => exact ⟨_, _, _, _, _, _, _, _, _, _, _, _, ⟨6, by omega, rfl, rfl, by trivial⟩, rfl⟩
          case measure => simp [intOf]
        · go_wp2_with fail
          refine (step_any (N 12) (f.vlan / 256 % 256) _ R12.out (by omega)).mono ?_
          rintro e w2 ⟨rfl, rfl⟩
          rw [← N13.out]
          go_wp2_with fail
          refine (step_any (N 13) (f.vlan % 256) _ R13.out (by omega)).mono ?_
          rintro e w2 ⟨rfl, rfl⟩
          rw [← N14.out]
          go_wp2_with fail
          go_ret
          exact ⟨rfl, S1.out⟩

end Go.Proofs.Ytbdlcmfmnjhklaa
