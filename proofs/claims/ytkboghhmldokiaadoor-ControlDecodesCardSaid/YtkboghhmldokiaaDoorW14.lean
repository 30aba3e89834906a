/- ControlEncodes, walked. -/
import Derived.Test.YtkboghhmldokiaaDoorW13
namespace Go.Proofs.YtkboghhmldokiaaDoor
open Go.RowKit Go.Gm

/-- What is read of a buffer as text, in whatever world comes later. -/
theorem text_of {w : World} {B : Nat} {u : Value} {l : List Int} (h : Buf 5 w B u l) : (convert 24 9 u).run Tryd.prog w = .ok (.string (strOfNums l)) w :=
  run_string_row Tryd.underlying24 Tryd.underlying5 (by kernel_rfl) h.row

set_option linter.unusedSimpArgs false in
set_option maxHeartbeats 4000000 in
theorem controlEncodes_walk (v0 : Value) (w : World) (hT : HasAt 0 w) (h0 : Arg w (.cat 1 (.int .i64) (.cat 1 (.int .i64) (.cat 1 (.int .i64) (.cat 11 (.cat 1 (.int .i64) (.cat 1 (.int .i64) (.cat 6 (.arr 6 1 (.int .u8)) (.cat 1 (.int .i64) (.cat 1 (.int .i64) (.cat 1 (.slice 1 1 (.int .u8)) .nil)))))) .nil)))) v0) :
    Calls Tryd.prog 3 #[v0] w fun e w' => e = .returned (.bool true) ∧ Below w.heap.size w w' := by
  obtain ⟨ep, sq, ak, n, bo, bc, rfl, hb, -, -, hlen⟩ := arg_packet h0
  clear h0
  have q1 : ((n.body.length : Int) ≤ 9223372036854775807) := by omega
  have T := Lib.hid hT
  have HB := Lib.hid hb
  have S1 := Lib.hid ((Step.refl None w).alloc (.cells (n.packet ep sq ak (.slice bo n.body.length bc)) 28))
  have P1 := Lib.hid (heap_alloc_new w (.cells (n.packet ep sq ak (.slice bo n.body.length bc)) 28))
  clear hT hb
  have HL := Lib.hid hlen
  clear hlen
  unfold Note.packet at *
  go_enter Tryd.func3, Tryd.ntmps3
  go_wp2_with fail
  refine (awake_any _ (T.out.still S1.out)).mono ?_
  rintro e w2 ⟨rfl, s2⟩
  have P2 := Lib.hid (s2.blk P1.out (fun s => s.elim))
  have S2 := Lib.hid (S1.out.then_ s2)
  clear s2 P1 S1
  have K : Hid (∀ w', Step None w2 w' → ∀ i, w'.cell? ⟨w.heap.size, i, none⟩ = (#[.int .i64 ep, .int .i64 sq, .int .i64 ak, .int .i64 n.kind, .int .i64 n.vlan, .int .u8 n.m0, .int .u8 n.m1, .int .u8 n.m2, .int .u8 n.m3, .int .u8 n.m4, .int .u8 n.m5, .int .i64 n.port, .int .i64 n.state, .slice bo n.body.length bc] : Array Value)[i]?) := fun w' h' i => blk_cell (h'.blk P2.out (fun s => s.elim)) i
  have c13 := K.out w2 (Step.refl _ _) 13
  simp only [List.getElem?_toArray, List.getElem?_cons_zero, List.getElem?_cons_succ] at c13
  cases hg : decide ((3000 : Int) < (n.body.length : Int))
  rotate_left
  · go_wp2_with fail
    go_ret
    exact ⟨rfl, S2.out.toBelow⟩
  have hl : n.body.length ≤ 10000 := by simp at hg; omega
  have c0 := K.out w2 (Step.refl _ _) 0
  have c1 := K.out w2 (Step.refl _ _) 1
  have c2 := K.out w2 (Step.refl _ _) 2
  have c3 := K.out w2 (Step.refl _ _) 3
  have c4 := K.out w2 (Step.refl _ _) 4
  have c5 := K.out w2 (Step.refl _ _) 5
  have c6 := K.out w2 (Step.refl _ _) 6
  have c7 := K.out w2 (Step.refl _ _) 7
  have c8 := K.out w2 (Step.refl _ _) 8
  have c9 := K.out w2 (Step.refl _ _) 9
  have c10 := K.out w2 (Step.refl _ _) 10
  have c11 := K.out w2 (Step.refl _ _) 11
  have c12 := K.out w2 (Step.refl _ _) 12
  simp only [List.getElem?_toArray, List.getElem?_cons_zero, List.getElem?_cons_succ] at c0 c1 c2 c3 c4 c5 c6 c7 c8 c9 c10 c11 c12
  go_wp2_with fail
  refine (encode_all ep sq ak n bo bc _ (T.out.still S2.out) (HB.out.step S2.out (fun _ _ s => s.elim)) hl).mono ?_
  rintro e w3 ⟨u, rfl, hu, s3⟩
  have d0 := K.out w3 s3 0
  have d1 := K.out w3 s3 1
  have d2 := K.out w3 s3 2
  have d3 := K.out w3 s3 3
  have d4 := K.out w3 s3 4
  have d5 := K.out w3 s3 5
  have d6 := K.out w3 s3 6
  have d7 := K.out w3 s3 7
  have d8 := K.out w3 s3 8
  have d9 := K.out w3 s3 9
  have d10 := K.out w3 s3 10
  have d11 := K.out w3 s3 11
  have d12 := K.out w3 s3 12
  have d13 := K.out w3 s3 13
  simp only [List.getElem?_toArray, List.getElem?_cons_zero, List.getElem?_cons_succ] at d0 d1 d2 d3 d4 d5 d6 d7 d8 d9 d10 d11 d12 d13
  have U3 := Lib.hid hu
  have Z3 := Lib.hid s3
  clear hu s3 c0 c1 c2 c3 c4 c5 c6 c7 c8 c9 c10 c11 c12 c13
  go_wp2_with fail
  refine (rencode_all ep sq ak n bo bc _ (HB.out.step (S2.out.then_ Z3.out) (fun _ _ s => s.elim)) hl).mono ?_
  rintro e w4 ⟨u2, rfl, hu, s4⟩
  have K4 : Hid (∀ w', Step None w4 w' → w'.cell? ⟨w.heap.size, 3, none⟩ = some (.int .i64 n.kind) ∧ w'.cell? ⟨w.heap.size, 4, none⟩ = some (.int .i64 n.vlan) ∧ w'.cell? ⟨w.heap.size, 5, none⟩ = some (.int .u8 n.m0) ∧ w'.cell? ⟨w.heap.size, 6, none⟩ = some (.int .u8 n.m1) ∧ w'.cell? ⟨w.heap.size, 7, none⟩ = some (.int .u8 n.m2) ∧ w'.cell? ⟨w.heap.size, 8, none⟩ = some (.int .u8 n.m3) ∧ w'.cell? ⟨w.heap.size, 9, none⟩ = some (.int .u8 n.m4) ∧ w'.cell? ⟨w.heap.size, 10, none⟩ = some (.int .u8 n.m5) ∧ w'.cell? ⟨w.heap.size, 11, none⟩ = some (.int .i64 n.port) ∧ w'.cell? ⟨w.heap.size, 12, none⟩ = some (.int .i64 n.state) ∧ w'.cell? ⟨w.heap.size, 13, none⟩ = some (.slice bo n.body.length bc) ∧ (convert 24 9 u).run Tryd.prog w' = .ok (.string (strOfNums (encB ep sq ak n))) w' ∧ (convert 24 9 u2).run Tryd.prog w' = .ok (.string (strOfNums (encB ep sq ak n))) w') := fun w' h' => by
    have k := K.out w' ((Z3.out.then_ s4).then_ h')
    exact ⟨k 3, k 4, k 5, k 6, k 7, k 8, k 9, k 10, k 11, k 12, k 13, text_of ((U3.out.still s4).still h'), text_of (hu.still h')⟩
  have Z4 := Lib.hid (Z3.out.then_ s4)
  clear d0 d1 d2 d3 d4 d5 d6 d7 d8 d9 d10 d11 d12 d13 hu s4
  go_wp2_with fail
  refine wp_region_plan (fun w' => w'.cell? ⟨w.heap.size, 3, none⟩ = some (.int .i64 n.kind) ∧ w'.cell? ⟨w.heap.size, 4, none⟩ = some (.int .i64 n.vlan) ∧ w'.cell? ⟨w.heap.size, 5, none⟩ = some (.int .u8 n.m0) ∧ w'.cell? ⟨w.heap.size, 6, none⟩ = some (.int .u8 n.m1) ∧ w'.cell? ⟨w.heap.size, 7, none⟩ = some (.int .u8 n.m2) ∧ w'.cell? ⟨w.heap.size, 8, none⟩ = some (.int .u8 n.m3) ∧ w'.cell? ⟨w.heap.size, 9, none⟩ = some (.int .u8 n.m4) ∧ w'.cell? ⟨w.heap.size, 10, none⟩ = some (.int .u8 n.m5) ∧ w'.cell? ⟨w.heap.size, 11, none⟩ = some (.int .i64 n.port) ∧ w'.cell? ⟨w.heap.size, 12, none⟩ = some (.int .i64 n.state) ∧ w'.cell? ⟨w.heap.size, 13, none⟩ = some (.slice bo n.body.length bc) ∧ (convert 24 9 u).run Tryd.prog w' = .ok (.string (strOfNums (encB ep sq ak n))) w' ∧ (convert 24 9 u2).run Tryd.prog w' = .ok (.string (strOfNums (encB ep sq ak n))) w') (.take 0 (.take 1 (.take 2 (.take 3 (.take 4 (.take 5 (.take 6 (.take 7 (.take 8 (.take 9 (.take 10 (.take 11 (.take 12 (.take 14 (.take 15 (.alt 13 (.alt 16 (.take 17 (.take 18 (.take 19 .done))) .none) .none)))))))))))))))) _
    (by simp only [Plan.map, opOf, List.getElem?_toArray, List.getElem?_cons_zero, List.getElem?_cons_succ, Option.getD_some]; rfl) (by kernel_rfl) (by kernel_rfl) (by kernel_rfl) (by decide) (by intro c a d v w; cases d <;> exact fun h => h) (K4.out _ (Step.refl None w4).drew) ?_
  repeat (refine wpPlan.taken (by rfl) (by intro w' hS'; (try dsimp only at hS'); go_split_ands; go_simp; try with_reducible rfl) ?_; simp only [Act.put, List.setIfInBounds_toArray, List.set_cons_zero, List.set_cons_succ])
  refine wpPlan.runs fun K' hK => ?_
  go_simp
  refine (right_any n bo bc _ (T.out.still ((S2.out.then_ Z4.out).drew))).mono ?_
  rintro e w5 ⟨rfl, s5⟩
  have e5 := ((Step.refl None w4).drew).then_ s5
  refine hK.out _ _ (K4.out _ e5) ?_
  clear hK K'
  refine wpPlan.runs fun K' hK => ?_
  go_simp
  refine (rright_any n bo bc _).mono ?_
  rintro e w6 ⟨rfl, s6⟩
  have e6 := e5.then_ s6
  refine hK.out _ _ (K4.out _ e6) ?_
  clear hK K'
  repeat (refine wpPlan.taken (by rfl) (by intro w' hS'; (try dsimp only at hS'); go_split_ands; go_simp; try with_reducible rfl) ?_; simp only [Act.put, List.setIfInBounds_toArray, List.set_cons_zero, List.set_cons_succ])
  refine wpPlan.done ?_
  have E6 := Lib.hid ((S2.out.then_ Z4.out).then_ e6)
  clear e5 e6 s5 s6
  go_wp2_with fail
  go_ret
  exact ⟨rfl, E6.out.toBelow⟩

end Go.Proofs.YtkboghhmldokiaaDoor
