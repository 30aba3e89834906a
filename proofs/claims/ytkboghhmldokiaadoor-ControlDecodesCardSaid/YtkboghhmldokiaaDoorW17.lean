/- ControlOnce, walked. -/
import Derived.Test.YtkboghhmldokiaaDoorW16
import Derived.Test.YtkboghhmldokiaaDoorW14
namespace Go.Proofs.YtkboghhmldokiaaDoor
open Go.RowKit Go.Gm

theorem codeB_ok {ep sq ak : Int} {n : Note} : (codeB ep sq ak n == 0) = okP ep sq ak n := by
  unfold codeB
  cases okP ep sq ak n <;> rfl

set_option linter.unusedSimpArgs false in
set_option maxHeartbeats 8000000 in
theorem controlOnce_walk (v0 v1 : Value) (w : World) (hT : HasAt 0 w) (h0 : Arg w (.cat 1 (.int .i64) (.cat 1 (.int .i64) (.cat 1 (.int .i64) (.cat 11 (.cat 1 (.int .i64) (.cat 1 (.int .i64) (.cat 6 (.arr 6 1 (.int .u8)) (.cat 1 (.int .i64) (.cat 1 (.int .i64) (.cat 1 (.slice 1 1 (.int .u8)) .nil)))))) .nil)))) v0) (h1 : Arg w (.cat 1 (.int .i64) (.cat 1 (.int .i64) (.cat 1 (.int .i64) (.cat 11 (.cat 1 (.int .i64) (.cat 1 (.int .i64) (.cat 6 (.arr 6 1 (.int .u8)) (.cat 1 (.int .i64) (.cat 1 (.int .i64) (.cat 1 (.slice 1 1 (.int .u8)) .nil)))))) .nil)))) v1) :
    Calls Tryd.prog 4 #[v0, v1] w fun e w' => e = .returned (.bool true) ∧ Below w.heap.size w w' := by
  obtain ⟨ep, sq, ak, n, bo, bc, rfl, hb, sb, sm, hlen⟩ := arg_packet h0
  obtain ⟨ep', sq', ak', m, bo', bc', rfl, hb', sb', sm', hlen'⟩ := arg_packet h1
  clear h0 h1
  have HL : Hid (Small n.body ∧ Small n.mac ∧ Small m.body ∧ Small m.mac ∧ n.body.length ≤ 140737488351232 ∧ m.body.length ≤ 140737488351232) := ⟨sb, sm, sb', sm', hlen, hlen'⟩
  have q1 : ((n.body.length : Int) ≤ 9223372036854775807) := by omega
  have q2 : ((m.body.length : Int) ≤ 9223372036854775807) := by omega
  clear sb sm sb' sm' hlen hlen'
  have st := ((Step.refl None w).alloc (.cells (n.packet ep sq ak (.slice bo n.body.length bc)) 28)).alloc (.cells (m.packet ep' sq' ak' (.slice bo' m.body.length bc')) 28)
  have HB := Lib.hid hb
  have HB' := Lib.hid hb'
  have p1 : ((w.alloc (.cells (n.packet ep sq ak (.slice bo n.body.length bc)) 28)).alloc (.cells (m.packet ep' sq' ak' (.slice bo' m.body.length bc')) 28)).heap[w.heap.size]? = some (.cells (n.packet ep sq ak (.slice bo n.body.length bc)) 28 (0, 0)) :=
    (Below.heap_alloc _ _ _ (by simp)).trans (heap_alloc_new _ _)
  have p2 : ((w.alloc (.cells (n.packet ep sq ak (.slice bo n.body.length bc)) 28)).alloc (.cells (m.packet ep' sq' ak' (.slice bo' m.body.length bc')) 28)).heap[w.heap.size + 1]? = some (.cells (m.packet ep' sq' ak' (.slice bo' m.body.length bc')) 28 (0, 0)) := by
    have := heap_alloc_new (w.alloc (.cells (n.packet ep sq ak (.slice bo n.body.length bc)) 28)) (.cells (m.packet ep' sq' ak' (.slice bo' m.body.length bc')) 28)
    simpa using this
  have P1 := Lib.hid p1
  have P2 := Lib.hid p2
  have T := Lib.hid hT
  have S1 := Lib.hid st
  clear hT hb hb' p1 p2 st
  unfold Note.packet at *
  go_enter Tryd.func4, Tryd.ntmps4
  go_wp2_with fail
  refine (awake_any _ (T.out.still S1.out)).mono ?_
  rintro e w2 ⟨rfl, s2⟩
  have K1 : Hid (∀ w', Step None w2 w' → ∀ i, w'.cell? ⟨w.heap.size, i, none⟩ = (#[.int .i64 ep, .int .i64 sq, .int .i64 ak, .int .i64 n.kind, .int .i64 n.vlan, .int .u8 n.m0, .int .u8 n.m1, .int .u8 n.m2, .int .u8 n.m3, .int .u8 n.m4, .int .u8 n.m5, .int .i64 n.port, .int .i64 n.state, .slice bo n.body.length bc] : Array Value)[i]?) := fun w' h' i => blk_cell ((s2.then_ h').blk P1.out (fun s => s.elim)) i
  have K2 : Hid (∀ w', Step None w2 w' → ∀ i, w'.cell? ⟨w.heap.size + 1, i, none⟩ = (#[.int .i64 ep', .int .i64 sq', .int .i64 ak', .int .i64 m.kind, .int .i64 m.vlan, .int .u8 m.m0, .int .u8 m.m1, .int .u8 m.m2, .int .u8 m.m3, .int .u8 m.m4, .int .u8 m.m5, .int .i64 m.port, .int .i64 m.state, .slice bo' m.body.length bc'] : Array Value)[i]?) := fun w' h' i => blk_cell ((s2.then_ h').blk P2.out (fun s => s.elim)) i
  have S2 := Lib.hid (S1.out.then_ s2)
  clear s2 P1 P2 S1
  have c13 := K1.out w2 (Step.refl _ _) 13
  simp only [List.getElem?_toArray, List.getElem?_cons_zero, List.getElem?_cons_succ] at c13
  have d13 := K2.out w2 (Step.refl _ _) 13
  simp only [List.getElem?_toArray, List.getElem?_cons_zero, List.getElem?_cons_succ] at d13
  cases hg : decide ((3000 : Int) < (n.body.length : Int))
  rotate_left
  · go_wp2_with fail
    go_ret
    exact ⟨rfl, S2.out.toBelow⟩
  cases hg' : decide ((3000 : Int) < (m.body.length : Int))
  rotate_left
  · go_wp2_with fail
    go_ret
    exact ⟨rfl, S2.out.toBelow⟩
  have hl : n.body.length ≤ 10000 := by simp at hg; omega
  have hl' : m.body.length ≤ 10000 := by simp at hg'; omega
  clear c13 d13
  have c0 := K1.out w2 (Step.refl _ _) 0
  have c1 := K1.out w2 (Step.refl _ _) 1
  have c2 := K1.out w2 (Step.refl _ _) 2
  have c3 := K1.out w2 (Step.refl _ _) 3
  have c4 := K1.out w2 (Step.refl _ _) 4
  have c5 := K1.out w2 (Step.refl _ _) 5
  have c6 := K1.out w2 (Step.refl _ _) 6
  have c7 := K1.out w2 (Step.refl _ _) 7
  have c8 := K1.out w2 (Step.refl _ _) 8
  have c9 := K1.out w2 (Step.refl _ _) 9
  have c10 := K1.out w2 (Step.refl _ _) 10
  have c11 := K1.out w2 (Step.refl _ _) 11
  have c12 := K1.out w2 (Step.refl _ _) 12
  have c13 := K1.out w2 (Step.refl _ _) 13
  simp only [List.getElem?_toArray, List.getElem?_cons_zero, List.getElem?_cons_succ] at c0 c1 c2 c3 c4 c5 c6 c7 c8 c9 c10 c11 c12 c13
  have d13 := K2.out w2 (Step.refl _ _) 13
  simp only [List.getElem?_toArray, List.getElem?_cons_zero, List.getElem?_cons_succ] at d13
  go_wp2_with fail
  refine (encode_all ep sq ak n bo bc _ (T.out.still S2.out) (HB.out.step S2.out (fun _ _ s => s.elim)) hl).mono ?_
  rintro e w3 ⟨u, rfl, hu, s3⟩
  have U3 := Lib.hid hu
  have Z3 := Lib.hid s3
  clear hu s3 d13 c0 c1 c2 c3 c4 c5 c6 c7 c8 c9 c10 c11 c12 c13
  have d0 := K2.out w3 Z3.out 0
  have d1 := K2.out w3 Z3.out 1
  have d2 := K2.out w3 Z3.out 2
  have d3 := K2.out w3 Z3.out 3
  have d4 := K2.out w3 Z3.out 4
  have d5 := K2.out w3 Z3.out 5
  have d6 := K2.out w3 Z3.out 6
  have d7 := K2.out w3 Z3.out 7
  have d8 := K2.out w3 Z3.out 8
  have d9 := K2.out w3 Z3.out 9
  have d10 := K2.out w3 Z3.out 10
  have d11 := K2.out w3 Z3.out 11
  have d12 := K2.out w3 Z3.out 12
  have d13 := K2.out w3 Z3.out 13
  simp only [List.getElem?_toArray, List.getElem?_cons_zero, List.getElem?_cons_succ] at d0 d1 d2 d3 d4 d5 d6 d7 d8 d9 d10 d11 d12 d13
  go_wp2_with fail
  refine (encode_all ep' sq' ak' m bo' bc' _ (T.out.still (S2.out.then_ Z3.out)) (HB'.out.step (S2.out.then_ Z3.out) (fun _ _ s => s.elim)) hl').mono ?_
  rintro e w4 ⟨u', rfl, hu, s4⟩
  have U4 := Lib.hid (U3.out.still s4)
  have V4 := Lib.hid hu
  have Z4 := Lib.hid (Z3.out.then_ s4)
  clear hu s4 U3 Z3 d0 d1 d2 d3 d4 d5 d6 d7 d8 d9 d10 d11 d12 d13
  have e1 : (codeB ep sq ak n == 0) = okP ep sq ak n := codeB_ok
  have e2 : (codeB ep' sq' ak' m == 0) = okP ep' sq' ak' m := codeB_ok
  cases o1 : okP ep sq ak n
  · rw [o1] at e1
    have e1' : (codeB ep sq ak n != 0) = true := by simp [bne, e1]
    go_wp2_with fail
    go_ret
    exact ⟨rfl, (S2.out.then_ Z4.out).toBelow⟩
  rw [o1] at e1
  have e1' : (codeB ep sq ak n != 0) = false := by simp [bne, e1]
  cases o2 : okP ep' sq' ak' m
  · rw [o2] at e2
    have e2' : (codeB ep' sq' ak' m != 0) = true := by simp [bne, e2]
    go_wp2_with fail
    go_ret
    exact ⟨rfl, (S2.out.then_ Z4.out).toBelow⟩
  rw [o2] at e2
  have e2' : (codeB ep' sq' ak' m != 0) = false := by simp [bne, e2]
  have c0 := K1.out w4 Z4.out 0
  have c1 := K1.out w4 Z4.out 1
  have c2 := K1.out w4 Z4.out 2
  have c3 := K1.out w4 Z4.out 3
  have c4 := K1.out w4 Z4.out 4
  have c5 := K1.out w4 Z4.out 5
  have c6 := K1.out w4 Z4.out 6
  have c7 := K1.out w4 Z4.out 7
  have c8 := K1.out w4 Z4.out 8
  have c9 := K1.out w4 Z4.out 9
  have c10 := K1.out w4 Z4.out 10
  have c11 := K1.out w4 Z4.out 11
  have c12 := K1.out w4 Z4.out 12
  have c13 := K1.out w4 Z4.out 13
  simp only [List.getElem?_toArray, List.getElem?_cons_zero, List.getElem?_cons_succ] at c0 c1 c2 c3 c4 c5 c6 c7 c8 c9 c10 c11 c12 c13
  have d0 := K2.out w4 Z4.out 0
  have d1 := K2.out w4 Z4.out 1
  have d2 := K2.out w4 Z4.out 2
  have d3 := K2.out w4 Z4.out 3
  have d4 := K2.out w4 Z4.out 4
  have d5 := K2.out w4 Z4.out 5
  have d6 := K2.out w4 Z4.out 6
  have d7 := K2.out w4 Z4.out 7
  have d8 := K2.out w4 Z4.out 8
  have d9 := K2.out w4 Z4.out 9
  have d10 := K2.out w4 Z4.out 10
  have d11 := K2.out w4 Z4.out 11
  have d12 := K2.out w4 Z4.out 12
  have d13 := K2.out w4 Z4.out 13
  simp only [List.getElem?_toArray, List.getElem?_cons_zero, List.getElem?_cons_succ] at d0 d1 d2 d3 d4 d5 d6 d7 d8 d9 d10 d11 d12 d13
  go_wp2_with fail
  refine (sameP_any ep sq ak ep' sq' ak' n m bo bo' bc bc' _ (HB.out.step (S2.out.then_ Z4.out) (fun _ _ s => s.elim)) (HB'.out.step (S2.out.then_ Z4.out) (fun _ _ s => s.elim))).mono ?_
  rintro e w5 ⟨rfl, s5⟩
  have Z5 := Lib.hid (Z4.out.then_ s5)
  have U5 := Lib.hid (U4.out.still s5)
  have V5 := Lib.hid (V4.out.still s5)
  clear s5 U4 V4 c0 c1 c2 c3 c4 c5 c6 c7 c8 c9 c10 c11 c12 c13 d0 d1 d2 d3 d4 d5 d6 d7 d8 d9 d10 d11 d12 d13
  have c3 := K1.out w5 Z5.out 3
  simp only [List.getElem?_toArray, List.getElem?_cons_zero, List.getElem?_cons_succ] at c3
  have t1 := text_of U5.out
  have t2 := text_of V5.out
  obtain ⟨ao, cap, rfl⟩ := U5.out.form
  have hlen := enc_len ep sq ak n n.kind.toNat
  have hle : encB ep sq ak n = enc ep sq ak n n.kind.toNat := by simp [encB, o1]
  rw [← hle] at hlen
  have hlaw := once_law o1 o2 HL.out.1 HL.out.2.2.1 HL.out.2.1 HL.out.2.2.2.1
  generalize hL : encB ep sq ak n = L at *
  have l1 : decide ((13 : Int) ≤ (L.length : Int)) = true := by simp; omega
  rw [hlaw]
  have HN := Lib.hid hlen
  clear hlaw hle hL hlen
  cases k0 : (n.kind == 0)
  · have k0' : (n.kind != 0) = true := by simp [bne, k0]
    go_wp2_with fail
    go_ret
    exact ⟨by simp, (S2.out.then_ Z5.out).toBelow⟩
  · have k0' : (n.kind != 0) = false := by simp [bne, k0]
    have l2 : ((L.length : Int) == 13) = true := by
      have := HN.out.2 (by simp at k0; omega)
      simp; omega
    go_wp2_with fail
    go_ret
    exact ⟨by simp, (S2.out.then_ Z5.out).toBelow⟩

end Go.Proofs.YtkboghhmldokiaaDoor
