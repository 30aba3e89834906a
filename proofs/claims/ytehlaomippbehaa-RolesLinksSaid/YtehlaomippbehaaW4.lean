/- Ways: alike or not; what costs more. -/
import Derived.Test.YtehlaomippbehaaW3
import Derived.Test.YtehlaomippbehaaArrEq
import Derived.Laws.StructEq
namespace Go.Proofs.Ytehlaomippbehaa
open Go.RowKit Go.Gm

theorem eq_mac (x y : Idn) (w : World) : (Op.equalIn 9998 23 (.agg #[.int .u8 x.m0, .int .u8 x.m1, .int .u8 x.m2, .int .u8 x.m3, .int .u8 x.m4, .int .u8 x.m5]) (.agg #[.int .u8 y.m0, .int .u8 y.m1, .int .u8 y.m2, .int .u8 y.m3, .int .u8 y.m4, .int .u8 y.m5])).run Try.prog w = .ok (x.mac == y.mac) w := by
  rw [run_equalIn_six w 9996 23 5 Try.underlying23 Try.underlying5 (fun w => by kernel_rfl)]
  congr 1
  simp [Idn.mac, Bool.and_assoc]

set_option linter.unusedSimpArgs false in
theorem eq_id (x y : Idn) (w : World) : (Op.equalIn 9999 25 (.agg x.cells) (.agg y.cells)).run Try.prog w = .ok (x.flat == y.flat) w := by
  have u3 := Try.underlying3
  have a3 := Try.isAgg3
  have z3 := Try.sizeOf3
  have a23 := Try.isAgg23
  have z23 := Try.sizeOf23
  have hS : Try.prog.underlying 25 = some (.struct (Try.prog.fieldsOf 25)) := by kernel_rfl
  have hm := eq_mac x y
  rw [show (9999 : Nat) = 9998 + 1 from rfl, run_equalIn_agg w 9998 25 _ _ hS (by kernel_rfl)]
  simp only [Program.fieldsOf, Try.underlying25]
  unfold Idn.cells
  go_simp
  by_cases h1 : x.p = y.p <;> by_cases h2 : x.mac = y.mac <;> simp [Idn.flat, h1, h2]

set_option linter.unusedSimpArgs false in
theorem eq_vec (x y : Vec) (w : World) : (Op.equalIn 10000 27 (.agg x.cells) (.agg y.cells)).run Try.prog w = .ok (x.flat == y.flat) w := by
  have u3 := Try.underlying3
  have a3 := Try.isAgg3
  have z3 := Try.sizeOf3
  have a25 := Try.isAgg25
  have z25 := Try.sizeOf25
  have hS : Try.prog.underlying 27 = some (.struct (Try.prog.fieldsOf 27)) := by kernel_rfl
  have hr := eq_id x.r y.r
  have hb := eq_id x.b y.b
  rw [show (10000 : Nat) = 9999 + 1 from rfl, run_equalIn_agg w 9999 27 _ _ hS (by kernel_rfl)]
  simp only [Program.fieldsOf, Try.underlying27]
  unfold Vec.cells
  unfold Idn.cells at hr hb
  go_simp
  have e : (x.flat = y.flat) ↔ (x.r.flat = y.r.flat ∧ x.c = y.c ∧ x.b.flat = y.b.flat ∧ x.p = y.p ∧ x.o = y.o) := by
    simp [Vec.flat, Idn.flat, Idn.mac, and_assoc]
  by_cases h1 : x.r.flat = y.r.flat <;> by_cases h2 : x.c = y.c <;> by_cases h3 : x.b.flat = y.b.flat <;> by_cases h4 : x.p = y.p <;> by_cases h5 : x.o = y.o <;> simp [e, h1, h2, h3, h4, h5]

/-- May it be a cost? -/
def isC (n : Int) : Bool := decide (0 ≤ n) && decide (n ≤ 4294967295)
def addC (c k : Int) : Int := if isC c && isC k then (if c + k ≤ 4294967295 then c + k else 4294967295) else c
def Vec.add (x : Vec) (k : Int) : Vec := { x with c := addC x.c k }

theorem costs_any (n : Int) (w : World) : Calls Try.prog 36 #[.int .i64 n] w fun e w' => e = .returned (.bool (isC n)) ∧ w = w' := by
  unfold isC
  go_enter Try.func36, Try.ntmps36
  cases h1 : decide (0 ≤ n)
  · go_wp2
    go_ret
    exact ⟨by simp, rfl⟩
  · cases h2 : decide (n ≤ 4294967295)
    · go_wp2
      go_ret
      exact ⟨by simp, rfl⟩
    · go_wp2
      go_ret
      exact ⟨by simp, rfl⟩

theorem step_setRow {S : Nat → Prop} {a w : World} (h : Step S a w) {g : Nat} (hg : g < a.heap.size → S g) (cs : Array Value) : Step S a (w.setRow g cs) :=
  ⟨h.os, h.tape, h.output, by rw [setRow_size]; exact h.size, fun k hk hn => (setRow_other w g k cs (fun e => hn (by subst e; exact hg hk))).trans (h.block k hk hn)⟩

set_option maxHeartbeats 2000000 in
theorem add_any (x : Vec) (k : Int) (w : World) :
    Calls Try.prog 19 #[.agg x.cells, .int .i64 k] w fun e w' => e = .returned (.agg (x.add k).cells) ∧ Step None w w' := by
  obtain ⟨d, hd⟩ : ∃ d, addC x.c k = d := ⟨_, rfl⟩
  unfold Vec.add
  rw [hd]
  have HD := Lib.hid hd
  clear hd
  obtain ⟨q1, q2⟩ := two_new w x.cells #[.int .i64 0, .int .u8 0, .int .u8 0, .int .u8 0, .int .u8 0, .int .u8 0, .int .u8 0, .int .i64 0, .int .i64 0, .int .u8 0, .int .u8 0, .int .u8 0, .int .u8 0, .int .u8 0, .int .u8 0, .int .i64 0, .int .i64 0] 27 27
  have Q : Hid (((w.alloc (.cells x.cells 27)).alloc (.cells #[.int .i64 0, .int .u8 0, .int .u8 0, .int .u8 0, .int .u8 0, .int .u8 0, .int .u8 0, .int .i64 0, .int .i64 0, .int .u8 0, .int .u8 0, .int .u8 0, .int .u8 0, .int .u8 0, .int .u8 0, .int .i64 0, .int .i64 0] 27)).heap[w.heap.size]? = some (.cells x.cells 27 (0, 0)) ∧ ((w.alloc (.cells x.cells 27)).alloc (.cells #[.int .i64 0, .int .u8 0, .int .u8 0, .int .u8 0, .int .u8 0, .int .u8 0, .int .u8 0, .int .i64 0, .int .i64 0, .int .u8 0, .int .u8 0, .int .u8 0, .int .u8 0, .int .u8 0, .int .u8 0, .int .i64 0, .int .i64 0] 27)).heap[w.heap.size + 1]? = some (.cells #[.int .i64 0, .int .u8 0, .int .u8 0, .int .u8 0, .int .u8 0, .int .u8 0, .int .u8 0, .int .i64 0, .int .i64 0, .int .u8 0, .int .u8 0, .int .u8 0, .int .u8 0, .int .u8 0, .int .u8 0, .int .i64 0, .int .i64 0] 27 (0, 0)) ∧ Step None w ((w.alloc (.cells x.cells 27)).alloc (.cells #[.int .i64 0, .int .u8 0, .int .u8 0, .int .u8 0, .int .u8 0, .int .u8 0, .int .u8 0, .int .i64 0, .int .i64 0, .int .u8 0, .int .u8 0, .int .u8 0, .int .u8 0, .int .u8 0, .int .u8 0, .int .i64 0, .int .i64 0] 27))) := Lib.hid ⟨q1, q2, ((Step.refl None w).alloc _).alloc _⟩
  clear q1 q2
  unfold Vec.cells at *
  dsimp only
  go_enter Try.func19, Try.ntmps19
  go_wp2_with fail
  generalize (w.alloc (.cells #[.int .i64 x.r.p, .int .u8 x.r.m0, .int .u8 x.r.m1, .int .u8 x.r.m2, .int .u8 x.r.m3, .int .u8 x.r.m4, .int .u8 x.r.m5, .int .i64 (x.c), .int .i64 x.b.p, .int .u8 x.b.m0, .int .u8 x.b.m1, .int .u8 x.b.m2, .int .u8 x.b.m3, .int .u8 x.b.m4, .int .u8 x.b.m5, .int .i64 x.p, .int .i64 x.o] 27)).alloc (.cells #[.int .i64 0, .int .u8 0, .int .u8 0, .int .u8 0, .int .u8 0, .int .u8 0, .int .u8 0, .int .i64 0, .int .i64 0, .int .u8 0, .int .u8 0, .int .u8 0, .int .u8 0, .int .u8 0, .int .u8 0, .int .i64 0, .int .i64 0] 27) = W at *
  obtain ⟨q1, q2, q3⟩ := Q.out
  have S1 := Lib.hid q3
  have Q1 := Lib.hid q1
  have Q2 := Lib.hid q2
  have c7 := blk_cell q1 7
  have f7 := blk_frozen q1 7
  simp only [List.getElem?_toArray, List.getElem?_cons_zero, List.getElem?_cons_succ] at c7
  clear q1 q2 q3 Q
  refine (costs_any x.c _).mono ?_
  rintro e w1 ⟨rfl, rfl⟩
  cases h1 : isC x.c
  · skip
    have e1 := Lib.hid (show d = x.c by rw [← HD.out]; simp [addC, h1])
    go_wp2_with (first
      | (refine wpList_load_row rfl 27 (.tmp 2) rfl w.heap.size rfl 27 #[.int .i64 x.r.p, .int .u8 x.r.m0, .int .u8 x.r.m1, .int .u8 x.r.m2, .int .u8 x.r.m3, .int .u8 x.r.m4, .int .u8 x.r.m5, .int .i64 (x.c), .int .i64 x.b.p, .int .u8 x.b.m0, .int .u8 x.b.m1, .int .u8 x.b.m2, .int .u8 x.b.m3, .int .u8 x.b.m4, .int .u8 x.b.m5, .int .i64 x.p, .int .i64 x.o] (0, 0) _ Q1.out Try.underlying27 rfl (by kernel_rfl) ?_)
      | (refine wpList_store_row rfl 27 (.tmp 4) (.tmp 18) rfl (w.heap.size + 1) #[.int .i64 x.r.p, .int .u8 x.r.m0, .int .u8 x.r.m1, .int .u8 x.r.m2, .int .u8 x.r.m3, .int .u8 x.r.m4, .int .u8 x.r.m5, .int .i64 (x.c), .int .i64 x.b.p, .int .u8 x.b.m0, .int .u8 x.b.m1, .int .u8 x.b.m2, .int .u8 x.b.m3, .int .u8 x.b.m4, .int .u8 x.b.m5, .int .i64 x.p, .int .i64 x.o] rfl rfl 27 #[.int .i64 0, .int .u8 0, .int .u8 0, .int .u8 0, .int .u8 0, .int .u8 0, .int .u8 0, .int .i64 0, .int .i64 0, .int .u8 0, .int .u8 0, .int .u8 0, .int .u8 0, .int .u8 0, .int .u8 0, .int .i64 0, .int .i64 0] Q2.out (by kernel_rfl) rfl (by simp [Value.oneCell']) ?_))
    (try simp only [Exit.inBlock, Exit.then])
    refine bodyPost_ret (results_cell_row (P := Try.prog) (fn := Try.f19) rfl _ _ (w.heap.size + 1) 27 #[.int .i64 x.r.p, .int .u8 x.r.m0, .int .u8 x.r.m1, .int .u8 x.r.m2, .int .u8 x.r.m3, .int .u8 x.r.m4, .int .u8 x.r.m5, .int .i64 (x.c), .int .i64 x.b.p, .int .u8 x.b.m0, .int .u8 x.b.m1, .int .u8 x.b.m2, .int .u8 x.b.m3, .int .u8 x.b.m4, .int .u8 x.b.m5, .int .i64 x.p, .int .i64 x.o] (0, 0) _ rfl (setRow_heap _ _ _ _ _ _ Q2.out) Try.underlying27 rfl (by kernel_rfl)) rfl ?_
    rw [e1.out]
    exact ⟨rfl, step_setRow S1.out (fun h => by omega) _⟩
  go_wp2_with fail
  refine (costs_any k _).mono ?_
  rintro e w1 ⟨rfl, rfl⟩
  cases h2 : isC k
  · skip
    have e1 := Lib.hid (show d = x.c by rw [← HD.out]; simp [addC, h1, h2])
    go_wp2_with (first
      | (refine wpList_load_row rfl 27 (.tmp 2) rfl w.heap.size rfl 27 #[.int .i64 x.r.p, .int .u8 x.r.m0, .int .u8 x.r.m1, .int .u8 x.r.m2, .int .u8 x.r.m3, .int .u8 x.r.m4, .int .u8 x.r.m5, .int .i64 (x.c), .int .i64 x.b.p, .int .u8 x.b.m0, .int .u8 x.b.m1, .int .u8 x.b.m2, .int .u8 x.b.m3, .int .u8 x.b.m4, .int .u8 x.b.m5, .int .i64 x.p, .int .i64 x.o] (0, 0) _ Q1.out Try.underlying27 rfl (by kernel_rfl) ?_)
      | (refine wpList_store_row rfl 27 (.tmp 4) (.tmp 18) rfl (w.heap.size + 1) #[.int .i64 x.r.p, .int .u8 x.r.m0, .int .u8 x.r.m1, .int .u8 x.r.m2, .int .u8 x.r.m3, .int .u8 x.r.m4, .int .u8 x.r.m5, .int .i64 (x.c), .int .i64 x.b.p, .int .u8 x.b.m0, .int .u8 x.b.m1, .int .u8 x.b.m2, .int .u8 x.b.m3, .int .u8 x.b.m4, .int .u8 x.b.m5, .int .i64 x.p, .int .i64 x.o] rfl rfl 27 #[.int .i64 0, .int .u8 0, .int .u8 0, .int .u8 0, .int .u8 0, .int .u8 0, .int .u8 0, .int .i64 0, .int .i64 0, .int .u8 0, .int .u8 0, .int .u8 0, .int .u8 0, .int .u8 0, .int .u8 0, .int .i64 0, .int .i64 0] Q2.out (by kernel_rfl) rfl (by simp [Value.oneCell']) ?_))
    (try simp only [Exit.inBlock, Exit.then])
    refine bodyPost_ret (results_cell_row (P := Try.prog) (fn := Try.f19) rfl _ _ (w.heap.size + 1) 27 #[.int .i64 x.r.p, .int .u8 x.r.m0, .int .u8 x.r.m1, .int .u8 x.r.m2, .int .u8 x.r.m3, .int .u8 x.r.m4, .int .u8 x.r.m5, .int .i64 (x.c), .int .i64 x.b.p, .int .u8 x.b.m0, .int .u8 x.b.m1, .int .u8 x.b.m2, .int .u8 x.b.m3, .int .u8 x.b.m4, .int .u8 x.b.m5, .int .i64 x.p, .int .i64 x.o] (0, 0) _ rfl (setRow_heap _ _ _ _ _ _ Q2.out) Try.underlying27 rfl (by kernel_rfl)) rfl ?_
    rw [e1.out]
    exact ⟨rfl, step_setRow S1.out (fun h => by omega) _⟩
  have g : 0 ≤ x.c ∧ x.c ≤ 4294967295 ∧ 0 ≤ k ∧ k ≤ 4294967295 := by simp [isC] at h1 h2; omega
  have hw : IntKind.i64.wrap (x.c + k) = x.c + k := IntWalk.i64_in _ (by omega)
  by_cases h3 : x.c + k ≤ 4294967295
  · have e1 := Lib.hid (show d = x.c + k by rw [← HD.out]; simp [addC, h1, h2, h3])
    have hm : ¬ (4294967295 < x.c + k) := by omega
    clear g h3
    have r1 := blk_set Q1.out 7 (Value.int .i64 (x.c + k))
    simp only [List.setIfInBounds_toArray, List.set_cons_zero, List.set_cons_succ] at r1
    have R1 := Lib.hid r1
    clear r1
    have R2 : Hid ((W.setCell (⟨w.heap.size, 7, none⟩ : Addr) (Value.int .i64 (x.c + k))).heap[w.heap.size + 1]? = some (.cells #[.int .i64 0, .int .u8 0, .int .u8 0, .int .u8 0, .int .u8 0, .int .u8 0, .int .u8 0, .int .i64 0, .int .i64 0, .int .u8 0, .int .u8 0, .int .u8 0, .int .u8 0, .int .u8 0, .int .u8 0, .int .i64 0, .int .i64 0] 27 (0, 0))) := Lib.hid ((heap_setCell_other W _ _ _ (by simp)).trans Q2.out)
    have S2 : Hid (Step None w (W.setCell (⟨w.heap.size, 7, none⟩ : Addr) (Value.int .i64 (x.c + k)))) := Lib.hid (S1.out.setCell (fun h => by simp at h) _)
    go_wp2_with (first
      | (refine wpList_load_row rfl 27 (.tmp 2) rfl w.heap.size rfl 27 #[.int .i64 x.r.p, .int .u8 x.r.m0, .int .u8 x.r.m1, .int .u8 x.r.m2, .int .u8 x.r.m3, .int .u8 x.r.m4, .int .u8 x.r.m5, .int .i64 (x.c + k), .int .i64 x.b.p, .int .u8 x.b.m0, .int .u8 x.b.m1, .int .u8 x.b.m2, .int .u8 x.b.m3, .int .u8 x.b.m4, .int .u8 x.b.m5, .int .i64 x.p, .int .i64 x.o] (0, 0) _ (by exact R1.out) Try.underlying27 rfl (by kernel_rfl) ?_)
      | (refine wpList_store_row rfl 27 (.tmp 4) (.tmp 18) rfl (w.heap.size + 1) #[.int .i64 x.r.p, .int .u8 x.r.m0, .int .u8 x.r.m1, .int .u8 x.r.m2, .int .u8 x.r.m3, .int .u8 x.r.m4, .int .u8 x.r.m5, .int .i64 (x.c + k), .int .i64 x.b.p, .int .u8 x.b.m0, .int .u8 x.b.m1, .int .u8 x.b.m2, .int .u8 x.b.m3, .int .u8 x.b.m4, .int .u8 x.b.m5, .int .i64 x.p, .int .i64 x.o] rfl rfl 27 #[.int .i64 0, .int .u8 0, .int .u8 0, .int .u8 0, .int .u8 0, .int .u8 0, .int .u8 0, .int .i64 0, .int .i64 0, .int .u8 0, .int .u8 0, .int .u8 0, .int .u8 0, .int .u8 0, .int .u8 0, .int .i64 0, .int .i64 0] R2.out (by kernel_rfl) rfl (by simp [Value.oneCell']) ?_))
    (try simp only [Exit.inBlock, Exit.then])
    refine bodyPost_ret (results_cell_row (P := Try.prog) (fn := Try.f19) rfl _ _ (w.heap.size + 1) 27 #[.int .i64 x.r.p, .int .u8 x.r.m0, .int .u8 x.r.m1, .int .u8 x.r.m2, .int .u8 x.r.m3, .int .u8 x.r.m4, .int .u8 x.r.m5, .int .i64 (x.c + k), .int .i64 x.b.p, .int .u8 x.b.m0, .int .u8 x.b.m1, .int .u8 x.b.m2, .int .u8 x.b.m3, .int .u8 x.b.m4, .int .u8 x.b.m5, .int .i64 x.p, .int .i64 x.o] (0, 0) _ rfl (setRow_heap _ _ _ _ _ _ R2.out) Try.underlying27 rfl (by kernel_rfl)) rfl ?_
    rw [e1.out]
    exact ⟨rfl, step_setRow S2.out (fun h => by omega) _⟩
  · have e1 := Lib.hid (show d = 4294967295 by rw [← HD.out]; simp [addC, h1, h2, h3])
    have hm : 4294967295 < x.c + k := by omega
    clear g h3
    have r1 := blk_set Q1.out 7 (Value.int .i64 (4294967295))
    simp only [List.setIfInBounds_toArray, List.set_cons_zero, List.set_cons_succ] at r1
    have R1 := Lib.hid r1
    clear r1
    have R2 : Hid ((W.setCell (⟨w.heap.size, 7, none⟩ : Addr) (Value.int .i64 (4294967295))).heap[w.heap.size + 1]? = some (.cells #[.int .i64 0, .int .u8 0, .int .u8 0, .int .u8 0, .int .u8 0, .int .u8 0, .int .u8 0, .int .i64 0, .int .i64 0, .int .u8 0, .int .u8 0, .int .u8 0, .int .u8 0, .int .u8 0, .int .u8 0, .int .i64 0, .int .i64 0] 27 (0, 0))) := Lib.hid ((heap_setCell_other W _ _ _ (by simp)).trans Q2.out)
    have S2 : Hid (Step None w (W.setCell (⟨w.heap.size, 7, none⟩ : Addr) (Value.int .i64 (4294967295)))) := Lib.hid (S1.out.setCell (fun h => by simp at h) _)
    go_wp2_with (first
      | (refine wpList_load_row rfl 27 (.tmp 2) rfl w.heap.size rfl 27 #[.int .i64 x.r.p, .int .u8 x.r.m0, .int .u8 x.r.m1, .int .u8 x.r.m2, .int .u8 x.r.m3, .int .u8 x.r.m4, .int .u8 x.r.m5, .int .i64 (4294967295), .int .i64 x.b.p, .int .u8 x.b.m0, .int .u8 x.b.m1, .int .u8 x.b.m2, .int .u8 x.b.m3, .int .u8 x.b.m4, .int .u8 x.b.m5, .int .i64 x.p, .int .i64 x.o] (0, 0) _ (by exact R1.out) Try.underlying27 rfl (by kernel_rfl) ?_)
      | (refine wpList_store_row rfl 27 (.tmp 4) (.tmp 18) rfl (w.heap.size + 1) #[.int .i64 x.r.p, .int .u8 x.r.m0, .int .u8 x.r.m1, .int .u8 x.r.m2, .int .u8 x.r.m3, .int .u8 x.r.m4, .int .u8 x.r.m5, .int .i64 (4294967295), .int .i64 x.b.p, .int .u8 x.b.m0, .int .u8 x.b.m1, .int .u8 x.b.m2, .int .u8 x.b.m3, .int .u8 x.b.m4, .int .u8 x.b.m5, .int .i64 x.p, .int .i64 x.o] rfl rfl 27 #[.int .i64 0, .int .u8 0, .int .u8 0, .int .u8 0, .int .u8 0, .int .u8 0, .int .u8 0, .int .i64 0, .int .i64 0, .int .u8 0, .int .u8 0, .int .u8 0, .int .u8 0, .int .u8 0, .int .u8 0, .int .i64 0, .int .i64 0] R2.out (by kernel_rfl) rfl (by simp [Value.oneCell']) ?_))
    (try simp only [Exit.inBlock, Exit.then])
    refine bodyPost_ret (results_cell_row (P := Try.prog) (fn := Try.f19) rfl _ _ (w.heap.size + 1) 27 #[.int .i64 x.r.p, .int .u8 x.r.m0, .int .u8 x.r.m1, .int .u8 x.r.m2, .int .u8 x.r.m3, .int .u8 x.r.m4, .int .u8 x.r.m5, .int .i64 (4294967295), .int .i64 x.b.p, .int .u8 x.b.m0, .int .u8 x.b.m1, .int .u8 x.b.m2, .int .u8 x.b.m3, .int .u8 x.b.m4, .int .u8 x.b.m5, .int .i64 x.p, .int .i64 x.o] (0, 0) _ rfl (setRow_heap _ _ _ _ _ _ R2.out) Try.underlying27 rfl (by kernel_rfl)) rfl ?_
    rw [e1.out]
    exact ⟨rfl, step_setRow S2.out (fun h => by omega) _⟩

theorem isC_false {n : Int} (h : n < 0 ∨ 4294967295 < n) : isC n = false := by simp [isC]; omega
theorem isC_true {n : Int} (h : ¬ n < 0 ∧ ¬ 4294967295 < n) : isC n = true := by simp [isC]; omega

set_option maxHeartbeats 2000000 in
theorem radd_any (x : Vec) (k : Int) (w : World) :
    Calls Try.prog 20 #[.agg x.cells, .int .i64 k] w fun e w' => e = .returned (.agg (x.add k).cells) ∧ Step None w w' := by
  obtain ⟨d, hd⟩ : ∃ d, addC x.c k = d := ⟨_, rfl⟩
  unfold Vec.add
  rw [hd]
  have HD := Lib.hid hd
  clear hd
  obtain ⟨q1, q2⟩ := two_new w x.cells #[.int .i64 0, .int .u8 0, .int .u8 0, .int .u8 0, .int .u8 0, .int .u8 0, .int .u8 0, .int .i64 0, .int .i64 0, .int .u8 0, .int .u8 0, .int .u8 0, .int .u8 0, .int .u8 0, .int .u8 0, .int .i64 0, .int .i64 0] 27 27
  have q3 := ((Step.refl None w).alloc (.cells x.cells 27)).alloc (.cells #[.int .i64 0, .int .u8 0, .int .u8 0, .int .u8 0, .int .u8 0, .int .u8 0, .int .u8 0, .int .i64 0, .int .i64 0, .int .u8 0, .int .u8 0, .int .u8 0, .int .u8 0, .int .u8 0, .int .u8 0, .int .i64 0, .int .i64 0] 27)
  obtain ⟨W, hW⟩ : ∃ W, (w.alloc (.cells x.cells 27)).alloc (.cells #[.int .i64 0, .int .u8 0, .int .u8 0, .int .u8 0, .int .u8 0, .int .u8 0, .int .u8 0, .int .i64 0, .int .i64 0, .int .u8 0, .int .u8 0, .int .u8 0, .int .u8 0, .int .u8 0, .int .u8 0, .int .i64 0, .int .i64 0] 27) = W := ⟨_, rfl⟩
  rw [hW] at q1 q2 q3
  unfold Vec.cells at *
  dsimp only
  have HE := Lib.hid hW
  have S1 := Lib.hid q3
  have Q1 := Lib.hid q1
  have Q2 := Lib.hid q2
  have c7 := blk_cell q1 7
  have f7 := blk_frozen q1 7
  simp only [List.getElem?_toArray, List.getElem?_cons_zero, List.getElem?_cons_succ] at c7
  clear q1 q2 q3 hW
  go_enter Try.func20, Try.ntmps20
  by_cases d1 : x.c < 0
  · have d1' : decide (x.c < 0) = true := by simpa using d1
    have h1 : isC x.c = false := isC_false (.inl d1)
    have e1 := Lib.hid (show d = x.c by rw [← HD.out]; simp [addC, h1])
    go_wp2_with (first
      | rw [HE.out]
      | (refine wpList_load_row rfl 27 (.tmp 2) rfl w.heap.size rfl 27 #[.int .i64 x.r.p, .int .u8 x.r.m0, .int .u8 x.r.m1, .int .u8 x.r.m2, .int .u8 x.r.m3, .int .u8 x.r.m4, .int .u8 x.r.m5, .int .i64 (x.c), .int .i64 x.b.p, .int .u8 x.b.m0, .int .u8 x.b.m1, .int .u8 x.b.m2, .int .u8 x.b.m3, .int .u8 x.b.m4, .int .u8 x.b.m5, .int .i64 x.p, .int .i64 x.o] (0, 0) _ Q1.out Try.underlying27 rfl (by kernel_rfl) ?_)
      | (refine wpList_store_row rfl 27 (.tmp 4) (.tmp 21) rfl (w.heap.size + 1) #[.int .i64 x.r.p, .int .u8 x.r.m0, .int .u8 x.r.m1, .int .u8 x.r.m2, .int .u8 x.r.m3, .int .u8 x.r.m4, .int .u8 x.r.m5, .int .i64 (x.c), .int .i64 x.b.p, .int .u8 x.b.m0, .int .u8 x.b.m1, .int .u8 x.b.m2, .int .u8 x.b.m3, .int .u8 x.b.m4, .int .u8 x.b.m5, .int .i64 x.p, .int .i64 x.o] rfl rfl 27 #[.int .i64 0, .int .u8 0, .int .u8 0, .int .u8 0, .int .u8 0, .int .u8 0, .int .u8 0, .int .i64 0, .int .i64 0, .int .u8 0, .int .u8 0, .int .u8 0, .int .u8 0, .int .u8 0, .int .u8 0, .int .i64 0, .int .i64 0] Q2.out (by kernel_rfl) rfl (by simp [Value.oneCell']) ?_))
    (try simp only [Exit.inBlock, Exit.then])
    refine bodyPost_ret (results_cell_row (P := Try.prog) (fn := Try.f20) rfl _ _ (w.heap.size + 1) 27 #[.int .i64 x.r.p, .int .u8 x.r.m0, .int .u8 x.r.m1, .int .u8 x.r.m2, .int .u8 x.r.m3, .int .u8 x.r.m4, .int .u8 x.r.m5, .int .i64 (x.c), .int .i64 x.b.p, .int .u8 x.b.m0, .int .u8 x.b.m1, .int .u8 x.b.m2, .int .u8 x.b.m3, .int .u8 x.b.m4, .int .u8 x.b.m5, .int .i64 x.p, .int .i64 x.o] (0, 0) _ rfl (setRow_heap _ _ _ _ _ _ Q2.out) Try.underlying27 rfl (by kernel_rfl)) rfl ?_
    rw [e1.out]
    exact ⟨rfl, step_setRow S1.out (fun h => by omega) _⟩
  have d1' : decide (x.c < 0) = false := by simpa using d1
  by_cases d2 : 4294967295 < x.c
  · have d2' : decide (4294967295 < x.c) = true := by simpa using d2
    have h1 : isC x.c = false := isC_false (.inr d2)
    have e1 := Lib.hid (show d = x.c by rw [← HD.out]; simp [addC, h1])
    go_wp2_with (first
      | rw [HE.out]
      | (refine wpList_load_row rfl 27 (.tmp 2) rfl w.heap.size rfl 27 #[.int .i64 x.r.p, .int .u8 x.r.m0, .int .u8 x.r.m1, .int .u8 x.r.m2, .int .u8 x.r.m3, .int .u8 x.r.m4, .int .u8 x.r.m5, .int .i64 (x.c), .int .i64 x.b.p, .int .u8 x.b.m0, .int .u8 x.b.m1, .int .u8 x.b.m2, .int .u8 x.b.m3, .int .u8 x.b.m4, .int .u8 x.b.m5, .int .i64 x.p, .int .i64 x.o] (0, 0) _ Q1.out Try.underlying27 rfl (by kernel_rfl) ?_)
      | (refine wpList_store_row rfl 27 (.tmp 4) (.tmp 21) rfl (w.heap.size + 1) #[.int .i64 x.r.p, .int .u8 x.r.m0, .int .u8 x.r.m1, .int .u8 x.r.m2, .int .u8 x.r.m3, .int .u8 x.r.m4, .int .u8 x.r.m5, .int .i64 (x.c), .int .i64 x.b.p, .int .u8 x.b.m0, .int .u8 x.b.m1, .int .u8 x.b.m2, .int .u8 x.b.m3, .int .u8 x.b.m4, .int .u8 x.b.m5, .int .i64 x.p, .int .i64 x.o] rfl rfl 27 #[.int .i64 0, .int .u8 0, .int .u8 0, .int .u8 0, .int .u8 0, .int .u8 0, .int .u8 0, .int .i64 0, .int .i64 0, .int .u8 0, .int .u8 0, .int .u8 0, .int .u8 0, .int .u8 0, .int .u8 0, .int .i64 0, .int .i64 0] Q2.out (by kernel_rfl) rfl (by simp [Value.oneCell']) ?_))
    (try simp only [Exit.inBlock, Exit.then])
    refine bodyPost_ret (results_cell_row (P := Try.prog) (fn := Try.f20) rfl _ _ (w.heap.size + 1) 27 #[.int .i64 x.r.p, .int .u8 x.r.m0, .int .u8 x.r.m1, .int .u8 x.r.m2, .int .u8 x.r.m3, .int .u8 x.r.m4, .int .u8 x.r.m5, .int .i64 (x.c), .int .i64 x.b.p, .int .u8 x.b.m0, .int .u8 x.b.m1, .int .u8 x.b.m2, .int .u8 x.b.m3, .int .u8 x.b.m4, .int .u8 x.b.m5, .int .i64 x.p, .int .i64 x.o] (0, 0) _ rfl (setRow_heap _ _ _ _ _ _ Q2.out) Try.underlying27 rfl (by kernel_rfl)) rfl ?_
    rw [e1.out]
    exact ⟨rfl, step_setRow S1.out (fun h => by omega) _⟩
  have d2' : decide (4294967295 < x.c) = false := by simpa using d2
  have h1 : isC x.c = true := isC_true ⟨d1, d2⟩
  by_cases d3 : k < 0
  · have d3' : decide (k < 0) = true := by simpa using d3
    have h2 : isC k = false := isC_false (.inl d3)
    have e1 := Lib.hid (show d = x.c by rw [← HD.out]; simp [addC, h1, h2])
    go_wp2_with (first
      | rw [HE.out]
      | (refine wpList_load_row rfl 27 (.tmp 2) rfl w.heap.size rfl 27 #[.int .i64 x.r.p, .int .u8 x.r.m0, .int .u8 x.r.m1, .int .u8 x.r.m2, .int .u8 x.r.m3, .int .u8 x.r.m4, .int .u8 x.r.m5, .int .i64 (x.c), .int .i64 x.b.p, .int .u8 x.b.m0, .int .u8 x.b.m1, .int .u8 x.b.m2, .int .u8 x.b.m3, .int .u8 x.b.m4, .int .u8 x.b.m5, .int .i64 x.p, .int .i64 x.o] (0, 0) _ Q1.out Try.underlying27 rfl (by kernel_rfl) ?_)
      | (refine wpList_store_row rfl 27 (.tmp 4) (.tmp 21) rfl (w.heap.size + 1) #[.int .i64 x.r.p, .int .u8 x.r.m0, .int .u8 x.r.m1, .int .u8 x.r.m2, .int .u8 x.r.m3, .int .u8 x.r.m4, .int .u8 x.r.m5, .int .i64 (x.c), .int .i64 x.b.p, .int .u8 x.b.m0, .int .u8 x.b.m1, .int .u8 x.b.m2, .int .u8 x.b.m3, .int .u8 x.b.m4, .int .u8 x.b.m5, .int .i64 x.p, .int .i64 x.o] rfl rfl 27 #[.int .i64 0, .int .u8 0, .int .u8 0, .int .u8 0, .int .u8 0, .int .u8 0, .int .u8 0, .int .i64 0, .int .i64 0, .int .u8 0, .int .u8 0, .int .u8 0, .int .u8 0, .int .u8 0, .int .u8 0, .int .i64 0, .int .i64 0] Q2.out (by kernel_rfl) rfl (by simp [Value.oneCell']) ?_))
    (try simp only [Exit.inBlock, Exit.then])
    refine bodyPost_ret (results_cell_row (P := Try.prog) (fn := Try.f20) rfl _ _ (w.heap.size + 1) 27 #[.int .i64 x.r.p, .int .u8 x.r.m0, .int .u8 x.r.m1, .int .u8 x.r.m2, .int .u8 x.r.m3, .int .u8 x.r.m4, .int .u8 x.r.m5, .int .i64 (x.c), .int .i64 x.b.p, .int .u8 x.b.m0, .int .u8 x.b.m1, .int .u8 x.b.m2, .int .u8 x.b.m3, .int .u8 x.b.m4, .int .u8 x.b.m5, .int .i64 x.p, .int .i64 x.o] (0, 0) _ rfl (setRow_heap _ _ _ _ _ _ Q2.out) Try.underlying27 rfl (by kernel_rfl)) rfl ?_
    rw [e1.out]
    exact ⟨rfl, step_setRow S1.out (fun h => by omega) _⟩
  have d3' : decide (k < 0) = false := by simpa using d3
  by_cases d4 : 4294967295 < k
  · have d4' : decide (4294967295 < k) = true := by simpa using d4
    have h2 : isC k = false := isC_false (.inr d4)
    have e1 := Lib.hid (show d = x.c by rw [← HD.out]; simp [addC, h1, h2])
    go_wp2_with (first
      | rw [HE.out]
      | (refine wpList_load_row rfl 27 (.tmp 2) rfl w.heap.size rfl 27 #[.int .i64 x.r.p, .int .u8 x.r.m0, .int .u8 x.r.m1, .int .u8 x.r.m2, .int .u8 x.r.m3, .int .u8 x.r.m4, .int .u8 x.r.m5, .int .i64 (x.c), .int .i64 x.b.p, .int .u8 x.b.m0, .int .u8 x.b.m1, .int .u8 x.b.m2, .int .u8 x.b.m3, .int .u8 x.b.m4, .int .u8 x.b.m5, .int .i64 x.p, .int .i64 x.o] (0, 0) _ Q1.out Try.underlying27 rfl (by kernel_rfl) ?_)
      | (refine wpList_store_row rfl 27 (.tmp 4) (.tmp 21) rfl (w.heap.size + 1) #[.int .i64 x.r.p, .int .u8 x.r.m0, .int .u8 x.r.m1, .int .u8 x.r.m2, .int .u8 x.r.m3, .int .u8 x.r.m4, .int .u8 x.r.m5, .int .i64 (x.c), .int .i64 x.b.p, .int .u8 x.b.m0, .int .u8 x.b.m1, .int .u8 x.b.m2, .int .u8 x.b.m3, .int .u8 x.b.m4, .int .u8 x.b.m5, .int .i64 x.p, .int .i64 x.o] rfl rfl 27 #[.int .i64 0, .int .u8 0, .int .u8 0, .int .u8 0, .int .u8 0, .int .u8 0, .int .u8 0, .int .i64 0, .int .i64 0, .int .u8 0, .int .u8 0, .int .u8 0, .int .u8 0, .int .u8 0, .int .u8 0, .int .i64 0, .int .i64 0] Q2.out (by kernel_rfl) rfl (by simp [Value.oneCell']) ?_))
    (try simp only [Exit.inBlock, Exit.then])
    refine bodyPost_ret (results_cell_row (P := Try.prog) (fn := Try.f20) rfl _ _ (w.heap.size + 1) 27 #[.int .i64 x.r.p, .int .u8 x.r.m0, .int .u8 x.r.m1, .int .u8 x.r.m2, .int .u8 x.r.m3, .int .u8 x.r.m4, .int .u8 x.r.m5, .int .i64 (x.c), .int .i64 x.b.p, .int .u8 x.b.m0, .int .u8 x.b.m1, .int .u8 x.b.m2, .int .u8 x.b.m3, .int .u8 x.b.m4, .int .u8 x.b.m5, .int .i64 x.p, .int .i64 x.o] (0, 0) _ rfl (setRow_heap _ _ _ _ _ _ Q2.out) Try.underlying27 rfl (by kernel_rfl)) rfl ?_
    rw [e1.out]
    exact ⟨rfl, step_setRow S1.out (fun h => by omega) _⟩
  have d4' : decide (4294967295 < k) = false := by simpa using d4
  have h2 : isC k = true := isC_true ⟨d3, d4⟩
  have hw : IntKind.i64.wrap (x.c + k) = x.c + k := IntWalk.i64_in _ (by omega)
  by_cases h3 : x.c + k ≤ 4294967295
  · have e1 := Lib.hid (show d = x.c + k by rw [← HD.out]; simp [addC, h1, h2, h3])
    have hm : ¬ (4294967295 < x.c + k) := by omega
    clear h3 d1 d2 d3 d4
    have r1 := blk_set Q1.out 7 (Value.int .i64 (x.c + k))
    simp only [List.setIfInBounds_toArray, List.set_cons_zero, List.set_cons_succ] at r1
    have R1 := Lib.hid r1
    clear r1
    have R2 : Hid ((W.setCell (⟨w.heap.size, 7, none⟩ : Addr) (Value.int .i64 (x.c + k))).heap[w.heap.size + 1]? = some (.cells #[.int .i64 0, .int .u8 0, .int .u8 0, .int .u8 0, .int .u8 0, .int .u8 0, .int .u8 0, .int .i64 0, .int .i64 0, .int .u8 0, .int .u8 0, .int .u8 0, .int .u8 0, .int .u8 0, .int .u8 0, .int .i64 0, .int .i64 0] 27 (0, 0))) := Lib.hid ((heap_setCell_other W _ _ _ (by simp)).trans Q2.out)
    have S2 : Hid (Step None w (W.setCell (⟨w.heap.size, 7, none⟩ : Addr) (Value.int .i64 (x.c + k)))) := Lib.hid (S1.out.setCell (fun h => by simp at h) _)
    go_wp2_with (first
      | rw [HE.out]
      | (refine wpList_load_row rfl 27 (.tmp 2) rfl w.heap.size rfl 27 #[.int .i64 x.r.p, .int .u8 x.r.m0, .int .u8 x.r.m1, .int .u8 x.r.m2, .int .u8 x.r.m3, .int .u8 x.r.m4, .int .u8 x.r.m5, .int .i64 (x.c + k), .int .i64 x.b.p, .int .u8 x.b.m0, .int .u8 x.b.m1, .int .u8 x.b.m2, .int .u8 x.b.m3, .int .u8 x.b.m4, .int .u8 x.b.m5, .int .i64 x.p, .int .i64 x.o] (0, 0) _ (by exact R1.out) Try.underlying27 rfl (by kernel_rfl) ?_)
      | (refine wpList_store_row rfl 27 (.tmp 4) (.tmp 28) rfl (w.heap.size + 1) #[.int .i64 x.r.p, .int .u8 x.r.m0, .int .u8 x.r.m1, .int .u8 x.r.m2, .int .u8 x.r.m3, .int .u8 x.r.m4, .int .u8 x.r.m5, .int .i64 (x.c + k), .int .i64 x.b.p, .int .u8 x.b.m0, .int .u8 x.b.m1, .int .u8 x.b.m2, .int .u8 x.b.m3, .int .u8 x.b.m4, .int .u8 x.b.m5, .int .i64 x.p, .int .i64 x.o] rfl rfl 27 #[.int .i64 0, .int .u8 0, .int .u8 0, .int .u8 0, .int .u8 0, .int .u8 0, .int .u8 0, .int .i64 0, .int .i64 0, .int .u8 0, .int .u8 0, .int .u8 0, .int .u8 0, .int .u8 0, .int .u8 0, .int .i64 0, .int .i64 0] R2.out (by kernel_rfl) rfl (by simp [Value.oneCell']) ?_))
    (try simp only [Exit.inBlock, Exit.then])
    refine bodyPost_ret (results_cell_row (P := Try.prog) (fn := Try.f20) rfl _ _ (w.heap.size + 1) 27 #[.int .i64 x.r.p, .int .u8 x.r.m0, .int .u8 x.r.m1, .int .u8 x.r.m2, .int .u8 x.r.m3, .int .u8 x.r.m4, .int .u8 x.r.m5, .int .i64 (x.c + k), .int .i64 x.b.p, .int .u8 x.b.m0, .int .u8 x.b.m1, .int .u8 x.b.m2, .int .u8 x.b.m3, .int .u8 x.b.m4, .int .u8 x.b.m5, .int .i64 x.p, .int .i64 x.o] (0, 0) _ rfl (setRow_heap _ _ _ _ _ _ R2.out) Try.underlying27 rfl (by kernel_rfl)) rfl ?_
    rw [e1.out]
    exact ⟨rfl, step_setRow S2.out (fun h => by omega) _⟩
  · have e1 := Lib.hid (show d = 4294967295 by rw [← HD.out]; simp [addC, h1, h2, h3])
    have hm : 4294967295 < x.c + k := by omega
    clear h3 d1 d2 d3 d4
    have r1 := blk_set Q1.out 7 (Value.int .i64 (4294967295))
    simp only [List.setIfInBounds_toArray, List.set_cons_zero, List.set_cons_succ] at r1
    have R1 := Lib.hid r1
    clear r1
    have R2 : Hid ((W.setCell (⟨w.heap.size, 7, none⟩ : Addr) (Value.int .i64 (4294967295))).heap[w.heap.size + 1]? = some (.cells #[.int .i64 0, .int .u8 0, .int .u8 0, .int .u8 0, .int .u8 0, .int .u8 0, .int .u8 0, .int .i64 0, .int .i64 0, .int .u8 0, .int .u8 0, .int .u8 0, .int .u8 0, .int .u8 0, .int .u8 0, .int .i64 0, .int .i64 0] 27 (0, 0))) := Lib.hid ((heap_setCell_other W _ _ _ (by simp)).trans Q2.out)
    have S2 : Hid (Step None w (W.setCell (⟨w.heap.size, 7, none⟩ : Addr) (Value.int .i64 (4294967295)))) := Lib.hid (S1.out.setCell (fun h => by simp at h) _)
    go_wp2_with (first
      | rw [HE.out]
      | (refine wpList_load_row rfl 27 (.tmp 2) rfl w.heap.size rfl 27 #[.int .i64 x.r.p, .int .u8 x.r.m0, .int .u8 x.r.m1, .int .u8 x.r.m2, .int .u8 x.r.m3, .int .u8 x.r.m4, .int .u8 x.r.m5, .int .i64 (4294967295), .int .i64 x.b.p, .int .u8 x.b.m0, .int .u8 x.b.m1, .int .u8 x.b.m2, .int .u8 x.b.m3, .int .u8 x.b.m4, .int .u8 x.b.m5, .int .i64 x.p, .int .i64 x.o] (0, 0) _ (by exact R1.out) Try.underlying27 rfl (by kernel_rfl) ?_)
      | (refine wpList_store_row rfl 27 (.tmp 4) (.tmp 28) rfl (w.heap.size + 1) #[.int .i64 x.r.p, .int .u8 x.r.m0, .int .u8 x.r.m1, .int .u8 x.r.m2, .int .u8 x.r.m3, .int .u8 x.r.m4, .int .u8 x.r.m5, .int .i64 (4294967295), .int .i64 x.b.p, .int .u8 x.b.m0, .int .u8 x.b.m1, .int .u8 x.b.m2, .int .u8 x.b.m3, .int .u8 x.b.m4, .int .u8 x.b.m5, .int .i64 x.p, .int .i64 x.o] rfl rfl 27 #[.int .i64 0, .int .u8 0, .int .u8 0, .int .u8 0, .int .u8 0, .int .u8 0, .int .u8 0, .int .i64 0, .int .i64 0, .int .u8 0, .int .u8 0, .int .u8 0, .int .u8 0, .int .u8 0, .int .u8 0, .int .i64 0, .int .i64 0] R2.out (by kernel_rfl) rfl (by simp [Value.oneCell']) ?_))
    (try simp only [Exit.inBlock, Exit.then])
    refine bodyPost_ret (results_cell_row (P := Try.prog) (fn := Try.f20) rfl _ _ (w.heap.size + 1) 27 #[.int .i64 x.r.p, .int .u8 x.r.m0, .int .u8 x.r.m1, .int .u8 x.r.m2, .int .u8 x.r.m3, .int .u8 x.r.m4, .int .u8 x.r.m5, .int .i64 (4294967295), .int .i64 x.b.p, .int .u8 x.b.m0, .int .u8 x.b.m1, .int .u8 x.b.m2, .int .u8 x.b.m3, .int .u8 x.b.m4, .int .u8 x.b.m5, .int .i64 x.p, .int .i64 x.o] (0, 0) _ rfl (setRow_heap _ _ _ _ _ _ R2.out) Try.underlying27 rfl (by kernel_rfl)) rfl ?_
    rw [e1.out]
    exact ⟨rfl, step_setRow S2.out (fun h => by omega) _⟩

end Go.Proofs.Ytehlaomippbehaa
