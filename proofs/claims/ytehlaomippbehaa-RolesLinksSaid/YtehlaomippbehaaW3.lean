/- Ways, compared: the code and the document. -/
import Derived.Test.YtehlaomippbehaaW2
namespace Go.Proofs.Ytehlaomippbehaa
open Go.RowKit Go.Gm

/-- A way. -/
structure Vec where
  r : Idn
  c : Int
  b : Idn
  p : Int
  o : Int
def Vec.cells (x : Vec) : Array Value := #[.int .i64 x.r.p, .int .u8 x.r.m0, .int .u8 x.r.m1, .int .u8 x.r.m2, .int .u8 x.r.m3, .int .u8 x.r.m4, .int .u8 x.r.m5, .int .i64 x.c, .int .i64 x.b.p, .int .u8 x.b.m0, .int .u8 x.b.m1, .int .u8 x.b.m2, .int .u8 x.b.m3, .int .u8 x.b.m4, .int .u8 x.b.m5, .int .i64 x.p, .int .i64 x.o]
def Vec.flat (x : Vec) : List Int := x.r.flat ++ (x.c :: (x.b.flat ++ [x.p, x.o]))
/-- Bytes stand in it. -/
def Vec.fine (x : Vec) : Prop := Small x.r.mac ∧ Small x.b.mac

theorem firstNZ_cons (a : Int) (l : List Int) : firstNZ (a :: l) = if a = 0 then firstNZ l else a := rfl
theorem lex_cons (a b : Int) (x y : List Int) : lex (a :: x) (b :: y) = if cmpI a b = 0 then lex x y else cmpI a b := rfl

theorem lex_vec (x y : Vec) : firstNZ [lex x.r.flat y.r.flat, cmpI x.c y.c, lex x.b.flat y.b.flat, cmpI x.p y.p, cmpI x.o y.o] = lex x.flat y.flat := by
  have e : lex x.flat y.flat = if lex x.r.flat y.r.flat = 0 then lex (x.c :: (x.b.flat ++ [x.p, x.o])) (y.c :: (y.b.flat ++ [y.p, y.o])) else lex x.r.flat y.r.flat := lex_app (by rfl)
  rw [e, firstNZ_cons, firstNZ_cons, firstNZ_cons, firstNZ_cons, firstNZ_cons, lex_cons]
  rw [show lex (x.b.flat ++ [x.p, x.o]) (y.b.flat ++ [y.p, y.o]) = if lex x.b.flat y.b.flat = 0 then lex [x.p, x.o] [y.p, y.o] else lex x.b.flat y.b.flat from lex_app (by rfl), lex_cons, lex_one]
  have h0 : firstNZ [] = 0 := rfl
  rw [h0]
  split
  · split
    · split
      · split
        · split
          · rename_i h; exact h.symm
          · rfl
        · rfl
      · rfl
    · rfl
  · rfl

set_option maxHeartbeats 4000000 in
theorem vec_compare (x y : Vec) (w : World) (hx : x.fine) (hy : y.fine) :
    Calls Try.prog 17 #[.agg x.cells, .agg y.cells] w fun e w' => e = .returned (.int .i64 (lex x.flat y.flat)) ∧ Step None w w' := by
  obtain ⟨p1, p2⟩ := two_new w x.cells y.cells 27 27
  have st := ((Step.refl None w).alloc (.cells x.cells 27)).alloc (.cells y.cells 27)
  have R := Lib.hid (id_compare x.r y.r · hx.1 hy.1)
  have B := Lib.hid (id_compare x.b y.b · hx.2 hy.2)
  have K : Hid (∀ w', Step None ((w.alloc (.cells x.cells 27)).alloc (.cells y.cells 27)) w' → w'.cell? ⟨w.heap.size, 0, none⟩ = some (.int .i64 x.r.p) ∧ w'.cell? ⟨w.heap.size, 1, none⟩ = some (.int .u8 x.r.m0) ∧ w'.cell? ⟨w.heap.size, 2, none⟩ = some (.int .u8 x.r.m1) ∧ w'.cell? ⟨w.heap.size, 3, none⟩ = some (.int .u8 x.r.m2) ∧ w'.cell? ⟨w.heap.size, 4, none⟩ = some (.int .u8 x.r.m3) ∧ w'.cell? ⟨w.heap.size, 5, none⟩ = some (.int .u8 x.r.m4) ∧ w'.cell? ⟨w.heap.size, 6, none⟩ = some (.int .u8 x.r.m5) ∧ w'.cell? ⟨w.heap.size, 7, none⟩ = some (.int .i64 x.c) ∧ w'.cell? ⟨w.heap.size, 8, none⟩ = some (.int .i64 x.b.p) ∧ w'.cell? ⟨w.heap.size, 9, none⟩ = some (.int .u8 x.b.m0) ∧ w'.cell? ⟨w.heap.size, 10, none⟩ = some (.int .u8 x.b.m1) ∧ w'.cell? ⟨w.heap.size, 11, none⟩ = some (.int .u8 x.b.m2) ∧ w'.cell? ⟨w.heap.size, 12, none⟩ = some (.int .u8 x.b.m3) ∧ w'.cell? ⟨w.heap.size, 13, none⟩ = some (.int .u8 x.b.m4) ∧ w'.cell? ⟨w.heap.size, 14, none⟩ = some (.int .u8 x.b.m5) ∧ w'.cell? ⟨w.heap.size, 15, none⟩ = some (.int .i64 x.p) ∧ w'.cell? ⟨w.heap.size, 16, none⟩ = some (.int .i64 x.o) ∧ w'.cell? ⟨w.heap.size + 1, 0, none⟩ = some (.int .i64 y.r.p) ∧ w'.cell? ⟨w.heap.size + 1, 1, none⟩ = some (.int .u8 y.r.m0) ∧ w'.cell? ⟨w.heap.size + 1, 2, none⟩ = some (.int .u8 y.r.m1) ∧ w'.cell? ⟨w.heap.size + 1, 3, none⟩ = some (.int .u8 y.r.m2) ∧ w'.cell? ⟨w.heap.size + 1, 4, none⟩ = some (.int .u8 y.r.m3) ∧ w'.cell? ⟨w.heap.size + 1, 5, none⟩ = some (.int .u8 y.r.m4) ∧ w'.cell? ⟨w.heap.size + 1, 6, none⟩ = some (.int .u8 y.r.m5) ∧ w'.cell? ⟨w.heap.size + 1, 7, none⟩ = some (.int .i64 y.c) ∧ w'.cell? ⟨w.heap.size + 1, 8, none⟩ = some (.int .i64 y.b.p) ∧ w'.cell? ⟨w.heap.size + 1, 9, none⟩ = some (.int .u8 y.b.m0) ∧ w'.cell? ⟨w.heap.size + 1, 10, none⟩ = some (.int .u8 y.b.m1) ∧ w'.cell? ⟨w.heap.size + 1, 11, none⟩ = some (.int .u8 y.b.m2) ∧ w'.cell? ⟨w.heap.size + 1, 12, none⟩ = some (.int .u8 y.b.m3) ∧ w'.cell? ⟨w.heap.size + 1, 13, none⟩ = some (.int .u8 y.b.m4) ∧ w'.cell? ⟨w.heap.size + 1, 14, none⟩ = some (.int .u8 y.b.m5) ∧ w'.cell? ⟨w.heap.size + 1, 15, none⟩ = some (.int .i64 y.p) ∧ w'.cell? ⟨w.heap.size + 1, 16, none⟩ = some (.int .i64 y.o)) := fun w' h' => by
    have k : (∀ i, w'.cell? ⟨w.heap.size, i, none⟩ = x.cells[i]?) ∧ ∀ i, w'.cell? ⟨w.heap.size + 1, i, none⟩ = y.cells[i]? := ⟨fun i => blk_cell (h'.blk p1 (fun s => s.elim)) i, fun i => blk_cell (h'.blk p2 (fun s => s.elim)) i⟩
    exact ⟨k.1 0, k.1 1, k.1 2, k.1 3, k.1 4, k.1 5, k.1 6, k.1 7, k.1 8, k.1 9, k.1 10, k.1 11, k.1 12, k.1 13, k.1 14, k.1 15, k.1 16, k.2 0, k.2 1, k.2 2, k.2 3, k.2 4, k.2 5, k.2 6, k.2 7, k.2 8, k.2 9, k.2 10, k.2 11, k.2 12, k.2 13, k.2 14, k.2 15, k.2 16⟩
  have ST := Lib.hid st
  have Z := Lib.hid (Step.refl None ((w.alloc (.cells x.cells 27)).alloc (.cells y.cells 27))).drew
  clear st p1 p2 hx hy
  unfold Vec.cells at *
  unfold Idn.cells at R B
  go_enter Try.func17, Try.ntmps17
  go_wp2_with fail
  refine wp_region_plan (fun w' => w'.cell? ⟨w.heap.size, 0, none⟩ = some (.int .i64 x.r.p) ∧ w'.cell? ⟨w.heap.size, 1, none⟩ = some (.int .u8 x.r.m0) ∧ w'.cell? ⟨w.heap.size, 2, none⟩ = some (.int .u8 x.r.m1) ∧ w'.cell? ⟨w.heap.size, 3, none⟩ = some (.int .u8 x.r.m2) ∧ w'.cell? ⟨w.heap.size, 4, none⟩ = some (.int .u8 x.r.m3) ∧ w'.cell? ⟨w.heap.size, 5, none⟩ = some (.int .u8 x.r.m4) ∧ w'.cell? ⟨w.heap.size, 6, none⟩ = some (.int .u8 x.r.m5) ∧ w'.cell? ⟨w.heap.size, 7, none⟩ = some (.int .i64 x.c) ∧ w'.cell? ⟨w.heap.size, 8, none⟩ = some (.int .i64 x.b.p) ∧ w'.cell? ⟨w.heap.size, 9, none⟩ = some (.int .u8 x.b.m0) ∧ w'.cell? ⟨w.heap.size, 10, none⟩ = some (.int .u8 x.b.m1) ∧ w'.cell? ⟨w.heap.size, 11, none⟩ = some (.int .u8 x.b.m2) ∧ w'.cell? ⟨w.heap.size, 12, none⟩ = some (.int .u8 x.b.m3) ∧ w'.cell? ⟨w.heap.size, 13, none⟩ = some (.int .u8 x.b.m4) ∧ w'.cell? ⟨w.heap.size, 14, none⟩ = some (.int .u8 x.b.m5) ∧ w'.cell? ⟨w.heap.size, 15, none⟩ = some (.int .i64 x.p) ∧ w'.cell? ⟨w.heap.size, 16, none⟩ = some (.int .i64 x.o) ∧ w'.cell? ⟨w.heap.size + 1, 0, none⟩ = some (.int .i64 y.r.p) ∧ w'.cell? ⟨w.heap.size + 1, 1, none⟩ = some (.int .u8 y.r.m0) ∧ w'.cell? ⟨w.heap.size + 1, 2, none⟩ = some (.int .u8 y.r.m1) ∧ w'.cell? ⟨w.heap.size + 1, 3, none⟩ = some (.int .u8 y.r.m2) ∧ w'.cell? ⟨w.heap.size + 1, 4, none⟩ = some (.int .u8 y.r.m3) ∧ w'.cell? ⟨w.heap.size + 1, 5, none⟩ = some (.int .u8 y.r.m4) ∧ w'.cell? ⟨w.heap.size + 1, 6, none⟩ = some (.int .u8 y.r.m5) ∧ w'.cell? ⟨w.heap.size + 1, 7, none⟩ = some (.int .i64 y.c) ∧ w'.cell? ⟨w.heap.size + 1, 8, none⟩ = some (.int .i64 y.b.p) ∧ w'.cell? ⟨w.heap.size + 1, 9, none⟩ = some (.int .u8 y.b.m0) ∧ w'.cell? ⟨w.heap.size + 1, 10, none⟩ = some (.int .u8 y.b.m1) ∧ w'.cell? ⟨w.heap.size + 1, 11, none⟩ = some (.int .u8 y.b.m2) ∧ w'.cell? ⟨w.heap.size + 1, 12, none⟩ = some (.int .u8 y.b.m3) ∧ w'.cell? ⟨w.heap.size + 1, 13, none⟩ = some (.int .u8 y.b.m4) ∧ w'.cell? ⟨w.heap.size + 1, 14, none⟩ = some (.int .u8 y.b.m5) ∧ w'.cell? ⟨w.heap.size + 1, 15, none⟩ = some (.int .i64 y.p) ∧ w'.cell? ⟨w.heap.size + 1, 16, none⟩ = some (.int .i64 y.o)) (.take 0 (.take 1 (.take 2 (.take 3 (.take 5 (.take 6 (.take 7 (.take 8 (.take 10 (.take 11 (.take 12 (.take 13 (.take 15 (.take 16 (.take 17 (.take 18 (.take 20 (.take 21 (.take 22 (.take 23 (.alt 4 (.alt 9 (.alt 14 (.alt 19 (.alt 24 (.alt 25 (.alt 26 (.take 27 .done) .none) .none) .none) .none) .none) .none) .none))))))))))))))))))))) _
    (by simp only [Plan.map, opOf, List.getElem?_toArray, List.getElem?_cons_zero, List.getElem?_cons_succ, Option.getD_some]; rfl) (by kernel_rfl) (by kernel_rfl) (by kernel_rfl) (by decide) (by intro c a d v w; cases d <;> exact fun h => h) (K.out _ Z.out) ?_
  repeat (refine wpPlan.taken (by rfl) (by intro w' hS'; (try dsimp only at hS'); go_split_ands; go_simp; try with_reducible rfl) ?_; simp only [Act.put, List.setIfInBounds_toArray, List.set_cons_zero, List.set_cons_succ])
  have e0 := Z.out
  refine wpPlan.runs fun K' hK => ?_
  go_simp
  refine (R.out _).mono ?_
  rintro e w1 ⟨rfl, s1⟩
  have e1 := e0.then_ s1
  refine hK.out _ _ (K.out _ e1) ?_
  clear hK K' s1 e0
  refine wpPlan.runs fun K' hK => ?_
  go_simp
  refine (cmp_int x.c y.c _).mono ?_
  rintro e w2 ⟨rfl, rfl⟩
  refine hK.out _ _ (K.out _ e1) ?_
  clear hK K'
  refine wpPlan.runs fun K' hK => ?_
  go_simp
  refine (B.out _).mono ?_
  rintro e w3 ⟨rfl, s3⟩
  have e3 := e1.then_ s3
  refine hK.out _ _ (K.out _ e3) ?_
  clear hK K' s3 e1
  refine wpPlan.runs fun K' hK => ?_
  go_simp
  refine (cmp_int x.p y.p _).mono ?_
  rintro e w4 ⟨rfl, rfl⟩
  refine hK.out _ _ (K.out _ e3) ?_
  clear hK K'
  refine wpPlan.runs fun K' hK => ?_
  go_simp
  refine (cmp_int x.o y.o _).mono ?_
  rintro e w5 ⟨rfl, rfl⟩
  refine hK.out _ _ (K.out _ e3) ?_
  clear hK K'
  refine wpPlan.runs fun K' hK => ?_
  go_simp
  refine hK.out _ _ (K.out _ (e3.alloc _)) ?_
  clear hK K'
  refine wpPlan.runs fun K' hK => ?_
  go_simp
  refine (or_ints [lex x.r.flat y.r.flat, cmpI x.c y.c, lex x.b.flat y.b.flat, cmpI x.p y.p, cmpI x.o y.o] w3.heap.size 5 _ (by simp) ?hcells).mono ?_
  case hcells =>
    intro j z hj
    rw [blk_cell (heap_alloc_new w3 _)]
    match j, hj with
    | 0, hj => simp at hj; simp [hj]
    | 1, hj => simp at hj; simp [hj]
    | 2, hj => simp at hj; simp [hj]
    | 3, hj => simp at hj; simp [hj]
    | 4, hj => simp at hj; simp [hj]
    | j + 5, hj => simp at hj
  rintro e w6 ⟨rfl, rfl⟩
  refine hK.out _ _ (K.out _ (e3.alloc _)) ?_
  clear hK K'
  repeat (refine wpPlan.taken (by rfl) (by intro w' hS'; (try dsimp only at hS'); go_split_ands; go_simp; try with_reducible rfl) ?_; simp only [Act.put, List.setIfInBounds_toArray, List.set_cons_zero, List.set_cons_succ])
  refine wpPlan.done ?_
  have E := Lib.hid (ST.out.then_ (e3.alloc (.cells #[.int .i64 (lex x.r.flat y.r.flat), .int .i64 (cmpI x.c y.c), .int .i64 (lex x.b.flat y.b.flat), .int .i64 (cmpI x.p y.p), .int .i64 (cmpI x.o y.o)] 3)))
  clear e3
  go_wp2_with fail
  go_ret
  exact ⟨by rw [← lex_vec]; rfl, E.out⟩

set_option maxHeartbeats 4000000 in
theorem rvec_compare (x y : Vec) (w : World) (hx : x.fine) (hy : y.fine) :
    Calls Try.prog 18 #[.agg x.cells, .agg y.cells] w fun e w' => e = .returned (.int .i64 (lex x.flat y.flat)) ∧ Step None w w' := by
  obtain ⟨p1, p2⟩ := two_new w x.cells y.cells 27 27
  have st := ((Step.refl None w).alloc (.cells x.cells 27)).alloc (.cells y.cells 27)
  rw [← lex_vec]
  have R := Lib.hid (rid_compare x.r y.r · hx.1 hy.1)
  have B := Lib.hid (rid_compare x.b y.b · hx.2 hy.2)
  have C := Lib.hid (rnumber x.c y.c)
  have P := Lib.hid (rnumber x.p y.p)
  have O := Lib.hid (rnumber x.o y.o)
  have K : Hid (∀ w', Step None ((w.alloc (.cells x.cells 27)).alloc (.cells y.cells 27)) w' → (∀ i, w'.cell? ⟨w.heap.size, i, none⟩ = x.cells[i]?) ∧ ∀ i, w'.cell? ⟨w.heap.size + 1, i, none⟩ = y.cells[i]?) := fun w' h' =>
    ⟨fun i => blk_cell (h'.blk p1 (fun s => s.elim)) i, fun i => blk_cell (h'.blk p2 (fun s => s.elim)) i⟩
  have ST := Lib.hid st
  have Z := Lib.hid (Step.refl None ((w.alloc (.cells x.cells 27)).alloc (.cells y.cells 27)))
  clear st p1 p2 hx hy
  unfold Vec.cells at *
  unfold Idn.cells at R B
  generalize lex x.r.flat y.r.flat = l1 at *
  generalize lex x.b.flat y.b.flat = l3 at *
  generalize cmpI x.c y.c = l2 at *
  generalize cmpI x.p y.p = l4 at *
  generalize cmpI x.o y.o = l5 at *
  go_enter Try.func18, Try.ntmps18
  go_wp2_with fail
  refine (R.out _).mono ?_
  rintro e w1 ⟨rfl, s1⟩
  have Z1 := Lib.hid (Z.out.then_ s1)
  clear s1 Z
  have a7 := (K.out w1 Z1.out).1 7
  have b7 := (K.out w1 Z1.out).2 7
  have a8 := (K.out w1 Z1.out).1 8
  have b8 := (K.out w1 Z1.out).2 8
  have a9 := (K.out w1 Z1.out).1 9
  have b9 := (K.out w1 Z1.out).2 9
  have a10 := (K.out w1 Z1.out).1 10
  have b10 := (K.out w1 Z1.out).2 10
  have a11 := (K.out w1 Z1.out).1 11
  have b11 := (K.out w1 Z1.out).2 11
  have a12 := (K.out w1 Z1.out).1 12
  have b12 := (K.out w1 Z1.out).2 12
  have a13 := (K.out w1 Z1.out).1 13
  have b13 := (K.out w1 Z1.out).2 13
  have a14 := (K.out w1 Z1.out).1 14
  have b14 := (K.out w1 Z1.out).2 14
  have a15 := (K.out w1 Z1.out).1 15
  have b15 := (K.out w1 Z1.out).2 15
  have a16 := (K.out w1 Z1.out).1 16
  have b16 := (K.out w1 Z1.out).2 16
  simp only [List.getElem?_toArray, List.getElem?_cons_zero, List.getElem?_cons_succ] at a7 b7 a8 b8 a9 b9 a10 b10 a11 b11 a12 b12 a13 b13 a14 b14 a15 b15 a16 b16
  cases h1 : (l1 == 0)
  · go_wp2_with fail
    go_ret
    exact ⟨by rw [firstNZ_cons, if_neg (by simpa using h1)]; rfl, ST.out.then_ Z1.out⟩
  go_wp2_with fail
  refine (C.out _).mono ?_
  rintro e w2 ⟨rfl, rfl⟩
  cases h2 : (l2 == 0)
  · go_wp2_with fail
    go_ret
    exact ⟨by rw [firstNZ_cons, if_pos (by simpa using h1), firstNZ_cons, if_neg (by simpa using h2)]; rfl, ST.out.then_ Z1.out⟩
  go_wp2_with fail
  refine (B.out _).mono ?_
  rintro e w3 ⟨rfl, s3⟩
  have Z3 := Lib.hid (Z1.out.then_ s3)
  clear s3 Z1 a7 b7 a8 b8 a9 b9 a10 b10 a11 b11 a12 b12 a13 b13 a14 b14 a15 b15 a16 b16
  have a15 := (K.out w3 Z3.out).1 15
  have b15 := (K.out w3 Z3.out).2 15
  have a16 := (K.out w3 Z3.out).1 16
  have b16 := (K.out w3 Z3.out).2 16
  simp only [List.getElem?_toArray, List.getElem?_cons_zero, List.getElem?_cons_succ] at a15 b15 a16 b16
  cases h3 : (l3 == 0)
  · go_wp2_with fail
    go_ret
    exact ⟨by rw [firstNZ_cons, if_pos (by simpa using h1), firstNZ_cons, if_pos (by simpa using h2), firstNZ_cons, if_neg (by simpa using h3)]; rfl, ST.out.then_ Z3.out⟩
  go_wp2_with fail
  refine (P.out _).mono ?_
  rintro e w4 ⟨rfl, rfl⟩
  cases h4 : (l4 == 0)
  · go_wp2_with fail
    go_ret
    exact ⟨by rw [firstNZ_cons, if_pos (by simpa using h1), firstNZ_cons, if_pos (by simpa using h2), firstNZ_cons, if_pos (by simpa using h3), firstNZ_cons, if_neg (by simpa using h4)]; rfl, ST.out.then_ Z3.out⟩
  go_wp2_with fail
  refine (O.out _).mono ?_
  rintro e w5 ⟨rfl, rfl⟩
  go_wp2_with fail
  go_ret
  exact ⟨by
    rw [firstNZ_cons, if_pos (by simpa using h1), firstNZ_cons, if_pos (by simpa using h2), firstNZ_cons, if_pos (by simpa using h3), firstNZ_cons, if_pos (by simpa using h4), firstNZ_cons]
    split
    · rename_i h; subst h; rfl
    · rfl, ST.out.then_ Z3.out⟩

end Go.Proofs.Ytehlaomippbehaa
