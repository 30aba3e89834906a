/- Two bridges, compared: the code and the document. -/
import Derived.Test.YtehlaomippbehaaLexb
import Derived.Test.YtehlaomippbehaaPlan
import Derived.Test.YtehlaomippbehaaTyp
import Derived.Test.YtehlaomippbehaaRows
namespace Go.Proofs.Ytehlaomippbehaa
open Go.RowKit Go.Gm

/-- A bridge's name. -/
structure Idn where
  p : Int
  m0 : Int
  m1 : Int
  m2 : Int
  m3 : Int
  m4 : Int
  m5 : Int
def Idn.mac (x : Idn) : List Int := [x.m0, x.m1, x.m2, x.m3, x.m4, x.m5]
def Idn.flat (x : Idn) : List Int := x.p :: x.mac
def Idn.cells (x : Idn) : Array Value := #[.int .i64 x.p, .int .u8 x.m0, .int .u8 x.m1, .int .u8 x.m2, .int .u8 x.m3, .int .u8 x.m4, .int .u8 x.m5]
def macV (x : Idn) : Array Value := #[.int .u8 x.m0, .int .u8 x.m1, .int .u8 x.m2, .int .u8 x.m3, .int .u8 x.m4, .int .u8 x.m5]

theorem bytes_compare (xs ys : List Int) (a b : Addr) (c d : Nat) (w : World) (hx : Small xs) (hy : Small ys) (ha : ∀ j x, xs[j]? = some x → w.cell? (a.add j) = some (.int .u8 x)) (hb : ∀ j x, ys[j]? = some x → w.cell? (b.add j) = some (.int .u8 x)) :
    Calls Try.prog 51 #[.slice (some a) xs.length c, .slice (some b) ys.length d] w fun e w' => e = .returned (.int .i64 (lex xs ys)) ∧ w = w' := by
  have H := Lib.hid (run_compareSlices (P := Try.prog) (c := c) (d := d) hx hy ha hb)
  clear hx hy ha hb
  go_enter Try.func51, Try.ntmps51
  go_wp2_with fail
  rw [run_callFunc_extern Try.func53 (by kernel_rfl) (by kernel_rfl) (by kernel_rfl) (e := Extern.BytealgCompare.compare) (by kernel_rfl), H.out]
  simp only [Result.andThen]
  rw [Oper.upon_value]
  go_wp2
  go_ret
  exact ⟨rfl, rfl⟩

theorem firstNZ_drop {l : List Int} {j : Nat} {x : Int} (h : l[j]? = some x) : firstNZ (l.drop j) = if x = 0 then firstNZ (l.drop (j + 1)) else x := by
  obtain ⟨hj, rfl⟩ := List.getElem?_eq_some_iff.1 h
  rw [List.drop_eq_getElem_cons hj]
  rfl

theorem or_ints (l : List Int) (g : Nat) (c : Nat) (w : World) (hl : l.length ≤ 10) (hc : ∀ j x, l[j]? = some x → w.cell? ⟨g, j, none⟩ = some (.int .i64 x)) :
    Calls Try.prog 32 #[.slice (some ⟨g, 0, none⟩) l.length c] w fun e w' => e = .returned (.int .i64 (firstNZ l)) ∧ w = w' := by
  have H := Lib.hid hc
  clear hc
  go_enter Try.func32, Try.ntmps32
  go_wp2_with fail
  go_loopw [5, 8] (fun _ i wr => ∃ j : Nat, j ≤ l.length ∧ i = .int .i64 j ∧ Hid (firstNZ (l.drop j) = firstNZ l) ∧ wr = w) (fun _ i _ => l.length - (intOf i).toNat)
  case atStart => exact ⟨0, Nat.zero_le _, rfl, Lib.hid rfl, rfl⟩
  case round =>
    obtain ⟨j, hj, rfl, hd, rfl⟩ := hrel
    by_cases h : j < l.length
    · have d1 : decide ((j : Int) < (l.length : Int)) = true := by simpa using h
      have c0 : (0 : Int) ≤ (j : Int) := by omega
      have c1 : (j : Int) < (l.length : Int) := by omega
      have hx := H.out j l[j] (List.getElem?_eq_getElem h)
      have hf := firstNZ_drop (List.getElem?_eq_getElem h)
      have HF := Lib.hid hf
      clear hf
      have hw1 : IntKind.i64.wrap ((j : Int) + 1) = ((j + 1 : Nat) : Int) := by rw [IntWalk.i64_in _ (by omega)]; omega
      generalize l[j] = x at *
      cases hz : (x == 0)
      · have hz' : (x != 0) = true := by simp [bne, hz]
        go_wp2_with fail
        go_ret
        refine ⟨?_, rfl⟩
        rw [← hd.out, HF.out, if_neg (by simpa using hz)]
        rfl
      · have hz' : (x != 0) = false := by simp [bne, hz]
        go_wp2_with fail
        go_roundw
        case rel => exact ⟨j + 1, by omega, rfl, Lib.hid (by rw [← hd.out, HF.out, if_pos (by simpa using hz)]), by trivial⟩
        case measure => simp [intOf]; omega
    · have d1 : decide ((j : Int) < (l.length : Int)) = false := by simpa using h
      go_wp2_with fail
      go_ret
      refine ⟨?_, rfl⟩
      rw [← hd.out, List.drop_eq_nil_of_le (by omega)]
      rfl

theorem cmp_int (x y : Int) (w : World) : Calls Try.prog 34 #[.int .i64 x, .int .i64 y] w fun e w' => e = .returned (.int .i64 (cmpI x y)) ∧ w = w' := by
  unfold cmpI
  go_enter Try.func34, Try.ntmps34
  by_cases h1 : x < y
  · have d1 : decide (x < y) = true := by simpa using h1
    rw [if_pos h1]
    go_wp2
    go_ret
    exact ⟨rfl, rfl⟩
  · have d1 : decide (x < y) = false := by simpa using h1
    rw [if_neg h1]
    by_cases h2 : y < x
    · have d2 : decide (y < x) = true := by simpa using h2
      rw [if_pos h2]
      go_wp2
      go_ret
      exact ⟨rfl, rfl⟩
    · have d2 : decide (y < x) = false := by simpa using h2
      rw [if_neg h2]
      go_wp2
      go_ret
      exact ⟨rfl, rfl⟩

theorem rnumber (x y : Int) (w : World) : Calls Try.prog 35 #[.int .i64 x, .int .i64 y] w fun e w' => e = .returned (.int .i64 (cmpI x y)) ∧ w = w' := by
  unfold cmpI
  go_enter Try.func35, Try.ntmps35
  by_cases h1 : x < y
  · have d1 : decide (x < y) = true := by simpa using h1
    rw [if_pos h1]
    go_wp2
    go_ret
    exact ⟨rfl, rfl⟩
  · have d1 : decide (x < y) = false := by simpa using h1
    rw [if_neg h1]
    by_cases h2 : y < x
    · have d2 : decide (y < x) = true := by simpa using h2
      rw [if_pos h2]
      go_wp2
      go_ret
      exact ⟨rfl, rfl⟩
    · have d2 : decide (y < x) = false := by simpa using h2
      rw [if_neg h2]
      go_wp2
      go_ret
      exact ⟨rfl, rfl⟩

theorem mac_cells {w : World} {g : Nat} {t : TypeId} {x : Idn} (h : w.heap[g]? = some (.cells (macV x) t (0, 0))) : ∀ j y, x.mac[j]? = some y → w.cell? ((⟨g, 0, none⟩ : Addr).add j) = some (.int .u8 y) := fun j y hj => by
  rw [add_plain, blk_cell h]
  match j, hj with
  | 0, hj => simp [Idn.mac] at hj; simp [macV, hj]
  | 1, hj => simp [Idn.mac] at hj; simp [macV, hj]
  | 2, hj => simp [Idn.mac] at hj; simp [macV, hj]
  | 3, hj => simp [Idn.mac] at hj; simp [macV, hj]
  | 4, hj => simp [Idn.mac] at hj; simp [macV, hj]
  | 5, hj => simp [Idn.mac] at hj; simp [macV, hj]
  | j + 6, hj => simp [Idn.mac] at hj

/-- Two blocks, laid one behind the other. -/
theorem two_new (w : World) (a b : Array Value) (s t : TypeId) : ((w.alloc (.cells a s)).alloc (.cells b t)).heap[w.heap.size]? = some (.cells a s (0, 0)) ∧ ((w.alloc (.cells a s)).alloc (.cells b t)).heap[w.heap.size + 1]? = some (.cells b t (0, 0)) := by
  refine ⟨(Below.heap_alloc _ _ _ (by simp)).trans (heap_alloc_new _ _), ?_⟩
  have := heap_alloc_new (w.alloc (.cells a s)) (.cells b t)
  simpa using this

set_option maxHeartbeats 2000000 in
theorem mac_compare (x y : Idn) (w : World) (hx : Small x.mac) (hy : Small y.mac) :
    Calls Try.prog 44 #[.agg (macV x), .agg (macV y)] w fun e w' => e = .returned (.int .i64 (lex x.mac y.mac)) ∧ Step None w w' := by
  obtain ⟨p1, p2⟩ := two_new w (macV x) (macV y) 23 23
  have st := ((Step.refl None w).alloc (.cells (macV x) 23)).alloc (.cells (macV y) 23)
  have H : Hid (∀ w', Step None ((w.alloc (.cells (macV x) 23)).alloc (.cells (macV y) 23)) w' → Calls Try.prog 51 #[.slice (some ⟨w.heap.size, 0, none⟩) 6 6, .slice (some ⟨w.heap.size + 1, 0, none⟩) 6 6] w' fun e w'' => e = .returned (.int .i64 (lex x.mac y.mac)) ∧ w' = w'') := fun w' h' =>
    bytes_compare x.mac y.mac _ _ 6 6 w' hx hy (mac_cells (h'.blk p1 (fun s => s.elim))) (mac_cells (h'.blk p2 (fun s => s.elim)))
  have ST := Lib.hid st
  clear st p1 p2
  unfold macV at *
  go_enter Try.func44, Try.ntmps44
  go_wp2_with fail
  refine wp_region_plan (fun w' => True) (.take 0 (.take 1 (.alt 2 (.take 3 .done) .none))) _
    (by simp only [Plan.map, opOf, List.getElem?_toArray, List.getElem?_cons_zero, List.getElem?_cons_succ, Option.getD_some]; rfl) (by kernel_rfl) (by kernel_rfl) (by kernel_rfl) (by decide) (by intro c a d v w; cases d <;> exact fun h => h) trivial ?_
  repeat (refine wpPlan.taken (by rfl) (by intro w' hS'; (try dsimp only at hS'); go_split_ands; go_simp; try with_reducible rfl) ?_; simp only [Act.put, List.setIfInBounds_toArray, List.set_cons_zero, List.set_cons_succ])
  refine wpPlan.runs fun K' hK => ?_
  go_simp
  refine (H.out _ (Step.refl None _).drew).mono ?_
  rintro e w3 ⟨rfl, rfl⟩
  refine hK.out _ _ trivial ?_
  clear hK K'
  repeat (refine wpPlan.taken (by rfl) (by intro w' hS'; (try dsimp only at hS'); go_split_ands; go_simp; try with_reducible rfl) ?_; simp only [Act.put, List.setIfInBounds_toArray, List.set_cons_zero, List.set_cons_succ])
  refine wpPlan.done ?_
  go_wp2_with fail
  go_ret
  exact ⟨rfl, ST.out.drew⟩

theorem lex_id {x y : Idn} : firstNZ [cmpI x.p y.p, lex x.mac y.mac] = lex x.flat y.flat := by
  simp only [firstNZ, Idn.flat, lex]
  by_cases h : cmpI x.p y.p = 0
  · rw [if_pos h, if_pos h]
    split
    · rename_i h2; exact h2.symm
    · rfl
  · rw [if_neg h, if_neg h]

set_option maxHeartbeats 2000000 in
theorem id_compare (x y : Idn) (w : World) (hx : Small x.mac) (hy : Small y.mac) :
    Calls Try.prog 33 #[.agg x.cells, .agg y.cells] w fun e w' => e = .returned (.int .i64 (lex x.flat y.flat)) ∧ Step None w w' := by
  obtain ⟨p1, p2⟩ := two_new w x.cells y.cells 25 25
  have st := ((Step.refl None w).alloc (.cells x.cells 25)).alloc (.cells y.cells 25)
  have H := Lib.hid (mac_compare x y · hx hy)
  have K : Hid (∀ w', Step None ((w.alloc (.cells x.cells 25)).alloc (.cells y.cells 25)) w' → w'.cell? ⟨w.heap.size, 0, none⟩ = some (.int .i64 x.p) ∧ w'.cell? ⟨w.heap.size, 1, none⟩ = some (.int .u8 x.m0) ∧ w'.cell? ⟨w.heap.size, 2, none⟩ = some (.int .u8 x.m1) ∧ w'.cell? ⟨w.heap.size, 3, none⟩ = some (.int .u8 x.m2) ∧ w'.cell? ⟨w.heap.size, 4, none⟩ = some (.int .u8 x.m3) ∧ w'.cell? ⟨w.heap.size, 5, none⟩ = some (.int .u8 x.m4) ∧ w'.cell? ⟨w.heap.size, 6, none⟩ = some (.int .u8 x.m5) ∧ w'.cell? ⟨w.heap.size + 1, 0, none⟩ = some (.int .i64 y.p) ∧ w'.cell? ⟨w.heap.size + 1, 1, none⟩ = some (.int .u8 y.m0) ∧ w'.cell? ⟨w.heap.size + 1, 2, none⟩ = some (.int .u8 y.m1) ∧ w'.cell? ⟨w.heap.size + 1, 3, none⟩ = some (.int .u8 y.m2) ∧ w'.cell? ⟨w.heap.size + 1, 4, none⟩ = some (.int .u8 y.m3) ∧ w'.cell? ⟨w.heap.size + 1, 5, none⟩ = some (.int .u8 y.m4) ∧ w'.cell? ⟨w.heap.size + 1, 6, none⟩ = some (.int .u8 y.m5)) := fun w' h' => by
    have k : (∀ i, w'.cell? ⟨w.heap.size, i, none⟩ = x.cells[i]?) ∧ ∀ i, w'.cell? ⟨w.heap.size + 1, i, none⟩ = y.cells[i]? := ⟨fun i => blk_cell (h'.blk p1 (fun s => s.elim)) i, fun i => blk_cell (h'.blk p2 (fun s => s.elim)) i⟩
    exact ⟨k.1 0, k.1 1, k.1 2, k.1 3, k.1 4, k.1 5, k.1 6, k.2 0, k.2 1, k.2 2, k.2 3, k.2 4, k.2 5, k.2 6⟩
  have ST := Lib.hid st
  clear st p1 p2
  unfold Idn.cells at *
  unfold macV at H
  go_enter Try.func33, Try.ntmps33
  go_wp2_with fail
  refine wp_region_plan (fun w' => w'.cell? ⟨w.heap.size, 0, none⟩ = some (.int .i64 x.p) ∧ w'.cell? ⟨w.heap.size, 1, none⟩ = some (.int .u8 x.m0) ∧ w'.cell? ⟨w.heap.size, 2, none⟩ = some (.int .u8 x.m1) ∧ w'.cell? ⟨w.heap.size, 3, none⟩ = some (.int .u8 x.m2) ∧ w'.cell? ⟨w.heap.size, 4, none⟩ = some (.int .u8 x.m3) ∧ w'.cell? ⟨w.heap.size, 5, none⟩ = some (.int .u8 x.m4) ∧ w'.cell? ⟨w.heap.size, 6, none⟩ = some (.int .u8 x.m5) ∧ w'.cell? ⟨w.heap.size + 1, 0, none⟩ = some (.int .i64 y.p) ∧ w'.cell? ⟨w.heap.size + 1, 1, none⟩ = some (.int .u8 y.m0) ∧ w'.cell? ⟨w.heap.size + 1, 2, none⟩ = some (.int .u8 y.m1) ∧ w'.cell? ⟨w.heap.size + 1, 3, none⟩ = some (.int .u8 y.m2) ∧ w'.cell? ⟨w.heap.size + 1, 4, none⟩ = some (.int .u8 y.m3) ∧ w'.cell? ⟨w.heap.size + 1, 5, none⟩ = some (.int .u8 y.m4) ∧ w'.cell? ⟨w.heap.size + 1, 6, none⟩ = some (.int .u8 y.m5)) (.take 0 (.take 1 (.take 2 (.take 3 (.take 5 (.take 6 (.take 7 (.take 8 (.alt 4 (.alt 9 (.alt 10 (.alt 11 (.take 12 .done) .none) .none) .none) .none))))))))) _
    (by simp only [Plan.map, opOf, List.getElem?_toArray, List.getElem?_cons_zero, List.getElem?_cons_succ, Option.getD_some]; rfl) (by kernel_rfl) (by kernel_rfl) (by kernel_rfl) (by decide) (by intro c a d v w; cases d <;> exact fun h => h) (K.out _ (Step.refl None _).drew) ?_
  repeat (refine wpPlan.taken (by rfl) (by intro w' hS'; (try dsimp only at hS'); go_split_ands; go_simp; try with_reducible rfl) ?_; simp only [Act.put, List.setIfInBounds_toArray, List.set_cons_zero, List.set_cons_succ])
  have e0 := (Step.refl None ((w.alloc (.cells #[.int .i64 x.p, .int .u8 x.m0, .int .u8 x.m1, .int .u8 x.m2, .int .u8 x.m3, .int .u8 x.m4, .int .u8 x.m5] 25)).alloc (.cells #[.int .i64 y.p, .int .u8 y.m0, .int .u8 y.m1, .int .u8 y.m2, .int .u8 y.m3, .int .u8 y.m4, .int .u8 y.m5] 25))).drew
  refine wpPlan.runs fun K' hK => ?_
  go_simp
  refine (cmp_int x.p y.p _).mono ?_
  rintro e w3 ⟨rfl, rfl⟩
  refine hK.out _ _ (K.out _ e0) ?_
  clear hK K'
  refine wpPlan.runs fun K' hK => ?_
  go_simp
  refine (H.out _).mono ?_
  rintro e w3 ⟨rfl, s3⟩
  have e3 := e0.then_ s3
  refine hK.out _ _ (K.out _ e3) ?_
  clear hK K' s3 e0
  refine wpPlan.runs fun K' hK => ?_
  go_simp
  refine hK.out _ _ (K.out _ (e3.alloc _)) ?_
  clear hK K'
  refine wpPlan.runs fun K' hK => ?_
  go_simp
  refine (or_ints [cmpI x.p y.p, lex x.mac y.mac] w3.heap.size 2 _ (by simp) ?hcells).mono ?_
  case hcells =>
    intro j z hj
    rw [blk_cell (heap_alloc_new w3 _)]
    match j, hj with
    | 0, hj => simp at hj; simp [hj]
    | 1, hj => simp at hj; simp [hj]
    | j + 2, hj => simp at hj
  rintro e w4 ⟨rfl, rfl⟩
  refine hK.out _ _ (K.out _ (e3.alloc _)) ?_
  clear hK K'
  repeat (refine wpPlan.taken (by rfl) (by intro w' hS'; (try dsimp only at hS'); go_split_ands; go_simp; try with_reducible rfl) ?_; simp only [Act.put, List.setIfInBounds_toArray, List.set_cons_zero, List.set_cons_succ])
  refine wpPlan.done ?_
  have E := Lib.hid (ST.out.then_ (e3.alloc (.cells #[.int .i64 (cmpI x.p y.p), .int .i64 (lex x.mac y.mac)] 3)))
  clear e3
  go_wp2_with fail
  go_ret
  exact ⟨by rw [← lex_id]; rfl, E.out⟩

end Go.Proofs.Ytehlaomippbehaa
