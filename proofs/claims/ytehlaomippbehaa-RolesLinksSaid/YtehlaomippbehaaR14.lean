/- The document's Select. -/
import Derived.Test.YtehlaomippbehaaRB
namespace Go.Proofs.Ytehlaomippbehaa
open Go.RowKit Go.Gm

set_option maxHeartbeats 2000000 in
theorem roffer_any (me : Idn) (best : Vec) (port : Int) (w : World) : Calls Try.prog 31 #[.agg me.cells, .agg best.cells, .int .i64 port] w fun e w' => e = .returned (.agg (offerV me best port).cells) ∧ Step None w w' := by
  have b1 := heap_alloc_new w (.cells me.cells 25)
  have b2 := heap_alloc_new (w.alloc (.cells me.cells 25)) (.cells best.cells 27)
  have b3 := heap_alloc_new ((w.alloc (.cells me.cells 25)).alloc (.cells best.cells 27)) (.cells zeroV 27)
  have s1 := (((Step.refl None w).alloc (.cells me.cells 25)).alloc (.cells best.cells 27)).alloc (.cells zeroV 27)
  have b2 := ((Step.refl None _).alloc (.cells zeroV 27)).blk b2 (fun s => s.elim)
  have b1 := (((Step.refl None _).alloc (.cells best.cells 27)).alloc (.cells zeroV 27)).blk b1 (fun s => s.elim)
  simp only [World.size_alloc] at b2 b3
  unfold zeroV at b1 b2 b3 s1
  obtain ⟨W, hW⟩ : ∃ W, ((w.alloc (.cells me.cells 25)).alloc (.cells best.cells 27)).alloc (.cells #[.int .i64 0, .int .u8 0, .int .u8 0, .int .u8 0, .int .u8 0, .int .u8 0, .int .u8 0, .int .i64 0, .int .i64 0, .int .u8 0, .int .u8 0, .int .u8 0, .int .u8 0, .int .u8 0, .int .u8 0, .int .i64 0, .int .i64 0] 27) = W := ⟨_, rfl⟩
  rw [hW] at b1 b2 b3 s1
  have HE := Lib.hid hW
  have B1 := Lib.hid b1
  have B2 := Lib.hid b2
  have B3 := Lib.hid b3
  have S1 := Lib.hid s1
  have c7 := blk_cell b2 7
  simp only [Vec.cells, List.getElem?_toArray, List.getElem?_cons_zero, List.getElem?_cons_succ] at c7
  have lr := load_rootOf b2
  have lm := load_idn b1
  unfold Idn.cells at lr lm
  have LR := Lib.hid lr
  have LM := Lib.hid lm
  clear hW b1 b2 b3 s1 lr lm
  go_enter Try.func31, Try.ntmps31
  go_wp2_with (first
    | rw [HE.out]
    | (refine wpList_load_is 25 (.tmp 7) rfl rfl rfl LR.out ?_)
    | (refine wpList_load_is 25 (.tmp 3) rfl rfl rfl LM.out ?_)
    | (refine wpList_store_row rfl 27 (.tmp 6) (.tmp 13) rfl (w.heap.size + 1 + 1) (offerV me best port).cells rfl rfl 27 _ B3.out (by kernel_rfl) rfl (by simp [offerV, Vec.cells, Value.oneCell']) ?_))
  (try simp only [Exit.inBlock, Exit.then])
  refine bodyPost_ret (results_cell_row (P := Try.prog) (fn := Try.f31) rfl _ _ (w.heap.size + 1 + 1) 27 (offerV me best port).cells (0, 0) _ rfl (setRow_heap _ _ _ _ _ _ B3.out) Try.underlying27 rfl (by kernel_rfl)) rfl ?_
  exact ⟨rfl, step_setRow S1.out (fun h => by omega) _⟩


theorem rcounts_any (x : Hrd) (w : World) : Calls Try.prog 43 #[.agg x.cells] w fun e w' => e = .returned (.bool x.counts) ∧ Step None w w' := by
  have b1 := heap_alloc_new w (.cells x.cells 52)
  have s1 := (Step.refl None w).alloc (.cells x.cells 52)
  obtain ⟨W, hW⟩ : ∃ W, w.alloc (.cells x.cells 52) = W := ⟨_, rfl⟩
  rw [hW] at b1 s1
  have HE := Lib.hid hW
  have S1 := Lib.hid s1
  have c2 := blk_cell b1 2
  have c3 := blk_cell b1 3
  simp only [Hrd.cells, List.getElem?_toArray, List.getElem?_cons_zero, List.getElem?_cons_succ] at c2 c3
  have HC := Lib.hid (show x.counts = (x.up && x.has) from rfl)
  clear hW b1 s1
  generalize x.up = u at *
  generalize x.has = v at *
  generalize x.counts = r at *
  cases u
  · go_enter Try.func43, Try.ntmps43
    go_wp2_with (first
      | rw [HE.out])
    go_ret
    exact ⟨by rw [HC.out]; rfl, S1.out⟩
  · go_enter Try.func43, Try.ntmps43
    go_wp2_with (first
      | rw [HE.out])
    go_ret
    exact ⟨by rw [HC.out]; rfl, S1.out⟩

/-! A list of numbers that is built by append. -/
theorem T45 : SliceT Try.prog 45 3 1 8 := SliceT.mk' Try.underlying45 (z := .int .i64 0) (by kernel_rfl) rfl (by decide)
structure Nt (w0 w : World) (v : Value) (xs : List Int) : Prop where
  row : Row w 3 1 v xs.length (xs.map (.int .i64))
  new : ∀ k, Leads v k → w0.heap.size ≤ k
  st : Step None w0 w
theorem Nt.nil (w0 w : World) (h : Step None w0 w) : Nt w0 w (.slice none 0 0) [] := ⟨Row.nil _ _ _, fun k h => by simp [Leads, Value.ownBlock] at h, h⟩
theorem Nt.still {w0 w w' : World} {v : Value} {l : List Int} (h : Nt w0 w v l) (hs : Step None w w') : Nt w0 w' v l := ⟨h.row.step hs fun _ _ s => s.elim, h.new, h.st.then_ hs⟩
theorem Nt.form {w0 w : World} {v : Value} {l : List Int} (h : Nt w0 w v l) : ∃ ao cap, v = .slice ao l.length cap ∧ Ints w ao l := by
  obtain ⟨ao, cap, rfl, -, -⟩ := h.row.form
  refine ⟨ao, cap, rfl, fun j x hx => ?_⟩
  have hj := (List.getElem?_eq_some_iff.1 hx).1
  obtain ⟨b, off, cap', cur, e, -, -, hb, hf, ht⟩ := h.row.lies (by omega)
  simp only [Value.slice.injEq, true_and] at e
  refine ⟨b, off, cur, e.1, hb, ?_⟩
  have h2 : ((cur.toList.drop off).take (l.length * 1))[j]? = some (.int .i64 x) := by rw [ht, List.getElem?_map, hx]; rfl
  rw [List.getElem?_take, if_pos (by omega), List.getElem?_drop] at h2
  simpa using h2
theorem Nt.more {w0 w w' : World} {v v' : Value} {l : List Int} {x : Int} (h : Nt w0 w v l) (hr : Row w' 3 1 v' (l.length + 1) (l.map (.int .i64) ++ [.int .i64 x])) (hs : Step (Leads v) w w') (hl : ∀ k, Leads v' k → Leads v k ∨ w.heap.size ≤ k) : Nt w0 w' v' (l ++ [x]) := by
  refine ⟨by rw [List.length_append, List.map_append]; exact hr, fun k hk => ?_, h.st.trans hs fun i hi hk => by have := h.new i hk; omega⟩
  rcases hl k hk with h1 | h1
  · exact h.new k h1
  · have := h.st.size; omega
theorem src_one {w : World} {g : Nat} {x : Int} (hb : w.heap[g]? = some (.cells #[.int .i64 x] 3 (0, 0))) : Src Try.prog 1 45 (.slice (some ⟨g, 0, none⟩) 1 1) 1 [.int .i64 x] w :=
  Src.ofBlock T45 (m := 1) (c := 1) hb (by rfl) (by simp [Value.oneCell'])

/-- What the document's Select has in its variables. -/
structure Rl (w0 w : World) (M R : Nat) (me : Idn) (ao : Option Addr) (l : List Hrd) : Prop where
  m : w.heap[M]? = some (.cells me.cells 25 (0, 0))
  r : w.heap[R]? = some (.cells noVec.cells 27 (0, 0))
  h : Hears w ao l
  st : Step None w0 w
  nR : w0.heap.size ≤ R
theorem Rl.still {w0 w w' : World} {M R : Nat} {me : Idn} {ao : Option Addr} {l : List Hrd} (h : Rl w0 w M R me ao l) (hs : Step None w w') : Rl w0 w' M R me ao l :=
  ⟨hs.blk h.m (fun s => s.elim), hs.blk h.r (fun s => s.elim), h.h.still hs, h.st.then_ hs, h.nR⟩
/-- .. with the best way so far. -/
structure Rb (w0 w : World) (M R B : Nat) (me : Idn) (ao : Option Addr) (l : List Hrd) (best : Vec) : Prop where
  rl : Rl w0 w M R me ao l
  b : w.heap[B]? = some (.cells best.cells 27 (0, 0))
  nB : w0.heap.size ≤ B
  ne : R ≠ B
theorem Rb.still {w0 w w' : World} {M R B : Nat} {me : Idn} {ao : Option Addr} {l : List Hrd} {best : Vec} (h : Rb w0 w M R B me ao l best) (hs : Step None w w') : Rb w0 w' M R B me ao l best :=
  ⟨h.rl.still hs, hs.blk h.b (fun s => s.elim), h.nB, h.ne⟩
theorem Rb.better {w0 w : World} {M R B : Nat} {me : Idn} {ao : Option Addr} {l : List Hrd} {best : Vec} (h : Rb w0 w M R B me ao l best) (hold : ∀ b off, l ≠ [] → ao = some ⟨b, off, none⟩ → b < w0.heap.size) (v : Vec) : Rb w0 (w.setRow B v.cells) M R B me ao l v := by
  have hMB : M ≠ B := blk_ne h.rl.m h.b (by decide)
  refine ⟨⟨(setRow_other _ _ _ _ hMB).trans h.rl.m, (setRow_other _ _ _ _ h.ne).trans h.rl.r, fun i x hx => ?_, step_setRow h.rl.st (fun hh => by have := h.nB; omega) _, h.rl.nR⟩, setRow_heap _ _ _ _ _ _ h.b, h.nB, h.ne⟩
  obtain ⟨f, b, off, e, hc⟩ := h.rl.h i x hx
  refine ⟨f, b, off, e, fun j u hu => ?_⟩
  rw [World.cell?_of_block (w := w) (a := ⟨b, off + i * 21 + j, none⟩) (setRow_other w B b v.cells (by have := hold b off (fun hl => by subst hl; simp at hx) e; have := h.nB; omega))]
  exact hc j u hu
theorem Rb.app {w0 w w' : World} {M R B : Nat} {me : Idn} {ao : Option Addr} {l : List Hrd} {best : Vec} {v : Value} {xs : List Int} (h : Rb w0 w M R B me ao l best) (n : Nt w0 w v xs) (hs : Step (Leads v) w w') (hold : ∀ b off, l ≠ [] → ao = some ⟨b, off, none⟩ → b < w0.heap.size) : Rb w0 w' M R B me ao l best := by
  refine ⟨⟨hs.blk h.rl.m (n.row.ne h.rl.m (by decide)), hs.blk h.rl.r (n.row.ne h.rl.r (by decide)), fun i x hx => ?_, h.rl.st.trans hs fun i hi hk => (by have := n.new i hk; omega), h.rl.nR⟩, hs.blk h.b (n.row.ne h.b (by decide)), h.nB, h.ne⟩
  obtain ⟨f, b, off, e, hc⟩ := h.rl.h i x hx
  refine ⟨f, b, off, e, fun j u hu => ?_⟩
  have hcc := hc j u hu
  rw [hs.cell (p := ⟨b, off + i * 21 + j, none⟩) (World.block_lt_of_cell? w _ hcc) (fun hk => by
    have h1 : w0.heap.size ≤ b := n.new b hk
    have := hold b off (fun hl => by subst hl; simp at hx) e
    omega)]
  exact hcc

theorem nodup_take {l : List Hrd} {k : Nat} {x : Hrd} (hx : l[k]? = some x) (h : ((l.take k).map Hrd.port).Nodup) (hk : ∀ a y, a < k → l[a]? = some y → y.port ≠ x.port) : ((l.take (k + 1)).map Hrd.port).Nodup := by
  rw [List.take_add_one, hx, List.map_append]
  refine List.nodup_append.2 ⟨h, by simp, fun p hp q hq => ?_⟩
  simp at hq
  subst hq
  obtain ⟨y, hy, rfl⟩ := List.mem_map.1 hp
  obtain ⟨a, ha⟩ := List.getElem?_of_mem hy
  have hlt : a < k := by have := (List.getElem?_eq_some_iff.1 ha).1; simp at this; omega
  rw [List.getElem?_take_of_lt hlt] at ha
  exact hk a y hlt ha
theorem fairOf_same {l : List Hrd} {a k : Nat} {x y : Hrd} (h64 : l.length ≤ 64) (hb : badK l l.length = false) (ha : l[a]? = some y) (hk : l[k]? = some x) (hak : a < k) (e : y.port = x.port) : fairOf l = 5 := by
  have hb' : ¬ l.any Hrd.bad = true := by
    unfold badK at hb
    rw [List.take_length] at hb
    rw [hb]; decide
  rw [fairOf, if_neg (by omega), if_neg hb', if_neg]
  intro hn
  have := ports_apart hn (i := a) (j := k) (List.getElem?_eq_some_iff.1 ha).1 (List.getElem?_eq_some_iff.1 hk).1 (by rw [show l.getD a default = y by simp [List.getD, ha], show l.getD k default = x by simp [List.getD, hk]]; exact e)
  omega
theorem fairOf_fine {l : List Hrd} (h64 : l.length ≤ 64) (hb : badK l l.length = false) (hn : ((l.take l.length).map Hrd.port).Nodup) : fairOf l = 0 := by
  have hb' : ¬ l.any Hrd.bad = true := by
    unfold badK at hb
    rw [List.take_length] at hb
    rw [hb]; decide
  rw [List.take_length] at hn
  rw [fairOf, if_neg (by omega), if_neg hb', if_pos hn]
end Go.Proofs.Ytehlaomippbehaa
