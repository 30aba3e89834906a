/- The best way and the roles: the code. -/
import Derived.Test.YtehlaomippbehaaR4
import Derived.Test.YtehlaomippbehaaBorn
namespace Go.Proofs.Ytehlaomippbehaa
open Go.RowKit Go.Gm

theorem eq_mac9 (x y : Idn) (w : World) : (Op.equalIn 9999 23 (.agg #[.int .u8 x.m0, .int .u8 x.m1, .int .u8 x.m2, .int .u8 x.m3, .int .u8 x.m4, .int .u8 x.m5]) (.agg #[.int .u8 y.m0, .int .u8 y.m1, .int .u8 y.m2, .int .u8 y.m3, .int .u8 y.m4, .int .u8 y.m5])).run Try.prog w = .ok (x.mac == y.mac) w := by
  rw [run_equalIn_six w 9997 23 5 Try.underlying23 Try.underlying5 (fun w => by kernel_rfl)]
  congr 1
  simp [Idn.mac, Bool.and_assoc]
set_option linter.unusedSimpArgs false in
theorem eq_idn (x y : Idn) (w : World) : (Op.equalIn 10000 25 (.agg x.cells) (.agg y.cells)).run Try.prog w = .ok (x.flat == y.flat) w := by
  have u3 := Try.underlying3
  have a3 := Try.isAgg3
  have z3 := Try.sizeOf3
  have a23 := Try.isAgg23
  have z23 := Try.sizeOf23
  have hS : Try.prog.underlying 25 = some (.struct (Try.prog.fieldsOf 25)) := by kernel_rfl
  have hm := eq_mac9 x y
  rw [show (10000 : Nat) = 9999 + 1 from rfl, run_equalIn_agg w 9999 25 _ _ hS (by kernel_rfl)]
  simp only [Program.fieldsOf, Try.underlying25]
  unfold Idn.cells
  go_simp
  by_cases h1 : x.p = y.p <;> by_cases h2 : x.mac = y.mac <;> simp [Idn.flat, h1, h2]

theorem load_idn {w : World} {g : Nat} {x : Idn} {t : TypeId} {fr : Nat × Nat} (h : w.heap[g]? = some (.cells x.cells t fr)) : (Instr.loadAt 25 (.pointer (some ⟨g, 0, none⟩))).run Try.prog w = .ok (.agg x.cells) w := by
  have := run_loadAt_mid (P := Try.prog) w g 0 25 x.cells.toList _ (fun j u hj => by rw [blk_cell h, Nat.zero_add]; simpa using hj) Try.underlying25 rfl (by kernel_rfl)
  simpa using this
theorem load_rootOf {w : World} {g : Nat} {x : Vec} {t : TypeId} {fr : Nat × Nat} (h : w.heap[g]? = some (.cells x.cells t fr)) : (Instr.loadAt 25 (.pointer (some ⟨g, 0, none⟩))).run Try.prog w = .ok (.agg x.r.cells) w := by
  have := run_loadAt_mid (P := Try.prog) w g 0 25 x.r.cells.toList _ (fun j u hj => by
    rw [blk_cell h]
    match j, hj with
    | 0, hj => exact hj
    | 1, hj => exact hj
    | 2, hj => exact hj
    | 3, hj => exact hj
    | 4, hj => exact hj
    | 5, hj => exact hj
    | 6, hj => exact hj
    | j + 7, hj => simp [Idn.cells] at hj) Try.underlying25 rfl (by kernel_rfl)
  simpa using this
theorem load_bridgeOf {w : World} {g : Nat} {x : Vec} {t : TypeId} {fr : Nat × Nat} (h : w.heap[g]? = some (.cells x.cells t fr)) : (Instr.loadAt 25 (.pointer (some ⟨g, 8, none⟩))).run Try.prog w = .ok (.agg x.b.cells) w := by
  have := run_loadAt_mid (P := Try.prog) w g 8 25 x.b.cells.toList _ (fun j u hj => by
    rw [blk_cell h]
    match j, hj with
    | 0, hj => exact hj
    | 1, hj => exact hj
    | 2, hj => exact hj
    | 3, hj => exact hj
    | 4, hj => exact hj
    | 5, hj => exact hj
    | 6, hj => exact hj
    | j + 7, hj => simp [Idn.cells] at hj) Try.underlying25 rfl (by kernel_rfl)
  simpa using this

/-- What Select has in its variables: the bridge, the ports, the best way. -/
structure Sl (w0 w : World) (M L R B : Nat) (me : Idn) (ao : Option Addr) (cap : Nat) (l : List Hrd) (best : Vec) : Prop where
  m : w.heap[M]? = some (.cells me.cells 25 (0, 0))
  s : w.heap[L]? = some (.cells #[.slice ao l.length cap] 44 (0, 0))
  r : w.heap[R]? = some (.cells noVec.cells 27 (0, 0))
  b : w.heap[B]? = some (.cells best.cells 27 (0, 0))
  h : Hears w ao l
  st : Step None w0 w
  nB : w0.heap.size ≤ B
  nR : R ≠ B
  old : ∀ b off, l ≠ [] → ao = some ⟨b, off, none⟩ → b ≠ B
theorem Sl.still {w0 w w' : World} {M L R B : Nat} {me : Idn} {ao : Option Addr} {cap : Nat} {l : List Hrd} {best : Vec} (h : Sl w0 w M L R B me ao cap l best) (hs : Step None w w') : Sl w0 w' M L R B me ao cap l best :=
  ⟨hs.blk h.m (fun s => s.elim), hs.blk h.s (fun s => s.elim), hs.blk h.r (fun s => s.elim), hs.blk h.b (fun s => s.elim), h.h.still hs, h.st.then_ hs, h.nB, h.nR, h.old⟩
theorem Sl.better {w0 w : World} {M L R B : Nat} {me : Idn} {ao : Option Addr} {cap : Nat} {l : List Hrd} {best : Vec} (h : Sl w0 w M L R B me ao cap l best) (v : Vec) : Sl w0 (w.setRow B v.cells) M L R B me ao cap l v := by
  have hMB : M ≠ B := blk_ne h.m h.b (by decide)
  have hLB : L ≠ B := blk_ne h.s h.b (by decide)
  refine ⟨(setRow_other _ _ _ _ hMB).trans h.m, (setRow_other _ _ _ _ hLB).trans h.s, (setRow_other _ _ _ _ h.nR).trans h.r, setRow_heap _ _ _ _ _ _ h.b, fun i x hx => ?_, h.st.setRow (fun hh => by have := h.nB; omega) _, h.nB, h.nR, h.old⟩
  obtain ⟨f, b, off, e, hc⟩ := h.h i x hx
  refine ⟨f, b, off, e, fun j u hu => ?_⟩
  rw [World.cell?_of_block (w := w) (a := ⟨b, off + i * 21 + j, none⟩) (setRow_other w B b v.cells (h.old b off (fun hl => by subst hl; simp at hx) e))]
  exact hc j u hu

theorem hcell {x : Hrd} {w : World} {b o : Nat} (h : ∀ j u, x.cells[j]? = some u → w.cell? ⟨b, o + j, none⟩ = some u) : w.cell? ⟨b, o, none⟩ = some (.int .i64 x.port) ∧ w.cell? ⟨b, o + 1, none⟩ = some (.int .i64 x.cost) ∧ w.cell? ⟨b, o + 2, none⟩ = some (.bool x.up) ∧ w.cell? ⟨b, o + 3, none⟩ = some (.bool x.has) :=
  ⟨h 0 _ rfl, h 1 _ rfl, h 2 _ rfl, h 3 _ rfl⟩

theorem counts_any (L k : Nat) (x : Hrd) (ao : Option Addr) (cap : Nat) (l : List Hrd) (w : World) (hx : l[k]? = some x) (hs : w.heap[L]? = some (.cells #[.slice ao l.length cap] 44 (0, 0))) (h : Hears w ao l) :
    Calls Try.prog 42 #[.int .i64 k, .pointer (some ⟨L, 0, none⟩)] w fun e w' => e = .returned (.bool x.counts) ∧ w = w' := by
  obtain ⟨-, b, off, rfl, hc⟩ := h k x hx
  obtain ⟨-, -, c2, c3⟩ := hcell hc
  have cs := blk_cell hs 0
  simp only [List.getElem?_toArray, List.getElem?_cons_zero] at cs
  have hlt := (List.getElem?_eq_some_iff.1 hx).1
  have k0 : (0 : Int) ≤ (k : Int) := by omega
  have k1 : (k : Int) < (l.length : Int) := by omega
  have HC := Lib.hid (show x.counts = (x.up && x.has) from rfl)
  clear hc h hs hx
  generalize x.up = u at *
  generalize x.has = v at *
  generalize x.counts = r at *
  cases u
  · go_enter Try.func42, Try.ntmps42
    go_wp2_with fail
    go_ret
    exact ⟨by rw [HC.out]; rfl, rfl⟩
  · go_enter Try.func42, Try.ntmps42
    go_wp2_with fail
    go_ret
    exact ⟨by rw [HC.out]; rfl, rfl⟩

set_option maxHeartbeats 2000000 in
theorem offer_any (me : Idn) (best : Vec) (port : Int) (w : World) : Calls Try.prog 30 #[.agg me.cells, .agg best.cells, .int .i64 port] w fun e w' => e = .returned (.agg (offerV me best port).cells) ∧ Step None w w' := by
  have b1 := heap_alloc_new w (.cells me.cells 25)
  have b2 := heap_alloc_new (w.alloc (.cells me.cells 25)) (.cells best.cells 27)
  have b3 := heap_alloc_new ((w.alloc (.cells me.cells 25)).alloc (.cells best.cells 27)) (.cells zeroV 27)
  have s1 := (((Step.refl None w).alloc (.cells me.cells 25)).alloc (.cells best.cells 27)).alloc (.cells zeroV 27)
  have b2 := ((Step.refl None _).alloc (.cells zeroV 27)).blk b2 (fun s => s.elim)
  have b1 := (((Step.refl None _).alloc (.cells best.cells 27)).alloc (.cells zeroV 27)).blk b1 (fun s => s.elim)
  simp only [World.size_alloc] at b2 b3
  unfold zeroV at b1 b2 b3 s1
  obtain ⟨W, hW⟩ : ∃ W, ((w.alloc (.cells me.cells 25)).alloc (.cells best.cells 27)).alloc (.cells #[.int .i64 0, .int .u8 0, .int .u8 0, .int .u8 0, .int .u8 0, .int .u8 0, .int .u8 0, .int .i64 0, .int .i64 0, .int .u8 0, .int .u8 0, .int .u8 0, .int .u8 0, .int .u8 0, .int .u8 0, .int .i64 0, .int .i64 0] 27) = W := ⟨_, rfl⟩
  rw [hW] at b1 b2 b3 s1
  have HE := Lib.hid hW
  have B1 := Lib.hid b1
  have B2 := Lib.hid b2
  have B3 := Lib.hid b3
  have S1 := Lib.hid s1
  have c7 := blk_cell b2 7
  simp only [Vec.cells, List.getElem?_toArray, List.getElem?_cons_zero, List.getElem?_cons_succ] at c7
  have lr := load_rootOf b2
  have lm := load_idn b1
  unfold Idn.cells at lr lm
  have LR := Lib.hid lr
  have LM := Lib.hid lm
  clear hW b1 b2 b3 s1 lr lm
  go_enter Try.func30, Try.ntmps30
  go_wp2_with (first
    | rw [HE.out]
    | (refine wpList_load_is 25 (.tmp 7) rfl rfl rfl LR.out ?_)
    | (refine wpList_load_is 25 (.tmp 3) rfl rfl rfl LM.out ?_)
    | (refine wpList_store_row rfl 27 (.tmp 6) (.tmp 13) rfl (w.heap.size + 1 + 1) (offerV me best port).cells rfl rfl 27 _ B3.out (by kernel_rfl) rfl (by simp [offerV, Vec.cells, Value.oneCell']) ?_))
  (try simp only [Exit.inBlock, Exit.then])
  refine bodyPost_ret (results_cell_row (P := Try.prog) (fn := Try.f30) rfl _ _ (w.heap.size + 1 + 1) 27 (offerV me best port).cells (0, 0) _ rfl (setRow_heap _ _ _ _ _ _ B3.out) Try.underlying27 rfl (by kernel_rfl)) rfl ?_
  exact ⟨rfl, step_setRow S1.out (fun h => by omega) _⟩

end Go.Proofs.Ytehlaomippbehaa