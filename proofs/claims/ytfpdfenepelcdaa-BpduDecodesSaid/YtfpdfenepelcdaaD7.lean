/- Decode; BpduBack, walked. -/
import Derived.Test.YtfpdfenepelcdaaD6
namespace Go.Proofs.Ytfpdfenepelcdaa
open Go.RowKit Go.Gm

theorem results_dec {fn : Func} (h : fn.results = #[.cell 2 27, .tmp 3]) {tmps : Array Value} {w : World} {P : Nat} {x : Bpd} (h2 : tmps.getD 2 undef = .pointer (some ⟨P, 0, none⟩)) (hp : w.heap[P]? = some (.cells x.cells 27 (0, 0))) :
    (results fn tmps).run Try.prog w = .ok (.tuple #[.agg x.cells, tmps.getD 3 undef]) w := by
  have h2' : tmps[2]?.getD undef = .pointer (some ⟨P, 0, none⟩) := by simpa using h2
  have l1 := run_loadVar_row (P := Try.prog) w P 27 27 x.cells (0, 0) _ hp Try.underlying27 rfl (by kernel_rfl)
  simp [results, h, h2', asAddr, l1]
theorem born_bpd (w : World) (x : Bpd) : ((w.alloc (.cells #[.int .i64 0, .int .i64 0, .int .i64 0, .int .u8 0, .int .u8 0, .int .u8 0, .int .u8 0, .int .u8 0, .int .u8 0, .int .i64 0, .int .i64 0, .int .u8 0, .int .u8 0, .int .u8 0, .int .u8 0, .int .u8 0, .int .u8 0, .int .i64 0, .int .i64 0, .int .i64 0, .int .i64 0, .int .i64 0] 27)).setRow w.heap.size x.cells).heap[w.heap.size]? = some (.cells x.cells 27 (0, 0)) ∧ Step None w ((w.alloc (.cells #[.int .i64 0, .int .i64 0, .int .i64 0, .int .u8 0, .int .u8 0, .int .u8 0, .int .u8 0, .int .u8 0, .int .u8 0, .int .i64 0, .int .i64 0, .int .u8 0, .int .u8 0, .int .u8 0, .int .u8 0, .int .u8 0, .int .u8 0, .int .i64 0, .int .i64 0, .int .i64 0, .int .i64 0, .int .i64 0] 27)).setRow w.heap.size x.cells) :=
  ⟨setRow_heap _ _ _ _ _ _ (heap_alloc_new w _), step_setRow' ((Step.refl None w).alloc _) (fun h => by omega) _⟩

set_option maxHeartbeats 4000000 in
theorem decode_any (v : Value) (l : List Int) (w : World) (hs : Small l) (hv : Seg w v l) :
    Calls Try.prog 14 #[v] w fun e w' => e = .returned (.tuple #[.agg (decB l).cells, .int .i64 (decCode l)]) ∧ Step None w w' := by
  have b1 := heap_alloc_new w (.cells #[.int .i64 0, .int .i64 0, .int .i64 0, .int .u8 0, .int .u8 0, .int .u8 0, .int .u8 0, .int .u8 0, .int .u8 0, .int .i64 0, .int .i64 0, .int .u8 0, .int .u8 0, .int .u8 0, .int .u8 0, .int .u8 0, .int .u8 0, .int .i64 0, .int .i64 0, .int .i64 0, .int .i64 0, .int .i64 0] 27)
  have s1 := (Step.refl None w).alloc (.cells #[.int .i64 0, .int .i64 0, .int .i64 0, .int .u8 0, .int .u8 0, .int .u8 0, .int .u8 0, .int .u8 0, .int .u8 0, .int .i64 0, .int .i64 0, .int .u8 0, .int .u8 0, .int .u8 0, .int .u8 0, .int .u8 0, .int .u8 0, .int .i64 0, .int .i64 0, .int .i64 0, .int .i64 0, .int .i64 0] 27)
  obtain ⟨W, hW⟩ : ∃ W, w.alloc (.cells #[.int .i64 0, .int .i64 0, .int .i64 0, .int .u8 0, .int .u8 0, .int .u8 0, .int .u8 0, .int .u8 0, .int .u8 0, .int .i64 0, .int .i64 0, .int .u8 0, .int .u8 0, .int .u8 0, .int .u8 0, .int .u8 0, .int .u8 0, .int .i64 0, .int .i64 0, .int .i64 0, .int .i64 0, .int .i64 0] 27) = W := ⟨_, rfl⟩
  rw [hW] at b1 s1
  have HE := Lib.hid hW
  have B1 := Lib.hid b1
  have S1 := Lib.hid s1
  have RC := Lib.hid (read_any v l W hs (hv.still s1))
  clear hW b1 s1 hs hv
  have HD := Lib.hid (show decB l = if (rdOk l && okB (parsed l)) = true then parsed l else bare 0 from rfl)
  have HC := Lib.hid (show decCode l = if (rdOk l && okB (parsed l)) = true then 0 else 2 from rfl)
  go_enter Try.func14, Try.ntmps14
  go_wp2_with (first
    | rw [HE.out])
  refine RC.out.mono ?_
  rintro e w2 ⟨⟨x, rfl, hx⟩, s2⟩
  have bb := born_bpd w2 x
  obtain ⟨W3, hW3⟩ : ∃ W3, (w2.alloc (.cells #[.int .i64 0, .int .i64 0, .int .i64 0, .int .u8 0, .int .u8 0, .int .u8 0, .int .u8 0, .int .u8 0, .int .u8 0, .int .i64 0, .int .i64 0, .int .u8 0, .int .u8 0, .int .u8 0, .int .u8 0, .int .u8 0, .int .u8 0, .int .i64 0, .int .i64 0, .int .i64 0, .int .i64 0, .int .i64 0] 27)).setRow w2.heap.size x.cells = W3 := ⟨_, rfl⟩
  rw [hW3] at bb
  have HE3 := Lib.hid hW3
  have N3 := Lib.hid bb.1
  have S3 := Lib.hid ((S1.out.then_ s2).then_ bb.2)
  have B3 := Lib.hid (bb.2.blk (s2.blk B1.out (fun s => s.elim)) (fun s => s.elim))
  have HX := Lib.hid hx
  clear hW3 bb s2 B1 S1 RC hx
  cases hr : rdOk l
  · rw [hr] at HD HC
    have R3 := Lib.hid (step_setRow' S3.out (g := w.heap.size) (fun h => by omega) (bare 0).cells)
    have P3 := Lib.hid (setRow_heap W3 w.heap.size _ (bare 0).cells _ _ B3.out)
    have HD2 : Hid (decB l = bare 0) := HD
    have HC2 : Hid (decCode l = 2) := HC
    clear HD HC
    go_wp2_with (first
      | rw [HE3.out]
      | (refine wpList_store_row rfl 27 (.tmp 4) (.tmp 9) rfl w2.heap.size x.cells rfl rfl 27 _ (heap_alloc_new w2 _) (by kernel_rfl) rfl (by simp [Bpd.cells, Value.oneCell']) ?_)
      | (refine wpList_store_row rfl 27 (.tmp 2) (.tmp 18) rfl w.heap.size (bare 0).cells rfl rfl 27 _ B3.out (by kernel_rfl) rfl (by kernel_rfl) ?_))
    (try simp only [Exit.inBlock, Exit.then])
    refine bodyPost_ret (results_dec rfl rfl P3.out) rfl ?_
    exact ⟨by rw [HD2.out, HC2.out]; rfl, R3.out⟩
  have hx' := HX.out hr
  subst hx'
  have RR := Lib.hid (right_any (parsed l) W3)
  have LB := Lib.hid (load_bpd N3.out)
  rw [hr] at HD HC
  cases hk : okB (parsed l)
  · rw [hk] at HD HC RR
    have HD2 : Hid (decB l = bare 0) := HD
    have HC2 : Hid (decCode l = 2) := HC
    clear HD HC
    go_wp2_with (first
      | rw [HE3.out]
      | (refine wpList_store_row rfl 27 (.tmp 4) (.tmp 9) rfl w2.heap.size (parsed l).cells rfl rfl 27 _ (heap_alloc_new w2 _) (by kernel_rfl) rfl (by simp [Bpd.cells, Value.oneCell']) ?_)
      | (refine wpList_load_if 27 (.tmp 4) rfl rfl rfl LB.out ?_))
    refine RR.out.mono ?_
    rintro e w4 ⟨rfl, s4⟩
    have S4 := Lib.hid (S3.out.then_ s4)
    have B4 := Lib.hid (s4.blk B3.out (fun s => s.elim))
    have R4 := Lib.hid (step_setRow' S4.out (g := w.heap.size) (fun h => by omega) (bare 0).cells)
    have P4 := Lib.hid (setRow_heap w4 w.heap.size _ (bare 0).cells _ _ B4.out)
    clear s4
    go_wp2_with (first
      | (refine wpList_store_row rfl 27 (.tmp 2) (.tmp 18) rfl w.heap.size (bare 0).cells rfl rfl 27 _ B4.out (by kernel_rfl) rfl (by kernel_rfl) ?_))
    (try simp only [Exit.inBlock, Exit.then])
    refine bodyPost_ret (results_dec rfl rfl P4.out) rfl ?_
    exact ⟨by rw [HD2.out, HC2.out]; rfl, R4.out⟩
  · rw [hk] at HD HC RR
    have HD2 : Hid (decB l = parsed l) := HD
    have HC2 : Hid (decCode l = 0) := HC
    clear HD HC
    go_wp2_with (first
      | rw [HE3.out]
      | (refine wpList_store_row rfl 27 (.tmp 4) (.tmp 9) rfl w2.heap.size (parsed l).cells rfl rfl 27 _ (heap_alloc_new w2 _) (by kernel_rfl) rfl (by simp [Bpd.cells, Value.oneCell']) ?_)
      | (refine wpList_load_if 27 (.tmp 4) rfl rfl rfl LB.out ?_))
    refine RR.out.mono ?_
    rintro e w4 ⟨rfl, s4⟩
    have S4 := Lib.hid (S3.out.then_ s4)
    have B4 := Lib.hid (s4.blk B3.out (fun s => s.elim))
    have LB4 := Lib.hid (load_bpd (s4.blk N3.out (fun s => s.elim)))
    have R4 := Lib.hid (step_setRow' S4.out (g := w.heap.size) (fun h => by omega) (parsed l).cells)
    have P4 := Lib.hid (setRow_heap w4 w.heap.size _ (parsed l).cells _ _ B4.out)
    clear s4
    go_wp2_with (first
      | (refine wpList_load_if 27 (.tmp 4) rfl rfl rfl LB4.out ?_)
      | (refine wpList_store_row rfl 27 (.tmp 2) (.tmp 19) rfl w.heap.size (parsed l).cells rfl rfl 27 _ B4.out (by kernel_rfl) rfl (by simp [Bpd.cells, Value.oneCell']) ?_))
    (try simp only [Exit.inBlock, Exit.then])
    refine bodyPost_ret (results_dec rfl rfl P4.out) rfl ?_
    exact ⟨by rw [HD2.out, HC2.out]; rfl, R4.out⟩
end Go.Proofs.Ytfpdfenepelcdaa
