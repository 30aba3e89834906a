/- The document's Decode; BpduDecodes, walked. -/
import Derived.Test.YtfpdfenepelcdaaD9
namespace Go.Proofs.Ytfpdfenepelcdaa
open Go.RowKit Go.Gm

theorem be2 (l : List Int) {p : Nat} (h : p + 2 ≤ l.length) : beL ((l.drop p).take 2) 0 = by_ l p * 256 + by_ l (p + 1) := by
  rw [taken_more (p := p) (n := 1) (by omega), taken_more (p := p + 1) (n := 0) (by omega), List.take_zero]
  simp [beL]
theorem be4 (l : List Int) {p : Nat} (h : p + 4 ≤ l.length) : beL ((l.drop p).take 4) 0 = ((by_ l p * 256 + by_ l (p + 1)) * 256 + by_ l (p + 2)) * 256 + by_ l (p + 3) := by
  rw [taken_more (p := p) (n := 3) (by omega), taken_more (p := p + 1) (n := 2) (by omega), taken_more (p := p + 1 + 1) (n := 1) (by omega), taken_more (p := p + 1 + 1 + 1) (n := 0) (by omega), List.take_zero]
  simp [beL]
theorem by_get {l : List Int} {p : Nat} (h : p < l.length) : l[p]? = some (by_ l p) := by
  unfold by_
  rw [List.getD_eq_getElem?_getD, List.getElem?_eq_getElem h]
  rfl
theorem pB_small {l : List Int} (h : Small l) : (pB l 11).small := by
  have b := by_small h
  refine ⟨fun x hx => ?_, fun x hx => ?_⟩
  · simp [pB, Idn.mac] at hx
    rcases hx with rfl | rfl | rfl | rfl | rfl | rfl <;> exact b _
  · simp [pB, Idn.mac] at hx
    rcases hx with rfl | rfl | rfl | rfl | rfl | rfl <;> exact b _
theorem bare_small (k : Int) : (bare k).small := ⟨fun x hx => by simp [bare, noId, Idn.mac] at hx; omega, fun x hx => by simp [bare, noId, Idn.mac] at hx; omega⟩

set_option maxRecDepth 100000 in
set_option maxHeartbeats 8000000 in
theorem rdecode_any (v : Value) (l : List Int) (w : World) (hs : Small l) (hv : Seg w v l) (hl : l.length ≤ 1000) :
    Calls Try.prog 15 #[v] w fun e w' => e = .returned (.tuple #[.agg (decB l).cells, .int .i64 (decCode l)]) ∧ Step None w w' := by
  have b1 := heap_alloc_new w (.cells #[.int .i64 0, .int .i64 0, .int .i64 0, .int .u8 0, .int .u8 0, .int .u8 0, .int .u8 0, .int .u8 0, .int .u8 0, .int .i64 0, .int .i64 0, .int .u8 0, .int .u8 0, .int .u8 0, .int .u8 0, .int .u8 0, .int .u8 0, .int .i64 0, .int .i64 0, .int .i64 0, .int .i64 0, .int .i64 0] 27)
  have s1 := (Step.refl None w).alloc (.cells #[.int .i64 0, .int .i64 0, .int .i64 0, .int .u8 0, .int .u8 0, .int .u8 0, .int .u8 0, .int .u8 0, .int .u8 0, .int .i64 0, .int .i64 0, .int .u8 0, .int .u8 0, .int .u8 0, .int .u8 0, .int .u8 0, .int .u8 0, .int .i64 0, .int .i64 0, .int .i64 0, .int .i64 0, .int .i64 0] 27)
  obtain ⟨W, hW⟩ : ∃ W, w.alloc (.cells #[.int .i64 0, .int .i64 0, .int .i64 0, .int .u8 0, .int .u8 0, .int .u8 0, .int .u8 0, .int .u8 0, .int .u8 0, .int .i64 0, .int .i64 0, .int .u8 0, .int .u8 0, .int .u8 0, .int .u8 0, .int .u8 0, .int .u8 0, .int .i64 0, .int .i64 0, .int .i64 0, .int .i64 0, .int .i64 0] 27) = W := ⟨_, rfl⟩
  rw [hW] at b1 s1
  have HE := Lib.hid hW
  have B1 := Lib.hid b1
  have S1 := Lib.hid s1
  have V := Lib.hid hv
  have SM := Lib.hid hs
  have HL := Lib.hid hl
  obtain ⟨ao, cap, rfl, hc1, hc2, hc3⟩ := hv
  have C3 := Lib.hid hc3
  clear hW b1 s1 hs hl hc3
  by_cases h4 : 4 ≤ l.length
  rotate_left
  · have R0 : decOk l = false := by rw [decOk, show rdOk l = false by unfold rdOk; simp [h4]]; rfl
    have HD2 : Hid (decB l = bare 0) := Lib.hid (by rw [decB, R0]; rfl)
    have HC2 : Hid (decCode l = 2) := Lib.hid (by rw [decCode, R0]; rfl)
    have d1 : decide ((l.length : Int) < 4) = true := by simp; omega
    have d2 : decide (l.length < 4) = true := by simp; omega
    have R3 := Lib.hid (step_setRow' S1.out (g := w.heap.size) (fun h => by omega) (bare 0).cells)
    have P3 := Lib.hid (setRow_heap W w.heap.size _ (bare 0).cells _ _ B1.out)
    clear R0 h4
    go_enter Try.func15, Try.ntmps15
    go_wp2_with (first
      | rw [HE.out]
      | (refine wpList_store_row rfl 27 (.tmp 2) (.tmp 10) rfl w.heap.size (bare 0).cells rfl rfl 27 _ B1.out (by kernel_rfl) rfl (by kernel_rfl) ?_))
    (try simp only [Exit.inBlock, Exit.then])
    refine bodyPost_ret (results_dec rfl rfl P3.out) rfl ?_
    exact ⟨by rw [HD2.out, HC2.out]; rfl, R3.out⟩
  have d1 : decide ((l.length : Int) < 4) = false := by simp; omega
  have d2 : decide (l.length < 4) = false := by simp; omega
  have H4 := Lib.hid h4
  obtain ⟨b, bo, rfl, c3⟩ := C3.out 3 _ (by_get (show 3 < l.length by omega))
  have CS : Hid (∀ W', Step None w W' → ∀ j x, l[j]? = some x → W'.cell? ⟨b, bo + j, none⟩ = some (.int .u8 x)) := Lib.hid fun W' h' j x hj => by
    obtain ⟨b', bo', e, cb⟩ := C3.out j x hj
    cases e
    exact (h'.cell (p := ⟨b, bo + j, none⟩) (World.block_lt_of_cell? _ _ cb) (fun s => s.elim)).trans cb
  have c3' := CS.out W S1.out 3 _ (by_get (show 3 < l.length by omega))
  have hwk : IntKind.i64.wrap (by_ l 3) = by_ l 3 := IntWalk.i64_in _ (by have := by_small SM.out 3; omega)
  have k3 : (3 : Int) < (l.length : Int) := by omega
  have k3' : 3 < l.length := by omega
  have bb := born_bpd W (pB l 0)
  obtain ⟨X0, hX0⟩ : ∃ X0, (W.alloc (.cells #[.int .i64 0, .int .i64 0, .int .i64 0, .int .u8 0, .int .u8 0, .int .u8 0, .int .u8 0, .int .u8 0, .int .u8 0, .int .i64 0, .int .i64 0, .int .u8 0, .int .u8 0, .int .u8 0, .int .u8 0, .int .u8 0, .int .u8 0, .int .i64 0, .int .i64 0, .int .i64 0, .int .i64 0, .int .i64 0] 27)).setRow W.heap.size (pB l 0).cells = X0 := ⟨_, rfl⟩
  rw [hX0] at bb
  have HE0 := Lib.hid hX0
  have P0 := Lib.hid bb.1
  have Z0 := Lib.hid (S1.out.then_ bb.2)
  have R0 := Lib.hid (bb.2.blk B1.out (fun s => s.elim))
  have NP : Hid (w.heap.size < W.heap.size) := Lib.hid (blk_lt B1.out)
  clear hX0 bb c3 h4
  by_cases h35 : 35 ≤ l.length
  rotate_left
  · have f1 : decide ((35 : Int) ≤ (l.length : Int)) = false := by simp; omega
    have f2 : decide (35 ≤ l.length) = false := by simp; omega
    have HG : Hid (rguess l = bare (by_ l 3)) := Lib.hid (by rw [rguess, if_neg h35])
    have XS := Lib.hid (bare_small (by_ l 3))
    have PX : Hid (X0.heap[W.heap.size]? = some (.cells (bare (by_ l 3)).cells 27 (0, 0))) := Lib.hid (by rw [← pB_zero]; exact P0.out)
    clear h35 P0
    go_enter Try.func15, Try.ntmps15
    have LX := Lib.hid (load_bpd PX.out)
    go_wp2_with (first
      | rw [HE.out]
      | rw [HE0.out]
      | (refine wpList_store_row rfl 27 (.tmp 4) (.tmp 15) rfl W.heap.size (pB l 0).cells rfl rfl 27 _ (heap_alloc_new W _) (by kernel_rfl) (by rw [pB_zero]; rfl) (by simp [Bpd.cells, Value.oneCell']) ?_)
      | (refine wpList_load_if 27 (.tmp 4) rfl rfl rfl LX.out ?_))
    refine (rencode_all (bare (by_ l 3)) X0).mono ?_
    rintro e w5 ⟨u, rfl, bu, s5⟩
    have Z5 := Lib.hid (Z0.out.then_ s5)
    have P5 := Lib.hid (s5.blk PX.out (fun s => s.elim))
    have R5 := Lib.hid (s5.blk R0.out (fun s => s.elim))
    have V5 := Lib.hid (V.out.still Z5.out)
    have E5 := Lib.hid (step_setRow' Z5.out (g := w.heap.size) (fun h => by omega) (bare 0).cells)
    have F5 := Lib.hid (setRow_heap w5 w.heap.size _ (bare 0).cells _ _ R5.out)
    have SAME := Lib.hid (rdec_same SM.out)
    have HRO := Lib.hid (show rdecOk l = (decide (4 ≤ l.length) && okB (rguess l) && (encB (rguess l) == l)) from rfl)
    rw [HG.out] at HRO SAME
    rw [decide_eq_true H4.out, Bool.true_and] at HRO
    clear s5
    cases ok : okB (bare (by_ l 3))
    · have hc : code (bare (by_ l 3)) = 1 := by rw [code, ok]; rfl
      have hd : decOk l = false := by rw [← SAME.out.1, HRO.out, ok]; rfl
      have HD2 : Hid (decB l = bare 0) := Lib.hid (by rw [decB, hd]; rfl)
      have HC2 : Hid (decCode l = 2) := Lib.hid (by rw [decCode, hd]; rfl)
      rw [hc]
      clear hc hd ok
      go_wp2_with (first
        | (refine wpList_store_row rfl 27 (.tmp 2) (.tmp 70) rfl w.heap.size (bare 0).cells rfl rfl 27 _ R5.out (by kernel_rfl) rfl (by kernel_rfl) ?_))
      (try simp only [Exit.inBlock, Exit.then])
      refine bodyPost_ret (results_dec rfl rfl F5.out) rfl ?_
      exact ⟨by rw [HD2.out, HC2.out]; rfl, E5.out⟩
    have hc : code (bare (by_ l 3)) = 0 := by rw [code, ok]; rfl
    have ea : encA (bare (by_ l 3)) = encB (bare (by_ l 3)) := by rw [encA, ok]; rfl
    rw [ea] at bu
    have t1 := text_of bu
    have t2 := V5.out.text (by have := HL.out; omega)
    have TB := text_beq (encB_small XS.out) SM.out
    rw [hc]
    by_cases heq : encB (bare (by_ l 3)) = l
    · have hd : decOk l = true := by rw [← SAME.out.1, HRO.out, ok]; simpa using heq
      have hcl : (decB l).cells = (bare (by_ l 3)).cells := Bpd.cells_flat (by rw [decB, hd, if_pos rfl]; exact (SAME.out.2 hd).symm)
      have HC2 : Hid (decCode l = 0) := Lib.hid (by rw [decCode, hd]; rfl)
      rw [decide_eq_true heq] at TB
      have L5 := Lib.hid (load_bpd P5.out)
      have G5 := Lib.hid (setRow_heap w5 w.heap.size _ (bare (by_ l 3)).cells _ _ R5.out)
      have E6 := Lib.hid (step_setRow' Z5.out (g := w.heap.size) (fun h => by omega) (bare (by_ l 3)).cells)
      have HCL := Lib.hid hcl
      generalize encB (bare (by_ l 3)) = eb at *
      clear hc ea ok heq hd bu hcl
      go_wp2_with (first
        | (refine wpList_load_if 27 (.tmp 4) rfl rfl rfl L5.out ?_)
        | (refine wpList_store_row rfl 27 (.tmp 2) (.tmp 71) rfl w.heap.size (bare (by_ l 3)).cells rfl rfl 27 _ R5.out (by kernel_rfl) rfl (by simp [Bpd.cells, Value.oneCell']) ?_))
      (try simp only [Exit.inBlock, Exit.then])
      refine bodyPost_ret (results_dec rfl rfl G5.out) rfl ?_
      exact ⟨by rw [HCL.out, HC2.out]; rfl, E6.out⟩
    · have hd : decOk l = false := by
        rw [← SAME.out.1, HRO.out, ok]
        simpa using heq
      have HD2 : Hid (decB l = bare 0) := Lib.hid (by rw [decB, hd]; rfl)
      have HC2 : Hid (decCode l = 2) := Lib.hid (by rw [decCode, hd]; rfl)
      rw [decide_eq_false heq] at TB
      generalize encB (bare (by_ l 3)) = eb at *
      clear hc ea ok heq hd bu
      go_wp2_with (first
        | (refine wpList_store_row rfl 27 (.tmp 2) (.tmp 70) rfl w.heap.size (bare 0).cells rfl rfl 27 _ R5.out (by kernel_rfl) rfl (by kernel_rfl) ?_))
      (try simp only [Exit.inBlock, Exit.then])
      refine bodyPost_ret (results_dec rfl rfl F5.out) rfl ?_
      exact ⟨by rw [HD2.out, HC2.out]; rfl, E5.out⟩
  have f1 : decide ((35 : Int) ≤ (l.length : Int)) = true := by simp; omega
  have f2 : decide (35 ≤ l.length) = true := by simp; omega
  have HG : Hid (rguess l = pB l 11) := Lib.hid (by rw [rguess, if_pos h35])
  have XS := Lib.hid (pB_small SM.out)
  have H35 := Lib.hid h35
  have CAP := Lib.hid (show 35 ≤ cap by omega)
  have T3 : ∀ W', Step None w W' → ∀ (lo n : Nat), lo + n ≤ l.length → ∀ j x, ((l.drop lo).take n)[j]? = some x → W'.cell? ⟨b, bo + lo + j, none⟩ = some (.int .u8 x) := fun W' h' lo n hh j x hj => by
    rw [List.getElem?_take] at hj
    split at hj
    · rw [List.getElem?_drop] at hj
      rw [Nat.add_assoc]
      exact CS.out W' h' _ x hj
    · cases hj
  have TS := Lib.hid T3
  have SMT : Hid (∀ lo n, Small ((l.drop lo).take n)) := Lib.hid fun lo n x hx => SM.out x (List.mem_of_mem_drop (List.mem_of_mem_take hx))
  clear h35 T3
  have c4 := CS.out X0 Z0.out 4 _ (by_get (show 4 < l.length by have := H35.out; omega))
  have hw4 : IntKind.i64.wrap (by_ l 4) = by_ l 4 := IntWalk.i64_in _ (by have := by_small SM.out 4; omega)
  have k4 : (4 : Int) < (l.length : Int) := by have := H35.out; omega
  have k4' : 4 < l.length := by have := H35.out; omega

  have pc0 := blk_cell P0.out 1
  have pf0 := blk_frozen P0.out 1
  rw [show (pB l 0).cells[1]? = some (.int .i64 0) from rfl] at pc0
  have ps := blk_set P0.out 1 (.int .i64 (by_ l 4))
  rw [show (pB l 0).cells.setIfInBounds 1 (.int .i64 (by_ l 4)) = (pB l 1).cells by simp [pB, Bpd.cells]] at ps
  have zs := Z0.out.setCell (p := ⟨W.heap.size, 1, none⟩) (fun h => by have := NP.out; simp at h; omega) (.int .i64 (by_ l 4))
  have rs := (Below.heap_setCell X0 ⟨W.heap.size, 1, none⟩ (.int .i64 (by_ l 4)) w.heap.size (by have := NP.out; simp; omega)).trans R0.out
  obtain ⟨X1, hX⟩ : ∃ X1, X0.setCell ⟨W.heap.size, 1, none⟩ (.int .i64 (by_ l 4)) = X1 := ⟨_, rfl⟩
  rw [hX] at ps zs rs
  have HE1 := Lib.hid hX
  have P1 := Lib.hid ps
  have Z1 := Lib.hid zs
  have R1 := Lib.hid rs
  clear hX ps zs rs

  go_enter Try.func15, Try.ntmps15
  have q13a : (13 : Int) ≤ (cap : Int) := by have := CAP.out; omega
  have q13b : 13 ≤ cap := by have := CAP.out; omega
  have q13c : ¬ cap = 5 := by have := CAP.out; omega
  have q13d : (5 : Int) ≤ (cap : Int) := by have := CAP.out; omega
  go_wp2_with (first
    | rw [HE.out]
    | rw [HE0.out]
    | (refine wpList_store_row rfl 27 (.tmp 4) (.tmp 15) rfl W.heap.size (pB l 0).cells rfl rfl 27 _ (heap_alloc_new W _) (by kernel_rfl) (by rw [pB_zero]; rfl) (by simp [Bpd.cells, Value.oneCell']) ?_)
    | rw [HE1.out]
    | fail)
  have RO := Lib.hid (told_any b (bo + 5) (cap - 5) (by_ l 5) (by_ l 6) (by_ l 7) (by_ l 8) (by_ l 9) (by_ l 10) (by_ l 11) (by_ l 12) X1 (by have := CAP.out; omega) (fun x hx => by simp at hx; rcases hx with rfl | rfl <;> exact by_small SM.out _) (fun q x hq => by
    have hl8 : q < 8 := (List.getElem?_eq_some_iff.1 hq).1
    rw [Nat.add_assoc]
    refine CS.out X1 Z1.out _ x ?_
    have e := by_get (l := l) (p := 5 + q) (by have := H35.out; omega)
    rw [e, ← hq]
    have hcs : q = 0 ∨ q = 1 ∨ q = 2 ∨ q = 3 ∨ q = 4 ∨ q = 5 ∨ q = 6 ∨ q = 7 := by omega
    rcases hcs with rfl | rfl | rfl | rfl | rfl | rfl | rfl | rfl <;> rfl))
  refine RO.out.mono ?_
  rintro e w9 ⟨rfl, s9⟩
  have P1x := Lib.hid (s9.blk P1.out (fun s => s.elim))
  have R1x := s9.blk R1.out (fun s => s.elim)
  have Z1x := Z1.out.then_ s9
  have ps := setRow_heap w9 W.heap.size _ (pB l 3).cells _ _ P1x.out
  have zs := step_setRow' Z1x (g := W.heap.size) (fun h => by have := NP.out; omega) (pB l 3).cells
  have rs := (setRow_other w9 W.heap.size w.heap.size (pB l 3).cells (by have := NP.out; omega)).trans R1x
  obtain ⟨X2, hX⟩ : ∃ X2, w9.setRow W.heap.size (pB l 3).cells = X2 := ⟨_, rfl⟩
  rw [hX] at ps zs rs
  have HE2 := Lib.hid hX
  have P2 := Lib.hid ps
  have Z2 := Lib.hid zs
  have R2 := Lib.hid rs
  clear hX ps zs rs RO s9 R1x Z1x
  have q17a : (17 : Int) ≤ (cap : Int) := by have := CAP.out; omega
  have q17b : 17 ≤ cap := by have := CAP.out; omega
  have q17c : ¬ cap = 13 := by have := CAP.out; omega
  have q17d : (13 : Int) ≤ (cap : Int) := by have := CAP.out; omega
  go_wp2_with (first
    | rw [HE2.out]
    | (refine wpList_store_mid rfl 25 (.tmp 27) (.tmp 26) rfl W.heap.size 2 (⟨by_ l 5 * 256 + by_ l 6, by_ l 7, by_ l 8, by_ l 9, by_ l 10, by_ l 11, by_ l 12⟩ : Idn).cells rfl rfl 27 _ P1x.out (by kernel_rfl) (by show 2 + 7 ≤ 22; omega) (by simp [Idn.cells, Value.oneCell']) (new := (pB l 3).cells) (by simp [pB, Bpd.cells, Idn.cells]) ?_)
    | fail)
  have RO := Lib.hid (rof_any b (bo + 13) (cap - 13) 4 ((l.drop 13).take 4) X2 (by have := H35.out; simp; omega) (by decide) (SMT.out _ _) (TS.out X2 Z2.out 13 4 (by have := H35.out; omega)))
  rw [be4 l (p := 13) (by have := H35.out; omega)] at RO
  refine RO.out.mono ?_
  rintro e w9 ⟨rfl, rfl⟩
  clear RO
  have pc2 := blk_cell P2.out 9
  have pf2 := blk_frozen P2.out 9
  rw [show (pB l 3).cells[9]? = some (.int .i64 0) from rfl] at pc2
  have ps := blk_set P2.out 9 (.int .i64 (((by_ l 13 * 256 + by_ l 14) * 256 + by_ l 15) * 256 + by_ l 16))
  rw [show (pB l 3).cells.setIfInBounds 9 (.int .i64 (((by_ l 13 * 256 + by_ l 14) * 256 + by_ l 15) * 256 + by_ l 16)) = (pB l 4).cells by simp [pB, Bpd.cells]] at ps
  have zs := Z2.out.setCell (p := ⟨W.heap.size, 9, none⟩) (fun h => by have := NP.out; simp at h; omega) (.int .i64 (((by_ l 13 * 256 + by_ l 14) * 256 + by_ l 15) * 256 + by_ l 16))
  have rs := (Below.heap_setCell X2 ⟨W.heap.size, 9, none⟩ (.int .i64 (((by_ l 13 * 256 + by_ l 14) * 256 + by_ l 15) * 256 + by_ l 16)) w.heap.size (by have := NP.out; simp; omega)).trans R2.out
  obtain ⟨X3, hX⟩ : ∃ X3, X2.setCell ⟨W.heap.size, 9, none⟩ (.int .i64 (((by_ l 13 * 256 + by_ l 14) * 256 + by_ l 15) * 256 + by_ l 16)) = X3 := ⟨_, rfl⟩
  rw [hX] at ps zs rs
  have HE3 := Lib.hid hX
  have P3 := Lib.hid ps
  have Z3 := Lib.hid zs
  have R3 := Lib.hid rs
  clear hX ps zs rs
  have q25a : (25 : Int) ≤ (cap : Int) := by have := CAP.out; omega
  have q25b : 25 ≤ cap := by have := CAP.out; omega
  have q25c : ¬ cap = 17 := by have := CAP.out; omega
  have q25d : (17 : Int) ≤ (cap : Int) := by have := CAP.out; omega
  go_wp2_with (first
    | rw [HE3.out]
    | fail)
  have RO := Lib.hid (told_any b (bo + 17) (cap - 17) (by_ l 17) (by_ l 18) (by_ l 19) (by_ l 20) (by_ l 21) (by_ l 22) (by_ l 23) (by_ l 24) X3 (by have := CAP.out; omega) (fun x hx => by simp at hx; rcases hx with rfl | rfl <;> exact by_small SM.out _) (fun q x hq => by
    have hl8 : q < 8 := (List.getElem?_eq_some_iff.1 hq).1
    rw [Nat.add_assoc]
    refine CS.out X3 Z3.out _ x ?_
    have e := by_get (l := l) (p := 17 + q) (by have := H35.out; omega)
    rw [e, ← hq]
    have hcs : q = 0 ∨ q = 1 ∨ q = 2 ∨ q = 3 ∨ q = 4 ∨ q = 5 ∨ q = 6 ∨ q = 7 := by omega
    rcases hcs with rfl | rfl | rfl | rfl | rfl | rfl | rfl | rfl <;> rfl))
  refine RO.out.mono ?_
  rintro e w9 ⟨rfl, s9⟩
  have P3x := Lib.hid (s9.blk P3.out (fun s => s.elim))
  have R3x := s9.blk R3.out (fun s => s.elim)
  have Z3x := Z3.out.then_ s9
  have ps := setRow_heap w9 W.heap.size _ (pB l 6).cells _ _ P3x.out
  have zs := step_setRow' Z3x (g := W.heap.size) (fun h => by have := NP.out; omega) (pB l 6).cells
  have rs := (setRow_other w9 W.heap.size w.heap.size (pB l 6).cells (by have := NP.out; omega)).trans R3x
  obtain ⟨X4, hX⟩ : ∃ X4, w9.setRow W.heap.size (pB l 6).cells = X4 := ⟨_, rfl⟩
  rw [hX] at ps zs rs
  have HE4 := Lib.hid hX
  have P4 := Lib.hid ps
  have Z4 := Lib.hid zs
  have R4 := Lib.hid rs
  clear hX ps zs rs RO s9 R3x Z3x
  have q27a : (27 : Int) ≤ (cap : Int) := by have := CAP.out; omega
  have q27b : 27 ≤ cap := by have := CAP.out; omega
  have q27c : ¬ cap = 25 := by have := CAP.out; omega
  have q27d : (25 : Int) ≤ (cap : Int) := by have := CAP.out; omega
  go_wp2_with (first
    | rw [HE4.out]
    | (refine wpList_store_mid rfl 25 (.tmp 35) (.tmp 34) rfl W.heap.size 10 (⟨by_ l 17 * 256 + by_ l 18, by_ l 19, by_ l 20, by_ l 21, by_ l 22, by_ l 23, by_ l 24⟩ : Idn).cells rfl rfl 27 _ P3x.out (by kernel_rfl) (by show 10 + 7 ≤ 22; omega) (by simp [Idn.cells, Value.oneCell']) (new := (pB l 6).cells) (by simp [pB, Bpd.cells, Idn.cells]) ?_)
    | fail)
  have RO := Lib.hid (rof_any b (bo + 25) (cap - 25) 2 ((l.drop 25).take 2) X4 (by have := H35.out; simp; omega) (by decide) (SMT.out _ _) (TS.out X4 Z4.out 25 2 (by have := H35.out; omega)))
  rw [be2 l (p := 25) (by have := H35.out; omega)] at RO
  refine RO.out.mono ?_
  rintro e w9 ⟨rfl, rfl⟩
  clear RO
  have pc4 := blk_cell P4.out 17
  have pf4 := blk_frozen P4.out 17
  rw [show (pB l 6).cells[17]? = some (.int .i64 0) from rfl] at pc4
  have ps := blk_set P4.out 17 (.int .i64 (by_ l 25 * 256 + by_ l 26))
  rw [show (pB l 6).cells.setIfInBounds 17 (.int .i64 (by_ l 25 * 256 + by_ l 26)) = (pB l 7).cells by simp [pB, Bpd.cells]] at ps
  have zs := Z4.out.setCell (p := ⟨W.heap.size, 17, none⟩) (fun h => by have := NP.out; simp at h; omega) (.int .i64 (by_ l 25 * 256 + by_ l 26))
  have rs := (Below.heap_setCell X4 ⟨W.heap.size, 17, none⟩ (.int .i64 (by_ l 25 * 256 + by_ l 26)) w.heap.size (by have := NP.out; simp; omega)).trans R4.out
  obtain ⟨X5, hX⟩ : ∃ X5, X4.setCell ⟨W.heap.size, 17, none⟩ (.int .i64 (by_ l 25 * 256 + by_ l 26)) = X5 := ⟨_, rfl⟩
  rw [hX] at ps zs rs
  have HE5 := Lib.hid hX
  have P5 := Lib.hid ps
  have Z5 := Lib.hid zs
  have R5 := Lib.hid rs
  clear hX ps zs rs
  have q29a : (29 : Int) ≤ (cap : Int) := by have := CAP.out; omega
  have q29b : 29 ≤ cap := by have := CAP.out; omega
  have q29c : ¬ cap = 27 := by have := CAP.out; omega
  have q29d : (27 : Int) ≤ (cap : Int) := by have := CAP.out; omega
  go_wp2_with (first
    | rw [HE5.out]
    | fail)
  have RO := Lib.hid (rof_any b (bo + 27) (cap - 27) 2 ((l.drop 27).take 2) X5 (by have := H35.out; simp; omega) (by decide) (SMT.out _ _) (TS.out X5 Z5.out 27 2 (by have := H35.out; omega)))
  rw [be2 l (p := 27) (by have := H35.out; omega)] at RO
  refine RO.out.mono ?_
  rintro e w9 ⟨rfl, rfl⟩
  clear RO
  have pc5 := blk_cell P5.out 18
  have pf5 := blk_frozen P5.out 18
  rw [show (pB l 7).cells[18]? = some (.int .i64 0) from rfl] at pc5
  have ps := blk_set P5.out 18 (.int .i64 (by_ l 27 * 256 + by_ l 28))
  rw [show (pB l 7).cells.setIfInBounds 18 (.int .i64 (by_ l 27 * 256 + by_ l 28)) = (pB l 8).cells by simp [pB, Bpd.cells]] at ps
  have zs := Z5.out.setCell (p := ⟨W.heap.size, 18, none⟩) (fun h => by have := NP.out; simp at h; omega) (.int .i64 (by_ l 27 * 256 + by_ l 28))
  have rs := (Below.heap_setCell X5 ⟨W.heap.size, 18, none⟩ (.int .i64 (by_ l 27 * 256 + by_ l 28)) w.heap.size (by have := NP.out; simp; omega)).trans R5.out
  obtain ⟨X6, hX⟩ : ∃ X6, X5.setCell ⟨W.heap.size, 18, none⟩ (.int .i64 (by_ l 27 * 256 + by_ l 28)) = X6 := ⟨_, rfl⟩
  rw [hX] at ps zs rs
  have HE6 := Lib.hid hX
  have P6 := Lib.hid ps
  have Z6 := Lib.hid zs
  have R6 := Lib.hid rs
  clear hX ps zs rs
  have q31a : (31 : Int) ≤ (cap : Int) := by have := CAP.out; omega
  have q31b : 31 ≤ cap := by have := CAP.out; omega
  have q31c : ¬ cap = 29 := by have := CAP.out; omega
  have q31d : (29 : Int) ≤ (cap : Int) := by have := CAP.out; omega
  go_wp2_with (first
    | rw [HE6.out]
    | fail)
  have RO := Lib.hid (rof_any b (bo + 29) (cap - 29) 2 ((l.drop 29).take 2) X6 (by have := H35.out; simp; omega) (by decide) (SMT.out _ _) (TS.out X6 Z6.out 29 2 (by have := H35.out; omega)))
  rw [be2 l (p := 29) (by have := H35.out; omega)] at RO
  refine RO.out.mono ?_
  rintro e w9 ⟨rfl, rfl⟩
  clear RO
  have pc6 := blk_cell P6.out 19
  have pf6 := blk_frozen P6.out 19
  rw [show (pB l 8).cells[19]? = some (.int .i64 0) from rfl] at pc6
  have ps := blk_set P6.out 19 (.int .i64 (by_ l 29 * 256 + by_ l 30))
  rw [show (pB l 8).cells.setIfInBounds 19 (.int .i64 (by_ l 29 * 256 + by_ l 30)) = (pB l 9).cells by simp [pB, Bpd.cells]] at ps
  have zs := Z6.out.setCell (p := ⟨W.heap.size, 19, none⟩) (fun h => by have := NP.out; simp at h; omega) (.int .i64 (by_ l 29 * 256 + by_ l 30))
  have rs := (Below.heap_setCell X6 ⟨W.heap.size, 19, none⟩ (.int .i64 (by_ l 29 * 256 + by_ l 30)) w.heap.size (by have := NP.out; simp; omega)).trans R6.out
  obtain ⟨X7, hX⟩ : ∃ X7, X6.setCell ⟨W.heap.size, 19, none⟩ (.int .i64 (by_ l 29 * 256 + by_ l 30)) = X7 := ⟨_, rfl⟩
  rw [hX] at ps zs rs
  have HE7 := Lib.hid hX
  have P7 := Lib.hid ps
  have Z7 := Lib.hid zs
  have R7 := Lib.hid rs
  clear hX ps zs rs
  have q33a : (33 : Int) ≤ (cap : Int) := by have := CAP.out; omega
  have q33b : 33 ≤ cap := by have := CAP.out; omega
  have q33c : ¬ cap = 31 := by have := CAP.out; omega
  have q33d : (31 : Int) ≤ (cap : Int) := by have := CAP.out; omega
  go_wp2_with (first
    | rw [HE7.out]
    | fail)
  have RO := Lib.hid (rof_any b (bo + 31) (cap - 31) 2 ((l.drop 31).take 2) X7 (by have := H35.out; simp; omega) (by decide) (SMT.out _ _) (TS.out X7 Z7.out 31 2 (by have := H35.out; omega)))
  rw [be2 l (p := 31) (by have := H35.out; omega)] at RO
  refine RO.out.mono ?_
  rintro e w9 ⟨rfl, rfl⟩
  clear RO
  have pc7 := blk_cell P7.out 20
  have pf7 := blk_frozen P7.out 20
  rw [show (pB l 9).cells[20]? = some (.int .i64 0) from rfl] at pc7
  have ps := blk_set P7.out 20 (.int .i64 (by_ l 31 * 256 + by_ l 32))
  rw [show (pB l 9).cells.setIfInBounds 20 (.int .i64 (by_ l 31 * 256 + by_ l 32)) = (pB l 10).cells by simp [pB, Bpd.cells]] at ps
  have zs := Z7.out.setCell (p := ⟨W.heap.size, 20, none⟩) (fun h => by have := NP.out; simp at h; omega) (.int .i64 (by_ l 31 * 256 + by_ l 32))
  have rs := (Below.heap_setCell X7 ⟨W.heap.size, 20, none⟩ (.int .i64 (by_ l 31 * 256 + by_ l 32)) w.heap.size (by have := NP.out; simp; omega)).trans R7.out
  obtain ⟨X8, hX⟩ : ∃ X8, X7.setCell ⟨W.heap.size, 20, none⟩ (.int .i64 (by_ l 31 * 256 + by_ l 32)) = X8 := ⟨_, rfl⟩
  rw [hX] at ps zs rs
  have HE8 := Lib.hid hX
  have P8 := Lib.hid ps
  have Z8 := Lib.hid zs
  have R8 := Lib.hid rs
  clear hX ps zs rs
  have q35a : (35 : Int) ≤ (cap : Int) := by have := CAP.out; omega
  have q35b : 35 ≤ cap := by have := CAP.out; omega
  have q35c : ¬ cap = 33 := by have := CAP.out; omega
  have q35d : (33 : Int) ≤ (cap : Int) := by have := CAP.out; omega
  go_wp2_with (first
    | rw [HE8.out]
    | fail)
  have RO := Lib.hid (rof_any b (bo + 33) (cap - 33) 2 ((l.drop 33).take 2) X8 (by have := H35.out; simp; omega) (by decide) (SMT.out _ _) (TS.out X8 Z8.out 33 2 (by have := H35.out; omega)))
  rw [be2 l (p := 33) (by have := H35.out; omega)] at RO
  refine RO.out.mono ?_
  rintro e w9 ⟨rfl, rfl⟩
  clear RO
  have pc8 := blk_cell P8.out 21
  have pf8 := blk_frozen P8.out 21
  rw [show (pB l 10).cells[21]? = some (.int .i64 0) from rfl] at pc8
  have ps := blk_set P8.out 21 (.int .i64 (by_ l 33 * 256 + by_ l 34))
  rw [show (pB l 10).cells.setIfInBounds 21 (.int .i64 (by_ l 33 * 256 + by_ l 34)) = (pB l 11).cells by simp [pB, Bpd.cells]] at ps
  have zs := Z8.out.setCell (p := ⟨W.heap.size, 21, none⟩) (fun h => by have := NP.out; simp at h; omega) (.int .i64 (by_ l 33 * 256 + by_ l 34))
  have rs := (Below.heap_setCell X8 ⟨W.heap.size, 21, none⟩ (.int .i64 (by_ l 33 * 256 + by_ l 34)) w.heap.size (by have := NP.out; simp; omega)).trans R8.out
  obtain ⟨X9, hX⟩ : ∃ X9, X8.setCell ⟨W.heap.size, 21, none⟩ (.int .i64 (by_ l 33 * 256 + by_ l 34)) = X9 := ⟨_, rfl⟩
  rw [hX] at ps zs rs
  have HE9 := Lib.hid hX
  have P9 := Lib.hid ps
  have Z9 := Lib.hid zs
  have R9 := Lib.hid rs
  clear hX ps zs rs
  have LX := Lib.hid (load_bpd P9.out)
  go_wp2_with (first
    | rw [HE9.out]
    | (refine wpList_load_if 27 (.tmp 4) rfl rfl rfl LX.out ?_))
  refine (rencode_all (pB l 11) X9).mono ?_
  rintro e w5 ⟨u, rfl, bu, s5⟩
  have Z5 := Lib.hid (Z9.out.then_ s5)
  have P5 := Lib.hid (s5.blk P9.out (fun s => s.elim))
  have R5 := Lib.hid (s5.blk R9.out (fun s => s.elim))
  have V5 := Lib.hid (V.out.still Z5.out)
  have E5 := Lib.hid (step_setRow' Z5.out (g := w.heap.size) (fun h => by omega) (bare 0).cells)
  have F5 := Lib.hid (setRow_heap w5 w.heap.size _ (bare 0).cells _ _ R5.out)
  have SAME := Lib.hid (rdec_same SM.out)
  have HRO := Lib.hid (show rdecOk l = (decide (4 ≤ l.length) && okB (rguess l) && (encB (rguess l) == l)) from rfl)
  rw [HG.out] at HRO SAME
  rw [decide_eq_true H4.out, Bool.true_and] at HRO
  clear s5
  cases ok : okB (pB l 11)
  · have hc : code (pB l 11) = 1 := by rw [code, ok]; rfl
    have hd : decOk l = false := by rw [← SAME.out.1, HRO.out, ok]; rfl
    have HD2 : Hid (decB l = bare 0) := Lib.hid (by rw [decB, hd]; rfl)
    have HC2 : Hid (decCode l = 2) := Lib.hid (by rw [decCode, hd]; rfl)
    rw [hc]
    clear hc hd ok
    go_wp2_with (first
      | (refine wpList_store_row rfl 27 (.tmp 2) (.tmp 70) rfl w.heap.size (bare 0).cells rfl rfl 27 _ R5.out (by kernel_rfl) rfl (by kernel_rfl) ?_))
    (try simp only [Exit.inBlock, Exit.then])
    refine bodyPost_ret (results_dec rfl rfl F5.out) rfl ?_
    exact ⟨by rw [HD2.out, HC2.out]; rfl, E5.out⟩
  have hc : code (pB l 11) = 0 := by rw [code, ok]; rfl
  have ea : encA (pB l 11) = encB (pB l 11) := by rw [encA, ok]; rfl
  rw [ea] at bu
  have t1 := text_of bu
  have t2 := V5.out.text (by have := HL.out; omega)
  have TB := text_beq (encB_small XS.out) SM.out
  rw [hc]
  by_cases heq : encB (pB l 11) = l
  · have hd : decOk l = true := by rw [← SAME.out.1, HRO.out, ok]; simpa using heq
    have hcl : (decB l).cells = (pB l 11).cells := Bpd.cells_flat (by rw [decB, hd, if_pos rfl]; exact (SAME.out.2 hd).symm)
    have HC2 : Hid (decCode l = 0) := Lib.hid (by rw [decCode, hd]; rfl)
    rw [decide_eq_true heq] at TB
    have L5 := Lib.hid (load_bpd P5.out)
    have G5 := Lib.hid (setRow_heap w5 w.heap.size _ (pB l 11).cells _ _ R5.out)
    have E6 := Lib.hid (step_setRow' Z5.out (g := w.heap.size) (fun h => by omega) (pB l 11).cells)
    have HCL := Lib.hid hcl
    generalize encB (pB l 11) = eb at *
    clear hc ea ok heq hd bu hcl
    go_wp2_with (first
      | (refine wpList_load_if 27 (.tmp 4) rfl rfl rfl L5.out ?_)
      | (refine wpList_store_row rfl 27 (.tmp 2) (.tmp 71) rfl w.heap.size (pB l 11).cells rfl rfl 27 _ R5.out (by kernel_rfl) rfl (by simp [Bpd.cells, Value.oneCell']) ?_))
    (try simp only [Exit.inBlock, Exit.then])
    refine bodyPost_ret (results_dec rfl rfl G5.out) rfl ?_
    exact ⟨by rw [HCL.out, HC2.out]; rfl, E6.out⟩
  · have hd : decOk l = false := by
      rw [← SAME.out.1, HRO.out, ok]
      simpa using heq
    have HD2 : Hid (decB l = bare 0) := Lib.hid (by rw [decB, hd]; rfl)
    have HC2 : Hid (decCode l = 2) := Lib.hid (by rw [decCode, hd]; rfl)
    rw [decide_eq_false heq] at TB
    generalize encB (pB l 11) = eb at *
    clear hc ea ok heq hd bu
    go_wp2_with (first
      | (refine wpList_store_row rfl 27 (.tmp 2) (.tmp 70) rfl w.heap.size (bare 0).cells rfl rfl 27 _ R5.out (by kernel_rfl) rfl (by kernel_rfl) ?_))
    (try simp only [Exit.inBlock, Exit.then])
    refine bodyPost_ret (results_dec rfl rfl F5.out) rfl ?_
    exact ⟨by rw [HD2.out, HC2.out]; rfl, E5.out⟩

set_option maxRecDepth 100000 in
set_option maxHeartbeats 4000000 in
theorem bpduDecodes_walk (v0 : Value) (w : World) (h0 : Arg w (.slice 1 1 (.int .u8)) v0) :
    Calls Try.prog 6 #[v0] w fun e w' => e = .returned (.bool true) ∧ Below w.heap.size w w' := by
  obtain ⟨l, hv, hs, hl⟩ := arg_seg h0
  clear h0
  have V := Lib.hid hv
  have F := Lib.hid (And.intro hs hl)
  obtain ⟨ao, cap, rfl, -, -, -⟩ := hv
  clear hs hl
  go_enter Try.func6, Try.ntmps6
  go_wp2_with fail
  refine (awake_any _).mono ?_
  rintro e w2 ⟨rfl, s2⟩
  have S2 := Lib.hid s2
  have V2 := Lib.hid (V.out.still s2)
  clear s2
  by_cases h1000 : l.length ≤ 1000
  rotate_left
  · have d1 : decide ((1000 : Int) < (l.length : Int)) = true := by simp; omega
    have d2 : decide (1000 < l.length) = true := by simp; omega
    clear h1000
    go_wp2_with fail
    go_ret
    exact ⟨rfl, S2.out.toBelow⟩
  have d1 : decide ((1000 : Int) < (l.length : Int)) = false := by simp; omega
  have d2 : decide (1000 < l.length) = false := by simp; omega
  have H1000 := Lib.hid h1000
  clear h1000
  go_wp2_with fail
  refine (decode_any _ l w2 F.out.1 V2.out).mono ?_
  rintro e w3 ⟨rfl, s3⟩
  have bb := born_bpd w3 (decB l)
  obtain ⟨W4, hW4⟩ : ∃ W4, (w3.alloc (.cells #[.int .i64 0, .int .i64 0, .int .i64 0, .int .u8 0, .int .u8 0, .int .u8 0, .int .u8 0, .int .u8 0, .int .u8 0, .int .i64 0, .int .i64 0, .int .u8 0, .int .u8 0, .int .u8 0, .int .u8 0, .int .u8 0, .int .u8 0, .int .i64 0, .int .i64 0, .int .i64 0, .int .i64 0, .int .i64 0] 27)).setRow w3.heap.size (decB l).cells = W4 := ⟨_, rfl⟩
  rw [hW4] at bb
  have HE4 := Lib.hid hW4
  have N4 := Lib.hid bb.1
  have S4 := Lib.hid ((S2.out.then_ s3).then_ bb.2)
  have V4 := Lib.hid ((V2.out.still s3).still bb.2)
  clear hW4 bb s3
  go_wp2_with (first
    | rw [HE4.out]
    | (refine wpList_store_row rfl 27 (.tmp 4) (.tmp 20) rfl w3.heap.size (decB l).cells rfl rfl 27 _ (heap_alloc_new w3 _) (by kernel_rfl) rfl (by simp [Bpd.cells, Value.oneCell']) ?_))
  refine (rdecode_any _ l W4 F.out.1 V4.out H1000.out).mono ?_
  rintro e w5 ⟨rfl, s5⟩
  have bb := born_bpd w5 (decB l)
  obtain ⟨W6, hW6⟩ : ∃ W6, (w5.alloc (.cells #[.int .i64 0, .int .i64 0, .int .i64 0, .int .u8 0, .int .u8 0, .int .u8 0, .int .u8 0, .int .u8 0, .int .u8 0, .int .i64 0, .int .i64 0, .int .u8 0, .int .u8 0, .int .u8 0, .int .u8 0, .int .u8 0, .int .u8 0, .int .i64 0, .int .i64 0, .int .i64 0, .int .i64 0, .int .i64 0] 27)).setRow w5.heap.size (decB l).cells = W6 := ⟨_, rfl⟩
  rw [hW6] at bb
  have HE6 := Lib.hid hW6
  have N6 := Lib.hid (load_bpd bb.1)
  have N5 := Lib.hid (load_bpd (bb.2.blk (s5.blk N4.out (fun s => s.elim)) (fun s => s.elim)))
  have S6 := Lib.hid ((S4.out.then_ s5).then_ bb.2)
  have he := eq_bpd (decB l) (decB l)
  simp only [BEq.rfl] at he
  clear hW6 bb s5
  go_wp2_with (first
    | rw [HE6.out]
    | (refine wpList_load_if 27 (.tmp 4) rfl rfl rfl N5.out ?_)
    | (refine wpList_load_if 27 (.tmp 6) rfl rfl rfl N6.out ?_)
    | (refine wpList_store_row rfl 27 (.tmp 6) (.tmp 25) rfl w5.heap.size (decB l).cells rfl rfl 27 _ (heap_alloc_new w5 _) (by kernel_rfl) rfl (by simp [Bpd.cells, Value.oneCell']) ?_))
  go_ret
  exact ⟨rfl, S6.out.toBelow⟩
end Go.Proofs.Ytfpdfenepelcdaa
