/- The document's Decode: of, told. -/
import Derived.Test.YtfpdfenepelcdaaD8
namespace Go.Proofs.Ytfpdfenepelcdaa
open Go.RowKit Go.Gm

theorem wpList_store_mid {P : Program} {ops : Array Oper} {rest : List Oper} {o : Oper} {a : Act} {w : World} {Q : Exit → Act → World → Prop} (hgd : o.guard = none) (ty : TypeId) (x y : Operand) (ho : o.op = .store ty x y)
    (g off : Nat) (cells : Array Value) (hx : a.eval x = .pointer (some ⟨g, off, none⟩)) (hy : a.eval y = .agg cells) (t : TypeId) (old : Array Value) (hg : w.heap[g]? = some (.cells old t (0, 0))) (hi : (P.info? ty).map (·.size) = some cells.size)
    (hfit : off + cells.size ≤ old.size) (h1 : ∀ v ∈ cells.toList, v.oneCell' = true) {new : Array Value} (hn : (old.toList.take off ++ cells.toList ++ old.toList.drop (off + cells.size)).toArray = new)
    (h : wpList P ops Q rest (a.put o.dst undef) (w.setRow g new)) : wpList P ops Q (o :: rest) a w := by
  have hs : (storeVar ty ⟨g, off, none⟩ (.agg cells)).run P w = .ok () (w.setRow g new) := by
    have := run_storeCells_at P g off t cells.toList 0 old w hg (by simpa using hfit) h1
    simp only [Nat.add_zero, Array.length_toList] at this
    rw [hn] at this
    cases hq : P.info? ty with
    | none => simp [hq] at hi
    | some i =>
      have hs : cells.size = i.size := by simp [hq] at hi; omega
      simp [storeVar, sizeOf, typeInfo, hq, Value.cells, hs, this]
  refine wpList_plain hgd fun K hK => ?_
  unfold Oper.wp execOp
  simp only [ho, hx, hy, Instr.storeAt, Instr.sureAddr, Sem.run_bind, Sem.run_pure, Result.andThen_ok, hs]
  exact hK _ _ h

theorem rof_any (b off cap n : Nat) (l : List Int) (w : World) (hn : l.length = n) (hl : n ≤ 4) (hs : Small l) (hc : ∀ j x, l[j]? = some x → w.cell? ⟨b, off + j, none⟩ = some (.int .u8 x)) :
    Calls Try.prog 29 #[.slice (some ⟨b, off, none⟩) n cap] w fun e w' => e = .returned (.int .i64 (beL l 0)) ∧ w = w' := by
  subst hn
  have H := Lib.hid hc
  have HS := Lib.hid hs
  clear hc hs
  go_enter Try.func29, Try.ntmps29
  go_wp2_with fail
  go_loopw [3, 4] (fun n i wr => ∃ j : Nat, j ≤ l.length ∧ i = .int .i64 j ∧ n = .int .i64 (beL (l.take j) 0) ∧ wr = w) (fun _ i _ => l.length - (intOf i).toNat)
  case atStart => exact ⟨0, Nat.zero_le _, rfl, rfl, rfl⟩
  case round =>
    obtain ⟨j, hj, rfl, rfl, rfl⟩ := hrel
    by_cases h : j < l.length
    · have d1 : decide ((j : Int) < (l.length : Int)) = true := by simpa using h
      have c0 : (0 : Int) ≤ (j : Int) := by omega
      have c1 : (j : Int) < (l.length : Int) := by omega
      obtain ⟨x, hx⟩ : ∃ x, l[j]? = some x := ⟨l[j], List.getElem?_eq_getElem h⟩
      have hcell := H.out j x hx
      have hb := HS.out x (List.mem_of_getElem? hx)
      have hn : l.take (j + 1) = l.take j ++ [x] := by rw [List.take_add_one, hx]; rfl
      have hr := beL_rng (l := l.take j) (fun y hy => HS.out y (List.mem_of_mem_take hy)) (by simp; omega)
      have hsn := beL_snoc (l.take j) 0 x
      rw [← hn] at hsn
      have hw1 : IntKind.i64.wrap ((j : Int) + 1) = ((j + 1 : Nat) : Int) := by rw [IntWalk.i64_in _ (by omega)]; omega
      have HN := Lib.hid hsn
      clear hsn hn hx
      generalize beL (l.take j) 0 = N at *
      have e1 : IntKind.i64.wrap (N * 256) = N * 256 := IntWalk.i64_in _ (by omega)
      have e2 : IntKind.i64.wrap x = x := IntWalk.i64_in _ (by omega)
      have e3 : IntKind.i64.wrap (N * 256 + x) = N * 256 + x := IntWalk.i64_in _ (by omega)
      clear hr hb
      go_wp2_with fail
      go_roundw
      case rel => exact ⟨j + 1, by omega, rfl, by rw [HN.out], by trivial⟩
      case measure => simp [intOf]; omega
    · have d1 : decide ((j : Int) < (l.length : Int)) = false := by simpa using h
      obtain rfl : j = l.length := by omega
      have ht : l.take l.length = l := List.take_length
      rw [ht]
      clear ht
      go_wp2_with fail
      go_ret
      exact ⟨rfl, rfl⟩

/-- An identity of which k bytes of the address are there. -/
def idK (p a0 a1 a2 a3 a4 a5 : Int) (k : Int) : Idn := ⟨p, if 0 < k then a0 else 0, if 1 < k then a1 else 0, if 2 < k then a2 else 0, if 3 < k then a3 else 0, if 4 < k then a4 else 0, if 5 < k then a5 else 0⟩

set_option maxRecDepth 100000 in
set_option maxHeartbeats 8000000 in
theorem told_any (b off cap : Nat) (x0 x1 a0 a1 a2 a3 a4 a5 : Int) (w : World) (hcap : 8 ≤ cap) (hs : Small [x0, x1]) (hc : ∀ j x, [x0, x1, a0, a1, a2, a3, a4, a5][j]? = some x → w.cell? ⟨b, off + j, none⟩ = some (.int .u8 x)) :
    Calls Try.prog 28 #[.slice (some ⟨b, off, none⟩) 8 cap] w fun e w' => e = .returned (.agg (⟨x0 * 256 + x1, a0, a1, a2, a3, a4, a5⟩ : Idn).cells) ∧ Step None w w' := by
  have b1 := heap_alloc_new w (.cells #[.int .i64 0, .int .u8 0, .int .u8 0, .int .u8 0, .int .u8 0, .int .u8 0, .int .u8 0] 25)
  have s1 := (Step.refl None w).alloc (.cells #[.int .i64 0, .int .u8 0, .int .u8 0, .int .u8 0, .int .u8 0, .int .u8 0, .int .u8 0] 25)
  obtain ⟨W, hW⟩ : ∃ W, w.alloc (.cells #[.int .i64 0, .int .u8 0, .int .u8 0, .int .u8 0, .int .u8 0, .int .u8 0, .int .u8 0] 25) = W := ⟨_, rfl⟩
  rw [hW] at b1 s1
  have HE := Lib.hid hW
  have B1 := Lib.hid b1
  have S1 := Lib.hid s1
  have C1 : Hid (∀ j x, [x0, x1, a0, a1, a2, a3, a4, a5][j]? = some x → W.cell? ⟨b, off + j, none⟩ = some (.int .u8 x)) := Lib.hid fun j x hj => by
    have := hc j x hj
    exact (s1.cell (p := ⟨b, off + j, none⟩) (World.block_lt_of_cell? _ _ this) (fun s => s.elim)).trans this
  have k3 : (2 : Int) ≤ (cap : Int) := by omega
  have k4 : 2 ≤ cap := by omega
  have BLT : Hid (b < w.heap.size) := Lib.hid (World.block_lt_of_cell? _ _ (hc 0 x0 rfl))
  have RO := Lib.hid (rof_any b off cap 2 [x0, x1] W rfl (by decide) hs (fun j x hj => C1.out j x (by
    match j, hj with
    | 0, hj => exact hj
    | 1, hj => exact hj
    | j + 2, hj => simp at hj)))
  rw [show beL [x0, x1] 0 = x0 * 256 + x1 by simp [beL]] at RO
  clear hW b1 s1 hc hs
  go_enter Try.func28, Try.ntmps28
  go_wp2_with (first
    | rw [HE.out])
  refine RO.out.mono ?_
  rintro e w2 ⟨rfl, rfl⟩
  have bb : ((W.alloc (.cells #[.int .i64 0, .int .u8 0, .int .u8 0, .int .u8 0, .int .u8 0, .int .u8 0, .int .u8 0] 25)).setRow W.heap.size (idK (x0 * 256 + x1) a0 a1 a2 a3 a4 a5 0).cells).heap[W.heap.size]? = some (.cells (idK (x0 * 256 + x1) a0 a1 a2 a3 a4 a5 0).cells 25 (0, 0)) := setRow_heap _ _ _ _ _ _ (heap_alloc_new W _)
  have sb : Step None W ((W.alloc (.cells #[.int .i64 0, .int .u8 0, .int .u8 0, .int .u8 0, .int .u8 0, .int .u8 0, .int .u8 0] 25)).setRow W.heap.size (idK (x0 * 256 + x1) a0 a1 a2 a3 a4 a5 0).cells) := step_setRow' ((Step.refl None W).alloc _) (fun h => by omega) _
  obtain ⟨W3, hW3⟩ : ∃ W3, (W.alloc (.cells #[.int .i64 0, .int .u8 0, .int .u8 0, .int .u8 0, .int .u8 0, .int .u8 0, .int .u8 0] 25)).setRow W.heap.size (idK (x0 * 256 + x1) a0 a1 a2 a3 a4 a5 0).cells = W3 := ⟨_, rfl⟩
  rw [hW3] at bb sb
  have HE3 := Lib.hid hW3
  have BB := Lib.hid bb
  have SB := Lib.hid (S1.out.then_ sb)
  have B3 := Lib.hid (sb.blk B1.out (fun s => s.elim))
  have C3 : Hid (∀ W', Step (fun k => w.heap.size ≤ k) W3 W' → ∀ j x, [x0, x1, a0, a1, a2, a3, a4, a5][j]? = some x → W'.cell? ⟨b, off + j, none⟩ = some (.int .u8 x)) := Lib.hid fun W' h' j x hj => by
    have h1 := C1.out j x hj
    have h2 := (sb.cell (p := ⟨b, off + j, none⟩) (World.block_lt_of_cell? _ _ h1) (fun s => s.elim)).trans h1
    exact (h'.cell (p := ⟨b, off + j, none⟩) (World.block_lt_of_cell? _ _ h2) (fun s => by have := BLT.out; simp at s; omega)).trans h2
  have SN : Hid (w.heap.size < W.heap.size) := Lib.hid (blk_lt B1.out)
  clear hW3 bb sb
  go_wp2_with (first
    | rw [HE3.out]
    | (refine wpList_store_row rfl 25 (.tmp 3) (.tmp 8) rfl W.heap.size (idK (x0 * 256 + x1) a0 a1 a2 a3 a4 a5 0).cells rfl rfl 25 _ (heap_alloc_new W _) (by kernel_rfl) rfl (by simp [idK, Idn.cells, Value.oneCell']) ?_))
  generalize W.heap.size = N at *
  clear HE3 RO C1 HE
  go_loopw [4] (fun i wr => ∃ (k : Int) (V : World), V = wr ∧ (k = 0 ∨ k = 1 ∨ k = 2 ∨ k = 3 ∨ k = 4 ∨ k = 5 ∨ k = 6) ∧ i = .int .i64 k ∧ Hid (wr.heap[N]? = some (.cells (idK (x0 * 256 + x1) a0 a1 a2 a3 a4 a5 k).cells 25 (0, 0))) ∧ Hid (Step (fun q => q = N) W3 wr)) (fun i _ => 6 - (intOf i).toNat)
  case atStart => exact ⟨0, _, rfl, .inl rfl, rfl, BB, Lib.hid (Step.refl _ _)⟩
  case round =>
    obtain ⟨k, wr, rfl, hk, rfl, hb, hs⟩ := hrel
    have CW := Lib.hid (C3.out wr (hs.out.mono fun q _ e => by subst e; exact Nat.le_of_lt SN.out))
    rcases hk with rfl | rfl | rfl | rfl | rfl | rfl | rfl

    · have cc := CW.out 2 a0 rfl
      have fz := blk_frozen hb.out 1
      have pc := blk_cell hb.out 1
      rw [show (idK (x0 * 256 + x1) a0 a1 a2 a3 a4 a5 0).cells[1]? = some (.int .u8 0) from rfl] at pc
      have ps := blk_set hb.out 1 (.int .u8 a0)
      rw [show (idK (x0 * 256 + x1) a0 a1 a2 a3 a4 a5 0).cells.setIfInBounds 1 (.int .u8 a0) = (idK (x0 * 256 + x1) a0 a1 a2 a3 a4 a5 1).cells from rfl] at ps
      have PS := Lib.hid ps
      have SS := Lib.hid (hs.out.setCell (p := ⟨N, 1, none⟩) (fun _ => rfl) (.int .u8 a0))
      clear ps CW
      go_wp2_with fail
      go_roundw
      case rel => exact ⟨1, _, rfl, by decide, rfl, PS, SS⟩
      case measure => simp [intOf]
    · have cc := CW.out 3 a1 rfl
      have fz := blk_frozen hb.out 2
      have pc := blk_cell hb.out 2
      rw [show (idK (x0 * 256 + x1) a0 a1 a2 a3 a4 a5 1).cells[2]? = some (.int .u8 0) from rfl] at pc
      have ps := blk_set hb.out 2 (.int .u8 a1)
      rw [show (idK (x0 * 256 + x1) a0 a1 a2 a3 a4 a5 1).cells.setIfInBounds 2 (.int .u8 a1) = (idK (x0 * 256 + x1) a0 a1 a2 a3 a4 a5 2).cells from rfl] at ps
      have PS := Lib.hid ps
      have SS := Lib.hid (hs.out.setCell (p := ⟨N, 2, none⟩) (fun _ => rfl) (.int .u8 a1))
      clear ps CW
      go_wp2_with fail
      go_roundw
      case rel => exact ⟨2, _, rfl, by decide, rfl, PS, SS⟩
      case measure => simp [intOf]
    · have cc := CW.out 4 a2 rfl
      have fz := blk_frozen hb.out 3
      have pc := blk_cell hb.out 3
      rw [show (idK (x0 * 256 + x1) a0 a1 a2 a3 a4 a5 2).cells[3]? = some (.int .u8 0) from rfl] at pc
      have ps := blk_set hb.out 3 (.int .u8 a2)
      rw [show (idK (x0 * 256 + x1) a0 a1 a2 a3 a4 a5 2).cells.setIfInBounds 3 (.int .u8 a2) = (idK (x0 * 256 + x1) a0 a1 a2 a3 a4 a5 3).cells from rfl] at ps
      have PS := Lib.hid ps
      have SS := Lib.hid (hs.out.setCell (p := ⟨N, 3, none⟩) (fun _ => rfl) (.int .u8 a2))
      clear ps CW
      go_wp2_with fail
      go_roundw
      case rel => exact ⟨3, _, rfl, by decide, rfl, PS, SS⟩
      case measure => simp [intOf]
    · have cc := CW.out 5 a3 rfl
      have fz := blk_frozen hb.out 4
      have pc := blk_cell hb.out 4
      rw [show (idK (x0 * 256 + x1) a0 a1 a2 a3 a4 a5 3).cells[4]? = some (.int .u8 0) from rfl] at pc
      have ps := blk_set hb.out 4 (.int .u8 a3)
      rw [show (idK (x0 * 256 + x1) a0 a1 a2 a3 a4 a5 3).cells.setIfInBounds 4 (.int .u8 a3) = (idK (x0 * 256 + x1) a0 a1 a2 a3 a4 a5 4).cells from rfl] at ps
      have PS := Lib.hid ps
      have SS := Lib.hid (hs.out.setCell (p := ⟨N, 4, none⟩) (fun _ => rfl) (.int .u8 a3))
      clear ps CW
      go_wp2_with fail
      go_roundw
      case rel => exact ⟨4, _, rfl, by decide, rfl, PS, SS⟩
      case measure => simp [intOf]
    · have cc := CW.out 6 a4 rfl
      have fz := blk_frozen hb.out 5
      have pc := blk_cell hb.out 5
      rw [show (idK (x0 * 256 + x1) a0 a1 a2 a3 a4 a5 4).cells[5]? = some (.int .u8 0) from rfl] at pc
      have ps := blk_set hb.out 5 (.int .u8 a4)
      rw [show (idK (x0 * 256 + x1) a0 a1 a2 a3 a4 a5 4).cells.setIfInBounds 5 (.int .u8 a4) = (idK (x0 * 256 + x1) a0 a1 a2 a3 a4 a5 5).cells from rfl] at ps
      have PS := Lib.hid ps
      have SS := Lib.hid (hs.out.setCell (p := ⟨N, 5, none⟩) (fun _ => rfl) (.int .u8 a4))
      clear ps CW
      go_wp2_with fail
      go_roundw
      case rel => exact ⟨5, _, rfl, by decide, rfl, PS, SS⟩
      case measure => simp [intOf]
    · have cc := CW.out 7 a5 rfl
      have fz := blk_frozen hb.out 6
      have pc := blk_cell hb.out 6
      rw [show (idK (x0 * 256 + x1) a0 a1 a2 a3 a4 a5 5).cells[6]? = some (.int .u8 0) from rfl] at pc
      have ps := blk_set hb.out 6 (.int .u8 a5)
      rw [show (idK (x0 * 256 + x1) a0 a1 a2 a3 a4 a5 5).cells.setIfInBounds 6 (.int .u8 a5) = (idK (x0 * 256 + x1) a0 a1 a2 a3 a4 a5 6).cells from rfl] at ps
      have PS := Lib.hid ps
      have SS := Lib.hid (hs.out.setCell (p := ⟨N, 6, none⟩) (fun _ => rfl) (.int .u8 a5))
      clear ps CW
      go_wp2_with fail
      go_roundw
      case rel => exact ⟨6, _, rfl, by decide, rfl, PS, SS⟩
      case measure => simp [intOf]
    · have B5 := Lib.hid (hs.out.blk B3.out (fun e => by have := SN.out; omega))
      have PF := Lib.hid (setRow_heap wr w.heap.size _ (⟨x0 * 256 + x1, a0, a1, a2, a3, a4, a5⟩ : Idn).cells _ _ B5.out)
      have ST : Hid (Step None w (wr.setRow w.heap.size (⟨x0 * 256 + x1, a0, a1, a2, a3, a4, a5⟩ : Idn).cells)) := Lib.hid (step_setRow' (SB.out.trans hs.out fun i hi e => by have := SN.out; omega) (fun h => by omega) _)
      have lf : (Instr.loadAt 25 (.pointer (some ⟨N, 0, none⟩))).run Try.prog wr = .ok (.agg (⟨x0 * 256 + x1, a0, a1, a2, a3, a4, a5⟩ : Idn).cells) wr := by
        have := run_loadAt_mid (P := Try.prog) wr N 0 25 (⟨x0 * 256 + x1, a0, a1, a2, a3, a4, a5⟩ : Idn).cells.toList _ (fun j u hj => by rw [blk_cell hb.out, Nat.zero_add]; simpa [idK] using hj) Try.underlying25 rfl (by kernel_rfl)
        simpa using this
      have LF := Lib.hid lf
      clear CW lf
      go_wp2_with (first
        | (refine wpList_load_if 25 (.tmp 3) rfl rfl rfl LF.out ?_)
        | (refine wpList_store_row rfl 25 (.tmp 2) (.tmp 21) rfl w.heap.size (⟨x0 * 256 + x1, a0, a1, a2, a3, a4, a5⟩ : Idn).cells rfl rfl 25 _ B5.out (by kernel_rfl) rfl (by simp [Idn.cells, Value.oneCell']) ?_))
      (try simp only [Exit.inBlock, Exit.then])
      refine bodyPost_ret (results_cell_row (P := Try.prog) (fn := Try.f28) rfl _ _ w.heap.size 25 (⟨x0 * 256 + x1, a0, a1, a2, a3, a4, a5⟩ : Idn).cells (0, 0) _ rfl PF.out Try.underlying25 rfl (by kernel_rfl)) rfl ?_
      exact ⟨rfl, ST.out⟩
end Go.Proofs.Ytfpdfenepelcdaa
