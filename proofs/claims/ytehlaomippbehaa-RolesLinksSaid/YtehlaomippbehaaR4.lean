/- Are ports fair? The code. -/
import Derived.Test.YtehlaomippbehaaR3
namespace Go.Proofs.Ytehlaomippbehaa
open Go.RowKit Go.Gm

def zeroH : Array Value := #[.int .i64 0, .int .i64 0, .bool false, .bool false, .int .i64 0, .int .u8 0, .int .u8 0, .int .u8 0, .int .u8 0, .int .u8 0, .int .u8 0, .int .i64 0, .int .i64 0, .int .u8 0, .int .u8 0, .int .u8 0, .int .u8 0, .int .u8 0, .int .u8 0, .int .i64 0, .int .i64 0]
def zeroV : Array Value := #[.int .i64 0, .int .u8 0, .int .u8 0, .int .u8 0, .int .u8 0, .int .u8 0, .int .u8 0, .int .i64 0, .int .i64 0, .int .u8 0, .int .u8 0, .int .u8 0, .int .u8 0, .int .u8 0, .int .u8 0, .int .i64 0, .int .i64 0]

/-- Ports that lie in a row. -/
def Hears (w : World) (ao : Option Addr) (l : List Hrd) : Prop :=
  ∀ i h, l[i]? = some h → h.v.fine ∧ ∃ b off, ao = some ⟨b, off, none⟩ ∧ ∀ j u, h.cells[j]? = some u → w.cell? ⟨b, off + i * 21 + j, none⟩ = some u
theorem Hears.still {w w' : World} {ao : Option Addr} {l : List Hrd} (h : Hears w ao l) (hw : Step None w w') : Hears w' ao l := fun i x hx => by
  obtain ⟨f, b, off, e, hc⟩ := h i x hx
  refine ⟨f, b, off, e, fun j u hu => ?_⟩
  have := hc j u hu
  rw [hw.cell (p := ⟨b, off + i * 21 + j, none⟩) (World.block_lt_of_cell? w _ this) (fun s => s.elim)]
  exact this
theorem load_heard {w : World} {b o : Nat} {x : Hrd} (h : ∀ j u, x.cells[j]? = some u → w.cell? ⟨b, o + j, none⟩ = some u) : (Instr.loadAt 52 (.pointer (some ⟨b, o, none⟩))).run Try.prog w = .ok (.agg x.cells) w := by
  have := run_loadAt_mid (P := Try.prog) w b o 52 x.cells.toList _ (fun j u hj => h j u (by simpa using hj)) Try.underlying52 rfl (by kernel_rfl)
  simpa using this
theorem load_way {w : World} {b o : Nat} {x : Hrd} (h : ∀ j u, x.cells[j]? = some u → w.cell? ⟨b, o + j, none⟩ = some u) : (Instr.loadAt 27 (.pointer (some ⟨b, o + 4, none⟩))).run Try.prog w = .ok (.agg x.v.cells) w := by
  have := run_loadAt_mid (P := Try.prog) w b (o + 4) 27 x.v.cells.toList _ (fun j u hj => by
    have h17 : j < 17 := by
      rcases Nat.lt_or_ge j 17 with h | h
      · exact h
      · rw [Array.getElem?_toList, Array.getElem?_eq_none (show x.v.cells.size ≤ j from h)] at hj; cases hj
    rw [Nat.add_assoc]
    refine h (4 + j) u ?_
    rw [← hj]
    have hcs : j = 0 ∨ j = 1 ∨ j = 2 ∨ j = 3 ∨ j = 4 ∨ j = 5 ∨ j = 6 ∨ j = 7 ∨ j = 8 ∨ j = 9 ∨ j = 10 ∨ j = 11 ∨ j = 12 ∨ j = 13 ∨ j = 14 ∨ j = 15 ∨ j = 16 := by omega
    rcases hcs with rfl | rfl | rfl | rfl | rfl | rfl | rfl | rfl | rfl | rfl | rfl | rfl | rfl | rfl | rfl | rfl | rfl <;> rfl) Try.underlying27 rfl (by kernel_rfl)
  simpa using this
theorem wpList_load_is {P : Program} {ops : Array Oper} {rest : List Oper} {Q : Exit → Act → World → Prop} {o : Oper} {a : Act} {w : World} (ty : TypeId) (x : Operand) (ho : o.op = .load ty x) (hw : Region.wanted o (yielded ops a.tmps) = true) {y v : Value} (hx : a.eval x = y)
    (hl : (Instr.loadAt ty y).run P w = .ok v w) (h : wpList P ops Q rest (a.put o.dst v) w) : wpList P ops Q (o :: rest) a w :=
  wpList_step fun K hK => by
    rw [if_pos hw]
    unfold Oper.wp execOp
    simp only [ho, hx, Sem.run_bind, hl, Result.andThen_ok, Sem.run_pure]
    exact hK _ _ h
theorem laid_new (w : World) (old cs : Array Value) (t : TypeId) : ((w.alloc (.cells old t)).setRow w.heap.size cs).heap[w.heap.size]? = some (.cells cs t (0, 0)) ∧ Step None w ((w.alloc (.cells old t)).setRow w.heap.size cs) :=
  ⟨setRow_heap _ _ _ _ _ _ (heap_alloc_new w _), step_setRow ((Step.refl None w).alloc _) (fun h => by omega) _⟩
theorem zeroB (w : World) : (zeroValue 4).run Try.prog w = .ok (.bool false) w := by kernel_rfl
theorem owns_still {H : Type} {P : Program} {k : TypeId} {R : Value → Option (DataW H × List MemPlace)} {b n : Nat} {D : DataW H} {w w' : World} (h : w.ownsMap P k R b n D) (hs : Step None w w') : w'.ownsMap P k R b n D := by
  obtain ⟨es, clock, hb, F⟩ := h
  exact ⟨es, clock, hs.blk hb (fun s => s.elim), F⟩
theorem law3 : Maps.Keyed Try.prog 3 := Maps.int_keyed Try.underlying3

set_option maxRecDepth 100000 in
set_option maxHeartbeats 4000000 in
theorem fair_any (ao : Option Addr) (cap : Nat) (l : List Hrd) (w : World) (hp : ∀ x ∈ l, (Lit.int .i64 x.port).wf = true) (hl : l.length ≤ 9223372036854775807) (h : Hears w ao l) :
    Calls Try.prog 41 #[.slice ao l.length cap] w fun e w' => e = .returned (.int .i64 (fairOf l)) ∧ Step None w w' := by
  have hmm := @run_makeMap Try.prog
  have H := Lib.hid h
  have HP := Lib.hid hp
  clear h hp
  cases hg : decide (l.length ≤ 64)
  · have hf := Lib.hid (fairOf_many (l := l) (by simp at hg; omega))
    have d1 : decide ((64 : Int) < (l.length : Int)) = true := by simp at hg ⊢; omega
    have d2 : decide (64 < l.length) = true := by simp at hg ⊢; omega
    clear hg
    go_enter Try.func41, Try.ntmps41
    go_wp2_with fail
    go_ret
    exact ⟨by rw [hf.out]; rfl, (Step.refl None w).alloc _⟩
  have h64 : l.length ≤ 64 := by simpa using hg
  have d1 : decide ((64 : Int) < (l.length : Int)) = false := by simp; omega
  have d2 : decide (64 < l.length) = false := by simp; omega
  have H64 := Lib.hid h64
  clear hg h64 hl
  go_enter Try.func41, Try.ntmps41
  go_wp2_with fail
  go_loopw [5, 12] (fun _ i wr => ∃ k : Nat, k ≤ l.length ∧ i = .int .i64 k ∧ Hid (wr.ownsMap Try.prog 3 (plainElem Try.prog 4) w.heap.size k (portSet (H := Unit) l k)) ∧ Hid (badK l k = false) ∧ Hid (Step None w wr)) (fun _ i _ => l.length - (intOf i).toNat)
  case atStart => exact ⟨0, Nat.zero_le _, rfl, Lib.hid (by rw [portSet_zero]; exact World.ownsMap_made _ _ _ _), Lib.hid rfl, Lib.hid ((Step.refl None w).alloc _)⟩
  case round =>
    obtain ⟨k, hk, rfl, hown, hbad, hs⟩ := hrel
    rename_i wr
    by_cases hlt : k < l.length
    · obtain ⟨x, hx⟩ : ∃ x, l[k]? = some x := ⟨l[k], List.getElem?_eq_getElem hlt⟩
      obtain ⟨-, b, off, rfl, hc⟩ := (H.out.still hs.out) k x hx
      have L := Lib.hid (load_heard hc)
      have hl := laid_new wr zeroH x.cells 52
      unfold zeroH at hl
      obtain ⟨W, hW⟩ : ∃ W, (wr.alloc (.cells #[.int .i64 0, .int .i64 0, .bool false, .bool false, .int .i64 0, .int .u8 0, .int .u8 0, .int .u8 0, .int .u8 0, .int .u8 0, .int .u8 0, .int .i64 0, .int .i64 0, .int .u8 0, .int .u8 0, .int .u8 0, .int .u8 0, .int .u8 0, .int .u8 0, .int .i64 0, .int .i64 0] 52)).setRow wr.heap.size x.cells = W := ⟨_, rfl⟩
      rw [hW] at hl
      have HW := Lib.hid hW
      have c0 := blk_cell hl.1 0
      have c1 := blk_cell hl.1 1
      simp only [Hrd.cells, List.getElem?_toArray, List.getElem?_cons_zero, List.getElem?_cons_succ] at c0 c1
      have SW := Lib.hid (hs.out.then_ hl.2)
      have HO := Lib.hid (owns_still hown.out hl.2)
      have e1 : decide ((k : Int) < (l.length : Int)) = true := by simpa using hlt
      have k0 : (0 : Int) ≤ (k : Int) := by omega
      have k1 : (k : Int) < (l.length : Int) := by omega
      have hw1 : IntKind.i64.wrap ((k : Int) + 1) = ((k + 1 : Nat) : Int) := by rw [IntWalk.i64_in _ (by have := H64.out; omega)]; omega
      have HX := Lib.hid (And.intro hx H64.out)
      have HK := Lib.hid (Maps.keyOf_int_mk (P := Try.prog) Try.underlying3 (HP.out x (List.mem_of_getElem? hx)))
      clear hc hl hW hx hs hown
      cases hA : decide (x.port < 1)
      rotate_left
      · skip
        have hf := Lib.hid (badK_bad HX.out.1 (by simp only [Hrd.bad, hA]; simp) HX.out.2)
        go_wp2_with (first
      | (refine wpList_load_is 52 (.tmp 14) rfl rfl rfl L.out ?_)
      | (refine wpList_store_row rfl 52 (.tmp 5) (.tmp 15) rfl wr.heap.size x.cells rfl rfl 52 _ (heap_alloc_new wr _) (by kernel_rfl) rfl (by simp [Hrd.cells, Value.oneCell']) ?_; rw [HW.out])
      | (at_mapUpdate; refine wpList_mapUpdate_own _ rfl _ _ _ 76 rfl 3 4 law3 Try.underlying76 (plainElem (H := Unit) Try.prog 4) w.heap.size k _ rfl HO.out (by have := H64.out; unfold maxLen; omega) _ _ _ rfl rfl HK.out _ [] (plainElem_bool Try.underlying4 true) ?_; intro w1 hown1 hgrow1))
        go_ret
        exact ⟨by rw [hf.out]; rfl, SW.out⟩
      cases hB : decide (65535 < x.port)
      rotate_left
      · skip
        have hf := Lib.hid (badK_bad HX.out.1 (by simp only [Hrd.bad, hA, hB]; simp) HX.out.2)
        go_wp2_with (first
      | (refine wpList_load_is 52 (.tmp 14) rfl rfl rfl L.out ?_)
      | (refine wpList_store_row rfl 52 (.tmp 5) (.tmp 15) rfl wr.heap.size x.cells rfl rfl 52 _ (heap_alloc_new wr _) (by kernel_rfl) rfl (by simp [Hrd.cells, Value.oneCell']) ?_; rw [HW.out])
      | (at_mapUpdate; refine wpList_mapUpdate_own _ rfl _ _ _ 76 rfl 3 4 law3 Try.underlying76 (plainElem (H := Unit) Try.prog 4) w.heap.size k _ rfl HO.out (by have := H64.out; unfold maxLen; omega) _ _ _ rfl rfl HK.out _ [] (plainElem_bool Try.underlying4 true) ?_; intro w1 hown1 hgrow1))
        go_ret
        exact ⟨by rw [hf.out]; rfl, SW.out⟩
      cases hC : decide (x.cost < 1)
      rotate_left
      · skip
        have hf := Lib.hid (badK_bad HX.out.1 (by simp only [Hrd.bad, hA, hB, hC]; simp) HX.out.2)
        go_wp2_with (first
      | (refine wpList_load_is 52 (.tmp 14) rfl rfl rfl L.out ?_)
      | (refine wpList_store_row rfl 52 (.tmp 5) (.tmp 15) rfl wr.heap.size x.cells rfl rfl 52 _ (heap_alloc_new wr _) (by kernel_rfl) rfl (by simp [Hrd.cells, Value.oneCell']) ?_; rw [HW.out])
      | (at_mapUpdate; refine wpList_mapUpdate_own _ rfl _ _ _ 76 rfl 3 4 law3 Try.underlying76 (plainElem (H := Unit) Try.prog 4) w.heap.size k _ rfl HO.out (by have := H64.out; unfold maxLen; omega) _ _ _ rfl rfl HK.out _ [] (plainElem_bool Try.underlying4 true) ?_; intro w1 hown1 hgrow1))
        go_ret
        exact ⟨by rw [hf.out]; rfl, SW.out⟩
      cases hD : decide (200000000 < x.cost)
      rotate_left
      · skip
        have hf := Lib.hid (badK_bad HX.out.1 (by simp only [Hrd.bad, hA, hB, hC, hD]; simp) HX.out.2)
        go_wp2_with (first
      | (refine wpList_load_is 52 (.tmp 14) rfl rfl rfl L.out ?_)
      | (refine wpList_store_row rfl 52 (.tmp 5) (.tmp 15) rfl wr.heap.size x.cells rfl rfl 52 _ (heap_alloc_new wr _) (by kernel_rfl) rfl (by simp [Hrd.cells, Value.oneCell']) ?_; rw [HW.out])
      | (at_mapUpdate; refine wpList_mapUpdate_own _ rfl _ _ _ 76 rfl 3 4 law3 Try.underlying76 (plainElem (H := Unit) Try.prog 4) w.heap.size k _ rfl HO.out (by have := H64.out; unfold maxLen; omega) _ _ _ rfl rfl HK.out _ [] (plainElem_bool Try.underlying4 true) ?_; intro w1 hown1 hgrow1))
        go_ret
        exact ⟨by rw [hf.out]; rfl, SW.out⟩
      have hbn := Lib.hid (show badK l (k + 1) = false by rw [badK_succ HX.out.1, hbad.out]; simp only [Hrd.bad, hA, hB, hC, hD]; rfl)
      go_wp2_with (first
      | (refine wpList_load_is 52 (.tmp 14) rfl rfl rfl L.out ?_)
      | (refine wpList_store_row rfl 52 (.tmp 5) (.tmp 15) rfl wr.heap.size x.cells rfl rfl 52 _ (heap_alloc_new wr _) (by kernel_rfl) rfl (by simp [Hrd.cells, Value.oneCell']) ?_; rw [HW.out])
      | (at_mapUpdate; refine wpList_mapUpdate_own _ rfl _ _ _ 76 rfl 3 4 law3 Try.underlying76 (plainElem (H := Unit) Try.prog 4) w.heap.size k _ rfl HO.out (by have := H64.out; unfold maxLen; omega) _ _ _ rfl rfl HK.out _ [] (plainElem_bool Try.underlying4 true) ?_; intro w1 hown1 hgrow1))
      go_roundw
      case rel => exact ⟨k + 1, by omega, rfl, Lib.hid (by rw [portSet_succ l k x HX.out.1]; exact hown1), hbn, Lib.hid (SW.out.grown hgrow1 (fun j hj hl => by cases hj; omega))⟩
      case measure => simp [intOf]; omega
    · have e1 : decide ((k : Int) < (l.length : Int)) = false := by simpa using hlt
      obtain rfl : k = l.length := by omega
      have hz := Lib.hid (fairOf_size (H := Unit) H64.out hbad.out)
      generalize hm : Maps.size (portSet (H := Unit) l l.length) = m at *
      have hm' := Lib.hid hm
      clear hm
      cases hn : decide ((m : Int) < (l.length : Int))
      · have hf : Hid (fairOf l = 0) := Lib.hid (hz.out.trans (if_neg (by simpa using hn)))
        have hn2 : decide (m < l.length) = false := by simpa using hn
        go_wp2_with (first
          | (at_len; refine wpList_len_own _ rfl _ 76 rfl 3 4 Try.underlying76 _ w.heap.size l.length _ rfl hown.out ?_; rw [hm'.out]))
        go_ret
        exact ⟨by rw [hf.out]; rfl, hs.out⟩
      · have hf : Hid (fairOf l = 5) := Lib.hid (hz.out.trans (if_pos (by simpa using hn)))
        have hn2 : decide (m < l.length) = true := by simpa using hn
        go_wp2_with (first
          | (at_len; refine wpList_len_own _ rfl _ 76 rfl 3 4 Try.underlying76 _ w.heap.size l.length _ rfl hown.out ?_; rw [hm'.out]))
        go_ret
        exact ⟨by rw [hf.out]; rfl, hs.out⟩
end Go.Proofs.Ytehlaomippbehaa
