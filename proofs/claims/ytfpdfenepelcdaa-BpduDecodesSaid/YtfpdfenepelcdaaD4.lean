/- read's closure of an address; its walk. -/
import Derived.Test.YtfpdfenepelcdaaD3
import Derived.Laws.CopyRow
namespace Go.Proofs.Ytfpdfenepelcdaa
open Go.RowKit Go.Gm

theorem step_setRow' {S : Nat → Prop} {a w : World} (h : Step S a w) {g : Nat} (hg : g < a.heap.size → S g) (cs : Array Value) : Step S a (w.setRow g cs) :=
  ⟨h.os, h.tape, h.output, by rw [setRow_size]; exact h.size, fun k hk hn => (setRow_other w g k cs (fun e => hn (by subst e; exact hg hk))).trans (h.block k hk hn)⟩
theorem goes_copy {P : Program} {ops : Array Oper} {o : Oper} {a : Act} {w : World} {K : Act → World → Prop} {Q : Exit → Act → World → Prop} {E : Prop} (hg : o.guard = none) (d s : Operand) (t t' : TypeId)
    (ho : o.op = .call { callee := .builtin .copy, args := #[d, s], argTypes := #[t, t'] }) {v u r : Value} {w' : World} (hd : a.eval d = v) (hs : a.eval s = u)
    (hr : (Builtin.copy_ #[t, t'] o.type #[v, u]).run P w = .ok r w') (hK : K (a.put o.dst r) w') : if Region.wanted o (yielded ops a.tmps) = true then Oper.wp P o a w K Q else E := by
  rw [if_pos (by simp [Region.wanted, hg])]
  unfold Oper.wp execOp
  simp only [ho, resolve, invoke, builtin, Sem.run_bind, Sem.run_pure, Result.andThen_ok, List.map_toArray, List.map_cons, List.map_nil, hd, hs, hr]
  exact hK

theorem taken_six {l : List Int} {p : Nat} (h : p + 6 ≤ l.length) : (l.drop p).take 6 = [by_ l p, by_ l (p + 1), by_ l (p + 2), by_ l (p + 3), by_ l (p + 4), by_ l (p + 5)] := by
  rw [taken_more (p := p) (n := 5) (by omega), taken_more (p := p + 1) (n := 4) (by omega), taken_more (p := p + 1 + 1) (n := 3) (by omega), taken_more (p := p + 1 + 1 + 1) (n := 2) (by omega), taken_more (p := p + 1 + 1 + 1 + 1) (n := 1) (by omega), taken_more (p := p + 1 + 1 + 1 + 1 + 1) (n := 0) (by omega), List.take_zero]
theorem mac_next {l : List Int} {i off : Nat} (h : flds[i]? = some (.mac off)) (hl : posB i + 6 ≤ l.length) :
    (((pB l i).cells.toList.take off ++ ((l.drop (posB i)).take 6).map (Value.int .u8) ++ (pB l i).cells.toList.drop (off + 6)).toArray) = (pB l (i + 1)).cells ∧ posB i + 6 = posB (i + 1) ∧ off + 6 ≤ 22 := by
  match i, h with
  | 0, h => simp [flds] at h
  | 1, h => simp [flds] at h
  | 2, h =>
    simp only [flds, List.getElem?_cons_zero, List.getElem?_cons_succ, Option.some.injEq, Fld.mac.injEq] at h
    subst h
    simp only [posB] at hl ⊢
    refine ⟨?_, by decide, by decide⟩
    rw [taken_six (p := 7) (by omega)]
    simp [pB, Bpd.cells]
  | 3, h => simp [flds] at h
  | 4, h => simp [flds] at h
  | 5, h =>
    simp only [flds, List.getElem?_cons_zero, List.getElem?_cons_succ, Option.some.injEq, Fld.mac.injEq] at h
    subst h
    simp only [posB] at hl ⊢
    refine ⟨?_, by decide, by decide⟩
    rw [taken_six (p := 19) (by omega)]
    simp [pB, Bpd.cells]
  | 6, h => simp [flds] at h
  | 7, h => simp [flds] at h
  | 8, h => simp [flds] at h
  | 9, h => simp [flds] at h
  | 10, h => simp [flds] at h
  | n + 11, h => simp [flds] at h

theorem mac_pos {i off : Nat} (h : flds[i]? = some (.mac off)) : posB i + 6 ≤ 35 := by
  match i, h with
  | 0, h => simp [flds] at h
  | 1, h => simp [flds] at h
  | 2, h => decide
  | 3, h => simp [flds] at h
  | 4, h => simp [flds] at h
  | 5, h => decide
  | 6, h => simp [flds] at h
  | 7, h => simp [flds] at h
  | 8, h => simp [flds] at h
  | 9, h => simp [flds] at h
  | 10, h => simp [flds] at h
  | n + 11, h => simp [flds] at h
set_option maxRecDepth 100000 in
set_option maxHeartbeats 8000000 in
theorem rd_mac (w0 a : World) (P F C T : Nat) (l : List Int) (i off : Nat) (hi : flds[i]? = some (.mac off)) (h : Rd w0 a P F C T l i) :
    Calls Try.prog 38 #[.pointer (some ⟨P, off, none⟩), .pointer (some ⟨T, 0, none⟩)] a fun e b => (e = .returned (.tuple #[]) ∧ Rd w0 b P F C T l (i + 1) ∧ Step (Other [46, 60] a) a b) ∨ (e = .panicked shortP ∧ Ruin w0 b P F ∧ l.length < 35) := by
  have R := Lib.hid (h.still (Step.refl None a).drew)
  have RA := Lib.hid h
  obtain ⟨v, hc, hv⟩ := h.c
  have t0 := blk_cell h.t 0
  simp only [List.getElem?_toArray, List.getElem?_cons_zero] at t0
  have HC := Lib.hid hc
  have HV := Lib.hid hv
  have HI := Lib.hid hi
  clear h hc hv hi
  by_cases hl : posB i + 6 ≤ l.length
  rotate_left
  · have CT := Lib.hid (take_none (w0 := w0) C 6 v (l.drop (posB i)) a.drew HC.out HV.out (by have := R.out.len; simp; omega))
    go_enter Try.func38, Try.ntmps38
    go_wp2_with fail
    refine wp_region_plan (fun w' => w'.cell? ⟨T, 0, none⟩ = some (.func (.func 36) #[] #[.pointer (some ⟨C, 0, none⟩)])) (.take 0 (.take 1 (.take 2 (.take 3 (.alt 4 (.alt 5 .done .none) .none))))) _
      (by simp only [Plan.map, opOf, List.getElem?_toArray, List.getElem?_cons_zero, List.getElem?_cons_succ, Option.getD_some]; rfl) (by kernel_rfl) (by kernel_rfl) (by kernel_rfl) (by decide) (by intro c a d v w; cases d <;> exact fun h => h) t0 ?_
    repeat (refine wpPlan.taken (by rfl) (by intro w' hS'; (try dsimp only at hS'); go_split_ands; go_simp; try with_reducible rfl) ?_; simp only [Act.put, List.setIfInBounds_toArray, List.set_cons_zero, List.set_cons_succ])
    refine wpPlan.runs fun K' hK => ?_
    go_simp
    refine CT.out.mono ?_
    rintro e w2 ⟨rfl, rfl⟩
    exact ⟨rfl, .inr ⟨rfl, R.out.ruin, by have := mac_pos HI.out; omega⟩⟩
  obtain ⟨n1, n2, n3⟩ := mac_next HI.out hl
  have CT := Lib.hid (take_some (w0 := w0) C 6 v (l.drop (posB i)) a.drew HC.out HV.out (by have := R.out.len; simp; omega))
  have HN := Lib.hid (And.intro n1 (And.intro n2 n3))
  have HL := Lib.hid hl
  clear n1 n2 n3 hl
  go_enter Try.func38, Try.ntmps38
  go_wp2_with fail
  refine wp_region_plan (fun w' => w'.cell? ⟨T, 0, none⟩ = some (.func (.func 36) #[] #[.pointer (some ⟨C, 0, none⟩)])) (.take 0 (.take 1 (.take 2 (.take 3 (.alt 4 (.alt 5 .done .none) .none))))) _
    (by simp only [Plan.map, opOf, List.getElem?_toArray, List.getElem?_cons_zero, List.getElem?_cons_succ, Option.getD_some]; rfl) (by kernel_rfl) (by kernel_rfl) (by kernel_rfl) (by decide) (by intro c a d v w; cases d <;> exact fun h => h) t0 ?_
  repeat (refine wpPlan.taken (by rfl) (by intro w' hS'; (try dsimp only at hS'); go_split_ands; go_simp; try with_reducible rfl) ?_; simp only [Act.put, List.setIfInBounds_toArray, List.set_cons_zero, List.set_cons_succ])
  refine wpPlan.runs fun K' hK => ?_
  go_simp
  refine CT.out.mono ?_
  rintro e w2 ⟨u, v', rfl, hu, hv', rfl⟩
  obtain ⟨ao, cp, eu, -, -, hb⟩ := hu
  have hlen : ((l.drop (posB i)).take 6).length = 6 := by have := HL.out; simp; omega
  rw [hlen] at eu
  subst eu
  have hPC : P ≠ C := blk_ne RA.out.p HC.out (by decide)
  have hTC : T ≠ C := blk_ne RA.out.t HC.out (by decide)
  have pc := (Below.heap_setCell a.drew ⟨C, 0, none⟩ v' P (by simpa using hPC)).trans R.out.p
  have tc := (Below.heap_setCell a.drew ⟨C, 0, none⟩ v' T (by simpa using hTC)).trans R.out.t
  have cc := blk_set (w := a.drew) HC.out 0 v'
  have sc : Step (fun k => k = P ∨ k = C) a (a.drew.setCell ⟨C, 0, none⟩ v') := ((Step.refl _ a).drew).setCell (fun _ => .inr rfl) v'
  simp only [Array.setIfInBounds, List.size_toArray, List.length_cons, List.length_nil, Nat.zero_add, Nat.lt_add_one, dite_true, List.set_toArray, List.set_cons_zero] at cc
  obtain ⟨W2, hW2⟩ : ∃ W2, a.drew.setCell ⟨C, 0, none⟩ v' = W2 := ⟨_, rfl⟩
  rw [hW2] at pc tc cc sc
  rw [hW2]
  have tc' := blk_cell tc 0
  simp only [List.getElem?_toArray, List.getElem?_cons_zero] at tc'
  refine hK.out _ _ tc' ?_
  clear hK K' hW2
  obtain ⟨y0, hy0⟩ : ∃ y, ((l.drop (posB i)).take 6)[0]? = some y := ⟨_, List.getElem?_eq_getElem (by omega)⟩
  obtain ⟨b, bo, rfl, -⟩ := hb 0 y0 hy0
  have src : ∀ j y, (((l.drop (posB i)).take 6).map (Value.int .u8))[j]? = some y → W2.cell? ((⟨b, bo, none⟩ : Addr).add j) = some y := fun j y hj => by
    obtain ⟨z, hz, rfl⟩ : ∃ z, ((l.drop (posB i)).take 6)[j]? = some z ∧ .int .u8 z = y := by
      rw [List.getElem?_map] at hj
      obtain ⟨z, h1, h2⟩ := Option.map_eq_some_iff.1 hj
      exact ⟨z, h1, h2⟩
    obtain ⟨b', bo', e, cb⟩ := hb j z hz
    cases e
    rw [add_plain]
    have hlt0 := World.block_lt_of_cell? _ _ cb
    have hn : ¬ (b = P ∨ b = C) := fun hh => by
      have := RA.out.nP
      have := RA.out.nC
      rcases hh with rfl | rfl <;> (simp at hlt0; omega)
    rw [sc.cell (p := ⟨b, bo + j, none⟩) (by have := RA.out.st.size; simp at hlt0 ⊢; omega) hn, RA.out.st.cell (p := ⟨b, bo + j, none⟩) hlt0 (fun s => s.elim)]
    exact cb
  have run := run_copy_row (P := Try.prog) W2 29 29 3 5 P off 6 6 ⟨b, bo, none⟩ 6 cp (pB l i).cells 27 (((l.drop (posB i)).take 6).map (Value.int .u8)) Try.underlying29 (by kernel_rfl) pc (by rw [List.length_map, hlen]; rfl) src (by rw [List.length_map, hlen]; exact HN.out.2.2) (nums_one .u8 _)
  rw [List.length_map, hlen, HN.out.1] at run
  refine wpPlan.runs fun K' hK => ?_
  refine goes_copy (by rfl) (.tmp 5) (.tmp 7) 29 29 (by rfl) (by rfl) (by rfl) run ?_
  have hTP : T ≠ P := blk_ne RA.out.t RA.out.p (by decide)
  have hCP : C ≠ P := Ne.symm hPC
  have hFP : F ≠ P := blk_ne RA.out.f RA.out.p (by decide)
  have hFC : F ≠ C := blk_ne RA.out.f HC.out (by decide)
  refine hK.out _ _ ?_ ?_
  · have := blk_cell ((setRow_other W2 P T (pB l (i + 1)).cells hTP).trans tc) 0
    simpa using this
  clear hK K'
  refine wpPlan.done ?_
  have sr := step_setRow' sc (g := P) (fun _ => .inl rfl) (pB l (i + 1)).cells
  have RN : Hid (Rd w0 _ P F C T l (i + 1)) := Lib.hid (⟨setRow_heap W2 P _ _ _ _ pc, sr.blk RA.out.f (fun hh => hh.elim hFP hFC), sr.blk RA.out.t (fun hh => hh.elim hTP hTC), ⟨v', (setRow_other W2 P C _ hCP).trans cc, by rw [List.drop_drop, HN.out.2.1] at hv'; exact hv'⟩, by have := HN.out.2.1; have := HL.out; omega,
    RA.out.st.trans sr fun j hj hh => (by have := RA.out.nP; have := RA.out.nC; rcases hh with rfl | rfl <;> omega), RA.out.nP, RA.out.nC⟩ : Rd w0 _ P F C T l (i + 1))
  have RO := Lib.hid (rd_other RA.out.p HC.out sr)
  go_wp2_with fail
  go_end0
  exact .inl ⟨rfl, RN.out, RO.out⟩

theorem rd_walk (w0 w : World) (P F C T : Nat) (l : List Int) (hs : Small l) (h : Rd w0 w P F C T l 0) :
    Calls Try.prog 19 #[.pointer (some ⟨P, 0, none⟩), .func (.func 37) #[] #[.pointer (some ⟨T, 0, none⟩)], .func (.func 38) #[] #[.pointer (some ⟨T, 0, none⟩)]] w fun e w' => (e = .returned (.tuple #[]) ∧ Rd w0 w' P F C T l 11) ∨ (e = .panicked shortP ∧ Ruin w0 w' P F ∧ l.length < 35) :=
  walk37 P (.pointer (some ⟨T, 0, none⟩)) (.pointer (some ⟨T, 0, none⟩)) (fun i a => Rd w0 a P F C T l i) (fun e b => e = .panicked shortP ∧ Ruin w0 b P F ∧ l.length < 35) w (fun _ _ h => ⟨_, h.1⟩) (fun _ _ _ h s => h.still s) h
    (fun i a off k hi hj => rd_num w0 a P F C T l hs i off k hi hj) (fun i a off hi hj => rd_mac w0 a P F C T l i off hi hj)
end Go.Proofs.Ytfpdfenepelcdaa
