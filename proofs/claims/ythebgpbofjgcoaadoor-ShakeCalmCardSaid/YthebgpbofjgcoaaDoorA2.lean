/- Items on the way from one to the other one: plain. -/
import Derived.Test.YthebgpbofjgcoaaDoorW12
namespace Go.Gm
/-- On the way: what is told, or a frame that was sent over some of the links. -/
structure Itm where
  note : Tell
  frame : Bool
  s1 : Bool
  s2 : Bool
  s3 : Bool
def Itm.ofTell (t : Tell) : Itm := ⟨t, false, false, false, false⟩
def Itm.ofFrame (a b c : Bool) : Itm := ⟨⟨0, 0, 0⟩, true, a, b, c⟩
def Itm.sent (x : Itm) (k : Nat) : Bool := if k = 1 then x.s1 else if k = 2 then x.s2 else if k = 3 then x.s3 else false
end Go.Gm
namespace Go.Proofs.YthebgpbofjgcoaaDoor
open Go.RowKit Go.Gm
def itemC (x : Itm) : Array Value := #[.int .i64 x.note.kind, .int .i64 0, .int .u8 0, .int .u8 0, .int .u8 0, .int .u8 0, .int .u8 0, .int .u8 0, .int .i64 x.note.port, .int .i64 x.note.state, .slice none 0 0, .bool x.frame, .bool false, .bool x.s1, .bool x.s2, .bool x.s3]
def flatI : List Itm → List Value
  | [] => []
  | t :: r => (itemC t).toList ++ flatI r
theorem flatI_len : ∀ l : List Itm, (flatI l).length = l.length * 16
  | [] => rfl
  | x :: r => by rw [flatI, List.length_append, flatI_len r, List.length_cons]; show 16 + _ = _; omega
theorem flatI_app : ∀ (l : List Itm) (t : Itm), flatI (l ++ [t]) = flatI l ++ (itemC t).toList
  | [], t => by simp [flatI]
  | x :: r, t => by rw [List.cons_append, flatI, flatI, flatI_app r t, List.append_assoc]
theorem flatI_tail (x : Itm) (r : List Itm) : (flatI (x :: r)).drop 16 = flatI r := by
  rw [flatI, List.drop_append]
  show List.drop 16 (itemC x).toList ++ List.drop (16 - 16) _ = _
  simp [itemC]
theorem T43 : SliceT Tryd.prog 43 53 16 72 := SliceT.mk' Tryd.underlying43 (z := .agg #[.int .i64 0, .int .i64 0, .int .u8 0, .int .u8 0, .int .u8 0, .int .u8 0, .int .u8 0, .int .u8 0, .int .i64 0, .int .i64 0, .slice none 0 0, .bool false, .bool false, .bool false, .bool false, .bool false]) (by kernel_rfl) rfl (by decide)
theorem item_load {w : World} {v : Value} {x : Itm} {r : List Itm} (h : Row w 53 16 v (r.length + 1) (flatI (x :: r))) :
    ∃ b off cap, v = .slice (some ⟨b, off, none⟩) (r.length + 1) cap ∧ Leads v b ∧ (Instr.loadAt 53 (.pointer (some ⟨b, off, none⟩))).run Tryd.prog w = .ok (.agg (itemC x)) w := by
  obtain ⟨b, off, cap, rfl, -, -, hld, hc, -⟩ := h.cells (by omega)
  refine ⟨b, off, cap, rfl, hld, ?_⟩
  have := run_loadAt_mid (P := Tryd.prog) w b off 53 (itemC x).toList _ (fun j u hj => by
    refine hc j u ?_
    have hl : j < (itemC x).toList.length := (List.getElem?_eq_some_iff.1 hj).1
    rw [flatI, List.getElem?_append_left hl]
    exact hj) Tryd.underlying53 rfl (by kernel_rfl)
  simpa using this

/-- The two, and what is on the way to each. -/
structure Way (w0 w : World) (g b h c xs ws : Nat) (s t : Shk) (va vb : Value) (A B : List Itm) : Prop where
  one : Rep 64 72 w g b s
  two : Rep 64 72 w h c t
  arr : w.heap[xs]? = some (.cells #[.pointer (some ⟨g, 0, none⟩), .pointer (some ⟨h, 0, none⟩)] 42 (0, 0))
  ways : w.heap[ws]? = some (.cells #[va, vb] 44 (0, 0))
  ra : Row w 53 16 va A.length (flatI A)
  rb : Row w 53 16 vb B.length (flatI B)
  g0 : w0.heap.size ≤ g
  b0 : w0.heap.size ≤ b
  h0 : w0.heap.size ≤ h
  c0 : w0.heap.size ≤ c
  ws0 : w0.heap.size ≤ ws
  la : ∀ k, Leads va k → w0.heap.size ≤ k
  lb : ∀ k, Leads vb k → w0.heap.size ≤ k
  apart : ∀ k, Leads va k → ¬ Leads vb k
  gh : g ≠ h
  bc : b ≠ c
  st : Step None w0 w
  tab : HasAt 0 w
  t0 : 0 < w0.heap.size
section
variable {w0 w w1 : World} {g b h c xs ws : Nat} {s t s' : Shk} {va vb v' : Value} {A B : List Itm}
theorem Way.next1 (y : Way w0 w g b h c xs ws s t va vb A B) (s1 : Step (fun k => k = g ∨ k = b) w w1) (h1 : Rep 64 72 w1 g b s') : Way w0 w1 g b h c xs ws s' t va vb A B := by
  have e1 : b ≠ h := blk_ne y.one.row y.two.st (by decide)
  have e2 : g ≠ c := blk_ne y.one.st y.two.row (by decide)
  have g0 := y.g0
  have b0 := y.b0
  have t0 := y.t0
  refine ⟨h1, y.two.step s1 (fun e => e.elim (fun e => y.gh e.symm) (fun e => e1 e.symm)) (fun e => e.elim (fun e => e2 e.symm) (fun e => y.bc e.symm)), s1.blk y.arr ?_, s1.blk y.ways ?_, y.ra.step s1 ?_, y.rb.step s1 ?_, y.g0, y.b0, y.h0, y.c0, y.ws0, y.la, y.lb, y.apart, y.gh, y.bc, y.st.trans s1 ?_, y.tab.step s1 ?_, y.t0⟩
  · exact fun e => e.elim (blk_ne y.arr y.one.st (by decide)) (blk_ne y.arr y.one.row (by decide))
  · exact fun e => e.elim (blk_ne y.ways y.one.st (by decide)) (blk_ne y.ways y.one.row (by decide))
  · rintro k hk (rfl | rfl)
    · exact y.ra.ne y.one.st (by decide) hk
    · exact y.ra.ne y.one.row (by decide) hk
  · rintro k hk (rfl | rfl)
    · exact y.rb.ne y.one.st (by decide) hk
    · exact y.rb.ne y.one.row (by decide) hk
  · intro k hk e; show False; omega
  · intro e; omega
theorem Way.next2 (y : Way w0 w g b h c xs ws s t va vb A B) (s1 : Step (fun k => k = h ∨ k = c) w w1) (h1 : Rep 64 72 w1 h c s') : Way w0 w1 g b h c xs ws s s' va vb A B := by
  have e1 : b ≠ h := blk_ne y.one.row y.two.st (by decide)
  have e2 : g ≠ c := blk_ne y.one.st y.two.row (by decide)
  have g0 := y.h0
  have b0 := y.c0
  have t0 := y.t0
  refine ⟨y.one.step s1 (fun e => e.elim y.gh e2) (fun e => e.elim e1 y.bc), h1, s1.blk y.arr ?_, s1.blk y.ways ?_, y.ra.step s1 ?_, y.rb.step s1 ?_, y.g0, y.b0, y.h0, y.c0, y.ws0, y.la, y.lb, y.apart, y.gh, y.bc, y.st.trans s1 ?_, y.tab.step s1 ?_, y.t0⟩
  · exact fun e => e.elim (blk_ne y.arr y.two.st (by decide)) (blk_ne y.arr y.two.row (by decide))
  · exact fun e => e.elim (blk_ne y.ways y.two.st (by decide)) (blk_ne y.ways y.two.row (by decide))
  · rintro k hk (rfl | rfl)
    · exact y.ra.ne y.two.st (by decide) hk
    · exact y.ra.ne y.two.row (by decide) hk
  · rintro k hk (rfl | rfl)
    · exact y.rb.ne y.two.st (by decide) hk
    · exact y.rb.ne y.two.row (by decide) hk
  · intro k hk e; show False; omega
  · intro e; omega
theorem Way.still (y : Way w0 w g b h c xs ws s t va vb A B) (s1 : Step None w w1) : Way w0 w1 g b h c xs ws s t va vb A B := y.next1 s1.none (y.one.still s1)
/-- A turn of the way to the first one: its row was written or cut, then its place is stored. -/
theorem Way.turnA (y : Way w0 w g b h c xs ws s t va vb A B) {A' : List Itm} (s1 : Step (Leads va) w w1) (hr : Row w1 53 16 v' A'.length (flatI A')) (hl : ∀ k, Leads v' k → Leads va k ∨ w.heap.size ≤ k) :
    Way w0 (w1.setCell ⟨ws, 0, none⟩ v') g b h c xs ws s t v' vb A' B := by
  have q : Step (· = ws) w1 (w1.setCell ⟨ws, 0, none⟩ v') := (Step.refl (· = ws) w1).setCell (p := ⟨ws, 0, none⟩) (fun _ => rfl) v'
  have e1 := y.one.step s1 (y.ra.ne y.one.st (by decide)) (y.ra.ne y.one.row (by decide))
  have e2 := y.two.step s1 (y.ra.ne y.two.st (by decide)) (y.ra.ne y.two.row (by decide))
  have e3 := s1.blk y.arr (y.ra.ne y.arr (by decide))
  have e4 := s1.blk y.ways (y.ra.ne y.ways (by decide))
  have rb1 := y.rb.step s1 (fun k hk hk' => y.apart k hk' hk)
  refine ⟨e1.step q (blk_ne e1.st e4 (by decide)) (blk_ne e1.row e4 (by decide)), e2.step q (blk_ne e2.st e4 (by decide)) (blk_ne e2.row e4 (by decide)), q.blk e3 (blk_ne e3 e4 (by decide)), ?_, hr.step q (fun k hk e => hr.ne e4 (by decide) (e ▸ hk)), rb1.step q (fun k hk e => rb1.ne e4 (by decide) (e ▸ hk)), y.g0, y.b0, y.h0, y.c0, y.ws0, fun k hk => ?_, y.lb, fun k hk hk' => ?_, y.gh, y.bc, ?_, ?_, y.t0⟩
  · have := blk_set e4 0 v'
    simpa using this
  · have := y.st.size
    rcases hl k hk with h | h
    · exact y.la k h
    · omega
  · rcases hl k hk with h | h
    · exact y.apart k h hk'
    · have := y.rb.lt hk'; omega
  · refine (y.st.trans s1 fun k hk e => ?_).trans q fun k hk e => ?_
    · have := y.la k e; show False; omega
    · have e' : k = ws := e
      have := y.ws0; show False; omega
  · have z := y.t0
    refine (y.tab.step s1 fun e => ?_).step q fun e => ?_
    · have := y.la 0 e; omega
    · have e' : 0 = ws := e
      have := y.ws0; omega
theorem Way.turnB (y : Way w0 w g b h c xs ws s t va vb A B) {B' : List Itm} (s1 : Step (Leads vb) w w1) (hr : Row w1 53 16 v' B'.length (flatI B')) (hl : ∀ k, Leads v' k → Leads vb k ∨ w.heap.size ≤ k) :
    Way w0 (w1.setCell ⟨ws, 1, none⟩ v') g b h c xs ws s t va v' A B' := by
  have q : Step (· = ws) w1 (w1.setCell ⟨ws, 1, none⟩ v') := (Step.refl (· = ws) w1).setCell (p := ⟨ws, 1, none⟩) (fun _ => rfl) v'
  have e1 := y.one.step s1 (y.rb.ne y.one.st (by decide)) (y.rb.ne y.one.row (by decide))
  have e2 := y.two.step s1 (y.rb.ne y.two.st (by decide)) (y.rb.ne y.two.row (by decide))
  have e3 := s1.blk y.arr (y.rb.ne y.arr (by decide))
  have e4 := s1.blk y.ways (y.rb.ne y.ways (by decide))
  have ra1 := y.ra.step s1 (fun k hk hk' => y.apart k hk hk')
  refine ⟨e1.step q (blk_ne e1.st e4 (by decide)) (blk_ne e1.row e4 (by decide)), e2.step q (blk_ne e2.st e4 (by decide)) (blk_ne e2.row e4 (by decide)), q.blk e3 (blk_ne e3 e4 (by decide)), ?_, ra1.step q (fun k hk e => ra1.ne e4 (by decide) (e ▸ hk)), hr.step q (fun k hk e => hr.ne e4 (by decide) (e ▸ hk)), y.g0, y.b0, y.h0, y.c0, y.ws0, y.la, fun k hk => ?_, fun k hk hk' => ?_, y.gh, y.bc, ?_, ?_, y.t0⟩
  · have := blk_set e4 1 v'
    simpa using this
  · have := y.st.size
    rcases hl k hk with h | h
    · exact y.lb k h
    · omega
  · rcases hl k hk' with h | h
    · exact y.apart k hk h
    · have := y.ra.lt hk; omega
  · refine (y.st.trans s1 fun k hk e => ?_).trans q fun k hk e => ?_
    · have := y.lb k e; show False; omega
    · have e' : k = ws := e
      have := y.ws0; show False; omega
  · have z := y.t0
    refine (y.tab.step s1 fun e => ?_).step q fun e => ?_
    · have := y.lb 0 e; omega
    · have e' : 0 = ws := e
      have := y.ws0; omega
/-- What is read through the two arrays, while a row is written. -/
theorem Way.cells (y : Way w0 w g b h c xs ws s t va vb A B) {v : Value} {n : Nat} {l : List Value} (hr : Row w 53 16 v n l) (s1 : Step (Leads v) w w1) :
    w1.cell? ⟨xs, 0, none⟩ = some (.pointer (some ⟨g, 0, none⟩)) ∧ w1.cell? ⟨xs, 1, none⟩ = some (.pointer (some ⟨h, 0, none⟩)) ∧ w1.cell? ⟨ws, 0, none⟩ = some va ∧ w1.cell? ⟨ws, 1, none⟩ = some vb := by
  have k := blk_cell (s1.blk y.arr (hr.ne y.arr (by decide)))
  have m := blk_cell (s1.blk y.ways (hr.ne y.ways (by decide)))
  exact ⟨k 0, k 1, m 0, m 1⟩
theorem Way.here (y : Way w0 w g b h c xs ws s t va vb A B) :
    w.cell? ⟨xs, 0, none⟩ = some (.pointer (some ⟨g, 0, none⟩)) ∧ w.cell? ⟨xs, 1, none⟩ = some (.pointer (some ⟨h, 0, none⟩)) ∧ w.cell? ⟨ws, 0, none⟩ = some va ∧ w.cell? ⟨ws, 1, none⟩ = some vb := y.cells y.ra (Step.refl _ _)
end
end Go.Proofs.YthebgpbofjgcoaaDoor
