/- What is one in bytes? The document's Encode. -/
import Derived.Test.YtfpdfenepelcdaaW3
namespace Go.Proofs.Ytfpdfenepelcdaa
open Go.RowKit Go.Gm

/-- While it is written: what is written, and the one in its variable. -/
structure Wr (w0 w : World) (g : Nat) (x : Bpd) (u : Value) (l : List Int) : Prop where
  one : w.heap[g]? = some (.cells x.cells 27 (0, 0))
  buf : Buf 5 w w0.heap.size u l
  st : Step None w0 w
theorem Wr.still {w0 w w1 : World} {g : Nat} {x : Bpd} {u : Value} {l : List Int} (h : Wr w0 w g x u l) (hs : Step None w w1) : Wr w0 w1 g x u l :=
  ⟨hs.blk h.one (fun s => s.elim), h.buf.still hs, h.st.then_ hs⟩
theorem Wr.more {w0 w w1 : World} {g : Nat} {x : Bpd} {u u' : Value} {l more : List Int} (h : Wr w0 w g x u l)
    (hr : Row w1 5 1 u' (l.length + more.length) (l.map (.int .u8) ++ more.map (.int .u8))) (hs : Step (Leads u) w w1) (hl : ∀ k, Leads u' k → Leads u k ∨ w.heap.size ≤ k) : Wr w0 w1 g x u' (l ++ more) := by
  have q := h.buf.grew (more := more) h.st.size (Step.refl None w) hr hs hl
  exact ⟨hs.blk h.one (fun hk => h.buf.row.ne h.one (by decide) hk), q.buf, h.st.trans hs fun i hi hk => by have := h.buf.base i hk; omega⟩

def version (x : Bpd) : Int := if x.kind == 2 then 2 else 0
def encB (x : Bpd) : List Int :=
  if x.kind == 128 then [0, 0, version x, x.kind % 256]
  else [0, 0, version x, x.kind % 256] ++ [x.flags % 256] ++ x.root.bytes ++ four x.cost ++ x.bridge.bytes ++ two x.port ++ two x.age ++ two x.most ++ two x.hello ++ two x.fwd ++ (if x.kind == 2 then [0] else [])

theorem load_root {w : World} {g : Nat} {x : Bpd} {t : TypeId} {fr : Nat × Nat} (h : w.heap[g]? = some (.cells x.cells t fr)) : (Instr.loadAt 25 (.pointer (some ⟨g, 2, none⟩))).run Try.prog w = .ok (.agg x.root.cells) w := by
  have := run_loadAt_mid (P := Try.prog) w g 2 25 x.root.cells.toList _ (fun j u hj => by
    rw [blk_cell h]
    match j, hj with
    | 0, hj => exact hj
    | 1, hj => exact hj
    | 2, hj => exact hj
    | 3, hj => exact hj
    | 4, hj => exact hj
    | 5, hj => exact hj
    | 6, hj => exact hj
    | j + 7, hj => simp [Idn.cells] at hj) Try.underlying25 rfl (by kernel_rfl)
  simpa using this
theorem load_bridge {w : World} {g : Nat} {x : Bpd} {t : TypeId} {fr : Nat × Nat} (h : w.heap[g]? = some (.cells x.cells t fr)) : (Instr.loadAt 25 (.pointer (some ⟨g, 10, none⟩))).run Try.prog w = .ok (.agg x.bridge.cells) w := by
  have := run_loadAt_mid (P := Try.prog) w g 10 25 x.bridge.cells.toList _ (fun j u hj => by
    rw [blk_cell h]
    match j, hj with
    | 0, hj => exact hj
    | 1, hj => exact hj
    | 2, hj => exact hj
    | 3, hj => exact hj
    | 4, hj => exact hj
    | 5, hj => exact hj
    | 6, hj => exact hj
    | j + 7, hj => simp [Idn.cells] at hj) Try.underlying25 rfl (by kernel_rfl)
  simpa using this
theorem wpList_load_if {P : Program} {ops : Array Oper} {rest : List Oper} {Q : Exit → Act → World → Prop} {o : Oper} {a : Act} {w : World} (ty : TypeId) (x : Operand) (ho : o.op = .load ty x) (hw : Region.wanted o (yielded ops a.tmps) = true) {y v : Value} (hx : a.eval x = y)
    (hl : (Instr.loadAt ty y).run P w = .ok v w) (h : wpList P ops Q rest (a.put o.dst v) w) : wpList P ops Q (o :: rest) a w :=
  wpList_step fun K hK => by
    rw [if_pos hw]
    unfold Oper.wp execOp
    simp only [ho, hx, Sem.run_bind, hl, Result.andThen_ok, Sem.run_pure]
    exact hK _ _ h

theorem fine_rng {x : Bpd} (h : fine x = true) : (0 ≤ x.age ∧ x.age ≤ 65535) ∧ (0 ≤ x.most ∧ x.most ≤ 65535) ∧ (0 ≤ x.hello ∧ x.hello ≤ 65535) ∧ (0 ≤ x.fwd ∧ x.fwd ≤ 65535) ∧ (0 ≤ x.flags ∧ x.flags ≤ 255) ∧ (0 ≤ x.root.p ∧ x.root.p ≤ 65535) ∧ (0 ≤ x.bridge.p ∧ x.bridge.p ≤ 65535) ∧ (0 ≤ x.port ∧ x.port ≤ 65535) ∧ (0 ≤ x.cost ∧ x.cost ≤ 4294967295) := by
  simp only [fine, upTo, Bool.and_eq_true, decide_eq_true_eq] at h
  exact h

/-- All behind the head, for one that is no change. -/
theorem rencode_bad (x : Bpd) (w : World) (hno : okB x = false) : Calls Try.prog 11 #[.agg x.cells] w fun e w' => e = .returned (.tuple #[.slice none 0 0, .int .i64 1]) ∧ Step None w w' := by
  have p1 := heap_alloc_new w (.cells x.cells 27)
  have s1 := (Step.refl None w).alloc (.cells x.cells 27)
  obtain ⟨W, hW⟩ : ∃ W, w.alloc (.cells x.cells 27) = W := ⟨_, rfl⟩
  rw [hW] at p1 s1
  have HE := Lib.hid hW
  have P1 := Lib.hid p1
  have S1 := Lib.hid s1
  have R := Lib.hid (rright_any x W)
  rw [hno] at R
  clear hW p1 s1 hno
  go_enter Try.func11, Try.ntmps11
  go_wp2_with (first | rw [HE.out] | (refine wpList_load_row rfl 27 (.tmp 1) rfl w.heap.size rfl 27 x.cells (0, 0) _ P1.out Try.underlying27 rfl (by kernel_rfl) ?_))
  refine R.out.mono ?_
  rintro e w2 ⟨rfl, s2⟩
  have S2 := Lib.hid (S1.out.then_ s2)
  clear s2
  go_wp2_with fail
  go_ret2
  exact ⟨rfl, S2.out⟩

end Go.Proofs.Ytfpdfenepelcdaa
