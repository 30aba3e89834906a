/- A step at both. -/
import Derived.Test.YtaacpjihkmklbaaDoorW7
namespace Go.Proofs.YtaacpjihkmklbaaDoor
open Go.RowKit Go.Gm

def stepC (n : Note) (d now ep sq ak : Int) (bv : Value) : Array Value := #[.int .i64 d, .int .i64 now, .int .i64 ep, .int .i64 sq, .int .i64 ak, .int .i64 n.kind, .int .i64 n.vlan, .int .u8 n.m0, .int .u8 n.m1, .int .u8 n.m2, .int .u8 n.m3, .int .u8 n.m4, .int .u8 n.m5, .int .i64 n.port, .int .i64 n.state, bv]
theorem load_stepP {w : World} {g : Nat} {n : Note} {d now ep sq ak : Int} {bv : Value} {t : TypeId} {fr : Nat × Nat} (h : w.heap[g]? = some (.cells (stepC n d now ep sq ak bv) t fr)) : (Instr.loadAt 36 (.pointer (some ⟨g, 2, none⟩))).run Tryd.prog w = .ok (.agg (n.packet ep sq ak bv)) w := by
  have := run_loadAt_mid (P := Tryd.prog) w g 2 36 (n.packet ep sq ak bv).toList _ (fun j u hj => by
    rw [blk_cell h]
    match j, hj with
    | 0, hj => exact hj
    | 1, hj => exact hj
    | 2, hj => exact hj
    | 3, hj => exact hj
    | 4, hj => exact hj
    | 5, hj => exact hj
    | 6, hj => exact hj
    | 7, hj => exact hj
    | 8, hj => exact hj
    | 9, hj => exact hj
    | 10, hj => exact hj
    | 11, hj => exact hj
    | 12, hj => exact hj
    | 13, hj => exact hj
    | j + 14, hj => simp [Note.packet] at hj) Tryd.underlying36 rfl (by kernel_rfl)
  simpa using this
theorem wpList_load_if {P : Program} {ops : Array Oper} {rest : List Oper} {Q : Exit → Act → World → Prop} {o : Oper} {a : Act} {w : World} (ty : TypeId) (x : Operand) (ho : o.op = .load ty x) (hw : Region.wanted o (yielded ops a.tmps) = true) {y v : Value} (hx : a.eval x = y)
    (hl : (Instr.loadAt ty y).run P w = .ok v w) (h : wpList P ops Q rest (a.put o.dst v) w) : wpList P ops Q (o :: rest) a w :=
  wpList_step fun K hK => by
    rw [if_pos hw]
    unfold Oper.wp execOp
    simp only [ho, hx, Sem.run_bind, hl, Result.andThen_ok, Sem.run_pure]
    exact hK _ _ h

def stepS (s : Ses) (n : Note) (d now ep sq ak : Int) : Ses :=
  if d = 0 then (s.take (helB ep sq ak n) ep ak n.port n.state now).2.2 else if d = 1 then (s.tick now).2.2 else if d = 2 then (s.seen now).2 else (s.alive now).2
theorem stepS_ok {s : Ses} (h : s.Ok) (n : Note) (d now ep sq ak : Int) : (stepS s n d now ep sq ak).Ok := by
  unfold stepS
  split
  · refine h.take (fun hh => ?_) _ _ _ _
    unfold helB at hh
    simp only [Bool.and_eq_true, decide_eq_true_eq] at hh
    exact ⟨hh.1.2, hh.2⟩
  · split
    · exact h.tick _
    · split
      · exact h.seen _
      · exact h.alive _

/-- Both are in one state. -/
structure Both (w0 w : World) (g r : Nat) (s : Ses) : Prop where
  one : ∃ op, w.heap[g]? = some (.cells (s.cells op) 63 (0, 0))
  two : w.heap[r]? = some (.cells s.rcells 58 (0, 0))
  ne : g ≠ r
  st : Step (fun k => k = g ∨ k = r) w0 w
  ok : s.Ok
  tab : HasAt 0 w
theorem Both.still {w0 w w1 : World} {g r : Nat} {s : Ses} (h : Both w0 w g r s) (hs : Step None w w1) : Both w0 w1 g r s := by
  obtain ⟨op, h1⟩ := h.one
  exact ⟨⟨op, hs.blk h1 (fun s => s.elim)⟩, hs.blk h.two (fun s => s.elim), h.ne, h.st.then_ hs.none, h.ok, h.tab.still hs⟩
theorem Both.turn {w0 w w1 w2 : World} {g r : Nat} {s t : Ses} {op : Int} (h : Both w0 w g r s) (ht : t.Ok) (s1 : Step (· = g) w w1) (h1 : w1.heap[g]? = some (.cells (t.cells op) 63 (0, 0))) (s2 : Step (· = r) w1 w2) (h2 : w2.heap[r]? = some (.cells t.rcells 58 (0, 0))) : Both w0 w2 g r t := by
  obtain ⟨op0, h0⟩ := h.one
  refine ⟨⟨op, s2.blk h1 h.ne⟩, h2, h.ne, (h.st.then_ (s1.mono fun k _ e => .inl e)).then_ (s2.mono fun k _ e => .inr e), ht, ?_⟩
  exact (h.tab.step s1 (has_ne h.tab h0 rfl)).step s2 (has_ne h.tab h.two rfl)

set_option maxHeartbeats 8000000 in
theorem step_any (s : Ses) (g r : Nat) (n : Note) (bo : Option Addr) (bc : Nat) (d now ep sq ak : Int) (w0 w : World) (h : Both w0 w g r s)
    (hb : Bytes w (.slice bo n.body.length bc) n.body) (hbs : ∀ w', Step (· = g) w w' → Bytes w' (.slice bo n.body.length bc) n.body) (hbl : n.body.length ≤ 10000) :
    Calls Tryd.prog 20 #[.pointer (some ⟨g, 0, none⟩), .pointer (some ⟨r, 0, none⟩), .agg (stepC n d now ep sq ak (.slice bo n.body.length bc))] w fun e w' => e = .returned (.bool true) ∧ Both w0 w' g r (stepS s n d now ep sq ak) := by
  have p1 := heap_alloc_new w (.cells (stepC n d now ep sq ak (.slice bo n.body.length bc)) 55)
  have s1 := (Step.refl None w).alloc (.cells (stepC n d now ep sq ak (.slice bo n.body.length bc)) 55)
  obtain ⟨W, hW⟩ : ∃ W, w.alloc (.cells (stepC n d now ep sq ak (.slice bo n.body.length bc)) 55) = W := ⟨_, rfl⟩
  rw [hW] at p1 s1
  have HE := Lib.hid hW
  have B1 := Lib.hid (h.still s1)
  have P1 := Lib.hid p1
  have HBW := Lib.hid (hb.step s1 (fun _ _ s => s.elim))
  have HBS : Hid (∀ w', Step (· = g) W w' → Bytes w' (.slice bo n.body.length bc) n.body) := Lib.hid fun w' h' => hbs w' (s1.none.then_ h')
  have NG : Hid (¬ w.heap.size = g ∧ ¬ w.heap.size = r) := Lib.hid (by
    obtain ⟨op, h1⟩ := h.one
    have := blk_lt h1
    have := blk_lt h.two
    omega)
  have q0 := blk_cell p1 0
  have q1 := blk_cell p1 1
  have lp := load_stepP p1
  simp only [stepC, List.getElem?_toArray, List.getElem?_cons_zero, List.getElem?_cons_succ] at q0 q1
  clear h hW p1 s1 hb hbs
  obtain ⟨op, g1⟩ := B1.out.one
  have G1 := Lib.hid g1
  clear g1
  cases d0 : (d == 0)
  · cases d1 : (d == 1)
    · cases d2 : (d == 2)
      · have hs : stepS s n d now ep sq ak = (s.alive now).2 := by
          have h0 : ¬ d = 0 := by simpa using d0
          have h1 : ¬ d = 1 := by simpa using d1
          have h2 : ¬ d = 2 := by simpa using d2
          unfold stepS
          rw [if_neg h0, if_neg h1, if_neg h2]
        rw [hs]
        clear hs
        go_enter Tryd.func20, Tryd.ntmps20
        go_wp2_with (rw [HE.out])
        refine (alive_any g s op now W G1.out).mono ?_
        rintro e w2 ⟨rfl, a2, s2⟩
        have R2 := Lib.hid (s2.blk B1.out.two (fun e => B1.out.ne e.symm))
        have c1 := (s2.cell (p := ⟨w.heap.size, 1, none⟩) (blk_lt P1.out) NG.out.1).trans q1
        have A2 := Lib.hid a2
        have S2 := Lib.hid s2
        clear a2 s2
        go_wp2_with fail
        refine (ralive_any r s now w2 R2.out).mono ?_
        rintro e w3 ⟨rfl, a3, s3⟩
        have A3 := Lib.hid (B1.out.turn (B1.out.ok.alive now) S2.out A2.out s3 a3)
        clear a3 s3
        go_wp2_with fail
        go_ret
        exact ⟨by simp, A3.out⟩
      · have hs : stepS s n d now ep sq ak = (s.seen now).2 := by
          have h0 : ¬ d = 0 := by simpa using d0
          have h1 : ¬ d = 1 := by simpa using d1
          have h2 : d = 2 := by simpa using d2
          unfold stepS
          rw [if_neg h0, if_neg h1, if_pos h2]
        rw [hs]
        clear hs
        go_enter Tryd.func20, Tryd.ntmps20
        go_wp2_with (rw [HE.out])
        refine (seen_any g s op now W G1.out).mono ?_
        rintro e w2 ⟨rfl, a2, s2⟩
        have R2 := Lib.hid (s2.blk B1.out.two (fun e => B1.out.ne e.symm))
        have c1 := (s2.cell (p := ⟨w.heap.size, 1, none⟩) (blk_lt P1.out) NG.out.1).trans q1
        have A2 := Lib.hid a2
        have S2 := Lib.hid s2
        clear a2 s2
        go_wp2_with fail
        refine (rseen_any r s now w2 R2.out).mono ?_
        rintro e w3 ⟨rfl, a3, s3⟩
        have A3 := Lib.hid (B1.out.turn (B1.out.ok.seen now) S2.out A2.out s3 a3)
        clear a3 s3
        go_wp2_with fail
        go_ret
        exact ⟨by simp, A3.out⟩
    · have hs : stepS s n d now ep sq ak = (s.tick now).2.2 := by
        have h0 : ¬ d = 0 := by simpa using d0
        have h1 : d = 1 := by simpa using d1
        unfold stepS
        rw [if_neg h0, if_pos h1]
      rw [hs]
      clear hs
      go_enter Tryd.func20, Tryd.ntmps20
      go_wp2_with (rw [HE.out])
      refine (tick_any g s op now W B1.out.ok G1.out).mono ?_
      rintro e w2 ⟨rfl, a2, s2⟩
      have R2 := Lib.hid (s2.blk B1.out.two (fun e => B1.out.ne e.symm))
      have c1 := (s2.cell (p := ⟨w.heap.size, 1, none⟩) (blk_lt P1.out) NG.out.1).trans q1
      have A2 := Lib.hid a2
      have S2 := Lib.hid s2
      clear a2 s2
      go_wp2_with fail
      refine (rtick_any r s now w2 B1.out.ok R2.out).mono ?_
      rintro e w3 ⟨rfl, a3, s3⟩
      have A3 := Lib.hid (B1.out.turn (B1.out.ok.tick now) S2.out A2.out s3 a3)
      clear a3 s3
      go_wp2_with fail
      go_ret
      exact ⟨by simp, A3.out⟩
  · have hs : stepS s n d now ep sq ak = (s.take (helB ep sq ak n) ep ak n.port n.state now).2.2 := by
      have h0 : d = 0 := by simpa using d0
      unfold stepS
      rw [if_pos h0]
    have OKT := Lib.hid (stepS_ok B1.out.ok n d now ep sq ak)
    rw [hs] at OKT ⊢
    clear hs
    go_enter Tryd.func20, Tryd.ntmps20
    go_wp2_with (first | rw [HE.out] | (refine wpList_load_if 36 (.tmp 23) rfl rfl rfl lp ?_))
    refine (take_any g s op ep sq ak now n bo bc W B1.out.tab B1.out.ok G1.out HBW.out hbl).mono ?_
    rintro e w2 ⟨op2, rfl, a2, s2⟩
    have R2 := Lib.hid (s2.blk B1.out.two (fun e => B1.out.ne e.symm))
    have P2 := s2.blk P1.out NG.out.1
    have c1 := blk_cell P2 1
    have lp2 := load_stepP P2
    simp only [stepC, List.getElem?_toArray, List.getElem?_cons_zero, List.getElem?_cons_succ] at c1
    have A2 := Lib.hid a2
    have S2 := Lib.hid s2
    have BW2 := Lib.hid (HBS.out w2 s2)
    clear a2 s2 P2
    go_wp2_with (refine wpList_load_if 36 (.tmp 32) rfl rfl rfl lp2 ?_)
    refine (rtake_any r s ep sq ak now n bo bc w2 B1.out.ok R2.out BW2.out hbl).mono ?_
    rintro e w3 ⟨rfl, a3, s3⟩
    have A3 := Lib.hid (B1.out.turn OKT.out S2.out A2.out s3 a3)
    clear a3 s3
    go_wp2_with fail
    go_ret
    exact ⟨by simp, A3.out⟩

end Go.Proofs.YtaacpjihkmklbaaDoor
