/- A step at both. -/
import Derived.Test.YthebgpbofjgcoaaDoorW8
namespace Go.Gm
namespace Shk
theorem loc_ok {s : Shk} {m : Int} (h : s.Ok m) (hm : 0 ≤ m) (n : Int) (up : Bool) : (s.loc n up).1.Ok (m + 1) := by
  unfold loc
  split
  · have h1 := h.put n (l := { s.get n with up := up }) (h.get hm n)
    simp only
    split
    · exact h1.mono (by omega)
    · split
      · exact h1.memb hm n
      · exact h1.mono (by omega)
  · exact h.mono (by omega)
theorem take_ok {s : Shk} {m : Int} (h : s.Ok m) (hm : 0 ≤ m) (r : Bool) (k p st : Int) : (s.take r k p st).1.Ok m := by
  unfold take
  have := h.get hm p
  split
  · split
    · split
      · simp only
        split
        · exact h.put p ⟨by show 0 ≤ max ((s.get p).owed - 1) 0; omega, by show max ((s.get p).owed - 1) 0 ≤ m; omega⟩
        · split
          · exact h.put p this
          · exact h.put p this
      · exact h
    · exact h
  · exact h
theorem start_ok {s : Shk} {m : Int} (h : s.Ok m) : s.start.1.Ok 63 := by
  have h0 : ({ s.stop false with ses := true } : Shk).Ok 0 := by
    refine ⟨by simpa [Shk.stop] using h.len, fun l hl => ?_⟩
    obtain ⟨x, -, rfl⟩ := List.mem_map.1 hl
    exact ⟨Int.le_refl _, Int.le_refl _⟩
  have := h0.membs (all s.ls.length) (Int.le_refl _)
  exact this.mono (by have := h.len; simp [all]; omega)
theorem loc_len (s : Shk) (n : Int) (up : Bool) : (s.loc n up).1.ls.length = s.ls.length := by
  unfold loc
  split
  · simp only
    split
    · exact put_len _ _ _
    · split
      · rw [memb_len, put_len]
      · exact put_len _ _ _
  · rfl
theorem take_len (s : Shk) (r : Bool) (k p st : Int) : (s.take r k p st).1.ls.length = s.ls.length := by
  unfold take
  split
  · split
    · split
      · simp only
        split
        · exact put_len _ _ _
        · split <;> exact put_len _ _ _
      · rfl
    · rfl
  · rfl
theorem start_len (s : Shk) : s.start.1.ls.length = s.ls.length := by
  show (membs _ _).1.ls.length = _
  rw [membs_len]
  simp [stop]
theorem stop_len (s : Shk) (b : Bool) : (s.stop b).ls.length = s.ls.length := by simp [stop]
theorem loc_count (s : Shk) (n : Int) (up : Bool) : (s.loc n up).2.1.length ≤ 1 := by
  unfold loc
  split
  · simp only
    split
    · simp
    · split <;> simp
  · simp
theorem take_count (s : Shk) (r : Bool) (k p st : Int) : (s.take r k p st).2.1.length ≤ 1 := by
  unfold take
  split
  · split
    · split
      · simp only
        split
        · simp
        · split <;> simp
      · simp
    · simp
  · simp
theorem start_count (s : Shk) : s.start.2.length = s.ls.length := by
  show (membs _ _).2.length = _
  rw [membs_count]
  simp [all]
end Shk
end Go.Gm
namespace Go.Proofs.YthebgpbofjgcoaaDoor
open Go.RowKit Go.Gm

def stepC (n : Note) (d link : Int) (is : Bool) (bv : Value) : Array Value := #[.int .i64 d, .int .i64 link, .bool is, .int .i64 n.kind, .int .i64 n.vlan, .int .u8 n.m0, .int .u8 n.m1, .int .u8 n.m2, .int .u8 n.m3, .int .u8 n.m4, .int .u8 n.m5, .int .i64 n.port, .int .i64 n.state, bv]
theorem load_stepN {w : World} {g : Nat} {n : Note} {d link : Int} {is : Bool} {bv : Value} {t : TypeId} {fr : Nat × Nat} (h : w.heap[g]? = some (.cells (stepC n d link is bv) t fr)) : (Instr.loadAt 35 (.pointer (some ⟨g, 3, none⟩))).run Tryd.prog w = .ok (.agg (n.cells bv)) w := by
  have := run_loadAt_mid (P := Tryd.prog) w g 3 35 (n.cells bv).toList _ (fun j u hj => by
    rw [blk_cell h]
    match j, hj with
    | 0, hj => exact hj
    | 1, hj => exact hj
    | 2, hj => exact hj
    | 3, hj => exact hj
    | 4, hj => exact hj
    | 5, hj => exact hj
    | 6, hj => exact hj
    | 7, hj => exact hj
    | 8, hj => exact hj
    | 9, hj => exact hj
    | 10, hj => exact hj
    | j + 11, hj => simp [Note.cells] at hj) Tryd.underlying35 rfl (by kernel_rfl)
  simpa using this
theorem wpList_load_if {P : Program} {ops : Array Oper} {rest : List Oper} {Q : Exit → Act → World → Prop} {o : Oper} {a : Act} {w : World} (ty : TypeId) (x : Operand) (ho : o.op = .load ty x) (hw : Region.wanted o (yielded ops a.tmps) = true) {y v : Value} (hx : a.eval x = y)
    (hl : (Instr.loadAt ty y).run P w = .ok v w) (h : wpList P ops Q rest (a.put o.dst v) w) : wpList P ops Q (o :: rest) a w :=
  wpList_step fun K hK => by
    rw [if_pos hw]
    unfold Oper.wp execOp
    simp only [ho, hx, Sem.run_bind, hl, Result.andThen_ok, Sem.run_pure]
    exact hK _ _ h

def stepS (s : Shk) (n : Note) (d link : Int) (is : Bool) : Shk :=
  if d = 0 then (s.loc link is).1 else if d = 1 then (s.take (right n) n.kind n.port n.state).1 else if d = 2 then s.start.1 else s.stop is
theorem stepS_ok {s : Shk} {m : Int} (h : s.Ok m) (hm : 63 ≤ m) (n : Note) (d link : Int) (is : Bool) : (stepS s n d link is).Ok (m + 1) := by
  unfold stepS
  split
  · exact Shk.loc_ok h (by omega) _ _
  · split
    · exact (Shk.take_ok h (by omega) _ _ _ _).mono (by omega)
    · split
      · exact (Shk.start_ok h).mono (by omega)
      · exact (h.stop (by omega) _).mono (by omega)
theorem stepS_len (s : Shk) (n : Note) (d link : Int) (is : Bool) : (stepS s n d link is).ls.length = s.ls.length := by
  unfold stepS
  split
  · exact Shk.loc_len _ _ _
  · split
    · exact Shk.take_len _ _ _ _ _
    · split
      · exact Shk.start_len _
      · exact Shk.stop_len _ _

/-- Both are in one state. -/
structure Both (w0 w : World) (g b r c : Nat) (s : Shk) : Prop where
  one : Rep 64 72 w g b s
  two : Rep 67 74 w r c s
  g0 : w0.heap.size ≤ g
  b0 : w0.heap.size ≤ b
  r0 : w0.heap.size ≤ r
  c0 : w0.heap.size ≤ c
  st : Step None w0 w
  tab : HasAt 0 w
  t0 : 0 < w0.heap.size
section
variable {w0 w w1 w2 : World} {g b r c : Nat} {s t : Shk}
theorem Both.still (h : Both w0 w g b r c s) (hs : Step None w w1) : Both w0 w1 g b r c s := ⟨h.one.still hs, h.two.still hs, h.g0, h.b0, h.r0, h.c0, h.st.then_ hs, h.tab.still hs, h.t0⟩
theorem Both.turn (h : Both w0 w g b r c s) (s1 : Step (fun k => k = g ∨ k = b) w w1) (h1 : Rep 64 72 w1 g b t) (s2 : Step (fun k => k = r ∨ k = c) w1 w2) (h2 : Rep 67 74 w2 r c t) : Both w0 w2 g b r c t := by
  have e1 : g ≠ r := blk_ne h.one.st h.two.st (by decide)
  have e2 : g ≠ c := blk_ne h.one.st h.two.row (by decide)
  have e3 : b ≠ r := blk_ne h.one.row h.two.st (by decide)
  have e4 : b ≠ c := blk_ne h.one.row h.two.row (by decide)
  refine ⟨h1.step s2 (fun e => e.elim e1 e2) (fun e => e.elim e3 e4), h2, h.g0, h.b0, h.r0, h.c0, (h.st.trans s1 fun k hk e => ?_).trans s2 fun k hk e => ?_, (h.tab.step s1 fun e => ?_).step s2 fun e => ?_, h.t0⟩
  · have := h.g0; have := h.b0; show False; omega
  · have := h.r0; have := h.c0; show False; omega
  · have := h.g0; have := h.b0; have := h.t0; omega
  · have := h.r0; have := h.c0; have := h.t0; omega
/-- The document's state is where it was, behind the code's step. -/
theorem Both.two_at (h : Both w0 w g b r c s) (s1 : Step (fun k => k = g ∨ k = b) w w1) : Rep 67 74 w1 r c s := by
  have e1 : g ≠ r := blk_ne h.one.st h.two.st (by decide)
  have e2 : g ≠ c := blk_ne h.one.st h.two.row (by decide)
  have e3 : b ≠ r := blk_ne h.one.row h.two.st (by decide)
  have e4 : b ≠ c := blk_ne h.one.row h.two.row (by decide)
  exact h.two.step s1 (fun e => e.elim (fun e => e1 e.symm) (fun e => e3 e.symm)) (fun e => e.elim (fun e => e2 e.symm) (fun e => e4 e.symm))
end
set_option maxHeartbeats 8000000 in
theorem step_any (s : Shk) (g b r c : Nat) (n : Note) (bo : Option Addr) (bc : Nat) (d link : Int) (is : Bool) (w0 w : World) (m : Int) (ho : s.Ok m) (hm : 0 ≤ m) (hm2 : m ≤ 1000000) (h : Both w0 w g b r c s) :
    Calls Tryd.prog 11 #[.pointer (some ⟨g, 0, none⟩), .pointer (some ⟨r, 0, none⟩), .agg (stepC n d link is (.slice bo n.body.length bc))] w fun e w' => e = .returned (.bool true) ∧ Both w0 w' g b r c (stepS s n d link is) := by
  have p1 := heap_alloc_new w (.cells (stepC n d link is (.slice bo n.body.length bc)) 37)
  have s1 := (Step.refl None w).alloc (.cells (stepC n d link is (.slice bo n.body.length bc)) 37)
  obtain ⟨W, hW⟩ : ∃ W, w.alloc (.cells (stepC n d link is (.slice bo n.body.length bc)) 37) = W := ⟨_, rfl⟩
  rw [hW] at p1 s1
  have HE := Lib.hid hW
  have B1 := Lib.hid (h.still s1)
  have P1 := Lib.hid p1
  have HO := Lib.hid ho
  have q := blk_cell p1
  have q0 := q 0
  have q1 := q 1
  have q2 := q 2
  have lp := load_stepN p1
  simp only [stepC, List.getElem?_toArray, List.getElem?_cons_zero, List.getElem?_cons_succ] at q0 q1 q2
  have X1 : Hid (w.heap.size ≠ g ∧ w.heap.size ≠ b) := Lib.hid ⟨blk_ne p1 B1.out.one.st (by decide), blk_ne p1 B1.out.one.row (by decide)⟩
  have LEN := Lib.hid ho.len
  clear q h hW p1 s1 ho
  cases d0 : (d == 0)
  · cases d1 : (d == 1)
    · cases d2 : (d == 2)
      · have hs : stepS s n d link is = s.stop is := by
          have h0 : ¬ d = 0 := by simpa using d0
          have h1 : ¬ d = 1 := by simpa using d1
          have h2 : ¬ d = 2 := by simpa using d2
          unfold stepS
          rw [if_neg h0, if_neg h1, if_neg h2]
        rw [hs]
        clear hs lp q1
        go_enter Tryd.func11, Tryd.ntmps11
        go_wp2_with (rw [HE.out])
        refine (stop_any g b s is W LEN.out B1.out.one).mono ?_
        rintro e w2 ⟨rfl, a2, s2⟩
        have c2 := (s2.cell (p := ⟨w.heap.size, 2, none⟩) (blk_lt P1.out) (fun e => e.elim X1.out.1 X1.out.2)).trans q2
        have A2 := Lib.hid a2
        have S2 := Lib.hid s2
        clear a2 s2 q0 q2
        go_wp2_with fail
        refine (rstop_any r c s is w2 LEN.out (B1.out.two_at S2.out)).mono ?_
        rintro e w3 ⟨rfl, a3, s3⟩
        have F := Lib.hid (B1.out.turn S2.out A2.out s3 a3)
        clear a3 s3
        go_wp2_with fail
        go_ret
        exact ⟨rfl, F.out⟩
      · have hs : stepS s n d link is = s.start.1 := by
          have h0 : ¬ d = 0 := by simpa using d0
          have h1 : ¬ d = 1 := by simpa using d1
          have h2 : d = 2 := by simpa using d2
          unfold stepS
          rw [if_neg h0, if_neg h1, if_pos h2]
        rw [hs]
        clear hs lp q1 q2
        go_enter Tryd.func11, Tryd.ntmps11
        go_wp2_with (rw [HE.out])
        refine (start_any g b s W m HO.out B1.out.one).mono ?_
        rintro e w2 ⟨u, rfl, t2, a2, s2⟩
        have U2 := Lib.hid t2
        have A2 := Lib.hid a2
        have S2 := Lib.hid s2
        obtain ⟨uo, uc, rfl, -, -⟩ := t2.row.form
        clear t2 a2 s2 q0
        go_wp2_with fail
        refine (rstart_any r c s w2 m HO.out (B1.out.two_at S2.out)).mono ?_
        rintro e w3 ⟨v, rfl, t3, a3, s3⟩
        have V3 := Lib.hid t3
        have U3 := Lib.hid (U2.out.step s3 (fun j hj e => by have := U2.out.row.ne (B1.out.two_at S2.out).st (by decide); have := U2.out.row.ne (B1.out.two_at S2.out).row (by decide); rcases e with rfl | rfl <;> contradiction))
        have F := Lib.hid (B1.out.turn S2.out A2.out s3 a3)
        obtain ⟨vo, vc, rfl, -, -⟩ := t3.row.form
        clear t3 a3 s3 U2
        go_wp2_with fail
        refine (same_any _ _ _ _ _ w3 (by rw [Shk.start_count]; have := LEN.out; omega) U3.out V3.out).mono ?_
        rintro e w4 ⟨rfl, s4⟩
        have FF := Lib.hid (F.out.still s4)
        clear s4
        go_wp2_with fail
        go_ret
        exact ⟨rfl, FF.out⟩
    · have hs : stepS s n d link is = (s.take (right n) n.kind n.port n.state).1 := by
        have h0 : ¬ d = 0 := by simpa using d0
        have h1 : d = 1 := by simpa using d1
        unfold stepS
        rw [if_neg h0, if_pos h1]
      rw [hs]
      clear hs q1 q2
      go_enter Tryd.func11, Tryd.ntmps11
      go_wp2_with (first | rw [HE.out] | (refine wpList_load_if 35 (.tmp 53) rfl rfl rfl lp ?_))
      refine (take_any g b s n bo bc W m HO.out hm hm2 B1.out.tab B1.out.one).mono ?_
      rintro e w2 ⟨u, rfl, t2, a2, s2⟩
      have U2 := Lib.hid t2
      have A2 := Lib.hid a2
      have S2 := Lib.hid (s2.mono (T := fun k => k = g ∨ k = b) fun k _ e => .inr e)
      have P2 := Lib.hid (s2.blk P1.out X1.out.2)
      have lp2 := load_stepN P2.out
      obtain ⟨uo, uc, rfl, -, -⟩ := t2.row.form
      clear t2 a2 s2 q0 lp
      go_wp2_with (first | (refine wpList_load_if 35 (.tmp 60) rfl rfl rfl lp2 ?_))
      refine (rtake_any r c s n bo bc w2 m HO.out hm hm2 (B1.out.two_at S2.out)).mono ?_
      rintro e w3 ⟨v, rfl, t3, a3, s3⟩
      have V3 := Lib.hid t3
      have U3 := Lib.hid (U2.out.step s3 (fun j hj e => by have := U2.out.row.ne (B1.out.two_at S2.out).row (by decide); have e' : j = c := e; subst e'; contradiction))
      have F := Lib.hid (B1.out.turn S2.out A2.out (s3.mono (T := fun k => k = r ∨ k = c) fun k _ e => .inr e) a3)
      obtain ⟨vo, vc, rfl, -, -⟩ := t3.row.form
      clear t3 a3 s3 U2 lp2
      go_wp2_with fail
      refine (same_any _ _ _ _ _ w3 (by have := Shk.take_count s (right n) n.kind n.port n.state; omega) U3.out V3.out).mono ?_
      rintro e w4 ⟨rfl, s4⟩
      have FF := Lib.hid (F.out.still s4)
      clear s4
      go_wp2_with fail
      go_ret
      exact ⟨by simp, FF.out⟩
  · have hs : stepS s n d link is = (s.loc link is).1 := by
      have h0 : d = 0 := by simpa using d0
      unfold stepS
      rw [if_pos h0]
    rw [hs]
    clear hs lp
    go_enter Tryd.func11, Tryd.ntmps11
    go_wp2_with (rw [HE.out])
    refine (local_any g b s link is W m HO.out hm hm2 B1.out.one).mono ?_
    rintro e w2 ⟨u, rfl, t2, a2, s2⟩
    have U2 := Lib.hid t2
    have A2 := Lib.hid a2
    have S2 := Lib.hid (s2.mono (T := fun k => k = g ∨ k = b) fun k _ e => .inr e)
    have P2 := Lib.hid (s2.blk P1.out X1.out.2)
    have c1 := (s2.cell (p := ⟨w.heap.size, 1, none⟩) (blk_lt P1.out) X1.out.2).trans q1
    have c2 := (s2.cell (p := ⟨w.heap.size, 2, none⟩) (blk_lt P1.out) X1.out.2).trans q2
    obtain ⟨uo, uc, rfl, -, -⟩ := t2.row.form
    clear t2 a2 s2 q0 q1 q2
    go_wp2_with fail
    refine (rlocal_any r c s link is w2 m HO.out hm hm2 (B1.out.two_at S2.out)).mono ?_
    rintro e w3 ⟨v, rfl, t3, a3, s3⟩
    have V3 := Lib.hid t3
    have U3 := Lib.hid (U2.out.step s3 (fun j hj e => by have := U2.out.row.ne (B1.out.two_at S2.out).row (by decide); have e' : j = c := e; subst e'; contradiction))
    have F := Lib.hid (B1.out.turn S2.out A2.out (s3.mono (T := fun k => k = r ∨ k = c) fun k _ e => .inr e) a3)
    obtain ⟨vo, vc, rfl, -, -⟩ := t3.row.form
    clear t3 a3 s3 U2 c1 c2
    go_wp2_with fail
    refine (same_any _ _ _ _ _ w3 (by have := Shk.loc_count s link is; omega) U3.out V3.out).mono ?_
    rintro e w4 ⟨rfl, s4⟩
    have FF := Lib.hid (F.out.still s4)
    clear s4
    go_wp2_with fail
    go_ret
    exact ⟨by simp, FF.out⟩
end Go.Proofs.YthebgpbofjgcoaaDoor
