/- Decode. -/
import Derived.Test.YtkboghhmldokiaaDoorD4
import Derived.Test.YtkboghhmldokiaaDoorCutw
namespace Go.Proofs.YtkboghhmldokiaaDoor
open Go.RowKit Go.Gm

def decN (l : List Int) : Note := if decOk l = true then noteOf l else noNote
def decE (l : List Int) : Int := if decOk l = true then (head l).1.1 else 0
def decS (l : List Int) : Int := if decOk l = true then (head l).1.2.1 else 0
def decA (l : List Int) : Int := if decOk l = true then (head l).1.2.2.1 else 0
def decCode (l : List Int) : Int := if decOk l = true then 0 else 2

/-- Ahead of the packet's variable. -/
structure Db (w0 w : World) (T V g : Nat) (s : Rs) : Prop where
  tab : HasAt 0 w
  v : w.heap[V]? = some (.cells #[.pointer (some ⟨g, 0, none⟩)] 59 (0, 0))
  t : w.heap[T]? = some (.cells noPkt 28 (0, 0))
  newT : w0.heap.size ≤ T
  ltT : T < w.heap.size
  pos : 0 < w0.heap.size
  r : Rd w0 w g s
theorem Db.still {w0 w w' : World} {T V g : Nat} {s : Rs} (h : Db w0 w T V g s) (hs : Step None w w') : Db w0 w' T V g s :=
  ⟨h.tab.still hs, hs.blk h.v (fun s => s.elim), hs.blk h.t (fun s => s.elim), h.newT, Nat.lt_of_lt_of_le h.ltT hs.size, h.pos, h.r.still hs⟩
theorem Db.took {w0 w w' : World} {T V g : Nat} {s s' : Rs} (h : Db w0 w T V g s) (hs : Step (fun k => k = g) w w') (hr : Rd w0 w' g s') : Db w0 w' T V g s' := by
  obtain ⟨rv, hg, -⟩ := h.r.at_
  exact ⟨h.tab.step hs (fun e => by have := h.r.new; have := h.pos; omega), hs.blk h.v (blk_ne h.v hg (by decide)), hs.blk h.t (blk_ne h.t hg (by decide)), h.newT, Nat.lt_of_lt_of_le h.ltT hs.size, h.pos, hr⟩
theorem Db.see {w0 w : World} {T V g : Nat} {s : Rs} (h : Db w0 w T V g s) : w.cell? ⟨V, 0, none⟩ = some (.pointer (some ⟨g, 0, none⟩)) := by rw [blk_cell h.v]; rfl
theorem Db.rg {w0 w : World} {T V g : Nat} {s : Rs} (h : Db w0 w T V g s) : w.heap[g]? = some (.cells (RG_ h.r).choose 61 (0, 0)) := (RG_ h.r).choose_spec
/-- .. with the packet's variable. -/
structure De (w0 w : World) (T V P g : Nat) (ep sq ak : Int) (s : Rs) : Prop where
  b : Db w0 w T V g s
  p : w.heap[P]? = some (.cells (noNote.packet ep sq ak (.slice none 0 0)) 28 (0, 0))
  ne : T ≠ P
  newP : w0.heap.size ≤ P
theorem De.still {w0 w w' : World} {T V P g : Nat} {ep sq ak : Int} {s : Rs} (h : De w0 w T V P g ep sq ak s) (hs : Step None w w') : De w0 w' T V P g ep sq ak s := ⟨h.b.still hs, hs.blk h.p (fun s => s.elim), h.ne, h.newP⟩
theorem De.took {w0 w w' : World} {T V P g : Nat} {ep sq ak : Int} {s s' : Rs} (h : De w0 w T V P g ep sq ak s) (hs : Step (fun k => k = g) w w') (hr : Rd w0 w' g s') : De w0 w' T V P g ep sq ak s' := ⟨h.b.took hs hr, hs.blk h.p (blk_ne h.p h.b.rg (by decide)), h.ne, h.newP⟩
theorem De.alloc {w0 w : World} {T V g : Nat} {s : Rs} (h : Db w0 w T V g s) : De w0 (w.alloc (.cells #[.int .i64 0, .int .i64 0, .int .i64 0, .int .i64 0, .int .i64 0, .int .u8 0, .int .u8 0, .int .u8 0, .int .u8 0, .int .u8 0, .int .u8 0, .int .i64 0, .int .i64 0, .slice none 0 0] 28)) T V w.heap.size g 0 0 0 s :=
  ⟨h.still ((Step.refl None w).alloc _), heap_alloc_new w _, fun e => by have := h.ltT; omega, h.r.st.size⟩
theorem De.row {w0 w : World} {T V P g : Nat} {ep sq ak ep' sq' ak' : Int} {s : Rs} (h : De w0 w T V P g ep sq ak s) : De w0 (w.setRow P (noNote.packet ep' sq' ak' (.slice none 0 0))) T V P g ep' sq' ak' s := by
  have hs : Step (fun k => k = P) w (w.setRow P (noNote.packet ep' sq' ak' (.slice none 0 0))) := step_setRow (S := fun k => k = P) (Step.refl _ w) (fun _ => rfl) _
  have hg := h.b.rg
  exact ⟨⟨h.b.tab.step hs (fun e => by have := h.newP; have := h.b.pos; omega), hs.blk h.b.v (blk_ne h.b.v h.p (by decide)), hs.blk h.b.t h.ne, h.b.newT, Nat.lt_of_lt_of_le h.b.ltT hs.size, h.b.pos, h.b.r.beside hs h.newP (blk_ne hg h.p (by decide))⟩, setRow_heap _ _ _ _ _ _ h.p, h.ne, h.newP⟩
theorem De.dc {w0 w : World} {T V P g : Nat} {ep sq ak : Int} {s : Rs} (h : De w0 w T V P g ep sq ak s) : Dc w0 (w.alloc (.cells #[.pointer (some ⟨P, 3, none⟩)] 64)) T V P w.heap.size g ep sq ak noNote (.slice none 0 0) s := by
  have hs := (Step.refl None w).alloc (.cells #[.pointer (some ⟨P, 3, none⟩)] 64)
  have k := h.still hs
  exact ⟨k.b.tab, k.b.v, heap_alloc_new w _, k.p, k.b.t, k.ne, k.newP, k.b.newT, k.b.pos, k.b.r⟩

theorem wp_cut0 {P : Program} {c : Code} {Q : Exit → Act → World → Prop} {a : Act} {w : World} {F : Act} (R : World → Prop)
    (h : c.wp P (fun e a' w' => e = .normal ∧ a' = F ∧ R w') a w) (hK : ∀ w', R w' → Q .normal F w') : c.wp P Q a w :=
  wp_mono h fun e a' w' ⟨he, ha, hr⟩ => by subst he ha; exact hK w' hr
theorem wpList_load_is {P : Program} {ops : Array Oper} {rest : List Oper} {Q : Exit → Act → World → Prop} {o : Oper} {a : Act} {w : World} (ty : TypeId) (x : Operand) (ho : o.op = .load ty x) (hw : Region.wanted o (yielded ops a.tmps) = true) {y v : Value} (hx : a.eval x = y)
    (hl : (Instr.loadAt ty y).run P w = .ok v w) (h : wpList P ops Q rest (a.put o.dst v) w) : wpList P ops Q (o :: rest) a w :=
  wpList_step fun K hK => by
    rw [if_pos hw]
    unfold Oper.wp execOp
    simp only [ho, hx, Sem.run_bind, hl, Result.andThen_ok, Sem.run_pure]
    exact hK _ _ h
theorem load_pkt {w : World} {g : Nat} {n : Note} {ep sq ak : Int} {bv : Value} {t : TypeId} {fr : Nat × Nat} (h : w.heap[g]? = some (.cells (n.packet ep sq ak bv) t fr)) : (Instr.loadAt 28 (.pointer (some ⟨g, 0, none⟩))).run Tryd.prog w = .ok (.agg (n.packet ep sq ak bv)) w := by
  have := run_loadAt_mid (P := Tryd.prog) w g 0 28 (n.packet ep sq ak bv).toList _ (fun j u hj => by rw [blk_cell h, Nat.zero_add]; simpa using hj) Tryd.underlying28 rfl (by kernel_rfl)
  simpa using this
theorem load_note {w : World} {g : Nat} {n : Note} {ep sq ak : Int} {bv : Value} {t : TypeId} {fr : Nat × Nat} (h : w.heap[g]? = some (.cells (n.packet ep sq ak bv) t fr)) : (Instr.loadAt 26 (.pointer (some ⟨g, 3, none⟩))).run Tryd.prog w = .ok (.agg (n.cells bv)) w := by
  have := run_loadAt_mid (P := Tryd.prog) w g 3 26 (n.cells bv).toList _ (fun j u hj => by
    rw [blk_cell h]
    match j, hj with
    | 0, hj => exact hj
    | 1, hj => exact hj
    | 2, hj => exact hj
    | 3, hj => exact hj
    | 4, hj => exact hj
    | 5, hj => exact hj
    | 6, hj => exact hj
    | 7, hj => exact hj
    | 8, hj => exact hj
    | 9, hj => exact hj
    | 10, hj => exact hj
    | j + 11, hj => simp [Note.cells] at hj) Tryd.underlying26 rfl (by kernel_rfl)
  simpa using this
theorem dec_no {l : List Int} (h : decOk l = false) : decN l = noNote ∧ decE l = 0 ∧ decS l = 0 ∧ decA l = 0 ∧ decCode l = 2 := by simp [decN, decE, decS, decA, decCode, h]
theorem dec_yes {l : List Int} (h : decOk l = true) : decN l = noteOf l ∧ decE l = (head l).1.1 ∧ decS l = (head l).1.2.1 ∧ decA l = (head l).1.2.2.1 ∧ decCode l = 0 := by simp [decN, decE, decS, decA, decCode, h]
theorem dec_fail {w w' : World} {l : List Int} {T : Nat} (h : decOk l = false) (hs : Step None w w') (hT : w.heap.size ≤ T) : ∃ bo bc, Ending.returned (.tuple #[.agg noPkt, .int .i64 2]) = .returned (.tuple #[.agg ((decN l).packet (decE l) (decS l) (decA l) (.slice bo (decN l).body.length bc)), .int .i64 (decCode l)]) ∧ Bytes (w'.setRow T noPkt) (.slice bo (decN l).body.length bc) (decN l).body ∧ Step None w (w'.setRow T noPkt) := by
  obtain ⟨e1, e2, e3, e4, e5⟩ := dec_no h
  rw [e1, e2, e3, e4, e5]
  exact ⟨none, 0, rfl, .inl ⟨rfl, rfl⟩, step_setRow hs (fun hh => by omega) _⟩

set_option maxHeartbeats 8000000 in
theorem decode_any (v : Value) (l : List Int) (w : World) (hT : HasAt 0 w) (hs : Small l) (hv : Seg w v l) :
    Calls Tryd.prog 20 #[v] w fun e w' => ∃ bo bc, e = .returned (.tuple #[.agg ((decN l).packet (decE l) (decS l) (decA l) (.slice bo (decN l).body.length bc)), .int .i64 (decCode l)]) ∧ Bytes w' (.slice bo (decN l).body.length bc) (decN l).body ∧ Step None w w' := by
  obtain ⟨ao, cap, ev⟩ := hv.form
  subst ev
  obtain ⟨W, hW⟩ : ∃ W, ((w.alloc (.cells #[.int .i64 0, .int .i64 0, .int .i64 0, .int .i64 0, .int .i64 0, .int .u8 0, .int .u8 0, .int .u8 0, .int .u8 0, .int .u8 0, .int .u8 0, .int .i64 0, .int .i64 0, .slice none 0 0] 28)).alloc (.cells #[.slice ao l.length cap, .bool false] 61)).alloc (.cells #[.pointer (some ⟨w.heap.size + 1, 0, none⟩)] 59) = W := ⟨_, rfl⟩
  have s1 := (((Step.refl None w).alloc (.cells #[.int .i64 0, .int .i64 0, .int .i64 0, .int .i64 0, .int .i64 0, .int .u8 0, .int .u8 0, .int .u8 0, .int .u8 0, .int .u8 0, .int .u8 0, .int .i64 0, .int .i64 0, .slice none 0 0] 28)).alloc (.cells #[.slice ao l.length cap, .bool false] 61)).alloc (.cells #[.pointer (some ⟨w.heap.size + 1, 0, none⟩)] 59)
  have b1 := (((Step.refl None _).alloc (.cells #[.slice ao l.length cap, .bool false] 61)).alloc (.cells #[.pointer (some ⟨w.heap.size + 1, 0, none⟩)] 59)).blk (heap_alloc_new w (.cells #[.int .i64 0, .int .i64 0, .int .i64 0, .int .i64 0, .int .i64 0, .int .u8 0, .int .u8 0, .int .u8 0, .int .u8 0, .int .u8 0, .int .u8 0, .int .i64 0, .int .i64 0, .slice none 0 0] 28)) (fun s => s.elim)
  have b2 := ((Step.refl None _).alloc (.cells #[.pointer (some ⟨w.heap.size + 1, 0, none⟩)] 59)).blk (heap_alloc_new (w.alloc (.cells #[.int .i64 0, .int .i64 0, .int .i64 0, .int .i64 0, .int .i64 0, .int .u8 0, .int .u8 0, .int .u8 0, .int .u8 0, .int .u8 0, .int .u8 0, .int .i64 0, .int .i64 0, .slice none 0 0] 28)) (.cells #[.slice ao l.length cap, .bool false] 61)) (fun s => s.elim)
  have b3 := heap_alloc_new ((w.alloc (.cells #[.int .i64 0, .int .i64 0, .int .i64 0, .int .i64 0, .int .i64 0, .int .u8 0, .int .u8 0, .int .u8 0, .int .u8 0, .int .u8 0, .int .u8 0, .int .i64 0, .int .i64 0, .slice none 0 0] 28)).alloc (.cells #[.slice ao l.length cap, .bool false] 61)) (.cells #[.pointer (some ⟨w.heap.size + 1, 0, none⟩)] 59)
  simp only [World.size_alloc] at b2 b3
  rw [hW] at s1 b1 b2 b3
  have HE := Lib.hid hW
  have D0 : Hid (Db w W w.heap.size (w.heap.size + 1 + 1) (w.heap.size + 1) (l, false)) := Lib.hid ⟨hT.still s1, b3, b1, Nat.le_refl _, blk_lt b1, by have := hT.lt; omega, ⟨⟨_, b2, hv⟩, s1, by omega, hs⟩⟩
  have HS := Lib.hid hs
  obtain ⟨A, hA⟩ : ∃ A, longP (l, false) = A := ⟨_, rfl⟩
  obtain ⟨B, hB⟩ : ∃ B, longP A.2 = B := ⟨_, rfl⟩
  obtain ⟨C, hC⟩ : ∃ C, longP B.2 = C := ⟨_, rfl⟩
  obtain ⟨K, hK⟩ : ∃ K, byteP C.2 = K := ⟨_, rfl⟩
  have HH := Lib.hid (head_is hA hB hC hK)
  have TA := Lib.hid (fun w1 (h1 : Db w w1 w.heap.size (w.heap.size + 1 + 1) (w.heap.size + 1) (l, false)) => long_any' (w.heap.size + 1) (l, false) w1 h1.r)
  have TB := Lib.hid (fun w1 (h1 : Db w w1 w.heap.size (w.heap.size + 1 + 1) (w.heap.size + 1) A.2) => long_any' (w.heap.size + 1) A.2 w1 h1.r)
  have TC := Lib.hid (fun w1 (h1 : Db w w1 w.heap.size (w.heap.size + 1 + 1) (w.heap.size + 1) B.2) => long_any' (w.heap.size + 1) B.2 w1 h1.r)
  rw [hA] at TA
  rw [hB] at TB
  rw [hC] at TC
  have HK := Lib.hid hK
  obtain ⟨ep, rA⟩ := A
  obtain ⟨sq, rB⟩ := B
  obtain ⟨ak, rC⟩ := C
  dsimp only at TA TB TC HH HK
  clear hT hs hv s1 b1 b2 b3 hW hA hB hC hK
  go_enter Tryd.func20, Tryd.ntmps20
  go_wp2_with (first
    | rw [HE.out])
  apply wp_cut1 (fun (P : Nat) (w' : World) => De w w' w.heap.size (w.heap.size + 1 + 1) P (w.heap.size + 1) ep sq ak rC)
  · refine wp_region_plan (fun w' => w'.cell? ⟨w.heap.size + 1 + 1, 0, none⟩ = some (.pointer (some ⟨w.heap.size + 1, 0, none⟩))) (.take 0 (.take 2 (.take 4 (.alt 1 (.alt 3 (.alt 5 (.take 6 (.alt 7 (.last 8) .none)) (.alt 7 (.alt 5 (.take 6 (.last 8)) .none) .none)) (.alt 7 (.alt 3 (.alt 5 (.take 6 (.last 8)) .none) .none) .none)) (.alt 7 (.alt 1 (.alt 3 (.alt 5 (.take 6 (.last 8)) .none) .none) .none) .none))))) _
      (by simp only [Plan.map, opOf, List.getElem?_toArray, List.getElem?_cons_zero, List.getElem?_cons_succ, Option.getD_some]; rfl) (by kernel_rfl) (by kernel_rfl) (by kernel_rfl) (by decide) (by intro c a d v w; intro h; exact absurd h.1 (by simp)) (D0.out.still (Step.refl None W).drew).see ?_
    have DX := Lib.hid (D0.out.still (Step.refl None W).drew)
    repeat (first | (refine wpPlan.taken (by rfl) (fun w' hS' => run_load_op rfl rfl hS') ?_; simp only [Act.put, List.setIfInBounds_toArray, List.set_cons_zero, List.set_cons_succ]) | (refine wpPlan.taken (by rfl) (by intro w' hS'; (try dsimp only at hS'); go_split_ands; go_simp; try with_reducible rfl) ?_; simp only [Act.put, List.setIfInBounds_toArray, List.set_cons_zero, List.set_cons_succ]) | (refine wpPlan.passed (by rfl) ?_; simp only [Act.put, List.setIfInBounds_toArray, List.set_cons_zero, List.set_cons_succ]))
    refine wpPlan.parts ?_ ?_
    · refine wpPlan.runs fun K' hK => ?_
      go_simp
      refine (TA.out _ (DX.out)).mono ?_
      rintro e wA ⟨rfl, rd, st⟩
      have DA := Lib.hid (DX.out.took st rd)
      refine hK.out _ _ DA.out.see ?_
      clear hK K' rd st
      refine wpPlan.parts ?_ ?_
      · refine wpPlan.runs fun K' hK => ?_
        go_simp
        refine (TB.out _ (DA.out)).mono ?_
        rintro e wB ⟨rfl, rd, st⟩
        have DB := Lib.hid (DA.out.took st rd)
        refine hK.out _ _ DB.out.see ?_
        clear hK K' rd st
        refine wpPlan.parts ?_ ?_
        · refine wpPlan.runs fun K' hK => ?_
          go_simp
          refine (TC.out _ (DB.out)).mono ?_
          rintro e wC ⟨rfl, rd, st⟩
          have DC := Lib.hid (DB.out.took st rd)
          refine hK.out _ _ DC.out.see ?_
          clear hK K' rd st
          repeat (first | (refine wpPlan.taken (by rfl) (fun w' hS' => run_load_op rfl rfl hS') ?_; simp only [Act.put, List.setIfInBounds_toArray, List.set_cons_zero, List.set_cons_succ]) | (refine wpPlan.taken (by rfl) (by intro w' hS'; (try dsimp only at hS'); go_split_ands; go_simp; try with_reducible rfl) ?_; simp only [Act.put, List.setIfInBounds_toArray, List.set_cons_zero, List.set_cons_succ]) | (refine wpPlan.passed (by rfl) ?_; simp only [Act.put, List.setIfInBounds_toArray, List.set_cons_zero, List.set_cons_succ]))
          refine wpPlan.runs fun K' hK => ?_
          go_simp
          have DP := Lib.hid (De.alloc DC.out)
          skip
          refine hK.out _ _ DP.out.b.see ?_
          clear hK K'
          generalize hP : wC.heap.size = P at *
          clear hP
          refine wpPlan.ends fun K' hK => ?_
          rw [if_pos (by rfl)]
          refine wp_store_row 28 (.tmp 5) (.tmp 17) rfl P (noNote.packet ep sq ak (.slice none 0 0)) rfl rfl 28 _ DP.out.p (by kernel_rfl) rfl (by simp [Note.packet, noNote, Value.oneCell']) (hK.out _ _ ?_)
          exact ⟨rfl, P, rfl, DP.out.row⟩
        · skip
          refine wpPlan.runs fun K' hK => ?_
          go_simp
          have DP := Lib.hid (De.alloc DB.out)
          skip
          refine hK.out _ _ DP.out.b.see ?_
          clear hK K'
          generalize hP : wB.heap.size = P at *
          clear hP
          refine wpPlan.runs fun K' hK => ?_
          go_simp
          refine (TC.out _ (DP.out.b)).mono ?_
          rintro e wC ⟨rfl, rd, st⟩
          have DC := Lib.hid (DP.out.took st rd)
          refine hK.out _ _ DC.out.b.see ?_
          clear hK K' rd st
          repeat (first | (refine wpPlan.taken (by rfl) (fun w' hS' => run_load_op rfl rfl hS') ?_; simp only [Act.put, List.setIfInBounds_toArray, List.set_cons_zero, List.set_cons_succ]) | (refine wpPlan.taken (by rfl) (by intro w' hS'; (try dsimp only at hS'); go_split_ands; go_simp; try with_reducible rfl) ?_; simp only [Act.put, List.setIfInBounds_toArray, List.set_cons_zero, List.set_cons_succ]) | (refine wpPlan.passed (by rfl) ?_; simp only [Act.put, List.setIfInBounds_toArray, List.set_cons_zero, List.set_cons_succ]))
          refine wpPlan.ends fun K' hK => ?_
          rw [if_pos (by rfl)]
          refine wp_store_row 28 (.tmp 5) (.tmp 17) rfl P (noNote.packet ep sq ak (.slice none 0 0)) rfl rfl 28 _ DC.out.p (by kernel_rfl) rfl (by simp [Note.packet, noNote, Value.oneCell']) (hK.out _ _ ?_)
          exact ⟨rfl, P, rfl, DC.out.row⟩
      · skip
        refine wpPlan.runs fun K' hK => ?_
        go_simp
        have DP := Lib.hid (De.alloc DA.out)
        skip
        refine hK.out _ _ DP.out.b.see ?_
        clear hK K'
        generalize hP : wA.heap.size = P at *
        clear hP
        refine wpPlan.runs fun K' hK => ?_
        go_simp
        refine (TB.out _ (DP.out.b)).mono ?_
        rintro e wB ⟨rfl, rd, st⟩
        have DB := Lib.hid (DP.out.took st rd)
        refine hK.out _ _ DB.out.b.see ?_
        clear hK K' rd st
        refine wpPlan.runs fun K' hK => ?_
        go_simp
        refine (TC.out _ (DB.out.b)).mono ?_
        rintro e wC ⟨rfl, rd, st⟩
        have DC := Lib.hid (DB.out.took st rd)
        refine hK.out _ _ DC.out.b.see ?_
        clear hK K' rd st
        repeat (first | (refine wpPlan.taken (by rfl) (fun w' hS' => run_load_op rfl rfl hS') ?_; simp only [Act.put, List.setIfInBounds_toArray, List.set_cons_zero, List.set_cons_succ]) | (refine wpPlan.taken (by rfl) (by intro w' hS'; (try dsimp only at hS'); go_split_ands; go_simp; try with_reducible rfl) ?_; simp only [Act.put, List.setIfInBounds_toArray, List.set_cons_zero, List.set_cons_succ]) | (refine wpPlan.passed (by rfl) ?_; simp only [Act.put, List.setIfInBounds_toArray, List.set_cons_zero, List.set_cons_succ]))
        refine wpPlan.ends fun K' hK => ?_
        rw [if_pos (by rfl)]
        refine wp_store_row 28 (.tmp 5) (.tmp 17) rfl P (noNote.packet ep sq ak (.slice none 0 0)) rfl rfl 28 _ DC.out.p (by kernel_rfl) rfl (by simp [Note.packet, noNote, Value.oneCell']) (hK.out _ _ ?_)
        exact ⟨rfl, P, rfl, DC.out.row⟩
    · skip
      refine wpPlan.runs fun K' hK => ?_
      go_simp
      have DP := Lib.hid (De.alloc DX.out)
      rw [show W.drew.heap.size = W.heap.size from rfl] at DP
      refine hK.out _ _ DP.out.b.see ?_
      clear hK K'
      generalize hP : W.heap.size = P at *
      clear hP
      refine wpPlan.runs fun K' hK => ?_
      go_simp
      refine (TA.out _ (DP.out.b)).mono ?_
      rintro e wA ⟨rfl, rd, st⟩
      have DA := Lib.hid (DP.out.took st rd)
      refine hK.out _ _ DA.out.b.see ?_
      clear hK K' rd st
      refine wpPlan.runs fun K' hK => ?_
      go_simp
      refine (TB.out _ (DA.out.b)).mono ?_
      rintro e wB ⟨rfl, rd, st⟩
      have DB := Lib.hid (DA.out.took st rd)
      refine hK.out _ _ DB.out.b.see ?_
      clear hK K' rd st
      refine wpPlan.runs fun K' hK => ?_
      go_simp
      refine (TC.out _ (DB.out.b)).mono ?_
      rintro e wC ⟨rfl, rd, st⟩
      have DC := Lib.hid (DB.out.took st rd)
      refine hK.out _ _ DC.out.b.see ?_
      clear hK K' rd st
      repeat (first | (refine wpPlan.taken (by rfl) (fun w' hS' => run_load_op rfl rfl hS') ?_; simp only [Act.put, List.setIfInBounds_toArray, List.set_cons_zero, List.set_cons_succ]) | (refine wpPlan.taken (by rfl) (by intro w' hS'; (try dsimp only at hS'); go_split_ands; go_simp; try with_reducible rfl) ?_; simp only [Act.put, List.setIfInBounds_toArray, List.set_cons_zero, List.set_cons_succ]) | (refine wpPlan.passed (by rfl) ?_; simp only [Act.put, List.setIfInBounds_toArray, List.set_cons_zero, List.set_cons_succ]))
      refine wpPlan.ends fun K' hK => ?_
      rw [if_pos (by rfl)]
      refine wp_store_row 28 (.tmp 5) (.tmp 17) rfl P (noNote.packet ep sq ak (.slice none 0 0)) rfl rfl 28 _ DC.out.p (by kernel_rfl) rfl (by simp [Note.packet, noNote, Value.oneCell']) (hK.out _ _ ?_)
      exact ⟨rfl, P, rfl, DC.out.row⟩
  intro P w2 de
  have DCC := Lib.hid de.dc
  obtain ⟨W3, hW3⟩ : ∃ W3, w2.alloc (.cells #[.pointer (some ⟨P, 3, none⟩)] 64) = W3 := ⟨_, rfl⟩
  rw [hW3] at DCC
  have HE3 := Lib.hid hW3
  clear hW3 de TA TB TC D0 HE
  go_wp2_with (first
    | rw [HE3.out])
  generalize w2.heap.size = N at *
  clear HE3
  have T1 := Lib.hid (take_any (w.heap.size + 1) 1 rC W3.drew (DCC.out.still (Step.refl None W3).drew).r (by omega))
  have hl := takeP_len 1 rC
  have hsm := takeP_small (n := 1) DCC.out.r.small
  have hkk := HK.out
  rw [show byteP rC = ((takeP 1 rC).1.getD 0 0, (takeP 1 rC).2) from rfl] at hkk
  generalize takeP 1 rC = t at *
  obtain ⟨b, s2⟩ := t
  match b, hl with
  | [kb], _ =>
  have b0 := hsm kb (by simp)
  have e1 : IntKind.i64.wrap kb = kb := IntWalk.i64_in _ (by omega)
  have hkk : K = (kb, s2) := hkk.symm
  subst hkk
  have KB := Lib.hid b0
  clear b0 hsm hl HK
  apply wp_cut3 (fun (_ _ _ : Nat) w' => Dc w w' w.heap.size (w.heap.size + 1 + 1) P N (w.heap.size + 1) ep sq ak { noNote with kind := kb } (.slice none 0 0) s2)
  · refine wp_region_plan (fun w' => w'.cell? ⟨w.heap.size + 1 + 1, 0, none⟩ = some (.pointer (some ⟨w.heap.size + 1, 0, none⟩)) ∧ w'.cell? ⟨N, 0, none⟩ = some (.pointer (some ⟨P, 3, none⟩))) (.take 0 (.take 1 (.alt 2 (.take 3 (.alt 4 (.take 5 (.take 6 (.take 7 (.last 8)))) .none)) .none))) _
      (by simp only [Plan.map, opOf, List.getElem?_toArray, List.getElem?_cons_zero, List.getElem?_cons_succ, Option.getD_some]; rfl) (by kernel_rfl) (by kernel_rfl) (by kernel_rfl) (by decide) (by intro c a d v w; intro h; exact absurd h.1 (by simp)) (DCC.out.still (Step.refl None W3).drew).see ?_
    have DX := Lib.hid (DCC.out.still (Step.refl None W3).drew)
    repeat (first | (refine wpPlan.taken (by rfl) (fun w' hS' => run_load_op rfl rfl hS'.1) ?_; simp only [Act.put, List.setIfInBounds_toArray, List.set_cons_zero, List.set_cons_succ]) | (refine wpPlan.taken (by rfl) (fun w' hS' => run_load_op rfl rfl hS'.2) ?_; simp only [Act.put, List.setIfInBounds_toArray, List.set_cons_zero, List.set_cons_succ]) | (refine wpPlan.taken (by rfl) (by intro w' hS'; (try dsimp only at hS'); go_split_ands; go_simp; try with_reducible rfl) ?_; simp only [Act.put, List.setIfInBounds_toArray, List.set_cons_zero, List.set_cons_succ]) | (refine wpPlan.passed (by rfl) ?_; simp only [Act.put, List.setIfInBounds_toArray, List.set_cons_zero, List.set_cons_succ]))
    refine wpPlan.runs fun K' hK => ?_
    go_simp
    refine T1.out.mono ?_
    rintro e w1 ⟨u, rfl, su, rd, st, -⟩
    have H1 := Lib.hid (DX.out.took st rd)
    obtain ⟨b, off, cap', rfl, hc⟩ := su.at_ (by simp)
    have c1 := hc 0 kb rfl
    rw [Nat.add_zero] at c1
    refine hK.out _ _ H1.out.see ?_
    clear hK K' rd st su hc
    repeat (first | (refine wpPlan.taken (by rfl) (fun w' hS' => run_load_op rfl rfl hS'.1) ?_; simp only [Act.put, List.setIfInBounds_toArray, List.set_cons_zero, List.set_cons_succ]) | (refine wpPlan.taken (by rfl) (fun w' hS' => run_load_op rfl rfl hS'.2) ?_; simp only [Act.put, List.setIfInBounds_toArray, List.set_cons_zero, List.set_cons_succ]) | (refine wpPlan.taken (by rfl) (by intro w' hS'; (try dsimp only at hS'); go_split_ands; go_simp; try with_reducible rfl) ?_; simp only [Act.put, List.setIfInBounds_toArray, List.set_cons_zero, List.set_cons_succ]) | (refine wpPlan.passed (by rfl) ?_; simp only [Act.put, List.setIfInBounds_toArray, List.set_cons_zero, List.set_cons_succ]))
    refine wpPlan.runs fun K' hK => ?_
    go_simp
    refine hK.out _ _ H1.out.see ?_
    clear hK K'
    repeat (first | (refine wpPlan.taken (by rfl) (fun w' hS' => run_load_op rfl rfl hS'.1) ?_; simp only [Act.put, List.setIfInBounds_toArray, List.set_cons_zero, List.set_cons_succ]) | (refine wpPlan.taken (by rfl) (fun w' hS' => run_load_op rfl rfl hS'.2) ?_; simp only [Act.put, List.setIfInBounds_toArray, List.set_cons_zero, List.set_cons_succ]) | (refine wpPlan.taken (by rfl) (by intro w' hS'; (try dsimp only at hS'); go_split_ands; go_simp; try with_reducible rfl) ?_; simp only [Act.put, List.setIfInBounds_toArray, List.set_cons_zero, List.set_cons_succ]) | (refine wpPlan.passed (by rfl) ?_; simp only [Act.put, List.setIfInBounds_toArray, List.set_cons_zero, List.set_cons_succ]))
    have h2 := (H1.out.put 3 (.int .i64 kb) (n' := { noNote with kind := kb }) (bv' := .slice none 0 0) rfl).1
    have c2 := blk_cell H1.out.p 3
    have f2 := blk_frozen H1.out.p 3
    simp only [Note.packet, noNote, List.getElem?_toArray, List.getElem?_cons_zero, List.getElem?_cons_succ] at c2
    have H2 := Lib.hid h2
    refine wpPlan.ends fun K' hK => ?_
    go_simp
    refine hK.out _ _ ?_
    exact ⟨rfl, b, off, cap', rfl, H2.out⟩
  intro u1 u2 u3 w4 d4
  have D4 := Lib.hid d4
  have HD : Hid (decOk l = (decide (kb < 9) && (!(sB kb.toNat s2).2 && ((sB kb.toNat s2).1.isEmpty && okP ep sq ak (noteP kb.toNat s2))))) := Lib.hid (by unfold decOk endOf noteOf kindOf; rw [HH.out])
  have n4 := d4.see.2
  have k4 := blk_cell d4.p 3
  simp only [Note.packet, noNote, List.getElem?_toArray, List.getElem?_cons_zero, List.getElem?_cons_succ] at k4
  clear d4 DCC T1
  have hmf : ∀ (fn : Fn) (first cap : Array Value) (w : World), (Instr.makeFunc fn first cap).run Tryd.prog w = .ok (.func fn first cap) w := fun _ _ _ _ => rfl
  by_cases h9 : kb < 9
  rotate_left
  · have d9 : decide ((9 : Int) ≤ kb) = true := decide_eq_true (by omega)
    have hno : decOk l = false := by rw [HD.out, decide_eq_false h9]; rfl
    have HNO := Lib.hid hno
    clear h9 hno
    go_wp2_with (first
      | (refine wpList_store_row rfl 28 (.tmp 2) (.tmp 32) rfl w.heap.size noPkt rfl rfl 28 _ D4.out.t (by kernel_rfl) rfl (by simp [noPkt, Note.packet, noNote, Value.oneCell']) ?_))
    (try simp only [Exit.inBlock, Exit.then])
    refine bodyPost_ret (results_cell_row2 (P := Tryd.prog) (fn := Tryd.f20) rfl _ _ w.heap.size 28 noPkt (0, 0) _ rfl (setRow_heap _ _ _ _ _ _ D4.out.t) Tryd.underlying28 rfl (by kernel_rfl)) rfl ?_
    exact dec_fail HNO.out D4.out.r.st D4.out.newT
  have d9 : decide ((9 : Int) ≤ kb) = false := decide_eq_false (by omega)
  obtain ⟨k, hk⟩ : ∃ k : Nat, kb = k := ⟨kb.toNat, by have := KB.out; omega⟩
  subst hk
  have H9 : Hid (k < 9) := Lib.hid (by omega)
  rw [decide_eq_true h9, Int.toNat_natCast, Bool.true_and] at HD
  clear h9 KB
  go_wp2_with fail
  refine (get_vlan k w4 D4.out rfl H9.out rfl).mono ?_
  rintro e w5 ⟨rfl, d5⟩
  have D5 := Lib.hid d5
  clear d5 D4 n4 k4
  go_wp2_with fail
  refine (get_mac k w5 D5.out rfl H9.out rfl).mono ?_
  rintro e w6 ⟨rfl, d6⟩
  have D6 := Lib.hid d6
  clear d6 D5
  go_wp2_with fail
  refine (get_port k w6 D6.out rfl H9.out rfl).mono ?_
  rintro e w7 ⟨rfl, d7⟩
  have D7 := Lib.hid d7
  clear d7 D6
  go_wp2_with fail
  refine (get_state k w7 D7.out rfl H9.out rfl).mono ?_
  rintro e w8 ⟨rfl, d8⟩
  have D8 := Lib.hid d8
  clear d8 D7
  go_wp2_with fail
  refine (get_body k w8 D8.out rfl H9.out rfl rfl).mono ?_
  rintro e w9 ⟨rfl, bo, bc, d9, by9, nl9⟩
  have D9 : Hid (Dc w w9 w.heap.size (w.heap.size + 1 + 1) P N (w.heap.size + 1) ep sq ak (noteP k s2) (.slice bo (noteP k s2).body.length bc) (sB k s2)) := Lib.hid d9
  have B9 : Hid (Bytes w9 (.slice bo (noteP k s2).body.length bc) (noteP k s2).body) := Lib.hid by9
  have NL : Hid (¬ Leads (.slice bo (noteP k s2).body.length bc) w.heap.size) := Lib.hid nl9
  clear d9 by9 nl9 D8
  have HY : Hid (decOk l = true → decN l = noteP k s2 ∧ decE l = ep ∧ decS l = sq ∧ decA l = ak ∧ decCode l = 0) := Lib.hid fun h => by
    obtain ⟨e1, e2, e3, e4, e5⟩ := dec_yes h
    refine ⟨?_, by rw [e2, HH.out], by rw [e3, HH.out], by rw [e4, HH.out], e5⟩
    rw [e1]
    unfold noteOf kindOf
    rw [HH.out]
    rfl
  clear HH
  generalize noteP k s2 = n at *
  generalize sB k s2 = z at *
  obtain ⟨rest, bad⟩ := z
  dsimp only at HD
  obtain ⟨rv, rb, sv⟩ := D9.out.r.at_
  obtain ⟨ro, rc, ev⟩ := sv.form
  subst ev
  have g0 := blk_cell rb 0
  have g1 := blk_cell rb 1
  simp only [List.getElem?_toArray, List.getElem?_cons_zero, List.getElem?_cons_succ] at g0 g1
  obtain ⟨v9, n9⟩ := D9.out.see
  have LN := Lib.hid (load_note D9.out.p)
  have LP := Lib.hid (load_pkt D9.out.p)
  have p0 := blk_cell D9.out.p 0
  have p1 := blk_cell D9.out.p 1
  have p2 := blk_cell D9.out.p 2
  simp only [Note.packet, List.getElem?_toArray, List.getElem?_cons_zero, List.getElem?_cons_succ] at p0 p1 p2
  clear rb sv
  cases bad
  rotate_left
  · have hno : decOk l = false := by rw [HD.out]; rfl
    have HNO := Lib.hid hno
    clear hno
    go_wp2_with (first
      | (refine wpList_store_row rfl 28 (.tmp 2) (.tmp 86) rfl w.heap.size noPkt rfl rfl 28 _ D9.out.t (by kernel_rfl) rfl (by simp [noPkt, Note.packet, noNote, Value.oneCell']) ?_))
    (try simp only [Exit.inBlock, Exit.then])
    refine bodyPost_ret (results_cell_row2 (P := Tryd.prog) (fn := Tryd.f20) rfl _ _ w.heap.size 28 noPkt (0, 0) _ rfl (setRow_heap _ _ _ _ _ _ D9.out.t) Tryd.underlying28 rfl (by kernel_rfl)) rfl ?_
    exact dec_fail HNO.out D9.out.r.st D9.out.newT
  rw [Bool.not_false, Bool.true_and] at HD
  by_cases hr : rest.length = 0
  rotate_left
  · have hno : decOk l = false := by
      rw [HD.out]
      cases rest with
      | nil => simp at hr
      | cons x y => rfl
    have d0 : decide ((0 : Int) < (rest.length : Int)) = true := decide_eq_true (by omega)
    have d0' : decide (0 < rest.length) = true := decide_eq_true (by omega)
    have HNO := Lib.hid hno
    clear hno
    go_wp2_with (first
      | (refine wpList_store_row rfl 28 (.tmp 2) (.tmp 86) rfl w.heap.size noPkt rfl rfl 28 _ D9.out.t (by kernel_rfl) rfl (by simp [noPkt, Note.packet, noNote, Value.oneCell']) ?_))
    (try simp only [Exit.inBlock, Exit.then])
    refine bodyPost_ret (results_cell_row2 (P := Tryd.prog) (fn := Tryd.f20) rfl _ _ w.heap.size 28 noPkt (0, 0) _ rfl (setRow_heap _ _ _ _ _ _ D9.out.t) Tryd.underlying28 rfl (by kernel_rfl)) rfl ?_
    exact dec_fail HNO.out D9.out.r.st D9.out.newT
  have hr0 : rest = [] := List.eq_nil_of_length_eq_zero hr
  subst hr0
  rw [show (([] : List Int).isEmpty && okP ep sq ak n) = okP ep sq ak n from rfl] at HD
  clear hr
  have R := Lib.hid (right_any n bo bc w9 D9.out.tab)
  go_wp2_with (first
    | (refine wpList_load_is 26 (.tmp 63) rfl rfl rfl LN.out ?_))
  refine R.out.mono ?_
  rintro e wr ⟨rfl, sr⟩
  have D10 := Lib.hid (D9.out.still sr)
  have B10 := Lib.hid (B9.out.step sr (fun _ _ s => s.elim))
  have LP := Lib.hid (load_pkt D10.out.p)
  have p0 := blk_cell D10.out.p 0
  have p1 := blk_cell D10.out.p 1
  have p2 := blk_cell D10.out.p 2
  simp only [Note.packet, List.getElem?_toArray, List.getElem?_cons_zero, List.getElem?_cons_succ] at p0 p1 p2
  clear sr R D9 B9 LN v9 n9 g0 g1
  unfold okP at HD
  cases hR : right n
  · have hno : decOk l = false := by rw [HD.out, hR]; rfl
    have HNO := Lib.hid hno
    clear hno
    go_wp2_with (first
      | (refine wpList_store_row rfl 28 (.tmp 2) (.tmp 86) rfl w.heap.size noPkt rfl rfl 28 _ D10.out.t (by kernel_rfl) rfl (by simp [noPkt, Note.packet, noNote, Value.oneCell']) ?_))
    (try simp only [Exit.inBlock, Exit.then])
    refine bodyPost_ret (results_cell_row2 (P := Tryd.prog) (fn := Tryd.f20) rfl _ _ w.heap.size 28 noPkt (0, 0) _ rfl (setRow_heap _ _ _ _ _ _ D10.out.t) Tryd.underlying28 rfl (by kernel_rfl)) rfl ?_
    exact dec_fail HNO.out D10.out.r.st D10.out.newT
  rw [hR, Bool.true_and] at HD
  go_wp2_with fail
  refine (numbered_any ep wr).mono ?_
  rintro e w' ⟨rfl, rfl⟩
  cases hE : num ep
  · have hno : decOk l = false := by rw [HD.out, hE]; rfl
    have HNO := Lib.hid hno
    clear hno
    go_wp2_with (first
      | (refine wpList_store_row rfl 28 (.tmp 2) (.tmp 86) rfl w.heap.size noPkt rfl rfl 28 _ D10.out.t (by kernel_rfl) rfl (by simp [noPkt, Note.packet, noNote, Value.oneCell']) ?_))
    (try simp only [Exit.inBlock, Exit.then])
    refine bodyPost_ret (results_cell_row2 (P := Tryd.prog) (fn := Tryd.f20) rfl _ _ w.heap.size 28 noPkt (0, 0) _ rfl (setRow_heap _ _ _ _ _ _ D10.out.t) Tryd.underlying28 rfl (by kernel_rfl)) rfl ?_
    exact dec_fail HNO.out D10.out.r.st D10.out.newT
  rw [hE, Bool.true_and] at HD
  go_wp2_with fail
  refine (numbered_any sq wr).mono ?_
  rintro e w' ⟨rfl, rfl⟩
  cases hS : num sq
  · have hno : decOk l = false := by rw [HD.out, hS]; rfl
    have HNO := Lib.hid hno
    clear hno
    go_wp2_with (first
      | (refine wpList_store_row rfl 28 (.tmp 2) (.tmp 86) rfl w.heap.size noPkt rfl rfl 28 _ D10.out.t (by kernel_rfl) rfl (by simp [noPkt, Note.packet, noNote, Value.oneCell']) ?_))
    (try simp only [Exit.inBlock, Exit.then])
    refine bodyPost_ret (results_cell_row2 (P := Tryd.prog) (fn := Tryd.f20) rfl _ _ w.heap.size 28 noPkt (0, 0) _ rfl (setRow_heap _ _ _ _ _ _ D10.out.t) Tryd.underlying28 rfl (by kernel_rfl)) rfl ?_
    exact dec_fail HNO.out D10.out.r.st D10.out.newT
  rw [hS, Bool.true_and] at HD
  go_wp2_with fail
  refine (numbered_any ak wr).mono ?_
  rintro e w' ⟨rfl, rfl⟩
  cases hA : num ak
  · have hno : decOk l = false := by rw [HD.out, hA]
    have HNO := Lib.hid hno
    clear hno
    go_wp2_with (first
      | (refine wpList_store_row rfl 28 (.tmp 2) (.tmp 86) rfl w.heap.size noPkt rfl rfl 28 _ D10.out.t (by kernel_rfl) rfl (by simp [noPkt, Note.packet, noNote, Value.oneCell']) ?_))
    (try simp only [Exit.inBlock, Exit.then])
    refine bodyPost_ret (results_cell_row2 (P := Tryd.prog) (fn := Tryd.f20) rfl _ _ w.heap.size 28 noPkt (0, 0) _ rfl (setRow_heap _ _ _ _ _ _ D10.out.t) Tryd.underlying28 rfl (by kernel_rfl)) rfl ?_
    exact dec_fail HNO.out D10.out.r.st D10.out.newT
  have hyes : decOk l = true := by rw [HD.out, hA]
  have HYES := Lib.hid (HY.out hyes)
  clear hyes HY
  go_wp2_with (first
    | (refine wpList_load_is 28 (.tmp 5) rfl rfl rfl LP.out ?_)
    | (refine wpList_store_row rfl 28 (.tmp 2) (.tmp 87) rfl w.heap.size (n.packet ep sq ak (.slice bo n.body.length bc)) rfl rfl 28 _ D10.out.t (by kernel_rfl) rfl (by simp [Note.packet, Value.oneCell']) ?_))
  (try simp only [Exit.inBlock, Exit.then])
  refine bodyPost_ret (results_cell_row2 (P := Tryd.prog) (fn := Tryd.f20) rfl _ _ w.heap.size 28 (n.packet ep sq ak (.slice bo n.body.length bc)) (0, 0) _ rfl (setRow_heap _ _ _ _ _ _ D10.out.t) Tryd.underlying28 rfl (by kernel_rfl)) rfl ?_
  obtain ⟨e1, e2, e3, e4, e5⟩ := HYES.out
  rw [e1, e2, e3, e4, e5]
  exact ⟨bo, bc, rfl, B10.out.step (step_setRow (S := fun k => k = w.heap.size) (Step.refl _ _) (fun _ => rfl) _) (fun k hk e => NL.out (e ▸ hk)), step_setRow D10.out.r.st (fun hh => by omega) _⟩
end Go.Proofs.YtkboghhmldokiaaDoor
