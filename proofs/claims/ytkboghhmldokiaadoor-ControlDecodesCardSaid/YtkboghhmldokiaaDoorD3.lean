/- Decode's closures. -/
import Derived.Test.YtkboghhmldokiaaDoorD2
namespace Go.Proofs.YtkboghhmldokiaaDoor
open Go.RowKit Go.Gm

theorem goes_copy {P : Program} {ops : Array Oper} {o : Oper} {a : Act} {w : World} {K : Act → World → Prop} {Q : Exit → Act → World → Prop} {E : Prop} (hg : o.guard = none) (d s : Operand) (t t' : TypeId)
    (ho : o.op = .call { callee := .builtin .copy, args := #[d, s], argTypes := #[t, t'] }) {v u r : Value} {w' : World} (hd : a.eval d = v) (hs : a.eval s = u)
    (hr : (Builtin.copy_ #[t, t'] o.type #[v, u]).run P w = .ok r w') (hK : K (a.put o.dst r) w') : if Region.wanted o (yielded ops a.tmps) = true then Oper.wp P o a w K Q else E := by
  rw [if_pos (by simp [Region.wanted, hg])]
  unfold Oper.wp execOp
  simp only [ho, resolve, invoke, builtin, Sem.run_bind, Sem.run_pure, Result.andThen_ok, List.map_toArray, List.map_cons, List.map_nil, hd, hs, hr]
  exact hK

theorem step_setRow {S : Nat → Prop} {a w : World} (h : Step S a w) {g : Nat} (hg : g < a.heap.size → S g) (cs : Array Value) : Step S a (w.setRow g cs) :=
  ⟨h.os, h.tape, h.output, by rw [setRow_size]; exact h.size, fun k hk hn => (setRow_other w g k cs (fun e => hn (by subst e; exact hg hk))).trans (h.block k hk hn)⟩
def noNote : Note := ⟨0, 0, 0, 0, 0, 0, 0, 0, 0, 0, []⟩
def noPkt : Array Value := noNote.packet 0 0 0 (.slice none 0 0)
/-- While bytes are decoded. -/
structure Dc (w0 w : World) (T V P N g : Nat) (ep sq ak : Int) (n : Note) (bv : Value) (s : Rs) : Prop where
  tab : HasAt 0 w
  v : w.heap[V]? = some (.cells #[.pointer (some ⟨g, 0, none⟩)] 59 (0, 0))
  m : w.heap[N]? = some (.cells #[.pointer (some ⟨P, 3, none⟩)] 64 (0, 0))
  p : w.heap[P]? = some (.cells (n.packet ep sq ak bv) 28 (0, 0))
  t : w.heap[T]? = some (.cells noPkt 28 (0, 0))
  ne : T ≠ P
  newP : w0.heap.size ≤ P
  newT : w0.heap.size ≤ T
  pos : 0 < w0.heap.size
  r : Rd w0 w g s
section
variable {w0 w w' : World} {T V P N g : Nat} {ep sq ak : Int} {n : Note} {bv : Value} {s s' : Rs}
theorem Dc.still (h : Dc w0 w T V P N g ep sq ak n bv s) (hs : Step None w w') : Dc w0 w' T V P N g ep sq ak n bv s :=
  ⟨h.tab.still hs, hs.blk h.v (fun s => s.elim), hs.blk h.m (fun s => s.elim), hs.blk h.p (fun s => s.elim), hs.blk h.t (fun s => s.elim), h.ne, h.newP, h.newT, h.pos, h.r.still hs⟩
theorem Dc.took (h : Dc w0 w T V P N g ep sq ak n bv s) (hs : Step (fun k => k = g) w w') (hr : Rd w0 w' g s') : Dc w0 w' T V P N g ep sq ak n bv s' := by
  obtain ⟨rv, hg, -⟩ := h.r.at_
  exact ⟨h.tab.step hs (fun e => by have := h.r.new; have := h.pos; omega), hs.blk h.v (blk_ne h.v hg (by decide)), hs.blk h.m (blk_ne h.m hg (by decide)), hs.blk h.p (blk_ne h.p hg (by decide)), hs.blk h.t (blk_ne h.t hg (by decide)), h.ne, h.newP, h.newT, h.pos, hr⟩
theorem Dc.put (h : Dc w0 w T V P N g ep sq ak n bv s) (i : Nat) (u : Value) {n' : Note} {bv' : Value} (e : (n.packet ep sq ak bv).setIfInBounds i u = n'.packet ep sq ak bv') : Dc w0 (w.setCell ⟨P, i, none⟩ u) T V P N g ep sq ak n' bv' s ∧ Step (fun k => k = P) w (w.setCell ⟨P, i, none⟩ u) := by
  have hs : Step (fun k => k = P) w (w.setCell ⟨P, i, none⟩ u) := Step.setCell (S := fun k => k = P) (Step.refl _ w) (p := ⟨P, i, none⟩) (fun _ => rfl) u
  obtain ⟨rv, hg, -⟩ := h.r.at_
  exact ⟨⟨h.tab.step hs (fun e => by have := h.newP; have := h.pos; omega), hs.blk h.v (blk_ne h.v h.p (by decide)), hs.blk h.m (blk_ne h.m h.p (by decide)), by rw [blk_set h.p i u, e], hs.blk h.t h.ne, h.ne, h.newP, h.newT, h.pos, h.r.beside hs h.newP (blk_ne hg h.p (by decide))⟩, hs⟩
theorem Dc.row (h : Dc w0 w T V P N g ep sq ak n bv s) {n' : Note} {bv' : Value} : Dc w0 (w.setRow P (n'.packet ep sq ak bv')) T V P N g ep sq ak n' bv' s ∧ Step (fun k => k = P) w (w.setRow P (n'.packet ep sq ak bv')) := by
  have hs : Step (fun k => k = P) w (w.setRow P (n'.packet ep sq ak bv')) := step_setRow (S := fun k => k = P) (Step.refl _ w) (fun _ => rfl) _
  obtain ⟨rv, hg, -⟩ := h.r.at_
  exact ⟨⟨h.tab.step hs (fun e => by have := h.newP; have := h.pos; omega), hs.blk h.v (blk_ne h.v h.p (by decide)), hs.blk h.m (blk_ne h.m h.p (by decide)), setRow_heap _ _ _ _ _ _ h.p, hs.blk h.t h.ne, h.ne, h.newP, h.newT, h.pos, h.r.beside hs h.newP (blk_ne hg h.p (by decide))⟩, hs⟩
theorem Dc.beside {S : Nat → Prop} (h : Dc w0 w T V P N g ep sq ak n bv s) (hs : Step S w w') (hS : ∀ k, S k → w0.heap.size ≤ k) (h1 : ¬ S V) (h2 : ¬ S N) (h3 : ¬ S P) (h4 : ¬ S T) (h5 : ¬ S g) : Dc w0 w' T V P N g ep sq ak n bv s := by
  obtain ⟨rv, hg, sv⟩ := h.r.at_
  exact ⟨h.tab.step hs (fun e => by have := hS 0 e; have := h.pos; omega), hs.blk h.v h1, hs.blk h.m h2, hs.blk h.p h3, hs.blk h.t h4, h.ne, h.newP, h.newT, h.pos, ⟨⟨rv, hs.blk hg h5, sv⟩, h.r.st.trans hs fun i hi hk => by have := hS i hk; omega, h.r.new, h.r.small⟩⟩
theorem Dc.see (h : Dc w0 w T V P N g ep sq ak n bv s) : w.cell? ⟨V, 0, none⟩ = some (.pointer (some ⟨g, 0, none⟩)) ∧ w.cell? ⟨N, 0, none⟩ = some (.pointer (some ⟨P, 3, none⟩)) := ⟨by rw [blk_cell h.v]; rfl, by rw [blk_cell h.m]; rfl⟩
end

theorem vlan_any {w0 : World} {T V P N g : Nat} {ep sq ak : Int} {n : Note} {bv : Value} {s : Rs} (w : World) (h : Dc w0 w T V P N g ep sq ak n bv s) :
    Calls Tryd.prog 47 #[.pointer (some ⟨V, 0, none⟩), .pointer (some ⟨N, 0, none⟩)] w fun e w' => e = .returned (.tuple #[]) ∧ Dc w0 w' T V P N g ep sq ak { n with vlan := (shortP s).1 } bv (shortP s).2 := by
  have H := Lib.hid (h.still (Step.refl None w).drew)
  have T := Lib.hid (short_any' g s w.drew (h.still (Step.refl None w).drew).r)
  clear h
  go_enter Tryd.func47, Tryd.ntmps47
  go_wp2_with fail
  refine wp_region_plan (fun w' => w'.cell? ⟨V, 0, none⟩ = some (.pointer (some ⟨g, 0, none⟩)) ∧ w'.cell? ⟨N, 0, none⟩ = some (.pointer (some ⟨P, 3, none⟩))) (.take 0 (.take 1 (.alt 2 (.take 3 (.take 4 (.last 5))) .none))) _
    (by simp only [Plan.map, opOf, List.getElem?_toArray, List.getElem?_cons_zero, List.getElem?_cons_succ, Option.getD_some]; rfl) (by kernel_rfl) (by kernel_rfl) (by kernel_rfl) (by decide) (by intro c a d v w; cases d <;> exact fun h => h) H.out.see ?_
  repeat (first | (refine wpPlan.taken (by rfl) (fun w' hS' => run_load_op rfl rfl hS'.1) ?_; simp only [Act.put, List.setIfInBounds_toArray, List.set_cons_zero, List.set_cons_succ]) | (refine wpPlan.taken (by rfl) (fun w' hS' => run_load_op rfl rfl hS'.2) ?_; simp only [Act.put, List.setIfInBounds_toArray, List.set_cons_zero, List.set_cons_succ]) | (refine wpPlan.taken (by rfl) (by intro w' hS'; (try dsimp only at hS'); go_split_ands; go_simp; try with_reducible rfl) ?_; simp only [Act.put, List.setIfInBounds_toArray, List.set_cons_zero, List.set_cons_succ]) | (refine wpPlan.passed (by rfl) ?_; simp only [Act.put, List.setIfInBounds_toArray, List.set_cons_zero, List.set_cons_succ]))
  refine wpPlan.runs fun K' hK => ?_
  go_simp
  refine T.out.mono ?_
  rintro e w1 ⟨rfl, rd, st⟩
  have H1 := Lib.hid (H.out.took st rd)
  refine hK.out _ _ H1.out.see ?_
  clear hK K' rd st T
  repeat (first | (refine wpPlan.taken (by rfl) (fun w' hS' => run_load_op rfl rfl hS'.1) ?_; simp only [Act.put, List.setIfInBounds_toArray, List.set_cons_zero, List.set_cons_succ]) | (refine wpPlan.taken (by rfl) (fun w' hS' => run_load_op rfl rfl hS'.2) ?_; simp only [Act.put, List.setIfInBounds_toArray, List.set_cons_zero, List.set_cons_succ]) | (refine wpPlan.taken (by rfl) (by intro w' hS'; (try dsimp only at hS'); go_split_ands; go_simp; try with_reducible rfl) ?_; simp only [Act.put, List.setIfInBounds_toArray, List.set_cons_zero, List.set_cons_succ]) | (refine wpPlan.passed (by rfl) ?_; simp only [Act.put, List.setIfInBounds_toArray, List.set_cons_zero, List.set_cons_succ]))
  have h2 := (H1.out.put 4 (.int .i64 (shortP s).1) (n' := { n with vlan := (shortP s).1 }) (bv' := bv) rfl).1
  have c2 := blk_cell H1.out.p 4
  have f2 := blk_frozen H1.out.p 4
  simp only [Note.packet, List.getElem?_toArray, List.getElem?_cons_zero, List.getElem?_cons_succ] at c2
  have H2 := Lib.hid h2
  refine wpPlan.ends fun K' hK => ?_
  go_simp
  refine hK.out _ _ ?_
  clear hK K'
  go_wp2_with fail
  go_end0
  exact ⟨rfl, H2.out⟩

theorem port_any {w0 : World} {T V P N g : Nat} {ep sq ak : Int} {n : Note} {bv : Value} {s : Rs} (w : World) (h : Dc w0 w T V P N g ep sq ak n bv s) :
    Calls Tryd.prog 49 #[.pointer (some ⟨V, 0, none⟩), .pointer (some ⟨N, 0, none⟩)] w fun e w' => e = .returned (.tuple #[]) ∧ Dc w0 w' T V P N g ep sq ak { n with port := (shortP s).1 } bv (shortP s).2 := by
  have H := Lib.hid (h.still (Step.refl None w).drew)
  have T := Lib.hid (short_any' g s w.drew (h.still (Step.refl None w).drew).r)
  clear h
  go_enter Tryd.func49, Tryd.ntmps49
  go_wp2_with fail
  refine wp_region_plan (fun w' => w'.cell? ⟨V, 0, none⟩ = some (.pointer (some ⟨g, 0, none⟩)) ∧ w'.cell? ⟨N, 0, none⟩ = some (.pointer (some ⟨P, 3, none⟩))) (.take 0 (.take 1 (.alt 2 (.take 3 (.take 4 (.last 5))) .none))) _
    (by simp only [Plan.map, opOf, List.getElem?_toArray, List.getElem?_cons_zero, List.getElem?_cons_succ, Option.getD_some]; rfl) (by kernel_rfl) (by kernel_rfl) (by kernel_rfl) (by decide) (by intro c a d v w; cases d <;> exact fun h => h) H.out.see ?_
  repeat (first | (refine wpPlan.taken (by rfl) (fun w' hS' => run_load_op rfl rfl hS'.1) ?_; simp only [Act.put, List.setIfInBounds_toArray, List.set_cons_zero, List.set_cons_succ]) | (refine wpPlan.taken (by rfl) (fun w' hS' => run_load_op rfl rfl hS'.2) ?_; simp only [Act.put, List.setIfInBounds_toArray, List.set_cons_zero, List.set_cons_succ]) | (refine wpPlan.taken (by rfl) (by intro w' hS'; (try dsimp only at hS'); go_split_ands; go_simp; try with_reducible rfl) ?_; simp only [Act.put, List.setIfInBounds_toArray, List.set_cons_zero, List.set_cons_succ]) | (refine wpPlan.passed (by rfl) ?_; simp only [Act.put, List.setIfInBounds_toArray, List.set_cons_zero, List.set_cons_succ]))
  refine wpPlan.runs fun K' hK => ?_
  go_simp
  refine T.out.mono ?_
  rintro e w1 ⟨rfl, rd, st⟩
  have H1 := Lib.hid (H.out.took st rd)
  refine hK.out _ _ H1.out.see ?_
  clear hK K' rd st T
  repeat (first | (refine wpPlan.taken (by rfl) (fun w' hS' => run_load_op rfl rfl hS'.1) ?_; simp only [Act.put, List.setIfInBounds_toArray, List.set_cons_zero, List.set_cons_succ]) | (refine wpPlan.taken (by rfl) (fun w' hS' => run_load_op rfl rfl hS'.2) ?_; simp only [Act.put, List.setIfInBounds_toArray, List.set_cons_zero, List.set_cons_succ]) | (refine wpPlan.taken (by rfl) (by intro w' hS'; (try dsimp only at hS'); go_split_ands; go_simp; try with_reducible rfl) ?_; simp only [Act.put, List.setIfInBounds_toArray, List.set_cons_zero, List.set_cons_succ]) | (refine wpPlan.passed (by rfl) ?_; simp only [Act.put, List.setIfInBounds_toArray, List.set_cons_zero, List.set_cons_succ]))
  have h2 := (H1.out.put 11 (.int .i64 (shortP s).1) (n' := { n with port := (shortP s).1 }) (bv' := bv) rfl).1
  have c2 := blk_cell H1.out.p 11
  have f2 := blk_frozen H1.out.p 11
  simp only [Note.packet, List.getElem?_toArray, List.getElem?_cons_zero, List.getElem?_cons_succ] at c2
  have H2 := Lib.hid h2
  refine wpPlan.ends fun K' hK => ?_
  go_simp
  refine hK.out _ _ ?_
  clear hK K'
  go_wp2_with fail
  go_end0
  exact ⟨rfl, H2.out⟩

theorem state_any {w0 : World} {T V P N g : Nat} {ep sq ak : Int} {n : Note} {bv : Value} {s : Rs} (w : World) (h : Dc w0 w T V P N g ep sq ak n bv s) :
    Calls Tryd.prog 50 #[.pointer (some ⟨V, 0, none⟩), .pointer (some ⟨N, 0, none⟩)] w fun e w' => e = .returned (.tuple #[]) ∧ Dc w0 w' T V P N g ep sq ak { n with state := (byteP s).1 } bv (byteP s).2 := by
  have H := Lib.hid (h.still (Step.refl None w).drew)
  have T := Lib.hid (take_any g 1 s w.drew (h.still (Step.refl None w).drew).r (by omega))
  have hl := takeP_len 1 s
  have hsm := takeP_small (n := 1) h.r.small
  have HS := Lib.hid (show byteP s = ((takeP 1 s).1.getD 0 0, (takeP 1 s).2) from rfl)
  generalize takeP 1 s = t at *
  obtain ⟨b, s2⟩ := t
  match b, hl with
  | [x], _ =>
  have b0 := hsm x (by simp)
  have e1 : IntKind.i64.wrap x = x := IntWalk.i64_in _ (by omega)
  clear b0 hsm hl
  clear h
  go_enter Tryd.func50, Tryd.ntmps50
  go_wp2_with fail
  refine wp_region_plan (fun w' => w'.cell? ⟨V, 0, none⟩ = some (.pointer (some ⟨g, 0, none⟩)) ∧ w'.cell? ⟨N, 0, none⟩ = some (.pointer (some ⟨P, 3, none⟩))) (.take 0 (.take 1 (.alt 2 (.take 3 (.alt 4 (.take 5 (.take 6 (.take 7 (.last 8)))) .none)) .none))) _
    (by simp only [Plan.map, opOf, List.getElem?_toArray, List.getElem?_cons_zero, List.getElem?_cons_succ, Option.getD_some]; rfl) (by kernel_rfl) (by kernel_rfl) (by kernel_rfl) (by decide) (by intro c a d v w; cases d <;> exact fun h => h) H.out.see ?_
  repeat (first | (refine wpPlan.taken (by rfl) (fun w' hS' => run_load_op rfl rfl hS'.1) ?_; simp only [Act.put, List.setIfInBounds_toArray, List.set_cons_zero, List.set_cons_succ]) | (refine wpPlan.taken (by rfl) (fun w' hS' => run_load_op rfl rfl hS'.2) ?_; simp only [Act.put, List.setIfInBounds_toArray, List.set_cons_zero, List.set_cons_succ]) | (refine wpPlan.taken (by rfl) (by intro w' hS'; (try dsimp only at hS'); go_split_ands; go_simp; try with_reducible rfl) ?_; simp only [Act.put, List.setIfInBounds_toArray, List.set_cons_zero, List.set_cons_succ]) | (refine wpPlan.passed (by rfl) ?_; simp only [Act.put, List.setIfInBounds_toArray, List.set_cons_zero, List.set_cons_succ]))
  refine wpPlan.runs fun K' hK => ?_
  go_simp
  refine T.out.mono ?_
  rintro e w1 ⟨u, rfl, su, rd, st, -⟩
  have H1 := Lib.hid (H.out.took st rd)
  obtain ⟨b, off, cap, rfl, hc⟩ := su.at_ (by simp)
  have c1 := hc 0 x rfl
  rw [Nat.add_zero] at c1
  refine hK.out _ _ H1.out.see ?_
  clear hK K' rd st T su hc
  repeat (first | (refine wpPlan.taken (by rfl) (fun w' hS' => run_load_op rfl rfl hS'.1) ?_; simp only [Act.put, List.setIfInBounds_toArray, List.set_cons_zero, List.set_cons_succ]) | (refine wpPlan.taken (by rfl) (fun w' hS' => run_load_op rfl rfl hS'.2) ?_; simp only [Act.put, List.setIfInBounds_toArray, List.set_cons_zero, List.set_cons_succ]) | (refine wpPlan.taken (by rfl) (by intro w' hS'; (try dsimp only at hS'); go_split_ands; go_simp; try with_reducible rfl) ?_; simp only [Act.put, List.setIfInBounds_toArray, List.set_cons_zero, List.set_cons_succ]) | (refine wpPlan.passed (by rfl) ?_; simp only [Act.put, List.setIfInBounds_toArray, List.set_cons_zero, List.set_cons_succ]))
  refine wpPlan.runs fun K' hK => ?_
  go_simp
  refine hK.out _ _ H1.out.see ?_
  clear hK K'
  repeat (first | (refine wpPlan.taken (by rfl) (fun w' hS' => run_load_op rfl rfl hS'.1) ?_; simp only [Act.put, List.setIfInBounds_toArray, List.set_cons_zero, List.set_cons_succ]) | (refine wpPlan.taken (by rfl) (fun w' hS' => run_load_op rfl rfl hS'.2) ?_; simp only [Act.put, List.setIfInBounds_toArray, List.set_cons_zero, List.set_cons_succ]) | (refine wpPlan.taken (by rfl) (by intro w' hS'; (try dsimp only at hS'); go_split_ands; go_simp; try with_reducible rfl) ?_; simp only [Act.put, List.setIfInBounds_toArray, List.set_cons_zero, List.set_cons_succ]) | (refine wpPlan.passed (by rfl) ?_; simp only [Act.put, List.setIfInBounds_toArray, List.set_cons_zero, List.set_cons_succ]))
  have h2 := (H1.out.put 12 (.int .i64 x) (n' := { n with state := x }) (bv' := bv) rfl).1
  have c2 := blk_cell H1.out.p 12
  have f2 := blk_frozen H1.out.p 12
  simp only [Note.packet, List.getElem?_toArray, List.getElem?_cons_zero, List.getElem?_cons_succ] at c2
  have H2 := Lib.hid h2
  refine wpPlan.ends fun K' hK => ?_
  go_simp
  refine hK.out _ _ ?_
  clear hK K'
  go_wp2_with fail
  go_end0
  rw [HS.out]
  exact ⟨rfl, H2.out⟩

def Note.setMac (n : Note) (m : List Int) : Note := { n with m0 := m.getD 0 0, m1 := m.getD 1 0, m2 := m.getD 2 0, m3 := m.getD 3 0, m4 := m.getD 4 0, m5 := m.getD 5 0 }

theorem mac_any {w0 : World} {T V P N g : Nat} {ep sq ak : Int} {n : Note} {bv : Value} {s : Rs} (w : World) (h : Dc w0 w T V P N g ep sq ak n bv s) :
    Calls Tryd.prog 48 #[.pointer (some ⟨N, 0, none⟩), .pointer (some ⟨V, 0, none⟩)] w fun e w' => e = .returned (.tuple #[]) ∧ Dc w0 w' T V P N g ep sq ak (n.setMac (takeP 6 s).1) bv (takeP 6 s).2 := by
  have H := Lib.hid (h.still (Step.refl None w).drew)
  have T6 := Lib.hid (take_any g 6 s w.drew (h.still (Step.refl None w).drew).r (by omega))
  have hl := takeP_len 6 s
  have HW0 := Lib.hid (h.still (Step.refl None w).drew).r.st
  generalize takeP 6 s = t at *
  obtain ⟨b, s2⟩ := t
  match b, hl with
  | [x0, x1, x2, x3, x4, x5], _ =>
  clear hl
  clear h
  go_enter Tryd.func48, Tryd.ntmps48
  go_wp2_with fail
  refine wp_region_plan (fun w' => w'.cell? ⟨V, 0, none⟩ = some (.pointer (some ⟨g, 0, none⟩)) ∧ w'.cell? ⟨N, 0, none⟩ = some (.pointer (some ⟨P, 3, none⟩))) (.take 0 (.take 1 (.take 2 (.take 3 (.take 4 (.alt 5 (.alt 6 .done .none) .none)))))) _
    (by simp only [Plan.map, opOf, List.getElem?_toArray, List.getElem?_cons_zero, List.getElem?_cons_succ, Option.getD_some]; rfl) (by kernel_rfl) (by kernel_rfl) (by kernel_rfl) (by decide) (by intro c a d v w; cases d <;> exact fun h => h) H.out.see ?_
  repeat (first | (refine wpPlan.taken (by rfl) (fun w' hS' => run_load_op rfl rfl hS'.1) ?_; simp only [Act.put, List.setIfInBounds_toArray, List.set_cons_zero, List.set_cons_succ]) | (refine wpPlan.taken (by rfl) (fun w' hS' => run_load_op rfl rfl hS'.2) ?_; simp only [Act.put, List.setIfInBounds_toArray, List.set_cons_zero, List.set_cons_succ]) | (refine wpPlan.taken (by rfl) (by intro w' hS'; (try dsimp only at hS'); go_split_ands; go_simp; try with_reducible rfl) ?_; simp only [Act.put, List.setIfInBounds_toArray, List.set_cons_zero, List.set_cons_succ]) | (refine wpPlan.passed (by rfl) ?_; simp only [Act.put, List.setIfInBounds_toArray, List.set_cons_zero, List.set_cons_succ]))
  refine wpPlan.runs fun K' hK => ?_
  go_simp
  refine T6.out.mono ?_
  rintro e w1 ⟨u, rfl, su, rd, st, -⟩
  have h1 := H.out.took st rd
  have H1 := Lib.hid h1
  obtain ⟨b, off, cap, rfl, hc⟩ := su.at_ (by simp)
  have src : ∀ j y, ([x0, x1, x2, x3, x4, x5].map (Value.int .u8))[j]? = some y → w1.cell? ((⟨b, off, none⟩ : Addr).add j) = some y := fun j y hj => by
    rw [List.getElem?_map] at hj
    obtain ⟨z, hz, rfl⟩ := Option.map_eq_some_iff.1 hj
    rw [add_plain]
    exact hc j z hz
  have run := fun ty => run_copy_row (P := Tryd.prog) w1 24 24 ty 5 P 5 6 6 ⟨b, off, none⟩ 6 cap _ 28 ([x0, x1, x2, x3, x4, x5].map (Value.int .u8)) Tryd.underlying24 (by kernel_rfl) h1.p rfl src (show 5 + 6 ≤ 14 from by decide) (nums_one .u8 _)
  have RUN := Lib.hid run
  refine hK.out _ _ H1.out.see ?_
  clear hK K' rd st T6 su hc run src h1
  refine wpPlan.runs fun K' hK => ?_
  refine goes_copy (by rfl) (.tmp 5) (.tmp 7) 24 24 (by rfl) (by rfl) (by rfl) (RUN.out _) ?_
  have H2 := Lib.hid (H1.out.row (n' := n.setMac [x0, x1, x2, x3, x4, x5]) (bv' := bv)).1
  refine hK.out _ _ H2.out.see ?_
  clear hK K'
  refine wpPlan.done ?_
  go_wp2_with fail
  go_end0
  exact ⟨rfl, H2.out⟩

theorem Seg.form {w : World} {v : Value} {l : List Int} (h : Seg w v l) : ∃ ao cap, v = .slice ao l.length cap := by
  obtain ⟨ao, cap, e, -⟩ := h
  exact ⟨ao, cap, e⟩
theorem RG_ {w0 w : World} {g : Nat} {s : Rs} (h : Rd w0 w g s) : ∃ rv, w.heap[g]? = some (.cells rv 61 (0, 0)) := by
  obtain ⟨v, hv, -⟩ := h.at_
  exact ⟨_, hv⟩
theorem RG {w0 w : World} {T V P N g : Nat} {ep sq ak : Int} {n : Note} {bv : Value} {s : Rs} (h : Dc w0 w T V P N g ep sq ak n bv s) : w.heap[g]? = some (.cells (RG_ h.r).choose 61 (0, 0)) := (RG_ h.r).choose_spec

theorem bodyc_any {w0 : World} {T V P N g : Nat} {ep sq ak : Int} {n : Note} {bv : Value} {s : Rs} (w : World) (h : Dc w0 w T V P N g ep sq ak n bv s) :
    Calls Tryd.prog 51 #[.pointer (some ⟨V, 0, none⟩), .pointer (some ⟨N, 0, none⟩)] w fun e w' => e = .returned (.tuple #[]) ∧ ∃ bo bc, Dc w0 w' T V P N g ep sq ak { n with body := (bodyP s).1 } (.slice bo (bodyP s).1.length bc) (bodyP s).2 ∧ Bytes w' (.slice bo (bodyP s).1.length bc) (bodyP s).1 ∧ ¬ Leads (.slice bo (bodyP s).1.length bc) T := by
  have H := Lib.hid (h.still (Step.refl None w).drew)
  have T2 := Lib.hid (fun w1 (h1 : Dc w0 w1 T V P N g ep sq ak n bv s) => short_any' g s w1 h1.r)
  have hr := shortP_rng h.r.small
  have HS := Lib.hid (show bodyP s = takeP (shortP s).1.toNat (shortP s).2 from rfl)
  obtain ⟨m, hm⟩ : ∃ m : Nat, (shortP s).1 = m := ⟨(shortP s).1.toNat, by omega⟩
  rw [hm] at hr
  have HM := Lib.hid (show m < 65536 by omega)
  have T6 := Lib.hid (fun w1 (h1 : Dc w0 w1 T V P N g ep sq ak n bv (shortP s).2) => take_any g m (shortP s).2 w1 h1.r (by have := HM.out; omega))
  rw [hm] at T2 HS
  rw [show ((m : Int)).toNat = m by omega] at HS
  have HL := Lib.hid (takeP_len m (shortP s).2)
  clear hr hm
  clear h
  go_enter Tryd.func51, Tryd.ntmps51
  go_wp2_with fail
  refine wp_region_plan (fun w' => w'.cell? ⟨V, 0, none⟩ = some (.pointer (some ⟨g, 0, none⟩)) ∧ w'.cell? ⟨N, 0, none⟩ = some (.pointer (some ⟨P, 3, none⟩))) (.take 0 (.take 2 (.take 3 (.alt 1 (.alt 4 (.alt 5 (.alt 6 (.take 7 (.take 8 (.last 9))) .none) .none) .none) (.alt 4 (.alt 1 (.alt 5 (.alt 6 (.take 7 (.take 8 (.last 9))) .none) .none) (.alt 5 (.alt 1 (.alt 6 (.take 7 (.take 8 (.last 9))) .none) .none) .none)) .none))))) _
    (by simp only [Plan.map, opOf, List.getElem?_toArray, List.getElem?_cons_zero, List.getElem?_cons_succ, Option.getD_some]; rfl) (by kernel_rfl) (by kernel_rfl) (by kernel_rfl) (by decide) (by intro c a d v w; cases d <;> exact fun h => h) H.out.see ?_
  repeat (first | (refine wpPlan.taken (by rfl) (fun w' hS' => run_load_op rfl rfl hS'.1) ?_; simp only [Act.put, List.setIfInBounds_toArray, List.set_cons_zero, List.set_cons_succ]) | (refine wpPlan.taken (by rfl) (fun w' hS' => run_load_op rfl rfl hS'.2) ?_; simp only [Act.put, List.setIfInBounds_toArray, List.set_cons_zero, List.set_cons_succ]) | (refine wpPlan.taken (by rfl) (by intro w' hS'; (try dsimp only at hS'); go_split_ands; go_simp; try with_reducible rfl) ?_; simp only [Act.put, List.setIfInBounds_toArray, List.set_cons_zero, List.set_cons_succ]) | (refine wpPlan.passed (by rfl) ?_; simp only [Act.put, List.setIfInBounds_toArray, List.set_cons_zero, List.set_cons_succ]))
  refine wpPlan.parts ?_ ?_
  · refine wpPlan.runs fun K' hK => ?_
    go_simp
    have sa := (Step.refl None w.drew).alloc (.cells #[] 5)
    have HE := Lib.hid (H.out.still sa)
    have BE := Lib.hid (heap_alloc_new w.drew (.cells #[] 5))
    have QN := Lib.hid (H.out.r.st.size)
    skip
    refine hK.out _ _ HE.out.see ?_
    clear hK K' sa
    refine wpPlan.runs fun K' hK => ?_
    go_simp
    refine (T2.out _ HE.out).mono ?_
    rintro e w1 ⟨rfl, rd, st⟩
    have HA := Lib.hid (HE.out.took st rd)
    have BA := Lib.hid (st.blk BE.out (blk_ne BE.out (RG HE.out) (by decide)))
    refine hK.out _ _ HA.out.see ?_
    clear hK K' rd st
    refine wpPlan.runs fun K' hK => ?_
    go_simp
    refine (T6.out _ HA.out).mono ?_
    rintro e w2 ⟨u, rfl, su, rd, st, hne⟩
    have HC := Lib.hid (HA.out.took st rd)
    have BC := Lib.hid (st.blk BA.out (blk_ne BA.out (RG HA.out) (by decide)))
    have SU := Lib.hid su
    obtain ⟨uo, uc, eu⟩ := su.form
    subst eu
    refine hK.out _ _ HC.out.see ?_
    clear hK K' rd st su hne
    refine wpPlan.runs fun K' hK => ?_
    refine step_append_row T24 (by rfl) (.tmp 3) (.tmp 7) (by rfl) (by rfl) (Row.ofBlock (n := 0) (cap := 0) BC.out (Nat.le_refl _) (by simp [maxLen]) (by simp)) (by rfl) ((SU.out.bytes (by rw [HL.out]; have := HM.out; omega)).src Tryd.underlying24) (by rw [HL.out]; have := HM.out; simp [maxLen]; omega) (by rw [HL.out]; have := HM.out; simp; omega) ?_
    intro v3 w3 hr3 hs3 hl3
    have ST3 : Step (fun k => k = w.drew.heap.size) _ w3 := hs3.mono fun k _ hk => by simp [Leads, Value.ownBlock] at hk; exact hk.symm
    have HF := Lib.hid (HC.out.beside ST3 (fun k hk => by rw [hk]; exact QN.out) (blk_ne HC.out.v BC.out (by decide)) (blk_ne HC.out.m BC.out (by decide)) (blk_ne HC.out.p BC.out (by decide)) (blk_ne HC.out.t BC.out (by decide)) (blk_ne (RG HC.out) BC.out (by decide)))
    have R3 := Lib.hid hr3
    refine hK.out _ _ HF.out.see ?_
    clear hK K' hr3 hs3 hl3 ST3
    repeat (first | (refine wpPlan.taken (by rfl) (fun w' hS' => run_load_op rfl rfl hS'.1) ?_; simp only [Act.put, List.setIfInBounds_toArray, List.set_cons_zero, List.set_cons_succ]) | (refine wpPlan.taken (by rfl) (fun w' hS' => run_load_op rfl rfl hS'.2) ?_; simp only [Act.put, List.setIfInBounds_toArray, List.set_cons_zero, List.set_cons_succ]) | (refine wpPlan.taken (by rfl) (by intro w' hS'; (try dsimp only at hS'); go_split_ands; go_simp; try with_reducible rfl) ?_; simp only [Act.put, List.setIfInBounds_toArray, List.set_cons_zero, List.set_cons_succ]) | (refine wpPlan.passed (by rfl) ?_; simp only [Act.put, List.setIfInBounds_toArray, List.set_cons_zero, List.set_cons_succ]))
    refine wpPlan.ends fun K' hK => ?_
    obtain ⟨vo, vc, ev, -, -⟩ := R3.out.form
    have hlen : 0 + (takeP m (shortP s).2).1.length = (takeP m (shortP s).2).1.length := Nat.zero_add _
    rw [hlen] at ev R3
    subst ev
    have hput := HF.out.put 13 (.slice vo (takeP m (shortP s).2).1.length vc) (n' := { n with body := (takeP m (shortP s).2).1 }) (bv' := .slice vo (takeP m (shortP s).2).1.length vc) rfl
    have hby := (Row.bytes (bs := (takeP m (shortP s).2).1) (by simpa using R3.out) (by rw [HL.out]; have := HM.out; omega)).step hput.2 (fun k hk e => R3.out.ne HF.out.p (by decide) (by rw [← e]; exact hk))
    have H9 := Lib.hid hput.1
    have L9 := Lib.hid (R3.out.ne HF.out.t (by decide))
    have B9 := Lib.hid hby
    have c2 := blk_cell HF.out.p 13
    have f2 := blk_frozen HF.out.p 13
    simp only [Note.packet, List.getElem?_toArray, List.getElem?_cons_zero, List.getElem?_cons_succ] at c2
    clear hput hby hlen
    go_simp
    refine hK.out _ _ ?_
    clear hK K'
    go_wp2_with fail
    go_end0
    rw [HS.out]
    exact ⟨rfl, _, _, H9.out, B9.out, L9.out⟩
  · skip
    refine wpPlan.runs fun K' hK => ?_
    go_simp
    refine (T2.out _ H.out).mono ?_
    rintro e w1 ⟨rfl, rd, st⟩
    have HA := Lib.hid (H.out.took st rd)
    skip
    refine hK.out _ _ HA.out.see ?_
    clear hK K' rd st
    refine wpPlan.parts ?_ ?_
    · refine wpPlan.runs fun K' hK => ?_
      go_simp
      have sa := (Step.refl None w1).alloc (.cells #[] 5)
      have HE := Lib.hid (HA.out.still sa)
      have BE := Lib.hid (heap_alloc_new w1 (.cells #[] 5))
      have QN := Lib.hid (HA.out.r.st.size)
      skip
      refine hK.out _ _ HE.out.see ?_
      clear hK K' sa
      refine wpPlan.runs fun K' hK => ?_
      go_simp
      refine (T6.out _ HE.out).mono ?_
      rintro e w2 ⟨u, rfl, su, rd, st, hne⟩
      have HC := Lib.hid (HE.out.took st rd)
      have BC := Lib.hid (st.blk BE.out (blk_ne BE.out (RG HE.out) (by decide)))
      have SU := Lib.hid su
      obtain ⟨uo, uc, eu⟩ := su.form
      subst eu
      refine hK.out _ _ HC.out.see ?_
      clear hK K' rd st su hne
      refine wpPlan.runs fun K' hK => ?_
      refine step_append_row T24 (by rfl) (.tmp 3) (.tmp 7) (by rfl) (by rfl) (Row.ofBlock (n := 0) (cap := 0) BC.out (Nat.le_refl _) (by simp [maxLen]) (by simp)) (by rfl) ((SU.out.bytes (by rw [HL.out]; have := HM.out; omega)).src Tryd.underlying24) (by rw [HL.out]; have := HM.out; simp [maxLen]; omega) (by rw [HL.out]; have := HM.out; simp; omega) ?_
      intro v3 w3 hr3 hs3 hl3
      have ST3 : Step (fun k => k = w1.heap.size) _ w3 := hs3.mono fun k _ hk => by simp [Leads, Value.ownBlock] at hk; exact hk.symm
      have HF := Lib.hid (HC.out.beside ST3 (fun k hk => by rw [hk]; exact QN.out) (blk_ne HC.out.v BC.out (by decide)) (blk_ne HC.out.m BC.out (by decide)) (blk_ne HC.out.p BC.out (by decide)) (blk_ne HC.out.t BC.out (by decide)) (blk_ne (RG HC.out) BC.out (by decide)))
      have R3 := Lib.hid hr3
      refine hK.out _ _ HF.out.see ?_
      clear hK K' hr3 hs3 hl3 ST3
      repeat (first | (refine wpPlan.taken (by rfl) (fun w' hS' => run_load_op rfl rfl hS'.1) ?_; simp only [Act.put, List.setIfInBounds_toArray, List.set_cons_zero, List.set_cons_succ]) | (refine wpPlan.taken (by rfl) (fun w' hS' => run_load_op rfl rfl hS'.2) ?_; simp only [Act.put, List.setIfInBounds_toArray, List.set_cons_zero, List.set_cons_succ]) | (refine wpPlan.taken (by rfl) (by intro w' hS'; (try dsimp only at hS'); go_split_ands; go_simp; try with_reducible rfl) ?_; simp only [Act.put, List.setIfInBounds_toArray, List.set_cons_zero, List.set_cons_succ]) | (refine wpPlan.passed (by rfl) ?_; simp only [Act.put, List.setIfInBounds_toArray, List.set_cons_zero, List.set_cons_succ]))
      refine wpPlan.ends fun K' hK => ?_
      obtain ⟨vo, vc, ev, -, -⟩ := R3.out.form
      have hlen : 0 + (takeP m (shortP s).2).1.length = (takeP m (shortP s).2).1.length := Nat.zero_add _
      rw [hlen] at ev R3
      subst ev
      have hput := HF.out.put 13 (.slice vo (takeP m (shortP s).2).1.length vc) (n' := { n with body := (takeP m (shortP s).2).1 }) (bv' := .slice vo (takeP m (shortP s).2).1.length vc) rfl
      have hby := (Row.bytes (bs := (takeP m (shortP s).2).1) (by simpa using R3.out) (by rw [HL.out]; have := HM.out; omega)).step hput.2 (fun k hk e => R3.out.ne HF.out.p (by decide) (by rw [← e]; exact hk))
      have H9 := Lib.hid hput.1
      have L9 := Lib.hid (R3.out.ne HF.out.t (by decide))
      have B9 := Lib.hid hby
      have c2 := blk_cell HF.out.p 13
      have f2 := blk_frozen HF.out.p 13
      simp only [Note.packet, List.getElem?_toArray, List.getElem?_cons_zero, List.getElem?_cons_succ] at c2
      clear hput hby hlen
      go_simp
      refine hK.out _ _ ?_
      clear hK K'
      go_wp2_with fail
      go_end0
      rw [HS.out]
      exact ⟨rfl, _, _, H9.out, B9.out, L9.out⟩
    · skip
      refine wpPlan.runs fun K' hK => ?_
      go_simp
      refine (T6.out _ HA.out).mono ?_
      rintro e w2 ⟨u, rfl, su, rd, st, hne⟩
      have HC := Lib.hid (HA.out.took st rd)
      skip
      have SU := Lib.hid su
      obtain ⟨uo, uc, eu⟩ := su.form
      subst eu
      refine hK.out _ _ HC.out.see ?_
      clear hK K' rd st su hne
      refine wpPlan.runs fun K' hK => ?_
      go_simp
      have sa := (Step.refl None w2).alloc (.cells #[] 5)
      have HE := Lib.hid (HC.out.still sa)
      have BE := Lib.hid (heap_alloc_new w2 (.cells #[] 5))
      have QN := Lib.hid (HC.out.r.st.size)
      have SV := Lib.hid (SU.out.still sa)
      refine hK.out _ _ HE.out.see ?_
      clear hK K' sa
      refine wpPlan.runs fun K' hK => ?_
      refine step_append_row T24 (by rfl) (.tmp 3) (.tmp 7) (by rfl) (by rfl) (Row.ofBlock (n := 0) (cap := 0) BE.out (Nat.le_refl _) (by simp [maxLen]) (by simp)) (by rfl) ((SV.out.bytes (by rw [HL.out]; have := HM.out; omega)).src Tryd.underlying24) (by rw [HL.out]; have := HM.out; simp [maxLen]; omega) (by rw [HL.out]; have := HM.out; simp; omega) ?_
      intro v3 w3 hr3 hs3 hl3
      have ST3 : Step (fun k => k = w2.heap.size) _ w3 := hs3.mono fun k _ hk => by simp [Leads, Value.ownBlock] at hk; exact hk.symm
      have HF := Lib.hid (HE.out.beside ST3 (fun k hk => by rw [hk]; exact QN.out) (blk_ne HE.out.v BE.out (by decide)) (blk_ne HE.out.m BE.out (by decide)) (blk_ne HE.out.p BE.out (by decide)) (blk_ne HE.out.t BE.out (by decide)) (blk_ne (RG HE.out) BE.out (by decide)))
      have R3 := Lib.hid hr3
      refine hK.out _ _ HF.out.see ?_
      clear hK K' hr3 hs3 hl3 ST3
      repeat (first | (refine wpPlan.taken (by rfl) (fun w' hS' => run_load_op rfl rfl hS'.1) ?_; simp only [Act.put, List.setIfInBounds_toArray, List.set_cons_zero, List.set_cons_succ]) | (refine wpPlan.taken (by rfl) (fun w' hS' => run_load_op rfl rfl hS'.2) ?_; simp only [Act.put, List.setIfInBounds_toArray, List.set_cons_zero, List.set_cons_succ]) | (refine wpPlan.taken (by rfl) (by intro w' hS'; (try dsimp only at hS'); go_split_ands; go_simp; try with_reducible rfl) ?_; simp only [Act.put, List.setIfInBounds_toArray, List.set_cons_zero, List.set_cons_succ]) | (refine wpPlan.passed (by rfl) ?_; simp only [Act.put, List.setIfInBounds_toArray, List.set_cons_zero, List.set_cons_succ]))
      refine wpPlan.ends fun K' hK => ?_
      obtain ⟨vo, vc, ev, -, -⟩ := R3.out.form
      have hlen : 0 + (takeP m (shortP s).2).1.length = (takeP m (shortP s).2).1.length := Nat.zero_add _
      rw [hlen] at ev R3
      subst ev
      have hput := HF.out.put 13 (.slice vo (takeP m (shortP s).2).1.length vc) (n' := { n with body := (takeP m (shortP s).2).1 }) (bv' := .slice vo (takeP m (shortP s).2).1.length vc) rfl
      have hby := (Row.bytes (bs := (takeP m (shortP s).2).1) (by simpa using R3.out) (by rw [HL.out]; have := HM.out; omega)).step hput.2 (fun k hk e => R3.out.ne HF.out.p (by decide) (by rw [← e]; exact hk))
      have H9 := Lib.hid hput.1
      have L9 := Lib.hid (R3.out.ne HF.out.t (by decide))
      have B9 := Lib.hid hby
      have c2 := blk_cell HF.out.p 13
      have f2 := blk_frozen HF.out.p 13
      simp only [Note.packet, List.getElem?_toArray, List.getElem?_cons_zero, List.getElem?_cons_succ] at c2
      clear hput hby hlen
      go_simp
      refine hK.out _ _ ?_
      clear hK K'
      go_wp2_with fail
      go_end0
      rw [HS.out]
      exact ⟨rfl, _, _, H9.out, B9.out, L9.out⟩

end Go.Proofs.YtkboghhmldokiaaDoor