/- Tick of the code. -/
import Derived.Test.YtgchepijbpcckaaDoorW7
import Derived.Test.YtgchepijbpcckaaDoorCutw
namespace Go.Proofs.YtgchepijbpcckaaDoor
open Go.RowKit Go.Gm

theorem rnd_go {l n : Nat} {P : Program} {ops : Array Oper} {rest : List Oper} {o : Oper} {a : Act} {w w' : World} {v : Value} {Q : Exit → Act → World → Prop} (hg : o.guard = none) (hnd : ∀ c, o.op ≠ .defer c) (hr : (execOp a.eval o).run P w = .ok (.value v) w')
    (h : wpListIn (Fence.wide.inRound l) n P ops Q rest (a.put o.dst v) w') : wpListIn (Fence.wide.inRound l) n P ops Q (o :: rest) a w :=
  wpListIn_plain hg fun K hK => ⟨fun f _ => trivial, by rw [show (Fence.wide.inRound l).round = some l from rfl, Oper.semAt_some l _ _ hnd, hr]; exact hK _ _ h⟩
theorem rnd_skip {l n : Nat} {P : Program} {ops : Array Oper} {rest : List Oper} {o : Oper} {a : Act} {w w' : World} {Q : Exit → Act → World → Prop} (hg : o.guard = none) (hnd : ∀ c, o.op ≠ .defer c) (hr : (execOp a.eval o).run P w = .ok .skip w')
    (h : wpListIn (Fence.wide.inRound l) n P ops Q rest (a.put o.dst undef) w') : wpListIn (Fence.wide.inRound l) n P ops Q (o :: rest) a w :=
  wpListIn_plain hg fun K hK => ⟨fun f _ => trivial, by rw [show (Fence.wide.inRound l).round = some l from rfl, Oper.semAt_some l _ _ hnd, hr]; exact hK _ _ h⟩
theorem put_eval (a : Act) (i j : Nat) (v : Value) (hs : i < a.tmps.size) : (a.put (some i) v).eval (.tmp j) = if i = j then v else a.eval (.tmp j) := by
  show (a.tmps.setIfInBounds i v).getD j undef = _
  by_cases h : i = j
  · subst h
    rw [if_pos rfl]
    simp [hs]
  · rw [if_neg h]
    show _ = a.tmps.getD j undef
    simp [h]
theorem put_size (a : Act) (d : Option Nat) (v : Value) : (a.put d v).tmps.size = a.tmps.size := by cases d <;> simp [Act.put]
theorem put_none (a : Act) (v : Value) : a.put none v = a := rfl
theorem put_defers (a : Act) (d : Option Nat) (v : Value) : (a.put d v).defers = a.defers := by cases d <;> simp [Act.put]

/-- The cells of packets, with their bodies' values. -/
def flatP (l : List (Pkt × Value)) : List Value := l.flatMap fun x => (x.1.n.packet x.1.ep x.1.sq x.1.ak (encV x.2)).toList
theorem flatP_snoc (l : List (Pkt × Value)) (x : Pkt × Value) : flatP (l ++ [x]) = flatP l ++ (x.1.n.packet x.1.ep x.1.sq x.1.ak (encV x.2)).toList := by simp [flatP]
theorem T49 : SliceT Tryd.prog 49 38 14 88 := SliceT.mk' Tryd.underlying49 (z := .agg (bare.packet 0 0 0 (.slice none 0 0))) (by kernel_rfl) rfl (by decide)
/-- A list of packets of the call's own. -/
structure Pks (w : World) (B : Nat) (u : Value) (l : List Pkt) (bvs : List Value) : Prop where
  row : Row w 38 14 u l.length (flatP (l.zip bvs))
  len : bvs.length = l.length
  body : ∀ (i : Nat) (p : Pkt) (b : Value), l[i]? = some p → bvs[i]? = some b → Own5 w b p.n.body
  base : ∀ k, Leads u k → B ≤ k
theorem Pks.step {S : Nat → Prop} {w w' : World} {B : Nat} {u : Value} {l : List Pkt} {bvs : List Value} (h : Pks w B u l bvs) (hs : Step S w w') (hu : ∀ k, Leads u k → ¬ S k) (h5 : ∀ k, S k → ∀ cs fr, w.heap[k]? ≠ some (.cells cs 5 fr)) : Pks w' B u l bvs :=
  ⟨h.row.step hs hu, h.len, fun i p b h1 h2 => (h.body i p b h1 h2).step hs h5, h.base⟩
theorem Pks.still {w w' : World} {B : Nat} {u : Value} {l : List Pkt} {bvs : List Value} (h : Pks w B u l bvs) (hs : Step None w w') : Pks w' B u l bvs := h.step hs (fun _ _ s => s.elim) (fun _ s => s.elim)
theorem Pks.nil (w : World) (B : Nat) : Pks w B (.slice none 0 0) [] [] := ⟨Row.nil _ _ _, rfl, by simp, fun k hk => by simp [Leads, Value.ownBlock] at hk⟩
theorem zip_parts (l : List (Pkt × Value)) : (l.map (·.1)).zip (l.map (·.2)) = l := by
  induction l with
  | nil => rfl
  | cons x r ih => simp [ih]
theorem Step.putObj {S : Nat → Prop} {a w : World} (h : Step S a w) {D : Nat} (hD : D < a.heap.size → S D) (o : Obj) : Step S a (w.putObj D o) :=
  ⟨h.os, h.tape, h.output, by simpa using h.size, fun k hk hn => (World.putObj_heap_other (fun e => hn (by subst e; exact hD hk))).trans (h.block k hk hn)⟩
/-- What the rounds have gathered. -/
def Got (B : Nat) (W : World) (pre : List (Pkt × Value)) (W' : World) : Prop :=
  ∃ v', W'.heap[B]? = some (.cells #[v'] 49 (0, 0)) ∧ Row W' 38 14 v' pre.length (flatP pre) ∧ (∀ k, Leads v' k → W.heap.size ≤ k) ∧ Step (fun k => k = B) W W'
theorem Got.own (B : Nat) (W : World) : OwnFrom W.heap.size (Got B W) := by
  rintro pre X Y row ⟨v', hb, hr, hl, hs⟩ hg hrow
  have hne : ∀ (k : Nat) (cs : Array Value) (t : TypeId) (fr : Nat × Nat), X.heap[k]? = some (.cells cs t fr) → some k ≠ row := fun k cs t fr hk e => by
    obtain ⟨-, o, ho, hc⟩ := hrow k e.symm
    rw [hk] at ho
    cases ho
    cases hc
  have sg : Step (fun k => row = some k) X Y := ⟨hg.os, hg.tape, hg.output, hg.size, fun k hk hn => hg.block k hk (fun e => hn e.symm)⟩
  refine ⟨v', sg.blk hb (fun e => hne _ _ _ _ hb e.symm), hr.step sg (fun k hk e => ?_), hl, hs.trans sg fun k hk e => ?_⟩
  · obtain ⟨cur, hc⟩ := hr.typed hk
    exact hne _ _ _ _ hc e.symm
  · have := (hrow k e).1
    omega
theorem Got.kq {B : Nat} {W W' : World} {pre : List (Pkt × Value)} (h : Got B W pre W') : Kq W.heap.size B W W' := by
  obtain ⟨v', -, -, -, hs⟩ := h
  exact ⟨hs.size, fun k hk hB => hs.block k hk hB⟩

theorem packet_one (n : Note) (ep sq ak : Int) (b : Value) (hb : b.oneCell' = true) : ∀ u ∈ (n.packet ep sq ak b).toList, u.oneCell' = true := fun u hu => by
  simp only [Note.packet, List.mem_cons, List.not_mem_nil, or_false] at hu
  rcases hu with rfl | rfl | rfl | rfl | rfl | rfl | rfl | rfl | rfl | rfl | rfl | rfl | rfl | rfl <;> first | rfl | exact hb
theorem run_min_int (w : World) (ts : Array TypeId) (t : TypeId) (x y : Int) : (Builtin.min_ ts t #[.int .i64 x, .int .i64 y]).run Tryd.prog w = .ok (.int .i64 (min x y)) w := by
  simp only [Builtin.min_, List.foldlM_cons, List.foldlM_nil, Builtin.min2]
  by_cases h : x ≤ y
  · rw [Int.min_eq_left h]; simp; omega
  · rw [Int.min_eq_right (by omega)]; simp; omega
theorem run_max_int (w : World) (ts : Array TypeId) (t : TypeId) (x y : Int) : (Builtin.max_ ts t #[.int .i64 x, .int .i64 y]).run Tryd.prog w = .ok (.int .i64 (max x y)) w := by
  simp only [Builtin.max_, List.foldlM_cons, List.foldlM_nil, Builtin.max2]
  by_cases h : x ≤ y
  · rw [Int.max_eq_right h]; simp; omega
  · rw [Int.max_eq_left (by omega)]; simp; omega
/-- Where the round's variable lies. -/
def Ax (B : Nat) (W0 : World) (x : Pkt × Value) (a' : Act) (W' : World) : Prop :=
  ∃ Bx, W0.heap.size ≤ Bx ∧ W'.heap[Bx]? = some (.cells (x.1.n.packet x.1.ep x.1.sq x.1.ak (encV x.2)) 38 (0, 0)) ∧ a'.eval (.tmp 8) = .pointer (some ⟨B, 0, none⟩) ∧ a'.eval (.tmp 9) = .pointer (some ⟨Bx, 0, none⟩) ∧ a'.tmps.size = 102 ∧ a'.defers = []
theorem Ax.own (B : Nat) (W0 : World) (x : Pkt × Value) (a' : Act) : OwnFrom W0.heap.size (fun (_ : Unit) W => Ax B W0 x a' W) := by
  rintro _ X Y row ⟨Bx, h1, h2, h3⟩ hg hrow
  have sg : Step (fun k => row = some k) X Y := ⟨hg.os, hg.tape, hg.output, hg.size, fun k hk hn => hg.block k hk (fun e => hn e.symm)⟩
  refine ⟨Bx, h1, sg.blk h2 (fun e => ?_), h3⟩
  obtain ⟨-, o, ho, hc⟩ := hrow _ e
  rw [h2] at ho
  cases ho
  cases hc

def rangesOf : Code → List Code
  | .rangeFunc g ps a b => [.rangeFunc g ps a b]
  | .loop c => rangesOf c
  | .seq a b => rangesOf a ++ rangesOf b
  | .block _ c => rangesOf c
  | .scope c => rangesOf c
  | .cond _ a b => rangesOf a ++ rangesOf b
  | _ => []
/-- The range of Tick. -/
noncomputable def rangeCode : Code := ((Tryd.f16.body.bind fun c => (rangesOf c)[0]?).getD .skip)
set_option maxRecDepth 100000 in
set_option maxHeartbeats 4000000 in
theorem range_law {Q : Exit → Act → World → Prop} {a : Act} {W : World} (B bf bt bs g : Nat) (v : Value) (s : Stm) (bvs : List Value) (x y : Nat) (ok : s.Ok) (hy : y ≤ s.ws.length) (ll : LiesQ W.heap.size B bf bt bs g v) (hS : Stands bf bt bs g v s bvs x y W) (hB : W.heap[B]? = some (.cells #[.slice none 0 0] 49 (0, 0)))
    (h49 : a.eval (.tmp 49) = .func (.func 36) #[] #[.pointer (some ⟨bf, 0, none⟩), .pointer (some ⟨bt, 0, none⟩), .pointer (some ⟨bs, 0, none⟩)]) (h8 : a.eval (.tmp 8) = .pointer (some ⟨B, 0, none⟩)) (hz : a.tmps.size = 102)
    (hdone : ∀ D W3, W.heap.size ≤ D → Got B W (s.outs bvs x y) W3 → W3.heap[D]? = some (.deferred (some [])) → Q .normal { a with defers := { target := .collected D, args := #[] } :: a.defers } W3) : rangeCode.wp Tryd.prog Q a W := by
  conv => arg 2; whnf
  have hlen := ok.len
  have hbl := blk_lt hB
  refine (wpIn_wide (n := 8)).1 (wpIn_rangeFunc_ownH (F := Fence.wide) rfl (by omega) h49 trivial (enters_of Tryd.func36 (by kernel_rfl) rfl) (packets_stops (8 - 1) W.heap.size B bf bt bs g v s bvs x y ok hy ll W hS) (fun h k => h.trans k) (fun W1 l o o' hl _ _ _ => Kq.put W1 hl o') (Below.refl _ _) (fun _ => rfl)
    (Got B W) (fun _ _ _ => False) (Got.own B W) (fun _ _ _ _ _ hs _ _ => hs) ⟨_, hB, Row.nil _ _ _, fun k hk => by simp [Leads, Value.ownBlock] at hk, Step.refl _ _⟩ (Ax B W) (Ax.own B W) ?assign ?body ?done ?stop)
  case assign =>
    rintro l pre z W1 K ⟨v1, b1, r1, l1, s1⟩ hK
    refine wpIn_region_list ?_
    have ev : ∀ t, t ≠ 50 → ({ tmps := a.tmps.setIfInBounds 50 (.agg (z.1.n.packet z.1.ep z.1.sq z.1.ak (encV z.2))), defers := [] } : Act).eval (.tmp t) = a.eval (.tmp t) := fun t ht => by
      show (a.tmps.setIfInBounds 50 _).getD t undef = a.tmps.getD t undef
      simp [Ne.symm ht]
    have ev50 : ({ tmps := a.tmps.setIfInBounds 50 (.agg (z.1.n.packet z.1.ep z.1.sq z.1.ak (encV z.2))), defers := [] } : Act).eval (.tmp 50) = .agg (z.1.n.packet z.1.ep z.1.sq z.1.ak (encV z.2)) := by
      show (a.tmps.setIfInBounds 50 _).getD 50 undef = _
      simp [hz]
    have hsz : ({ tmps := a.tmps.setIfInBounds 50 (.agg (z.1.n.packet z.1.ep z.1.sq z.1.ak (encV z.2))), defers := [] } : Act).tmps.size = 102 := by simpa using hz
    have hf : Array.foldl (fun (t : Array Value) (x : Nat × Value) => match x with | (p, v) => t.setIfInBounds p v) a.tmps ((#[50] : Array Nat).zip (encP z)) = a.tmps.setIfInBounds 50 (.agg (z.1.n.packet z.1.ep z.1.sq z.1.ak (encV z.2))) := by simp [encP]
    rw [hf]
    show wpListIn _ _ _ _ _ _ { tmps := a.tmps.setIfInBounds 50 (.agg (z.1.n.packet z.1.ep z.1.sq z.1.ak (encV z.2))), defers := [] } W1
    have hd0 : ({ tmps := a.tmps.setIfInBounds 50 (.agg (z.1.n.packet z.1.ep z.1.sq z.1.ak (encV z.2))), defers := [] } : Act).defers = [] := rfl
    generalize ({ tmps := a.tmps.setIfInBounds 50 (.agg (z.1.n.packet z.1.ep z.1.sq z.1.ak (encV z.2))), defers := [] } : Act) = a0 at ev ev50 hsz hd0 ⊢
    refine rnd_go (v := .pointer (some ⟨W1.heap.size, 0, none⟩)) (w' := W1.alloc (.cells #[.int .i64 0, .int .i64 0, .int .i64 0, .int .i64 0, .int .i64 0, .int .u8 0, .int .u8 0, .int .u8 0, .int .u8 0, .int .u8 0, .int .u8 0, .int .i64 0, .int .i64 0, .slice none 0 0] 38)) rfl (by simp) (by go_simp) ?_
    have hg1 := heap_alloc_new W1 (.cells #[.int .i64 0, .int .i64 0, .int .i64 0, .int .i64 0, .int .i64 0, .int .u8 0, .int .u8 0, .int .u8 0, .int .u8 0, .int .u8 0, .int .u8 0, .int .i64 0, .int .i64 0, .slice none 0 0] 38)
    refine rnd_skip (w' := (W1.alloc (.cells #[.int .i64 0, .int .i64 0, .int .i64 0, .int .i64 0, .int .i64 0, .int .u8 0, .int .u8 0, .int .u8 0, .int .u8 0, .int .u8 0, .int .u8 0, .int .i64 0, .int .i64 0, .slice none 0 0] 38)).setRow W1.heap.size (z.1.n.packet z.1.ep z.1.sq z.1.ak (encV z.2))) rfl (by simp) ?_ ?_
    · unfold execOp
      simp only [put_eval _ _ _ _ (show 9 < a0.tmps.size by omega), if_true, show ¬ (9 : Nat) = 50 from by decide, if_false, ev50, Instr.storeAt, Instr.sureAddr, Sem.run_bind, Sem.run_pure, Result.andThen_ok]
      rw [run_storeVar_row (P := Tryd.prog) _ _ 38 38 _ (z.1.n.packet z.1.ep z.1.sq z.1.ak (encV z.2)) hg1 (by kernel_rfl) rfl (by rw [← Array.all_toList]; exact List.all_eq_true.2 (packet_one _ _ _ _ _ (encV_one _)))]
      rfl
    · refine wpListIn_nil ?_
      have st : Step None W1 ((W1.alloc (.cells #[.int .i64 0, .int .i64 0, .int .i64 0, .int .i64 0, .int .i64 0, .int .u8 0, .int .u8 0, .int .u8 0, .int .u8 0, .int .u8 0, .int .u8 0, .int .i64 0, .int .i64 0, .slice none 0 0] 38)).setRow W1.heap.size (z.1.n.packet z.1.ep z.1.sq z.1.ak (encV z.2))) := Step.setRow ((Step.refl _ _).alloc _) (fun h => by omega) _
      refine hK _ _ ?_ ⟨st.size, fun k hk hb => st.block k (Nat.lt_of_lt_of_le hk s1.size) (fun s => s.elim)⟩ ⟨v1, st.blk b1 (fun s => s.elim), r1.step st (fun _ _ s => s.elim), l1, s1.thenNone st⟩ ⟨W1.heap.size, s1.size, setRow_heap _ _ _ _ _ _ hg1, ?_, ?_, ?_, ?_⟩
      · exact ⟨st.size, fun k o hk ho _ => by rw [st.block k (Array.getElem?_eq_some_iff.1 ho).1 (fun s => s.elim)]; exact ho⟩
      · rw [put_none, put_eval _ _ _ _ (by omega), if_neg (by decide), ev 8 (by decide)]; exact h8
      · rw [put_none, put_eval _ _ _ _ (by omega), if_pos rfl]
      · rw [put_none, put_size]; exact hsz
      · rw [put_none, put_defers]; exact hd0
  case body =>
    rintro l pre z a' W1 hl hr1 ⟨v1, b1, r1, l1, s1⟩ ⟨Bx, hx1, hx2, hx3, hx4, hx5, hx6⟩ hlt
    refine wpIn_block (wpIn_region_list ?_)
    have hpl : pre.length < 5000 := by rw [outs_len] at hlt; omega
    have r1' := r1
    obtain ⟨vo, vc, rfl, -, -⟩ := r1'.form
    have c1 := blk_cell b1 0
    have f1 := blk_frozen b1 0
    simp only [List.getElem?_toArray, List.getElem?_cons_zero] at c1
    have n51 : 51 < a'.tmps.size := by omega
    have n52 : 52 < a'.tmps.size := by omega
    have n53 : 53 < a'.tmps.size := by omega
    have n54 : 54 < a'.tmps.size := by omega
    refine rnd_go (v := .slice vo pre.length vc) (w' := W1) rfl (by simp) ?_ ?_
    · unfold execOp
      simp only [hx3]
      go_simp
    refine rnd_go (v := .agg (z.1.n.packet z.1.ep z.1.sq z.1.ak (encV z.2))) (w' := W1) rfl (by simp) ?_ ?_
    · refine run_load_op rfl (by rw [put_eval _ _ _ _ n51, if_neg (by decide)]; exact hx4) (load_packet hx2)
    have sa := (Step.refl None W1).alloc (.cells (z.1.n.packet z.1.ep z.1.sq z.1.ak (encV z.2)) 38)
    have ba := heap_alloc_new W1 (.cells (z.1.n.packet z.1.ep z.1.sq z.1.ak (encV z.2)) 38)
    refine rnd_go (v := .slice (some ⟨W1.heap.size, 0, none⟩) 1 1) (w' := W1.alloc (.cells (z.1.n.packet z.1.ep z.1.sq z.1.ak (encV z.2)) 38)) rfl (by simp) ?_ ?_
    · have e52 : (((a'.put (some 51) (.slice vo pre.length vc)).put (some 52) (.agg (z.1.n.packet z.1.ep z.1.sq z.1.ak (encV z.2))))).eval (.tmp 52) = .agg (z.1.n.packet z.1.ep z.1.sq z.1.ak (encV z.2)) := by
        rw [put_eval _ _ _ _ (by rw [put_size]; exact n52), if_pos rfl]
      unfold execOp
      simp only [List.mapM_toArray, Array.map]
      unfold Note.packet
      go_simp
    obtain ⟨v2, W2, hrun, r2, s2, l2⟩ := run_append_row (P := Tryd.prog) T49 (W1.alloc (.cells (z.1.n.packet z.1.ep z.1.sq z.1.ak (encV z.2)) 38)) 49 49 (r1.alloc (.cells (z.1.n.packet z.1.ep z.1.sq z.1.ak (encV z.2)) 38)) (Src.ofBlock (P := Tryd.prog) T49 (m := 1) (c := 1) ba (by rfl) (packet_one _ _ _ _ _ (encV_one _))) (by simp [maxLen]; omega) (by omega)
    refine rnd_go (v := v2) (w' := W2) rfl (by simp) ?_ ?_
    · have e51 : ((((a'.put (some 51) (.slice vo pre.length vc)).put (some 52) (.agg (z.1.n.packet z.1.ep z.1.sq z.1.ak (encV z.2))))).put (some 53) (.slice (some ⟨W1.heap.size, 0, none⟩) 1 1)).eval (.tmp 51) = .slice vo pre.length vc := by
        rw [put_eval _ _ _ _ (by rw [put_size, put_size]; exact n53), if_neg (by decide), put_eval _ _ _ _ (by rw [put_size]; exact n52), if_neg (by decide), put_eval _ _ _ _ n51, if_pos rfl]
      have e53 : ((((a'.put (some 51) (.slice vo pre.length vc)).put (some 52) (.agg (z.1.n.packet z.1.ep z.1.sq z.1.ak (encV z.2))))).put (some 53) (.slice (some ⟨W1.heap.size, 0, none⟩) 1 1)).eval (.tmp 53) = .slice (some ⟨W1.heap.size, 0, none⟩) 1 1 := by
        rw [put_eval _ _ _ _ (by rw [put_size, put_size]; exact n53), if_pos rfl]
      unfold execOp
      simp only [resolve, invoke, builtin, Sem.run_bind, Sem.run_pure, Result.andThen_ok, List.map_toArray, List.map_cons, List.map_nil, e51, e53, hrun]
    have hne : ¬ Leads (.slice vo pre.length vc) B := fun hk => by have := l1 B hk; omega
    have b2 := s2.blk (sa.blk b1 (fun s => s.elim)) hne
    obtain ⟨uo, uc, rfl, -, -⟩ := r2.form
    refine rnd_skip (w' := W2.setCell ⟨B, 0, none⟩ (.slice uo (pre.length + 1) uc)) rfl (by simp) ?_ ?_
    · have e8 : (((((a'.put (some 51) (.slice vo pre.length vc)).put (some 52) (.agg (z.1.n.packet z.1.ep z.1.sq z.1.ak (encV z.2))))).put (some 53) (.slice (some ⟨W1.heap.size, 0, none⟩) 1 1)).put (some 54) (.slice uo (pre.length + 1) uc)).eval (.tmp 8) = .pointer (some ⟨B, 0, none⟩) := by
        rw [put_eval _ _ _ _ (by rw [put_size, put_size, put_size]; exact n54), if_neg (by decide), put_eval _ _ _ _ (by rw [put_size, put_size]; exact n53), if_neg (by decide), put_eval _ _ _ _ (by rw [put_size]; exact n52), if_neg (by decide), put_eval _ _ _ _ n51, if_neg (by decide)]
        exact hx3
      have e54 : (((((a'.put (some 51) (.slice vo pre.length vc)).put (some 52) (.agg (z.1.n.packet z.1.ep z.1.sq z.1.ak (encV z.2))))).put (some 53) (.slice (some ⟨W1.heap.size, 0, none⟩) 1 1)).put (some 54) (.slice uo (pre.length + 1) uc)).eval (.tmp 54) = .slice uo (pre.length + 1) uc := by
        rw [put_eval _ _ _ _ (by rw [put_size, put_size, put_size]; exact n54), if_pos rfl]
      have c2 := blk_cell b2 0
      have f2 := blk_frozen b2 0
      simp only [List.getElem?_toArray, List.getElem?_cons_zero] at c2
      unfold execOp
      simp only [e8, e54]
      go_simp
    refine wpListIn_nil ?_
    have s3 : Step (fun k => k = B ∨ Leads (.slice vo pre.length vc) k) W1 (W2.setCell ⟨B, 0, none⟩ (.slice uo (pre.length + 1) uc)) := ((sa.none).trans s2 fun k _ e => .inr e).setCell (p := ⟨B, 0, none⟩) (fun _ => .inl rfl) _
    have hB2 : W1.heap[B]? ≠ none := by rw [b1]; simp
    have hne2 : ∀ k, Leads (.slice uo (pre.length + 1) uc) k → k ≠ B := fun k hk e => by
      subst e
      rcases l2 k hk with h | h
      · exact hne h
      · have := blk_lt b1; simp at h; omega
    have lk : ∀ k, Leads (.slice vo pre.length vc) k → ∃ cur, W1.heap[k]? = some (.cells cur 38 (0, 0)) := fun k hk => r1.typed hk
    refine ⟨⟨s3.size, fun k o hk ho hc => ?_⟩, ⟨s3.size, fun k hk hb => s3.block k (Nat.lt_of_lt_of_le hk s1.size) fun e => ?_⟩, ⟨_, blk_set b2 0 _, ?_, fun k hk => ?_, s1.trans s3 fun k hk e => ?_⟩⟩
    · rw [s3.block k (Array.getElem?_eq_some_iff.1 ho).1 fun e => ?_]
      · exact ho
      · rcases e with rfl | e
        · rw [b1] at ho; cases ho; cases hc
        · obtain ⟨cur, hcur⟩ := lk k e; rw [hcur] at ho; cases ho; cases hc
    · rcases e with rfl | e
      · exact hb rfl
      · have := l1 k e; omega
    · rw [flatP_snoc, List.length_append]
      exact r2.step ((Step.refl (fun k => k = B) W2).setCell (p := ⟨B, 0, none⟩) (fun _ => rfl) _) hne2
    · rcases l2 k hk with h | h
      · exact l1 k h
      · have := s1.size; simp at h; omega
    · rcases e with rfl | e
      · rfl
      · have := l1 k e; omega
  case done =>
    rintro D ys W3 hD rfl hg hK
    exact hdone D W3 hD hg hK
  case stop =>
    rintro D c pre W3 _ _ h _
    exact h.elim
end Go.Proofs.YtgchepijbpcckaaDoor
