/- packets: what it yields. -/
import Derived.Test.YtgchepijbpcckaaDoorW6
import Derived.Test.YtgchepijbpcckaaDoorPlanIn
import Derived.RangeFuncNested
import Derived.RangeFuncBound
import Derived.RangeFuncCalls
import Derived.RangeFuncLeaves
import Derived.Shelf.Abstract
import Derived.WalkKit
import Derived.OwnWalkIn
import Derived.TacticsInMore
import Derived.LoopNIn
import Derived.LoopIn
namespace Go.Proofs.YtgchepijbpcckaaDoor
open Go.RowKit Go.Gm

theorem small_wrap {x : Int} (h0 : 0 ≤ x) (h1 : x ≤ 2000000000000) : IntKind.i64.wrap x = x ∧ wrap64 x = x := ⟨IntWalk.i64_in _ (by omega), IntWalk.wrap64_in _ ⟨by omega, by omega⟩⟩
/-- All blocks below n0 but B lie as they lay. -/
def Kq (n0 B : Nat) (W W' : World) : Prop := W.heap.size ≤ W'.heap.size ∧ ∀ k, k < n0 → k ≠ B → W'.heap[k]? = W.heap[k]?
theorem Kq.refl (n0 B : Nat) (W : World) : Kq n0 B W W := ⟨Nat.le_refl _, fun _ _ _ => rfl⟩
theorem Kq.trans {n0 B : Nat} {a b c : World} (h : Kq n0 B a b) (k : Kq n0 B b c) : Kq n0 B a c := ⟨Nat.le_trans h.1 k.1, fun i hi hB => (k.2 i hi hB).trans (h.2 i hi hB)⟩
theorem Kq.put {n0 B l : Nat} (W : World) (hl : n0 ≤ l) (o : Obj) : Kq n0 B W (W.putObj l o) := ⟨by simp, fun k hk _ => World.putObj_heap_other (by omega)⟩
theorem Kq.drew {n0 B : Nat} {W W' : World} (h : Kq n0 B W W') : Kq n0 B W W'.drew := h
/-- What is yielded: packets, and their bodies' values. -/
def Stm.outs (s : Stm) (bvs : List Value) (a b : Nat) : List (Pkt × Value) := (List.range (b - a)).map fun i => (⟨s.ep, s.first + (a + i : Nat), s.taken, s.ws.getD (a + i) bare⟩, bvs.getD (a + i) (.slice none 0 0))
theorem outs_fst (s : Stm) (bvs : List Value) (a b : Nat) : (s.outs bvs a b).map (·.1) = s.pkts a b := by simp [Stm.outs, Stm.pkts]
theorem outs_len (s : Stm) (bvs : List Value) (a b : Nat) : (s.outs bvs a b).length = b - a := by simp [Stm.outs]
theorem outs_get (s : Stm) (bvs : List Value) {a b j : Nat} (h1 : a ≤ j) (h2 : j < b) : (s.outs bvs a b)[j - a]? = some (⟨s.ep, s.first + (j : Int), s.taken, s.ws.getD j bare⟩, bvs.getD j (.slice none 0 0)) := by
  rw [Stm.outs, List.getElem?_map, List.getElem?_range (by omega)]
  simp only [Option.map_some, show a + (j - a) = j by omega]
theorem outs_take (s : Stm) (bvs : List Value) {a b j : Nat} (h1 : a ≤ j) (h2 : j < b) : (s.outs bvs a b).take (j + 1 - a) = (s.outs bvs a b).take (j - a) ++ [(⟨s.ep, s.first + (j : Int), s.taken, s.ws.getD j bare⟩, bvs.getD j (.slice none 0 0))] := by
  rw [show j + 1 - a = (j - a) + 1 by omega, List.take_add_one, outs_get s bvs h1 h2]
  rfl
/-- A value of one cell. -/
def encV (v : Value) : Value := if v.oneCell' = true then v else .slice none 0 0
theorem encV_one (v : Value) : (encV v).oneCell' = true := by unfold encV; split <;> first | assumption | rfl
theorem encV_of {v : Value} (h : v.oneCell' = true) : encV v = v := if_pos h
def encP (x : Pkt × Value) : Array Value := #[.agg (x.1.n.packet x.1.ep x.1.sq x.1.ak (encV x.2))]

theorem load_row_note {w : World} {vb voff vcap k : Nat} {l : List (Note × Value)} {j : Nat} {n : Note} {bv : Value} (h : Row w 36 11 (.slice (some ⟨vb, voff, none⟩) k vcap) k (flatN l)) (hp : 0 < k) (hj : l[j]? = some (n, bv)) : (Instr.loadAt 36 (.pointer (some ⟨vb, voff + j * 11, none⟩))).run Tryd.prog w = .ok (.agg #[.int .i64 n.kind, .int .i64 n.vlan, .int .u8 n.m0, .int .u8 n.m1, .int .u8 n.m2, .int .u8 n.m3, .int .u8 n.m4, .int .u8 n.m5, .int .i64 n.port, .int .i64 n.state, bv]) w := by
  obtain ⟨b, off, cap', e, -, -, -, hc, -⟩ := h.cells hp
  simp only [Value.slice.injEq, Option.some.injEq, Addr.mk.injEq] at e
  obtain ⟨⟨rfl, rfl, -⟩, -, rfl⟩ := e
  have := run_loadAt_mid (P := Tryd.prog) w vb (voff + j * 11) 36 (n.cells bv).toList _ (fun i u hi => by
    rw [Nat.add_assoc]
    exact hc _ _ (flatN_get l j i n bv u hj (by simpa using hi))) Tryd.underlying36 rfl (by kernel_rfl)
  simpa [Note.cells] using this
theorem packets_any (g : Nat) (a b : Int) (w : World) : Calls Tryd.prog 26 #[.pointer (some ⟨g, 0, none⟩), .int .i64 a, .int .i64 b] w fun e w' => e = .returned (.func (.func 36) #[] #[.pointer (some ⟨w.heap.size + 1, 0, none⟩), .pointer (some ⟨w.heap.size + 1 + 1, 0, none⟩), .pointer (some ⟨w.heap.size, 0, none⟩)]) ∧ w' = ((w.alloc (.cells #[.pointer (some ⟨g, 0, none⟩)] 25)).alloc (.cells #[.int .i64 a] 3)).alloc (.cells #[.int .i64 b] 3) := by
  go_enter Tryd.func26, Tryd.ntmps26
  go_wp2_with fail
  go_ret
  exact ⟨rfl, rfl⟩

/-- What stands while it yields. -/
structure Stands (bf bt bs g : Nat) (v : Value) (s : Stm) (bvs : List Value) (a b : Nat) (w : World) : Prop where
  sm : Sm 66 w g v s bvs
  f : w.heap[bf]? = some (.cells #[.int .i64 a] 3 (0, 0))
  t : w.heap[bt]? = some (.cells #[.int .i64 b] 3 (0, 0))
  s : w.heap[bs]? = some (.cells #[.pointer (some ⟨g, 0, none⟩)] 25 (0, 0))
/-- Where it lies. -/
structure LiesQ (n0 B bf bt bs g : Nat) (v : Value) : Prop where
  g : g < n0 ∧ g ≠ B
  v : ∀ k, Leads v k → k < n0 ∧ k ≠ B
  f : bf < n0 ∧ bf ≠ B
  t : bt < n0 ∧ bt ≠ B
  s : bs < n0 ∧ bs ≠ B
theorem Stands.kept {n0 B bf bt bs g : Nat} {v : Value} {s : Stm} {bvs : List Value} {a b : Nat} {w wr : World} (h : Stands bf bt bs g v s bvs a b w) (hk : Kq n0 B w wr) (l : LiesQ n0 B bf bt bs g v) :
    wr.heap[bf]? = some (.cells #[.int .i64 a] 3 (0, 0)) ∧ wr.heap[bt]? = some (.cells #[.int .i64 b] 3 (0, 0)) ∧ wr.heap[bs]? = some (.cells #[.pointer (some ⟨g, 0, none⟩)] 25 (0, 0)) ∧ wr.heap[g]? = some (.cells (s.cells v) 66 (0, 0)) ∧ Row wr 36 11 v s.ws.length (flatN (s.ws.zip bvs)) := by
  refine ⟨(hk.2 _ l.f.1 l.f.2).trans h.f, (hk.2 _ l.t.1 l.t.2).trans h.t, (hk.2 _ l.s.1 l.s.2).trans h.s, (hk.2 _ l.g.1 l.g.2).trans h.sm.st, ?_⟩
  obtain ⟨h1, ao, cap, e, h2, h3, h4⟩ := h.sm.row
  refine ⟨h1, ao, cap, e, h2, h3, ?_⟩
  rcases h4 with h4 | ⟨b', off, cur, e2, hb, h5, h6⟩
  · exact .inl h4
  · have := l.v b' (by rw [e, e2]; rfl)
    exact .inr ⟨b', off, cur, e2, (hk.2 _ this.1 this.2).trans hb, h5, h6⟩

set_option maxRecDepth 100000 in
set_option maxHeartbeats 4000000 in
theorem packets_in (m l n0 B bf bt bs g : Nat) (v : Value) (s : Stm) (bvs : List Value) (a b : Nat) (J Jx : List (Pkt × Value) → World → Prop) (ok : s.Ok) (hb : b ≤ s.ws.length) (ll : LiesQ n0 B bf bt bs g v)
    (W : World) (hJa : AbidesFrom W.heap.size J)
    (hY : ∀ pre x W, J pre W → pre.length < (s.outs bvs a b).length → YieldAt Fence.wide (m - 1) Tryd.prog l (encP x) W fun e W' => (e = .returned (.bool true) ∧ J (pre ++ [x]) W' ∧ Kq n0 B W W') ∨ (e = .returned (.bool false) ∧ Jx (pre ++ [x]) W'))
    (hS : Stands bf bt bs g v s bvs a b W) (h0 : J [] W) :
    CallsIn Fence.wide m Tryd.prog 36 #[.func (.yield l) #[] #[], .pointer (some ⟨bf, 0, none⟩), .pointer (some ⟨bt, 0, none⟩), .pointer (some ⟨bs, 0, none⟩)] W fun e W' => (∃ v, e = .returned v) ∧
      ((∃ ys, ys = s.outs bvs a b ∧ J ys W') ∨ (∃ pre, pre <+: s.outs bvs a b ∧ Jx pre W')) := by
  have cf := blk_cell hS.f 0
  have hf1 := ok.first
  have hf2 := ok.sum
  have hlen := ok.len
  have HS := Lib.hid hS
  have HL := Lib.hid ll
  have HB := Lib.hid hb
  have HY := Lib.hid hY
  have HJ := Lib.hid hJa
  have H0 := Lib.hid h0
  have HF : Hid (1 ≤ s.first ∧ s.first ≤ 1073741824 ∧ s.ws.length ≤ 5000) := Lib.hid ⟨hf1, by omega, hlen⟩
  have HBL := Lib.hid hS.sm.len
  clear hS ll hb hY hJa h0 hf1 hf2 hlen ok
  simp only [List.getElem?_toArray, List.getElem?_cons_zero] at cf
  refine callsIn_of_wp Tryd.func36 rfl trivial (wpIn_wide.2 ?_) rfl
  simp only [Tryd.ntmps36, List.size_toArray, List.length_cons, List.length_nil, Nat.reduceAdd, Nat.reduceSub, Array.replicate_succ, Array.replicate_zero, List.push_toArray, List.append_toArray, List.nil_append, List.cons_append]
  go_wp2_with fail
  go_loopw [5] (fun p wr => ∃ j : Nat, p = .int .i64 j ∧ a ≤ j ∧ (j ≤ b ∨ j = a) ∧ Kq n0 B W wr ∧ J ((s.outs bvs a b).take (j - a)) wr) (fun p wr => b - (intOf p).toNat)
  case atStart => exact ⟨a, rfl, Nat.le_refl _, .inr rfl, Kq.refl _ _ _, by simpa using H0.out⟩
  case round =>
    obtain ⟨j, rfl, h1, h2, hk, hj⟩ := hrel
    obtain ⟨b1, b2, b3, b4, b5⟩ := HS.out.kept hk HL.out
    have t1 := blk_cell b2 0
    simp only [List.getElem?_toArray, List.getElem?_cons_zero] at t1
    have HK := Lib.hid hk
    have HJ1 := Lib.hid hj
    have H12 := Lib.hid (And.intro h1 h2)
    clear hk hj b1 b2
    by_cases hjb : j < b
    rotate_left
    · have d1 : decide ((j : Int) < (b : Int)) = false := decide_eq_false (by omega)
      have d2 : decide (j < b) = false := decide_eq_false hjb
      have e0 : (s.outs bvs a b).take (j - a) = s.outs bvs a b := List.take_of_length_le (by rw [outs_len]; omega)
      have HJ2 := Lib.hid (e0 ▸ HJ1.out)
      clear h1 h2 hjb e0 b3 b4 b5
      go_wp2_with fail
      go_end0
      exact ⟨⟨_, rfl⟩, .inl ⟨_, rfl, HJ2.out⟩⟩
    · have d1 : decide ((j : Int) < (b : Int)) = true := decide_eq_true (by omega)
      have d2 : decide (j < b) = true := decide_eq_true hjb
      have HJB := Lib.hid hjb
      have hjl : j < s.ws.length := by have := HB.out; omega
      obtain ⟨n, hn⟩ : ∃ n, s.ws[j]? = some n := ⟨_, List.getElem?_eq_getElem hjl⟩
      obtain ⟨bv, hbv⟩ : ∃ bv, bvs[j]? = some bv := ⟨_, List.getElem?_eq_getElem (by rw [HBL.out]; exact hjl)⟩
      have hz : (s.ws.zip bvs)[j]? = some (n, bv) := by rw [List.getElem?_zip_eq_some]; exact ⟨hn, hbv⟩
      have hx : (⟨s.ep, s.first + (j : Int), s.taken, s.ws.getD j bare⟩, bvs.getD j (.slice none 0 0)) = ((⟨s.ep, s.first + (j : Int), s.taken, n⟩ : Pkt), bv) := by
        rw [List.getD_eq_getElem?_getD, hn, List.getD_eq_getElem?_getD, hbv]; rfl
      have ht := outs_take s bvs h1 hjb
      rw [hx] at ht
      have HT := Lib.hid ht
      obtain ⟨vb, voff, vcap, cur, hv, -⟩ := b5.lies (by omega)
      subst hv
      have facts : ∀ w', Kq n0 B W w' → w'.cell? ⟨bs, 0, none⟩ = some (.pointer (some ⟨g, 0, none⟩)) ∧ w'.cell? ⟨g, 0, none⟩ = some (.int .i64 s.ep) ∧ w'.cell? ⟨g, 3, none⟩ = some (.int .i64 s.first) ∧ w'.cell? ⟨g, 6, none⟩ = some (.int .i64 s.taken) ∧ w'.cell? ⟨g, 2, none⟩ = some (.slice (some ⟨vb, voff, none⟩) s.ws.length vcap) ∧ (Instr.loadAt 36 (.pointer (some ⟨vb, voff + j * 11, none⟩))).run Tryd.prog w' = .ok (.agg #[.int .i64 n.kind, .int .i64 n.vlan, .int .u8 n.m0, .int .u8 n.m1, .int .u8 n.m2, .int .u8 n.m3, .int .u8 n.m4, .int .u8 n.m5, .int .i64 n.port, .int .i64 n.state, bv]) w' := fun w' hk' => by
        obtain ⟨-, -, b3, b4, b5⟩ := HS.out.kept hk' HL.out
        exact ⟨blk_cell b3 0, blk_cell b4 0, blk_cell b4 3, blk_cell b4 6, blk_cell b4 2, load_row_note b5 (by omega) hz⟩
      have FA := Lib.hid facts
      have hpl : ((s.outs bvs a b).take (j - a)).length < (s.outs bvs a b).length := by rw [List.length_take, outs_len]; omega
      obtain ⟨fn, tmps, assign, body, hy, hR⟩ := HY.out _ (⟨s.ep, s.first + (j : Int), s.taken, n⟩, bv) wr.drew (HJ.out _ _ _ none HJ1.out ⟨rfl, rfl, rfl, Nat.le_refl _, fun _ _ _ => rfl⟩ (fun r e => by cases e)) hpl
      have i0 : (0 : Int) ≤ (j : Int) := by omega
      have i1 : (j : Int) < (s.ws.length : Int) := by omega
      have hj5 : (j : Int) ≤ 5000 := by have := HF.out.2.2; omega
      have hfj : 0 ≤ s.first + (j : Int) ∧ s.first + (j : Int) ≤ 2000000000000 := by have h3 := HF.out.1; have h4 := HF.out.2.1; omega
      obtain ⟨wr2, wr1⟩ := small_wrap hfj.1 hfj.2
      have hj1 : 0 ≤ (j : Int) + 1 ∧ (j : Int) + 1 ≤ 2000000000000 := by omega
      obtain ⟨wj2, wj1⟩ := small_wrap hj1.1 hj1.2
      clear hj5 hfj hj1
      unfold encP Note.packet at hy
      dsimp only at hy
      rw [encV_of (HS.out.sm.body j n bv hn hbv).one] at hy
      have HHY := Lib.hid hy
      have HHR := Lib.hid hR
      clear facts hpl hz hx ht hn hbv b3 b4 b5 h1 h2 hy hR hjl hjb
      go_wp2_with fail
      refine (wpIn_wide (n := m)).1 ?_
      refine wpIn_region_row (fun w' => w'.cell? ⟨bs, 0, none⟩ = some (.pointer (some ⟨g, 0, none⟩)) ∧ w'.cell? ⟨g, 0, none⟩ = some (.int .i64 s.ep) ∧ w'.cell? ⟨g, 3, none⟩ = some (.int .i64 s.first) ∧ w'.cell? ⟨g, 6, none⟩ = some (.int .i64 s.taken) ∧ w'.cell? ⟨g, 2, none⟩ = some (.slice (some ⟨vb, voff, none⟩) s.ws.length vcap) ∧ (Instr.loadAt 36 (.pointer (some ⟨vb, voff + j * 11, none⟩))).run Tryd.prog w' = .ok (.agg #[.int .i64 n.kind, .int .i64 n.vlan, .int .u8 n.m0, .int .u8 n.m1, .int .u8 n.m2, .int .u8 n.m3, .int .u8 n.m4, .int .u8 n.m5, .int .i64 n.port, .int .i64 n.state, bv]) w') [(0, 0), (0, 1), (0, 2), (0, 3), (0, 4), (0, 5), (0, 6), (0, 7), (0, 8), (0, 9), (0, 10), (0, 11), (0, 12), (0, 13), (0, 14), (0, 15), (0, 16), (0, 17), (0, 18), (0, 19), (0, 20), (0, 21), (0, 22), (1, 23), (1, 24)] _ (by simp only [Region.items, List.filterMap_cons, List.filterMap_nil, List.getElem?_toArray, List.getElem?_cons_zero, List.getElem?_cons_succ, Option.map_some]; rfl) (by kernel_rfl) (by kernel_rfl) (by kernel_rfl) (by decide) (by kernel_rfl) (by intro c a d v w; cases d <;> exact fun h => h) (FA.out _ HK.out.drew) ?_
      iterate 23 (first | (refine wpRowIn.take (by rfl) (fun w' hS' => run_load_op rfl rfl hS'.2.2.2.2.2) ?_; simp only [Act.put, List.setIfInBounds_toArray, List.set_cons_zero, List.set_cons_succ]) | (refine wpRowIn.take (by rfl) (by intro w' hS'; (try dsimp only at hS'); go_split_ands; go_simp; try with_reducible rfl) ?_; simp only [Act.put, List.setIfInBounds_toArray, List.set_cons_zero, List.set_cons_succ]))
      refine wpRowIn.yield (by rfl) (by go_simp; exact HHY.out) HHR.out ?_
      rintro e W3 (⟨rfl, hJ3, hk3⟩ | ⟨rfl, hx3⟩)
      rotate_left
      · refine ⟨_, rfl, ?_⟩
        simp only [Act.put, List.setIfInBounds_toArray, List.set_cons_zero, List.set_cons_succ]
        refine wpRowIn.go (v := .bool true) (by rfl) (by go_simp) ?_
        simp only [Act.put, List.setIfInBounds_toArray, List.set_cons_zero, List.set_cons_succ]
        refine wpRowIn.done ?_
        have HX3 := Lib.hid hx3
        have HPF : Hid ((s.outs bvs a b).take (j - a) ++ [(⟨s.ep, s.first + (j : Int), s.taken, n⟩, bv)] <+: s.outs bvs a b) := Lib.hid (by rw [← HT.out]; exact List.take_prefix _ _)
        clear hx3
        go_wp2_with fail
        refine bodyPost_ret (results_none rfl _ _ _) rfl ?_
        exact ⟨⟨_, rfl⟩, .inr ⟨_, HPF.out, HX3.out⟩⟩
      have HK4 := Lib.hid (HK.out.trans hk3)
      rw [← HT.out] at hJ3
      have HJ4 := Lib.hid hJ3
      clear hk3 hJ3
      refine ⟨_, rfl, ?_⟩
      simp only [Act.put, List.setIfInBounds_toArray, List.set_cons_zero, List.set_cons_succ]
      refine wpRowIn.go (v := .bool false) (by rfl) (by go_simp) ?_
      simp only [Act.put, List.setIfInBounds_toArray, List.set_cons_zero, List.set_cons_succ]
      refine wpRowIn.done ?_
      go_wp2_with fail
      go_roundw
      case rel =>
        have h12 := H12.out
        have hjb := HJB.out
        exact ⟨j + 1, by simp, by omega, .inl (by omega), HK4.out, HJ4.out⟩
      case measure =>
        have hjb := HJB.out
        simp [intOf]
        omega
theorem packets_stops (m n0 B bf bt bs g : Nat) (v : Value) (s : Stm) (bvs : List Value) (a b : Nat) (ok : s.Ok) (hb : b ≤ s.ws.length) (ll : LiesQ n0 B bf bt bs g v) (w : World) (hS : Stands bf bt bs g v s bvs a b w) :
    SeqStopsK Fence.wide m Tryd.prog 36 #[.pointer (some ⟨bf, 0, none⟩), .pointer (some ⟨bt, 0, none⟩), .pointer (some ⟨bs, 0, none⟩)] encP (Kq n0 B) (fun ys => ys = s.outs bvs a b) (fun pre => pre <+: s.outs bvs a b) (s.outs bvs a b).length w := fun l J Jx W hW hJ _ hY h0 => by
  have st := Step.ofBelow hW
  exact packets_in m l n0 B bf bt bs g v s bvs a b J Jx ok hb ll W hJ hY ⟨hS.sm.still st, st.blk hS.f (fun s => s.elim), st.blk hS.t (fun s => s.elim), st.blk hS.s (fun s => s.elim)⟩ h0
end Go.Proofs.YtgchepijbpcckaaDoor
