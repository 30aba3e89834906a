/- Two streams beside one another; note; a step at both. -/
import Derived.Test.YtgchepijbpcckaaDoorW11
import Derived.Test.YtgchepijbpcckaaDoorW12
import Derived.Test.YtgchepijbpcckaaDoorBits
namespace Go.Proofs.YtgchepijbpcckaaDoor
open Go.RowKit Go.Gm

/-- Two streams, in blocks of types T and U. -/
structure Duo (T U : TypeId) (w0 w : World) (g h : Nat) (v u : Value) (s t : Stm) (bs cs : List Value) : Prop where
  one : Sm T w g v s bs
  two : Sm U w h u t cs
  ne : g ≠ h
  apart : ∀ k, Leads v k → ¬ Leads u k
  g0 : w0.heap.size ≤ g
  h0 : w0.heap.size ≤ h
  v0 : ∀ k, Leads v k → w0.heap.size ≤ k
  u0 : ∀ k, Leads u k → w0.heap.size ≤ k
  st : Step None w0 w
  tab : HasAt 0 w
  t0 : 0 < w0.heap.size
  tT : T ≠ 36 ∧ T ≠ 5
  tU : U ≠ 36 ∧ U ≠ 5
section
variable {T U : TypeId} {w0 w w' : World} {g h : Nat} {v u : Value} {s t s' : Stm} {bs cs : List Value}
theorem Duo.swap (d : Duo T U w0 w g h v u s t bs cs) : Duo U T w0 w h g u v t s cs bs := ⟨d.two, d.one, d.ne.symm, fun k h1 h2 => d.apart k h2 h1, d.h0, d.g0, d.u0, d.v0, d.st, d.tab, d.t0, d.tU, d.tT⟩
theorem Duo.still (d : Duo T U w0 w g h v u s t bs cs) (hs : Step None w w') : Duo T U w0 w' g h v u s t bs cs := ⟨d.one.still hs, d.two.still hs, d.ne, d.apart, d.g0, d.h0, d.v0, d.u0, d.st.then_ hs, d.tab.still hs, d.t0, d.tT, d.tU⟩
theorem Duo.of_not (d : Duo T U w0 w g h v u s t bs cs) : ¬ Of g v h ∧ ∀ k, Leads u k → ¬ Of g v k := by
  refine ⟨fun e => ?_, fun k hk e => ?_⟩
  · rcases e with e | e
    · exact d.ne e.symm
    · exact d.one.row.ne d.two.st d.tU.1 e
  · rcases e with e | e
    · subst e; exact d.two.row.ne d.one.st d.tT.1 hk
    · exact d.apart k e hk
theorem Duo.left (d : Duo T U w0 w g h v u s t bs cs) (hw : Went T w w' g v s') : ∃ v' bs', Duo T U w0 w' g h v' u s' t bs' cs := by
  obtain ⟨v', bs', h1, h2, h3⟩ := hw
  have hn := d.of_not
  refine ⟨v', bs', h1, d.two.step h2 hn.1 hn.2 (d.one.not5 d.tT.2), d.ne, fun k hk hu => ?_, d.g0, d.h0, fun k hk => ?_, d.u0, d.st.trans h2 fun k hk e => ?_, d.tab.step h2 fun e => ?_, d.t0, d.tT, d.tU⟩
  · rcases h3 k hk with e | e
    · exact d.apart k e hu
    · have := d.two.row.lt hu; omega
  · rcases h3 k hk with e | e
    · exact d.v0 k e
    · have := d.st.size; omega
  · rcases e with e | e
    · have := d.g0; show False; omega
    · have := d.v0 k e; show False; omega
  · rcases e with e | e
    · have := d.g0; have := d.t0; omega
    · have := d.v0 0 e; have := d.t0; omega
theorem Duo.right (d : Duo T U w0 w g h v u s t bs cs) (hw : Went U w w' h u s') : ∃ u' cs', Duo T U w0 w' g h v u' s s' bs cs' := by
  obtain ⟨u', cs', d'⟩ := d.swap.left hw
  exact ⟨u', cs', d'.swap⟩
end
/-- Two streams, where the values do not matter. -/
def Pair2 (T U : TypeId) (w0 w : World) (g h : Nat) (s t : Stm) : Prop := ∃ v u bs cs, Duo T U w0 w g h v u s t bs cs
theorem Sm.ticked {T : TypeId} {w w' : World} {g : Nat} {v : Value} {s' : Stm} {bs : List Value} (h : Sm T w' g v s' bs) (hs : Step (fun k => k = g) w w') : Went T w w' g v s' := ⟨v, bs, h, hs.mono fun _ _ e => .inl e, fun _ hk => .inl hk⟩

/-- A note of a number. -/
def noteOf (n : Int) : Note := ⟨3, 0, 0, 0, 0, 0, 0, 0, n % 512, 1, []⟩
theorem right_noteOf (n : Int) : right (noteOf n) = true := by
  have h : 0 ≤ n % 512 ∧ n % 512 ≤ 1000 := by omega
  have h4 : hasB 3 4 = true := by decide
  have h1 : hasB 3 1 = false := by decide
  have h2 : hasB 3 2 = false := by decide
  have h8 : hasB 3 8 = true := by decide
  have h16 : hasB 3 16 = false := by decide
  simp [right, rightAt, noteOf, fit, bnd, isIn, states, Note.noMac, h1, h2, h4, h8, h16, h.1, h.2]
set_option maxHeartbeats 1000000 in
theorem note_any (n : Int) (w : World) : Calls Tryd.prog 15 #[.int .i64 n] w fun e w' => e = .returned (.agg ((noteOf n).cells (.slice none 0 0))) ∧ Step None w w' := by
  have b := heap_alloc_new w (.cells #[.int .i64 0, .int .i64 0, .int .u8 0, .int .u8 0, .int .u8 0, .int .u8 0, .int .u8 0, .int .u8 0, .int .i64 0, .int .i64 0, .slice none 0 0] 36)
  obtain ⟨W, hW⟩ : ∃ W, w.alloc (.cells #[.int .i64 0, .int .i64 0, .int .u8 0, .int .u8 0, .int .u8 0, .int .u8 0, .int .u8 0, .int .u8 0, .int .i64 0, .int .i64 0, .slice none 0 0] 36) = W := ⟨_, rfl⟩
  have s1 : Step None w W := by rw [← hW]; exact (Step.refl None w).alloc _
  rw [hW] at b
  have HE := Lib.hid hW
  have B := Lib.hid b
  have S1 := Lib.hid s1
  have ha := and_511 n
  clear hW b s1
  go_enter Tryd.func15, Tryd.ntmps15
  go_wp2_with (first | rw [HE.out] | (refine wpList_store_row rfl 36 (.tmp 2) (.tmp 5) rfl w.heap.size ((noteOf n).cells (.slice none 0 0)) rfl (by show Value.agg _ = Value.agg _; simp [noteOf, Note.cells]) 36 _ B.out (by kernel_rfl) rfl (by simp [Note.cells, Value.oneCell']) ?_))
  (try simp only [Exit.inBlock, Exit.then])
  refine bodyPost_ret (results_cell_row (P := Tryd.prog) (fn := Tryd.f15) rfl _ _ w.heap.size 36 ((noteOf n).cells (.slice none 0 0)) (0, 0) _ rfl (setRow_heap _ _ _ _ _ _ B.out) Tryd.underlying36 rfl (by kernel_rfl)) rfl ?_
  exact ⟨rfl, S1.out.setRow (fun h => by omega) _⟩

/-- A step of a script. -/
def stepC (p : Pkt) (d now : Int) (bv : Value) : Array Value := #[.int .i64 d, .int .i64 now, .int .i64 p.ep, .int .i64 p.sq, .int .i64 p.ak, .int .i64 p.n.kind, .int .i64 p.n.vlan, .int .u8 p.n.m0, .int .u8 p.n.m1, .int .u8 p.n.m2, .int .u8 p.n.m3, .int .u8 p.n.m4, .int .u8 p.n.m5, .int .i64 p.n.port, .int .i64 p.n.state, bv]
def stepS (s : Stm) (p : Pkt) (d now : Int) : Stm := if d = 0 then (s.send p.n).1 else if d = 1 then (s.take p).1 else (s.tick now).1
theorem stepS_ok {s : Stm} (h : s.Ok) (p : Pkt) (d now : Int) : (stepS s p d now).Ok := by
  unfold stepS
  split
  · exact Stm.send_ok h _
  · split
    · exact Stm.take_ok h _
    · exact Stm.tick_ok h _
theorem take_told (s : Stm) (p : Pkt) : (s.take p).2.2.1 = true ∧ (s.take p).2.1 = p.n ∨ (s.take p).2.2.1 = false ∧ (s.take p).2.1 = bare := by
  unfold Stm.take
  split
  · exact .inr ⟨rfl, rfl⟩
  · split
    · exact .inr ⟨rfl, rfl⟩
    · split
      · exact .inr ⟨rfl, rfl⟩
      · split
        · exact .inr ⟨rfl, rfl⟩
        · exact .inl ⟨rfl, rfl⟩
theorem take_bv {s : Stm} {p : Pkt} {w0 : World} {bo : Option Addr} {bc : Nat} {bv : Value} (hb : Bytes w0 (.slice bo p.n.body.length bc) p.n.body) (h : bv = if (s.take p).2.2.1 then (.slice bo p.n.body.length bc) else .slice none 0 0) :
    ∃ bo' bc', bv = .slice bo' (s.take p).2.1.body.length bc' ∧ Bytes w0 (.slice bo' (s.take p).2.1.body.length bc') (s.take p).2.1.body := by
  rcases take_told s p with ⟨h1, h2⟩ | ⟨h1, h2⟩
  · rw [h1, if_pos rfl] at h
    rw [h2]
    exact ⟨bo, bc, h, hb⟩
  · rw [h1, if_neg (by simp)] at h
    rw [h2]
    exact ⟨none, 0, h, .inl ⟨rfl, rfl⟩⟩
theorem Stm.pkts_mem {s : Stm} {a b : Nat} {p : Pkt} (h : p ∈ s.pkts a b) (hb : b ≤ s.ws.length) : p.n ∈ s.ws := by
  obtain ⟨i, hi, rfl⟩ := List.mem_map.1 h
  rw [List.mem_range] at hi
  show s.ws.getD (a + i) bare ∈ s.ws
  rw [List.getD_eq_getElem?_getD, List.getElem?_eq_getElem (by omega)]
  exact List.getElem_mem _
theorem tick_len {s : Stm} (h : s.Ok) (now : Int) : (s.tick now).2.1.length ≤ 5000 := by
  have hl := Stm.span_le h now
  unfold Stm.tick
  split
  · simp
  · simp only
    split
    · show (s.pkts _ _).length ≤ 5000
      rw [Stm.pkts_len]; omega
    · split <;> simp
theorem tick_bodies {s : Stm} (h : s.Ok) (now : Int) : ∀ p ∈ (s.tick now).2.1, p.n.body.length ≤ 10000 := by
  have hl := Stm.span_le h now
  unfold Stm.tick
  split
  · simp
  · simp only
    split
    · intro p hp
      have := Stm.right_len (h.note _ (Stm.pkts_mem hp (by omega)))
      omega
    · split
      · intro p hp
        simp at hp
        subst hp
        simp [bare]
      · simp
theorem load_stepN {w : World} {g : Nat} {p : Pkt} {d now : Int} {bv : Value} {t : TypeId} {fr : Nat × Nat} (h : w.heap[g]? = some (.cells (stepC p d now bv) t fr)) : (Instr.loadAt 36 (.pointer (some ⟨g, 5, none⟩))).run Tryd.prog w = .ok (.agg (p.n.cells bv)) w := by
  have := run_loadAt_mid (P := Tryd.prog) w g 5 36 (p.n.cells bv).toList _ (fun j u hj => by
    rw [blk_cell h]
    match j, hj with
    | 0, hj => exact hj
    | 1, hj => exact hj
    | 2, hj => exact hj
    | 3, hj => exact hj
    | 4, hj => exact hj
    | 5, hj => exact hj
    | 6, hj => exact hj
    | 7, hj => exact hj
    | 8, hj => exact hj
    | 9, hj => exact hj
    | 10, hj => exact hj
    | j + 11, hj => simp [Note.cells] at hj) Tryd.underlying36 rfl (by kernel_rfl)
  simpa using this
theorem load_stepP {w : World} {g : Nat} {p : Pkt} {d now : Int} {bv : Value} {t : TypeId} {fr : Nat × Nat} (h : w.heap[g]? = some (.cells (stepC p d now bv) t fr)) : (Instr.loadAt 38 (.pointer (some ⟨g, 2, none⟩))).run Tryd.prog w = .ok (.agg (p.n.packet p.ep p.sq p.ak bv)) w := by
  have := run_loadAt_mid (P := Tryd.prog) w g 2 38 (p.n.packet p.ep p.sq p.ak bv).toList _ (fun j u hj => by
    rw [blk_cell h]
    match j, hj with
    | 0, hj => exact hj
    | 1, hj => exact hj
    | 2, hj => exact hj
    | 3, hj => exact hj
    | 4, hj => exact hj
    | 5, hj => exact hj
    | 6, hj => exact hj
    | 7, hj => exact hj
    | 8, hj => exact hj
    | 9, hj => exact hj
    | 10, hj => exact hj
    | 11, hj => exact hj
    | 12, hj => exact hj
    | 13, hj => exact hj
    | j + 14, hj => simp [Note.packet] at hj) Tryd.underlying38 rfl (by kernel_rfl)
  simpa using this

set_option maxRecDepth 100000 in
set_option maxHeartbeats 8000000 in
theorem step_any (s : Stm) (g r : Nat) (p : Pkt) (bo : Option Addr) (bc : Nat) (d now : Int) (w0 w : World) (ho : s.Ok) (h : Pair2 66 45 w0 w g r s s) (hb : Bytes w0 (.slice bo p.n.body.length bc) p.n.body) (hbl : p.n.body.length ≤ 10000) :
    Calls Tryd.prog 10 #[.pointer (some ⟨g, 0, none⟩), .pointer (some ⟨r, 0, none⟩), .agg (stepC p d now (.slice bo p.n.body.length bc))] w fun e w' => e = .returned (.bool true) ∧ Pair2 66 45 w0 w' g r (stepS s p d now) (stepS s p d now) := by
  obtain ⟨v, u, bs, cs, h⟩ := h
  have p1 := heap_alloc_new w (.cells (stepC p d now (.slice bo p.n.body.length bc)) 40)
  have s1 := (Step.refl None w).alloc (.cells (stepC p d now (.slice bo p.n.body.length bc)) 40)
  obtain ⟨W, hW⟩ : ∃ W, w.alloc (.cells (stepC p d now (.slice bo p.n.body.length bc)) 40) = W := ⟨_, rfl⟩
  rw [hW] at p1 s1
  have HE := Lib.hid hW
  have D1 := Lib.hid (h.still s1)
  have P1 := Lib.hid p1
  have B0 := Lib.hid hb
  have B1 := Lib.hid (hb.step D1.out.st (fun _ _ s => s.elim))
  have HBL := Lib.hid hbl
  have HO := Lib.hid ho
  have q0 := blk_cell p1 0
  have q1 := blk_cell p1 1
  have ln := load_stepN p1
  have lp := load_stepP p1
  simp only [stepC, List.getElem?_toArray, List.getElem?_cons_zero, List.getElem?_cons_succ] at q0 q1
  have XN : Hid (¬ Of g v w.heap.size) := Lib.hid fun e => by
    rcases e with e | e
    · have := blk_lt h.one.st; omega
    · have := h.one.row.lt e; omega
  clear h hW p1 s1 ho hb hbl
  cases d0 : (d == 0)
  rotate_left
  · have hs : stepS s p d now = (s.send p.n).1 := by
      have h0 : d = 0 := by simpa using d0
      unfold stepS
      rw [if_pos h0]
    rw [hs]
    clear hs lp q1
    go_enter Tryd.func10, Tryd.ntmps10
    go_wp2_with (first | rw [HE.out] | (refine wpList_load_if 36 (.tmp 26) rfl rfl rfl ln ?_))
    refine (send_any g v s bs p.n bo bc W D1.out.one HO.out D1.out.tab B1.out).mono ?_
    rintro e w2 ⟨rfl, went⟩
    obtain ⟨v2, bs2, d2⟩ := D1.out.left went
    have st2 := went
    obtain ⟨_, _, -, hs2, -⟩ := st2
    have D2 := Lib.hid d2
    have ln2 := load_stepN (hs2.blk P1.out XN.out)
    have B2 := Lib.hid (B0.out.step D2.out.st (fun _ _ s => s.elim))
    clear d2 hs2 went ln q0
    go_wp2_with (first | (refine wpList_load_if 36 (.tmp 32) rfl rfl rfl ln2 ?_))
    refine (rsend_any r u s cs p.n bo bc w2 D2.out.two HO.out B2.out).mono ?_
    rintro e w3 ⟨rfl, v3, cs3, h3, s3, l3⟩
    obtain ⟨u4, cs4, d3⟩ := D2.out.right ⟨v3, cs3, h3, s3.mono (fun _ _ e => .inl e), l3⟩
    have D3 := Lib.hid d3
    clear d3 h3 s3 l3 ln2
    go_wp2_with fail
    go_ret
    exact ⟨by simp, _, _, _, _, D3.out⟩
  cases d1 : (d == 1)
  rotate_left
  · have hs : stepS s p d now = (s.take p).1 := by
      have h0 : ¬ d = 0 := by simpa using d0
      have h1 : d = 1 := by simpa using d1
      unfold stepS
      rw [if_neg h0, if_pos h1]
    rw [hs]
    clear hs ln q1
    go_enter Tryd.func10, Tryd.ntmps10
    go_wp2_with (first | rw [HE.out] | (refine wpList_load_if 38 (.tmp 40) rfl rfl rfl lp ?_))
    refine (take_any g v s bs p.ep p.sq p.ak p.n bo bc W D1.out.one HO.out D1.out.tab B1.out HBL.out).mono ?_
    rintro e w2 ⟨bv, rfl, hbv, went⟩
    obtain ⟨v2, bs2, d2⟩ := D1.out.left went
    have st2 := went
    obtain ⟨_, _, -, hs2, -⟩ := st2
    have D2 := Lib.hid d2
    have P2 := Lib.hid (hs2.blk P1.out XN.out)
    have hbv' : bv = if (s.take p).2.2.1 then (.slice bo p.n.body.length bc) else .slice none 0 0 := hbv
    obtain ⟨bo', bc', rfl, hbb⟩ := take_bv B0.out hbv'
    have HBX := Lib.hid hbv'
    have BB := Lib.hid hbb
    have EP2 : s.take ⟨p.ep, p.sq, p.ak, p.n⟩ = s.take p := rfl
    rw [EP2] at D2 ⊢
    clear EP2
    clear d2 hs2 went lp q0 hbv hbv' hbb
    obtain ⟨n', hn'⟩ : ∃ n', (s.take p).2.1 = n' := ⟨_, rfl⟩
    rw [hn'] at BB HBX ⊢
    have HN := Lib.hid hn'
    obtain ⟨tl, htl⟩ : ∃ tl, (s.take p).2.2.1 = tl := ⟨_, rfl⟩
    obtain ⟨cd, hcd⟩ : ∃ cd, (s.take p).2.2.2 = cd := ⟨_, rfl⟩
    rw [htl, hcd]
    have HTL := Lib.hid htl
    have HCD := Lib.hid hcd
    clear hn' htl hcd
    have a1 := heap_alloc_new w2 (.cells #[.int .i64 0, .int .i64 0, .int .u8 0, .int .u8 0, .int .u8 0, .int .u8 0, .int .u8 0, .int .u8 0, .int .i64 0, .int .i64 0, .slice none 0 0] 36)
    obtain ⟨WA, hWA⟩ : ∃ WA, w2.alloc (.cells #[.int .i64 0, .int .i64 0, .int .u8 0, .int .u8 0, .int .u8 0, .int .u8 0, .int .u8 0, .int .u8 0, .int .i64 0, .int .i64 0, .slice none 0 0] 36) = WA := ⟨_, rfl⟩
    have sA : Step None w2 WA := by rw [← hWA]; exact (Step.refl None w2).alloc _
    rw [hWA] at a1
    have HA := Lib.hid hWA
    have A1 := Lib.hid a1
    have sR := sA.setRow (g := w2.heap.size) (fun h => by omega) (n'.cells (.slice bo' n'.body.length bc'))
    have DR := Lib.hid (D2.out.still sR)
    have AR := Lib.hid (setRow_heap _ _ _ (n'.cells (.slice bo' n'.body.length bc')) _ _ A1.out)
    have lp2 := load_stepP (sR.blk P2.out (fun s => s.elim))
    have B2 := Lib.hid (B0.out.step DR.out.st (fun _ _ s => s.elim))
    clear hWA a1 sA sR
    go_wp2_with (first | rw [HA.out] | (refine wpList_store_row rfl 36 (.tmp 8) (.tmp 43) rfl w2.heap.size (n'.cells (.slice bo' n'.body.length bc')) rfl rfl 36 _ A1.out (by kernel_rfl) rfl (by simp [Note.cells, Value.oneCell']) ?_) | (refine wpList_load_if 38 (.tmp 48) rfl rfl rfl lp2 ?_))
    obtain ⟨W3, hW3⟩ : ∃ W3, WA.setRow w2.heap.size (n'.cells (.slice bo' n'.body.length bc')) = W3 := ⟨_, rfl⟩
    rw [hW3] at DR AR B2 ⊢
    clear hW3 lp2
    refine (rtake_any r u s cs p.ep p.sq p.ak p.n bo bc W3 DR.out.two HO.out B2.out HBL.out).mono ?_
    rintro e w4 ⟨bv4, rfl, hbv4, went⟩
    obtain ⟨u4, cs4, d4⟩ := DR.out.right went
    have st2 := went
    obtain ⟨_, _, -, hs4, -⟩ := st2
    have hbv4' : bv4 = if (s.take p).2.2.1 then (.slice bo p.n.body.length bc) else .slice none 0 0 := hbv4
    rw [← HBX.out] at hbv4'
    subst hbv4'
    have D4 := Lib.hid d4
    have EP4 : s.take ⟨p.ep, p.sq, p.ak, p.n⟩ = s.take p := rfl
    rw [EP4] at D4 ⊢
    clear EP4
    rw [HN.out, HTL.out, HCD.out]
    have nO : ¬ Of r u w2.heap.size := fun e => by
      rcases e with e | e
      · have := blk_lt D2.out.two.st; omega
      · have := D2.out.two.row.lt e; omega
    have A4 := Lib.hid (hs4.blk AR.out nO)
    clear d4 hs4 went hbv4 nO
    have a5 := heap_alloc_new w4 (.cells #[.int .i64 0, .int .i64 0, .int .u8 0, .int .u8 0, .int .u8 0, .int .u8 0, .int .u8 0, .int .u8 0, .int .i64 0, .int .i64 0, .slice none 0 0] 36)
    obtain ⟨WB, hWB⟩ : ∃ WB, w4.alloc (.cells #[.int .i64 0, .int .i64 0, .int .u8 0, .int .u8 0, .int .u8 0, .int .u8 0, .int .u8 0, .int .u8 0, .int .i64 0, .int .i64 0, .slice none 0 0] 36) = WB := ⟨_, rfl⟩
    have sB : Step None w4 WB := by rw [← hWB]; exact (Step.refl None w4).alloc _
    rw [hWB] at a5
    have HB5 := Lib.hid hWB
    have A5 := Lib.hid a5
    have sR := sB.setRow (g := w4.heap.size) (fun h => by omega) (n'.cells (.slice bo' n'.body.length bc'))
    have DS := Lib.hid (D4.out.still sR)
    have L8 := load_note (sR.blk A4.out (fun s => s.elim))
    have L11 := load_note (setRow_heap _ _ _ (n'.cells (.slice bo' n'.body.length bc')) _ _ A5.out)
    clear hWB a5 sB sR
    go_wp2_with (first | rw [HB5.out] | (refine wpList_store_row rfl 36 (.tmp 11) (.tmp 51) rfl w4.heap.size (n'.cells (.slice bo' n'.body.length bc')) rfl rfl 36 _ A5.out (by kernel_rfl) rfl (by simp [Note.cells, Value.oneCell']) ?_) | (refine wpList_load_if 36 (.tmp 8) rfl rfl rfl L8 ?_) | (refine wpList_load_if 36 (.tmp 11) rfl rfl rfl L11 ?_))
    refine (sameN_any n' n' bo' bo' bc' bc' _ (BB.out.step DS.out.st (fun _ _ s => s.elim)) (BB.out.step DS.out.st (fun _ _ s => s.elim))).mono ?_
    rintro e w6 ⟨rfl, s6⟩
    rw [sameN_refl]
    have D6 := Lib.hid (DS.out.still s6)
    clear s6 L8 L11
    go_wp2_with fail
    go_ret
    exact ⟨by simp, _, _, _, _, D6.out⟩
  have hs : stepS s p d now = (s.tick now).1 := by
    have h0 : ¬ d = 0 := by simpa using d0
    have h1 : ¬ d = 1 := by simpa using d1
    unfold stepS
    rw [if_neg h0, if_neg h1]
  rw [hs]
  clear hs ln lp
  go_enter Tryd.func10, Tryd.ntmps10
  go_wp2_with (first | rw [HE.out])
  refine (tick_any g v s bs now W D1.out.one HO.out).mono ?_
  rintro e w2 ⟨x, xs, rfl, pk, sm, hs2⟩
  obtain ⟨v2, bs2, d2⟩ := D1.out.left (sm.ticked hs2)
  have D2 := Lib.hid d2
  have PK := Lib.hid pk
  have gN : ¬ w.heap.size = g := fun e => XN.out (.inl e)
  have q1' := (blk_cell (hs2.blk P1.out gN) 1)
  simp only [stepC, List.getElem?_toArray, List.getElem?_cons_zero, List.getElem?_cons_succ] at q1'
  clear d2 pk sm hs2 gN q0 q1
  obtain ⟨xo, xc, rfl, -, -⟩ := PK.out.row.form
  go_wp2_with fail
  refine (rtick_any r u s cs now w2 D2.out.two HO.out).mono ?_
  rintro e w3 ⟨y, ys, rfl, pk3, sm3, hs3⟩
  obtain ⟨u3, cs3, d3⟩ := D2.out.right (sm3.ticked hs3)
  have D3 := Lib.hid d3
  have PK3 := Lib.hid pk3
  have PK2 := Lib.hid (PK.out.step hs3 (fun k hk e => by subst e; exact PK.out.row.ne D2.out.two.st (by decide) hk) (fun k e => D2.out.two.not5 (by decide) k (.inl e)))
  clear d3 pk3 sm3 hs3 q1'
  obtain ⟨yo, yc, rfl, -, -⟩ := PK3.out.row.form
  go_wp2_with fail
  refine (same_any w3 _ _ _ _ _ _ _ PK2.out PK3.out (tick_len HO.out now) (tick_bodies HO.out now)).mono ?_
  rintro e w4 ⟨rfl, s4⟩
  have D4 := Lib.hid (D3.out.still s4)
  clear s4
  go_wp2_with fail
  go_ret
  exact ⟨by simp, _, _, _, _, D4.out⟩
end Go.Proofs.YtgchepijbpcckaaDoor
