/- Encode. -/
import Derived.Test.YtgchepijbpcckaaDoorK5
import Derived.Test.YtgchepijbpcckaaDoorInv
namespace Go.Proofs.YtgchepijbpcckaaDoor
open Go.RowKit Go.Gm

def Note.packet (n : Note) (ep sq ak : Int) (bv : Value) : Array Value := #[.int .i64 ep, .int .i64 sq, .int .i64 ak, .int .i64 n.kind, .int .i64 n.vlan, .int .u8 n.m0, .int .u8 n.m1, .int .u8 n.m2, .int .u8 n.m3, .int .u8 n.m4, .int .u8 n.m5, .int .i64 n.port, .int .i64 n.state, bv]
def okP (ep sq ak : Int) (n : Note) : Bool := right n && num ep && num sq && num ak

def enc (ep sq ak : Int) (n : Note) (k : Nat) : List Int :=
  four ep ++ four sq ++ four ak ++ [(k : Int)] ++ (if hasB k 1 then two n.vlan else []) ++ (if hasB k 2 then n.mac else []) ++ (if hasB k 4 then two n.port else []) ++ (if hasB k 8 then [n.state % 256] else [])
    ++ (if hasB k 16 then two n.body.length ++ n.body else [])

theorem ite_len (c : Bool) (x : List Int) : (if c then x else []).length ≤ x.length := by cases c <;> simp

/-- What holds in the region that writes the numbers, whatever was listed. -/
def EncJ (w2 : World) (ep sq ak kd : Int) (A : Act) (b : Nat → Bool) (a : Act) (w' : World) : Prop :=
  ∃ x2 x5 x8 x12 x13 x14 : Value, a = (((((A.put (some 32) x2).put (some 35) x5).put (some 38) x8).put (some 42) x12).put (some 43) x13).put (some 5) x14 ∧ Step None w2 w' ∧
    (b 2 = true → b 5 = false → Buf 5 w' w2.heap.size x2 (four ep)) ∧ (b 5 = true → b 8 = false → Buf 5 w' w2.heap.size x5 (four ep ++ four sq)) ∧ (b 8 = true → b 13 = false → Buf 5 w' w2.heap.size x8 (four ep ++ four sq ++ four ak)) ∧
    (b 13 = true → Buf 5 w' w2.heap.size x13 (four ep ++ four sq ++ four ak ++ [kd])) ∧
    (b 12 = true → b 13 = false → ∃ g, x12 = .slice (some ⟨g, 0, none⟩) 1 1 ∧ w'.heap[g]? = some (.cells #[.int .u8 kd] 5 (0, 0)) ∧ (b 2 = true → b 5 = false → ¬ Leads x2 g) ∧ (b 5 = true → b 8 = false → ¬ Leads x5 g) ∧ (b 8 = true → ¬ Leads x8 g)) ∧
    (b 14 = true → ∃ g y, x14 = .pointer (some ⟨g, 0, none⟩) ∧ w'.heap[g]? = some (.cells #[y] 34 (0, 0)) ∧ w2.heap.size ≤ g ∧ (b 15 = true → y = x13))

set_option linter.unusedSimpArgs false in
set_option maxHeartbeats 8000000 in
theorem encode_any (ep sq ak : Int) (n : Note) (bo : Option Addr) (bc : Nat) (w : World) (hT : HasAt 0 w) (hb : Bytes w (.slice bo n.body.length bc) n.body) (hbl : n.body.length ≤ 10000) :
    Calls Tryd.prog 27 #[.agg (n.packet ep sq ak (.slice bo n.body.length bc))] w fun e w' => ((okP ep sq ak n = false ∧ e = .returned (.tuple #[.slice none 0 0, .int .i64 1])) ∨
      (okP ep sq ak n = true ∧ ∃ u, e = .returned (.tuple #[u, .int .i64 0]) ∧ Buf 5 w' w.heap.size u (enc ep sq ak n n.kind.toNat))) ∧ Step None w w' := by
  have s1 := ((Step.refl None w).alloc (.cells (n.packet ep sq ak (.slice bo n.body.length bc)) 38)).alloc (.cells (n.cells (.slice bo n.body.length bc)) 36)
  have hp1 : ((w.alloc (.cells (n.packet ep sq ak (.slice bo n.body.length bc)) 38)).alloc (.cells (n.cells (.slice bo n.body.length bc)) 36)).heap[w.heap.size]? = some (.cells (n.packet ep sq ak (.slice bo n.body.length bc)) 38 (0, 0)) :=
    (Below.heap_alloc _ _ _ (by simp)).trans (heap_alloc_new _ _)
  have hn1 : ((w.alloc (.cells (n.packet ep sq ak (.slice bo n.body.length bc)) 38)).alloc (.cells (n.cells (.slice bo n.body.length bc)) 36)).heap[w.heap.size + 1]? = some (.cells (n.cells (.slice bo n.body.length bc)) 36 (0, 0)) := by
    have := heap_alloc_new (w.alloc (.cells (n.packet ep sq ak (.slice bo n.body.length bc)) 38)) (.cells (n.cells (.slice bo n.body.length bc)) 36)
    simpa using this
  have T1 := Lib.hid (hT.still s1)
  have S1 := Lib.hid s1
  have P1 := Lib.hid hp1
  have N1 := Lib.hid hn1
  have HB := Lib.hid hb
  have hlt := hT.lt
  clear s1 hp1 hn1 hT hb
  unfold okP
  unfold Note.packet Note.cells at *
  go_enter Tryd.func27, Tryd.ntmps27
  go_wp2_with fail
  refine (right_any n bo bc _ (by exact T1.out)).mono ?_
  rintro e w2 ⟨rfl, s2⟩
  have P2 := Lib.hid (s2.blk P1.out (fun s => s.elim))
  have N2 := Lib.hid (s2.blk N1.out (fun s => s.elim))
  have T2 := Lib.hid (T1.out.still s2)
  have S2 := Lib.hid (S1.out.then_ s2)
  clear s2 P1 N1 T1 S1
  have p0 := blk_cell P2.out 0
  have p1 := blk_cell P2.out 1
  have p2 := blk_cell P2.out 2
  have n0 := blk_cell N2.out 0
  simp only [List.getElem?_toArray, List.getElem?_cons_zero, List.getElem?_cons_succ] at p0 p1 p2 n0
  cases hr : right n
  · go_wp2_with fail
    go_ret2
    exact ⟨.inl ⟨by simp [hr], rfl⟩, S2.out⟩
  · go_wp2_with fail
    refine (numbered_any ep _).mono ?_
    rintro e w3 ⟨rfl, rfl⟩
    cases h1 : num ep
    · go_wp2_with fail
      go_ret2
      exact ⟨.inl ⟨by simp [hr, h1], rfl⟩, S2.out⟩
    · go_wp2_with fail
      refine (numbered_any sq _).mono ?_
      rintro e w3 ⟨rfl, rfl⟩
      cases h2 : num sq
      · go_wp2_with fail
        go_ret2
        exact ⟨.inl ⟨by simp [hr, h1, h2], rfl⟩, S2.out⟩
      · go_wp2_with fail
        refine (numbered_any ak _).mono ?_
        rintro e w3 ⟨rfl, rfl⟩
        cases h3 : num ak
        · go_wp2_with fail
          go_ret2
          exact ⟨.inl ⟨by simp [hr, h1, h2, h3], rfl⟩, S2.out⟩
        · obtain ⟨k, hk, hk9⟩ : ∃ k : Nat, n.kind = k ∧ k < 9 := ⟨n.kind.toNat, by simp [right, isIn] at hr; omega⟩
          have k0 : (0 : Int) ≤ n.kind := by omega
          have k9 : n.kind < 9 := by omega
          have HK := Lib.hid hk
          have hw8 : IntKind.u8.wrap n.kind = n.kind := by
            have : ∀ i : Fin 9, IntKind.u8.wrap ((i.val : Nat) : Int) = ((i.val : Nat) : Int) := by decide
            rw [hk]; exact this ⟨k, hk9⟩
          clear hk
          have K : Hid (∀ w', Step None w2 w' → w'.cell? ⟨w.heap.size, 0, none⟩ = some (.int .i64 ep) ∧ w'.cell? ⟨w.heap.size, 1, none⟩ = some (.int .i64 sq) ∧ w'.cell? ⟨w.heap.size, 2, none⟩ = some (.int .i64 ak) ∧ w'.cell? ⟨w.heap.size + 1, 0, none⟩ = some (.int .i64 n.kind)) := fun w' h' =>
            ⟨blk_cell (h'.blk P2.out (fun s => s.elim)) 0, blk_cell (h'.blk P2.out (fun s => s.elim)) 1, blk_cell (h'.blk P2.out (fun s => s.elim)) 2, blk_cell (h'.blk N2.out (fun s => s.elim)) 0⟩
          go_wp2_with fail
          refine wp_region_pre (fun w' => w'.cell? ⟨w.heap.size, 0, none⟩ = some (.int .i64 ep) ∧ w'.cell? ⟨w.heap.size, 1, none⟩ = some (.int .i64 sq) ∧ w'.cell? ⟨w.heap.size, 2, none⟩ = some (.int .i64 ak) ∧ w'.cell? ⟨w.heap.size + 1, 0, none⟩ = some (.int .i64 n.kind)) [0, 1, 3, 4, 6, 7, 9, 10, 11] _ (by simp only [List.map, opOf, List.getElem?_toArray, List.getElem?_cons_zero, List.getElem?_cons_succ, Option.getD_some]; rfl) (by kernel_rfl) (by kernel_rfl) (by kernel_rfl) (by kernel_rfl) (by intro c a d v w; cases d <;> exact fun h => h) (K.out _ ((Step.refl None w2).drewN 1)) ?_
          repeat (refine wpPre.taken (by rfl) (by intro w' hS'; (try dsimp only at hS'); go_split_ands; go_simp; try with_reducible rfl) ?_; simp only [Act.put, List.setIfInBounds_toArray, List.set_cons_zero, List.set_cons_succ])
          refine wpPre.done ?_
          refine wpRest.inv (EncJ w2 ep sq ak n.kind) [2, 5, 8, 12, 13, 14, 15] _ (by simp only [List.map, opOf, List.getElem?_toArray, List.getElem?_cons_zero, List.getElem?_cons_succ, Option.getD_some]; rfl) (by kernel_rfl) (by kernel_rfl) ?js ?start ?done ?step
          case js =>
            rintro b a w' ⟨x2, x5, x8, x12, x13, x14, -, hs, -⟩
            exact K.out _ hs
          case start => exact ⟨_, _, _, _, _, _, rfl, (Step.refl None w2).drewN 1, by simp, by simp, by simp, by simp, by simp, by simp⟩
          case done =>
            rintro b a w' hall ⟨x2, x5, x8, x12, x13, x14, rfl, hs, -, -, -, c13, -, c14⟩
            have y13 : b 13 = true := hall 13 (by decide)
            obtain ⟨g14, y, rfl, hh, hge, hy⟩ := c14 (hall 14 (by decide))
            obtain rfl := hy (hall 15 (by decide))
            have hE : Hid (Enc w w' (w.heap.size + 1) g14 n bo bc (four ep ++ four sq ++ four ak ++ [n.kind])) := by
              refine ⟨T2.out.still hs, hs.blk N2.out (fun s => s.elim), ⟨_, hh, (c13 y13).row, fun j hj => ?_⟩, S2.out.then_ hs, by omega, by omega, ?_⟩
              · have := (c13 y13).base j hj
                have := S2.out.size
                omega
              · have := S2.out.size
                omega
            simp only [Act.put, List.setIfInBounds_toArray, List.set_cons_zero, List.set_cons_succ]
            clear c13 c14 hh hy hs K
            go_wp2_with fail
            refine (put_vlan k w _ hE.out HK.out hk9 (by have q1 := ite_len (hasB k 1) (two n.vlan); have q2 := ite_len (hasB k 2) n.mac; have q4 := ite_len (hasB k 4) (two n.port); have q8 := ite_len (hasB k 8) [n.state % 256]; simp only [two, Note.mac, List.length_cons, List.length_nil] at q1 q2 q4 q8; simp only [List.length_append, four, List.length_cons, List.length_nil, two, Note.mac]; omega)).mono ?_
            rintro e w5 ⟨rfl, q0⟩
            have hE0 := Lib.hid q0
            clear q0 hE
            go_wp2_with fail
            refine (put_mac k w _ hE0.out HK.out hk9 (by have q1 := ite_len (hasB k 1) (two n.vlan); have q2 := ite_len (hasB k 2) n.mac; have q4 := ite_len (hasB k 4) (two n.port); have q8 := ite_len (hasB k 8) [n.state % 256]; simp only [two, Note.mac, List.length_cons, List.length_nil] at q1 q2 q4 q8; simp only [List.length_append, four, List.length_cons, List.length_nil, two, Note.mac]; omega)).mono ?_
            rintro e w6 ⟨rfl, q1⟩
            have hE1 := Lib.hid q1
            clear q1 hE0
            go_wp2_with fail
            refine (put_port k w _ hE1.out HK.out hk9 (by have q1 := ite_len (hasB k 1) (two n.vlan); have q2 := ite_len (hasB k 2) n.mac; have q4 := ite_len (hasB k 4) (two n.port); have q8 := ite_len (hasB k 8) [n.state % 256]; simp only [two, Note.mac, List.length_cons, List.length_nil] at q1 q2 q4 q8; simp only [List.length_append, four, List.length_cons, List.length_nil, two, Note.mac]; omega)).mono ?_
            rintro e w7 ⟨rfl, q2⟩
            have hE2 := Lib.hid q2
            clear q2 hE1
            go_wp2_with fail
            refine (put_state k w _ hE2.out HK.out hk9 (by have q1 := ite_len (hasB k 1) (two n.vlan); have q2 := ite_len (hasB k 2) n.mac; have q4 := ite_len (hasB k 4) (two n.port); have q8 := ite_len (hasB k 8) [n.state % 256]; simp only [two, Note.mac, List.length_cons, List.length_nil] at q1 q2 q4 q8; simp only [List.length_append, four, List.length_cons, List.length_nil, two, Note.mac]; omega)).mono ?_
            rintro e w8 ⟨rfl, q3⟩
            have hE3 := Lib.hid q3
            clear q3 hE2
            go_wp2_with fail
            refine (put_body k w _ hE3.out HK.out hk9 (by have q1 := ite_len (hasB k 1) (two n.vlan); have q2 := ite_len (hasB k 2) n.mac; have q4 := ite_len (hasB k 4) (two n.port); have q8 := ite_len (hasB k 8) [n.state % 256]; simp only [two, Note.mac, List.length_cons, List.length_nil] at q1 q2 q4 q8; simp only [List.length_append, four, List.length_cons, List.length_nil, two, Note.mac]; omega) hbl HB.out).mono ?_
            rintro e w9 ⟨rfl, q4⟩
            have hE4 := Lib.hid q4
            clear q4 hE3
            obtain ⟨u, hsl, hbu⟩ := hE4.out.slot
            have hcu := blk_cell hsl 0
            have hfin : Hid (Buf 5 w9 w.heap.size u (enc ep sq ak n n.kind.toNat)) := by
              have e1 : n.kind.toNat = k := by have := HK.out; omega
              have e2 : n.kind = (k : Int) := HK.out
              rw [e1]
              unfold enc
              rw [← e2]
              exact hbu
            have hst := Lib.hid hE4.out.st
            clear hsl hbu
            go_wp2_with fail
            go_ret2
            exact ⟨.inr ⟨by simp [hr, h1, h2, h3], u, rfl, hfin.out⟩, hst.out⟩
          case step =>
            intro x hx
            simp only [List.mem_cons, List.not_mem_nil, or_false] at hx
            rcases hx with rfl | rfl | rfl | rfl | rfl | rfl | rfl
            · rintro b a w' ⟨x2, x5, x8, x12, x13, x14, rfl, hs, c2, c5, c8, c13, c12, c14⟩ hb hd hc
              have n5 : b 5 = false := by
                cases h : b 5
                · rfl
                · have := hc 5 _ rfl h ⟨2, .data⟩ (by simp) rfl
                  simp_all
              have n8 : b 8 = false := by
                cases h : b 8
                · rfl
                · have := hc 8 _ rfl h ⟨5, .data⟩ (by simp) rfl
                  simp_all
              have n13 : b 13 = false := by
                cases h : b 13
                · rfl
                · have := hc 13 _ rfl h ⟨8, .data⟩ (by simp) rfl
                  simp_all
              have hcur : Buf 5 w' w2.heap.size (.slice none 0 0) [] := Buf.nil _ _ _
              have hBs : w2.heap.size ≤ w'.heap.size := hs.size
              simp only [Act.put, List.setIfInBounds_toArray, List.set_cons_zero, List.set_cons_succ]
              intro K' hK
              go_simp
              refine (long_any _ [] ep w' hcur hBs (by simp)).mono ?_
              rintro e w3 ⟨u1, rfl, g⟩
              have hnl : ∀ k, (∃ cs t, w'.heap[k]? = some (.cells cs t (0, 0)) ∧ t ≠ 5) → ¬ Leads (Value.slice none 0 0) k := fun k ⟨cs, t, hk, ht⟩ => hcur.row.ne hk ht
              refine hK.out _ _ ⟨u1, x5, x8, x12, x13, x14, rfl, hs.trans g.step (fun i hi hl => by have := hcur.base i hl; omega), ?_, ?_, ?_, ?_, ?_, ?_⟩
              · intro _ _
                simpa [four] using g.buf
              · intro h h'
                simp [hb, n5, n8, n13] at h h'
              · intro h h'
                simp [hb, n5, n8, n13] at h h'
              · intro h
                simp [hb, n5, n8, n13] at h
              · intro h h'
                obtain ⟨g12, hx, hh, l2, l5, l8⟩ := c12 (by simpa using h) n13
                refine ⟨g12, hx, g.step.blk hh (fun h => by simp [Leads, Value.ownBlock] at h), ?_, ?_, ?_⟩
                · intro _ _ hl
                  rcases g.new _ hl with h | h
                  · simp [Leads, Value.ownBlock] at h
                  · have := blk_lt hh; omega
                · intro h h'
                  simp [hb, n5, n8, n13] at h h'
                · intro h
                  simp [hb, n5, n8, n13] at h
              · intro h
                obtain ⟨g14, y, hx, hh, hge, hy⟩ := c14 (by simpa using h)
                exact ⟨g14, y, hx, g.step.blk hh (hnl g14 ⟨_, _, hh, by decide⟩), hge, fun h => hy (by simpa using h)⟩
            · rintro b a w' ⟨x2, x5, x8, x12, x13, x14, rfl, hs, c2, c5, c8, c13, c12, c14⟩ hb hd hc
              have n8 : b 8 = false := by
                cases h : b 8
                · rfl
                · have := hc 8 _ rfl h ⟨5, .data⟩ (by simp) rfl
                  simp_all
              have n13 : b 13 = false := by
                cases h : b 13
                · rfl
                · have := hc 13 _ rfl h ⟨8, .data⟩ (by simp) rfl
                  simp_all
              have y2 : b 2 = true := hd ⟨2, .data⟩ (by simp) rfl
              have hcur := c2 y2 hb
              have hBs : w2.heap.size ≤ w'.heap.size := hs.size
              simp only [Act.put, List.setIfInBounds_toArray, List.set_cons_zero, List.set_cons_succ]
              intro K' hK
              go_simp
              refine (long_any _ (four ep) sq w' hcur hBs (by simp [four])).mono ?_
              rintro e w3 ⟨u1, rfl, g⟩
              have hnl : ∀ k, (∃ cs t, w'.heap[k]? = some (.cells cs t (0, 0)) ∧ t ≠ 5) → ¬ Leads x2 k := fun k ⟨cs, t, hk, ht⟩ => hcur.row.ne hk ht
              refine hK.out _ _ ⟨x2, u1, x8, x12, x13, x14, rfl, hs.trans g.step (fun i hi hl => by have := hcur.base i hl; omega), ?_, ?_, ?_, ?_, ?_, ?_⟩
              · intro h h'
                simp [hb, n8, n13, y2] at h h'
              · intro _ _
                simpa [four] using g.buf
              · intro h h'
                simp [hb, n8, n13, y2] at h h'
              · intro h
                simp [hb, n8, n13, y2] at h
              · intro h h'
                obtain ⟨g12, hx, hh, l2, l5, l8⟩ := c12 (by simpa using h) n13
                refine ⟨g12, hx, g.step.blk hh (fun h => by exact l2 y2 hb h), ?_, ?_, ?_⟩
                · intro h h'
                  simp [hb, n8, n13, y2] at h h'
                · intro _ _ hl
                  rcases g.new _ hl with h | h
                  · exact l2 y2 hb h
                  · have := blk_lt hh; omega
                · intro h
                  simp [hb, n8, n13, y2] at h
              · intro h
                obtain ⟨g14, y, hx, hh, hge, hy⟩ := c14 (by simpa using h)
                exact ⟨g14, y, hx, g.step.blk hh (hnl g14 ⟨_, _, hh, by decide⟩), hge, fun h => hy (by simpa using h)⟩
            · rintro b a w' ⟨x2, x5, x8, x12, x13, x14, rfl, hs, c2, c5, c8, c13, c12, c14⟩ hb hd hc
              have n13 : b 13 = false := by
                cases h : b 13
                · rfl
                · have := hc 13 _ rfl h ⟨8, .data⟩ (by simp) rfl
                  simp_all
              have y5 : b 5 = true := hd ⟨5, .data⟩ (by simp) rfl
              have y2 : b 2 = true := hc 5 _ rfl y5 ⟨2, .data⟩ (by simp) rfl
              have hcur := c5 y5 hb
              have hBs : w2.heap.size ≤ w'.heap.size := hs.size
              simp only [Act.put, List.setIfInBounds_toArray, List.set_cons_zero, List.set_cons_succ]
              intro K' hK
              go_simp
              refine (long_any _ (four ep ++ four sq) ak w' hcur hBs (by simp [four])).mono ?_
              rintro e w3 ⟨u1, rfl, g⟩
              have hnl : ∀ k, (∃ cs t, w'.heap[k]? = some (.cells cs t (0, 0)) ∧ t ≠ 5) → ¬ Leads x5 k := fun k ⟨cs, t, hk, ht⟩ => hcur.row.ne hk ht
              refine hK.out _ _ ⟨x2, x5, u1, x12, x13, x14, rfl, hs.trans g.step (fun i hi hl => by have := hcur.base i hl; omega), ?_, ?_, ?_, ?_, ?_, ?_⟩
              · intro h h'
                simp [hb, n13, y2, y5] at h h'
              · intro h h'
                simp [hb, n13, y2, y5] at h h'
              · intro _ _
                simpa [four] using g.buf
              · intro h
                simp [hb, n13, y2, y5] at h
              · intro h h'
                obtain ⟨g12, hx, hh, l2, l5, l8⟩ := c12 (by simpa using h) n13
                refine ⟨g12, hx, g.step.blk hh (fun h => by exact l5 y5 hb h), ?_, ?_, ?_⟩
                · intro h h'
                  simp [hb, n13, y2, y5] at h h'
                · intro h h'
                  simp [hb, n13, y2, y5] at h h'
                · intro _ hl
                  rcases g.new _ hl with h | h
                  · exact l5 y5 hb h
                  · have := blk_lt hh; omega
              · intro h
                obtain ⟨g14, y, hx, hh, hge, hy⟩ := c14 (by simpa using h)
                exact ⟨g14, y, hx, g.step.blk hh (hnl g14 ⟨_, _, hh, by decide⟩), hge, fun h => hy (by simpa using h)⟩
            · rintro b a w' ⟨x2, x5, x8, x12, x13, x14, rfl, hs, c2, c5, c8, c13, c12, c14⟩ hb hd hc
              have hBs : w2.heap.size ≤ w'.heap.size := hs.size
              simp only [Act.put, List.setIfInBounds_toArray, List.set_cons_zero, List.set_cons_succ]
              intro K' hK
              go_simp
              have e1 := (Step.refl None w').alloc (.cells #[.int .u8 n.kind] 5)
              refine hK.out _ _ ⟨x2, x5, x8, .slice (some ⟨w'.heap.size, 0, none⟩) 1 1, x13, x14, rfl, hs.alloc _, ?_, ?_, ?_, ?_, ?_, ?_⟩
              · intro h h'
                exact (c2 (by simpa using h) (by simpa using h')).still e1
              · intro h h'
                exact (c5 (by simpa using h) (by simpa using h')).still e1
              · intro h h'
                exact (c8 (by simpa using h) (by simpa using h')).still e1
              · intro h
                exact (c13 (by simpa using h)).still e1
              · intro _ h13
                refine ⟨_, rfl, heap_alloc_new _ _, ?_, ?_, ?_⟩
                · intro h h' hl
                  have := (c2 (by simpa using h) (by simpa using h')).row.lt hl
                  omega
                · intro h h' hl
                  have := (c5 (by simpa using h) (by simpa using h')).row.lt hl
                  omega
                · intro h hl
                  have := (c8 (by simpa using h) (by simpa using h13)).row.lt hl
                  omega
              · intro h
                obtain ⟨g14, y, hx, hh, hge, hy⟩ := c14 (by simpa using h)
                exact ⟨g14, y, hx, e1.blk hh (fun s => s.elim), hge, fun h => hy (by simpa using h)⟩
            · rintro b a w' ⟨x2, x5, x8, x12, x13, x14, rfl, hs, c2, c5, c8, c13, c12, c14⟩ hb hd hc
              have y8 : b 8 = true := hd ⟨8, .data⟩ (by simp) rfl
              have y12 : b 12 = true := hd ⟨12, .data⟩ (by simp) rfl
              have y5 : b 5 = true := hc 8 _ rfl y8 ⟨5, .data⟩ (by simp) rfl
              have n15 : b 15 = false := by
                cases h : b 15
                · rfl
                · have := hc 15 _ rfl h ⟨13, .data⟩ (by simp) rfl
                  simp_all
              have hBs : w2.heap.size ≤ w'.heap.size := hs.size
              have hcur := c8 y8 hb
              obtain ⟨g12, rfl, hh, -, -, l8⟩ := c12 y12 hb
              simp only [Act.put, List.setIfInBounds_toArray, List.set_cons_zero, List.set_cons_succ]
              intro K' hK
              refine step_append_row T24 (by rfl) (.tmp 38) (.tmp 42) (by rfl) (by rfl) hcur.row (by rfl) (Src.ofBlock T24 (c := 1) hh (by rfl) (by simp [Value.oneCell'])) (by simp [maxLen, four]) (by simp [four]) ?_
              intro v3 w3 hr3 hs3 hl3
              have g := hcur.grew (more := [n.kind]) hBs (Step.refl None w') hr3 hs3 hl3
              refine hK.out _ _ ⟨x2, x5, x8, _, v3, x14, rfl, hs.trans g.step (fun i hi hl => by have := hcur.base i hl; omega), ?_, ?_, ?_, ?_, ?_, ?_⟩
              · intro h h'
                simp [y5] at h'
              · intro h h'
                simp [y8] at h'
              · intro h h'
                simp at h'
              · intro _
                exact g.buf
              · intro h h'
                simp at h'
              · intro h
                obtain ⟨g14, y, hx, hh', hge, hy⟩ := c14 (by simpa using h)
                exact ⟨g14, y, hx, g.step.blk hh' (hcur.row.ne hh' (by decide)), hge, fun h => by simp [n15] at h⟩
            · rintro b a w' ⟨x2, x5, x8, x12, x13, x14, rfl, hs, c2, c5, c8, c13, c12, c14⟩ hb hd hc
              have n15 : b 15 = false := by
                cases h : b 15
                · rfl
                · have := hc 15 _ rfl h ⟨14, .data⟩ (by simp) rfl
                  simp_all
              simp only [Act.put, List.setIfInBounds_toArray, List.set_cons_zero, List.set_cons_succ]
              intro K' hK
              go_simp
              have e1 := (Step.refl None w').alloc (.cells #[.slice none 0 0] 34)
              refine hK.out _ _ ⟨x2, x5, x8, x12, x13, .pointer (some ⟨w'.heap.size, 0, none⟩), rfl, hs.alloc _, ?_, ?_, ?_, ?_, ?_, ?_⟩
              · intro h h'
                exact (c2 (by simpa using h) (by simpa using h')).still e1
              · intro h h'
                exact (c5 (by simpa using h) (by simpa using h')).still e1
              · intro h h'
                exact (c8 (by simpa using h) (by simpa using h')).still e1
              · intro h
                exact (c13 (by simpa using h)).still e1
              · intro h h'
                obtain ⟨g12, hx, hh, l2, l5, l8⟩ := c12 (by simpa using h) (by simpa using h')
                exact ⟨g12, hx, e1.blk hh (fun s => s.elim), fun h h' => l2 (by simpa using h) (by simpa using h'), fun h h' => l5 (by simpa using h) (by simpa using h'), fun h => l8 (by simpa using h)⟩
              · intro _
                exact ⟨_, _, rfl, heap_alloc_new _ _, hs.size, fun h => by simp [n15] at h⟩
            · rintro b a w' ⟨x2, x5, x8, x12, x13, x14, rfl, hs, c2, c5, c8, c13, c12, c14⟩ hb hd hc
              have y13 : b 13 = true := hd ⟨13, .data⟩ (by simp) rfl
              have y14 : b 14 = true := hd ⟨14, .data⟩ (by simp) rfl
              have y8 : b 8 = true := hc 13 _ rfl y13 ⟨8, .data⟩ (by simp) rfl
              have y5 : b 5 = true := hc 8 _ rfl y8 ⟨5, .data⟩ (by simp) rfl
              have hcur := c13 y13
              obtain ⟨g14, y, rfl, hh, hge, -⟩ := c14 y14
              obtain ⟨vo, vcap, rfl⟩ := hcur.form
              have hc14 := blk_cell hh 0
              have hf14 := blk_frozen hh 0
              simp only [Act.put, List.setIfInBounds_toArray, List.set_cons_zero, List.set_cons_succ]
              intro K' hK
              go_simp
              have e4 : Step (fun k => k = g14) w' (w'.setCell ⟨g14, 0, none⟩ (.slice vo (four ep ++ four sq ++ four ak ++ [n.kind]).length vcap)) := Step.setCell (S := fun k => k = g14) (Step.refl _ w') (p := ⟨g14, 0, none⟩) (fun _ => rfl) _
              refine hK.out _ _ ⟨x2, x5, x8, x12, _, _, rfl, hs.trans e4 (fun i hi hl => by omega), ?_, ?_, ?_, ?_, ?_, ?_⟩
              · intro h h'
                simp [y5] at h'
              · intro h h'
                simp [y8] at h'
              · intro h h'
                simp [y13] at h'
              · intro _
                exact hcur.step e4 fun k hk => by rintro rfl; exact hcur.row.ne hh (by decide) hk
              · intro h h'
                simp [y13] at h'
              · intro _
                exact ⟨_, _, rfl, by rw [blk_set hh 0 _]; rfl, hge, fun _ => rfl⟩

end Go.Proofs.YtgchepijbpcckaaDoor
