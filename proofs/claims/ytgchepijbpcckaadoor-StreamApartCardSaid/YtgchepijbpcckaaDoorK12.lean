/- The document's Encode: what it writes. -/
import Derived.Test.YtgchepijbpcckaaDoorK11
namespace Go.Proofs.YtgchepijbpcckaaDoor
open Go.RowKit Go.Gm

set_option linter.unusedSimpArgs false in
set_option linter.unusedVariables false in
set_option maxHeartbeats 8000000 in
theorem rencode_ok (ep sq ak : Int) (n : Note) (bo : Option Addr) (bc : Nat) (w : World) (hyes : okP ep sq ak n = true) (hb : Bytes w (.slice bo n.body.length bc) n.body) (hbl : n.body.length ≤ 10000) :
    Calls Tryd.prog 32 #[.agg (n.packet ep sq ak (.slice bo n.body.length bc))] w fun e w' => (∃ u, e = .returned (.tuple #[u, .int .i64 0]) ∧ Buf 5 w' w.heap.size u (enc ep sq ak n n.kind.toNat)) ∧ Step None w w' := by
  have hp := heap_alloc_new w (.cells (n.packet ep sq ak (.slice bo n.body.length bc)) 38)
  have P1 := Lib.hid hp
  have S1 := Lib.hid ((Step.refl None w).alloc (.cells (n.packet ep sq ak (.slice bo n.body.length bc)) 38))
  have HB := Lib.hid hb
  clear hp hb
  obtain ⟨hr, h1, h2, h3⟩ : right n = true ∧ isIn ep 0 1073741824 = true ∧ isIn sq 0 1073741824 = true ∧ isIn ak 0 1073741824 = true := by
    simp only [okP, Bool.and_eq_true, num] at hyes
    exact ⟨hyes.1.1.1, hyes.1.1.2, hyes.1.2, hyes.2⟩
  obtain ⟨k, hk, hk9⟩ : ∃ k : Nat, n.kind = k ∧ k < 9 := ⟨n.kind.toNat, by simp [right, isIn] at hr; omega⟩
  have b1 : 0 ≤ ep ∧ ep < 4294967296 := by simp [isIn] at h1; omega
  have b2 : 0 ≤ sq ∧ sq < 4294967296 := by simp [isIn] at h2; omega
  have b3 : 0 ≤ ak ∧ ak < 4294967296 := by simp [isIn] at h3; omega
  have hw8 : IntKind.u8.wrap n.kind = n.kind := by
    have : ∀ i : Fin 9, IntKind.u8.wrap ((i.val : Nat) : Int) = ((i.val : Nat) : Int) := by decide
    rw [hk]; exact this ⟨k, hk9⟩
  have rv : ∀ W, Calls Tryd.prog 48 #[.int .i64 n.kind] W fun e w' => e = .returned (.bool (hasB k 1)) ∧ W = w' := by rw [hk]; exact rhas_vlan k hk9
  have rm : ∀ W, Calls Tryd.prog 49 #[.int .i64 n.kind] W fun e w' => e = .returned (.bool (hasB k 2)) ∧ W = w' := by rw [hk]; exact rhas_mac k hk9
  have rp : ∀ W, Calls Tryd.prog 50 #[.int .i64 n.kind] W fun e w' => e = .returned (.bool (hasB k 4)) ∧ W = w' := by rw [hk]; exact rhas_port k hk9
  have rs : ∀ W, Calls Tryd.prog 51 #[.int .i64 n.kind] W fun e w' => e = .returned (.bool (hasB k 8)) ∧ W = w' := by rw [hk]; exact rhas_state k hk9
  have rb : ∀ W, Calls Tryd.prog 52 #[.int .i64 n.kind] W fun e w' => e = .returned (.bool (hasB k 16)) ∧ W = w' := by rw [hk]; exact rhas_body k hk9
  have rng := Lib.hid (right_range n k hk hr)
  have hpat := has_pats k hk9
  have HK := Lib.hid hk
  have k0 : (0 : Int) ≤ n.kind := by omega
  have k9 : n.kind < 9 := by omega
  have B1 := Lib.hid b1
  have B2 := Lib.hid b2
  have B3 := Lib.hid b3
  have R := Lib.hid hr
  clear hyes hk b1 b2 b3
  unfold Note.packet at *
  go_enter Tryd.func32, Tryd.ntmps32
  go_wp2_with fail
  refine (rright_any n bo bc _).mono ?_
  rintro e w2 ⟨rfl, s2⟩
  have P2 := Lib.hid (s2.blk P1.out (fun s => s.elim))
  have S2 := Lib.hid (S1.out.then_ s2)
  clear s2
  have p0 := blk_cell P2.out 0
  have p1 := blk_cell P2.out 1
  have p2 := blk_cell P2.out 2
  have p3 := blk_cell P2.out 3
  have p4 := blk_cell P2.out 4
  have p5 := blk_cell P2.out 5
  have p6 := blk_cell P2.out 6
  have p7 := blk_cell P2.out 7
  have p8 := blk_cell P2.out 8
  have p9 := blk_cell P2.out 9
  have p10 := blk_cell P2.out 10
  have p11 := blk_cell P2.out 11
  have p12 := blk_cell P2.out 12
  have p13 := blk_cell P2.out 13
  simp only [List.getElem?_toArray, List.getElem?_cons_zero, List.getElem?_cons_succ] at p0 p1 p2 p3 p4 p5 p6 p7 p8 p9 p10 p11 p12 p13
  clear P1 S1
  rw [R.out]
  clear hr
  go_wp2_with fail
  refine (rwithin_any _ _ _ _).mono ?_
  rintro e w3 ⟨rfl, rfl⟩
  go_wp2_with fail
  refine (rwithin_any _ _ _ _).mono ?_
  rintro e w3 ⟨rfl, rfl⟩
  go_wp2_with fail
  refine (rwithin_any _ _ _ _).mono ?_
  rintro e w3 ⟨rfl, rfl⟩
  go_wp2_with fail
  have N3 : Hid (((w2.alloc (.cells (n.cells (.slice bo n.body.length bc)) 36))).heap[w2.heap.size]? = some (.cells (n.cells (.slice bo n.body.length bc)) 36 (0, 0))) := heap_alloc_new w2 _
  have S3 := Lib.hid (S2.out.alloc (.cells (n.cells (.slice bo n.body.length bc)) 36))
  have K : Hid (∀ w', Step None w2 w' → w'.cell? ⟨w.heap.size, 0, none⟩ = some (.int .i64 ep) ∧ w'.cell? ⟨w.heap.size, 1, none⟩ = some (.int .i64 sq)) := fun w' h' =>
    ⟨blk_cell (h'.blk P2.out (fun s => s.elim)) 0, blk_cell (h'.blk P2.out (fun s => s.elim)) 1⟩
  unfold Note.cells at *
  refine wp_region_plan (fun w' => w'.cell? ⟨w.heap.size, 0, none⟩ = some (.int .i64 ep) ∧ w'.cell? ⟨w.heap.size, 1, none⟩ = some (.int .i64 sq)) (.take 0 (.take 1 (.take 3 (.take 4 (.alt 2 (.alt 5 (.alt 6 (.take 7 .done) .none) .none) .none))))) _
    (by simp only [Plan.map, opOf, List.getElem?_toArray, List.getElem?_cons_zero, List.getElem?_cons_succ, Option.getD_some]; rfl) (by kernel_rfl) (by kernel_rfl) (by kernel_rfl) (by decide) (by intro c a d v w; cases d <;> exact fun h => h) (K.out _ (((Step.refl None w2).alloc _).drew)) ?_
  repeat (refine wpPlan.taken (by rfl) (by intro w' hS'; (try dsimp only at hS'); go_split_ands; go_simp; try with_reducible rfl) ?_; simp only [Act.put, List.setIfInBounds_toArray, List.set_cons_zero, List.set_cons_succ])
  have E3 : Step None w2 ((w2.alloc (.cells #[.int .i64 n.kind, .int .i64 n.vlan, .int .u8 n.m0, .int .u8 n.m1, .int .u8 n.m2, .int .u8 n.m3, .int .u8 n.m4, .int .u8 n.m5, .int .i64 n.port, .int .i64 n.state, .slice bo n.body.length bc] 36)).drew) := ((Step.refl None w2).alloc _).drew
  refine wpPlan.runs fun K' hK => ?_
  go_simp
  refine (number_four ep _ B1.out.1 B1.out.2).mono ?_
  rintro e w4 ⟨u4, rfl, f4, s4⟩
  have e4 := E3.then_ s4
  refine hK.out _ _ (K.out _ e4) ?_
  clear hK K'
  refine wpPlan.runs fun K' hK => ?_
  go_simp
  refine (number_four sq w4 B2.out.1 B2.out.2).mono ?_
  rintro e w5 ⟨u5, rfl, f5, s5⟩
  have e5 := e4.then_ s5
  refine hK.out _ _ (K.out _ e5) ?_
  clear hK K'
  have f4' := f4.still s5
  refine wpPlan.runs fun K' hK => ?_
  refine step_append_row T24 (by rfl) (.tmp 35) (.tmp 38) (by rfl) (by rfl) f4'.row (by rfl) (Row.src T24 f5.row (nums_one _ _)) (by simp [maxLen, four]) (by simp [four]) ?_
  intro v6 w6 hr6 hs6 hl6
  have g6 := f4'.grew (more := four sq) (by have := s4.size; have := s5.size; omega) (Step.refl None w5) hr6 hs6 hl6
  have e6 : Step None w2 w6 := e5.trans hs6 fun i hi hl => by have := f4'.base i hl; have := E3.size; omega
  have hE : Hid (REnc w w6 w2.heap.size n bo bc v6 (four ep ++ four sq)) := by
    refine ⟨?_, ⟨g6.buf.row, fun j hj => by have := g6.buf.base j hj; have := S2.out.size; have := E3.size; omega⟩, S2.out.then_ e6⟩
    have q1 : NoteAt w5 w2.heap.size n (.slice bo n.body.length bc) := s5.blk (s4.blk N3.out (fun s => s.elim)) (fun s => s.elim)
    exact hs6.blk q1 (f4'.row.ne q1 (by decide))
  have q2 : w6.cell? ⟨w.heap.size, 2, none⟩ = some (.int .i64 ak) := blk_cell (e6.blk P2.out (fun s => s.elim)) 2
  refine hK.out _ _ (K.out _ e6) ?_
  clear hK K' f4 f4' f5 s4 s5 e4 e5 e6 g6 hr6 hs6 hl6 E3
  repeat (refine wpPlan.taken (by rfl) (by intro w' hS'; (try dsimp only at hS'); go_split_ands; go_simp; try with_reducible rfl) ?_; simp only [Act.put, List.setIfInBounds_toArray, List.set_cons_zero, List.set_cons_succ])
  refine wpPlan.done ?_
  go_wp2_with fail
  -- TAIL
  refine (number_four ak _ B3.out.1 B3.out.2).mono ?_
  rintro e w20 ⟨u20, rfl, f20, s20⟩
  have hE20 := Lib.hid (hE.out.still s20)
  have FB20 := Lib.hid f20
  clear s20 f20 hE
  go_wp2_with (first | (at_builtin; refine wpList_append_row T24 rfl (.tmp 40) (.tmp 43) rfl rfl hE20.out.buf.row rfl (Row.src T24 FB20.out.row (nums_one _ _)) ?ha21 ?hb21 ?_))
  case ha21 => simp [maxLen, two, four, Note.mac]
  case hb21 => simp [two, four, Note.mac]
  intro v21 w21 hr21 hs21 hl21
  have hE21 := Lib.hid (hE20.out.more (more := four ak) hr21 hs21 hl21)
  clear hr21 hs21 hl21 FB20 hE20
  have c0 := blk_cell hE21.out.note 0
  simp only [Note.cells, List.getElem?_toArray, List.getElem?_cons_zero, List.getElem?_cons_succ] at c0
  go_wp2_with (first | (at_builtin; refine wpList_append_row T24 rfl (.tmp 45) (.tmp 49) rfl rfl (hE21.out.buf.row.alloc _) rfl (Src.ofBlock T24 (c := 1) (heap_alloc_new w21 (.cells #[.int .u8 (n.kind)] 5)) (by rfl) (by simp [Value.oneCell'])) ?ha22 ?hb22 ?_))
  case ha22 => simp [maxLen, two, four, Note.mac]
  case hb22 => simp [two, four, Note.mac]
  intro v22 w22 hr22 hs22 hl22
  have hE22 := Lib.hid ((hE21.out.still ((Step.refl None w21).alloc (.cells #[.int .u8 (n.kind)] 5))).more (more := [n.kind]) hr22 hs22 (by simpa using hl22))
  clear hr22 hs22 hl22 hE21
  clear c0
  have c0 := blk_cell hE22.out.note 0
  have c1 := blk_cell hE22.out.note 1
  simp only [Note.cells, List.getElem?_toArray, List.getElem?_cons_zero, List.getElem?_cons_succ] at c0 c1
  go_wp2_with fail
  refine (rv _).mono ?_
  rintro e w0 ⟨rfl, rfl⟩
  rcases hpat with ⟨hv, hm, hp, hq, hb⟩ | ⟨hv, hm, hp, hq, hb⟩ | ⟨hv, hm, hp, hq, hb⟩ | ⟨hv, hm, hp, hq, hb⟩ | ⟨hv, hm, hp, hq, hb⟩ | ⟨hv, hm, hp, hq, hb⟩ | ⟨hv, hm, hp, hq, hb⟩
  · rw [hv]
    go_wp2_with fail
    go_loopw [6, 7] (fun vb i wr => vb = v22 ∧ i = .int .i64 0 ∧ wr = w22) (fun _ i _ => 6 - (intOf i).toNat)
    case atStart => exact ⟨rfl, rfl, rfl⟩
    case round =>
      obtain ⟨rfl, rfl, rfl⟩ := hrel
      go_wp2_with fail
      refine (rm _).mono ?_
      rintro e w0 ⟨rfl, rfl⟩
      rw [hm]
      go_wp2_with fail
      refine (rp _).mono ?_
      rintro e w0 ⟨rfl, rfl⟩
      rw [hp]
      go_wp2_with fail
      refine (rs _).mono ?_
      rintro e w0 ⟨rfl, rfl⟩
      rw [hq]
      go_wp2_with fail
      refine (rb _).mono ?_
      rintro e w0 ⟨rfl, rfl⟩
      rw [hb]
      go_wp2_with fail
      go_ret2
      exact ⟨⟨_, rfl, by have e1 : n.kind.toNat = k := (by have := HK.out; omega); have e2 : n.kind = (k : Int) := HK.out; have hE := hE22.out.buf; rw [e2] at hE; simpa [enc, e1, hv, hm, hp, hq, hb, Note.mac] using hE⟩, hE22.out.st⟩
  · rw [hv]
    go_wp2_with fail
    clear c0 c1
    refine (number_two n.vlan _ rng.out.1.1 (by have := rng.out.1.2; omega)).mono ?_
    rintro e w23 ⟨u23, rfl, f23, s23⟩
    have hE23 := Lib.hid (hE22.out.still s23)
    have FB23 := Lib.hid f23
    clear s23 f23 hE22
    go_wp2_with (first | (at_builtin; refine wpList_append_row T24 rfl (.tmp 54) (.tmp 57) rfl rfl hE23.out.buf.row rfl (Row.src T24 FB23.out.row (nums_one _ _)) ?ha24 ?hb24 ?_))
    case ha24 => simp [maxLen, two, four, Note.mac]
    case hb24 => simp [two, four, Note.mac]
    intro v24 w24 hr24 hs24 hl24
    have hE24 := Lib.hid (hE23.out.more (more := two n.vlan) hr24 hs24 hl24)
    clear hr24 hs24 hl24 FB23 hE23
    have c0 := blk_cell hE24.out.note 0
    simp only [Note.cells, List.getElem?_toArray, List.getElem?_cons_zero, List.getElem?_cons_succ] at c0
    go_wp2_with fail
    go_loopw [6, 7] (fun vb i wr => (i = .int .i64 0 ∧ Hid (REnc w wr w2.heap.size n bo bc vb (four ep ++ four sq ++ four ak ++ [n.kind] ++ two n.vlan))) ∨ (i = .int .i64 1 ∧ Hid (REnc w wr w2.heap.size n bo bc vb (four ep ++ four sq ++ four ak ++ [n.kind] ++ two n.vlan ++ [n.m0]))) ∨ (i = .int .i64 2 ∧ Hid (REnc w wr w2.heap.size n bo bc vb (four ep ++ four sq ++ four ak ++ [n.kind] ++ two n.vlan ++ [n.m0] ++ [n.m1]))) ∨ (i = .int .i64 3 ∧ Hid (REnc w wr w2.heap.size n bo bc vb (four ep ++ four sq ++ four ak ++ [n.kind] ++ two n.vlan ++ [n.m0] ++ [n.m1] ++ [n.m2]))) ∨ (i = .int .i64 4 ∧ Hid (REnc w wr w2.heap.size n bo bc vb (four ep ++ four sq ++ four ak ++ [n.kind] ++ two n.vlan ++ [n.m0] ++ [n.m1] ++ [n.m2] ++ [n.m3]))) ∨ (i = .int .i64 5 ∧ Hid (REnc w wr w2.heap.size n bo bc vb (four ep ++ four sq ++ four ak ++ [n.kind] ++ two n.vlan ++ [n.m0] ++ [n.m1] ++ [n.m2] ++ [n.m3] ++ [n.m4]))) ∨ (i = .int .i64 6 ∧ Hid (REnc w wr w2.heap.size n bo bc vb (four ep ++ four sq ++ four ak ++ [n.kind] ++ two n.vlan ++ [n.m0] ++ [n.m1] ++ [n.m2] ++ [n.m3] ++ [n.m4] ++ [n.m5])))) (fun _ i _ => 6 - (intOf i).toNat)
    case atStart => exact .inl ⟨rfl, hE24⟩
    case round =>
      clear hE24 c0
      rcases hrel with ⟨rfl, hEr⟩ | ⟨rfl, hEr⟩ | ⟨rfl, hEr⟩ | ⟨rfl, hEr⟩ | ⟨rfl, hEr⟩ | ⟨rfl, hEr⟩ | ⟨rfl, hEr⟩
      · have c0 := blk_cell hEr.out.note 0
        have c2 := blk_cell hEr.out.note 2
        simp only [Note.cells, List.getElem?_toArray, List.getElem?_cons_zero, List.getElem?_cons_succ] at c0 c2
        go_wp2_with fail
        refine (rm _).mono ?_
        rintro e w0 ⟨rfl, rfl⟩
        rw [hm]
        go_wp2_with (first | (at_builtin; refine wpList_append_row T24 rfl (.tmp 68) (.tmp 73) rfl rfl (hEr.out.buf.row.alloc _) rfl (Src.ofBlock T24 (c := 1) (heap_alloc_new _ (.cells #[.int .u8 (n.m0)] 5)) (by rfl) (by simp [Value.oneCell'])) ?ha25 ?hb25 ?_))
        case ha25 => simp [maxLen, two, four, Note.mac]
        case hb25 => simp [two, four, Note.mac]
        intro v25 w25 hr25 hs25 hl25
        have hE25 := Lib.hid ((hEr.out.still ((Step.refl None _).alloc (.cells #[.int .u8 (n.m0)] 5))).more (more := [n.m0]) hr25 hs25 (by simpa using hl25))
        clear hr25 hs25 hl25 hEr
        go_wp2_with fail
        go_roundw
        case rel => exact .inr (.inl ⟨rfl, hE25⟩)
        case measure => simp [intOf]
      · have c0 := blk_cell hEr.out.note 0
        have c3 := blk_cell hEr.out.note 3
        simp only [Note.cells, List.getElem?_toArray, List.getElem?_cons_zero, List.getElem?_cons_succ] at c0 c3
        go_wp2_with fail
        refine (rm _).mono ?_
        rintro e w0 ⟨rfl, rfl⟩
        rw [hm]
        go_wp2_with (first | (at_builtin; refine wpList_append_row T24 rfl (.tmp 68) (.tmp 73) rfl rfl (hEr.out.buf.row.alloc _) rfl (Src.ofBlock T24 (c := 1) (heap_alloc_new _ (.cells #[.int .u8 (n.m1)] 5)) (by rfl) (by simp [Value.oneCell'])) ?ha25 ?hb25 ?_))
        case ha25 => simp [maxLen, two, four, Note.mac]
        case hb25 => simp [two, four, Note.mac]
        intro v25 w25 hr25 hs25 hl25
        have hE25 := Lib.hid ((hEr.out.still ((Step.refl None _).alloc (.cells #[.int .u8 (n.m1)] 5))).more (more := [n.m1]) hr25 hs25 (by simpa using hl25))
        clear hr25 hs25 hl25 hEr
        go_wp2_with fail
        go_roundw
        case rel => exact .inr (.inr (.inl ⟨rfl, hE25⟩))
        case measure => simp [intOf]
      · have c0 := blk_cell hEr.out.note 0
        have c4 := blk_cell hEr.out.note 4
        simp only [Note.cells, List.getElem?_toArray, List.getElem?_cons_zero, List.getElem?_cons_succ] at c0 c4
        go_wp2_with fail
        refine (rm _).mono ?_
        rintro e w0 ⟨rfl, rfl⟩
        rw [hm]
        go_wp2_with (first | (at_builtin; refine wpList_append_row T24 rfl (.tmp 68) (.tmp 73) rfl rfl (hEr.out.buf.row.alloc _) rfl (Src.ofBlock T24 (c := 1) (heap_alloc_new _ (.cells #[.int .u8 (n.m2)] 5)) (by rfl) (by simp [Value.oneCell'])) ?ha25 ?hb25 ?_))
        case ha25 => simp [maxLen, two, four, Note.mac]
        case hb25 => simp [two, four, Note.mac]
        intro v25 w25 hr25 hs25 hl25
        have hE25 := Lib.hid ((hEr.out.still ((Step.refl None _).alloc (.cells #[.int .u8 (n.m2)] 5))).more (more := [n.m2]) hr25 hs25 (by simpa using hl25))
        clear hr25 hs25 hl25 hEr
        go_wp2_with fail
        go_roundw
        case rel => exact .inr (.inr (.inr (.inl ⟨rfl, hE25⟩)))
        case measure => simp [intOf]
      · have c0 := blk_cell hEr.out.note 0
        have c5 := blk_cell hEr.out.note 5
        simp only [Note.cells, List.getElem?_toArray, List.getElem?_cons_zero, List.getElem?_cons_succ] at c0 c5
        go_wp2_with fail
        refine (rm _).mono ?_
        rintro e w0 ⟨rfl, rfl⟩
        rw [hm]
        go_wp2_with (first | (at_builtin; refine wpList_append_row T24 rfl (.tmp 68) (.tmp 73) rfl rfl (hEr.out.buf.row.alloc _) rfl (Src.ofBlock T24 (c := 1) (heap_alloc_new _ (.cells #[.int .u8 (n.m3)] 5)) (by rfl) (by simp [Value.oneCell'])) ?ha25 ?hb25 ?_))
        case ha25 => simp [maxLen, two, four, Note.mac]
        case hb25 => simp [two, four, Note.mac]
        intro v25 w25 hr25 hs25 hl25
        have hE25 := Lib.hid ((hEr.out.still ((Step.refl None _).alloc (.cells #[.int .u8 (n.m3)] 5))).more (more := [n.m3]) hr25 hs25 (by simpa using hl25))
        clear hr25 hs25 hl25 hEr
        go_wp2_with fail
        go_roundw
        case rel => exact .inr (.inr (.inr (.inr (.inl ⟨rfl, hE25⟩))))
        case measure => simp [intOf]
      · have c0 := blk_cell hEr.out.note 0
        have c6 := blk_cell hEr.out.note 6
        simp only [Note.cells, List.getElem?_toArray, List.getElem?_cons_zero, List.getElem?_cons_succ] at c0 c6
        go_wp2_with fail
        refine (rm _).mono ?_
        rintro e w0 ⟨rfl, rfl⟩
        rw [hm]
        go_wp2_with (first | (at_builtin; refine wpList_append_row T24 rfl (.tmp 68) (.tmp 73) rfl rfl (hEr.out.buf.row.alloc _) rfl (Src.ofBlock T24 (c := 1) (heap_alloc_new _ (.cells #[.int .u8 (n.m4)] 5)) (by rfl) (by simp [Value.oneCell'])) ?ha25 ?hb25 ?_))
        case ha25 => simp [maxLen, two, four, Note.mac]
        case hb25 => simp [two, four, Note.mac]
        intro v25 w25 hr25 hs25 hl25
        have hE25 := Lib.hid ((hEr.out.still ((Step.refl None _).alloc (.cells #[.int .u8 (n.m4)] 5))).more (more := [n.m4]) hr25 hs25 (by simpa using hl25))
        clear hr25 hs25 hl25 hEr
        go_wp2_with fail
        go_roundw
        case rel => exact .inr (.inr (.inr (.inr (.inr (.inl ⟨rfl, hE25⟩)))))
        case measure => simp [intOf]
      · have c0 := blk_cell hEr.out.note 0
        have c7 := blk_cell hEr.out.note 7
        simp only [Note.cells, List.getElem?_toArray, List.getElem?_cons_zero, List.getElem?_cons_succ] at c0 c7
        go_wp2_with fail
        refine (rm _).mono ?_
        rintro e w0 ⟨rfl, rfl⟩
        rw [hm]
        go_wp2_with (first | (at_builtin; refine wpList_append_row T24 rfl (.tmp 68) (.tmp 73) rfl rfl (hEr.out.buf.row.alloc _) rfl (Src.ofBlock T24 (c := 1) (heap_alloc_new _ (.cells #[.int .u8 (n.m5)] 5)) (by rfl) (by simp [Value.oneCell'])) ?ha25 ?hb25 ?_))
        case ha25 => simp [maxLen, two, four, Note.mac]
        case hb25 => simp [two, four, Note.mac]
        intro v25 w25 hr25 hs25 hl25
        have hE25 := Lib.hid ((hEr.out.still ((Step.refl None _).alloc (.cells #[.int .u8 (n.m5)] 5))).more (more := [n.m5]) hr25 hs25 (by simpa using hl25))
        clear hr25 hs25 hl25 hEr
        go_wp2_with fail
        go_roundw
        case rel => exact .inr (.inr (.inr (.inr (.inr (.inr (⟨rfl, hE25⟩))))))
        case measure => simp [intOf]
      · have c0 := blk_cell hEr.out.note 0
        simp only [Note.cells, List.getElem?_toArray, List.getElem?_cons_zero, List.getElem?_cons_succ] at c0
        go_wp2_with fail
        refine (rp _).mono ?_
        rintro e w0 ⟨rfl, rfl⟩
        rw [hp]
        have c8 := blk_cell hEr.out.note 8
        simp only [Note.cells, List.getElem?_toArray, List.getElem?_cons_zero, List.getElem?_cons_succ] at c8
        go_wp2_with fail
        clear c0 c8
        refine (number_two n.port _ rng.out.2.1.1 (by have := rng.out.2.1.2; omega)).mono ?_
        rintro e w25 ⟨u25, rfl, f25, s25⟩
        have hE25 := Lib.hid (hEr.out.still s25)
        have FB25 := Lib.hid f25
        clear s25 f25 hEr
        go_wp2_with (first | (at_builtin; refine wpList_append_row T24 rfl (.tmp 78) (.tmp 81) rfl rfl hE25.out.buf.row rfl (Row.src T24 FB25.out.row (nums_one _ _)) ?ha26 ?hb26 ?_))
        case ha26 => simp [maxLen, two, four, Note.mac]
        case hb26 => simp [two, four, Note.mac]
        intro v26 w26 hr26 hs26 hl26
        have hE26 := Lib.hid (hE25.out.more (more := two n.port) hr26 hs26 hl26)
        clear hr26 hs26 hl26 FB25 hE25
        have c0 := blk_cell hE26.out.note 0
        simp only [Note.cells, List.getElem?_toArray, List.getElem?_cons_zero, List.getElem?_cons_succ] at c0
        go_wp2_with fail
        refine (rs _).mono ?_
        rintro e w0 ⟨rfl, rfl⟩
        rw [hq]
        go_wp2_with fail
        refine (rb _).mono ?_
        rintro e w0 ⟨rfl, rfl⟩
        rw [hb]
        go_wp2_with fail
        go_ret2
        exact ⟨⟨_, rfl, by have e1 : n.kind.toNat = k := (by have := HK.out; omega); have e2 : n.kind = (k : Int) := HK.out; have hE := hE26.out.buf; rw [e2] at hE; simpa [enc, e1, hv, hm, hp, hq, hb, Note.mac] using hE⟩, hE26.out.st⟩
  · rw [hv]
    go_wp2_with fail
    clear c0 c1
    refine (number_two n.vlan _ rng.out.1.1 (by have := rng.out.1.2; omega)).mono ?_
    rintro e w23 ⟨u23, rfl, f23, s23⟩
    have hE23 := Lib.hid (hE22.out.still s23)
    have FB23 := Lib.hid f23
    clear s23 f23 hE22
    go_wp2_with (first | (at_builtin; refine wpList_append_row T24 rfl (.tmp 54) (.tmp 57) rfl rfl hE23.out.buf.row rfl (Row.src T24 FB23.out.row (nums_one _ _)) ?ha24 ?hb24 ?_))
    case ha24 => simp [maxLen, two, four, Note.mac]
    case hb24 => simp [two, four, Note.mac]
    intro v24 w24 hr24 hs24 hl24
    have hE24 := Lib.hid (hE23.out.more (more := two n.vlan) hr24 hs24 hl24)
    clear hr24 hs24 hl24 FB23 hE23
    have c0 := blk_cell hE24.out.note 0
    simp only [Note.cells, List.getElem?_toArray, List.getElem?_cons_zero, List.getElem?_cons_succ] at c0
    go_wp2_with fail
    go_loopw [6, 7] (fun vb i wr => (i = .int .i64 0 ∧ Hid (REnc w wr w2.heap.size n bo bc vb (four ep ++ four sq ++ four ak ++ [n.kind] ++ two n.vlan))) ∨ (i = .int .i64 1 ∧ Hid (REnc w wr w2.heap.size n bo bc vb (four ep ++ four sq ++ four ak ++ [n.kind] ++ two n.vlan ++ [n.m0]))) ∨ (i = .int .i64 2 ∧ Hid (REnc w wr w2.heap.size n bo bc vb (four ep ++ four sq ++ four ak ++ [n.kind] ++ two n.vlan ++ [n.m0] ++ [n.m1]))) ∨ (i = .int .i64 3 ∧ Hid (REnc w wr w2.heap.size n bo bc vb (four ep ++ four sq ++ four ak ++ [n.kind] ++ two n.vlan ++ [n.m0] ++ [n.m1] ++ [n.m2]))) ∨ (i = .int .i64 4 ∧ Hid (REnc w wr w2.heap.size n bo bc vb (four ep ++ four sq ++ four ak ++ [n.kind] ++ two n.vlan ++ [n.m0] ++ [n.m1] ++ [n.m2] ++ [n.m3]))) ∨ (i = .int .i64 5 ∧ Hid (REnc w wr w2.heap.size n bo bc vb (four ep ++ four sq ++ four ak ++ [n.kind] ++ two n.vlan ++ [n.m0] ++ [n.m1] ++ [n.m2] ++ [n.m3] ++ [n.m4]))) ∨ (i = .int .i64 6 ∧ Hid (REnc w wr w2.heap.size n bo bc vb (four ep ++ four sq ++ four ak ++ [n.kind] ++ two n.vlan ++ [n.m0] ++ [n.m1] ++ [n.m2] ++ [n.m3] ++ [n.m4] ++ [n.m5])))) (fun _ i _ => 6 - (intOf i).toNat)
    case atStart => exact .inl ⟨rfl, hE24⟩
    case round =>
      clear hE24 c0
      rcases hrel with ⟨rfl, hEr⟩ | ⟨rfl, hEr⟩ | ⟨rfl, hEr⟩ | ⟨rfl, hEr⟩ | ⟨rfl, hEr⟩ | ⟨rfl, hEr⟩ | ⟨rfl, hEr⟩
      · have c0 := blk_cell hEr.out.note 0
        have c2 := blk_cell hEr.out.note 2
        simp only [Note.cells, List.getElem?_toArray, List.getElem?_cons_zero, List.getElem?_cons_succ] at c0 c2
        go_wp2_with fail
        refine (rm _).mono ?_
        rintro e w0 ⟨rfl, rfl⟩
        rw [hm]
        go_wp2_with (first | (at_builtin; refine wpList_append_row T24 rfl (.tmp 68) (.tmp 73) rfl rfl (hEr.out.buf.row.alloc _) rfl (Src.ofBlock T24 (c := 1) (heap_alloc_new _ (.cells #[.int .u8 (n.m0)] 5)) (by rfl) (by simp [Value.oneCell'])) ?ha25 ?hb25 ?_))
        case ha25 => simp [maxLen, two, four, Note.mac]
        case hb25 => simp [two, four, Note.mac]
        intro v25 w25 hr25 hs25 hl25
        have hE25 := Lib.hid ((hEr.out.still ((Step.refl None _).alloc (.cells #[.int .u8 (n.m0)] 5))).more (more := [n.m0]) hr25 hs25 (by simpa using hl25))
        clear hr25 hs25 hl25 hEr
        go_wp2_with fail
        go_roundw
        case rel => exact .inr (.inl ⟨rfl, hE25⟩)
        case measure => simp [intOf]
      · have c0 := blk_cell hEr.out.note 0
        have c3 := blk_cell hEr.out.note 3
        simp only [Note.cells, List.getElem?_toArray, List.getElem?_cons_zero, List.getElem?_cons_succ] at c0 c3
        go_wp2_with fail
        refine (rm _).mono ?_
        rintro e w0 ⟨rfl, rfl⟩
        rw [hm]
        go_wp2_with (first | (at_builtin; refine wpList_append_row T24 rfl (.tmp 68) (.tmp 73) rfl rfl (hEr.out.buf.row.alloc _) rfl (Src.ofBlock T24 (c := 1) (heap_alloc_new _ (.cells #[.int .u8 (n.m1)] 5)) (by rfl) (by simp [Value.oneCell'])) ?ha25 ?hb25 ?_))
        case ha25 => simp [maxLen, two, four, Note.mac]
        case hb25 => simp [two, four, Note.mac]
        intro v25 w25 hr25 hs25 hl25
        have hE25 := Lib.hid ((hEr.out.still ((Step.refl None _).alloc (.cells #[.int .u8 (n.m1)] 5))).more (more := [n.m1]) hr25 hs25 (by simpa using hl25))
        clear hr25 hs25 hl25 hEr
        go_wp2_with fail
        go_roundw
        case rel => exact .inr (.inr (.inl ⟨rfl, hE25⟩))
        case measure => simp [intOf]
      · have c0 := blk_cell hEr.out.note 0
        have c4 := blk_cell hEr.out.note 4
        simp only [Note.cells, List.getElem?_toArray, List.getElem?_cons_zero, List.getElem?_cons_succ] at c0 c4
        go_wp2_with fail
        refine (rm _).mono ?_
        rintro e w0 ⟨rfl, rfl⟩
        rw [hm]
        go_wp2_with (first | (at_builtin; refine wpList_append_row T24 rfl (.tmp 68) (.tmp 73) rfl rfl (hEr.out.buf.row.alloc _) rfl (Src.ofBlock T24 (c := 1) (heap_alloc_new _ (.cells #[.int .u8 (n.m2)] 5)) (by rfl) (by simp [Value.oneCell'])) ?ha25 ?hb25 ?_))
        case ha25 => simp [maxLen, two, four, Note.mac]
        case hb25 => simp [two, four, Note.mac]
        intro v25 w25 hr25 hs25 hl25
        have hE25 := Lib.hid ((hEr.out.still ((Step.refl None _).alloc (.cells #[.int .u8 (n.m2)] 5))).more (more := [n.m2]) hr25 hs25 (by simpa using hl25))
        clear hr25 hs25 hl25 hEr
        go_wp2_with fail
        go_roundw
        case rel => exact .inr (.inr (.inr (.inl ⟨rfl, hE25⟩)))
        case measure => simp [intOf]
      · have c0 := blk_cell hEr.out.note 0
        have c5 := blk_cell hEr.out.note 5
        simp only [Note.cells, List.getElem?_toArray, List.getElem?_cons_zero, List.getElem?_cons_succ] at c0 c5
        go_wp2_with fail
        refine (rm _).mono ?_
        rintro e w0 ⟨rfl, rfl⟩
        rw [hm]
        go_wp2_with (first | (at_builtin; refine wpList_append_row T24 rfl (.tmp 68) (.tmp 73) rfl rfl (hEr.out.buf.row.alloc _) rfl (Src.ofBlock T24 (c := 1) (heap_alloc_new _ (.cells #[.int .u8 (n.m3)] 5)) (by rfl) (by simp [Value.oneCell'])) ?ha25 ?hb25 ?_))
        case ha25 => simp [maxLen, two, four, Note.mac]
        case hb25 => simp [two, four, Note.mac]
        intro v25 w25 hr25 hs25 hl25
        have hE25 := Lib.hid ((hEr.out.still ((Step.refl None _).alloc (.cells #[.int .u8 (n.m3)] 5))).more (more := [n.m3]) hr25 hs25 (by simpa using hl25))
        clear hr25 hs25 hl25 hEr
        go_wp2_with fail
        go_roundw
        case rel => exact .inr (.inr (.inr (.inr (.inl ⟨rfl, hE25⟩))))
        case measure => simp [intOf]
      · have c0 := blk_cell hEr.out.note 0
        have c6 := blk_cell hEr.out.note 6
        simp only [Note.cells, List.getElem?_toArray, List.getElem?_cons_zero, List.getElem?_cons_succ] at c0 c6
        go_wp2_with fail
        refine (rm _).mono ?_
        rintro e w0 ⟨rfl, rfl⟩
        rw [hm]
        go_wp2_with (first | (at_builtin; refine wpList_append_row T24 rfl (.tmp 68) (.tmp 73) rfl rfl (hEr.out.buf.row.alloc _) rfl (Src.ofBlock T24 (c := 1) (heap_alloc_new _ (.cells #[.int .u8 (n.m4)] 5)) (by rfl) (by simp [Value.oneCell'])) ?ha25 ?hb25 ?_))
        case ha25 => simp [maxLen, two, four, Note.mac]
        case hb25 => simp [two, four, Note.mac]
        intro v25 w25 hr25 hs25 hl25
        have hE25 := Lib.hid ((hEr.out.still ((Step.refl None _).alloc (.cells #[.int .u8 (n.m4)] 5))).more (more := [n.m4]) hr25 hs25 (by simpa using hl25))
        clear hr25 hs25 hl25 hEr
        go_wp2_with fail
        go_roundw
        case rel => exact .inr (.inr (.inr (.inr (.inr (.inl ⟨rfl, hE25⟩)))))
        case measure => simp [intOf]
      · have c0 := blk_cell hEr.out.note 0
        have c7 := blk_cell hEr.out.note 7
        simp only [Note.cells, List.getElem?_toArray, List.getElem?_cons_zero, List.getElem?_cons_succ] at c0 c7
        go_wp2_with fail
        refine (rm _).mono ?_
        rintro e w0 ⟨rfl, rfl⟩
        rw [hm]
        go_wp2_with (first | (at_builtin; refine wpList_append_row T24 rfl (.tmp 68) (.tmp 73) rfl rfl (hEr.out.buf.row.alloc _) rfl (Src.ofBlock T24 (c := 1) (heap_alloc_new _ (.cells #[.int .u8 (n.m5)] 5)) (by rfl) (by simp [Value.oneCell'])) ?ha25 ?hb25 ?_))
        case ha25 => simp [maxLen, two, four, Note.mac]
        case hb25 => simp [two, four, Note.mac]
        intro v25 w25 hr25 hs25 hl25
        have hE25 := Lib.hid ((hEr.out.still ((Step.refl None _).alloc (.cells #[.int .u8 (n.m5)] 5))).more (more := [n.m5]) hr25 hs25 (by simpa using hl25))
        clear hr25 hs25 hl25 hEr
        go_wp2_with fail
        go_roundw
        case rel => exact .inr (.inr (.inr (.inr (.inr (.inr (⟨rfl, hE25⟩))))))
        case measure => simp [intOf]
      · have c0 := blk_cell hEr.out.note 0
        simp only [Note.cells, List.getElem?_toArray, List.getElem?_cons_zero, List.getElem?_cons_succ] at c0
        go_wp2_with fail
        refine (rp _).mono ?_
        rintro e w0 ⟨rfl, rfl⟩
        rw [hp]
        go_wp2_with fail
        refine (rs _).mono ?_
        rintro e w0 ⟨rfl, rfl⟩
        rw [hq]
        go_wp2_with fail
        refine (rb _).mono ?_
        rintro e w0 ⟨rfl, rfl⟩
        rw [hb]
        go_wp2_with fail
        go_ret2
        exact ⟨⟨_, rfl, by have e1 : n.kind.toNat = k := (by have := HK.out; omega); have e2 : n.kind = (k : Int) := HK.out; have hE := hEr.out.buf; rw [e2] at hE; simpa [enc, e1, hv, hm, hp, hq, hb, Note.mac] using hE⟩, hEr.out.st⟩
  · rw [hv]
    go_wp2_with fail
    go_loopw [6, 7] (fun vb i wr => vb = v22 ∧ i = .int .i64 0 ∧ wr = w22) (fun _ i _ => 6 - (intOf i).toNat)
    case atStart => exact ⟨rfl, rfl, rfl⟩
    case round =>
      obtain ⟨rfl, rfl, rfl⟩ := hrel
      go_wp2_with fail
      refine (rm _).mono ?_
      rintro e w0 ⟨rfl, rfl⟩
      rw [hm]
      go_wp2_with fail
      refine (rp _).mono ?_
      rintro e w0 ⟨rfl, rfl⟩
      rw [hp]
      have c8 := blk_cell hE22.out.note 8
      simp only [Note.cells, List.getElem?_toArray, List.getElem?_cons_zero, List.getElem?_cons_succ] at c8
      go_wp2_with fail
      clear c0 c1 c8
      refine (number_two n.port _ rng.out.2.1.1 (by have := rng.out.2.1.2; omega)).mono ?_
      rintro e w23 ⟨u23, rfl, f23, s23⟩
      have hE23 := Lib.hid (hE22.out.still s23)
      have FB23 := Lib.hid f23
      clear s23 f23 hE22
      go_wp2_with (first | (at_builtin; refine wpList_append_row T24 rfl (.tmp 78) (.tmp 81) rfl rfl hE23.out.buf.row rfl (Row.src T24 FB23.out.row (nums_one _ _)) ?ha24 ?hb24 ?_))
      case ha24 => simp [maxLen, two, four, Note.mac]
      case hb24 => simp [two, four, Note.mac]
      intro v24 w24 hr24 hs24 hl24
      have hE24 := Lib.hid (hE23.out.more (more := two n.port) hr24 hs24 hl24)
      clear hr24 hs24 hl24 FB23 hE23
      have c0 := blk_cell hE24.out.note 0
      simp only [Note.cells, List.getElem?_toArray, List.getElem?_cons_zero, List.getElem?_cons_succ] at c0
      go_wp2_with fail
      refine (rs _).mono ?_
      rintro e w0 ⟨rfl, rfl⟩
      rw [hq]
      have c9 := blk_cell hE24.out.note 9
      simp only [Note.cells, List.getElem?_toArray, List.getElem?_cons_zero, List.getElem?_cons_succ] at c9
      go_wp2_with (first | (at_builtin; refine wpList_append_row T24 rfl (.tmp 86) (.tmp 90) rfl rfl (hE24.out.buf.row.alloc _) rfl (Src.ofBlock T24 (c := 1) (heap_alloc_new w24 (.cells #[.int .u8 (n.state % 256)] 5)) (by rfl) (by simp [Value.oneCell'])) ?ha25 ?hb25 ?_))
      case ha25 => simp [maxLen, two, four, Note.mac]
      case hb25 => simp [two, four, Note.mac]
      intro v25 w25 hr25 hs25 hl25
      have hE25 := Lib.hid ((hE24.out.still ((Step.refl None w24).alloc (.cells #[.int .u8 (n.state % 256)] 5))).more (more := [n.state % 256]) hr25 hs25 (by simpa using hl25))
      clear hr25 hs25 hl25 hE24
      clear c0 c9
      have c0 := blk_cell hE25.out.note 0
      simp only [Note.cells, List.getElem?_toArray, List.getElem?_cons_zero, List.getElem?_cons_succ] at c0
      go_wp2_with fail
      refine (rb _).mono ?_
      rintro e w0 ⟨rfl, rfl⟩
      rw [hb]
      go_wp2_with fail
      go_ret2
      exact ⟨⟨_, rfl, by have e1 : n.kind.toNat = k := (by have := HK.out; omega); have e2 : n.kind = (k : Int) := HK.out; have hE := hE25.out.buf; rw [e2] at hE; simpa [enc, e1, hv, hm, hp, hq, hb, Note.mac] using hE⟩, hE25.out.st⟩
  · rw [hv]
    go_wp2_with fail
    go_loopw [6, 7] (fun vb i wr => vb = v22 ∧ i = .int .i64 0 ∧ wr = w22) (fun _ i _ => 6 - (intOf i).toNat)
    case atStart => exact ⟨rfl, rfl, rfl⟩
    case round =>
      obtain ⟨rfl, rfl, rfl⟩ := hrel
      go_wp2_with fail
      refine (rm _).mono ?_
      rintro e w0 ⟨rfl, rfl⟩
      rw [hm]
      go_wp2_with fail
      refine (rp _).mono ?_
      rintro e w0 ⟨rfl, rfl⟩
      rw [hp]
      have c8 := blk_cell hE22.out.note 8
      simp only [Note.cells, List.getElem?_toArray, List.getElem?_cons_zero, List.getElem?_cons_succ] at c8
      go_wp2_with fail
      clear c0 c1 c8
      refine (number_two n.port _ rng.out.2.1.1 (by have := rng.out.2.1.2; omega)).mono ?_
      rintro e w23 ⟨u23, rfl, f23, s23⟩
      have hE23 := Lib.hid (hE22.out.still s23)
      have FB23 := Lib.hid f23
      clear s23 f23 hE22
      go_wp2_with (first | (at_builtin; refine wpList_append_row T24 rfl (.tmp 78) (.tmp 81) rfl rfl hE23.out.buf.row rfl (Row.src T24 FB23.out.row (nums_one _ _)) ?ha24 ?hb24 ?_))
      case ha24 => simp [maxLen, two, four, Note.mac]
      case hb24 => simp [two, four, Note.mac]
      intro v24 w24 hr24 hs24 hl24
      have hE24 := Lib.hid (hE23.out.more (more := two n.port) hr24 hs24 hl24)
      clear hr24 hs24 hl24 FB23 hE23
      have c0 := blk_cell hE24.out.note 0
      simp only [Note.cells, List.getElem?_toArray, List.getElem?_cons_zero, List.getElem?_cons_succ] at c0
      go_wp2_with fail
      refine (rs _).mono ?_
      rintro e w0 ⟨rfl, rfl⟩
      rw [hq]
      go_wp2_with fail
      refine (rb _).mono ?_
      rintro e w0 ⟨rfl, rfl⟩
      rw [hb]
      have c10 := blk_cell hE24.out.note 10
      simp only [Note.cells, List.getElem?_toArray, List.getElem?_cons_zero, List.getElem?_cons_succ] at c10
      go_wp2_with fail
      clear c0 c10
      refine (number_two (n.body.length : Int) _ (by omega) (by omega)).mono ?_
      rintro e w25 ⟨u25, rfl, f25, s25⟩
      have hE25 := Lib.hid (hE24.out.still s25)
      have FB25 := Lib.hid f25
      clear s25 f25 hE24
      go_wp2_with (first | (at_builtin; refine wpList_append_row T24 rfl (.tmp 95) (.tmp 99) rfl rfl hE25.out.buf.row rfl (Row.src T24 FB25.out.row (nums_one _ _)) ?ha26 ?hb26 ?_))
      case ha26 => simp [maxLen, two, four, Note.mac] <;> omega
      case hb26 => simp [two, four, Note.mac] <;> omega
      intro v26 w26 hr26 hs26 hl26
      have hE26 := Lib.hid (hE25.out.more (more := two n.body.length) hr26 hs26 hl26)
      clear hr26 hs26 hl26 FB25 hE25
      have c10 := blk_cell hE26.out.note 10
      simp only [Note.cells, List.getElem?_toArray, List.getElem?_cons_zero, List.getElem?_cons_succ] at c10
      go_wp2_with (first | (at_builtin; refine wpList_append_row T24 rfl (.tmp 101) (.tmp 103) rfl rfl hE26.out.buf.row rfl (Bytes.src Tryd.underlying34 (HB.out.step hE26.out.st (fun _ _ s => s.elim))) ?ha27 ?hb27 ?_))
      case ha27 => simp [maxLen, two, four, Note.mac]; omega
      case hb27 => simp [two, four, Note.mac]; omega
      intro v27 w27 hr27 hs27 hl27
      have hE27 := Lib.hid (hE26.out.more (more := n.body) hr27 hs27 hl27)
      clear hr27 hs27 hl27 hE26 c10
      go_wp2_with fail
      go_ret2
      exact ⟨⟨_, rfl, by have e1 : n.kind.toNat = k := (by have := HK.out; omega); have e2 : n.kind = (k : Int) := HK.out; have hE := hE27.out.buf; rw [e2] at hE; simpa [enc, e1, hv, hm, hp, hq, hb, Note.mac] using hE⟩, hE27.out.st⟩
  · rw [hv]
    go_wp2_with fail
    go_loopw [6, 7] (fun vb i wr => vb = v22 ∧ i = .int .i64 0 ∧ wr = w22) (fun _ i _ => 6 - (intOf i).toNat)
    case atStart => exact ⟨rfl, rfl, rfl⟩
    case round =>
      obtain ⟨rfl, rfl, rfl⟩ := hrel
      go_wp2_with fail
      refine (rm _).mono ?_
      rintro e w0 ⟨rfl, rfl⟩
      rw [hm]
      go_wp2_with fail
      refine (rp _).mono ?_
      rintro e w0 ⟨rfl, rfl⟩
      rw [hp]
      go_wp2_with fail
      refine (rs _).mono ?_
      rintro e w0 ⟨rfl, rfl⟩
      rw [hq]
      have c9 := blk_cell hE22.out.note 9
      simp only [Note.cells, List.getElem?_toArray, List.getElem?_cons_zero, List.getElem?_cons_succ] at c9
      go_wp2_with (first | (at_builtin; refine wpList_append_row T24 rfl (.tmp 86) (.tmp 90) rfl rfl (hE22.out.buf.row.alloc _) rfl (Src.ofBlock T24 (c := 1) (heap_alloc_new _ (.cells #[.int .u8 (n.state % 256)] 5)) (by rfl) (by simp [Value.oneCell'])) ?ha23 ?hb23 ?_))
      case ha23 => simp [maxLen, two, four, Note.mac]
      case hb23 => simp [two, four, Note.mac]
      intro v23 w23 hr23 hs23 hl23
      have hE23 := Lib.hid ((hE22.out.still ((Step.refl None _).alloc (.cells #[.int .u8 (n.state % 256)] 5))).more (more := [n.state % 256]) hr23 hs23 (by simpa using hl23))
      clear hr23 hs23 hl23 hE22
      clear c0 c1 c9
      have c0 := blk_cell hE23.out.note 0
      simp only [Note.cells, List.getElem?_toArray, List.getElem?_cons_zero, List.getElem?_cons_succ] at c0
      go_wp2_with fail
      refine (rb _).mono ?_
      rintro e w0 ⟨rfl, rfl⟩
      rw [hb]
      go_wp2_with fail
      go_ret2
      exact ⟨⟨_, rfl, by have e1 : n.kind.toNat = k := (by have := HK.out; omega); have e2 : n.kind = (k : Int) := HK.out; have hE := hE23.out.buf; rw [e2] at hE; simpa [enc, e1, hv, hm, hp, hq, hb, Note.mac] using hE⟩, hE23.out.st⟩
  · rw [hv]
    go_wp2_with fail
    clear c0 c1
    refine (number_two n.vlan _ rng.out.1.1 (by have := rng.out.1.2; omega)).mono ?_
    rintro e w23 ⟨u23, rfl, f23, s23⟩
    have hE23 := Lib.hid (hE22.out.still s23)
    have FB23 := Lib.hid f23
    clear s23 f23 hE22
    go_wp2_with (first | (at_builtin; refine wpList_append_row T24 rfl (.tmp 54) (.tmp 57) rfl rfl hE23.out.buf.row rfl (Row.src T24 FB23.out.row (nums_one _ _)) ?ha24 ?hb24 ?_))
    case ha24 => simp [maxLen, two, four, Note.mac]
    case hb24 => simp [two, four, Note.mac]
    intro v24 w24 hr24 hs24 hl24
    have hE24 := Lib.hid (hE23.out.more (more := two n.vlan) hr24 hs24 hl24)
    clear hr24 hs24 hl24 FB23 hE23
    have c0 := blk_cell hE24.out.note 0
    simp only [Note.cells, List.getElem?_toArray, List.getElem?_cons_zero, List.getElem?_cons_succ] at c0
    go_wp2_with fail
    go_loopw [6, 7] (fun vb i wr => vb = v24 ∧ i = .int .i64 0 ∧ wr = w24) (fun _ i _ => 6 - (intOf i).toNat)
    case atStart => exact ⟨rfl, rfl, rfl⟩
    case round =>
      obtain ⟨rfl, rfl, rfl⟩ := hrel
      go_wp2_with fail
      refine (rm _).mono ?_
      rintro e w0 ⟨rfl, rfl⟩
      rw [hm]
      go_wp2_with fail
      refine (rp _).mono ?_
      rintro e w0 ⟨rfl, rfl⟩
      rw [hp]
      have c8 := blk_cell hE24.out.note 8
      simp only [Note.cells, List.getElem?_toArray, List.getElem?_cons_zero, List.getElem?_cons_succ] at c8
      go_wp2_with fail
      clear c0 c8
      refine (number_two n.port _ rng.out.2.1.1 (by have := rng.out.2.1.2; omega)).mono ?_
      rintro e w25 ⟨u25, rfl, f25, s25⟩
      have hE25 := Lib.hid (hE24.out.still s25)
      have FB25 := Lib.hid f25
      clear s25 f25 hE24
      go_wp2_with (first | (at_builtin; refine wpList_append_row T24 rfl (.tmp 78) (.tmp 81) rfl rfl hE25.out.buf.row rfl (Row.src T24 FB25.out.row (nums_one _ _)) ?ha26 ?hb26 ?_))
      case ha26 => simp [maxLen, two, four, Note.mac]
      case hb26 => simp [two, four, Note.mac]
      intro v26 w26 hr26 hs26 hl26
      have hE26 := Lib.hid (hE25.out.more (more := two n.port) hr26 hs26 hl26)
      clear hr26 hs26 hl26 FB25 hE25
      have c0 := blk_cell hE26.out.note 0
      simp only [Note.cells, List.getElem?_toArray, List.getElem?_cons_zero, List.getElem?_cons_succ] at c0
      go_wp2_with fail
      refine (rs _).mono ?_
      rintro e w0 ⟨rfl, rfl⟩
      rw [hq]
      have c9 := blk_cell hE26.out.note 9
      simp only [Note.cells, List.getElem?_toArray, List.getElem?_cons_zero, List.getElem?_cons_succ] at c9
      go_wp2_with (first | (at_builtin; refine wpList_append_row T24 rfl (.tmp 86) (.tmp 90) rfl rfl (hE26.out.buf.row.alloc _) rfl (Src.ofBlock T24 (c := 1) (heap_alloc_new w26 (.cells #[.int .u8 (n.state % 256)] 5)) (by rfl) (by simp [Value.oneCell'])) ?ha27 ?hb27 ?_))
      case ha27 => simp [maxLen, two, four, Note.mac]
      case hb27 => simp [two, four, Note.mac]
      intro v27 w27 hr27 hs27 hl27
      have hE27 := Lib.hid ((hE26.out.still ((Step.refl None w26).alloc (.cells #[.int .u8 (n.state % 256)] 5))).more (more := [n.state % 256]) hr27 hs27 (by simpa using hl27))
      clear hr27 hs27 hl27 hE26
      clear c0 c9
      have c0 := blk_cell hE27.out.note 0
      simp only [Note.cells, List.getElem?_toArray, List.getElem?_cons_zero, List.getElem?_cons_succ] at c0
      go_wp2_with fail
      refine (rb _).mono ?_
      rintro e w0 ⟨rfl, rfl⟩
      rw [hb]
      have c10 := blk_cell hE27.out.note 10
      simp only [Note.cells, List.getElem?_toArray, List.getElem?_cons_zero, List.getElem?_cons_succ] at c10
      go_wp2_with fail
      clear c0 c10
      refine (number_two (n.body.length : Int) _ (by omega) (by omega)).mono ?_
      rintro e w28 ⟨u28, rfl, f28, s28⟩
      have hE28 := Lib.hid (hE27.out.still s28)
      have FB28 := Lib.hid f28
      clear s28 f28 hE27
      go_wp2_with (first | (at_builtin; refine wpList_append_row T24 rfl (.tmp 95) (.tmp 99) rfl rfl hE28.out.buf.row rfl (Row.src T24 FB28.out.row (nums_one _ _)) ?ha29 ?hb29 ?_))
      case ha29 => simp [maxLen, two, four, Note.mac] <;> omega
      case hb29 => simp [two, four, Note.mac] <;> omega
      intro v29 w29 hr29 hs29 hl29
      have hE29 := Lib.hid (hE28.out.more (more := two n.body.length) hr29 hs29 hl29)
      clear hr29 hs29 hl29 FB28 hE28
      have c10 := blk_cell hE29.out.note 10
      simp only [Note.cells, List.getElem?_toArray, List.getElem?_cons_zero, List.getElem?_cons_succ] at c10
      go_wp2_with (first | (at_builtin; refine wpList_append_row T24 rfl (.tmp 101) (.tmp 103) rfl rfl hE29.out.buf.row rfl (Bytes.src Tryd.underlying34 (HB.out.step hE29.out.st (fun _ _ s => s.elim))) ?ha30 ?hb30 ?_))
      case ha30 => simp [maxLen, two, four, Note.mac]; omega
      case hb30 => simp [two, four, Note.mac]; omega
      intro v30 w30 hr30 hs30 hl30
      have hE30 := Lib.hid (hE29.out.more (more := n.body) hr30 hs30 hl30)
      clear hr30 hs30 hl30 hE29 c10
      go_wp2_with fail
      go_ret2
      exact ⟨⟨_, rfl, by have e1 : n.kind.toNat = k := (by have := HK.out; omega); have e2 : n.kind = (k : Int) := HK.out; have hE := hE30.out.buf; rw [e2] at hE; simpa [enc, e1, hv, hm, hp, hq, hb, Note.mac] using hE⟩, hE30.out.st⟩

end Go.Proofs.YtgchepijbpcckaaDoor
