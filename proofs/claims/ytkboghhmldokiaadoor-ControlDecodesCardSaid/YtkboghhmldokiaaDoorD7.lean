/- ControlLong, walked. -/
import Derived.Test.YtkboghhmldokiaaDoorD6
namespace Go.Proofs.YtkboghhmldokiaaDoor
open Go.RowKit Go.Gm

theorem arg_three {w : World} {v : Value} (h : Arg w (.arr 3 1 (.int .i64)) v) : ∃ a b c, v = .agg #[.int .i64 a, .int .i64 b, .int .i64 c] := by
  obtain ⟨⟨l⟩, rfl, hf⟩ := h.agg rfl
  obtain ⟨xs, hx, hl, hw⟩ := hf.intArr
  match xs, hl with
  | [a, b, c], _ => exact ⟨a, b, c, by rw [show l = [.int .i64 a, .int .i64 b, .int .i64 c] from hx]⟩
theorem laid_pkt (w : World) (cs : Array Value) : ((w.alloc (.cells #[.int .i64 0, .int .i64 0, .int .i64 0, .int .i64 0, .int .i64 0, .int .u8 0, .int .u8 0, .int .u8 0, .int .u8 0, .int .u8 0, .int .u8 0, .int .i64 0, .int .i64 0, .slice none 0 0] 28)).setRow w.heap.size cs).heap[w.heap.size]? = some (.cells cs 28 (0, 0)) ∧ Step None w ((w.alloc (.cells #[.int .i64 0, .int .i64 0, .int .i64 0, .int .i64 0, .int .i64 0, .int .u8 0, .int .u8 0, .int .u8 0, .int .u8 0, .int .u8 0, .int .u8 0, .int .i64 0, .int .i64 0, .slice none 0 0] 28)).setRow w.heap.size cs) :=
  ⟨setRow_heap _ _ _ _ _ _ (heap_alloc_new w _), step_setRow ((Step.refl None w).alloc _) (fun h => by omega) _⟩
theorem row_led {w w' : World} {u : Value} {n : Nat} {xs : List Value} (h : Row w 5 1 u n xs) {g : Nat} {cs : Array Value} {t : TypeId} {fr : Nat × Nat} (hs : Step (Leads u) w w') (hg : w.heap[g]? = some (.cells cs t fr)) (ht : t ≠ 5) : w'.heap[g]? = some (.cells cs t fr) := hs.blk hg (h.ne hg ht)

set_option maxHeartbeats 8000000 in
theorem controlLong_walk (v0 v1 v2 : Value) (w : World) (hT : HasAt 0 w) (h0 : Arg w (.cat 1 (.int .i64) (.cat 1 (.int .i64) (.cat 1 (.int .i64) (.cat 11 (.cat 1 (.int .i64) (.cat 1 (.int .i64) (.cat 6 (.arr 6 1 (.int .u8)) (.cat 1 (.int .i64) (.cat 1 (.int .i64) (.cat 1 (.slice 1 1 (.int .u8)) .nil)))))) .nil)))) v0) (h1 : Arg w (.arr 3 1 (.int .i64)) v1) (h2 : Arg w (.slice 1 1 (.int .u8)) v2) :
    Calls Tryd.prog 8 #[v0, v1, v2] w fun e w' => e = .returned (.bool true) ∧ Below w.heap.size w w' := by
  obtain ⟨ep, sq, ak, n, bo, bc, rfl, hb, sb, sm, hlen⟩ := arg_packet h0
  obtain ⟨x, y, z, rfl⟩ := arg_three h1
  obtain ⟨r, hr, sr, rlen⟩ := arg_seg h2
  clear h0 h1 h2
  have hr2 := hr
  obtain ⟨ro, rc, ev, hrc, hrm, -⟩ := hr
  subst ev
  have hr := hr2
  clear hr2
  have b1 := heap_alloc_new w (.cells (n.packet ep sq ak (.slice bo n.body.length bc)) 28)
  have b2 := heap_alloc_new (w.alloc (.cells (n.packet ep sq ak (.slice bo n.body.length bc)) 28)) (.cells #[.int .i64 x, .int .i64 y, .int .i64 z] 45)
  have s1 := ((Step.refl None w).alloc (.cells (n.packet ep sq ak (.slice bo n.body.length bc)) 28)).alloc (.cells #[.int .i64 x, .int .i64 y, .int .i64 z] 45)
  have b1 := ((Step.refl None _).alloc (.cells #[.int .i64 x, .int .i64 y, .int .i64 z] 45)).blk b1 (fun s => s.elim)
  simp only [World.size_alloc] at b2
  obtain ⟨W, hW⟩ : ∃ W, (w.alloc (.cells (n.packet ep sq ak (.slice bo n.body.length bc)) 28)).alloc (.cells #[.int .i64 x, .int .i64 y, .int .i64 z] 45) = W := ⟨_, rfl⟩
  rw [hW] at b1 b2 s1
  have HE := Lib.hid hW
  have T := Lib.hid hT
  have SM := Lib.hid (And.intro sb (And.intro sm sr))
  have HBY := Lib.hid hb
  have HR := Lib.hid hr
  have P1 := Lib.hid b1
  have P2 := Lib.hid b2
  have S1 := Lib.hid s1
  have q1 : ((n.body.length : Int) ≤ 9223372036854775807) := by omega
  have q2 : ((r.length : Int) ≤ 9223372036854775807) := by omega
  clear hW hT sb sm sr hb hr b1 b2 s1 hrc hrm hlen rlen
  go_enter Tryd.func8, Tryd.ntmps8
  go_wp2_with (first
    | rw [HE.out])
  refine (awake_any _ (T.out.still S1.out)).mono ?_
  rintro e w2 ⟨rfl, s2⟩
  have P1 := Lib.hid (s2.blk P1.out (fun s => s.elim))
  have P2 := Lib.hid (s2.blk P2.out (fun s => s.elim))
  have S2 := Lib.hid (S1.out.then_ s2)
  have c13 := blk_cell P1.out 13
  simp only [Note.packet, List.getElem?_toArray, List.getElem?_cons_zero, List.getElem?_cons_succ] at c13
  clear s2 S1 HE
  by_cases hn : n.body.length ≤ 3000
  rotate_left
  · have d1 : decide ((3000 : Int) < (n.body.length : Int)) = true := decide_eq_true (by omega)
    have d2 : decide (3000 < n.body.length) = true := decide_eq_true (by omega)
    clear hn
    go_wp2_with fail
    go_ret
    exact ⟨rfl, S2.out.toBelow⟩
  have d1 : decide ((3000 : Int) < (n.body.length : Int)) = false := decide_eq_false (by omega)
  have d2 : decide (3000 < n.body.length) = false := decide_eq_false (by omega)
  by_cases h0 : r.length = 0
  · have e1 : ((r.length : Int) == 0) = true := by simp [h0]
    have e2 : (r.length == 0) = true := by simp [h0]
    clear hn h0
    go_wp2_with fail
    go_ret
    exact ⟨rfl, S2.out.toBelow⟩
  have e1 : ((r.length : Int) == 0) = false := beq_eq_false_iff_ne.2 (by omega)
  have e2 : (r.length == 0) = false := beq_eq_false_iff_ne.2 h0
  by_cases hm : r.length ≤ 100
  rotate_left
  · have d3 : decide ((100 : Int) < (r.length : Int)) = true := decide_eq_true (by omega)
    have d4 : decide (100 < r.length) = true := decide_eq_true (by omega)
    clear hn h0 hm
    go_wp2_with fail
    go_ret
    exact ⟨rfl, S2.out.toBelow⟩
  have d3 : decide ((100 : Int) < (r.length : Int)) = false := decide_eq_false (by omega)
  have d4 : decide (100 < r.length) = false := decide_eq_false (by omega)
  have HN := Lib.hid (And.intro hn (And.intro (show r ≠ [] from fun e => h0 (by rw [e]; rfl)) hm))
  clear hn h0 hm
  have LP := Lib.hid (load_pkt P1.out)
  have E1 := Lib.hid (encode_all ep sq ak n bo bc w2 (T.out.still S2.out) (HBY.out.step S2.out (fun _ _ s => s.elim)) (by have := HN.out.1; omega))
  go_wp2_with (first
    | (refine wpList_load_is 28 (.tmp 3) rfl rfl rfl LP.out ?_))
  clear d1 d2 d3 d4 e1 e2 c13
  refine E1.out.mono ?_
  rintro e w3 ⟨u, rfl, hu, s3⟩
  have U3 := Lib.hid hu
  have P3 := Lib.hid (s3.blk P1.out (fun s => s.elim))
  have Q3 := Lib.hid (s3.blk P2.out (fun s => s.elim))
  have S3 := Lib.hid (S2.out.then_ s3)
  have ln := load_note P3.out
  unfold Note.cells at ln
  have LN := Lib.hid ln
  have x0 := blk_cell Q3.out 0
  have x1 := blk_cell Q3.out 1
  have x2 := blk_cell Q3.out 2
  simp only [List.getElem?_toArray, List.getElem?_cons_zero, List.getElem?_cons_succ] at x0 x1 x2
  have e2 := encode_all x y z n bo bc w3 (T.out.still S3.out) (HBY.out.step S3.out (fun _ _ s => s.elim)) (by have := HN.out.1; omega)
  unfold Note.packet at e2
  have E2 := Lib.hid e2
  clear hu s3 ln e2 P1 P2 LP E1
  go_wp2_with (first
    | (refine wpList_load_is 26 (.tmp 49) rfl rfl rfl LN.out ?_))
  clear x0 x1 x2
  refine E2.out.mono ?_
  rintro e w4 ⟨u', rfl, hu, s4⟩
  have U4 := Lib.hid (U3.out.still s4)
  have V4 := Lib.hid hu
  have S4 := Lib.hid (S3.out.then_ s4)
  clear hu s4 E2 U3 P3 Q3 LN
  have C1 := Lib.hid (show codeB ep sq ak n = if okP ep sq ak n then 0 else 1 from rfl)
  have C2 := Lib.hid (show codeB x y z n = if okP x y z n then 0 else 1 from rfl)
  cases h1 : okP ep sq ak n
  · rw [h1] at C1
    have k1 : codeB ep sq ak n = 1 := C1.out
    rw [k1]
    go_wp2_with fail
    go_ret
    exact ⟨rfl, S4.out.toBelow⟩
  cases h2 : okP x y z n
  · rw [h1] at C1
    rw [h2] at C2
    have k1 : codeB ep sq ak n = 0 := C1.out
    have k2 : codeB x y z n = 1 := C2.out
    rw [k1, k2]
    go_wp2_with fail
    go_ret
    exact ⟨rfl, S4.out.toBelow⟩
  rw [h1] at C1
  rw [h2] at C2
  have k1 : codeB ep sq ak n = 0 := C1.out
  have k2 : codeB x y z n = 0 := C2.out
  rw [k1, k2]
  have FM := Lib.hid (more_law h1 SM.out.2.1 SM.out.1 HN.out.2.1)
  have FL := Lib.hid (less_law h1 SM.out.2.1 SM.out.1)
  have FE : (encB ep sq ak n).length = (encB x y z n).length := by rw [encB, if_pos h1, encB, if_pos h2]; exact len_law _ _ _ _ _ _ _ _
  have F13 : 13 ≤ (encB ep sq ak n).length := by rw [encB, if_pos h1]; exact (enc_len _ _ _ _ _).1
  have FX : (encB ep sq ak n).length ≤ 3030 := by have := encB_max ep sq ak n; have := HN.out.1; omega
  have FS := Lib.hid (encB_small (ep := ep) (sq := sq) (ak := ak) SM.out.2.1 SM.out.1)
  clear k1 k2 C1 C2 h1 h2
  generalize encB ep sq ak n = L at *
  generalize encB x y z n = M at *
  obtain ⟨uo, uc, rfl⟩ := U4.out.form
  obtain ⟨vo, vc, rfl⟩ := V4.out.form
  have huc : L.length ≤ uc := by
    obtain ⟨ao', cap', e, h, -⟩ := U4.out.row.form
    simp only [Value.slice.injEq] at e
    omega
  have HF := Lib.hid (And.intro F13 (And.intro FX FE))
  have FE2 := FE.symm
  have r1 : IntKind.i64.wrap ((L.length : Int) - 1) = ((L.length - 1 : Nat) : Int) := by rw [IntWalk.i64_in _ (by omega)]; omega
  have r2 : (0 : Int) ≤ ((L.length - 1 : Nat) : Int) := by omega
  have r3 : ((L.length - 1 : Nat) : Int) ≤ (uc : Int) := by omega
  have r4 : L.length - 1 ≤ uc := by omega
  have HU := Lib.hid huc
  clear FE F13 FX huc
  -- append, append, Decode
  have sa := (Step.refl None w4).alloc (.cells #[] 5)
  have hrow0 : Row (w4.alloc (.cells #[] 5)) 5 1 (.slice (some ⟨w4.heap.size, 0, none⟩) 0 0) 0 [] := Row.ofBlock (n := 0) (cap := 0) (heap_alloc_new w4 (.cells #[] 5)) (Nat.le_refl _) (by simp [maxLen]) (by simp)
  obtain ⟨W5, hW5⟩ : ∃ W5, w4.alloc (.cells #[] 5) = W5 := ⟨_, rfl⟩
  rw [hW5] at sa hrow0
  have R0 := Lib.hid hrow0
  have HE5 := Lib.hid hW5
  have U5 := Lib.hid (U4.out.still sa)
  have S5 := Lib.hid (S4.out.then_ sa)
  clear hW5 hrow0 sa V4
  go_wp2_with (first
    | rw [HE5.out]
    | (at_builtin; refine wpList_append_row T24 rfl (.tmp 62) (.tmp 63) rfl rfl R0.out rfl (((seg_row U5.out.row).bytes (by have := HF.out.2.1; omega)).src Tryd.underlying24) ?ha ?hb ?_))
  case ha => have := HF.out.2.1; simp [maxLen]; omega
  case hb => have := HF.out.2.1; simp; omega
  intro v6 W6 r6 s6 l6
  have R6 : Hid (Row W6 5 1 v6 L.length (L.map (.int .u8))) := Lib.hid (by simpa using r6)
  have hq : w.heap.size ≤ w4.heap.size := S4.out.size
  have hq5 : w4.heap.size ≤ W5.heap.size := by rw [← HE5.out]; simp
  have ul : ∀ k, Leads (.slice uo L.length uc) k → k < w4.heap.size := fun k hk => U4.out.row.lt hk
  have lead5 : ∀ k, Leads (.slice (some ⟨w4.heap.size, 0, none⟩) 0 0) k → k = w4.heap.size := fun k hk => by simp [Leads, Value.ownBlock] at hk; exact hk.symm
  have S6 := Lib.hid (S5.out.trans s6 fun i hi hk => by have := lead5 i hk; omega)
  have U6 := Lib.hid (U5.out.row.step s6 fun k hk hk' => by have := ul k hk; have := lead5 k hk'; omega)
  have l6' : Hid (∀ k, Leads v6 k → w4.heap.size ≤ k) := Lib.hid fun k hk => by
    rcases l6 k hk with h | h
    · have := lead5 k h; omega
    · omega
  have hw4 := Lib.hid (And.intro hq ul)
  clear r6 s6 l6 lead5 R0 U5 HE5 hq5 ul hq
  go_wp2_with (first
    | (at_builtin; refine wpList_append_row T24 rfl (.tmp 64) (.tmp 65) rfl rfl R6.out rfl (((HR.out.still S6.out).bytes (by have := HN.out.2.2; omega)).src Tryd.underlying24) ?ha ?hb ?_))
  case ha => have := HF.out.2.1; have := HN.out.2.2; simp [maxLen]; omega
  case hb => have := HF.out.2.1; have := HN.out.2.2; simp; omega
  intro v7 W7 r7 s7 l7
  have S7 := Lib.hid (S6.out.trans s7 fun i hi hk => by have := l6'.out i hk; have := hw4.out.1; omega)
  have U7 := Lib.hid (U6.out.step s7 fun k hk hk' => by have := hw4.out.2 k hk; have := l6'.out k hk'; omega)
  have SG := Lib.hid (seg_row (l := L ++ r) (u := v7) (w := W7) (by simpa using r7))
  have DE := Lib.hid (decode_any v7 (L ++ r) W7 (T.out.still S7.out) (small_app FS.out SM.out.2.2) SG.out)
  rw [FM.out] at DE
  generalize L ++ r = LR at SG DE
  obtain ⟨go, gc, ev⟩ := SG.out.form
  subst ev
  clear r7 s7 l7 R6 U6 S6 l6' FM
  go_wp2_with fail
  refine DE.out.mono ?_
  rintro e w8 ⟨p1, p2, rfl, -, s8⟩
  have hp := laid_pkt w8 ((decN LR).packet (decE LR) (decS LR) (decA LR) (.slice p1 (decN LR).body.length p2))
  obtain ⟨PK, hPK⟩ : ∃ PK : Array Value, (decN LR).packet (decE LR) (decS LR) (decA LR) (.slice p1 (decN LR).body.length p2) = PK := ⟨_, rfl⟩
  have hone : PK.all (·.oneCell') = true := by rw [← hPK]; simp [Note.packet, Value.oneCell']
  have hsz : (Tryd.prog.info? 28).map (·.size) = some PK.size ∧ PK.size = 14 := ⟨by rw [← hPK]; kernel_rfl, by rw [← hPK]; rfl⟩
  rw [hPK] at hp
  rw [hPK]
  clear hPK
  obtain ⟨W9, hW9⟩ : ∃ W9, (w8.alloc (.cells #[.int .i64 0, .int .i64 0, .int .i64 0, .int .i64 0, .int .i64 0, .int .u8 0, .int .u8 0, .int .u8 0, .int .u8 0, .int .u8 0, .int .u8 0, .int .i64 0, .int .i64 0, .slice none 0 0] 28)).setRow w8.heap.size PK = W9 := ⟨_, rfl⟩
  rw [hW9] at hp
  have HE9 := Lib.hid hW9
  have HO := Lib.hid (And.intro hone hsz)
  have S9 := Lib.hid ((S7.out.then_ s8).then_ hp.2)
  have U9 := Lib.hid ((U7.out.step s8 fun _ _ s => s.elim).step hp.2 fun _ _ s => s.elim)
  have SG2 : Hid (Seg W9 (.slice uo (L.length - 1) uc) (L.take (L.length - 1))) := by
    obtain ⟨ao', cap', e, h1, h2, h3, h4⟩ := seg_row U9.out
    simp only [Value.slice.injEq] at e
    obtain ⟨rfl, -, rfl⟩ := e
    exact Lib.hid (seg_take (by omega) h1 h2 h3 h4)
  have DE2 := Lib.hid (decode_any (.slice uo (L.length - 1) uc) (L.take (L.length - 1)) W9 (T.out.still S9.out) (fun x hx => FS.out x (List.mem_of_mem_take hx)) SG2.out)
  rw [FL.out] at DE2
  clear hW9 hp s8 DE U7 S7 hone hsz SG
  go_wp2_with (first
    | rw [HE9.out]
    | (refine wpList_store_row rfl 28 (.tmp 12) (.tmp 68) rfl w8.heap.size PK rfl rfl 28 _ (heap_alloc_new w8 _) HO.out.2.1 HO.out.2.2.symm HO.out.1 ?_))
  refine DE2.out.mono ?_
  rintro e w10 ⟨p3, p4, rfl, -, s10⟩
  obtain ⟨PL, hPL⟩ : ∃ PL : Array Value, (decN (L.take (L.length - 1))).packet (decE (L.take (L.length - 1))) (decS (L.take (L.length - 1))) (decA (L.take (L.length - 1))) (.slice p3 (decN (L.take (L.length - 1))).body.length p4) = PL := ⟨_, rfl⟩
  have hone : PL.all (·.oneCell') = true := by rw [← hPL]; simp [Note.packet, Value.oneCell']
  have hsz : (Tryd.prog.info? 28).map (·.size) = some PL.size ∧ PL.size = 14 := ⟨by rw [← hPL]; kernel_rfl, by rw [← hPL]; rfl⟩
  rw [hPL]
  clear hPL
  have hp := laid_pkt w10 PL
  obtain ⟨W11, hW11⟩ : ∃ W11, (w10.alloc (.cells #[.int .i64 0, .int .i64 0, .int .i64 0, .int .i64 0, .int .i64 0, .int .u8 0, .int .u8 0, .int .u8 0, .int .u8 0, .int .u8 0, .int .u8 0, .int .i64 0, .int .i64 0, .slice none 0 0] 28)).setRow w10.heap.size PL = W11 := ⟨_, rfl⟩
  rw [hW11] at hp
  have HE11 := Lib.hid hW11
  have HO2 := Lib.hid (And.intro hone hsz)
  have S11 := Lib.hid ((S9.out.then_ s10).then_ hp.2)
  have eM : ((L.length : Int) == (M.length : Int)) = true := by rw [FE2]; simp
  have eM2 : (L.length == M.length) = true := by rw [FE2]; simp
  clear hW11 hp s10 DE2 hone hsz SG2 S9 U9 HE9 FE2
  go_wp2_with (first
    | rw [HE11.out]
    | (refine wpList_store_row rfl 28 (.tmp 14) (.tmp 77) rfl w10.heap.size PL rfl rfl 28 _ (heap_alloc_new w10 _) HO2.out.2.1 HO2.out.2.2.symm HO2.out.1 ?_))
  go_ret
  exact ⟨rfl, S11.out.toBelow⟩
end Go.Proofs.YtkboghhmldokiaaDoor
