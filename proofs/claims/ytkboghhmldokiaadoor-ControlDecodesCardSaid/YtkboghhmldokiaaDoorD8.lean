/- ControlBack, walked. -/
import Derived.Test.YtkboghhmldokiaaDoorD7
namespace Go.Proofs.YtkboghhmldokiaaDoor
open Go.RowKit Go.Gm

theorem noNote_fine : Small noNote.body := fun x hx => by simp [noNote] at hx
set_option maxRecDepth 100000 in
set_option maxHeartbeats 8000000 in
theorem controlBack_walk (v0 v1 : Value) (w : World) (hT : HasAt 0 w) (h0 : Arg w (.cat 1 (.int .i64) (.cat 1 (.int .i64) (.cat 1 (.int .i64) (.cat 11 (.cat 1 (.int .i64) (.cat 1 (.int .i64) (.cat 6 (.arr 6 1 (.int .u8)) (.cat 1 (.int .i64) (.cat 1 (.int .i64) (.cat 1 (.slice 1 1 (.int .u8)) .nil)))))) .nil)))) v0) (h1 : Arg w (.slice 1 1 (.int .u8)) v1) :
    Calls Tryd.prog 9 #[v0, v1] w fun e w' => e = .returned (.bool true) ∧ Below w.heap.size w w' := by
  obtain ⟨ep, sq, ak, n, bo, bc, rfl, hb, sb, sm, hlen⟩ := arg_packet h0
  obtain ⟨l, hr, sr, rlen⟩ := arg_seg h1
  clear h0 h1
  have hr2 := hr
  obtain ⟨ro, rc, ev, hrc, hrm, -⟩ := hr
  subst ev
  have hr := hr2
  clear hr2
  have b1 := heap_alloc_new w (.cells (n.packet ep sq ak (.slice bo n.body.length bc)) 28)
  have s1 := (Step.refl None w).alloc (.cells (n.packet ep sq ak (.slice bo n.body.length bc)) 28)
  obtain ⟨W, hW⟩ : ∃ W, w.alloc (.cells (n.packet ep sq ak (.slice bo n.body.length bc)) 28) = W := ⟨_, rfl⟩
  rw [hW] at b1 s1
  have HE := Lib.hid hW
  have T := Lib.hid hT
  have SM := Lib.hid (And.intro sb (And.intro sm sr))
  have HBY := Lib.hid hb
  have HR := Lib.hid hr
  have P1 := Lib.hid b1
  have S1 := Lib.hid s1
  have q1 : ((n.body.length : Int) ≤ 9223372036854775807) := by omega
  have q2 : ((l.length : Int) ≤ 9223372036854775807) := by omega
  clear hW hT sb sm sr hb hr b1 s1 hrc hrm hlen rlen
  go_enter Tryd.func9, Tryd.ntmps9
  go_wp2_with (first
    | rw [HE.out])
  refine (awake_any _ (T.out.still S1.out)).mono ?_
  rintro e w2 ⟨rfl, s2⟩
  have P1 := Lib.hid (s2.blk P1.out (fun s => s.elim))
  have S2 := Lib.hid (S1.out.then_ s2)
  have c13 := blk_cell P1.out 13
  simp only [Note.packet, List.getElem?_toArray, List.getElem?_cons_zero, List.getElem?_cons_succ] at c13
  clear s2 S1 HE
  by_cases hn : n.body.length ≤ 3000
  rotate_left
  · have d1 : decide ((3000 : Int) < (n.body.length : Int)) = true := decide_eq_true (by omega)
    have d2 : decide (3000 < n.body.length) = true := decide_eq_true (by omega)
    clear hn
    go_wp2_with fail
    go_ret
    exact ⟨rfl, S2.out.toBelow⟩
  have d1 : decide ((3000 : Int) < (n.body.length : Int)) = false := decide_eq_false (by omega)
  have d2 : decide (3000 < n.body.length) = false := decide_eq_false (by omega)
  by_cases hm : l.length ≤ 3000
  rotate_left
  · have d3 : decide ((3000 : Int) < (l.length : Int)) = true := decide_eq_true (by omega)
    have d4 : decide (3000 < l.length) = true := decide_eq_true (by omega)
    clear hn hm
    go_wp2_with fail
    go_ret
    exact ⟨rfl, S2.out.toBelow⟩
  have d3 : decide ((3000 : Int) < (l.length : Int)) = false := decide_eq_false (by omega)
  have d4 : decide (3000 < l.length) = false := decide_eq_false (by omega)
  have HN := Lib.hid (And.intro hn hm)
  clear hn hm
  have LP := Lib.hid (load_pkt P1.out)
  have E1 := Lib.hid (encode_all ep sq ak n bo bc w2 (T.out.still S2.out) (HBY.out.step S2.out (fun _ _ s => s.elim)) (by have := HN.out.1; omega))
  go_wp2_with (first
    | (refine wpList_load_is 28 (.tmp 2) rfl rfl rfl LP.out ?_))
  clear d1 d2 d3 d4 c13
  refine E1.out.mono ?_
  rintro e w3 ⟨u, rfl, hu, s3⟩
  have P3 := Lib.hid (s3.blk P1.out (fun s => s.elim))
  have S3 := Lib.hid (S2.out.then_ s3)
  have LP3 := Lib.hid (load_pkt P3.out)
  have C1 := Lib.hid (show codeB ep sq ak n = if okP ep sq ak n then 0 else 1 from rfl)
  have TS : Hid (∀ w', Step None w w' → Calls Tryd.prog 18 #[.slice ro l.length rc] w' fun e w'' => e = .returned (.tuple (told l)) ∧ Step None w' w'') := Lib.hid fun w' h' => told_seg _ l w' SM.out.2.2 (HR.out.still h')
  have TC := Lib.hid (told_cases l SM.out.2.2)
  have DE : Hid (∀ w', Step None w w' → Calls Tryd.prog 20 #[.slice ro l.length rc] w' fun e w'' => ∃ bo bc, e = .returned (.tuple #[.agg ((decN l).packet (decE l) (decS l) (decA l) (.slice bo (decN l).body.length bc)), .int .i64 (decCode l)]) ∧ Bytes w'' (.slice bo (decN l).body.length bc) (decN l).body ∧ Step None w' w'') := Lib.hid fun w' h' => decode_any _ l w' (T.out.still h') SM.out.2.2 (HR.out.still h')
  have FW := Lib.hid (forth_law SM.out.2.2)
  have HD : Hid (decCode l = if decOk l = true then 0 else 2) := Lib.hid (by unfold decCode; rfl)
  have ob : Hid ((decN l).body.length ≤ 10000) := by
    cases h : decOk l
    · rw [(dec_no h).1]; exact Lib.hid (by simp [noNote])
    · have := (forth_law SM.out.2.2 h).2.2.1; exact Lib.hid (by omega)
  obtain ⟨E0, P0, B0, C0, htl⟩ := told_form l
  rw [htl] at TS TC
  clear htl P1 LP E1 S2
  generalize decN l = dn at *
  generalize decE l = de at *
  generalize decS l = ds at *
  generalize decA l = da at *
  generalize hok : decOk l = ok at *
  cases h1 : okP ep sq ak n
  · rw [h1] at C1
    have k1 : codeB ep sq ak n = 1 := C1.out
    rw [k1]
    clear k1 C1 hu P3 LP3
    go_wp2_with fail
    refine (DE.out w3 S3.out).mono ?_
    rintro e w8 ⟨b1, b2, rfl, by8, s8⟩
    have hp := laid_pkt w8 (dn.packet de ds da (.slice b1 dn.body.length b2))
    obtain ⟨W9, hW9⟩ : ∃ W9, (w8.alloc (.cells #[.int .i64 0, .int .i64 0, .int .i64 0, .int .i64 0, .int .i64 0, .int .u8 0, .int .u8 0, .int .u8 0, .int .u8 0, .int .u8 0, .int .u8 0, .int .i64 0, .int .i64 0, .slice none 0 0] 28)).setRow w8.heap.size (dn.packet de ds da (.slice b1 dn.body.length b2)) = W9 := ⟨_, rfl⟩
    rw [hW9] at hp
    have HE9 := Lib.hid hW9
    have S9 := Lib.hid ((S3.out.then_ s8).then_ hp.2)
    have LD := Lib.hid (load_pkt hp.1)
    have E9 := Lib.hid (encode_all de ds da dn b1 b2 W9 (T.out.still S9.out) (by8.step hp.2 (fun _ _ s => s.elim)) ob.out)
    clear hW9 hp s8 by8 DE S3
    cases ok
    · have hd : decCode l = 2 := HD.out
      rw [hd]
      clear E9 LD FW
      go_wp2_with (first
        | rw [HE9.out]
        | (refine wpList_store_row rfl 28 (.tmp 11) (.tmp 61) rfl w8.heap.size (dn.packet de ds da (.slice b1 dn.body.length b2)) rfl rfl 28 _ (heap_alloc_new w8 _) (by kernel_rfl) rfl (by simp [Note.packet, Value.oneCell']) ?_))
      clear hd HE9
      refine (TS.out W9 S9.out).mono ?_
      rintro e w10 ⟨rfl, s10⟩
      have S10 := Lib.hid (S9.out.then_ s10)
      clear s10 S9 TS
      rcases TC.out with hno | ⟨E1, P1, B1, hy, h8, hc, hby⟩
      · simp only [toldNo, Array.mk.injEq, List.cons.injEq, Value.int.injEq, Value.bool.injEq, true_and, and_true] at hno
        obtain ⟨rfl, rfl, rfl, rfl⟩ := hno
        go_wp2_with fail
        go_ret
        exact ⟨rfl, S10.out.toBelow⟩
      · simp only [Array.mk.injEq, List.cons.injEq, Value.int.injEq, Value.bool.injEq, true_and, and_true] at hy
        obtain ⟨rfl, rfl, rfl, rfl⟩ := hy
        have AL := alive_any E0 P0 B0 w10
        rw [hc, hby] at AL
        have AL := Lib.hid AL
        clear hc hby h8
        go_wp2_with fail
        refine AL.out.mono ?_
        rintro e w11 ⟨u, rfl, hu, s11⟩
        have S11 := Lib.hid (S10.out.then_ s11)
        have t1 := seg_text (seg_row hu.row) (by have := HN.out.2; omega)
        have t2 := seg_text (HR.out.still S11.out) (by have := HN.out.2; omega)
        have HL := Lib.hid hu.form
        clear AL s11 hu S10
        obtain ⟨xo, xc, rfl⟩ := HL.out
        generalize strOfNums l = str at *
        go_wp2_with fail
        go_ret
        exact ⟨by simp, S11.out.toBelow⟩
    · have hd : decCode l = 0 := HD.out
      obtain ⟨fc, fb, -, f13⟩ := FW.out rfl
      rw [fc, fb] at E9
      rw [hd]
      have F13 := Lib.hid f13
      clear FW fc fb f13
      go_wp2_with (first
        | rw [HE9.out]
        | (refine wpList_store_row rfl 28 (.tmp 11) (.tmp 61) rfl w8.heap.size (dn.packet de ds da (.slice b1 dn.body.length b2)) rfl rfl 28 _ (heap_alloc_new w8 _) (by kernel_rfl) rfl (by simp [Note.packet, Value.oneCell']) ?_)
        | (refine wpList_load_is 28 (.tmp 11) rfl rfl rfl LD.out ?_))
      refine E9.out.mono ?_
      rintro e w10 ⟨u, rfl, hu, s10⟩
      have S10 := Lib.hid (S9.out.then_ s10)
      have t1 := seg_text (seg_row hu.row) (by have := HN.out.2; omega)
      have t2 := seg_text (HR.out.still S10.out) (by have := HN.out.2; omega)
      have HL := Lib.hid hu.form
      clear hd HE9 E9 LD s10 hu S9
      obtain ⟨xo, xc, rfl⟩ := HL.out
      generalize strOfNums l = str at *
      go_wp2_with fail
      clear t1 t2
      refine (TS.out w10 S10.out).mono ?_
      rintro e w12 ⟨rfl, s12⟩
      have S12 := Lib.hid (S10.out.then_ s12)
      clear s12 S10 TS
      rcases TC.out with hno | ⟨E1, P1, B1, hy, h8, hc, hby⟩
      · simp only [toldNo, Array.mk.injEq, List.cons.injEq, Value.int.injEq, Value.bool.injEq, true_and, and_true] at hno
        obtain ⟨rfl, rfl, rfl, rfl⟩ := hno
        go_wp2_with fail
        go_ret
        exact ⟨rfl, S12.out.toBelow⟩
      · have := F13.out
        omega
  · rw [h1] at C1
    have k1 : codeB ep sq ak n = 0 := C1.out
    rw [k1]
    obtain ⟨f1, f2, f3, f4, f5⟩ := back_law h1 SM.out.2.1 SM.out.1
    have hsm := encB_small (ep := ep) (sq := sq) (ak := ak) SM.out.2.1 SM.out.1
    have SG := seg_row hu.row
    have DC := decode_any u (encB ep sq ak n) w3 (T.out.still S3.out) hsm SG
    rw [f1, f2, f3, f4, f5] at DC
    have DC := Lib.hid DC
    have HX := Lib.hid hu.form
    clear k1 C1 hu f1 f2 f3 f4 f5 hsm SG h1
    generalize encB ep sq ak n = L at *
    obtain ⟨uo, uc, rfl⟩ := HX.out
    go_wp2_with fail
    refine DC.out.mono ?_
    rintro e w4 ⟨p1, p2, rfl, by4, s4⟩
    have hp := laid_pkt w4 (n.packet ep sq ak (.slice p1 n.body.length p2))
    obtain ⟨W5, hW5⟩ : ∃ W5, (w4.alloc (.cells #[.int .i64 0, .int .i64 0, .int .i64 0, .int .i64 0, .int .i64 0, .int .u8 0, .int .u8 0, .int .u8 0, .int .u8 0, .int .u8 0, .int .u8 0, .int .i64 0, .int .i64 0, .slice none 0 0] 28)).setRow w4.heap.size (n.packet ep sq ak (.slice p1 n.body.length p2)) = W5 := ⟨_, rfl⟩
    rw [hW5] at hp
    have HE5 := Lib.hid hW5
    have S5 := Lib.hid ((S3.out.then_ s4).then_ hp.2)
    have LA := Lib.hid (load_pkt (hp.2.blk (s4.blk P3.out (fun s => s.elim)) (fun s => s.elim)))
    have LB := Lib.hid (load_pkt hp.1)
    have SA := Lib.hid (sameP_any ep sq ak ep sq ak n n bo p1 bc p2 W5 (HBY.out.step S5.out (fun _ _ s => s.elim)) (by4.step hp.2 (fun _ _ s => s.elim)))
    rw [show sameP ep sq ak n ep sq ak n = true by simp [sameP, sameN_refl]] at SA
    clear hW5 hp s4 by4 DC P3 LP3 S3 HX
    go_wp2_with (first
      | rw [HE5.out]
      | (refine wpList_store_row rfl 28 (.tmp 8) (.tmp 47) rfl w4.heap.size (n.packet ep sq ak (.slice p1 n.body.length p2)) rfl rfl 28 _ (heap_alloc_new w4 _) (by kernel_rfl) rfl (by simp [Note.packet, Value.oneCell']) ?_)
      | (refine wpList_load_is 28 (.tmp 2) rfl rfl rfl LA.out ?_)
      | (refine wpList_load_is 28 (.tmp 8) rfl rfl rfl LB.out ?_))
    refine SA.out.mono ?_
    rintro e w3 ⟨rfl, s6⟩
    have S3 := Lib.hid (S5.out.then_ s6)
    clear s6 SA LA LB HE5 S5
    go_wp2_with fail
    refine (DE.out w3 S3.out).mono ?_
    rintro e w8 ⟨b1, b2, rfl, by8, s8⟩
    have hp := laid_pkt w8 (dn.packet de ds da (.slice b1 dn.body.length b2))
    obtain ⟨W9, hW9⟩ : ∃ W9, (w8.alloc (.cells #[.int .i64 0, .int .i64 0, .int .i64 0, .int .i64 0, .int .i64 0, .int .u8 0, .int .u8 0, .int .u8 0, .int .u8 0, .int .u8 0, .int .u8 0, .int .i64 0, .int .i64 0, .slice none 0 0] 28)).setRow w8.heap.size (dn.packet de ds da (.slice b1 dn.body.length b2)) = W9 := ⟨_, rfl⟩
    rw [hW9] at hp
    have HE9 := Lib.hid hW9
    have S9 := Lib.hid ((S3.out.then_ s8).then_ hp.2)
    have LD := Lib.hid (load_pkt hp.1)
    have E9 := Lib.hid (encode_all de ds da dn b1 b2 W9 (T.out.still S9.out) (by8.step hp.2 (fun _ _ s => s.elim)) ob.out)
    clear hW9 hp s8 by8 DE S3
    cases ok
    · have hd : decCode l = 2 := HD.out
      rw [hd]
      clear E9 LD FW
      go_wp2_with (first
        | rw [HE9.out]
        | (refine wpList_store_row rfl 28 (.tmp 11) (.tmp 61) rfl w8.heap.size (dn.packet de ds da (.slice b1 dn.body.length b2)) rfl rfl 28 _ (heap_alloc_new w8 _) (by kernel_rfl) rfl (by simp [Note.packet, Value.oneCell']) ?_))
      clear hd HE9
      refine (TS.out W9 S9.out).mono ?_
      rintro e w10 ⟨rfl, s10⟩
      have S10 := Lib.hid (S9.out.then_ s10)
      clear s10 S9 TS
      rcases TC.out with hno | ⟨E1, P1, B1, hy, h8, hc, hby⟩
      · simp only [toldNo, Array.mk.injEq, List.cons.injEq, Value.int.injEq, Value.bool.injEq, true_and, and_true] at hno
        obtain ⟨rfl, rfl, rfl, rfl⟩ := hno
        go_wp2_with fail
        go_ret
        exact ⟨rfl, S10.out.toBelow⟩
      · simp only [Array.mk.injEq, List.cons.injEq, Value.int.injEq, Value.bool.injEq, true_and, and_true] at hy
        obtain ⟨rfl, rfl, rfl, rfl⟩ := hy
        have AL := alive_any E0 P0 B0 w10
        rw [hc, hby] at AL
        have AL := Lib.hid AL
        clear hc hby h8
        go_wp2_with fail
        refine AL.out.mono ?_
        rintro e w11 ⟨u, rfl, hu, s11⟩
        have S11 := Lib.hid (S10.out.then_ s11)
        have t1 := seg_text (seg_row hu.row) (by have := HN.out.2; omega)
        have t2 := seg_text (HR.out.still S11.out) (by have := HN.out.2; omega)
        have HL := Lib.hid hu.form
        clear AL s11 hu S10
        obtain ⟨xo, xc, rfl⟩ := HL.out
        generalize strOfNums l = str at *
        go_wp2_with fail
        go_ret
        exact ⟨by simp, S11.out.toBelow⟩
    · have hd : decCode l = 0 := HD.out
      obtain ⟨fc, fb, -, f13⟩ := FW.out rfl
      rw [fc, fb] at E9
      rw [hd]
      have F13 := Lib.hid f13
      clear FW fc fb f13
      go_wp2_with (first
        | rw [HE9.out]
        | (refine wpList_store_row rfl 28 (.tmp 11) (.tmp 61) rfl w8.heap.size (dn.packet de ds da (.slice b1 dn.body.length b2)) rfl rfl 28 _ (heap_alloc_new w8 _) (by kernel_rfl) rfl (by simp [Note.packet, Value.oneCell']) ?_)
        | (refine wpList_load_is 28 (.tmp 11) rfl rfl rfl LD.out ?_))
      refine E9.out.mono ?_
      rintro e w10 ⟨u, rfl, hu, s10⟩
      have S10 := Lib.hid (S9.out.then_ s10)
      have t1 := seg_text (seg_row hu.row) (by have := HN.out.2; omega)
      have t2 := seg_text (HR.out.still S10.out) (by have := HN.out.2; omega)
      have HL := Lib.hid hu.form
      clear hd HE9 E9 LD s10 hu S9
      obtain ⟨xo, xc, rfl⟩ := HL.out
      generalize strOfNums l = str at *
      go_wp2_with fail
      clear t1 t2
      refine (TS.out w10 S10.out).mono ?_
      rintro e w12 ⟨rfl, s12⟩
      have S12 := Lib.hid (S10.out.then_ s12)
      clear s12 S10 TS
      rcases TC.out with hno | ⟨E1, P1, B1, hy, h8, hc, hby⟩
      · simp only [toldNo, Array.mk.injEq, List.cons.injEq, Value.int.injEq, Value.bool.injEq, true_and, and_true] at hno
        obtain ⟨rfl, rfl, rfl, rfl⟩ := hno
        go_wp2_with fail
        go_ret
        exact ⟨rfl, S12.out.toBelow⟩
      · have := F13.out
        omega
end Go.Proofs.YtkboghhmldokiaaDoor
