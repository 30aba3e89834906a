/- BpduBack, walked. -/
import Derived.Test.YtfpdfenepelcdaaD7
namespace Go.Proofs.Ytfpdfenepelcdaa
open Go.RowKit Go.Gm

theorem arg_seg {w : World} {v : Value} (h : Arg w (.slice 1 1 (.int .u8)) v) : ∃ l, Seg w v l ∧ Small l ∧ l.length ≤ 140737488351232 := by
  obtain ⟨ao, bs, cap, rfl, h1, h2, hw, h3⟩ := (h.one rfl).ints
  have hm : cap ≤ 9223372036854775807 := by simpa [maxLen] using h2
  have hs : Small bs := fun y hy => wf_u8 (hw y hy)
  rcases h3 with ⟨rfl, rfl⟩ | ⟨⟨b, off, spot⟩, rfl, h4, h5⟩
  · have : bs = [] := List.eq_nil_of_length_eq_zero (by omega)
    subst this
    exact ⟨[], ⟨none, 0, rfl, by simp, by omega, fun j x hj => by simp at hj⟩, hs, by simp⟩
  · rcases Nat.eq_zero_or_pos bs.length with h0 | hp
    · have : bs = [] := List.eq_nil_of_length_eq_zero h0
      subst this
      exact ⟨[], ⟨_, cap, rfl, by simp, hm, fun j x hj => by simp at hj⟩, hs, by simp⟩
    · obtain ⟨x, hx⟩ : ∃ x, bs[0]? = some x := ⟨bs[0], List.getElem?_eq_getElem hp⟩
      have hc := h5 0 (.int .u8 x) (by rw [List.getElem?_map, hx]; rfl)
      have hsp : spot = none := by
        have := World.cell?_spot hc
        simpa [Addr.add] using this
      subst hsp
      exact ⟨bs, ⟨_, cap, rfl, h1, hm, fun j y hj => ⟨b, off, rfl, by
        have := h5 j (.int .u8 y) (by rw [List.getElem?_map, hj]; rfl)
        rwa [add_plain] at this⟩⟩, hs, by omega⟩
theorem buf_seg {w : World} {B : Nat} {u : Value} {l : List Int} (h : Buf 5 w B u l) : Seg w u l := by
  obtain ⟨ao, cap, rfl, h1, h2⟩ := h.row.form
  refine ⟨ao, cap, rfl, h1, by simpa [maxLen] using h2, fun j x hj => ?_⟩
  have hp : 0 < l.length := by have := (List.getElem?_eq_some_iff.1 hj).1; omega
  obtain ⟨b, off, cap', e, -, -, -, hc, -⟩ := h.row.cells hp
  simp only [Value.slice.injEq, true_and] at e
  exact ⟨b, off, e.1, hc j (.int .u8 x) (by rw [List.getElem?_map, hj]; rfl)⟩
theorem Seg.text {w : World} {v : Value} {l : List Int} (h : Seg w v l) (hl : l.length ≤ 140737488355328) : (convert 29 9 v).run Try.prog w = .ok (.string (strOfNums l)) w := by
  obtain ⟨ao, cap, rfl, h1, h2, h3⟩ := h
  cases ao with
  | none =>
    cases l with
    | nil => rw [run_convert_bytes_nil w 29 5 Try.underlying29 Try.underlying5 _ cap 9 Try.underlying9]; rfl
    | cons x r =>
      obtain ⟨b, off, e, -⟩ := h3 0 x rfl
      cases e
  | some p =>
    refine run_string Try.underlying29 Try.underlying5 Try.underlying9 (.inr ⟨p, cap, rfl, hl, fun j y hj => ?_⟩)
    rw [List.getElem?_map] at hj
    obtain ⟨z, hz, rfl⟩ := Option.map_eq_some_iff.1 hj
    obtain ⟨b', off', e, hc⟩ := h3 j z hz
    cases e
    rw [add_plain]
    exact hc

set_option maxRecDepth 100000 in
set_option maxHeartbeats 8000000 in
theorem bpduBack_walk (v0 v1 : Value) (w : World) (h0 : Arg w (.cat 1 (.int .i64) (.cat 1 (.int .i64) (.cat 7 (.cat 1 (.int .i64) (.cat 6 (.arr 6 1 (.int .u8)) .nil)) (.cat 1 (.int .i64) (.cat 7 (.cat 1 (.int .i64) (.cat 6 (.arr 6 1 (.int .u8)) .nil)) (.cat 1 (.int .i64) (.cat 1 (.int .i64) (.cat 1 (.int .i64) (.cat 1 (.int .i64) (.cat 1 (.int .i64) .nil)))))))))) v0) (h1 : Arg w (.slice 1 1 (.int .u8)) v1) :
    Calls Try.prog 7 #[v0, v1] w fun e w' => e = .returned (.bool true) ∧ Below w.heap.size w w' := by
  obtain ⟨x, rfl, fx⟩ := arg_bpd h0
  obtain ⟨l, hv, hs, hl⟩ := arg_seg h1
  clear h0 h1
  have b1 := heap_alloc_new w (.cells x.cells 27)
  have s1 := (Step.refl None w).alloc (.cells x.cells 27)
  have hv1 := hv.still s1
  obtain ⟨W, hW⟩ : ∃ W, w.alloc (.cells x.cells 27) = W := ⟨_, rfl⟩
  rw [hW] at b1 s1 hv1
  have HE := Lib.hid hW
  have B1 := Lib.hid b1
  have S1 := Lib.hid s1
  have V1 := Lib.hid hv1
  have F := Lib.hid (And.intro fx (And.intro hs hl))
  obtain ⟨ao, cap, rfl, -, -, -⟩ := hv
  clear hW b1 s1 hv1 fx hs hl
  go_enter Try.func7, Try.ntmps7
  go_wp2_with (first
    | rw [HE.out])
  refine (awake_any _).mono ?_
  rintro e w2 ⟨rfl, s2⟩
  have S2 := Lib.hid (S1.out.then_ s2)
  have B2 := Lib.hid (s2.blk B1.out (fun s => s.elim))
  have V2 := Lib.hid (V1.out.still s2)
  clear s2 S1 B1 V1 HE
  by_cases h1000 : l.length ≤ 1000
  rotate_left
  · have d1 : decide ((1000 : Int) < (l.length : Int)) = true := by simp; omega
    have d2 : decide (1000 < l.length) = true := by simp; omega
    clear h1000
    go_wp2_with fail
    go_ret
    exact ⟨rfl, S2.out.toBelow⟩
  have d1 : decide ((1000 : Int) < (l.length : Int)) = false := by simp; omega
  have d2 : decide (1000 < l.length) = false := by simp; omega
  have H1000 := Lib.hid h1000
  clear h1000
  go_wp2_with (first
    | (refine wpList_load_if 27 (.tmp 2) rfl rfl rfl (load_bpd B2.out) ?_))
  refine (encode_all x w2).mono ?_
  rintro e w3 ⟨u, rfl, bu, s3⟩
  have S3 := Lib.hid (S2.out.then_ s3)
  have B3 := Lib.hid (s3.blk B2.out (fun s => s.elim))
  have V3 := Lib.hid (V2.out.still s3)
  have BU := Lib.hid bu
  clear s3 bu S2 B2 V2
  cases ok : okB x
  · have hc : code x = 1 := by rw [code, ok]; rfl
    rw [hc]
    clear hc
    go_wp2_with fail
    refine (decode_any _ l w3 F.out.2.1 V3.out).mono ?_
    rintro e w8 ⟨rfl, s8⟩
    have bb := born_bpd w8 (decB l)
    obtain ⟨W9, hW9⟩ : ∃ W9, (w8.alloc (.cells #[.int .i64 0, .int .i64 0, .int .i64 0, .int .u8 0, .int .u8 0, .int .u8 0, .int .u8 0, .int .u8 0, .int .u8 0, .int .i64 0, .int .i64 0, .int .u8 0, .int .u8 0, .int .u8 0, .int .u8 0, .int .u8 0, .int .u8 0, .int .i64 0, .int .i64 0, .int .i64 0, .int .i64 0, .int .i64 0] 27)).setRow w8.heap.size (decB l).cells = W9 := ⟨_, rfl⟩
    rw [hW9] at bb
    have HE9 := Lib.hid hW9
    have N9 := Lib.hid bb.1
    have S9 := Lib.hid ((S3.out.then_ s8).then_ bb.2)
    have V9 := Lib.hid ((V3.out.still s8).still bb.2)
    clear hW9 bb s8
    cases hd : decOk l
    · have e1 : decB l = bare 0 := by rw [decB, hd]; rfl
      have e2 : decCode l = 2 := by rw [decCode, hd]; rfl
      rw [e1] at HE9 N9
      rw [e1, e2]
      clear e1 e2 hd
      have he : ∀ w, (Op.equalIn 10000 27 (.agg (bare 0).cells) (.agg #[.int .i64 0, .int .i64 0, .int .i64 0, .int .u8 0, .int .u8 0, .int .u8 0, .int .u8 0, .int .u8 0, .int .u8 0, .int .i64 0, .int .i64 0, .int .u8 0, .int .u8 0, .int .u8 0, .int .u8 0, .int .u8 0, .int .u8 0, .int .i64 0, .int .i64 0, .int .i64 0, .int .i64 0, .int .i64 0])).run Try.prog w = .ok true w := fun w => by
        have := eq_bpd (bare 0) (bare 0) w
        simp only [BEq.rfl] at this
        exact this
      have lb := Lib.hid (load_bpd N9.out)
      go_wp2_with (first
        | rw [HE9.out]
        | (refine wpList_store_row rfl 27 (.tmp 10) (.tmp 45) rfl w8.heap.size (bare 0).cells rfl rfl 27 _ (heap_alloc_new w8 _) (by kernel_rfl) rfl (by kernel_rfl) ?_)
        | (refine wpList_load_if 27 (.tmp 10) rfl rfl rfl lb.out ?_))
      go_ret
      exact ⟨rfl, S9.out.toBelow⟩
    · have hq : rdOk l = true ∧ okB (parsed l) = true := by simpa [decOk] using hd
      have e1 : decB l = parsed l := by rw [decB, hd]; rfl
      have e2 : decCode l = 0 := by rw [decCode, hd]; rfl
      have e3 := dec_enc F.out.2.1 hq.1
      have e4 : encA (parsed l) = l := by rw [encA, hq.2, if_pos rfl, e3]
      have e5 : code (parsed l) = 0 := by rw [code, hq.2]; rfl
      have RG := Lib.hid (fun w => right_any (parsed l) w)
      rw [hq.2] at RG
      have EN := Lib.hid (fun w => encode_all (parsed l) w)
      rw [e4, e5] at EN
      rw [e1] at HE9 N9
      rw [e1, e2]
      clear e1 e2 e3 e4 e5 hd hq
      generalize parsed l = y at *
      have lb := Lib.hid (load_bpd N9.out)
      go_wp2_with (first
        | rw [HE9.out]
        | (refine wpList_store_row rfl 27 (.tmp 10) (.tmp 45) rfl w8.heap.size y.cells rfl rfl 27 _ (heap_alloc_new w8 _) (by kernel_rfl) rfl (by simp [Bpd.cells, Value.oneCell']) ?_)
        | (refine wpList_load_if 27 (.tmp 10) rfl rfl rfl lb.out ?_))
      refine (EN.out _).mono ?_
      rintro e w10 ⟨u10, rfl, b10, s10⟩
      have S10 := Lib.hid (S9.out.then_ s10)
      have V10 := Lib.hid (V9.out.still s10)
      have N10 := Lib.hid (s10.blk N9.out (fun s => s.elim))
      have t1 := text_of b10
      have t2 := V10.out.text (by have := H1000.out; omega)
      have lb10 := Lib.hid (load_bpd N10.out)
      have TB := text_beq F.out.2.1 F.out.2.1
      rw [decide_eq_true rfl] at TB
      clear s10 b10
      go_wp2_with (first
        | (refine wpList_load_if 27 (.tmp 10) rfl rfl rfl lb10.out ?_))
      refine (RG.out _).mono ?_
      rintro e w11 ⟨rfl, s11⟩
      have S11 := Lib.hid (S10.out.then_ s11)
      clear s11
      go_wp2_with fail
      go_ret
      exact ⟨rfl, S11.out.toBelow⟩
  have hc : code x = 0 := by rw [code, ok]; rfl
  have ea : encA x = encB x := by rw [encA, ok]; rfl
  have ED := enc_dec ok
  have hdk : decOk (encB x) = true := by rw [decOk, ED.1, okB_flat ED.2, ok]; rfl
  have hdc : decCode (encB x) = 0 := by rw [decCode, hdk]; rfl
  have hdb : (decB (encB x)).flat = x.flat := by rw [decB, hdk, if_pos rfl]; exact ED.2
  have SX := encB_small F.out.1
  rw [ea] at BU
  have DE := Lib.hid (decode_any u (encB x) w3 SX (buf_seg BU.out))
  rw [hdc, Bpd.cells_flat hdb] at DE
  rw [hc]
  clear hc ea ED hdk hdc hdb SX ok BU
  go_wp2_with fail
  refine DE.out.mono ?_
  rintro e w4 ⟨rfl, s4⟩
  have bb := born_bpd w4 x
  obtain ⟨W5, hW5⟩ : ∃ W5, (w4.alloc (.cells #[.int .i64 0, .int .i64 0, .int .i64 0, .int .u8 0, .int .u8 0, .int .u8 0, .int .u8 0, .int .u8 0, .int .u8 0, .int .i64 0, .int .i64 0, .int .u8 0, .int .u8 0, .int .u8 0, .int .u8 0, .int .u8 0, .int .u8 0, .int .i64 0, .int .i64 0, .int .i64 0, .int .i64 0, .int .i64 0] 27)).setRow w4.heap.size x.cells = W5 := ⟨_, rfl⟩
  rw [hW5] at bb
  have HE5 := Lib.hid hW5
  have L5 := Lib.hid (load_bpd bb.1)
  have S5 := Lib.hid ((S3.out.then_ s4).then_ bb.2)
  have V5 := Lib.hid ((V3.out.still s4).still bb.2)
  have LX5 := Lib.hid (load_bpd (bb.2.blk (s4.blk B3.out (fun s => s.elim)) (fun s => s.elim)))
  have he := eq_bpd x x
  simp only [BEq.rfl] at he
  clear hW5 bb s4 DE
  go_wp2_with (first
    | rw [HE5.out]
    | (refine wpList_store_row rfl 27 (.tmp 8) (.tmp 33) rfl w4.heap.size x.cells rfl rfl 27 _ (heap_alloc_new w4 _) (by kernel_rfl) rfl (by simp [Bpd.cells, Value.oneCell']) ?_)
    | (refine wpList_load_if 27 (.tmp 8) rfl rfl rfl L5.out ?_)
    | (refine wpList_load_if 27 (.tmp 2) rfl rfl rfl LX5.out ?_))
  refine (decode_any _ l W5 F.out.2.1 V5.out).mono ?_
  rintro e w8 ⟨rfl, s8⟩
  have bb := born_bpd w8 (decB l)
  obtain ⟨W9, hW9⟩ : ∃ W9, (w8.alloc (.cells #[.int .i64 0, .int .i64 0, .int .i64 0, .int .u8 0, .int .u8 0, .int .u8 0, .int .u8 0, .int .u8 0, .int .u8 0, .int .i64 0, .int .i64 0, .int .u8 0, .int .u8 0, .int .u8 0, .int .u8 0, .int .u8 0, .int .u8 0, .int .i64 0, .int .i64 0, .int .i64 0, .int .i64 0, .int .i64 0] 27)).setRow w8.heap.size (decB l).cells = W9 := ⟨_, rfl⟩
  rw [hW9] at bb
  have HE9 := Lib.hid hW9
  have N9 := Lib.hid bb.1
  have S9 := Lib.hid ((S5.out.then_ s8).then_ bb.2)
  have V9 := Lib.hid ((V5.out.still s8).still bb.2)
  clear hW9 bb s8
  cases hd : decOk l
  · have e1 : decB l = bare 0 := by rw [decB, hd]; rfl
    have e2 : decCode l = 2 := by rw [decCode, hd]; rfl
    rw [e1] at HE9 N9
    rw [e1, e2]
    clear e1 e2 hd
    have he : ∀ w, (Op.equalIn 10000 27 (.agg (bare 0).cells) (.agg #[.int .i64 0, .int .i64 0, .int .i64 0, .int .u8 0, .int .u8 0, .int .u8 0, .int .u8 0, .int .u8 0, .int .u8 0, .int .i64 0, .int .i64 0, .int .u8 0, .int .u8 0, .int .u8 0, .int .u8 0, .int .u8 0, .int .u8 0, .int .i64 0, .int .i64 0, .int .i64 0, .int .i64 0, .int .i64 0])).run Try.prog w = .ok true w := fun w => by
      have := eq_bpd (bare 0) (bare 0) w
      simp only [BEq.rfl] at this
      exact this
    have lb := Lib.hid (load_bpd N9.out)
    go_wp2_with (first
      | rw [HE9.out]
      | (refine wpList_store_row rfl 27 (.tmp 10) (.tmp 45) rfl w8.heap.size (bare 0).cells rfl rfl 27 _ (heap_alloc_new w8 _) (by kernel_rfl) rfl (by kernel_rfl) ?_)
      | (refine wpList_load_if 27 (.tmp 10) rfl rfl rfl lb.out ?_))
    go_ret
    exact ⟨rfl, S9.out.toBelow⟩
  · have hq : rdOk l = true ∧ okB (parsed l) = true := by simpa [decOk] using hd
    have e1 : decB l = parsed l := by rw [decB, hd]; rfl
    have e2 : decCode l = 0 := by rw [decCode, hd]; rfl
    have e3 := dec_enc F.out.2.1 hq.1
    have e4 : encA (parsed l) = l := by rw [encA, hq.2, if_pos rfl, e3]
    have e5 : code (parsed l) = 0 := by rw [code, hq.2]; rfl
    have RG := Lib.hid (fun w => right_any (parsed l) w)
    rw [hq.2] at RG
    have EN := Lib.hid (fun w => encode_all (parsed l) w)
    rw [e4, e5] at EN
    rw [e1] at HE9 N9
    rw [e1, e2]
    clear e1 e2 e3 e4 e5 hd hq
    generalize parsed l = y at *
    have lb := Lib.hid (load_bpd N9.out)
    go_wp2_with (first
      | rw [HE9.out]
      | (refine wpList_store_row rfl 27 (.tmp 10) (.tmp 45) rfl w8.heap.size y.cells rfl rfl 27 _ (heap_alloc_new w8 _) (by kernel_rfl) rfl (by simp [Bpd.cells, Value.oneCell']) ?_)
      | (refine wpList_load_if 27 (.tmp 10) rfl rfl rfl lb.out ?_))
    refine (EN.out _).mono ?_
    rintro e w10 ⟨u10, rfl, b10, s10⟩
    have S10 := Lib.hid (S9.out.then_ s10)
    have V10 := Lib.hid (V9.out.still s10)
    have N10 := Lib.hid (s10.blk N9.out (fun s => s.elim))
    have t1 := text_of b10
    have t2 := V10.out.text (by have := H1000.out; omega)
    have lb10 := Lib.hid (load_bpd N10.out)
    have TB := text_beq F.out.2.1 F.out.2.1
    rw [decide_eq_true rfl] at TB
    clear s10 b10
    go_wp2_with (first
      | (refine wpList_load_if 27 (.tmp 10) rfl rfl rfl lb10.out ?_))
    refine (RG.out _).mono ?_
    rintro e w11 ⟨rfl, s11⟩
    have S11 := Lib.hid (S10.out.then_ s11)
    clear s11
    go_wp2_with fail
    go_ret
    exact ⟨rfl, S11.out.toBelow⟩
end Go.Proofs.Ytfpdfenepelcdaa
