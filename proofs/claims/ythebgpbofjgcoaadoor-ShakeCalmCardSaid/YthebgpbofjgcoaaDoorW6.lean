/- The document's Start; Local. -/
import Derived.Test.YthebgpbofjgcoaaDoorW5
namespace Go.Proofs.YthebgpbofjgcoaaDoor
open Go.RowKit Go.Gm
theorem all_take (n k : Nat) (h : k ≤ n) : (Shk.all n).take k = Shk.all k := by
  unfold Shk.all
  rw [← List.map_take, List.take_range, Nat.min_eq_left h]
/-- Behind some of the links: the document's. -/
structure RS (w2 wr : World) (g b : Nat) (s : Shk) (l : List Int) (u : Value) : Prop where
  rep : Rep 67 74 wr g b (Shk.membs s l).1
  out : Tells wr w2.heap.size u (Shk.membs s l).2
  st : Step (· = b) w2 wr
set_option maxHeartbeats 4000000 in
theorem rstart_any (g b : Nat) (s : Shk) (w : World) (m : Int) (ho : s.Ok m) (h : Rep 67 74 w g b s) :
    Calls Tryd.prog 24 #[.pointer (some ⟨g, 0, none⟩)] w fun e w' => ∃ u, e = .returned u ∧ Tells w' w.heap.size u s.start.2 ∧ Rep 67 74 w' g b s.start.1 ∧ Step (fun k => k = g ∨ k = b) w w' := by
  have hl := ho.len
  have ST := Lib.hid (rstop_any g b s false w hl h)
  have ok := ok_start ho
  have sl : (s.stop false).ls.length = s.ls.length := by simp [Shk.stop]
  have GG : Hid (b < w.heap.size ∧ g < w.heap.size) := Lib.hid ⟨blk_lt h.row, blk_lt h.st⟩
  have SL := Lib.hid sl
  have hS : s.start = Shk.membs { s.stop false with ses := true } (Shk.all s.ls.length) := rfl
  have hi : ((s.ls.length : Nat) : Int) ≤ 9223372036854775807 := by omega
  have s0l : ({ s.stop false with ses := true } : Shk).ls.length = s.ls.length := SL.out
  rw [hS]
  obtain ⟨s0, hs0⟩ : ∃ s0, ({ s.stop false with ses := true } : Shk) = s0 := ⟨_, rfl⟩
  rw [hs0] at ok s0l ⊢
  have HS0 := Lib.hid hs0
  have OK := Lib.hid ok
  have S0L := Lib.hid s0l
  clear h ho sl hs0 ok s0l hS
  go_enter Tryd.func24, Tryd.ntmps24
  go_wp2_with fail
  refine ST.out.mono ?_
  rintro e w1 ⟨rfl, r1, s1⟩
  clear ST
  have C := r1.cells
  have f1 := (r1.frz 1).2
  have r2 := r1.setSes (by decide) true
  have t2 := s1.setCell (p := ⟨g, 1, none⟩) (fun _ => .inl rfl) (.bool true)
  obtain ⟨W2, hW2⟩ : ∃ W2, w1.setCell ⟨g, 1, none⟩ (.bool true) = W2 := ⟨_, rfl⟩
  rw [hW2] at r2 t2
  rw [HS0.out] at r2
  have HE2 := Lib.hid hW2
  have RS0 : Hid (RS W2 W2 g b s0 [] (.slice none 0 0)) := Lib.hid ⟨r2, Tells.nil _ _, Step.refl _ _⟩
  have T2 := Lib.hid t2
  obtain ⟨d0, d1, d2⟩ := C
  clear r1 s1 r2 t2 hW2
  go_wp2_with (first | rw [HE2.out])
  have SZ : Hid (w.heap.size ≤ W2.heap.size ∧ b < W2.heap.size ∧ g < W2.heap.size) := Lib.hid (by have := T2.out.size; have := GG.out; omega)
  clear d0 d1 d2
  go_loopw [3, 4] (fun u t wr => ∃ k : Nat, k ≤ s.ls.length ∧ t = .int .i64 k ∧ Hid (RS W2 wr g b s0 (Shk.all k) u)) (fun _ t _ => s.ls.length - (intOf t).toNat)
  case atStart => exact ⟨0, by omega, rfl, RS0⟩
  case round =>
    obtain ⟨k, hk, rfl, hM⟩ := hrel
    rename_i wr
    clear RS0
    have hln := Shk.membs_len (Shk.all k) s0
    have cc := hM.out.rep.cells.1
    rw [hln, S0L.out] at cc
    have tlen : (Shk.membs s0 (Shk.all k)).2.length = k := by rw [Shk.membs_count, Shk.all_len]
    have hok1 := Lib.hid (Shk.Ok.membs (Shk.all k) OK.out (Int.le_refl _))
    have R0 := Lib.hid hM.out.rep
    have O0 := Lib.hid hM.out.out
    have S0 := Lib.hid hM.out.st
    have FF := hM
    have e1 : Hid (Shk.membs s0 (Shk.all (k + 1)) = (((Shk.membs s0 (Shk.all k)).1.memb ((k : Int) + 1)).1, (Shk.membs s0 (Shk.all k)).2 ++ [((Shk.membs s0 (Shk.all k)).1.memb ((k : Int) + 1)).2])) := Lib.hid (by rw [Shk.all_succ, Shk.membs_app])
    clear hM
    cases c1 : decide ((k : Int) < (s.ls.length : Int))
    · have c1' : decide (k < s.ls.length) = false := by simp at c1 ⊢; omega
      have hin : k = s.ls.length := by simp at c1; omega
      rw [hin] at FF O0
      clear hin hln tlen
      obtain ⟨uo, uc, rfl, -, -⟩ := O0.out.row.form
      go_wp2_with fail
      go_ret
      exact ⟨_, rfl, FF.out.out.mono SZ.out.1, FF.out.rep, T2.out.then_ (FF.out.st.mono fun k _ e => .inr e)⟩
    have hlt : k < s.ls.length := by simp at c1; omega
    have c1' : decide (k < s.ls.length) = true := by simpa using hlt
    have hkk : k < (Shk.membs s0 (Shk.all k)).1.ls.length := by have := S0L.out; omega
    clear FF
    have hm1 : (0 : Int) + ((Shk.all k).length : Int) ≤ 1000000 := by rw [Shk.all_len]; omega
    generalize (Shk.membs s0 (Shk.all k)).1 = si at *
    generalize (Shk.membs s0 (Shk.all k)).2 = tl at *
    obtain ⟨uo, uc, rfl, -, -⟩ := O0.out.row.form
    have TL := Lib.hid tlen
    have A := Lib.hid (rmember_any g b si k wr hkk _ hok1.out (by omega) hm1 R0.out)
    clear tlen hln R0 hok1 hm1
    have c0i : (0 : Int) ≤ (k : Int) := by omega
    go_wp2_with fail
    refine A.out.mono ?_
    rintro e w3 ⟨rfl, r3, s3⟩
    have R3 := Lib.hid r3
    have O3 := Lib.hid (O0.out.step s3 (fun j hj e => by have := O0.out.new j hj; have := SZ.out; omega))
    have S3 := Lib.hid (S0.out.then_ s3)
    clear r3 s3 A O0 S0 cc
    generalize (si.memb ((k : Int) + 1)).1 = sj at *
    generalize (si.memb ((k : Int) + 1)).2 = t at *
    have p4 := heap_alloc_new w3 (.cells (tellC t) 35)
    have s4 := (Step.refl None w3).alloc (.cells (tellC t) 35)
    obtain ⟨W4, hW4⟩ : ∃ W4, w3.alloc (.cells (tellC t) 35) = W4 := ⟨_, rfl⟩
    rw [hW4] at p4 s4
    have HE4 : Hid (w3.alloc (.cells #[.int .i64 t.kind, .int .i64 0, .int .u8 0, .int .u8 0, .int .u8 0, .int .u8 0, .int .u8 0, .int .u8 0, .int .i64 t.port, .int .i64 t.state, .slice none 0 0] 35) = W4) := Lib.hid hW4
    have P4 := Lib.hid p4
    have R4 := Lib.hid (R3.out.still s4)
    have O4 := Lib.hid (O3.out.still s4)
    have S4 := Lib.hid (S3.out.then_ s4.none)
    clear hW4 p4 s4 R3 O3 S3
    simp only [tellC]
    go_wp2_with (first | rw [HE4.out] | (at_builtin; refine wpList_append_row T47 rfl (.tmp 19) (.tmp 23) rfl rfl O4.out.row rfl (Src.ofBlock T47 (m := 1) (c := 1) P4.out (by rfl) (by simp [tellC, Value.oneCell'])) ?ha ?hb ?_))
    case ha => have := TL.out; simp [maxLen]; omega
    case hb => have := TL.out; omega
    intro v5 w5 r5 t5 g5
    have F : Hid (RS W2 w5 g b s0 (Shk.all (k + 1)) v5) := Lib.hid (by
      refine ⟨?_, ?_, S4.out.trans t5 fun j hj e => by have := O4.out.new j e; omega⟩
      · rw [e1.out]
        exact R4.out.step t5 (fun e => by have := O4.out.new _ e; have := SZ.out; omega) (fun e => by have := O4.out.new _ e; have := SZ.out; omega)
      · rw [e1.out]
        exact O4.out.more S4.out.size r5 g5)
    clear r5 t5 g5 R4 O4 S4 P4 e1
    go_wp2_with fail
    go_roundw
    case rel => exact ⟨k + 1, by omega, by first | rfl | simp, F⟩
    case measure => simp [intOf]; omega

set_option maxHeartbeats 4000000 in
theorem local_any (g b : Nat) (s : Shk) (n : Int) (up : Bool) (w : World) (m : Int) (ho : s.Ok m) (hm : 0 ≤ m) (hm2 : m ≤ 1000000) (h : Rep 64 72 w g b s) :
    Calls Tryd.prog 16 #[.pointer (some ⟨g, 0, none⟩), .int .i64 n, .bool up] w fun e w' => ∃ u, e = .returned (.tuple #[u, .int .i64 (s.loc n up).2.2]) ∧ Tells w' w.heap.size u (s.loc n up).2.1 ∧ Rep 64 72 w' g b (s.loc n up).1 ∧ Step (· = b) w w' := by
  have hl := ho.len
  cases hn : s.has n
  · have e0 : s.loc n up = (s, [], 1) := by simp [Shk.loc, hn]
    rw [e0]
    have AT := Lib.hid (at_bad g b s n w hn h)
    have F := Lib.hid h
    clear hn e0 h ho
    go_enter Tryd.func16, Tryd.ntmps16
    go_wp2_with fail
    refine AT.out.mono ?_
    rintro e wz ⟨rfl, rfl⟩
    go_wp2_with fail
    go_ret2
    exact ⟨_, rfl, Tells.nil _ _, F.out, Step.refl _ _⟩
  · obtain ⟨k, rfl, hk⟩ := Shk.has_nat hn
    have AT := Lib.hid (at_ok g b s k w hk hl h)
    obtain ⟨l0, l1, l2⟩ := h.link hk
    have fz := (h.frz (k * 3)).1
    have r1 := h.setLink0 (by decide) hk (v := .bool up) (l := { s.get ((k : Int) + 1) with up := up }) rfl
    have t1 := (Step.refl (· = b) w).setCell (p := ⟨b, k * 3, none⟩) (fun _ => rfl) (.bool up)
    obtain ⟨W1, hW1⟩ : ∃ W1, w.setCell ⟨b, k * 3, none⟩ (.bool up) = W1 := ⟨_, rfl⟩
    rw [hW1] at r1 t1
    have c1 := r1.cells.2.1
    have HE1 := Lib.hid hW1
    have R1 := Lib.hid r1
    have T1 := Lib.hid t1
    have OK1 := Lib.hid (ho.put ((k : Int) + 1) (l := { s.get ((k : Int) + 1) with up := up }) (ho.get hm _))
    have HN1 : Hid ((s.put ((k : Int) + 1) { s.get ((k : Int) + 1) with up := up }).has ((k : Int) + 1) = true) := Lib.hid (by simpa [Shk.has, Shk.put_len] using hn)
    have hse : (s.put ((k : Int) + 1) { s.get ((k : Int) + 1) with up := up }).ses = s.ses := rfl
    rw [hse] at c1
    cases hq : ((s.get ((k : Int) + 1)).up == up)
    · have hne : ¬ (s.get ((k : Int) + 1)).up = up := by simpa using hq
      cases hs : s.ses
      · have e0 : s.loc ((k : Int) + 1) up = (s.put ((k : Int) + 1) { s.get ((k : Int) + 1) with up := up }, [], 0) := by simp [Shk.loc, hn, hne, hs]
        rw [e0]
        rw [hs] at c1
        clear hn e0 h ho hne hs hW1 r1 t1 hse
        go_enter Tryd.func16, Tryd.ntmps16
        go_wp2_with fail
        refine AT.out.mono ?_
        rintro e wz ⟨rfl, rfl⟩
        go_wp2_with (first | rw [HE1.out])
        go_ret2
        exact ⟨_, rfl, Tells.nil _ _, R1.out, T1.out⟩
      · have e0 : s.loc ((k : Int) + 1) up = (((s.put ((k : Int) + 1) { s.get ((k : Int) + 1) with up := up }).memb ((k : Int) + 1)).1, [((s.put ((k : Int) + 1) { s.get ((k : Int) + 1) with up := up }).memb ((k : Int) + 1)).2], 0) := by simp [Shk.loc, hn, hne, hs]
        rw [e0]
        rw [hs] at c1
        clear hn e0 ho hne hs hW1 r1 t1 hse
        have GG : Hid (w.heap.size ≤ W1.heap.size) := Lib.hid T1.out.size
        clear h
        generalize s.put ((k : Int) + 1) { s.get ((k : Int) + 1) with up := up } = t at *
        have p2 := heap_alloc_new W1 (.cells #[.int .i64 ((k : Int) + 1)] 3)
        have s2 := (Step.refl None W1).alloc (.cells #[.int .i64 ((k : Int) + 1)] 3)
        obtain ⟨W2, hW2⟩ : ∃ W2, W1.alloc (.cells #[.int .i64 ((k : Int) + 1)] 3) = W2 := ⟨_, rfl⟩
        rw [hW2] at p2 s2
        have HE2 := Lib.hid hW2
        have row : Row W2 3 1 (.slice (some ⟨W1.heap.size, 0, none⟩) 1 1) [(k : Int) + 1].length ([(k : Int) + 1].map (.int .i64)) := by
          have := Row.ofBlock (e := 3) (sz := 1) (n := 1) (cap := 1) p2 (Nat.le_refl _) (by simp [maxLen]) (by simp)
          simpa using this
        have M := Lib.hid (members_any g b t _ [(k : Int) + 1] W2 m OK1.out hm hm2 (by simp) (by intro n hn; simp only [List.mem_cons, List.not_mem_nil, or_false] at hn; subst hn; exact HN1.out) row (R1.out.still s2))
        have T2 := Lib.hid (T1.out.then_ s2.none)
        have G2 : Hid (w.heap.size ≤ W2.heap.size) := Lib.hid T2.out.size
        clear p2 s2 hW2 row
        go_enter Tryd.func16, Tryd.ntmps16
        go_wp2_with fail
        refine AT.out.mono ?_
        rintro e wz ⟨rfl, rfl⟩
        go_wp2_with (first | rw [HE1.out] | rw [HE2.out])
        refine M.out.mono ?_
        rintro e w5 ⟨y, rfl, t5, r5, s5⟩
        have F := Lib.hid (And.intro t5 (And.intro r5 s5))
        obtain ⟨yo, yc, rfl, -, -⟩ := t5.row.form
        clear t5 r5 s5 M
        go_wp2_with fail
        go_ret2
        exact ⟨_, rfl, F.out.1.mono G2.out, F.out.2.1, T2.out.then_ F.out.2.2⟩
    · have hne : (s.get ((k : Int) + 1)).up = up := by simpa using hq
      have e0 : s.loc ((k : Int) + 1) up = (s.put ((k : Int) + 1) { s.get ((k : Int) + 1) with up := up }, [], 0) := by simp [Shk.loc, hn, hne]
      rw [e0]
      clear hn e0 h ho hne hW1 r1 t1 hse
      go_enter Tryd.func16, Tryd.ntmps16
      go_wp2_with fail
      refine AT.out.mono ?_
      rintro e wz ⟨rfl, rfl⟩
      go_wp2_with (first | rw [HE1.out])
      go_ret2
      exact ⟨_, rfl, Tells.nil _ _, R1.out, T1.out⟩

set_option maxHeartbeats 4000000 in
theorem rlocal_any (g b : Nat) (s : Shk) (n : Int) (up : Bool) (w : World) (m : Int) (ho : s.Ok m) (hm : 0 ≤ m) (hm2 : m ≤ 1000000) (h : Rep 67 74 w g b s) :
    Calls Tryd.prog 21 #[.pointer (some ⟨g, 0, none⟩), .int .i64 n, .bool up] w fun e w' => ∃ u, e = .returned (.tuple #[u, .int .i64 (s.loc n up).2.2]) ∧ Tells w' w.heap.size u (s.loc n up).2.1 ∧ Rep 67 74 w' g b (s.loc n up).1 ∧ Step (· = b) w w' := by
  have hl := ho.len
  cases hn : s.has n
  · have e0 : s.loc n up = (s, [], 1) := by simp [Shk.loc, hn]
    rw [e0]
    have AT := Lib.hid (has_any g b s n w h)
    rw [hn] at AT
    have F := Lib.hid h
    clear hn e0 h ho
    go_enter Tryd.func21, Tryd.ntmps21
    go_wp2_with fail
    refine AT.out.mono ?_
    rintro e wz ⟨rfl, rfl⟩
    go_wp2_with fail
    go_ret2
    exact ⟨_, rfl, Tells.nil _ _, F.out, Step.refl _ _⟩
  · obtain ⟨k, rfl, hk⟩ := Shk.has_nat hn
    have AT := Lib.hid (has_any g b s ((k : Int) + 1) w h)
    rw [hn] at AT
    obtain ⟨l0, l1, l2⟩ := h.link hk
    have c0 := h.cells.1
    have w1 : wrap64 ((k : Int) + 1 - 1) = k := by unfold wrap64; omega
    have u1 : IntKind.i64.wrap ((k : Int) + 1 - 1) = k := by rw [IntKind.wrap_i64]; omega
    have i1 : (k : Int) < (s.ls.length : Int) := by omega
    have i0 : (0 : Int) ≤ (k : Int) := by omega
    have fz := (h.frz (k * 3)).1
    have r1 := h.setLink0 (by decide) hk (v := .bool up) (l := { s.get ((k : Int) + 1) with up := up }) rfl
    have t1 := (Step.refl (· = b) w).setCell (p := ⟨b, k * 3, none⟩) (fun _ => rfl) (.bool up)
    obtain ⟨W1, hW1⟩ : ∃ W1, w.setCell ⟨b, k * 3, none⟩ (.bool up) = W1 := ⟨_, rfl⟩
    rw [hW1] at r1 t1
    have c1 := r1.cells.2.1
    have HE1 := Lib.hid hW1
    have R1 := Lib.hid r1
    have T1 := Lib.hid t1
    have OK1 := Lib.hid (ho.put ((k : Int) + 1) (l := { s.get ((k : Int) + 1) with up := up }) (ho.get hm _))
    have HK1 : Hid (k < (s.put ((k : Int) + 1) { s.get ((k : Int) + 1) with up := up }).ls.length) := Lib.hid (by rw [Shk.put_len]; exact hk)
    have hse : (s.put ((k : Int) + 1) { s.get ((k : Int) + 1) with up := up }).ses = s.ses := rfl
    rw [hse] at c1
    cases hq : ((s.get ((k : Int) + 1)).up == up)
    · have hne : ¬ (s.get ((k : Int) + 1)).up = up := by simpa using hq
      cases hs : s.ses
      · have e0 : s.loc ((k : Int) + 1) up = (s.put ((k : Int) + 1) { s.get ((k : Int) + 1) with up := up }, [], 0) := by simp [Shk.loc, hn, hne, hs]
        rw [e0]
        rw [hs] at c1
        clear hn e0 h ho hne hs hW1 r1 t1 hse
        go_enter Tryd.func21, Tryd.ntmps21
        go_wp2_with fail
        refine AT.out.mono ?_
        rintro e wz ⟨rfl, rfl⟩
        go_wp2_with (first | rw [HE1.out])
        go_ret2
        exact ⟨_, rfl, Tells.nil _ _, R1.out, T1.out⟩
      · have e0 : s.loc ((k : Int) + 1) up = (((s.put ((k : Int) + 1) { s.get ((k : Int) + 1) with up := up }).memb ((k : Int) + 1)).1, [((s.put ((k : Int) + 1) { s.get ((k : Int) + 1) with up := up }).memb ((k : Int) + 1)).2], 0) := by simp [Shk.loc, hn, hne, hs]
        rw [e0]
        rw [hs] at c1
        clear hn e0 ho hne hs hW1 r1 t1 hse
        have GG : Hid (w.heap.size ≤ W1.heap.size) := Lib.hid T1.out.size
        clear h
        generalize s.put ((k : Int) + 1) { s.get ((k : Int) + 1) with up := up } = t at *
        have M := Lib.hid (rmember_any g b t k W1 HK1.out m OK1.out hm hm2 R1.out)
        go_enter Tryd.func21, Tryd.ntmps21
        go_wp2_with fail
        refine AT.out.mono ?_
        rintro e wz ⟨rfl, rfl⟩
        go_wp2_with (first | rw [HE1.out])
        refine M.out.mono ?_
        rintro e w5 ⟨rfl, r5, s5⟩
        have p6 := heap_alloc_new w5 (.cells (tellC (t.memb ((k : Int) + 1)).2) 35)
        have s6 := (Step.refl None w5).alloc (.cells (tellC (t.memb ((k : Int) + 1)).2) 35)
        have F : Hid (Tells (w5.alloc (.cells (tellC (t.memb ((k : Int) + 1)).2) 35)) w.heap.size (.slice (some ⟨w5.heap.size, 0, none⟩) 1 1) [(t.memb ((k : Int) + 1)).2] ∧ Rep 67 74 (w5.alloc (.cells (tellC (t.memb ((k : Int) + 1)).2) 35)) g b (t.memb ((k : Int) + 1)).1 ∧ Step (· = b) w (w5.alloc (.cells (tellC (t.memb ((k : Int) + 1)).2) 35))) :=
          Lib.hid ⟨Tells.one p6 (by have := GG.out; have := s5.size; omega), r5.still s6, (T1.out.then_ s5).then_ s6.none⟩
        clear r5 s5 M p6 s6
        simp only [tellC]
        go_wp2_with fail
        go_ret2
        exact ⟨_, rfl, F.out⟩
    · have hne : (s.get ((k : Int) + 1)).up = up := by simpa using hq
      have hput : s.put ((k : Int) + 1) { s.get ((k : Int) + 1) with up := up } = s := by
        rw [Shk.put_nat]
        have hg := Shk.get_nat hk
        have he : ({ s.get ((k : Int) + 1) with up := up } : Lk) = s.get ((k : Int) + 1) := by rw [← hne]
        rw [he]
        have := List.set_getElem_self hk
        rw [List.getElem?_eq_getElem hk] at hg
        simp only [Option.some.injEq] at hg
        rw [hg] at this
        rw [this]
      have e0 : s.loc ((k : Int) + 1) up = (s, [], 0) := by simp only [Shk.loc, hn, if_true, hne, hput]
      rw [e0]
      have F := Lib.hid h
      clear hn e0 h ho hne hW1 r1 t1 hse hput
      go_enter Tryd.func21, Tryd.ntmps21
      go_wp2_with fail
      refine AT.out.mono ?_
      rintro e wz ⟨rfl, rfl⟩
      go_wp2_with fail
      go_ret2
      exact ⟨_, rfl, Tells.nil _ _, F.out, Step.refl _ _⟩

end Go.Proofs.YthebgpbofjgcoaaDoor
