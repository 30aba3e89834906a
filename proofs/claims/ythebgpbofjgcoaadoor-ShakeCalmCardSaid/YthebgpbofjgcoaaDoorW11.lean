/- ShakeAlone, walked. -/
import Derived.Test.YthebgpbofjgcoaaDoorW10
namespace Go.Gm
namespace Shk
theorem alone_loc_bad {s : Shk} {n : Int} (h : s.has n = false) (up : Bool) : s.loc n up = (s, [], 1) := by simp [loc, h]
theorem alone_loc {s : Shk} {k : Nat} (hk : k < s.ls.length) (hs : s.ses = false) (up : Bool) : (s.loc ((k : Int) + 1) up).2 = ([], 0) ∧ (s.loc ((k : Int) + 1) up).1.alone = s.alone ∧ (s.loc ((k : Int) + 1) up).1.ses = false ∧ ((s.loc ((k : Int) + 1) up).1.get ((k : Int) + 1)).up = up := by
  have hh : s.has ((k : Int) + 1) = true := by simp [has]; omega
  have hg : (s.put ((k : Int) + 1) { s.get ((k : Int) + 1) with up := up }).get ((k : Int) + 1) = { s.get ((k : Int) + 1) with up := up } := by
    rw [put_nat]
    unfold get
    rw [show ((k : Int) + 1 - 1).toNat = k by omega]
    simp [List.getD_eq_getElem?_getD, hk]
  unfold loc
  rw [if_pos hh]
  simp only [hs]
  by_cases hq : (s.get ((k : Int) + 1)).up = up
  · simp only [hq, if_true]
    refine ⟨trivial, rfl, ?_, ?_⟩
    · exact hs
    · rw [← hq] at hg ⊢
      rw [hg]
  · simp only [hq, if_false, Bool.false_eq_true]
    refine ⟨trivial, rfl, ?_, ?_⟩
    · exact hs
    · rw [hg]
theorem alone_take {s : Shk} (hs : s.ses = false) (hl : 0 < s.ls.length) : s.take true 4 1 1 = (s, [], 6) := by
  have hh : s.has 1 = true := by simp [has]; omega
  simp [take, hh, hs]
theorem loc_len' (s : Shk) (n : Int) (up : Bool) : (s.loc n up).1.ls.length = s.ls.length := loc_len s n up
end Shk
end Go.Gm
namespace Go.Proofs.YthebgpbofjgcoaaDoor
open Go.RowKit Go.Gm
/-- One Shake alone, from world w0 on. -/
structure Solo (w0 w : World) (g b : Nat) (s : Shk) : Prop where
  one : Rep 64 72 w g b s
  g0 : w0.heap.size ≤ g
  b0 : w0.heap.size ≤ b
  st : Step None w0 w
  tab : HasAt 0 w
  t0 : 0 < w0.heap.size
theorem Solo.next {w0 w w1 : World} {g b : Nat} {s t : Shk} (h : Solo w0 w g b s) (s1 : Step (fun k => k = g ∨ k = b) w w1) (h1 : Rep 64 72 w1 g b t) : Solo w0 w1 g b t :=
  ⟨h1, h.g0, h.b0, h.st.trans s1 fun _ _ e => by have := h.g0; have := h.b0; show False; omega, h.tab.step s1 fun e => by have := h.g0; have := h.b0; have := h.t0; omega, h.t0⟩
theorem Solo.nextB {w0 w w1 : World} {g b : Nat} {s t : Shk} (h : Solo w0 w g b s) (s1 : Step (· = b) w w1) (h1 : Rep 64 72 w1 g b t) : Solo w0 w1 g b t := h.next (s1.mono fun _ _ e => .inr e) h1
theorem Solo.still {w0 w w1 : World} {g b : Nat} {s : Shk} (h : Solo w0 w g b s) (s1 : Step None w w1) : Solo w0 w1 g b s := h.next s1.none (h.one.still s1)
theorem Both.solo {w0 w : World} {g b r c : Nat} {s : Shk} (h : Both w0 w g b r c s) : Solo w0 w g b s := ⟨h.one, h.g0, h.b0, h.st, h.tab, h.t0⟩

set_option maxRecDepth 10000 in
set_option maxHeartbeats 16000000 in
theorem shakeAlone_walk (v0 v1 v2 : Value) (w : World) (hT : HasAt 0 w) (h0 : Arg w (.slice 14 88 (.cat 1 (.int .i64) (.cat 1 (.int .i64) (.cat 1 .bool (.cat 11 (.cat 1 (.int .i64) (.cat 1 (.int .i64) (.cat 6 (.arr 6 1 (.int .u8)) (.cat 1 (.int .i64) (.cat 1 (.int .i64) (.cat 1 (.slice 1 1 (.int .u8)) .nil)))))) .nil))))) v0) (h1 : Arg w .bool v1) (h2 : Arg w (.int .i64) v2) :
    Calls Tryd.prog 6 #[v0, v1, v2] w fun e w' => e = .returned (.bool true) ∧ Below w.heap.size w w' := by
  obtain ⟨ao, len, cap, rfl, hcap, hlen, hsteps⟩ := steps_arg h0
  obtain ⟨serve, rfl⟩ := h1.bool
  obtain ⟨link, rfl, -⟩ := h2.int
  clear h0
  have HST := Lib.hid hsteps
  have T1 := Lib.hid hT
  clear hsteps hT
  have N := Lib.hid (fun w => new_ok 3 (by decide) (by decide) w)
  have M := Lib.hid (fun w => rnew_ok 3 (by decide) (by decide) w)
  have OK : Hid ((shk0 3).Ok 63) := Lib.hid ⟨by decide, by decide⟩
  have L3 : Hid ((shk0 3).ls.length = 3) := Lib.hid rfl
  go_enter Tryd.func6, Tryd.ntmps6
  go_wp2_with fail
  refine (awake_any w T1.out).mono ?_
  rintro e w2 ⟨rfl, s2⟩
  have S2 := Lib.hid s2
  have T2 := Lib.hid (T1.out.still s2)
  clear s2
  go_wp2_with fail
  refine (N.out _).mono ?_
  rintro e w3 ⟨g, b, rfl, r3, g3, b3, s3⟩
  have R3 := Lib.hid r3
  have GB := Lib.hid (And.intro g3 b3)
  have T3 := Lib.hid (T2.out.still s3)
  have S3 := Lib.hid (S2.out.then_ s3)
  clear r3 g3 b3 s3
  go_wp2_with fail
  refine (M.out _).mono ?_
  rintro e w4 ⟨r, c, rfl, r4, g4, b4, s4⟩
  have BO : Hid (Both w w4 g b r c (shk0 3)) := Lib.hid (by
    have h1 := S2.out.size
    have h2 := S3.out.size
    have h3 := GB.out
    have h4 := T1.out.lt
    exact ⟨R3.out.still s4, r4, by omega, by omega, by omega, by omega, S3.out.then_ s4, T3.out.still s4, h4⟩)
  clear r4 g4 b4 s4 R3 GB S3 T3 S2 T2 N M
  generalize shk0 3 = s0 at *
  go_wp2_with fail
  go_loopw [12] (fun t wr => ∃ i : Nat, i ≤ len ∧ t = .int .i64 i ∧ i ≤ 60 ∧ ∃ s, Hid (Both w wr g b r c s) ∧ Hid (s.Ok (63 + (i : Int))) ∧ Hid (s.ls.length = 3)) (fun t _ => len - (intOf t).toNat)
  case atStart => exact ⟨0, by omega, rfl, by omega, s0, BO, by simpa using OK, L3⟩
  case round =>
    obtain ⟨i, hi, rfl, h150, s, hB, hO, hL⟩ := hrel
    rename_i wr
    clear BO OK L3
    have BL := Lib.hid hB.out.st
    have FIN : Hid (Solo w wr g b s) := Lib.hid hB.out.solo
    by_cases hx : i < len ∧ i < 60
    rotate_left
    · have d0 : (decide ((i : Int) < (len : Int)) && decide ((i : Int) < 60)) = false := by simp; omega
      cases d1 : decide ((i : Int) < (len : Int))
      · have d1' : decide (i < len) = false := by simpa using d1
        clear d0
        go_wp2_with fail
        refine (stop_any g b s serve wr hO.out.len FIN.out.one).mono ?_
        rintro e w6 ⟨rfl, r6, s6⟩
        have F6 := Lib.hid (FIN.out.next s6 r6)
        have O6 : Hid ((s.stop serve).Ok 200) := Lib.hid ((hO.out.stop (by omega) serve).mono (by omega))
        have L6 : Hid ((s.stop serve).ls.length = 3) := Lib.hid ((Shk.stop_len s serve).trans hL.out)
        have E6 : Hid ((s.stop serve).ses = false ∧ (s.stop serve).alone = serve) := Lib.hid ⟨rfl, rfl⟩
        clear r6 s6 FIN hO hL hB BL
        generalize s.stop serve = t at *
        go_wp2_with fail
        refine (local_any g b t link true w6 200 O6.out (by decide) (by decide) F6.out.one).mono ?_
        rintro e w7 ⟨u7, rfl, t7, r7, s7⟩
        have F7 := Lib.hid (F6.out.nextB s7 r7)
        have U7 := Lib.hid t7
        have O7 : Hid ((t.loc link true).1.Ok 201) := Lib.hid (Shk.loc_ok O6.out (by decide) link true)
        have L7 : Hid ((t.loc link true).1.ls.length = 3) := Lib.hid ((Shk.loc_len t link true).trans L6.out)
        obtain ⟨uo, uc, rfl, -, -⟩ := t7.row.form
        clear t7 r7 s7
        cases hh : t.has link
        · have e7 := Shk.alone_loc_bad hh true
          rw [e7] at F7 U7 O7 L7
          rw [e7]
          have HB := Lib.hid hh
          have hl : link < 1 ∨ 3 < link := by
            have := L6.out
            simp only [Shk.has, Bool.and_eq_false_iff, decide_eq_false_iff_not] at hh
            omega
          have sv : t.serves link = false := by simp [Shk.serves, hh]
          have bk : t.blocked link = true := by simp [Shk.blocked, hh]
          clear e7 hh
          have e8 := Shk.alone_take E6.out.1 (by have := L6.out; omega)
          have TK := Lib.hid (take_any g b t awN none 0 w7 201 O7.out (by decide) (by decide) F7.out.tab F7.out.one)
          rw [awN_right, show t.take true awN.kind awN.port awN.state = (t, [], 6) from e8] at TK
          clear e8
          have SV := Lib.hid sv
          have BK := Lib.hid bk
          clear sv bk
          go_wp2_with fail
          refine TK.out.mono ?_
          rintro e w8 ⟨u8, rfl, t8, r8, s8⟩
          have F8 := Lib.hid (F7.out.nextB s8 r8)
          obtain ⟨vo, vc, rfl, -, -⟩ := t8.row.form
          clear t8 r8 s8 TK
          by_cases h1 : link < 1
          · have k1 : decide (link < 1) = true := by simpa using h1
            clear h1 hl
            go_wp2_with fail
            refine (serves_any g b t link w8 (by have := L7.out; omega) F8.out.one).mono ?_
            rintro e wz ⟨rfl, rfl⟩
            rw [SV.out]
            go_wp2_with fail
            refine (blocked_any g b t link w8 (by have := L7.out; omega) F8.out.one).mono ?_
            rintro e wz ⟨rfl, rfl⟩
            rw [BK.out]
            go_wp2_with fail
            go_ret
            exact ⟨rfl, F8.out.st.toBelow⟩
          · have k1 : decide (link < 1) = false := by simpa using h1
            have k2 : decide (3 < link) = true := by simp; omega
            clear h1 hl
            go_wp2_with fail
            refine (serves_any g b t link w8 (by have := L7.out; omega) F8.out.one).mono ?_
            rintro e wz ⟨rfl, rfl⟩
            rw [SV.out]
            go_wp2_with fail
            refine (blocked_any g b t link w8 (by have := L7.out; omega) F8.out.one).mono ?_
            rintro e wz ⟨rfl, rfl⟩
            rw [BK.out]
            go_wp2_with fail
            go_ret
            exact ⟨rfl, F8.out.st.toBelow⟩
        obtain ⟨k, hlk, hk⟩ := Shk.has_nat hh
        have A := Shk.alone_loc hk E6.out.1 true
        rw [← hlk] at A
        obtain ⟨a1, a2, a3, a4⟩ := A
        have hT7 : (t.loc link true).1.has link = true := by simpa [Shk.has, Shk.loc_len] using hh
        rw [a1] at U7
        rw [a1]
        have sv : (t.loc link true).1.serves link = serve := by simp [Shk.serves, hT7, a3, a4, a2, E6.out.2]
        have bk : (t.loc link true).1.blocked link = true := by simp [Shk.blocked, a3]
        have e8 := Shk.alone_take a3 (by have := L7.out; omega)
        have hk7 : k < (t.loc link true).1.ls.length := by have := L7.out; have := L6.out; omega
        have B9 := Shk.alone_loc hk7 a3 false
        rw [← hlk] at B9
        have z9 : ((t.loc link true).1.loc link false).1.serves link = false := by simp [Shk.serves, B9.2.2.2]
        have Z9 := Lib.hid z9
        have SV := Lib.hid sv
        have BK := Lib.hid bk
        clear hlk hk hh a1 a2 a3 a4 hT7 sv bk hk7 B9 z9
        generalize (t.loc link true).1 = t7 at *
        have TK := Lib.hid (take_any g b t7 awN none 0 w7 201 O7.out (by decide) (by decide) F7.out.tab F7.out.one)
        rw [awN_right, show t7.take true awN.kind awN.port awN.state = (t7, [], 6) from e8] at TK
        clear e8
        go_wp2_with fail
        refine TK.out.mono ?_
        rintro e w8 ⟨u8, rfl, t8, r8, s8⟩
        have F8 := Lib.hid (F7.out.nextB s8 r8)
        obtain ⟨vo, vc, rfl, -, -⟩ := t8.row.form
        clear t8 r8 s8 TK
        go_wp2_with fail
        refine (serves_any g b t7 link w8 (by have := L7.out; omega) F8.out.one).mono ?_
        rintro e wz ⟨rfl, rfl⟩
        rw [SV.out]
        have ss : (serve == serve) = true := by simp
        go_wp2_with fail
        refine (blocked_any g b t7 link w8 (by have := L7.out; omega) F8.out.one).mono ?_
        rintro e wz ⟨rfl, rfl⟩
        rw [BK.out]
        go_wp2_with fail
        refine (local_any g b t7 link false w8 201 O7.out (by decide) (by decide) F8.out.one).mono ?_
        rintro e w9 ⟨u9, rfl, t9, r9, s9⟩
        have F9 := Lib.hid (F8.out.nextB s9 r9)
        obtain ⟨xo, xc, rfl, -, -⟩ := t9.row.form
        have L9 : Hid ((t7.loc link false).1.ls.length = 3) := Lib.hid ((Shk.loc_len t7 link false).trans L7.out)
        clear t9 r9 s9
        go_wp2_with fail
        refine (serves_any g b _ link w9 (by have := L9.out; omega) F9.out.one).mono ?_
        rintro e wz ⟨rfl, rfl⟩
        rw [Z9.out]
        go_wp2_with fail
        go_ret
        exact ⟨rfl, F9.out.st.toBelow⟩
      · have d1' : decide (i < len) = true := by simpa using d1
        have d2 : decide ((i : Int) < 60) = false := by simp at d1 ⊢; omega
        clear d0
        go_wp2_with fail
        refine (stop_any g b s serve wr hO.out.len FIN.out.one).mono ?_
        rintro e w6 ⟨rfl, r6, s6⟩
        have F6 := Lib.hid (FIN.out.next s6 r6)
        have O6 : Hid ((s.stop serve).Ok 200) := Lib.hid ((hO.out.stop (by omega) serve).mono (by omega))
        have L6 : Hid ((s.stop serve).ls.length = 3) := Lib.hid ((Shk.stop_len s serve).trans hL.out)
        have E6 : Hid ((s.stop serve).ses = false ∧ (s.stop serve).alone = serve) := Lib.hid ⟨rfl, rfl⟩
        clear r6 s6 FIN hO hL hB BL
        generalize s.stop serve = t at *
        go_wp2_with fail
        refine (local_any g b t link true w6 200 O6.out (by decide) (by decide) F6.out.one).mono ?_
        rintro e w7 ⟨u7, rfl, t7, r7, s7⟩
        have F7 := Lib.hid (F6.out.nextB s7 r7)
        have U7 := Lib.hid t7
        have O7 : Hid ((t.loc link true).1.Ok 201) := Lib.hid (Shk.loc_ok O6.out (by decide) link true)
        have L7 : Hid ((t.loc link true).1.ls.length = 3) := Lib.hid ((Shk.loc_len t link true).trans L6.out)
        obtain ⟨uo, uc, rfl, -, -⟩ := t7.row.form
        clear t7 r7 s7
        cases hh : t.has link
        · have e7 := Shk.alone_loc_bad hh true
          rw [e7] at F7 U7 O7 L7
          rw [e7]
          have HB := Lib.hid hh
          have hl : link < 1 ∨ 3 < link := by
            have := L6.out
            simp only [Shk.has, Bool.and_eq_false_iff, decide_eq_false_iff_not] at hh
            omega
          have sv : t.serves link = false := by simp [Shk.serves, hh]
          have bk : t.blocked link = true := by simp [Shk.blocked, hh]
          clear e7 hh
          have e8 := Shk.alone_take E6.out.1 (by have := L6.out; omega)
          have TK := Lib.hid (take_any g b t awN none 0 w7 201 O7.out (by decide) (by decide) F7.out.tab F7.out.one)
          rw [awN_right, show t.take true awN.kind awN.port awN.state = (t, [], 6) from e8] at TK
          clear e8
          have SV := Lib.hid sv
          have BK := Lib.hid bk
          clear sv bk
          go_wp2_with fail
          refine TK.out.mono ?_
          rintro e w8 ⟨u8, rfl, t8, r8, s8⟩
          have F8 := Lib.hid (F7.out.nextB s8 r8)
          obtain ⟨vo, vc, rfl, -, -⟩ := t8.row.form
          clear t8 r8 s8 TK
          by_cases h1 : link < 1
          · have k1 : decide (link < 1) = true := by simpa using h1
            clear h1 hl
            go_wp2_with fail
            refine (serves_any g b t link w8 (by have := L7.out; omega) F8.out.one).mono ?_
            rintro e wz ⟨rfl, rfl⟩
            rw [SV.out]
            go_wp2_with fail
            refine (blocked_any g b t link w8 (by have := L7.out; omega) F8.out.one).mono ?_
            rintro e wz ⟨rfl, rfl⟩
            rw [BK.out]
            go_wp2_with fail
            go_ret
            exact ⟨rfl, F8.out.st.toBelow⟩
          · have k1 : decide (link < 1) = false := by simpa using h1
            have k2 : decide (3 < link) = true := by simp; omega
            clear h1 hl
            go_wp2_with fail
            refine (serves_any g b t link w8 (by have := L7.out; omega) F8.out.one).mono ?_
            rintro e wz ⟨rfl, rfl⟩
            rw [SV.out]
            go_wp2_with fail
            refine (blocked_any g b t link w8 (by have := L7.out; omega) F8.out.one).mono ?_
            rintro e wz ⟨rfl, rfl⟩
            rw [BK.out]
            go_wp2_with fail
            go_ret
            exact ⟨rfl, F8.out.st.toBelow⟩
        obtain ⟨k, hlk, hk⟩ := Shk.has_nat hh
        have A := Shk.alone_loc hk E6.out.1 true
        rw [← hlk] at A
        obtain ⟨a1, a2, a3, a4⟩ := A
        have hT7 : (t.loc link true).1.has link = true := by simpa [Shk.has, Shk.loc_len] using hh
        rw [a1] at U7
        rw [a1]
        have sv : (t.loc link true).1.serves link = serve := by simp [Shk.serves, hT7, a3, a4, a2, E6.out.2]
        have bk : (t.loc link true).1.blocked link = true := by simp [Shk.blocked, a3]
        have e8 := Shk.alone_take a3 (by have := L7.out; omega)
        have hk7 : k < (t.loc link true).1.ls.length := by have := L7.out; have := L6.out; omega
        have B9 := Shk.alone_loc hk7 a3 false
        rw [← hlk] at B9
        have z9 : ((t.loc link true).1.loc link false).1.serves link = false := by simp [Shk.serves, B9.2.2.2]
        have Z9 := Lib.hid z9
        have SV := Lib.hid sv
        have BK := Lib.hid bk
        clear hlk hk hh a1 a2 a3 a4 hT7 sv bk hk7 B9 z9
        generalize (t.loc link true).1 = t7 at *
        have TK := Lib.hid (take_any g b t7 awN none 0 w7 201 O7.out (by decide) (by decide) F7.out.tab F7.out.one)
        rw [awN_right, show t7.take true awN.kind awN.port awN.state = (t7, [], 6) from e8] at TK
        clear e8
        go_wp2_with fail
        refine TK.out.mono ?_
        rintro e w8 ⟨u8, rfl, t8, r8, s8⟩
        have F8 := Lib.hid (F7.out.nextB s8 r8)
        obtain ⟨vo, vc, rfl, -, -⟩ := t8.row.form
        clear t8 r8 s8 TK
        go_wp2_with fail
        refine (serves_any g b t7 link w8 (by have := L7.out; omega) F8.out.one).mono ?_
        rintro e wz ⟨rfl, rfl⟩
        rw [SV.out]
        have ss : (serve == serve) = true := by simp
        go_wp2_with fail
        refine (blocked_any g b t7 link w8 (by have := L7.out; omega) F8.out.one).mono ?_
        rintro e wz ⟨rfl, rfl⟩
        rw [BK.out]
        go_wp2_with fail
        refine (local_any g b t7 link false w8 201 O7.out (by decide) (by decide) F8.out.one).mono ?_
        rintro e w9 ⟨u9, rfl, t9, r9, s9⟩
        have F9 := Lib.hid (F8.out.nextB s9 r9)
        obtain ⟨xo, xc, rfl, -, -⟩ := t9.row.form
        have L9 : Hid ((t7.loc link false).1.ls.length = 3) := Lib.hid ((Shk.loc_len t7 link false).trans L7.out)
        clear t9 r9 s9
        go_wp2_with fail
        refine (serves_any g b _ link w9 (by have := L9.out; omega) F9.out.one).mono ?_
        rintro e wz ⟨rfl, rfl⟩
        rw [Z9.out]
        go_wp2_with fail
        go_ret
        exact ⟨rfl, F9.out.st.toBelow⟩
    have hlt : i < len := hx.1
    have d1 : decide ((i : Int) < (len : Int)) = true := by simp; omega
    have d1' : decide (i < len) = true := by simpa using hlt
    have d2 : decide ((i : Int) < 60) = true := by simp; omega
    have hl60 : i < 60 := hx.2
    clear hx FIN
    obtain ⟨b0, off, n, bo, bc, d, lk, is, rfl, hcells⟩ := HST.out i hlt
    have c0i : (0 : Int) ≤ (i : Int) := by omega
    have c1i : (i : Int) < (len : Int) := by omega
    have CE : Hid (∀ w', Step None w w' → ∀ j u, (stepC n d lk is (.slice bo n.body.length bc))[j]? = some u → w'.cell? ⟨b0, off + i * 14 + j, none⟩ = some u) := Lib.hid fun w' h' j u hj => (h'.cell (p := ⟨b0, off + i * 14 + j, none⟩) (World.block_lt_of_cell? _ _ (hcells j u hj)) (fun s => s.elim)).trans (hcells j u hj)
    clear hcells
    have kb := CE.out _ BL.out 13 (.slice bo n.body.length bc) rfl
    cases d3 : decide ((2000 : Int) < (n.body.length : Int))
    rotate_left
    · have d3' : decide (2000 < n.body.length) = true := by simp at d3 ⊢; omega
      go_wp2_with fail
      go_ret
      exact ⟨rfl, BL.out.toBelow⟩
    have d3' : decide (2000 < n.body.length) = false := by simp at d3 ⊢; omega
    have ls : Hid ((Instr.loadAt 37 (.pointer (some ⟨b0, off + i * 14, none⟩))).run Tryd.prog wr = .ok (.agg (stepC n d lk is (.slice bo n.body.length bc))) wr) := Lib.hid (load_step rfl (CE.out _ BL.out))
    have SA := Lib.hid (step_any s g b r c n bo bc d lk is w wr _ hO.out (by omega) (by omega) hB.out)
    have TO := stepS_ok hO.out (by omega) n d lk is
    have OK2 : Hid ((stepS s n d lk is).Ok (63 + ((i + 1 : Nat) : Int))) := Lib.hid (TO.mono (by omega))
    have L2 : Hid ((stepS s n d lk is).ls.length = 3) := Lib.hid ((stepS_len s n d lk is).trans hL.out)
    clear TO hO hL
    go_wp2_with (refine wpList_load_if 37 (.tmp 59) rfl rfl rfl ls.out ?_)
    refine SA.out.mono ?_
    rintro e w5 ⟨rfl, h5⟩
    have B5 := Lib.hid h5
    clear h5 SA ls hB kb BL
    generalize stepS s n d lk is = t at *
    go_wp2_with fail
    go_roundw
    case rel => exact ⟨i + 1, by omega, by first | rfl | simp, by omega, t, B5, OK2, L2⟩
    case measure => simp [intOf]; omega
end Go.Proofs.YthebgpbofjgcoaaDoor
