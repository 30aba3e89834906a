/- StreamScripts, walked. -/
import Derived.Test.YtgchepijbpcckaaDoorW14
namespace Go.Proofs.YtgchepijbpcckaaDoor
open Go.RowKit Go.Gm

/-- The steps that are handed in. -/
def StepsAt (w : World) (ao : Option Addr) (len : Nat) : Prop :=
  ∀ i, i < len → ∃ b off p bo bc d now, ao = some ⟨b, off, none⟩ ∧ Bytes w (.slice bo p.n.body.length bc) p.n.body ∧ (∀ j u, (stepC p d now (.slice bo p.n.body.length bc))[j]? = some u → w.cell? ⟨b, off + i * 16 + j, none⟩ = some u)
theorem steps_arg {w : World} {v : Value} (h : Arg w (.slice 16 104 (.cat 1 (.int .i64) (.cat 1 (.int .i64) (.cat 14 (.cat 1 (.int .i64) (.cat 1 (.int .i64) (.cat 1 (.int .i64) (.cat 11 (.cat 1 (.int .i64) (.cat 1 (.int .i64) (.cat 6 (.arr 6 1 (.int .u8)) (.cat 1 (.int .i64) (.cat 1 (.int .i64) (.cat 1 (.slice 1 1 (.int .u8)) .nil)))))) .nil)))) .nil)))) v) : ∃ ao len cap, v = .slice ao len cap ∧ len ≤ cap ∧ (len : Int) ≤ 9223372036854775807 ∧ StepsAt w ao len := by
  obtain ⟨ao, len, cap, rfl, h1, h2, h3, h4⟩ := (h.one rfl).elems (by decide)
  refine ⟨ao, len, cap, rfl, h1, by omega, fun i hi => ?_⟩
  obtain ⟨b, off, cs, rfl, hl, hc, hf⟩ := h4 i hi
  obtain ⟨d, _, rfl, -, k1⟩ := hf.intc
  obtain ⟨now, _, rfl, -, k2⟩ := k1.intc
  obtain ⟨_, _, rfl, hp, k4⟩ := k2.aggc
  obtain rfl := k4.nilc
  obtain ⟨ep, _, rfl, -, m1⟩ := hp.intc
  obtain ⟨sq, _, rfl, -, m2⟩ := m1.intc
  obtain ⟨ak, _, rfl, -, m3⟩ := m2.intc
  obtain ⟨_, _, rfl, hn, m4⟩ := m3.aggc
  obtain rfl := m4.nilc
  obtain ⟨n, bo, bc, rfl, hb, -, -, -⟩ := fits_note hn
  refine ⟨b, off, ⟨ep, sq, ak, n⟩, bo, bc, d, now, rfl, hb, fun j u hj => ?_⟩
  have hjl : j < 16 := by
    have := (Array.getElem?_eq_some_iff.1 hj).1
    simpa [stepC] using this
  rw [hc j hjl, ← hj]
  simp [stepC, Note.cells]
theorem load_step {w : World} {b k : Nat} {cs : Array Value} (hs : cs.size = 16) (h : ∀ j u, cs[j]? = some u → w.cell? ⟨b, k + j, none⟩ = some u) : (Instr.loadAt 40 (.pointer (some ⟨b, k, none⟩))).run Tryd.prog w = .ok (.agg cs) w := by
  have := run_loadAt_mid (P := Tryd.prog) w b k 40 cs.toList _ (fun j u hj => h j u (by simpa using hj)) Tryd.underlying40 rfl (by rw [Array.length_toList, hs]; kernel_rfl)
  simpa using this
theorem two_arg {w : World} {v : Value} (h : Arg w (.arr 2 1 (.int .i64)) v) : ∃ x y : Int, v = .agg #[.int .i64 x, .int .i64 y] := by
  obtain ⟨⟨l⟩, rfl, hf⟩ := h.agg rfl
  obtain ⟨xs, hx, hl, -⟩ := Fits.intArr hf
  match xs, hl with
  | [x, y], _ => exact ⟨x, y, by simp at hx; subst hx; rfl⟩

set_option maxRecDepth 100000 in
set_option maxHeartbeats 16000000 in
theorem streamScripts_walk (v0 v1 : Value) (w : World) (hT : HasAt 0 w) (h0 : Arg w (.arr 2 1 (.int .i64)) v0) (h1 : Arg w (.slice 16 104 (.cat 1 (.int .i64) (.cat 1 (.int .i64) (.cat 14 (.cat 1 (.int .i64) (.cat 1 (.int .i64) (.cat 1 (.int .i64) (.cat 11 (.cat 1 (.int .i64) (.cat 1 (.int .i64) (.cat 6 (.arr 6 1 (.int .u8)) (.cat 1 (.int .i64) (.cat 1 (.int .i64) (.cat 1 (.slice 1 1 (.int .u8)) .nil)))))) .nil)))) .nil)))) v1) :
    Calls Tryd.prog 3 #[v0, v1] w fun e w' => e = .returned (.bool true) ∧ Below w.heap.size w w' := by
  obtain ⟨x, y, rfl⟩ := two_arg h0
  obtain ⟨ao, len, cap, rfl, hcap, hlen, hsteps⟩ := steps_arg h1
  clear h0 h1
  have HST := Lib.hid hsteps
  have b := heap_alloc_new w (.cells #[.int .i64 x, .int .i64 y] 22)
  obtain ⟨W, hW⟩ : ∃ W, w.alloc (.cells #[.int .i64 x, .int .i64 y] 22) = W := ⟨_, rfl⟩
  have s1 : Step None w W := by rw [← hW]; exact (Step.refl None w).alloc _
  rw [hW] at b
  have HE := Lib.hid hW
  have T0 := Lib.hid hT
  have T1 := Lib.hid (hT.still s1)
  have AW := Lib.hid (awake_any W T1.out)
  have S1 := Lib.hid s1
  have B1 := Lib.hid b
  clear hsteps hT hW s1 b
  cases hok : Stm.newOk x y
  · have N := Lib.hid (fun w => new_bad x y w hok)
    have M := Lib.hid (fun w => rnew_bad x y w hok)
    clear hok
    go_enter Tryd.func3, Tryd.ntmps3
    go_wp2_with (first | rw [HE.out])
    refine AW.out.mono ?_
    rintro e w2 ⟨rfl, s2⟩
    have S2 := Lib.hid (S1.out.then_ s2)
    have B2 := s2.blk B1.out (fun s => s.elim)
    have k0 := blk_cell B2 0
    have k1 := blk_cell B2 1
    simp only [List.getElem?_toArray, List.getElem?_cons_zero, List.getElem?_cons_succ] at k0 k1
    clear s2 B2
    go_wp2_with fail
    refine (N.out _).mono ?_
    rintro e w3 ⟨rfl, rfl⟩
    go_wp2_with fail
    refine (M.out _).mono ?_
    rintro e w3 ⟨rfl, rfl⟩
    clear k0 k1
    go_wp2_with fail
    go_loopw [10] (fun t wr => t = .int .i64 0 ∧ wr = w2) (fun _ _ => 0)
    case atStart => exact ⟨rfl, rfl⟩
    case round =>
      obtain ⟨rfl, rfl⟩ := hrel
      cases d1 : decide ((0 : Int) < (len : Int))
      · have d1' : decide (0 < len) = false := by simp at d1 ⊢; omega
        go_wp2_with fail
        go_ret
        exact ⟨rfl, S2.out.toBelow⟩
      · have d1' : decide (0 < len) = true := by simp at d1 ⊢; omega
        go_wp2_with fail
        go_ret
        exact ⟨rfl, S2.out.toBelow⟩
  have N := Lib.hid (fun w => new_ok x y w hok)
  have M := Lib.hid (fun w => rnew_ok x y w hok)
  have OK := Lib.hid (Stm.start_ok hok)
  clear hok
  go_enter Tryd.func3, Tryd.ntmps3
  go_wp2_with (first | rw [HE.out])
  refine AW.out.mono ?_
  rintro e w2 ⟨rfl, s2⟩
  have S2 := Lib.hid (S1.out.then_ s2)
  have B2 := Lib.hid (s2.blk B1.out (fun s => s.elim))
  have k0 := blk_cell B2.out 0
  have k1 := blk_cell B2.out 1
  simp only [List.getElem?_toArray, List.getElem?_cons_zero, List.getElem?_cons_succ] at k0 k1
  clear s2 B1 S1 T1 AW HE
  go_wp2_with fail
  refine (N.out _).mono ?_
  rintro e w3 ⟨rfl, b3, s3⟩
  have B3 := Lib.hid b3
  have S3 := Lib.hid s3
  have k0 := blk_cell (s3.blk B2.out (fun s => s.elim)) 0
  have k1 := blk_cell (s3.blk B2.out (fun s => s.elim)) 1
  simp only [List.getElem?_toArray, List.getElem?_cons_zero, List.getElem?_cons_succ] at k0 k1
  obtain ⟨g, hg⟩ : ∃ g, w2.heap.size = g := ⟨_, rfl⟩
  rw [hg] at B3 ⊢
  have HG := Lib.hid hg
  clear b3 s3 hg
  go_wp2_with fail
  refine (M.out _).mono ?_
  rintro e w4 ⟨rfl, b4, s4⟩
  obtain ⟨r, hr⟩ : ∃ r, w3.heap.size = r := ⟨_, rfl⟩
  rw [hr] at b4 ⊢
  have DD : Hid (Pair2 66 45 w w4 g r (Stm.start x y) (Stm.start x y)) := Lib.hid ⟨_, _, _, _, Duo.fresh T0.out ⟨by decide, by decide⟩ ⟨by decide, by decide⟩ (S2.out.then_ S3.out) s4 (by have := S2.out.size; have := HG.out; omega) (Nat.le_of_eq hr) B3.out b4⟩
  clear b4 s4 hr B3 S3 HG B2 S2 k0 k1 N M
  generalize Stm.start x y = s0 at *
  go_wp2_with fail
  go_loopw [10] (fun t wr => ∃ i : Nat, i ≤ len ∧ t = .int .i64 i ∧ i ≤ 150 ∧ ∃ s, Hid (Pair2 66 45 w wr g r s s) ∧ Hid s.Ok) (fun t _ => len - (intOf t).toNat)
  case atStart => exact ⟨0, by omega, rfl, by omega, s0, DD, OK⟩
  case round =>
    obtain ⟨i, hi, rfl, h150, s, hP, hO⟩ := hrel
    rename_i wr
    obtain ⟨v, u, bs, cs, hD0⟩ := hP.out
    have hD := Lib.hid hD0
    clear DD OK hD0
    have BL := Lib.hid hD.out.st
    cases d1 : decide ((i : Int) < (len : Int))
    · have d1' : decide (i < len) = false := by simpa using d1
      go_wp2_with fail
      go_ret
      exact ⟨rfl, BL.out.toBelow⟩
    have hlt : i < len := by simpa using d1
    have d1' : decide (i < len) = true := by simpa using d1
    cases d2 : decide ((i : Int) < 150)
    · have d2' : decide (i < 150) = false := by simp at d2 ⊢; omega
      go_wp2_with fail
      go_ret
      exact ⟨rfl, BL.out.toBelow⟩
    have hlim : i < 150 := by simp at d2; omega
    have d2' : decide (i < 150) = true := by simp; omega
    obtain ⟨b0, off, p, bo, bc, d, now, rfl, hby, hcells⟩ := HST.out i hlt
    have c0i : (0 : Int) ≤ (i : Int) := by omega
    have c1i : (i : Int) < (len : Int) := by omega
    have hw1 : 0 ≤ (i : Int) + 1 ∧ (i : Int) + 1 ≤ 2000000000000 := by omega
    obtain ⟨wi1, wi2⟩ := small_wrap hw1.1 hw1.2
    clear hw1
    have CE : Hid (∀ w', Step None w w' → ∀ j u, (stepC p d now (.slice bo p.n.body.length bc))[j]? = some u → w'.cell? ⟨b0, off + i * 16 + j, none⟩ = some u) := Lib.hid fun w' h' j u hj => (h'.cell (p := ⟨b0, off + i * 16 + j, none⟩) (World.block_lt_of_cell? _ _ (hcells j u hj)) (fun s => s.elim)).trans (hcells j u hj)
    clear hcells
    have kb := CE.out _ BL.out 15 (.slice bo p.n.body.length bc) rfl
    cases d3 : decide ((2000 : Int) < (p.n.body.length : Int))
    rotate_left
    · have d3' : decide (2000 < p.n.body.length) = true := by simp at d3 ⊢; omega
      go_wp2_with fail
      go_ret
      exact ⟨rfl, BL.out.toBelow⟩
    have d3' : decide (2000 < p.n.body.length) = false := by simp at d3 ⊢; omega
    have hbl : p.n.body.length ≤ 10000 := by simp at d3; omega
    have ls : Hid ((Instr.loadAt 40 (.pointer (some ⟨b0, off + i * 16, none⟩))).run Tryd.prog wr = .ok (.agg (stepC p d now (.slice bo p.n.body.length bc))) wr) := Lib.hid (load_step rfl (CE.out _ BL.out))
    have SA := Lib.hid (step_any s g r p bo bc d now w wr hO.out hP.out hby hbl)
    have OK2 : Hid (stepS s p d now).Ok := Lib.hid (stepS_ok hO.out p d now)
    clear hO hby hbl hD hP
    go_wp2_with (refine wpList_load_if 40 (.tmp 70) rfl rfl rfl ls.out ?_)
    refine SA.out.mono ?_
    rintro e w5 ⟨rfl, v5, u5, bs5, cs5, d5⟩
    have D5 := Lib.hid d5
    clear d5 SA ls kb BL
    generalize stepS s p d now = t at *
    have DR := Lib.hid (D5.out.still (Step.refl None w5).drew)
    have k6 := blk_cell DR.out.two.st 6
    simp only [Stm.cells, List.getElem?_toArray, List.getElem?_cons_zero, List.getElem?_cons_succ] at k6
    have K6 := Lib.hid k6
    clear k6
    go_wp2_with fail
    refine wp_region_plan (fun w' => w'.cell? ⟨r, 6, none⟩ = some (.int .i64 t.taken)) (.take 0 (.take 1 (.take 2 (.take 3 (.take 5 (.alt 4 (.alt 6 (.take 7 (.take 8 (.take 9 (.take 10 (.take 12 (.take 13 (.take 14 (.take 15 (.alt 11 (.take 16 (.take 17 .done)) .none))))))))) .none) .none)))))) _
      (by simp only [Plan.map, opOf, List.getElem?_toArray, List.getElem?_cons_zero, List.getElem?_cons_succ, Option.getD_some]; rfl) (by kernel_rfl) (by kernel_rfl) (by kernel_rfl) (by decide) (by intro c a d v w; cases d <;> exact fun h => h) K6.out ?_
    repeat (first | (refine wpPlan.taken (by rfl) (by intro w' hS'; (try dsimp only at hS'); go_split_ands; go_simp; try with_reducible rfl) ?_; simp only [Act.put, List.setIfInBounds_toArray, List.set_cons_zero, List.set_cons_succ]) | (refine wpPlan.passed (by rfl) ?_; simp only [Act.put, List.setIfInBounds_toArray, List.set_cons_zero, List.set_cons_succ]))
    refine wpPlan.runs fun K' hK => ?_
    go_simp
    refine (waits_any g v5 t bs5 _ DR.out.one).mono ?_
    rintro e wz ⟨rfl, rfl⟩
    refine hK.out _ _ K6.out ?_
    clear hK K'
    refine wpPlan.runs fun K' hK => ?_
    go_simp
    refine (rwaits_any r u5 t cs5 _ DR.out.two).mono ?_
    rintro e wz ⟨rfl, rfl⟩
    refine hK.out _ _ K6.out ?_
    clear hK K'
    repeat (first | (refine wpPlan.taken (by rfl) (by intro w' hS'; (try dsimp only at hS'); go_split_ands; go_simp; try with_reducible rfl) ?_; simp only [Act.put, List.setIfInBounds_toArray, List.set_cons_zero, List.set_cons_succ]) | (refine wpPlan.passed (by rfl) ?_; simp only [Act.put, List.setIfInBounds_toArray, List.set_cons_zero, List.set_cons_succ]))
    refine wpPlan.runs fun K' hK => ?_
    go_simp
    refine (taken_any g v5 t bs5 _ DR.out.one).mono ?_
    rintro e wz ⟨rfl, rfl⟩
    refine hK.out _ _ K6.out ?_
    clear hK K'
    repeat (first | (refine wpPlan.taken (by rfl) (by intro w' hS'; (try dsimp only at hS'); go_split_ands; go_simp; try with_reducible rfl) ?_; simp only [Act.put, List.setIfInBounds_toArray, List.set_cons_zero, List.set_cons_succ]) | (refine wpPlan.passed (by rfl) ?_; simp only [Act.put, List.setIfInBounds_toArray, List.set_cons_zero, List.set_cons_succ]))
    refine wpPlan.done ?_
    go_wp2_with fail
    go_roundw
    case rel => exact ⟨i + 1, by omega, by first | rfl | simp, by omega, t, Lib.hid ⟨_, _, _, _, DR.out⟩, OK2⟩
    case measure => simp [intOf]; omega

end Go.Proofs.YtgchepijbpcckaaDoor
