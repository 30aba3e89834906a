/- ShakeScripts, walked. -/
import Derived.Test.YthebgpbofjgcoaaDoorW9
import Derived.Test.YthebgpbofjgcoaaDoorPiec
namespace Go.Proofs.YthebgpbofjgcoaaDoor
open Go.RowKit Go.Gm

theorem fits_note {w : World} {l : List Value} (h : Fits w (.cat 1 (.int .i64) (.cat 1 (.int .i64) (.cat 6 (.arr 6 1 (.int .u8)) (.cat 1 (.int .i64) (.cat 1 (.int .i64) (.cat 1 (.slice 1 1 (.int .u8)) .nil)))))) l) :
    ∃ n bo bc, l = (Note.cells n (.slice bo n.body.length bc)).toList := by
  obtain ⟨kd, _, rfl, -, h1⟩ := h.intc
  obtain ⟨vl, _, rfl, -, h2⟩ := h1.intc
  obtain ⟨_, _, rfl, hm, h3⟩ := h2.aggc
  obtain ⟨ms, rfl, hml, hmw⟩ := hm.intArr
  obtain ⟨po, _, rfl, -, h4⟩ := h3.intc
  obtain ⟨st, _, rfl, -, h5⟩ := h4.intc
  obtain ⟨bv, _, rfl, hb, h6⟩ := h5.slicec
  obtain rfl := h6.nilc
  obtain ⟨bs, hbs, hsm, hlen⟩ := hb.bytes
  obtain ⟨ao, cap, rfl⟩ := hbs.len
  match ms, hml with
  | [a0, a1, a2, a3, a4, a5], _ => exact ⟨⟨kd, vl, a0, a1, a2, a3, a4, a5, po, st, bs⟩, ao, cap, rfl⟩
/-- The steps that are handed in. -/
def StepsAt (w : World) (ao : Option Addr) (len : Nat) : Prop :=
  ∀ i, i < len → ∃ b off n bo bc d link is, ao = some ⟨b, off, none⟩ ∧ (∀ j u, (stepC n d link is (.slice bo n.body.length bc))[j]? = some u → w.cell? ⟨b, off + i * 14 + j, none⟩ = some u)
theorem steps_arg {w : World} {v : Value} (h : Arg w (.slice 14 88 (.cat 1 (.int .i64) (.cat 1 (.int .i64) (.cat 1 .bool (.cat 11 (.cat 1 (.int .i64) (.cat 1 (.int .i64) (.cat 6 (.arr 6 1 (.int .u8)) (.cat 1 (.int .i64) (.cat 1 (.int .i64) (.cat 1 (.slice 1 1 (.int .u8)) .nil)))))) .nil))))) v) : ∃ ao len cap, v = .slice ao len cap ∧ len ≤ cap ∧ (len : Int) ≤ 9223372036854775807 ∧ StepsAt w ao len := by
  obtain ⟨ao, len, cap, rfl, h1, h2, h3, h4⟩ := (h.one rfl).elems (by decide)
  refine ⟨ao, len, cap, rfl, h1, by omega, fun i hi => ?_⟩
  obtain ⟨b, off, cs, rfl, hl, hc, hf⟩ := h4 i hi
  obtain ⟨d, _, rfl, -, k1⟩ := hf.intc
  obtain ⟨link, _, rfl, -, k2⟩ := k1.intc
  obtain ⟨is, _, rfl, k3⟩ := k2.boolc
  obtain ⟨_, _, rfl, hp, k4⟩ := k3.aggc
  obtain rfl := k4.nilc
  obtain ⟨n, bo, bc, rfl⟩ := fits_note hp
  refine ⟨b, off, n, bo, bc, d, link, is, rfl, fun j u hj => ?_⟩
  have hjl : j < 14 := by
    have := (Array.getElem?_eq_some_iff.1 hj).1
    simpa [stepC] using this
  rw [hc j hjl, ← hj]
  simp [stepC, Note.cells]
theorem load_step {w : World} {b k : Nat} {cs : Array Value} (hs : cs.size = 14) (h : ∀ j u, cs[j]? = some u → w.cell? ⟨b, k + j, none⟩ = some u) : (Instr.loadAt 37 (.pointer (some ⟨b, k, none⟩))).run Tryd.prog w = .ok (.agg cs) w := by
  have := run_loadAt_mid (P := Tryd.prog) w b k 37 cs.toList _ (fun j u hj => h j u (by simpa using hj)) Tryd.underlying37 rfl (by rw [Array.length_toList, hs]; kernel_rfl)
  simpa using this

set_option maxRecDepth 10000 in
set_option maxHeartbeats 16000000 in
theorem shakeScripts_walk (v0 v1 : Value) (w : World) (hT : HasAt 0 w) (h0 : Arg w (.int .i64) v0) (h1 : Arg w (.slice 14 88 (.cat 1 (.int .i64) (.cat 1 (.int .i64) (.cat 1 .bool (.cat 11 (.cat 1 (.int .i64) (.cat 1 (.int .i64) (.cat 6 (.arr 6 1 (.int .u8)) (.cat 1 (.int .i64) (.cat 1 (.int .i64) (.cat 1 (.slice 1 1 (.int .u8)) .nil)))))) .nil))))) v1) :
    Calls Tryd.prog 3 #[v0, v1] w fun e w' => e = .returned (.bool true) ∧ Below w.heap.size w w' := by
  obtain ⟨links, rfl, -⟩ := h0.int
  obtain ⟨ao, len, cap, rfl, hcap, hlen, hsteps⟩ := steps_arg h1
  clear h1
  have HST := Lib.hid hsteps
  have T1 := Lib.hid hT
  clear hsteps hT
  by_cases hok : 1 ≤ links ∧ links ≤ 63
  rotate_left
  · have N := Lib.hid (fun w => new_bad links hok w)
    have M := Lib.hid (fun w => rnew_bad links hok w)
    clear hok
    go_enter Tryd.func3, Tryd.ntmps3
    go_wp2_with fail
    refine (awake_any w T1.out).mono ?_
    rintro e w2 ⟨rfl, s2⟩
    have S2 := Lib.hid s2
    clear s2
    go_wp2_with fail
    refine (N.out _).mono ?_
    rintro e w3 ⟨rfl, rfl⟩
    go_wp2_with fail
    refine (M.out _).mono ?_
    rintro e w3 ⟨rfl, rfl⟩
    go_wp2_with fail
    go_loopw [10] (fun t wr => t = .int .i64 0 ∧ wr = w2) (fun _ _ => 0)
    case atStart => exact ⟨rfl, rfl⟩
    case round =>
      obtain ⟨rfl, rfl⟩ := hrel
      cases d1 : decide ((0 : Int) < (len : Int))
      · have d1' : decide (0 < len) = false := by simp at d1 ⊢; omega
        go_wp2_with fail
        go_ret
        exact ⟨rfl, S2.out.toBelow⟩
      · have d1' : decide (0 < len) = true := by simp at d1 ⊢; omega
        go_wp2_with fail
        go_ret
        exact ⟨rfl, S2.out.toBelow⟩
  obtain ⟨k, rfl⟩ : ∃ k : Nat, links = k := ⟨links.toNat, by omega⟩
  have hk1 : 1 ≤ k := by omega
  have hk2 : k ≤ 63 := by omega
  have N := Lib.hid (fun w => new_ok k hk1 hk2 w)
  have M := Lib.hid (fun w => rnew_ok k hk1 hk2 w)
  have OK : Hid ((shk0 k).Ok 63) := Lib.hid ⟨by simp [shk0]; omega, fun l hl => by simp [shk0] at hl; obtain ⟨-, rfl⟩ := hl; exact ⟨by decide, by decide⟩⟩
  clear hok hk1 hk2
  go_enter Tryd.func3, Tryd.ntmps3
  go_wp2_with fail
  refine (awake_any w T1.out).mono ?_
  rintro e w2 ⟨rfl, s2⟩
  have S2 := Lib.hid s2
  have T2 := Lib.hid (T1.out.still s2)
  clear s2
  go_wp2_with fail
  refine (N.out _).mono ?_
  rintro e w3 ⟨g, b, rfl, r3, g3, b3, s3⟩
  have R3 := Lib.hid r3
  have GB := Lib.hid (And.intro g3 b3)
  have T3 := Lib.hid (T2.out.still s3)
  have S3 := Lib.hid (S2.out.then_ s3)
  clear r3 g3 b3 s3
  go_wp2_with fail
  refine (M.out _).mono ?_
  rintro e w4 ⟨r, c, rfl, r4, g4, b4, s4⟩
  have BO : Hid (Both w w4 g b r c (shk0 k)) := Lib.hid (by
    have h1 := S2.out.size
    have h2 := S3.out.size
    have h3 := GB.out
    have h4 := T1.out.lt
    exact ⟨R3.out.still s4, r4, by omega, by omega, by omega, by omega, S3.out.then_ s4, T3.out.still s4, h4⟩)
  clear r4 g4 b4 s4 R3 GB S3 T3 S2 T2 N M
  generalize shk0 k = s0 at *
  go_wp2_with fail
  go_loopw [10] (fun t wr => ∃ i : Nat, i ≤ len ∧ t = .int .i64 i ∧ i ≤ 150 ∧ ∃ s, Hid (Both w wr g b r c s) ∧ Hid (s.Ok (63 + (i : Int)))) (fun t _ => len - (intOf t).toNat)
  case atStart => exact ⟨0, by omega, rfl, by omega, s0, BO, by simpa using OK⟩
  case round =>
    obtain ⟨i, hi, rfl, h150, s, hB, hO⟩ := hrel
    rename_i wr
    clear BO OK
    have BL := Lib.hid hB.out.st
    cases d1 : decide ((i : Int) < (len : Int))
    · have d1' : decide (i < len) = false := by simpa using d1
      go_wp2_with fail
      go_ret
      exact ⟨rfl, BL.out.toBelow⟩
    have hlt : i < len := by simpa using d1
    have d1' : decide (i < len) = true := by simpa using d1
    cases d2 : decide ((i : Int) < 150)
    · go_wp2_with fail
      go_ret
      exact ⟨rfl, BL.out.toBelow⟩
    have hl150 : i < 150 := by simp at d2; omega
    obtain ⟨b0, off, n, bo, bc, d, link, is, rfl, hcells⟩ := HST.out i hlt
    have c0i : (0 : Int) ≤ (i : Int) := by omega
    have c1i : (i : Int) < (len : Int) := by omega
    have CE : Hid (∀ w', Step None w w' → ∀ j u, (stepC n d link is (.slice bo n.body.length bc))[j]? = some u → w'.cell? ⟨b0, off + i * 14 + j, none⟩ = some u) := Lib.hid fun w' h' j u hj => (h'.cell (p := ⟨b0, off + i * 14 + j, none⟩) (World.block_lt_of_cell? _ _ (hcells j u hj)) (fun s => s.elim)).trans (hcells j u hj)
    clear hcells
    have kb := CE.out _ BL.out 13 (.slice bo n.body.length bc) rfl
    cases d3 : decide ((2000 : Int) < (n.body.length : Int))
    rotate_left
    · have d3' : decide (2000 < n.body.length) = true := by simp at d3 ⊢; omega
      go_wp2_with fail
      go_ret
      exact ⟨rfl, BL.out.toBelow⟩
    have d3' : decide (2000 < n.body.length) = false := by simp at d3 ⊢; omega
    have ls : Hid ((Instr.loadAt 37 (.pointer (some ⟨b0, off + i * 14, none⟩))).run Tryd.prog wr = .ok (.agg (stepC n d link is (.slice bo n.body.length bc))) wr) := Lib.hid (load_step rfl (CE.out _ BL.out))
    have SA := Lib.hid (step_any s g b r c n bo bc d link is w wr _ hO.out (by omega) (by omega) hB.out)
    have TO := stepS_ok hO.out (by omega) n d link is
    have OK2 : Hid ((stepS s n d link is).Ok (63 + ((i + 1 : Nat) : Int))) := Lib.hid (TO.mono (by omega))
    clear TO hO
    go_wp2_with (refine wpList_load_if 37 (.tmp 63) rfl rfl rfl ls.out ?_)
    refine SA.out.mono ?_
    rintro e w5 ⟨rfl, h5⟩
    have B5 := Lib.hid h5
    clear h5 SA ls hB kb BL
    generalize stepS s n d link is = t at *
    have tl := OK2.out.len
    have TL := Lib.hid tl
    clear tl
    have dr : Step None w5 w5.drew := (Step.refl None w5).drew
    have LK : Hid (∀ w', Step None w w' → w'.cell? ⟨b0, off + i * 14 + 1, none⟩ = some (.int .i64 link)) := Lib.hid fun w' h' => CE.out w' h' 1 (.int .i64 link) rfl
    go_wp2_with fail
    refine wp_region_plan (fun w' => w'.cell? ⟨b0, off + i * 14 + 1, none⟩ = some (.int .i64 link)) (.take 0 (.take 1 (.take 2 (.take 3 (.take 4 (.take 5 (.take 6 (.take 7 (.take 8 (.take 10 (.take 11 (.take 12 (.take 13 (.take 14 (.take 15 (.alt 9 (.alt 16 (.take 17 (.take 18 (.take 19 (.take 20 (.take 21 (.take 22 (.take 23 (.take 24 (.take 25 (.take 27 (.take 28 (.take 29 (.take 30 (.take 31 (.take 32 (.alt 26 (.alt 33 (.take 34 (.take 35 .done)) .none) .none)))))))))))))))) .none) .none)))))))))))))))) _
      (by simp only [Plan.map, opOf, List.getElem?_toArray, List.getElem?_cons_zero, List.getElem?_cons_succ, Option.getD_some]; rfl) (by kernel_rfl) (by kernel_rfl) (by kernel_rfl) (by decide) (by intro c a d v w; cases d <;> exact fun h => h)
      (LK.out _ (B5.out.still dr).st) ?_
    repeat (first | (refine wpPlan.taken (by rfl) (by intro w' hS'; (try dsimp only at hS'); go_split_ands; go_simp; try with_reducible rfl) ?_; simp only [Act.put, List.setIfInBounds_toArray, List.set_cons_zero, List.set_cons_succ]) | (refine wpPlan.passed (by rfl) ?_; simp only [Act.put, List.setIfInBounds_toArray, List.set_cons_zero, List.set_cons_succ]))
    refine wpPlan.runs fun K' hK => ?_
    go_simp
    refine (serves_any g b t link _ TL.out (B5.out.still dr).one).mono ?_
    rintro e wz ⟨rfl, rfl⟩
    refine hK.out _ _ (LK.out _ (B5.out.still dr).st) ?_
    clear hK K'
    repeat (first | (refine wpPlan.taken (by rfl) (by intro w' hS'; (try dsimp only at hS'); go_split_ands; go_simp; try with_reducible rfl) ?_; simp only [Act.put, List.setIfInBounds_toArray, List.set_cons_zero, List.set_cons_succ]) | (refine wpPlan.passed (by rfl) ?_; simp only [Act.put, List.setIfInBounds_toArray, List.set_cons_zero, List.set_cons_succ]))
    refine wpPlan.runs fun K' hK => ?_
    go_simp
    refine (rserves_any r c t link _ TL.out (B5.out.still dr).two).mono ?_
    rintro e wz ⟨rfl, rfl⟩
    refine hK.out _ _ (LK.out _ (B5.out.still dr).st) ?_
    clear hK K'
    repeat (first | (refine wpPlan.taken (by rfl) (by intro w' hS'; (try dsimp only at hS'); go_split_ands; go_simp; try with_reducible rfl) ?_; simp only [Act.put, List.setIfInBounds_toArray, List.set_cons_zero, List.set_cons_succ]) | (refine wpPlan.passed (by rfl) ?_; simp only [Act.put, List.setIfInBounds_toArray, List.set_cons_zero, List.set_cons_succ]))
    refine wpPlan.runs fun K' hK => ?_
    go_simp
    refine (blocked_any g b t link _ TL.out (B5.out.still dr).one).mono ?_
    rintro e wz ⟨rfl, rfl⟩
    refine hK.out _ _ (LK.out _ (B5.out.still dr).st) ?_
    clear hK K'
    repeat (first | (refine wpPlan.taken (by rfl) (by intro w' hS'; (try dsimp only at hS'); go_split_ands; go_simp; try with_reducible rfl) ?_; simp only [Act.put, List.setIfInBounds_toArray, List.set_cons_zero, List.set_cons_succ]) | (refine wpPlan.passed (by rfl) ?_; simp only [Act.put, List.setIfInBounds_toArray, List.set_cons_zero, List.set_cons_succ]))
    refine wpPlan.runs fun K' hK => ?_
    go_simp
    refine (rblocked_any r c t link _ TL.out (B5.out.still dr).two).mono ?_
    rintro e wz ⟨rfl, rfl⟩
    refine hK.out _ _ (LK.out _ (B5.out.still dr).st) ?_
    clear hK K'
    repeat (first | (refine wpPlan.taken (by rfl) (by intro w' hS'; (try dsimp only at hS'); go_split_ands; go_simp; try with_reducible rfl) ?_; simp only [Act.put, List.setIfInBounds_toArray, List.set_cons_zero, List.set_cons_succ]) | (refine wpPlan.passed (by rfl) ?_; simp only [Act.put, List.setIfInBounds_toArray, List.set_cons_zero, List.set_cons_succ]))
    refine wpPlan.done ?_
    go_wp2_with fail
    go_roundw
    case rel => exact ⟨i + 1, by omega, by first | rfl | simp, by omega, t, Lib.hid (B5.out.still dr), OK2⟩
    case measure => simp [intOf]; omega
end Go.Proofs.YthebgpbofjgcoaaDoor
