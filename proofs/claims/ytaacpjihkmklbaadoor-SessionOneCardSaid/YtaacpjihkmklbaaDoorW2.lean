/- A session's own functions: hello, and what asks and tells. -/
import Derived.Test.YtaacpjihkmklbaaDoorW1
import Derived.Test.YtaacpjihkmklbaaDoorK13
namespace Go.Proofs.YtaacpjihkmklbaaDoor
open Go.RowKit Go.Gm

/-- May a packet be a hello? -/
def helB (ep sq ak : Int) (n : Note) : Bool := okP ep sq ak n && (sq == 0) && (n.kind == 6) && decide (1 ≤ ep) && decide (ep ≤ 536870912)
theorem helB_code {ep sq ak : Int} {n : Note} : helB ep sq ak n = (codeB ep sq ak n == 0 && (sq == 0) && (n.kind == 6) && decide (1 ≤ ep) && decide (ep ≤ 536870912)) := by
  unfold helB codeB
  cases okP ep sq ak n <;> simp

set_option maxHeartbeats 2000000 in
theorem hello_any (ep sq ak : Int) (n : Note) (bo : Option Addr) (bc : Nat) (w : World) (hT : HasAt 0 w) (hb : Bytes w (.slice bo n.body.length bc) n.body) (hbl : n.body.length ≤ 10000) :
    Calls Tryd.prog 23 #[.agg (n.packet ep sq ak (.slice bo n.body.length bc))] w fun e w' => e = .returned (.bool (helB ep sq ak n)) ∧ Step None w w' := by
  have p1 := heap_alloc_new w (.cells (n.packet ep sq ak (.slice bo n.body.length bc)) 36)
  have s1 := (Step.refl None w).alloc (.cells (n.packet ep sq ak (.slice bo n.body.length bc)) 36)
  obtain ⟨W, hW⟩ : ∃ W, w.alloc (.cells (n.packet ep sq ak (.slice bo n.body.length bc)) 36) = W := ⟨_, rfl⟩
  rw [hW] at p1 s1
  have HE := Lib.hid hW
  have P1 := Lib.hid p1
  have S1 := Lib.hid s1
  have E := Lib.hid (encode_all ep sq ak n bo bc W (hT.still s1) (hb.step s1 (fun _ _ s => s.elim)) hbl)
  rw [helB_code]
  have K : Hid (∀ w', Step None W w' → w'.cell? ⟨w.heap.size, 0, none⟩ = some (.int .i64 ep) ∧ w'.cell? ⟨w.heap.size, 1, none⟩ = some (.int .i64 sq) ∧ w'.cell? ⟨w.heap.size, 3, none⟩ = some (.int .i64 n.kind)) := Lib.hid fun w' h' =>
    have k := blk_cell (h'.blk p1 (fun s => s.elim))
    ⟨k 0, k 1, k 3⟩
  clear hW p1 s1 hT hb hbl
  generalize codeB ep sq ak n = c at *
  go_enter Tryd.func23, Tryd.ntmps23
  go_wp2_with (first | rw [HE.out] | (refine wpList_load_row rfl 36 (.tmp 1) rfl w.heap.size rfl 36 (n.packet ep sq ak (.slice bo n.body.length bc)) (0, 0) _ P1.out Tryd.underlying36 rfl (by kernel_rfl) ?_))
  refine E.out.mono ?_
  rintro e w2 ⟨u, rfl, -, s2⟩
  obtain ⟨c0, c1, c3⟩ := K.out _ s2
  have S2 := Lib.hid (S1.out.then_ s2)
  clear K E P1 HE s2
  go_wp2_with fail
  all_goals go_ret
  all_goals exact ⟨by first | (simp_all; done) | (simp_all; omega) | (simp_all <;> omega), S2.out⟩

theorem up_any (g : Nat) (s : Ses) (op : Int) (w : World) (h : w.heap[g]? = some (.cells (s.cells op) 63 (0, 0))) : Calls Tryd.prog 12 #[.pointer (some ⟨g, 0, none⟩)] w fun e w' => e = .returned (.bool s.up) ∧ w = w' := by
  have k := SC.of h
  have c6 := k.c6
  clear h k
  go_enter Tryd.func12, Tryd.ntmps12
  go_wp2_with fail
  go_ret
  exact ⟨rfl, rfl⟩
theorem role_any (g : Nat) (s : Ses) (op : Int) (w : World) (h : w.heap[g]? = some (.cells (s.cells op) 63 (0, 0))) : Calls Tryd.prog 14 #[.pointer (some ⟨g, 0, none⟩)] w fun e w' => e = .returned (.int .i64 s.role) ∧ w = w' := by
  have k := SC.of h
  have c7 := k.c7
  clear h k
  go_enter Tryd.func14, Tryd.ntmps14
  go_wp2_with fail
  go_ret
  exact ⟨rfl, rfl⟩
theorem life_any (g : Nat) (s : Ses) (op : Int) (w : World) (h : w.heap[g]? = some (.cells (s.cells op) 63 (0, 0))) : Calls Tryd.prog 16 #[.pointer (some ⟨g, 0, none⟩)] w fun e w' => e = .returned (.int .i64 s.life) ∧ w = w' := by
  have k := SC.of h
  have c4 := k.c4
  clear h k
  go_enter Tryd.func16, Tryd.ntmps16
  go_wp2_with fail
  go_ret
  exact ⟨rfl, rfl⟩
theorem epoch_any (g : Nat) (s : Ses) (op : Int) (w : World) (hs : s.Ok) (h : w.heap[g]? = some (.cells (s.cells op) 63 (0, 0))) : Calls Tryd.prog 13 #[.pointer (some ⟨g, 0, none⟩)] w fun e w' => e = .returned (.int .i64 s.epoch) ∧ Step None w w' := by
  have k := SC.of h
  have c6 := k.c6
  have c4 := k.c4
  have c5 := k.c5
  have hw : wrap64 (s.life + s.known) = s.life + s.known := by have := hs.life; have := hs.known; unfold wrap64; omega
  have hw2 : IntKind.i64.wrap (s.life + s.known) = s.life + s.known := by have := hs.life; have := hs.known; rw [IntWalk.i64_in _ (by omega)]
  unfold Ses.epoch
  clear h k
  cases hu : s.up
  · rw [hu] at c6
    go_enter Tryd.func13, Tryd.ntmps13
    go_wp2_with fail
    go_ret
    exact ⟨rfl, Step.refl _ _⟩
  · rw [hu] at c6
    go_enter Tryd.func13, Tryd.ntmps13
    go_wp2_with fail
    refine wp_region_plan (fun w' => w'.cell? ⟨g, 4, none⟩ = some (.int .i64 s.life) ∧ w'.cell? ⟨g, 5, none⟩ = some (.int .i64 s.known)) (.take 0 (.take 1 (.take 2 (.take 3 (.take 4 (.take 5 (.take 6 (.take 7 (.take 8 (.take 9 .done)))))))))) _
      (by simp only [Plan.map, opOf, List.getElem?_toArray, List.getElem?_cons_zero, List.getElem?_cons_succ, Option.getD_some]; rfl) (by kernel_rfl) (by kernel_rfl) (by kernel_rfl) (by decide) (by intro c a d v w; cases d <;> exact fun h => h) ⟨c4, c5⟩ ?_
    repeat (first | (refine wpPlan.taken (by rfl) (by intro w' hS'; (try dsimp only at hS'); go_split_ands; go_simp; try with_reducible rfl) ?_; simp only [Act.put, List.setIfInBounds_toArray, List.set_cons_zero, List.set_cons_succ]) | (refine wpPlan.passed (by rfl) ?_; simp only [Act.put, List.setIfInBounds_toArray, List.set_cons_zero, List.set_cons_succ]))
    refine wpPlan.done ?_
    go_wp2_with fail
    go_ret
    exact ⟨rfl, (Step.refl _ _).drew⟩
theorem seen_any (g : Nat) (s : Ses) (op now : Int) (w : World) (h : w.heap[g]? = some (.cells (s.cells op) 63 (0, 0))) : Calls Tryd.prog 17 #[.pointer (some ⟨g, 0, none⟩), .int .i64 now] w fun e w' => e = .returned (.int .i64 (s.seen now).1) ∧ w'.heap[g]? = some (.cells ((s.seen now).2.cells op) 63 (0, 0)) ∧ Step (· = g) w w' := by
  have M := Lib.hid (moment_any now)
  have k := SC.of h
  have c9 := k.c9
  have f9 := k.fz 9
  have H := Lib.hid h
  unfold Ses.seen
  clear h k
  cases hm : mom now
  · rw [hm] at M
    go_enter Tryd.func17, Tryd.ntmps17
    go_wp2_with fail
    refine (M.out _).mono ?_
    rintro e w1 ⟨rfl, rfl⟩
    go_wp2_with fail
    go_ret
    exact ⟨rfl, H.out, Step.refl _ _⟩
  · rw [hm] at M
    go_enter Tryd.func17, Tryd.ntmps17
    go_wp2_with fail
    refine (M.out _).mono ?_
    rintro e w1 ⟨rfl, rfl⟩
    go_wp2_with fail
    go_ret
    exact ⟨rfl, by rw [blk_set H.out 9 _]; rfl, (Step.refl (· = g) w).setCell (p := ⟨g, 9, none⟩) (fun _ => rfl) _⟩
theorem alive_any (g : Nat) (s : Ses) (op now : Int) (w : World) (h : w.heap[g]? = some (.cells (s.cells op) 63 (0, 0))) : Calls Tryd.prog 18 #[.pointer (some ⟨g, 0, none⟩), .int .i64 now] w fun e w' => e = .returned (.int .i64 (s.alive now).1) ∧ w'.heap[g]? = some (.cells ((s.alive now).2.cells op) 63 (0, 0)) ∧ Step (· = g) w w' := by
  have M := Lib.hid (moment_any now)
  have k := SC.of h
  have c10 := k.c10
  have f10 := k.fz 10
  have H := Lib.hid h
  unfold Ses.alive
  clear h k
  cases hm : mom now
  · rw [hm] at M
    go_enter Tryd.func18, Tryd.ntmps18
    go_wp2_with fail
    refine (M.out _).mono ?_
    rintro e w1 ⟨rfl, rfl⟩
    go_wp2_with fail
    go_ret
    exact ⟨rfl, H.out, Step.refl _ _⟩
  · rw [hm] at M
    go_enter Tryd.func18, Tryd.ntmps18
    go_wp2_with fail
    refine (M.out _).mono ?_
    rintro e w1 ⟨rfl, rfl⟩
    go_wp2_with fail
    go_ret
    exact ⟨rfl, by rw [blk_set H.out 10 _]; rfl, (Step.refl (· = g) w).setCell (p := ⟨g, 10, none⟩) (fun _ => rfl) _⟩

set_option maxHeartbeats 2000000 in
theorem tick_any (g : Nat) (s : Ses) (op now : Int) (w : World) (hs : s.Ok) (h : w.heap[g]? = some (.cells (s.cells op) 63 (0, 0))) : Calls Tryd.prog 15 #[.pointer (some ⟨g, 0, none⟩), .int .i64 now] w fun e w' => e = .returned (.tuple #[.bool (s.tick now).1, .int .i64 (s.tick now).2.1]) ∧ w'.heap[g]? = some (.cells ((s.tick now).2.2.cells op) 63 (0, 0)) ∧ Step (· = g) w w' := by
  have M := Lib.hid (moment_any now)
  obtain ⟨c0, c1, c2, c3, c4, c5, c6, c7, c8, c9, c10, fz⟩ := SC.of h
  have f7 := fz 7
  have H := Lib.hid h
  have HS := Lib.hid hs
  have R := Lib.hid (reborn_any g s op w.drew hs h)
  have h2 : (w.setCell ⟨g, 7, none⟩ (.int .i64 2)).heap[g]? = some (.cells (({ s with role := 2 } : Ses).cells op) 63 (0, 0)) := blk_set h 7 _
  have R2 := Lib.hid (reborn_any g ({ s with role := 2 } : Ses) op (w.setCell ⟨g, 7, none⟩ (.int .i64 2)).drew ⟨hs.id, hs.prio, hs.life, hs.known, ⟨show (0 : Int) ≤ 2 by omega, show (2 : Int) ≤ 2 by omega⟩, hs.claim, hs.link, hs.beat⟩ h2)
  have hl := hs.link
  have hb := hs.beat
  clear h h2 hs fz
  cases hm : mom now
  · rw [hm] at M
    rw [show s.tick now = (false, 1, s) by simp [Ses.tick, hm]]
    go_enter Tryd.func15, Tryd.ntmps15
    go_wp2_with fail
    refine (M.out _).mono ?_
    rintro e w1 ⟨rfl, rfl⟩
    go_wp2_with fail
    go_ret2
    exact ⟨rfl, H.out, Step.refl _ _⟩
  · rw [hm] at M
    have hn : 0 ≤ now ∧ now ≤ 1099511627776 := by simpa [mom] using hm
    have w1 : wrap64 (now - s.link) = now - s.link := by unfold wrap64; omega
    have w2 : wrap64 (now - s.beat) = now - s.beat := by unfold wrap64; omega
    have x1 : IntKind.i64.wrap (now - s.link) = now - s.link := by rw [IntWalk.i64_in _ (by omega)]
    have x2 : IntKind.i64.wrap (now - s.beat) = now - s.beat := by rw [IntWalk.i64_in _ (by omega)]
    clear hl hb hn
    cases d1 : decide (6 ≤ now - s.link)
    · have d1' : ¬ (6 ≤ now - s.link) := by simpa using d1
      rw [show s.tick now = (false, 0, s) by simp [Ses.tick, hm, d1']]
      go_enter Tryd.func15, Tryd.ntmps15
      go_wp2_with fail
      refine (M.out _).mono ?_
      rintro e w1 ⟨rfl, rfl⟩
      go_wp2_with fail
      refine wp_region_plan (fun w' => w'.cell? ⟨g, 9, none⟩ = some (.int .i64 s.link) ∧ w'.cell? ⟨g, 10, none⟩ = some (.int .i64 s.beat)) (.take 0 (.take 1 (.take 2 (.take 3 (.take 4 (.take 5 (.take 6 (.take 7 (.take 8 (.take 9 (.take 10 (.take 11 (.take 12 (.take 13 (.take 14 (.take 15 .done)))))))))))))))) _
        (by simp only [Plan.map, opOf, List.getElem?_toArray, List.getElem?_cons_zero, List.getElem?_cons_succ, Option.getD_some]; rfl) (by kernel_rfl) (by kernel_rfl) (by kernel_rfl) (by decide) (by intro c a d v w; cases d <;> exact fun h => h) ⟨c9, c10⟩ ?_
      repeat (first | (refine wpPlan.taken (by rfl) (by intro w' hS'; (try dsimp only at hS'); go_split_ands; go_simp; try with_reducible rfl) ?_; simp only [Act.put, List.setIfInBounds_toArray, List.set_cons_zero, List.set_cons_succ]) | (refine wpPlan.passed (by rfl) ?_; simp only [Act.put, List.setIfInBounds_toArray, List.set_cons_zero, List.set_cons_succ]))
      refine wpPlan.done ?_
      go_wp2_with fail
      all_goals go_ret2
      all_goals exact ⟨rfl, H.out, (Step.refl (· = g) w).drew⟩
    · have d1' : 6 ≤ now - s.link := by simpa using d1
      cases hu : s.up
      · cases d2 : decide (6 ≤ now - s.beat)
        · have d2' : ¬ (6 ≤ now - s.beat) := by simpa using d2
          rw [show s.tick now = (false, 0, s) by simp [Ses.tick, hm, d1', hu, d2']]
          rw [hu] at c6
          go_enter Tryd.func15, Tryd.ntmps15
          go_wp2_with fail
          refine (M.out _).mono ?_
          rintro e w1 ⟨rfl, rfl⟩
          go_wp2_with fail
          refine wp_region_plan (fun w' => w'.cell? ⟨g, 9, none⟩ = some (.int .i64 s.link) ∧ w'.cell? ⟨g, 10, none⟩ = some (.int .i64 s.beat)) (.take 0 (.take 1 (.take 2 (.take 3 (.take 4 (.take 5 (.take 6 (.take 7 (.take 8 (.take 9 (.take 10 (.take 11 (.take 12 (.take 13 (.take 14 (.take 15 .done)))))))))))))))) _
            (by simp only [Plan.map, opOf, List.getElem?_toArray, List.getElem?_cons_zero, List.getElem?_cons_succ, Option.getD_some]; rfl) (by kernel_rfl) (by kernel_rfl) (by kernel_rfl) (by decide) (by intro c a d v w; cases d <;> exact fun h => h) ⟨c9, c10⟩ ?_
          repeat (first | (refine wpPlan.taken (by rfl) (by intro w' hS'; (try dsimp only at hS'); go_split_ands; go_simp; try with_reducible rfl) ?_; simp only [Act.put, List.setIfInBounds_toArray, List.set_cons_zero, List.set_cons_succ]) | (refine wpPlan.passed (by rfl) ?_; simp only [Act.put, List.setIfInBounds_toArray, List.set_cons_zero, List.set_cons_succ]))
          refine wpPlan.done ?_
          go_wp2_with fail
          all_goals go_ret2
          all_goals exact ⟨rfl, H.out, (Step.refl (· = g) w).drew⟩
        · have d2' : 6 ≤ now - s.beat := by simpa using d2
          cases d3 : (s.role == 2)
          · have d3' : ¬ s.role = 2 := by simpa using d3
            have d4 : (s.role != 2) = true := by simp [bne, d3]
            rw [show s.tick now = (false, 0, ({ s with role := 2 } : Ses).fresh) by simp [Ses.tick, hm, d1', hu, d2', d3']]
            rw [hu] at c6
            go_enter Tryd.func15, Tryd.ntmps15
            go_wp2_with fail
            refine (M.out _).mono ?_
            rintro e w1 ⟨rfl, rfl⟩
            go_wp2_with fail
            refine wp_region_plan (fun w' => w'.cell? ⟨g, 9, none⟩ = some (.int .i64 s.link) ∧ w'.cell? ⟨g, 10, none⟩ = some (.int .i64 s.beat)) (.take 0 (.take 1 (.take 2 (.take 3 (.take 4 (.take 5 (.take 6 (.take 7 (.take 8 (.take 9 (.take 10 (.take 11 (.take 12 (.take 13 (.take 14 (.take 15 .done)))))))))))))))) _
              (by simp only [Plan.map, opOf, List.getElem?_toArray, List.getElem?_cons_zero, List.getElem?_cons_succ, Option.getD_some]; rfl) (by kernel_rfl) (by kernel_rfl) (by kernel_rfl) (by decide) (by intro c a d v w; cases d <;> exact fun h => h) ⟨c9, c10⟩ ?_
            repeat (first | (refine wpPlan.taken (by rfl) (by intro w' hS'; (try dsimp only at hS'); go_split_ands; go_simp; try with_reducible rfl) ?_; simp only [Act.put, List.setIfInBounds_toArray, List.set_cons_zero, List.set_cons_succ]) | (refine wpPlan.passed (by rfl) ?_; simp only [Act.put, List.setIfInBounds_toArray, List.set_cons_zero, List.set_cons_succ]))
            refine wpPlan.done ?_
            go_wp2_with fail
            refine R2.out.mono ?_
            rintro e w2 ⟨rfl, r1, r2⟩
            go_wp2_with fail
            go_ret2
            exact ⟨rfl, r1, ((Step.refl (· = g) w).setCell (p := ⟨g, 7, none⟩) (fun _ => rfl) _).drew.then_ r2⟩
          · have d3' : s.role = 2 := by simpa using d3
            have d4 : (s.role != 2) = false := by simp [bne, d3]
            rw [show s.tick now = (false, 0, s) by simp [Ses.tick, hm, d1', hu, d2', d3']]
            rw [hu] at c6
            go_enter Tryd.func15, Tryd.ntmps15
            go_wp2_with fail
            refine (M.out _).mono ?_
            rintro e w1 ⟨rfl, rfl⟩
            go_wp2_with fail
            refine wp_region_plan (fun w' => w'.cell? ⟨g, 9, none⟩ = some (.int .i64 s.link) ∧ w'.cell? ⟨g, 10, none⟩ = some (.int .i64 s.beat)) (.take 0 (.take 1 (.take 2 (.take 3 (.take 4 (.take 5 (.take 6 (.take 7 (.take 8 (.take 9 (.take 10 (.take 11 (.take 12 (.take 13 (.take 14 (.take 15 .done)))))))))))))))) _
              (by simp only [Plan.map, opOf, List.getElem?_toArray, List.getElem?_cons_zero, List.getElem?_cons_succ, Option.getD_some]; rfl) (by kernel_rfl) (by kernel_rfl) (by kernel_rfl) (by decide) (by intro c a d v w; cases d <;> exact fun h => h) ⟨c9, c10⟩ ?_
            repeat (first | (refine wpPlan.taken (by rfl) (by intro w' hS'; (try dsimp only at hS'); go_split_ands; go_simp; try with_reducible rfl) ?_; simp only [Act.put, List.setIfInBounds_toArray, List.set_cons_zero, List.set_cons_succ]) | (refine wpPlan.passed (by rfl) ?_; simp only [Act.put, List.setIfInBounds_toArray, List.set_cons_zero, List.set_cons_succ]))
            refine wpPlan.done ?_
            go_wp2_with fail
            all_goals go_ret2
            all_goals exact ⟨rfl, H.out, (Step.refl (· = g) w).drew⟩
      · rw [show s.tick now = (true, 0, s.fresh) by simp [Ses.tick, hm, d1', hu]]
        rw [hu] at c6
        go_enter Tryd.func15, Tryd.ntmps15
        go_wp2_with fail
        refine (M.out _).mono ?_
        rintro e w1 ⟨rfl, rfl⟩
        go_wp2_with fail
        refine wp_region_plan (fun w' => w'.cell? ⟨g, 9, none⟩ = some (.int .i64 s.link) ∧ w'.cell? ⟨g, 10, none⟩ = some (.int .i64 s.beat)) (.take 0 (.take 1 (.take 2 (.take 3 (.take 4 (.take 5 (.take 6 (.take 7 (.take 8 (.take 9 (.take 10 (.take 11 (.take 12 (.take 13 (.take 14 (.take 15 .done)))))))))))))))) _
          (by simp only [Plan.map, opOf, List.getElem?_toArray, List.getElem?_cons_zero, List.getElem?_cons_succ, Option.getD_some]; rfl) (by kernel_rfl) (by kernel_rfl) (by kernel_rfl) (by decide) (by intro c a d v w; cases d <;> exact fun h => h) ⟨c9, c10⟩ ?_
        repeat (first | (refine wpPlan.taken (by rfl) (by intro w' hS'; (try dsimp only at hS'); go_split_ands; go_simp; try with_reducible rfl) ?_; simp only [Act.put, List.setIfInBounds_toArray, List.set_cons_zero, List.set_cons_succ]) | (refine wpPlan.passed (by rfl) ?_; simp only [Act.put, List.setIfInBounds_toArray, List.set_cons_zero, List.set_cons_succ]))
        refine wpPlan.done ?_
        go_wp2_with fail
        refine R.out.mono ?_
        rintro e w2 ⟨rfl, r1, r2⟩
        go_wp2_with fail
        go_ret2
        exact ⟨rfl, r1, (Step.refl (· = g) w).drew.then_ r2⟩
end Go.Proofs.YtaacpjihkmklbaaDoor
