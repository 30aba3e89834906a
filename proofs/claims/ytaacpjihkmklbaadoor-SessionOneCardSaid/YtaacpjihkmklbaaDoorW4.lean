/- A session of the document: its own functions, but for Take. -/
import Derived.Test.YtaacpjihkmklbaaDoorW3
namespace Go.Proofs.YtaacpjihkmklbaaDoor
open Go.RowKit Go.Gm

def _root_.Go.Gm.Ses.rcells (s : Ses) : Array Value := #[.int .i64 s.id, .int .i64 s.prio, .int .i64 s.life, .int .i64 s.known, .bool s.up, .int .i64 s.role, .int .i64 s.claim, .int .i64 s.link, .int .i64 s.beat]
structure RC (w : World) (g : Nat) (s : Ses) : Prop where
  c0 : w.cell? ⟨g, 0, none⟩ = some (.int .i64 s.id)
  c1 : w.cell? ⟨g, 1, none⟩ = some (.int .i64 s.prio)
  c2 : w.cell? ⟨g, 2, none⟩ = some (.int .i64 s.life)
  c3 : w.cell? ⟨g, 3, none⟩ = some (.int .i64 s.known)
  c4 : w.cell? ⟨g, 4, none⟩ = some (.bool s.up)
  c5 : w.cell? ⟨g, 5, none⟩ = some (.int .i64 s.role)
  c6 : w.cell? ⟨g, 6, none⟩ = some (.int .i64 s.claim)
  c7 : w.cell? ⟨g, 7, none⟩ = some (.int .i64 s.link)
  c8 : w.cell? ⟨g, 8, none⟩ = some (.int .i64 s.beat)
  fz : ∀ i, w.frozen? ⟨g, i, none⟩ = false
theorem RC.of {w : World} {g : Nat} {s : Ses} (h : w.heap[g]? = some (.cells s.rcells 58 (0, 0))) : RC w g s :=
  ⟨blk_cell h 0, blk_cell h 1, blk_cell h 2, blk_cell h 3, blk_cell h 4, blk_cell h 5, blk_cell h 6, blk_cell h 7, blk_cell h 8, blk_frozen h⟩

theorem rmoment_any (n : Int) (w : World) : Calls Tryd.prog 32 #[.int .i64 n] w fun e w' => e = .returned (.bool (mom n)) ∧ w = w' := by
  unfold mom
  cases h1 : decide (0 ≤ n)
  · go_enter Tryd.func32, Tryd.ntmps32
    go_wp2_with fail
    go_ret
    exact ⟨by simp, rfl⟩
  · cases h2 : decide (n ≤ 1099511627776)
    · go_enter Tryd.func32, Tryd.ntmps32
      go_wp2_with fail
      go_ret
      exact ⟨by simp, rfl⟩
    · go_enter Tryd.func32, Tryd.ntmps32
      go_wp2_with fail
      go_ret
      exact ⟨by simp, rfl⟩

set_option maxHeartbeats 2000000 in
theorem rhello_any (ep sq ak : Int) (n : Note) (bo : Option Addr) (bc : Nat) (w : World) (hb : Bytes w (.slice bo n.body.length bc) n.body) (hbl : n.body.length ≤ 10000) :
    Calls Tryd.prog 33 #[.agg (n.packet ep sq ak (.slice bo n.body.length bc))] w fun e w' => e = .returned (.bool (helB ep sq ak n)) ∧ Step None w w' := by
  have p1 := heap_alloc_new w (.cells (n.packet ep sq ak (.slice bo n.body.length bc)) 36)
  have s1 := (Step.refl None w).alloc (.cells (n.packet ep sq ak (.slice bo n.body.length bc)) 36)
  obtain ⟨W, hW⟩ : ∃ W, w.alloc (.cells (n.packet ep sq ak (.slice bo n.body.length bc)) 36) = W := ⟨_, rfl⟩
  rw [hW] at p1 s1
  have HE := Lib.hid hW
  have P1 := Lib.hid p1
  have S1 := Lib.hid s1
  have E := Lib.hid (rencode_all ep sq ak n bo bc W (hb.step s1 (fun _ _ s => s.elim)) hbl)
  rw [helB_code]
  have K : Hid (∀ w', Step None W w' → w'.cell? ⟨w.heap.size, 0, none⟩ = some (.int .i64 ep) ∧ w'.cell? ⟨w.heap.size, 1, none⟩ = some (.int .i64 sq) ∧ w'.cell? ⟨w.heap.size, 3, none⟩ = some (.int .i64 n.kind)) := Lib.hid fun w' h' =>
    have k := blk_cell (h'.blk p1 (fun s => s.elim))
    ⟨k 0, k 1, k 3⟩
  clear hW p1 s1 hb hbl
  generalize codeB ep sq ak n = c at *
  go_enter Tryd.func33, Tryd.ntmps33
  go_wp2_with (first | rw [HE.out] | (refine wpList_load_row rfl 36 (.tmp 1) rfl w.heap.size rfl 36 (n.packet ep sq ak (.slice bo n.body.length bc)) (0, 0) _ P1.out Tryd.underlying36 rfl (by kernel_rfl) ?_))
  refine E.out.mono ?_
  rintro e w2 ⟨u, rfl, -, s2⟩
  obtain ⟨c0, c1, c3⟩ := K.out _ s2
  have S2 := Lib.hid (S1.out.then_ s2)
  clear K E P1 HE s2
  go_wp2_with fail
  all_goals go_ret
  all_goals exact ⟨by first | (simp_all; done) | (simp_all; omega) | (simp_all <;> omega), S2.out⟩

theorem fresh_any (g : Nat) (s : Ses) (w : World) (hs : s.Ok) (h : w.heap[g]? = some (.cells s.rcells 58 (0, 0))) : Calls Tryd.prog 34 #[.pointer (some ⟨g, 0, none⟩)] w fun e w' => e = .returned (.tuple #[]) ∧ w'.heap[g]? = some (.cells s.fresh.rcells 58 (0, 0)) ∧ Step (· = g) w w' := by
  obtain ⟨c0, c1, c2, c3, c4, c5, c6, c7, c8, fz⟩ := RC.of h
  have f2 := fz 2
  have f4 := fz 4
  have f6 := fz 6
  have hw : wrap64 (s.life + 1) = s.life + 1 := by have := hs.life; unfold wrap64; omega
  have H := Lib.hid h
  clear h fz
  go_enter Tryd.func34, Tryd.ntmps34
  go_wp2_with fail
  all_goals go_end0
  all_goals refine ⟨rfl, ?_, (((Step.refl (· = g) w).setCell (p := ⟨g, 4, none⟩) (fun _ => rfl) _).setCell (p := ⟨g, 6, none⟩) (fun _ => rfl) _).setCell (p := ⟨g, 2, none⟩) (fun _ => rfl) _⟩
  all_goals rw [blk_set (blk_set (blk_set H.out 4 _) 6 _) 2 _]
  all_goals simp [Ses.fresh, Ses.rcells]
  all_goals omega

theorem first_any (g : Nat) (s : Ses) (p : Int) (w : World) (h : w.heap[g]? = some (.cells s.rcells 58 (0, 0))) : Calls Tryd.prog 35 #[.pointer (some ⟨g, 0, none⟩), .int .i64 p] w fun e w' => e = .returned (.bool (s.first p)) ∧ w = w' := by
  obtain ⟨c0, c1, c2, c3, c4, c5, c6, c7, c8, fz⟩ := RC.of h
  unfold Ses.first
  clear h fz
  cases d1 : decide (s.prio < p)
  · cases d2 : (s.prio == p)
    · go_enter Tryd.func35, Tryd.ntmps35
      go_wp2_with fail
      go_ret
      exact ⟨by simp, rfl⟩
    · go_enter Tryd.func35, Tryd.ntmps35
      go_wp2_with fail
      go_ret
      exact ⟨by simp, rfl⟩
  · go_enter Tryd.func35, Tryd.ntmps35
    go_wp2_with fail
    go_ret
    exact ⟨by simp, rfl⟩

theorem repoch_any (g : Nat) (s : Ses) (w : World) (hs : s.Ok) (h : w.heap[g]? = some (.cells s.rcells 58 (0, 0))) : Calls Tryd.prog 21 #[.pointer (some ⟨g, 0, none⟩)] w fun e w' => e = .returned (.int .i64 s.epoch) ∧ Step None w w' := by
  obtain ⟨c0, c1, c2, c3, c4, c5, c6, c7, c8, fz⟩ := RC.of h
  have hw : wrap64 (s.life + s.known) = s.life + s.known := by have := hs.life; have := hs.known; unfold wrap64; omega
  have hw2 : IntKind.i64.wrap (s.life + s.known) = s.life + s.known := by have := hs.life; have := hs.known; rw [IntWalk.i64_in _ (by omega)]
  unfold Ses.epoch
  clear h fz
  cases hu : s.up
  · rw [hu] at c4
    go_enter Tryd.func21, Tryd.ntmps21
    go_wp2_with fail
    go_ret
    exact ⟨rfl, Step.refl _ _⟩
  · rw [hu] at c4
    go_enter Tryd.func21, Tryd.ntmps21
    go_wp2_with fail
    refine wp_region_plan (fun w' => w'.cell? ⟨g, 2, none⟩ = some (.int .i64 s.life) ∧ w'.cell? ⟨g, 3, none⟩ = some (.int .i64 s.known)) (.take 0 (.take 1 (.take 2 (.take 3 (.take 4 (.take 5 (.take 6 (.take 7 (.take 8 (.take 9 .done)))))))))) _
      (by simp only [Plan.map, opOf, List.getElem?_toArray, List.getElem?_cons_zero, List.getElem?_cons_succ, Option.getD_some]; rfl) (by kernel_rfl) (by kernel_rfl) (by kernel_rfl) (by decide) (by intro c a d v w; cases d <;> exact fun h => h) ⟨c2, c3⟩ ?_
    repeat (first | (refine wpPlan.taken (by rfl) (by intro w' hS'; (try dsimp only at hS'); go_split_ands; go_simp; try with_reducible rfl) ?_; simp only [Act.put, List.setIfInBounds_toArray, List.set_cons_zero, List.set_cons_succ]) | (refine wpPlan.passed (by rfl) ?_; simp only [Act.put, List.setIfInBounds_toArray, List.set_cons_zero, List.set_cons_succ]))
    refine wpPlan.done ?_
    go_wp2_with fail
    go_ret
    exact ⟨rfl, (Step.refl _ _).drew⟩

theorem rseen_any (g : Nat) (s : Ses) (now : Int) (w : World) (h : w.heap[g]? = some (.cells s.rcells 58 (0, 0))) : Calls Tryd.prog 28 #[.pointer (some ⟨g, 0, none⟩), .int .i64 now] w fun e w' => e = .returned (.int .i64 (s.seen now).1) ∧ w'.heap[g]? = some (.cells (s.seen now).2.rcells 58 (0, 0)) ∧ Step (· = g) w w' := by
  have M := Lib.hid (rmoment_any now)
  have k := RC.of h
  have cc := k.c7
  have ff := k.fz 7
  have H := Lib.hid h
  unfold Ses.seen
  clear h k
  cases hm : mom now
  · rw [hm] at M
    go_enter Tryd.func28, Tryd.ntmps28
    go_wp2_with fail
    refine (M.out _).mono ?_
    rintro e w1 ⟨rfl, rfl⟩
    go_wp2_with fail
    go_ret
    exact ⟨rfl, H.out, Step.refl _ _⟩
  · rw [hm] at M
    go_enter Tryd.func28, Tryd.ntmps28
    go_wp2_with fail
    refine (M.out _).mono ?_
    rintro e w1 ⟨rfl, rfl⟩
    go_wp2_with fail
    go_ret
    exact ⟨rfl, by rw [blk_set H.out 7 _]; rfl, (Step.refl (· = g) w).setCell (p := ⟨g, 7, none⟩) (fun _ => rfl) _⟩

theorem ralive_any (g : Nat) (s : Ses) (now : Int) (w : World) (h : w.heap[g]? = some (.cells s.rcells 58 (0, 0))) : Calls Tryd.prog 29 #[.pointer (some ⟨g, 0, none⟩), .int .i64 now] w fun e w' => e = .returned (.int .i64 (s.alive now).1) ∧ w'.heap[g]? = some (.cells (s.alive now).2.rcells 58 (0, 0)) ∧ Step (· = g) w w' := by
  have M := Lib.hid (rmoment_any now)
  have k := RC.of h
  have cc := k.c8
  have ff := k.fz 8
  have H := Lib.hid h
  unfold Ses.alive
  clear h k
  cases hm : mom now
  · rw [hm] at M
    go_enter Tryd.func29, Tryd.ntmps29
    go_wp2_with fail
    refine (M.out _).mono ?_
    rintro e w1 ⟨rfl, rfl⟩
    go_wp2_with fail
    go_ret
    exact ⟨rfl, H.out, Step.refl _ _⟩
  · rw [hm] at M
    go_enter Tryd.func29, Tryd.ntmps29
    go_wp2_with fail
    refine (M.out _).mono ?_
    rintro e w1 ⟨rfl, rfl⟩
    go_wp2_with fail
    go_ret
    exact ⟨rfl, by rw [blk_set H.out 8 _]; rfl, (Step.refl (· = g) w).setCell (p := ⟨g, 8, none⟩) (fun _ => rfl) _⟩

set_option maxHeartbeats 2000000 in
theorem rtick_any (g : Nat) (s : Ses) (now : Int) (w : World) (hs : s.Ok) (h : w.heap[g]? = some (.cells s.rcells 58 (0, 0))) : Calls Tryd.prog 27 #[.pointer (some ⟨g, 0, none⟩), .int .i64 now] w fun e w' => e = .returned (.tuple #[.bool (s.tick now).1, .int .i64 (s.tick now).2.1]) ∧ w'.heap[g]? = some (.cells (s.tick now).2.2.rcells 58 (0, 0)) ∧ Step (· = g) w w' := by
  have M := Lib.hid (rmoment_any now)
  obtain ⟨c0, c1, c2, c3, c4, c5, c6, c7, c8, fz⟩ := RC.of h
  have f5 := fz 5
  have H := Lib.hid h
  have HS := Lib.hid hs
  have R := Lib.hid (fresh_any g s w hs h)
  have h2 : (w.setCell ⟨g, 5, none⟩ (.int .i64 2)).heap[g]? = some (.cells ({ s with role := 2 } : Ses).rcells 58 (0, 0)) := blk_set h 5 _
  have R2 := Lib.hid (fresh_any g ({ s with role := 2 } : Ses) (w.setCell ⟨g, 5, none⟩ (.int .i64 2)) ⟨hs.id, hs.prio, hs.life, hs.known, ⟨show (0 : Int) ≤ 2 by omega, show (2 : Int) ≤ 2 by omega⟩, hs.claim, hs.link, hs.beat⟩ h2)
  have hl := hs.link
  have hb := hs.beat
  clear h h2 hs fz
  cases hm : mom now
  · rw [hm] at M
    rw [show s.tick now = (false, 1, s) by simp [Ses.tick, hm]]
    go_enter Tryd.func27, Tryd.ntmps27
    go_wp2_with fail
    refine (M.out _).mono ?_
    rintro e w1 ⟨rfl, rfl⟩
    go_wp2_with fail
    go_ret2
    exact ⟨rfl, H.out, Step.refl _ _⟩
  · rw [hm] at M
    have hn : 0 ≤ now ∧ now ≤ 1099511627776 := by simpa [mom] using hm
    have w1 : wrap64 (now - s.link) = now - s.link := by unfold wrap64; omega
    have w2 : wrap64 (now - s.beat) = now - s.beat := by unfold wrap64; omega
    clear hl hb hn
    cases d1 : decide (6 ≤ now - s.link)
    · have d1' : ¬ (6 ≤ now - s.link) := by simpa using d1
      cases hu : s.up
      · rw [hu] at c4
        rw [show s.tick now = (false, 0, s) by simp [Ses.tick, hm, d1']]
        go_enter Tryd.func27, Tryd.ntmps27
        go_wp2_with fail
        refine (M.out _).mono ?_
        rintro e w1 ⟨rfl, rfl⟩
        go_wp2_with fail
        all_goals go_ret2
        all_goals exact ⟨rfl, H.out, (Step.refl (· = g) w)⟩
      · rw [hu] at c4
        rw [show s.tick now = (false, 0, s) by simp [Ses.tick, hm, d1']]
        go_enter Tryd.func27, Tryd.ntmps27
        go_wp2_with fail
        refine (M.out _).mono ?_
        rintro e w1 ⟨rfl, rfl⟩
        go_wp2_with fail
        all_goals go_ret2
        all_goals exact ⟨rfl, H.out, (Step.refl (· = g) w)⟩
    · have d1' : 6 ≤ now - s.link := by simpa using d1
      cases hu : s.up
      · cases d2 : decide (6 ≤ now - s.beat)
        · have d2' : ¬ (6 ≤ now - s.beat) := by simpa using d2
          cases d3 : (s.role == 2)
          · have d4 : (s.role != 2) = true := by simp [bne, d3]
            rw [show s.tick now = (false, 0, s) by simp [Ses.tick, hm, d1', hu, d2']]
            rw [hu] at c4
            go_enter Tryd.func27, Tryd.ntmps27
            go_wp2_with fail
            refine (M.out _).mono ?_
            rintro e w1 ⟨rfl, rfl⟩
            go_wp2_with fail
            all_goals go_ret2
            all_goals exact ⟨rfl, H.out, (Step.refl (· = g) w)⟩
          · have d4 : (s.role != 2) = false := by simp [bne, d3]
            rw [show s.tick now = (false, 0, s) by simp [Ses.tick, hm, d1', hu, d2']]
            rw [hu] at c4
            go_enter Tryd.func27, Tryd.ntmps27
            go_wp2_with fail
            refine (M.out _).mono ?_
            rintro e w1 ⟨rfl, rfl⟩
            go_wp2_with fail
            all_goals go_ret2
            all_goals exact ⟨rfl, H.out, (Step.refl (· = g) w)⟩
        · have d2' : 6 ≤ now - s.beat := by simpa using d2
          cases d3 : (s.role == 2)
          · have d3' : ¬ s.role = 2 := by simpa using d3
            have d4 : (s.role != 2) = true := by simp [bne, d3]
            rw [show s.tick now = (false, 0, ({ s with role := 2 } : Ses).fresh) by simp [Ses.tick, hm, d1', hu, d2', d3']]
            rw [hu] at c4
            go_enter Tryd.func27, Tryd.ntmps27
            go_wp2_with fail
            refine (M.out _).mono ?_
            rintro e w1 ⟨rfl, rfl⟩
            go_wp2_with fail
            refine R2.out.mono ?_
            rintro e w2 ⟨rfl, r1, r2⟩
            go_wp2_with fail
            go_ret2
            exact ⟨rfl, r1, ((Step.refl (· = g) w).setCell (p := ⟨g, 5, none⟩) (fun _ => rfl) _).then_ r2⟩
          · have d3' : s.role = 2 := by simpa using d3
            have d4 : (s.role != 2) = false := by simp [bne, d3]
            rw [show s.tick now = (false, 0, s) by simp [Ses.tick, hm, d1', hu, d2', d3']]
            rw [hu] at c4
            go_enter Tryd.func27, Tryd.ntmps27
            go_wp2_with fail
            refine (M.out _).mono ?_
            rintro e w1 ⟨rfl, rfl⟩
            go_wp2_with fail
            all_goals go_ret2
            all_goals exact ⟨rfl, H.out, (Step.refl (· = g) w)⟩
      · rw [show s.tick now = (true, 0, s.fresh) by simp [Ses.tick, hm, d1', hu]]
        rw [hu] at c4
        go_enter Tryd.func27, Tryd.ntmps27
        go_wp2_with fail
        refine (M.out _).mono ?_
        rintro e w1 ⟨rfl, rfl⟩
        go_wp2_with fail
        refine R.out.mono ?_
        rintro e w2 ⟨rfl, r1, r2⟩
        go_wp2_with fail
        go_ret2
        exact ⟨rfl, r1, r2⟩
end Go.Proofs.YtaacpjihkmklbaaDoor
