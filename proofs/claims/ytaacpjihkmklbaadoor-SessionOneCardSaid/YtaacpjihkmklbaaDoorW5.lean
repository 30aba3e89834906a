/- Take of the document. -/
import Derived.Test.YtaacpjihkmklbaaDoorW4
namespace Go.Proofs.YtaacpjihkmklbaaDoor
open Go.RowKit Go.Gm

set_option maxHeartbeats 16000000 in
theorem rtake_any (g : Nat) (s : Ses) (ep sq ak now : Int) (n : Note) (bo : Option Addr) (bc : Nat) (w : World) (hs : s.Ok) (h : w.heap[g]? = some (.cells s.rcells 58 (0, 0)))
    (hb : Bytes w (.slice bo n.body.length bc) n.body) (hbl : n.body.length ≤ 10000) :
    Calls Tryd.prog 26 #[.pointer (some ⟨g, 0, none⟩), .agg (n.packet ep sq ak (.slice bo n.body.length bc)), .int .i64 now] w fun e w' => e = .returned (.tuple #[.bool (s.take (helB ep sq ak n) ep ak n.port n.state now).1, .int .i64 (s.take (helB ep sq ak n) ep ak n.port n.state now).2.1]) ∧ w'.heap[g]? = some (.cells (s.take (helB ep sq ak n) ep ak n.port n.state now).2.2.rcells 58 (0, 0)) ∧ Step (· = g) w w' := by
  have M := Lib.hid (rmoment_any now)
  have s1 := (Step.refl None w).alloc (.cells (n.packet ep sq ak (.slice bo n.body.length bc)) 36)
  have p1 := heap_alloc_new w (.cells (n.packet ep sq ak (.slice bo n.body.length bc)) 36)
  have g1 := s1.blk h (fun s => s.elim)
  have NE : Hid (¬ w.heap.size = g) := Lib.hid (by have := blk_lt h; omega)
  obtain ⟨W, hW⟩ : ∃ W, w.alloc (.cells (n.packet ep sq ak (.slice bo n.body.length bc)) 36) = W := ⟨_, rfl⟩
  rw [hW] at s1 p1 g1
  have HL := Lib.hid (rhello_any ep sq ak n bo bc W (hb.step s1 (fun _ _ s => s.elim)) hbl)
  have HE := Lib.hid hW
  have P1 := Lib.hid p1
  have S1 := Lib.hid s1
  have G1 := Lib.hid g1
  have HS := Lib.hid hs
  have HR : helB ep sq ak n = true → 1 ≤ ep ∧ ep ≤ 536870912 := fun h => by
    unfold helB at h
    simp only [Bool.and_eq_true, decide_eq_true_eq] at h
    exact ⟨h.1.2, h.2⟩
  clear hW p1 s1 g1 hb hbl h hs
  generalize helB ep sq ak n = hel at *
  cases hm : mom now
  · rw [hm] at M
    rw [show s.take hel ep ak n.port n.state now = (false, 1, s) by simp [Ses.take, hm]]
    go_enter Tryd.func26, Tryd.ntmps26
    go_wp2_with (rw [HE.out])
    refine (M.out _).mono ?_
    rintro e w1 ⟨rfl, rfl⟩
    go_wp2_with (refine wpList_load_row rfl 36 (.tmp 4) rfl w.heap.size rfl 36 (n.packet ep sq ak (.slice bo n.body.length bc)) (0, 0) _ P1.out Tryd.underlying36 rfl (by kernel_rfl) ?_)
    refine HL.out.mono ?_
    rintro e w2 ⟨rfl, s2⟩
    have G2 := Lib.hid (s2.blk G1.out (fun s => s.elim))
    have P2 := Lib.hid (s2.blk P1.out (fun s => s.elim))
    have S2 := Lib.hid ((S1.out.then_ s2).none (S := (· = g)))
    clear s2 HE P1 G1 S1 HL M
    go_wp2_with fail
    go_ret2
    exact ⟨rfl, G2.out, S2.out⟩
  rw [hm] at M
  cases hel
  · rw [show s.take false ep ak n.port n.state now = (false, 2, s) by simp [Ses.take, hm]]
    go_enter Tryd.func26, Tryd.ntmps26
    go_wp2_with (rw [HE.out])
    refine (M.out _).mono ?_
    rintro e w1 ⟨rfl, rfl⟩
    go_wp2_with (refine wpList_load_row rfl 36 (.tmp 4) rfl w.heap.size rfl 36 (n.packet ep sq ak (.slice bo n.body.length bc)) (0, 0) _ P1.out Tryd.underlying36 rfl (by kernel_rfl) ?_)
    refine HL.out.mono ?_
    rintro e w2 ⟨rfl, s2⟩
    have G2 := Lib.hid (s2.blk G1.out (fun s => s.elim))
    have P2 := Lib.hid (s2.blk P1.out (fun s => s.elim))
    have S2 := Lib.hid ((S1.out.then_ s2).none (S := (· = g)))
    clear s2 HE P1 G1 S1 HL M
    go_wp2_with fail
    go_ret2
    exact ⟨rfl, G2.out, S2.out⟩
  have he := HR rfl
  cases d1 : decide (ep < s.known)
  rotate_left
  · have d1' : ep < s.known := by simpa using d1
    rw [show s.take true ep ak n.port n.state now = (false, 6, s) by simp [Ses.take, hm, d1']]
    go_enter Tryd.func26, Tryd.ntmps26
    go_wp2_with (rw [HE.out])
    refine (M.out _).mono ?_
    rintro e w1 ⟨rfl, rfl⟩
    go_wp2_with (refine wpList_load_row rfl 36 (.tmp 4) rfl w.heap.size rfl 36 (n.packet ep sq ak (.slice bo n.body.length bc)) (0, 0) _ P1.out Tryd.underlying36 rfl (by kernel_rfl) ?_)
    refine HL.out.mono ?_
    rintro e w2 ⟨rfl, s2⟩
    have G2 := Lib.hid (s2.blk G1.out (fun s => s.elim))
    have P2 := Lib.hid (s2.blk P1.out (fun s => s.elim))
    have S2 := Lib.hid ((S1.out.then_ s2).none (S := (· = g)))
    clear s2 HE P1 G1 S1 HL M
    have q5 := (RC.of G2.out).c3
    have q0 := blk_cell P2.out 0
    simp only [Note.packet, List.getElem?_toArray, List.getElem?_cons_zero] at q0
    go_wp2_with fail
    refine wp_region_plan (fun w' => w'.cell? ⟨w.heap.size, 0, none⟩ = some (.int .i64 ep) ∧ w'.cell? ⟨g, 3, none⟩ = some (.int .i64 s.known)) (.take 0 (.take 1 (.take 2 (.take 3 (.take 4 (.take 5 (.take 6 .done))))))) _
      (by simp only [Plan.map, opOf, List.getElem?_toArray, List.getElem?_cons_zero, List.getElem?_cons_succ, Option.getD_some]; rfl) (by kernel_rfl) (by kernel_rfl) (by kernel_rfl) (by decide) (by intro c a d v w; cases d <;> exact fun h => h) ⟨q0, q5⟩ ?_
    repeat (first | (refine wpPlan.taken (by rfl) (by intro w' hS'; (try dsimp only at hS'); go_split_ands; go_simp; try with_reducible rfl) ?_; simp only [Act.put, List.setIfInBounds_toArray, List.set_cons_zero, List.set_cons_succ]) | (refine wpPlan.passed (by rfl) ?_; simp only [Act.put, List.setIfInBounds_toArray, List.set_cons_zero, List.set_cons_succ]))
    refine wpPlan.done ?_
    go_wp2_with fail
    go_ret2
    exact ⟨rfl, G2.out, S2.out.drew⟩
  have d1' : ¬ ep < s.known := by simpa using d1
  have hn : 0 ≤ now ∧ now ≤ 1099511627776 := by simpa [mom] using hm
  have OKL : Hid (({ s with link := now } : Ses).Ok) := Lib.hid ⟨HS.out.id, HS.out.prio, HS.out.life, HS.out.known, HS.out.role, HS.out.claim, hn, HS.out.beat⟩
  have hd : s.heard ep now = { (if decide (s.known < ep) && s.up then ({ s with link := now } : Ses).fresh else ({ s with link := now } : Ses)) with known := ep } := rfl
  cases d2 : decide (s.known < ep)
  · obtain ⟨t, ht⟩ : ∃ t, ({ s with link := now } : Ses) = t := ⟨_, rfl⟩
    have HT := Lib.hid ht
    have hh : s.heard ep now = { t with known := ep } := by have hc : (decide (s.known < ep) && s.up) = false := (by rw [d2]; rfl); rw [hd, hc, ← ht]; rfl
    clear ht hd
    cases e1 : (ak != t.life)
    rotate_left
    · have e1' : ¬ ak = t.life := by simpa [bne] using e1
      rw [show s.take true ep ak n.port n.state now = (false, 0, { t with known := ep }) by simp [Ses.take, hm, d1', hh, e1']]
      clear hh e1'
      go_enter Tryd.func26, Tryd.ntmps26
      go_wp2_with (rw [HE.out])
      refine (M.out _).mono ?_
      rintro e w1 ⟨rfl, rfl⟩
      go_wp2_with (refine wpList_load_row rfl 36 (.tmp 4) rfl w.heap.size rfl 36 (n.packet ep sq ak (.slice bo n.body.length bc)) (0, 0) _ P1.out Tryd.underlying36 rfl (by kernel_rfl) ?_)
      refine HL.out.mono ?_
      rintro e w2 ⟨rfl, s2⟩
      have G2 := Lib.hid (s2.blk G1.out (fun s => s.elim))
      have P2 := Lib.hid (s2.blk P1.out (fun s => s.elim))
      have S2 := Lib.hid ((S1.out.then_ s2).none (S := (· = g)))
      clear s2 HE P1 G1 S1 HL M
      have q5 := (RC.of G2.out).c3
      have q0 := blk_cell P2.out 0
      simp only [Note.packet, List.getElem?_toArray, List.getElem?_cons_zero] at q0
      go_wp2_with fail
      refine wp_region_plan (fun w' => w'.cell? ⟨w.heap.size, 0, none⟩ = some (.int .i64 ep) ∧ w'.cell? ⟨g, 3, none⟩ = some (.int .i64 s.known)) (.take 0 (.take 1 (.take 2 (.take 3 (.take 4 (.take 5 (.take 6 .done))))))) _
        (by simp only [Plan.map, opOf, List.getElem?_toArray, List.getElem?_cons_zero, List.getElem?_cons_succ, Option.getD_some]; rfl) (by kernel_rfl) (by kernel_rfl) (by kernel_rfl) (by decide) (by intro c a d v w; cases d <;> exact fun h => h) ⟨q0, q5⟩ ?_
      repeat (first | (refine wpPlan.taken (by rfl) (by intro w' hS'; (try dsimp only at hS'); go_split_ands; go_simp; try with_reducible rfl) ?_; simp only [Act.put, List.setIfInBounds_toArray, List.set_cons_zero, List.set_cons_succ]) | (refine wpPlan.passed (by rfl) ?_; simp only [Act.put, List.setIfInBounds_toArray, List.set_cons_zero, List.set_cons_succ]))
      refine wpPlan.done ?_
      have f9 := (RC.of G2.out).fz 7
      have q9 := (RC.of G2.out).c7
      have G3 : (w2.setCell ⟨g, 7, none⟩ (.int .i64 now)).heap[g]? = some (.cells ({ s with link := now } : Ses).rcells 58 (0, 0)) := blk_set G2.out 7 _
      have P3 : (w2.setCell ⟨g, 7, none⟩ (.int .i64 now)).heap[w.heap.size]? = some (.cells (n.packet ep sq ak (.slice bo n.body.length bc)) 36 (0, 0)) := (heap_setCell_other w2 _ _ _ (by simpa using NE.out)).trans P2.out
      have S3 := S2.out.setCell (p := ⟨g, 7, none⟩) (fun _ => rfl) (.int .i64 now)
      obtain ⟨W3, hW3⟩ : ∃ W, w2.setCell ⟨g, 7, none⟩ (.int .i64 now) = W := ⟨_, rfl⟩
      rw [hW3] at G3 P3 S3
      have HE3 := Lib.hid hW3
      have G3 := Lib.hid G3
      have P3 := Lib.hid P3
      have S3 := Lib.hid S3
      clear hW3 G2 P2 S2 q0 q5
      go_wp2_with (rw [HE3.out])
      clear HE3 f9 q9
      have k3 := RC.of G3.out
      have k3c := k3.c3
      have k3u := k3.c4
      have k3p := blk_cell P3.out 0
      simp only [Note.packet, List.getElem?_toArray, List.getElem?_cons_zero] at k3p
      simp only at k3c k3u
      clear k3
      refine wp_region_plan (fun w' => w'.cell? ⟨w.heap.size, 0, none⟩ = some (.int .i64 ep) ∧ w'.cell? ⟨g, 3, none⟩ = some (.int .i64 s.known) ∧ w'.cell? ⟨g, 4, none⟩ = some (.bool s.up)) (.take 0 (.take 1 (.take 2 (.take 3 (.take 4 (.take 5 (.take 6 (.take 7 (.take 8 (.take 9 (.take 10 (.take 11 (.take 12 .done))))))))))))) _
        (by simp only [Plan.map, opOf, List.getElem?_toArray, List.getElem?_cons_zero, List.getElem?_cons_succ, Option.getD_some]; rfl) (by kernel_rfl) (by kernel_rfl) (by kernel_rfl) (by decide) (by intro c a d v w; cases d <;> exact fun h => h) ⟨k3p, k3c, k3u⟩ ?_
      repeat (first | (refine wpPlan.taken (by rfl) (by intro w' hS'; (try dsimp only at hS'); go_split_ands; go_simp; try with_reducible rfl) ?_; simp only [Act.put, List.setIfInBounds_toArray, List.set_cons_zero, List.set_cons_succ]) | (refine wpPlan.passed (by rfl) ?_; simp only [Act.put, List.setIfInBounds_toArray, List.set_cons_zero, List.set_cons_succ]))
      refine wpPlan.done ?_
      have P4 := P3
      have S4 := S3
      have G4 := G3
      clear k3p k3c k3u
      rw [HT.out] at G4
      have k4 := RC.of G4.out
      have a3 := k4.c3
      have b3 := k4.fz 3
      have q0 := blk_cell P4.out 0
      simp only [Note.packet, List.getElem?_toArray, List.getElem?_cons_zero] at q0
      have G5 : ((W3.setCell ⟨g, 3, none⟩ (.int .i64 ep)).drew.drew).heap[g]? = some (.cells ({ t with known := ep } : Ses).rcells 58 (0, 0)) := blk_set G4.out 3 _
      have P5 : ((W3.setCell ⟨g, 3, none⟩ (.int .i64 ep)).drew.drew).heap[w.heap.size]? = some (.cells (n.packet ep sq ak (.slice bo n.body.length bc)) 36 (0, 0)) := ((Step.refl (· = g) W3).setCell (p := ⟨g, 3, none⟩) (fun _ => rfl) (.int .i64 ep)).drew.drew.blk P4.out (fun h => NE.out h)
      have S5 := (S4.out.setCell (p := ⟨g, 3, none⟩) (fun _ => rfl) (.int .i64 ep)).drew.drew
      obtain ⟨W5, hW5⟩ : ∃ W, (W3.setCell ⟨g, 3, none⟩ (.int .i64 ep)).drew.drew = W := ⟨_, rfl⟩
      rw [hW5] at G5 P5 S5
      have HE5 := Lib.hid hW5
      have G5 := Lib.hid G5
      have P5 := Lib.hid P5
      have S5 := Lib.hid S5
      clear k4 hW5 S4
      have k5 := RC.of G5.out
      have a4 := k5.c2
      have a6 := k5.c4
      have p2 := blk_cell P5.out 2
      simp only [Note.packet, List.getElem?_toArray, List.getElem?_cons_zero, List.getElem?_cons_succ] at p2
      simp only at a4 a6
      clear k5 G4 P4
      go_wp2_with (rw [HE5.out])
      clear HE5 a3 b3 q0
      refine wp_region_plan (fun w' => w'.cell? ⟨w.heap.size, 2, none⟩ = some (.int .i64 ak) ∧ w'.cell? ⟨g, 2, none⟩ = some (.int .i64 t.life) ∧ w'.cell? ⟨g, 4, none⟩ = some (.bool t.up)) (.take 0 (.take 1 (.take 2 (.take 3 (.take 4 (.take 5 (.take 6 (.take 7 (.take 8 (.take 9 (.take 10 (.take 11 (.take 12 (.take 13 (.take 14 (.take 15 (.take 16 (.take 17 (.take 18 (.take 19 .done)))))))))))))))))))) _
        (by simp only [Plan.map, opOf, List.getElem?_toArray, List.getElem?_cons_zero, List.getElem?_cons_succ, Option.getD_some]; rfl) (by kernel_rfl) (by kernel_rfl) (by kernel_rfl) (by decide) (by intro c a d v w; cases d <;> exact fun h => h) ⟨p2, a4, a6⟩ ?_
      repeat (first | (refine wpPlan.taken (by rfl) (by intro w' hS'; (try dsimp only at hS'); go_split_ands; go_simp; try with_reducible rfl) ?_; simp only [Act.put, List.setIfInBounds_toArray, List.set_cons_zero, List.set_cons_succ]) | (refine wpPlan.passed (by rfl) ?_; simp only [Act.put, List.setIfInBounds_toArray, List.set_cons_zero, List.set_cons_succ]))
      refine wpPlan.done ?_
      go_wp2_with fail
      go_ret2
      exact ⟨rfl, G5.out, S5.out.drew⟩
    have e1' : ak = t.life := by simpa [bne] using e1
    cases e2 : t.up
    rotate_left
    · rw [show s.take true ep ak n.port n.state now = (false, 0, { t with known := ep }) by simp [Ses.take, hm, d1', hh, e2]]
      clear hh e1'
      go_enter Tryd.func26, Tryd.ntmps26
      go_wp2_with (rw [HE.out])
      refine (M.out _).mono ?_
      rintro e w1 ⟨rfl, rfl⟩
      go_wp2_with (refine wpList_load_row rfl 36 (.tmp 4) rfl w.heap.size rfl 36 (n.packet ep sq ak (.slice bo n.body.length bc)) (0, 0) _ P1.out Tryd.underlying36 rfl (by kernel_rfl) ?_)
      refine HL.out.mono ?_
      rintro e w2 ⟨rfl, s2⟩
      have G2 := Lib.hid (s2.blk G1.out (fun s => s.elim))
      have P2 := Lib.hid (s2.blk P1.out (fun s => s.elim))
      have S2 := Lib.hid ((S1.out.then_ s2).none (S := (· = g)))
      clear s2 HE P1 G1 S1 HL M
      have q5 := (RC.of G2.out).c3
      have q0 := blk_cell P2.out 0
      simp only [Note.packet, List.getElem?_toArray, List.getElem?_cons_zero] at q0
      go_wp2_with fail
      refine wp_region_plan (fun w' => w'.cell? ⟨w.heap.size, 0, none⟩ = some (.int .i64 ep) ∧ w'.cell? ⟨g, 3, none⟩ = some (.int .i64 s.known)) (.take 0 (.take 1 (.take 2 (.take 3 (.take 4 (.take 5 (.take 6 .done))))))) _
        (by simp only [Plan.map, opOf, List.getElem?_toArray, List.getElem?_cons_zero, List.getElem?_cons_succ, Option.getD_some]; rfl) (by kernel_rfl) (by kernel_rfl) (by kernel_rfl) (by decide) (by intro c a d v w; cases d <;> exact fun h => h) ⟨q0, q5⟩ ?_
      repeat (first | (refine wpPlan.taken (by rfl) (by intro w' hS'; (try dsimp only at hS'); go_split_ands; go_simp; try with_reducible rfl) ?_; simp only [Act.put, List.setIfInBounds_toArray, List.set_cons_zero, List.set_cons_succ]) | (refine wpPlan.passed (by rfl) ?_; simp only [Act.put, List.setIfInBounds_toArray, List.set_cons_zero, List.set_cons_succ]))
      refine wpPlan.done ?_
      have f9 := (RC.of G2.out).fz 7
      have q9 := (RC.of G2.out).c7
      have G3 : (w2.setCell ⟨g, 7, none⟩ (.int .i64 now)).heap[g]? = some (.cells ({ s with link := now } : Ses).rcells 58 (0, 0)) := blk_set G2.out 7 _
      have P3 : (w2.setCell ⟨g, 7, none⟩ (.int .i64 now)).heap[w.heap.size]? = some (.cells (n.packet ep sq ak (.slice bo n.body.length bc)) 36 (0, 0)) := (heap_setCell_other w2 _ _ _ (by simpa using NE.out)).trans P2.out
      have S3 := S2.out.setCell (p := ⟨g, 7, none⟩) (fun _ => rfl) (.int .i64 now)
      obtain ⟨W3, hW3⟩ : ∃ W, w2.setCell ⟨g, 7, none⟩ (.int .i64 now) = W := ⟨_, rfl⟩
      rw [hW3] at G3 P3 S3
      have HE3 := Lib.hid hW3
      have G3 := Lib.hid G3
      have P3 := Lib.hid P3
      have S3 := Lib.hid S3
      clear hW3 G2 P2 S2 q0 q5
      go_wp2_with (rw [HE3.out])
      clear HE3 f9 q9
      have k3 := RC.of G3.out
      have k3c := k3.c3
      have k3u := k3.c4
      have k3p := blk_cell P3.out 0
      simp only [Note.packet, List.getElem?_toArray, List.getElem?_cons_zero] at k3p
      simp only at k3c k3u
      clear k3
      refine wp_region_plan (fun w' => w'.cell? ⟨w.heap.size, 0, none⟩ = some (.int .i64 ep) ∧ w'.cell? ⟨g, 3, none⟩ = some (.int .i64 s.known) ∧ w'.cell? ⟨g, 4, none⟩ = some (.bool s.up)) (.take 0 (.take 1 (.take 2 (.take 3 (.take 4 (.take 5 (.take 6 (.take 7 (.take 8 (.take 9 (.take 10 (.take 11 (.take 12 .done))))))))))))) _
        (by simp only [Plan.map, opOf, List.getElem?_toArray, List.getElem?_cons_zero, List.getElem?_cons_succ, Option.getD_some]; rfl) (by kernel_rfl) (by kernel_rfl) (by kernel_rfl) (by decide) (by intro c a d v w; cases d <;> exact fun h => h) ⟨k3p, k3c, k3u⟩ ?_
      repeat (first | (refine wpPlan.taken (by rfl) (by intro w' hS'; (try dsimp only at hS'); go_split_ands; go_simp; try with_reducible rfl) ?_; simp only [Act.put, List.setIfInBounds_toArray, List.set_cons_zero, List.set_cons_succ]) | (refine wpPlan.passed (by rfl) ?_; simp only [Act.put, List.setIfInBounds_toArray, List.set_cons_zero, List.set_cons_succ]))
      refine wpPlan.done ?_
      have P4 := P3
      have S4 := S3
      have G4 := G3
      clear k3p k3c k3u
      rw [HT.out] at G4
      have k4 := RC.of G4.out
      have a3 := k4.c3
      have b3 := k4.fz 3
      have q0 := blk_cell P4.out 0
      simp only [Note.packet, List.getElem?_toArray, List.getElem?_cons_zero] at q0
      have G5 : ((W3.setCell ⟨g, 3, none⟩ (.int .i64 ep)).drew.drew).heap[g]? = some (.cells ({ t with known := ep } : Ses).rcells 58 (0, 0)) := blk_set G4.out 3 _
      have P5 : ((W3.setCell ⟨g, 3, none⟩ (.int .i64 ep)).drew.drew).heap[w.heap.size]? = some (.cells (n.packet ep sq ak (.slice bo n.body.length bc)) 36 (0, 0)) := ((Step.refl (· = g) W3).setCell (p := ⟨g, 3, none⟩) (fun _ => rfl) (.int .i64 ep)).drew.drew.blk P4.out (fun h => NE.out h)
      have S5 := (S4.out.setCell (p := ⟨g, 3, none⟩) (fun _ => rfl) (.int .i64 ep)).drew.drew
      obtain ⟨W5, hW5⟩ : ∃ W, (W3.setCell ⟨g, 3, none⟩ (.int .i64 ep)).drew.drew = W := ⟨_, rfl⟩
      rw [hW5] at G5 P5 S5
      have HE5 := Lib.hid hW5
      have G5 := Lib.hid G5
      have P5 := Lib.hid P5
      have S5 := Lib.hid S5
      clear k4 hW5 S4
      have k5 := RC.of G5.out
      have a4 := k5.c2
      have a6 := k5.c4
      have p2 := blk_cell P5.out 2
      simp only [Note.packet, List.getElem?_toArray, List.getElem?_cons_zero, List.getElem?_cons_succ] at p2
      simp only at a4 a6
      clear k5 G4 P4
      go_wp2_with (rw [HE5.out])
      clear HE5 a3 b3 q0
      refine wp_region_plan (fun w' => w'.cell? ⟨w.heap.size, 2, none⟩ = some (.int .i64 ak) ∧ w'.cell? ⟨g, 2, none⟩ = some (.int .i64 t.life) ∧ w'.cell? ⟨g, 4, none⟩ = some (.bool t.up)) (.take 0 (.take 1 (.take 2 (.take 3 (.take 4 (.take 5 (.take 6 (.take 7 (.take 8 (.take 9 (.take 10 (.take 11 (.take 12 (.take 13 (.take 14 (.take 15 (.take 16 (.take 17 (.take 18 (.take 19 .done)))))))))))))))))))) _
        (by simp only [Plan.map, opOf, List.getElem?_toArray, List.getElem?_cons_zero, List.getElem?_cons_succ, Option.getD_some]; rfl) (by kernel_rfl) (by kernel_rfl) (by kernel_rfl) (by decide) (by intro c a d v w; cases d <;> exact fun h => h) ⟨p2, a4, a6⟩ ?_
      repeat (first | (refine wpPlan.taken (by rfl) (by intro w' hS'; (try dsimp only at hS'); go_split_ands; go_simp; try with_reducible rfl) ?_; simp only [Act.put, List.setIfInBounds_toArray, List.set_cons_zero, List.set_cons_succ]) | (refine wpPlan.passed (by rfl) ?_; simp only [Act.put, List.setIfInBounds_toArray, List.set_cons_zero, List.set_cons_succ]))
      refine wpPlan.done ?_
      go_wp2_with fail
      go_ret2
      exact ⟨rfl, G5.out, S5.out.drew⟩
    cases e3 : (t.life == 536870912)
    rotate_left
    · have e3' : t.life = 536870912 := by simpa using e3
      rw [show s.take true ep ak n.port n.state now = (false, 0, { t with known := ep }) by simp [Ses.take, hm, d1', hh, e3']]
      clear hh e1' e3'
      go_enter Tryd.func26, Tryd.ntmps26
      go_wp2_with (rw [HE.out])
      refine (M.out _).mono ?_
      rintro e w1 ⟨rfl, rfl⟩
      go_wp2_with (refine wpList_load_row rfl 36 (.tmp 4) rfl w.heap.size rfl 36 (n.packet ep sq ak (.slice bo n.body.length bc)) (0, 0) _ P1.out Tryd.underlying36 rfl (by kernel_rfl) ?_)
      refine HL.out.mono ?_
      rintro e w2 ⟨rfl, s2⟩
      have G2 := Lib.hid (s2.blk G1.out (fun s => s.elim))
      have P2 := Lib.hid (s2.blk P1.out (fun s => s.elim))
      have S2 := Lib.hid ((S1.out.then_ s2).none (S := (· = g)))
      clear s2 HE P1 G1 S1 HL M
      have q5 := (RC.of G2.out).c3
      have q0 := blk_cell P2.out 0
      simp only [Note.packet, List.getElem?_toArray, List.getElem?_cons_zero] at q0
      go_wp2_with fail
      refine wp_region_plan (fun w' => w'.cell? ⟨w.heap.size, 0, none⟩ = some (.int .i64 ep) ∧ w'.cell? ⟨g, 3, none⟩ = some (.int .i64 s.known)) (.take 0 (.take 1 (.take 2 (.take 3 (.take 4 (.take 5 (.take 6 .done))))))) _
        (by simp only [Plan.map, opOf, List.getElem?_toArray, List.getElem?_cons_zero, List.getElem?_cons_succ, Option.getD_some]; rfl) (by kernel_rfl) (by kernel_rfl) (by kernel_rfl) (by decide) (by intro c a d v w; cases d <;> exact fun h => h) ⟨q0, q5⟩ ?_
      repeat (first | (refine wpPlan.taken (by rfl) (by intro w' hS'; (try dsimp only at hS'); go_split_ands; go_simp; try with_reducible rfl) ?_; simp only [Act.put, List.setIfInBounds_toArray, List.set_cons_zero, List.set_cons_succ]) | (refine wpPlan.passed (by rfl) ?_; simp only [Act.put, List.setIfInBounds_toArray, List.set_cons_zero, List.set_cons_succ]))
      refine wpPlan.done ?_
      have f9 := (RC.of G2.out).fz 7
      have q9 := (RC.of G2.out).c7
      have G3 : (w2.setCell ⟨g, 7, none⟩ (.int .i64 now)).heap[g]? = some (.cells ({ s with link := now } : Ses).rcells 58 (0, 0)) := blk_set G2.out 7 _
      have P3 : (w2.setCell ⟨g, 7, none⟩ (.int .i64 now)).heap[w.heap.size]? = some (.cells (n.packet ep sq ak (.slice bo n.body.length bc)) 36 (0, 0)) := (heap_setCell_other w2 _ _ _ (by simpa using NE.out)).trans P2.out
      have S3 := S2.out.setCell (p := ⟨g, 7, none⟩) (fun _ => rfl) (.int .i64 now)
      obtain ⟨W3, hW3⟩ : ∃ W, w2.setCell ⟨g, 7, none⟩ (.int .i64 now) = W := ⟨_, rfl⟩
      rw [hW3] at G3 P3 S3
      have HE3 := Lib.hid hW3
      have G3 := Lib.hid G3
      have P3 := Lib.hid P3
      have S3 := Lib.hid S3
      clear hW3 G2 P2 S2 q0 q5
      go_wp2_with (rw [HE3.out])
      clear HE3 f9 q9
      have k3 := RC.of G3.out
      have k3c := k3.c3
      have k3u := k3.c4
      have k3p := blk_cell P3.out 0
      simp only [Note.packet, List.getElem?_toArray, List.getElem?_cons_zero] at k3p
      simp only at k3c k3u
      clear k3
      refine wp_region_plan (fun w' => w'.cell? ⟨w.heap.size, 0, none⟩ = some (.int .i64 ep) ∧ w'.cell? ⟨g, 3, none⟩ = some (.int .i64 s.known) ∧ w'.cell? ⟨g, 4, none⟩ = some (.bool s.up)) (.take 0 (.take 1 (.take 2 (.take 3 (.take 4 (.take 5 (.take 6 (.take 7 (.take 8 (.take 9 (.take 10 (.take 11 (.take 12 .done))))))))))))) _
        (by simp only [Plan.map, opOf, List.getElem?_toArray, List.getElem?_cons_zero, List.getElem?_cons_succ, Option.getD_some]; rfl) (by kernel_rfl) (by kernel_rfl) (by kernel_rfl) (by decide) (by intro c a d v w; cases d <;> exact fun h => h) ⟨k3p, k3c, k3u⟩ ?_
      repeat (first | (refine wpPlan.taken (by rfl) (by intro w' hS'; (try dsimp only at hS'); go_split_ands; go_simp; try with_reducible rfl) ?_; simp only [Act.put, List.setIfInBounds_toArray, List.set_cons_zero, List.set_cons_succ]) | (refine wpPlan.passed (by rfl) ?_; simp only [Act.put, List.setIfInBounds_toArray, List.set_cons_zero, List.set_cons_succ]))
      refine wpPlan.done ?_
      have P4 := P3
      have S4 := S3
      have G4 := G3
      clear k3p k3c k3u
      rw [HT.out] at G4
      have k4 := RC.of G4.out
      have a3 := k4.c3
      have b3 := k4.fz 3
      have q0 := blk_cell P4.out 0
      simp only [Note.packet, List.getElem?_toArray, List.getElem?_cons_zero] at q0
      have G5 : ((W3.setCell ⟨g, 3, none⟩ (.int .i64 ep)).drew.drew).heap[g]? = some (.cells ({ t with known := ep } : Ses).rcells 58 (0, 0)) := blk_set G4.out 3 _
      have P5 : ((W3.setCell ⟨g, 3, none⟩ (.int .i64 ep)).drew.drew).heap[w.heap.size]? = some (.cells (n.packet ep sq ak (.slice bo n.body.length bc)) 36 (0, 0)) := ((Step.refl (· = g) W3).setCell (p := ⟨g, 3, none⟩) (fun _ => rfl) (.int .i64 ep)).drew.drew.blk P4.out (fun h => NE.out h)
      have S5 := (S4.out.setCell (p := ⟨g, 3, none⟩) (fun _ => rfl) (.int .i64 ep)).drew.drew
      obtain ⟨W5, hW5⟩ : ∃ W, (W3.setCell ⟨g, 3, none⟩ (.int .i64 ep)).drew.drew = W := ⟨_, rfl⟩
      rw [hW5] at G5 P5 S5
      have HE5 := Lib.hid hW5
      have G5 := Lib.hid G5
      have P5 := Lib.hid P5
      have S5 := Lib.hid S5
      clear k4 hW5 S4
      have k5 := RC.of G5.out
      have a4 := k5.c2
      have a6 := k5.c4
      have p2 := blk_cell P5.out 2
      simp only [Note.packet, List.getElem?_toArray, List.getElem?_cons_zero, List.getElem?_cons_succ] at p2
      simp only at a4 a6
      clear k5 G4 P4
      go_wp2_with (rw [HE5.out])
      clear HE5 a3 b3 q0
      refine wp_region_plan (fun w' => w'.cell? ⟨w.heap.size, 2, none⟩ = some (.int .i64 ak) ∧ w'.cell? ⟨g, 2, none⟩ = some (.int .i64 t.life) ∧ w'.cell? ⟨g, 4, none⟩ = some (.bool t.up)) (.take 0 (.take 1 (.take 2 (.take 3 (.take 4 (.take 5 (.take 6 (.take 7 (.take 8 (.take 9 (.take 10 (.take 11 (.take 12 (.take 13 (.take 14 (.take 15 (.take 16 (.take 17 (.take 18 (.take 19 .done)))))))))))))))))))) _
        (by simp only [Plan.map, opOf, List.getElem?_toArray, List.getElem?_cons_zero, List.getElem?_cons_succ, Option.getD_some]; rfl) (by kernel_rfl) (by kernel_rfl) (by kernel_rfl) (by decide) (by intro c a d v w; cases d <;> exact fun h => h) ⟨p2, a4, a6⟩ ?_
      repeat (first | (refine wpPlan.taken (by rfl) (by intro w' hS'; (try dsimp only at hS'); go_split_ands; go_simp; try with_reducible rfl) ?_; simp only [Act.put, List.setIfInBounds_toArray, List.set_cons_zero, List.set_cons_succ]) | (refine wpPlan.passed (by rfl) ?_; simp only [Act.put, List.setIfInBounds_toArray, List.set_cons_zero, List.set_cons_succ]))
      refine wpPlan.done ?_
      go_wp2_with fail
      go_ret2
      exact ⟨rfl, G5.out, S5.out.drew⟩
    have e3' : ¬ t.life = 536870912 := by simpa using e3
    have hmeet : s.take true ep ak n.port n.state now = (true, 0, ({ t with known := ep, up := true, role := if decide (n.state < t.claim) || (t.claim == n.state && t.first n.port) then 2 else 1 } : Ses)) := by simp [Ses.take, hm, d1', hh, e1', e2, e3', Ses.meet, Ses.first]
    clear hh e1' e3'
    cases m1 : decide (n.state < t.claim)
    · cases m2 : (t.claim == n.state)
      · rw [hmeet, m1, m2, show (if (false || (false && t.first n.port)) = true then (2 : Int) else 1) = 1 from rfl]
        clear hmeet
        go_enter Tryd.func26, Tryd.ntmps26
        go_wp2_with (rw [HE.out])
        refine (M.out _).mono ?_
        rintro e w1 ⟨rfl, rfl⟩
        go_wp2_with (refine wpList_load_row rfl 36 (.tmp 4) rfl w.heap.size rfl 36 (n.packet ep sq ak (.slice bo n.body.length bc)) (0, 0) _ P1.out Tryd.underlying36 rfl (by kernel_rfl) ?_)
        refine HL.out.mono ?_
        rintro e w2 ⟨rfl, s2⟩
        have G2 := Lib.hid (s2.blk G1.out (fun s => s.elim))
        have P2 := Lib.hid (s2.blk P1.out (fun s => s.elim))
        have S2 := Lib.hid ((S1.out.then_ s2).none (S := (· = g)))
        clear s2 HE P1 G1 S1 HL M
        have q5 := (RC.of G2.out).c3
        have q0 := blk_cell P2.out 0
        simp only [Note.packet, List.getElem?_toArray, List.getElem?_cons_zero] at q0
        go_wp2_with fail
        refine wp_region_plan (fun w' => w'.cell? ⟨w.heap.size, 0, none⟩ = some (.int .i64 ep) ∧ w'.cell? ⟨g, 3, none⟩ = some (.int .i64 s.known)) (.take 0 (.take 1 (.take 2 (.take 3 (.take 4 (.take 5 (.take 6 .done))))))) _
          (by simp only [Plan.map, opOf, List.getElem?_toArray, List.getElem?_cons_zero, List.getElem?_cons_succ, Option.getD_some]; rfl) (by kernel_rfl) (by kernel_rfl) (by kernel_rfl) (by decide) (by intro c a d v w; cases d <;> exact fun h => h) ⟨q0, q5⟩ ?_
        repeat (first | (refine wpPlan.taken (by rfl) (by intro w' hS'; (try dsimp only at hS'); go_split_ands; go_simp; try with_reducible rfl) ?_; simp only [Act.put, List.setIfInBounds_toArray, List.set_cons_zero, List.set_cons_succ]) | (refine wpPlan.passed (by rfl) ?_; simp only [Act.put, List.setIfInBounds_toArray, List.set_cons_zero, List.set_cons_succ]))
        refine wpPlan.done ?_
        have f9 := (RC.of G2.out).fz 7
        have q9 := (RC.of G2.out).c7
        have G3 : (w2.setCell ⟨g, 7, none⟩ (.int .i64 now)).heap[g]? = some (.cells ({ s with link := now } : Ses).rcells 58 (0, 0)) := blk_set G2.out 7 _
        have P3 : (w2.setCell ⟨g, 7, none⟩ (.int .i64 now)).heap[w.heap.size]? = some (.cells (n.packet ep sq ak (.slice bo n.body.length bc)) 36 (0, 0)) := (heap_setCell_other w2 _ _ _ (by simpa using NE.out)).trans P2.out
        have S3 := S2.out.setCell (p := ⟨g, 7, none⟩) (fun _ => rfl) (.int .i64 now)
        obtain ⟨W3, hW3⟩ : ∃ W, w2.setCell ⟨g, 7, none⟩ (.int .i64 now) = W := ⟨_, rfl⟩
        rw [hW3] at G3 P3 S3
        have HE3 := Lib.hid hW3
        have G3 := Lib.hid G3
        have P3 := Lib.hid P3
        have S3 := Lib.hid S3
        clear hW3 G2 P2 S2 q0 q5
        go_wp2_with (rw [HE3.out])
        clear HE3 f9 q9
        have k3 := RC.of G3.out
        have k3c := k3.c3
        have k3u := k3.c4
        have k3p := blk_cell P3.out 0
        simp only [Note.packet, List.getElem?_toArray, List.getElem?_cons_zero] at k3p
        simp only at k3c k3u
        clear k3
        refine wp_region_plan (fun w' => w'.cell? ⟨w.heap.size, 0, none⟩ = some (.int .i64 ep) ∧ w'.cell? ⟨g, 3, none⟩ = some (.int .i64 s.known) ∧ w'.cell? ⟨g, 4, none⟩ = some (.bool s.up)) (.take 0 (.take 1 (.take 2 (.take 3 (.take 4 (.take 5 (.take 6 (.take 7 (.take 8 (.take 9 (.take 10 (.take 11 (.take 12 .done))))))))))))) _
          (by simp only [Plan.map, opOf, List.getElem?_toArray, List.getElem?_cons_zero, List.getElem?_cons_succ, Option.getD_some]; rfl) (by kernel_rfl) (by kernel_rfl) (by kernel_rfl) (by decide) (by intro c a d v w; cases d <;> exact fun h => h) ⟨k3p, k3c, k3u⟩ ?_
        repeat (first | (refine wpPlan.taken (by rfl) (by intro w' hS'; (try dsimp only at hS'); go_split_ands; go_simp; try with_reducible rfl) ?_; simp only [Act.put, List.setIfInBounds_toArray, List.set_cons_zero, List.set_cons_succ]) | (refine wpPlan.passed (by rfl) ?_; simp only [Act.put, List.setIfInBounds_toArray, List.set_cons_zero, List.set_cons_succ]))
        refine wpPlan.done ?_
        have P4 := P3
        have S4 := S3
        have G4 := G3
        clear k3p k3c k3u
        rw [HT.out] at G4
        have k4 := RC.of G4.out
        have a3 := k4.c3
        have b3 := k4.fz 3
        have q0 := blk_cell P4.out 0
        simp only [Note.packet, List.getElem?_toArray, List.getElem?_cons_zero] at q0
        have G5 : ((W3.setCell ⟨g, 3, none⟩ (.int .i64 ep)).drew.drew).heap[g]? = some (.cells ({ t with known := ep } : Ses).rcells 58 (0, 0)) := blk_set G4.out 3 _
        have P5 : ((W3.setCell ⟨g, 3, none⟩ (.int .i64 ep)).drew.drew).heap[w.heap.size]? = some (.cells (n.packet ep sq ak (.slice bo n.body.length bc)) 36 (0, 0)) := ((Step.refl (· = g) W3).setCell (p := ⟨g, 3, none⟩) (fun _ => rfl) (.int .i64 ep)).drew.drew.blk P4.out (fun h => NE.out h)
        have S5 := (S4.out.setCell (p := ⟨g, 3, none⟩) (fun _ => rfl) (.int .i64 ep)).drew.drew
        obtain ⟨W5, hW5⟩ : ∃ W, (W3.setCell ⟨g, 3, none⟩ (.int .i64 ep)).drew.drew = W := ⟨_, rfl⟩
        rw [hW5] at G5 P5 S5
        have HE5 := Lib.hid hW5
        have G5 := Lib.hid G5
        have P5 := Lib.hid P5
        have S5 := Lib.hid S5
        clear k4 hW5 S4
        have k5 := RC.of G5.out
        have a4 := k5.c2
        have a6 := k5.c4
        have p2 := blk_cell P5.out 2
        simp only [Note.packet, List.getElem?_toArray, List.getElem?_cons_zero, List.getElem?_cons_succ] at p2
        simp only at a4 a6
        clear k5 G4 P4
        go_wp2_with (rw [HE5.out])
        clear HE5 a3 b3 q0
        refine wp_region_plan (fun w' => w'.cell? ⟨w.heap.size, 2, none⟩ = some (.int .i64 ak) ∧ w'.cell? ⟨g, 2, none⟩ = some (.int .i64 t.life) ∧ w'.cell? ⟨g, 4, none⟩ = some (.bool t.up)) (.take 0 (.take 1 (.take 2 (.take 3 (.take 4 (.take 5 (.take 6 (.take 7 (.take 8 (.take 9 (.take 10 (.take 11 (.take 12 (.take 13 (.take 14 (.take 15 (.take 16 (.take 17 (.take 18 (.take 19 .done)))))))))))))))))))) _
          (by simp only [Plan.map, opOf, List.getElem?_toArray, List.getElem?_cons_zero, List.getElem?_cons_succ, Option.getD_some]; rfl) (by kernel_rfl) (by kernel_rfl) (by kernel_rfl) (by decide) (by intro c a d v w; cases d <;> exact fun h => h) ⟨p2, a4, a6⟩ ?_
        repeat (first | (refine wpPlan.taken (by rfl) (by intro w' hS'; (try dsimp only at hS'); go_split_ands; go_simp; try with_reducible rfl) ?_; simp only [Act.put, List.setIfInBounds_toArray, List.set_cons_zero, List.set_cons_succ]) | (refine wpPlan.passed (by rfl) ?_; simp only [Act.put, List.setIfInBounds_toArray, List.set_cons_zero, List.set_cons_succ]))
        refine wpPlan.done ?_
        have b6 := (RC.of G5.out).fz 4
        have b5 := (RC.of G5.out).fz 5
        have G6 : ((W5.setCell ⟨g, 4, none⟩ (.bool true)).setCell ⟨g, 5, none⟩ (.int .i64 1)).heap[g]? = some (.cells ({ t with known := ep, up := true, role := 1 } : Ses).rcells 58 (0, 0)) := blk_set (blk_set G5.out 4 _) 5 _
        have st6 := ((Step.refl (· = g) W5).setCell (p := ⟨g, 4, none⟩) (fun _ => rfl) (.bool true)).setCell (p := ⟨g, 5, none⟩) (fun _ => rfl) (.int .i64 1)
        have P6 := st6.blk P5.out (fun h => NE.out h)
        have p12 := blk_cell P6 12
        have p12' := blk_cell P5.out 12
        have p12'' := blk_cell (((Step.refl (· = g) W5).setCell (p := ⟨g, 4, none⟩) (fun _ => rfl) (.bool true)).blk P5.out (fun h => NE.out h)) 12
        have p11 := blk_cell P6 11
        have S6 := Lib.hid (S5.out.then_ st6)
        simp only [Note.packet, List.getElem?_toArray, List.getElem?_cons_zero, List.getElem?_cons_succ] at p12 p11 p12' p12''
        have a5 := (RC.of G5.out).c5
        obtain ⟨W6, hW6⟩ : ∃ W, (W5.setCell ⟨g, 4, none⟩ (.bool true)).setCell ⟨g, 5, none⟩ (.int .i64 1) = W := ⟨_, rfl⟩
        rw [hW6] at G6 S6 p12 p11
        have HE6 := Lib.hid hW6
        have G6 := Lib.hid G6
        have FA := Lib.hid (first_any g ({ t with known := ep, up := true, role := 1 } : Ses) n.port W6.drew G6.out)
        have k6 := (RC.of G6.out).c6
        have f6 := (RC.of G6.out).fz 5
        have r6 := (RC.of G6.out).c5
        simp only at k6
        rw [show ({ t with known := ep, up := true, role := 1 } : Ses).first n.port = t.first n.port from rfl] at FA
        clear hW6 P6 st6 G5 S5 P5 p2 a4
        go_wp2_with (rw [HE6.out])
        go_wp2_with fail
        go_ret2
        exact ⟨rfl, G6.out, S6.out.drew⟩
      · cases m3 : t.first n.port
        · rw [hmeet, m1, m2, m3, show (if (false || (true && false)) = true then (2 : Int) else 1) = 1 from rfl]
          clear hmeet
          go_enter Tryd.func26, Tryd.ntmps26
          go_wp2_with (rw [HE.out])
          refine (M.out _).mono ?_
          rintro e w1 ⟨rfl, rfl⟩
          go_wp2_with (refine wpList_load_row rfl 36 (.tmp 4) rfl w.heap.size rfl 36 (n.packet ep sq ak (.slice bo n.body.length bc)) (0, 0) _ P1.out Tryd.underlying36 rfl (by kernel_rfl) ?_)
          refine HL.out.mono ?_
          rintro e w2 ⟨rfl, s2⟩
          have G2 := Lib.hid (s2.blk G1.out (fun s => s.elim))
          have P2 := Lib.hid (s2.blk P1.out (fun s => s.elim))
          have S2 := Lib.hid ((S1.out.then_ s2).none (S := (· = g)))
          clear s2 HE P1 G1 S1 HL M
          have q5 := (RC.of G2.out).c3
          have q0 := blk_cell P2.out 0
          simp only [Note.packet, List.getElem?_toArray, List.getElem?_cons_zero] at q0
          go_wp2_with fail
          refine wp_region_plan (fun w' => w'.cell? ⟨w.heap.size, 0, none⟩ = some (.int .i64 ep) ∧ w'.cell? ⟨g, 3, none⟩ = some (.int .i64 s.known)) (.take 0 (.take 1 (.take 2 (.take 3 (.take 4 (.take 5 (.take 6 .done))))))) _
            (by simp only [Plan.map, opOf, List.getElem?_toArray, List.getElem?_cons_zero, List.getElem?_cons_succ, Option.getD_some]; rfl) (by kernel_rfl) (by kernel_rfl) (by kernel_rfl) (by decide) (by intro c a d v w; cases d <;> exact fun h => h) ⟨q0, q5⟩ ?_
          repeat (first | (refine wpPlan.taken (by rfl) (by intro w' hS'; (try dsimp only at hS'); go_split_ands; go_simp; try with_reducible rfl) ?_; simp only [Act.put, List.setIfInBounds_toArray, List.set_cons_zero, List.set_cons_succ]) | (refine wpPlan.passed (by rfl) ?_; simp only [Act.put, List.setIfInBounds_toArray, List.set_cons_zero, List.set_cons_succ]))
          refine wpPlan.done ?_
          have f9 := (RC.of G2.out).fz 7
          have q9 := (RC.of G2.out).c7
          have G3 : (w2.setCell ⟨g, 7, none⟩ (.int .i64 now)).heap[g]? = some (.cells ({ s with link := now } : Ses).rcells 58 (0, 0)) := blk_set G2.out 7 _
          have P3 : (w2.setCell ⟨g, 7, none⟩ (.int .i64 now)).heap[w.heap.size]? = some (.cells (n.packet ep sq ak (.slice bo n.body.length bc)) 36 (0, 0)) := (heap_setCell_other w2 _ _ _ (by simpa using NE.out)).trans P2.out
          have S3 := S2.out.setCell (p := ⟨g, 7, none⟩) (fun _ => rfl) (.int .i64 now)
          obtain ⟨W3, hW3⟩ : ∃ W, w2.setCell ⟨g, 7, none⟩ (.int .i64 now) = W := ⟨_, rfl⟩
          rw [hW3] at G3 P3 S3
          have HE3 := Lib.hid hW3
          have G3 := Lib.hid G3
          have P3 := Lib.hid P3
          have S3 := Lib.hid S3
          clear hW3 G2 P2 S2 q0 q5
          go_wp2_with (rw [HE3.out])
          clear HE3 f9 q9
          have k3 := RC.of G3.out
          have k3c := k3.c3
          have k3u := k3.c4
          have k3p := blk_cell P3.out 0
          simp only [Note.packet, List.getElem?_toArray, List.getElem?_cons_zero] at k3p
          simp only at k3c k3u
          clear k3
          refine wp_region_plan (fun w' => w'.cell? ⟨w.heap.size, 0, none⟩ = some (.int .i64 ep) ∧ w'.cell? ⟨g, 3, none⟩ = some (.int .i64 s.known) ∧ w'.cell? ⟨g, 4, none⟩ = some (.bool s.up)) (.take 0 (.take 1 (.take 2 (.take 3 (.take 4 (.take 5 (.take 6 (.take 7 (.take 8 (.take 9 (.take 10 (.take 11 (.take 12 .done))))))))))))) _
            (by simp only [Plan.map, opOf, List.getElem?_toArray, List.getElem?_cons_zero, List.getElem?_cons_succ, Option.getD_some]; rfl) (by kernel_rfl) (by kernel_rfl) (by kernel_rfl) (by decide) (by intro c a d v w; cases d <;> exact fun h => h) ⟨k3p, k3c, k3u⟩ ?_
          repeat (first | (refine wpPlan.taken (by rfl) (by intro w' hS'; (try dsimp only at hS'); go_split_ands; go_simp; try with_reducible rfl) ?_; simp only [Act.put, List.setIfInBounds_toArray, List.set_cons_zero, List.set_cons_succ]) | (refine wpPlan.passed (by rfl) ?_; simp only [Act.put, List.setIfInBounds_toArray, List.set_cons_zero, List.set_cons_succ]))
          refine wpPlan.done ?_
          have P4 := P3
          have S4 := S3
          have G4 := G3
          clear k3p k3c k3u
          rw [HT.out] at G4
          have k4 := RC.of G4.out
          have a3 := k4.c3
          have b3 := k4.fz 3
          have q0 := blk_cell P4.out 0
          simp only [Note.packet, List.getElem?_toArray, List.getElem?_cons_zero] at q0
          have G5 : ((W3.setCell ⟨g, 3, none⟩ (.int .i64 ep)).drew.drew).heap[g]? = some (.cells ({ t with known := ep } : Ses).rcells 58 (0, 0)) := blk_set G4.out 3 _
          have P5 : ((W3.setCell ⟨g, 3, none⟩ (.int .i64 ep)).drew.drew).heap[w.heap.size]? = some (.cells (n.packet ep sq ak (.slice bo n.body.length bc)) 36 (0, 0)) := ((Step.refl (· = g) W3).setCell (p := ⟨g, 3, none⟩) (fun _ => rfl) (.int .i64 ep)).drew.drew.blk P4.out (fun h => NE.out h)
          have S5 := (S4.out.setCell (p := ⟨g, 3, none⟩) (fun _ => rfl) (.int .i64 ep)).drew.drew
          obtain ⟨W5, hW5⟩ : ∃ W, (W3.setCell ⟨g, 3, none⟩ (.int .i64 ep)).drew.drew = W := ⟨_, rfl⟩
          rw [hW5] at G5 P5 S5
          have HE5 := Lib.hid hW5
          have G5 := Lib.hid G5
          have P5 := Lib.hid P5
          have S5 := Lib.hid S5
          clear k4 hW5 S4
          have k5 := RC.of G5.out
          have a4 := k5.c2
          have a6 := k5.c4
          have p2 := blk_cell P5.out 2
          simp only [Note.packet, List.getElem?_toArray, List.getElem?_cons_zero, List.getElem?_cons_succ] at p2
          simp only at a4 a6
          clear k5 G4 P4
          go_wp2_with (rw [HE5.out])
          clear HE5 a3 b3 q0
          refine wp_region_plan (fun w' => w'.cell? ⟨w.heap.size, 2, none⟩ = some (.int .i64 ak) ∧ w'.cell? ⟨g, 2, none⟩ = some (.int .i64 t.life) ∧ w'.cell? ⟨g, 4, none⟩ = some (.bool t.up)) (.take 0 (.take 1 (.take 2 (.take 3 (.take 4 (.take 5 (.take 6 (.take 7 (.take 8 (.take 9 (.take 10 (.take 11 (.take 12 (.take 13 (.take 14 (.take 15 (.take 16 (.take 17 (.take 18 (.take 19 .done)))))))))))))))))))) _
            (by simp only [Plan.map, opOf, List.getElem?_toArray, List.getElem?_cons_zero, List.getElem?_cons_succ, Option.getD_some]; rfl) (by kernel_rfl) (by kernel_rfl) (by kernel_rfl) (by decide) (by intro c a d v w; cases d <;> exact fun h => h) ⟨p2, a4, a6⟩ ?_
          repeat (first | (refine wpPlan.taken (by rfl) (by intro w' hS'; (try dsimp only at hS'); go_split_ands; go_simp; try with_reducible rfl) ?_; simp only [Act.put, List.setIfInBounds_toArray, List.set_cons_zero, List.set_cons_succ]) | (refine wpPlan.passed (by rfl) ?_; simp only [Act.put, List.setIfInBounds_toArray, List.set_cons_zero, List.set_cons_succ]))
          refine wpPlan.done ?_
          have b6 := (RC.of G5.out).fz 4
          have b5 := (RC.of G5.out).fz 5
          have G6 : ((W5.setCell ⟨g, 4, none⟩ (.bool true)).setCell ⟨g, 5, none⟩ (.int .i64 1)).heap[g]? = some (.cells ({ t with known := ep, up := true, role := 1 } : Ses).rcells 58 (0, 0)) := blk_set (blk_set G5.out 4 _) 5 _
          have st6 := ((Step.refl (· = g) W5).setCell (p := ⟨g, 4, none⟩) (fun _ => rfl) (.bool true)).setCell (p := ⟨g, 5, none⟩) (fun _ => rfl) (.int .i64 1)
          have P6 := st6.blk P5.out (fun h => NE.out h)
          have p12 := blk_cell P6 12
          have p12' := blk_cell P5.out 12
          have p12'' := blk_cell (((Step.refl (· = g) W5).setCell (p := ⟨g, 4, none⟩) (fun _ => rfl) (.bool true)).blk P5.out (fun h => NE.out h)) 12
          have p11 := blk_cell P6 11
          have S6 := Lib.hid (S5.out.then_ st6)
          simp only [Note.packet, List.getElem?_toArray, List.getElem?_cons_zero, List.getElem?_cons_succ] at p12 p11 p12' p12''
          have a5 := (RC.of G5.out).c5
          obtain ⟨W6, hW6⟩ : ∃ W, (W5.setCell ⟨g, 4, none⟩ (.bool true)).setCell ⟨g, 5, none⟩ (.int .i64 1) = W := ⟨_, rfl⟩
          rw [hW6] at G6 S6 p12 p11
          have HE6 := Lib.hid hW6
          have G6 := Lib.hid G6
          have FA := Lib.hid (first_any g ({ t with known := ep, up := true, role := 1 } : Ses) n.port W6.drew G6.out)
          have k6 := (RC.of G6.out).c6
          have f6 := (RC.of G6.out).fz 5
          have r6 := (RC.of G6.out).c5
          simp only at k6
          rw [show ({ t with known := ep, up := true, role := 1 } : Ses).first n.port = t.first n.port from rfl] at FA
          clear hW6 P6 st6 G5 S5 P5 p2 a4
          go_wp2_with (rw [HE6.out])
          rw [m3] at FA
          refine (FA.out).mono ?_
          rintro e w7 ⟨rfl, rfl⟩
          go_wp2_with fail
          go_ret2
          exact ⟨rfl, G6.out, S6.out.drew⟩
        · rw [hmeet, m1, m2, m3, show (if (false || (true && true)) = true then (2 : Int) else 1) = 2 from rfl]
          clear hmeet
          go_enter Tryd.func26, Tryd.ntmps26
          go_wp2_with (rw [HE.out])
          refine (M.out _).mono ?_
          rintro e w1 ⟨rfl, rfl⟩
          go_wp2_with (refine wpList_load_row rfl 36 (.tmp 4) rfl w.heap.size rfl 36 (n.packet ep sq ak (.slice bo n.body.length bc)) (0, 0) _ P1.out Tryd.underlying36 rfl (by kernel_rfl) ?_)
          refine HL.out.mono ?_
          rintro e w2 ⟨rfl, s2⟩
          have G2 := Lib.hid (s2.blk G1.out (fun s => s.elim))
          have P2 := Lib.hid (s2.blk P1.out (fun s => s.elim))
          have S2 := Lib.hid ((S1.out.then_ s2).none (S := (· = g)))
          clear s2 HE P1 G1 S1 HL M
          have q5 := (RC.of G2.out).c3
          have q0 := blk_cell P2.out 0
          simp only [Note.packet, List.getElem?_toArray, List.getElem?_cons_zero] at q0
          go_wp2_with fail
          refine wp_region_plan (fun w' => w'.cell? ⟨w.heap.size, 0, none⟩ = some (.int .i64 ep) ∧ w'.cell? ⟨g, 3, none⟩ = some (.int .i64 s.known)) (.take 0 (.take 1 (.take 2 (.take 3 (.take 4 (.take 5 (.take 6 .done))))))) _
            (by simp only [Plan.map, opOf, List.getElem?_toArray, List.getElem?_cons_zero, List.getElem?_cons_succ, Option.getD_some]; rfl) (by kernel_rfl) (by kernel_rfl) (by kernel_rfl) (by decide) (by intro c a d v w; cases d <;> exact fun h => h) ⟨q0, q5⟩ ?_
          repeat (first | (refine wpPlan.taken (by rfl) (by intro w' hS'; (try dsimp only at hS'); go_split_ands; go_simp; try with_reducible rfl) ?_; simp only [Act.put, List.setIfInBounds_toArray, List.set_cons_zero, List.set_cons_succ]) | (refine wpPlan.passed (by rfl) ?_; simp only [Act.put, List.setIfInBounds_toArray, List.set_cons_zero, List.set_cons_succ]))
          refine wpPlan.done ?_
          have f9 := (RC.of G2.out).fz 7
          have q9 := (RC.of G2.out).c7
          have G3 : (w2.setCell ⟨g, 7, none⟩ (.int .i64 now)).heap[g]? = some (.cells ({ s with link := now } : Ses).rcells 58 (0, 0)) := blk_set G2.out 7 _
          have P3 : (w2.setCell ⟨g, 7, none⟩ (.int .i64 now)).heap[w.heap.size]? = some (.cells (n.packet ep sq ak (.slice bo n.body.length bc)) 36 (0, 0)) := (heap_setCell_other w2 _ _ _ (by simpa using NE.out)).trans P2.out
          have S3 := S2.out.setCell (p := ⟨g, 7, none⟩) (fun _ => rfl) (.int .i64 now)
          obtain ⟨W3, hW3⟩ : ∃ W, w2.setCell ⟨g, 7, none⟩ (.int .i64 now) = W := ⟨_, rfl⟩
          rw [hW3] at G3 P3 S3
          have HE3 := Lib.hid hW3
          have G3 := Lib.hid G3
          have P3 := Lib.hid P3
          have S3 := Lib.hid S3
          clear hW3 G2 P2 S2 q0 q5
          go_wp2_with (rw [HE3.out])
          clear HE3 f9 q9
          have k3 := RC.of G3.out
          have k3c := k3.c3
          have k3u := k3.c4
          have k3p := blk_cell P3.out 0
          simp only [Note.packet, List.getElem?_toArray, List.getElem?_cons_zero] at k3p
          simp only at k3c k3u
          clear k3
          refine wp_region_plan (fun w' => w'.cell? ⟨w.heap.size, 0, none⟩ = some (.int .i64 ep) ∧ w'.cell? ⟨g, 3, none⟩ = some (.int .i64 s.known) ∧ w'.cell? ⟨g, 4, none⟩ = some (.bool s.up)) (.take 0 (.take 1 (.take 2 (.take 3 (.take 4 (.take 5 (.take 6 (.take 7 (.take 8 (.take 9 (.take 10 (.take 11 (.take 12 .done))))))))))))) _
            (by simp only [Plan.map, opOf, List.getElem?_toArray, List.getElem?_cons_zero, List.getElem?_cons_succ, Option.getD_some]; rfl) (by kernel_rfl) (by kernel_rfl) (by kernel_rfl) (by decide) (by intro c a d v w; cases d <;> exact fun h => h) ⟨k3p, k3c, k3u⟩ ?_
          repeat (first | (refine wpPlan.taken (by rfl) (by intro w' hS'; (try dsimp only at hS'); go_split_ands; go_simp; try with_reducible rfl) ?_; simp only [Act.put, List.setIfInBounds_toArray, List.set_cons_zero, List.set_cons_succ]) | (refine wpPlan.passed (by rfl) ?_; simp only [Act.put, List.setIfInBounds_toArray, List.set_cons_zero, List.set_cons_succ]))
          refine wpPlan.done ?_
          have P4 := P3
          have S4 := S3
          have G4 := G3
          clear k3p k3c k3u
          rw [HT.out] at G4
          have k4 := RC.of G4.out
          have a3 := k4.c3
          have b3 := k4.fz 3
          have q0 := blk_cell P4.out 0
          simp only [Note.packet, List.getElem?_toArray, List.getElem?_cons_zero] at q0
          have G5 : ((W3.setCell ⟨g, 3, none⟩ (.int .i64 ep)).drew.drew).heap[g]? = some (.cells ({ t with known := ep } : Ses).rcells 58 (0, 0)) := blk_set G4.out 3 _
          have P5 : ((W3.setCell ⟨g, 3, none⟩ (.int .i64 ep)).drew.drew).heap[w.heap.size]? = some (.cells (n.packet ep sq ak (.slice bo n.body.length bc)) 36 (0, 0)) := ((Step.refl (· = g) W3).setCell (p := ⟨g, 3, none⟩) (fun _ => rfl) (.int .i64 ep)).drew.drew.blk P4.out (fun h => NE.out h)
          have S5 := (S4.out.setCell (p := ⟨g, 3, none⟩) (fun _ => rfl) (.int .i64 ep)).drew.drew
          obtain ⟨W5, hW5⟩ : ∃ W, (W3.setCell ⟨g, 3, none⟩ (.int .i64 ep)).drew.drew = W := ⟨_, rfl⟩
          rw [hW5] at G5 P5 S5
          have HE5 := Lib.hid hW5
          have G5 := Lib.hid G5
          have P5 := Lib.hid P5
          have S5 := Lib.hid S5
          clear k4 hW5 S4
          have k5 := RC.of G5.out
          have a4 := k5.c2
          have a6 := k5.c4
          have p2 := blk_cell P5.out 2
          simp only [Note.packet, List.getElem?_toArray, List.getElem?_cons_zero, List.getElem?_cons_succ] at p2
          simp only at a4 a6
          clear k5 G4 P4
          go_wp2_with (rw [HE5.out])
          clear HE5 a3 b3 q0
          refine wp_region_plan (fun w' => w'.cell? ⟨w.heap.size, 2, none⟩ = some (.int .i64 ak) ∧ w'.cell? ⟨g, 2, none⟩ = some (.int .i64 t.life) ∧ w'.cell? ⟨g, 4, none⟩ = some (.bool t.up)) (.take 0 (.take 1 (.take 2 (.take 3 (.take 4 (.take 5 (.take 6 (.take 7 (.take 8 (.take 9 (.take 10 (.take 11 (.take 12 (.take 13 (.take 14 (.take 15 (.take 16 (.take 17 (.take 18 (.take 19 .done)))))))))))))))))))) _
            (by simp only [Plan.map, opOf, List.getElem?_toArray, List.getElem?_cons_zero, List.getElem?_cons_succ, Option.getD_some]; rfl) (by kernel_rfl) (by kernel_rfl) (by kernel_rfl) (by decide) (by intro c a d v w; cases d <;> exact fun h => h) ⟨p2, a4, a6⟩ ?_
          repeat (first | (refine wpPlan.taken (by rfl) (by intro w' hS'; (try dsimp only at hS'); go_split_ands; go_simp; try with_reducible rfl) ?_; simp only [Act.put, List.setIfInBounds_toArray, List.set_cons_zero, List.set_cons_succ]) | (refine wpPlan.passed (by rfl) ?_; simp only [Act.put, List.setIfInBounds_toArray, List.set_cons_zero, List.set_cons_succ]))
          refine wpPlan.done ?_
          have b6 := (RC.of G5.out).fz 4
          have b5 := (RC.of G5.out).fz 5
          have G6 : ((W5.setCell ⟨g, 4, none⟩ (.bool true)).setCell ⟨g, 5, none⟩ (.int .i64 1)).heap[g]? = some (.cells ({ t with known := ep, up := true, role := 1 } : Ses).rcells 58 (0, 0)) := blk_set (blk_set G5.out 4 _) 5 _
          have st6 := ((Step.refl (· = g) W5).setCell (p := ⟨g, 4, none⟩) (fun _ => rfl) (.bool true)).setCell (p := ⟨g, 5, none⟩) (fun _ => rfl) (.int .i64 1)
          have P6 := st6.blk P5.out (fun h => NE.out h)
          have p12 := blk_cell P6 12
          have p12' := blk_cell P5.out 12
          have p12'' := blk_cell (((Step.refl (· = g) W5).setCell (p := ⟨g, 4, none⟩) (fun _ => rfl) (.bool true)).blk P5.out (fun h => NE.out h)) 12
          have p11 := blk_cell P6 11
          have S6 := Lib.hid (S5.out.then_ st6)
          simp only [Note.packet, List.getElem?_toArray, List.getElem?_cons_zero, List.getElem?_cons_succ] at p12 p11 p12' p12''
          have a5 := (RC.of G5.out).c5
          obtain ⟨W6, hW6⟩ : ∃ W, (W5.setCell ⟨g, 4, none⟩ (.bool true)).setCell ⟨g, 5, none⟩ (.int .i64 1) = W := ⟨_, rfl⟩
          rw [hW6] at G6 S6 p12 p11
          have HE6 := Lib.hid hW6
          have G6 := Lib.hid G6
          have FA := Lib.hid (first_any g ({ t with known := ep, up := true, role := 1 } : Ses) n.port W6.drew G6.out)
          have k6 := (RC.of G6.out).c6
          have f6 := (RC.of G6.out).fz 5
          have r6 := (RC.of G6.out).c5
          simp only at k6
          rw [show ({ t with known := ep, up := true, role := 1 } : Ses).first n.port = t.first n.port from rfl] at FA
          clear hW6 P6 st6 G5 S5 P5 p2 a4
          go_wp2_with (rw [HE6.out])
          rw [m3] at FA
          refine (FA.out).mono ?_
          rintro e w7 ⟨rfl, rfl⟩
          go_wp2_with fail
          go_ret2
          exact ⟨rfl, by show (W6.setCell ⟨g, 5, none⟩ (.int .i64 2)).heap[g]? = _; rw [blk_set G6.out 5 _]; rfl, (S6.out.setCell (p := ⟨g, 5, none⟩) (fun _ => rfl) _).drew⟩
    · rw [hmeet, m1, show (if (true || (t.claim == n.state && t.first n.port)) = true then (2 : Int) else 1) = 2 from rfl]
      clear hmeet
      go_enter Tryd.func26, Tryd.ntmps26
      go_wp2_with (rw [HE.out])
      refine (M.out _).mono ?_
      rintro e w1 ⟨rfl, rfl⟩
      go_wp2_with (refine wpList_load_row rfl 36 (.tmp 4) rfl w.heap.size rfl 36 (n.packet ep sq ak (.slice bo n.body.length bc)) (0, 0) _ P1.out Tryd.underlying36 rfl (by kernel_rfl) ?_)
      refine HL.out.mono ?_
      rintro e w2 ⟨rfl, s2⟩
      have G2 := Lib.hid (s2.blk G1.out (fun s => s.elim))
      have P2 := Lib.hid (s2.blk P1.out (fun s => s.elim))
      have S2 := Lib.hid ((S1.out.then_ s2).none (S := (· = g)))
      clear s2 HE P1 G1 S1 HL M
      have q5 := (RC.of G2.out).c3
      have q0 := blk_cell P2.out 0
      simp only [Note.packet, List.getElem?_toArray, List.getElem?_cons_zero] at q0
      go_wp2_with fail
      refine wp_region_plan (fun w' => w'.cell? ⟨w.heap.size, 0, none⟩ = some (.int .i64 ep) ∧ w'.cell? ⟨g, 3, none⟩ = some (.int .i64 s.known)) (.take 0 (.take 1 (.take 2 (.take 3 (.take 4 (.take 5 (.take 6 .done))))))) _
        (by simp only [Plan.map, opOf, List.getElem?_toArray, List.getElem?_cons_zero, List.getElem?_cons_succ, Option.getD_some]; rfl) (by kernel_rfl) (by kernel_rfl) (by kernel_rfl) (by decide) (by intro c a d v w; cases d <;> exact fun h => h) ⟨q0, q5⟩ ?_
      repeat (first | (refine wpPlan.taken (by rfl) (by intro w' hS'; (try dsimp only at hS'); go_split_ands; go_simp; try with_reducible rfl) ?_; simp only [Act.put, List.setIfInBounds_toArray, List.set_cons_zero, List.set_cons_succ]) | (refine wpPlan.passed (by rfl) ?_; simp only [Act.put, List.setIfInBounds_toArray, List.set_cons_zero, List.set_cons_succ]))
      refine wpPlan.done ?_
      have f9 := (RC.of G2.out).fz 7
      have q9 := (RC.of G2.out).c7
      have G3 : (w2.setCell ⟨g, 7, none⟩ (.int .i64 now)).heap[g]? = some (.cells ({ s with link := now } : Ses).rcells 58 (0, 0)) := blk_set G2.out 7 _
      have P3 : (w2.setCell ⟨g, 7, none⟩ (.int .i64 now)).heap[w.heap.size]? = some (.cells (n.packet ep sq ak (.slice bo n.body.length bc)) 36 (0, 0)) := (heap_setCell_other w2 _ _ _ (by simpa using NE.out)).trans P2.out
      have S3 := S2.out.setCell (p := ⟨g, 7, none⟩) (fun _ => rfl) (.int .i64 now)
      obtain ⟨W3, hW3⟩ : ∃ W, w2.setCell ⟨g, 7, none⟩ (.int .i64 now) = W := ⟨_, rfl⟩
      rw [hW3] at G3 P3 S3
      have HE3 := Lib.hid hW3
      have G3 := Lib.hid G3
      have P3 := Lib.hid P3
      have S3 := Lib.hid S3
      clear hW3 G2 P2 S2 q0 q5
      go_wp2_with (rw [HE3.out])
      clear HE3 f9 q9
      have k3 := RC.of G3.out
      have k3c := k3.c3
      have k3u := k3.c4
      have k3p := blk_cell P3.out 0
      simp only [Note.packet, List.getElem?_toArray, List.getElem?_cons_zero] at k3p
      simp only at k3c k3u
      clear k3
      refine wp_region_plan (fun w' => w'.cell? ⟨w.heap.size, 0, none⟩ = some (.int .i64 ep) ∧ w'.cell? ⟨g, 3, none⟩ = some (.int .i64 s.known) ∧ w'.cell? ⟨g, 4, none⟩ = some (.bool s.up)) (.take 0 (.take 1 (.take 2 (.take 3 (.take 4 (.take 5 (.take 6 (.take 7 (.take 8 (.take 9 (.take 10 (.take 11 (.take 12 .done))))))))))))) _
        (by simp only [Plan.map, opOf, List.getElem?_toArray, List.getElem?_cons_zero, List.getElem?_cons_succ, Option.getD_some]; rfl) (by kernel_rfl) (by kernel_rfl) (by kernel_rfl) (by decide) (by intro c a d v w; cases d <;> exact fun h => h) ⟨k3p, k3c, k3u⟩ ?_
      repeat (first | (refine wpPlan.taken (by rfl) (by intro w' hS'; (try dsimp only at hS'); go_split_ands; go_simp; try with_reducible rfl) ?_; simp only [Act.put, List.setIfInBounds_toArray, List.set_cons_zero, List.set_cons_succ]) | (refine wpPlan.passed (by rfl) ?_; simp only [Act.put, List.setIfInBounds_toArray, List.set_cons_zero, List.set_cons_succ]))
      refine wpPlan.done ?_
      have P4 := P3
      have S4 := S3
      have G4 := G3
      clear k3p k3c k3u
      rw [HT.out] at G4
      have k4 := RC.of G4.out
      have a3 := k4.c3
      have b3 := k4.fz 3
      have q0 := blk_cell P4.out 0
      simp only [Note.packet, List.getElem?_toArray, List.getElem?_cons_zero] at q0
      have G5 : ((W3.setCell ⟨g, 3, none⟩ (.int .i64 ep)).drew.drew).heap[g]? = some (.cells ({ t with known := ep } : Ses).rcells 58 (0, 0)) := blk_set G4.out 3 _
      have P5 : ((W3.setCell ⟨g, 3, none⟩ (.int .i64 ep)).drew.drew).heap[w.heap.size]? = some (.cells (n.packet ep sq ak (.slice bo n.body.length bc)) 36 (0, 0)) := ((Step.refl (· = g) W3).setCell (p := ⟨g, 3, none⟩) (fun _ => rfl) (.int .i64 ep)).drew.drew.blk P4.out (fun h => NE.out h)
      have S5 := (S4.out.setCell (p := ⟨g, 3, none⟩) (fun _ => rfl) (.int .i64 ep)).drew.drew
      obtain ⟨W5, hW5⟩ : ∃ W, (W3.setCell ⟨g, 3, none⟩ (.int .i64 ep)).drew.drew = W := ⟨_, rfl⟩
      rw [hW5] at G5 P5 S5
      have HE5 := Lib.hid hW5
      have G5 := Lib.hid G5
      have P5 := Lib.hid P5
      have S5 := Lib.hid S5
      clear k4 hW5 S4
      have k5 := RC.of G5.out
      have a4 := k5.c2
      have a6 := k5.c4
      have p2 := blk_cell P5.out 2
      simp only [Note.packet, List.getElem?_toArray, List.getElem?_cons_zero, List.getElem?_cons_succ] at p2
      simp only at a4 a6
      clear k5 G4 P4
      go_wp2_with (rw [HE5.out])
      clear HE5 a3 b3 q0
      refine wp_region_plan (fun w' => w'.cell? ⟨w.heap.size, 2, none⟩ = some (.int .i64 ak) ∧ w'.cell? ⟨g, 2, none⟩ = some (.int .i64 t.life) ∧ w'.cell? ⟨g, 4, none⟩ = some (.bool t.up)) (.take 0 (.take 1 (.take 2 (.take 3 (.take 4 (.take 5 (.take 6 (.take 7 (.take 8 (.take 9 (.take 10 (.take 11 (.take 12 (.take 13 (.take 14 (.take 15 (.take 16 (.take 17 (.take 18 (.take 19 .done)))))))))))))))))))) _
        (by simp only [Plan.map, opOf, List.getElem?_toArray, List.getElem?_cons_zero, List.getElem?_cons_succ, Option.getD_some]; rfl) (by kernel_rfl) (by kernel_rfl) (by kernel_rfl) (by decide) (by intro c a d v w; cases d <;> exact fun h => h) ⟨p2, a4, a6⟩ ?_
      repeat (first | (refine wpPlan.taken (by rfl) (by intro w' hS'; (try dsimp only at hS'); go_split_ands; go_simp; try with_reducible rfl) ?_; simp only [Act.put, List.setIfInBounds_toArray, List.set_cons_zero, List.set_cons_succ]) | (refine wpPlan.passed (by rfl) ?_; simp only [Act.put, List.setIfInBounds_toArray, List.set_cons_zero, List.set_cons_succ]))
      refine wpPlan.done ?_
      have b6 := (RC.of G5.out).fz 4
      have b5 := (RC.of G5.out).fz 5
      have G6 : ((W5.setCell ⟨g, 4, none⟩ (.bool true)).setCell ⟨g, 5, none⟩ (.int .i64 1)).heap[g]? = some (.cells ({ t with known := ep, up := true, role := 1 } : Ses).rcells 58 (0, 0)) := blk_set (blk_set G5.out 4 _) 5 _
      have st6 := ((Step.refl (· = g) W5).setCell (p := ⟨g, 4, none⟩) (fun _ => rfl) (.bool true)).setCell (p := ⟨g, 5, none⟩) (fun _ => rfl) (.int .i64 1)
      have P6 := st6.blk P5.out (fun h => NE.out h)
      have p12 := blk_cell P6 12
      have p12' := blk_cell P5.out 12
      have p12'' := blk_cell (((Step.refl (· = g) W5).setCell (p := ⟨g, 4, none⟩) (fun _ => rfl) (.bool true)).blk P5.out (fun h => NE.out h)) 12
      have p11 := blk_cell P6 11
      have S6 := Lib.hid (S5.out.then_ st6)
      simp only [Note.packet, List.getElem?_toArray, List.getElem?_cons_zero, List.getElem?_cons_succ] at p12 p11 p12' p12''
      have a5 := (RC.of G5.out).c5
      obtain ⟨W6, hW6⟩ : ∃ W, (W5.setCell ⟨g, 4, none⟩ (.bool true)).setCell ⟨g, 5, none⟩ (.int .i64 1) = W := ⟨_, rfl⟩
      rw [hW6] at G6 S6 p12 p11
      have HE6 := Lib.hid hW6
      have G6 := Lib.hid G6
      have FA := Lib.hid (first_any g ({ t with known := ep, up := true, role := 1 } : Ses) n.port W6.drew G6.out)
      have k6 := (RC.of G6.out).c6
      have f6 := (RC.of G6.out).fz 5
      have r6 := (RC.of G6.out).c5
      simp only at k6
      rw [show ({ t with known := ep, up := true, role := 1 } : Ses).first n.port = t.first n.port from rfl] at FA
      clear hW6 P6 st6 G5 S5 P5 p2 a4
      go_wp2_with (rw [HE6.out])
      go_wp2_with fail
      go_ret2
      exact ⟨rfl, by show (W6.setCell ⟨g, 5, none⟩ (.int .i64 2)).heap[g]? = _; rw [blk_set G6.out 5 _]; rfl, (S6.out.setCell (p := ⟨g, 5, none⟩) (fun _ => rfl) _).drew⟩
  cases hu : s.up
  · obtain ⟨t, ht⟩ : ∃ t, ({ s with link := now } : Ses) = t := ⟨_, rfl⟩
    have HT := Lib.hid ht
    have hh : s.heard ep now = { t with known := ep } := by have hc : (decide (s.known < ep) && s.up) = false := (by rw [d2, hu]; rfl); rw [hd, hc, ← ht]; rfl
    clear ht hd
    cases e1 : (ak != t.life)
    rotate_left
    · have e1' : ¬ ak = t.life := by simpa [bne] using e1
      rw [show s.take true ep ak n.port n.state now = (false, 0, { t with known := ep }) by simp [Ses.take, hm, d1', hh, e1']]
      clear hh e1'
      go_enter Tryd.func26, Tryd.ntmps26
      go_wp2_with (rw [HE.out])
      refine (M.out _).mono ?_
      rintro e w1 ⟨rfl, rfl⟩
      go_wp2_with (refine wpList_load_row rfl 36 (.tmp 4) rfl w.heap.size rfl 36 (n.packet ep sq ak (.slice bo n.body.length bc)) (0, 0) _ P1.out Tryd.underlying36 rfl (by kernel_rfl) ?_)
      refine HL.out.mono ?_
      rintro e w2 ⟨rfl, s2⟩
      have G2 := Lib.hid (s2.blk G1.out (fun s => s.elim))
      have P2 := Lib.hid (s2.blk P1.out (fun s => s.elim))
      have S2 := Lib.hid ((S1.out.then_ s2).none (S := (· = g)))
      clear s2 HE P1 G1 S1 HL M
      have q5 := (RC.of G2.out).c3
      have q0 := blk_cell P2.out 0
      simp only [Note.packet, List.getElem?_toArray, List.getElem?_cons_zero] at q0
      go_wp2_with fail
      refine wp_region_plan (fun w' => w'.cell? ⟨w.heap.size, 0, none⟩ = some (.int .i64 ep) ∧ w'.cell? ⟨g, 3, none⟩ = some (.int .i64 s.known)) (.take 0 (.take 1 (.take 2 (.take 3 (.take 4 (.take 5 (.take 6 .done))))))) _
        (by simp only [Plan.map, opOf, List.getElem?_toArray, List.getElem?_cons_zero, List.getElem?_cons_succ, Option.getD_some]; rfl) (by kernel_rfl) (by kernel_rfl) (by kernel_rfl) (by decide) (by intro c a d v w; cases d <;> exact fun h => h) ⟨q0, q5⟩ ?_
      repeat (first | (refine wpPlan.taken (by rfl) (by intro w' hS'; (try dsimp only at hS'); go_split_ands; go_simp; try with_reducible rfl) ?_; simp only [Act.put, List.setIfInBounds_toArray, List.set_cons_zero, List.set_cons_succ]) | (refine wpPlan.passed (by rfl) ?_; simp only [Act.put, List.setIfInBounds_toArray, List.set_cons_zero, List.set_cons_succ]))
      refine wpPlan.done ?_
      have f9 := (RC.of G2.out).fz 7
      have q9 := (RC.of G2.out).c7
      have G3 : (w2.setCell ⟨g, 7, none⟩ (.int .i64 now)).heap[g]? = some (.cells ({ s with link := now } : Ses).rcells 58 (0, 0)) := blk_set G2.out 7 _
      have P3 : (w2.setCell ⟨g, 7, none⟩ (.int .i64 now)).heap[w.heap.size]? = some (.cells (n.packet ep sq ak (.slice bo n.body.length bc)) 36 (0, 0)) := (heap_setCell_other w2 _ _ _ (by simpa using NE.out)).trans P2.out
      have S3 := S2.out.setCell (p := ⟨g, 7, none⟩) (fun _ => rfl) (.int .i64 now)
      obtain ⟨W3, hW3⟩ : ∃ W, w2.setCell ⟨g, 7, none⟩ (.int .i64 now) = W := ⟨_, rfl⟩
      rw [hW3] at G3 P3 S3
      have HE3 := Lib.hid hW3
      have G3 := Lib.hid G3
      have P3 := Lib.hid P3
      have S3 := Lib.hid S3
      clear hW3 G2 P2 S2 q0 q5
      go_wp2_with (rw [HE3.out])
      clear HE3 f9 q9
      have k3 := RC.of G3.out
      have k3c := k3.c3
      have k3u := k3.c4
      have k3p := blk_cell P3.out 0
      simp only [Note.packet, List.getElem?_toArray, List.getElem?_cons_zero] at k3p
      simp only at k3c k3u
      clear k3
      refine wp_region_plan (fun w' => w'.cell? ⟨w.heap.size, 0, none⟩ = some (.int .i64 ep) ∧ w'.cell? ⟨g, 3, none⟩ = some (.int .i64 s.known) ∧ w'.cell? ⟨g, 4, none⟩ = some (.bool s.up)) (.take 0 (.take 1 (.take 2 (.take 3 (.take 4 (.take 5 (.take 6 (.take 7 (.take 8 (.take 9 (.take 10 (.take 11 (.take 12 .done))))))))))))) _
        (by simp only [Plan.map, opOf, List.getElem?_toArray, List.getElem?_cons_zero, List.getElem?_cons_succ, Option.getD_some]; rfl) (by kernel_rfl) (by kernel_rfl) (by kernel_rfl) (by decide) (by intro c a d v w; cases d <;> exact fun h => h) ⟨k3p, k3c, k3u⟩ ?_
      repeat (first | (refine wpPlan.taken (by rfl) (by intro w' hS'; (try dsimp only at hS'); go_split_ands; go_simp; try with_reducible rfl) ?_; simp only [Act.put, List.setIfInBounds_toArray, List.set_cons_zero, List.set_cons_succ]) | (refine wpPlan.passed (by rfl) ?_; simp only [Act.put, List.setIfInBounds_toArray, List.set_cons_zero, List.set_cons_succ]))
      refine wpPlan.done ?_
      have P4 := P3
      have S4 := S3
      have G4 := G3
      clear k3p k3c k3u
      rw [HT.out] at G4
      have k4 := RC.of G4.out
      have a3 := k4.c3
      have b3 := k4.fz 3
      have q0 := blk_cell P4.out 0
      simp only [Note.packet, List.getElem?_toArray, List.getElem?_cons_zero] at q0
      have G5 : ((W3.setCell ⟨g, 3, none⟩ (.int .i64 ep)).drew.drew).heap[g]? = some (.cells ({ t with known := ep } : Ses).rcells 58 (0, 0)) := blk_set G4.out 3 _
      have P5 : ((W3.setCell ⟨g, 3, none⟩ (.int .i64 ep)).drew.drew).heap[w.heap.size]? = some (.cells (n.packet ep sq ak (.slice bo n.body.length bc)) 36 (0, 0)) := ((Step.refl (· = g) W3).setCell (p := ⟨g, 3, none⟩) (fun _ => rfl) (.int .i64 ep)).drew.drew.blk P4.out (fun h => NE.out h)
      have S5 := (S4.out.setCell (p := ⟨g, 3, none⟩) (fun _ => rfl) (.int .i64 ep)).drew.drew
      obtain ⟨W5, hW5⟩ : ∃ W, (W3.setCell ⟨g, 3, none⟩ (.int .i64 ep)).drew.drew = W := ⟨_, rfl⟩
      rw [hW5] at G5 P5 S5
      have HE5 := Lib.hid hW5
      have G5 := Lib.hid G5
      have P5 := Lib.hid P5
      have S5 := Lib.hid S5
      clear k4 hW5 S4
      have k5 := RC.of G5.out
      have a4 := k5.c2
      have a6 := k5.c4
      have p2 := blk_cell P5.out 2
      simp only [Note.packet, List.getElem?_toArray, List.getElem?_cons_zero, List.getElem?_cons_succ] at p2
      simp only at a4 a6
      clear k5 G4 P4
      go_wp2_with (rw [HE5.out])
      clear HE5 a3 b3 q0
      refine wp_region_plan (fun w' => w'.cell? ⟨w.heap.size, 2, none⟩ = some (.int .i64 ak) ∧ w'.cell? ⟨g, 2, none⟩ = some (.int .i64 t.life) ∧ w'.cell? ⟨g, 4, none⟩ = some (.bool t.up)) (.take 0 (.take 1 (.take 2 (.take 3 (.take 4 (.take 5 (.take 6 (.take 7 (.take 8 (.take 9 (.take 10 (.take 11 (.take 12 (.take 13 (.take 14 (.take 15 (.take 16 (.take 17 (.take 18 (.take 19 .done)))))))))))))))))))) _
        (by simp only [Plan.map, opOf, List.getElem?_toArray, List.getElem?_cons_zero, List.getElem?_cons_succ, Option.getD_some]; rfl) (by kernel_rfl) (by kernel_rfl) (by kernel_rfl) (by decide) (by intro c a d v w; cases d <;> exact fun h => h) ⟨p2, a4, a6⟩ ?_
      repeat (first | (refine wpPlan.taken (by rfl) (by intro w' hS'; (try dsimp only at hS'); go_split_ands; go_simp; try with_reducible rfl) ?_; simp only [Act.put, List.setIfInBounds_toArray, List.set_cons_zero, List.set_cons_succ]) | (refine wpPlan.passed (by rfl) ?_; simp only [Act.put, List.setIfInBounds_toArray, List.set_cons_zero, List.set_cons_succ]))
      refine wpPlan.done ?_
      go_wp2_with fail
      go_ret2
      exact ⟨rfl, G5.out, S5.out.drew⟩
    have e1' : ak = t.life := by simpa [bne] using e1
    cases e2 : t.up
    rotate_left
    · rw [show s.take true ep ak n.port n.state now = (false, 0, { t with known := ep }) by simp [Ses.take, hm, d1', hh, e2]]
      clear hh e1'
      go_enter Tryd.func26, Tryd.ntmps26
      go_wp2_with (rw [HE.out])
      refine (M.out _).mono ?_
      rintro e w1 ⟨rfl, rfl⟩
      go_wp2_with (refine wpList_load_row rfl 36 (.tmp 4) rfl w.heap.size rfl 36 (n.packet ep sq ak (.slice bo n.body.length bc)) (0, 0) _ P1.out Tryd.underlying36 rfl (by kernel_rfl) ?_)
      refine HL.out.mono ?_
      rintro e w2 ⟨rfl, s2⟩
      have G2 := Lib.hid (s2.blk G1.out (fun s => s.elim))
      have P2 := Lib.hid (s2.blk P1.out (fun s => s.elim))
      have S2 := Lib.hid ((S1.out.then_ s2).none (S := (· = g)))
      clear s2 HE P1 G1 S1 HL M
      have q5 := (RC.of G2.out).c3
      have q0 := blk_cell P2.out 0
      simp only [Note.packet, List.getElem?_toArray, List.getElem?_cons_zero] at q0
      go_wp2_with fail
      refine wp_region_plan (fun w' => w'.cell? ⟨w.heap.size, 0, none⟩ = some (.int .i64 ep) ∧ w'.cell? ⟨g, 3, none⟩ = some (.int .i64 s.known)) (.take 0 (.take 1 (.take 2 (.take 3 (.take 4 (.take 5 (.take 6 .done))))))) _
        (by simp only [Plan.map, opOf, List.getElem?_toArray, List.getElem?_cons_zero, List.getElem?_cons_succ, Option.getD_some]; rfl) (by kernel_rfl) (by kernel_rfl) (by kernel_rfl) (by decide) (by intro c a d v w; cases d <;> exact fun h => h) ⟨q0, q5⟩ ?_
      repeat (first | (refine wpPlan.taken (by rfl) (by intro w' hS'; (try dsimp only at hS'); go_split_ands; go_simp; try with_reducible rfl) ?_; simp only [Act.put, List.setIfInBounds_toArray, List.set_cons_zero, List.set_cons_succ]) | (refine wpPlan.passed (by rfl) ?_; simp only [Act.put, List.setIfInBounds_toArray, List.set_cons_zero, List.set_cons_succ]))
      refine wpPlan.done ?_
      have f9 := (RC.of G2.out).fz 7
      have q9 := (RC.of G2.out).c7
      have G3 : (w2.setCell ⟨g, 7, none⟩ (.int .i64 now)).heap[g]? = some (.cells ({ s with link := now } : Ses).rcells 58 (0, 0)) := blk_set G2.out 7 _
      have P3 : (w2.setCell ⟨g, 7, none⟩ (.int .i64 now)).heap[w.heap.size]? = some (.cells (n.packet ep sq ak (.slice bo n.body.length bc)) 36 (0, 0)) := (heap_setCell_other w2 _ _ _ (by simpa using NE.out)).trans P2.out
      have S3 := S2.out.setCell (p := ⟨g, 7, none⟩) (fun _ => rfl) (.int .i64 now)
      obtain ⟨W3, hW3⟩ : ∃ W, w2.setCell ⟨g, 7, none⟩ (.int .i64 now) = W := ⟨_, rfl⟩
      rw [hW3] at G3 P3 S3
      have HE3 := Lib.hid hW3
      have G3 := Lib.hid G3
      have P3 := Lib.hid P3
      have S3 := Lib.hid S3
      clear hW3 G2 P2 S2 q0 q5
      go_wp2_with (rw [HE3.out])
      clear HE3 f9 q9
      have k3 := RC.of G3.out
      have k3c := k3.c3
      have k3u := k3.c4
      have k3p := blk_cell P3.out 0
      simp only [Note.packet, List.getElem?_toArray, List.getElem?_cons_zero] at k3p
      simp only at k3c k3u
      clear k3
      refine wp_region_plan (fun w' => w'.cell? ⟨w.heap.size, 0, none⟩ = some (.int .i64 ep) ∧ w'.cell? ⟨g, 3, none⟩ = some (.int .i64 s.known) ∧ w'.cell? ⟨g, 4, none⟩ = some (.bool s.up)) (.take 0 (.take 1 (.take 2 (.take 3 (.take 4 (.take 5 (.take 6 (.take 7 (.take 8 (.take 9 (.take 10 (.take 11 (.take 12 .done))))))))))))) _
        (by simp only [Plan.map, opOf, List.getElem?_toArray, List.getElem?_cons_zero, List.getElem?_cons_succ, Option.getD_some]; rfl) (by kernel_rfl) (by kernel_rfl) (by kernel_rfl) (by decide) (by intro c a d v w; cases d <;> exact fun h => h) ⟨k3p, k3c, k3u⟩ ?_
      repeat (first | (refine wpPlan.taken (by rfl) (by intro w' hS'; (try dsimp only at hS'); go_split_ands; go_simp; try with_reducible rfl) ?_; simp only [Act.put, List.setIfInBounds_toArray, List.set_cons_zero, List.set_cons_succ]) | (refine wpPlan.passed (by rfl) ?_; simp only [Act.put, List.setIfInBounds_toArray, List.set_cons_zero, List.set_cons_succ]))
      refine wpPlan.done ?_
      have P4 := P3
      have S4 := S3
      have G4 := G3
      clear k3p k3c k3u
      rw [HT.out] at G4
      have k4 := RC.of G4.out
      have a3 := k4.c3
      have b3 := k4.fz 3
      have q0 := blk_cell P4.out 0
      simp only [Note.packet, List.getElem?_toArray, List.getElem?_cons_zero] at q0
      have G5 : ((W3.setCell ⟨g, 3, none⟩ (.int .i64 ep)).drew.drew).heap[g]? = some (.cells ({ t with known := ep } : Ses).rcells 58 (0, 0)) := blk_set G4.out 3 _
      have P5 : ((W3.setCell ⟨g, 3, none⟩ (.int .i64 ep)).drew.drew).heap[w.heap.size]? = some (.cells (n.packet ep sq ak (.slice bo n.body.length bc)) 36 (0, 0)) := ((Step.refl (· = g) W3).setCell (p := ⟨g, 3, none⟩) (fun _ => rfl) (.int .i64 ep)).drew.drew.blk P4.out (fun h => NE.out h)
      have S5 := (S4.out.setCell (p := ⟨g, 3, none⟩) (fun _ => rfl) (.int .i64 ep)).drew.drew
      obtain ⟨W5, hW5⟩ : ∃ W, (W3.setCell ⟨g, 3, none⟩ (.int .i64 ep)).drew.drew = W := ⟨_, rfl⟩
      rw [hW5] at G5 P5 S5
      have HE5 := Lib.hid hW5
      have G5 := Lib.hid G5
      have P5 := Lib.hid P5
      have S5 := Lib.hid S5
      clear k4 hW5 S4
      have k5 := RC.of G5.out
      have a4 := k5.c2
      have a6 := k5.c4
      have p2 := blk_cell P5.out 2
      simp only [Note.packet, List.getElem?_toArray, List.getElem?_cons_zero, List.getElem?_cons_succ] at p2
      simp only at a4 a6
      clear k5 G4 P4
      go_wp2_with (rw [HE5.out])
      clear HE5 a3 b3 q0
      refine wp_region_plan (fun w' => w'.cell? ⟨w.heap.size, 2, none⟩ = some (.int .i64 ak) ∧ w'.cell? ⟨g, 2, none⟩ = some (.int .i64 t.life) ∧ w'.cell? ⟨g, 4, none⟩ = some (.bool t.up)) (.take 0 (.take 1 (.take 2 (.take 3 (.take 4 (.take 5 (.take 6 (.take 7 (.take 8 (.take 9 (.take 10 (.take 11 (.take 12 (.take 13 (.take 14 (.take 15 (.take 16 (.take 17 (.take 18 (.take 19 .done)))))))))))))))))))) _
        (by simp only [Plan.map, opOf, List.getElem?_toArray, List.getElem?_cons_zero, List.getElem?_cons_succ, Option.getD_some]; rfl) (by kernel_rfl) (by kernel_rfl) (by kernel_rfl) (by decide) (by intro c a d v w; cases d <;> exact fun h => h) ⟨p2, a4, a6⟩ ?_
      repeat (first | (refine wpPlan.taken (by rfl) (by intro w' hS'; (try dsimp only at hS'); go_split_ands; go_simp; try with_reducible rfl) ?_; simp only [Act.put, List.setIfInBounds_toArray, List.set_cons_zero, List.set_cons_succ]) | (refine wpPlan.passed (by rfl) ?_; simp only [Act.put, List.setIfInBounds_toArray, List.set_cons_zero, List.set_cons_succ]))
      refine wpPlan.done ?_
      go_wp2_with fail
      go_ret2
      exact ⟨rfl, G5.out, S5.out.drew⟩
    cases e3 : (t.life == 536870912)
    rotate_left
    · have e3' : t.life = 536870912 := by simpa using e3
      rw [show s.take true ep ak n.port n.state now = (false, 0, { t with known := ep }) by simp [Ses.take, hm, d1', hh, e3']]
      clear hh e1' e3'
      go_enter Tryd.func26, Tryd.ntmps26
      go_wp2_with (rw [HE.out])
      refine (M.out _).mono ?_
      rintro e w1 ⟨rfl, rfl⟩
      go_wp2_with (refine wpList_load_row rfl 36 (.tmp 4) rfl w.heap.size rfl 36 (n.packet ep sq ak (.slice bo n.body.length bc)) (0, 0) _ P1.out Tryd.underlying36 rfl (by kernel_rfl) ?_)
      refine HL.out.mono ?_
      rintro e w2 ⟨rfl, s2⟩
      have G2 := Lib.hid (s2.blk G1.out (fun s => s.elim))
      have P2 := Lib.hid (s2.blk P1.out (fun s => s.elim))
      have S2 := Lib.hid ((S1.out.then_ s2).none (S := (· = g)))
      clear s2 HE P1 G1 S1 HL M
      have q5 := (RC.of G2.out).c3
      have q0 := blk_cell P2.out 0
      simp only [Note.packet, List.getElem?_toArray, List.getElem?_cons_zero] at q0
      go_wp2_with fail
      refine wp_region_plan (fun w' => w'.cell? ⟨w.heap.size, 0, none⟩ = some (.int .i64 ep) ∧ w'.cell? ⟨g, 3, none⟩ = some (.int .i64 s.known)) (.take 0 (.take 1 (.take 2 (.take 3 (.take 4 (.take 5 (.take 6 .done))))))) _
        (by simp only [Plan.map, opOf, List.getElem?_toArray, List.getElem?_cons_zero, List.getElem?_cons_succ, Option.getD_some]; rfl) (by kernel_rfl) (by kernel_rfl) (by kernel_rfl) (by decide) (by intro c a d v w; cases d <;> exact fun h => h) ⟨q0, q5⟩ ?_
      repeat (first | (refine wpPlan.taken (by rfl) (by intro w' hS'; (try dsimp only at hS'); go_split_ands; go_simp; try with_reducible rfl) ?_; simp only [Act.put, List.setIfInBounds_toArray, List.set_cons_zero, List.set_cons_succ]) | (refine wpPlan.passed (by rfl) ?_; simp only [Act.put, List.setIfInBounds_toArray, List.set_cons_zero, List.set_cons_succ]))
      refine wpPlan.done ?_
      have f9 := (RC.of G2.out).fz 7
      have q9 := (RC.of G2.out).c7
      have G3 : (w2.setCell ⟨g, 7, none⟩ (.int .i64 now)).heap[g]? = some (.cells ({ s with link := now } : Ses).rcells 58 (0, 0)) := blk_set G2.out 7 _
      have P3 : (w2.setCell ⟨g, 7, none⟩ (.int .i64 now)).heap[w.heap.size]? = some (.cells (n.packet ep sq ak (.slice bo n.body.length bc)) 36 (0, 0)) := (heap_setCell_other w2 _ _ _ (by simpa using NE.out)).trans P2.out
      have S3 := S2.out.setCell (p := ⟨g, 7, none⟩) (fun _ => rfl) (.int .i64 now)
      obtain ⟨W3, hW3⟩ : ∃ W, w2.setCell ⟨g, 7, none⟩ (.int .i64 now) = W := ⟨_, rfl⟩
      rw [hW3] at G3 P3 S3
      have HE3 := Lib.hid hW3
      have G3 := Lib.hid G3
      have P3 := Lib.hid P3
      have S3 := Lib.hid S3
      clear hW3 G2 P2 S2 q0 q5
      go_wp2_with (rw [HE3.out])
      clear HE3 f9 q9
      have k3 := RC.of G3.out
      have k3c := k3.c3
      have k3u := k3.c4
      have k3p := blk_cell P3.out 0
      simp only [Note.packet, List.getElem?_toArray, List.getElem?_cons_zero] at k3p
      simp only at k3c k3u
      clear k3
      refine wp_region_plan (fun w' => w'.cell? ⟨w.heap.size, 0, none⟩ = some (.int .i64 ep) ∧ w'.cell? ⟨g, 3, none⟩ = some (.int .i64 s.known) ∧ w'.cell? ⟨g, 4, none⟩ = some (.bool s.up)) (.take 0 (.take 1 (.take 2 (.take 3 (.take 4 (.take 5 (.take 6 (.take 7 (.take 8 (.take 9 (.take 10 (.take 11 (.take 12 .done))))))))))))) _
        (by simp only [Plan.map, opOf, List.getElem?_toArray, List.getElem?_cons_zero, List.getElem?_cons_succ, Option.getD_some]; rfl) (by kernel_rfl) (by kernel_rfl) (by kernel_rfl) (by decide) (by intro c a d v w; cases d <;> exact fun h => h) ⟨k3p, k3c, k3u⟩ ?_
      repeat (first | (refine wpPlan.taken (by rfl) (by intro w' hS'; (try dsimp only at hS'); go_split_ands; go_simp; try with_reducible rfl) ?_; simp only [Act.put, List.setIfInBounds_toArray, List.set_cons_zero, List.set_cons_succ]) | (refine wpPlan.passed (by rfl) ?_; simp only [Act.put, List.setIfInBounds_toArray, List.set_cons_zero, List.set_cons_succ]))
      refine wpPlan.done ?_
      have P4 := P3
      have S4 := S3
      have G4 := G3
      clear k3p k3c k3u
      rw [HT.out] at G4
      have k4 := RC.of G4.out
      have a3 := k4.c3
      have b3 := k4.fz 3
      have q0 := blk_cell P4.out 0
      simp only [Note.packet, List.getElem?_toArray, List.getElem?_cons_zero] at q0
      have G5 : ((W3.setCell ⟨g, 3, none⟩ (.int .i64 ep)).drew.drew).heap[g]? = some (.cells ({ t with known := ep } : Ses).rcells 58 (0, 0)) := blk_set G4.out 3 _
      have P5 : ((W3.setCell ⟨g, 3, none⟩ (.int .i64 ep)).drew.drew).heap[w.heap.size]? = some (.cells (n.packet ep sq ak (.slice bo n.body.length bc)) 36 (0, 0)) := ((Step.refl (· = g) W3).setCell (p := ⟨g, 3, none⟩) (fun _ => rfl) (.int .i64 ep)).drew.drew.blk P4.out (fun h => NE.out h)
      have S5 := (S4.out.setCell (p := ⟨g, 3, none⟩) (fun _ => rfl) (.int .i64 ep)).drew.drew
      obtain ⟨W5, hW5⟩ : ∃ W, (W3.setCell ⟨g, 3, none⟩ (.int .i64 ep)).drew.drew = W := ⟨_, rfl⟩
      rw [hW5] at G5 P5 S5
      have HE5 := Lib.hid hW5
      have G5 := Lib.hid G5
      have P5 := Lib.hid P5
      have S5 := Lib.hid S5
      clear k4 hW5 S4
      have k5 := RC.of G5.out
      have a4 := k5.c2
      have a6 := k5.c4
      have p2 := blk_cell P5.out 2
      simp only [Note.packet, List.getElem?_toArray, List.getElem?_cons_zero, List.getElem?_cons_succ] at p2
      simp only at a4 a6
      clear k5 G4 P4
      go_wp2_with (rw [HE5.out])
      clear HE5 a3 b3 q0
      refine wp_region_plan (fun w' => w'.cell? ⟨w.heap.size, 2, none⟩ = some (.int .i64 ak) ∧ w'.cell? ⟨g, 2, none⟩ = some (.int .i64 t.life) ∧ w'.cell? ⟨g, 4, none⟩ = some (.bool t.up)) (.take 0 (.take 1 (.take 2 (.take 3 (.take 4 (.take 5 (.take 6 (.take 7 (.take 8 (.take 9 (.take 10 (.take 11 (.take 12 (.take 13 (.take 14 (.take 15 (.take 16 (.take 17 (.take 18 (.take 19 .done)))))))))))))))))))) _
        (by simp only [Plan.map, opOf, List.getElem?_toArray, List.getElem?_cons_zero, List.getElem?_cons_succ, Option.getD_some]; rfl) (by kernel_rfl) (by kernel_rfl) (by kernel_rfl) (by decide) (by intro c a d v w; cases d <;> exact fun h => h) ⟨p2, a4, a6⟩ ?_
      repeat (first | (refine wpPlan.taken (by rfl) (by intro w' hS'; (try dsimp only at hS'); go_split_ands; go_simp; try with_reducible rfl) ?_; simp only [Act.put, List.setIfInBounds_toArray, List.set_cons_zero, List.set_cons_succ]) | (refine wpPlan.passed (by rfl) ?_; simp only [Act.put, List.setIfInBounds_toArray, List.set_cons_zero, List.set_cons_succ]))
      refine wpPlan.done ?_
      go_wp2_with fail
      go_ret2
      exact ⟨rfl, G5.out, S5.out.drew⟩
    have e3' : ¬ t.life = 536870912 := by simpa using e3
    have hmeet : s.take true ep ak n.port n.state now = (true, 0, ({ t with known := ep, up := true, role := if decide (n.state < t.claim) || (t.claim == n.state && t.first n.port) then 2 else 1 } : Ses)) := by simp [Ses.take, hm, d1', hh, e1', e2, e3', Ses.meet, Ses.first]
    clear hh e1' e3'
    cases m1 : decide (n.state < t.claim)
    · cases m2 : (t.claim == n.state)
      · rw [hmeet, m1, m2, show (if (false || (false && t.first n.port)) = true then (2 : Int) else 1) = 1 from rfl]
        clear hmeet
        go_enter Tryd.func26, Tryd.ntmps26
        go_wp2_with (rw [HE.out])
        refine (M.out _).mono ?_
        rintro e w1 ⟨rfl, rfl⟩
        go_wp2_with (refine wpList_load_row rfl 36 (.tmp 4) rfl w.heap.size rfl 36 (n.packet ep sq ak (.slice bo n.body.length bc)) (0, 0) _ P1.out Tryd.underlying36 rfl (by kernel_rfl) ?_)
        refine HL.out.mono ?_
        rintro e w2 ⟨rfl, s2⟩
        have G2 := Lib.hid (s2.blk G1.out (fun s => s.elim))
        have P2 := Lib.hid (s2.blk P1.out (fun s => s.elim))
        have S2 := Lib.hid ((S1.out.then_ s2).none (S := (· = g)))
        clear s2 HE P1 G1 S1 HL M
        have q5 := (RC.of G2.out).c3
        have q0 := blk_cell P2.out 0
        simp only [Note.packet, List.getElem?_toArray, List.getElem?_cons_zero] at q0
        go_wp2_with fail
        refine wp_region_plan (fun w' => w'.cell? ⟨w.heap.size, 0, none⟩ = some (.int .i64 ep) ∧ w'.cell? ⟨g, 3, none⟩ = some (.int .i64 s.known)) (.take 0 (.take 1 (.take 2 (.take 3 (.take 4 (.take 5 (.take 6 .done))))))) _
          (by simp only [Plan.map, opOf, List.getElem?_toArray, List.getElem?_cons_zero, List.getElem?_cons_succ, Option.getD_some]; rfl) (by kernel_rfl) (by kernel_rfl) (by kernel_rfl) (by decide) (by intro c a d v w; cases d <;> exact fun h => h) ⟨q0, q5⟩ ?_
        repeat (first | (refine wpPlan.taken (by rfl) (by intro w' hS'; (try dsimp only at hS'); go_split_ands; go_simp; try with_reducible rfl) ?_; simp only [Act.put, List.setIfInBounds_toArray, List.set_cons_zero, List.set_cons_succ]) | (refine wpPlan.passed (by rfl) ?_; simp only [Act.put, List.setIfInBounds_toArray, List.set_cons_zero, List.set_cons_succ]))
        refine wpPlan.done ?_
        have f9 := (RC.of G2.out).fz 7
        have q9 := (RC.of G2.out).c7
        have G3 : (w2.setCell ⟨g, 7, none⟩ (.int .i64 now)).heap[g]? = some (.cells ({ s with link := now } : Ses).rcells 58 (0, 0)) := blk_set G2.out 7 _
        have P3 : (w2.setCell ⟨g, 7, none⟩ (.int .i64 now)).heap[w.heap.size]? = some (.cells (n.packet ep sq ak (.slice bo n.body.length bc)) 36 (0, 0)) := (heap_setCell_other w2 _ _ _ (by simpa using NE.out)).trans P2.out
        have S3 := S2.out.setCell (p := ⟨g, 7, none⟩) (fun _ => rfl) (.int .i64 now)
        obtain ⟨W3, hW3⟩ : ∃ W, w2.setCell ⟨g, 7, none⟩ (.int .i64 now) = W := ⟨_, rfl⟩
        rw [hW3] at G3 P3 S3
        have HE3 := Lib.hid hW3
        have G3 := Lib.hid G3
        have P3 := Lib.hid P3
        have S3 := Lib.hid S3
        clear hW3 G2 P2 S2 q0 q5
        go_wp2_with (rw [HE3.out])
        clear HE3 f9 q9
        have k3 := RC.of G3.out
        have k3c := k3.c3
        have k3u := k3.c4
        have k3p := blk_cell P3.out 0
        simp only [Note.packet, List.getElem?_toArray, List.getElem?_cons_zero] at k3p
        simp only at k3c k3u
        clear k3
        refine wp_region_plan (fun w' => w'.cell? ⟨w.heap.size, 0, none⟩ = some (.int .i64 ep) ∧ w'.cell? ⟨g, 3, none⟩ = some (.int .i64 s.known) ∧ w'.cell? ⟨g, 4, none⟩ = some (.bool s.up)) (.take 0 (.take 1 (.take 2 (.take 3 (.take 4 (.take 5 (.take 6 (.take 7 (.take 8 (.take 9 (.take 10 (.take 11 (.take 12 .done))))))))))))) _
          (by simp only [Plan.map, opOf, List.getElem?_toArray, List.getElem?_cons_zero, List.getElem?_cons_succ, Option.getD_some]; rfl) (by kernel_rfl) (by kernel_rfl) (by kernel_rfl) (by decide) (by intro c a d v w; cases d <;> exact fun h => h) ⟨k3p, k3c, k3u⟩ ?_
        repeat (first | (refine wpPlan.taken (by rfl) (by intro w' hS'; (try dsimp only at hS'); go_split_ands; go_simp; try with_reducible rfl) ?_; simp only [Act.put, List.setIfInBounds_toArray, List.set_cons_zero, List.set_cons_succ]) | (refine wpPlan.passed (by rfl) ?_; simp only [Act.put, List.setIfInBounds_toArray, List.set_cons_zero, List.set_cons_succ]))
        refine wpPlan.done ?_
        have P4 := P3
        have S4 := S3
        have G4 := G3
        clear k3p k3c k3u
        rw [HT.out] at G4
        have k4 := RC.of G4.out
        have a3 := k4.c3
        have b3 := k4.fz 3
        have q0 := blk_cell P4.out 0
        simp only [Note.packet, List.getElem?_toArray, List.getElem?_cons_zero] at q0
        have G5 : ((W3.setCell ⟨g, 3, none⟩ (.int .i64 ep)).drew.drew).heap[g]? = some (.cells ({ t with known := ep } : Ses).rcells 58 (0, 0)) := blk_set G4.out 3 _
        have P5 : ((W3.setCell ⟨g, 3, none⟩ (.int .i64 ep)).drew.drew).heap[w.heap.size]? = some (.cells (n.packet ep sq ak (.slice bo n.body.length bc)) 36 (0, 0)) := ((Step.refl (· = g) W3).setCell (p := ⟨g, 3, none⟩) (fun _ => rfl) (.int .i64 ep)).drew.drew.blk P4.out (fun h => NE.out h)
        have S5 := (S4.out.setCell (p := ⟨g, 3, none⟩) (fun _ => rfl) (.int .i64 ep)).drew.drew
        obtain ⟨W5, hW5⟩ : ∃ W, (W3.setCell ⟨g, 3, none⟩ (.int .i64 ep)).drew.drew = W := ⟨_, rfl⟩
        rw [hW5] at G5 P5 S5
        have HE5 := Lib.hid hW5
        have G5 := Lib.hid G5
        have P5 := Lib.hid P5
        have S5 := Lib.hid S5
        clear k4 hW5 S4
        have k5 := RC.of G5.out
        have a4 := k5.c2
        have a6 := k5.c4
        have p2 := blk_cell P5.out 2
        simp only [Note.packet, List.getElem?_toArray, List.getElem?_cons_zero, List.getElem?_cons_succ] at p2
        simp only at a4 a6
        clear k5 G4 P4
        go_wp2_with (rw [HE5.out])
        clear HE5 a3 b3 q0
        refine wp_region_plan (fun w' => w'.cell? ⟨w.heap.size, 2, none⟩ = some (.int .i64 ak) ∧ w'.cell? ⟨g, 2, none⟩ = some (.int .i64 t.life) ∧ w'.cell? ⟨g, 4, none⟩ = some (.bool t.up)) (.take 0 (.take 1 (.take 2 (.take 3 (.take 4 (.take 5 (.take 6 (.take 7 (.take 8 (.take 9 (.take 10 (.take 11 (.take 12 (.take 13 (.take 14 (.take 15 (.take 16 (.take 17 (.take 18 (.take 19 .done)))))))))))))))))))) _
          (by simp only [Plan.map, opOf, List.getElem?_toArray, List.getElem?_cons_zero, List.getElem?_cons_succ, Option.getD_some]; rfl) (by kernel_rfl) (by kernel_rfl) (by kernel_rfl) (by decide) (by intro c a d v w; cases d <;> exact fun h => h) ⟨p2, a4, a6⟩ ?_
        repeat (first | (refine wpPlan.taken (by rfl) (by intro w' hS'; (try dsimp only at hS'); go_split_ands; go_simp; try with_reducible rfl) ?_; simp only [Act.put, List.setIfInBounds_toArray, List.set_cons_zero, List.set_cons_succ]) | (refine wpPlan.passed (by rfl) ?_; simp only [Act.put, List.setIfInBounds_toArray, List.set_cons_zero, List.set_cons_succ]))
        refine wpPlan.done ?_
        have b6 := (RC.of G5.out).fz 4
        have b5 := (RC.of G5.out).fz 5
        have G6 : ((W5.setCell ⟨g, 4, none⟩ (.bool true)).setCell ⟨g, 5, none⟩ (.int .i64 1)).heap[g]? = some (.cells ({ t with known := ep, up := true, role := 1 } : Ses).rcells 58 (0, 0)) := blk_set (blk_set G5.out 4 _) 5 _
        have st6 := ((Step.refl (· = g) W5).setCell (p := ⟨g, 4, none⟩) (fun _ => rfl) (.bool true)).setCell (p := ⟨g, 5, none⟩) (fun _ => rfl) (.int .i64 1)
        have P6 := st6.blk P5.out (fun h => NE.out h)
        have p12 := blk_cell P6 12
        have p12' := blk_cell P5.out 12
        have p12'' := blk_cell (((Step.refl (· = g) W5).setCell (p := ⟨g, 4, none⟩) (fun _ => rfl) (.bool true)).blk P5.out (fun h => NE.out h)) 12
        have p11 := blk_cell P6 11
        have S6 := Lib.hid (S5.out.then_ st6)
        simp only [Note.packet, List.getElem?_toArray, List.getElem?_cons_zero, List.getElem?_cons_succ] at p12 p11 p12' p12''
        have a5 := (RC.of G5.out).c5
        obtain ⟨W6, hW6⟩ : ∃ W, (W5.setCell ⟨g, 4, none⟩ (.bool true)).setCell ⟨g, 5, none⟩ (.int .i64 1) = W := ⟨_, rfl⟩
        rw [hW6] at G6 S6 p12 p11
        have HE6 := Lib.hid hW6
        have G6 := Lib.hid G6
        have FA := Lib.hid (first_any g ({ t with known := ep, up := true, role := 1 } : Ses) n.port W6.drew G6.out)
        have k6 := (RC.of G6.out).c6
        have f6 := (RC.of G6.out).fz 5
        have r6 := (RC.of G6.out).c5
        simp only at k6
        rw [show ({ t with known := ep, up := true, role := 1 } : Ses).first n.port = t.first n.port from rfl] at FA
        clear hW6 P6 st6 G5 S5 P5 p2 a4
        go_wp2_with (rw [HE6.out])
        go_wp2_with fail
        go_ret2
        exact ⟨rfl, G6.out, S6.out.drew⟩
      · cases m3 : t.first n.port
        · rw [hmeet, m1, m2, m3, show (if (false || (true && false)) = true then (2 : Int) else 1) = 1 from rfl]
          clear hmeet
          go_enter Tryd.func26, Tryd.ntmps26
          go_wp2_with (rw [HE.out])
          refine (M.out _).mono ?_
          rintro e w1 ⟨rfl, rfl⟩
          go_wp2_with (refine wpList_load_row rfl 36 (.tmp 4) rfl w.heap.size rfl 36 (n.packet ep sq ak (.slice bo n.body.length bc)) (0, 0) _ P1.out Tryd.underlying36 rfl (by kernel_rfl) ?_)
          refine HL.out.mono ?_
          rintro e w2 ⟨rfl, s2⟩
          have G2 := Lib.hid (s2.blk G1.out (fun s => s.elim))
          have P2 := Lib.hid (s2.blk P1.out (fun s => s.elim))
          have S2 := Lib.hid ((S1.out.then_ s2).none (S := (· = g)))
          clear s2 HE P1 G1 S1 HL M
          have q5 := (RC.of G2.out).c3
          have q0 := blk_cell P2.out 0
          simp only [Note.packet, List.getElem?_toArray, List.getElem?_cons_zero] at q0
          go_wp2_with fail
          refine wp_region_plan (fun w' => w'.cell? ⟨w.heap.size, 0, none⟩ = some (.int .i64 ep) ∧ w'.cell? ⟨g, 3, none⟩ = some (.int .i64 s.known)) (.take 0 (.take 1 (.take 2 (.take 3 (.take 4 (.take 5 (.take 6 .done))))))) _
            (by simp only [Plan.map, opOf, List.getElem?_toArray, List.getElem?_cons_zero, List.getElem?_cons_succ, Option.getD_some]; rfl) (by kernel_rfl) (by kernel_rfl) (by kernel_rfl) (by decide) (by intro c a d v w; cases d <;> exact fun h => h) ⟨q0, q5⟩ ?_
          repeat (first | (refine wpPlan.taken (by rfl) (by intro w' hS'; (try dsimp only at hS'); go_split_ands; go_simp; try with_reducible rfl) ?_; simp only [Act.put, List.setIfInBounds_toArray, List.set_cons_zero, List.set_cons_succ]) | (refine wpPlan.passed (by rfl) ?_; simp only [Act.put, List.setIfInBounds_toArray, List.set_cons_zero, List.set_cons_succ]))
          refine wpPlan.done ?_
          have f9 := (RC.of G2.out).fz 7
          have q9 := (RC.of G2.out).c7
          have G3 : (w2.setCell ⟨g, 7, none⟩ (.int .i64 now)).heap[g]? = some (.cells ({ s with link := now } : Ses).rcells 58 (0, 0)) := blk_set G2.out 7 _
          have P3 : (w2.setCell ⟨g, 7, none⟩ (.int .i64 now)).heap[w.heap.size]? = some (.cells (n.packet ep sq ak (.slice bo n.body.length bc)) 36 (0, 0)) := (heap_setCell_other w2 _ _ _ (by simpa using NE.out)).trans P2.out
          have S3 := S2.out.setCell (p := ⟨g, 7, none⟩) (fun _ => rfl) (.int .i64 now)
          obtain ⟨W3, hW3⟩ : ∃ W, w2.setCell ⟨g, 7, none⟩ (.int .i64 now) = W := ⟨_, rfl⟩
          rw [hW3] at G3 P3 S3
          have HE3 := Lib.hid hW3
          have G3 := Lib.hid G3
          have P3 := Lib.hid P3
          have S3 := Lib.hid S3
          clear hW3 G2 P2 S2 q0 q5
          go_wp2_with (rw [HE3.out])
          clear HE3 f9 q9
          have k3 := RC.of G3.out
          have k3c := k3.c3
          have k3u := k3.c4
          have k3p := blk_cell P3.out 0
          simp only [Note.packet, List.getElem?_toArray, List.getElem?_cons_zero] at k3p
          simp only at k3c k3u
          clear k3
          refine wp_region_plan (fun w' => w'.cell? ⟨w.heap.size, 0, none⟩ = some (.int .i64 ep) ∧ w'.cell? ⟨g, 3, none⟩ = some (.int .i64 s.known) ∧ w'.cell? ⟨g, 4, none⟩ = some (.bool s.up)) (.take 0 (.take 1 (.take 2 (.take 3 (.take 4 (.take 5 (.take 6 (.take 7 (.take 8 (.take 9 (.take 10 (.take 11 (.take 12 .done))))))))))))) _
            (by simp only [Plan.map, opOf, List.getElem?_toArray, List.getElem?_cons_zero, List.getElem?_cons_succ, Option.getD_some]; rfl) (by kernel_rfl) (by kernel_rfl) (by kernel_rfl) (by decide) (by intro c a d v w; cases d <;> exact fun h => h) ⟨k3p, k3c, k3u⟩ ?_
          repeat (first | (refine wpPlan.taken (by rfl) (by intro w' hS'; (try dsimp only at hS'); go_split_ands; go_simp; try with_reducible rfl) ?_; simp only [Act.put, List.setIfInBounds_toArray, List.set_cons_zero, List.set_cons_succ]) | (refine wpPlan.passed (by rfl) ?_; simp only [Act.put, List.setIfInBounds_toArray, List.set_cons_zero, List.set_cons_succ]))
          refine wpPlan.done ?_
          have P4 := P3
          have S4 := S3
          have G4 := G3
          clear k3p k3c k3u
          rw [HT.out] at G4
          have k4 := RC.of G4.out
          have a3 := k4.c3
          have b3 := k4.fz 3
          have q0 := blk_cell P4.out 0
          simp only [Note.packet, List.getElem?_toArray, List.getElem?_cons_zero] at q0
          have G5 : ((W3.setCell ⟨g, 3, none⟩ (.int .i64 ep)).drew.drew).heap[g]? = some (.cells ({ t with known := ep } : Ses).rcells 58 (0, 0)) := blk_set G4.out 3 _
          have P5 : ((W3.setCell ⟨g, 3, none⟩ (.int .i64 ep)).drew.drew).heap[w.heap.size]? = some (.cells (n.packet ep sq ak (.slice bo n.body.length bc)) 36 (0, 0)) := ((Step.refl (· = g) W3).setCell (p := ⟨g, 3, none⟩) (fun _ => rfl) (.int .i64 ep)).drew.drew.blk P4.out (fun h => NE.out h)
          have S5 := (S4.out.setCell (p := ⟨g, 3, none⟩) (fun _ => rfl) (.int .i64 ep)).drew.drew
          obtain ⟨W5, hW5⟩ : ∃ W, (W3.setCell ⟨g, 3, none⟩ (.int .i64 ep)).drew.drew = W := ⟨_, rfl⟩
          rw [hW5] at G5 P5 S5
          have HE5 := Lib.hid hW5
          have G5 := Lib.hid G5
          have P5 := Lib.hid P5
          have S5 := Lib.hid S5
          clear k4 hW5 S4
          have k5 := RC.of G5.out
          have a4 := k5.c2
          have a6 := k5.c4
          have p2 := blk_cell P5.out 2
          simp only [Note.packet, List.getElem?_toArray, List.getElem?_cons_zero, List.getElem?_cons_succ] at p2
          simp only at a4 a6
          clear k5 G4 P4
          go_wp2_with (rw [HE5.out])
          clear HE5 a3 b3 q0
          refine wp_region_plan (fun w' => w'.cell? ⟨w.heap.size, 2, none⟩ = some (.int .i64 ak) ∧ w'.cell? ⟨g, 2, none⟩ = some (.int .i64 t.life) ∧ w'.cell? ⟨g, 4, none⟩ = some (.bool t.up)) (.take 0 (.take 1 (.take 2 (.take 3 (.take 4 (.take 5 (.take 6 (.take 7 (.take 8 (.take 9 (.take 10 (.take 11 (.take 12 (.take 13 (.take 14 (.take 15 (.take 16 (.take 17 (.take 18 (.take 19 .done)))))))))))))))))))) _
            (by simp only [Plan.map, opOf, List.getElem?_toArray, List.getElem?_cons_zero, List.getElem?_cons_succ, Option.getD_some]; rfl) (by kernel_rfl) (by kernel_rfl) (by kernel_rfl) (by decide) (by intro c a d v w; cases d <;> exact fun h => h) ⟨p2, a4, a6⟩ ?_
          repeat (first | (refine wpPlan.taken (by rfl) (by intro w' hS'; (try dsimp only at hS'); go_split_ands; go_simp; try with_reducible rfl) ?_; simp only [Act.put, List.setIfInBounds_toArray, List.set_cons_zero, List.set_cons_succ]) | (refine wpPlan.passed (by rfl) ?_; simp only [Act.put, List.setIfInBounds_toArray, List.set_cons_zero, List.set_cons_succ]))
          refine wpPlan.done ?_
          have b6 := (RC.of G5.out).fz 4
          have b5 := (RC.of G5.out).fz 5
          have G6 : ((W5.setCell ⟨g, 4, none⟩ (.bool true)).setCell ⟨g, 5, none⟩ (.int .i64 1)).heap[g]? = some (.cells ({ t with known := ep, up := true, role := 1 } : Ses).rcells 58 (0, 0)) := blk_set (blk_set G5.out 4 _) 5 _
          have st6 := ((Step.refl (· = g) W5).setCell (p := ⟨g, 4, none⟩) (fun _ => rfl) (.bool true)).setCell (p := ⟨g, 5, none⟩) (fun _ => rfl) (.int .i64 1)
          have P6 := st6.blk P5.out (fun h => NE.out h)
          have p12 := blk_cell P6 12
          have p12' := blk_cell P5.out 12
          have p12'' := blk_cell (((Step.refl (· = g) W5).setCell (p := ⟨g, 4, none⟩) (fun _ => rfl) (.bool true)).blk P5.out (fun h => NE.out h)) 12
          have p11 := blk_cell P6 11
          have S6 := Lib.hid (S5.out.then_ st6)
          simp only [Note.packet, List.getElem?_toArray, List.getElem?_cons_zero, List.getElem?_cons_succ] at p12 p11 p12' p12''
          have a5 := (RC.of G5.out).c5
          obtain ⟨W6, hW6⟩ : ∃ W, (W5.setCell ⟨g, 4, none⟩ (.bool true)).setCell ⟨g, 5, none⟩ (.int .i64 1) = W := ⟨_, rfl⟩
          rw [hW6] at G6 S6 p12 p11
          have HE6 := Lib.hid hW6
          have G6 := Lib.hid G6
          have FA := Lib.hid (first_any g ({ t with known := ep, up := true, role := 1 } : Ses) n.port W6.drew G6.out)
          have k6 := (RC.of G6.out).c6
          have f6 := (RC.of G6.out).fz 5
          have r6 := (RC.of G6.out).c5
          simp only at k6
          rw [show ({ t with known := ep, up := true, role := 1 } : Ses).first n.port = t.first n.port from rfl] at FA
          clear hW6 P6 st6 G5 S5 P5 p2 a4
          go_wp2_with (rw [HE6.out])
          rw [m3] at FA
          refine (FA.out).mono ?_
          rintro e w7 ⟨rfl, rfl⟩
          go_wp2_with fail
          go_ret2
          exact ⟨rfl, G6.out, S6.out.drew⟩
        · rw [hmeet, m1, m2, m3, show (if (false || (true && true)) = true then (2 : Int) else 1) = 2 from rfl]
          clear hmeet
          go_enter Tryd.func26, Tryd.ntmps26
          go_wp2_with (rw [HE.out])
          refine (M.out _).mono ?_
          rintro e w1 ⟨rfl, rfl⟩
          go_wp2_with (refine wpList_load_row rfl 36 (.tmp 4) rfl w.heap.size rfl 36 (n.packet ep sq ak (.slice bo n.body.length bc)) (0, 0) _ P1.out Tryd.underlying36 rfl (by kernel_rfl) ?_)
          refine HL.out.mono ?_
          rintro e w2 ⟨rfl, s2⟩
          have G2 := Lib.hid (s2.blk G1.out (fun s => s.elim))
          have P2 := Lib.hid (s2.blk P1.out (fun s => s.elim))
          have S2 := Lib.hid ((S1.out.then_ s2).none (S := (· = g)))
          clear s2 HE P1 G1 S1 HL M
          have q5 := (RC.of G2.out).c3
          have q0 := blk_cell P2.out 0
          simp only [Note.packet, List.getElem?_toArray, List.getElem?_cons_zero] at q0
          go_wp2_with fail
          refine wp_region_plan (fun w' => w'.cell? ⟨w.heap.size, 0, none⟩ = some (.int .i64 ep) ∧ w'.cell? ⟨g, 3, none⟩ = some (.int .i64 s.known)) (.take 0 (.take 1 (.take 2 (.take 3 (.take 4 (.take 5 (.take 6 .done))))))) _
            (by simp only [Plan.map, opOf, List.getElem?_toArray, List.getElem?_cons_zero, List.getElem?_cons_succ, Option.getD_some]; rfl) (by kernel_rfl) (by kernel_rfl) (by kernel_rfl) (by decide) (by intro c a d v w; cases d <;> exact fun h => h) ⟨q0, q5⟩ ?_
          repeat (first | (refine wpPlan.taken (by rfl) (by intro w' hS'; (try dsimp only at hS'); go_split_ands; go_simp; try with_reducible rfl) ?_; simp only [Act.put, List.setIfInBounds_toArray, List.set_cons_zero, List.set_cons_succ]) | (refine wpPlan.passed (by rfl) ?_; simp only [Act.put, List.setIfInBounds_toArray, List.set_cons_zero, List.set_cons_succ]))
          refine wpPlan.done ?_
          have f9 := (RC.of G2.out).fz 7
          have q9 := (RC.of G2.out).c7
          have G3 : (w2.setCell ⟨g, 7, none⟩ (.int .i64 now)).heap[g]? = some (.cells ({ s with link := now } : Ses).rcells 58 (0, 0)) := blk_set G2.out 7 _
          have P3 : (w2.setCell ⟨g, 7, none⟩ (.int .i64 now)).heap[w.heap.size]? = some (.cells (n.packet ep sq ak (.slice bo n.body.length bc)) 36 (0, 0)) := (heap_setCell_other w2 _ _ _ (by simpa using NE.out)).trans P2.out
          have S3 := S2.out.setCell (p := ⟨g, 7, none⟩) (fun _ => rfl) (.int .i64 now)
          obtain ⟨W3, hW3⟩ : ∃ W, w2.setCell ⟨g, 7, none⟩ (.int .i64 now) = W := ⟨_, rfl⟩
          rw [hW3] at G3 P3 S3
          have HE3 := Lib.hid hW3
          have G3 := Lib.hid G3
          have P3 := Lib.hid P3
          have S3 := Lib.hid S3
          clear hW3 G2 P2 S2 q0 q5
          go_wp2_with (rw [HE3.out])
          clear HE3 f9 q9
          have k3 := RC.of G3.out
          have k3c := k3.c3
          have k3u := k3.c4
          have k3p := blk_cell P3.out 0
          simp only [Note.packet, List.getElem?_toArray, List.getElem?_cons_zero] at k3p
          simp only at k3c k3u
          clear k3
          refine wp_region_plan (fun w' => w'.cell? ⟨w.heap.size, 0, none⟩ = some (.int .i64 ep) ∧ w'.cell? ⟨g, 3, none⟩ = some (.int .i64 s.known) ∧ w'.cell? ⟨g, 4, none⟩ = some (.bool s.up)) (.take 0 (.take 1 (.take 2 (.take 3 (.take 4 (.take 5 (.take 6 (.take 7 (.take 8 (.take 9 (.take 10 (.take 11 (.take 12 .done))))))))))))) _
            (by simp only [Plan.map, opOf, List.getElem?_toArray, List.getElem?_cons_zero, List.getElem?_cons_succ, Option.getD_some]; rfl) (by kernel_rfl) (by kernel_rfl) (by kernel_rfl) (by decide) (by intro c a d v w; cases d <;> exact fun h => h) ⟨k3p, k3c, k3u⟩ ?_
          repeat (first | (refine wpPlan.taken (by rfl) (by intro w' hS'; (try dsimp only at hS'); go_split_ands; go_simp; try with_reducible rfl) ?_; simp only [Act.put, List.setIfInBounds_toArray, List.set_cons_zero, List.set_cons_succ]) | (refine wpPlan.passed (by rfl) ?_; simp only [Act.put, List.setIfInBounds_toArray, List.set_cons_zero, List.set_cons_succ]))
          refine wpPlan.done ?_
          have P4 := P3
          have S4 := S3
          have G4 := G3
          clear k3p k3c k3u
          rw [HT.out] at G4
          have k4 := RC.of G4.out
          have a3 := k4.c3
          have b3 := k4.fz 3
          have q0 := blk_cell P4.out 0
          simp only [Note.packet, List.getElem?_toArray, List.getElem?_cons_zero] at q0
          have G5 : ((W3.setCell ⟨g, 3, none⟩ (.int .i64 ep)).drew.drew).heap[g]? = some (.cells ({ t with known := ep } : Ses).rcells 58 (0, 0)) := blk_set G4.out 3 _
          have P5 : ((W3.setCell ⟨g, 3, none⟩ (.int .i64 ep)).drew.drew).heap[w.heap.size]? = some (.cells (n.packet ep sq ak (.slice bo n.body.length bc)) 36 (0, 0)) := ((Step.refl (· = g) W3).setCell (p := ⟨g, 3, none⟩) (fun _ => rfl) (.int .i64 ep)).drew.drew.blk P4.out (fun h => NE.out h)
          have S5 := (S4.out.setCell (p := ⟨g, 3, none⟩) (fun _ => rfl) (.int .i64 ep)).drew.drew
          obtain ⟨W5, hW5⟩ : ∃ W, (W3.setCell ⟨g, 3, none⟩ (.int .i64 ep)).drew.drew = W := ⟨_, rfl⟩
          rw [hW5] at G5 P5 S5
          have HE5 := Lib.hid hW5
          have G5 := Lib.hid G5
          have P5 := Lib.hid P5
          have S5 := Lib.hid S5
          clear k4 hW5 S4
          have k5 := RC.of G5.out
          have a4 := k5.c2
          have a6 := k5.c4
          have p2 := blk_cell P5.out 2
          simp only [Note.packet, List.getElem?_toArray, List.getElem?_cons_zero, List.getElem?_cons_succ] at p2
          simp only at a4 a6
          clear k5 G4 P4
          go_wp2_with (rw [HE5.out])
          clear HE5 a3 b3 q0
          refine wp_region_plan (fun w' => w'.cell? ⟨w.heap.size, 2, none⟩ = some (.int .i64 ak) ∧ w'.cell? ⟨g, 2, none⟩ = some (.int .i64 t.life) ∧ w'.cell? ⟨g, 4, none⟩ = some (.bool t.up)) (.take 0 (.take 1 (.take 2 (.take 3 (.take 4 (.take 5 (.take 6 (.take 7 (.take 8 (.take 9 (.take 10 (.take 11 (.take 12 (.take 13 (.take 14 (.take 15 (.take 16 (.take 17 (.take 18 (.take 19 .done)))))))))))))))))))) _
            (by simp only [Plan.map, opOf, List.getElem?_toArray, List.getElem?_cons_zero, List.getElem?_cons_succ, Option.getD_some]; rfl) (by kernel_rfl) (by kernel_rfl) (by kernel_rfl) (by decide) (by intro c a d v w; cases d <;> exact fun h => h) ⟨p2, a4, a6⟩ ?_
          repeat (first | (refine wpPlan.taken (by rfl) (by intro w' hS'; (try dsimp only at hS'); go_split_ands; go_simp; try with_reducible rfl) ?_; simp only [Act.put, List.setIfInBounds_toArray, List.set_cons_zero, List.set_cons_succ]) | (refine wpPlan.passed (by rfl) ?_; simp only [Act.put, List.setIfInBounds_toArray, List.set_cons_zero, List.set_cons_succ]))
          refine wpPlan.done ?_
          have b6 := (RC.of G5.out).fz 4
          have b5 := (RC.of G5.out).fz 5
          have G6 : ((W5.setCell ⟨g, 4, none⟩ (.bool true)).setCell ⟨g, 5, none⟩ (.int .i64 1)).heap[g]? = some (.cells ({ t with known := ep, up := true, role := 1 } : Ses).rcells 58 (0, 0)) := blk_set (blk_set G5.out 4 _) 5 _
          have st6 := ((Step.refl (· = g) W5).setCell (p := ⟨g, 4, none⟩) (fun _ => rfl) (.bool true)).setCell (p := ⟨g, 5, none⟩) (fun _ => rfl) (.int .i64 1)
          have P6 := st6.blk P5.out (fun h => NE.out h)
          have p12 := blk_cell P6 12
          have p12' := blk_cell P5.out 12
          have p12'' := blk_cell (((Step.refl (· = g) W5).setCell (p := ⟨g, 4, none⟩) (fun _ => rfl) (.bool true)).blk P5.out (fun h => NE.out h)) 12
          have p11 := blk_cell P6 11
          have S6 := Lib.hid (S5.out.then_ st6)
          simp only [Note.packet, List.getElem?_toArray, List.getElem?_cons_zero, List.getElem?_cons_succ] at p12 p11 p12' p12''
          have a5 := (RC.of G5.out).c5
          obtain ⟨W6, hW6⟩ : ∃ W, (W5.setCell ⟨g, 4, none⟩ (.bool true)).setCell ⟨g, 5, none⟩ (.int .i64 1) = W := ⟨_, rfl⟩
          rw [hW6] at G6 S6 p12 p11
          have HE6 := Lib.hid hW6
          have G6 := Lib.hid G6
          have FA := Lib.hid (first_any g ({ t with known := ep, up := true, role := 1 } : Ses) n.port W6.drew G6.out)
          have k6 := (RC.of G6.out).c6
          have f6 := (RC.of G6.out).fz 5
          have r6 := (RC.of G6.out).c5
          simp only at k6
          rw [show ({ t with known := ep, up := true, role := 1 } : Ses).first n.port = t.first n.port from rfl] at FA
          clear hW6 P6 st6 G5 S5 P5 p2 a4
          go_wp2_with (rw [HE6.out])
          rw [m3] at FA
          refine (FA.out).mono ?_
          rintro e w7 ⟨rfl, rfl⟩
          go_wp2_with fail
          go_ret2
          exact ⟨rfl, by show (W6.setCell ⟨g, 5, none⟩ (.int .i64 2)).heap[g]? = _; rw [blk_set G6.out 5 _]; rfl, (S6.out.setCell (p := ⟨g, 5, none⟩) (fun _ => rfl) _).drew⟩
    · rw [hmeet, m1, show (if (true || (t.claim == n.state && t.first n.port)) = true then (2 : Int) else 1) = 2 from rfl]
      clear hmeet
      go_enter Tryd.func26, Tryd.ntmps26
      go_wp2_with (rw [HE.out])
      refine (M.out _).mono ?_
      rintro e w1 ⟨rfl, rfl⟩
      go_wp2_with (refine wpList_load_row rfl 36 (.tmp 4) rfl w.heap.size rfl 36 (n.packet ep sq ak (.slice bo n.body.length bc)) (0, 0) _ P1.out Tryd.underlying36 rfl (by kernel_rfl) ?_)
      refine HL.out.mono ?_
      rintro e w2 ⟨rfl, s2⟩
      have G2 := Lib.hid (s2.blk G1.out (fun s => s.elim))
      have P2 := Lib.hid (s2.blk P1.out (fun s => s.elim))
      have S2 := Lib.hid ((S1.out.then_ s2).none (S := (· = g)))
      clear s2 HE P1 G1 S1 HL M
      have q5 := (RC.of G2.out).c3
      have q0 := blk_cell P2.out 0
      simp only [Note.packet, List.getElem?_toArray, List.getElem?_cons_zero] at q0
      go_wp2_with fail
      refine wp_region_plan (fun w' => w'.cell? ⟨w.heap.size, 0, none⟩ = some (.int .i64 ep) ∧ w'.cell? ⟨g, 3, none⟩ = some (.int .i64 s.known)) (.take 0 (.take 1 (.take 2 (.take 3 (.take 4 (.take 5 (.take 6 .done))))))) _
        (by simp only [Plan.map, opOf, List.getElem?_toArray, List.getElem?_cons_zero, List.getElem?_cons_succ, Option.getD_some]; rfl) (by kernel_rfl) (by kernel_rfl) (by kernel_rfl) (by decide) (by intro c a d v w; cases d <;> exact fun h => h) ⟨q0, q5⟩ ?_
      repeat (first | (refine wpPlan.taken (by rfl) (by intro w' hS'; (try dsimp only at hS'); go_split_ands; go_simp; try with_reducible rfl) ?_; simp only [Act.put, List.setIfInBounds_toArray, List.set_cons_zero, List.set_cons_succ]) | (refine wpPlan.passed (by rfl) ?_; simp only [Act.put, List.setIfInBounds_toArray, List.set_cons_zero, List.set_cons_succ]))
      refine wpPlan.done ?_
      have f9 := (RC.of G2.out).fz 7
      have q9 := (RC.of G2.out).c7
      have G3 : (w2.setCell ⟨g, 7, none⟩ (.int .i64 now)).heap[g]? = some (.cells ({ s with link := now } : Ses).rcells 58 (0, 0)) := blk_set G2.out 7 _
      have P3 : (w2.setCell ⟨g, 7, none⟩ (.int .i64 now)).heap[w.heap.size]? = some (.cells (n.packet ep sq ak (.slice bo n.body.length bc)) 36 (0, 0)) := (heap_setCell_other w2 _ _ _ (by simpa using NE.out)).trans P2.out
      have S3 := S2.out.setCell (p := ⟨g, 7, none⟩) (fun _ => rfl) (.int .i64 now)
      obtain ⟨W3, hW3⟩ : ∃ W, w2.setCell ⟨g, 7, none⟩ (.int .i64 now) = W := ⟨_, rfl⟩
      rw [hW3] at G3 P3 S3
      have HE3 := Lib.hid hW3
      have G3 := Lib.hid G3
      have P3 := Lib.hid P3
      have S3 := Lib.hid S3
      clear hW3 G2 P2 S2 q0 q5
      go_wp2_with (rw [HE3.out])
      clear HE3 f9 q9
      have k3 := RC.of G3.out
      have k3c := k3.c3
      have k3u := k3.c4
      have k3p := blk_cell P3.out 0
      simp only [Note.packet, List.getElem?_toArray, List.getElem?_cons_zero] at k3p
      simp only at k3c k3u
      clear k3
      refine wp_region_plan (fun w' => w'.cell? ⟨w.heap.size, 0, none⟩ = some (.int .i64 ep) ∧ w'.cell? ⟨g, 3, none⟩ = some (.int .i64 s.known) ∧ w'.cell? ⟨g, 4, none⟩ = some (.bool s.up)) (.take 0 (.take 1 (.take 2 (.take 3 (.take 4 (.take 5 (.take 6 (.take 7 (.take 8 (.take 9 (.take 10 (.take 11 (.take 12 .done))))))))))))) _
        (by simp only [Plan.map, opOf, List.getElem?_toArray, List.getElem?_cons_zero, List.getElem?_cons_succ, Option.getD_some]; rfl) (by kernel_rfl) (by kernel_rfl) (by kernel_rfl) (by decide) (by intro c a d v w; cases d <;> exact fun h => h) ⟨k3p, k3c, k3u⟩ ?_
      repeat (first | (refine wpPlan.taken (by rfl) (by intro w' hS'; (try dsimp only at hS'); go_split_ands; go_simp; try with_reducible rfl) ?_; simp only [Act.put, List.setIfInBounds_toArray, List.set_cons_zero, List.set_cons_succ]) | (refine wpPlan.passed (by rfl) ?_; simp only [Act.put, List.setIfInBounds_toArray, List.set_cons_zero, List.set_cons_succ]))
      refine wpPlan.done ?_
      have P4 := P3
      have S4 := S3
      have G4 := G3
      clear k3p k3c k3u
      rw [HT.out] at G4
      have k4 := RC.of G4.out
      have a3 := k4.c3
      have b3 := k4.fz 3
      have q0 := blk_cell P4.out 0
      simp only [Note.packet, List.getElem?_toArray, List.getElem?_cons_zero] at q0
      have G5 : ((W3.setCell ⟨g, 3, none⟩ (.int .i64 ep)).drew.drew).heap[g]? = some (.cells ({ t with known := ep } : Ses).rcells 58 (0, 0)) := blk_set G4.out 3 _
      have P5 : ((W3.setCell ⟨g, 3, none⟩ (.int .i64 ep)).drew.drew).heap[w.heap.size]? = some (.cells (n.packet ep sq ak (.slice bo n.body.length bc)) 36 (0, 0)) := ((Step.refl (· = g) W3).setCell (p := ⟨g, 3, none⟩) (fun _ => rfl) (.int .i64 ep)).drew.drew.blk P4.out (fun h => NE.out h)
      have S5 := (S4.out.setCell (p := ⟨g, 3, none⟩) (fun _ => rfl) (.int .i64 ep)).drew.drew
      obtain ⟨W5, hW5⟩ : ∃ W, (W3.setCell ⟨g, 3, none⟩ (.int .i64 ep)).drew.drew = W := ⟨_, rfl⟩
      rw [hW5] at G5 P5 S5
      have HE5 := Lib.hid hW5
      have G5 := Lib.hid G5
      have P5 := Lib.hid P5
      have S5 := Lib.hid S5
      clear k4 hW5 S4
      have k5 := RC.of G5.out
      have a4 := k5.c2
      have a6 := k5.c4
      have p2 := blk_cell P5.out 2
      simp only [Note.packet, List.getElem?_toArray, List.getElem?_cons_zero, List.getElem?_cons_succ] at p2
      simp only at a4 a6
      clear k5 G4 P4
      go_wp2_with (rw [HE5.out])
      clear HE5 a3 b3 q0
      refine wp_region_plan (fun w' => w'.cell? ⟨w.heap.size, 2, none⟩ = some (.int .i64 ak) ∧ w'.cell? ⟨g, 2, none⟩ = some (.int .i64 t.life) ∧ w'.cell? ⟨g, 4, none⟩ = some (.bool t.up)) (.take 0 (.take 1 (.take 2 (.take 3 (.take 4 (.take 5 (.take 6 (.take 7 (.take 8 (.take 9 (.take 10 (.take 11 (.take 12 (.take 13 (.take 14 (.take 15 (.take 16 (.take 17 (.take 18 (.take 19 .done)))))))))))))))))))) _
        (by simp only [Plan.map, opOf, List.getElem?_toArray, List.getElem?_cons_zero, List.getElem?_cons_succ, Option.getD_some]; rfl) (by kernel_rfl) (by kernel_rfl) (by kernel_rfl) (by decide) (by intro c a d v w; cases d <;> exact fun h => h) ⟨p2, a4, a6⟩ ?_
      repeat (first | (refine wpPlan.taken (by rfl) (by intro w' hS'; (try dsimp only at hS'); go_split_ands; go_simp; try with_reducible rfl) ?_; simp only [Act.put, List.setIfInBounds_toArray, List.set_cons_zero, List.set_cons_succ]) | (refine wpPlan.passed (by rfl) ?_; simp only [Act.put, List.setIfInBounds_toArray, List.set_cons_zero, List.set_cons_succ]))
      refine wpPlan.done ?_
      have b6 := (RC.of G5.out).fz 4
      have b5 := (RC.of G5.out).fz 5
      have G6 : ((W5.setCell ⟨g, 4, none⟩ (.bool true)).setCell ⟨g, 5, none⟩ (.int .i64 1)).heap[g]? = some (.cells ({ t with known := ep, up := true, role := 1 } : Ses).rcells 58 (0, 0)) := blk_set (blk_set G5.out 4 _) 5 _
      have st6 := ((Step.refl (· = g) W5).setCell (p := ⟨g, 4, none⟩) (fun _ => rfl) (.bool true)).setCell (p := ⟨g, 5, none⟩) (fun _ => rfl) (.int .i64 1)
      have P6 := st6.blk P5.out (fun h => NE.out h)
      have p12 := blk_cell P6 12
      have p12' := blk_cell P5.out 12
      have p12'' := blk_cell (((Step.refl (· = g) W5).setCell (p := ⟨g, 4, none⟩) (fun _ => rfl) (.bool true)).blk P5.out (fun h => NE.out h)) 12
      have p11 := blk_cell P6 11
      have S6 := Lib.hid (S5.out.then_ st6)
      simp only [Note.packet, List.getElem?_toArray, List.getElem?_cons_zero, List.getElem?_cons_succ] at p12 p11 p12' p12''
      have a5 := (RC.of G5.out).c5
      obtain ⟨W6, hW6⟩ : ∃ W, (W5.setCell ⟨g, 4, none⟩ (.bool true)).setCell ⟨g, 5, none⟩ (.int .i64 1) = W := ⟨_, rfl⟩
      rw [hW6] at G6 S6 p12 p11
      have HE6 := Lib.hid hW6
      have G6 := Lib.hid G6
      have FA := Lib.hid (first_any g ({ t with known := ep, up := true, role := 1 } : Ses) n.port W6.drew G6.out)
      have k6 := (RC.of G6.out).c6
      have f6 := (RC.of G6.out).fz 5
      have r6 := (RC.of G6.out).c5
      simp only at k6
      rw [show ({ t with known := ep, up := true, role := 1 } : Ses).first n.port = t.first n.port from rfl] at FA
      clear hW6 P6 st6 G5 S5 P5 p2 a4
      go_wp2_with (rw [HE6.out])
      go_wp2_with fail
      go_ret2
      exact ⟨rfl, by show (W6.setCell ⟨g, 5, none⟩ (.int .i64 2)).heap[g]? = _; rw [blk_set G6.out 5 _]; rfl, (S6.out.setCell (p := ⟨g, 5, none⟩) (fun _ => rfl) _).drew⟩
  · obtain ⟨t, ht⟩ : ∃ t, ({ s with link := now } : Ses).fresh = t := ⟨_, rfl⟩
    have HT := Lib.hid ht
    have hh : s.heard ep now = { t with known := ep } := by have hc : (decide (s.known < ep) && s.up) = true := (by rw [d2, hu]; rfl); rw [hd, hc, ← ht]; rfl
    clear ht hd
    cases e1 : (ak != t.life)
    rotate_left
    · have e1' : ¬ ak = t.life := by simpa [bne] using e1
      rw [show s.take true ep ak n.port n.state now = (false, 0, { t with known := ep }) by simp [Ses.take, hm, d1', hh, e1']]
      clear hh e1'
      go_enter Tryd.func26, Tryd.ntmps26
      go_wp2_with (rw [HE.out])
      refine (M.out _).mono ?_
      rintro e w1 ⟨rfl, rfl⟩
      go_wp2_with (refine wpList_load_row rfl 36 (.tmp 4) rfl w.heap.size rfl 36 (n.packet ep sq ak (.slice bo n.body.length bc)) (0, 0) _ P1.out Tryd.underlying36 rfl (by kernel_rfl) ?_)
      refine HL.out.mono ?_
      rintro e w2 ⟨rfl, s2⟩
      have G2 := Lib.hid (s2.blk G1.out (fun s => s.elim))
      have P2 := Lib.hid (s2.blk P1.out (fun s => s.elim))
      have S2 := Lib.hid ((S1.out.then_ s2).none (S := (· = g)))
      clear s2 HE P1 G1 S1 HL M
      have q5 := (RC.of G2.out).c3
      have q0 := blk_cell P2.out 0
      simp only [Note.packet, List.getElem?_toArray, List.getElem?_cons_zero] at q0
      go_wp2_with fail
      refine wp_region_plan (fun w' => w'.cell? ⟨w.heap.size, 0, none⟩ = some (.int .i64 ep) ∧ w'.cell? ⟨g, 3, none⟩ = some (.int .i64 s.known)) (.take 0 (.take 1 (.take 2 (.take 3 (.take 4 (.take 5 (.take 6 .done))))))) _
        (by simp only [Plan.map, opOf, List.getElem?_toArray, List.getElem?_cons_zero, List.getElem?_cons_succ, Option.getD_some]; rfl) (by kernel_rfl) (by kernel_rfl) (by kernel_rfl) (by decide) (by intro c a d v w; cases d <;> exact fun h => h) ⟨q0, q5⟩ ?_
      repeat (first | (refine wpPlan.taken (by rfl) (by intro w' hS'; (try dsimp only at hS'); go_split_ands; go_simp; try with_reducible rfl) ?_; simp only [Act.put, List.setIfInBounds_toArray, List.set_cons_zero, List.set_cons_succ]) | (refine wpPlan.passed (by rfl) ?_; simp only [Act.put, List.setIfInBounds_toArray, List.set_cons_zero, List.set_cons_succ]))
      refine wpPlan.done ?_
      have f9 := (RC.of G2.out).fz 7
      have q9 := (RC.of G2.out).c7
      have G3 : (w2.setCell ⟨g, 7, none⟩ (.int .i64 now)).heap[g]? = some (.cells ({ s with link := now } : Ses).rcells 58 (0, 0)) := blk_set G2.out 7 _
      have P3 : (w2.setCell ⟨g, 7, none⟩ (.int .i64 now)).heap[w.heap.size]? = some (.cells (n.packet ep sq ak (.slice bo n.body.length bc)) 36 (0, 0)) := (heap_setCell_other w2 _ _ _ (by simpa using NE.out)).trans P2.out
      have S3 := S2.out.setCell (p := ⟨g, 7, none⟩) (fun _ => rfl) (.int .i64 now)
      obtain ⟨W3, hW3⟩ : ∃ W, w2.setCell ⟨g, 7, none⟩ (.int .i64 now) = W := ⟨_, rfl⟩
      rw [hW3] at G3 P3 S3
      have HE3 := Lib.hid hW3
      have G3 := Lib.hid G3
      have P3 := Lib.hid P3
      have S3 := Lib.hid S3
      clear hW3 G2 P2 S2 q0 q5
      go_wp2_with (rw [HE3.out])
      clear HE3 f9 q9
      have k3 := RC.of G3.out
      have k3c := k3.c3
      have k3u := k3.c4
      have k3p := blk_cell P3.out 0
      simp only [Note.packet, List.getElem?_toArray, List.getElem?_cons_zero] at k3p
      simp only at k3c k3u
      clear k3
      refine wp_region_plan (fun w' => w'.cell? ⟨w.heap.size, 0, none⟩ = some (.int .i64 ep) ∧ w'.cell? ⟨g, 3, none⟩ = some (.int .i64 s.known) ∧ w'.cell? ⟨g, 4, none⟩ = some (.bool s.up)) (.take 0 (.take 1 (.take 2 (.take 3 (.take 4 (.take 5 (.take 6 (.take 7 (.take 8 (.take 9 (.take 10 (.take 11 (.take 12 .done))))))))))))) _
        (by simp only [Plan.map, opOf, List.getElem?_toArray, List.getElem?_cons_zero, List.getElem?_cons_succ, Option.getD_some]; rfl) (by kernel_rfl) (by kernel_rfl) (by kernel_rfl) (by decide) (by intro c a d v w; cases d <;> exact fun h => h) ⟨k3p, k3c, k3u⟩ ?_
      repeat (first | (refine wpPlan.taken (by rfl) (by intro w' hS'; (try dsimp only at hS'); go_split_ands; go_simp; try with_reducible rfl) ?_; simp only [Act.put, List.setIfInBounds_toArray, List.set_cons_zero, List.set_cons_succ]) | (refine wpPlan.passed (by rfl) ?_; simp only [Act.put, List.setIfInBounds_toArray, List.set_cons_zero, List.set_cons_succ]))
      refine wpPlan.done ?_
      go_wp2_with fail
      refine (fresh_any g ({ s with link := now } : Ses) _ OKL.out (by exact G3.out)).mono ?_
      rintro e w4 ⟨rfl, g4, s4⟩
      have P4 := Lib.hid (s4.blk P3.out (fun h => NE.out h))
      have S4 := Lib.hid (S3.out.drew.drew.then_ s4)
      have G4 := Lib.hid g4
      clear g4 s4 G3 P3 S3 k3p k3c k3u
      rw [HT.out] at G4
      have k4 := RC.of G4.out
      have a3 := k4.c3
      have b3 := k4.fz 3
      have q0 := blk_cell P4.out 0
      simp only [Note.packet, List.getElem?_toArray, List.getElem?_cons_zero] at q0
      have G5 : ((w4.setCell ⟨g, 3, none⟩ (.int .i64 ep))).heap[g]? = some (.cells ({ t with known := ep } : Ses).rcells 58 (0, 0)) := blk_set G4.out 3 _
      have P5 : ((w4.setCell ⟨g, 3, none⟩ (.int .i64 ep))).heap[w.heap.size]? = some (.cells (n.packet ep sq ak (.slice bo n.body.length bc)) 36 (0, 0)) := ((Step.refl (· = g) w4).setCell (p := ⟨g, 3, none⟩) (fun _ => rfl) (.int .i64 ep)).blk P4.out (fun h => NE.out h)
      have S5 := (S4.out.setCell (p := ⟨g, 3, none⟩) (fun _ => rfl) (.int .i64 ep))
      obtain ⟨W5, hW5⟩ : ∃ W, (w4.setCell ⟨g, 3, none⟩ (.int .i64 ep)) = W := ⟨_, rfl⟩
      rw [hW5] at G5 P5 S5
      have HE5 := Lib.hid hW5
      have G5 := Lib.hid G5
      have P5 := Lib.hid P5
      have S5 := Lib.hid S5
      clear k4 hW5 S4
      have k5 := RC.of G5.out
      have a4 := k5.c2
      have a6 := k5.c4
      have p2 := blk_cell P5.out 2
      simp only [Note.packet, List.getElem?_toArray, List.getElem?_cons_zero, List.getElem?_cons_succ] at p2
      simp only at a4 a6
      clear k5 G4 P4
      go_wp2_with (rw [HE5.out])
      clear HE5 a3 b3 q0
      refine wp_region_plan (fun w' => w'.cell? ⟨w.heap.size, 2, none⟩ = some (.int .i64 ak) ∧ w'.cell? ⟨g, 2, none⟩ = some (.int .i64 t.life) ∧ w'.cell? ⟨g, 4, none⟩ = some (.bool t.up)) (.take 0 (.take 1 (.take 2 (.take 3 (.take 4 (.take 5 (.take 6 (.take 7 (.take 8 (.take 9 (.take 10 (.take 11 (.take 12 (.take 13 (.take 14 (.take 15 (.take 16 (.take 17 (.take 18 (.take 19 .done)))))))))))))))))))) _
        (by simp only [Plan.map, opOf, List.getElem?_toArray, List.getElem?_cons_zero, List.getElem?_cons_succ, Option.getD_some]; rfl) (by kernel_rfl) (by kernel_rfl) (by kernel_rfl) (by decide) (by intro c a d v w; cases d <;> exact fun h => h) ⟨p2, a4, a6⟩ ?_
      repeat (first | (refine wpPlan.taken (by rfl) (by intro w' hS'; (try dsimp only at hS'); go_split_ands; go_simp; try with_reducible rfl) ?_; simp only [Act.put, List.setIfInBounds_toArray, List.set_cons_zero, List.set_cons_succ]) | (refine wpPlan.passed (by rfl) ?_; simp only [Act.put, List.setIfInBounds_toArray, List.set_cons_zero, List.set_cons_succ]))
      refine wpPlan.done ?_
      go_wp2_with fail
      go_ret2
      exact ⟨rfl, G5.out, S5.out.drew⟩
    have e1' : ak = t.life := by simpa [bne] using e1
    cases e2 : t.up
    rotate_left
    · rw [show s.take true ep ak n.port n.state now = (false, 0, { t with known := ep }) by simp [Ses.take, hm, d1', hh, e2]]
      clear hh e1'
      go_enter Tryd.func26, Tryd.ntmps26
      go_wp2_with (rw [HE.out])
      refine (M.out _).mono ?_
      rintro e w1 ⟨rfl, rfl⟩
      go_wp2_with (refine wpList_load_row rfl 36 (.tmp 4) rfl w.heap.size rfl 36 (n.packet ep sq ak (.slice bo n.body.length bc)) (0, 0) _ P1.out Tryd.underlying36 rfl (by kernel_rfl) ?_)
      refine HL.out.mono ?_
      rintro e w2 ⟨rfl, s2⟩
      have G2 := Lib.hid (s2.blk G1.out (fun s => s.elim))
      have P2 := Lib.hid (s2.blk P1.out (fun s => s.elim))
      have S2 := Lib.hid ((S1.out.then_ s2).none (S := (· = g)))
      clear s2 HE P1 G1 S1 HL M
      have q5 := (RC.of G2.out).c3
      have q0 := blk_cell P2.out 0
      simp only [Note.packet, List.getElem?_toArray, List.getElem?_cons_zero] at q0
      go_wp2_with fail
      refine wp_region_plan (fun w' => w'.cell? ⟨w.heap.size, 0, none⟩ = some (.int .i64 ep) ∧ w'.cell? ⟨g, 3, none⟩ = some (.int .i64 s.known)) (.take 0 (.take 1 (.take 2 (.take 3 (.take 4 (.take 5 (.take 6 .done))))))) _
        (by simp only [Plan.map, opOf, List.getElem?_toArray, List.getElem?_cons_zero, List.getElem?_cons_succ, Option.getD_some]; rfl) (by kernel_rfl) (by kernel_rfl) (by kernel_rfl) (by decide) (by intro c a d v w; cases d <;> exact fun h => h) ⟨q0, q5⟩ ?_
      repeat (first | (refine wpPlan.taken (by rfl) (by intro w' hS'; (try dsimp only at hS'); go_split_ands; go_simp; try with_reducible rfl) ?_; simp only [Act.put, List.setIfInBounds_toArray, List.set_cons_zero, List.set_cons_succ]) | (refine wpPlan.passed (by rfl) ?_; simp only [Act.put, List.setIfInBounds_toArray, List.set_cons_zero, List.set_cons_succ]))
      refine wpPlan.done ?_
      have f9 := (RC.of G2.out).fz 7
      have q9 := (RC.of G2.out).c7
      have G3 : (w2.setCell ⟨g, 7, none⟩ (.int .i64 now)).heap[g]? = some (.cells ({ s with link := now } : Ses).rcells 58 (0, 0)) := blk_set G2.out 7 _
      have P3 : (w2.setCell ⟨g, 7, none⟩ (.int .i64 now)).heap[w.heap.size]? = some (.cells (n.packet ep sq ak (.slice bo n.body.length bc)) 36 (0, 0)) := (heap_setCell_other w2 _ _ _ (by simpa using NE.out)).trans P2.out
      have S3 := S2.out.setCell (p := ⟨g, 7, none⟩) (fun _ => rfl) (.int .i64 now)
      obtain ⟨W3, hW3⟩ : ∃ W, w2.setCell ⟨g, 7, none⟩ (.int .i64 now) = W := ⟨_, rfl⟩
      rw [hW3] at G3 P3 S3
      have HE3 := Lib.hid hW3
      have G3 := Lib.hid G3
      have P3 := Lib.hid P3
      have S3 := Lib.hid S3
      clear hW3 G2 P2 S2 q0 q5
      go_wp2_with (rw [HE3.out])
      clear HE3 f9 q9
      have k3 := RC.of G3.out
      have k3c := k3.c3
      have k3u := k3.c4
      have k3p := blk_cell P3.out 0
      simp only [Note.packet, List.getElem?_toArray, List.getElem?_cons_zero] at k3p
      simp only at k3c k3u
      clear k3
      refine wp_region_plan (fun w' => w'.cell? ⟨w.heap.size, 0, none⟩ = some (.int .i64 ep) ∧ w'.cell? ⟨g, 3, none⟩ = some (.int .i64 s.known) ∧ w'.cell? ⟨g, 4, none⟩ = some (.bool s.up)) (.take 0 (.take 1 (.take 2 (.take 3 (.take 4 (.take 5 (.take 6 (.take 7 (.take 8 (.take 9 (.take 10 (.take 11 (.take 12 .done))))))))))))) _
        (by simp only [Plan.map, opOf, List.getElem?_toArray, List.getElem?_cons_zero, List.getElem?_cons_succ, Option.getD_some]; rfl) (by kernel_rfl) (by kernel_rfl) (by kernel_rfl) (by decide) (by intro c a d v w; cases d <;> exact fun h => h) ⟨k3p, k3c, k3u⟩ ?_
      repeat (first | (refine wpPlan.taken (by rfl) (by intro w' hS'; (try dsimp only at hS'); go_split_ands; go_simp; try with_reducible rfl) ?_; simp only [Act.put, List.setIfInBounds_toArray, List.set_cons_zero, List.set_cons_succ]) | (refine wpPlan.passed (by rfl) ?_; simp only [Act.put, List.setIfInBounds_toArray, List.set_cons_zero, List.set_cons_succ]))
      refine wpPlan.done ?_
      go_wp2_with fail
      refine (fresh_any g ({ s with link := now } : Ses) _ OKL.out (by exact G3.out)).mono ?_
      rintro e w4 ⟨rfl, g4, s4⟩
      have P4 := Lib.hid (s4.blk P3.out (fun h => NE.out h))
      have S4 := Lib.hid (S3.out.drew.drew.then_ s4)
      have G4 := Lib.hid g4
      clear g4 s4 G3 P3 S3 k3p k3c k3u
      rw [HT.out] at G4
      have k4 := RC.of G4.out
      have a3 := k4.c3
      have b3 := k4.fz 3
      have q0 := blk_cell P4.out 0
      simp only [Note.packet, List.getElem?_toArray, List.getElem?_cons_zero] at q0
      have G5 : ((w4.setCell ⟨g, 3, none⟩ (.int .i64 ep))).heap[g]? = some (.cells ({ t with known := ep } : Ses).rcells 58 (0, 0)) := blk_set G4.out 3 _
      have P5 : ((w4.setCell ⟨g, 3, none⟩ (.int .i64 ep))).heap[w.heap.size]? = some (.cells (n.packet ep sq ak (.slice bo n.body.length bc)) 36 (0, 0)) := ((Step.refl (· = g) w4).setCell (p := ⟨g, 3, none⟩) (fun _ => rfl) (.int .i64 ep)).blk P4.out (fun h => NE.out h)
      have S5 := (S4.out.setCell (p := ⟨g, 3, none⟩) (fun _ => rfl) (.int .i64 ep))
      obtain ⟨W5, hW5⟩ : ∃ W, (w4.setCell ⟨g, 3, none⟩ (.int .i64 ep)) = W := ⟨_, rfl⟩
      rw [hW5] at G5 P5 S5
      have HE5 := Lib.hid hW5
      have G5 := Lib.hid G5
      have P5 := Lib.hid P5
      have S5 := Lib.hid S5
      clear k4 hW5 S4
      have k5 := RC.of G5.out
      have a4 := k5.c2
      have a6 := k5.c4
      have p2 := blk_cell P5.out 2
      simp only [Note.packet, List.getElem?_toArray, List.getElem?_cons_zero, List.getElem?_cons_succ] at p2
      simp only at a4 a6
      clear k5 G4 P4
      go_wp2_with (rw [HE5.out])
      clear HE5 a3 b3 q0
      refine wp_region_plan (fun w' => w'.cell? ⟨w.heap.size, 2, none⟩ = some (.int .i64 ak) ∧ w'.cell? ⟨g, 2, none⟩ = some (.int .i64 t.life) ∧ w'.cell? ⟨g, 4, none⟩ = some (.bool t.up)) (.take 0 (.take 1 (.take 2 (.take 3 (.take 4 (.take 5 (.take 6 (.take 7 (.take 8 (.take 9 (.take 10 (.take 11 (.take 12 (.take 13 (.take 14 (.take 15 (.take 16 (.take 17 (.take 18 (.take 19 .done)))))))))))))))))))) _
        (by simp only [Plan.map, opOf, List.getElem?_toArray, List.getElem?_cons_zero, List.getElem?_cons_succ, Option.getD_some]; rfl) (by kernel_rfl) (by kernel_rfl) (by kernel_rfl) (by decide) (by intro c a d v w; cases d <;> exact fun h => h) ⟨p2, a4, a6⟩ ?_
      repeat (first | (refine wpPlan.taken (by rfl) (by intro w' hS'; (try dsimp only at hS'); go_split_ands; go_simp; try with_reducible rfl) ?_; simp only [Act.put, List.setIfInBounds_toArray, List.set_cons_zero, List.set_cons_succ]) | (refine wpPlan.passed (by rfl) ?_; simp only [Act.put, List.setIfInBounds_toArray, List.set_cons_zero, List.set_cons_succ]))
      refine wpPlan.done ?_
      go_wp2_with fail
      go_ret2
      exact ⟨rfl, G5.out, S5.out.drew⟩
    cases e3 : (t.life == 536870912)
    rotate_left
    · have e3' : t.life = 536870912 := by simpa using e3
      rw [show s.take true ep ak n.port n.state now = (false, 0, { t with known := ep }) by simp [Ses.take, hm, d1', hh, e3']]
      clear hh e1' e3'
      go_enter Tryd.func26, Tryd.ntmps26
      go_wp2_with (rw [HE.out])
      refine (M.out _).mono ?_
      rintro e w1 ⟨rfl, rfl⟩
      go_wp2_with (refine wpList_load_row rfl 36 (.tmp 4) rfl w.heap.size rfl 36 (n.packet ep sq ak (.slice bo n.body.length bc)) (0, 0) _ P1.out Tryd.underlying36 rfl (by kernel_rfl) ?_)
      refine HL.out.mono ?_
      rintro e w2 ⟨rfl, s2⟩
      have G2 := Lib.hid (s2.blk G1.out (fun s => s.elim))
      have P2 := Lib.hid (s2.blk P1.out (fun s => s.elim))
      have S2 := Lib.hid ((S1.out.then_ s2).none (S := (· = g)))
      clear s2 HE P1 G1 S1 HL M
      have q5 := (RC.of G2.out).c3
      have q0 := blk_cell P2.out 0
      simp only [Note.packet, List.getElem?_toArray, List.getElem?_cons_zero] at q0
      go_wp2_with fail
      refine wp_region_plan (fun w' => w'.cell? ⟨w.heap.size, 0, none⟩ = some (.int .i64 ep) ∧ w'.cell? ⟨g, 3, none⟩ = some (.int .i64 s.known)) (.take 0 (.take 1 (.take 2 (.take 3 (.take 4 (.take 5 (.take 6 .done))))))) _
        (by simp only [Plan.map, opOf, List.getElem?_toArray, List.getElem?_cons_zero, List.getElem?_cons_succ, Option.getD_some]; rfl) (by kernel_rfl) (by kernel_rfl) (by kernel_rfl) (by decide) (by intro c a d v w; cases d <;> exact fun h => h) ⟨q0, q5⟩ ?_
      repeat (first | (refine wpPlan.taken (by rfl) (by intro w' hS'; (try dsimp only at hS'); go_split_ands; go_simp; try with_reducible rfl) ?_; simp only [Act.put, List.setIfInBounds_toArray, List.set_cons_zero, List.set_cons_succ]) | (refine wpPlan.passed (by rfl) ?_; simp only [Act.put, List.setIfInBounds_toArray, List.set_cons_zero, List.set_cons_succ]))
      refine wpPlan.done ?_
      have f9 := (RC.of G2.out).fz 7
      have q9 := (RC.of G2.out).c7
      have G3 : (w2.setCell ⟨g, 7, none⟩ (.int .i64 now)).heap[g]? = some (.cells ({ s with link := now } : Ses).rcells 58 (0, 0)) := blk_set G2.out 7 _
      have P3 : (w2.setCell ⟨g, 7, none⟩ (.int .i64 now)).heap[w.heap.size]? = some (.cells (n.packet ep sq ak (.slice bo n.body.length bc)) 36 (0, 0)) := (heap_setCell_other w2 _ _ _ (by simpa using NE.out)).trans P2.out
      have S3 := S2.out.setCell (p := ⟨g, 7, none⟩) (fun _ => rfl) (.int .i64 now)
      obtain ⟨W3, hW3⟩ : ∃ W, w2.setCell ⟨g, 7, none⟩ (.int .i64 now) = W := ⟨_, rfl⟩
      rw [hW3] at G3 P3 S3
      have HE3 := Lib.hid hW3
      have G3 := Lib.hid G3
      have P3 := Lib.hid P3
      have S3 := Lib.hid S3
      clear hW3 G2 P2 S2 q0 q5
      go_wp2_with (rw [HE3.out])
      clear HE3 f9 q9
      have k3 := RC.of G3.out
      have k3c := k3.c3
      have k3u := k3.c4
      have k3p := blk_cell P3.out 0
      simp only [Note.packet, List.getElem?_toArray, List.getElem?_cons_zero] at k3p
      simp only at k3c k3u
      clear k3
      refine wp_region_plan (fun w' => w'.cell? ⟨w.heap.size, 0, none⟩ = some (.int .i64 ep) ∧ w'.cell? ⟨g, 3, none⟩ = some (.int .i64 s.known) ∧ w'.cell? ⟨g, 4, none⟩ = some (.bool s.up)) (.take 0 (.take 1 (.take 2 (.take 3 (.take 4 (.take 5 (.take 6 (.take 7 (.take 8 (.take 9 (.take 10 (.take 11 (.take 12 .done))))))))))))) _
        (by simp only [Plan.map, opOf, List.getElem?_toArray, List.getElem?_cons_zero, List.getElem?_cons_succ, Option.getD_some]; rfl) (by kernel_rfl) (by kernel_rfl) (by kernel_rfl) (by decide) (by intro c a d v w; cases d <;> exact fun h => h) ⟨k3p, k3c, k3u⟩ ?_
      repeat (first | (refine wpPlan.taken (by rfl) (by intro w' hS'; (try dsimp only at hS'); go_split_ands; go_simp; try with_reducible rfl) ?_; simp only [Act.put, List.setIfInBounds_toArray, List.set_cons_zero, List.set_cons_succ]) | (refine wpPlan.passed (by rfl) ?_; simp only [Act.put, List.setIfInBounds_toArray, List.set_cons_zero, List.set_cons_succ]))
      refine wpPlan.done ?_
      go_wp2_with fail
      refine (fresh_any g ({ s with link := now } : Ses) _ OKL.out (by exact G3.out)).mono ?_
      rintro e w4 ⟨rfl, g4, s4⟩
      have P4 := Lib.hid (s4.blk P3.out (fun h => NE.out h))
      have S4 := Lib.hid (S3.out.drew.drew.then_ s4)
      have G4 := Lib.hid g4
      clear g4 s4 G3 P3 S3 k3p k3c k3u
      rw [HT.out] at G4
      have k4 := RC.of G4.out
      have a3 := k4.c3
      have b3 := k4.fz 3
      have q0 := blk_cell P4.out 0
      simp only [Note.packet, List.getElem?_toArray, List.getElem?_cons_zero] at q0
      have G5 : ((w4.setCell ⟨g, 3, none⟩ (.int .i64 ep))).heap[g]? = some (.cells ({ t with known := ep } : Ses).rcells 58 (0, 0)) := blk_set G4.out 3 _
      have P5 : ((w4.setCell ⟨g, 3, none⟩ (.int .i64 ep))).heap[w.heap.size]? = some (.cells (n.packet ep sq ak (.slice bo n.body.length bc)) 36 (0, 0)) := ((Step.refl (· = g) w4).setCell (p := ⟨g, 3, none⟩) (fun _ => rfl) (.int .i64 ep)).blk P4.out (fun h => NE.out h)
      have S5 := (S4.out.setCell (p := ⟨g, 3, none⟩) (fun _ => rfl) (.int .i64 ep))
      obtain ⟨W5, hW5⟩ : ∃ W, (w4.setCell ⟨g, 3, none⟩ (.int .i64 ep)) = W := ⟨_, rfl⟩
      rw [hW5] at G5 P5 S5
      have HE5 := Lib.hid hW5
      have G5 := Lib.hid G5
      have P5 := Lib.hid P5
      have S5 := Lib.hid S5
      clear k4 hW5 S4
      have k5 := RC.of G5.out
      have a4 := k5.c2
      have a6 := k5.c4
      have p2 := blk_cell P5.out 2
      simp only [Note.packet, List.getElem?_toArray, List.getElem?_cons_zero, List.getElem?_cons_succ] at p2
      simp only at a4 a6
      clear k5 G4 P4
      go_wp2_with (rw [HE5.out])
      clear HE5 a3 b3 q0
      refine wp_region_plan (fun w' => w'.cell? ⟨w.heap.size, 2, none⟩ = some (.int .i64 ak) ∧ w'.cell? ⟨g, 2, none⟩ = some (.int .i64 t.life) ∧ w'.cell? ⟨g, 4, none⟩ = some (.bool t.up)) (.take 0 (.take 1 (.take 2 (.take 3 (.take 4 (.take 5 (.take 6 (.take 7 (.take 8 (.take 9 (.take 10 (.take 11 (.take 12 (.take 13 (.take 14 (.take 15 (.take 16 (.take 17 (.take 18 (.take 19 .done)))))))))))))))))))) _
        (by simp only [Plan.map, opOf, List.getElem?_toArray, List.getElem?_cons_zero, List.getElem?_cons_succ, Option.getD_some]; rfl) (by kernel_rfl) (by kernel_rfl) (by kernel_rfl) (by decide) (by intro c a d v w; cases d <;> exact fun h => h) ⟨p2, a4, a6⟩ ?_
      repeat (first | (refine wpPlan.taken (by rfl) (by intro w' hS'; (try dsimp only at hS'); go_split_ands; go_simp; try with_reducible rfl) ?_; simp only [Act.put, List.setIfInBounds_toArray, List.set_cons_zero, List.set_cons_succ]) | (refine wpPlan.passed (by rfl) ?_; simp only [Act.put, List.setIfInBounds_toArray, List.set_cons_zero, List.set_cons_succ]))
      refine wpPlan.done ?_
      go_wp2_with fail
      go_ret2
      exact ⟨rfl, G5.out, S5.out.drew⟩
    have e3' : ¬ t.life = 536870912 := by simpa using e3
    have hmeet : s.take true ep ak n.port n.state now = (true, 0, ({ t with known := ep, up := true, role := if decide (n.state < t.claim) || (t.claim == n.state && t.first n.port) then 2 else 1 } : Ses)) := by simp [Ses.take, hm, d1', hh, e1', e2, e3', Ses.meet, Ses.first]
    clear hh e1' e3'
    cases m1 : decide (n.state < t.claim)
    · cases m2 : (t.claim == n.state)
      · rw [hmeet, m1, m2, show (if (false || (false && t.first n.port)) = true then (2 : Int) else 1) = 1 from rfl]
        clear hmeet
        go_enter Tryd.func26, Tryd.ntmps26
        go_wp2_with (rw [HE.out])
        refine (M.out _).mono ?_
        rintro e w1 ⟨rfl, rfl⟩
        go_wp2_with (refine wpList_load_row rfl 36 (.tmp 4) rfl w.heap.size rfl 36 (n.packet ep sq ak (.slice bo n.body.length bc)) (0, 0) _ P1.out Tryd.underlying36 rfl (by kernel_rfl) ?_)
        refine HL.out.mono ?_
        rintro e w2 ⟨rfl, s2⟩
        have G2 := Lib.hid (s2.blk G1.out (fun s => s.elim))
        have P2 := Lib.hid (s2.blk P1.out (fun s => s.elim))
        have S2 := Lib.hid ((S1.out.then_ s2).none (S := (· = g)))
        clear s2 HE P1 G1 S1 HL M
        have q5 := (RC.of G2.out).c3
        have q0 := blk_cell P2.out 0
        simp only [Note.packet, List.getElem?_toArray, List.getElem?_cons_zero] at q0
        go_wp2_with fail
        refine wp_region_plan (fun w' => w'.cell? ⟨w.heap.size, 0, none⟩ = some (.int .i64 ep) ∧ w'.cell? ⟨g, 3, none⟩ = some (.int .i64 s.known)) (.take 0 (.take 1 (.take 2 (.take 3 (.take 4 (.take 5 (.take 6 .done))))))) _
          (by simp only [Plan.map, opOf, List.getElem?_toArray, List.getElem?_cons_zero, List.getElem?_cons_succ, Option.getD_some]; rfl) (by kernel_rfl) (by kernel_rfl) (by kernel_rfl) (by decide) (by intro c a d v w; cases d <;> exact fun h => h) ⟨q0, q5⟩ ?_
        repeat (first | (refine wpPlan.taken (by rfl) (by intro w' hS'; (try dsimp only at hS'); go_split_ands; go_simp; try with_reducible rfl) ?_; simp only [Act.put, List.setIfInBounds_toArray, List.set_cons_zero, List.set_cons_succ]) | (refine wpPlan.passed (by rfl) ?_; simp only [Act.put, List.setIfInBounds_toArray, List.set_cons_zero, List.set_cons_succ]))
        refine wpPlan.done ?_
        have f9 := (RC.of G2.out).fz 7
        have q9 := (RC.of G2.out).c7
        have G3 : (w2.setCell ⟨g, 7, none⟩ (.int .i64 now)).heap[g]? = some (.cells ({ s with link := now } : Ses).rcells 58 (0, 0)) := blk_set G2.out 7 _
        have P3 : (w2.setCell ⟨g, 7, none⟩ (.int .i64 now)).heap[w.heap.size]? = some (.cells (n.packet ep sq ak (.slice bo n.body.length bc)) 36 (0, 0)) := (heap_setCell_other w2 _ _ _ (by simpa using NE.out)).trans P2.out
        have S3 := S2.out.setCell (p := ⟨g, 7, none⟩) (fun _ => rfl) (.int .i64 now)
        obtain ⟨W3, hW3⟩ : ∃ W, w2.setCell ⟨g, 7, none⟩ (.int .i64 now) = W := ⟨_, rfl⟩
        rw [hW3] at G3 P3 S3
        have HE3 := Lib.hid hW3
        have G3 := Lib.hid G3
        have P3 := Lib.hid P3
        have S3 := Lib.hid S3
        clear hW3 G2 P2 S2 q0 q5
        go_wp2_with (rw [HE3.out])
        clear HE3 f9 q9
        have k3 := RC.of G3.out
        have k3c := k3.c3
        have k3u := k3.c4
        have k3p := blk_cell P3.out 0
        simp only [Note.packet, List.getElem?_toArray, List.getElem?_cons_zero] at k3p
        simp only at k3c k3u
        clear k3
        refine wp_region_plan (fun w' => w'.cell? ⟨w.heap.size, 0, none⟩ = some (.int .i64 ep) ∧ w'.cell? ⟨g, 3, none⟩ = some (.int .i64 s.known) ∧ w'.cell? ⟨g, 4, none⟩ = some (.bool s.up)) (.take 0 (.take 1 (.take 2 (.take 3 (.take 4 (.take 5 (.take 6 (.take 7 (.take 8 (.take 9 (.take 10 (.take 11 (.take 12 .done))))))))))))) _
          (by simp only [Plan.map, opOf, List.getElem?_toArray, List.getElem?_cons_zero, List.getElem?_cons_succ, Option.getD_some]; rfl) (by kernel_rfl) (by kernel_rfl) (by kernel_rfl) (by decide) (by intro c a d v w; cases d <;> exact fun h => h) ⟨k3p, k3c, k3u⟩ ?_
        repeat (first | (refine wpPlan.taken (by rfl) (by intro w' hS'; (try dsimp only at hS'); go_split_ands; go_simp; try with_reducible rfl) ?_; simp only [Act.put, List.setIfInBounds_toArray, List.set_cons_zero, List.set_cons_succ]) | (refine wpPlan.passed (by rfl) ?_; simp only [Act.put, List.setIfInBounds_toArray, List.set_cons_zero, List.set_cons_succ]))
        refine wpPlan.done ?_
        go_wp2_with fail
        refine (fresh_any g ({ s with link := now } : Ses) _ OKL.out (by exact G3.out)).mono ?_
        rintro e w4 ⟨rfl, g4, s4⟩
        have P4 := Lib.hid (s4.blk P3.out (fun h => NE.out h))
        have S4 := Lib.hid (S3.out.drew.drew.then_ s4)
        have G4 := Lib.hid g4
        clear g4 s4 G3 P3 S3 k3p k3c k3u
        rw [HT.out] at G4
        have k4 := RC.of G4.out
        have a3 := k4.c3
        have b3 := k4.fz 3
        have q0 := blk_cell P4.out 0
        simp only [Note.packet, List.getElem?_toArray, List.getElem?_cons_zero] at q0
        have G5 : ((w4.setCell ⟨g, 3, none⟩ (.int .i64 ep))).heap[g]? = some (.cells ({ t with known := ep } : Ses).rcells 58 (0, 0)) := blk_set G4.out 3 _
        have P5 : ((w4.setCell ⟨g, 3, none⟩ (.int .i64 ep))).heap[w.heap.size]? = some (.cells (n.packet ep sq ak (.slice bo n.body.length bc)) 36 (0, 0)) := ((Step.refl (· = g) w4).setCell (p := ⟨g, 3, none⟩) (fun _ => rfl) (.int .i64 ep)).blk P4.out (fun h => NE.out h)
        have S5 := (S4.out.setCell (p := ⟨g, 3, none⟩) (fun _ => rfl) (.int .i64 ep))
        obtain ⟨W5, hW5⟩ : ∃ W, (w4.setCell ⟨g, 3, none⟩ (.int .i64 ep)) = W := ⟨_, rfl⟩
        rw [hW5] at G5 P5 S5
        have HE5 := Lib.hid hW5
        have G5 := Lib.hid G5
        have P5 := Lib.hid P5
        have S5 := Lib.hid S5
        clear k4 hW5 S4
        have k5 := RC.of G5.out
        have a4 := k5.c2
        have a6 := k5.c4
        have p2 := blk_cell P5.out 2
        simp only [Note.packet, List.getElem?_toArray, List.getElem?_cons_zero, List.getElem?_cons_succ] at p2
        simp only at a4 a6
        clear k5 G4 P4
        go_wp2_with (rw [HE5.out])
        clear HE5 a3 b3 q0
        refine wp_region_plan (fun w' => w'.cell? ⟨w.heap.size, 2, none⟩ = some (.int .i64 ak) ∧ w'.cell? ⟨g, 2, none⟩ = some (.int .i64 t.life) ∧ w'.cell? ⟨g, 4, none⟩ = some (.bool t.up)) (.take 0 (.take 1 (.take 2 (.take 3 (.take 4 (.take 5 (.take 6 (.take 7 (.take 8 (.take 9 (.take 10 (.take 11 (.take 12 (.take 13 (.take 14 (.take 15 (.take 16 (.take 17 (.take 18 (.take 19 .done)))))))))))))))))))) _
          (by simp only [Plan.map, opOf, List.getElem?_toArray, List.getElem?_cons_zero, List.getElem?_cons_succ, Option.getD_some]; rfl) (by kernel_rfl) (by kernel_rfl) (by kernel_rfl) (by decide) (by intro c a d v w; cases d <;> exact fun h => h) ⟨p2, a4, a6⟩ ?_
        repeat (first | (refine wpPlan.taken (by rfl) (by intro w' hS'; (try dsimp only at hS'); go_split_ands; go_simp; try with_reducible rfl) ?_; simp only [Act.put, List.setIfInBounds_toArray, List.set_cons_zero, List.set_cons_succ]) | (refine wpPlan.passed (by rfl) ?_; simp only [Act.put, List.setIfInBounds_toArray, List.set_cons_zero, List.set_cons_succ]))
        refine wpPlan.done ?_
        have b6 := (RC.of G5.out).fz 4
        have b5 := (RC.of G5.out).fz 5
        have G6 : ((W5.setCell ⟨g, 4, none⟩ (.bool true)).setCell ⟨g, 5, none⟩ (.int .i64 1)).heap[g]? = some (.cells ({ t with known := ep, up := true, role := 1 } : Ses).rcells 58 (0, 0)) := blk_set (blk_set G5.out 4 _) 5 _
        have st6 := ((Step.refl (· = g) W5).setCell (p := ⟨g, 4, none⟩) (fun _ => rfl) (.bool true)).setCell (p := ⟨g, 5, none⟩) (fun _ => rfl) (.int .i64 1)
        have P6 := st6.blk P5.out (fun h => NE.out h)
        have p12 := blk_cell P6 12
        have p12' := blk_cell P5.out 12
        have p12'' := blk_cell (((Step.refl (· = g) W5).setCell (p := ⟨g, 4, none⟩) (fun _ => rfl) (.bool true)).blk P5.out (fun h => NE.out h)) 12
        have p11 := blk_cell P6 11
        have S6 := Lib.hid (S5.out.then_ st6)
        simp only [Note.packet, List.getElem?_toArray, List.getElem?_cons_zero, List.getElem?_cons_succ] at p12 p11 p12' p12''
        have a5 := (RC.of G5.out).c5
        obtain ⟨W6, hW6⟩ : ∃ W, (W5.setCell ⟨g, 4, none⟩ (.bool true)).setCell ⟨g, 5, none⟩ (.int .i64 1) = W := ⟨_, rfl⟩
        rw [hW6] at G6 S6 p12 p11
        have HE6 := Lib.hid hW6
        have G6 := Lib.hid G6
        have FA := Lib.hid (first_any g ({ t with known := ep, up := true, role := 1 } : Ses) n.port W6.drew G6.out)
        have k6 := (RC.of G6.out).c6
        have f6 := (RC.of G6.out).fz 5
        have r6 := (RC.of G6.out).c5
        simp only at k6
        rw [show ({ t with known := ep, up := true, role := 1 } : Ses).first n.port = t.first n.port from rfl] at FA
        clear hW6 P6 st6 G5 S5 P5 p2 a4
        go_wp2_with (rw [HE6.out])
        go_wp2_with fail
        go_ret2
        exact ⟨rfl, G6.out, S6.out.drew⟩
      · cases m3 : t.first n.port
        · rw [hmeet, m1, m2, m3, show (if (false || (true && false)) = true then (2 : Int) else 1) = 1 from rfl]
          clear hmeet
          go_enter Tryd.func26, Tryd.ntmps26
          go_wp2_with (rw [HE.out])
          refine (M.out _).mono ?_
          rintro e w1 ⟨rfl, rfl⟩
          go_wp2_with (refine wpList_load_row rfl 36 (.tmp 4) rfl w.heap.size rfl 36 (n.packet ep sq ak (.slice bo n.body.length bc)) (0, 0) _ P1.out Tryd.underlying36 rfl (by kernel_rfl) ?_)
          refine HL.out.mono ?_
          rintro e w2 ⟨rfl, s2⟩
          have G2 := Lib.hid (s2.blk G1.out (fun s => s.elim))
          have P2 := Lib.hid (s2.blk P1.out (fun s => s.elim))
          have S2 := Lib.hid ((S1.out.then_ s2).none (S := (· = g)))
          clear s2 HE P1 G1 S1 HL M
          have q5 := (RC.of G2.out).c3
          have q0 := blk_cell P2.out 0
          simp only [Note.packet, List.getElem?_toArray, List.getElem?_cons_zero] at q0
          go_wp2_with fail
          refine wp_region_plan (fun w' => w'.cell? ⟨w.heap.size, 0, none⟩ = some (.int .i64 ep) ∧ w'.cell? ⟨g, 3, none⟩ = some (.int .i64 s.known)) (.take 0 (.take 1 (.take 2 (.take 3 (.take 4 (.take 5 (.take 6 .done))))))) _
            (by simp only [Plan.map, opOf, List.getElem?_toArray, List.getElem?_cons_zero, List.getElem?_cons_succ, Option.getD_some]; rfl) (by kernel_rfl) (by kernel_rfl) (by kernel_rfl) (by decide) (by intro c a d v w; cases d <;> exact fun h => h) ⟨q0, q5⟩ ?_
          repeat (first | (refine wpPlan.taken (by rfl) (by intro w' hS'; (try dsimp only at hS'); go_split_ands; go_simp; try with_reducible rfl) ?_; simp only [Act.put, List.setIfInBounds_toArray, List.set_cons_zero, List.set_cons_succ]) | (refine wpPlan.passed (by rfl) ?_; simp only [Act.put, List.setIfInBounds_toArray, List.set_cons_zero, List.set_cons_succ]))
          refine wpPlan.done ?_
          have f9 := (RC.of G2.out).fz 7
          have q9 := (RC.of G2.out).c7
          have G3 : (w2.setCell ⟨g, 7, none⟩ (.int .i64 now)).heap[g]? = some (.cells ({ s with link := now } : Ses).rcells 58 (0, 0)) := blk_set G2.out 7 _
          have P3 : (w2.setCell ⟨g, 7, none⟩ (.int .i64 now)).heap[w.heap.size]? = some (.cells (n.packet ep sq ak (.slice bo n.body.length bc)) 36 (0, 0)) := (heap_setCell_other w2 _ _ _ (by simpa using NE.out)).trans P2.out
          have S3 := S2.out.setCell (p := ⟨g, 7, none⟩) (fun _ => rfl) (.int .i64 now)
          obtain ⟨W3, hW3⟩ : ∃ W, w2.setCell ⟨g, 7, none⟩ (.int .i64 now) = W := ⟨_, rfl⟩
          rw [hW3] at G3 P3 S3
          have HE3 := Lib.hid hW3
          have G3 := Lib.hid G3
          have P3 := Lib.hid P3
          have S3 := Lib.hid S3
          clear hW3 G2 P2 S2 q0 q5
          go_wp2_with (rw [HE3.out])
          clear HE3 f9 q9
          have k3 := RC.of G3.out
          have k3c := k3.c3
          have k3u := k3.c4
          have k3p := blk_cell P3.out 0
          simp only [Note.packet, List.getElem?_toArray, List.getElem?_cons_zero] at k3p
          simp only at k3c k3u
          clear k3
          refine wp_region_plan (fun w' => w'.cell? ⟨w.heap.size, 0, none⟩ = some (.int .i64 ep) ∧ w'.cell? ⟨g, 3, none⟩ = some (.int .i64 s.known) ∧ w'.cell? ⟨g, 4, none⟩ = some (.bool s.up)) (.take 0 (.take 1 (.take 2 (.take 3 (.take 4 (.take 5 (.take 6 (.take 7 (.take 8 (.take 9 (.take 10 (.take 11 (.take 12 .done))))))))))))) _
            (by simp only [Plan.map, opOf, List.getElem?_toArray, List.getElem?_cons_zero, List.getElem?_cons_succ, Option.getD_some]; rfl) (by kernel_rfl) (by kernel_rfl) (by kernel_rfl) (by decide) (by intro c a d v w; cases d <;> exact fun h => h) ⟨k3p, k3c, k3u⟩ ?_
          repeat (first | (refine wpPlan.taken (by rfl) (by intro w' hS'; (try dsimp only at hS'); go_split_ands; go_simp; try with_reducible rfl) ?_; simp only [Act.put, List.setIfInBounds_toArray, List.set_cons_zero, List.set_cons_succ]) | (refine wpPlan.passed (by rfl) ?_; simp only [Act.put, List.setIfInBounds_toArray, List.set_cons_zero, List.set_cons_succ]))
          refine wpPlan.done ?_
          go_wp2_with fail
          refine (fresh_any g ({ s with link := now } : Ses) _ OKL.out (by exact G3.out)).mono ?_
          rintro e w4 ⟨rfl, g4, s4⟩
          have P4 := Lib.hid (s4.blk P3.out (fun h => NE.out h))
          have S4 := Lib.hid (S3.out.drew.drew.then_ s4)
          have G4 := Lib.hid g4
          clear g4 s4 G3 P3 S3 k3p k3c k3u
          rw [HT.out] at G4
          have k4 := RC.of G4.out
          have a3 := k4.c3
          have b3 := k4.fz 3
          have q0 := blk_cell P4.out 0
          simp only [Note.packet, List.getElem?_toArray, List.getElem?_cons_zero] at q0
          have G5 : ((w4.setCell ⟨g, 3, none⟩ (.int .i64 ep))).heap[g]? = some (.cells ({ t with known := ep } : Ses).rcells 58 (0, 0)) := blk_set G4.out 3 _
          have P5 : ((w4.setCell ⟨g, 3, none⟩ (.int .i64 ep))).heap[w.heap.size]? = some (.cells (n.packet ep sq ak (.slice bo n.body.length bc)) 36 (0, 0)) := ((Step.refl (· = g) w4).setCell (p := ⟨g, 3, none⟩) (fun _ => rfl) (.int .i64 ep)).blk P4.out (fun h => NE.out h)
          have S5 := (S4.out.setCell (p := ⟨g, 3, none⟩) (fun _ => rfl) (.int .i64 ep))
          obtain ⟨W5, hW5⟩ : ∃ W, (w4.setCell ⟨g, 3, none⟩ (.int .i64 ep)) = W := ⟨_, rfl⟩
          rw [hW5] at G5 P5 S5
          have HE5 := Lib.hid hW5
          have G5 := Lib.hid G5
          have P5 := Lib.hid P5
          have S5 := Lib.hid S5
          clear k4 hW5 S4
          have k5 := RC.of G5.out
          have a4 := k5.c2
          have a6 := k5.c4
          have p2 := blk_cell P5.out 2
          simp only [Note.packet, List.getElem?_toArray, List.getElem?_cons_zero, List.getElem?_cons_succ] at p2
          simp only at a4 a6
          clear k5 G4 P4
          go_wp2_with (rw [HE5.out])
          clear HE5 a3 b3 q0
          refine wp_region_plan (fun w' => w'.cell? ⟨w.heap.size, 2, none⟩ = some (.int .i64 ak) ∧ w'.cell? ⟨g, 2, none⟩ = some (.int .i64 t.life) ∧ w'.cell? ⟨g, 4, none⟩ = some (.bool t.up)) (.take 0 (.take 1 (.take 2 (.take 3 (.take 4 (.take 5 (.take 6 (.take 7 (.take 8 (.take 9 (.take 10 (.take 11 (.take 12 (.take 13 (.take 14 (.take 15 (.take 16 (.take 17 (.take 18 (.take 19 .done)))))))))))))))))))) _
            (by simp only [Plan.map, opOf, List.getElem?_toArray, List.getElem?_cons_zero, List.getElem?_cons_succ, Option.getD_some]; rfl) (by kernel_rfl) (by kernel_rfl) (by kernel_rfl) (by decide) (by intro c a d v w; cases d <;> exact fun h => h) ⟨p2, a4, a6⟩ ?_
          repeat (first | (refine wpPlan.taken (by rfl) (by intro w' hS'; (try dsimp only at hS'); go_split_ands; go_simp; try with_reducible rfl) ?_; simp only [Act.put, List.setIfInBounds_toArray, List.set_cons_zero, List.set_cons_succ]) | (refine wpPlan.passed (by rfl) ?_; simp only [Act.put, List.setIfInBounds_toArray, List.set_cons_zero, List.set_cons_succ]))
          refine wpPlan.done ?_
          have b6 := (RC.of G5.out).fz 4
          have b5 := (RC.of G5.out).fz 5
          have G6 : ((W5.setCell ⟨g, 4, none⟩ (.bool true)).setCell ⟨g, 5, none⟩ (.int .i64 1)).heap[g]? = some (.cells ({ t with known := ep, up := true, role := 1 } : Ses).rcells 58 (0, 0)) := blk_set (blk_set G5.out 4 _) 5 _
          have st6 := ((Step.refl (· = g) W5).setCell (p := ⟨g, 4, none⟩) (fun _ => rfl) (.bool true)).setCell (p := ⟨g, 5, none⟩) (fun _ => rfl) (.int .i64 1)
          have P6 := st6.blk P5.out (fun h => NE.out h)
          have p12 := blk_cell P6 12
          have p12' := blk_cell P5.out 12
          have p12'' := blk_cell (((Step.refl (· = g) W5).setCell (p := ⟨g, 4, none⟩) (fun _ => rfl) (.bool true)).blk P5.out (fun h => NE.out h)) 12
          have p11 := blk_cell P6 11
          have S6 := Lib.hid (S5.out.then_ st6)
          simp only [Note.packet, List.getElem?_toArray, List.getElem?_cons_zero, List.getElem?_cons_succ] at p12 p11 p12' p12''
          have a5 := (RC.of G5.out).c5
          obtain ⟨W6, hW6⟩ : ∃ W, (W5.setCell ⟨g, 4, none⟩ (.bool true)).setCell ⟨g, 5, none⟩ (.int .i64 1) = W := ⟨_, rfl⟩
          rw [hW6] at G6 S6 p12 p11
          have HE6 := Lib.hid hW6
          have G6 := Lib.hid G6
          have FA := Lib.hid (first_any g ({ t with known := ep, up := true, role := 1 } : Ses) n.port W6.drew G6.out)
          have k6 := (RC.of G6.out).c6
          have f6 := (RC.of G6.out).fz 5
          have r6 := (RC.of G6.out).c5
          simp only at k6
          rw [show ({ t with known := ep, up := true, role := 1 } : Ses).first n.port = t.first n.port from rfl] at FA
          clear hW6 P6 st6 G5 S5 P5 p2 a4
          go_wp2_with (rw [HE6.out])
          rw [m3] at FA
          refine (FA.out).mono ?_
          rintro e w7 ⟨rfl, rfl⟩
          go_wp2_with fail
          go_ret2
          exact ⟨rfl, G6.out, S6.out.drew⟩
        · rw [hmeet, m1, m2, m3, show (if (false || (true && true)) = true then (2 : Int) else 1) = 2 from rfl]
          clear hmeet
          go_enter Tryd.func26, Tryd.ntmps26
          go_wp2_with (rw [HE.out])
          refine (M.out _).mono ?_
          rintro e w1 ⟨rfl, rfl⟩
          go_wp2_with (refine wpList_load_row rfl 36 (.tmp 4) rfl w.heap.size rfl 36 (n.packet ep sq ak (.slice bo n.body.length bc)) (0, 0) _ P1.out Tryd.underlying36 rfl (by kernel_rfl) ?_)
          refine HL.out.mono ?_
          rintro e w2 ⟨rfl, s2⟩
          have G2 := Lib.hid (s2.blk G1.out (fun s => s.elim))
          have P2 := Lib.hid (s2.blk P1.out (fun s => s.elim))
          have S2 := Lib.hid ((S1.out.then_ s2).none (S := (· = g)))
          clear s2 HE P1 G1 S1 HL M
          have q5 := (RC.of G2.out).c3
          have q0 := blk_cell P2.out 0
          simp only [Note.packet, List.getElem?_toArray, List.getElem?_cons_zero] at q0
          go_wp2_with fail
          refine wp_region_plan (fun w' => w'.cell? ⟨w.heap.size, 0, none⟩ = some (.int .i64 ep) ∧ w'.cell? ⟨g, 3, none⟩ = some (.int .i64 s.known)) (.take 0 (.take 1 (.take 2 (.take 3 (.take 4 (.take 5 (.take 6 .done))))))) _
            (by simp only [Plan.map, opOf, List.getElem?_toArray, List.getElem?_cons_zero, List.getElem?_cons_succ, Option.getD_some]; rfl) (by kernel_rfl) (by kernel_rfl) (by kernel_rfl) (by decide) (by intro c a d v w; cases d <;> exact fun h => h) ⟨q0, q5⟩ ?_
          repeat (first | (refine wpPlan.taken (by rfl) (by intro w' hS'; (try dsimp only at hS'); go_split_ands; go_simp; try with_reducible rfl) ?_; simp only [Act.put, List.setIfInBounds_toArray, List.set_cons_zero, List.set_cons_succ]) | (refine wpPlan.passed (by rfl) ?_; simp only [Act.put, List.setIfInBounds_toArray, List.set_cons_zero, List.set_cons_succ]))
          refine wpPlan.done ?_
          have f9 := (RC.of G2.out).fz 7
          have q9 := (RC.of G2.out).c7
          have G3 : (w2.setCell ⟨g, 7, none⟩ (.int .i64 now)).heap[g]? = some (.cells ({ s with link := now } : Ses).rcells 58 (0, 0)) := blk_set G2.out 7 _
          have P3 : (w2.setCell ⟨g, 7, none⟩ (.int .i64 now)).heap[w.heap.size]? = some (.cells (n.packet ep sq ak (.slice bo n.body.length bc)) 36 (0, 0)) := (heap_setCell_other w2 _ _ _ (by simpa using NE.out)).trans P2.out
          have S3 := S2.out.setCell (p := ⟨g, 7, none⟩) (fun _ => rfl) (.int .i64 now)
          obtain ⟨W3, hW3⟩ : ∃ W, w2.setCell ⟨g, 7, none⟩ (.int .i64 now) = W := ⟨_, rfl⟩
          rw [hW3] at G3 P3 S3
          have HE3 := Lib.hid hW3
          have G3 := Lib.hid G3
          have P3 := Lib.hid P3
          have S3 := Lib.hid S3
          clear hW3 G2 P2 S2 q0 q5
          go_wp2_with (rw [HE3.out])
          clear HE3 f9 q9
          have k3 := RC.of G3.out
          have k3c := k3.c3
          have k3u := k3.c4
          have k3p := blk_cell P3.out 0
          simp only [Note.packet, List.getElem?_toArray, List.getElem?_cons_zero] at k3p
          simp only at k3c k3u
          clear k3
          refine wp_region_plan (fun w' => w'.cell? ⟨w.heap.size, 0, none⟩ = some (.int .i64 ep) ∧ w'.cell? ⟨g, 3, none⟩ = some (.int .i64 s.known) ∧ w'.cell? ⟨g, 4, none⟩ = some (.bool s.up)) (.take 0 (.take 1 (.take 2 (.take 3 (.take 4 (.take 5 (.take 6 (.take 7 (.take 8 (.take 9 (.take 10 (.take 11 (.take 12 .done))))))))))))) _
            (by simp only [Plan.map, opOf, List.getElem?_toArray, List.getElem?_cons_zero, List.getElem?_cons_succ, Option.getD_some]; rfl) (by kernel_rfl) (by kernel_rfl) (by kernel_rfl) (by decide) (by intro c a d v w; cases d <;> exact fun h => h) ⟨k3p, k3c, k3u⟩ ?_
          repeat (first | (refine wpPlan.taken (by rfl) (by intro w' hS'; (try dsimp only at hS'); go_split_ands; go_simp; try with_reducible rfl) ?_; simp only [Act.put, List.setIfInBounds_toArray, List.set_cons_zero, List.set_cons_succ]) | (refine wpPlan.passed (by rfl) ?_; simp only [Act.put, List.setIfInBounds_toArray, List.set_cons_zero, List.set_cons_succ]))
          refine wpPlan.done ?_
          go_wp2_with fail
          refine (fresh_any g ({ s with link := now } : Ses) _ OKL.out (by exact G3.out)).mono ?_
          rintro e w4 ⟨rfl, g4, s4⟩
          have P4 := Lib.hid (s4.blk P3.out (fun h => NE.out h))
          have S4 := Lib.hid (S3.out.drew.drew.then_ s4)
          have G4 := Lib.hid g4
          clear g4 s4 G3 P3 S3 k3p k3c k3u
          rw [HT.out] at G4
          have k4 := RC.of G4.out
          have a3 := k4.c3
          have b3 := k4.fz 3
          have q0 := blk_cell P4.out 0
          simp only [Note.packet, List.getElem?_toArray, List.getElem?_cons_zero] at q0
          have G5 : ((w4.setCell ⟨g, 3, none⟩ (.int .i64 ep))).heap[g]? = some (.cells ({ t with known := ep } : Ses).rcells 58 (0, 0)) := blk_set G4.out 3 _
          have P5 : ((w4.setCell ⟨g, 3, none⟩ (.int .i64 ep))).heap[w.heap.size]? = some (.cells (n.packet ep sq ak (.slice bo n.body.length bc)) 36 (0, 0)) := ((Step.refl (· = g) w4).setCell (p := ⟨g, 3, none⟩) (fun _ => rfl) (.int .i64 ep)).blk P4.out (fun h => NE.out h)
          have S5 := (S4.out.setCell (p := ⟨g, 3, none⟩) (fun _ => rfl) (.int .i64 ep))
          obtain ⟨W5, hW5⟩ : ∃ W, (w4.setCell ⟨g, 3, none⟩ (.int .i64 ep)) = W := ⟨_, rfl⟩
          rw [hW5] at G5 P5 S5
          have HE5 := Lib.hid hW5
          have G5 := Lib.hid G5
          have P5 := Lib.hid P5
          have S5 := Lib.hid S5
          clear k4 hW5 S4
          have k5 := RC.of G5.out
          have a4 := k5.c2
          have a6 := k5.c4
          have p2 := blk_cell P5.out 2
          simp only [Note.packet, List.getElem?_toArray, List.getElem?_cons_zero, List.getElem?_cons_succ] at p2
          simp only at a4 a6
          clear k5 G4 P4
          go_wp2_with (rw [HE5.out])
          clear HE5 a3 b3 q0
          refine wp_region_plan (fun w' => w'.cell? ⟨w.heap.size, 2, none⟩ = some (.int .i64 ak) ∧ w'.cell? ⟨g, 2, none⟩ = some (.int .i64 t.life) ∧ w'.cell? ⟨g, 4, none⟩ = some (.bool t.up)) (.take 0 (.take 1 (.take 2 (.take 3 (.take 4 (.take 5 (.take 6 (.take 7 (.take 8 (.take 9 (.take 10 (.take 11 (.take 12 (.take 13 (.take 14 (.take 15 (.take 16 (.take 17 (.take 18 (.take 19 .done)))))))))))))))))))) _
            (by simp only [Plan.map, opOf, List.getElem?_toArray, List.getElem?_cons_zero, List.getElem?_cons_succ, Option.getD_some]; rfl) (by kernel_rfl) (by kernel_rfl) (by kernel_rfl) (by decide) (by intro c a d v w; cases d <;> exact fun h => h) ⟨p2, a4, a6⟩ ?_
          repeat (first | (refine wpPlan.taken (by rfl) (by intro w' hS'; (try dsimp only at hS'); go_split_ands; go_simp; try with_reducible rfl) ?_; simp only [Act.put, List.setIfInBounds_toArray, List.set_cons_zero, List.set_cons_succ]) | (refine wpPlan.passed (by rfl) ?_; simp only [Act.put, List.setIfInBounds_toArray, List.set_cons_zero, List.set_cons_succ]))
          refine wpPlan.done ?_
          have b6 := (RC.of G5.out).fz 4
          have b5 := (RC.of G5.out).fz 5
          have G6 : ((W5.setCell ⟨g, 4, none⟩ (.bool true)).setCell ⟨g, 5, none⟩ (.int .i64 1)).heap[g]? = some (.cells ({ t with known := ep, up := true, role := 1 } : Ses).rcells 58 (0, 0)) := blk_set (blk_set G5.out 4 _) 5 _
          have st6 := ((Step.refl (· = g) W5).setCell (p := ⟨g, 4, none⟩) (fun _ => rfl) (.bool true)).setCell (p := ⟨g, 5, none⟩) (fun _ => rfl) (.int .i64 1)
          have P6 := st6.blk P5.out (fun h => NE.out h)
          have p12 := blk_cell P6 12
          have p12' := blk_cell P5.out 12
          have p12'' := blk_cell (((Step.refl (· = g) W5).setCell (p := ⟨g, 4, none⟩) (fun _ => rfl) (.bool true)).blk P5.out (fun h => NE.out h)) 12
          have p11 := blk_cell P6 11
          have S6 := Lib.hid (S5.out.then_ st6)
          simp only [Note.packet, List.getElem?_toArray, List.getElem?_cons_zero, List.getElem?_cons_succ] at p12 p11 p12' p12''
          have a5 := (RC.of G5.out).c5
          obtain ⟨W6, hW6⟩ : ∃ W, (W5.setCell ⟨g, 4, none⟩ (.bool true)).setCell ⟨g, 5, none⟩ (.int .i64 1) = W := ⟨_, rfl⟩
          rw [hW6] at G6 S6 p12 p11
          have HE6 := Lib.hid hW6
          have G6 := Lib.hid G6
          have FA := Lib.hid (first_any g ({ t with known := ep, up := true, role := 1 } : Ses) n.port W6.drew G6.out)
          have k6 := (RC.of G6.out).c6
          have f6 := (RC.of G6.out).fz 5
          have r6 := (RC.of G6.out).c5
          simp only at k6
          rw [show ({ t with known := ep, up := true, role := 1 } : Ses).first n.port = t.first n.port from rfl] at FA
          clear hW6 P6 st6 G5 S5 P5 p2 a4
          go_wp2_with (rw [HE6.out])
          rw [m3] at FA
          refine (FA.out).mono ?_
          rintro e w7 ⟨rfl, rfl⟩
          go_wp2_with fail
          go_ret2
          exact ⟨rfl, by show (W6.setCell ⟨g, 5, none⟩ (.int .i64 2)).heap[g]? = _; rw [blk_set G6.out 5 _]; rfl, (S6.out.setCell (p := ⟨g, 5, none⟩) (fun _ => rfl) _).drew⟩
    · rw [hmeet, m1, show (if (true || (t.claim == n.state && t.first n.port)) = true then (2 : Int) else 1) = 2 from rfl]
      clear hmeet
      go_enter Tryd.func26, Tryd.ntmps26
      go_wp2_with (rw [HE.out])
      refine (M.out _).mono ?_
      rintro e w1 ⟨rfl, rfl⟩
      go_wp2_with (refine wpList_load_row rfl 36 (.tmp 4) rfl w.heap.size rfl 36 (n.packet ep sq ak (.slice bo n.body.length bc)) (0, 0) _ P1.out Tryd.underlying36 rfl (by kernel_rfl) ?_)
      refine HL.out.mono ?_
      rintro e w2 ⟨rfl, s2⟩
      have G2 := Lib.hid (s2.blk G1.out (fun s => s.elim))
      have P2 := Lib.hid (s2.blk P1.out (fun s => s.elim))
      have S2 := Lib.hid ((S1.out.then_ s2).none (S := (· = g)))
      clear s2 HE P1 G1 S1 HL M
      have q5 := (RC.of G2.out).c3
      have q0 := blk_cell P2.out 0
      simp only [Note.packet, List.getElem?_toArray, List.getElem?_cons_zero] at q0
      go_wp2_with fail
      refine wp_region_plan (fun w' => w'.cell? ⟨w.heap.size, 0, none⟩ = some (.int .i64 ep) ∧ w'.cell? ⟨g, 3, none⟩ = some (.int .i64 s.known)) (.take 0 (.take 1 (.take 2 (.take 3 (.take 4 (.take 5 (.take 6 .done))))))) _
        (by simp only [Plan.map, opOf, List.getElem?_toArray, List.getElem?_cons_zero, List.getElem?_cons_succ, Option.getD_some]; rfl) (by kernel_rfl) (by kernel_rfl) (by kernel_rfl) (by decide) (by intro c a d v w; cases d <;> exact fun h => h) ⟨q0, q5⟩ ?_
      repeat (first | (refine wpPlan.taken (by rfl) (by intro w' hS'; (try dsimp only at hS'); go_split_ands; go_simp; try with_reducible rfl) ?_; simp only [Act.put, List.setIfInBounds_toArray, List.set_cons_zero, List.set_cons_succ]) | (refine wpPlan.passed (by rfl) ?_; simp only [Act.put, List.setIfInBounds_toArray, List.set_cons_zero, List.set_cons_succ]))
      refine wpPlan.done ?_
      have f9 := (RC.of G2.out).fz 7
      have q9 := (RC.of G2.out).c7
      have G3 : (w2.setCell ⟨g, 7, none⟩ (.int .i64 now)).heap[g]? = some (.cells ({ s with link := now } : Ses).rcells 58 (0, 0)) := blk_set G2.out 7 _
      have P3 : (w2.setCell ⟨g, 7, none⟩ (.int .i64 now)).heap[w.heap.size]? = some (.cells (n.packet ep sq ak (.slice bo n.body.length bc)) 36 (0, 0)) := (heap_setCell_other w2 _ _ _ (by simpa using NE.out)).trans P2.out
      have S3 := S2.out.setCell (p := ⟨g, 7, none⟩) (fun _ => rfl) (.int .i64 now)
      obtain ⟨W3, hW3⟩ : ∃ W, w2.setCell ⟨g, 7, none⟩ (.int .i64 now) = W := ⟨_, rfl⟩
      rw [hW3] at G3 P3 S3
      have HE3 := Lib.hid hW3
      have G3 := Lib.hid G3
      have P3 := Lib.hid P3
      have S3 := Lib.hid S3
      clear hW3 G2 P2 S2 q0 q5
      go_wp2_with (rw [HE3.out])
      clear HE3 f9 q9
      have k3 := RC.of G3.out
      have k3c := k3.c3
      have k3u := k3.c4
      have k3p := blk_cell P3.out 0
      simp only [Note.packet, List.getElem?_toArray, List.getElem?_cons_zero] at k3p
      simp only at k3c k3u
      clear k3
      refine wp_region_plan (fun w' => w'.cell? ⟨w.heap.size, 0, none⟩ = some (.int .i64 ep) ∧ w'.cell? ⟨g, 3, none⟩ = some (.int .i64 s.known) ∧ w'.cell? ⟨g, 4, none⟩ = some (.bool s.up)) (.take 0 (.take 1 (.take 2 (.take 3 (.take 4 (.take 5 (.take 6 (.take 7 (.take 8 (.take 9 (.take 10 (.take 11 (.take 12 .done))))))))))))) _
        (by simp only [Plan.map, opOf, List.getElem?_toArray, List.getElem?_cons_zero, List.getElem?_cons_succ, Option.getD_some]; rfl) (by kernel_rfl) (by kernel_rfl) (by kernel_rfl) (by decide) (by intro c a d v w; cases d <;> exact fun h => h) ⟨k3p, k3c, k3u⟩ ?_
      repeat (first | (refine wpPlan.taken (by rfl) (by intro w' hS'; (try dsimp only at hS'); go_split_ands; go_simp; try with_reducible rfl) ?_; simp only [Act.put, List.setIfInBounds_toArray, List.set_cons_zero, List.set_cons_succ]) | (refine wpPlan.passed (by rfl) ?_; simp only [Act.put, List.setIfInBounds_toArray, List.set_cons_zero, List.set_cons_succ]))
      refine wpPlan.done ?_
      go_wp2_with fail
      refine (fresh_any g ({ s with link := now } : Ses) _ OKL.out (by exact G3.out)).mono ?_
      rintro e w4 ⟨rfl, g4, s4⟩
      have P4 := Lib.hid (s4.blk P3.out (fun h => NE.out h))
      have S4 := Lib.hid (S3.out.drew.drew.then_ s4)
      have G4 := Lib.hid g4
      clear g4 s4 G3 P3 S3 k3p k3c k3u
      rw [HT.out] at G4
      have k4 := RC.of G4.out
      have a3 := k4.c3
      have b3 := k4.fz 3
      have q0 := blk_cell P4.out 0
      simp only [Note.packet, List.getElem?_toArray, List.getElem?_cons_zero] at q0
      have G5 : ((w4.setCell ⟨g, 3, none⟩ (.int .i64 ep))).heap[g]? = some (.cells ({ t with known := ep } : Ses).rcells 58 (0, 0)) := blk_set G4.out 3 _
      have P5 : ((w4.setCell ⟨g, 3, none⟩ (.int .i64 ep))).heap[w.heap.size]? = some (.cells (n.packet ep sq ak (.slice bo n.body.length bc)) 36 (0, 0)) := ((Step.refl (· = g) w4).setCell (p := ⟨g, 3, none⟩) (fun _ => rfl) (.int .i64 ep)).blk P4.out (fun h => NE.out h)
      have S5 := (S4.out.setCell (p := ⟨g, 3, none⟩) (fun _ => rfl) (.int .i64 ep))
      obtain ⟨W5, hW5⟩ : ∃ W, (w4.setCell ⟨g, 3, none⟩ (.int .i64 ep)) = W := ⟨_, rfl⟩
      rw [hW5] at G5 P5 S5
      have HE5 := Lib.hid hW5
      have G5 := Lib.hid G5
      have P5 := Lib.hid P5
      have S5 := Lib.hid S5
      clear k4 hW5 S4
      have k5 := RC.of G5.out
      have a4 := k5.c2
      have a6 := k5.c4
      have p2 := blk_cell P5.out 2
      simp only [Note.packet, List.getElem?_toArray, List.getElem?_cons_zero, List.getElem?_cons_succ] at p2
      simp only at a4 a6
      clear k5 G4 P4
      go_wp2_with (rw [HE5.out])
      clear HE5 a3 b3 q0
      refine wp_region_plan (fun w' => w'.cell? ⟨w.heap.size, 2, none⟩ = some (.int .i64 ak) ∧ w'.cell? ⟨g, 2, none⟩ = some (.int .i64 t.life) ∧ w'.cell? ⟨g, 4, none⟩ = some (.bool t.up)) (.take 0 (.take 1 (.take 2 (.take 3 (.take 4 (.take 5 (.take 6 (.take 7 (.take 8 (.take 9 (.take 10 (.take 11 (.take 12 (.take 13 (.take 14 (.take 15 (.take 16 (.take 17 (.take 18 (.take 19 .done)))))))))))))))))))) _
        (by simp only [Plan.map, opOf, List.getElem?_toArray, List.getElem?_cons_zero, List.getElem?_cons_succ, Option.getD_some]; rfl) (by kernel_rfl) (by kernel_rfl) (by kernel_rfl) (by decide) (by intro c a d v w; cases d <;> exact fun h => h) ⟨p2, a4, a6⟩ ?_
      repeat (first | (refine wpPlan.taken (by rfl) (by intro w' hS'; (try dsimp only at hS'); go_split_ands; go_simp; try with_reducible rfl) ?_; simp only [Act.put, List.setIfInBounds_toArray, List.set_cons_zero, List.set_cons_succ]) | (refine wpPlan.passed (by rfl) ?_; simp only [Act.put, List.setIfInBounds_toArray, List.set_cons_zero, List.set_cons_succ]))
      refine wpPlan.done ?_
      have b6 := (RC.of G5.out).fz 4
      have b5 := (RC.of G5.out).fz 5
      have G6 : ((W5.setCell ⟨g, 4, none⟩ (.bool true)).setCell ⟨g, 5, none⟩ (.int .i64 1)).heap[g]? = some (.cells ({ t with known := ep, up := true, role := 1 } : Ses).rcells 58 (0, 0)) := blk_set (blk_set G5.out 4 _) 5 _
      have st6 := ((Step.refl (· = g) W5).setCell (p := ⟨g, 4, none⟩) (fun _ => rfl) (.bool true)).setCell (p := ⟨g, 5, none⟩) (fun _ => rfl) (.int .i64 1)
      have P6 := st6.blk P5.out (fun h => NE.out h)
      have p12 := blk_cell P6 12
      have p12' := blk_cell P5.out 12
      have p12'' := blk_cell (((Step.refl (· = g) W5).setCell (p := ⟨g, 4, none⟩) (fun _ => rfl) (.bool true)).blk P5.out (fun h => NE.out h)) 12
      have p11 := blk_cell P6 11
      have S6 := Lib.hid (S5.out.then_ st6)
      simp only [Note.packet, List.getElem?_toArray, List.getElem?_cons_zero, List.getElem?_cons_succ] at p12 p11 p12' p12''
      have a5 := (RC.of G5.out).c5
      obtain ⟨W6, hW6⟩ : ∃ W, (W5.setCell ⟨g, 4, none⟩ (.bool true)).setCell ⟨g, 5, none⟩ (.int .i64 1) = W := ⟨_, rfl⟩
      rw [hW6] at G6 S6 p12 p11
      have HE6 := Lib.hid hW6
      have G6 := Lib.hid G6
      have FA := Lib.hid (first_any g ({ t with known := ep, up := true, role := 1 } : Ses) n.port W6.drew G6.out)
      have k6 := (RC.of G6.out).c6
      have f6 := (RC.of G6.out).fz 5
      have r6 := (RC.of G6.out).c5
      simp only at k6
      rw [show ({ t with known := ep, up := true, role := 1 } : Ses).first n.port = t.first n.port from rfl] at FA
      clear hW6 P6 st6 G5 S5 P5 p2 a4
      go_wp2_with (rw [HE6.out])
      go_wp2_with fail
      go_ret2
      exact ⟨rfl, by show (W6.setCell ⟨g, 5, none⟩ (.int .i64 2)).heap[g]? = _; rw [blk_set G6.out 5 _]; rfl, (S6.out.setCell (p := ⟨g, 5, none⟩) (fun _ => rfl) _).drew⟩
end Go.Proofs.YtaacpjihkmklbaaDoor
