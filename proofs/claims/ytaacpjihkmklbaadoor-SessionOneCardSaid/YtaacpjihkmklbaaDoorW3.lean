/- Take. -/
import Derived.Test.YtaacpjihkmklbaaDoorW2
namespace Go.Proofs.YtaacpjihkmklbaaDoor
open Go.RowKit Go.Gm

set_option maxHeartbeats 16000000 in
theorem take_any (g : Nat) (s : Ses) (op ep sq ak now : Int) (n : Note) (bo : Option Addr) (bc : Nat) (w : World) (hT : HasAt 0 w) (hs : s.Ok) (h : w.heap[g]? = some (.cells (s.cells op) 63 (0, 0)))
    (hb : Bytes w (.slice bo n.body.length bc) n.body) (hbl : n.body.length ≤ 10000) :
    Calls Tryd.prog 10 #[.pointer (some ⟨g, 0, none⟩), .agg (n.packet ep sq ak (.slice bo n.body.length bc)), .int .i64 now] w fun e w' => ∃ op', e = .returned (.tuple #[.bool (s.take (helB ep sq ak n) ep ak n.port n.state now).1, .int .i64 (s.take (helB ep sq ak n) ep ak n.port n.state now).2.1]) ∧ w'.heap[g]? = some (.cells ((s.take (helB ep sq ak n) ep ak n.port n.state now).2.2.cells op') 63 (0, 0)) ∧ Step (· = g) w w' := by
  have M := Lib.hid (moment_any now)
  have s1 := (Step.refl None w).alloc (.cells (n.packet ep sq ak (.slice bo n.body.length bc)) 36)
  have p1 := heap_alloc_new w (.cells (n.packet ep sq ak (.slice bo n.body.length bc)) 36)
  have g1 := s1.blk h (fun s => s.elim)
  have NE : Hid (¬ w.heap.size = g) := Lib.hid (by have := blk_lt h; omega)
  obtain ⟨W, hW⟩ : ∃ W, w.alloc (.cells (n.packet ep sq ak (.slice bo n.body.length bc)) 36) = W := ⟨_, rfl⟩
  rw [hW] at s1 p1 g1
  have HL := Lib.hid (hello_any ep sq ak n bo bc W (hT.still s1) (hb.step s1 (fun _ _ s => s.elim)) hbl)
  have HE := Lib.hid hW
  have P1 := Lib.hid p1
  have S1 := Lib.hid s1
  have G1 := Lib.hid g1
  have HS := Lib.hid hs
  have HR : helB ep sq ak n = true → 1 ≤ ep ∧ ep ≤ 536870912 := fun h => by
    unfold helB at h
    simp only [Bool.and_eq_true, decide_eq_true_eq] at h
    exact ⟨h.1.2, h.2⟩
  clear hW p1 s1 g1 hT hb hbl h hs
  generalize helB ep sq ak n = hel at *
  cases hm : mom now
  · rw [hm] at M
    rw [show s.take hel ep ak n.port n.state now = (false, 1, s) by simp [Ses.take, hm]]
    go_enter Tryd.func10, Tryd.ntmps10
    go_wp2_with (rw [HE.out])
    refine (M.out _).mono ?_
    rintro e w1 ⟨rfl, rfl⟩
    go_wp2_with fail
    go_ret2
    exact ⟨op, rfl, G1.out, S1.out.none⟩
  rw [hm] at M
  cases hel
  · rw [show s.take false ep ak n.port n.state now = (false, 2, s) by simp [Ses.take, hm]]
    go_enter Tryd.func10, Tryd.ntmps10
    go_wp2_with (rw [HE.out])
    refine (M.out _).mono ?_
    rintro e w1 ⟨rfl, rfl⟩
    go_wp2_with (refine wpList_load_row rfl 36 (.tmp 4) rfl w.heap.size rfl 36 (n.packet ep sq ak (.slice bo n.body.length bc)) (0, 0) _ P1.out Tryd.underlying36 rfl (by kernel_rfl) ?_)
    refine HL.out.mono ?_
    rintro e w2 ⟨rfl, s2⟩
    have G2 := Lib.hid (s2.blk G1.out (fun s => s.elim))
    have P2 := Lib.hid (s2.blk P1.out (fun s => s.elim))
    have S2 := Lib.hid ((S1.out.then_ s2).none (S := (· = g)))
    clear s2 HE P1 G1 S1 HL M
    go_wp2_with fail
    go_ret2
    exact ⟨op, rfl, G2.out, S2.out⟩
  have he := HR rfl
  cases d1 : decide (ep < s.known)
  rotate_left
  · have d1' : ep < s.known := by simpa using d1
    rw [show s.take true ep ak n.port n.state now = (false, 6, s) by simp [Ses.take, hm, d1']]
    go_enter Tryd.func10, Tryd.ntmps10
    go_wp2_with (rw [HE.out])
    refine (M.out _).mono ?_
    rintro e w1 ⟨rfl, rfl⟩
    go_wp2_with (refine wpList_load_row rfl 36 (.tmp 4) rfl w.heap.size rfl 36 (n.packet ep sq ak (.slice bo n.body.length bc)) (0, 0) _ P1.out Tryd.underlying36 rfl (by kernel_rfl) ?_)
    refine HL.out.mono ?_
    rintro e w2 ⟨rfl, s2⟩
    have G2 := Lib.hid (s2.blk G1.out (fun s => s.elim))
    have P2 := Lib.hid (s2.blk P1.out (fun s => s.elim))
    have S2 := Lib.hid ((S1.out.then_ s2).none (S := (· = g)))
    clear s2 HE P1 G1 S1 HL M
    have q5 := (SC.of G2.out).c5
    have q0 := blk_cell P2.out 0
    simp only [Note.packet, List.getElem?_toArray, List.getElem?_cons_zero] at q0
    go_wp2_with fail
    refine wp_region_plan (fun w' => w'.cell? ⟨w.heap.size, 0, none⟩ = some (.int .i64 ep) ∧ w'.cell? ⟨g, 5, none⟩ = some (.int .i64 s.known)) (.take 0 (.take 1 (.take 2 (.take 3 (.take 4 (.take 5 (.take 6 (.take 7 .done)))))))) _
      (by simp only [Plan.map, opOf, List.getElem?_toArray, List.getElem?_cons_zero, List.getElem?_cons_succ, Option.getD_some]; rfl) (by kernel_rfl) (by kernel_rfl) (by kernel_rfl) (by decide) (by intro c a d v w; cases d <;> exact fun h => h) ⟨q0, q5⟩ ?_
    repeat (first | (refine wpPlan.taken (by rfl) (by intro w' hS'; (try dsimp only at hS'); go_split_ands; go_simp; try with_reducible rfl) ?_; simp only [Act.put, List.setIfInBounds_toArray, List.set_cons_zero, List.set_cons_succ]) | (refine wpPlan.passed (by rfl) ?_; simp only [Act.put, List.setIfInBounds_toArray, List.set_cons_zero, List.set_cons_succ]))
    refine wpPlan.done ?_
    go_wp2_with fail
    go_ret2
    exact ⟨op, rfl, G2.out, S2.out.drew⟩
  have d1' : ¬ ep < s.known := by simpa using d1
  have hn : 0 ≤ now ∧ now ≤ 1099511627776 := by simpa [mom] using hm
  have OKL : Hid (({ s with link := now } : Ses).Ok) := Lib.hid ⟨HS.out.id, HS.out.prio, HS.out.life, HS.out.known, HS.out.role, HS.out.claim, hn, HS.out.beat⟩
  have hd : s.heard ep now = { (if decide (s.known < ep) && s.up then ({ s with link := now } : Ses).fresh else ({ s with link := now } : Ses)) with known := ep } := rfl
  cases d2 : decide (s.known < ep)
  · obtain ⟨t, ht⟩ : ∃ t, ({ s with link := now } : Ses) = t := ⟨_, rfl⟩
    have HT := Lib.hid ht
    have TOK : Hid t.Ok := Lib.hid (by rw [← ht]; exact OKL.out)
    have hh : s.heard ep now = { t with known := ep } := by have hc : (decide (s.known < ep) && s.up) = false := (by rw [d2]; rfl); rw [hd, hc, ← ht]; rfl
    clear ht hd
    have TOK6 : Hid (({ t with known := ep, up := true } : Ses).Ok) := Lib.hid ⟨TOK.out.id, TOK.out.prio, TOK.out.life, ⟨show 0 ≤ ep by omega, show ep ≤ 536870912 from he.2⟩, TOK.out.role, TOK.out.claim, TOK.out.link, TOK.out.beat⟩
    cases e1 : (ak != t.life)
    rotate_left
    · have e1' : ¬ ak = t.life := by simpa [bne] using e1
      rw [show s.take true ep ak n.port n.state now = (false, 0, { t with known := ep }) by simp [Ses.take, hm, d1', hh, e1']]
      clear hh e1'
      go_enter Tryd.func10, Tryd.ntmps10
      go_wp2_with (rw [HE.out])
      refine (M.out _).mono ?_
      rintro e w1 ⟨rfl, rfl⟩
      go_wp2_with (refine wpList_load_row rfl 36 (.tmp 4) rfl w.heap.size rfl 36 (n.packet ep sq ak (.slice bo n.body.length bc)) (0, 0) _ P1.out Tryd.underlying36 rfl (by kernel_rfl) ?_)
      refine HL.out.mono ?_
      rintro e w2 ⟨rfl, s2⟩
      have G2 := Lib.hid (s2.blk G1.out (fun s => s.elim))
      have P2 := Lib.hid (s2.blk P1.out (fun s => s.elim))
      have S2 := Lib.hid ((S1.out.then_ s2).none (S := (· = g)))
      clear s2 HE P1 G1 S1 HL M
      have q5 := (SC.of G2.out).c5
      have q0 := blk_cell P2.out 0
      simp only [Note.packet, List.getElem?_toArray, List.getElem?_cons_zero] at q0
      go_wp2_with fail
      refine wp_region_plan (fun w' => w'.cell? ⟨w.heap.size, 0, none⟩ = some (.int .i64 ep) ∧ w'.cell? ⟨g, 5, none⟩ = some (.int .i64 s.known)) (.take 0 (.take 1 (.take 2 (.take 3 (.take 4 (.take 5 (.take 6 (.take 7 .done)))))))) _
        (by simp only [Plan.map, opOf, List.getElem?_toArray, List.getElem?_cons_zero, List.getElem?_cons_succ, Option.getD_some]; rfl) (by kernel_rfl) (by kernel_rfl) (by kernel_rfl) (by decide) (by intro c a d v w; cases d <;> exact fun h => h) ⟨q0, q5⟩ ?_
      repeat (first | (refine wpPlan.taken (by rfl) (by intro w' hS'; (try dsimp only at hS'); go_split_ands; go_simp; try with_reducible rfl) ?_; simp only [Act.put, List.setIfInBounds_toArray, List.set_cons_zero, List.set_cons_succ]) | (refine wpPlan.passed (by rfl) ?_; simp only [Act.put, List.setIfInBounds_toArray, List.set_cons_zero, List.set_cons_succ]))
      refine wpPlan.done ?_
      have f9 := (SC.of G2.out).fz 9
      have q9 := (SC.of G2.out).c9
      have G3 : (w2.setCell ⟨g, 9, none⟩ (.int .i64 now)).heap[g]? = some (.cells (({ s with link := now } : Ses).cells op) 63 (0, 0)) := blk_set G2.out 9 _
      have P3 : (w2.setCell ⟨g, 9, none⟩ (.int .i64 now)).heap[w.heap.size]? = some (.cells (n.packet ep sq ak (.slice bo n.body.length bc)) 36 (0, 0)) := (heap_setCell_other w2 _ _ _ (by simpa using NE.out)).trans P2.out
      have S3 := S2.out.setCell (p := ⟨g, 9, none⟩) (fun _ => rfl) (.int .i64 now)
      obtain ⟨W3, hW3⟩ : ∃ W, w2.setCell ⟨g, 9, none⟩ (.int .i64 now) = W := ⟨_, rfl⟩
      rw [hW3] at G3 P3 S3
      have HE3 := Lib.hid hW3
      have G3 := Lib.hid G3
      have P3 := Lib.hid P3
      have S3 := Lib.hid S3
      clear hW3 G2 P2 S2 q0 q5
      go_wp2_with (rw [HE3.out])
      clear HE3 f9 q9
      have k3 := SC.of G3.out
      have k3c := k3.c5
      have k3u := k3.c6
      have k3p := blk_cell P3.out 0
      simp only [Note.packet, List.getElem?_toArray, List.getElem?_cons_zero] at k3p
      simp only at k3c k3u
      clear k3
      refine wp_region_plan (fun w' => w'.cell? ⟨w.heap.size, 0, none⟩ = some (.int .i64 ep) ∧ w'.cell? ⟨g, 5, none⟩ = some (.int .i64 s.known) ∧ w'.cell? ⟨g, 6, none⟩ = some (.bool s.up)) (.take 0 (.take 1 (.take 2 (.take 3 (.take 4 (.take 5 (.take 6 (.take 7 (.take 8 (.take 9 (.take 10 (.take 11 (.take 12 .done))))))))))))) _
        (by simp only [Plan.map, opOf, List.getElem?_toArray, List.getElem?_cons_zero, List.getElem?_cons_succ, Option.getD_some]; rfl) (by kernel_rfl) (by kernel_rfl) (by kernel_rfl) (by decide) (by intro c a d v w; cases d <;> exact fun h => h) ⟨k3p, k3c, k3u⟩ ?_
      repeat (first | (refine wpPlan.taken (by rfl) (by intro w' hS'; (try dsimp only at hS'); go_split_ands; go_simp; try with_reducible rfl) ?_; simp only [Act.put, List.setIfInBounds_toArray, List.set_cons_zero, List.set_cons_succ]) | (refine wpPlan.passed (by rfl) ?_; simp only [Act.put, List.setIfInBounds_toArray, List.set_cons_zero, List.set_cons_succ]))
      refine wpPlan.done ?_
      go_wp2_with fail
      have P4 := P3
      have S4 := S3
      have G4 := G3
      clear k3p k3c k3u
      rw [HT.out] at G4
      have k4 := SC.of G4.out
      have a5 := k4.c5
      have a2 := k4.c2
      have b5 := k4.fz 5
      have b2 := k4.fz 2
      have K4 : Hid (∀ w', Step (· = g) W3 w' → w'.cell? ⟨w.heap.size, 0, none⟩ = some (.int .i64 ep) ∧ w'.cell? ⟨w.heap.size, 11, none⟩ = some (.int .i64 n.port)) := Lib.hid fun w' h' =>
        have k := blk_cell (h'.blk P4.out (fun h => NE.out h))
        ⟨k 0, k 11⟩
      have G5 : (((W3.setCell ⟨g, 5, none⟩ (.int .i64 ep)).setCell ⟨g, 2, none⟩ (.int .i64 n.port)).drew.drew.drew).heap[g]? = some (.cells (({ t with known := ep } : Ses).cells n.port) 63 (0, 0)) := blk_set (blk_set G4.out 5 _) 2 _
      have P5 : (((W3.setCell ⟨g, 5, none⟩ (.int .i64 ep)).setCell ⟨g, 2, none⟩ (.int .i64 n.port)).drew.drew.drew).heap[w.heap.size]? = some (.cells (n.packet ep sq ak (.slice bo n.body.length bc)) 36 (0, 0)) := (((Step.refl (· = g) W3).setCell (p := ⟨g, 5, none⟩) (fun _ => rfl) (.int .i64 ep)).setCell (p := ⟨g, 2, none⟩) (fun _ => rfl) (.int .i64 n.port)).drew.drew.drew.blk P4.out (fun h => NE.out h)
      have S5 := ((S4.out.setCell (p := ⟨g, 5, none⟩) (fun _ => rfl) (.int .i64 ep)).setCell (p := ⟨g, 2, none⟩) (fun _ => rfl) (.int .i64 n.port)).drew.drew.drew
      obtain ⟨W5, hW5⟩ : ∃ W, ((W3.setCell ⟨g, 5, none⟩ (.int .i64 ep)).setCell ⟨g, 2, none⟩ (.int .i64 n.port)).drew.drew.drew = W := ⟨_, rfl⟩
      rw [hW5] at G5 P5 S5
      have HE5 := Lib.hid hW5
      have G5 := Lib.hid G5
      have P5 := Lib.hid P5
      have S5 := Lib.hid S5
      clear k4 hW5 S4
      go_wp2_with fail
      refine wp_region_plan (fun w' => w'.cell? ⟨w.heap.size, 0, none⟩ = some (.int .i64 ep) ∧ w'.cell? ⟨w.heap.size, 11, none⟩ = some (.int .i64 n.port)) (.take 0 (.take 1 (.take 2 (.take 3 (.take 4 (.take 5 (.take 6 (.take 7 (.take 8 (.take 10 (.take 11 (.alt 9 (.take 12 (.alt 13 .done .none)) .none)))))))))))) _
        (by simp only [Plan.map, opOf, List.getElem?_toArray, List.getElem?_cons_zero, List.getElem?_cons_succ, Option.getD_some]; rfl) (by kernel_rfl) (by kernel_rfl) (by kernel_rfl) (by decide) (by intro c a d v w; cases d <;> exact fun h => h) (K4.out _ (Step.refl (· = g) W3).drew.drew.drew) ?_
      repeat (first | (refine wpPlan.taken (by rfl) (by intro w' hS'; (try dsimp only at hS'); go_split_ands; go_simp; try with_reducible rfl) ?_; simp only [Act.put, List.setIfInBounds_toArray, List.set_cons_zero, List.set_cons_succ]) | (refine wpPlan.passed (by rfl) ?_; simp only [Act.put, List.setIfInBounds_toArray, List.set_cons_zero, List.set_cons_succ]))
      refine wpPlan.runs fun K' hK => ?_
      go_simp
      refine hK.out _ _ (K4.out _ ((Step.refl (· = g) W3).drew.drew.drew.setCell (p := ⟨g, 5, none⟩) (fun _ => rfl) _)) ?_
      clear hK K'
      repeat (first | (refine wpPlan.taken (by rfl) (by intro w' hS'; (try dsimp only at hS'); go_split_ands; go_simp; try with_reducible rfl) ?_; simp only [Act.put, List.setIfInBounds_toArray, List.set_cons_zero, List.set_cons_succ]) | (refine wpPlan.passed (by rfl) ?_; simp only [Act.put, List.setIfInBounds_toArray, List.set_cons_zero, List.set_cons_succ]))
      refine wpPlan.runs fun K' hK => ?_
      go_simp
      refine hK.out _ _ (K4.out _ (((Step.refl (· = g) W3).drew.drew.drew.setCell (p := ⟨g, 5, none⟩) (fun _ => rfl) _).setCell (p := ⟨g, 2, none⟩) (fun _ => rfl) _)) ?_
      clear hK K'
      refine wpPlan.done ?_
      clear G4 P4 K4 a5 a2 b5 b2
      have k5 := SC.of G5.out
      have a4 := k5.c4
      have a6 := k5.c6
      have p2 := blk_cell P5.out 2
      simp only [Note.packet, List.getElem?_toArray, List.getElem?_cons_zero, List.getElem?_cons_succ] at p2
      simp only at a4 a6
      clear k5
      go_wp2_with (rw [HE5.out])
      clear HE5
      refine wp_region_plan (fun w' => w'.cell? ⟨w.heap.size, 2, none⟩ = some (.int .i64 ak) ∧ w'.cell? ⟨g, 4, none⟩ = some (.int .i64 t.life) ∧ w'.cell? ⟨g, 6, none⟩ = some (.bool t.up)) (.take 0 (.take 1 (.take 2 (.take 3 (.take 4 (.take 5 (.take 6 (.take 7 (.take 8 (.take 9 (.take 10 (.take 11 (.take 12 (.take 13 (.take 14 (.take 15 (.take 16 (.take 17 (.take 18 (.take 19 .done)))))))))))))))))))) _
        (by simp only [Plan.map, opOf, List.getElem?_toArray, List.getElem?_cons_zero, List.getElem?_cons_succ, Option.getD_some]; rfl) (by kernel_rfl) (by kernel_rfl) (by kernel_rfl) (by decide) (by intro c a d v w; cases d <;> exact fun h => h) ⟨p2, a4, a6⟩ ?_
      repeat (first | (refine wpPlan.taken (by rfl) (by intro w' hS'; (try dsimp only at hS'); go_split_ands; go_simp; try with_reducible rfl) ?_; simp only [Act.put, List.setIfInBounds_toArray, List.set_cons_zero, List.set_cons_succ]) | (refine wpPlan.passed (by rfl) ?_; simp only [Act.put, List.setIfInBounds_toArray, List.set_cons_zero, List.set_cons_succ]))
      refine wpPlan.done ?_
      go_wp2_with fail
      go_ret2
      exact ⟨n.port, rfl, G5.out, S5.out.drew⟩
    have e1' : ak = t.life := by simpa [bne] using e1
    cases e2 : t.up
    rotate_left
    · rw [show s.take true ep ak n.port n.state now = (false, 0, { t with known := ep }) by simp [Ses.take, hm, d1', hh, e2]]
      clear hh e1'
      go_enter Tryd.func10, Tryd.ntmps10
      go_wp2_with (rw [HE.out])
      refine (M.out _).mono ?_
      rintro e w1 ⟨rfl, rfl⟩
      go_wp2_with (refine wpList_load_row rfl 36 (.tmp 4) rfl w.heap.size rfl 36 (n.packet ep sq ak (.slice bo n.body.length bc)) (0, 0) _ P1.out Tryd.underlying36 rfl (by kernel_rfl) ?_)
      refine HL.out.mono ?_
      rintro e w2 ⟨rfl, s2⟩
      have G2 := Lib.hid (s2.blk G1.out (fun s => s.elim))
      have P2 := Lib.hid (s2.blk P1.out (fun s => s.elim))
      have S2 := Lib.hid ((S1.out.then_ s2).none (S := (· = g)))
      clear s2 HE P1 G1 S1 HL M
      have q5 := (SC.of G2.out).c5
      have q0 := blk_cell P2.out 0
      simp only [Note.packet, List.getElem?_toArray, List.getElem?_cons_zero] at q0
      go_wp2_with fail
      refine wp_region_plan (fun w' => w'.cell? ⟨w.heap.size, 0, none⟩ = some (.int .i64 ep) ∧ w'.cell? ⟨g, 5, none⟩ = some (.int .i64 s.known)) (.take 0 (.take 1 (.take 2 (.take 3 (.take 4 (.take 5 (.take 6 (.take 7 .done)))))))) _
        (by simp only [Plan.map, opOf, List.getElem?_toArray, List.getElem?_cons_zero, List.getElem?_cons_succ, Option.getD_some]; rfl) (by kernel_rfl) (by kernel_rfl) (by kernel_rfl) (by decide) (by intro c a d v w; cases d <;> exact fun h => h) ⟨q0, q5⟩ ?_
      repeat (first | (refine wpPlan.taken (by rfl) (by intro w' hS'; (try dsimp only at hS'); go_split_ands; go_simp; try with_reducible rfl) ?_; simp only [Act.put, List.setIfInBounds_toArray, List.set_cons_zero, List.set_cons_succ]) | (refine wpPlan.passed (by rfl) ?_; simp only [Act.put, List.setIfInBounds_toArray, List.set_cons_zero, List.set_cons_succ]))
      refine wpPlan.done ?_
      have f9 := (SC.of G2.out).fz 9
      have q9 := (SC.of G2.out).c9
      have G3 : (w2.setCell ⟨g, 9, none⟩ (.int .i64 now)).heap[g]? = some (.cells (({ s with link := now } : Ses).cells op) 63 (0, 0)) := blk_set G2.out 9 _
      have P3 : (w2.setCell ⟨g, 9, none⟩ (.int .i64 now)).heap[w.heap.size]? = some (.cells (n.packet ep sq ak (.slice bo n.body.length bc)) 36 (0, 0)) := (heap_setCell_other w2 _ _ _ (by simpa using NE.out)).trans P2.out
      have S3 := S2.out.setCell (p := ⟨g, 9, none⟩) (fun _ => rfl) (.int .i64 now)
      obtain ⟨W3, hW3⟩ : ∃ W, w2.setCell ⟨g, 9, none⟩ (.int .i64 now) = W := ⟨_, rfl⟩
      rw [hW3] at G3 P3 S3
      have HE3 := Lib.hid hW3
      have G3 := Lib.hid G3
      have P3 := Lib.hid P3
      have S3 := Lib.hid S3
      clear hW3 G2 P2 S2 q0 q5
      go_wp2_with (rw [HE3.out])
      clear HE3 f9 q9
      have k3 := SC.of G3.out
      have k3c := k3.c5
      have k3u := k3.c6
      have k3p := blk_cell P3.out 0
      simp only [Note.packet, List.getElem?_toArray, List.getElem?_cons_zero] at k3p
      simp only at k3c k3u
      clear k3
      refine wp_region_plan (fun w' => w'.cell? ⟨w.heap.size, 0, none⟩ = some (.int .i64 ep) ∧ w'.cell? ⟨g, 5, none⟩ = some (.int .i64 s.known) ∧ w'.cell? ⟨g, 6, none⟩ = some (.bool s.up)) (.take 0 (.take 1 (.take 2 (.take 3 (.take 4 (.take 5 (.take 6 (.take 7 (.take 8 (.take 9 (.take 10 (.take 11 (.take 12 .done))))))))))))) _
        (by simp only [Plan.map, opOf, List.getElem?_toArray, List.getElem?_cons_zero, List.getElem?_cons_succ, Option.getD_some]; rfl) (by kernel_rfl) (by kernel_rfl) (by kernel_rfl) (by decide) (by intro c a d v w; cases d <;> exact fun h => h) ⟨k3p, k3c, k3u⟩ ?_
      repeat (first | (refine wpPlan.taken (by rfl) (by intro w' hS'; (try dsimp only at hS'); go_split_ands; go_simp; try with_reducible rfl) ?_; simp only [Act.put, List.setIfInBounds_toArray, List.set_cons_zero, List.set_cons_succ]) | (refine wpPlan.passed (by rfl) ?_; simp only [Act.put, List.setIfInBounds_toArray, List.set_cons_zero, List.set_cons_succ]))
      refine wpPlan.done ?_
      go_wp2_with fail
      have P4 := P3
      have S4 := S3
      have G4 := G3
      clear k3p k3c k3u
      rw [HT.out] at G4
      have k4 := SC.of G4.out
      have a5 := k4.c5
      have a2 := k4.c2
      have b5 := k4.fz 5
      have b2 := k4.fz 2
      have K4 : Hid (∀ w', Step (· = g) W3 w' → w'.cell? ⟨w.heap.size, 0, none⟩ = some (.int .i64 ep) ∧ w'.cell? ⟨w.heap.size, 11, none⟩ = some (.int .i64 n.port)) := Lib.hid fun w' h' =>
        have k := blk_cell (h'.blk P4.out (fun h => NE.out h))
        ⟨k 0, k 11⟩
      have G5 : (((W3.setCell ⟨g, 5, none⟩ (.int .i64 ep)).setCell ⟨g, 2, none⟩ (.int .i64 n.port)).drew.drew.drew).heap[g]? = some (.cells (({ t with known := ep } : Ses).cells n.port) 63 (0, 0)) := blk_set (blk_set G4.out 5 _) 2 _
      have P5 : (((W3.setCell ⟨g, 5, none⟩ (.int .i64 ep)).setCell ⟨g, 2, none⟩ (.int .i64 n.port)).drew.drew.drew).heap[w.heap.size]? = some (.cells (n.packet ep sq ak (.slice bo n.body.length bc)) 36 (0, 0)) := (((Step.refl (· = g) W3).setCell (p := ⟨g, 5, none⟩) (fun _ => rfl) (.int .i64 ep)).setCell (p := ⟨g, 2, none⟩) (fun _ => rfl) (.int .i64 n.port)).drew.drew.drew.blk P4.out (fun h => NE.out h)
      have S5 := ((S4.out.setCell (p := ⟨g, 5, none⟩) (fun _ => rfl) (.int .i64 ep)).setCell (p := ⟨g, 2, none⟩) (fun _ => rfl) (.int .i64 n.port)).drew.drew.drew
      obtain ⟨W5, hW5⟩ : ∃ W, ((W3.setCell ⟨g, 5, none⟩ (.int .i64 ep)).setCell ⟨g, 2, none⟩ (.int .i64 n.port)).drew.drew.drew = W := ⟨_, rfl⟩
      rw [hW5] at G5 P5 S5
      have HE5 := Lib.hid hW5
      have G5 := Lib.hid G5
      have P5 := Lib.hid P5
      have S5 := Lib.hid S5
      clear k4 hW5 S4
      go_wp2_with fail
      refine wp_region_plan (fun w' => w'.cell? ⟨w.heap.size, 0, none⟩ = some (.int .i64 ep) ∧ w'.cell? ⟨w.heap.size, 11, none⟩ = some (.int .i64 n.port)) (.take 0 (.take 1 (.take 2 (.take 3 (.take 4 (.take 5 (.take 6 (.take 7 (.take 8 (.take 10 (.take 11 (.alt 9 (.take 12 (.alt 13 .done .none)) .none)))))))))))) _
        (by simp only [Plan.map, opOf, List.getElem?_toArray, List.getElem?_cons_zero, List.getElem?_cons_succ, Option.getD_some]; rfl) (by kernel_rfl) (by kernel_rfl) (by kernel_rfl) (by decide) (by intro c a d v w; cases d <;> exact fun h => h) (K4.out _ (Step.refl (· = g) W3).drew.drew.drew) ?_
      repeat (first | (refine wpPlan.taken (by rfl) (by intro w' hS'; (try dsimp only at hS'); go_split_ands; go_simp; try with_reducible rfl) ?_; simp only [Act.put, List.setIfInBounds_toArray, List.set_cons_zero, List.set_cons_succ]) | (refine wpPlan.passed (by rfl) ?_; simp only [Act.put, List.setIfInBounds_toArray, List.set_cons_zero, List.set_cons_succ]))
      refine wpPlan.runs fun K' hK => ?_
      go_simp
      refine hK.out _ _ (K4.out _ ((Step.refl (· = g) W3).drew.drew.drew.setCell (p := ⟨g, 5, none⟩) (fun _ => rfl) _)) ?_
      clear hK K'
      repeat (first | (refine wpPlan.taken (by rfl) (by intro w' hS'; (try dsimp only at hS'); go_split_ands; go_simp; try with_reducible rfl) ?_; simp only [Act.put, List.setIfInBounds_toArray, List.set_cons_zero, List.set_cons_succ]) | (refine wpPlan.passed (by rfl) ?_; simp only [Act.put, List.setIfInBounds_toArray, List.set_cons_zero, List.set_cons_succ]))
      refine wpPlan.runs fun K' hK => ?_
      go_simp
      refine hK.out _ _ (K4.out _ (((Step.refl (· = g) W3).drew.drew.drew.setCell (p := ⟨g, 5, none⟩) (fun _ => rfl) _).setCell (p := ⟨g, 2, none⟩) (fun _ => rfl) _)) ?_
      clear hK K'
      refine wpPlan.done ?_
      clear G4 P4 K4 a5 a2 b5 b2
      have k5 := SC.of G5.out
      have a4 := k5.c4
      have a6 := k5.c6
      have p2 := blk_cell P5.out 2
      simp only [Note.packet, List.getElem?_toArray, List.getElem?_cons_zero, List.getElem?_cons_succ] at p2
      simp only at a4 a6
      clear k5
      go_wp2_with (rw [HE5.out])
      clear HE5
      refine wp_region_plan (fun w' => w'.cell? ⟨w.heap.size, 2, none⟩ = some (.int .i64 ak) ∧ w'.cell? ⟨g, 4, none⟩ = some (.int .i64 t.life) ∧ w'.cell? ⟨g, 6, none⟩ = some (.bool t.up)) (.take 0 (.take 1 (.take 2 (.take 3 (.take 4 (.take 5 (.take 6 (.take 7 (.take 8 (.take 9 (.take 10 (.take 11 (.take 12 (.take 13 (.take 14 (.take 15 (.take 16 (.take 17 (.take 18 (.take 19 .done)))))))))))))))))))) _
        (by simp only [Plan.map, opOf, List.getElem?_toArray, List.getElem?_cons_zero, List.getElem?_cons_succ, Option.getD_some]; rfl) (by kernel_rfl) (by kernel_rfl) (by kernel_rfl) (by decide) (by intro c a d v w; cases d <;> exact fun h => h) ⟨p2, a4, a6⟩ ?_
      repeat (first | (refine wpPlan.taken (by rfl) (by intro w' hS'; (try dsimp only at hS'); go_split_ands; go_simp; try with_reducible rfl) ?_; simp only [Act.put, List.setIfInBounds_toArray, List.set_cons_zero, List.set_cons_succ]) | (refine wpPlan.passed (by rfl) ?_; simp only [Act.put, List.setIfInBounds_toArray, List.set_cons_zero, List.set_cons_succ]))
      refine wpPlan.done ?_
      go_wp2_with fail
      go_ret2
      exact ⟨n.port, rfl, G5.out, S5.out.drew⟩
    cases e3 : (t.life == 536870912)
    rotate_left
    · have e3' : t.life = 536870912 := by simpa using e3
      rw [show s.take true ep ak n.port n.state now = (false, 0, { t with known := ep }) by simp [Ses.take, hm, d1', hh, e3']]
      clear hh e1' e3'
      go_enter Tryd.func10, Tryd.ntmps10
      go_wp2_with (rw [HE.out])
      refine (M.out _).mono ?_
      rintro e w1 ⟨rfl, rfl⟩
      go_wp2_with (refine wpList_load_row rfl 36 (.tmp 4) rfl w.heap.size rfl 36 (n.packet ep sq ak (.slice bo n.body.length bc)) (0, 0) _ P1.out Tryd.underlying36 rfl (by kernel_rfl) ?_)
      refine HL.out.mono ?_
      rintro e w2 ⟨rfl, s2⟩
      have G2 := Lib.hid (s2.blk G1.out (fun s => s.elim))
      have P2 := Lib.hid (s2.blk P1.out (fun s => s.elim))
      have S2 := Lib.hid ((S1.out.then_ s2).none (S := (· = g)))
      clear s2 HE P1 G1 S1 HL M
      have q5 := (SC.of G2.out).c5
      have q0 := blk_cell P2.out 0
      simp only [Note.packet, List.getElem?_toArray, List.getElem?_cons_zero] at q0
      go_wp2_with fail
      refine wp_region_plan (fun w' => w'.cell? ⟨w.heap.size, 0, none⟩ = some (.int .i64 ep) ∧ w'.cell? ⟨g, 5, none⟩ = some (.int .i64 s.known)) (.take 0 (.take 1 (.take 2 (.take 3 (.take 4 (.take 5 (.take 6 (.take 7 .done)))))))) _
        (by simp only [Plan.map, opOf, List.getElem?_toArray, List.getElem?_cons_zero, List.getElem?_cons_succ, Option.getD_some]; rfl) (by kernel_rfl) (by kernel_rfl) (by kernel_rfl) (by decide) (by intro c a d v w; cases d <;> exact fun h => h) ⟨q0, q5⟩ ?_
      repeat (first | (refine wpPlan.taken (by rfl) (by intro w' hS'; (try dsimp only at hS'); go_split_ands; go_simp; try with_reducible rfl) ?_; simp only [Act.put, List.setIfInBounds_toArray, List.set_cons_zero, List.set_cons_succ]) | (refine wpPlan.passed (by rfl) ?_; simp only [Act.put, List.setIfInBounds_toArray, List.set_cons_zero, List.set_cons_succ]))
      refine wpPlan.done ?_
      have f9 := (SC.of G2.out).fz 9
      have q9 := (SC.of G2.out).c9
      have G3 : (w2.setCell ⟨g, 9, none⟩ (.int .i64 now)).heap[g]? = some (.cells (({ s with link := now } : Ses).cells op) 63 (0, 0)) := blk_set G2.out 9 _
      have P3 : (w2.setCell ⟨g, 9, none⟩ (.int .i64 now)).heap[w.heap.size]? = some (.cells (n.packet ep sq ak (.slice bo n.body.length bc)) 36 (0, 0)) := (heap_setCell_other w2 _ _ _ (by simpa using NE.out)).trans P2.out
      have S3 := S2.out.setCell (p := ⟨g, 9, none⟩) (fun _ => rfl) (.int .i64 now)
      obtain ⟨W3, hW3⟩ : ∃ W, w2.setCell ⟨g, 9, none⟩ (.int .i64 now) = W := ⟨_, rfl⟩
      rw [hW3] at G3 P3 S3
      have HE3 := Lib.hid hW3
      have G3 := Lib.hid G3
      have P3 := Lib.hid P3
      have S3 := Lib.hid S3
      clear hW3 G2 P2 S2 q0 q5
      go_wp2_with (rw [HE3.out])
      clear HE3 f9 q9
      have k3 := SC.of G3.out
      have k3c := k3.c5
      have k3u := k3.c6
      have k3p := blk_cell P3.out 0
      simp only [Note.packet, List.getElem?_toArray, List.getElem?_cons_zero] at k3p
      simp only at k3c k3u
      clear k3
      refine wp_region_plan (fun w' => w'.cell? ⟨w.heap.size, 0, none⟩ = some (.int .i64 ep) ∧ w'.cell? ⟨g, 5, none⟩ = some (.int .i64 s.known) ∧ w'.cell? ⟨g, 6, none⟩ = some (.bool s.up)) (.take 0 (.take 1 (.take 2 (.take 3 (.take 4 (.take 5 (.take 6 (.take 7 (.take 8 (.take 9 (.take 10 (.take 11 (.take 12 .done))))))))))))) _
        (by simp only [Plan.map, opOf, List.getElem?_toArray, List.getElem?_cons_zero, List.getElem?_cons_succ, Option.getD_some]; rfl) (by kernel_rfl) (by kernel_rfl) (by kernel_rfl) (by decide) (by intro c a d v w; cases d <;> exact fun h => h) ⟨k3p, k3c, k3u⟩ ?_
      repeat (first | (refine wpPlan.taken (by rfl) (by intro w' hS'; (try dsimp only at hS'); go_split_ands; go_simp; try with_reducible rfl) ?_; simp only [Act.put, List.setIfInBounds_toArray, List.set_cons_zero, List.set_cons_succ]) | (refine wpPlan.passed (by rfl) ?_; simp only [Act.put, List.setIfInBounds_toArray, List.set_cons_zero, List.set_cons_succ]))
      refine wpPlan.done ?_
      go_wp2_with fail
      have P4 := P3
      have S4 := S3
      have G4 := G3
      clear k3p k3c k3u
      rw [HT.out] at G4
      have k4 := SC.of G4.out
      have a5 := k4.c5
      have a2 := k4.c2
      have b5 := k4.fz 5
      have b2 := k4.fz 2
      have K4 : Hid (∀ w', Step (· = g) W3 w' → w'.cell? ⟨w.heap.size, 0, none⟩ = some (.int .i64 ep) ∧ w'.cell? ⟨w.heap.size, 11, none⟩ = some (.int .i64 n.port)) := Lib.hid fun w' h' =>
        have k := blk_cell (h'.blk P4.out (fun h => NE.out h))
        ⟨k 0, k 11⟩
      have G5 : (((W3.setCell ⟨g, 5, none⟩ (.int .i64 ep)).setCell ⟨g, 2, none⟩ (.int .i64 n.port)).drew.drew.drew).heap[g]? = some (.cells (({ t with known := ep } : Ses).cells n.port) 63 (0, 0)) := blk_set (blk_set G4.out 5 _) 2 _
      have P5 : (((W3.setCell ⟨g, 5, none⟩ (.int .i64 ep)).setCell ⟨g, 2, none⟩ (.int .i64 n.port)).drew.drew.drew).heap[w.heap.size]? = some (.cells (n.packet ep sq ak (.slice bo n.body.length bc)) 36 (0, 0)) := (((Step.refl (· = g) W3).setCell (p := ⟨g, 5, none⟩) (fun _ => rfl) (.int .i64 ep)).setCell (p := ⟨g, 2, none⟩) (fun _ => rfl) (.int .i64 n.port)).drew.drew.drew.blk P4.out (fun h => NE.out h)
      have S5 := ((S4.out.setCell (p := ⟨g, 5, none⟩) (fun _ => rfl) (.int .i64 ep)).setCell (p := ⟨g, 2, none⟩) (fun _ => rfl) (.int .i64 n.port)).drew.drew.drew
      obtain ⟨W5, hW5⟩ : ∃ W, ((W3.setCell ⟨g, 5, none⟩ (.int .i64 ep)).setCell ⟨g, 2, none⟩ (.int .i64 n.port)).drew.drew.drew = W := ⟨_, rfl⟩
      rw [hW5] at G5 P5 S5
      have HE5 := Lib.hid hW5
      have G5 := Lib.hid G5
      have P5 := Lib.hid P5
      have S5 := Lib.hid S5
      clear k4 hW5 S4
      go_wp2_with fail
      refine wp_region_plan (fun w' => w'.cell? ⟨w.heap.size, 0, none⟩ = some (.int .i64 ep) ∧ w'.cell? ⟨w.heap.size, 11, none⟩ = some (.int .i64 n.port)) (.take 0 (.take 1 (.take 2 (.take 3 (.take 4 (.take 5 (.take 6 (.take 7 (.take 8 (.take 10 (.take 11 (.alt 9 (.take 12 (.alt 13 .done .none)) .none)))))))))))) _
        (by simp only [Plan.map, opOf, List.getElem?_toArray, List.getElem?_cons_zero, List.getElem?_cons_succ, Option.getD_some]; rfl) (by kernel_rfl) (by kernel_rfl) (by kernel_rfl) (by decide) (by intro c a d v w; cases d <;> exact fun h => h) (K4.out _ (Step.refl (· = g) W3).drew.drew.drew) ?_
      repeat (first | (refine wpPlan.taken (by rfl) (by intro w' hS'; (try dsimp only at hS'); go_split_ands; go_simp; try with_reducible rfl) ?_; simp only [Act.put, List.setIfInBounds_toArray, List.set_cons_zero, List.set_cons_succ]) | (refine wpPlan.passed (by rfl) ?_; simp only [Act.put, List.setIfInBounds_toArray, List.set_cons_zero, List.set_cons_succ]))
      refine wpPlan.runs fun K' hK => ?_
      go_simp
      refine hK.out _ _ (K4.out _ ((Step.refl (· = g) W3).drew.drew.drew.setCell (p := ⟨g, 5, none⟩) (fun _ => rfl) _)) ?_
      clear hK K'
      repeat (first | (refine wpPlan.taken (by rfl) (by intro w' hS'; (try dsimp only at hS'); go_split_ands; go_simp; try with_reducible rfl) ?_; simp only [Act.put, List.setIfInBounds_toArray, List.set_cons_zero, List.set_cons_succ]) | (refine wpPlan.passed (by rfl) ?_; simp only [Act.put, List.setIfInBounds_toArray, List.set_cons_zero, List.set_cons_succ]))
      refine wpPlan.runs fun K' hK => ?_
      go_simp
      refine hK.out _ _ (K4.out _ (((Step.refl (· = g) W3).drew.drew.drew.setCell (p := ⟨g, 5, none⟩) (fun _ => rfl) _).setCell (p := ⟨g, 2, none⟩) (fun _ => rfl) _)) ?_
      clear hK K'
      refine wpPlan.done ?_
      clear G4 P4 K4 a5 a2 b5 b2
      have k5 := SC.of G5.out
      have a4 := k5.c4
      have a6 := k5.c6
      have p2 := blk_cell P5.out 2
      simp only [Note.packet, List.getElem?_toArray, List.getElem?_cons_zero, List.getElem?_cons_succ] at p2
      simp only at a4 a6
      clear k5
      go_wp2_with (rw [HE5.out])
      clear HE5
      refine wp_region_plan (fun w' => w'.cell? ⟨w.heap.size, 2, none⟩ = some (.int .i64 ak) ∧ w'.cell? ⟨g, 4, none⟩ = some (.int .i64 t.life) ∧ w'.cell? ⟨g, 6, none⟩ = some (.bool t.up)) (.take 0 (.take 1 (.take 2 (.take 3 (.take 4 (.take 5 (.take 6 (.take 7 (.take 8 (.take 9 (.take 10 (.take 11 (.take 12 (.take 13 (.take 14 (.take 15 (.take 16 (.take 17 (.take 18 (.take 19 .done)))))))))))))))))))) _
        (by simp only [Plan.map, opOf, List.getElem?_toArray, List.getElem?_cons_zero, List.getElem?_cons_succ, Option.getD_some]; rfl) (by kernel_rfl) (by kernel_rfl) (by kernel_rfl) (by decide) (by intro c a d v w; cases d <;> exact fun h => h) ⟨p2, a4, a6⟩ ?_
      repeat (first | (refine wpPlan.taken (by rfl) (by intro w' hS'; (try dsimp only at hS'); go_split_ands; go_simp; try with_reducible rfl) ?_; simp only [Act.put, List.setIfInBounds_toArray, List.set_cons_zero, List.set_cons_succ]) | (refine wpPlan.passed (by rfl) ?_; simp only [Act.put, List.setIfInBounds_toArray, List.set_cons_zero, List.set_cons_succ]))
      refine wpPlan.done ?_
      go_wp2_with fail
      go_ret2
      exact ⟨n.port, rfl, G5.out, S5.out.drew⟩
    have e3' : ¬ t.life = 536870912 := by simpa using e3
    rw [show s.take true ep ak n.port n.state now = (true, 0, ({ t with known := ep } : Ses).meet n.port n.state) by simp [Ses.take, hm, d1', hh, e1', e2, e3']]
    clear hh e1' e3'
    go_enter Tryd.func10, Tryd.ntmps10
    go_wp2_with (rw [HE.out])
    refine (M.out _).mono ?_
    rintro e w1 ⟨rfl, rfl⟩
    go_wp2_with (refine wpList_load_row rfl 36 (.tmp 4) rfl w.heap.size rfl 36 (n.packet ep sq ak (.slice bo n.body.length bc)) (0, 0) _ P1.out Tryd.underlying36 rfl (by kernel_rfl) ?_)
    refine HL.out.mono ?_
    rintro e w2 ⟨rfl, s2⟩
    have G2 := Lib.hid (s2.blk G1.out (fun s => s.elim))
    have P2 := Lib.hid (s2.blk P1.out (fun s => s.elim))
    have S2 := Lib.hid ((S1.out.then_ s2).none (S := (· = g)))
    clear s2 HE P1 G1 S1 HL M
    have q5 := (SC.of G2.out).c5
    have q0 := blk_cell P2.out 0
    simp only [Note.packet, List.getElem?_toArray, List.getElem?_cons_zero] at q0
    go_wp2_with fail
    refine wp_region_plan (fun w' => w'.cell? ⟨w.heap.size, 0, none⟩ = some (.int .i64 ep) ∧ w'.cell? ⟨g, 5, none⟩ = some (.int .i64 s.known)) (.take 0 (.take 1 (.take 2 (.take 3 (.take 4 (.take 5 (.take 6 (.take 7 .done)))))))) _
      (by simp only [Plan.map, opOf, List.getElem?_toArray, List.getElem?_cons_zero, List.getElem?_cons_succ, Option.getD_some]; rfl) (by kernel_rfl) (by kernel_rfl) (by kernel_rfl) (by decide) (by intro c a d v w; cases d <;> exact fun h => h) ⟨q0, q5⟩ ?_
    repeat (first | (refine wpPlan.taken (by rfl) (by intro w' hS'; (try dsimp only at hS'); go_split_ands; go_simp; try with_reducible rfl) ?_; simp only [Act.put, List.setIfInBounds_toArray, List.set_cons_zero, List.set_cons_succ]) | (refine wpPlan.passed (by rfl) ?_; simp only [Act.put, List.setIfInBounds_toArray, List.set_cons_zero, List.set_cons_succ]))
    refine wpPlan.done ?_
    have f9 := (SC.of G2.out).fz 9
    have q9 := (SC.of G2.out).c9
    have G3 : (w2.setCell ⟨g, 9, none⟩ (.int .i64 now)).heap[g]? = some (.cells (({ s with link := now } : Ses).cells op) 63 (0, 0)) := blk_set G2.out 9 _
    have P3 : (w2.setCell ⟨g, 9, none⟩ (.int .i64 now)).heap[w.heap.size]? = some (.cells (n.packet ep sq ak (.slice bo n.body.length bc)) 36 (0, 0)) := (heap_setCell_other w2 _ _ _ (by simpa using NE.out)).trans P2.out
    have S3 := S2.out.setCell (p := ⟨g, 9, none⟩) (fun _ => rfl) (.int .i64 now)
    obtain ⟨W3, hW3⟩ : ∃ W, w2.setCell ⟨g, 9, none⟩ (.int .i64 now) = W := ⟨_, rfl⟩
    rw [hW3] at G3 P3 S3
    have HE3 := Lib.hid hW3
    have G3 := Lib.hid G3
    have P3 := Lib.hid P3
    have S3 := Lib.hid S3
    clear hW3 G2 P2 S2 q0 q5
    go_wp2_with (rw [HE3.out])
    clear HE3 f9 q9
    have k3 := SC.of G3.out
    have k3c := k3.c5
    have k3u := k3.c6
    have k3p := blk_cell P3.out 0
    simp only [Note.packet, List.getElem?_toArray, List.getElem?_cons_zero] at k3p
    simp only at k3c k3u
    clear k3
    refine wp_region_plan (fun w' => w'.cell? ⟨w.heap.size, 0, none⟩ = some (.int .i64 ep) ∧ w'.cell? ⟨g, 5, none⟩ = some (.int .i64 s.known) ∧ w'.cell? ⟨g, 6, none⟩ = some (.bool s.up)) (.take 0 (.take 1 (.take 2 (.take 3 (.take 4 (.take 5 (.take 6 (.take 7 (.take 8 (.take 9 (.take 10 (.take 11 (.take 12 .done))))))))))))) _
      (by simp only [Plan.map, opOf, List.getElem?_toArray, List.getElem?_cons_zero, List.getElem?_cons_succ, Option.getD_some]; rfl) (by kernel_rfl) (by kernel_rfl) (by kernel_rfl) (by decide) (by intro c a d v w; cases d <;> exact fun h => h) ⟨k3p, k3c, k3u⟩ ?_
    repeat (first | (refine wpPlan.taken (by rfl) (by intro w' hS'; (try dsimp only at hS'); go_split_ands; go_simp; try with_reducible rfl) ?_; simp only [Act.put, List.setIfInBounds_toArray, List.set_cons_zero, List.set_cons_succ]) | (refine wpPlan.passed (by rfl) ?_; simp only [Act.put, List.setIfInBounds_toArray, List.set_cons_zero, List.set_cons_succ]))
    refine wpPlan.done ?_
    go_wp2_with fail
    have P4 := P3
    have S4 := S3
    have G4 := G3
    clear k3p k3c k3u
    rw [HT.out] at G4
    have k4 := SC.of G4.out
    have a5 := k4.c5
    have a2 := k4.c2
    have b5 := k4.fz 5
    have b2 := k4.fz 2
    have K4 : Hid (∀ w', Step (· = g) W3 w' → w'.cell? ⟨w.heap.size, 0, none⟩ = some (.int .i64 ep) ∧ w'.cell? ⟨w.heap.size, 11, none⟩ = some (.int .i64 n.port)) := Lib.hid fun w' h' =>
      have k := blk_cell (h'.blk P4.out (fun h => NE.out h))
      ⟨k 0, k 11⟩
    have G5 : (((W3.setCell ⟨g, 5, none⟩ (.int .i64 ep)).setCell ⟨g, 2, none⟩ (.int .i64 n.port)).drew.drew.drew).heap[g]? = some (.cells (({ t with known := ep } : Ses).cells n.port) 63 (0, 0)) := blk_set (blk_set G4.out 5 _) 2 _
    have P5 : (((W3.setCell ⟨g, 5, none⟩ (.int .i64 ep)).setCell ⟨g, 2, none⟩ (.int .i64 n.port)).drew.drew.drew).heap[w.heap.size]? = some (.cells (n.packet ep sq ak (.slice bo n.body.length bc)) 36 (0, 0)) := (((Step.refl (· = g) W3).setCell (p := ⟨g, 5, none⟩) (fun _ => rfl) (.int .i64 ep)).setCell (p := ⟨g, 2, none⟩) (fun _ => rfl) (.int .i64 n.port)).drew.drew.drew.blk P4.out (fun h => NE.out h)
    have S5 := ((S4.out.setCell (p := ⟨g, 5, none⟩) (fun _ => rfl) (.int .i64 ep)).setCell (p := ⟨g, 2, none⟩) (fun _ => rfl) (.int .i64 n.port)).drew.drew.drew
    obtain ⟨W5, hW5⟩ : ∃ W, ((W3.setCell ⟨g, 5, none⟩ (.int .i64 ep)).setCell ⟨g, 2, none⟩ (.int .i64 n.port)).drew.drew.drew = W := ⟨_, rfl⟩
    rw [hW5] at G5 P5 S5
    have HE5 := Lib.hid hW5
    have G5 := Lib.hid G5
    have P5 := Lib.hid P5
    have S5 := Lib.hid S5
    clear k4 hW5 S4
    go_wp2_with fail
    refine wp_region_plan (fun w' => w'.cell? ⟨w.heap.size, 0, none⟩ = some (.int .i64 ep) ∧ w'.cell? ⟨w.heap.size, 11, none⟩ = some (.int .i64 n.port)) (.take 0 (.take 1 (.take 2 (.take 3 (.take 4 (.take 5 (.take 6 (.take 7 (.take 8 (.take 10 (.take 11 (.alt 9 (.take 12 (.alt 13 .done .none)) .none)))))))))))) _
      (by simp only [Plan.map, opOf, List.getElem?_toArray, List.getElem?_cons_zero, List.getElem?_cons_succ, Option.getD_some]; rfl) (by kernel_rfl) (by kernel_rfl) (by kernel_rfl) (by decide) (by intro c a d v w; cases d <;> exact fun h => h) (K4.out _ (Step.refl (· = g) W3).drew.drew.drew) ?_
    repeat (first | (refine wpPlan.taken (by rfl) (by intro w' hS'; (try dsimp only at hS'); go_split_ands; go_simp; try with_reducible rfl) ?_; simp only [Act.put, List.setIfInBounds_toArray, List.set_cons_zero, List.set_cons_succ]) | (refine wpPlan.passed (by rfl) ?_; simp only [Act.put, List.setIfInBounds_toArray, List.set_cons_zero, List.set_cons_succ]))
    refine wpPlan.runs fun K' hK => ?_
    go_simp
    refine hK.out _ _ (K4.out _ ((Step.refl (· = g) W3).drew.drew.drew.setCell (p := ⟨g, 5, none⟩) (fun _ => rfl) _)) ?_
    clear hK K'
    repeat (first | (refine wpPlan.taken (by rfl) (by intro w' hS'; (try dsimp only at hS'); go_split_ands; go_simp; try with_reducible rfl) ?_; simp only [Act.put, List.setIfInBounds_toArray, List.set_cons_zero, List.set_cons_succ]) | (refine wpPlan.passed (by rfl) ?_; simp only [Act.put, List.setIfInBounds_toArray, List.set_cons_zero, List.set_cons_succ]))
    refine wpPlan.runs fun K' hK => ?_
    go_simp
    refine hK.out _ _ (K4.out _ (((Step.refl (· = g) W3).drew.drew.drew.setCell (p := ⟨g, 5, none⟩) (fun _ => rfl) _).setCell (p := ⟨g, 2, none⟩) (fun _ => rfl) _)) ?_
    clear hK K'
    refine wpPlan.done ?_
    clear G4 P4 K4 a5 a2 b5 b2
    have k5 := SC.of G5.out
    have a4 := k5.c4
    have a6 := k5.c6
    have p2 := blk_cell P5.out 2
    simp only [Note.packet, List.getElem?_toArray, List.getElem?_cons_zero, List.getElem?_cons_succ] at p2
    simp only at a4 a6
    clear k5
    go_wp2_with (rw [HE5.out])
    clear HE5
    refine wp_region_plan (fun w' => w'.cell? ⟨w.heap.size, 2, none⟩ = some (.int .i64 ak) ∧ w'.cell? ⟨g, 4, none⟩ = some (.int .i64 t.life) ∧ w'.cell? ⟨g, 6, none⟩ = some (.bool t.up)) (.take 0 (.take 1 (.take 2 (.take 3 (.take 4 (.take 5 (.take 6 (.take 7 (.take 8 (.take 9 (.take 10 (.take 11 (.take 12 (.take 13 (.take 14 (.take 15 (.take 16 (.take 17 (.take 18 (.take 19 .done)))))))))))))))))))) _
      (by simp only [Plan.map, opOf, List.getElem?_toArray, List.getElem?_cons_zero, List.getElem?_cons_succ, Option.getD_some]; rfl) (by kernel_rfl) (by kernel_rfl) (by kernel_rfl) (by decide) (by intro c a d v w; cases d <;> exact fun h => h) ⟨p2, a4, a6⟩ ?_
    repeat (first | (refine wpPlan.taken (by rfl) (by intro w' hS'; (try dsimp only at hS'); go_split_ands; go_simp; try with_reducible rfl) ?_; simp only [Act.put, List.setIfInBounds_toArray, List.set_cons_zero, List.set_cons_succ]) | (refine wpPlan.passed (by rfl) ?_; simp only [Act.put, List.setIfInBounds_toArray, List.set_cons_zero, List.set_cons_succ]))
    refine wpPlan.done ?_
    have b6 := (SC.of G5.out).fz 6
    have G6 : (W5.setCell ⟨g, 6, none⟩ (.bool true)).heap[g]? = some (.cells (({ t with known := ep, up := true } : Ses).cells n.port) 63 (0, 0)) := blk_set G5.out 6 _
    have P6 := ((Step.refl (· = g) W5).setCell (p := ⟨g, 6, none⟩) (fun _ => rfl) (.bool true)).blk P5.out (fun h => NE.out h)
    have p12 := blk_cell P6 12
    have S6 := Lib.hid (S5.out.setCell (p := ⟨g, 6, none⟩) (fun _ => rfl) (.bool true))
    simp only [Note.packet, List.getElem?_toArray, List.getElem?_cons_zero, List.getElem?_cons_succ] at p12
    obtain ⟨W6, hW6⟩ : ∃ W, W5.setCell ⟨g, 6, none⟩ (.bool true) = W := ⟨_, rfl⟩
    rw [hW6] at G6 S6 p12
    have HE6 := Lib.hid hW6
    have G6 := Lib.hid G6
    clear hW6 P6 G5 S5 P5 p2 a4
    go_wp2_with (rw [HE6.out])
    refine (elect_any g ({ t with known := ep, up := true } : Ses) n.port n.state _ TOK6.out (by exact G6.out)).mono ?_
    rintro e w7 ⟨rfl, g7, s7⟩
    have G7 := Lib.hid g7
    have S7 := Lib.hid (S6.out.drew.then_ s7)
    clear g7 s7
    go_wp2_with fail
    go_ret2
    exact ⟨n.port, rfl, G7.out, S7.out⟩
  cases hu : s.up
  · obtain ⟨t, ht⟩ : ∃ t, ({ s with link := now } : Ses) = t := ⟨_, rfl⟩
    have HT := Lib.hid ht
    have TOK : Hid t.Ok := Lib.hid (by rw [← ht]; exact OKL.out)
    have hh : s.heard ep now = { t with known := ep } := by have hc : (decide (s.known < ep) && s.up) = false := (by rw [d2, hu]; rfl); rw [hd, hc, ← ht]; rfl
    clear ht hd
    have TOK6 : Hid (({ t with known := ep, up := true } : Ses).Ok) := Lib.hid ⟨TOK.out.id, TOK.out.prio, TOK.out.life, ⟨show 0 ≤ ep by omega, show ep ≤ 536870912 from he.2⟩, TOK.out.role, TOK.out.claim, TOK.out.link, TOK.out.beat⟩
    cases e1 : (ak != t.life)
    rotate_left
    · have e1' : ¬ ak = t.life := by simpa [bne] using e1
      rw [show s.take true ep ak n.port n.state now = (false, 0, { t with known := ep }) by simp [Ses.take, hm, d1', hh, e1']]
      clear hh e1'
      go_enter Tryd.func10, Tryd.ntmps10
      go_wp2_with (rw [HE.out])
      refine (M.out _).mono ?_
      rintro e w1 ⟨rfl, rfl⟩
      go_wp2_with (refine wpList_load_row rfl 36 (.tmp 4) rfl w.heap.size rfl 36 (n.packet ep sq ak (.slice bo n.body.length bc)) (0, 0) _ P1.out Tryd.underlying36 rfl (by kernel_rfl) ?_)
      refine HL.out.mono ?_
      rintro e w2 ⟨rfl, s2⟩
      have G2 := Lib.hid (s2.blk G1.out (fun s => s.elim))
      have P2 := Lib.hid (s2.blk P1.out (fun s => s.elim))
      have S2 := Lib.hid ((S1.out.then_ s2).none (S := (· = g)))
      clear s2 HE P1 G1 S1 HL M
      have q5 := (SC.of G2.out).c5
      have q0 := blk_cell P2.out 0
      simp only [Note.packet, List.getElem?_toArray, List.getElem?_cons_zero] at q0
      go_wp2_with fail
      refine wp_region_plan (fun w' => w'.cell? ⟨w.heap.size, 0, none⟩ = some (.int .i64 ep) ∧ w'.cell? ⟨g, 5, none⟩ = some (.int .i64 s.known)) (.take 0 (.take 1 (.take 2 (.take 3 (.take 4 (.take 5 (.take 6 (.take 7 .done)))))))) _
        (by simp only [Plan.map, opOf, List.getElem?_toArray, List.getElem?_cons_zero, List.getElem?_cons_succ, Option.getD_some]; rfl) (by kernel_rfl) (by kernel_rfl) (by kernel_rfl) (by decide) (by intro c a d v w; cases d <;> exact fun h => h) ⟨q0, q5⟩ ?_
      repeat (first | (refine wpPlan.taken (by rfl) (by intro w' hS'; (try dsimp only at hS'); go_split_ands; go_simp; try with_reducible rfl) ?_; simp only [Act.put, List.setIfInBounds_toArray, List.set_cons_zero, List.set_cons_succ]) | (refine wpPlan.passed (by rfl) ?_; simp only [Act.put, List.setIfInBounds_toArray, List.set_cons_zero, List.set_cons_succ]))
      refine wpPlan.done ?_
      have f9 := (SC.of G2.out).fz 9
      have q9 := (SC.of G2.out).c9
      have G3 : (w2.setCell ⟨g, 9, none⟩ (.int .i64 now)).heap[g]? = some (.cells (({ s with link := now } : Ses).cells op) 63 (0, 0)) := blk_set G2.out 9 _
      have P3 : (w2.setCell ⟨g, 9, none⟩ (.int .i64 now)).heap[w.heap.size]? = some (.cells (n.packet ep sq ak (.slice bo n.body.length bc)) 36 (0, 0)) := (heap_setCell_other w2 _ _ _ (by simpa using NE.out)).trans P2.out
      have S3 := S2.out.setCell (p := ⟨g, 9, none⟩) (fun _ => rfl) (.int .i64 now)
      obtain ⟨W3, hW3⟩ : ∃ W, w2.setCell ⟨g, 9, none⟩ (.int .i64 now) = W := ⟨_, rfl⟩
      rw [hW3] at G3 P3 S3
      have HE3 := Lib.hid hW3
      have G3 := Lib.hid G3
      have P3 := Lib.hid P3
      have S3 := Lib.hid S3
      clear hW3 G2 P2 S2 q0 q5
      go_wp2_with (rw [HE3.out])
      clear HE3 f9 q9
      have k3 := SC.of G3.out
      have k3c := k3.c5
      have k3u := k3.c6
      have k3p := blk_cell P3.out 0
      simp only [Note.packet, List.getElem?_toArray, List.getElem?_cons_zero] at k3p
      simp only at k3c k3u
      clear k3
      refine wp_region_plan (fun w' => w'.cell? ⟨w.heap.size, 0, none⟩ = some (.int .i64 ep) ∧ w'.cell? ⟨g, 5, none⟩ = some (.int .i64 s.known) ∧ w'.cell? ⟨g, 6, none⟩ = some (.bool s.up)) (.take 0 (.take 1 (.take 2 (.take 3 (.take 4 (.take 5 (.take 6 (.take 7 (.take 8 (.take 9 (.take 10 (.take 11 (.take 12 .done))))))))))))) _
        (by simp only [Plan.map, opOf, List.getElem?_toArray, List.getElem?_cons_zero, List.getElem?_cons_succ, Option.getD_some]; rfl) (by kernel_rfl) (by kernel_rfl) (by kernel_rfl) (by decide) (by intro c a d v w; cases d <;> exact fun h => h) ⟨k3p, k3c, k3u⟩ ?_
      repeat (first | (refine wpPlan.taken (by rfl) (by intro w' hS'; (try dsimp only at hS'); go_split_ands; go_simp; try with_reducible rfl) ?_; simp only [Act.put, List.setIfInBounds_toArray, List.set_cons_zero, List.set_cons_succ]) | (refine wpPlan.passed (by rfl) ?_; simp only [Act.put, List.setIfInBounds_toArray, List.set_cons_zero, List.set_cons_succ]))
      refine wpPlan.done ?_
      go_wp2_with fail
      have P4 := P3
      have S4 := S3
      have G4 := G3
      clear k3p k3c k3u
      rw [HT.out] at G4
      have k4 := SC.of G4.out
      have a5 := k4.c5
      have a2 := k4.c2
      have b5 := k4.fz 5
      have b2 := k4.fz 2
      have K4 : Hid (∀ w', Step (· = g) W3 w' → w'.cell? ⟨w.heap.size, 0, none⟩ = some (.int .i64 ep) ∧ w'.cell? ⟨w.heap.size, 11, none⟩ = some (.int .i64 n.port)) := Lib.hid fun w' h' =>
        have k := blk_cell (h'.blk P4.out (fun h => NE.out h))
        ⟨k 0, k 11⟩
      have G5 : (((W3.setCell ⟨g, 5, none⟩ (.int .i64 ep)).setCell ⟨g, 2, none⟩ (.int .i64 n.port)).drew.drew.drew).heap[g]? = some (.cells (({ t with known := ep } : Ses).cells n.port) 63 (0, 0)) := blk_set (blk_set G4.out 5 _) 2 _
      have P5 : (((W3.setCell ⟨g, 5, none⟩ (.int .i64 ep)).setCell ⟨g, 2, none⟩ (.int .i64 n.port)).drew.drew.drew).heap[w.heap.size]? = some (.cells (n.packet ep sq ak (.slice bo n.body.length bc)) 36 (0, 0)) := (((Step.refl (· = g) W3).setCell (p := ⟨g, 5, none⟩) (fun _ => rfl) (.int .i64 ep)).setCell (p := ⟨g, 2, none⟩) (fun _ => rfl) (.int .i64 n.port)).drew.drew.drew.blk P4.out (fun h => NE.out h)
      have S5 := ((S4.out.setCell (p := ⟨g, 5, none⟩) (fun _ => rfl) (.int .i64 ep)).setCell (p := ⟨g, 2, none⟩) (fun _ => rfl) (.int .i64 n.port)).drew.drew.drew
      obtain ⟨W5, hW5⟩ : ∃ W, ((W3.setCell ⟨g, 5, none⟩ (.int .i64 ep)).setCell ⟨g, 2, none⟩ (.int .i64 n.port)).drew.drew.drew = W := ⟨_, rfl⟩
      rw [hW5] at G5 P5 S5
      have HE5 := Lib.hid hW5
      have G5 := Lib.hid G5
      have P5 := Lib.hid P5
      have S5 := Lib.hid S5
      clear k4 hW5 S4
      go_wp2_with fail
      refine wp_region_plan (fun w' => w'.cell? ⟨w.heap.size, 0, none⟩ = some (.int .i64 ep) ∧ w'.cell? ⟨w.heap.size, 11, none⟩ = some (.int .i64 n.port)) (.take 0 (.take 1 (.take 2 (.take 3 (.take 4 (.take 5 (.take 6 (.take 7 (.take 8 (.take 10 (.take 11 (.alt 9 (.take 12 (.alt 13 .done .none)) .none)))))))))))) _
        (by simp only [Plan.map, opOf, List.getElem?_toArray, List.getElem?_cons_zero, List.getElem?_cons_succ, Option.getD_some]; rfl) (by kernel_rfl) (by kernel_rfl) (by kernel_rfl) (by decide) (by intro c a d v w; cases d <;> exact fun h => h) (K4.out _ (Step.refl (· = g) W3).drew.drew.drew) ?_
      repeat (first | (refine wpPlan.taken (by rfl) (by intro w' hS'; (try dsimp only at hS'); go_split_ands; go_simp; try with_reducible rfl) ?_; simp only [Act.put, List.setIfInBounds_toArray, List.set_cons_zero, List.set_cons_succ]) | (refine wpPlan.passed (by rfl) ?_; simp only [Act.put, List.setIfInBounds_toArray, List.set_cons_zero, List.set_cons_succ]))
      refine wpPlan.runs fun K' hK => ?_
      go_simp
      refine hK.out _ _ (K4.out _ ((Step.refl (· = g) W3).drew.drew.drew.setCell (p := ⟨g, 5, none⟩) (fun _ => rfl) _)) ?_
      clear hK K'
      repeat (first | (refine wpPlan.taken (by rfl) (by intro w' hS'; (try dsimp only at hS'); go_split_ands; go_simp; try with_reducible rfl) ?_; simp only [Act.put, List.setIfInBounds_toArray, List.set_cons_zero, List.set_cons_succ]) | (refine wpPlan.passed (by rfl) ?_; simp only [Act.put, List.setIfInBounds_toArray, List.set_cons_zero, List.set_cons_succ]))
      refine wpPlan.runs fun K' hK => ?_
      go_simp
      refine hK.out _ _ (K4.out _ (((Step.refl (· = g) W3).drew.drew.drew.setCell (p := ⟨g, 5, none⟩) (fun _ => rfl) _).setCell (p := ⟨g, 2, none⟩) (fun _ => rfl) _)) ?_
      clear hK K'
      refine wpPlan.done ?_
      clear G4 P4 K4 a5 a2 b5 b2
      have k5 := SC.of G5.out
      have a4 := k5.c4
      have a6 := k5.c6
      have p2 := blk_cell P5.out 2
      simp only [Note.packet, List.getElem?_toArray, List.getElem?_cons_zero, List.getElem?_cons_succ] at p2
      simp only at a4 a6
      clear k5
      go_wp2_with (rw [HE5.out])
      clear HE5
      refine wp_region_plan (fun w' => w'.cell? ⟨w.heap.size, 2, none⟩ = some (.int .i64 ak) ∧ w'.cell? ⟨g, 4, none⟩ = some (.int .i64 t.life) ∧ w'.cell? ⟨g, 6, none⟩ = some (.bool t.up)) (.take 0 (.take 1 (.take 2 (.take 3 (.take 4 (.take 5 (.take 6 (.take 7 (.take 8 (.take 9 (.take 10 (.take 11 (.take 12 (.take 13 (.take 14 (.take 15 (.take 16 (.take 17 (.take 18 (.take 19 .done)))))))))))))))))))) _
        (by simp only [Plan.map, opOf, List.getElem?_toArray, List.getElem?_cons_zero, List.getElem?_cons_succ, Option.getD_some]; rfl) (by kernel_rfl) (by kernel_rfl) (by kernel_rfl) (by decide) (by intro c a d v w; cases d <;> exact fun h => h) ⟨p2, a4, a6⟩ ?_
      repeat (first | (refine wpPlan.taken (by rfl) (by intro w' hS'; (try dsimp only at hS'); go_split_ands; go_simp; try with_reducible rfl) ?_; simp only [Act.put, List.setIfInBounds_toArray, List.set_cons_zero, List.set_cons_succ]) | (refine wpPlan.passed (by rfl) ?_; simp only [Act.put, List.setIfInBounds_toArray, List.set_cons_zero, List.set_cons_succ]))
      refine wpPlan.done ?_
      go_wp2_with fail
      go_ret2
      exact ⟨n.port, rfl, G5.out, S5.out.drew⟩
    have e1' : ak = t.life := by simpa [bne] using e1
    cases e2 : t.up
    rotate_left
    · rw [show s.take true ep ak n.port n.state now = (false, 0, { t with known := ep }) by simp [Ses.take, hm, d1', hh, e2]]
      clear hh e1'
      go_enter Tryd.func10, Tryd.ntmps10
      go_wp2_with (rw [HE.out])
      refine (M.out _).mono ?_
      rintro e w1 ⟨rfl, rfl⟩
      go_wp2_with (refine wpList_load_row rfl 36 (.tmp 4) rfl w.heap.size rfl 36 (n.packet ep sq ak (.slice bo n.body.length bc)) (0, 0) _ P1.out Tryd.underlying36 rfl (by kernel_rfl) ?_)
      refine HL.out.mono ?_
      rintro e w2 ⟨rfl, s2⟩
      have G2 := Lib.hid (s2.blk G1.out (fun s => s.elim))
      have P2 := Lib.hid (s2.blk P1.out (fun s => s.elim))
      have S2 := Lib.hid ((S1.out.then_ s2).none (S := (· = g)))
      clear s2 HE P1 G1 S1 HL M
      have q5 := (SC.of G2.out).c5
      have q0 := blk_cell P2.out 0
      simp only [Note.packet, List.getElem?_toArray, List.getElem?_cons_zero] at q0
      go_wp2_with fail
      refine wp_region_plan (fun w' => w'.cell? ⟨w.heap.size, 0, none⟩ = some (.int .i64 ep) ∧ w'.cell? ⟨g, 5, none⟩ = some (.int .i64 s.known)) (.take 0 (.take 1 (.take 2 (.take 3 (.take 4 (.take 5 (.take 6 (.take 7 .done)))))))) _
        (by simp only [Plan.map, opOf, List.getElem?_toArray, List.getElem?_cons_zero, List.getElem?_cons_succ, Option.getD_some]; rfl) (by kernel_rfl) (by kernel_rfl) (by kernel_rfl) (by decide) (by intro c a d v w; cases d <;> exact fun h => h) ⟨q0, q5⟩ ?_
      repeat (first | (refine wpPlan.taken (by rfl) (by intro w' hS'; (try dsimp only at hS'); go_split_ands; go_simp; try with_reducible rfl) ?_; simp only [Act.put, List.setIfInBounds_toArray, List.set_cons_zero, List.set_cons_succ]) | (refine wpPlan.passed (by rfl) ?_; simp only [Act.put, List.setIfInBounds_toArray, List.set_cons_zero, List.set_cons_succ]))
      refine wpPlan.done ?_
      have f9 := (SC.of G2.out).fz 9
      have q9 := (SC.of G2.out).c9
      have G3 : (w2.setCell ⟨g, 9, none⟩ (.int .i64 now)).heap[g]? = some (.cells (({ s with link := now } : Ses).cells op) 63 (0, 0)) := blk_set G2.out 9 _
      have P3 : (w2.setCell ⟨g, 9, none⟩ (.int .i64 now)).heap[w.heap.size]? = some (.cells (n.packet ep sq ak (.slice bo n.body.length bc)) 36 (0, 0)) := (heap_setCell_other w2 _ _ _ (by simpa using NE.out)).trans P2.out
      have S3 := S2.out.setCell (p := ⟨g, 9, none⟩) (fun _ => rfl) (.int .i64 now)
      obtain ⟨W3, hW3⟩ : ∃ W, w2.setCell ⟨g, 9, none⟩ (.int .i64 now) = W := ⟨_, rfl⟩
      rw [hW3] at G3 P3 S3
      have HE3 := Lib.hid hW3
      have G3 := Lib.hid G3
      have P3 := Lib.hid P3
      have S3 := Lib.hid S3
      clear hW3 G2 P2 S2 q0 q5
      go_wp2_with (rw [HE3.out])
      clear HE3 f9 q9
      have k3 := SC.of G3.out
      have k3c := k3.c5
      have k3u := k3.c6
      have k3p := blk_cell P3.out 0
      simp only [Note.packet, List.getElem?_toArray, List.getElem?_cons_zero] at k3p
      simp only at k3c k3u
      clear k3
      refine wp_region_plan (fun w' => w'.cell? ⟨w.heap.size, 0, none⟩ = some (.int .i64 ep) ∧ w'.cell? ⟨g, 5, none⟩ = some (.int .i64 s.known) ∧ w'.cell? ⟨g, 6, none⟩ = some (.bool s.up)) (.take 0 (.take 1 (.take 2 (.take 3 (.take 4 (.take 5 (.take 6 (.take 7 (.take 8 (.take 9 (.take 10 (.take 11 (.take 12 .done))))))))))))) _
        (by simp only [Plan.map, opOf, List.getElem?_toArray, List.getElem?_cons_zero, List.getElem?_cons_succ, Option.getD_some]; rfl) (by kernel_rfl) (by kernel_rfl) (by kernel_rfl) (by decide) (by intro c a d v w; cases d <;> exact fun h => h) ⟨k3p, k3c, k3u⟩ ?_
      repeat (first | (refine wpPlan.taken (by rfl) (by intro w' hS'; (try dsimp only at hS'); go_split_ands; go_simp; try with_reducible rfl) ?_; simp only [Act.put, List.setIfInBounds_toArray, List.set_cons_zero, List.set_cons_succ]) | (refine wpPlan.passed (by rfl) ?_; simp only [Act.put, List.setIfInBounds_toArray, List.set_cons_zero, List.set_cons_succ]))
      refine wpPlan.done ?_
      go_wp2_with fail
      have P4 := P3
      have S4 := S3
      have G4 := G3
      clear k3p k3c k3u
      rw [HT.out] at G4
      have k4 := SC.of G4.out
      have a5 := k4.c5
      have a2 := k4.c2
      have b5 := k4.fz 5
      have b2 := k4.fz 2
      have K4 : Hid (∀ w', Step (· = g) W3 w' → w'.cell? ⟨w.heap.size, 0, none⟩ = some (.int .i64 ep) ∧ w'.cell? ⟨w.heap.size, 11, none⟩ = some (.int .i64 n.port)) := Lib.hid fun w' h' =>
        have k := blk_cell (h'.blk P4.out (fun h => NE.out h))
        ⟨k 0, k 11⟩
      have G5 : (((W3.setCell ⟨g, 5, none⟩ (.int .i64 ep)).setCell ⟨g, 2, none⟩ (.int .i64 n.port)).drew.drew.drew).heap[g]? = some (.cells (({ t with known := ep } : Ses).cells n.port) 63 (0, 0)) := blk_set (blk_set G4.out 5 _) 2 _
      have P5 : (((W3.setCell ⟨g, 5, none⟩ (.int .i64 ep)).setCell ⟨g, 2, none⟩ (.int .i64 n.port)).drew.drew.drew).heap[w.heap.size]? = some (.cells (n.packet ep sq ak (.slice bo n.body.length bc)) 36 (0, 0)) := (((Step.refl (· = g) W3).setCell (p := ⟨g, 5, none⟩) (fun _ => rfl) (.int .i64 ep)).setCell (p := ⟨g, 2, none⟩) (fun _ => rfl) (.int .i64 n.port)).drew.drew.drew.blk P4.out (fun h => NE.out h)
      have S5 := ((S4.out.setCell (p := ⟨g, 5, none⟩) (fun _ => rfl) (.int .i64 ep)).setCell (p := ⟨g, 2, none⟩) (fun _ => rfl) (.int .i64 n.port)).drew.drew.drew
      obtain ⟨W5, hW5⟩ : ∃ W, ((W3.setCell ⟨g, 5, none⟩ (.int .i64 ep)).setCell ⟨g, 2, none⟩ (.int .i64 n.port)).drew.drew.drew = W := ⟨_, rfl⟩
      rw [hW5] at G5 P5 S5
      have HE5 := Lib.hid hW5
      have G5 := Lib.hid G5
      have P5 := Lib.hid P5
      have S5 := Lib.hid S5
      clear k4 hW5 S4
      go_wp2_with fail
      refine wp_region_plan (fun w' => w'.cell? ⟨w.heap.size, 0, none⟩ = some (.int .i64 ep) ∧ w'.cell? ⟨w.heap.size, 11, none⟩ = some (.int .i64 n.port)) (.take 0 (.take 1 (.take 2 (.take 3 (.take 4 (.take 5 (.take 6 (.take 7 (.take 8 (.take 10 (.take 11 (.alt 9 (.take 12 (.alt 13 .done .none)) .none)))))))))))) _
        (by simp only [Plan.map, opOf, List.getElem?_toArray, List.getElem?_cons_zero, List.getElem?_cons_succ, Option.getD_some]; rfl) (by kernel_rfl) (by kernel_rfl) (by kernel_rfl) (by decide) (by intro c a d v w; cases d <;> exact fun h => h) (K4.out _ (Step.refl (· = g) W3).drew.drew.drew) ?_
      repeat (first | (refine wpPlan.taken (by rfl) (by intro w' hS'; (try dsimp only at hS'); go_split_ands; go_simp; try with_reducible rfl) ?_; simp only [Act.put, List.setIfInBounds_toArray, List.set_cons_zero, List.set_cons_succ]) | (refine wpPlan.passed (by rfl) ?_; simp only [Act.put, List.setIfInBounds_toArray, List.set_cons_zero, List.set_cons_succ]))
      refine wpPlan.runs fun K' hK => ?_
      go_simp
      refine hK.out _ _ (K4.out _ ((Step.refl (· = g) W3).drew.drew.drew.setCell (p := ⟨g, 5, none⟩) (fun _ => rfl) _)) ?_
      clear hK K'
      repeat (first | (refine wpPlan.taken (by rfl) (by intro w' hS'; (try dsimp only at hS'); go_split_ands; go_simp; try with_reducible rfl) ?_; simp only [Act.put, List.setIfInBounds_toArray, List.set_cons_zero, List.set_cons_succ]) | (refine wpPlan.passed (by rfl) ?_; simp only [Act.put, List.setIfInBounds_toArray, List.set_cons_zero, List.set_cons_succ]))
      refine wpPlan.runs fun K' hK => ?_
      go_simp
      refine hK.out _ _ (K4.out _ (((Step.refl (· = g) W3).drew.drew.drew.setCell (p := ⟨g, 5, none⟩) (fun _ => rfl) _).setCell (p := ⟨g, 2, none⟩) (fun _ => rfl) _)) ?_
      clear hK K'
      refine wpPlan.done ?_
      clear G4 P4 K4 a5 a2 b5 b2
      have k5 := SC.of G5.out
      have a4 := k5.c4
      have a6 := k5.c6
      have p2 := blk_cell P5.out 2
      simp only [Note.packet, List.getElem?_toArray, List.getElem?_cons_zero, List.getElem?_cons_succ] at p2
      simp only at a4 a6
      clear k5
      go_wp2_with (rw [HE5.out])
      clear HE5
      refine wp_region_plan (fun w' => w'.cell? ⟨w.heap.size, 2, none⟩ = some (.int .i64 ak) ∧ w'.cell? ⟨g, 4, none⟩ = some (.int .i64 t.life) ∧ w'.cell? ⟨g, 6, none⟩ = some (.bool t.up)) (.take 0 (.take 1 (.take 2 (.take 3 (.take 4 (.take 5 (.take 6 (.take 7 (.take 8 (.take 9 (.take 10 (.take 11 (.take 12 (.take 13 (.take 14 (.take 15 (.take 16 (.take 17 (.take 18 (.take 19 .done)))))))))))))))))))) _
        (by simp only [Plan.map, opOf, List.getElem?_toArray, List.getElem?_cons_zero, List.getElem?_cons_succ, Option.getD_some]; rfl) (by kernel_rfl) (by kernel_rfl) (by kernel_rfl) (by decide) (by intro c a d v w; cases d <;> exact fun h => h) ⟨p2, a4, a6⟩ ?_
      repeat (first | (refine wpPlan.taken (by rfl) (by intro w' hS'; (try dsimp only at hS'); go_split_ands; go_simp; try with_reducible rfl) ?_; simp only [Act.put, List.setIfInBounds_toArray, List.set_cons_zero, List.set_cons_succ]) | (refine wpPlan.passed (by rfl) ?_; simp only [Act.put, List.setIfInBounds_toArray, List.set_cons_zero, List.set_cons_succ]))
      refine wpPlan.done ?_
      go_wp2_with fail
      go_ret2
      exact ⟨n.port, rfl, G5.out, S5.out.drew⟩
    cases e3 : (t.life == 536870912)
    rotate_left
    · have e3' : t.life = 536870912 := by simpa using e3
      rw [show s.take true ep ak n.port n.state now = (false, 0, { t with known := ep }) by simp [Ses.take, hm, d1', hh, e3']]
      clear hh e1' e3'
      go_enter Tryd.func10, Tryd.ntmps10
      go_wp2_with (rw [HE.out])
      refine (M.out _).mono ?_
      rintro e w1 ⟨rfl, rfl⟩
      go_wp2_with (refine wpList_load_row rfl 36 (.tmp 4) rfl w.heap.size rfl 36 (n.packet ep sq ak (.slice bo n.body.length bc)) (0, 0) _ P1.out Tryd.underlying36 rfl (by kernel_rfl) ?_)
      refine HL.out.mono ?_
      rintro e w2 ⟨rfl, s2⟩
      have G2 := Lib.hid (s2.blk G1.out (fun s => s.elim))
      have P2 := Lib.hid (s2.blk P1.out (fun s => s.elim))
      have S2 := Lib.hid ((S1.out.then_ s2).none (S := (· = g)))
      clear s2 HE P1 G1 S1 HL M
      have q5 := (SC.of G2.out).c5
      have q0 := blk_cell P2.out 0
      simp only [Note.packet, List.getElem?_toArray, List.getElem?_cons_zero] at q0
      go_wp2_with fail
      refine wp_region_plan (fun w' => w'.cell? ⟨w.heap.size, 0, none⟩ = some (.int .i64 ep) ∧ w'.cell? ⟨g, 5, none⟩ = some (.int .i64 s.known)) (.take 0 (.take 1 (.take 2 (.take 3 (.take 4 (.take 5 (.take 6 (.take 7 .done)))))))) _
        (by simp only [Plan.map, opOf, List.getElem?_toArray, List.getElem?_cons_zero, List.getElem?_cons_succ, Option.getD_some]; rfl) (by kernel_rfl) (by kernel_rfl) (by kernel_rfl) (by decide) (by intro c a d v w; cases d <;> exact fun h => h) ⟨q0, q5⟩ ?_
      repeat (first | (refine wpPlan.taken (by rfl) (by intro w' hS'; (try dsimp only at hS'); go_split_ands; go_simp; try with_reducible rfl) ?_; simp only [Act.put, List.setIfInBounds_toArray, List.set_cons_zero, List.set_cons_succ]) | (refine wpPlan.passed (by rfl) ?_; simp only [Act.put, List.setIfInBounds_toArray, List.set_cons_zero, List.set_cons_succ]))
      refine wpPlan.done ?_
      have f9 := (SC.of G2.out).fz 9
      have q9 := (SC.of G2.out).c9
      have G3 : (w2.setCell ⟨g, 9, none⟩ (.int .i64 now)).heap[g]? = some (.cells (({ s with link := now } : Ses).cells op) 63 (0, 0)) := blk_set G2.out 9 _
      have P3 : (w2.setCell ⟨g, 9, none⟩ (.int .i64 now)).heap[w.heap.size]? = some (.cells (n.packet ep sq ak (.slice bo n.body.length bc)) 36 (0, 0)) := (heap_setCell_other w2 _ _ _ (by simpa using NE.out)).trans P2.out
      have S3 := S2.out.setCell (p := ⟨g, 9, none⟩) (fun _ => rfl) (.int .i64 now)
      obtain ⟨W3, hW3⟩ : ∃ W, w2.setCell ⟨g, 9, none⟩ (.int .i64 now) = W := ⟨_, rfl⟩
      rw [hW3] at G3 P3 S3
      have HE3 := Lib.hid hW3
      have G3 := Lib.hid G3
      have P3 := Lib.hid P3
      have S3 := Lib.hid S3
      clear hW3 G2 P2 S2 q0 q5
      go_wp2_with (rw [HE3.out])
      clear HE3 f9 q9
      have k3 := SC.of G3.out
      have k3c := k3.c5
      have k3u := k3.c6
      have k3p := blk_cell P3.out 0
      simp only [Note.packet, List.getElem?_toArray, List.getElem?_cons_zero] at k3p
      simp only at k3c k3u
      clear k3
      refine wp_region_plan (fun w' => w'.cell? ⟨w.heap.size, 0, none⟩ = some (.int .i64 ep) ∧ w'.cell? ⟨g, 5, none⟩ = some (.int .i64 s.known) ∧ w'.cell? ⟨g, 6, none⟩ = some (.bool s.up)) (.take 0 (.take 1 (.take 2 (.take 3 (.take 4 (.take 5 (.take 6 (.take 7 (.take 8 (.take 9 (.take 10 (.take 11 (.take 12 .done))))))))))))) _
        (by simp only [Plan.map, opOf, List.getElem?_toArray, List.getElem?_cons_zero, List.getElem?_cons_succ, Option.getD_some]; rfl) (by kernel_rfl) (by kernel_rfl) (by kernel_rfl) (by decide) (by intro c a d v w; cases d <;> exact fun h => h) ⟨k3p, k3c, k3u⟩ ?_
      repeat (first | (refine wpPlan.taken (by rfl) (by intro w' hS'; (try dsimp only at hS'); go_split_ands; go_simp; try with_reducible rfl) ?_; simp only [Act.put, List.setIfInBounds_toArray, List.set_cons_zero, List.set_cons_succ]) | (refine wpPlan.passed (by rfl) ?_; simp only [Act.put, List.setIfInBounds_toArray, List.set_cons_zero, List.set_cons_succ]))
      refine wpPlan.done ?_
      go_wp2_with fail
      have P4 := P3
      have S4 := S3
      have G4 := G3
      clear k3p k3c k3u
      rw [HT.out] at G4
      have k4 := SC.of G4.out
      have a5 := k4.c5
      have a2 := k4.c2
      have b5 := k4.fz 5
      have b2 := k4.fz 2
      have K4 : Hid (∀ w', Step (· = g) W3 w' → w'.cell? ⟨w.heap.size, 0, none⟩ = some (.int .i64 ep) ∧ w'.cell? ⟨w.heap.size, 11, none⟩ = some (.int .i64 n.port)) := Lib.hid fun w' h' =>
        have k := blk_cell (h'.blk P4.out (fun h => NE.out h))
        ⟨k 0, k 11⟩
      have G5 : (((W3.setCell ⟨g, 5, none⟩ (.int .i64 ep)).setCell ⟨g, 2, none⟩ (.int .i64 n.port)).drew.drew.drew).heap[g]? = some (.cells (({ t with known := ep } : Ses).cells n.port) 63 (0, 0)) := blk_set (blk_set G4.out 5 _) 2 _
      have P5 : (((W3.setCell ⟨g, 5, none⟩ (.int .i64 ep)).setCell ⟨g, 2, none⟩ (.int .i64 n.port)).drew.drew.drew).heap[w.heap.size]? = some (.cells (n.packet ep sq ak (.slice bo n.body.length bc)) 36 (0, 0)) := (((Step.refl (· = g) W3).setCell (p := ⟨g, 5, none⟩) (fun _ => rfl) (.int .i64 ep)).setCell (p := ⟨g, 2, none⟩) (fun _ => rfl) (.int .i64 n.port)).drew.drew.drew.blk P4.out (fun h => NE.out h)
      have S5 := ((S4.out.setCell (p := ⟨g, 5, none⟩) (fun _ => rfl) (.int .i64 ep)).setCell (p := ⟨g, 2, none⟩) (fun _ => rfl) (.int .i64 n.port)).drew.drew.drew
      obtain ⟨W5, hW5⟩ : ∃ W, ((W3.setCell ⟨g, 5, none⟩ (.int .i64 ep)).setCell ⟨g, 2, none⟩ (.int .i64 n.port)).drew.drew.drew = W := ⟨_, rfl⟩
      rw [hW5] at G5 P5 S5
      have HE5 := Lib.hid hW5
      have G5 := Lib.hid G5
      have P5 := Lib.hid P5
      have S5 := Lib.hid S5
      clear k4 hW5 S4
      go_wp2_with fail
      refine wp_region_plan (fun w' => w'.cell? ⟨w.heap.size, 0, none⟩ = some (.int .i64 ep) ∧ w'.cell? ⟨w.heap.size, 11, none⟩ = some (.int .i64 n.port)) (.take 0 (.take 1 (.take 2 (.take 3 (.take 4 (.take 5 (.take 6 (.take 7 (.take 8 (.take 10 (.take 11 (.alt 9 (.take 12 (.alt 13 .done .none)) .none)))))))))))) _
        (by simp only [Plan.map, opOf, List.getElem?_toArray, List.getElem?_cons_zero, List.getElem?_cons_succ, Option.getD_some]; rfl) (by kernel_rfl) (by kernel_rfl) (by kernel_rfl) (by decide) (by intro c a d v w; cases d <;> exact fun h => h) (K4.out _ (Step.refl (· = g) W3).drew.drew.drew) ?_
      repeat (first | (refine wpPlan.taken (by rfl) (by intro w' hS'; (try dsimp only at hS'); go_split_ands; go_simp; try with_reducible rfl) ?_; simp only [Act.put, List.setIfInBounds_toArray, List.set_cons_zero, List.set_cons_succ]) | (refine wpPlan.passed (by rfl) ?_; simp only [Act.put, List.setIfInBounds_toArray, List.set_cons_zero, List.set_cons_succ]))
      refine wpPlan.runs fun K' hK => ?_
      go_simp
      refine hK.out _ _ (K4.out _ ((Step.refl (· = g) W3).drew.drew.drew.setCell (p := ⟨g, 5, none⟩) (fun _ => rfl) _)) ?_
      clear hK K'
      repeat (first | (refine wpPlan.taken (by rfl) (by intro w' hS'; (try dsimp only at hS'); go_split_ands; go_simp; try with_reducible rfl) ?_; simp only [Act.put, List.setIfInBounds_toArray, List.set_cons_zero, List.set_cons_succ]) | (refine wpPlan.passed (by rfl) ?_; simp only [Act.put, List.setIfInBounds_toArray, List.set_cons_zero, List.set_cons_succ]))
      refine wpPlan.runs fun K' hK => ?_
      go_simp
      refine hK.out _ _ (K4.out _ (((Step.refl (· = g) W3).drew.drew.drew.setCell (p := ⟨g, 5, none⟩) (fun _ => rfl) _).setCell (p := ⟨g, 2, none⟩) (fun _ => rfl) _)) ?_
      clear hK K'
      refine wpPlan.done ?_
      clear G4 P4 K4 a5 a2 b5 b2
      have k5 := SC.of G5.out
      have a4 := k5.c4
      have a6 := k5.c6
      have p2 := blk_cell P5.out 2
      simp only [Note.packet, List.getElem?_toArray, List.getElem?_cons_zero, List.getElem?_cons_succ] at p2
      simp only at a4 a6
      clear k5
      go_wp2_with (rw [HE5.out])
      clear HE5
      refine wp_region_plan (fun w' => w'.cell? ⟨w.heap.size, 2, none⟩ = some (.int .i64 ak) ∧ w'.cell? ⟨g, 4, none⟩ = some (.int .i64 t.life) ∧ w'.cell? ⟨g, 6, none⟩ = some (.bool t.up)) (.take 0 (.take 1 (.take 2 (.take 3 (.take 4 (.take 5 (.take 6 (.take 7 (.take 8 (.take 9 (.take 10 (.take 11 (.take 12 (.take 13 (.take 14 (.take 15 (.take 16 (.take 17 (.take 18 (.take 19 .done)))))))))))))))))))) _
        (by simp only [Plan.map, opOf, List.getElem?_toArray, List.getElem?_cons_zero, List.getElem?_cons_succ, Option.getD_some]; rfl) (by kernel_rfl) (by kernel_rfl) (by kernel_rfl) (by decide) (by intro c a d v w; cases d <;> exact fun h => h) ⟨p2, a4, a6⟩ ?_
      repeat (first | (refine wpPlan.taken (by rfl) (by intro w' hS'; (try dsimp only at hS'); go_split_ands; go_simp; try with_reducible rfl) ?_; simp only [Act.put, List.setIfInBounds_toArray, List.set_cons_zero, List.set_cons_succ]) | (refine wpPlan.passed (by rfl) ?_; simp only [Act.put, List.setIfInBounds_toArray, List.set_cons_zero, List.set_cons_succ]))
      refine wpPlan.done ?_
      go_wp2_with fail
      go_ret2
      exact ⟨n.port, rfl, G5.out, S5.out.drew⟩
    have e3' : ¬ t.life = 536870912 := by simpa using e3
    rw [show s.take true ep ak n.port n.state now = (true, 0, ({ t with known := ep } : Ses).meet n.port n.state) by simp [Ses.take, hm, d1', hh, e1', e2, e3']]
    clear hh e1' e3'
    go_enter Tryd.func10, Tryd.ntmps10
    go_wp2_with (rw [HE.out])
    refine (M.out _).mono ?_
    rintro e w1 ⟨rfl, rfl⟩
    go_wp2_with (refine wpList_load_row rfl 36 (.tmp 4) rfl w.heap.size rfl 36 (n.packet ep sq ak (.slice bo n.body.length bc)) (0, 0) _ P1.out Tryd.underlying36 rfl (by kernel_rfl) ?_)
    refine HL.out.mono ?_
    rintro e w2 ⟨rfl, s2⟩
    have G2 := Lib.hid (s2.blk G1.out (fun s => s.elim))
    have P2 := Lib.hid (s2.blk P1.out (fun s => s.elim))
    have S2 := Lib.hid ((S1.out.then_ s2).none (S := (· = g)))
    clear s2 HE P1 G1 S1 HL M
    have q5 := (SC.of G2.out).c5
    have q0 := blk_cell P2.out 0
    simp only [Note.packet, List.getElem?_toArray, List.getElem?_cons_zero] at q0
    go_wp2_with fail
    refine wp_region_plan (fun w' => w'.cell? ⟨w.heap.size, 0, none⟩ = some (.int .i64 ep) ∧ w'.cell? ⟨g, 5, none⟩ = some (.int .i64 s.known)) (.take 0 (.take 1 (.take 2 (.take 3 (.take 4 (.take 5 (.take 6 (.take 7 .done)))))))) _
      (by simp only [Plan.map, opOf, List.getElem?_toArray, List.getElem?_cons_zero, List.getElem?_cons_succ, Option.getD_some]; rfl) (by kernel_rfl) (by kernel_rfl) (by kernel_rfl) (by decide) (by intro c a d v w; cases d <;> exact fun h => h) ⟨q0, q5⟩ ?_
    repeat (first | (refine wpPlan.taken (by rfl) (by intro w' hS'; (try dsimp only at hS'); go_split_ands; go_simp; try with_reducible rfl) ?_; simp only [Act.put, List.setIfInBounds_toArray, List.set_cons_zero, List.set_cons_succ]) | (refine wpPlan.passed (by rfl) ?_; simp only [Act.put, List.setIfInBounds_toArray, List.set_cons_zero, List.set_cons_succ]))
    refine wpPlan.done ?_
    have f9 := (SC.of G2.out).fz 9
    have q9 := (SC.of G2.out).c9
    have G3 : (w2.setCell ⟨g, 9, none⟩ (.int .i64 now)).heap[g]? = some (.cells (({ s with link := now } : Ses).cells op) 63 (0, 0)) := blk_set G2.out 9 _
    have P3 : (w2.setCell ⟨g, 9, none⟩ (.int .i64 now)).heap[w.heap.size]? = some (.cells (n.packet ep sq ak (.slice bo n.body.length bc)) 36 (0, 0)) := (heap_setCell_other w2 _ _ _ (by simpa using NE.out)).trans P2.out
    have S3 := S2.out.setCell (p := ⟨g, 9, none⟩) (fun _ => rfl) (.int .i64 now)
    obtain ⟨W3, hW3⟩ : ∃ W, w2.setCell ⟨g, 9, none⟩ (.int .i64 now) = W := ⟨_, rfl⟩
    rw [hW3] at G3 P3 S3
    have HE3 := Lib.hid hW3
    have G3 := Lib.hid G3
    have P3 := Lib.hid P3
    have S3 := Lib.hid S3
    clear hW3 G2 P2 S2 q0 q5
    go_wp2_with (rw [HE3.out])
    clear HE3 f9 q9
    have k3 := SC.of G3.out
    have k3c := k3.c5
    have k3u := k3.c6
    have k3p := blk_cell P3.out 0
    simp only [Note.packet, List.getElem?_toArray, List.getElem?_cons_zero] at k3p
    simp only at k3c k3u
    clear k3
    refine wp_region_plan (fun w' => w'.cell? ⟨w.heap.size, 0, none⟩ = some (.int .i64 ep) ∧ w'.cell? ⟨g, 5, none⟩ = some (.int .i64 s.known) ∧ w'.cell? ⟨g, 6, none⟩ = some (.bool s.up)) (.take 0 (.take 1 (.take 2 (.take 3 (.take 4 (.take 5 (.take 6 (.take 7 (.take 8 (.take 9 (.take 10 (.take 11 (.take 12 .done))))))))))))) _
      (by simp only [Plan.map, opOf, List.getElem?_toArray, List.getElem?_cons_zero, List.getElem?_cons_succ, Option.getD_some]; rfl) (by kernel_rfl) (by kernel_rfl) (by kernel_rfl) (by decide) (by intro c a d v w; cases d <;> exact fun h => h) ⟨k3p, k3c, k3u⟩ ?_
    repeat (first | (refine wpPlan.taken (by rfl) (by intro w' hS'; (try dsimp only at hS'); go_split_ands; go_simp; try with_reducible rfl) ?_; simp only [Act.put, List.setIfInBounds_toArray, List.set_cons_zero, List.set_cons_succ]) | (refine wpPlan.passed (by rfl) ?_; simp only [Act.put, List.setIfInBounds_toArray, List.set_cons_zero, List.set_cons_succ]))
    refine wpPlan.done ?_
    go_wp2_with fail
    have P4 := P3
    have S4 := S3
    have G4 := G3
    clear k3p k3c k3u
    rw [HT.out] at G4
    have k4 := SC.of G4.out
    have a5 := k4.c5
    have a2 := k4.c2
    have b5 := k4.fz 5
    have b2 := k4.fz 2
    have K4 : Hid (∀ w', Step (· = g) W3 w' → w'.cell? ⟨w.heap.size, 0, none⟩ = some (.int .i64 ep) ∧ w'.cell? ⟨w.heap.size, 11, none⟩ = some (.int .i64 n.port)) := Lib.hid fun w' h' =>
      have k := blk_cell (h'.blk P4.out (fun h => NE.out h))
      ⟨k 0, k 11⟩
    have G5 : (((W3.setCell ⟨g, 5, none⟩ (.int .i64 ep)).setCell ⟨g, 2, none⟩ (.int .i64 n.port)).drew.drew.drew).heap[g]? = some (.cells (({ t with known := ep } : Ses).cells n.port) 63 (0, 0)) := blk_set (blk_set G4.out 5 _) 2 _
    have P5 : (((W3.setCell ⟨g, 5, none⟩ (.int .i64 ep)).setCell ⟨g, 2, none⟩ (.int .i64 n.port)).drew.drew.drew).heap[w.heap.size]? = some (.cells (n.packet ep sq ak (.slice bo n.body.length bc)) 36 (0, 0)) := (((Step.refl (· = g) W3).setCell (p := ⟨g, 5, none⟩) (fun _ => rfl) (.int .i64 ep)).setCell (p := ⟨g, 2, none⟩) (fun _ => rfl) (.int .i64 n.port)).drew.drew.drew.blk P4.out (fun h => NE.out h)
    have S5 := ((S4.out.setCell (p := ⟨g, 5, none⟩) (fun _ => rfl) (.int .i64 ep)).setCell (p := ⟨g, 2, none⟩) (fun _ => rfl) (.int .i64 n.port)).drew.drew.drew
    obtain ⟨W5, hW5⟩ : ∃ W, ((W3.setCell ⟨g, 5, none⟩ (.int .i64 ep)).setCell ⟨g, 2, none⟩ (.int .i64 n.port)).drew.drew.drew = W := ⟨_, rfl⟩
    rw [hW5] at G5 P5 S5
    have HE5 := Lib.hid hW5
    have G5 := Lib.hid G5
    have P5 := Lib.hid P5
    have S5 := Lib.hid S5
    clear k4 hW5 S4
    go_wp2_with fail
    refine wp_region_plan (fun w' => w'.cell? ⟨w.heap.size, 0, none⟩ = some (.int .i64 ep) ∧ w'.cell? ⟨w.heap.size, 11, none⟩ = some (.int .i64 n.port)) (.take 0 (.take 1 (.take 2 (.take 3 (.take 4 (.take 5 (.take 6 (.take 7 (.take 8 (.take 10 (.take 11 (.alt 9 (.take 12 (.alt 13 .done .none)) .none)))))))))))) _
      (by simp only [Plan.map, opOf, List.getElem?_toArray, List.getElem?_cons_zero, List.getElem?_cons_succ, Option.getD_some]; rfl) (by kernel_rfl) (by kernel_rfl) (by kernel_rfl) (by decide) (by intro c a d v w; cases d <;> exact fun h => h) (K4.out _ (Step.refl (· = g) W3).drew.drew.drew) ?_
    repeat (first | (refine wpPlan.taken (by rfl) (by intro w' hS'; (try dsimp only at hS'); go_split_ands; go_simp; try with_reducible rfl) ?_; simp only [Act.put, List.setIfInBounds_toArray, List.set_cons_zero, List.set_cons_succ]) | (refine wpPlan.passed (by rfl) ?_; simp only [Act.put, List.setIfInBounds_toArray, List.set_cons_zero, List.set_cons_succ]))
    refine wpPlan.runs fun K' hK => ?_
    go_simp
    refine hK.out _ _ (K4.out _ ((Step.refl (· = g) W3).drew.drew.drew.setCell (p := ⟨g, 5, none⟩) (fun _ => rfl) _)) ?_
    clear hK K'
    repeat (first | (refine wpPlan.taken (by rfl) (by intro w' hS'; (try dsimp only at hS'); go_split_ands; go_simp; try with_reducible rfl) ?_; simp only [Act.put, List.setIfInBounds_toArray, List.set_cons_zero, List.set_cons_succ]) | (refine wpPlan.passed (by rfl) ?_; simp only [Act.put, List.setIfInBounds_toArray, List.set_cons_zero, List.set_cons_succ]))
    refine wpPlan.runs fun K' hK => ?_
    go_simp
    refine hK.out _ _ (K4.out _ (((Step.refl (· = g) W3).drew.drew.drew.setCell (p := ⟨g, 5, none⟩) (fun _ => rfl) _).setCell (p := ⟨g, 2, none⟩) (fun _ => rfl) _)) ?_
    clear hK K'
    refine wpPlan.done ?_
    clear G4 P4 K4 a5 a2 b5 b2
    have k5 := SC.of G5.out
    have a4 := k5.c4
    have a6 := k5.c6
    have p2 := blk_cell P5.out 2
    simp only [Note.packet, List.getElem?_toArray, List.getElem?_cons_zero, List.getElem?_cons_succ] at p2
    simp only at a4 a6
    clear k5
    go_wp2_with (rw [HE5.out])
    clear HE5
    refine wp_region_plan (fun w' => w'.cell? ⟨w.heap.size, 2, none⟩ = some (.int .i64 ak) ∧ w'.cell? ⟨g, 4, none⟩ = some (.int .i64 t.life) ∧ w'.cell? ⟨g, 6, none⟩ = some (.bool t.up)) (.take 0 (.take 1 (.take 2 (.take 3 (.take 4 (.take 5 (.take 6 (.take 7 (.take 8 (.take 9 (.take 10 (.take 11 (.take 12 (.take 13 (.take 14 (.take 15 (.take 16 (.take 17 (.take 18 (.take 19 .done)))))))))))))))))))) _
      (by simp only [Plan.map, opOf, List.getElem?_toArray, List.getElem?_cons_zero, List.getElem?_cons_succ, Option.getD_some]; rfl) (by kernel_rfl) (by kernel_rfl) (by kernel_rfl) (by decide) (by intro c a d v w; cases d <;> exact fun h => h) ⟨p2, a4, a6⟩ ?_
    repeat (first | (refine wpPlan.taken (by rfl) (by intro w' hS'; (try dsimp only at hS'); go_split_ands; go_simp; try with_reducible rfl) ?_; simp only [Act.put, List.setIfInBounds_toArray, List.set_cons_zero, List.set_cons_succ]) | (refine wpPlan.passed (by rfl) ?_; simp only [Act.put, List.setIfInBounds_toArray, List.set_cons_zero, List.set_cons_succ]))
    refine wpPlan.done ?_
    have b6 := (SC.of G5.out).fz 6
    have G6 : (W5.setCell ⟨g, 6, none⟩ (.bool true)).heap[g]? = some (.cells (({ t with known := ep, up := true } : Ses).cells n.port) 63 (0, 0)) := blk_set G5.out 6 _
    have P6 := ((Step.refl (· = g) W5).setCell (p := ⟨g, 6, none⟩) (fun _ => rfl) (.bool true)).blk P5.out (fun h => NE.out h)
    have p12 := blk_cell P6 12
    have S6 := Lib.hid (S5.out.setCell (p := ⟨g, 6, none⟩) (fun _ => rfl) (.bool true))
    simp only [Note.packet, List.getElem?_toArray, List.getElem?_cons_zero, List.getElem?_cons_succ] at p12
    obtain ⟨W6, hW6⟩ : ∃ W, W5.setCell ⟨g, 6, none⟩ (.bool true) = W := ⟨_, rfl⟩
    rw [hW6] at G6 S6 p12
    have HE6 := Lib.hid hW6
    have G6 := Lib.hid G6
    clear hW6 P6 G5 S5 P5 p2 a4
    go_wp2_with (rw [HE6.out])
    refine (elect_any g ({ t with known := ep, up := true } : Ses) n.port n.state _ TOK6.out (by exact G6.out)).mono ?_
    rintro e w7 ⟨rfl, g7, s7⟩
    have G7 := Lib.hid g7
    have S7 := Lib.hid (S6.out.drew.then_ s7)
    clear g7 s7
    go_wp2_with fail
    go_ret2
    exact ⟨n.port, rfl, G7.out, S7.out⟩
  · obtain ⟨t, ht⟩ : ∃ t, ({ s with link := now } : Ses).fresh = t := ⟨_, rfl⟩
    have HT := Lib.hid ht
    have TOK : Hid t.Ok := Lib.hid (by rw [← ht]; exact OKL.out.fresh)
    have hh : s.heard ep now = { t with known := ep } := by have hc : (decide (s.known < ep) && s.up) = true := (by rw [d2, hu]; rfl); rw [hd, hc, ← ht]; rfl
    clear ht hd
    have TOK6 : Hid (({ t with known := ep, up := true } : Ses).Ok) := Lib.hid ⟨TOK.out.id, TOK.out.prio, TOK.out.life, ⟨show 0 ≤ ep by omega, show ep ≤ 536870912 from he.2⟩, TOK.out.role, TOK.out.claim, TOK.out.link, TOK.out.beat⟩
    cases e1 : (ak != t.life)
    rotate_left
    · have e1' : ¬ ak = t.life := by simpa [bne] using e1
      rw [show s.take true ep ak n.port n.state now = (false, 0, { t with known := ep }) by simp [Ses.take, hm, d1', hh, e1']]
      clear hh e1'
      go_enter Tryd.func10, Tryd.ntmps10
      go_wp2_with (rw [HE.out])
      refine (M.out _).mono ?_
      rintro e w1 ⟨rfl, rfl⟩
      go_wp2_with (refine wpList_load_row rfl 36 (.tmp 4) rfl w.heap.size rfl 36 (n.packet ep sq ak (.slice bo n.body.length bc)) (0, 0) _ P1.out Tryd.underlying36 rfl (by kernel_rfl) ?_)
      refine HL.out.mono ?_
      rintro e w2 ⟨rfl, s2⟩
      have G2 := Lib.hid (s2.blk G1.out (fun s => s.elim))
      have P2 := Lib.hid (s2.blk P1.out (fun s => s.elim))
      have S2 := Lib.hid ((S1.out.then_ s2).none (S := (· = g)))
      clear s2 HE P1 G1 S1 HL M
      have q5 := (SC.of G2.out).c5
      have q0 := blk_cell P2.out 0
      simp only [Note.packet, List.getElem?_toArray, List.getElem?_cons_zero] at q0
      go_wp2_with fail
      refine wp_region_plan (fun w' => w'.cell? ⟨w.heap.size, 0, none⟩ = some (.int .i64 ep) ∧ w'.cell? ⟨g, 5, none⟩ = some (.int .i64 s.known)) (.take 0 (.take 1 (.take 2 (.take 3 (.take 4 (.take 5 (.take 6 (.take 7 .done)))))))) _
        (by simp only [Plan.map, opOf, List.getElem?_toArray, List.getElem?_cons_zero, List.getElem?_cons_succ, Option.getD_some]; rfl) (by kernel_rfl) (by kernel_rfl) (by kernel_rfl) (by decide) (by intro c a d v w; cases d <;> exact fun h => h) ⟨q0, q5⟩ ?_
      repeat (first | (refine wpPlan.taken (by rfl) (by intro w' hS'; (try dsimp only at hS'); go_split_ands; go_simp; try with_reducible rfl) ?_; simp only [Act.put, List.setIfInBounds_toArray, List.set_cons_zero, List.set_cons_succ]) | (refine wpPlan.passed (by rfl) ?_; simp only [Act.put, List.setIfInBounds_toArray, List.set_cons_zero, List.set_cons_succ]))
      refine wpPlan.done ?_
      have f9 := (SC.of G2.out).fz 9
      have q9 := (SC.of G2.out).c9
      have G3 : (w2.setCell ⟨g, 9, none⟩ (.int .i64 now)).heap[g]? = some (.cells (({ s with link := now } : Ses).cells op) 63 (0, 0)) := blk_set G2.out 9 _
      have P3 : (w2.setCell ⟨g, 9, none⟩ (.int .i64 now)).heap[w.heap.size]? = some (.cells (n.packet ep sq ak (.slice bo n.body.length bc)) 36 (0, 0)) := (heap_setCell_other w2 _ _ _ (by simpa using NE.out)).trans P2.out
      have S3 := S2.out.setCell (p := ⟨g, 9, none⟩) (fun _ => rfl) (.int .i64 now)
      obtain ⟨W3, hW3⟩ : ∃ W, w2.setCell ⟨g, 9, none⟩ (.int .i64 now) = W := ⟨_, rfl⟩
      rw [hW3] at G3 P3 S3
      have HE3 := Lib.hid hW3
      have G3 := Lib.hid G3
      have P3 := Lib.hid P3
      have S3 := Lib.hid S3
      clear hW3 G2 P2 S2 q0 q5
      go_wp2_with (rw [HE3.out])
      clear HE3 f9 q9
      have k3 := SC.of G3.out
      have k3c := k3.c5
      have k3u := k3.c6
      have k3p := blk_cell P3.out 0
      simp only [Note.packet, List.getElem?_toArray, List.getElem?_cons_zero] at k3p
      simp only at k3c k3u
      clear k3
      refine wp_region_plan (fun w' => w'.cell? ⟨w.heap.size, 0, none⟩ = some (.int .i64 ep) ∧ w'.cell? ⟨g, 5, none⟩ = some (.int .i64 s.known) ∧ w'.cell? ⟨g, 6, none⟩ = some (.bool s.up)) (.take 0 (.take 1 (.take 2 (.take 3 (.take 4 (.take 5 (.take 6 (.take 7 (.take 8 (.take 9 (.take 10 (.take 11 (.take 12 .done))))))))))))) _
        (by simp only [Plan.map, opOf, List.getElem?_toArray, List.getElem?_cons_zero, List.getElem?_cons_succ, Option.getD_some]; rfl) (by kernel_rfl) (by kernel_rfl) (by kernel_rfl) (by decide) (by intro c a d v w; cases d <;> exact fun h => h) ⟨k3p, k3c, k3u⟩ ?_
      repeat (first | (refine wpPlan.taken (by rfl) (by intro w' hS'; (try dsimp only at hS'); go_split_ands; go_simp; try with_reducible rfl) ?_; simp only [Act.put, List.setIfInBounds_toArray, List.set_cons_zero, List.set_cons_succ]) | (refine wpPlan.passed (by rfl) ?_; simp only [Act.put, List.setIfInBounds_toArray, List.set_cons_zero, List.set_cons_succ]))
      refine wpPlan.done ?_
      go_wp2_with fail
      refine (reborn_any g ({ s with link := now } : Ses) op _ OKL.out (by exact G3.out)).mono ?_
      rintro e w4 ⟨rfl, g4, s4⟩
      have P4 := Lib.hid (s4.blk P3.out (fun h => NE.out h))
      have S4 := Lib.hid (S3.out.drew.drew.then_ s4)
      have G4 := Lib.hid g4
      clear g4 s4 G3 P3 S3 k3p k3c k3u
      rw [HT.out] at G4
      have k4 := SC.of G4.out
      have a5 := k4.c5
      have a2 := k4.c2
      have b5 := k4.fz 5
      have b2 := k4.fz 2
      have K4 : Hid (∀ w', Step (· = g) w4 w' → w'.cell? ⟨w.heap.size, 0, none⟩ = some (.int .i64 ep) ∧ w'.cell? ⟨w.heap.size, 11, none⟩ = some (.int .i64 n.port)) := Lib.hid fun w' h' =>
        have k := blk_cell (h'.blk P4.out (fun h => NE.out h))
        ⟨k 0, k 11⟩
      have G5 : (((w4.setCell ⟨g, 5, none⟩ (.int .i64 ep)).setCell ⟨g, 2, none⟩ (.int .i64 n.port)).drew).heap[g]? = some (.cells (({ t with known := ep } : Ses).cells n.port) 63 (0, 0)) := blk_set (blk_set G4.out 5 _) 2 _
      have P5 : (((w4.setCell ⟨g, 5, none⟩ (.int .i64 ep)).setCell ⟨g, 2, none⟩ (.int .i64 n.port)).drew).heap[w.heap.size]? = some (.cells (n.packet ep sq ak (.slice bo n.body.length bc)) 36 (0, 0)) := (((Step.refl (· = g) w4).setCell (p := ⟨g, 5, none⟩) (fun _ => rfl) (.int .i64 ep)).setCell (p := ⟨g, 2, none⟩) (fun _ => rfl) (.int .i64 n.port)).drew.blk P4.out (fun h => NE.out h)
      have S5 := ((S4.out.setCell (p := ⟨g, 5, none⟩) (fun _ => rfl) (.int .i64 ep)).setCell (p := ⟨g, 2, none⟩) (fun _ => rfl) (.int .i64 n.port)).drew
      obtain ⟨W5, hW5⟩ : ∃ W, ((w4.setCell ⟨g, 5, none⟩ (.int .i64 ep)).setCell ⟨g, 2, none⟩ (.int .i64 n.port)).drew = W := ⟨_, rfl⟩
      rw [hW5] at G5 P5 S5
      have HE5 := Lib.hid hW5
      have G5 := Lib.hid G5
      have P5 := Lib.hid P5
      have S5 := Lib.hid S5
      clear k4 hW5 S4
      go_wp2_with fail
      refine wp_region_plan (fun w' => w'.cell? ⟨w.heap.size, 0, none⟩ = some (.int .i64 ep) ∧ w'.cell? ⟨w.heap.size, 11, none⟩ = some (.int .i64 n.port)) (.take 0 (.take 1 (.take 2 (.take 3 (.take 4 (.take 5 (.take 6 (.take 7 (.take 8 (.take 10 (.take 11 (.alt 9 (.take 12 (.alt 13 .done .none)) .none)))))))))))) _
        (by simp only [Plan.map, opOf, List.getElem?_toArray, List.getElem?_cons_zero, List.getElem?_cons_succ, Option.getD_some]; rfl) (by kernel_rfl) (by kernel_rfl) (by kernel_rfl) (by decide) (by intro c a d v w; cases d <;> exact fun h => h) (K4.out _ (Step.refl (· = g) w4).drew) ?_
      repeat (first | (refine wpPlan.taken (by rfl) (by intro w' hS'; (try dsimp only at hS'); go_split_ands; go_simp; try with_reducible rfl) ?_; simp only [Act.put, List.setIfInBounds_toArray, List.set_cons_zero, List.set_cons_succ]) | (refine wpPlan.passed (by rfl) ?_; simp only [Act.put, List.setIfInBounds_toArray, List.set_cons_zero, List.set_cons_succ]))
      refine wpPlan.runs fun K' hK => ?_
      go_simp
      refine hK.out _ _ (K4.out _ ((Step.refl (· = g) w4).drew.setCell (p := ⟨g, 5, none⟩) (fun _ => rfl) _)) ?_
      clear hK K'
      repeat (first | (refine wpPlan.taken (by rfl) (by intro w' hS'; (try dsimp only at hS'); go_split_ands; go_simp; try with_reducible rfl) ?_; simp only [Act.put, List.setIfInBounds_toArray, List.set_cons_zero, List.set_cons_succ]) | (refine wpPlan.passed (by rfl) ?_; simp only [Act.put, List.setIfInBounds_toArray, List.set_cons_zero, List.set_cons_succ]))
      refine wpPlan.runs fun K' hK => ?_
      go_simp
      refine hK.out _ _ (K4.out _ (((Step.refl (· = g) w4).drew.setCell (p := ⟨g, 5, none⟩) (fun _ => rfl) _).setCell (p := ⟨g, 2, none⟩) (fun _ => rfl) _)) ?_
      clear hK K'
      refine wpPlan.done ?_
      clear G4 P4 K4 a5 a2 b5 b2
      have k5 := SC.of G5.out
      have a4 := k5.c4
      have a6 := k5.c6
      have p2 := blk_cell P5.out 2
      simp only [Note.packet, List.getElem?_toArray, List.getElem?_cons_zero, List.getElem?_cons_succ] at p2
      simp only at a4 a6
      clear k5
      go_wp2_with (rw [HE5.out])
      clear HE5
      refine wp_region_plan (fun w' => w'.cell? ⟨w.heap.size, 2, none⟩ = some (.int .i64 ak) ∧ w'.cell? ⟨g, 4, none⟩ = some (.int .i64 t.life) ∧ w'.cell? ⟨g, 6, none⟩ = some (.bool t.up)) (.take 0 (.take 1 (.take 2 (.take 3 (.take 4 (.take 5 (.take 6 (.take 7 (.take 8 (.take 9 (.take 10 (.take 11 (.take 12 (.take 13 (.take 14 (.take 15 (.take 16 (.take 17 (.take 18 (.take 19 .done)))))))))))))))))))) _
        (by simp only [Plan.map, opOf, List.getElem?_toArray, List.getElem?_cons_zero, List.getElem?_cons_succ, Option.getD_some]; rfl) (by kernel_rfl) (by kernel_rfl) (by kernel_rfl) (by decide) (by intro c a d v w; cases d <;> exact fun h => h) ⟨p2, a4, a6⟩ ?_
      repeat (first | (refine wpPlan.taken (by rfl) (by intro w' hS'; (try dsimp only at hS'); go_split_ands; go_simp; try with_reducible rfl) ?_; simp only [Act.put, List.setIfInBounds_toArray, List.set_cons_zero, List.set_cons_succ]) | (refine wpPlan.passed (by rfl) ?_; simp only [Act.put, List.setIfInBounds_toArray, List.set_cons_zero, List.set_cons_succ]))
      refine wpPlan.done ?_
      go_wp2_with fail
      go_ret2
      exact ⟨n.port, rfl, G5.out, S5.out.drew⟩
    have e1' : ak = t.life := by simpa [bne] using e1
    cases e2 : t.up
    rotate_left
    · rw [show s.take true ep ak n.port n.state now = (false, 0, { t with known := ep }) by simp [Ses.take, hm, d1', hh, e2]]
      clear hh e1'
      go_enter Tryd.func10, Tryd.ntmps10
      go_wp2_with (rw [HE.out])
      refine (M.out _).mono ?_
      rintro e w1 ⟨rfl, rfl⟩
      go_wp2_with (refine wpList_load_row rfl 36 (.tmp 4) rfl w.heap.size rfl 36 (n.packet ep sq ak (.slice bo n.body.length bc)) (0, 0) _ P1.out Tryd.underlying36 rfl (by kernel_rfl) ?_)
      refine HL.out.mono ?_
      rintro e w2 ⟨rfl, s2⟩
      have G2 := Lib.hid (s2.blk G1.out (fun s => s.elim))
      have P2 := Lib.hid (s2.blk P1.out (fun s => s.elim))
      have S2 := Lib.hid ((S1.out.then_ s2).none (S := (· = g)))
      clear s2 HE P1 G1 S1 HL M
      have q5 := (SC.of G2.out).c5
      have q0 := blk_cell P2.out 0
      simp only [Note.packet, List.getElem?_toArray, List.getElem?_cons_zero] at q0
      go_wp2_with fail
      refine wp_region_plan (fun w' => w'.cell? ⟨w.heap.size, 0, none⟩ = some (.int .i64 ep) ∧ w'.cell? ⟨g, 5, none⟩ = some (.int .i64 s.known)) (.take 0 (.take 1 (.take 2 (.take 3 (.take 4 (.take 5 (.take 6 (.take 7 .done)))))))) _
        (by simp only [Plan.map, opOf, List.getElem?_toArray, List.getElem?_cons_zero, List.getElem?_cons_succ, Option.getD_some]; rfl) (by kernel_rfl) (by kernel_rfl) (by kernel_rfl) (by decide) (by intro c a d v w; cases d <;> exact fun h => h) ⟨q0, q5⟩ ?_
      repeat (first | (refine wpPlan.taken (by rfl) (by intro w' hS'; (try dsimp only at hS'); go_split_ands; go_simp; try with_reducible rfl) ?_; simp only [Act.put, List.setIfInBounds_toArray, List.set_cons_zero, List.set_cons_succ]) | (refine wpPlan.passed (by rfl) ?_; simp only [Act.put, List.setIfInBounds_toArray, List.set_cons_zero, List.set_cons_succ]))
      refine wpPlan.done ?_
      have f9 := (SC.of G2.out).fz 9
      have q9 := (SC.of G2.out).c9
      have G3 : (w2.setCell ⟨g, 9, none⟩ (.int .i64 now)).heap[g]? = some (.cells (({ s with link := now } : Ses).cells op) 63 (0, 0)) := blk_set G2.out 9 _
      have P3 : (w2.setCell ⟨g, 9, none⟩ (.int .i64 now)).heap[w.heap.size]? = some (.cells (n.packet ep sq ak (.slice bo n.body.length bc)) 36 (0, 0)) := (heap_setCell_other w2 _ _ _ (by simpa using NE.out)).trans P2.out
      have S3 := S2.out.setCell (p := ⟨g, 9, none⟩) (fun _ => rfl) (.int .i64 now)
      obtain ⟨W3, hW3⟩ : ∃ W, w2.setCell ⟨g, 9, none⟩ (.int .i64 now) = W := ⟨_, rfl⟩
      rw [hW3] at G3 P3 S3
      have HE3 := Lib.hid hW3
      have G3 := Lib.hid G3
      have P3 := Lib.hid P3
      have S3 := Lib.hid S3
      clear hW3 G2 P2 S2 q0 q5
      go_wp2_with (rw [HE3.out])
      clear HE3 f9 q9
      have k3 := SC.of G3.out
      have k3c := k3.c5
      have k3u := k3.c6
      have k3p := blk_cell P3.out 0
      simp only [Note.packet, List.getElem?_toArray, List.getElem?_cons_zero] at k3p
      simp only at k3c k3u
      clear k3
      refine wp_region_plan (fun w' => w'.cell? ⟨w.heap.size, 0, none⟩ = some (.int .i64 ep) ∧ w'.cell? ⟨g, 5, none⟩ = some (.int .i64 s.known) ∧ w'.cell? ⟨g, 6, none⟩ = some (.bool s.up)) (.take 0 (.take 1 (.take 2 (.take 3 (.take 4 (.take 5 (.take 6 (.take 7 (.take 8 (.take 9 (.take 10 (.take 11 (.take 12 .done))))))))))))) _
        (by simp only [Plan.map, opOf, List.getElem?_toArray, List.getElem?_cons_zero, List.getElem?_cons_succ, Option.getD_some]; rfl) (by kernel_rfl) (by kernel_rfl) (by kernel_rfl) (by decide) (by intro c a d v w; cases d <;> exact fun h => h) ⟨k3p, k3c, k3u⟩ ?_
      repeat (first | (refine wpPlan.taken (by rfl) (by intro w' hS'; (try dsimp only at hS'); go_split_ands; go_simp; try with_reducible rfl) ?_; simp only [Act.put, List.setIfInBounds_toArray, List.set_cons_zero, List.set_cons_succ]) | (refine wpPlan.passed (by rfl) ?_; simp only [Act.put, List.setIfInBounds_toArray, List.set_cons_zero, List.set_cons_succ]))
      refine wpPlan.done ?_
      go_wp2_with fail
      refine (reborn_any g ({ s with link := now } : Ses) op _ OKL.out (by exact G3.out)).mono ?_
      rintro e w4 ⟨rfl, g4, s4⟩
      have P4 := Lib.hid (s4.blk P3.out (fun h => NE.out h))
      have S4 := Lib.hid (S3.out.drew.drew.then_ s4)
      have G4 := Lib.hid g4
      clear g4 s4 G3 P3 S3 k3p k3c k3u
      rw [HT.out] at G4
      have k4 := SC.of G4.out
      have a5 := k4.c5
      have a2 := k4.c2
      have b5 := k4.fz 5
      have b2 := k4.fz 2
      have K4 : Hid (∀ w', Step (· = g) w4 w' → w'.cell? ⟨w.heap.size, 0, none⟩ = some (.int .i64 ep) ∧ w'.cell? ⟨w.heap.size, 11, none⟩ = some (.int .i64 n.port)) := Lib.hid fun w' h' =>
        have k := blk_cell (h'.blk P4.out (fun h => NE.out h))
        ⟨k 0, k 11⟩
      have G5 : (((w4.setCell ⟨g, 5, none⟩ (.int .i64 ep)).setCell ⟨g, 2, none⟩ (.int .i64 n.port)).drew).heap[g]? = some (.cells (({ t with known := ep } : Ses).cells n.port) 63 (0, 0)) := blk_set (blk_set G4.out 5 _) 2 _
      have P5 : (((w4.setCell ⟨g, 5, none⟩ (.int .i64 ep)).setCell ⟨g, 2, none⟩ (.int .i64 n.port)).drew).heap[w.heap.size]? = some (.cells (n.packet ep sq ak (.slice bo n.body.length bc)) 36 (0, 0)) := (((Step.refl (· = g) w4).setCell (p := ⟨g, 5, none⟩) (fun _ => rfl) (.int .i64 ep)).setCell (p := ⟨g, 2, none⟩) (fun _ => rfl) (.int .i64 n.port)).drew.blk P4.out (fun h => NE.out h)
      have S5 := ((S4.out.setCell (p := ⟨g, 5, none⟩) (fun _ => rfl) (.int .i64 ep)).setCell (p := ⟨g, 2, none⟩) (fun _ => rfl) (.int .i64 n.port)).drew
      obtain ⟨W5, hW5⟩ : ∃ W, ((w4.setCell ⟨g, 5, none⟩ (.int .i64 ep)).setCell ⟨g, 2, none⟩ (.int .i64 n.port)).drew = W := ⟨_, rfl⟩
      rw [hW5] at G5 P5 S5
      have HE5 := Lib.hid hW5
      have G5 := Lib.hid G5
      have P5 := Lib.hid P5
      have S5 := Lib.hid S5
      clear k4 hW5 S4
      go_wp2_with fail
      refine wp_region_plan (fun w' => w'.cell? ⟨w.heap.size, 0, none⟩ = some (.int .i64 ep) ∧ w'.cell? ⟨w.heap.size, 11, none⟩ = some (.int .i64 n.port)) (.take 0 (.take 1 (.take 2 (.take 3 (.take 4 (.take 5 (.take 6 (.take 7 (.take 8 (.take 10 (.take 11 (.alt 9 (.take 12 (.alt 13 .done .none)) .none)))))))))))) _
        (by simp only [Plan.map, opOf, List.getElem?_toArray, List.getElem?_cons_zero, List.getElem?_cons_succ, Option.getD_some]; rfl) (by kernel_rfl) (by kernel_rfl) (by kernel_rfl) (by decide) (by intro c a d v w; cases d <;> exact fun h => h) (K4.out _ (Step.refl (· = g) w4).drew) ?_
      repeat (first | (refine wpPlan.taken (by rfl) (by intro w' hS'; (try dsimp only at hS'); go_split_ands; go_simp; try with_reducible rfl) ?_; simp only [Act.put, List.setIfInBounds_toArray, List.set_cons_zero, List.set_cons_succ]) | (refine wpPlan.passed (by rfl) ?_; simp only [Act.put, List.setIfInBounds_toArray, List.set_cons_zero, List.set_cons_succ]))
      refine wpPlan.runs fun K' hK => ?_
      go_simp
      refine hK.out _ _ (K4.out _ ((Step.refl (· = g) w4).drew.setCell (p := ⟨g, 5, none⟩) (fun _ => rfl) _)) ?_
      clear hK K'
      repeat (first | (refine wpPlan.taken (by rfl) (by intro w' hS'; (try dsimp only at hS'); go_split_ands; go_simp; try with_reducible rfl) ?_; simp only [Act.put, List.setIfInBounds_toArray, List.set_cons_zero, List.set_cons_succ]) | (refine wpPlan.passed (by rfl) ?_; simp only [Act.put, List.setIfInBounds_toArray, List.set_cons_zero, List.set_cons_succ]))
      refine wpPlan.runs fun K' hK => ?_
      go_simp
      refine hK.out _ _ (K4.out _ (((Step.refl (· = g) w4).drew.setCell (p := ⟨g, 5, none⟩) (fun _ => rfl) _).setCell (p := ⟨g, 2, none⟩) (fun _ => rfl) _)) ?_
      clear hK K'
      refine wpPlan.done ?_
      clear G4 P4 K4 a5 a2 b5 b2
      have k5 := SC.of G5.out
      have a4 := k5.c4
      have a6 := k5.c6
      have p2 := blk_cell P5.out 2
      simp only [Note.packet, List.getElem?_toArray, List.getElem?_cons_zero, List.getElem?_cons_succ] at p2
      simp only at a4 a6
      clear k5
      go_wp2_with (rw [HE5.out])
      clear HE5
      refine wp_region_plan (fun w' => w'.cell? ⟨w.heap.size, 2, none⟩ = some (.int .i64 ak) ∧ w'.cell? ⟨g, 4, none⟩ = some (.int .i64 t.life) ∧ w'.cell? ⟨g, 6, none⟩ = some (.bool t.up)) (.take 0 (.take 1 (.take 2 (.take 3 (.take 4 (.take 5 (.take 6 (.take 7 (.take 8 (.take 9 (.take 10 (.take 11 (.take 12 (.take 13 (.take 14 (.take 15 (.take 16 (.take 17 (.take 18 (.take 19 .done)))))))))))))))))))) _
        (by simp only [Plan.map, opOf, List.getElem?_toArray, List.getElem?_cons_zero, List.getElem?_cons_succ, Option.getD_some]; rfl) (by kernel_rfl) (by kernel_rfl) (by kernel_rfl) (by decide) (by intro c a d v w; cases d <;> exact fun h => h) ⟨p2, a4, a6⟩ ?_
      repeat (first | (refine wpPlan.taken (by rfl) (by intro w' hS'; (try dsimp only at hS'); go_split_ands; go_simp; try with_reducible rfl) ?_; simp only [Act.put, List.setIfInBounds_toArray, List.set_cons_zero, List.set_cons_succ]) | (refine wpPlan.passed (by rfl) ?_; simp only [Act.put, List.setIfInBounds_toArray, List.set_cons_zero, List.set_cons_succ]))
      refine wpPlan.done ?_
      go_wp2_with fail
      go_ret2
      exact ⟨n.port, rfl, G5.out, S5.out.drew⟩
    cases e3 : (t.life == 536870912)
    rotate_left
    · have e3' : t.life = 536870912 := by simpa using e3
      rw [show s.take true ep ak n.port n.state now = (false, 0, { t with known := ep }) by simp [Ses.take, hm, d1', hh, e3']]
      clear hh e1' e3'
      go_enter Tryd.func10, Tryd.ntmps10
      go_wp2_with (rw [HE.out])
      refine (M.out _).mono ?_
      rintro e w1 ⟨rfl, rfl⟩
      go_wp2_with (refine wpList_load_row rfl 36 (.tmp 4) rfl w.heap.size rfl 36 (n.packet ep sq ak (.slice bo n.body.length bc)) (0, 0) _ P1.out Tryd.underlying36 rfl (by kernel_rfl) ?_)
      refine HL.out.mono ?_
      rintro e w2 ⟨rfl, s2⟩
      have G2 := Lib.hid (s2.blk G1.out (fun s => s.elim))
      have P2 := Lib.hid (s2.blk P1.out (fun s => s.elim))
      have S2 := Lib.hid ((S1.out.then_ s2).none (S := (· = g)))
      clear s2 HE P1 G1 S1 HL M
      have q5 := (SC.of G2.out).c5
      have q0 := blk_cell P2.out 0
      simp only [Note.packet, List.getElem?_toArray, List.getElem?_cons_zero] at q0
      go_wp2_with fail
      refine wp_region_plan (fun w' => w'.cell? ⟨w.heap.size, 0, none⟩ = some (.int .i64 ep) ∧ w'.cell? ⟨g, 5, none⟩ = some (.int .i64 s.known)) (.take 0 (.take 1 (.take 2 (.take 3 (.take 4 (.take 5 (.take 6 (.take 7 .done)))))))) _
        (by simp only [Plan.map, opOf, List.getElem?_toArray, List.getElem?_cons_zero, List.getElem?_cons_succ, Option.getD_some]; rfl) (by kernel_rfl) (by kernel_rfl) (by kernel_rfl) (by decide) (by intro c a d v w; cases d <;> exact fun h => h) ⟨q0, q5⟩ ?_
      repeat (first | (refine wpPlan.taken (by rfl) (by intro w' hS'; (try dsimp only at hS'); go_split_ands; go_simp; try with_reducible rfl) ?_; simp only [Act.put, List.setIfInBounds_toArray, List.set_cons_zero, List.set_cons_succ]) | (refine wpPlan.passed (by rfl) ?_; simp only [Act.put, List.setIfInBounds_toArray, List.set_cons_zero, List.set_cons_succ]))
      refine wpPlan.done ?_
      have f9 := (SC.of G2.out).fz 9
      have q9 := (SC.of G2.out).c9
      have G3 : (w2.setCell ⟨g, 9, none⟩ (.int .i64 now)).heap[g]? = some (.cells (({ s with link := now } : Ses).cells op) 63 (0, 0)) := blk_set G2.out 9 _
      have P3 : (w2.setCell ⟨g, 9, none⟩ (.int .i64 now)).heap[w.heap.size]? = some (.cells (n.packet ep sq ak (.slice bo n.body.length bc)) 36 (0, 0)) := (heap_setCell_other w2 _ _ _ (by simpa using NE.out)).trans P2.out
      have S3 := S2.out.setCell (p := ⟨g, 9, none⟩) (fun _ => rfl) (.int .i64 now)
      obtain ⟨W3, hW3⟩ : ∃ W, w2.setCell ⟨g, 9, none⟩ (.int .i64 now) = W := ⟨_, rfl⟩
      rw [hW3] at G3 P3 S3
      have HE3 := Lib.hid hW3
      have G3 := Lib.hid G3
      have P3 := Lib.hid P3
      have S3 := Lib.hid S3
      clear hW3 G2 P2 S2 q0 q5
      go_wp2_with (rw [HE3.out])
      clear HE3 f9 q9
      have k3 := SC.of G3.out
      have k3c := k3.c5
      have k3u := k3.c6
      have k3p := blk_cell P3.out 0
      simp only [Note.packet, List.getElem?_toArray, List.getElem?_cons_zero] at k3p
      simp only at k3c k3u
      clear k3
      refine wp_region_plan (fun w' => w'.cell? ⟨w.heap.size, 0, none⟩ = some (.int .i64 ep) ∧ w'.cell? ⟨g, 5, none⟩ = some (.int .i64 s.known) ∧ w'.cell? ⟨g, 6, none⟩ = some (.bool s.up)) (.take 0 (.take 1 (.take 2 (.take 3 (.take 4 (.take 5 (.take 6 (.take 7 (.take 8 (.take 9 (.take 10 (.take 11 (.take 12 .done))))))))))))) _
        (by simp only [Plan.map, opOf, List.getElem?_toArray, List.getElem?_cons_zero, List.getElem?_cons_succ, Option.getD_some]; rfl) (by kernel_rfl) (by kernel_rfl) (by kernel_rfl) (by decide) (by intro c a d v w; cases d <;> exact fun h => h) ⟨k3p, k3c, k3u⟩ ?_
      repeat (first | (refine wpPlan.taken (by rfl) (by intro w' hS'; (try dsimp only at hS'); go_split_ands; go_simp; try with_reducible rfl) ?_; simp only [Act.put, List.setIfInBounds_toArray, List.set_cons_zero, List.set_cons_succ]) | (refine wpPlan.passed (by rfl) ?_; simp only [Act.put, List.setIfInBounds_toArray, List.set_cons_zero, List.set_cons_succ]))
      refine wpPlan.done ?_
      go_wp2_with fail
      refine (reborn_any g ({ s with link := now } : Ses) op _ OKL.out (by exact G3.out)).mono ?_
      rintro e w4 ⟨rfl, g4, s4⟩
      have P4 := Lib.hid (s4.blk P3.out (fun h => NE.out h))
      have S4 := Lib.hid (S3.out.drew.drew.then_ s4)
      have G4 := Lib.hid g4
      clear g4 s4 G3 P3 S3 k3p k3c k3u
      rw [HT.out] at G4
      have k4 := SC.of G4.out
      have a5 := k4.c5
      have a2 := k4.c2
      have b5 := k4.fz 5
      have b2 := k4.fz 2
      have K4 : Hid (∀ w', Step (· = g) w4 w' → w'.cell? ⟨w.heap.size, 0, none⟩ = some (.int .i64 ep) ∧ w'.cell? ⟨w.heap.size, 11, none⟩ = some (.int .i64 n.port)) := Lib.hid fun w' h' =>
        have k := blk_cell (h'.blk P4.out (fun h => NE.out h))
        ⟨k 0, k 11⟩
      have G5 : (((w4.setCell ⟨g, 5, none⟩ (.int .i64 ep)).setCell ⟨g, 2, none⟩ (.int .i64 n.port)).drew).heap[g]? = some (.cells (({ t with known := ep } : Ses).cells n.port) 63 (0, 0)) := blk_set (blk_set G4.out 5 _) 2 _
      have P5 : (((w4.setCell ⟨g, 5, none⟩ (.int .i64 ep)).setCell ⟨g, 2, none⟩ (.int .i64 n.port)).drew).heap[w.heap.size]? = some (.cells (n.packet ep sq ak (.slice bo n.body.length bc)) 36 (0, 0)) := (((Step.refl (· = g) w4).setCell (p := ⟨g, 5, none⟩) (fun _ => rfl) (.int .i64 ep)).setCell (p := ⟨g, 2, none⟩) (fun _ => rfl) (.int .i64 n.port)).drew.blk P4.out (fun h => NE.out h)
      have S5 := ((S4.out.setCell (p := ⟨g, 5, none⟩) (fun _ => rfl) (.int .i64 ep)).setCell (p := ⟨g, 2, none⟩) (fun _ => rfl) (.int .i64 n.port)).drew
      obtain ⟨W5, hW5⟩ : ∃ W, ((w4.setCell ⟨g, 5, none⟩ (.int .i64 ep)).setCell ⟨g, 2, none⟩ (.int .i64 n.port)).drew = W := ⟨_, rfl⟩
      rw [hW5] at G5 P5 S5
      have HE5 := Lib.hid hW5
      have G5 := Lib.hid G5
      have P5 := Lib.hid P5
      have S5 := Lib.hid S5
      clear k4 hW5 S4
      go_wp2_with fail
      refine wp_region_plan (fun w' => w'.cell? ⟨w.heap.size, 0, none⟩ = some (.int .i64 ep) ∧ w'.cell? ⟨w.heap.size, 11, none⟩ = some (.int .i64 n.port)) (.take 0 (.take 1 (.take 2 (.take 3 (.take 4 (.take 5 (.take 6 (.take 7 (.take 8 (.take 10 (.take 11 (.alt 9 (.take 12 (.alt 13 .done .none)) .none)))))))))))) _
        (by simp only [Plan.map, opOf, List.getElem?_toArray, List.getElem?_cons_zero, List.getElem?_cons_succ, Option.getD_some]; rfl) (by kernel_rfl) (by kernel_rfl) (by kernel_rfl) (by decide) (by intro c a d v w; cases d <;> exact fun h => h) (K4.out _ (Step.refl (· = g) w4).drew) ?_
      repeat (first | (refine wpPlan.taken (by rfl) (by intro w' hS'; (try dsimp only at hS'); go_split_ands; go_simp; try with_reducible rfl) ?_; simp only [Act.put, List.setIfInBounds_toArray, List.set_cons_zero, List.set_cons_succ]) | (refine wpPlan.passed (by rfl) ?_; simp only [Act.put, List.setIfInBounds_toArray, List.set_cons_zero, List.set_cons_succ]))
      refine wpPlan.runs fun K' hK => ?_
      go_simp
      refine hK.out _ _ (K4.out _ ((Step.refl (· = g) w4).drew.setCell (p := ⟨g, 5, none⟩) (fun _ => rfl) _)) ?_
      clear hK K'
      repeat (first | (refine wpPlan.taken (by rfl) (by intro w' hS'; (try dsimp only at hS'); go_split_ands; go_simp; try with_reducible rfl) ?_; simp only [Act.put, List.setIfInBounds_toArray, List.set_cons_zero, List.set_cons_succ]) | (refine wpPlan.passed (by rfl) ?_; simp only [Act.put, List.setIfInBounds_toArray, List.set_cons_zero, List.set_cons_succ]))
      refine wpPlan.runs fun K' hK => ?_
      go_simp
      refine hK.out _ _ (K4.out _ (((Step.refl (· = g) w4).drew.setCell (p := ⟨g, 5, none⟩) (fun _ => rfl) _).setCell (p := ⟨g, 2, none⟩) (fun _ => rfl) _)) ?_
      clear hK K'
      refine wpPlan.done ?_
      clear G4 P4 K4 a5 a2 b5 b2
      have k5 := SC.of G5.out
      have a4 := k5.c4
      have a6 := k5.c6
      have p2 := blk_cell P5.out 2
      simp only [Note.packet, List.getElem?_toArray, List.getElem?_cons_zero, List.getElem?_cons_succ] at p2
      simp only at a4 a6
      clear k5
      go_wp2_with (rw [HE5.out])
      clear HE5
      refine wp_region_plan (fun w' => w'.cell? ⟨w.heap.size, 2, none⟩ = some (.int .i64 ak) ∧ w'.cell? ⟨g, 4, none⟩ = some (.int .i64 t.life) ∧ w'.cell? ⟨g, 6, none⟩ = some (.bool t.up)) (.take 0 (.take 1 (.take 2 (.take 3 (.take 4 (.take 5 (.take 6 (.take 7 (.take 8 (.take 9 (.take 10 (.take 11 (.take 12 (.take 13 (.take 14 (.take 15 (.take 16 (.take 17 (.take 18 (.take 19 .done)))))))))))))))))))) _
        (by simp only [Plan.map, opOf, List.getElem?_toArray, List.getElem?_cons_zero, List.getElem?_cons_succ, Option.getD_some]; rfl) (by kernel_rfl) (by kernel_rfl) (by kernel_rfl) (by decide) (by intro c a d v w; cases d <;> exact fun h => h) ⟨p2, a4, a6⟩ ?_
      repeat (first | (refine wpPlan.taken (by rfl) (by intro w' hS'; (try dsimp only at hS'); go_split_ands; go_simp; try with_reducible rfl) ?_; simp only [Act.put, List.setIfInBounds_toArray, List.set_cons_zero, List.set_cons_succ]) | (refine wpPlan.passed (by rfl) ?_; simp only [Act.put, List.setIfInBounds_toArray, List.set_cons_zero, List.set_cons_succ]))
      refine wpPlan.done ?_
      go_wp2_with fail
      go_ret2
      exact ⟨n.port, rfl, G5.out, S5.out.drew⟩
    have e3' : ¬ t.life = 536870912 := by simpa using e3
    rw [show s.take true ep ak n.port n.state now = (true, 0, ({ t with known := ep } : Ses).meet n.port n.state) by simp [Ses.take, hm, d1', hh, e1', e2, e3']]
    clear hh e1' e3'
    go_enter Tryd.func10, Tryd.ntmps10
    go_wp2_with (rw [HE.out])
    refine (M.out _).mono ?_
    rintro e w1 ⟨rfl, rfl⟩
    go_wp2_with (refine wpList_load_row rfl 36 (.tmp 4) rfl w.heap.size rfl 36 (n.packet ep sq ak (.slice bo n.body.length bc)) (0, 0) _ P1.out Tryd.underlying36 rfl (by kernel_rfl) ?_)
    refine HL.out.mono ?_
    rintro e w2 ⟨rfl, s2⟩
    have G2 := Lib.hid (s2.blk G1.out (fun s => s.elim))
    have P2 := Lib.hid (s2.blk P1.out (fun s => s.elim))
    have S2 := Lib.hid ((S1.out.then_ s2).none (S := (· = g)))
    clear s2 HE P1 G1 S1 HL M
    have q5 := (SC.of G2.out).c5
    have q0 := blk_cell P2.out 0
    simp only [Note.packet, List.getElem?_toArray, List.getElem?_cons_zero] at q0
    go_wp2_with fail
    refine wp_region_plan (fun w' => w'.cell? ⟨w.heap.size, 0, none⟩ = some (.int .i64 ep) ∧ w'.cell? ⟨g, 5, none⟩ = some (.int .i64 s.known)) (.take 0 (.take 1 (.take 2 (.take 3 (.take 4 (.take 5 (.take 6 (.take 7 .done)))))))) _
      (by simp only [Plan.map, opOf, List.getElem?_toArray, List.getElem?_cons_zero, List.getElem?_cons_succ, Option.getD_some]; rfl) (by kernel_rfl) (by kernel_rfl) (by kernel_rfl) (by decide) (by intro c a d v w; cases d <;> exact fun h => h) ⟨q0, q5⟩ ?_
    repeat (first | (refine wpPlan.taken (by rfl) (by intro w' hS'; (try dsimp only at hS'); go_split_ands; go_simp; try with_reducible rfl) ?_; simp only [Act.put, List.setIfInBounds_toArray, List.set_cons_zero, List.set_cons_succ]) | (refine wpPlan.passed (by rfl) ?_; simp only [Act.put, List.setIfInBounds_toArray, List.set_cons_zero, List.set_cons_succ]))
    refine wpPlan.done ?_
    have f9 := (SC.of G2.out).fz 9
    have q9 := (SC.of G2.out).c9
    have G3 : (w2.setCell ⟨g, 9, none⟩ (.int .i64 now)).heap[g]? = some (.cells (({ s with link := now } : Ses).cells op) 63 (0, 0)) := blk_set G2.out 9 _
    have P3 : (w2.setCell ⟨g, 9, none⟩ (.int .i64 now)).heap[w.heap.size]? = some (.cells (n.packet ep sq ak (.slice bo n.body.length bc)) 36 (0, 0)) := (heap_setCell_other w2 _ _ _ (by simpa using NE.out)).trans P2.out
    have S3 := S2.out.setCell (p := ⟨g, 9, none⟩) (fun _ => rfl) (.int .i64 now)
    obtain ⟨W3, hW3⟩ : ∃ W, w2.setCell ⟨g, 9, none⟩ (.int .i64 now) = W := ⟨_, rfl⟩
    rw [hW3] at G3 P3 S3
    have HE3 := Lib.hid hW3
    have G3 := Lib.hid G3
    have P3 := Lib.hid P3
    have S3 := Lib.hid S3
    clear hW3 G2 P2 S2 q0 q5
    go_wp2_with (rw [HE3.out])
    clear HE3 f9 q9
    have k3 := SC.of G3.out
    have k3c := k3.c5
    have k3u := k3.c6
    have k3p := blk_cell P3.out 0
    simp only [Note.packet, List.getElem?_toArray, List.getElem?_cons_zero] at k3p
    simp only at k3c k3u
    clear k3
    refine wp_region_plan (fun w' => w'.cell? ⟨w.heap.size, 0, none⟩ = some (.int .i64 ep) ∧ w'.cell? ⟨g, 5, none⟩ = some (.int .i64 s.known) ∧ w'.cell? ⟨g, 6, none⟩ = some (.bool s.up)) (.take 0 (.take 1 (.take 2 (.take 3 (.take 4 (.take 5 (.take 6 (.take 7 (.take 8 (.take 9 (.take 10 (.take 11 (.take 12 .done))))))))))))) _
      (by simp only [Plan.map, opOf, List.getElem?_toArray, List.getElem?_cons_zero, List.getElem?_cons_succ, Option.getD_some]; rfl) (by kernel_rfl) (by kernel_rfl) (by kernel_rfl) (by decide) (by intro c a d v w; cases d <;> exact fun h => h) ⟨k3p, k3c, k3u⟩ ?_
    repeat (first | (refine wpPlan.taken (by rfl) (by intro w' hS'; (try dsimp only at hS'); go_split_ands; go_simp; try with_reducible rfl) ?_; simp only [Act.put, List.setIfInBounds_toArray, List.set_cons_zero, List.set_cons_succ]) | (refine wpPlan.passed (by rfl) ?_; simp only [Act.put, List.setIfInBounds_toArray, List.set_cons_zero, List.set_cons_succ]))
    refine wpPlan.done ?_
    go_wp2_with fail
    refine (reborn_any g ({ s with link := now } : Ses) op _ OKL.out (by exact G3.out)).mono ?_
    rintro e w4 ⟨rfl, g4, s4⟩
    have P4 := Lib.hid (s4.blk P3.out (fun h => NE.out h))
    have S4 := Lib.hid (S3.out.drew.drew.then_ s4)
    have G4 := Lib.hid g4
    clear g4 s4 G3 P3 S3 k3p k3c k3u
    rw [HT.out] at G4
    have k4 := SC.of G4.out
    have a5 := k4.c5
    have a2 := k4.c2
    have b5 := k4.fz 5
    have b2 := k4.fz 2
    have K4 : Hid (∀ w', Step (· = g) w4 w' → w'.cell? ⟨w.heap.size, 0, none⟩ = some (.int .i64 ep) ∧ w'.cell? ⟨w.heap.size, 11, none⟩ = some (.int .i64 n.port)) := Lib.hid fun w' h' =>
      have k := blk_cell (h'.blk P4.out (fun h => NE.out h))
      ⟨k 0, k 11⟩
    have G5 : (((w4.setCell ⟨g, 5, none⟩ (.int .i64 ep)).setCell ⟨g, 2, none⟩ (.int .i64 n.port)).drew).heap[g]? = some (.cells (({ t with known := ep } : Ses).cells n.port) 63 (0, 0)) := blk_set (blk_set G4.out 5 _) 2 _
    have P5 : (((w4.setCell ⟨g, 5, none⟩ (.int .i64 ep)).setCell ⟨g, 2, none⟩ (.int .i64 n.port)).drew).heap[w.heap.size]? = some (.cells (n.packet ep sq ak (.slice bo n.body.length bc)) 36 (0, 0)) := (((Step.refl (· = g) w4).setCell (p := ⟨g, 5, none⟩) (fun _ => rfl) (.int .i64 ep)).setCell (p := ⟨g, 2, none⟩) (fun _ => rfl) (.int .i64 n.port)).drew.blk P4.out (fun h => NE.out h)
    have S5 := ((S4.out.setCell (p := ⟨g, 5, none⟩) (fun _ => rfl) (.int .i64 ep)).setCell (p := ⟨g, 2, none⟩) (fun _ => rfl) (.int .i64 n.port)).drew
    obtain ⟨W5, hW5⟩ : ∃ W, ((w4.setCell ⟨g, 5, none⟩ (.int .i64 ep)).setCell ⟨g, 2, none⟩ (.int .i64 n.port)).drew = W := ⟨_, rfl⟩
    rw [hW5] at G5 P5 S5
    have HE5 := Lib.hid hW5
    have G5 := Lib.hid G5
    have P5 := Lib.hid P5
    have S5 := Lib.hid S5
    clear k4 hW5 S4
    go_wp2_with fail
    refine wp_region_plan (fun w' => w'.cell? ⟨w.heap.size, 0, none⟩ = some (.int .i64 ep) ∧ w'.cell? ⟨w.heap.size, 11, none⟩ = some (.int .i64 n.port)) (.take 0 (.take 1 (.take 2 (.take 3 (.take 4 (.take 5 (.take 6 (.take 7 (.take 8 (.take 10 (.take 11 (.alt 9 (.take 12 (.alt 13 .done .none)) .none)))))))))))) _
      (by simp only [Plan.map, opOf, List.getElem?_toArray, List.getElem?_cons_zero, List.getElem?_cons_succ, Option.getD_some]; rfl) (by kernel_rfl) (by kernel_rfl) (by kernel_rfl) (by decide) (by intro c a d v w; cases d <;> exact fun h => h) (K4.out _ (Step.refl (· = g) w4).drew) ?_
    repeat (first | (refine wpPlan.taken (by rfl) (by intro w' hS'; (try dsimp only at hS'); go_split_ands; go_simp; try with_reducible rfl) ?_; simp only [Act.put, List.setIfInBounds_toArray, List.set_cons_zero, List.set_cons_succ]) | (refine wpPlan.passed (by rfl) ?_; simp only [Act.put, List.setIfInBounds_toArray, List.set_cons_zero, List.set_cons_succ]))
    refine wpPlan.runs fun K' hK => ?_
    go_simp
    refine hK.out _ _ (K4.out _ ((Step.refl (· = g) w4).drew.setCell (p := ⟨g, 5, none⟩) (fun _ => rfl) _)) ?_
    clear hK K'
    repeat (first | (refine wpPlan.taken (by rfl) (by intro w' hS'; (try dsimp only at hS'); go_split_ands; go_simp; try with_reducible rfl) ?_; simp only [Act.put, List.setIfInBounds_toArray, List.set_cons_zero, List.set_cons_succ]) | (refine wpPlan.passed (by rfl) ?_; simp only [Act.put, List.setIfInBounds_toArray, List.set_cons_zero, List.set_cons_succ]))
    refine wpPlan.runs fun K' hK => ?_
    go_simp
    refine hK.out _ _ (K4.out _ (((Step.refl (· = g) w4).drew.setCell (p := ⟨g, 5, none⟩) (fun _ => rfl) _).setCell (p := ⟨g, 2, none⟩) (fun _ => rfl) _)) ?_
    clear hK K'
    refine wpPlan.done ?_
    clear G4 P4 K4 a5 a2 b5 b2
    have k5 := SC.of G5.out
    have a4 := k5.c4
    have a6 := k5.c6
    have p2 := blk_cell P5.out 2
    simp only [Note.packet, List.getElem?_toArray, List.getElem?_cons_zero, List.getElem?_cons_succ] at p2
    simp only at a4 a6
    clear k5
    go_wp2_with (rw [HE5.out])
    clear HE5
    refine wp_region_plan (fun w' => w'.cell? ⟨w.heap.size, 2, none⟩ = some (.int .i64 ak) ∧ w'.cell? ⟨g, 4, none⟩ = some (.int .i64 t.life) ∧ w'.cell? ⟨g, 6, none⟩ = some (.bool t.up)) (.take 0 (.take 1 (.take 2 (.take 3 (.take 4 (.take 5 (.take 6 (.take 7 (.take 8 (.take 9 (.take 10 (.take 11 (.take 12 (.take 13 (.take 14 (.take 15 (.take 16 (.take 17 (.take 18 (.take 19 .done)))))))))))))))))))) _
      (by simp only [Plan.map, opOf, List.getElem?_toArray, List.getElem?_cons_zero, List.getElem?_cons_succ, Option.getD_some]; rfl) (by kernel_rfl) (by kernel_rfl) (by kernel_rfl) (by decide) (by intro c a d v w; cases d <;> exact fun h => h) ⟨p2, a4, a6⟩ ?_
    repeat (first | (refine wpPlan.taken (by rfl) (by intro w' hS'; (try dsimp only at hS'); go_split_ands; go_simp; try with_reducible rfl) ?_; simp only [Act.put, List.setIfInBounds_toArray, List.set_cons_zero, List.set_cons_succ]) | (refine wpPlan.passed (by rfl) ?_; simp only [Act.put, List.setIfInBounds_toArray, List.set_cons_zero, List.set_cons_succ]))
    refine wpPlan.done ?_
    have b6 := (SC.of G5.out).fz 6
    have G6 : (W5.setCell ⟨g, 6, none⟩ (.bool true)).heap[g]? = some (.cells (({ t with known := ep, up := true } : Ses).cells n.port) 63 (0, 0)) := blk_set G5.out 6 _
    have P6 := ((Step.refl (· = g) W5).setCell (p := ⟨g, 6, none⟩) (fun _ => rfl) (.bool true)).blk P5.out (fun h => NE.out h)
    have p12 := blk_cell P6 12
    have S6 := Lib.hid (S5.out.setCell (p := ⟨g, 6, none⟩) (fun _ => rfl) (.bool true))
    simp only [Note.packet, List.getElem?_toArray, List.getElem?_cons_zero, List.getElem?_cons_succ] at p12
    obtain ⟨W6, hW6⟩ : ∃ W, W5.setCell ⟨g, 6, none⟩ (.bool true) = W := ⟨_, rfl⟩
    rw [hW6] at G6 S6 p12
    have HE6 := Lib.hid hW6
    have G6 := Lib.hid G6
    clear hW6 P6 G5 S5 P5 p2 a4
    go_wp2_with (rw [HE6.out])
    refine (elect_any g ({ t with known := ep, up := true } : Ses) n.port n.state _ TOK6.out (by exact G6.out)).mono ?_
    rintro e w7 ⟨rfl, g7, s7⟩
    have G7 := Lib.hid g7
    have S7 := Lib.hid (S6.out.drew.then_ s7)
    clear g7 s7
    go_wp2_with fail
    go_ret2
    exact ⟨n.port, rfl, G7.out, S7.out⟩
end Go.Proofs.YtaacpjihkmklbaaDoor
