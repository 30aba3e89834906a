/- The document's New and Send; Waits, Taken, note. -/
import Derived.Test.YtgchepijbpcckaaDoorW9
namespace Go.Proofs.YtgchepijbpcckaaDoor
open Go.RowKit Go.Gm

set_option maxHeartbeats 1000000 in
theorem rnew_ok (ep win : Int) (w : World) (h : Stm.newOk ep win = true) : Calls Tryd.prog 9 #[.int .i64 ep, .int .i64 win] w fun e w' => e = .returned (.tuple #[.pointer (some ⟨w.heap.size, 0, none⟩), .int .i64 0]) ∧ w'.heap[w.heap.size]? = some (.cells ((Stm.start ep win).cells (.slice none 0 0)) 45 (0, 0)) ∧ Step None w w' := by
  simp only [Stm.newOk, Bool.and_eq_true, decide_eq_true_eq] at h
  obtain ⟨⟨⟨h1, h2⟩, h3⟩, h4⟩ := h
  have d1 : decide (ep < 0) = false := decide_eq_false (by omega)
  have d2 : decide (1073741824 < ep) = false := decide_eq_false (by omega)
  have d3 : decide (win < 1) = false := decide_eq_false (by omega)
  have d4 : decide (100 < win) = false := decide_eq_false (by omega)
  have p := heap_alloc_new w (.cells ((Stm.start ep win).cells (.slice none 0 0)) 45)
  have sa := (Step.refl None w).alloc (.cells ((Stm.start ep win).cells (.slice none 0 0)) 45)
  have P := Lib.hid p
  have SA := Lib.hid sa
  clear h1 h2 h3 h4 p sa
  go_enter Tryd.func9, Tryd.ntmps9
  go_wp2_with fail
  go_ret2
  exact ⟨rfl, P.out, SA.out⟩
set_option maxHeartbeats 1000000 in
theorem rnew_bad (ep win : Int) (w : World) (h : Stm.newOk ep win = false) : Calls Tryd.prog 9 #[.int .i64 ep, .int .i64 win] w fun e w' => e = .returned (.tuple #[.pointer none, .int .i64 1]) ∧ w = w' := by
  have h' : decide (ep < 0) = true ∨ decide (1073741824 < ep) = true ∨ decide (win < 1) = true ∨ decide (100 < win) = true := by
    by_cases a : ep < 0
    · simp [a]
    by_cases b : 1073741824 < ep
    · simp [b]
    by_cases c : win < 1
    · simp [c]
    by_cases d : 100 < win
    · simp [d]
    · exfalso
      simp [Stm.newOk] at h
      omega
  clear h
  go_enter Tryd.func9, Tryd.ntmps9
  cases a : decide (ep < 0)
  rotate_left
  · go_wp2_with fail
    go_ret2
    exact ⟨rfl, rfl⟩
  cases b : decide (1073741824 < ep)
  rotate_left
  · go_wp2_with fail
    go_ret2
    exact ⟨rfl, rfl⟩
  cases c : decide (win < 1)
  rotate_left
  · go_wp2_with fail
    go_ret2
    exact ⟨rfl, rfl⟩
  cases d : decide (100 < win)
  rotate_left
  · go_wp2_with fail
    go_ret2
    exact ⟨rfl, rfl⟩
  simp [a, b, c, d] at h'

theorem waits_any (g : Nat) (v : Value) (s : Stm) (bs : List Value) (w : World) (h : Sm 66 w g v s bs) : Calls Tryd.prog 11 #[.pointer (some ⟨g, 0, none⟩)] w fun e w' => e = .returned (.int .i64 (s.ws.length : Int)) ∧ w = w' := by
  obtain ⟨ao, cap, rfl, -, -⟩ := h.row.form
  have c := blk_cell h.st 2
  simp only [Stm.cells, List.getElem?_toArray, List.getElem?_cons_zero, List.getElem?_cons_succ] at c
  go_enter Tryd.func11, Tryd.ntmps11
  go_wp2_with fail
  go_ret
  exact ⟨rfl, rfl⟩
theorem rwaits_any (g : Nat) (v : Value) (s : Stm) (bs : List Value) (w : World) (h : Sm 45 w g v s bs) : Calls Tryd.prog 12 #[.pointer (some ⟨g, 0, none⟩)] w fun e w' => e = .returned (.int .i64 (s.ws.length : Int)) ∧ w = w' := by
  obtain ⟨ao, cap, rfl, -, -⟩ := h.row.form
  have c := blk_cell h.st 2
  simp only [Stm.cells, List.getElem?_toArray, List.getElem?_cons_zero, List.getElem?_cons_succ] at c
  go_enter Tryd.func12, Tryd.ntmps12
  go_wp2_with fail
  go_ret
  exact ⟨rfl, rfl⟩
theorem taken_any (g : Nat) (v : Value) (s : Stm) (bs : List Value) (w : World) (h : Sm 66 w g v s bs) : Calls Tryd.prog 13 #[.pointer (some ⟨g, 0, none⟩)] w fun e w' => e = .returned (.int .i64 s.taken) ∧ w = w' := by
  have c := blk_cell h.st 6
  simp only [Stm.cells, List.getElem?_toArray, List.getElem?_cons_zero, List.getElem?_cons_succ] at c
  go_enter Tryd.func13, Tryd.ntmps13
  go_wp2_with fail
  go_ret
  exact ⟨rfl, rfl⟩

/-- The document's list is copied, with a note more. -/
theorem rsend_fin {w W5 w7 : World} {g : Nat} {v v'0 b : Value} {s : Stm} {bs : List Value} {n : Note} (h : Sm 45 w g v s bs) (s5 : Step None w W5.drew) (s7 : Step None W5.drew w7) (hb : Own5 W5.drew b n.body) (r : Row w7 36 11 v'0 (s.ws.length + 1) (flatN (s.ws.zip bs) ++ (n.cells b).toList)) (hl : ∀ k, Leads v'0 k → W5.drew.heap.size ≤ k) :
    ∃ v' bs', Sm 45 (w7.setCell ⟨g, 2, none⟩ v'0) g v' { s with ws := s.ws ++ [n] } bs' ∧ Step (fun k => k = g) w (w7.setCell ⟨g, 2, none⟩ v'0) ∧ ∀ k, Leads v' k → Leads v k ∨ w.heap.size ≤ k := by
  have st := s5.then_ s7
  have g7 := st.blk h.st (fun s => s.elim)
  have s8 : Step (fun k => k = g) w7 (w7.setCell ⟨g, 2, none⟩ v'0) := (Step.refl (fun k => k = g) w7).setCell (p := ⟨g, 2, none⟩) (fun _ => rfl) _
  have H7 := h.still st
  refine ⟨v'0, bs ++ [b], H7.put (blk_set g7 2 _) ?_ ?_ s8 (fun k hk => H7.not5 (by decide) k (.inl hk)) ?_, (st.none).then_ s8, fun k hk => .inr (Nat.le_trans s5.size (hl k hk))⟩
  · show Row _ 36 11 v'0 (s.ws ++ [n]).length (flatN ((s.ws ++ [n]).zip (bs ++ [b])))
    rw [zip_snoc h.len, flatN_snoc, List.length_append]
    exact r.step s8 fun k hk e => by subst e; exact r.ne g7 (by decide) hk
  · show (bs ++ [b]).length = (s.ws ++ [n]).length
    simp [h.len]
  · intro i m c h1 h2
    have h1' : (s.ws ++ [n])[i]? = some m := h1
    rcases Nat.lt_or_ge i s.ws.length with hi | hi
    · rw [List.getElem?_append_left hi] at h1'
      rw [List.getElem?_append_left (by rw [h.len]; exact hi)] at h2
      exact .inl ⟨i, h1', h2⟩
    · rw [List.getElem?_append_right hi] at h1'
      rw [List.getElem?_append_right (by rw [h.len]; exact hi), h.len] at h2
      cases hd : i - s.ws.length with
      | zero =>
        rw [hd] at h1' h2
        simp at h1' h2
        subst h1' h2
        exact .inr ((hb.step s7 (fun _ s => s.elim)).step s8 (fun k hk => H7.not5 (by decide) k (.inl hk)))
      | succ j => rw [hd] at h1'; simp at h1'

set_option maxHeartbeats 8000000 in
theorem rsend_any (g : Nat) (v : Value) (s : Stm) (bs : List Value) (n : Note) (bo : Option Addr) (bc : Nat) (w : World) (h : Sm 45 w g v s bs) (ok : s.Ok) (hb : Bytes w (.slice bo n.body.length bc) n.body) :
    Calls Tryd.prog 21 #[.pointer (some ⟨g, 0, none⟩), .agg (n.cells (.slice bo n.body.length bc))] w fun e w' => e = .returned (.int .i64 (s.send n).2) ∧ ∃ v' bs', Sm 45 w' g v' (s.send n).1 bs' ∧ Step (fun k => k = g) w w' ∧ ∀ k, Leads v' k → Leads v k ∨ w.heap.size ≤ k := by
  obtain ⟨ao, cap, rfl, hcap, -⟩ := h.row.form
  have hf := ok.first
  have hsum := ok.sum
  have hlen := ok.len
  have p1 := heap_alloc_new w (.cells (n.cells (.slice bo n.body.length bc)) 36)
  have s1 := (Step.refl None w).alloc (.cells (n.cells (.slice bo n.body.length bc)) 36)
  obtain ⟨W, hW⟩ : ∃ W, w.alloc (.cells (n.cells (.slice bo n.body.length bc)) 36) = W := ⟨_, rfl⟩
  rw [hW] at p1 s1
  have ld := load_note p1
  have HE := Lib.hid hW
  have P1 := Lib.hid p1
  have S1 := Lib.hid s1
  have H := Lib.hid h
  have H1 := Lib.hid (h.still s1)
  have B1 := Lib.hid (hb.step s1 (fun _ _ s => s.elim))
  have LN : Hid (s.ws.length ≤ 5000 ∧ 1 ≤ s.first ∧ s.first ≤ 1073741824) := Lib.hid ⟨hlen, hf, by omega⟩
  have LD := Lib.hid ld
  clear h ok hb hW p1 s1 hsum ld hf hlen
  cases hr : right n
  · have e0 : s.send n = (s, 2) := by unfold Stm.send; rw [if_pos (.inr hr)]
    rw [e0]
    clear e0
    go_enter Tryd.func21, Tryd.ntmps21
    go_wp2_with (first | rw [HE.out] | (refine wpList_load_if 36 (.tmp 3) rfl rfl rfl LD.out ?_))
    refine (rright_any n bo bc W).mono ?_
    rintro e w2 ⟨rfl, s2⟩
    rw [hr]
    have H2 := Lib.hid (H1.out.still s2)
    have S2 := Lib.hid (S1.out.then_ s2)
    have D2 := Lib.hid (H2.out.still ((Step.refl None w2).drew))
    have c2 := blk_cell D2.out.st 2
    have c3 := blk_cell D2.out.st 3
    have k0 := blk_cell (s2.blk P1.out (fun s => s.elim)) 0
    simp only [Stm.cells, List.getElem?_toArray, List.getElem?_cons_zero, List.getElem?_cons_succ] at c2 c3
    simp only [Note.cells, List.getElem?_toArray, List.getElem?_cons_zero] at k0
    clear s2
    go_wp2_with fail
    go_ret
    exact ⟨rfl, _, _, H2.out, S2.out.none, fun _ hk => .inl hk⟩
  cases kz : (n.kind == 0)
  rotate_left
  · have e0 : s.send n = (s, 2) := by unfold Stm.send; rw [if_pos (.inl (by simpa using kz))]
    rw [e0]
    clear e0
    go_enter Tryd.func21, Tryd.ntmps21
    go_wp2_with (first | rw [HE.out] | (refine wpList_load_if 36 (.tmp 3) rfl rfl rfl LD.out ?_))
    refine (rright_any n bo bc W).mono ?_
    rintro e w2 ⟨rfl, s2⟩
    rw [hr]
    have H2 := Lib.hid (H1.out.still s2)
    have S2 := Lib.hid (S1.out.then_ s2)
    have D2 := Lib.hid (H2.out.still ((Step.refl None w2).drew))
    have c2 := blk_cell D2.out.st 2
    have c3 := blk_cell D2.out.st 3
    have k0 := blk_cell (s2.blk P1.out (fun s => s.elim)) 0
    simp only [Stm.cells, List.getElem?_toArray, List.getElem?_cons_zero, List.getElem?_cons_succ] at c2 c3
    simp only [Note.cells, List.getElem?_toArray, List.getElem?_cons_zero] at k0
    clear s2
    go_wp2_with fail
    go_ret
    exact ⟨rfl, _, _, H2.out, S2.out.none, fun _ hk => .inl hk⟩
  have k0' : ¬ n.kind = 0 := by simpa using kz
  by_cases hfull : 5000 ≤ s.ws.length ∨ 1073741824 ≤ s.first + s.ws.length
  · have e0 : s.send n = (s, 3) := by unfold Stm.send; rw [if_neg (by rw [hr]; simp [k0']), if_pos hfull]
    rw [e0]
    clear e0
    go_enter Tryd.func21, Tryd.ntmps21
    go_wp2_with (first | rw [HE.out] | (refine wpList_load_if 36 (.tmp 3) rfl rfl rfl LD.out ?_))
    refine (rright_any n bo bc W).mono ?_
    rintro e w2 ⟨rfl, s2⟩
    rw [hr]
    have H2 := Lib.hid (H1.out.still s2)
    have S2 := Lib.hid (S1.out.then_ s2)
    have D2 := Lib.hid (H2.out.still ((Step.refl None w2).drew))
    have c2 := blk_cell D2.out.st 2
    have c3 := blk_cell D2.out.st 3
    have k0 := blk_cell (s2.blk P1.out (fun s => s.elim)) 0
    simp only [Stm.cells, List.getElem?_toArray, List.getElem?_cons_zero, List.getElem?_cons_succ] at c2 c3
    simp only [Note.cells, List.getElem?_toArray, List.getElem?_cons_zero] at k0
    clear s2
    go_wp2_with fail
    cases d5 : decide ((5000 : Int) ≤ (s.ws.length : Int))
    rotate_left
    · skip
      have wr1 : wrap64 (s.first + (s.ws.length : Int)) = s.first + (s.ws.length : Int) := IntWalk.wrap64_in _ ⟨by have := LN.out; omega, by have := LN.out; omega⟩
      have wr2 : IntKind.i64.wrap (s.first + (s.ws.length : Int)) = s.first + (s.ws.length : Int) := IntWalk.i64_in _ (by have := LN.out; omega)
      refine wp_region_plan (fun w' => w'.cell? ⟨g, 2, none⟩ = some (.slice ao s.ws.length cap) ∧ w'.cell? ⟨g, 3, none⟩ = some (.int .i64 s.first)) (.take 0 (.take 1 (.take 2 (.take 3 (.take 4 (.take 5 (.take 6 (.take 7 (.take 8 (.take 9 (.take 10 (.take 11 (.take 12 (.take 13 (.take 14 (.take 15 (.take 16 (.take 17 (.take 18 .done))))))))))))))))))) _
        (by simp only [Plan.map, opOf, List.getElem?_toArray, List.getElem?_cons_zero, List.getElem?_cons_succ, Option.getD_some]; rfl) (by kernel_rfl) (by kernel_rfl) (by kernel_rfl) (by decide) (by intro c a d v w; cases d <;> exact fun h => h) ⟨c2, c3⟩ ?_
      repeat (first | (refine wpPlan.taken (by rfl) (by intro w' hS'; (try dsimp only at hS'); go_split_ands; go_simp; try with_reducible rfl) ?_; simp only [Act.put, List.setIfInBounds_toArray, List.set_cons_zero, List.set_cons_succ]) | (refine wpPlan.passed (by rfl) ?_; simp only [Act.put, List.setIfInBounds_toArray, List.set_cons_zero, List.set_cons_succ]))
      refine wpPlan.done ?_
      go_wp2_with fail
      go_ret
      exact ⟨rfl, _, _, D2.out, S2.out.none.drew, fun _ hk => .inl hk⟩
    have d6 : decide (1073741824 ≤ s.first + (s.ws.length : Int)) = true := by simp at d5 ⊢; omega
    clear hfull
    have wr1 : wrap64 (s.first + (s.ws.length : Int)) = s.first + (s.ws.length : Int) := IntWalk.wrap64_in _ ⟨by have := LN.out; omega, by have := LN.out; omega⟩
    have wr2 : IntKind.i64.wrap (s.first + (s.ws.length : Int)) = s.first + (s.ws.length : Int) := IntWalk.i64_in _ (by have := LN.out; omega)
    refine wp_region_plan (fun w' => w'.cell? ⟨g, 2, none⟩ = some (.slice ao s.ws.length cap) ∧ w'.cell? ⟨g, 3, none⟩ = some (.int .i64 s.first)) (.take 0 (.take 1 (.take 2 (.take 3 (.take 4 (.take 5 (.take 6 (.take 7 (.take 8 (.take 9 (.take 10 (.take 11 (.take 12 (.take 13 (.take 14 (.take 15 (.take 16 (.take 17 (.take 18 .done))))))))))))))))))) _
      (by simp only [Plan.map, opOf, List.getElem?_toArray, List.getElem?_cons_zero, List.getElem?_cons_succ, Option.getD_some]; rfl) (by kernel_rfl) (by kernel_rfl) (by kernel_rfl) (by decide) (by intro c a d v w; cases d <;> exact fun h => h) ⟨c2, c3⟩ ?_
    repeat (first | (refine wpPlan.taken (by rfl) (by intro w' hS'; (try dsimp only at hS'); go_split_ands; go_simp; try with_reducible rfl) ?_; simp only [Act.put, List.setIfInBounds_toArray, List.set_cons_zero, List.set_cons_succ]) | (refine wpPlan.passed (by rfl) ?_; simp only [Act.put, List.setIfInBounds_toArray, List.set_cons_zero, List.set_cons_succ]))
    refine wpPlan.done ?_
    go_wp2_with fail
    go_ret
    exact ⟨rfl, _, _, D2.out, S2.out.none.drew, fun _ hk => .inl hk⟩
  have e0 : s.send n = ({ s with ws := s.ws ++ [n] }, 0) := by unfold Stm.send; rw [if_neg (by rw [hr]; simp [k0']), if_neg hfull]
  rw [e0]
  clear e0
  have d5 : decide ((5000 : Int) ≤ (s.ws.length : Int)) = false := by simp; omega
  have d6 : decide (1073741824 ≤ s.first + (s.ws.length : Int)) = false := by simp; omega
  have HF := Lib.hid (show n.body.length ≤ 1600 from Stm.right_len hr)
  have L5 : Hid (s.ws.length < 5000) := Lib.hid (by omega)
  clear hfull
  go_enter Tryd.func21, Tryd.ntmps21
  go_wp2_with (first | rw [HE.out] | (refine wpList_load_if 36 (.tmp 3) rfl rfl rfl LD.out ?_))
  refine (rright_any n bo bc W).mono ?_
  rintro e w2 ⟨rfl, s2⟩
  rw [hr]
  have H2 := Lib.hid (H1.out.still s2)
  have S2 := Lib.hid (S1.out.then_ s2)
  have D2 := Lib.hid (H2.out.still ((Step.refl None w2).drew))
  have c2 := blk_cell D2.out.st 2
  have c3 := blk_cell D2.out.st 3
  have k0 := blk_cell (s2.blk P1.out (fun s => s.elim)) 0
  simp only [Stm.cells, List.getElem?_toArray, List.getElem?_cons_zero, List.getElem?_cons_succ] at c2 c3
  simp only [Note.cells, List.getElem?_toArray, List.getElem?_cons_zero] at k0
  have P2 := Lib.hid (s2.blk P1.out (fun s => s.elim))
  have s2h := Lib.hid s2
  have S2b := Lib.hid S2.out
  clear s2
  go_wp2_with fail
  have wr1 : wrap64 (s.first + (s.ws.length : Int)) = s.first + (s.ws.length : Int) := IntWalk.wrap64_in _ ⟨by have := LN.out; omega, by have := LN.out; omega⟩
  have wr2 : IntKind.i64.wrap (s.first + (s.ws.length : Int)) = s.first + (s.ws.length : Int) := IntWalk.i64_in _ (by have := LN.out; omega)
  refine wp_region_plan (fun w' => w'.cell? ⟨g, 2, none⟩ = some (.slice ao s.ws.length cap) ∧ w'.cell? ⟨g, 3, none⟩ = some (.int .i64 s.first)) (.take 0 (.take 1 (.take 2 (.take 3 (.take 4 (.take 5 (.take 6 (.take 7 (.take 8 (.take 9 (.take 10 (.take 11 (.take 12 (.take 13 (.take 14 (.take 15 (.take 16 (.take 17 (.take 18 .done))))))))))))))))))) _
    (by simp only [Plan.map, opOf, List.getElem?_toArray, List.getElem?_cons_zero, List.getElem?_cons_succ, Option.getD_some]; rfl) (by kernel_rfl) (by kernel_rfl) (by kernel_rfl) (by decide) (by intro c a d v w; cases d <;> exact fun h => h) ⟨c2, c3⟩ ?_
  repeat (first | (refine wpPlan.taken (by rfl) (by intro w' hS'; (try dsimp only at hS'); go_split_ands; go_simp; try with_reducible rfl) ?_; simp only [Act.put, List.setIfInBounds_toArray, List.set_cons_zero, List.set_cons_succ]) | (refine wpPlan.passed (by rfl) ?_; simp only [Act.put, List.setIfInBounds_toArray, List.set_cons_zero, List.set_cons_succ]))
  refine wpPlan.done ?_
  have P3 := Lib.hid (show w2.drew.heap[w.heap.size]? = _ from P2.out)
  have B3 := Lib.hid (B1.out.step (s2h.out.drew) (fun _ _ s => s.elim))
  have zz : Hid (w.heap.size < w2.drew.heap.size) := Lib.hid (blk_lt P3.out)
  clear c2 c3 S2 H2 D2 LD
  have hrow0 : Row (w2.alloc (.cells #[] 5)).drew 5 1 (.slice (some ⟨w2.drew.heap.size, 0, none⟩) 0 0) 0 [] := Row.ofBlock (n := 0) (cap := 0) (heap_alloc_new w2.drew (.cells #[] 5)) (Nat.le_refl _) (by simp [maxLen]) (by simp)
  have sa : Step None w2.drew (w2.alloc (.cells #[] 5)).drew := (Step.refl None w2.drew).alloc (.cells #[] 5)
  obtain ⟨WA, hWA⟩ : ∃ WA, (w2.alloc (.cells #[] 5)).drew = WA := ⟨_, rfl⟩
  obtain ⟨A0, hA0⟩ : ∃ A0, w2.drew.heap.size = A0 := ⟨_, rfl⟩
  rw [hWA] at hrow0 sa
  rw [hA0] at hrow0 zz
  have HA := Lib.hid hWA
  have HA0 := Lib.hid hA0
  have R0 := Lib.hid hrow0
  have P4 := Lib.hid (sa.blk P3.out (fun s => s.elim))
  have SRC := Lib.hid ((B3.out.step sa (fun _ _ s => s.elim)).src (P := Tryd.prog) Tryd.underlying34)
  have S4 := Lib.hid ((S2b.out.drew).then_ sa)
  have k4 := blk_cell P4.out 10
  have kf4 := blk_frozen P4.out 10
  simp only [Note.cells, List.getElem?_toArray, List.getElem?_cons_zero, List.getElem?_cons_succ] at k4
  have hA1 : w2.heap.size = A0 := hA0
  clear hrow0 sa hWA hA0
  go_wp2_with (first
    | rw [HA.out]
    | rw [hA1]
    | (at_builtin; refine wpList_append_row T24 rfl (.tmp 34) (.tmp 36) rfl rfl R0.out rfl SRC.out ?ha ?hb ?_))
  case ha => have := HF.out; simp [maxLen]; omega
  case hb => have := HF.out; simp; omega
  intro u w4 r4 s4 l4
  have ne4 : ¬ Leads (.slice (some ⟨A0, 0, none⟩) 0 0) w.heap.size := fun hk => by simp [Leads, Value.ownBlock] at hk; have := zz.out; omega
  have P5 := Lib.hid (s4.blk P4.out ne4)
  have O5 := Lib.hid (show Own5 w4 u n.body by simpa [Own5] using r4)
  have S5 : Hid (Step None w w4) := Lib.hid (S4.out.trans s4 fun i hi hk => by simp [Leads, Value.ownBlock] at hk; have := zz.out; omega)
  have k5 := blk_cell P5.out 10
  have kf5 := blk_frozen P5.out 10
  simp only [Note.cells, List.getElem?_toArray, List.getElem?_cons_zero, List.getElem?_cons_succ] at k5
  clear k4 kf4 r4 s4 l4 ne4 P4 R0 S4 SRC
  obtain ⟨uo, uc, rfl, -, -⟩ := Row.form O5.out
  go_wp2_with fail
  have P6 := Lib.hid (show (w4.setCell ⟨w.heap.size, 10, none⟩ (.slice uo n.body.length uc)).heap[w.heap.size]? = some (.cells (n.cells (.slice uo n.body.length uc)) 36 (0, 0)) from blk_set P5.out 10 _)
  have S6 := Lib.hid ((S5.out.setCell (p := ⟨w.heap.size, 10, none⟩) (fun h => absurd h (Nat.lt_irrefl _)) (.slice uo n.body.length uc)).drew)
  have O6 : Hid (Own5 (w4.setCell ⟨w.heap.size, 10, none⟩ (.slice uo n.body.length uc)).drew (.slice uo n.body.length uc) n.body) := Lib.hid (O5.out.step ((Step.setCell (S := fun k => k = w.heap.size) (Step.refl _ w4) (p := ⟨w.heap.size, 10, none⟩) (fun _ => rfl) _).drew) (fun k hk cs fr hc => by subst hk; exact blk_ne P5.out hc (by decide) rfl))
  clear k5 kf5 P5 O5 S5
  obtain ⟨W5, hW5⟩ : ∃ W5, (w4.setCell ⟨w.heap.size, 10, none⟩ (.slice uo n.body.length uc)) = W5 := ⟨_, rfl⟩
  rw [hW5] at P6 S6 O6 ⊢
  have G5 := Lib.hid (H.out.still S6.out)
  have c5 := blk_cell G5.out.st 2
  simp only [Stm.cells, List.getElem?_toArray, List.getElem?_cons_zero, List.getElem?_cons_succ] at c5
  have FF : Hid (∀ w', Step None W5.drew w' → w'.cell? ⟨g, 2, none⟩ = some (.slice ao s.ws.length cap) ∧ (Instr.loadAt 36 (.pointer (some ⟨w.heap.size, 0, none⟩))).run Tryd.prog w' = .ok (.agg #[.int .i64 n.kind, .int .i64 n.vlan, .int .u8 n.m0, .int .u8 n.m1, .int .u8 n.m2, .int .u8 n.m3, .int .u8 n.m4, .int .u8 n.m5, .int .i64 n.port, .int .i64 n.state, .slice uo n.body.length uc]) w') := Lib.hid fun w' hs => ⟨blk_cell (G5.out.still hs).st 2, load_note (hs.blk (show W5.drew.heap[w.heap.size]? = _ from P6.out) (fun s => s.elim))⟩
  clear hW5
  refine wp_region_plan (fun w' => w'.cell? ⟨g, 2, none⟩ = some (.slice ao s.ws.length cap) ∧ (Instr.loadAt 36 (.pointer (some ⟨w.heap.size, 0, none⟩))).run Tryd.prog w' = .ok (.agg #[.int .i64 n.kind, .int .i64 n.vlan, .int .u8 n.m0, .int .u8 n.m1, .int .u8 n.m2, .int .u8 n.m3, .int .u8 n.m4, .int .u8 n.m5, .int .i64 n.port, .int .i64 n.state, .slice uo n.body.length uc]) w') (.take 0 (.take 2 (.take 3 (.take 4 (.take 5 (.take 7 (.alt 1 (.alt 6 (.alt 8 (.alt 9 (.take 10 (.take 11 (.last 12))) .none) .none) (.alt 8 (.alt 6 (.alt 9 (.take 10 (.take 11 (.last 12))) .none) .none) .none)) (.alt 8 (.alt 1 (.alt 6 (.alt 9 (.take 10 (.take 11 (.last 12))) .none) .none) .none) .none)))))))) _
    (by simp only [Plan.map, opOf, List.getElem?_toArray, List.getElem?_cons_zero, List.getElem?_cons_succ, Option.getD_some]; rfl) (by kernel_rfl) (by kernel_rfl) (by kernel_rfl) (by decide) (by intro c a d v w; cases d <;> exact fun h => h) (FF.out _ (Step.refl _ _)) ?_
  have SS0 := Lib.hid (Step.refl None W5.drew)
  repeat (first | (refine wpPlan.taken (by rfl) (fun w' hS' => run_load_op rfl rfl hS'.2) ?_; simp only [Act.put, List.setIfInBounds_toArray, List.set_cons_zero, List.set_cons_succ]) | (refine wpPlan.taken (by rfl) (by intro w' hS'; (try dsimp only at hS'); go_split_ands; go_simp; try with_reducible rfl) ?_; simp only [Act.put, List.setIfInBounds_toArray, List.set_cons_zero, List.set_cons_succ]) | (refine wpPlan.passed (by rfl) ?_; simp only [Act.put, List.setIfInBounds_toArray, List.set_cons_zero, List.set_cons_succ]))
  refine wpPlan.parts ?_ ?_
  · refine wpPlan.runs fun K' hK => ?_
    go_simp
    have SS1 := Lib.hid (SS0.out.alloc (.cells #[] 36))
    have hB1 : W5.drew.heap.size = W5.heap.size := by simp
    have E1 : Hid (Row (W5.drew.alloc (.cells #[] 36)) 36 11 (.slice (some ⟨W5.heap.size, 0, none⟩) 0 0) 0 []) := Lib.hid (hB1 ▸ Row.ofBlock (n := 0) (cap := 0) (heap_alloc_new W5.drew (.cells #[] 36)) (Nat.le_refl _) (by simp [maxLen]) (by simp))
    clear hB1
    refine hK.out _ _ (FF.out _ SS1.out) ?_
    clear hK K'
    refine wpPlan.parts ?_ ?_
    · refine wpPlan.runs fun K' hK => ?_
      refine step_append_row T43 (by rfl) (.tmp 40) (.tmp 44) (by rfl) (by rfl) E1.out (by rfl) (Row.src (P := Tryd.prog) T43 ((G5.out.still SS1.out).row) (flatN_one H.out.one)) (by have := L5.out; simp [maxLen]; omega) (by have := L5.out; simp; omega) ?_
      intro v2 w2a r2 s2 l2
      have LE2 : ∀ i, Leads (.slice (some ⟨W5.heap.size, 0, none⟩) 0 0) i → i = W5.heap.size := fun i hk => by have : W5.heap.size = i := (by simpa [Leads, Value.ownBlock] using hk); exact this.symm
      have hz2 : W5.drew.heap.size = W5.heap.size := rfl
      have SS2 : Hid (Step None W5.drew w2a) := Lib.hid (SS1.out.trans s2 fun i hi hk => by have h1 := LE2 i hk; rw [hz2] at hi; omega)
      have A2 := Lib.hid (show Row w2a 36 11 v2 s.ws.length (flatN (s.ws.zip bs)) by simpa using r2)
      have AB2 : Hid (∀ k, Leads v2 k → W5.heap.size ≤ k) := Lib.hid fun k hk => by
        rcases l2 k hk with h | h
        · have h1 := LE2 k h; omega
        · exact Nat.le_trans SS1.out.size h
      refine hK.out _ _ (FF.out _ SS2.out) ?_
      clear hK K' r2 s2 l2 hz2 LE2
      (try simp only [Act.put, List.setIfInBounds_toArray, List.set_cons_zero, List.set_cons_succ])
      refine wpPlan.runs fun K' hK => ?_
      go_simp
      have SS3 := Lib.hid (SS2.out.alloc (.cells (n.cells (.slice uo n.body.length uc)) 36))
      have hB3 : w2a.heap.size = w2a.heap.size := rfl
      have N3 : Hid ((w2a.alloc (.cells (n.cells (.slice uo n.body.length uc)) 36)).heap[w2a.heap.size]? = some (.cells (n.cells (.slice uo n.body.length uc)) 36 (0, 0))) := Lib.hid (hB3 ▸ heap_alloc_new w2a (.cells (n.cells (.slice uo n.body.length uc)) 36))
      clear hB3
      have A3 := Lib.hid (A2.out.step ((Step.refl None w2a).alloc (.cells (n.cells (.slice uo n.body.length uc)) 36)) (fun _ _ s => s.elim))
      have AB3 := AB2
      refine hK.out _ _ (FF.out _ SS3.out) ?_
      clear hK K'
      refine wpPlan.runs fun K' hK => ?_
      refine step_append_row (m := 1) T43 (by rfl) (.tmp 45) (.tmp 47) (by rfl) (by rfl) A3.out (by rfl) (Src.ofBlock (P := Tryd.prog) T43 (m := 1) (c := 1) N3.out (by rfl) (by simp [Note.cells, Value.oneCell'])) (by have := L5.out; simp [maxLen]; omega) (by have := L5.out; simp; omega) ?_
      intro v4 w4a r4 s4 l4
      have hz4 : W5.drew.heap.size = W5.heap.size := rfl
      have SS4 : Hid (Step None W5.drew w4a) := Lib.hid (SS3.out.trans s4 fun i hi hk => by have h1 := AB3.out i hk; rw [hz4] at hi; omega)
      have VB : Hid (∀ k, Leads v4 k → W5.heap.size ≤ k) := Lib.hid fun k hk => by
        rcases l4 k hk with h | h
        · exact AB3.out k h
        · exact Nat.le_trans SS3.out.size h
      have RR := Lib.hid r4
      obtain ⟨vo, vc, rfl, -, -⟩ := r4.form
      refine hK.out _ _ (FF.out _ SS4.out) ?_
      clear hK K' r4 s4 l4 hz4
      repeat (first | (refine wpPlan.taken (by rfl) (fun w' hS' => run_load_op rfl rfl hS'.2) ?_; simp only [Act.put, List.setIfInBounds_toArray, List.set_cons_zero, List.set_cons_succ]) | (refine wpPlan.taken (by rfl) (by intro w' hS'; (try dsimp only at hS'); go_split_ands; go_simp; try with_reducible rfl) ?_; simp only [Act.put, List.setIfInBounds_toArray, List.set_cons_zero, List.set_cons_succ]) | (refine wpPlan.passed (by rfl) ?_; simp only [Act.put, List.setIfInBounds_toArray, List.set_cons_zero, List.set_cons_succ]))
      refine wpPlan.ends fun K' hK => ?_
      have g7 := SS4.out.blk G5.out.st (fun s => s.elim)
      have c7 := blk_cell g7 2
      have f7 := blk_frozen g7 2
      simp only [Stm.cells, List.getElem?_toArray, List.getElem?_cons_zero, List.getElem?_cons_succ] at c7
      have FIN : Hid (∃ v' bs', Sm 45 (w4a.setCell ⟨g, 2, none⟩ (.slice vo (s.ws.length + 1) vc)) g v' { s with ws := s.ws ++ [n] } bs' ∧ Step (fun k => k = g) w (w4a.setCell ⟨g, 2, none⟩ (.slice vo (s.ws.length + 1) vc)) ∧ ∀ k, Leads v' k → Leads (.slice ao s.ws.length cap) k ∨ w.heap.size ≤ k) := Lib.hid (rsend_fin H.out S6.out SS4.out O6.out (by simpa using RR.out) (fun k hk => VB.out k hk))
      clear g7
      go_simp
      refine hK.out _ _ ?_
      clear hK K'
      go_wp2_with fail
      go_ret
      exact ⟨rfl, FIN.out⟩
    · skip
      refine wpPlan.runs fun K' hK => ?_
      go_simp
      have SS2 := Lib.hid (SS1.out.alloc (.cells (n.cells (.slice uo n.body.length uc)) 36))
      have hB2 : (W5.drew.alloc (.cells #[] 36)).heap.size = W5.heap.size + 1 := by simp
      have N2 : Hid (((W5.drew.alloc (.cells #[] 36)).alloc (.cells (n.cells (.slice uo n.body.length uc)) 36)).heap[W5.heap.size + 1]? = some (.cells (n.cells (.slice uo n.body.length uc)) 36 (0, 0))) := Lib.hid (hB2 ▸ heap_alloc_new (W5.drew.alloc (.cells #[] 36)) (.cells (n.cells (.slice uo n.body.length uc)) 36))
      clear hB2
      have E2 := Lib.hid (E1.out.step ((Step.refl None (W5.drew.alloc (.cells #[] 36))).alloc (.cells (n.cells (.slice uo n.body.length uc)) 36)) (fun _ _ s => s.elim))
      refine hK.out _ _ (FF.out _ SS2.out) ?_
      clear hK K'
      refine wpPlan.runs fun K' hK => ?_
      refine step_append_row T43 (by rfl) (.tmp 40) (.tmp 44) (by rfl) (by rfl) E2.out (by rfl) (Row.src (P := Tryd.prog) T43 ((G5.out.still SS2.out).row) (flatN_one H.out.one)) (by have := L5.out; simp [maxLen]; omega) (by have := L5.out; simp; omega) ?_
      intro v3 w3a r3 s3 l3
      have LE3 : ∀ i, Leads (.slice (some ⟨W5.heap.size, 0, none⟩) 0 0) i → i = W5.heap.size := fun i hk => by have : W5.heap.size = i := (by simpa [Leads, Value.ownBlock] using hk); exact this.symm
      have hz3 : W5.drew.heap.size = W5.heap.size := rfl
      have SS3 : Hid (Step None W5.drew w3a) := Lib.hid (SS2.out.trans s3 fun i hi hk => by have h1 := LE3 i hk; rw [hz3] at hi; omega)
      have A3 := Lib.hid (show Row w3a 36 11 v3 s.ws.length (flatN (s.ws.zip bs)) by simpa using r3)
      have AB3 : Hid (∀ k, Leads v3 k → W5.heap.size ≤ k) := Lib.hid fun k hk => by
        rcases l3 k hk with h | h
        · have h1 := LE3 k h; omega
        · exact Nat.le_trans SS2.out.size h
      have N3 := Lib.hid (s3.blk N2.out (fun hk => by have h1 := LE3 _ hk; omega))
      refine hK.out _ _ (FF.out _ SS3.out) ?_
      clear hK K' r3 s3 l3 hz3 LE3
      (try simp only [Act.put, List.setIfInBounds_toArray, List.set_cons_zero, List.set_cons_succ])
      refine wpPlan.runs fun K' hK => ?_
      refine step_append_row (m := 1) T43 (by rfl) (.tmp 45) (.tmp 47) (by rfl) (by rfl) A3.out (by rfl) (Src.ofBlock (P := Tryd.prog) T43 (m := 1) (c := 1) N3.out (by rfl) (by simp [Note.cells, Value.oneCell'])) (by have := L5.out; simp [maxLen]; omega) (by have := L5.out; simp; omega) ?_
      intro v4 w4a r4 s4 l4
      have hz4 : W5.drew.heap.size = W5.heap.size := rfl
      have SS4 : Hid (Step None W5.drew w4a) := Lib.hid (SS3.out.trans s4 fun i hi hk => by have h1 := AB3.out i hk; rw [hz4] at hi; omega)
      have VB : Hid (∀ k, Leads v4 k → W5.heap.size ≤ k) := Lib.hid fun k hk => by
        rcases l4 k hk with h | h
        · exact AB3.out k h
        · exact Nat.le_trans SS3.out.size h
      have RR := Lib.hid r4
      obtain ⟨vo, vc, rfl, -, -⟩ := r4.form
      refine hK.out _ _ (FF.out _ SS4.out) ?_
      clear hK K' r4 s4 l4 hz4
      repeat (first | (refine wpPlan.taken (by rfl) (fun w' hS' => run_load_op rfl rfl hS'.2) ?_; simp only [Act.put, List.setIfInBounds_toArray, List.set_cons_zero, List.set_cons_succ]) | (refine wpPlan.taken (by rfl) (by intro w' hS'; (try dsimp only at hS'); go_split_ands; go_simp; try with_reducible rfl) ?_; simp only [Act.put, List.setIfInBounds_toArray, List.set_cons_zero, List.set_cons_succ]) | (refine wpPlan.passed (by rfl) ?_; simp only [Act.put, List.setIfInBounds_toArray, List.set_cons_zero, List.set_cons_succ]))
      refine wpPlan.ends fun K' hK => ?_
      have g7 := SS4.out.blk G5.out.st (fun s => s.elim)
      have c7 := blk_cell g7 2
      have f7 := blk_frozen g7 2
      simp only [Stm.cells, List.getElem?_toArray, List.getElem?_cons_zero, List.getElem?_cons_succ] at c7
      have FIN : Hid (∃ v' bs', Sm 45 (w4a.setCell ⟨g, 2, none⟩ (.slice vo (s.ws.length + 1) vc)) g v' { s with ws := s.ws ++ [n] } bs' ∧ Step (fun k => k = g) w (w4a.setCell ⟨g, 2, none⟩ (.slice vo (s.ws.length + 1) vc)) ∧ ∀ k, Leads v' k → Leads (.slice ao s.ws.length cap) k ∨ w.heap.size ≤ k) := Lib.hid (rsend_fin H.out S6.out SS4.out O6.out (by simpa using RR.out) (fun k hk => VB.out k hk))
      clear g7
      go_simp
      refine hK.out _ _ ?_
      clear hK K'
      go_wp2_with fail
      go_ret
      exact ⟨rfl, FIN.out⟩
  · skip
    refine wpPlan.runs fun K' hK => ?_
    go_simp
    have SS1 := Lib.hid (SS0.out.alloc (.cells (n.cells (.slice uo n.body.length uc)) 36))
    have hB1 : W5.drew.heap.size = W5.heap.size := by simp
    have N1 : Hid ((W5.drew.alloc (.cells (n.cells (.slice uo n.body.length uc)) 36)).heap[W5.heap.size]? = some (.cells (n.cells (.slice uo n.body.length uc)) 36 (0, 0))) := Lib.hid (hB1 ▸ heap_alloc_new W5.drew (.cells (n.cells (.slice uo n.body.length uc)) 36))
    clear hB1
    refine hK.out _ _ (FF.out _ SS1.out) ?_
    clear hK K'
    refine wpPlan.runs fun K' hK => ?_
    go_simp
    have SS2 := Lib.hid (SS1.out.alloc (.cells #[] 36))
    have hB2 : (W5.drew.alloc (.cells (n.cells (.slice uo n.body.length uc)) 36)).heap.size = W5.heap.size + 1 := by simp
    have E2 : Hid (Row ((W5.drew.alloc (.cells (n.cells (.slice uo n.body.length uc)) 36)).alloc (.cells #[] 36)) 36 11 (.slice (some ⟨W5.heap.size + 1, 0, none⟩) 0 0) 0 []) := Lib.hid (hB2 ▸ Row.ofBlock (n := 0) (cap := 0) (heap_alloc_new (W5.drew.alloc (.cells (n.cells (.slice uo n.body.length uc)) 36)) (.cells #[] 36)) (Nat.le_refl _) (by simp [maxLen]) (by simp))
    clear hB2
    have N2 := Lib.hid (((Step.refl None (W5.drew.alloc (.cells (n.cells (.slice uo n.body.length uc)) 36))).alloc (.cells #[] 36)).blk N1.out (fun s => s.elim))
    refine hK.out _ _ (FF.out _ SS2.out) ?_
    clear hK K'
    refine wpPlan.runs fun K' hK => ?_
    refine step_append_row T43 (by rfl) (.tmp 40) (.tmp 44) (by rfl) (by rfl) E2.out (by rfl) (Row.src (P := Tryd.prog) T43 ((G5.out.still SS2.out).row) (flatN_one H.out.one)) (by have := L5.out; simp [maxLen]; omega) (by have := L5.out; simp; omega) ?_
    intro v3 w3a r3 s3 l3
    have LE3 : ∀ i, Leads (.slice (some ⟨W5.heap.size + 1, 0, none⟩) 0 0) i → i = W5.heap.size + 1 := fun i hk => by have : W5.heap.size + 1 = i := (by simpa [Leads, Value.ownBlock] using hk); exact this.symm
    have hz3 : W5.drew.heap.size = W5.heap.size := rfl
    have SS3 : Hid (Step None W5.drew w3a) := Lib.hid (SS2.out.trans s3 fun i hi hk => by have h1 := LE3 i hk; rw [hz3] at hi; omega)
    have A3 := Lib.hid (show Row w3a 36 11 v3 s.ws.length (flatN (s.ws.zip bs)) by simpa using r3)
    have AB3 : Hid (∀ k, Leads v3 k → W5.heap.size ≤ k) := Lib.hid fun k hk => by
      rcases l3 k hk with h | h
      · have h1 := LE3 k h; omega
      · exact Nat.le_trans SS2.out.size h
    have N3 := Lib.hid (s3.blk N2.out (fun hk => by have h1 := LE3 _ hk; omega))
    refine hK.out _ _ (FF.out _ SS3.out) ?_
    clear hK K' r3 s3 l3 hz3 LE3
    (try simp only [Act.put, List.setIfInBounds_toArray, List.set_cons_zero, List.set_cons_succ])
    refine wpPlan.runs fun K' hK => ?_
    refine step_append_row (m := 1) T43 (by rfl) (.tmp 45) (.tmp 47) (by rfl) (by rfl) A3.out (by rfl) (Src.ofBlock (P := Tryd.prog) T43 (m := 1) (c := 1) N3.out (by rfl) (by simp [Note.cells, Value.oneCell'])) (by have := L5.out; simp [maxLen]; omega) (by have := L5.out; simp; omega) ?_
    intro v4 w4a r4 s4 l4
    have hz4 : W5.drew.heap.size = W5.heap.size := rfl
    have SS4 : Hid (Step None W5.drew w4a) := Lib.hid (SS3.out.trans s4 fun i hi hk => by have h1 := AB3.out i hk; rw [hz4] at hi; omega)
    have VB : Hid (∀ k, Leads v4 k → W5.heap.size ≤ k) := Lib.hid fun k hk => by
      rcases l4 k hk with h | h
      · exact AB3.out k h
      · exact Nat.le_trans SS3.out.size h
    have RR := Lib.hid r4
    obtain ⟨vo, vc, rfl, -, -⟩ := r4.form
    refine hK.out _ _ (FF.out _ SS4.out) ?_
    clear hK K' r4 s4 l4 hz4
    repeat (first | (refine wpPlan.taken (by rfl) (fun w' hS' => run_load_op rfl rfl hS'.2) ?_; simp only [Act.put, List.setIfInBounds_toArray, List.set_cons_zero, List.set_cons_succ]) | (refine wpPlan.taken (by rfl) (by intro w' hS'; (try dsimp only at hS'); go_split_ands; go_simp; try with_reducible rfl) ?_; simp only [Act.put, List.setIfInBounds_toArray, List.set_cons_zero, List.set_cons_succ]) | (refine wpPlan.passed (by rfl) ?_; simp only [Act.put, List.setIfInBounds_toArray, List.set_cons_zero, List.set_cons_succ]))
    refine wpPlan.ends fun K' hK => ?_
    have g7 := SS4.out.blk G5.out.st (fun s => s.elim)
    have c7 := blk_cell g7 2
    have f7 := blk_frozen g7 2
    simp only [Stm.cells, List.getElem?_toArray, List.getElem?_cons_zero, List.getElem?_cons_succ] at c7
    have FIN : Hid (∃ v' bs', Sm 45 (w4a.setCell ⟨g, 2, none⟩ (.slice vo (s.ws.length + 1) vc)) g v' { s with ws := s.ws ++ [n] } bs' ∧ Step (fun k => k = g) w (w4a.setCell ⟨g, 2, none⟩ (.slice vo (s.ws.length + 1) vc)) ∧ ∀ k, Leads v' k → Leads (.slice ao s.ws.length cap) k ∨ w.heap.size ≤ k) := Lib.hid (rsend_fin H.out S6.out SS4.out O6.out (by simpa using RR.out) (fun k hk => VB.out k hk))
    clear g7
    go_simp
    refine hK.out _ _ ?_
    clear hK K'
    go_wp2_with fail
    go_ret
    exact ⟨rfl, FIN.out⟩

end Go.Proofs.YtgchepijbpcckaaDoor
