/- RolesOffers, walked. -/
import Derived.Test.YtehlaomippbehaaR9
namespace Go.Proofs.Ytehlaomippbehaa
open Go.RowKit Go.Gm

set_option maxHeartbeats 2000000 in
theorem roffer_any (me : Idn) (best : Vec) (port : Int) (w : World) : Calls Try.prog 31 #[.agg me.cells, .agg best.cells, .int .i64 port] w fun e w' => e = .returned (.agg (offerV me best port).cells) ∧ Step None w w' := by
  have b1 := heap_alloc_new w (.cells me.cells 25)
  have b2 := heap_alloc_new (w.alloc (.cells me.cells 25)) (.cells best.cells 27)
  have b3 := heap_alloc_new ((w.alloc (.cells me.cells 25)).alloc (.cells best.cells 27)) (.cells zeroV 27)
  have s1 := (((Step.refl None w).alloc (.cells me.cells 25)).alloc (.cells best.cells 27)).alloc (.cells zeroV 27)
  have b2 := ((Step.refl None _).alloc (.cells zeroV 27)).blk b2 (fun s => s.elim)
  have b1 := (((Step.refl None _).alloc (.cells best.cells 27)).alloc (.cells zeroV 27)).blk b1 (fun s => s.elim)
  simp only [World.size_alloc] at b2 b3
  unfold zeroV at b1 b2 b3 s1
  obtain ⟨W, hW⟩ : ∃ W, ((w.alloc (.cells me.cells 25)).alloc (.cells best.cells 27)).alloc (.cells #[.int .i64 0, .int .u8 0, .int .u8 0, .int .u8 0, .int .u8 0, .int .u8 0, .int .u8 0, .int .i64 0, .int .i64 0, .int .u8 0, .int .u8 0, .int .u8 0, .int .u8 0, .int .u8 0, .int .u8 0, .int .i64 0, .int .i64 0] 27) = W := ⟨_, rfl⟩
  rw [hW] at b1 b2 b3 s1
  have HE := Lib.hid hW
  have B1 := Lib.hid b1
  have B2 := Lib.hid b2
  have B3 := Lib.hid b3
  have S1 := Lib.hid s1
  have c7 := blk_cell b2 7
  simp only [Vec.cells, List.getElem?_toArray, List.getElem?_cons_zero, List.getElem?_cons_succ] at c7
  have lr := load_rootOf b2
  have lm := load_idn b1
  unfold Idn.cells at lr lm
  have LR := Lib.hid lr
  have LM := Lib.hid lm
  clear hW b1 b2 b3 s1 lr lm
  go_enter Try.func31, Try.ntmps31
  go_wp2_with (first
    | rw [HE.out]
    | (refine wpList_load_is 25 (.tmp 7) rfl rfl rfl LR.out ?_)
    | (refine wpList_load_is 25 (.tmp 3) rfl rfl rfl LM.out ?_)
    | (refine wpList_store_row rfl 27 (.tmp 6) (.tmp 13) rfl (w.heap.size + 1 + 1) (offerV me best port).cells rfl rfl 27 _ B3.out (by kernel_rfl) rfl (by simp [offerV, Vec.cells, Value.oneCell']) ?_))
  (try simp only [Exit.inBlock, Exit.then])
  refine bodyPost_ret (results_cell_row (P := Try.prog) (fn := Try.f31) rfl _ _ (w.heap.size + 1 + 1) 27 (offerV me best port).cells (0, 0) _ rfl (setRow_heap _ _ _ _ _ _ B3.out) Try.underlying27 rfl (by kernel_rfl)) rfl ?_
  exact ⟨rfl, step_setRow S1.out (fun h => by omega) _⟩


/-- What a role tells of the way that was heard. -/
structure OfferLaw (xs : List Int) (me : Idn) (l : List Hrd) (B : Vec) : Prop where
  len : xs.length = l.length
  at_ : ∀ (i : Nat) (x : Hrd), l[i]? = some x → ∃ r : Int, xs[i]? = some r ∧ (r = 0 ∨ r = 1 ∨ r = 2 ∧ (x.has = false ∨ decide (lex (x.v.own 0).flat (offerV me B x.port).flat < 0) = false) ∨ (r = 3 ∨ r = 4) ∧ decide (0 ≤ lex (x.v.own 0).flat (offerV me B x.port).flat) = false)
theorem wp_cut0 {P : Program} {c : Code} {Q : Exit → Act → World → Prop} {a : Act} {w : World} {F : Act} (R : World → Prop)
    (h : c.wp P (fun e a' w' => e = .normal ∧ a' = F ∧ R w') a w) (hK : ∀ w', R w' → Q .normal F w') : c.wp P Q a w :=
  wp_mono h fun e a' w' ⟨he, ha, hr⟩ => by subst he ha; exact hK w' hr
theorem offer_law {me : Idn} {l : List Hrd} (hf : fairOf l = 0) : OfferLaw (rolesOf me l) me l (bestOf me l) := by
  refine ⟨by rw [rolesOf_len, if_pos hf], fun i x hx => ?_⟩
  have hi := (List.getElem?_eq_some_iff.1 hx).1
  refine ⟨_, by rw [rolesOf, if_pos hf, rolesFrom_get hi, show l.getD i default = x by simp [List.getD, hx]], ?_⟩
  rw [bestOf, if_pos hf]
  unfold roleOf
  generalize lex (x.v.own 0).flat (offerV me (selK me l l.length).1 x.port).flat = n
  split
  · exact .inl rfl
  · split
    · exact .inr (.inl rfl)
    · split
      · rename_i h
        refine .inr (.inr (.inl ⟨rfl, ?_⟩))
        rcases h with h | h
        · exact .inl h
        · right; simp; omega
      · rename_i h
        have h2 : ¬ 0 ≤ n := fun hh => h (.inr hh)
        refine .inr (.inr (.inr ⟨?_, by simp; omega⟩))
        split
        · exact .inr rfl
        · exact .inl rfl

set_option maxRecDepth 100000 in
set_option maxHeartbeats 8000000 in
theorem rolesOffers_walk (v0 v1 v2 : Value) (w : World) (h0 : Arg w (.cat 1 (.int .i64) (.cat 6 (.arr 6 1 (.int .u8)) .nil)) v0) (h1 : Arg w (.slice 21 80 (.cat 1 (.int .i64) (.cat 1 (.int .i64) (.cat 1 .bool (.cat 1 .bool (.cat 17 (.cat 7 (.cat 1 (.int .i64) (.cat 6 (.arr 6 1 (.int .u8)) .nil)) (.cat 1 (.int .i64) (.cat 7 (.cat 1 (.int .i64) (.cat 6 (.arr 6 1 (.int .u8)) .nil)) (.cat 1 (.int .i64) (.cat 1 (.int .i64) .nil))))) .nil)))))) v1) (h2 : Arg w (.int .i64) v2) :
    Calls Try.prog 10 #[v0, v1, v2] w fun e w' => e = .returned (.bool true) ∧ Below w.heap.size w w' := by
  obtain ⟨me, rfl, hme⟩ := arg_idn h0
  obtain ⟨ao, cap, l, rfl, hh, hp, hl⟩ := arg_hears h1
  obtain ⟨port, rfl, -⟩ := h2.int
  clear h0 h1 h2
  have b1 := heap_alloc_new w (.cells me.cells 25)
  have s1 := (Step.refl None w).alloc (.cells me.cells 25)
  have HH0 := hh.still s1
  obtain ⟨W, hW⟩ : ∃ W, w.alloc (.cells me.cells 25) = W := ⟨_, rfl⟩
  rw [hW] at b1 s1 HH0
  have HE := Lib.hid hW
  have B1 := Lib.hid b1
  have S1 := Lib.hid s1
  have HH := Lib.hid HH0
  have F := Lib.hid (And.intro hme (And.intro hp hl))
  clear hW b1 s1 HH0 hh hme hp hl
  go_enter Try.func10, Try.ntmps10
  go_wp2_with (first
    | rw [HE.out])
  refine (rawake_any _).mono ?_
  rintro e w2 ⟨rfl, s2⟩
  have S2 := Lib.hid (S1.out.then_ s2)
  have B2 := Lib.hid (s2.blk B1.out (fun s => s.elim))
  have HH2 := Lib.hid (HH.out.still s2)
  clear s2 S1 B1 HH HE
  go_wp2_with (first
    | (refine wpList_load_is 25 (.tmp 3) rfl rfl rfl (load_idn B2.out) ?_))
  refine (select_any me ao cap l w2 F.out.1 F.out.2.1 (by have := F.out.2.2; omega) HH2.out).mono ?_
  rintro e w3 ⟨s3, ao2, cap2, rfl, ints⟩
  have hn := laid_new w3 zeroV (bestOf me l).cells 27
  unfold zeroV at hn
  obtain ⟨W4, hW4⟩ : ∃ W4, (w3.alloc (.cells #[.int .i64 0, .int .u8 0, .int .u8 0, .int .u8 0, .int .u8 0, .int .u8 0, .int .u8 0, .int .i64 0, .int .i64 0, .int .u8 0, .int .u8 0, .int .u8 0, .int .u8 0, .int .u8 0, .int .u8 0, .int .i64 0, .int .i64 0] 27)).setRow w3.heap.size (bestOf me l).cells = W4 := ⟨_, rfl⟩
  rw [hW4] at hn
  have HE4 := Lib.hid hW4
  have N4 := Lib.hid hn.1
  have S4 := Lib.hid ((S2.out.then_ s3).then_ hn.2)
  have B4 := Lib.hid (hn.2.blk (s3.blk B2.out (fun s => s.elim)) (fun s => s.elim))
  have HH4 := Lib.hid ((HH2.out.still s3).still hn.2)
  have I4 := Lib.hid (ints.still hn.2)
  clear s3 ints hn hW4 S2 B2 HH2
  have FB : Hid (bestOf me l).fine := Lib.hid (by
    unfold bestOf
    split
    · exact selK_fine F.out.1 HH4.out _
    · exact ⟨fun x hx => by simp [noVec, noIdn, Idn.mac] at hx; omega, fun x hx => by simp [noVec, noIdn, Idn.mac] at hx; omega⟩)
  have OL : Hid (fairOf l = 0 → OfferLaw (rolesOf me l) me l (bestOf me l)) := Lib.hid fun hf => offer_law hf
  have HX : Hid (fairOf l ≠ 0 → rolesOf me l = []) := Lib.hid fun hf => by rw [rolesOf, if_neg hf]
  have F2 := Lib.hid (And.intro F.out.1 F.out.2.2)
  clear F
  generalize bestOf me l = B at *
  generalize rolesOf me l = xs at *
  generalize fairOf l = f at *
  go_wp2_with (first
    | rw [HE4.out]
    | (refine wpList_store_row rfl 27 (.tmp 8) (.tmp 19) rfl w3.heap.size B.cells rfl rfl 27 _ (heap_alloc_new w3 _) (by kernel_rfl) rfl (by simp [Vec.cells, Value.oneCell']) ?_))
  generalize w3.heap.size = N at *
  clear HE4
  have he := eq_vec (offerV me B port) (offerV me B port)
  simp only [BEq.rfl] at he
  have K : Hid (∀ W, Step None W4 W → (Instr.loadAt 25 (.pointer (some ⟨w.heap.size, 0, none⟩))).run Try.prog W = .ok (.agg me.cells) W ∧ (Instr.loadAt 27 (.pointer (some ⟨N, 0, none⟩))).run Try.prog W = .ok (.agg B.cells) W) := Lib.hid fun W hW => ⟨load_idn (hW.blk B4.out (fun s => s.elim)), load_block (hW.blk N4.out (fun s => s.elim)) rfl⟩
  apply wp_cut0 (fun (w' : World) => Step None W4 w')
  · refine wp_region_plan (fun W => (Instr.loadAt 25 (.pointer (some ⟨w.heap.size, 0, none⟩))).run Try.prog W = .ok (.agg me.cells) W ∧ (Instr.loadAt 27 (.pointer (some ⟨N, 0, none⟩))).run Try.prog W = .ok (.agg B.cells) W) (.take 0 (.take 1 (.take 2 (.take 3 (.take 4 (.take 5 (.take 7 (.take 8 (.take 9 (.alt 6 (.alt 10 (.take 11 (.take 12 .done)) .none) .none)))))))))) _
      (by simp only [Plan.map, opOf, List.getElem?_toArray, List.getElem?_cons_zero, List.getElem?_cons_succ, Option.getD_some]; rfl) (by kernel_rfl) (by kernel_rfl) (by kernel_rfl) (by decide) (by intro c a d v w h; exact absurd h.1 (by simp)) (K.out _ (Step.refl None W4).drew) ?_
    repeat (first | (refine wpPlan.taken (by rfl) (fun w' hS' => run_load_op rfl rfl hS'.1) ?_; simp only [Act.put, List.setIfInBounds_toArray, List.set_cons_zero, List.set_cons_succ]) | (refine wpPlan.taken (by rfl) (fun w' hS' => run_load_op rfl rfl hS'.2) ?_; simp only [Act.put, List.setIfInBounds_toArray, List.set_cons_zero, List.set_cons_succ]) | (refine wpPlan.taken (by rfl) (by intro w' hS'; (try dsimp only at hS'); go_split_ands; go_simp; try with_reducible rfl) ?_; simp only [Act.put, List.setIfInBounds_toArray, List.set_cons_zero, List.set_cons_succ]) | (refine wpPlan.passed (by rfl) ?_; simp only [Act.put, List.setIfInBounds_toArray, List.set_cons_zero, List.set_cons_succ]))
    refine wpPlan.runs fun K' hK => ?_
    go_simp
    refine (offer_any me B port _).mono ?_
    rintro e w5 ⟨rfl, s5⟩
    have S5 := Lib.hid ((Step.refl None W4).drew.then_ s5)
    refine hK.out _ _ (K.out _ S5.out) ?_
    clear hK K' s5
    repeat (first | (refine wpPlan.taken (by rfl) (fun w' hS' => run_load_op rfl rfl hS'.1) ?_; simp only [Act.put, List.setIfInBounds_toArray, List.set_cons_zero, List.set_cons_succ]) | (refine wpPlan.taken (by rfl) (fun w' hS' => run_load_op rfl rfl hS'.2) ?_; simp only [Act.put, List.setIfInBounds_toArray, List.set_cons_zero, List.set_cons_succ]) | (refine wpPlan.taken (by rfl) (by intro w' hS'; (try dsimp only at hS'); go_split_ands; go_simp; try with_reducible rfl) ?_; simp only [Act.put, List.setIfInBounds_toArray, List.set_cons_zero, List.set_cons_succ]) | (refine wpPlan.passed (by rfl) ?_; simp only [Act.put, List.setIfInBounds_toArray, List.set_cons_zero, List.set_cons_succ]))
    refine wpPlan.runs fun K' hK => ?_
    go_simp
    refine (roffer_any me B port _).mono ?_
    rintro e w6 ⟨rfl, s6⟩
    have S6 := Lib.hid (S5.out.then_ s6)
    refine hK.out _ _ (K.out _ S6.out) ?_
    clear hK K' s6
    repeat (first | (refine wpPlan.taken (by rfl) (fun w' hS' => run_load_op rfl rfl hS'.1) ?_; simp only [Act.put, List.setIfInBounds_toArray, List.set_cons_zero, List.set_cons_succ]) | (refine wpPlan.taken (by rfl) (fun w' hS' => run_load_op rfl rfl hS'.2) ?_; simp only [Act.put, List.setIfInBounds_toArray, List.set_cons_zero, List.set_cons_succ]) | (refine wpPlan.taken (by rfl) (by intro w' hS'; (try dsimp only at hS'); go_split_ands; go_simp; try with_reducible rfl) ?_; simp only [Act.put, List.setIfInBounds_toArray, List.set_cons_zero, List.set_cons_succ]) | (refine wpPlan.passed (by rfl) ?_; simp only [Act.put, List.setIfInBounds_toArray, List.set_cons_zero, List.set_cons_succ]))
    refine wpPlan.done ?_
    exact ⟨rfl, rfl, S6.out⟩
  intro W5 s5
  have S5 := Lib.hid s5
  clear s5
  by_cases hf : f = 0
  rotate_left
  · have hx := HX.out hf
    subst hx
    clear hf
    go_wp2_with fail
    go_loopw [11, 12, 13] (fun i _ _ wr => i = .int .i64 0 ∧ wr = W5) (fun _ _ _ _ => 0)
    case atStart => exact ⟨rfl, rfl⟩
    case round =>
      obtain ⟨rfl, rfl⟩ := hrel
      go_wp2_with fail
      go_ret
      exact ⟨rfl, (S4.out.then_ S5.out).toBelow⟩
  subst hf
  have LAW := Lib.hid (OL.out rfl)
  have hlen := LAW.out.len
  rw [hlen]
  clear OL HX hlen
  go_wp2_with fail
  go_loopw [11, 12, 13] (fun i _ _ wr => ∃ (k : Nat) (W : World), W = wr ∧ k ≤ l.length ∧ i = .int .i64 k ∧ Hid (Step None W4 wr)) (fun i _ _ _ => l.length - (intOf i).toNat)
  case atStart => exact ⟨0, _, rfl, Nat.zero_le _, rfl, S5⟩
  case round =>
    obtain ⟨k, wq, rfl, hk, rfl, hs⟩ := hrel
    by_cases hlt : k < l.length
    · have e1 : decide ((k : Int) < (l.length : Int)) = true := by simpa using hlt
      have k0 : (0 : Int) ≤ (k : Int) := by omega
      have k1 : (k : Int) < (l.length : Int) := by omega
      have hw1 : IntKind.i64.wrap ((k : Int) + 1) = ((k + 1 : Nat) : Int) := by rw [IntWalk.i64_in _ (by have := F2.out.2; omega)]; omega
      obtain ⟨x, hx⟩ : ∃ x, l[k]? = some x := ⟨l[k], List.getElem?_eq_getElem hlt⟩
      obtain ⟨r, hr, hcs⟩ := LAW.out.at_ k x hx
      obtain ⟨fx, b, off, e3, hc⟩ := (HH4.out.still hs.out) k x hx
      obtain ⟨q, qo, e2, cq⟩ := (I4.out.still hs.out).cell hr
      subst e2 e3
      have FX := Lib.hid fx
      have LW := Lib.hid (load_way hc)
      have hn := laid_new wq zeroV x.v.cells 27
      unfold zeroV at hn
      obtain ⟨W1, hW1⟩ : ∃ W1, (wq.alloc (.cells #[.int .i64 0, .int .u8 0, .int .u8 0, .int .u8 0, .int .u8 0, .int .u8 0, .int .u8 0, .int .i64 0, .int .i64 0, .int .u8 0, .int .u8 0, .int .u8 0, .int .u8 0, .int .u8 0, .int .u8 0, .int .i64 0, .int .i64 0] 27)).setRow wq.heap.size x.v.cells = W1 := ⟨_, rfl⟩
      rw [hW1] at hn
      have HE1 := Lib.hid hW1
      have c16 := blk_cell hn.1 16
      have f16 := blk_frozen hn.1 16
      simp only [Vec.cells, List.getElem?_toArray, List.getElem?_cons_zero, List.getElem?_cons_succ] at c16
      have b2 := blk_set hn.1 16 (.int .i64 0)
      have s2 := hn.2.setCell (p := ⟨wq.heap.size, 16, none⟩) (fun hh => absurd hh (Nat.lt_irrefl _)) (.int .i64 0)
      rw [show x.v.cells.setIfInBounds 16 (.int .i64 0) = (x.v.own 0).cells from rfl] at b2
      obtain ⟨W2, hW2⟩ : ∃ W2, W1.setCell ⟨wq.heap.size, 16, none⟩ (.int .i64 0) = W2 := ⟨_, rfl⟩
      rw [hW2] at b2 s2
      have HE2 := Lib.hid hW2
      have S2' := Lib.hid (hs.out.then_ s2)
      have K : Hid (∀ W, Step None W2 W → (fun W => (Instr.loadAt 27 (.pointer (some ⟨wq.heap.size, 0, none⟩))).run Try.prog W = .ok (.agg (x.v.own 0).cells) W ∧ (Instr.loadAt 25 (.pointer (some ⟨w.heap.size, 0, none⟩))).run Try.prog W = .ok (.agg me.cells) W ∧ (Instr.loadAt 27 (.pointer (some ⟨N, 0, none⟩))).run Try.prog W = .ok (.agg B.cells) W ∧ W.cell? ⟨b, off + k * 21, none⟩ = some (.int .i64 x.port)) W) := Lib.hid fun W hW => by
        have st := S2'.out.then_ hW
        obtain ⟨-, b', off', e, hc'⟩ := (HH4.out.still st) k x hx
        cases e
        exact ⟨load_block (hW.blk b2 (fun s => s.elim)) rfl, load_idn (st.blk B4.out (fun s => s.elim)), load_block (st.blk N4.out (fun s => s.elim)) rfl, (hcell hc').1⟩
      have Z : Hid (∀ W, Step None W2 W → W.cell? ⟨q, qo + k, none⟩ = some (.int .i64 r) ∧ W.cell? ⟨b, off + k * 21 + 3, none⟩ = some (.bool x.has)) := Lib.hid fun W hW => by
        have st := S2'.out.then_ hW
        obtain ⟨-, b', off', e, hc'⟩ := (HH4.out.still st) k x hx
        cases e
        obtain ⟨q', qo', e', cq'⟩ := (I4.out.still st).cell hr
        cases e'
        exact ⟨cq', (hcell hc').2.2.2⟩
      have HLT := Lib.hid hlt
      have HCS := Lib.hid hcs
      clear hc hx hr hcs hlt cq hn b2 s2 hW1 hW2 fx
      go_wp2_with (first
        | rw [HE1.out]
        | rw [HE2.out]
        | (refine wpList_load_is 27 (.tmp 48) rfl rfl rfl LW.out ?_)
        | (refine wpList_store_row rfl 27 (.tmp 12) (.tmp 49) rfl wq.heap.size x.v.cells rfl rfl 27 _ (heap_alloc_new wq _) (by kernel_rfl) rfl (by simp [Vec.cells, Value.oneCell']) ?_))
      refine wp_region_plan (fun W => (Instr.loadAt 27 (.pointer (some ⟨wq.heap.size, 0, none⟩))).run Try.prog W = .ok (.agg (x.v.own 0).cells) W ∧ (Instr.loadAt 25 (.pointer (some ⟨w.heap.size, 0, none⟩))).run Try.prog W = .ok (.agg me.cells) W ∧ (Instr.loadAt 27 (.pointer (some ⟨N, 0, none⟩))).run Try.prog W = .ok (.agg B.cells) W ∧ W.cell? ⟨b, off + k * 21, none⟩ = some (.int .i64 x.port)) (.take 0 (.take 1 (.take 2 (.take 3 (.take 4 (.take 5 (.take 6 (.take 7 (.alt 8 (.alt 9 (.take 10 .done) .none) .none))))))))) _
        (by simp only [Plan.map, opOf, List.getElem?_toArray, List.getElem?_cons_zero, List.getElem?_cons_succ, Option.getD_some]; rfl) (by kernel_rfl) (by kernel_rfl) (by kernel_rfl) (by decide) (by intro c a d v w; cases d <;> exact fun h => h) (K.out _ (Step.refl None W2).drew) ?_
      repeat (first | (refine wpPlan.taken (by rfl) (fun w' hS' => run_load_op rfl rfl hS'.1) ?_; simp only [Act.put, List.setIfInBounds_toArray, List.set_cons_zero, List.set_cons_succ]) | (refine wpPlan.taken (by rfl) (fun w' hS' => run_load_op rfl rfl hS'.2.1) ?_; simp only [Act.put, List.setIfInBounds_toArray, List.set_cons_zero, List.set_cons_succ]) | (refine wpPlan.taken (by rfl) (fun w' hS' => run_load_op rfl rfl hS'.2.2.1) ?_; simp only [Act.put, List.setIfInBounds_toArray, List.set_cons_zero, List.set_cons_succ]) | (refine wpPlan.taken (by rfl) (by intro w' hS'; (try dsimp only at hS'); go_split_ands; go_simp; try with_reducible rfl) ?_; simp only [Act.put, List.setIfInBounds_toArray, List.set_cons_zero, List.set_cons_succ]) | (refine wpPlan.passed (by rfl) ?_; simp only [Act.put, List.setIfInBounds_toArray, List.set_cons_zero, List.set_cons_succ]))
      refine wpPlan.runs fun K' hK => ?_
      go_simp
      refine (offer_any me B x.port _).mono ?_
      rintro e w5 ⟨rfl, s5⟩
      have T5 := Lib.hid ((Step.refl None W2).drew.then_ s5)
      refine hK.out _ _ (K.out _ T5.out) ?_
      clear hK K' s5
      refine wpPlan.runs fun K' hK => ?_
      go_simp
      refine (rvec_compare (x.v.own 0) (offerV me B x.port) _ FX.out ⟨FB.out.1, F2.out.1⟩).mono ?_
      rintro e w6 ⟨rfl, s6⟩
      have T6 := Lib.hid (T5.out.then_ s6)
      refine hK.out _ _ (K.out _ T6.out) ?_
      clear hK K' s6
      repeat (first | (refine wpPlan.taken (by rfl) (fun w' hS' => run_load_op rfl rfl hS'.1) ?_; simp only [Act.put, List.setIfInBounds_toArray, List.set_cons_zero, List.set_cons_succ]) | (refine wpPlan.taken (by rfl) (fun w' hS' => run_load_op rfl rfl hS'.2.1) ?_; simp only [Act.put, List.setIfInBounds_toArray, List.set_cons_zero, List.set_cons_succ]) | (refine wpPlan.taken (by rfl) (fun w' hS' => run_load_op rfl rfl hS'.2.2.1) ?_; simp only [Act.put, List.setIfInBounds_toArray, List.set_cons_zero, List.set_cons_succ]) | (refine wpPlan.taken (by rfl) (by intro w' hS'; (try dsimp only at hS'); go_split_ands; go_simp; try with_reducible rfl) ?_; simp only [Act.put, List.setIfInBounds_toArray, List.set_cons_zero, List.set_cons_succ]) | (refine wpPlan.passed (by rfl) ?_; simp only [Act.put, List.setIfInBounds_toArray, List.set_cons_zero, List.set_cons_succ]))
      refine wpPlan.done ?_
      obtain ⟨z1, z2⟩ := Z.out _ T6.out
      have S6 := Lib.hid (S2'.out.then_ T6.out)
      have hcs := HCS.out
      generalize lex (x.v.own 0).flat (offerV me B x.port).flat = n at *
      clear HCS K Z LW HE1 HE2 S2'
      rcases hcs with rfl | rfl | ⟨rfl, hh | hh⟩ | ⟨rfl | rfl, hh⟩
      · go_wp2_with fail
        go_roundw
        case rel => exact ⟨k + 1, _, rfl, by have := HLT.out; omega, rfl, S6⟩
        case measure => have := HLT.out; simp [intOf]; omega
      · go_wp2_with fail
        go_roundw
        case rel => exact ⟨k + 1, _, rfl, by have := HLT.out; omega, rfl, S6⟩
        case measure => have := HLT.out; simp [intOf]; omega
      · rw [hh] at z2
        go_wp2_with fail
        go_roundw
        case rel => exact ⟨k + 1, _, rfl, by have := HLT.out; omega, rfl, S6⟩
        case measure => have := HLT.out; simp [intOf]; omega
      · obtain ⟨bh, hbh⟩ : ∃ bh, x.has = bh := ⟨_, rfl⟩
        rw [hbh] at z2
        clear hbh
        cases bh
        · go_wp2_with fail
          go_roundw
          case rel => exact ⟨k + 1, _, rfl, by have := HLT.out; omega, rfl, S6⟩
          case measure => have := HLT.out; simp [intOf]; omega
        · go_wp2_with fail
          go_roundw
          case rel => exact ⟨k + 1, _, rfl, by have := HLT.out; omega, rfl, S6⟩
          case measure => have := HLT.out; simp [intOf]; omega
      · go_wp2_with fail
        go_roundw
        case rel => exact ⟨k + 1, _, rfl, by have := HLT.out; omega, rfl, S6⟩
        case measure => have := HLT.out; simp [intOf]; omega
      · go_wp2_with fail
        go_roundw
        case rel => exact ⟨k + 1, _, rfl, by have := HLT.out; omega, rfl, S6⟩
        case measure => have := HLT.out; simp [intOf]; omega
    · have e1 : decide ((k : Int) < (l.length : Int)) = false := by simpa using hlt
      obtain rfl : k = l.length := by omega
      go_wp2_with fail
      go_ret
      exact ⟨rfl, (S4.out.then_ hs.out).toBelow⟩
end Go.Proofs.Ytehlaomippbehaa
