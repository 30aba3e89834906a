/- The document's Select, walked. -/
import Derived.Test.YtehlaomippbehaaR14
namespace Go.Proofs.Ytehlaomippbehaa
open Go.RowKit Go.Gm

theorem bad_best {me : Idn} {l : List Hrd} {F : Int} (h : fairOf l = F) (hF : F ≠ 0) : bestOf me l = noVec := by rw [bestOf, if_neg (by rw [h]; exact hF)]
theorem bad_roles {me : Idn} {l : List Hrd} {F : Int} (h : fairOf l = F) (hF : F ≠ 0) : rolesOf me l = [] := by rw [rolesOf, if_neg (by rw [h]; exact hF)]
theorem load_bridgeAt {w : World} {b o : Nat} {x : Hrd} (h : ∀ j u, x.cells[j]? = some u → w.cell? ⟨b, o + j, none⟩ = some u) : (Instr.loadAt 25 (.pointer (some ⟨b, o + 4 + 8, none⟩))).run Try.prog w = .ok (.agg x.v.b.cells) w := by
  have := run_loadAt_mid (P := Try.prog) w b (o + 4 + 8) 25 x.v.b.cells.toList _ (fun j u hj => by
    rw [show o + 4 + 8 + j = o + (12 + j) by omega]
    refine h (12 + j) u ?_
    match j, hj with
    | 0, hj => exact hj
    | 1, hj => exact hj
    | 2, hj => exact hj
    | 3, hj => exact hj
    | 4, hj => exact hj
    | 5, hj => exact hj
    | 6, hj => exact hj
    | j + 7, hj => simp [Idn.cells] at hj) Try.underlying25 rfl (by kernel_rfl)
  simpa using this
theorem rb_other {w0 w : World} {M R B N : Nat} {me : Idn} {ao : Option Addr} {l : List Hrd} {best : Vec} {cs cs' : Array Value} (h : Rb w0 w M R B me ao l best) (hb : w.heap[N]? = some (.cells cs 27 (0, 0))) (hN : w0.heap.size ≤ N) (hNB : N ≠ B) (hNR : R ≠ N) (hold : ∀ b off, l ≠ [] → ao = some ⟨b, off, none⟩ → b < w0.heap.size) : Rb w0 (w.setRow N cs') M R B me ao l best := by
  have hMN : M ≠ N := blk_ne h.rl.m hb (by decide)
  refine ⟨⟨(setRow_other _ _ _ _ hMN).trans h.rl.m, (setRow_other _ _ _ _ hNR).trans h.rl.r, fun i x hx => ?_, step_setRow h.rl.st (fun hh => by omega) _, h.rl.nR⟩, (setRow_other _ _ _ _ (Ne.symm hNB)).trans h.b, h.nB, h.ne⟩
  obtain ⟨f, b, off, e, hc⟩ := h.rl.h i x hx
  refine ⟨f, b, off, e, fun j u hu => ?_⟩
  rw [World.cell?_of_block (w := w) (a := ⟨b, off + i * 21 + j, none⟩) (setRow_other w N b cs' (by have := hold b off (fun hl => by subst hl; simp at hx) e; omega))]
  exact hc j u hu

set_option maxRecDepth 100000 in
set_option maxHeartbeats 8000000 in
theorem rselect_any (me : Idn) (ao : Option Addr) (cap : Nat) (l : List Hrd) (w : World) (hme : Small me.mac) (hl : l.length ≤ 9223372036854775807) (h : Hears w ao l) :
    Calls Try.prog 28 #[.agg me.cells, .slice ao l.length cap] w fun e w' => Step None w w' ∧ ∃ ao2 cap2, e = .returned (.tuple #[.agg (bestOf me l).cells, .slice ao2 (rolesOf me l).length cap2, .int .i64 (fairOf l)]) ∧ Ints w' ao2 (rolesOf me l) := by
  have hlt : ∀ b off, l ≠ [] → ao = some ⟨b, off, none⟩ → b < w.heap.size := fun b off hne e => hears_old h hne e
  have b1 := heap_alloc_new w (.cells me.cells 25)
  have b3 := heap_alloc_new (w.alloc (.cells me.cells 25)) (.cells zeroV 27)
  have s1 := ((Step.refl None w).alloc (.cells me.cells 25)).alloc (.cells zeroV 27)
  have b1 := ((Step.refl None _).alloc (.cells zeroV 27)).blk b1 (fun s => s.elim)
  simp only [World.size_alloc] at b3
  have rl : Rl w ((w.alloc (.cells me.cells 25)).alloc (.cells zeroV 27)) w.heap.size (w.heap.size + 1) me ao l := ⟨b1, b3, h.still s1, s1, by omega⟩
  unfold zeroV at rl
  obtain ⟨W, hW⟩ : ∃ W, (w.alloc (.cells me.cells 25)).alloc (.cells #[.int .i64 0, .int .u8 0, .int .u8 0, .int .u8 0, .int .u8 0, .int .u8 0, .int .u8 0, .int .i64 0, .int .i64 0, .int .u8 0, .int .u8 0, .int .u8 0, .int .u8 0, .int .u8 0, .int .u8 0, .int .i64 0, .int .i64 0] 27) = W := ⟨_, rfl⟩
  rw [hW] at rl
  have HE := Lib.hid hW
  have RL := Lib.hid rl
  have HO := Lib.hid (And.intro hme hlt)
  clear hW b1 b3 s1 h hlt rl hme
  cases hg : decide (l.length ≤ 64)
  · have hf := Lib.hid (fairOf_many (l := l) (by simp at hg; omega))
    have d1 : decide ((64 : Int) < (l.length : Int)) = true := by simp at hg ⊢; omega
    have d2 : decide (64 < l.length) = true := by simp at hg ⊢; omega
    clear hg
    go_enter Try.func28, Try.ntmps28
    go_wp2_with (first
      | rw [HE.out]
      | (refine wpList_store_row rfl 27 (.tmp 4) (.tmp 21) rfl (w.heap.size + 1) noVec.cells rfl rfl 27 _ RL.out.r (by kernel_rfl) rfl (by kernel_rfl) ?_))
    (try simp only [Exit.inBlock, Exit.then])
    refine bodyPost_ret (results_cell_row3 (P := Try.prog) (fn := Try.f28) rfl _ _ (w.heap.size + 1) 27 noVec.cells (0, 0) _ rfl (setRow_heap _ _ _ _ _ _ RL.out.r) Try.underlying27 rfl (by kernel_rfl)) rfl ?_
    refine ⟨step_setRow RL.out.st (fun h => by have := RL.out.nR; omega) _, none, 0, by rw [bad_best hf.out (by decide), bad_roles hf.out (by decide), hf.out]; rfl, ?_⟩
    rw [bad_roles hf.out (by decide)]
    exact Ints.nil _ _
  have h64 : l.length ≤ 64 := by simpa using hg
  have d1 : decide ((64 : Int) < (l.length : Int)) = false := by simp; omega
  have d2 : decide (64 < l.length) = false := by simp; omega
  have H64 := Lib.hid h64
  clear hg h64 hl
  go_enter Try.func28, Try.ntmps28
  go_wp2_with (first | rw [HE.out])
  clear HE
  go_loopw [7] (fun i wr => ∃ (k : Nat) (W : World), W = wr ∧ k ≤ l.length ∧ i = .int .i64 k ∧ Hid (badK l k = false) ∧ Hid (Rl w wr w.heap.size (w.heap.size + 1) me ao l)) (fun i _ => l.length - (intOf i).toNat)
  case atStart => exact ⟨0, _, rfl, Nat.zero_le _, rfl, Lib.hid rfl, RL⟩
  case round =>
    obtain ⟨k, wr, rfl, hk, rfl, hbad, rl⟩ := hrel
    clear RL
    by_cases hlt : k < l.length
    · obtain ⟨x, hx⟩ : ∃ x, l[k]? = some x := ⟨l[k], List.getElem?_eq_getElem hlt⟩
      obtain ⟨-, b, off, rfl, hc⟩ := rl.out.h k x hx
      obtain ⟨p0, p1, -, -⟩ := hcell hc
      have e1 : decide ((k : Int) < (l.length : Int)) = true := by simpa using hlt
      have k0 : (0 : Int) ≤ (k : Int) := by omega
      have k1 : (k : Int) < (l.length : Int) := by omega
      have hw1 : IntKind.i64.wrap ((k : Int) + 1) = ((k + 1 : Nat) : Int) := by rw [IntWalk.i64_in _ (by have := H64.out; omega)]; omega
      have HX := Lib.hid (And.intro hx H64.out)
      have HLT := Lib.hid hlt
      clear hc hx
      cases hA : decide (x.port < 1)
      rotate_left
      · have hf := Lib.hid (badK_bad HX.out.1 (by simp only [Hrd.bad, hA]; simp) HX.out.2)
        go_wp2_with (first
          | (refine wpList_store_row rfl 27 (.tmp 4) (.tmp 58) rfl (w.heap.size + 1) noVec.cells rfl rfl 27 _ rl.out.r (by kernel_rfl) rfl (by kernel_rfl) ?_))
        (try simp only [Exit.inBlock, Exit.then])
        refine bodyPost_ret (results_cell_row3 (P := Try.prog) (fn := Try.f28) rfl _ _ (w.heap.size + 1) 27 noVec.cells (0, 0) _ rfl (setRow_heap _ _ _ _ _ _ rl.out.r) Try.underlying27 rfl (by kernel_rfl)) rfl ?_
        refine ⟨step_setRow rl.out.st (fun h => by have := rl.out.nR; omega) _, none, 0, by rw [bad_best hf.out (by decide), bad_roles hf.out (by decide), hf.out]; rfl, ?_⟩
        rw [bad_roles hf.out (by decide)]
        exact Ints.nil _ _
      cases hB : decide (65535 < x.port)
      rotate_left
      · have hf := Lib.hid (badK_bad HX.out.1 (by simp only [Hrd.bad, hA, hB]; simp) HX.out.2)
        go_wp2_with (first
          | (refine wpList_store_row rfl 27 (.tmp 4) (.tmp 58) rfl (w.heap.size + 1) noVec.cells rfl rfl 27 _ rl.out.r (by kernel_rfl) rfl (by kernel_rfl) ?_))
        (try simp only [Exit.inBlock, Exit.then])
        refine bodyPost_ret (results_cell_row3 (P := Try.prog) (fn := Try.f28) rfl _ _ (w.heap.size + 1) 27 noVec.cells (0, 0) _ rfl (setRow_heap _ _ _ _ _ _ rl.out.r) Try.underlying27 rfl (by kernel_rfl)) rfl ?_
        refine ⟨step_setRow rl.out.st (fun h => by have := rl.out.nR; omega) _, none, 0, by rw [bad_best hf.out (by decide), bad_roles hf.out (by decide), hf.out]; rfl, ?_⟩
        rw [bad_roles hf.out (by decide)]
        exact Ints.nil _ _
      cases hC : decide (x.cost < 1)
      rotate_left
      · have hf := Lib.hid (badK_bad HX.out.1 (by simp only [Hrd.bad, hA, hB, hC]; simp) HX.out.2)
        go_wp2_with (first
          | (refine wpList_store_row rfl 27 (.tmp 4) (.tmp 58) rfl (w.heap.size + 1) noVec.cells rfl rfl 27 _ rl.out.r (by kernel_rfl) rfl (by kernel_rfl) ?_))
        (try simp only [Exit.inBlock, Exit.then])
        refine bodyPost_ret (results_cell_row3 (P := Try.prog) (fn := Try.f28) rfl _ _ (w.heap.size + 1) 27 noVec.cells (0, 0) _ rfl (setRow_heap _ _ _ _ _ _ rl.out.r) Try.underlying27 rfl (by kernel_rfl)) rfl ?_
        refine ⟨step_setRow rl.out.st (fun h => by have := rl.out.nR; omega) _, none, 0, by rw [bad_best hf.out (by decide), bad_roles hf.out (by decide), hf.out]; rfl, ?_⟩
        rw [bad_roles hf.out (by decide)]
        exact Ints.nil _ _
      cases hD : decide (200000000 < x.cost)
      rotate_left
      · have hf := Lib.hid (badK_bad HX.out.1 (by simp only [Hrd.bad, hA, hB, hC, hD]; simp) HX.out.2)
        go_wp2_with (first
          | (refine wpList_store_row rfl 27 (.tmp 4) (.tmp 58) rfl (w.heap.size + 1) noVec.cells rfl rfl 27 _ rl.out.r (by kernel_rfl) rfl (by kernel_rfl) ?_))
        (try simp only [Exit.inBlock, Exit.then])
        refine bodyPost_ret (results_cell_row3 (P := Try.prog) (fn := Try.f28) rfl _ _ (w.heap.size + 1) 27 noVec.cells (0, 0) _ rfl (setRow_heap _ _ _ _ _ _ rl.out.r) Try.underlying27 rfl (by kernel_rfl)) rfl ?_
        refine ⟨step_setRow rl.out.st (fun h => by have := rl.out.nR; omega) _, none, 0, by rw [bad_best hf.out (by decide), bad_roles hf.out (by decide), hf.out]; rfl, ?_⟩
        rw [bad_roles hf.out (by decide)]
        exact Ints.nil _ _
      have hbn := Lib.hid (show badK l (k + 1) = false by rw [badK_succ HX.out.1, hbad.out]; simp only [Hrd.bad, hA, hB, hC, hD]; rfl)
      go_wp2_with fail
      go_roundw
      case rel => exact ⟨k + 1, _, rfl, by have := HLT.out; omega, rfl, hbn, rl⟩
      case measure => have := HLT.out; simp [intOf]; omega
    · have e1 : decide ((k : Int) < (l.length : Int)) = false := by simpa using hlt
      obtain rfl : k = l.length := by omega
      clear hlt hk
      go_wp2_with fail
      clear e1
      go_loopw [8, 9] (fun i _ wr => ∃ (k : Nat) (W : World), W = wr ∧ k ≤ l.length ∧ i = .int .i64 k ∧ Hid (((l.take k).map Hrd.port).Nodup) ∧ Hid (Rl w wr w.heap.size (w.heap.size + 1) me ao l)) (fun i _ _ => l.length - (intOf i).toNat)
      case atStart => exact ⟨0, _, rfl, Nat.zero_le _, rfl, Lib.hid (by simp), rl⟩
      case round =>
        obtain ⟨k, wr, rfl, hk, rfl, hnd, rl2⟩ := hrel
        clear rl
        by_cases hlt : k < l.length
        · obtain ⟨x, hx⟩ : ∃ x, l[k]? = some x := ⟨l[k], List.getElem?_eq_getElem hlt⟩
          obtain ⟨-, b, off, rfl, hc⟩ := rl2.out.h k x hx
          have e1 : decide ((k : Int) < (l.length : Int)) = true := by simpa using hlt
          have e2 : decide (k < l.length) = true := by simpa using hlt
          have HX := Lib.hid (And.intro hx H64.out)
          have HLT := Lib.hid hlt
          clear hc hx hlt hk
          go_wp2_with fail
          clear e1 e2
          go_loopw [9] (fun j wr => ∃ (a : Nat) (W : World), W = wr ∧ a ≤ k ∧ j = .int .i64 a ∧ Hid (∀ c y, c < a → l[c]? = some y → y.port ≠ x.port) ∧ Hid (Rl w wr w.heap.size (w.heap.size + 1) me (some ⟨b, off, none⟩) l)) (fun j _ => k - (intOf j).toNat)
          case atStart => exact ⟨0, _, rfl, Nat.zero_le _, rfl, Lib.hid (fun c y hc => absurd hc (Nat.not_lt_zero _)), rl2⟩
          case round =>
            obtain ⟨a, wq, rfl, hak, rfl, hap, rl3⟩ := hrel
            clear rl2
            by_cases hlt : a < k
            · obtain ⟨y, hy⟩ : ∃ y, l[a]? = some y := ⟨l[a]'(by have := HLT.out; omega), List.getElem?_eq_getElem (by have := HLT.out; omega)⟩
              have K : Hid (∀ W, Step None wq W → (fun W => W.cell? ⟨b, off + a * 21, none⟩ = some (.int .i64 y.port) ∧ W.cell? ⟨b, off + k * 21, none⟩ = some (.int .i64 x.port)) W) := Lib.hid fun W hW => by
                have q := rl3.out.still hW
                obtain ⟨-, b', off', e, hc⟩ := q.h a y hy
                cases e
                obtain ⟨-, b', off', e, hc'⟩ := q.h k x HX.out.1
                cases e
                exact ⟨(hcell hc).1, (hcell hc').1⟩
              have e1 : decide ((a : Int) < (k : Int)) = true := by simpa using hlt
              have e2 : decide (a < k) = true := by simpa using hlt
              have k0 : (0 : Int) ≤ (k : Int) := by omega
              have k1 : (k : Int) < (l.length : Int) := by have := HLT.out; omega
              have a0 : (0 : Int) ≤ (a : Int) := by omega
              have a1 : (a : Int) < (l.length : Int) := by have := HLT.out; omega
              have hw1 : IntKind.i64.wrap ((a : Int) + 1) = ((a + 1 : Nat) : Int) := by rw [IntWalk.i64_in _ (by have := H64.out; have := HLT.out; omega)]; omega
              have HY := Lib.hid (And.intro hy hlt)
              have rl4 := Lib.hid (rl3.out.still (Step.refl None wq).drew)
              clear hy hlt hak
              go_wp2_with fail
              refine wp_region_plan (fun W => W.cell? ⟨b, off + a * 21, none⟩ = some (.int .i64 y.port) ∧ W.cell? ⟨b, off + k * 21, none⟩ = some (.int .i64 x.port)) (.take 0 (.take 1 (.take 2 (.take 3 (.take 4 (.take 5 (.take 6 (.take 7 (.take 8 (.take 9 (.take 10 .done))))))))))) _
                (by simp only [Plan.map, opOf, List.getElem?_toArray, List.getElem?_cons_zero, List.getElem?_cons_succ, Option.getD_some]; rfl) (by kernel_rfl) (by kernel_rfl) (by kernel_rfl) (by decide) (by intro c a d v w; cases d <;> exact fun h => h) (K.out _ (Step.refl None wq).drew) ?_
              repeat (first | (refine wpPlan.taken (by rfl) (by intro w' hS'; (try dsimp only at hS'); go_split_ands; go_simp; try with_reducible rfl) ?_; simp only [Act.put, List.setIfInBounds_toArray, List.set_cons_zero, List.set_cons_succ]) | (refine wpPlan.passed (by rfl) ?_; simp only [Act.put, List.setIfInBounds_toArray, List.set_cons_zero, List.set_cons_succ]))
              refine wpPlan.done ?_
              cases hE : (y.port == x.port)
              · have hap2 := Lib.hid (show ∀ c z, c < a + 1 → l[c]? = some z → z.port ≠ x.port from fun c z hc hz => by
                  rcases Nat.lt_succ_iff_lt_or_eq.1 hc with h | h
                  · exact hap.out c z h hz
                  · subst h
                    have : y = z := Option.some.inj (HY.out.1.symm.trans hz)
                    subst this
                    simpa using hE)
                go_wp2_with fail
                go_roundw
                case rel => exact ⟨a + 1, _, rfl, by have := HY.out.2; omega, rfl, hap2, rl4⟩
                case measure => have := HY.out.2; simp [intOf]; omega
              · have hf := Lib.hid (fairOf_same H64.out hbad.out HY.out.1 HX.out.1 HY.out.2 (by simpa using hE))
                go_wp2_with (first
                  | (refine wpList_store_row rfl 27 (.tmp 4) (.tmp 81) rfl (w.heap.size + 1) noVec.cells rfl rfl 27 _ rl4.out.r (by kernel_rfl) rfl (by kernel_rfl) ?_))
                (try simp only [Exit.inBlock, Exit.then])
                refine bodyPost_ret (results_cell_row3 (P := Try.prog) (fn := Try.f28) rfl _ _ (w.heap.size + 1) 27 noVec.cells (0, 0) _ rfl (setRow_heap _ _ _ _ _ _ rl4.out.r) Try.underlying27 rfl (by kernel_rfl)) rfl ?_
                refine ⟨step_setRow rl4.out.st (fun h => by have := rl4.out.nR; omega) _, none, 0, by rw [bad_best hf.out (by decide), bad_roles hf.out (by decide), hf.out]; rfl, ?_⟩
                rw [bad_roles hf.out (by decide)]
                exact Ints.nil _ _
            · have e1 : decide ((a : Int) < (k : Int)) = false := by simpa using hlt
              have e2 : decide (a < k) = false := by simpa using hlt
              obtain rfl : a = k := by omega
              have hnd2 := Lib.hid (nodup_take HX.out.1 hnd.out hap.out)
              have hw1 : IntKind.i64.wrap ((a : Int) + 1) = ((a + 1 : Nat) : Int) := by rw [IntWalk.i64_in _ (by have := H64.out; have := HLT.out; omega)]; omega
              clear hlt hak
              go_wp2_with fail
              go_roundw
              case rel => exact ⟨a + 1, _, rfl, by have := HLT.out; omega, rfl, hnd2, rl3⟩
              case measure => have := HLT.out; simp [intOf]; omega
        · have e1 : decide ((k : Int) < (l.length : Int)) = false := by simpa using hlt
          obtain rfl : k = l.length := by omega
          have hz := fairOf_fine H64.out hbad.out hnd.out
          have R1 := Lib.hid (show bestOf me l = (selK me l l.length).1 by rw [bestOf, if_pos hz])
          have R2 := Lib.hid (show rolesOf me l = rolesFrom me (selK me l l.length).1 (selK me l l.length).2 l l.length by rw [rolesOf, if_pos hz])
          have R3 := Lib.hid hz
          have hn := laid_new wr zeroV (meV me).cells 27
          unfold zeroV at hn
          obtain ⟨W2, hW2⟩ : ∃ W2, (wr.alloc (.cells #[.int .i64 0, .int .u8 0, .int .u8 0, .int .u8 0, .int .u8 0, .int .u8 0, .int .u8 0, .int .i64 0, .int .i64 0, .int .u8 0, .int .u8 0, .int .u8 0, .int .u8 0, .int .u8 0, .int .u8 0, .int .i64 0, .int .i64 0] 27)).setRow wr.heap.size (meV me).cells = W2 := ⟨_, rfl⟩
          rw [hW2] at hn
          have HE2 := Lib.hid hW2
          have RB := Lib.hid (Rb.mk (B := wr.heap.size) (rl2.out.still hn.2) hn.1 rl2.out.st.size (by have := (Array.getElem?_eq_some_iff.1 rl2.out.r).1; omega))
          have lm2 := load_idn rl2.out.m
          unfold Idn.cells at lm2
          have LM2 := Lib.hid lm2
          clear hlt hk hz hn hW2 lm2
          go_wp2_with (first
            | (refine wpList_load_is 25 (.tmp 2) rfl rfl rfl LM2.out ?_)
            | (refine wpList_store_row rfl 27 (.tmp 10) (.tmp 84) rfl wr.heap.size (meV me).cells rfl rfl 27 _ (heap_alloc_new wr _) (by kernel_rfl) rfl (by simp [meV, Vec.cells, Value.oneCell']) ?_; rw [HE2.out]))
          clear HE2 LM2 rl2
          generalize wr.heap.size = B at *
          clear e1 hbad hnd
          go_loopw [11, 12, 13] (fun rt i _ wr => ∃ (k : Nat) (W : World), W = wr ∧ k ≤ l.length ∧ i = .int .i64 k ∧ rt = .int .i64 (selK me l k).2 ∧ Hid (Rb w wr w.heap.size (w.heap.size + 1) B me ao l (selK me l k).1)) (fun _ i _ _ => l.length - (intOf i).toNat)
          case atStart => exact ⟨0, _, rfl, Nat.zero_le _, rfl, rfl, RB⟩
          case round =>
            obtain ⟨k, wq, rfl, hk, rfl, rfl, rb⟩ := hrel
            clear RB
            by_cases hlt : k < l.length
            · obtain ⟨x, hx⟩ : ∃ x, l[k]? = some x := ⟨l[k], List.getElem?_eq_getElem hlt⟩
              obtain ⟨fx, b, off, rfl, hc⟩ := rb.out.rl.h k x hx
              have K : Hid (∀ W, Step None wq W → (fun W => (Instr.loadAt 52 (.pointer (some ⟨b, off + k * 21, none⟩))).run Try.prog W = .ok (.agg x.cells) W ∧ (Instr.loadAt 25 (.pointer (some ⟨b, off + k * 21 + 4 + 8, none⟩))).run Try.prog W = .ok (.agg x.v.b.cells) W ∧ (Instr.loadAt 25 (.pointer (some ⟨w.heap.size, 0, none⟩))).run Try.prog W = .ok (.agg me.cells) W) W) := Lib.hid fun W hW => by
                have q := rb.out.still hW
                obtain ⟨-, b', off', e, hc⟩ := q.rl.h k x hx
                cases e
                exact ⟨load_heard hc, load_bridgeAt hc, load_idn q.rl.m⟩
              have FX := Lib.hid fx
              have HX := Lib.hid hx
              have HLT := Lib.hid hlt
              have e1 : decide ((k : Int) < (l.length : Int)) = true := by simpa using hlt
              have k0 : (0 : Int) ≤ (k : Int) := by omega
              have k1 : (k : Int) < (l.length : Int) := by omega
              have hw1 : IntKind.i64.wrap ((k : Int) + 1) = ((k + 1 : Nat) : Int) := by rw [IntWalk.i64_in _ (by have := H64.out; omega)]; omega
              have he := eq_idn x.v.b me
              have HG := Lib.hid (goes_is me x)
              have HSU := Lib.hid (selK_succ (me := me) HX.out)
              have RC := Lib.hid (rcounts_any x)
              clear hc hx hlt hk fx
              generalize x.counts = cn at *
              generalize (x.v.b.flat == me.flat) = q at *
              cases cn
              · have hn := Lib.hid (HSU.out.trans (selStep_not (.inl HG.out)))
                go_wp2_with fail
                refine wp_region_plan (fun W => (Instr.loadAt 52 (.pointer (some ⟨b, off + k * 21, none⟩))).run Try.prog W = .ok (.agg x.cells) W ∧ (Instr.loadAt 25 (.pointer (some ⟨b, off + k * 21 + 4 + 8, none⟩))).run Try.prog W = .ok (.agg x.v.b.cells) W ∧ (Instr.loadAt 25 (.pointer (some ⟨w.heap.size, 0, none⟩))).run Try.prog W = .ok (.agg me.cells) W) (.take 0 (.take 1 (.take 2 (.take 3 (.alt 4 (.take 5 (.take 6 (.take 7 (.take 8 (.take 9 (.take 10 (.take 11 (.take 12 (.take 13 (.take 14 (.take 15 .done))))))))))) .none))))) _
                  (by simp only [Plan.map, opOf, List.getElem?_toArray, List.getElem?_cons_zero, List.getElem?_cons_succ, Option.getD_some]; rfl) (by kernel_rfl) (by kernel_rfl) (by kernel_rfl) (by decide) (by intro c a d v w; cases d <;> exact fun h => h) (K.out _ (Step.refl None wq).drew) ?_
                repeat (first | (refine wpPlan.taken (by rfl) (fun w' hS' => run_load_op rfl rfl hS'.1) ?_; simp only [Act.put, List.setIfInBounds_toArray, List.set_cons_zero, List.set_cons_succ]) | (refine wpPlan.taken (by rfl) (fun w' hS' => run_load_op rfl rfl hS'.2.1) ?_; simp only [Act.put, List.setIfInBounds_toArray, List.set_cons_zero, List.set_cons_succ]) | (refine wpPlan.taken (by rfl) (fun w' hS' => run_load_op rfl rfl hS'.2.2) ?_; simp only [Act.put, List.setIfInBounds_toArray, List.set_cons_zero, List.set_cons_succ]) | (refine wpPlan.taken (by rfl) (by intro w' hS'; (try dsimp only at hS'); go_split_ands; go_simp; try with_reducible rfl) ?_; simp only [Act.put, List.setIfInBounds_toArray, List.set_cons_zero, List.set_cons_succ]) | (refine wpPlan.passed (by rfl) ?_; simp only [Act.put, List.setIfInBounds_toArray, List.set_cons_zero, List.set_cons_succ]))
                refine wpPlan.runs fun K' hK => ?_
                go_simp
                refine (RC.out _).mono ?_
                rintro e W3 ⟨rfl, s3⟩
                have s3 := (Step.refl None wq).drew.then_ s3
                refine hK.out _ _ (K.out _ s3) ?_
                clear hK K'
                repeat (first | (refine wpPlan.taken (by rfl) (fun w' hS' => run_load_op rfl rfl hS'.1) ?_; simp only [Act.put, List.setIfInBounds_toArray, List.set_cons_zero, List.set_cons_succ]) | (refine wpPlan.taken (by rfl) (fun w' hS' => run_load_op rfl rfl hS'.2.1) ?_; simp only [Act.put, List.setIfInBounds_toArray, List.set_cons_zero, List.set_cons_succ]) | (refine wpPlan.taken (by rfl) (fun w' hS' => run_load_op rfl rfl hS'.2.2) ?_; simp only [Act.put, List.setIfInBounds_toArray, List.set_cons_zero, List.set_cons_succ]) | (refine wpPlan.taken (by rfl) (by intro w' hS'; (try dsimp only at hS'); go_split_ands; go_simp; try with_reducible rfl) ?_; simp only [Act.put, List.setIfInBounds_toArray, List.set_cons_zero, List.set_cons_succ]) | (refine wpPlan.passed (by rfl) ?_; simp only [Act.put, List.setIfInBounds_toArray, List.set_cons_zero, List.set_cons_succ]))
                refine wpPlan.done ?_
                go_wp2_with fail
                go_roundw
                case rel => exact ⟨k + 1, _, rfl, by have := HLT.out; omega, rfl, by rw [hn.out], by rw [hn.out]; exact Lib.hid (rb.out.still s3)⟩
                case measure => have := HLT.out; simp [intOf]; omega
              cases q
              rotate_left
              · have hn := Lib.hid (HSU.out.trans (selStep_not (.inl HG.out)))
                go_wp2_with fail
                refine wp_region_plan (fun W => (Instr.loadAt 52 (.pointer (some ⟨b, off + k * 21, none⟩))).run Try.prog W = .ok (.agg x.cells) W ∧ (Instr.loadAt 25 (.pointer (some ⟨b, off + k * 21 + 4 + 8, none⟩))).run Try.prog W = .ok (.agg x.v.b.cells) W ∧ (Instr.loadAt 25 (.pointer (some ⟨w.heap.size, 0, none⟩))).run Try.prog W = .ok (.agg me.cells) W) (.take 0 (.take 1 (.take 2 (.take 3 (.alt 4 (.take 5 (.take 6 (.take 7 (.take 8 (.take 9 (.take 10 (.take 11 (.take 12 (.take 13 (.take 14 (.take 15 .done))))))))))) .none))))) _
                  (by simp only [Plan.map, opOf, List.getElem?_toArray, List.getElem?_cons_zero, List.getElem?_cons_succ, Option.getD_some]; rfl) (by kernel_rfl) (by kernel_rfl) (by kernel_rfl) (by decide) (by intro c a d v w; cases d <;> exact fun h => h) (K.out _ (Step.refl None wq).drew) ?_
                repeat (first | (refine wpPlan.taken (by rfl) (fun w' hS' => run_load_op rfl rfl hS'.1) ?_; simp only [Act.put, List.setIfInBounds_toArray, List.set_cons_zero, List.set_cons_succ]) | (refine wpPlan.taken (by rfl) (fun w' hS' => run_load_op rfl rfl hS'.2.1) ?_; simp only [Act.put, List.setIfInBounds_toArray, List.set_cons_zero, List.set_cons_succ]) | (refine wpPlan.taken (by rfl) (fun w' hS' => run_load_op rfl rfl hS'.2.2) ?_; simp only [Act.put, List.setIfInBounds_toArray, List.set_cons_zero, List.set_cons_succ]) | (refine wpPlan.taken (by rfl) (by intro w' hS'; (try dsimp only at hS'); go_split_ands; go_simp; try with_reducible rfl) ?_; simp only [Act.put, List.setIfInBounds_toArray, List.set_cons_zero, List.set_cons_succ]) | (refine wpPlan.passed (by rfl) ?_; simp only [Act.put, List.setIfInBounds_toArray, List.set_cons_zero, List.set_cons_succ]))
                refine wpPlan.runs fun K' hK => ?_
                go_simp
                refine (RC.out _).mono ?_
                rintro e W3 ⟨rfl, s3⟩
                have s3 := (Step.refl None wq).drew.then_ s3
                refine hK.out _ _ (K.out _ s3) ?_
                clear hK K'
                repeat (first | (refine wpPlan.taken (by rfl) (fun w' hS' => run_load_op rfl rfl hS'.1) ?_; simp only [Act.put, List.setIfInBounds_toArray, List.set_cons_zero, List.set_cons_succ]) | (refine wpPlan.taken (by rfl) (fun w' hS' => run_load_op rfl rfl hS'.2.1) ?_; simp only [Act.put, List.setIfInBounds_toArray, List.set_cons_zero, List.set_cons_succ]) | (refine wpPlan.taken (by rfl) (fun w' hS' => run_load_op rfl rfl hS'.2.2) ?_; simp only [Act.put, List.setIfInBounds_toArray, List.set_cons_zero, List.set_cons_succ]) | (refine wpPlan.taken (by rfl) (by intro w' hS'; (try dsimp only at hS'); go_split_ands; go_simp; try with_reducible rfl) ?_; simp only [Act.put, List.setIfInBounds_toArray, List.set_cons_zero, List.set_cons_succ]) | (refine wpPlan.passed (by rfl) ?_; simp only [Act.put, List.setIfInBounds_toArray, List.set_cons_zero, List.set_cons_succ]))
                refine wpPlan.done ?_
                go_wp2_with fail
                go_roundw
                case rel => exact ⟨k + 1, _, rfl, by have := HLT.out; omega, rfl, by rw [hn.out], by rw [hn.out]; exact Lib.hid (rb.out.still s3)⟩
                case measure => have := HLT.out; simp [intOf]; omega
              go_wp2_with fail
              refine wp_region_plan (fun W => (Instr.loadAt 52 (.pointer (some ⟨b, off + k * 21, none⟩))).run Try.prog W = .ok (.agg x.cells) W ∧ (Instr.loadAt 25 (.pointer (some ⟨b, off + k * 21 + 4 + 8, none⟩))).run Try.prog W = .ok (.agg x.v.b.cells) W ∧ (Instr.loadAt 25 (.pointer (some ⟨w.heap.size, 0, none⟩))).run Try.prog W = .ok (.agg me.cells) W) (.take 0 (.take 1 (.take 2 (.take 3 (.alt 4 (.take 5 (.take 6 (.take 7 (.take 8 (.take 9 (.take 10 (.take 11 (.take 12 (.take 13 (.take 14 (.take 15 .done))))))))))) .none))))) _
                (by simp only [Plan.map, opOf, List.getElem?_toArray, List.getElem?_cons_zero, List.getElem?_cons_succ, Option.getD_some]; rfl) (by kernel_rfl) (by kernel_rfl) (by kernel_rfl) (by decide) (by intro c a d v w; cases d <;> exact fun h => h) (K.out _ (Step.refl None wq).drew) ?_
              repeat (first | (refine wpPlan.taken (by rfl) (fun w' hS' => run_load_op rfl rfl hS'.1) ?_; simp only [Act.put, List.setIfInBounds_toArray, List.set_cons_zero, List.set_cons_succ]) | (refine wpPlan.taken (by rfl) (fun w' hS' => run_load_op rfl rfl hS'.2.1) ?_; simp only [Act.put, List.setIfInBounds_toArray, List.set_cons_zero, List.set_cons_succ]) | (refine wpPlan.taken (by rfl) (fun w' hS' => run_load_op rfl rfl hS'.2.2) ?_; simp only [Act.put, List.setIfInBounds_toArray, List.set_cons_zero, List.set_cons_succ]) | (refine wpPlan.taken (by rfl) (by intro w' hS'; (try dsimp only at hS'); go_split_ands; go_simp; try with_reducible rfl) ?_; simp only [Act.put, List.setIfInBounds_toArray, List.set_cons_zero, List.set_cons_succ]) | (refine wpPlan.passed (by rfl) ?_; simp only [Act.put, List.setIfInBounds_toArray, List.set_cons_zero, List.set_cons_succ]))
              refine wpPlan.runs fun K' hK => ?_
              go_simp
              refine (RC.out _).mono ?_
              rintro e W3 ⟨rfl, s3⟩
              have s3 := (Step.refl None wq).drew.then_ s3
              refine hK.out _ _ (K.out _ s3) ?_
              clear hK K'
              repeat (first | (refine wpPlan.taken (by rfl) (fun w' hS' => run_load_op rfl rfl hS'.1) ?_; simp only [Act.put, List.setIfInBounds_toArray, List.set_cons_zero, List.set_cons_succ]) | (refine wpPlan.taken (by rfl) (fun w' hS' => run_load_op rfl rfl hS'.2.1) ?_; simp only [Act.put, List.setIfInBounds_toArray, List.set_cons_zero, List.set_cons_succ]) | (refine wpPlan.taken (by rfl) (fun w' hS' => run_load_op rfl rfl hS'.2.2) ?_; simp only [Act.put, List.setIfInBounds_toArray, List.set_cons_zero, List.set_cons_succ]) | (refine wpPlan.taken (by rfl) (by intro w' hS'; (try dsimp only at hS'); go_split_ands; go_simp; try with_reducible rfl) ?_; simp only [Act.put, List.setIfInBounds_toArray, List.set_cons_zero, List.set_cons_succ]) | (refine wpPlan.passed (by rfl) ?_; simp only [Act.put, List.setIfInBounds_toArray, List.set_cons_zero, List.set_cons_succ]))
              refine wpPlan.done ?_
              have RB3 := Lib.hid (rb.out.still s3)
              clear s3 K rb he RC
              obtain ⟨-, b', off', e', hc⟩ := RB3.out.rl.h k x HX.out
              cases e'
              have LW := Lib.hid (load_way hc)
              have hn := laid_new W3 zeroV x.v.cells 27
              unfold zeroV at hn
              obtain ⟨W4, hW4⟩ : ∃ W4, (W3.alloc (.cells #[.int .i64 0, .int .u8 0, .int .u8 0, .int .u8 0, .int .u8 0, .int .u8 0, .int .u8 0, .int .i64 0, .int .i64 0, .int .u8 0, .int .u8 0, .int .u8 0, .int .u8 0, .int .u8 0, .int .u8 0, .int .i64 0, .int .i64 0] 27)).setRow W3.heap.size x.v.cells = W4 := ⟨_, rfl⟩
              rw [hW4] at hn
              have HE4 := Lib.hid hW4
              have c16 := blk_cell hn.1 16
              have f16 := blk_frozen hn.1 16
              simp only [Vec.cells, List.getElem?_toArray, List.getElem?_cons_zero, List.getElem?_cons_succ] at c16
              have b5 := blk_set hn.1 16 (.int .i64 x.port)
              have s5 := hn.2.setCell (p := ⟨W3.heap.size, 16, none⟩) (fun hh => absurd hh (Nat.lt_irrefl _)) (.int .i64 x.port)
              rw [show x.v.cells.setIfInBounds 16 (.int .i64 x.port) = (x.v.own x.port).cells from rfl] at b5
              obtain ⟨W5, hW5⟩ : ∃ W5, W4.setCell ⟨W3.heap.size, 16, none⟩ (.int .i64 x.port) = W5 := ⟨_, rfl⟩
              rw [hW5] at b5 s5
              have HE5 := Lib.hid hW5
              have B5 := Lib.hid b5
              have RB5 := Lib.hid (RB3.out.still s5)
              obtain ⟨-, b', off', e', hc4⟩ := (RB3.out.still hn.2).rl.h k x HX.out
              cases e'
              have p0 := (hcell hc4).1
              have HN := Lib.hid (show w.heap.size ≤ W3.heap.size from RB3.out.rl.st.size)
              have HNB := Lib.hid (show W3.heap.size ≠ B by have := (Array.getElem?_eq_some_iff.1 RB3.out.b).1; omega)
              have HNR := Lib.hid (show w.heap.size + 1 ≠ W3.heap.size by have := (Array.getElem?_eq_some_iff.1 RB3.out.rl.r).1; omega)
              clear hn hW4 hW5 b5 s5 hc hc4
              go_wp2_with (first
                | rw [HE4.out]
                | rw [HE5.out]
                | (refine wpList_load_is 27 (.tmp 110) rfl rfl rfl LW.out ?_)
                | (refine wpList_store_row rfl 27 (.tmp 13) (.tmp 111) rfl W3.heap.size x.v.cells rfl rfl 27 _ (heap_alloc_new W3 _) (by kernel_rfl) rfl (by simp [Vec.cells, Value.oneCell']) ?_))
              generalize W3.heap.size = N at *
              clear HE4 HE5 LW c16 f16 p0 RB3
              have K : Hid (∀ W, Step None W5 W → (fun W => (Instr.loadAt 27 (.pointer (some ⟨N, 0, none⟩))).run Try.prog W = .ok (.agg (x.v.own x.port).cells) W ∧ W.cell? ⟨b, off + k * 21 + 1, none⟩ = some (.int .i64 x.cost) ∧ W.heap[N]? = some (.cells (x.v.own x.port).cells 27 (0, 0))) W) := Lib.hid fun W hW => by
                have q := RB5.out.still hW
                obtain ⟨-, b', off', e, hc⟩ := q.rl.h k x HX.out
                cases e
                have hb := hW.blk B5.out (fun s => s.elim)
                exact ⟨load_block hb rfl, (hcell hc).2.1, hb⟩
              refine wp_region_plan (fun W => (Instr.loadAt 27 (.pointer (some ⟨N, 0, none⟩))).run Try.prog W = .ok (.agg (x.v.own x.port).cells) W ∧ W.cell? ⟨b, off + k * 21 + 1, none⟩ = some (.int .i64 x.cost) ∧ W.heap[N]? = some (.cells (x.v.own x.port).cells 27 (0, 0))) (.take 0 (.take 1 (.take 2 (.take 3 (.take 4 (.take 5 (.alt 6 (.last 7) .none))))))) _
                (by simp only [Plan.map, opOf, List.getElem?_toArray, List.getElem?_cons_zero, List.getElem?_cons_succ, Option.getD_some]; rfl) (by kernel_rfl) (by kernel_rfl) (by kernel_rfl) (by decide) (by intro c a d v w; cases d <;> exact fun h => h) (K.out _ (Step.refl None W5).drew) ?_
              repeat (first | (refine wpPlan.taken (by rfl) (fun w' hS' => run_load_op rfl rfl hS'.1) ?_; simp only [Act.put, List.setIfInBounds_toArray, List.set_cons_zero, List.set_cons_succ]) | (refine wpPlan.taken (by rfl) (by intro w' hS'; (try dsimp only at hS'); go_split_ands; go_simp; try with_reducible rfl) ?_; simp only [Act.put, List.setIfInBounds_toArray, List.set_cons_zero, List.set_cons_succ]) | (refine wpPlan.passed (by rfl) ?_; simp only [Act.put, List.setIfInBounds_toArray, List.set_cons_zero, List.set_cons_succ]))
              refine wpPlan.runs fun K' hK => ?_
              go_simp
              refine (radd_any (x.v.own x.port) x.cost _).mono ?_
              rintro e W6 ⟨rfl, s6⟩
              have s7 := (Step.refl None W5).drew.then_ s6
              refine hK.out _ _ (K.out _ s7) ?_
              clear hK K'
              have RB6 := RB5.out.still s7
              have hb6 := s7.blk B5.out (fun s => s.elim)
              have RB7 := Lib.hid (show Rb w (W6.setRow N x.way.cells) w.heap.size (w.heap.size + 1) B me (some ⟨b, off, none⟩) l (selK me l k).1 from rb_other RB6 hb6 HN.out HNB.out HNR.out HO.out.2)
              have B7 := Lib.hid (setRow_heap W6 N (x.v.own x.port).cells x.way.cells _ _ hb6)
              have HB6 := Lib.hid hb6
              clear s6 s7 hb6 RB6 RB5 B5 K
              refine wpPlan.ends fun K' hK => ?_
              simp only [Act.put]
              rw [if_pos (by rfl)]
              refine wp_store_row 27 (.tmp 13) (.tmp 124) rfl N x.way.cells rfl rfl 27 _ HB6.out (by kernel_rfl) rfl (by simp [Vec.cells, Value.oneCell']) (hK.out _ _ ?_)
              clear hK K' HB6
              generalize W6.setRow N x.way.cells = W7 at *
              have FB : Hid (selK me l k).1.fine := Lib.hid (selK_fine HO.out.1 RB7.out.rl.h k)
              go_wp2_with (first
                | (refine wpList_load_is 27 (.tmp 13) rfl rfl rfl (load_block B7.out rfl) ?_)
                | (refine wpList_load_is 27 (.tmp 10) rfl rfl rfl (load_block RB7.out.b rfl) ?_))
              refine (rvec_compare x.way (selK me l k).1 _ FX.out FB.out).mono ?_
              rintro e w8 ⟨rfl, s8⟩
              have RB8 := Lib.hid (RB7.out.still s8)
              have B8 := Lib.hid (s8.blk B7.out (fun s => s.elim))
              clear s8 RB7 B7
              cases hd : decide (lex x.way.flat (selK me l k).1.flat < 0)
              · have hn := Lib.hid (HSU.out.trans (selStep_not (.inr hd)))
                go_wp2_with fail
                go_roundw
                case rel => exact ⟨k + 1, _, rfl, by have := HLT.out; omega, rfl, by rw [hn.out], by rw [hn.out]; exact RB8⟩
                case measure => have := HLT.out; simp [intOf]; omega
              · have hn := Lib.hid (HSU.out.trans (selStep_yes HG.out hd))
                go_wp2_with (first
                  | (refine wpList_load_is 27 (.tmp 13) rfl rfl rfl (load_block B8.out rfl) ?_)
                  | (refine wpList_store_row rfl 27 (.tmp 10) (.tmp 129) rfl B x.way.cells rfl rfl 27 _ RB8.out.b (by kernel_rfl) rfl (by simp [Vec.cells, Value.oneCell']) ?_))
                go_roundw
                case rel => exact ⟨k + 1, _, rfl, by have := HLT.out; omega, rfl, by rw [hn.out], by rw [hn.out]; exact Lib.hid (RB8.out.better HO.out.2 x.way)⟩
                case measure => have := HLT.out; simp [intOf]; omega
            · have e1 : decide ((k : Int) < (l.length : Int)) = false := by simpa using hlt
              obtain rfl : k = l.length := by omega
              have FB : Hid (selK me l l.length).1.fine := Lib.hid (selK_fine HO.out.1 rb.out.rl.h l.length)
              obtain ⟨⟨bst, root⟩, hq⟩ : ∃ s, selK me l l.length = s := ⟨_, rfl⟩
              rw [hq] at rb R1 R2 FB
              rw [hq]
              dsimp only at rb R1 R2 FB
              dsimp only
              clear hq hlt hk
              go_wp2_with fail
              clear e1
              have NT := Lib.hid (Nt.nil w wq rb.out.rl.st)
              go_loopw [14, 15, 16, 17] (fun o i _ _ wr => ∃ (k : Nat) (W : World), W = wr ∧ k ≤ l.length ∧ i = .int .i64 k ∧ Hid (Rb w wr w.heap.size (w.heap.size + 1) B me ao l bst) ∧ Hid (Nt w wr o (rolesFrom me bst root l k))) (fun _ i _ _ _ => l.length - (intOf i).toNat)
              case atStart => exact ⟨0, _, rfl, Nat.zero_le _, rfl, rb, NT⟩
              case round =>
                obtain ⟨k, wt, rfl, hk, rfl, rb2, nt⟩ := hrel
                clear rb NT
                by_cases hlt : k < l.length
                · obtain ⟨x, hx⟩ : ∃ x, l[k]? = some x := ⟨l[k], List.getElem?_eq_getElem hlt⟩
                  obtain ⟨fx, b, off, rfl, hc⟩ := rb2.out.rl.h k x hx
                  have FX := Lib.hid fx
                  have HX := Lib.hid hx
                  have HLT := Lib.hid hlt
                  have HRS := Lib.hid (show rolesFrom me bst root l (k + 1) = rolesFrom me bst root l k ++ [roleOf me bst root k x] by rw [rolesFrom_succ, show l.getD k default = x by simp [List.getD, hx]])
                  have HLK := Lib.hid (rolesFrom_len me bst root l k)
                  have e1 : decide ((k : Int) < (l.length : Int)) = true := by simpa using hlt
                  have k0 : (0 : Int) ≤ (k : Int) := by omega
                  have k1 : (k : Int) < (l.length : Int) := by omega
                  have hw1 : IntKind.i64.wrap ((k : Int) + 1) = ((k + 1 : Nat) : Int) := by rw [IntWalk.i64_in _ (by have := H64.out; omega)]; omega
                  have LW := Lib.hid (load_way hc)
                  have hn := laid_new wt zeroV x.v.cells 27
                  unfold zeroV at hn
                  obtain ⟨W1, hW1⟩ : ∃ W1, (wt.alloc (.cells #[.int .i64 0, .int .u8 0, .int .u8 0, .int .u8 0, .int .u8 0, .int .u8 0, .int .u8 0, .int .i64 0, .int .i64 0, .int .u8 0, .int .u8 0, .int .u8 0, .int .u8 0, .int .u8 0, .int .u8 0, .int .i64 0, .int .i64 0] 27)).setRow wt.heap.size x.v.cells = W1 := ⟨_, rfl⟩
                  rw [hW1] at hn
                  have HE1 := Lib.hid hW1
                  have c16 := blk_cell hn.1 16
                  have f16 := blk_frozen hn.1 16
                  simp only [Vec.cells, List.getElem?_toArray, List.getElem?_cons_zero, List.getElem?_cons_succ] at c16
                  have b2 := blk_set hn.1 16 (.int .i64 0)
                  have s2 := hn.2.setCell (p := ⟨wt.heap.size, 16, none⟩) (fun hh => absurd hh (Nat.lt_irrefl _)) (.int .i64 0)
                  rw [show x.v.cells.setIfInBounds 16 (.int .i64 0) = (x.v.own 0).cells from rfl] at b2
                  obtain ⟨W2, hW2⟩ : ∃ W2, W1.setCell ⟨wt.heap.size, 16, none⟩ (.int .i64 0) = W2 := ⟨_, rfl⟩
                  rw [hW2] at b2 s2
                  have HE2 := Lib.hid hW2
                  have B2 := Lib.hid b2
                  have RB2 := Lib.hid (rb2.out.still s2)
                  have NT2 := Lib.hid (nt.out.still s2)
                  clear hW1 hW2 hn b2 s2 hc hx fx rb2 nt hlt hk
                  go_wp2_with (first
                    | rw [HE1.out]
                    | rw [HE2.out]
                    | (refine wpList_load_is 27 (.tmp 140) rfl rfl rfl LW.out ?_)
                    | (refine wpList_store_row rfl 27 (.tmp 16) (.tmp 141) rfl wt.heap.size x.v.cells rfl rfl 27 _ (heap_alloc_new wt _) (by kernel_rfl) rfl (by simp [Vec.cells, Value.oneCell']) ?_))
                  generalize wt.heap.size = N at *
                  clear HE1 HE2 LW c16 f16
                  have K : Hid (∀ W, Step None W2 W → (fun W => (Instr.loadAt 52 (.pointer (some ⟨b, off + k * 21, none⟩))).run Try.prog W = .ok (.agg x.cells) W ∧ (Instr.loadAt 27 (.pointer (some ⟨N, 0, none⟩))).run Try.prog W = .ok (.agg (x.v.own 0).cells) W ∧ (Instr.loadAt 25 (.pointer (some ⟨w.heap.size, 0, none⟩))).run Try.prog W = .ok (.agg me.cells) W ∧ (Instr.loadAt 27 (.pointer (some ⟨B, 0, none⟩))).run Try.prog W = .ok (.agg bst.cells) W ∧ W.cell? ⟨b, off + k * 21, none⟩ = some (.int .i64 x.port)) W) := Lib.hid fun W hW => by
                    have q := RB2.out.still hW
                    obtain ⟨-, b', off', e, hc⟩ := q.rl.h k x HX.out
                    cases e
                    exact ⟨load_heard hc, load_block (hW.blk B2.out (fun s => s.elim)) rfl, load_idn q.rl.m, load_block q.b rfl, (hcell hc).1⟩
                  have PU : Hid (∀ W, Step None W2 W → W.cell? ⟨b, off + k * 21 + 2, none⟩ = some (.bool x.up)) := Lib.hid fun W hW => by
                    have q := RB2.out.still hW
                    obtain ⟨-, b', off', e, hc⟩ := q.rl.h k x HX.out
                    cases e
                    exact (hcell hc).2.2.1
                  have he := eq_idn x.v.b me
                  have RC := Lib.hid (rcounts_any x)
                  have HRO := Lib.hid (show roleOf me bst root k x = if x.up = false then 0 else if (k : Int) = root then 1 else if x.has = false ∨ 0 ≤ lex (x.v.own 0).flat (offerV me bst x.port).flat then 2 else if (x.v.b.flat == me.flat) = true then 4 else 3 by simp [roleOf])
                  rw [show x.counts = (x.up && x.has) from rfl] at RC
                  generalize roleOf me bst root k x = ro at *
                  cases hcn : (x.up && x.has)
                  · rw [hcn] at RC
                    refine wp_region_plan (fun W => (Instr.loadAt 52 (.pointer (some ⟨b, off + k * 21, none⟩))).run Try.prog W = .ok (.agg x.cells) W ∧ (Instr.loadAt 27 (.pointer (some ⟨N, 0, none⟩))).run Try.prog W = .ok (.agg (x.v.own 0).cells) W ∧ (Instr.loadAt 25 (.pointer (some ⟨w.heap.size, 0, none⟩))).run Try.prog W = .ok (.agg me.cells) W ∧ (Instr.loadAt 27 (.pointer (some ⟨B, 0, none⟩))).run Try.prog W = .ok (.agg bst.cells) W ∧ W.cell? ⟨b, off + k * 21, none⟩ = some (.int .i64 x.port)) (.take 0 (.take 1 (.take 2 (.take 3 (.alt 4 (.take 5 (.take 6 (.take 7 (.take 8 (.take 9 (.take 10 (.take 11 (.take 12 (.take 13 (.alt 14 (.alt 15 (.take 16 (.take 17 (.take 18 .done))) .none) .none)))))))))) .none))))) _
                      (by simp only [Plan.map, opOf, List.getElem?_toArray, List.getElem?_cons_zero, List.getElem?_cons_succ, Option.getD_some]; rfl) (by kernel_rfl) (by kernel_rfl) (by kernel_rfl) (by decide) (by intro c a d v w; cases d <;> exact fun h => h) (K.out _ (Step.refl None W2).drew) ?_
                    repeat (first | (refine wpPlan.taken (by rfl) (fun w' hS' => run_load_op rfl rfl hS'.1) ?_; simp only [Act.put, List.setIfInBounds_toArray, List.set_cons_zero, List.set_cons_succ]) | (refine wpPlan.taken (by rfl) (fun w' hS' => run_load_op rfl rfl hS'.2.1) ?_; simp only [Act.put, List.setIfInBounds_toArray, List.set_cons_zero, List.set_cons_succ]) | (refine wpPlan.taken (by rfl) (fun w' hS' => run_load_op rfl rfl hS'.2.2.1) ?_; simp only [Act.put, List.setIfInBounds_toArray, List.set_cons_zero, List.set_cons_succ]) | (refine wpPlan.taken (by rfl) (fun w' hS' => run_load_op rfl rfl hS'.2.2.2.1) ?_; simp only [Act.put, List.setIfInBounds_toArray, List.set_cons_zero, List.set_cons_succ]) | (refine wpPlan.taken (by rfl) (by intro w' hS'; (try dsimp only at hS'); go_split_ands; go_simp; try with_reducible rfl) ?_; simp only [Act.put, List.setIfInBounds_toArray, List.set_cons_zero, List.set_cons_succ]) | (refine wpPlan.passed (by rfl) ?_; simp only [Act.put, List.setIfInBounds_toArray, List.set_cons_zero, List.set_cons_succ]))
                    refine wpPlan.runs fun K' hK => ?_
                    go_simp
                    refine (RC.out _).mono ?_
                    rintro e Wx ⟨rfl, s3⟩
                    have S3 := Lib.hid ((Step.refl None W2).drew.then_ s3)
                    refine hK.out _ _ (K.out _ S3.out) ?_
                    clear hK K' s3
                    repeat (first | (refine wpPlan.taken (by rfl) (fun w' hS' => run_load_op rfl rfl hS'.1) ?_; simp only [Act.put, List.setIfInBounds_toArray, List.set_cons_zero, List.set_cons_succ]) | (refine wpPlan.taken (by rfl) (fun w' hS' => run_load_op rfl rfl hS'.2.1) ?_; simp only [Act.put, List.setIfInBounds_toArray, List.set_cons_zero, List.set_cons_succ]) | (refine wpPlan.taken (by rfl) (fun w' hS' => run_load_op rfl rfl hS'.2.2.1) ?_; simp only [Act.put, List.setIfInBounds_toArray, List.set_cons_zero, List.set_cons_succ]) | (refine wpPlan.taken (by rfl) (fun w' hS' => run_load_op rfl rfl hS'.2.2.2.1) ?_; simp only [Act.put, List.setIfInBounds_toArray, List.set_cons_zero, List.set_cons_succ]) | (refine wpPlan.taken (by rfl) (by intro w' hS'; (try dsimp only at hS'); go_split_ands; go_simp; try with_reducible rfl) ?_; simp only [Act.put, List.setIfInBounds_toArray, List.set_cons_zero, List.set_cons_succ]) | (refine wpPlan.passed (by rfl) ?_; simp only [Act.put, List.setIfInBounds_toArray, List.set_cons_zero, List.set_cons_succ]))
                    refine wpPlan.runs fun K' hK => ?_
                    go_simp
                    refine hK.out _ _ (K.out _ S3.out) ?_
                    clear hK K'
                    refine wpPlan.runs fun K' hK => ?_
                    go_simp
                    refine hK.out _ _ (K.out _ S3.out) ?_
                    clear hK K'
                    repeat (first | (refine wpPlan.taken (by rfl) (fun w' hS' => run_load_op rfl rfl hS'.1) ?_; simp only [Act.put, List.setIfInBounds_toArray, List.set_cons_zero, List.set_cons_succ]) | (refine wpPlan.taken (by rfl) (fun w' hS' => run_load_op rfl rfl hS'.2.1) ?_; simp only [Act.put, List.setIfInBounds_toArray, List.set_cons_zero, List.set_cons_succ]) | (refine wpPlan.taken (by rfl) (fun w' hS' => run_load_op rfl rfl hS'.2.2.1) ?_; simp only [Act.put, List.setIfInBounds_toArray, List.set_cons_zero, List.set_cons_succ]) | (refine wpPlan.taken (by rfl) (fun w' hS' => run_load_op rfl rfl hS'.2.2.2.1) ?_; simp only [Act.put, List.setIfInBounds_toArray, List.set_cons_zero, List.set_cons_succ]) | (refine wpPlan.taken (by rfl) (by intro w' hS'; (try dsimp only at hS'); go_split_ands; go_simp; try with_reducible rfl) ?_; simp only [Act.put, List.setIfInBounds_toArray, List.set_cons_zero, List.set_cons_succ]) | (refine wpPlan.passed (by rfl) ?_; simp only [Act.put, List.setIfInBounds_toArray, List.set_cons_zero, List.set_cons_succ]))
                    refine wpPlan.done ?_
                    have p2 := PU.out _ S3.out
                    have RBX := Lib.hid (RB2.out.still S3.out)
                    have NTX := Lib.hid (NT2.out.still S3.out)
                    have LBX : Hid ((Instr.loadAt 25 (.pointer (some ⟨N, 8, none⟩))).run Try.prog Wx = .ok (.agg x.v.b.cells) Wx) := Lib.hid (load_bridgeOf (x := x.v.own 0) (S3.out.blk B2.out (fun s => s.elim)))
                    clear K PU RB2 NT2 S3 B2 RC
                    generalize x.up = up at *
                    generalize x.has = has at *
                    cases up
                    · have hr := Lib.hid (show ro = 0 by rw [HRO.out, if_pos rfl])
                      have sa := (Step.refl None Wx).alloc (.cells #[.int .i64 0] 3)
                      have nt5 := Lib.hid (NTX.out.still sa)
                      have rb5 := Lib.hid (RBX.out.still sa)
                      have ba := Lib.hid (heap_alloc_new Wx (.cells #[.int .i64 0] 3))
                      obtain ⟨WA, hWA⟩ : ∃ WA, Wx.alloc (.cells #[.int .i64 0] 3) = WA := ⟨_, rfl⟩
                      rw [hWA] at nt5 rb5 ba
                      have HA := Lib.hid hWA
                      have hRS := HRS.out
                      rw [hr.out] at hRS
                      have HRX := Lib.hid hRS
                      clear hWA sa hRS
                      go_wp2_with (first
                        | rw [HA.out]
                        | (refine wpList_load_is 25 (.tmp 184) rfl rfl rfl LBX.out ?_)
                        | (refine wpList_load_is 25 (.tmp 2) rfl rfl rfl (load_idn RBX.out.rl.m) ?_)
                        | (at_builtin; refine wpList_append_row (m := 1) T45 rfl (.tmp 171) (.tmp 172) rfl rfl nt5.out.row rfl (src_one ba.out) ?ha ?hb ?_))
                      case ha => rw [HLK.out]; have := H64.out; have := HLT.out; simp [maxLen]; omega
                      case hb => rw [HLK.out]; have := H64.out; have := HLT.out; simp; omega
                      intro v6 W6 r6 s6 l6
                      have nt6 := Lib.hid (Nt.more (x := 0) nt5.out (by simpa using r6) s6 l6)
                      have rb6 := Lib.hid (rb5.out.app nt5.out s6 HO.out.2)
                      clear r6 s6 l6
                      go_wp2_with fail
                      go_roundw
                      case rel => exact ⟨k + 1, _, rfl, by have := HLT.out; omega, rfl, rb6, by rw [HRX.out]; exact nt6⟩
                      case measure => have := HLT.out; simp [intOf]; omega
                    cases has
                    rotate_left
                    · exact absurd hcn (by decide)
                    by_cases hrt : (k : Int) = root
                    · have hr := Lib.hid (show ro = 1 by rw [HRO.out, if_neg (by decide), if_pos hrt])
                      have q1 : ((k : Int) == root) = true := by simpa using hrt
                      clear hrt
                      have sa := (Step.refl None Wx).alloc (.cells #[.int .i64 1] 3)
                      have nt5 := Lib.hid (NTX.out.still sa)
                      have rb5 := Lib.hid (RBX.out.still sa)
                      have ba := Lib.hid (heap_alloc_new Wx (.cells #[.int .i64 1] 3))
                      obtain ⟨WA, hWA⟩ : ∃ WA, Wx.alloc (.cells #[.int .i64 1] 3) = WA := ⟨_, rfl⟩
                      rw [hWA] at nt5 rb5 ba
                      have HA := Lib.hid hWA
                      have hRS := HRS.out
                      rw [hr.out] at hRS
                      have HRX := Lib.hid hRS
                      clear hWA sa hRS
                      go_wp2_with (first
                        | rw [HA.out]
                        | (refine wpList_load_is 25 (.tmp 184) rfl rfl rfl LBX.out ?_)
                        | (refine wpList_load_is 25 (.tmp 2) rfl rfl rfl (load_idn RBX.out.rl.m) ?_)
                        | (at_builtin; refine wpList_append_row (m := 1) T45 rfl (.tmp 178) (.tmp 179) rfl rfl nt5.out.row rfl (src_one ba.out) ?ha ?hb ?_))
                      case ha => rw [HLK.out]; have := H64.out; have := HLT.out; simp [maxLen]; omega
                      case hb => rw [HLK.out]; have := H64.out; have := HLT.out; simp; omega
                      intro v6 W6 r6 s6 l6
                      have nt6 := Lib.hid (Nt.more (x := 1) nt5.out (by simpa using r6) s6 l6)
                      have rb6 := Lib.hid (rb5.out.app nt5.out s6 HO.out.2)
                      clear r6 s6 l6
                      go_wp2_with fail
                      go_roundw
                      case rel => exact ⟨k + 1, _, rfl, by have := HLT.out; omega, rfl, rb6, by rw [HRX.out]; exact nt6⟩
                      case measure => have := HLT.out; simp [intOf]; omega
                    · have hr := Lib.hid (show ro = 2 by rw [HRO.out, if_neg (by decide), if_neg hrt, if_pos (.inl rfl)])
                      have q1 : ((k : Int) == root) = false := by simpa using hrt
                      clear hrt
                      have sa := (Step.refl None Wx).alloc (.cells #[.int .i64 2] 3)
                      have nt5 := Lib.hid (NTX.out.still sa)
                      have rb5 := Lib.hid (RBX.out.still sa)
                      have ba := Lib.hid (heap_alloc_new Wx (.cells #[.int .i64 2] 3))
                      obtain ⟨WA, hWA⟩ : ∃ WA, Wx.alloc (.cells #[.int .i64 2] 3) = WA := ⟨_, rfl⟩
                      rw [hWA] at nt5 rb5 ba
                      have HA := Lib.hid hWA
                      have hRS := HRS.out
                      rw [hr.out] at hRS
                      have HRX := Lib.hid hRS
                      clear hWA sa hRS
                      go_wp2_with (first
                        | rw [HA.out]
                        | (refine wpList_load_is 25 (.tmp 184) rfl rfl rfl LBX.out ?_)
                        | (refine wpList_load_is 25 (.tmp 2) rfl rfl rfl (load_idn RBX.out.rl.m) ?_)
                        | (at_builtin; refine wpList_append_row (m := 1) T45 rfl (.tmp 161) (.tmp 162) rfl rfl nt5.out.row rfl (src_one ba.out) ?ha ?hb ?_))
                      case ha => rw [HLK.out]; have := H64.out; have := HLT.out; simp [maxLen]; omega
                      case hb => rw [HLK.out]; have := H64.out; have := HLT.out; simp; omega
                      intro v6 W6 r6 s6 l6
                      have nt6 := Lib.hid (Nt.more (x := 2) nt5.out (by simpa using r6) s6 l6)
                      have rb6 := Lib.hid (rb5.out.app nt5.out s6 HO.out.2)
                      clear r6 s6 l6
                      go_wp2_with fail
                      go_roundw
                      case rel => exact ⟨k + 1, _, rfl, by have := HLT.out; omega, rfl, rb6, by rw [HRX.out]; exact nt6⟩
                      case measure => have := HLT.out; simp [intOf]; omega
                  rw [hcn] at RC
                  obtain ⟨hup, hhas⟩ : x.up = true ∧ x.has = true := by simpa using hcn
                  rw [hup] at PU
                  rw [hup, hhas, if_neg (by decide)] at HRO
                  clear hcn hup hhas
                  refine wp_region_plan (fun W => (Instr.loadAt 52 (.pointer (some ⟨b, off + k * 21, none⟩))).run Try.prog W = .ok (.agg x.cells) W ∧ (Instr.loadAt 27 (.pointer (some ⟨N, 0, none⟩))).run Try.prog W = .ok (.agg (x.v.own 0).cells) W ∧ (Instr.loadAt 25 (.pointer (some ⟨w.heap.size, 0, none⟩))).run Try.prog W = .ok (.agg me.cells) W ∧ (Instr.loadAt 27 (.pointer (some ⟨B, 0, none⟩))).run Try.prog W = .ok (.agg bst.cells) W ∧ W.cell? ⟨b, off + k * 21, none⟩ = some (.int .i64 x.port)) (.take 0 (.take 1 (.take 2 (.take 3 (.alt 4 (.take 5 (.take 6 (.take 7 (.take 8 (.take 9 (.take 10 (.take 11 (.take 12 (.take 13 (.alt 14 (.alt 15 (.take 16 (.take 17 (.take 18 .done))) .none) .none)))))))))) .none))))) _
                    (by simp only [Plan.map, opOf, List.getElem?_toArray, List.getElem?_cons_zero, List.getElem?_cons_succ, Option.getD_some]; rfl) (by kernel_rfl) (by kernel_rfl) (by kernel_rfl) (by decide) (by intro c a d v w; cases d <;> exact fun h => h) (K.out _ (Step.refl None W2).drew) ?_
                  repeat (first | (refine wpPlan.taken (by rfl) (fun w' hS' => run_load_op rfl rfl hS'.1) ?_; simp only [Act.put, List.setIfInBounds_toArray, List.set_cons_zero, List.set_cons_succ]) | (refine wpPlan.taken (by rfl) (fun w' hS' => run_load_op rfl rfl hS'.2.1) ?_; simp only [Act.put, List.setIfInBounds_toArray, List.set_cons_zero, List.set_cons_succ]) | (refine wpPlan.taken (by rfl) (fun w' hS' => run_load_op rfl rfl hS'.2.2.1) ?_; simp only [Act.put, List.setIfInBounds_toArray, List.set_cons_zero, List.set_cons_succ]) | (refine wpPlan.taken (by rfl) (fun w' hS' => run_load_op rfl rfl hS'.2.2.2.1) ?_; simp only [Act.put, List.setIfInBounds_toArray, List.set_cons_zero, List.set_cons_succ]) | (refine wpPlan.taken (by rfl) (by intro w' hS'; (try dsimp only at hS'); go_split_ands; go_simp; try with_reducible rfl) ?_; simp only [Act.put, List.setIfInBounds_toArray, List.set_cons_zero, List.set_cons_succ]) | (refine wpPlan.passed (by rfl) ?_; simp only [Act.put, List.setIfInBounds_toArray, List.set_cons_zero, List.set_cons_succ]))
                  refine wpPlan.runs fun K' hK => ?_
                  go_simp
                  refine (RC.out _).mono ?_
                  rintro e Wx ⟨rfl, s3⟩
                  have S3 := Lib.hid ((Step.refl None W2).drew.then_ s3)
                  refine hK.out _ _ (K.out _ S3.out) ?_
                  clear hK K' s3
                  repeat (first | (refine wpPlan.taken (by rfl) (fun w' hS' => run_load_op rfl rfl hS'.1) ?_; simp only [Act.put, List.setIfInBounds_toArray, List.set_cons_zero, List.set_cons_succ]) | (refine wpPlan.taken (by rfl) (fun w' hS' => run_load_op rfl rfl hS'.2.1) ?_; simp only [Act.put, List.setIfInBounds_toArray, List.set_cons_zero, List.set_cons_succ]) | (refine wpPlan.taken (by rfl) (fun w' hS' => run_load_op rfl rfl hS'.2.2.1) ?_; simp only [Act.put, List.setIfInBounds_toArray, List.set_cons_zero, List.set_cons_succ]) | (refine wpPlan.taken (by rfl) (fun w' hS' => run_load_op rfl rfl hS'.2.2.2.1) ?_; simp only [Act.put, List.setIfInBounds_toArray, List.set_cons_zero, List.set_cons_succ]) | (refine wpPlan.taken (by rfl) (by intro w' hS'; (try dsimp only at hS'); go_split_ands; go_simp; try with_reducible rfl) ?_; simp only [Act.put, List.setIfInBounds_toArray, List.set_cons_zero, List.set_cons_succ]) | (refine wpPlan.passed (by rfl) ?_; simp only [Act.put, List.setIfInBounds_toArray, List.set_cons_zero, List.set_cons_succ]))
                  refine wpPlan.runs fun K' hK => ?_
                  go_simp
                  refine (roffer_any me bst x.port _).mono ?_
                  rintro e W4 ⟨rfl, s4⟩
                  have S4 := Lib.hid (S3.out.then_ s4)
                  refine hK.out _ _ (K.out _ S4.out) ?_
                  clear hK K' s4 S3
                  refine wpPlan.runs fun K' hK => ?_
                  go_simp
                  refine (rvec_compare (x.v.own 0) (offerV me bst x.port) _ FX.out ⟨FB.out.1, HO.out.1⟩).mono ?_
                  rintro e Wx ⟨rfl, s5⟩
                  have S5 := Lib.hid (S4.out.then_ s5)
                  refine hK.out _ _ (K.out _ S5.out) ?_
                  clear hK K' s5 S4
                  have p2 := PU.out _ S5.out
                  have RBX := Lib.hid (RB2.out.still S5.out)
                  have NTX := Lib.hid (NT2.out.still S5.out)
                  have LBX : Hid ((Instr.loadAt 25 (.pointer (some ⟨N, 8, none⟩))).run Try.prog Wx = .ok (.agg x.v.b.cells) Wx) := Lib.hid (load_bridgeOf (x := x.v.own 0) (S5.out.blk B2.out (fun s => s.elim)))
                  clear K PU RB2 NT2 S5 B2 RC
                  generalize lex (x.v.own 0).flat (offerV me bst x.port).flat = r at *
                  generalize (x.v.b.flat == me.flat) = q at *
                  cases hr0 : decide (r < 0)
                  · repeat (first | (refine wpPlan.taken (by rfl) (fun w' hS' => run_load_op rfl rfl hS'.1) ?_; simp only [Act.put, List.setIfInBounds_toArray, List.set_cons_zero, List.set_cons_succ]) | (refine wpPlan.taken (by rfl) (fun w' hS' => run_load_op rfl rfl hS'.2.1) ?_; simp only [Act.put, List.setIfInBounds_toArray, List.set_cons_zero, List.set_cons_succ]) | (refine wpPlan.taken (by rfl) (fun w' hS' => run_load_op rfl rfl hS'.2.2.1) ?_; simp only [Act.put, List.setIfInBounds_toArray, List.set_cons_zero, List.set_cons_succ]) | (refine wpPlan.taken (by rfl) (fun w' hS' => run_load_op rfl rfl hS'.2.2.2.1) ?_; simp only [Act.put, List.setIfInBounds_toArray, List.set_cons_zero, List.set_cons_succ]) | (refine wpPlan.taken (by rfl) (by intro w' hS'; (try dsimp only at hS'); go_split_ands; go_simp; try with_reducible rfl) ?_; simp only [Act.put, List.setIfInBounds_toArray, List.set_cons_zero, List.set_cons_succ]) | (refine wpPlan.passed (by rfl) ?_; simp only [Act.put, List.setIfInBounds_toArray, List.set_cons_zero, List.set_cons_succ]))
                    refine wpPlan.done ?_
                    by_cases hrt : (k : Int) = root
                    · have hr := Lib.hid (show ro = 1 by rw [HRO.out, if_pos hrt])
                      have q1 : ((k : Int) == root) = true := by simpa using hrt
                      clear hrt
                      have sa := (Step.refl None Wx).alloc (.cells #[.int .i64 1] 3)
                      have nt5 := Lib.hid (NTX.out.still sa)
                      have rb5 := Lib.hid (RBX.out.still sa)
                      have ba := Lib.hid (heap_alloc_new Wx (.cells #[.int .i64 1] 3))
                      obtain ⟨WA, hWA⟩ : ∃ WA, Wx.alloc (.cells #[.int .i64 1] 3) = WA := ⟨_, rfl⟩
                      rw [hWA] at nt5 rb5 ba
                      have HA := Lib.hid hWA
                      have hRS := HRS.out
                      rw [hr.out] at hRS
                      have HRX := Lib.hid hRS
                      clear hWA sa hRS
                      go_wp2_with (first
                        | rw [HA.out]
                        | (refine wpList_load_is 25 (.tmp 184) rfl rfl rfl LBX.out ?_)
                        | (refine wpList_load_is 25 (.tmp 2) rfl rfl rfl (load_idn RBX.out.rl.m) ?_)
                        | (at_builtin; refine wpList_append_row (m := 1) T45 rfl (.tmp 178) (.tmp 179) rfl rfl nt5.out.row rfl (src_one ba.out) ?ha ?hb ?_))
                      case ha => rw [HLK.out]; have := H64.out; have := HLT.out; simp [maxLen]; omega
                      case hb => rw [HLK.out]; have := H64.out; have := HLT.out; simp; omega
                      intro v6 W6 r6 s6 l6
                      have nt6 := Lib.hid (Nt.more (x := 1) nt5.out (by simpa using r6) s6 l6)
                      have rb6 := Lib.hid (rb5.out.app nt5.out s6 HO.out.2)
                      clear r6 s6 l6
                      go_wp2_with fail
                      go_roundw
                      case rel => exact ⟨k + 1, _, rfl, by have := HLT.out; omega, rfl, rb6, by rw [HRX.out]; exact nt6⟩
                      case measure => have := HLT.out; simp [intOf]; omega
                    · have hr := Lib.hid (show ro = 2 by rw [HRO.out, if_neg hrt, if_pos (.inr (by simp at hr0; omega))])
                      have q1 : ((k : Int) == root) = false := by simpa using hrt
                      clear hrt
                      have sa := (Step.refl None Wx).alloc (.cells #[.int .i64 2] 3)
                      have nt5 := Lib.hid (NTX.out.still sa)
                      have rb5 := Lib.hid (RBX.out.still sa)
                      have ba := Lib.hid (heap_alloc_new Wx (.cells #[.int .i64 2] 3))
                      obtain ⟨WA, hWA⟩ : ∃ WA, Wx.alloc (.cells #[.int .i64 2] 3) = WA := ⟨_, rfl⟩
                      rw [hWA] at nt5 rb5 ba
                      have HA := Lib.hid hWA
                      have hRS := HRS.out
                      rw [hr.out] at hRS
                      have HRX := Lib.hid hRS
                      clear hWA sa hRS
                      go_wp2_with (first
                        | rw [HA.out]
                        | (refine wpList_load_is 25 (.tmp 184) rfl rfl rfl LBX.out ?_)
                        | (refine wpList_load_is 25 (.tmp 2) rfl rfl rfl (load_idn RBX.out.rl.m) ?_)
                        | (at_builtin; refine wpList_append_row (m := 1) T45 rfl (.tmp 161) (.tmp 162) rfl rfl nt5.out.row rfl (src_one ba.out) ?ha ?hb ?_))
                      case ha => rw [HLK.out]; have := H64.out; have := HLT.out; simp [maxLen]; omega
                      case hb => rw [HLK.out]; have := H64.out; have := HLT.out; simp; omega
                      intro v6 W6 r6 s6 l6
                      have nt6 := Lib.hid (Nt.more (x := 2) nt5.out (by simpa using r6) s6 l6)
                      have rb6 := Lib.hid (rb5.out.app nt5.out s6 HO.out.2)
                      clear r6 s6 l6
                      go_wp2_with fail
                      go_roundw
                      case rel => exact ⟨k + 1, _, rfl, by have := HLT.out; omega, rfl, rb6, by rw [HRX.out]; exact nt6⟩
                      case measure => have := HLT.out; simp [intOf]; omega
                  · repeat (first | (refine wpPlan.taken (by rfl) (fun w' hS' => run_load_op rfl rfl hS'.1) ?_; simp only [Act.put, List.setIfInBounds_toArray, List.set_cons_zero, List.set_cons_succ]) | (refine wpPlan.taken (by rfl) (fun w' hS' => run_load_op rfl rfl hS'.2.1) ?_; simp only [Act.put, List.setIfInBounds_toArray, List.set_cons_zero, List.set_cons_succ]) | (refine wpPlan.taken (by rfl) (fun w' hS' => run_load_op rfl rfl hS'.2.2.1) ?_; simp only [Act.put, List.setIfInBounds_toArray, List.set_cons_zero, List.set_cons_succ]) | (refine wpPlan.taken (by rfl) (fun w' hS' => run_load_op rfl rfl hS'.2.2.2.1) ?_; simp only [Act.put, List.setIfInBounds_toArray, List.set_cons_zero, List.set_cons_succ]) | (refine wpPlan.taken (by rfl) (by intro w' hS'; (try dsimp only at hS'); go_split_ands; go_simp; try with_reducible rfl) ?_; simp only [Act.put, List.setIfInBounds_toArray, List.set_cons_zero, List.set_cons_succ]) | (refine wpPlan.passed (by rfl) ?_; simp only [Act.put, List.setIfInBounds_toArray, List.set_cons_zero, List.set_cons_succ]))
                    refine wpPlan.done ?_
                    by_cases hrt : (k : Int) = root
                    · have hr := Lib.hid (show ro = 1 by rw [HRO.out, if_pos hrt])
                      have q1 : ((k : Int) == root) = true := by simpa using hrt
                      clear hrt
                      have sa := (Step.refl None Wx).alloc (.cells #[.int .i64 1] 3)
                      have nt5 := Lib.hid (NTX.out.still sa)
                      have rb5 := Lib.hid (RBX.out.still sa)
                      have ba := Lib.hid (heap_alloc_new Wx (.cells #[.int .i64 1] 3))
                      obtain ⟨WA, hWA⟩ : ∃ WA, Wx.alloc (.cells #[.int .i64 1] 3) = WA := ⟨_, rfl⟩
                      rw [hWA] at nt5 rb5 ba
                      have HA := Lib.hid hWA
                      have hRS := HRS.out
                      rw [hr.out] at hRS
                      have HRX := Lib.hid hRS
                      clear hWA sa hRS
                      go_wp2_with (first
                        | rw [HA.out]
                        | (refine wpList_load_is 25 (.tmp 184) rfl rfl rfl LBX.out ?_)
                        | (refine wpList_load_is 25 (.tmp 2) rfl rfl rfl (load_idn RBX.out.rl.m) ?_)
                        | (at_builtin; refine wpList_append_row (m := 1) T45 rfl (.tmp 178) (.tmp 179) rfl rfl nt5.out.row rfl (src_one ba.out) ?ha ?hb ?_))
                      case ha => rw [HLK.out]; have := H64.out; have := HLT.out; simp [maxLen]; omega
                      case hb => rw [HLK.out]; have := H64.out; have := HLT.out; simp; omega
                      intro v6 W6 r6 s6 l6
                      have nt6 := Lib.hid (Nt.more (x := 1) nt5.out (by simpa using r6) s6 l6)
                      have rb6 := Lib.hid (rb5.out.app nt5.out s6 HO.out.2)
                      clear r6 s6 l6
                      go_wp2_with fail
                      go_roundw
                      case rel => exact ⟨k + 1, _, rfl, by have := HLT.out; omega, rfl, rb6, by rw [HRX.out]; exact nt6⟩
                      case measure => have := HLT.out; simp [intOf]; omega
                    · have q1 : ((k : Int) == root) = false := by simpa using hrt
                      have HR2 := Lib.hid (HRO.out.trans ((if_neg hrt).trans (if_neg (by simp at hr0; intro hh; rcases hh with hh | hh; exact absurd hh (by decide); omega))))
                      clear hrt
                      cases q
                      · have hr := Lib.hid (show ro = 3 by rw [HR2.out]; rfl)
                        have sa := (Step.refl None Wx).alloc (.cells #[.int .i64 3] 3)
                        have nt5 := Lib.hid (NTX.out.still sa)
                        have rb5 := Lib.hid (RBX.out.still sa)
                        have ba := Lib.hid (heap_alloc_new Wx (.cells #[.int .i64 3] 3))
                        obtain ⟨WA, hWA⟩ : ∃ WA, Wx.alloc (.cells #[.int .i64 3] 3) = WA := ⟨_, rfl⟩
                        rw [hWA] at nt5 rb5 ba
                        have HA := Lib.hid hWA
                        have hRS := HRS.out
                        rw [hr.out] at hRS
                        have HRX := Lib.hid hRS
                        clear hWA sa hRS
                        go_wp2_with (first
                          | rw [HA.out]
                          | (refine wpList_load_is 25 (.tmp 184) rfl rfl rfl LBX.out ?_)
                          | (refine wpList_load_is 25 (.tmp 2) rfl rfl rfl (load_idn RBX.out.rl.m) ?_)
                          | (at_builtin; refine wpList_append_row (m := 1) T45 rfl (.tmp 194) (.tmp 195) rfl rfl nt5.out.row rfl (src_one ba.out) ?ha ?hb ?_))
                        case ha => rw [HLK.out]; have := H64.out; have := HLT.out; simp [maxLen]; omega
                        case hb => rw [HLK.out]; have := H64.out; have := HLT.out; simp; omega
                        intro v6 W6 r6 s6 l6
                        have nt6 := Lib.hid (Nt.more (x := 3) nt5.out (by simpa using r6) s6 l6)
                        have rb6 := Lib.hid (rb5.out.app nt5.out s6 HO.out.2)
                        clear r6 s6 l6
                        go_wp2_with fail
                        go_roundw
                        case rel => exact ⟨k + 1, _, rfl, by have := HLT.out; omega, rfl, rb6, by rw [HRX.out]; exact nt6⟩
                        case measure => have := HLT.out; simp [intOf]; omega
                      · have hr := Lib.hid (show ro = 4 by rw [HR2.out]; rfl)
                        have sa := (Step.refl None Wx).alloc (.cells #[.int .i64 4] 3)
                        have nt5 := Lib.hid (NTX.out.still sa)
                        have rb5 := Lib.hid (RBX.out.still sa)
                        have ba := Lib.hid (heap_alloc_new Wx (.cells #[.int .i64 4] 3))
                        obtain ⟨WA, hWA⟩ : ∃ WA, Wx.alloc (.cells #[.int .i64 4] 3) = WA := ⟨_, rfl⟩
                        rw [hWA] at nt5 rb5 ba
                        have HA := Lib.hid hWA
                        have hRS := HRS.out
                        rw [hr.out] at hRS
                        have HRX := Lib.hid hRS
                        clear hWA sa hRS
                        go_wp2_with (first
                          | rw [HA.out]
                          | (refine wpList_load_is 25 (.tmp 184) rfl rfl rfl LBX.out ?_)
                          | (refine wpList_load_is 25 (.tmp 2) rfl rfl rfl (load_idn RBX.out.rl.m) ?_)
                          | (at_builtin; refine wpList_append_row (m := 1) T45 rfl (.tmp 189) (.tmp 190) rfl rfl nt5.out.row rfl (src_one ba.out) ?ha ?hb ?_))
                        case ha => rw [HLK.out]; have := H64.out; have := HLT.out; simp [maxLen]; omega
                        case hb => rw [HLK.out]; have := H64.out; have := HLT.out; simp; omega
                        intro v6 W6 r6 s6 l6
                        have nt6 := Lib.hid (Nt.more (x := 4) nt5.out (by simpa using r6) s6 l6)
                        have rb6 := Lib.hid (rb5.out.app nt5.out s6 HO.out.2)
                        clear r6 s6 l6
                        go_wp2_with fail
                        go_roundw
                        case rel => exact ⟨k + 1, _, rfl, by have := HLT.out; omega, rfl, rb6, by rw [HRX.out]; exact nt6⟩
                        case measure => have := HLT.out; simp [intOf]; omega
                · have e1 : decide ((k : Int) < (l.length : Int)) = false := by simpa using hlt
                  obtain rfl : k = l.length := by omega
                  obtain ⟨ao2, cap2, rfl, ints⟩ := nt.out.form
                  have II := Lib.hid (ints.row rb2.out.rl.r (by decide) bst.cells)
                  have SS := Lib.hid (step_setRow rb2.out.rl.st (g := w.heap.size + 1) (fun h => by have := rb2.out.rl.nR; omega) bst.cells)
                  clear hlt hk ints
                  go_wp2_with (first
                    | (refine wpList_load_is 27 (.tmp 10) rfl rfl rfl (load_block rb2.out.b rfl) ?_)
                    | (refine wpList_store_row rfl 27 (.tmp 4) (.tmp 197) rfl (w.heap.size + 1) bst.cells rfl rfl 27 _ rb2.out.rl.r (by kernel_rfl) rfl (by simp [Vec.cells, Value.oneCell']) ?_))
                  (try simp only [Exit.inBlock, Exit.then])
                  refine bodyPost_ret (results_cell_row3 (P := Try.prog) (fn := Try.f28) rfl _ _ (w.heap.size + 1) 27 bst.cells (0, 0) _ rfl (setRow_heap _ _ _ _ _ _ rb2.out.rl.r) Try.underlying27 rfl (by kernel_rfl)) rfl ?_
                  refine ⟨SS.out, ao2, cap2, ?_, ?_⟩
                  · rw [R1.out, R2.out, R3.out]; rfl
                  · rw [R2.out]; exact II.out
end Go.Proofs.Ytehlaomippbehaa
