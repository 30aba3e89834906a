/- RolesRoot, walked. -/
import Derived.Test.YtehlaomippbehaaR8
namespace Go.Proofs.Ytehlaomippbehaa
open Go.RowKit Go.Gm

theorem load_rootIn {w : World} {b o : Nat} {x : Hrd} (h : ∀ j u, x.cells[j]? = some u → w.cell? ⟨b, o + j, none⟩ = some u) : (Instr.loadAt 25 (.pointer (some ⟨b, o + 4, none⟩))).run Try.prog w = .ok (.agg x.v.r.cells) w := by
  have := run_loadAt_mid (P := Try.prog) w b (o + 4) 25 x.v.r.cells.toList _ (fun j u hj => by
    rw [Nat.add_assoc]
    refine h (4 + j) u ?_
    match j, hj with
    | 0, hj => exact hj
    | 1, hj => exact hj
    | 2, hj => exact hj
    | 3, hj => exact hj
    | 4, hj => exact hj
    | 5, hj => exact hj
    | 6, hj => exact hj
    | j + 7, hj => simp [Idn.cells] at hj) Try.underlying25 rfl (by kernel_rfl)
  simpa using this
theorem load_bridgeIn {w : World} {b o : Nat} {x : Hrd} (h : ∀ j u, x.cells[j]? = some u → w.cell? ⟨b, o + j, none⟩ = some u) : (Instr.loadAt 25 (.pointer (some ⟨b, o + 4 + 8, none⟩))).run Try.prog w = .ok (.agg x.v.b.cells) w := by
  have := run_loadAt_mid (P := Try.prog) w b (o + 4 + 8) 25 x.v.b.cells.toList _ (fun j u hj => by
    rw [show o + 4 + 8 + j = o + (12 + j) by omega]
    refine h (12 + j) u ?_
    match j, hj with
    | 0, hj => exact hj
    | 1, hj => exact hj
    | 2, hj => exact hj
    | 3, hj => exact hj
    | 4, hj => exact hj
    | 5, hj => exact hj
    | 6, hj => exact hj
    | j + 7, hj => simp [Idn.cells] at hj) Try.underlying25 rfl (by kernel_rfl)
  simpa using this

set_option maxRecDepth 100000 in
set_option maxHeartbeats 8000000 in
theorem rolesRoot_walk (v0 v1 : Value) (w : World) (h0 : Arg w (.cat 1 (.int .i64) (.cat 6 (.arr 6 1 (.int .u8)) .nil)) v0) (h1 : Arg w (.slice 21 80 (.cat 1 (.int .i64) (.cat 1 (.int .i64) (.cat 1 .bool (.cat 1 .bool (.cat 17 (.cat 7 (.cat 1 (.int .i64) (.cat 6 (.arr 6 1 (.int .u8)) .nil)) (.cat 1 (.int .i64) (.cat 7 (.cat 1 (.int .i64) (.cat 6 (.arr 6 1 (.int .u8)) .nil)) (.cat 1 (.int .i64) (.cat 1 (.int .i64) .nil))))) .nil)))))) v1) :
    Calls Try.prog 11 #[v0, v1] w fun e w' => e = .returned (.bool true) ∧ Below w.heap.size w w' := by
  obtain ⟨me, rfl, hme⟩ := arg_idn h0
  obtain ⟨ao, cap, l, rfl, hh, hp, hl⟩ := arg_hears h1
  clear h0 h1
  have b1 := heap_alloc_new w (.cells me.cells 25)
  have s1 := (Step.refl None w).alloc (.cells me.cells 25)
  have HH0 := hh.still s1
  obtain ⟨W, hW⟩ : ∃ W, w.alloc (.cells me.cells 25) = W := ⟨_, rfl⟩
  rw [hW] at b1 s1 HH0
  have HE := Lib.hid hW
  have B1 := Lib.hid b1
  have S1 := Lib.hid s1
  have HH := Lib.hid HH0
  have F := Lib.hid (And.intro hme (And.intro hp hl))
  have e5 := rolesOf_len me l
  clear hW b1 s1 HH0 hh hme hp hl
  go_enter Try.func11, Try.ntmps11
  go_wp2_with (first
    | rw [HE.out])
  refine (rawake_any _).mono ?_
  rintro e w2 ⟨rfl, s2⟩
  have S2 := Lib.hid (S1.out.then_ s2)
  have B2 := Lib.hid (s2.blk B1.out (fun s => s.elim))
  have HH2 := Lib.hid (HH.out.still s2)
  clear s2 S1 B1 HH HE
  go_wp2_with (first
    | (refine wpList_load_is 25 (.tmp 2) rfl rfl rfl (load_idn B2.out) ?_))
  refine (select_any me ao cap l w2 F.out.1 F.out.2.1 (by have := F.out.2.2; omega) HH2.out).mono ?_
  rintro e w3 ⟨s3, ao2, cap2, rfl, ints⟩
  have S3 := Lib.hid (S2.out.then_ s3)
  have B3 := Lib.hid (s3.blk B2.out (fun s => s.elim))
  have HH3 := Lib.hid (HH2.out.still s3)
  have hn := laid_new w3 zeroV (bestOf me l).cells 27
  unfold zeroV at hn
  obtain ⟨W4, hW4⟩ : ∃ W4, (w3.alloc (.cells #[.int .i64 0, .int .u8 0, .int .u8 0, .int .u8 0, .int .u8 0, .int .u8 0, .int .u8 0, .int .i64 0, .int .i64 0, .int .u8 0, .int .u8 0, .int .u8 0, .int .u8 0, .int .u8 0, .int .u8 0, .int .i64 0, .int .i64 0] 27)).setRow w3.heap.size (bestOf me l).cells = W4 := ⟨_, rfl⟩
  rw [hW4] at hn
  have HE4 := Lib.hid hW4
  have N4 := Lib.hid hn.1
  have S4 := Lib.hid (S3.out.then_ hn.2)
  have B4 := Lib.hid (hn.2.blk B3.out (fun s => s.elim))
  have HH4 := Lib.hid (HH3.out.still hn.2)
  have I4 := Lib.hid (ints.still hn.2)
  clear s3 ints hn hW4 S2 B2 HH2 S3 B3 HH3
  cases hf : (fairOf l == 0)
  · have hz : ¬ fairOf l = 0 := by simpa using hf
    rw [if_neg hz] at e5
    have hne : (fairOf l != 0) = true := by simp [bne, hf]
    rw [e5]
    generalize fairOf l = f at *
    clear hz I4
    go_wp2_with (first
      | rw [HE4.out]
      | (refine wpList_store_row rfl 27 (.tmp 6) (.tmp 17) rfl w3.heap.size (bestOf me l).cells rfl rfl 27 _ (heap_alloc_new w3 _) (by kernel_rfl) rfl (by simp [Vec.cells, Value.oneCell']) ?_))
    go_ret
    exact ⟨rfl, S4.out.toBelow⟩
  have hz : fairOf l = 0 := by simpa using hf
  have RL := Lib.hid (root_law F.out.1 HH4.out hz)
  rw [hz]
  clear hf hz e5
  generalize bestOf me l = B at *
  generalize rolesOf me l = xs at *
  have hlen := RL.out.len
  have HQ : Hid (Small me.mac ∧ l.length ≤ 140737488351232) := Lib.hid ⟨F.out.1, F.out.2.2⟩
  clear F
  go_wp2_with (first
    | rw [HE4.out]
    | (refine wpList_store_row rfl 27 (.tmp 6) (.tmp 17) rfl w3.heap.size B.cells rfl rfl 27 _ (heap_alloc_new w3 _) (by kernel_rfl) rfl (by simp [Vec.cells, Value.oneCell']) ?_))
  generalize w3.heap.size = N at *
  go_loopw [9, 10] (fun n i wr => ∃ (k : Nat) (W : World), W = wr ∧ k ≤ l.length ∧ i = .int .i64 k ∧ n = .int .i64 (rootsIn xs k) ∧ Hid (Step None W4 wr)) (fun _ i _ => l.length - (intOf i).toNat)
  case atStart => exact ⟨0, _, rfl, Nat.zero_le _, rfl, rfl, Lib.hid (Step.refl _ _)⟩
  case round =>
    obtain ⟨k, wr, rfl, hk, rfl, rfl, hs⟩ := hrel
    by_cases hlt : k < l.length
    · have e1 : decide ((k : Int) < (l.length : Int)) = true := by simpa using hlt
      have k0 : (0 : Int) ≤ (k : Int) := by omega
      have k1 : (k : Int) < (l.length : Int) := by omega
      have hw1 : IntKind.i64.wrap ((k : Int) + 1) = ((k + 1 : Nat) : Int) := by rw [IntWalk.i64_in _ (by have := HQ.out.2; omega)]; omega
      obtain ⟨x, hx⟩ : ∃ x, l[k]? = some x := ⟨l[k], List.getElem?_eq_getElem hlt⟩
      obtain ⟨r, hr⟩ : ∃ r, xs[k]? = some r := ⟨xs[k]'(by omega), List.getElem?_eq_getElem (by omega)⟩
      obtain ⟨q, qo, e2, cq⟩ := (I4.out.still hs.out).cell hr
      subst e2
      have HSU := Lib.hid (rootsIn_succ hr)
      cases hr1 : (r == 1)
      · have hr2 : (r != 1) = true := by simp [bne, hr1]
        have hn : Hid (rootsIn xs (k + 1) = rootsIn xs k) := Lib.hid (by rw [HSU.out, hr1]; rfl)
        clear hr hx HSU
        go_wp2_with fail
        go_roundw
        case rel => exact ⟨k + 1, _, rfl, by omega, rfl, by rw [hn.out], hs⟩
        case measure => simp [intOf]; omega
      · have hr2 : (r != 1) = false := by simp [bne, hr1]
        have er : r = 1 := by simpa using hr1
        have hn : Hid (rootsIn xs (k + 1) = rootsIn xs k + 1) := Lib.hid (by rw [HSU.out, hr1]; rfl)
        have hle := rootsIn_le xs k
        have hw2 : IntKind.i64.wrap ((rootsIn xs k : Int) + 1) = ((rootsIn xs k + 1 : Nat) : Int) := by rw [IntWalk.i64_in _ (by have := HQ.out.2; omega)]; omega
        obtain ⟨u1, u2, u3, u4, u5⟩ := RL.out.is k x hx (by rw [hr, er])
        obtain ⟨-, b, off, e3, hc⟩ := (HH4.out.still hs.out) k x hx
        subst e3
        have nb := hs.out.blk N4.out (fun s => s.elim)
        have c16 := blk_cell nb 16
        simp only [Vec.cells, List.getElem?_toArray, List.getElem?_cons_zero, List.getElem?_cons_succ] at c16
        have lr := load_rootOf nb
        have lb := load_bridgeOf nb
        rw [u4] at lr
        rw [u5] at lb
        rw [u3] at c16
        obtain ⟨p0, p1, p2, p3⟩ := hcell hc
        rw [u1] at p2
        rw [u2] at p3
        have K : Hid (∀ w', Step None wr w' → (Instr.loadAt 25 (.pointer (some ⟨N, 0, none⟩))).run Try.prog w' = .ok (.agg x.v.r.cells) w' ∧ (Instr.loadAt 25 (.pointer (some ⟨N, 8, none⟩))).run Try.prog w' = .ok (.agg x.v.b.cells) w' ∧ (Instr.loadAt 25 (.pointer (some ⟨b, off + k * 21 + 4, none⟩))).run Try.prog w' = .ok (.agg x.v.r.cells) w' ∧ (Instr.loadAt 25 (.pointer (some ⟨b, off + k * 21 + 4 + 8, none⟩))).run Try.prog w' = .ok (.agg x.v.b.cells) w' ∧ w'.cell? ⟨N, 16, none⟩ = some (.int .i64 x.port) ∧ w'.cell? ⟨b, off + k * 21, none⟩ = some (.int .i64 x.port) ∧ w'.cell? ⟨b, off + k * 21 + 2, none⟩ = some (.bool true) ∧ w'.cell? ⟨b, off + k * 21 + 3, none⟩ = some (.bool true)) := Lib.hid fun w' h' => by
          obtain ⟨-, b', off', e3, hc'⟩ := ((HH4.out.still hs.out).still h') k x hx
          cases e3
          have nb' := h'.blk nb (fun s => s.elim)
          have lr' := load_rootOf nb'
          have lb' := load_bridgeOf nb'
          rw [u4] at lr'
          rw [u5] at lb'
          exact ⟨lr', lb', load_rootIn hc', load_bridgeIn hc', (h'.cell (World.block_lt_of_cell? _ _ c16) (fun s => s.elim)).trans c16, (h'.cell (World.block_lt_of_cell? _ _ p0) (fun s => s.elim)).trans p0, (h'.cell (World.block_lt_of_cell? _ _ p2) (fun s => s.elim)).trans p2, (h'.cell (World.block_lt_of_cell? _ _ p3) (fun s => s.elim)).trans p3⟩
        have he1 := eq_idn x.v.r x.v.r
        have he2 := eq_idn x.v.b x.v.b
        simp only [BEq.rfl] at he1 he2
        clear hr hx HSU u1 u2 u3 u4 u5 hc nb lr lb c16 p0 p1 p2 p3 er
        go_wp2_with fail
        refine wp_region_plan (fun w' => (Instr.loadAt 25 (.pointer (some ⟨N, 0, none⟩))).run Try.prog w' = .ok (.agg x.v.r.cells) w' ∧ (Instr.loadAt 25 (.pointer (some ⟨N, 8, none⟩))).run Try.prog w' = .ok (.agg x.v.b.cells) w' ∧ (Instr.loadAt 25 (.pointer (some ⟨b, off + k * 21 + 4, none⟩))).run Try.prog w' = .ok (.agg x.v.r.cells) w' ∧ (Instr.loadAt 25 (.pointer (some ⟨b, off + k * 21 + 4 + 8, none⟩))).run Try.prog w' = .ok (.agg x.v.b.cells) w' ∧ w'.cell? ⟨N, 16, none⟩ = some (.int .i64 x.port) ∧ w'.cell? ⟨b, off + k * 21, none⟩ = some (.int .i64 x.port) ∧ w'.cell? ⟨b, off + k * 21 + 2, none⟩ = some (.bool true) ∧ w'.cell? ⟨b, off + k * 21 + 3, none⟩ = some (.bool true)) (.take 0 (.take 1 (.take 2 (.take 3 (.take 4 (.take 5 (.take 6 (.take 7 (.take 8 (.take 9 (.take 10 (.take 11 (.take 12 (.take 13 (.take 14 (.take 15 (.take 16 (.take 17 (.take 18 (.take 19 (.take 20 (.take 21 (.take 22 (.take 23 (.take 24 (.take 25 (.take 26 (.take 27 (.take 28 (.take 29 (.take 30 (.take 31 (.take 32 (.take 33 (.take 34 (.take 35 (.take 36 (.take 37 (.take 38 (.take 39 (.take 40 (.take 41 (.take 42 (.take 43 (.take 44 (.take 45 .done)))))))))))))))))))))))))))))))))))))))))))))) _
          (by simp only [Plan.map, opOf, List.getElem?_toArray, List.getElem?_cons_zero, List.getElem?_cons_succ, Option.getD_some]; rfl) (by kernel_rfl) (by kernel_rfl) (by kernel_rfl) (by decide) (by intro c a d v w; cases d <;> exact fun h => h) (K.out _ (Step.refl None wr).drew) ?_
        repeat (first | (refine wpPlan.taken (by rfl) (fun w' hS' => run_load_op rfl rfl hS'.1) ?_; simp only [Act.put, List.setIfInBounds_toArray, List.set_cons_zero, List.set_cons_succ]) | (refine wpPlan.taken (by rfl) (fun w' hS' => run_load_op rfl rfl hS'.2.1) ?_; simp only [Act.put, List.setIfInBounds_toArray, List.set_cons_zero, List.set_cons_succ]) | (refine wpPlan.taken (by rfl) (fun w' hS' => run_load_op rfl rfl hS'.2.2.1) ?_; simp only [Act.put, List.setIfInBounds_toArray, List.set_cons_zero, List.set_cons_succ]) | (refine wpPlan.taken (by rfl) (fun w' hS' => run_load_op rfl rfl hS'.2.2.2.1) ?_; simp only [Act.put, List.setIfInBounds_toArray, List.set_cons_zero, List.set_cons_succ]) | (refine wpPlan.taken (by rfl) (by intro w' hS'; (try dsimp only at hS'); go_split_ands; go_simp; try with_reducible rfl) ?_; simp only [Act.put, List.setIfInBounds_toArray, List.set_cons_zero, List.set_cons_succ]) | (refine wpPlan.passed (by rfl) ?_; simp only [Act.put, List.setIfInBounds_toArray, List.set_cons_zero, List.set_cons_succ]))
        refine wpPlan.done ?_
        go_wp2_with fail
        go_roundw
        case rel => exact ⟨k + 1, _, rfl, by omega, rfl, by rw [hn.out]; rfl, Lib.hid hs.out.drew⟩
        case measure => simp [intOf]; omega
    · have e1 : decide ((k : Int) < (l.length : Int)) = false := by simpa using hlt
      obtain rfl : k = l.length := by omega
      have m1 := RL.out.most
      have m2 := RL.out.none
      have m3 := RL.out.le
      rw [hlen] at m1 m2
      have m4 : decide (((rootsIn xs l.length : Nat) : Int) ≤ 1) = true := by simp; omega
      have m5 : decide (rootsIn xs l.length ≤ 1) = true := by simp; omega
      have S5 := Lib.hid (S4.out.then_ hs.out)
      have N5 := Lib.hid (hs.out.blk N4.out (fun s => s.elim))
      have B5 := Lib.hid (hs.out.blk B4.out (fun s => s.elim))
      have RC := Lib.hid (rid_compare B.r me wr RL.out.fine.1 HQ.out.1)
      have m6 : decide (lex B.r.flat me.flat ≤ 0) = true := by simpa using m3
      have he : ∀ w, (Op.equalIn 10000 27 (.agg B.cells) (.agg #[.int .i64 me.p, .int .u8 me.m0, .int .u8 me.m1, .int .u8 me.m2, .int .u8 me.m3, .int .u8 me.m4, .int .u8 me.m5, .int .i64 0, .int .i64 me.p, .int .u8 me.m0, .int .u8 me.m1, .int .u8 me.m2, .int .u8 me.m3, .int .u8 me.m4, .int .u8 me.m5, .int .i64 0, .int .i64 0])).run Try.prog w = .ok (B.flat == (meV me).flat) w := fun w => eq_vec B (meV me) w
      rw [← m2] at he
      have lm := load_idn B5.out
      unfold Idn.cells at lm
      have LM := Lib.hid lm
      clear m1 m2 m3 lm
      generalize lex B.r.flat me.flat = lx at *
      generalize rootsIn xs l.length = cnt at *
      go_wp2_with (first
        | (refine wpList_load_is 27 (.tmp 6) rfl rfl rfl (load_block N5.out rfl) ?_)
        | (refine wpList_load_is 25 (.tmp 2) rfl rfl rfl LM.out ?_)
        | (refine wpList_load_is 25 (.tmp 112) rfl rfl rfl (load_rootOf N5.out) ?_))
      refine RC.out.mono ?_
      rintro e w6 ⟨rfl, s6⟩
      have S6 := Lib.hid (S5.out.then_ s6)
      clear s6
      go_wp2_with fail
      go_ret
      exact ⟨rfl, S6.out.toBelow⟩
end Go.Proofs.Ytehlaomippbehaa
