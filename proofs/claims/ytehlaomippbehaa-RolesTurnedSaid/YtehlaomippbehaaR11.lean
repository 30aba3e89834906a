/- RolesTurned, walked. -/
import Derived.Test.YtehlaomippbehaaRB
namespace Go.Proofs.Ytehlaomippbehaa
open Go.RowKit Go.Gm

theorem take_reverse {l : List Hrd} {k m : Nat} {x : Hrd} (h : m + k + 1 = l.length) (hx : l[m]? = some x) : l.reverse.take (k + 1) = l.reverse.take k ++ [x] := by
  rw [List.take_add_one, List.getElem?_reverse (by omega), show l.length - 1 - k = m by omega, hx]
  rfl

set_option maxRecDepth 100000 in
set_option maxHeartbeats 8000000 in
theorem rolesTurned_walk (v0 v1 : Value) (w : World) (h0 : Arg w (.cat 1 (.int .i64) (.cat 6 (.arr 6 1 (.int .u8)) .nil)) v0) (h1 : Arg w (.slice 21 80 (.cat 1 (.int .i64) (.cat 1 (.int .i64) (.cat 1 .bool (.cat 1 .bool (.cat 17 (.cat 7 (.cat 1 (.int .i64) (.cat 6 (.arr 6 1 (.int .u8)) .nil)) (.cat 1 (.int .i64) (.cat 7 (.cat 1 (.int .i64) (.cat 6 (.arr 6 1 (.int .u8)) .nil)) (.cat 1 (.int .i64) (.cat 1 (.int .i64) .nil))))) .nil)))))) v1) :
    Calls Try.prog 14 #[v0, v1] w fun e w' => e = .returned (.bool true) ∧ Below w.heap.size w w' := by
  obtain ⟨me, rfl, hme⟩ := arg_idn h0
  obtain ⟨ao, cap, l, rfl, hh, hp, hl⟩ := arg_hears h1
  clear h0 h1
  have b1 := heap_alloc_new w (.cells me.cells 25)
  have s1 := (Step.refl None w).alloc (.cells me.cells 25)
  have HH0 := hh.still s1
  obtain ⟨W, hW⟩ : ∃ W, w.alloc (.cells me.cells 25) = W := ⟨_, rfl⟩
  rw [hW] at b1 s1 HH0
  have HE := Lib.hid hW
  have B1 := Lib.hid b1
  have S1 := Lib.hid s1
  have HH := Lib.hid HH0
  have F := Lib.hid (And.intro hme hp)
  have OLD : Hid (∀ b off, l ≠ [] → ao = some ⟨b, off, none⟩ → b < w.heap.size) := Lib.hid fun b off hne e => hears_old hh hne e
  clear hW b1 s1 HH0 hh hme hp
  go_enter Try.func14, Try.ntmps14
  go_wp2_with (first
    | rw [HE.out])
  refine (rawake_any _).mono ?_
  rintro e w2 ⟨rfl, s2⟩
  have S2 := Lib.hid (S1.out.then_ s2)
  have B2 := Lib.hid (s2.blk B1.out (fun s => s.elim))
  have HH2 := Lib.hid (HH.out.still s2)
  clear s2 S1 B1 HH HE
  by_cases h64 : l.length ≤ 64
  rotate_left
  · have d1 : decide ((64 : Int) < (l.length : Int)) = true := by simp; omega
    have d2 : decide (64 < l.length) = true := by simp; omega
    clear h64
    go_wp2_with fail
    go_ret
    exact ⟨rfl, S2.out.toBelow⟩
  have d1 : decide ((64 : Int) < (l.length : Int)) = false := by simp; omega
  have d2 : decide (64 < l.length) = false := by simp; omega
  have H64 := Lib.hid h64
  obtain ⟨z0, hz0⟩ : ∃ z : Int, (l.length : Int) - 1 = z := ⟨_, rfl⟩
  have hw0 : IntKind.i64.wrap ((l.length : Int) - 1) = z0 := by rw [IntWalk.i64_in _ (by omega)]; exact hz0
  have hw0' : wrap64 ((l.length : Int) - 1) = z0 := by rw [IntWalk.wrap64_in _ ⟨by omega, by omega⟩]; exact hz0
  have HZ0 := Lib.hid hz0
  clear h64 hz0 hl
  go_wp2_with fail
  have HW0 := Lib.hid hw0'
  clear hw0 hw0' d1 d2
  go_loopw [6, 7] (fun v i wr => ∃ (k : Nat) (z : Int) (W : World), W = wr ∧ k ≤ l.length ∧ i = .int .i64 z ∧ Hid (z = (l.length : Int) - 1 - k) ∧ Hid (Lst w wr v (l.reverse.take k)) ∧ Hid (Hears wr ao l) ∧ Hid (wr.heap[w.heap.size]? = some (.cells me.cells 25 (0, 0)))) (fun _ i _ => (intOf i + 1).toNat)
  case atStart => exact ⟨0, z0, _, rfl, Nat.zero_le _, by first | rfl | rw [HW0.out], Lib.hid (by rw [← HZ0.out]; simp), Lib.hid (by rw [List.take_zero]; exact Lst.nil w w2 S2.out), HH2, B2⟩
  case round =>
    obtain ⟨k, z, wr, rfl, hk, rfl, hz, ls, hh, bm⟩ := hrel
    obtain ⟨D, hD⟩ : ∃ D, l.reverse.take k = D := ⟨_, rfl⟩
    rw [hD] at ls
    have HD := Lib.hid hD
    clear hD
    obtain ⟨ao1, cap1, ev, hh1⟩ := ls.out.form
    subst ev
    rcases Nat.lt_or_eq_of_le hk with hlt | rfl
    · obtain ⟨m, hm⟩ : ∃ m : Nat, z = m := ⟨z.toNat, by have := hz.out; omega⟩
      subst hm
      have hmk : m + k + 1 = l.length := by have := hz.out; omega
      have e1 : decide ((0 : Int) ≤ (m : Int)) = true := by simp
      have k0 : (0 : Int) ≤ (m : Int) := by omega
      have k1 : (m : Int) < (l.length : Int) := by omega
      have k2 : decide ((m : Int) < (l.length : Int)) = true := by simp; omega
      have k3 : m < l.length := by omega
      obtain ⟨z2, hz2⟩ : ∃ z : Int, (m : Int) - 1 = z := ⟨_, rfl⟩
      have hw1 : IntKind.i64.wrap ((m : Int) - 1) = z2 := by rw [IntWalk.i64_in _ (by have := H64.out; omega)]; exact hz2
      have hw2 : wrap64 ((m : Int) - 1) = z2 := by rw [IntWalk.wrap64_in _ ⟨by omega, by have := H64.out; omega⟩]; exact hz2
      have HZ := Lib.hid hz2
      obtain ⟨x, hx⟩ : ∃ x, l[m]? = some x := ⟨l[m]'(by omega), List.getElem?_eq_getElem (by omega)⟩
      obtain ⟨fx, b, off, e3, hc⟩ := hh.out m x hx
      subst e3
      have L := load_heard hc
      unfold Hrd.cells at L
      have LH := Lib.hid L
      have HT := Lib.hid (take_reverse hmk hx)
      rw [HD.out] at HT
      have FX := Lib.hid fx
      have HM := Lib.hid (And.intro hmk hlt)
      have hl2 : D.length = k := by rw [← HD.out]; simp; omega
      have sa := (Step.refl None wr).alloc (.cells x.cells 52)
      have ls5 := Lib.hid (ls.out.still sa)
      have hh5 := Lib.hid (hh.out.still sa)
      have bm5 := Lib.hid (sa.blk bm.out (fun s => s.elim))
      have ba := Lib.hid (heap_alloc_new wr (.cells x.cells 52))
      obtain ⟨WA, hWA⟩ : ∃ WA, wr.alloc (.cells x.cells 52) = WA := ⟨_, rfl⟩
      rw [hWA] at ls5 hh5 bm5 ba
      unfold Hrd.cells at hWA
      have HA := Lib.hid hWA
      have HL2 := Lib.hid hl2
      clear hc hx fx L hz2 hl2 hWA sa hmk hlt hk hh1 ls hh bm e1
      have e1 : decide ((0 : Int) ≤ (m : Int)) = true := by simp
      go_wp2_with (first
        | rw [HA.out]
        | (refine wpList_load_is 52 (.tmp 34) rfl rfl rfl LH.out ?_)
        | (at_builtin; refine wpList_append_row (m := 1) T44 rfl (.tmp 31) (.tmp 36) rfl rfl ls5.out.row rfl (src_hrd ba.out) ?ha ?hb ?_))
      case ha => rw [HL2.out]; have := H64.out; have := HM.out; simp [maxLen]; omega
      case hb => rw [HL2.out]; have := H64.out; have := HM.out; simp; omega
      intro v6 W6 r6 s6 l6
      have ls6 := Lib.hid (Lst.more (x := x) ls5.out FX.out (by simpa using r6) s6 l6)
      have bm6 := Lib.hid (ls5.out.blk s6 bm5.out (by decide))
      have hh6 := Lib.hid (hears_app hh5.out ls5.out s6 OLD.out)
      go_wp2_with fail
      go_roundw
      case rel => exact ⟨k + 1, z2, _, rfl, by have := HM.out; omega, rfl, Lib.hid (by have := HZ.out; have := HM.out; omega), by rw [HT.out]; exact ls6, hh6, bm6⟩
      case measure => have := HZ.out; simp [intOf]; omega
    · have hDr : D = l.reverse := by rw [← HD.out, List.take_of_length_le (by simp)]
      subst hDr
      have e1 : decide ((0 : Int) ≤ z) = false := by have := hz.out; simp; omega
      have lm := load_idn bm.out
      unfold Idn.cells at lm
      have LM := Lib.hid lm
      clear lm HD OLD
      go_wp2_with (first
        | (refine wpList_load_is 25 (.tmp 2) rfl rfl rfl LM.out ?_))
      refine (select_any me ao cap l wr F.out.1 F.out.2 (by have := H64.out; omega) hh.out).mono ?_
      rintro e w3 ⟨s3, ao2, cap2, rfl, i2⟩
      have hn := laid_new w3 zeroV (bestOf me l).cells 27
      unfold zeroV at hn
      obtain ⟨W4, hW4⟩ : ∃ W4, (w3.alloc (.cells #[.int .i64 0, .int .u8 0, .int .u8 0, .int .u8 0, .int .u8 0, .int .u8 0, .int .u8 0, .int .i64 0, .int .i64 0, .int .u8 0, .int .u8 0, .int .u8 0, .int .u8 0, .int .u8 0, .int .u8 0, .int .i64 0, .int .i64 0] 27)).setRow w3.heap.size (bestOf me l).cells = W4 := ⟨_, rfl⟩
      rw [hW4] at hn
      have HE4 := Lib.hid hW4
      have ls4 := Lib.hid ((ls.out.still s3).still hn.2)
      have N4 := Lib.hid hn.1
      have I4 := Lib.hid (i2.still hn.2)
      have bm4 := hn.2.blk (s3.blk bm.out (fun s => s.elim)) (fun s => s.elim)
      have lm := load_idn bm4
      unfold Idn.cells at lm
      have LM4 := Lib.hid lm
      clear lm bm4 hn hW4 i2 s3 ls hh bm LM hh1
      obtain ⟨ao1', cap1', ev, hh4⟩ := ls4.out.form
      simp only [Value.slice.injEq, true_and] at ev
      obtain ⟨rfl, rfl⟩ := ev
      have P4 := Lib.hid (And.intro hh4 (show ∀ x ∈ l.reverse, (Lit.int .i64 x.port).wf = true from fun x hx => F.out.2 x (by simpa using hx)))
      have HF1 := Lib.hid (fairOf_reverse l)
      have HF2 := Lib.hid (bestOf_reverse me l)
      have HF3 := Lib.hid (rolesOf_reverse me l)
      have HF4 : Hid ((rolesOf me l.reverse).length = (rolesOf me l).length) := Lib.hid (by rw [rolesOf_len, rolesOf_len, fairOf_reverse, List.length_reverse])
      have HF5 : Hid ((rolesOf me l).length ≤ 64) := Lib.hid (by have := H64.out; rw [rolesOf_len]; split <;> omega)
      have ST4 := Lib.hid ls4.out.st
      have HLR : Hid (l.reverse.length ≤ 9223372036854775807) := Lib.hid (by have := H64.out; simp; omega)
      have HLL : Hid (l.reverse.length = l.length) := Lib.hid (by simp)
      clear hh4 ls4
      generalize l.reverse = lr at *
      generalize hq1 : rolesOf me l = xs at *
      generalize hq2 : bestOf me l = B at *
      generalize hq3 : fairOf l = f at *
      clear hq1 hq2 hq3
      go_wp2_with (first
        | rw [HE4.out]
        | (refine wpList_load_is 25 (.tmp 2) rfl rfl rfl LM4.out ?_)
        | (refine wpList_store_row rfl 27 (.tmp 8) (.tmp 42) rfl w3.heap.size B.cells rfl rfl 27 _ (heap_alloc_new w3 _) (by kernel_rfl) rfl (by simp [Vec.cells, Value.oneCell']) ?_))
      have SEL := Lib.hid (select_any me ao1 cap1 lr W4 F.out.1 P4.out.2 HLR.out P4.out.1)
      rw [HLL.out] at SEL
      refine SEL.out.mono ?_
      rintro e w5 ⟨s5, ao3, cap3, rfl, i3⟩
      rw [HF1.out, HF2.out, HF4.out]
      have hn := laid_new w5 zeroV B.cells 27
      unfold zeroV at hn
      obtain ⟨W6, hW6⟩ : ∃ W6, (w5.alloc (.cells #[.int .i64 0, .int .u8 0, .int .u8 0, .int .u8 0, .int .u8 0, .int .u8 0, .int .u8 0, .int .i64 0, .int .i64 0, .int .u8 0, .int .u8 0, .int .u8 0, .int .u8 0, .int .u8 0, .int .u8 0, .int .i64 0, .int .i64 0] 27)).setRow w5.heap.size B.cells = W6 := ⟨_, rfl⟩
      rw [hW6] at hn
      have HE6 := Lib.hid hW6
      have N6 := Lib.hid hn.1
      have N5 := Lib.hid (hn.2.blk (s5.blk N4.out (fun s => s.elim)) (fun s => s.elim))
      have I6 := Lib.hid (i3.still hn.2)
      have I5 := Lib.hid ((I4.out.still s5).still hn.2)
      have ST6 := Lib.hid ((ST4.out.then_ s5).then_ hn.2)
      clear hn hW6 i3 s5 I4 LM4 P4 HF1 HF2 HF4 ST4 N4
      generalize hq1 : rolesOf me lr = ys at *
      clear hq1
      have he := eq_vec B B
      simp only [BEq.rfl] at he
      go_wp2_with (first
        | rw [HE6.out]
        | (refine wpList_load_is 27 (.tmp 8) rfl rfl rfl (load_block N5.out rfl) ?_)
        | (refine wpList_load_is 27 (.tmp 11) rfl rfl rfl (load_block N6.out rfl) ?_)
        | (refine wpList_store_row rfl 27 (.tmp 11) (.tmp 49) rfl w5.heap.size B.cells rfl rfl 27 _ (heap_alloc_new w5 _) (by kernel_rfl) rfl (by simp [Vec.cells, Value.oneCell']) ?_))
      clear HE4 HE6 N5 N6 he
      go_loopw [14] (fun i wr => ∃ (k : Nat) (W : World), W = wr ∧ k ≤ xs.length ∧ i = .int .i64 k ∧ Hid (Step None W6 wr)) (fun i _ => xs.length - (intOf i).toNat)
      case atStart => exact ⟨0, _, rfl, Nat.zero_le _, rfl, Lib.hid (Step.refl _ _)⟩
      case round =>
        obtain ⟨k, wq, rfl, hk, rfl, hs⟩ := hrel
        by_cases hlt : k < xs.length
        · have e1 : decide ((k : Int) < (xs.length : Int)) = true := by simpa using hlt
          obtain ⟨m, hm⟩ : ∃ m : Nat, xs.length - 1 - k = m := ⟨_, rfl⟩
          obtain ⟨r, hr⟩ : ∃ r, xs[k]? = some r := ⟨xs[k], List.getElem?_eq_getElem hlt⟩
          have hr2 : ys[m]? = some r := by rw [← hr, ← hm]; exact HF3.out k hlt
          obtain ⟨q, qo, e2, cq⟩ := (I5.out.still (hs.out.drew)).cell hr
          obtain ⟨q3, qo3, e3, cq3⟩ := (I6.out.still (hs.out.drew)).cell hr2
          have h5 := HF5.out
          have k0 : (0 : Int) ≤ (k : Int) := by omega
          have k1 : (k : Int) < (xs.length : Int) := by omega
          have k2 : (0 : Int) ≤ (m : Int) := by omega
          have k3 : (m : Int) < (xs.length : Int) := by omega
          have k4 : m < xs.length := by omega
          have k5 : decide ((m : Int) < (xs.length : Int)) = true := by simp; omega
          have hw1 : IntKind.i64.wrap ((k : Int) + 1) = ((k + 1 : Nat) : Int) := by rw [IntWalk.i64_in _ (by omega)]; omega
          have hwa : IntKind.i64.wrap ((xs.length : Int) - 1) = (xs.length : Int) - 1 := IntWalk.i64_in _ (by omega)
          have hwb : IntKind.i64.wrap ((xs.length : Int) - 1 - (k : Int)) = (m : Int) := by rw [IntWalk.i64_in _ (by omega)]; omega
          subst e2 e3
          have HWA := Lib.hid (And.intro hwa hwb)
          have HLT := Lib.hid hlt
          clear hr hr2 hm h5 hlt hwa hwb
          go_wp2_with fail
          refine wp_region_plan (fun w' => w'.cell? ⟨q, qo + k, none⟩ = some (.int .i64 r) ∧ w'.cell? ⟨q3, qo3 + m, none⟩ = some (.int .i64 r)) (.take 0 (.take 1 (.take 2 (.take 3 (.take 4 (.take 5 (.take 6 (.take 7 (.take 8 (.take 9 (.take 10 (.take 11 (.take 12 .done))))))))))))) _
            (by simp only [Plan.map, opOf, List.getElem?_toArray, List.getElem?_cons_zero, List.getElem?_cons_succ, Option.getD_some]; rfl) (by kernel_rfl) (by kernel_rfl) (by kernel_rfl) (by decide) (by intro c a d v w; cases d <;> exact fun h => h) ⟨cq, cq3⟩ ?_
          iterate 7 (refine wpPlan.taken (by rfl) (by intro w' hS'; (try dsimp only at hS'); go_split_ands; go_simp; try with_reducible rfl) ?_; simp only [Act.put, List.setIfInBounds_toArray, List.set_cons_zero, List.set_cons_succ])
          refine wpPlan.taken (v := .int .i64 ((xs.length : Int) - 1)) (by rfl) (by intro w' hS'; go_simp; exact HWA.out.1) ?_
          simp only [Act.put, List.setIfInBounds_toArray, List.set_cons_zero, List.set_cons_succ]
          (refine wpPlan.taken (by rfl) (by intro w' hS'; (try dsimp only at hS'); go_split_ands; go_simp; try with_reducible rfl) ?_; simp only [Act.put, List.setIfInBounds_toArray, List.set_cons_zero, List.set_cons_succ])
          refine wpPlan.taken (v := .int .i64 (m : Int)) (by rfl) (by intro w' hS'; go_simp; exact HWA.out.2) ?_
          simp only [Act.put, List.setIfInBounds_toArray, List.set_cons_zero, List.set_cons_succ]
          repeat (refine wpPlan.taken (by rfl) (by intro w' hS'; (try dsimp only at hS'); go_split_ands; go_simp; try with_reducible rfl) ?_; simp only [Act.put, List.setIfInBounds_toArray, List.set_cons_zero, List.set_cons_succ])
          refine wpPlan.done ?_
          go_wp2_with fail
          go_roundw
          case rel => exact ⟨k + 1, _, rfl, by have := HLT.out; omega, rfl, Lib.hid hs.out.drew⟩
          case measure => have := HLT.out; simp [intOf]; omega
        · have e1 : decide ((k : Int) < (xs.length : Int)) = false := by simpa using hlt
          obtain rfl : k = xs.length := by omega
          go_wp2_with fail
          go_ret
          exact ⟨rfl, (ST6.out.then_ hs.out).toBelow⟩
end Go.Proofs.Ytehlaomippbehaa
