/- RolesSelects, walked. -/
import Derived.Test.YtehlaomippbehaaR15
namespace Go.Proofs.Ytehlaomippbehaa
open Go.RowKit Go.Gm

set_option maxHeartbeats 2000000 in
theorem same_ints (a1 a2 : Option Addr) (c1 c2 : Nat) (xs : List Int) (w : World) (h1 : Ints w a1 xs) (h2 : Ints w a2 xs) (hl : xs.length ≤ 9223372036854775806) :
    Calls Try.prog 29 #[.slice a1 xs.length c1, .slice a2 xs.length c2] w fun e w' => e = .returned (.bool true) ∧ Step None w w' := by
  have H1 := Lib.hid h1
  have H2 := Lib.hid h2
  have HL := Lib.hid hl
  clear h1 h2 hl
  go_enter Try.func29, Try.ntmps29
  go_wp2_with fail
  go_loopw [5] (fun i wr => ∃ (k : Nat) (W : World), W = wr ∧ k ≤ xs.length ∧ i = .int .i64 k ∧ Hid (Step None w wr)) (fun i _ => xs.length - (intOf i).toNat)
  case atStart => exact ⟨0, _, rfl, Nat.zero_le _, rfl, Lib.hid (Step.refl None w)⟩
  case round =>
    obtain ⟨k, wr, rfl, hk, rfl, st⟩ := hrel
    by_cases hlt : k < xs.length
    · obtain ⟨x, hx⟩ : ∃ x, xs[k]? = some x := ⟨xs[k], List.getElem?_eq_getElem hlt⟩
      obtain ⟨b1, o1, rfl, -⟩ := (H1.out.still st.out).cell hx
      obtain ⟨b2, o2, rfl, -⟩ := (H2.out.still st.out).cell hx
      have K : Hid (∀ W, Step None wr W → (fun W => W.cell? ⟨b1, o1 + k, none⟩ = some (.int .i64 x) ∧ W.cell? ⟨b2, o2 + k, none⟩ = some (.int .i64 x)) W) := Lib.hid fun W hW => by
        obtain ⟨_, _, e, q1⟩ := (H1.out.still (st.out.then_ hW)).cell hx
        cases e
        obtain ⟨_, _, e, q2⟩ := (H2.out.still (st.out.then_ hW)).cell hx
        cases e
        exact ⟨q1, q2⟩
      have e1 : decide ((k : Int) < (xs.length : Int)) = true := by simpa using hlt
      have e2 : decide (k < xs.length) = true := by simpa using hlt
      have k0 : (0 : Int) ≤ (k : Int) := by omega
      have k1 : (k : Int) < (xs.length : Int) := by omega
      have hw1 : IntKind.i64.wrap ((k : Int) + 1) = ((k + 1 : Nat) : Int) := by rw [IntWalk.i64_in _ (by have := HL.out; omega)]; omega
      have HX := Lib.hid hlt
      have st2 := Lib.hid (st.out.then_ (Step.refl None wr).drew)
      clear hx hlt hk
      go_wp2_with fail
      refine wp_region_plan (fun W => W.cell? ⟨b1, o1 + k, none⟩ = some (.int .i64 x) ∧ W.cell? ⟨b2, o2 + k, none⟩ = some (.int .i64 x)) (.take 0 (.take 1 (.take 2 (.take 3 (.take 4 (.take 5 (.take 6 (.take 7 (.take 8 .done))))))))) _
        (by simp only [Plan.map, opOf, List.getElem?_toArray, List.getElem?_cons_zero, List.getElem?_cons_succ, Option.getD_some]; rfl) (by kernel_rfl) (by kernel_rfl) (by kernel_rfl) (by decide) (by intro c a d v w; cases d <;> exact fun h => h) (K.out _ (Step.refl None wr).drew) ?_
      repeat (first | (refine wpPlan.taken (by rfl) (by intro w' hS'; (try dsimp only at hS'); go_split_ands; go_simp; try with_reducible rfl) ?_; simp only [Act.put, List.setIfInBounds_toArray, List.set_cons_zero, List.set_cons_succ]) | (refine wpPlan.passed (by rfl) ?_; simp only [Act.put, List.setIfInBounds_toArray, List.set_cons_zero, List.set_cons_succ]))
      refine wpPlan.done ?_
      go_wp2_with fail
      go_roundw
      case rel => exact ⟨k + 1, _, rfl, by have := HX.out; omega, rfl, st2⟩
      case measure => have := HX.out; simp [intOf]; omega
    · have e1 : decide ((k : Int) < (xs.length : Int)) = false := by simpa using hlt
      have e2 : decide (k < xs.length) = false := by simpa using hlt
      clear hlt hk
      go_wp2_with fail
      go_ret
      exact ⟨rfl, st.out⟩

set_option maxRecDepth 100000 in
set_option maxHeartbeats 8000000 in
theorem rolesSelects_walk (v0 v1 : Value) (w : World) (h0 : Arg w (.cat 1 (.int .i64) (.cat 6 (.arr 6 1 (.int .u8)) .nil)) v0) (h1 : Arg w (.slice 21 80 (.cat 1 (.int .i64) (.cat 1 (.int .i64) (.cat 1 .bool (.cat 1 .bool (.cat 17 (.cat 7 (.cat 1 (.int .i64) (.cat 6 (.arr 6 1 (.int .u8)) .nil)) (.cat 1 (.int .i64) (.cat 7 (.cat 1 (.int .i64) (.cat 6 (.arr 6 1 (.int .u8)) .nil)) (.cat 1 (.int .i64) (.cat 1 (.int .i64) .nil))))) .nil)))))) v1) :
    Calls Try.prog 9 #[v0, v1] w fun e w' => e = .returned (.bool true) ∧ Below w.heap.size w w' := by
  obtain ⟨me, rfl, hme⟩ := arg_idn h0
  obtain ⟨ao, cap, l, rfl, hh, hp, hl⟩ := arg_hears h1
  clear h0 h1
  have b1 := heap_alloc_new w (.cells me.cells 25)
  have s1 := (Step.refl None w).alloc (.cells me.cells 25)
  have HH0 := hh.still s1
  obtain ⟨W, hW⟩ : ∃ W, w.alloc (.cells me.cells 25) = W := ⟨_, rfl⟩
  rw [hW] at b1 s1 HH0
  have HE := Lib.hid hW
  have B1 := Lib.hid b1
  have S1 := Lib.hid s1
  have HH := Lib.hid HH0
  have F := Lib.hid (And.intro hme (And.intro hp hl))
  have RL := Lib.hid (rolesOf_len me l)
  clear hW b1 s1 HH0 hh hme hp hl
  go_enter Try.func9, Try.ntmps9
  go_wp2_with (first
    | rw [HE.out])
  refine (rawake_any _).mono ?_
  rintro e w2 ⟨rfl, s2⟩
  have S2 := Lib.hid (S1.out.then_ s2)
  have B2 := Lib.hid (s2.blk B1.out (fun s => s.elim))
  have HH2 := Lib.hid (HH.out.still s2)
  clear s2 S1 B1 HH HE
  go_wp2_with (first
    | (refine wpList_load_is 25 (.tmp 2) rfl rfl rfl (load_idn B2.out) ?_))
  refine (select_any me ao cap l w2 F.out.1 F.out.2.1 (by have := F.out.2.2; omega) HH2.out).mono ?_
  rintro e w3 ⟨s3, ao2, cap2, rfl, ints⟩
  have hn := laid_new w3 zeroV (bestOf me l).cells 27
  unfold zeroV at hn
  obtain ⟨W4, hW4⟩ : ∃ W4, (w3.alloc (.cells #[.int .i64 0, .int .u8 0, .int .u8 0, .int .u8 0, .int .u8 0, .int .u8 0, .int .u8 0, .int .i64 0, .int .i64 0, .int .u8 0, .int .u8 0, .int .u8 0, .int .u8 0, .int .u8 0, .int .u8 0, .int .i64 0, .int .i64 0] 27)).setRow w3.heap.size (bestOf me l).cells = W4 := ⟨_, rfl⟩
  rw [hW4] at hn
  have HE4 := Lib.hid hW4
  have N4 := Lib.hid hn.1
  have S4 := Lib.hid ((S2.out.then_ s3).then_ hn.2)
  have B4 := Lib.hid (hn.2.blk (s3.blk B2.out (fun s => s.elim)) (fun s => s.elim))
  have HH4 := Lib.hid ((HH2.out.still s3).still hn.2)
  have I4 := Lib.hid (ints.still hn.2)
  have RS := Lib.hid (rselect_any me ao cap l W4 F.out.1 (by have := F.out.2.2; omega) HH4.out)
  have RL2 : Hid ((rolesOf me l).length ≤ 9223372036854775806) := Lib.hid (by
    rw [RL.out]
    split
    · rename_i h; have := (fairOf_zero h).1; omega
    · omega)
  clear s3 ints hn hW4 S2 B2 HH2 F RL
  generalize bestOf me l = B at *
  generalize rolesOf me l = xs at *
  generalize fairOf l = f at *
  go_wp2_with (first
    | rw [HE4.out]
    | (refine wpList_store_row rfl 27 (.tmp 6) (.tmp 18) rfl w3.heap.size B.cells rfl rfl 27 _ (heap_alloc_new w3 _) (by kernel_rfl) rfl (by simp [Vec.cells, Value.oneCell']) ?_)
    | (refine wpList_load_is 25 (.tmp 2) rfl rfl rfl (load_idn B4.out) ?_))
  generalize w3.heap.size = N at *
  clear HE4
  refine RS.out.mono ?_
  rintro e w5 ⟨s5, ao3, cap3, rfl, ints⟩
  have hn := laid_new w5 zeroV B.cells 27
  unfold zeroV at hn
  obtain ⟨W6, hW6⟩ : ∃ W6, (w5.alloc (.cells #[.int .i64 0, .int .u8 0, .int .u8 0, .int .u8 0, .int .u8 0, .int .u8 0, .int .u8 0, .int .i64 0, .int .i64 0, .int .u8 0, .int .u8 0, .int .u8 0, .int .u8 0, .int .u8 0, .int .u8 0, .int .i64 0, .int .i64 0] 27)).setRow w5.heap.size B.cells = W6 := ⟨_, rfl⟩
  rw [hW6] at hn
  have HE6 := Lib.hid hW6
  have N6 := Lib.hid hn.1
  have N4' := Lib.hid (hn.2.blk (s5.blk N4.out (fun s => s.elim)) (fun s => s.elim))
  have S6x := Lib.hid ((S4.out.then_ s5).then_ hn.2)
  have I6 := Lib.hid (ints.still hn.2)
  have I4' := Lib.hid ((I4.out.still s5).still hn.2)
  clear s5 ints hn hW6 RS I4 N4 B4 S4 HH4
  go_wp2_with (first
    | rw [HE6.out]
    | (refine wpList_store_row rfl 27 (.tmp 9) (.tmp 25) rfl w5.heap.size B.cells rfl rfl 27 _ (heap_alloc_new w5 _) (by kernel_rfl) rfl (by simp [Vec.cells, Value.oneCell']) ?_))
  generalize w5.heap.size = N2 at *
  clear HE6
  refine (same_ints ao2 ao3 cap2 cap3 xs W6 I4'.out I6.out RL2.out).mono ?_
  rintro e w7 ⟨rfl, s7⟩
  have L1 := Lib.hid (load_block (s7.blk N4'.out (fun s => s.elim)) rfl)
  have L2 := Lib.hid (load_block (s7.blk N6.out (fun s => s.elim)) rfl)
  have S7 := Lib.hid (S6x.out.then_ s7)
  have he := eq_vec B B
  simp only [BEq.rfl] at he
  clear s7 N4' N6 I4' I6 S6x
  go_wp2_with (first
    | (refine wpList_load_is 27 (.tmp 6) rfl rfl rfl L1.out ?_)
    | (refine wpList_load_is 27 (.tmp 9) rfl rfl rfl L2.out ?_))
  go_ret
  exact ⟨rfl, S7.out.toBelow⟩
end Go.Proofs.Ytehlaomippbehaa
