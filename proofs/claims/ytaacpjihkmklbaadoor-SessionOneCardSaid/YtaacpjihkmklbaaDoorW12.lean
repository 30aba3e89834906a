/- SessionMeets, walked. -/
import Derived.Test.YtaacpjihkmklbaaDoorW11
namespace Go.Proofs.YtaacpjihkmklbaaDoor
open Go.RowKit Go.Gm

theorem arr4_int {w : World} {v : Value} (h : Arg w (.arr 4 1 (.int .i64)) v) : ∃ a b c d, v = .agg #[.int .i64 a, .int .i64 b, .int .i64 c, .int .i64 d] := by
  obtain ⟨cs, rfl, hl, hf⟩ := h.agg rfl
  obtain ⟨a, ha, -⟩ := hf 0 (by decide)
  obtain ⟨b, hb, -⟩ := hf 1 (by decide)
  obtain ⟨c, hc, -⟩ := hf 2 (by decide)
  obtain ⟨d, hd, -⟩ := hf 3 (by decide)
  refine ⟨a, b, c, d, ?_⟩
  obtain ⟨l⟩ := cs
  match l, hl with
  | [x, y, z, t], _ =>
    simp at ha hb hc hd
    rw [ha, hb, hc, hd]
/-- What holds at a turn's start. -/
structure Turn (a b : Ses) (now : Int) (turn : Nat) : Prop where
  far : Far a b
  ida : a.id = 0
  idb : b.id = 1
  low : 0 ≤ now
  now : now ≤ 549755813888 + 12 * turn
  la : a.life ≤ 268435456 + 2 * turn
  lb : b.life ≤ 268435456 + 2 * turn
theorem Turn.next {a b : Ses} {now : Int} {turn : Nat} (h : Turn a b now turn) (ht : turn < 2) : Turn (alone a b now) (alone b a now) (now + 12) (turn + 1) := by
  have h1 := h.la
  have h2 := h.lb
  have h3 := h.now
  have h4 := h.low
  have hn : mom now = true := by simp [mom]; omega
  obtain ⟨a1, a2, a3, a4, a5, a6⟩ := alone_facts (b := b) (now := now) h.far.oka (by omega)
  obtain ⟨b1, b2, b3, b4, b5, b6⟩ := alone_facts (b := a) (now := now) h.far.okb (by omega)
  exact ⟨far_alone h.far hn (by omega) (by omega), a1.trans h.ida, b1.trans h.idb, by omega, by omega, by omega, by omega⟩
theorem joined_epoch {a b : Ses} {now : Int} : (joined a b now).epoch = a.life + b.life := by
  unfold Ses.epoch
  rw [if_pos (show (joined a b now).up = true from rfl)]
  rfl

set_option maxRecDepth 10000 in
set_option maxHeartbeats 16000000 in
theorem sessionMeets_walk (v0 v1 : Value) (w : World) (hT : HasAt 0 w) (h0 : Arg w (.arr 4 1 (.int .i64)) v0) (h1 : Arg w (.int .i64) v1) :
    Calls Tryd.prog 3 #[v0, v1] w fun e w' => e = .returned (.bool true) ∧ Below w.heap.size w w' := by
  obtain ⟨x0, x1, x2, x3, rfl⟩ := arr4_int h0
  obtain ⟨now, rfl, -⟩ := h1.int
  clear h0
  have p1 := heap_alloc_new w (.cells #[.int .i64 x0, .int .i64 x1, .int .i64 x2, .int .i64 x3] 22)
  have s1 := (Step.refl None w).alloc (.cells #[.int .i64 x0, .int .i64 x1, .int .i64 x2, .int .i64 x3] 22)
  obtain ⟨W, hW⟩ : ∃ W, w.alloc (.cells #[.int .i64 x0, .int .i64 x1, .int .i64 x2, .int .i64 x3] 22) = W := ⟨_, rfl⟩
  rw [hW] at p1 s1
  have HE := Lib.hid hW
  have P1 := Lib.hid p1
  have S1 := Lib.hid s1
  have T1 := Lib.hid (hT.still s1)
  clear hW p1 s1 hT
  by_cases hA : newOk 0 x0 x1
  rotate_left
  · have N := Lib.hid (fun w => new_bad 0 x0 x1 w hA)
    clear hA
    by_cases hB : newOk 1 x2 x3
    · have M := Lib.hid (fun w => new_ok 1 x2 x3 w hB)
      clear hB
      go_enter Tryd.func3, Tryd.ntmps3
      go_wp2_with (rw [HE.out])
      refine (awake_any W T1.out).mono ?_
      rintro e w2 ⟨rfl, s2⟩
      have k := blk_cell (s2.blk P1.out (fun s => s.elim))
      have k0 := k 0
      have k1 := k 1
      have k2 := k 2
      have k3 := k 3
      simp only [List.getElem?_toArray, List.getElem?_cons_zero, List.getElem?_cons_succ] at k0 k1 k2 k3
      have S2 := Lib.hid (S1.out.then_ s2)
      clear s2 k
      go_wp2_with fail
      refine (N.out _).mono ?_
      rintro e w3 ⟨rfl, rfl⟩
      go_wp2_with fail
      refine (M.out _).mono ?_
      rintro e w3 ⟨rfl, -, s3⟩
      go_wp2_with fail
      go_ret
      exact ⟨rfl, (S2.out.then_ s3).toBelow⟩
    · have M := Lib.hid (fun w => new_bad 1 x2 x3 w hB)
      clear hB
      go_enter Tryd.func3, Tryd.ntmps3
      go_wp2_with (rw [HE.out])
      refine (awake_any W T1.out).mono ?_
      rintro e w2 ⟨rfl, s2⟩
      have k := blk_cell (s2.blk P1.out (fun s => s.elim))
      have k0 := k 0
      have k1 := k 1
      have k2 := k 2
      have k3 := k 3
      simp only [List.getElem?_toArray, List.getElem?_cons_zero, List.getElem?_cons_succ] at k0 k1 k2 k3
      have S2 := Lib.hid (S1.out.then_ s2)
      clear s2 k
      go_wp2_with fail
      refine (N.out _).mono ?_
      rintro e w3 ⟨rfl, rfl⟩
      go_wp2_with fail
      refine (M.out _).mono ?_
      rintro e w3 ⟨rfl, rfl⟩
      go_wp2_with fail
      go_ret
      exact ⟨rfl, S2.out.toBelow⟩
  have N := Lib.hid (fun w => new_ok 0 x0 x1 w hA)
  by_cases hB : newOk 1 x2 x3
  rotate_left
  · have M := Lib.hid (fun w => new_bad 1 x2 x3 w hB)
    clear hB hA
    go_enter Tryd.func3, Tryd.ntmps3
    go_wp2_with (rw [HE.out])
    refine (awake_any W T1.out).mono ?_
    rintro e w2 ⟨rfl, s2⟩
    have P2 := Lib.hid (s2.blk P1.out (fun s => s.elim))
    have k := blk_cell P2.out
    have k0 := k 0
    have k1 := k 1
    simp only [List.getElem?_toArray, List.getElem?_cons_zero, List.getElem?_cons_succ] at k0 k1
    have S2 := Lib.hid (S1.out.then_ s2)
    clear s2 k
    go_wp2_with fail
    refine (N.out _).mono ?_
    rintro e w3 ⟨rfl, -, s3⟩
    have k := blk_cell (s3.blk P2.out (fun s => s.elim))
    have k2 := k 2
    have k3 := k 3
    simp only [List.getElem?_toArray, List.getElem?_cons_zero, List.getElem?_cons_succ] at k2 k3
    have S3 := Lib.hid (S2.out.then_ s3)
    clear s3 k
    go_wp2_with fail
    refine (M.out _).mono ?_
    rintro e w4 ⟨rfl, rfl⟩
    go_wp2_with fail
    go_ret
    exact ⟨rfl, S3.out.toBelow⟩
  have M := Lib.hid (fun w => new_ok 1 x2 x3 w hB)
  have HA := Lib.hid hA
  have HB := Lib.hid hB
  clear hA hB
  go_enter Tryd.func3, Tryd.ntmps3
  go_wp2_with (rw [HE.out])
  refine (awake_any W T1.out).mono ?_
  rintro e w2 ⟨rfl, s2⟩
  have P2 := Lib.hid (s2.blk P1.out (fun s => s.elim))
  have k := blk_cell P2.out
  have k0 := k 0
  have k1 := k 1
  simp only [List.getElem?_toArray, List.getElem?_cons_zero, List.getElem?_cons_succ] at k0 k1
  have T2 := Lib.hid (T1.out.still s2)
  have S2 := Lib.hid (S1.out.then_ s2)
  clear s2 k P1 S1 HE T1
  go_wp2_with fail
  refine (N.out _).mono ?_
  rintro e w3 ⟨rfl, a3, s3⟩
  have P3 := Lib.hid (s3.blk P2.out (fun s => s.elim))
  have k := blk_cell P3.out
  have k2 := k 2
  have k3 := k 3
  simp only [List.getElem?_toArray, List.getElem?_cons_zero, List.getElem?_cons_succ] at k2 k3
  have T3 := Lib.hid (T2.out.still s3)
  have A3 := Lib.hid a3
  have S3 := Lib.hid (S2.out.then_ s3)
  clear s3 a3 k k0 k1
  go_wp2_with fail
  refine (M.out _).mono ?_
  rintro e w4 ⟨rfl, b4, s4⟩
  have k := blk_cell (s4.blk P3.out (fun s => s.elim))
  have k1 := k 1
  have k3 := k 3
  simp only [List.getElem?_toArray, List.getElem?_cons_zero, List.getElem?_cons_succ] at k1 k3
  have TW : Hid (Two w w4 w2.heap.size w3.heap.size (ses0 0 x0 x1) (ses0 1 x2 x3)) := Lib.hid ⟨⟨0, s4.blk A3.out (fun s => s.elim)⟩, ⟨0, b4⟩, by have := blk_lt A3.out; omega, (S3.out.then_ s4).none, ses0_ok HA.out, ses0_ok HB.out, T3.out.still s4⟩
  have GG : Hid (w.heap.size ≤ w2.heap.size ∧ w.heap.size ≤ w3.heap.size) := Lib.hid ⟨S2.out.size, S3.out.size⟩
  have END : Hid (Step None w w4) := Lib.hid (S3.out.then_ s4)
  clear b4 s4 A3 S3 N M P2 P3 S2 T2 T3 k k2
  generalize w2.heap.size = g at *
  generalize w3.heap.size = r at *
  cases d1 : decide (268435456 < x1)
  rotate_left
  · go_wp2_with fail
    go_ret
    exact ⟨rfl, END.out.toBelow⟩
  cases d2 : decide (268435456 < x3)
  rotate_left
  · go_wp2_with fail
    go_ret
    exact ⟨rfl, END.out.toBelow⟩
  cases d3 : decide (now < 0)
  rotate_left
  · go_wp2_with fail
    go_ret
    exact ⟨rfl, END.out.toBelow⟩
  cases d4 : decide (549755813888 < now)
  rotate_left
  · go_wp2_with fail
    go_ret
    exact ⟨rfl, END.out.toBelow⟩
  have TU : Hid (Turn (ses0 0 x0 x1) (ses0 1 x2 x3) now 0) := Lib.hid (by
    simp only [decide_eq_false_iff_not, Int.not_lt] at d1 d2 d3 d4
    exact ⟨far_new HA.out HB.out (by omega) (by omega), rfl, rfl, d3, by omega, by show x1 ≤ _; omega, by show x3 ≤ _; omega⟩)
  go_wp2_with fail
  clear d1 d2 d3 d4 HA HB
  go_loopw [1, 10] (fun tn t wr => ∃ turn : Nat, turn ≤ 2 ∧ t = .int .i64 turn ∧ ∃ now a b, tn = .int .i64 now ∧ Hid (Two w wr g r a b) ∧ Hid (Turn a b now turn)) (fun _ t _ => 2 - (intOf t).toNat)
  case atStart => exact ⟨0, by omega, rfl, now, _, _, rfl, TW, TU⟩
  case round =>
    obtain ⟨turn, hi, rfl, now, a, b, rfl, hB, hK⟩ := hrel
    rename_i wr
    clear TW TU END
    cases d1 : decide ((turn : Int) < 2)
    · go_wp2_with fail
      go_ret
      exact ⟨rfl, (hB.out.st.mono (T := Go.Gm.None) (fun k hk e => by have := GG.out; omega)).toBelow⟩
    have hlt : turn < 2 := by simp at d1; omega
    have hF := Lib.hid hK.out.far
    have m0 : Hid (mom now = true) := Lib.hid (by have := hK.out.now; have := hK.out.low; simp [mom]; omega)
    have m6 : Hid (mom (now + 6) = true) := Lib.hid (by have := hK.out.now; have := hK.out.low; simp [mom]; omega)
    have m12 : Hid (mom (now + 12) = true) := Lib.hid (by have := hK.out.now; have := hK.out.low; simp [mom]; omega)
    go_wp2_with fail
    clear d1
    go_loopw [11] (fun t wr => ∃ k : Nat, k ≤ 3 ∧ t = .int .i64 k ∧ Hid (Two w wr g r (sa a b now k) (sb a b now k))) (fun t _ => 3 - (intOf t).toNat)
    case atStart => exact ⟨0, by omega, rfl, hB⟩
    case round =>
      obtain ⟨k, hk, rfl, hC⟩ := hrel
      clear hB
      cases d1 : decide ((k : Int) < 3)
      rotate_left
      · have hk3 : k < 3 := by simp at d1; omega
        go_wp2_with fail
        refine hC.out.sayA.mono ?_
        rintro e w6 ⟨rfl, t6⟩
        have C6 := Lib.hid t6
        clear t6 hC
        go_wp2_with fail
        refine (C6.out.hearsB C6.out.oka now).mono ?_
        rintro e w7 ⟨rfl, t7⟩
        have e7 := sb_next hF.out m0.out k
        rw [congrArg Prod.snd e7] at t7
        rw [congrArg Prod.fst e7]
        have C7 := Lib.hid t7
        clear t7 C6 e7
        generalize ((sb a b now k).hears (sa a b now k) now).1 = x7
        go_wp2_with fail
        refine C7.out.sayB.mono ?_
        rintro e w8 ⟨rfl, t8⟩
        have C8 := Lib.hid t8
        clear t8 C7
        go_wp2_with fail
        refine (C8.out.hearsA C8.out.okb now).mono ?_
        rintro e w9 ⟨rfl, t9⟩
        have e9 := sa_next hF.out m0.out k
        rw [congrArg Prod.snd e9] at t9
        rw [congrArg Prod.fst e9]
        have C9 := Lib.hid t9
        clear t9 C8 e9
        generalize ((sa a b now k).hears (sb a b now (k + 1)) now).1 = x9
        go_wp2_with fail
        go_roundw
        case rel => exact ⟨k + 1, by omega, by first | rfl | simp, C9⟩
        case measure => simp [intOf]; omega
      · have hk3 : k = 3 := by simp at d1; omega
        have hD := hC.out
        rw [hk3] at hD
        have hD : Hid (Two w _ g r (joined a b now) (joined b a now)) := Lib.hid hD
        clear hC hk3
        have TL := Lib.hid (fun c d => tick_lost (a := c) (b := d) m6.out)
        have RA : (alone a b now).role = 2 := alone_role hK.out.far.bta hK.out.low m12.out
        have RB : (alone b a now).role = 2 := alone_role hK.out.far.btb hK.out.low m12.out
        have NX := Lib.hid (hK.out.next hlt)
        have hr := joined_roles (now := now) hK.out.ida hK.out.idb
        have ep : (joined a b now).epoch = (joined b a now).epoch := by rw [joined_epoch, joined_epoch]; omega
        have w6 : wrap64 (now + 6) = now + 6 := by have := hK.out.now; have := hK.out.low; unfold wrap64; omega
        have w12 : wrap64 (now + 6 + 6) = now + 12 := by have := hK.out.now; have := hK.out.low; unfold wrap64; omega
        have u6 : IntKind.i64.wrap (now + 6) = now + 6 := by have := hK.out.now; have := hK.out.low; rw [IntKind.wrap_i64]; omega
        have u12 : IntKind.i64.wrap (now + 6 + 6) = now + 12 := by have := hK.out.now; have := hK.out.low; rw [IntKind.wrap_i64]; omega
        have ua : (joined a b now).up = true := rfl
        have ub : (joined b a now).up = true := rfl
        have va : (lost a b now).up = false := rfl
        have vb : (lost b a now).up = false := rfl
        have AA : Hid (alone a b now = ((lost a b now).tick (now + 12)).2.2) := Lib.hid rfl
        have AB : Hid (alone b a now = ((lost b a now).tick (now + 12)).2.2) := Lib.hid rfl
        have TA := TL.out a b
        have TB := TL.out b a
        clear TL m0 m6 m12 hF hK
        generalize joined a b now = p at *
        generalize joined b a now = q at *
        generalize lost a b now = lp at *
        generalize lost b a now = lq at *
        generalize alone a b now = ap at *
        generalize alone b a now = aq at *
        have TA := Lib.hid TA
        have TB := Lib.hid TB
        have er : (p.role == 2) ≠ (q.role == 2) := hr
        have HEP := Lib.hid ep
        have EE : ((p.role == 2) == (q.role == 2)) = false := by
          cases hp : (p.role == 2) <;> cases hq : (q.role == 2)
          · rw [hp, hq] at er; exact absurd rfl er
          · rfl
          · rfl
          · rw [hp, hq] at er; exact absurd rfl er
        clear hr er ep
        cases hp : (p.role == 2)
        · cases hq : (q.role == 2)
          · rw [hp, hq] at EE; exact absurd EE (by decide)
          clear EE
          go_wp2_with fail
          refine hD.out.upA.mono ?_
          rintro e wz ⟨rfl, rfl⟩
          rw [ua]
          go_wp2_with fail
          refine hD.out.upB.mono ?_
          rintro e wz ⟨rfl, rfl⟩
          rw [ub]
          go_wp2_with fail
          refine hD.out.epochA.mono ?_
          rintro e w10 ⟨rfl, t10⟩
          have D10 := Lib.hid t10
          clear t10 hD
          go_wp2_with fail
          refine D10.out.epochB.mono ?_
          rintro e w11 ⟨rfl, t11⟩
          have D11 := Lib.hid t11
          clear t11 D10
          rw [← HEP.out]
          go_wp2_with fail
          refine D11.out.roleA.mono ?_
          rintro e wz ⟨rfl, rfl⟩
          go_wp2_with fail
          refine D11.out.roleB.mono ?_
          rintro e wz ⟨rfl, rfl⟩
          go_wp2_with fail
          refine (D11.out.tickA (now + 6)).mono ?_
          rintro e w12 ⟨rfl, t12⟩
          rw [TA.out] at t12 ⊢
          have D12 := Lib.hid t12
          clear t12 D11
          go_wp2_with fail
          refine (D12.out.tickB (now + 6)).mono ?_
          rintro e w13 ⟨rfl, t13⟩
          rw [TB.out] at t13 ⊢
          have D13 := Lib.hid t13
          clear t13 D12
          go_wp2_with fail
          refine D13.out.upA.mono ?_
          rintro e wz ⟨rfl, rfl⟩
          rw [va]
          go_wp2_with fail
          refine D13.out.upB.mono ?_
          rintro e wz ⟨rfl, rfl⟩
          rw [vb]
          go_wp2_with fail
          refine (D13.out.tickA (now + 12)).mono ?_
          rintro e w14 ⟨rfl, t14⟩
          rw [← AA.out] at t14
          have D14 := Lib.hid t14
          clear t14 D13
          go_wp2_with fail
          refine (D14.out.tickB (now + 12)).mono ?_
          rintro e w15 ⟨rfl, t15⟩
          rw [← AB.out] at t15
          have D15 := Lib.hid t15
          clear t15 D14
          go_wp2_with fail
          refine D15.out.roleA.mono ?_
          rintro e wz ⟨rfl, rfl⟩
          rw [RA]
          go_wp2_with fail
          refine D15.out.roleB.mono ?_
          rintro e wz ⟨rfl, rfl⟩
          rw [RB]
          go_wp2_with fail
          go_roundw
          case rel => exact ⟨turn + 1, by omega, by first | rfl | simp, now + 12, ap, aq, rfl, D15, NX⟩
          case measure => simp [intOf]; omega
        · cases hq : (q.role == 2)
          rotate_left
          · rw [hp, hq] at EE; exact absurd EE (by decide)
          clear EE
          go_wp2_with fail
          refine hD.out.upA.mono ?_
          rintro e wz ⟨rfl, rfl⟩
          rw [ua]
          go_wp2_with fail
          refine hD.out.upB.mono ?_
          rintro e wz ⟨rfl, rfl⟩
          rw [ub]
          go_wp2_with fail
          refine hD.out.epochA.mono ?_
          rintro e w10 ⟨rfl, t10⟩
          have D10 := Lib.hid t10
          clear t10 hD
          go_wp2_with fail
          refine D10.out.epochB.mono ?_
          rintro e w11 ⟨rfl, t11⟩
          have D11 := Lib.hid t11
          clear t11 D10
          rw [← HEP.out]
          go_wp2_with fail
          refine D11.out.roleA.mono ?_
          rintro e wz ⟨rfl, rfl⟩
          go_wp2_with fail
          refine D11.out.roleB.mono ?_
          rintro e wz ⟨rfl, rfl⟩
          go_wp2_with fail
          refine (D11.out.tickA (now + 6)).mono ?_
          rintro e w12 ⟨rfl, t12⟩
          rw [TA.out] at t12 ⊢
          have D12 := Lib.hid t12
          clear t12 D11
          go_wp2_with fail
          refine (D12.out.tickB (now + 6)).mono ?_
          rintro e w13 ⟨rfl, t13⟩
          rw [TB.out] at t13 ⊢
          have D13 := Lib.hid t13
          clear t13 D12
          go_wp2_with fail
          refine D13.out.upA.mono ?_
          rintro e wz ⟨rfl, rfl⟩
          rw [va]
          go_wp2_with fail
          refine D13.out.upB.mono ?_
          rintro e wz ⟨rfl, rfl⟩
          rw [vb]
          go_wp2_with fail
          refine (D13.out.tickA (now + 12)).mono ?_
          rintro e w14 ⟨rfl, t14⟩
          rw [← AA.out] at t14
          have D14 := Lib.hid t14
          clear t14 D13
          go_wp2_with fail
          refine (D14.out.tickB (now + 12)).mono ?_
          rintro e w15 ⟨rfl, t15⟩
          rw [← AB.out] at t15
          have D15 := Lib.hid t15
          clear t15 D14
          go_wp2_with fail
          refine D15.out.roleA.mono ?_
          rintro e wz ⟨rfl, rfl⟩
          rw [RA]
          go_wp2_with fail
          refine D15.out.roleB.mono ?_
          rintro e wz ⟨rfl, rfl⟩
          rw [RB]
          go_wp2_with fail
          go_roundw
          case rel => exact ⟨turn + 1, by omega, by first | rfl | simp, now + 12, ap, aq, rfl, D15, NX⟩
          case measure => simp [intOf]; omega
end Go.Proofs.YtaacpjihkmklbaaDoor
