/- ShakeOnce, walked. -/
import Derived.Test.YthebgpbofjgcoaaDoorV1a
import Derived.Test.YthebgpbofjgcoaaDoorV1b
import Derived.Test.YthebgpbofjgcoaaDoorV2a
import Derived.Test.YthebgpbofjgcoaaDoorV2b
import Derived.Test.YthebgpbofjgcoaaDoorV3a
import Derived.Test.YthebgpbofjgcoaaDoorV3b
import Derived.Test.YthebgpbofjgcoaaDoorV4
namespace Go.Proofs.YthebgpbofjgcoaaDoor
open Go.RowKit Go.Gm

set_option maxRecDepth 10000 in
set_option maxHeartbeats 64000000 in
theorem shakeOnce_walk (v0 : Value) (w : World) (hT : HasAt 0 w) (h0 : Arg w (.slice 3 24 (.arr 3 1 (.int .i64))) v0) :
    Calls Tryd.prog 4 #[v0] w fun e w' => e = .returned (.bool true) ∧ Below w.heap.size w w' := by
  obtain ⟨ao, len, cap, rfl, hcap, hlen, hrows⟩ := rows_arg h0
  clear h0
  have HROWS := Lib.hid hrows
  have T0 := Lib.hid hT.lt
  have T1 := Lib.hid hT
  clear hT hrows
  have N := Lib.hid (fun w => new_ok 3 (by decide) (by decide) w)
  go_enter Tryd.func4, Tryd.ntmps4
  go_wp2_with fail
  refine (awake_any w T1.out).mono ?_
  rintro e w2 ⟨rfl, s2⟩
  have S2 := Lib.hid s2
  have T2 := Lib.hid (T1.out.still s2)
  clear s2
  go_wp2_with fail
  refine (N.out _).mono ?_
  rintro e w3 ⟨g, b, rfl, r3, g3, b3, s3⟩
  have R3 := Lib.hid r3
  have GB := Lib.hid (And.intro g3 b3)
  have T3 := Lib.hid (T2.out.still s3)
  have S3 := Lib.hid (S2.out.then_ s3)
  clear r3 g3 b3 s3
  go_wp2_with fail
  refine (N.out _).mono ?_
  rintro e w4 ⟨h, c, rfl, r4, g4, b4, s4⟩
  have p5 := heap_alloc_new w4 (.cells #[.pointer (some ⟨g, 0, none⟩), .pointer (some ⟨h, 0, none⟩)] 42)
  have s5 := (Step.refl None w4).alloc (.cells #[.pointer (some ⟨g, 0, none⟩), .pointer (some ⟨h, 0, none⟩)] 42)
  obtain ⟨V, hV⟩ : ∃ V, w4.alloc (.cells #[.pointer (some ⟨g, 0, none⟩), .pointer (some ⟨h, 0, none⟩)] 42) = V := ⟨_, rfl⟩
  rw [hV] at p5 s5
  have p6 := heap_alloc_new V (.cells #[.slice none 0 0, .slice none 0 0] 44)
  have s6 := (Step.refl None V).alloc (.cells #[.slice none 0 0, .slice none 0 0] 44)
  obtain ⟨X, hX⟩ : ∃ X, V.alloc (.cells #[.slice none 0 0, .slice none 0 0] 44) = X := ⟨_, rfl⟩
  rw [hX] at p6 s6
  have HV := Lib.hid hV
  have HX := Lib.hid hX
  have y0 : Way w X g b h c w4.heap.size V.heap.size (shk0 3) (shk0 3) (.slice none 0 0) (.slice none 0 0) [] [] := by
    have q1 := S2.out.size
    have q2 := S3.out.size
    have q3 := GB.out
    have q4 := s4.size
    have q5 := s5.size
    have gl := blk_lt R3.out.st
    have bl := blk_lt R3.out.row
    exact ⟨((R3.out.still s4).still s5).still s6, (r4.still s5).still s6, s6.blk p5 (fun s => s.elim), p6, Row.nil _ _ _, Row.nil _ _ _, by omega, by omega, by omega, by omega, by omega,
      fun k hk => by simp [Leads, Value.ownBlock] at hk, fun k hk => by simp [Leads, Value.ownBlock] at hk, fun k hk => by simp [Leads, Value.ownBlock] at hk, by omega, by omega, ((S3.out.then_ s4).then_ s5).then_ s6, ((T3.out.still s4).still s5).still s6, T0.out⟩
  have Y0 := Lib.hid y0
  have P0 := Lib.hid pre0
  clear r4 g4 b4 s4 R3 GB S3 T3 S2 T2 N y0 p5 s5 p6 s6 hV hX T1
  generalize shk0 3 = s0 at *
  go_wp2_with (first | rw [HV.out] | rw [HX.out])
  generalize w4.heap.size = bx at *
  generalize V.heap.size = bs at *
  go_loopw [10] (fun tk wr => ∃ k : Int, (k = 0 ∨ k = 1 ∨ k = 2) ∧ tk = .int .i64 k ∧ ∃ s t, Hid (Way w wr g b h c bx bs s t (.slice none 0 0) (.slice none 0 0) [] []) ∧ Hid s.Pre ∧ Hid t.Pre) (fun tk _ => 2 - (intOf tk).toNat)
  case atStart => exact ⟨0, by omega, rfl, _, _, Y0, P0, P0⟩
  case round =>
    obtain ⟨k, hk, rfl, s, t, hY, hS, hT⟩ := hrel
    rename_i wr
    clear Y0 P0 s0
    rcases hk with rfl | rfl | rfl
    · go_wp2_with fail
      go_loopw [11] (fun tj wr => ∃ j : Int, (j = 4 ∨ j = 1 ∨ j = 2 ∨ j = 3) ∧ tj = .int .i64 j ∧ ∃ s t, Hid (Way w wr g b h c bx bs s t (.slice none 0 0) (.slice none 0 0) [] []) ∧ Hid s.Pre ∧ Hid t.Pre) (fun tj _ => 4 - (intOf tj).toNat)
      case atStart => exact ⟨1, by omega, rfl, _, _, hY, hS, hT⟩
      case round =>
        clear hY hS hT
        obtain ⟨j, j1, rfl, s, t, hY, hS, hT⟩ := hrel
        rename_i wr
        rcases j1 with rfl | rfl | rfl | rfl
        · go_wp2_with fail
          go_roundw
          case rel => exact ⟨1, by omega, by first | rfl | simp, _, _, hY, hS, hT⟩
          case measure => simp [intOf]
        · cases d1 : decide ((0 : Int) < (len : Int))
          · have d1' : decide (0 < len) = false := by simp at d1 ⊢; omega
            go_wp2_with fail
            go_roundw
            case rel => exact ⟨2, by omega, by first | rfl | simp, _, _, hY, hS, hT⟩
            case measure => simp [intOf]
          have hlt : 0 < len := by simp at d1; omega
          have d1' : decide (0 < len) = true := by simpa using hlt
          obtain ⟨b0, off, op, kk, z, rfl, -, -, c2⟩ := HROWS.out 0 hlt
          have q2 := (hY.out.st.cell (p := ⟨b0, off + 0 * 3 + 2, none⟩) (World.block_lt_of_cell? _ _ c2) (fun s => s.elim)).trans c2
          simp only [Nat.zero_mul, Nat.add_zero] at q2
          clear c2
          have i1 : (0 : Int) < (len : Int) := by omega
          obtain ⟨k0, k1, -, -⟩ := hY.out.here
          go_wp2_with fail
          · refine (local_any g b s 1 true _ 0 hS.out.ok (Int.le_refl _) (by decide) hY.out.one).mono ?_
            rintro e w5 ⟨u5, rfl, t5, r5, s5⟩
            have Y5 := Lib.hid (hY.out.next1 (s5.mono fun _ _ e => .inr e) r5)
            have S5 := Lib.hid (hS.out.loc 1 true)
            obtain ⟨uo, uc, rfl, -, -⟩ := t5.row.form
            clear t5 r5 s5 k0 k1 q2
            go_wp2_with fail
            go_roundw
            case rel => exact ⟨2, by omega, by first | rfl | simp, _, _, Y5, S5, hT⟩
            case measure => simp [intOf]
          · refine ⟨⟨2, by omega, by first | rfl | simp, _, _, hY, hS, hT⟩, by simp [intOf]⟩
        · cases d1 : decide ((0 : Int) < (len : Int))
          · have d1' : decide (0 < len) = false := by simp at d1 ⊢; omega
            go_wp2_with fail
            go_roundw
            case rel => exact ⟨3, by omega, by first | rfl | simp, _, _, hY, hS, hT⟩
            case measure => simp [intOf]
          have hlt : 0 < len := by simp at d1; omega
          have d1' : decide (0 < len) = true := by simpa using hlt
          obtain ⟨b0, off, op, kk, z, rfl, -, -, c2⟩ := HROWS.out 0 hlt
          have q2 := (hY.out.st.cell (p := ⟨b0, off + 0 * 3 + 2, none⟩) (World.block_lt_of_cell? _ _ c2) (fun s => s.elim)).trans c2
          simp only [Nat.zero_mul, Nat.add_zero] at q2
          clear c2
          have i1 : (0 : Int) < (len : Int) := by omega
          obtain ⟨k0, k1, -, -⟩ := hY.out.here
          go_wp2_with fail
          · refine (local_any g b s 2 true _ 0 hS.out.ok (Int.le_refl _) (by decide) hY.out.one).mono ?_
            rintro e w5 ⟨u5, rfl, t5, r5, s5⟩
            have Y5 := Lib.hid (hY.out.next1 (s5.mono fun _ _ e => .inr e) r5)
            have S5 := Lib.hid (hS.out.loc 2 true)
            obtain ⟨uo, uc, rfl, -, -⟩ := t5.row.form
            clear t5 r5 s5 k0 k1 q2
            go_wp2_with fail
            go_roundw
            case rel => exact ⟨3, by omega, by first | rfl | simp, _, _, Y5, S5, hT⟩
            case measure => simp [intOf]
          · refine ⟨⟨3, by omega, by first | rfl | simp, _, _, hY, hS, hT⟩, by simp [intOf]⟩
        · cases d1 : decide ((0 : Int) < (len : Int))
          · have d1' : decide (0 < len) = false := by simp at d1 ⊢; omega
            go_wp2_with fail
            go_roundw
            case rel => exact ⟨4, by omega, by first | rfl | simp, _, _, hY, hS, hT⟩
            case measure => simp [intOf]
          have hlt : 0 < len := by simp at d1; omega
          have d1' : decide (0 < len) = true := by simpa using hlt
          obtain ⟨b0, off, op, kk, z, rfl, -, -, c2⟩ := HROWS.out 0 hlt
          have q2 := (hY.out.st.cell (p := ⟨b0, off + 0 * 3 + 2, none⟩) (World.block_lt_of_cell? _ _ c2) (fun s => s.elim)).trans c2
          simp only [Nat.zero_mul, Nat.add_zero] at q2
          clear c2
          have i1 : (0 : Int) < (len : Int) := by omega
          obtain ⟨k0, k1, -, -⟩ := hY.out.here
          go_wp2_with fail
          · refine (local_any g b s 3 true _ 0 hS.out.ok (Int.le_refl _) (by decide) hY.out.one).mono ?_
            rintro e w5 ⟨u5, rfl, t5, r5, s5⟩
            have Y5 := Lib.hid (hY.out.next1 (s5.mono fun _ _ e => .inr e) r5)
            have S5 := Lib.hid (hS.out.loc 3 true)
            obtain ⟨uo, uc, rfl, -, -⟩ := t5.row.form
            clear t5 r5 s5 k0 k1 q2
            go_wp2_with fail
            go_roundw
            case rel => exact ⟨4, by omega, by first | rfl | simp, _, _, Y5, S5, hT⟩
            case measure => simp [intOf]
          · refine ⟨⟨4, by omega, by first | rfl | simp, _, _, hY, hS, hT⟩, by simp [intOf]⟩

    · go_wp2_with fail
      go_loopw [11] (fun tj wr => ∃ j : Int, (j = 4 ∨ j = 1 ∨ j = 2 ∨ j = 3) ∧ tj = .int .i64 j ∧ ∃ s t, Hid (Way w wr g b h c bx bs s t (.slice none 0 0) (.slice none 0 0) [] []) ∧ Hid s.Pre ∧ Hid t.Pre) (fun tj _ => 4 - (intOf tj).toNat)
      case atStart => exact ⟨1, by omega, rfl, _, _, hY, hS, hT⟩
      case round =>
        clear hY hS hT
        obtain ⟨j, j1, rfl, s, t, hY, hS, hT⟩ := hrel
        rename_i wr
        rcases j1 with rfl | rfl | rfl | rfl
        · go_wp2_with fail
          go_roundw
          case rel => exact ⟨2, by omega, by first | rfl | simp, _, _, hY, hS, hT⟩
          case measure => simp [intOf]
        · cases d1 : decide ((0 : Int) < (len : Int))
          · have d1' : decide (0 < len) = false := by simp at d1 ⊢; omega
            go_wp2_with fail
            go_roundw
            case rel => exact ⟨2, by omega, by first | rfl | simp, _, _, hY, hS, hT⟩
            case measure => simp [intOf]
          have hlt : 0 < len := by simp at d1; omega
          have d1' : decide (0 < len) = true := by simpa using hlt
          obtain ⟨b0, off, op, kk, z, rfl, -, -, c2⟩ := HROWS.out 0 hlt
          have q2 := (hY.out.st.cell (p := ⟨b0, off + 0 * 3 + 2, none⟩) (World.block_lt_of_cell? _ _ c2) (fun s => s.elim)).trans c2
          simp only [Nat.zero_mul, Nat.add_zero] at q2
          clear c2
          have i1 : (0 : Int) < (len : Int) := by omega
          obtain ⟨k0, k1, -, -⟩ := hY.out.here
          go_wp2_with fail
          · refine (local_any h c t 1 true _ 0 hT.out.ok (Int.le_refl _) (by decide) hY.out.two).mono ?_
            rintro e w5 ⟨u5, rfl, t5, r5, s5⟩
            have Y5 := Lib.hid (hY.out.next2 (s5.mono fun _ _ e => .inr e) r5)
            have S5 := Lib.hid (hT.out.loc 1 true)
            obtain ⟨uo, uc, rfl, -, -⟩ := t5.row.form
            clear t5 r5 s5 k0 k1 q2
            go_wp2_with fail
            go_roundw
            case rel => exact ⟨2, by omega, by first | rfl | simp, _, _, Y5, hS, S5⟩
            case measure => simp [intOf]
          · refine ⟨⟨2, by omega, by first | rfl | simp, _, _, hY, hS, hT⟩, by simp [intOf]⟩
        · cases d1 : decide ((0 : Int) < (len : Int))
          · have d1' : decide (0 < len) = false := by simp at d1 ⊢; omega
            go_wp2_with fail
            go_roundw
            case rel => exact ⟨3, by omega, by first | rfl | simp, _, _, hY, hS, hT⟩
            case measure => simp [intOf]
          have hlt : 0 < len := by simp at d1; omega
          have d1' : decide (0 < len) = true := by simpa using hlt
          obtain ⟨b0, off, op, kk, z, rfl, -, -, c2⟩ := HROWS.out 0 hlt
          have q2 := (hY.out.st.cell (p := ⟨b0, off + 0 * 3 + 2, none⟩) (World.block_lt_of_cell? _ _ c2) (fun s => s.elim)).trans c2
          simp only [Nat.zero_mul, Nat.add_zero] at q2
          clear c2
          have i1 : (0 : Int) < (len : Int) := by omega
          obtain ⟨k0, k1, -, -⟩ := hY.out.here
          go_wp2_with fail
          · refine (local_any h c t 2 true _ 0 hT.out.ok (Int.le_refl _) (by decide) hY.out.two).mono ?_
            rintro e w5 ⟨u5, rfl, t5, r5, s5⟩
            have Y5 := Lib.hid (hY.out.next2 (s5.mono fun _ _ e => .inr e) r5)
            have S5 := Lib.hid (hT.out.loc 2 true)
            obtain ⟨uo, uc, rfl, -, -⟩ := t5.row.form
            clear t5 r5 s5 k0 k1 q2
            go_wp2_with fail
            go_roundw
            case rel => exact ⟨3, by omega, by first | rfl | simp, _, _, Y5, hS, S5⟩
            case measure => simp [intOf]
          · refine ⟨⟨3, by omega, by first | rfl | simp, _, _, hY, hS, hT⟩, by simp [intOf]⟩
        · cases d1 : decide ((0 : Int) < (len : Int))
          · have d1' : decide (0 < len) = false := by simp at d1 ⊢; omega
            go_wp2_with fail
            go_roundw
            case rel => exact ⟨4, by omega, by first | rfl | simp, _, _, hY, hS, hT⟩
            case measure => simp [intOf]
          have hlt : 0 < len := by simp at d1; omega
          have d1' : decide (0 < len) = true := by simpa using hlt
          obtain ⟨b0, off, op, kk, z, rfl, -, -, c2⟩ := HROWS.out 0 hlt
          have q2 := (hY.out.st.cell (p := ⟨b0, off + 0 * 3 + 2, none⟩) (World.block_lt_of_cell? _ _ c2) (fun s => s.elim)).trans c2
          simp only [Nat.zero_mul, Nat.add_zero] at q2
          clear c2
          have i1 : (0 : Int) < (len : Int) := by omega
          obtain ⟨k0, k1, -, -⟩ := hY.out.here
          go_wp2_with fail
          · refine (local_any h c t 3 true _ 0 hT.out.ok (Int.le_refl _) (by decide) hY.out.two).mono ?_
            rintro e w5 ⟨u5, rfl, t5, r5, s5⟩
            have Y5 := Lib.hid (hY.out.next2 (s5.mono fun _ _ e => .inr e) r5)
            have S5 := Lib.hid (hT.out.loc 3 true)
            obtain ⟨uo, uc, rfl, -, -⟩ := t5.row.form
            clear t5 r5 s5 k0 k1 q2
            go_wp2_with fail
            go_roundw
            case rel => exact ⟨4, by omega, by first | rfl | simp, _, _, Y5, hS, S5⟩
            case measure => simp [intOf]
          · refine ⟨⟨4, by omega, by first | rfl | simp, _, _, hY, hS, hT⟩, by simp [intOf]⟩

    · go_wp2_with fail
      go_loopw [12] (fun tk wr => ∃ k : Int, tk = .int .i64 k ∧ ((k = 0 ∧ ∃ s t : Shk, Hid (Way w wr g b h c bx bs s t (.slice none 0 0) (.slice none 0 0) [] []) ∧ Hid s.Pre ∧ Hid t.Pre) ∨ (k = 1 ∧ ∃ (s t : Shk) (vb : Value), Hid (Way w wr g b h c bx bs s.start.1 t (.slice none 0 0) vb [] (s.start.2.map Itm.ofTell)) ∧ Hid s.Pre ∧ Hid t.Pre) ∨ (k = 2 ∧ ∃ (s t : Shk) (va vb : Value), Hid (Way w wr g b h c bx bs s.start.1 t.start.1 va vb (t.start.2.map Itm.ofTell) (s.start.2.map Itm.ofTell)) ∧ Hid s.Pre ∧ Hid t.Pre))) (fun tk _ => 2 - (intOf tk).toNat)
      case atStart => exact ⟨0, rfl, .inl ⟨rfl, _, _, hY, hS, hT⟩⟩
      case round =>
        clear hY hS hT
        obtain ⟨k, rfl, hk⟩ := hrel
        rename_i wr
        rcases hk with ⟨rfl, s, t, hY, hS, hT⟩ | ⟨rfl, s, t, vb, hY, hS, hT⟩ | ⟨rfl, s, t, va, vb, hY, hS, hT⟩
        · obtain ⟨k0, k1, -, -⟩ := hY.out.here
          go_wp2_with fail
          refine (start_any g b s _ 0 hS.out.ok hY.out.one).mono ?_
          rintro e w5 ⟨ul, rfl, t5, r5, s5⟩
          have Y5 := Lib.hid (hY.out.next1 s5 r5)
          have U5 := Lib.hid (t5.mono (Nat.zero_le _))
          have LL : Hid (s.start.2.length ≤ 3) := Lib.hid (by rw [Shk.start_count, hS.out.len]; exact Nat.le_refl _)
          obtain ⟨uo, uc, rfl, -, -⟩ := t5.row.form
          clear t5 r5 s5 k0 k1 hY
          have hl0 : ∃ l, s.start.2 = l := ⟨_, rfl⟩
          obtain ⟨l, hl⟩ := hl0
          rw [hl] at U5 LL ⊢
          have HL := Lib.hid hl
          clear hl
          have hU := U5
          have hY := Y5
          clear U5 Y5
          have OB : Hid (([] : List Itm).length ≤ 10) := Lib.hid (by simp)
          have hli : ((l.length : Nat) : Int) ≤ 9223372036854775807 := by have := LL.out; omega
          go_wp2_with fail
          go_loopw [14] (fun tj wr => ∃ j : Nat, j ≤ l.length ∧ tj = .int .i64 j ∧ Hid (Tells wr 0 (.slice uo l.length uc) l) ∧ ∃ u', Hid (Way w wr g b h c bx bs s.start.1 t (.slice none 0 0) u' [] ([] ++ (l.take j).map Itm.ofTell))) (fun tj _ => l.length - (intOf tj).toNat)
          case atStart => exact ⟨0, by omega, rfl, hU, _, by simpa using hY⟩
          case round =>
            clear hU hY
            obtain ⟨j, hj, rfl, hU, u', hY⟩ := hrel
            rename_i wr
            cases c1 : decide ((j : Int) < (l.length : Int))
            · have c1' : decide (j < l.length) = false := by simp at c1 ⊢; omega
              have hin : j = l.length := by simp at c1; omega
              rw [hin, List.take_length] at hY
              clear hin hU
              go_wp2_with fail
              go_roundw
              case rel => exact ⟨1, by first | rfl | simp, .inr (.inl ⟨rfl, s, t, _, by rw [HL.out]; simpa using hY, hS, hT⟩)⟩
              case measure => simp [intOf]
            have hlt : j < l.length := by simp at c1; omega
            have c1' : decide (j < l.length) = true := by simpa using hlt
            obtain ⟨D, hD⟩ : ∃ D, [] ++ (l.take j).map Itm.ofTell = D := ⟨_, rfl⟩
            rw [hD] at hY
            have BN : Hid (D.length ≤ 1000010) := Lib.hid (by have := LL.out; have := OB.out; rw [← hD, List.length_append, List.length_map, List.length_take]; omega)
            have HD := Lib.hid hD
            clear hD
            obtain ⟨tt, htt⟩ : ∃ tt, l[j]? = some tt := ⟨_, List.getElem?_eq_getElem hlt⟩
            have NX : Hid (l.take (j + 1) = l.take j ++ [tt]) := Lib.hid (by rw [List.take_add_one, htt]; rfl)
            obtain ⟨zo, zc, rfl, -, -⟩ := hY.out.rb.form
            obtain ⟨b9, o9, k9, e9, hl9, h9⟩ := tells_load hU.out htt
            simp only [Value.slice.injEq] at e9
            obtain ⟨rfl, -, rfl⟩ := e9
            have NL : Hid (∀ w', Step (Leads (.slice zo D.length zc)) wr w' → (Instr.loadAt 35 (.pointer (some ⟨b9, o9 + j * 11, none⟩))).run Tryd.prog w' = .ok (.agg #[.int .i64 tt.kind, .int .i64 0, .int .u8 0, .int .u8 0, .int .u8 0, .int .u8 0, .int .u8 0, .int .u8 0, .int .i64 tt.port, .int .i64 tt.state, .slice none 0 0]) w' ∧ Tells w' 0 (.slice (some ⟨b9, o9, none⟩) l.length uc) l) := Lib.hid (fun w' h' => by
              have hU2 := hU.out.step h' (fun k hk => by
                obtain ⟨cur, hcur⟩ := hU.out.row.typed hk
                exact hY.out.rb.ne hcur (by decide))
              obtain ⟨x1, y1, z1, q1, -, f1⟩ := tells_load hU2 htt
              simp only [Value.slice.injEq, Option.some.injEq, Addr.mk.injEq] at q1
              obtain ⟨⟨rfl, rfl, -⟩, -, -⟩ := q1
              exact ⟨f1, hU2⟩)
            have j0 : (0 : Int) ≤ (j : Int) := by omega
            have j1 : (j : Int) < (l.length : Int) := by omega
            have WAY := Lib.hid (fun w' (h' : Step (Leads (.slice zo D.length zc)) wr w') => And.intro (hY.out.cells hY.out.rb h') (NL.out w' h').1)
            have NWS : Hid (∀ w', Step (Leads (.slice zo D.length zc)) wr w' → ∀ k, Leads (.slice (some ⟨b9, o9, none⟩) l.length uc) k → ¬ k = bs) := Lib.hid (fun w' h' k hk e => by
              obtain ⟨cur, hcur⟩ := hU.out.row.typed hk
              subst e
              exact blk_ne hY.out.ways hcur (by decide) rfl)
            clear htt hl9 h9
            have dr : Step None wr wr.drew := (Step.refl None wr).drew
            have al := dr.alloc (.cells #[.int .i64 tt.kind, .int .i64 0, .int .u8 0, .int .u8 0, .int .u8 0, .int .u8 0, .int .u8 0, .int .u8 0, .int .i64 tt.port, .int .i64 tt.state, .slice none 0 0, .bool false, .bool false, .bool false, .bool false, .bool false] 53)
            have ob : (wr.drew.alloc (.cells #[.int .i64 tt.kind, .int .i64 0, .int .u8 0, .int .u8 0, .int .u8 0, .int .u8 0, .int .u8 0, .int .u8 0, .int .i64 tt.port, .int .i64 tt.state, .slice none 0 0, .bool false, .bool false, .bool false, .bool false, .bool false] 53)).heap[wr.heap.size]? = some (.cells #[.int .i64 tt.kind, .int .i64 0, .int .u8 0, .int .u8 0, .int .u8 0, .int .u8 0, .int .u8 0, .int .u8 0, .int .i64 tt.port, .int .i64 tt.state, .slice none 0 0, .bool false, .bool false, .bool false, .bool false, .bool false] 53 (0, 0)) := heap_alloc_new wr.drew (.cells #[.int .i64 tt.kind, .int .i64 0, .int .u8 0, .int .u8 0, .int .u8 0, .int .u8 0, .int .u8 0, .int .u8 0, .int .i64 tt.port, .int .i64 tt.state, .slice none 0 0, .bool false, .bool false, .bool false, .bool false, .bool false] 53)
            go_wp2_with fail
            refine wp_region_plan (fun w' => (w'.cell? ⟨bx, 0, none⟩ = some (.pointer (some ⟨g, 0, none⟩)) ∧ w'.cell? ⟨bx, 1, none⟩ = some (.pointer (some ⟨h, 0, none⟩)) ∧ w'.cell? ⟨bs, 0, none⟩ = some (.slice none 0 0) ∧ w'.cell? ⟨bs, 1, none⟩ = some (.slice zo D.length zc)) ∧ (Instr.loadAt 35 (.pointer (some ⟨b9, o9 + j * 11, none⟩))).run Tryd.prog w' = .ok (.agg #[.int .i64 tt.kind, .int .i64 0, .int .u8 0, .int .u8 0, .int .u8 0, .int .u8 0, .int .u8 0, .int .u8 0, .int .i64 tt.port, .int .i64 tt.state, .slice none 0 0]) w') (.take 0 (.take 1 (.take 2 (.take 3 (.take 4 (.take 5 (.take 6 (.take 7 (.take 8 (.take 9 (.take 10 (.alt 11 (.alt 12 (.take 13 (.last 14)) .none) .none)))))))))))) _
              (by simp only [Plan.map, opOf, List.getElem?_toArray, List.getElem?_cons_zero, List.getElem?_cons_succ, Option.getD_some]; rfl) (by kernel_rfl) (by kernel_rfl) (by kernel_rfl) (by decide) (by intro c a d v w; cases d <;> exact fun h => h)
              (WAY.out _ dr.none) ?_
            (refine wpPlan.taken (by rfl) (by intro w' hS'; (try dsimp only at hS'); go_split_ands; go_simp; try with_reducible rfl) ?_; simp only [Act.put, List.setIfInBounds_toArray, List.set_cons_zero, List.set_cons_succ])
            refine wpPlan.taken (v := .int .i64 1) (by rfl) (by intro w' hS'; go_simp; rfl) ?_; simp only [Act.put, List.setIfInBounds_toArray, List.set_cons_zero, List.set_cons_succ]
            (refine wpPlan.taken (by rfl) (by intro w' hS'; (try dsimp only at hS'); go_split_ands; go_simp; try with_reducible rfl) ?_; simp only [Act.put, List.setIfInBounds_toArray, List.set_cons_zero, List.set_cons_succ])
            refine wpPlan.taken (v := .int .i64 1) (by rfl) (by intro w' hS'; go_simp; rfl) ?_; simp only [Act.put, List.setIfInBounds_toArray, List.set_cons_zero, List.set_cons_succ]
            repeat (first | (refine wpPlan.taken (by rfl) (fun w' hS' => run_load_op rfl rfl hS'.2) ?_; simp only [Act.put, List.setIfInBounds_toArray, List.set_cons_zero, List.set_cons_succ]) | (refine wpPlan.taken (by rfl) (by intro w' hS'; (try dsimp only at hS'); go_split_ands; go_simp; try with_reducible rfl) ?_; simp only [Act.put, List.setIfInBounds_toArray, List.set_cons_zero, List.set_cons_succ]) | (refine wpPlan.passed (by rfl) ?_; simp only [Act.put, List.setIfInBounds_toArray, List.set_cons_zero, List.set_cons_succ]))
            refine wpPlan.runs fun K' hK => ?_
            go_simp
            refine hK.out _ _ (WAY.out _ al.none) ?_
            clear hK K'
            have Y6 := Lib.hid (hY.out.still al)
            refine wpPlan.runs fun K' hK => ?_
            refine step_append_row (m := 1) T43 (by rfl) (.tmp 94) (.tmp 100) (by rfl) (by rfl) Y6.out.rb (by rfl) (Src.ofBlock T43 (m := 1) (c := 1) ob (by rfl) (by simp [Value.oneCell'])) (by have := BN.out; simp [maxLen]; omega) (by have := BN.out; omega) ?_
            intro v7 w7 r7 s7 g7
            refine hK.out _ _ (WAY.out _ (al.none.then_ s7)) ?_
            clear hK K'
            have Y7 := Lib.hid (Y6.out.turnB (B' := D ++ [Itm.ofTell tt]) s7 (by rw [List.length_append, flatI_app]; exact r7) g7)
            have U7 := Lib.hid (((NL.out _ (al.none.then_ s7)).2).step ((Step.refl (· = bs) w7).setCell (p := ⟨bs, 1, none⟩) (fun _ => rfl) v7) (NWS.out _ (al.none.then_ s7)))
            have fz7 := blk_frozen (s7.blk Y6.out.ways (Y6.out.rb.ne Y6.out.ways (by decide))) 1
            have HT := WAY.out _ (al.none.then_ s7)
            obtain ⟨⟨m0, m1, m2, m3⟩, -⟩ := HT
            obtain ⟨vo7, vc7, rfl, -, -⟩ := r7.form
            clear Y6 hY hU NL WAY NWS al ob dr r7 s7 g7
            repeat (first | (refine wpPlan.taken (by rfl) (fun w' hS' => run_load_op rfl rfl hS'.2) ?_; simp only [Act.put, List.setIfInBounds_toArray, List.set_cons_zero, List.set_cons_succ]) | (refine wpPlan.taken (by rfl) (by intro w' hS'; (try dsimp only at hS'); go_split_ands; go_simp; try with_reducible rfl) ?_; simp only [Act.put, List.setIfInBounds_toArray, List.set_cons_zero, List.set_cons_succ]) | (refine wpPlan.passed (by rfl) ?_; simp only [Act.put, List.setIfInBounds_toArray, List.set_cons_zero, List.set_cons_succ]))
            refine wpPlan.ends fun K' hK => ?_
            go_simp
            refine hK.out _ _ ?_
            clear hK K' fz7 m0 m1 m2 m3
            go_wp2_with fail
            go_roundw
            case rel => exact ⟨j + 1, by omega, by first | rfl | simp, U7, _, by rw [NX.out, List.map_append, ← List.append_assoc, HD.out]; exact Y7⟩
            case measure => simp [intOf]; omega
        · obtain ⟨k0, k1, -, -⟩ := hY.out.here
          go_wp2_with fail
          refine (start_any h c t _ 0 hT.out.ok hY.out.two).mono ?_
          rintro e w5 ⟨ul, rfl, t5, r5, s5⟩
          have Y5 := Lib.hid (hY.out.next2 s5 r5)
          have U5 := Lib.hid (t5.mono (Nat.zero_le _))
          have LL : Hid (t.start.2.length ≤ 3) := Lib.hid (by rw [Shk.start_count, hT.out.len]; exact Nat.le_refl _)
          obtain ⟨uo, uc, rfl, -, -⟩ := t5.row.form
          clear t5 r5 s5 k0 k1 hY
          have hl0 : ∃ l, t.start.2 = l := ⟨_, rfl⟩
          obtain ⟨l, hl⟩ := hl0
          rw [hl] at U5 LL ⊢
          have HL := Lib.hid hl
          clear hl
          have hU := U5
          have hY := Y5
          obtain ⟨xo, xc, hxv, -, -⟩ := hY.out.rb.form
          subst hxv
          clear U5 Y5
          have OB : Hid (([] : List Itm).length ≤ 10) := Lib.hid (by simp)
          have hli : ((l.length : Nat) : Int) ≤ 9223372036854775807 := by have := LL.out; omega
          go_wp2_with fail
          go_loopw [14] (fun tj wr => ∃ j : Nat, j ≤ l.length ∧ tj = .int .i64 j ∧ Hid (Tells wr 0 (.slice uo l.length uc) l) ∧ ∃ u', Hid (Way w wr g b h c bx bs s.start.1 t.start.1 u' (.slice xo (s.start.2.map Itm.ofTell).length xc) ([] ++ (l.take j).map Itm.ofTell) (s.start.2.map Itm.ofTell))) (fun tj _ => l.length - (intOf tj).toNat)
          case atStart => exact ⟨0, by omega, rfl, hU, _, by simpa using hY⟩
          case round =>
            clear hU hY
            obtain ⟨j, hj, rfl, hU, u', hY⟩ := hrel
            rename_i wr
            cases c1 : decide ((j : Int) < (l.length : Int))
            · have c1' : decide (j < l.length) = false := by simp at c1 ⊢; omega
              have hin : j = l.length := by simp at c1; omega
              rw [hin, List.take_length] at hY
              clear hin hU
              go_wp2_with fail
              go_roundw
              case rel => exact ⟨2, by first | rfl | simp, .inr (.inr ⟨rfl, s, t, _, _, by rw [HL.out]; simpa using hY, hS, hT⟩)⟩
              case measure => simp [intOf]
            have hlt : j < l.length := by simp at c1; omega
            have c1' : decide (j < l.length) = true := by simpa using hlt
            obtain ⟨D, hD⟩ : ∃ D, [] ++ (l.take j).map Itm.ofTell = D := ⟨_, rfl⟩
            rw [hD] at hY
            have BN : Hid (D.length ≤ 1000010) := Lib.hid (by have := LL.out; have := OB.out; rw [← hD, List.length_append, List.length_map, List.length_take]; omega)
            have HD := Lib.hid hD
            clear hD
            obtain ⟨tt, htt⟩ : ∃ tt, l[j]? = some tt := ⟨_, List.getElem?_eq_getElem hlt⟩
            have NX : Hid (l.take (j + 1) = l.take j ++ [tt]) := Lib.hid (by rw [List.take_add_one, htt]; rfl)
            obtain ⟨zo, zc, rfl, -, -⟩ := hY.out.ra.form
            obtain ⟨b9, o9, k9, e9, hl9, h9⟩ := tells_load hU.out htt
            simp only [Value.slice.injEq] at e9
            obtain ⟨rfl, -, rfl⟩ := e9
            have NL : Hid (∀ w', Step (Leads (.slice zo D.length zc)) wr w' → (Instr.loadAt 35 (.pointer (some ⟨b9, o9 + j * 11, none⟩))).run Tryd.prog w' = .ok (.agg #[.int .i64 tt.kind, .int .i64 0, .int .u8 0, .int .u8 0, .int .u8 0, .int .u8 0, .int .u8 0, .int .u8 0, .int .i64 tt.port, .int .i64 tt.state, .slice none 0 0]) w' ∧ Tells w' 0 (.slice (some ⟨b9, o9, none⟩) l.length uc) l) := Lib.hid (fun w' h' => by
              have hU2 := hU.out.step h' (fun k hk => by
                obtain ⟨cur, hcur⟩ := hU.out.row.typed hk
                exact hY.out.ra.ne hcur (by decide))
              obtain ⟨x1, y1, z1, q1, -, f1⟩ := tells_load hU2 htt
              simp only [Value.slice.injEq, Option.some.injEq, Addr.mk.injEq] at q1
              obtain ⟨⟨rfl, rfl, -⟩, -, -⟩ := q1
              exact ⟨f1, hU2⟩)
            have j0 : (0 : Int) ≤ (j : Int) := by omega
            have j1 : (j : Int) < (l.length : Int) := by omega
            have WAY := Lib.hid (fun w' (h' : Step (Leads (.slice zo D.length zc)) wr w') => And.intro (hY.out.cells hY.out.ra h') (NL.out w' h').1)
            have NWS : Hid (∀ w', Step (Leads (.slice zo D.length zc)) wr w' → ∀ k, Leads (.slice (some ⟨b9, o9, none⟩) l.length uc) k → ¬ k = bs) := Lib.hid (fun w' h' k hk e => by
              obtain ⟨cur, hcur⟩ := hU.out.row.typed hk
              subst e
              exact blk_ne hY.out.ways hcur (by decide) rfl)
            clear htt hl9 h9
            have dr : Step None wr wr.drew := (Step.refl None wr).drew
            have al := dr.alloc (.cells #[.int .i64 tt.kind, .int .i64 0, .int .u8 0, .int .u8 0, .int .u8 0, .int .u8 0, .int .u8 0, .int .u8 0, .int .i64 tt.port, .int .i64 tt.state, .slice none 0 0, .bool false, .bool false, .bool false, .bool false, .bool false] 53)
            have ob : (wr.drew.alloc (.cells #[.int .i64 tt.kind, .int .i64 0, .int .u8 0, .int .u8 0, .int .u8 0, .int .u8 0, .int .u8 0, .int .u8 0, .int .i64 tt.port, .int .i64 tt.state, .slice none 0 0, .bool false, .bool false, .bool false, .bool false, .bool false] 53)).heap[wr.heap.size]? = some (.cells #[.int .i64 tt.kind, .int .i64 0, .int .u8 0, .int .u8 0, .int .u8 0, .int .u8 0, .int .u8 0, .int .u8 0, .int .i64 tt.port, .int .i64 tt.state, .slice none 0 0, .bool false, .bool false, .bool false, .bool false, .bool false] 53 (0, 0)) := heap_alloc_new wr.drew (.cells #[.int .i64 tt.kind, .int .i64 0, .int .u8 0, .int .u8 0, .int .u8 0, .int .u8 0, .int .u8 0, .int .u8 0, .int .i64 tt.port, .int .i64 tt.state, .slice none 0 0, .bool false, .bool false, .bool false, .bool false, .bool false] 53)
            go_wp2_with fail
            refine wp_region_plan (fun w' => (w'.cell? ⟨bx, 0, none⟩ = some (.pointer (some ⟨g, 0, none⟩)) ∧ w'.cell? ⟨bx, 1, none⟩ = some (.pointer (some ⟨h, 0, none⟩)) ∧ w'.cell? ⟨bs, 0, none⟩ = some (.slice zo D.length zc) ∧ w'.cell? ⟨bs, 1, none⟩ = some (.slice xo (s.start.2.map Itm.ofTell).length xc)) ∧ (Instr.loadAt 35 (.pointer (some ⟨b9, o9 + j * 11, none⟩))).run Tryd.prog w' = .ok (.agg #[.int .i64 tt.kind, .int .i64 0, .int .u8 0, .int .u8 0, .int .u8 0, .int .u8 0, .int .u8 0, .int .u8 0, .int .i64 tt.port, .int .i64 tt.state, .slice none 0 0]) w') (.take 0 (.take 1 (.take 2 (.take 3 (.take 4 (.take 5 (.take 6 (.take 7 (.take 8 (.take 9 (.take 10 (.alt 11 (.alt 12 (.take 13 (.last 14)) .none) .none)))))))))))) _
              (by simp only [Plan.map, opOf, List.getElem?_toArray, List.getElem?_cons_zero, List.getElem?_cons_succ, Option.getD_some]; rfl) (by kernel_rfl) (by kernel_rfl) (by kernel_rfl) (by decide) (by intro c a d v w; cases d <;> exact fun h => h)
              (WAY.out _ dr.none) ?_
            (refine wpPlan.taken (by rfl) (by intro w' hS'; (try dsimp only at hS'); go_split_ands; go_simp; try with_reducible rfl) ?_; simp only [Act.put, List.setIfInBounds_toArray, List.set_cons_zero, List.set_cons_succ])
            refine wpPlan.taken (v := .int .i64 0) (by rfl) (by intro w' hS'; go_simp; rfl) ?_; simp only [Act.put, List.setIfInBounds_toArray, List.set_cons_zero, List.set_cons_succ]
            (refine wpPlan.taken (by rfl) (by intro w' hS'; (try dsimp only at hS'); go_split_ands; go_simp; try with_reducible rfl) ?_; simp only [Act.put, List.setIfInBounds_toArray, List.set_cons_zero, List.set_cons_succ])
            refine wpPlan.taken (v := .int .i64 0) (by rfl) (by intro w' hS'; go_simp; rfl) ?_; simp only [Act.put, List.setIfInBounds_toArray, List.set_cons_zero, List.set_cons_succ]
            repeat (first | (refine wpPlan.taken (by rfl) (fun w' hS' => run_load_op rfl rfl hS'.2) ?_; simp only [Act.put, List.setIfInBounds_toArray, List.set_cons_zero, List.set_cons_succ]) | (refine wpPlan.taken (by rfl) (by intro w' hS'; (try dsimp only at hS'); go_split_ands; go_simp; try with_reducible rfl) ?_; simp only [Act.put, List.setIfInBounds_toArray, List.set_cons_zero, List.set_cons_succ]) | (refine wpPlan.passed (by rfl) ?_; simp only [Act.put, List.setIfInBounds_toArray, List.set_cons_zero, List.set_cons_succ]))
            refine wpPlan.runs fun K' hK => ?_
            go_simp
            refine hK.out _ _ (WAY.out _ al.none) ?_
            clear hK K'
            have Y6 := Lib.hid (hY.out.still al)
            refine wpPlan.runs fun K' hK => ?_
            refine step_append_row (m := 1) T43 (by rfl) (.tmp 94) (.tmp 100) (by rfl) (by rfl) Y6.out.ra (by rfl) (Src.ofBlock T43 (m := 1) (c := 1) ob (by rfl) (by simp [Value.oneCell'])) (by have := BN.out; simp [maxLen]; omega) (by have := BN.out; omega) ?_
            intro v7 w7 r7 s7 g7
            refine hK.out _ _ (WAY.out _ (al.none.then_ s7)) ?_
            clear hK K'
            have Y7 := Lib.hid (Y6.out.turnA (A' := D ++ [Itm.ofTell tt]) s7 (by rw [List.length_append, flatI_app]; exact r7) g7)
            have U7 := Lib.hid (((NL.out _ (al.none.then_ s7)).2).step ((Step.refl (· = bs) w7).setCell (p := ⟨bs, 0, none⟩) (fun _ => rfl) v7) (NWS.out _ (al.none.then_ s7)))
            have fz7 := blk_frozen (s7.blk Y6.out.ways (Y6.out.ra.ne Y6.out.ways (by decide))) 0
            have HT := WAY.out _ (al.none.then_ s7)
            obtain ⟨⟨m0, m1, m2, m3⟩, -⟩ := HT
            obtain ⟨vo7, vc7, rfl, -, -⟩ := r7.form
            clear Y6 hY hU NL WAY NWS al ob dr r7 s7 g7
            repeat (first | (refine wpPlan.taken (by rfl) (fun w' hS' => run_load_op rfl rfl hS'.2) ?_; simp only [Act.put, List.setIfInBounds_toArray, List.set_cons_zero, List.set_cons_succ]) | (refine wpPlan.taken (by rfl) (by intro w' hS'; (try dsimp only at hS'); go_split_ands; go_simp; try with_reducible rfl) ?_; simp only [Act.put, List.setIfInBounds_toArray, List.set_cons_zero, List.set_cons_succ]) | (refine wpPlan.passed (by rfl) ?_; simp only [Act.put, List.setIfInBounds_toArray, List.set_cons_zero, List.set_cons_succ]))
            refine wpPlan.ends fun K' hK => ?_
            go_simp
            refine hK.out _ _ ?_
            clear hK K' fz7 m0 m1 m2 m3
            go_wp2_with fail
            go_roundw
            case rel => exact ⟨j + 1, by omega, by first | rfl | simp, U7, _, by rw [NX.out, List.map_append, ← List.append_assoc, HD.out]; exact Y7⟩
            case measure => simp [intOf]; omega
        · have hC : Hid (Gm.Calm s.start.1 t.start.1 (t.start.2.map Itm.ofTell) (s.start.2.map Itm.ofTell)) := Lib.hid (Calm.started hS.out.len hT.out.len)
          have hO : Hid (s.start.1.Ok 63 ∧ t.start.1.Ok 63) := Lib.hid ⟨Shk.start_ok hS.out.ok, Shk.start_ok hT.out.ok⟩
          have hN : Hid ((t.start.2.map Itm.ofTell).length ≤ 3 ∧ (s.start.2.map Itm.ofTell).length ≤ 3) := Lib.hid (by rw [List.length_map, List.length_map, Shk.start_count, Shk.start_count, hS.out.len, hT.out.len]; exact ⟨Nat.le_refl _, Nat.le_refl _⟩)
          clear hS hT
          generalize s.start.1 = s1 at *
          generalize t.start.1 = t1 at *
          generalize t.start.2.map Itm.ofTell = A0 at *
          generalize s.start.2.map Itm.ofTell = B0 at *
          go_wp2_with fail
          go_loopw [15] (fun ti wr => ∃ i : Nat, i ≤ len ∧ i ≤ 300 ∧ ti = .int .i64 i ∧ ∃ (s t : Shk) (va vb : Value) (A B : List Itm), Hid (Way w wr g b h c bx bs s t va vb A B) ∧ Hid (Gm.Calm s t A B) ∧ Hid (s.Ok (63 + (i : Int)) ∧ t.Ok (63 + (i : Int))) ∧ Hid (A.length ≤ 3 + 2 * i ∧ B.length ≤ 3 + 2 * i)) (fun ti _ => len - (intOf ti).toNat)
          case atStart => exact ⟨0, by omega, by omega, rfl, s1, t1, va, vb, A0, B0, hY, hC, by simpa using hO, by simpa using hN⟩
          case round =>
            clear hY hC hO hN s1 t1 A0 B0 va vb
            obtain ⟨i, hi, h300, rfl, s, t, va, vb, A, B, hY, hC, hO, hN⟩ := hrel
            rename_i wr
            have ST := Lib.hid hY.out.st
            cases d1 : decide ((i : Int) < (len : Int))
            · have d1' : decide (i < len) = false := by simpa using d1
              go_wp2_with fail
              go_ret
              exact ⟨rfl, ST.out.toBelow⟩
            have hlt : i < len := by simpa using d1
            have d1' : decide (i < len) = true := by simpa using d1
            cases d2 : decide ((i : Int) < 300)
            · go_wp2_with fail
              go_ret
              exact ⟨rfl, ST.out.toBelow⟩
            have hl3 : i < 300 := by simp at d2; omega
            obtain ⟨b0, off, op, kk, z, rfl, c0, c1, c2⟩ := HROWS.out i hlt
            rw [Nat.add_zero] at c0
            have CE : Hid (∀ w', Step None w w' → w'.cell? ⟨b0, off + i * 3, none⟩ = some (.int .i64 op) ∧ w'.cell? ⟨b0, off + i * 3 + 1, none⟩ = some (.int .i64 kk) ∧ w'.cell? ⟨b0, off + i * 3 + 2, none⟩ = some (.int .i64 z)) := Lib.hid (fun w' h' =>
              ⟨(h'.cell (p := ⟨b0, off + i * 3, none⟩) (World.block_lt_of_cell? _ _ c0) (fun s => s.elim)).trans c0, (h'.cell (p := ⟨b0, off + i * 3 + 1, none⟩) (World.block_lt_of_cell? _ _ c1) (fun s => s.elim)).trans c1, (h'.cell (p := ⟨b0, off + i * 3 + 2, none⟩) (World.block_lt_of_cell? _ _ c2) (fun s => s.elim)).trans c2⟩)
            clear c0 c1 c2
            obtain ⟨kz, hkz⟩ : ∃ kz, bits BinOp.and IntKind.i64 kk 1 = kz := ⟨_, rfl⟩
            have h01 : kz = 0 ∨ kz = 1 := by rw [← hkz, and_1]; omega
            have HKZ := Lib.hid hkz
            rcases h01 with rfl | rfl
            · by_cases o0 : op = 0
              · subst o0
                refine once_0_0 (op := 0) ?_ CE.out (by intro c a d v w; cases d <;> exact fun h => h) HKZ.out hlt hl3 hlen hY hC hO hN
                intro u2 u16 u17 u18 u19 u20 u21 u22 u103 u104 u105 u106 u107 u108 u109 u110 u111 u112 u113 u114 u115 u116 u117 u118 u119 u120 u121 u122 u123 u124 u125 u126 u127 u128 u129 u130 u131 u132 u133 u134 u135 u136 u137 u138 u139 u140 u141 u142 u143 u144 u145 u146 u147 u148 u149 u150 u151 u152 u153 u154 u155 u156 u157 u158 u159 u160 u161 u162 u163 u164 u165 u166 u167 u168 u169 u170 u171 u172 u173 u174 u175 u176 u177 u178 u179 u180 u181 u182 u183 u184 u185 u186 u187 u188 u189 u190 u191 u192 u193 u194 u195 u196 u197 u198 u199 u200 u201 u202 u203 u204
                intro wr s t va vb A B hY hC hO hN
                dsimp only
                go_roundw
                case rel => exact ⟨i + 1, by omega, by omega, by first | rfl | simp, s, t, va, vb, A, B, hY, hC, hO, hN⟩
                case measure => simp [intOf]; omega
              by_cases o1 : op = 1
              · subst o1
                refine once_1_0 (op := 1) ?_ CE.out (by intro c a d v w; cases d <;> exact fun h => h) HKZ.out hlt hl3 hlen hY hC hO hN
                intro u2 u16 u17 u18 u19 u20 u21 u22 u103 u104 u105 u106 u107 u108 u109 u110 u111 u112 u113 u114 u115 u116 u117 u118 u119 u120 u121 u122 u123 u124 u125 u126 u127 u128 u129 u130 u131 u132 u133 u134 u135 u136 u137 u138 u139 u140 u141 u142 u143 u144 u145 u146 u147 u148 u149 u150 u151 u152 u153 u154 u155 u156 u157 u158 u159 u160 u161 u162 u163 u164 u165 u166 u167 u168 u169 u170 u171 u172 u173 u174 u175 u176 u177 u178 u179 u180 u181 u182 u183 u184 u185 u186 u187 u188 u189 u190 u191 u192 u193 u194 u195 u196 u197 u198 u199 u200 u201 u202 u203 u204
                intro wr s t va vb A B hY hC hO hN
                dsimp only
                go_roundw
                case rel => exact ⟨i + 1, by omega, by omega, by first | rfl | simp, s, t, va, vb, A, B, hY, hC, hO, hN⟩
                case measure => simp [intOf]; omega
              by_cases o2 : op = 2
              · subst o2
                refine once_2_0 (op := 2) ?_ CE.out (by intro c a d v w; cases d <;> exact fun h => h) HKZ.out hlt hl3 hlen hY hC hO hN
                intro u2 u16 u17 u18 u19 u20 u21 u22 u103 u104 u105 u106 u107 u108 u109 u110 u111 u112 u113 u114 u115 u116 u117 u118 u119 u120 u121 u122 u123 u124 u125 u126 u127 u128 u129 u130 u131 u132 u133 u134 u135 u136 u137 u138 u139 u140 u141 u142 u143 u144 u145 u146 u147 u148 u149 u150 u151 u152 u153 u154 u155 u156 u157 u158 u159 u160 u161 u162 u163 u164 u165 u166 u167 u168 u169 u170 u171 u172 u173 u174 u175 u176 u177 u178 u179 u180 u181 u182 u183 u184 u185 u186 u187 u188 u189 u190 u191 u192 u193 u194 u195 u196 u197 u198 u199 u200 u201 u202 u203 u204
                intro wr s t va vb A B hY hC hO hN
                dsimp only
                go_roundw
                case rel => exact ⟨i + 1, by omega, by omega, by first | rfl | simp, s, t, va, vb, A, B, hY, hC, hO, hN⟩
                case measure => simp [intOf]; omega
              refine once_3_0 (op := op) ?_ CE.out (by intro c a d v w; cases d <;> exact fun h => h) HKZ.out (by simpa using o0) (by simpa using o1) (by simpa using o2) hlt hl3 hlen hY hC hO hN
              intro u2 u16 u17 u18 u19 u20 u21 u22 u103 u104 u105 u106 u107 u108 u109 u110 u111 u112 u113 u114 u115 u116 u117 u118 u119 u120 u121 u122 u123 u124 u125 u126 u127 u128 u129 u130 u131 u132 u133 u134 u135 u136 u137 u138 u139 u140 u141 u142 u143 u144 u145 u146 u147 u148 u149 u150 u151 u152 u153 u154 u155 u156 u157 u158 u159 u160 u161 u162 u163 u164 u165 u166 u167 u168 u169 u170 u171 u172 u173 u174 u175 u176 u177 u178 u179 u180 u181 u182 u183 u184 u185 u186 u187 u188 u189 u190 u191 u192 u193 u194 u195 u196 u197 u198 u199 u200 u201 u202 u203 u204
              intro wr s t va vb A B hY hC hO hN
              dsimp only
              go_roundw
              case rel => exact ⟨i + 1, by omega, by omega, by first | rfl | simp, s, t, va, vb, A, B, hY, hC, hO, hN⟩
              case measure => simp [intOf]; omega
            · by_cases o0 : op = 0
              · subst o0
                refine once_0_1 (op := 0) ?_ CE.out (by intro c a d v w; cases d <;> exact fun h => h) HKZ.out hlt hl3 hlen hY hC hO hN
                intro u2 u16 u17 u18 u19 u20 u21 u22 u103 u104 u105 u106 u107 u108 u109 u110 u111 u112 u113 u114 u115 u116 u117 u118 u119 u120 u121 u122 u123 u124 u125 u126 u127 u128 u129 u130 u131 u132 u133 u134 u135 u136 u137 u138 u139 u140 u141 u142 u143 u144 u145 u146 u147 u148 u149 u150 u151 u152 u153 u154 u155 u156 u157 u158 u159 u160 u161 u162 u163 u164 u165 u166 u167 u168 u169 u170 u171 u172 u173 u174 u175 u176 u177 u178 u179 u180 u181 u182 u183 u184 u185 u186 u187 u188 u189 u190 u191 u192 u193 u194 u195 u196 u197 u198 u199 u200 u201 u202 u203 u204
                intro wr s t va vb A B hY hC hO hN
                dsimp only
                go_roundw
                case rel => exact ⟨i + 1, by omega, by omega, by first | rfl | simp, s, t, va, vb, A, B, hY, hC, hO, hN⟩
                case measure => simp [intOf]; omega
              by_cases o1 : op = 1
              · subst o1
                refine once_1_1 (op := 1) ?_ CE.out (by intro c a d v w; cases d <;> exact fun h => h) HKZ.out hlt hl3 hlen hY hC hO hN
                intro u2 u16 u17 u18 u19 u20 u21 u22 u103 u104 u105 u106 u107 u108 u109 u110 u111 u112 u113 u114 u115 u116 u117 u118 u119 u120 u121 u122 u123 u124 u125 u126 u127 u128 u129 u130 u131 u132 u133 u134 u135 u136 u137 u138 u139 u140 u141 u142 u143 u144 u145 u146 u147 u148 u149 u150 u151 u152 u153 u154 u155 u156 u157 u158 u159 u160 u161 u162 u163 u164 u165 u166 u167 u168 u169 u170 u171 u172 u173 u174 u175 u176 u177 u178 u179 u180 u181 u182 u183 u184 u185 u186 u187 u188 u189 u190 u191 u192 u193 u194 u195 u196 u197 u198 u199 u200 u201 u202 u203 u204
                intro wr s t va vb A B hY hC hO hN
                dsimp only
                go_roundw
                case rel => exact ⟨i + 1, by omega, by omega, by first | rfl | simp, s, t, va, vb, A, B, hY, hC, hO, hN⟩
                case measure => simp [intOf]; omega
              by_cases o2 : op = 2
              · subst o2
                refine once_2_1 (op := 2) ?_ CE.out (by intro c a d v w; cases d <;> exact fun h => h) HKZ.out hlt hl3 hlen hY hC hO hN
                intro u2 u16 u17 u18 u19 u20 u21 u22 u103 u104 u105 u106 u107 u108 u109 u110 u111 u112 u113 u114 u115 u116 u117 u118 u119 u120 u121 u122 u123 u124 u125 u126 u127 u128 u129 u130 u131 u132 u133 u134 u135 u136 u137 u138 u139 u140 u141 u142 u143 u144 u145 u146 u147 u148 u149 u150 u151 u152 u153 u154 u155 u156 u157 u158 u159 u160 u161 u162 u163 u164 u165 u166 u167 u168 u169 u170 u171 u172 u173 u174 u175 u176 u177 u178 u179 u180 u181 u182 u183 u184 u185 u186 u187 u188 u189 u190 u191 u192 u193 u194 u195 u196 u197 u198 u199 u200 u201 u202 u203 u204
                intro wr s t va vb A B hY hC hO hN
                dsimp only
                go_roundw
                case rel => exact ⟨i + 1, by omega, by omega, by first | rfl | simp, s, t, va, vb, A, B, hY, hC, hO, hN⟩
                case measure => simp [intOf]; omega
              refine once_3_1 (op := op) ?_ CE.out (by intro c a d v w; cases d <;> exact fun h => h) HKZ.out (by simpa using o0) (by simpa using o1) (by simpa using o2) hlt hl3 hlen hY hC hO hN
              intro u2 u16 u17 u18 u19 u20 u21 u22 u103 u104 u105 u106 u107 u108 u109 u110 u111 u112 u113 u114 u115 u116 u117 u118 u119 u120 u121 u122 u123 u124 u125 u126 u127 u128 u129 u130 u131 u132 u133 u134 u135 u136 u137 u138 u139 u140 u141 u142 u143 u144 u145 u146 u147 u148 u149 u150 u151 u152 u153 u154 u155 u156 u157 u158 u159 u160 u161 u162 u163 u164 u165 u166 u167 u168 u169 u170 u171 u172 u173 u174 u175 u176 u177 u178 u179 u180 u181 u182 u183 u184 u185 u186 u187 u188 u189 u190 u191 u192 u193 u194 u195 u196 u197 u198 u199 u200 u201 u202 u203 u204
              intro wr s t va vb A B hY hC hO hN
              dsimp only
              go_roundw
              case rel => exact ⟨i + 1, by omega, by omega, by first | rfl | simp, s, t, va, vb, A, B, hY, hC, hO, hN⟩
              case measure => simp [intOf]; omega
end Go.Proofs.YthebgpbofjgcoaaDoor
