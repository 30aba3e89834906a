/- ShakeCalm, walked. -/
import Derived.Test.YthebgpbofjgcoaaDoorV0
import Derived.Test.YthebgpbofjgcoaaDoorC1
import Derived.Test.YthebgpbofjgcoaaDoorC2
import Derived.Test.YthebgpbofjgcoaaDoorC3
import Derived.Test.YthebgpbofjgcoaaDoorC4
import Derived.Test.YthebgpbofjgcoaaDoorC5
import Derived.Test.YthebgpbofjgcoaaDoorC7
namespace Go.Gm
theorem weight_len : ∀ l : List Itm, Itm.weight l ≤ 2 * l.length
  | [] => by simp [Itm.weight]
  | x :: r => by
    have := weight_len r
    rw [Itm.weight, List.length_cons]
    split
    · omega
    · split <;> omega
end Go.Gm
namespace Go.Proofs.YthebgpbofjgcoaaDoor
open Go.RowKit Go.Gm

set_option maxRecDepth 10000 in
set_option maxHeartbeats 64000000 in
theorem shakeCalm_walk (v0 : Value) (w : World) (hT : HasAt 0 w) (h0 : Arg w (.slice 3 24 (.arr 3 1 (.int .i64))) v0) :
    Calls Tryd.prog 5 #[v0] w fun e w' => e = .returned (.bool true) ∧ Below w.heap.size w w' := by
  obtain ⟨ao, len, cap, rfl, hcap, hlen, hrows⟩ := rows_arg h0
  clear h0
  have HROWS := Lib.hid hrows
  have T0 := Lib.hid hT.lt
  have T1 := Lib.hid hT
  clear hT hrows
  have N := Lib.hid (fun w => new_ok 3 (by decide) (by decide) w)
  go_enter Tryd.func5, Tryd.ntmps5
  go_wp2_with fail
  refine (awake_any w T1.out).mono ?_
  rintro e w2 ⟨rfl, s2⟩
  have S2 := Lib.hid s2
  have T2 := Lib.hid (T1.out.still s2)
  clear s2
  go_wp2_with fail
  refine (N.out _).mono ?_
  rintro e w3 ⟨g, b, rfl, r3, g3, b3, s3⟩
  have R3 := Lib.hid r3
  have GB := Lib.hid (And.intro g3 b3)
  have T3 := Lib.hid (T2.out.still s3)
  have S3 := Lib.hid (S2.out.then_ s3)
  clear r3 g3 b3 s3
  go_wp2_with fail
  refine (N.out _).mono ?_
  rintro e w4 ⟨h, c, rfl, r4, g4, b4, s4⟩
  have p5 := heap_alloc_new w4 (.cells #[.pointer (some ⟨g, 0, none⟩), .pointer (some ⟨h, 0, none⟩)] 42)
  have s5 := (Step.refl None w4).alloc (.cells #[.pointer (some ⟨g, 0, none⟩), .pointer (some ⟨h, 0, none⟩)] 42)
  obtain ⟨V, hV⟩ : ∃ V, w4.alloc (.cells #[.pointer (some ⟨g, 0, none⟩), .pointer (some ⟨h, 0, none⟩)] 42) = V := ⟨_, rfl⟩
  rw [hV] at p5 s5
  have p6 := heap_alloc_new V (.cells #[.slice none 0 0, .slice none 0 0] 44)
  have s6 := (Step.refl None V).alloc (.cells #[.slice none 0 0, .slice none 0 0] 44)
  obtain ⟨X, hX⟩ : ∃ X, V.alloc (.cells #[.slice none 0 0, .slice none 0 0] 44) = X := ⟨_, rfl⟩
  rw [hX] at p6 s6
  have HV := Lib.hid hV
  have HX := Lib.hid hX
  have y0 : Way w X g b h c w4.heap.size V.heap.size (shk0 3) (shk0 3) (.slice none 0 0) (.slice none 0 0) [] [] := by
    have q1 := S2.out.size
    have q2 := S3.out.size
    have q3 := GB.out
    have q4 := s4.size
    have q5 := s5.size
    have gl := blk_lt R3.out.st
    have bl := blk_lt R3.out.row
    exact ⟨((R3.out.still s4).still s5).still s6, (r4.still s5).still s6, s6.blk p5 (fun s => s.elim), p6, Row.nil _ _ _, Row.nil _ _ _, by omega, by omega, by omega, by omega, by omega,
      fun k hk => by simp [Leads, Value.ownBlock] at hk, fun k hk => by simp [Leads, Value.ownBlock] at hk, fun k hk => by simp [Leads, Value.ownBlock] at hk, by omega, by omega, ((S3.out.then_ s4).then_ s5).then_ s6, ((T3.out.still s4).still s5).still s6, T0.out⟩
  have p7 := heap_alloc_new X (.cells #[.bool false, .bool false, .bool false, .bool false, .bool false, .bool false, .bool false, .bool false] 57)
  have s7 := (Step.refl None X).alloc (.cells #[.bool false, .bool false, .bool false, .bool false, .bool false, .bool false, .bool false, .bool false] 57)
  obtain ⟨Z, hZ⟩ : ∃ Z, X.alloc (.cells #[.bool false, .bool false, .bool false, .bool false, .bool false, .bool false, .bool false, .bool false] 57) = Z := ⟨_, rfl⟩
  rw [hZ] at p7 s7
  have HZ := Lib.hid hZ
  have Y0 := Lib.hid (y0.still s7)
  have P0 := Lib.hid pre0
  have I0 : Hid (Z.heap[X.heap.size]? = some (.cells (isB (shk0 3) (shk0 3)) 57 (0, 0))) := Lib.hid p7
  have SB : Hid (isB (shk0 3).start.1 (shk0 3).start.1 = isB (shk0 3) (shk0 3)) := Lib.hid rfl
  have IBF : Hid (w.heap.size ≤ X.heap.size) := Lib.hid y0.st.size
  clear r4 g4 b4 s4 R3 GB S3 T3 S2 T2 N y0 p5 s5 p6 s6 p7 s7 hV hX hZ T1
  generalize shk0 3 = s0 at *
  go_wp2_with (first | rw [HV.out] | rw [HX.out] | rw [HZ.out])
  clear HV HX HZ
  generalize w4.heap.size = bx at *
  generalize V.heap.size = bs at *
  generalize X.heap.size = ib at *
  go_loopw [11] (fun tk wr => ∃ k : Int, tk = .int .i64 k ∧ ((k = 0 ∧ Hid (Way w wr g b h c bx bs s0 s0 (.slice none 0 0) (.slice none 0 0) [] []) ∧ Hid (wr.heap[ib]? = some (.cells (isB s0 s0) 57 (0, 0)))) ∨ (k = 1 ∧ ∃ vb, Hid (Way w wr g b h c bx bs s0.start.1 s0 (.slice none 0 0) vb [] (s0.start.2.map Itm.ofTell)) ∧ Hid (wr.heap[ib]? = some (.cells (isB s0 s0) 57 (0, 0)))) ∨ (k = 2 ∧ ∃ va vb, Hid (Way w wr g b h c bx bs s0.start.1 s0.start.1 va vb (s0.start.2.map Itm.ofTell) (s0.start.2.map Itm.ofTell)) ∧ Hid (wr.heap[ib]? = some (.cells (isB s0 s0) 57 (0, 0)))))) (fun tk _ => 2 - (intOf tk).toNat)
  case atStart => exact ⟨0, rfl, .inl ⟨rfl, Y0, I0⟩⟩
  case round =>
    clear Y0 I0
    obtain ⟨k, rfl, hk⟩ := hrel
    rename_i wr
    rcases hk with ⟨rfl, hY, hI⟩ | ⟨rfl, vb, hY, hI⟩ | ⟨rfl, va, vb, hY, hI⟩
    · obtain ⟨k0, k1, -, -⟩ := hY.out.here
      go_wp2_with fail
      refine (start_any g b s0 _ 0 P0.out.ok hY.out.one).mono ?_
      rintro e w5 ⟨ul, rfl, t5, r5, s5⟩
      have Y5 := Lib.hid (hY.out.next1 s5 r5)
      have hI5 := Lib.hid (s5.blk hI.out (fun e => e.elim (fun e => blk_ne hI.out hY.out.one.st (by decide) e) (fun e => blk_ne hI.out hY.out.one.row (by decide) e)))
      have U5 := Lib.hid (t5.mono (Nat.zero_le _))
      have LL : Hid (s0.start.2.length ≤ 3) := Lib.hid (by rw [Shk.start_count, P0.out.len]; exact Nat.le_refl _)
      obtain ⟨uo, uc, rfl, -, -⟩ := t5.row.form
      clear t5 r5 s5 k0 k1 hY hI
      have hl0 : ∃ l, s0.start.2 = l := ⟨_, rfl⟩
      obtain ⟨l, hl⟩ := hl0
      rw [hl] at U5 LL ⊢
      have HL := Lib.hid hl
      clear hl
      have hU := U5
      have hY := Y5
      have hI := hI5
      clear U5 Y5 hI5
      have OB : Hid (([] : List Itm).length ≤ 10) := Lib.hid (by simp)
      have hli : ((l.length : Nat) : Int) ≤ 9223372036854775807 := by have := LL.out; omega
      go_wp2_with fail
      go_loopw [13] (fun tj wr => ∃ j : Nat, j ≤ l.length ∧ tj = .int .i64 j ∧ Hid (Tells wr 0 (.slice uo l.length uc) l) ∧ ∃ u', Hid (Way w wr g b h c bx bs s0.start.1 s0 (.slice none 0 0) u' [] ([] ++ (l.take j).map Itm.ofTell)) ∧ Hid (wr.heap[ib]? = some (.cells (isB s0 s0) 57 (0, 0)))) (fun tj _ => l.length - (intOf tj).toNat)
      case atStart => exact ⟨0, by omega, rfl, hU, .slice none 0 0, by simp only [List.take_zero, List.map_nil, List.append_nil]; exact hY, hI⟩
      case round =>
        clear hU hY hI
        obtain ⟨j, hj, rfl, hU, u', hY, hI⟩ := hrel
        rename_i wr
        cases c1 : decide ((j : Int) < (l.length : Int))
        · have c1' : decide (j < l.length) = false := by simp at c1 ⊢; omega
          have hin : j = l.length := by simp at c1; omega
          rw [hin, List.take_length] at hY
          clear hin hU
          go_wp2_with fail
          go_roundw
          case rel => exact ⟨1, by first | rfl | simp, .inr (.inl ⟨rfl, _, by rw [HL.out]; simpa using hY, hI⟩)⟩
          case measure => simp [intOf]
        have hlt : j < l.length := by simp at c1; omega
        have c1' : decide (j < l.length) = true := by simpa using hlt
        obtain ⟨D, hD⟩ : ∃ D, [] ++ (l.take j).map Itm.ofTell = D := ⟨_, rfl⟩
        rw [hD] at hY
        have BN : Hid (D.length ≤ 1000010) := Lib.hid (by have := LL.out; have := OB.out; rw [← hD, List.length_append, List.length_map, List.length_take]; omega)
        have HD := Lib.hid hD
        clear hD
        obtain ⟨tt, htt⟩ : ∃ tt, l[j]? = some tt := ⟨_, List.getElem?_eq_getElem hlt⟩
        have NX : Hid (l.take (j + 1) = l.take j ++ [tt]) := Lib.hid (by rw [List.take_add_one, htt]; rfl)
        obtain ⟨zo, zc, rfl, -, -⟩ := hY.out.rb.form
        obtain ⟨b9, o9, k9, e9, hl9, h9⟩ := tells_load hU.out htt
        simp only [Value.slice.injEq] at e9
        obtain ⟨rfl, -, rfl⟩ := e9
        have NL : Hid (∀ w', Step (Leads (.slice zo D.length zc)) wr w' → (Instr.loadAt 35 (.pointer (some ⟨b9, o9 + j * 11, none⟩))).run Tryd.prog w' = .ok (.agg #[.int .i64 tt.kind, .int .i64 0, .int .u8 0, .int .u8 0, .int .u8 0, .int .u8 0, .int .u8 0, .int .u8 0, .int .i64 tt.port, .int .i64 tt.state, .slice none 0 0]) w' ∧ Tells w' 0 (.slice (some ⟨b9, o9, none⟩) l.length uc) l) := Lib.hid (fun w' h' => by
          have hU2 := hU.out.step h' (fun k hk => by
            obtain ⟨cur, hcur⟩ := hU.out.row.typed hk
            exact hY.out.rb.ne hcur (by decide))
          obtain ⟨x1, y1, z1, q1, -, f1⟩ := tells_load hU2 htt
          simp only [Value.slice.injEq, Option.some.injEq, Addr.mk.injEq] at q1
          obtain ⟨⟨rfl, rfl, -⟩, -, -⟩ := q1
          exact ⟨f1, hU2⟩)
        have j0 : (0 : Int) ≤ (j : Int) := by omega
        have j1 : (j : Int) < (l.length : Int) := by omega
        have WAY := Lib.hid (fun w' (h' : Step (Leads (.slice zo D.length zc)) wr w') => And.intro (hY.out.cells hY.out.rb h') (NL.out w' h').1)
        have NWS : Hid (∀ w', Step (Leads (.slice zo D.length zc)) wr w' → ∀ k, Leads (.slice (some ⟨b9, o9, none⟩) l.length uc) k → ¬ k = bs) := Lib.hid (fun w' h' k hk e => by
          obtain ⟨cur, hcur⟩ := hU.out.row.typed hk
          subst e
          exact blk_ne hY.out.ways hcur (by decide) rfl)
        clear htt hl9 h9
        have dr : Step None wr wr.drew := (Step.refl None wr).drew
        have al := dr.alloc (.cells #[.int .i64 tt.kind, .int .i64 0, .int .u8 0, .int .u8 0, .int .u8 0, .int .u8 0, .int .u8 0, .int .u8 0, .int .i64 tt.port, .int .i64 tt.state, .slice none 0 0, .bool false, .bool false, .bool false, .bool false, .bool false] 53)
        have ob : (wr.drew.alloc (.cells #[.int .i64 tt.kind, .int .i64 0, .int .u8 0, .int .u8 0, .int .u8 0, .int .u8 0, .int .u8 0, .int .u8 0, .int .i64 tt.port, .int .i64 tt.state, .slice none 0 0, .bool false, .bool false, .bool false, .bool false, .bool false] 53)).heap[wr.heap.size]? = some (.cells #[.int .i64 tt.kind, .int .i64 0, .int .u8 0, .int .u8 0, .int .u8 0, .int .u8 0, .int .u8 0, .int .u8 0, .int .i64 tt.port, .int .i64 tt.state, .slice none 0 0, .bool false, .bool false, .bool false, .bool false, .bool false] 53 (0, 0)) := heap_alloc_new wr.drew (.cells #[.int .i64 tt.kind, .int .i64 0, .int .u8 0, .int .u8 0, .int .u8 0, .int .u8 0, .int .u8 0, .int .u8 0, .int .i64 tt.port, .int .i64 tt.state, .slice none 0 0, .bool false, .bool false, .bool false, .bool false, .bool false] 53)
        go_wp2_with fail
        refine wp_region_plan (fun w' => (w'.cell? ⟨bx, 0, none⟩ = some (.pointer (some ⟨g, 0, none⟩)) ∧ w'.cell? ⟨bx, 1, none⟩ = some (.pointer (some ⟨h, 0, none⟩)) ∧ w'.cell? ⟨bs, 0, none⟩ = some (.slice none 0 0) ∧ w'.cell? ⟨bs, 1, none⟩ = some (.slice zo D.length zc)) ∧ (Instr.loadAt 35 (.pointer (some ⟨b9, o9 + j * 11, none⟩))).run Tryd.prog w' = .ok (.agg #[.int .i64 tt.kind, .int .i64 0, .int .u8 0, .int .u8 0, .int .u8 0, .int .u8 0, .int .u8 0, .int .u8 0, .int .i64 tt.port, .int .i64 tt.state, .slice none 0 0]) w') (.take 0 (.take 1 (.take 2 (.take 3 (.take 4 (.take 5 (.take 6 (.take 7 (.take 8 (.take 9 (.take 10 (.alt 11 (.alt 12 (.take 13 (.last 14)) .none) .none)))))))))))) _
          (by simp only [Plan.map, opOf, List.getElem?_toArray, List.getElem?_cons_zero, List.getElem?_cons_succ, Option.getD_some]; rfl) (by kernel_rfl) (by kernel_rfl) (by kernel_rfl) (by decide) (by intro c a d v w; cases d <;> exact fun h => h)
          (WAY.out _ dr.none) ?_
        (refine wpPlan.taken (by rfl) (by intro w' hS'; (try dsimp only at hS'); go_split_ands; go_simp; try with_reducible rfl) ?_; simp only [Act.put, List.setIfInBounds_toArray, List.set_cons_zero, List.set_cons_succ])
        refine wpPlan.taken (v := .int .i64 1) (by rfl) (by intro w' hS'; go_simp; rfl) ?_; simp only [Act.put, List.setIfInBounds_toArray, List.set_cons_zero, List.set_cons_succ]
        (refine wpPlan.taken (by rfl) (by intro w' hS'; (try dsimp only at hS'); go_split_ands; go_simp; try with_reducible rfl) ?_; simp only [Act.put, List.setIfInBounds_toArray, List.set_cons_zero, List.set_cons_succ])
        refine wpPlan.taken (v := .int .i64 1) (by rfl) (by intro w' hS'; go_simp; rfl) ?_; simp only [Act.put, List.setIfInBounds_toArray, List.set_cons_zero, List.set_cons_succ]
        repeat (first | (refine wpPlan.taken (by rfl) (fun w' hS' => run_load_op rfl rfl hS'.2) ?_; simp only [Act.put, List.setIfInBounds_toArray, List.set_cons_zero, List.set_cons_succ]) | (refine wpPlan.taken (by rfl) (by intro w' hS'; (try dsimp only at hS'); go_split_ands; go_simp; try with_reducible rfl) ?_; simp only [Act.put, List.setIfInBounds_toArray, List.set_cons_zero, List.set_cons_succ]) | (refine wpPlan.passed (by rfl) ?_; simp only [Act.put, List.setIfInBounds_toArray, List.set_cons_zero, List.set_cons_succ]))
        refine wpPlan.runs fun K' hK => ?_
        go_simp
        refine hK.out _ _ (WAY.out _ al.none) ?_
        clear hK K'
        have Y6 := Lib.hid (hY.out.still al)
        refine wpPlan.runs fun K' hK => ?_
        refine step_append_row (m := 1) T43 (by rfl) (.tmp 66) (.tmp 72) (by rfl) (by rfl) Y6.out.rb (by rfl) (Src.ofBlock T43 (m := 1) (c := 1) ob (by rfl) (by simp [Value.oneCell'])) (by have := BN.out; simp [maxLen]; omega) (by have := BN.out; omega) ?_
        intro v7 w7 r7 s7 g7
        refine hK.out _ _ (WAY.out _ (al.none.then_ s7)) ?_
        clear hK K'
        have Y7 := Lib.hid (Y6.out.turnB (B' := D ++ [Itm.ofTell tt]) s7 (by rw [List.length_append, flatI_app]; exact r7) g7)
        have U7 := Lib.hid (((NL.out _ (al.none.then_ s7)).2).step ((Step.refl (· = bs) w7).setCell (p := ⟨bs, 1, none⟩) (fun _ => rfl) v7) (NWS.out _ (al.none.then_ s7)))
        have i1 := al.blk hI.out (fun s => s.elim)
        have i2 := s7.blk i1 (Y6.out.rb.ne i1 (by decide))
        have I7 := Lib.hid (((Step.refl (· = bs) w7).setCell (p := ⟨bs, 1, none⟩) (fun _ => rfl) v7).blk i2 (fun e => blk_ne i2 (s7.blk Y6.out.ways (Y6.out.rb.ne Y6.out.ways (by decide))) (by decide) e))
        clear i1 i2
        have fz7 := blk_frozen (s7.blk Y6.out.ways (Y6.out.rb.ne Y6.out.ways (by decide))) 1
        have HT := WAY.out _ (al.none.then_ s7)
        obtain ⟨⟨m0, m1, m2, m3⟩, -⟩ := HT
        obtain ⟨vo7, vc7, rfl, -, -⟩ := r7.form
        clear hI Y6 hY hU NL WAY NWS al ob dr r7 s7 g7
        repeat (first | (refine wpPlan.taken (by rfl) (fun w' hS' => run_load_op rfl rfl hS'.2) ?_; simp only [Act.put, List.setIfInBounds_toArray, List.set_cons_zero, List.set_cons_succ]) | (refine wpPlan.taken (by rfl) (by intro w' hS'; (try dsimp only at hS'); go_split_ands; go_simp; try with_reducible rfl) ?_; simp only [Act.put, List.setIfInBounds_toArray, List.set_cons_zero, List.set_cons_succ]) | (refine wpPlan.passed (by rfl) ?_; simp only [Act.put, List.setIfInBounds_toArray, List.set_cons_zero, List.set_cons_succ]))
        refine wpPlan.ends fun K' hK => ?_
        go_simp
        refine hK.out _ _ ?_
        clear hK K' fz7 m0 m1 m2 m3
        go_wp2_with fail
        go_roundw
        case rel => exact ⟨j + 1, by omega, by first | rfl | simp, U7, _, by rw [NX.out, List.map_append, ← List.append_assoc, HD.out]; exact Y7, I7⟩
        case measure => simp [intOf]; omega
    · obtain ⟨k0, k1, -, -⟩ := hY.out.here
      go_wp2_with fail
      refine (start_any h c s0 _ 0 P0.out.ok hY.out.two).mono ?_
      rintro e w5 ⟨ul, rfl, t5, r5, s5⟩
      have Y5 := Lib.hid (hY.out.next2 s5 r5)
      have hI5 := Lib.hid (s5.blk hI.out (fun e => e.elim (fun e => blk_ne hI.out hY.out.two.st (by decide) e) (fun e => blk_ne hI.out hY.out.two.row (by decide) e)))
      have U5 := Lib.hid (t5.mono (Nat.zero_le _))
      have LL : Hid (s0.start.2.length ≤ 3) := Lib.hid (by rw [Shk.start_count, P0.out.len]; exact Nat.le_refl _)
      obtain ⟨uo, uc, rfl, -, -⟩ := t5.row.form
      clear t5 r5 s5 k0 k1 hY hI
      have hl0 : ∃ l, s0.start.2 = l := ⟨_, rfl⟩
      obtain ⟨l, hl⟩ := hl0
      rw [hl] at U5 LL ⊢
      have HL := Lib.hid hl
      clear hl
      have hU := U5
      have hY := Y5
      have hI := hI5
      clear U5 Y5 hI5
      obtain ⟨xo, xc, hxv, -, -⟩ := hY.out.rb.form
      subst hxv
      have OB : Hid (([] : List Itm).length ≤ 10) := Lib.hid (by simp)
      have hli : ((l.length : Nat) : Int) ≤ 9223372036854775807 := by have := LL.out; omega
      go_wp2_with fail
      go_loopw [13] (fun tj wr => ∃ j : Nat, j ≤ l.length ∧ tj = .int .i64 j ∧ Hid (Tells wr 0 (.slice uo l.length uc) l) ∧ ∃ u', Hid (Way w wr g b h c bx bs s0.start.1 s0.start.1 u' (.slice xo (s0.start.2.map Itm.ofTell).length xc) ([] ++ (l.take j).map Itm.ofTell) (s0.start.2.map Itm.ofTell)) ∧ Hid (wr.heap[ib]? = some (.cells (isB s0 s0) 57 (0, 0)))) (fun tj _ => l.length - (intOf tj).toNat)
      case atStart => exact ⟨0, by omega, rfl, hU, .slice none 0 0, by simp only [List.take_zero, List.map_nil, List.append_nil]; exact hY, hI⟩
      case round =>
        clear hU hY hI
        obtain ⟨j, hj, rfl, hU, u', hY, hI⟩ := hrel
        rename_i wr
        cases c1 : decide ((j : Int) < (l.length : Int))
        · have c1' : decide (j < l.length) = false := by simp at c1 ⊢; omega
          have hin : j = l.length := by simp at c1; omega
          rw [hin, List.take_length] at hY
          clear hin hU
          go_wp2_with fail
          go_roundw
          case rel => exact ⟨2, by first | rfl | simp, .inr (.inr ⟨rfl, _, _, by have h9 := hY; rw [← HL.out] at h9; simpa using h9, hI⟩)⟩
          case measure => simp [intOf]
        have hlt : j < l.length := by simp at c1; omega
        have c1' : decide (j < l.length) = true := by simpa using hlt
        obtain ⟨D, hD⟩ : ∃ D, [] ++ (l.take j).map Itm.ofTell = D := ⟨_, rfl⟩
        rw [hD] at hY
        have BN : Hid (D.length ≤ 1000010) := Lib.hid (by have := LL.out; have := OB.out; rw [← hD, List.length_append, List.length_map, List.length_take]; omega)
        have HD := Lib.hid hD
        clear hD
        obtain ⟨tt, htt⟩ : ∃ tt, l[j]? = some tt := ⟨_, List.getElem?_eq_getElem hlt⟩
        have NX : Hid (l.take (j + 1) = l.take j ++ [tt]) := Lib.hid (by rw [List.take_add_one, htt]; rfl)
        obtain ⟨zo, zc, rfl, -, -⟩ := hY.out.ra.form
        obtain ⟨b9, o9, k9, e9, hl9, h9⟩ := tells_load hU.out htt
        simp only [Value.slice.injEq] at e9
        obtain ⟨rfl, -, rfl⟩ := e9
        have NL : Hid (∀ w', Step (Leads (.slice zo D.length zc)) wr w' → (Instr.loadAt 35 (.pointer (some ⟨b9, o9 + j * 11, none⟩))).run Tryd.prog w' = .ok (.agg #[.int .i64 tt.kind, .int .i64 0, .int .u8 0, .int .u8 0, .int .u8 0, .int .u8 0, .int .u8 0, .int .u8 0, .int .i64 tt.port, .int .i64 tt.state, .slice none 0 0]) w' ∧ Tells w' 0 (.slice (some ⟨b9, o9, none⟩) l.length uc) l) := Lib.hid (fun w' h' => by
          have hU2 := hU.out.step h' (fun k hk => by
            obtain ⟨cur, hcur⟩ := hU.out.row.typed hk
            exact hY.out.ra.ne hcur (by decide))
          obtain ⟨x1, y1, z1, q1, -, f1⟩ := tells_load hU2 htt
          simp only [Value.slice.injEq, Option.some.injEq, Addr.mk.injEq] at q1
          obtain ⟨⟨rfl, rfl, -⟩, -, -⟩ := q1
          exact ⟨f1, hU2⟩)
        have j0 : (0 : Int) ≤ (j : Int) := by omega
        have j1 : (j : Int) < (l.length : Int) := by omega
        have WAY := Lib.hid (fun w' (h' : Step (Leads (.slice zo D.length zc)) wr w') => And.intro (hY.out.cells hY.out.ra h') (NL.out w' h').1)
        have NWS : Hid (∀ w', Step (Leads (.slice zo D.length zc)) wr w' → ∀ k, Leads (.slice (some ⟨b9, o9, none⟩) l.length uc) k → ¬ k = bs) := Lib.hid (fun w' h' k hk e => by
          obtain ⟨cur, hcur⟩ := hU.out.row.typed hk
          subst e
          exact blk_ne hY.out.ways hcur (by decide) rfl)
        clear htt hl9 h9
        have dr : Step None wr wr.drew := (Step.refl None wr).drew
        have al := dr.alloc (.cells #[.int .i64 tt.kind, .int .i64 0, .int .u8 0, .int .u8 0, .int .u8 0, .int .u8 0, .int .u8 0, .int .u8 0, .int .i64 tt.port, .int .i64 tt.state, .slice none 0 0, .bool false, .bool false, .bool false, .bool false, .bool false] 53)
        have ob : (wr.drew.alloc (.cells #[.int .i64 tt.kind, .int .i64 0, .int .u8 0, .int .u8 0, .int .u8 0, .int .u8 0, .int .u8 0, .int .u8 0, .int .i64 tt.port, .int .i64 tt.state, .slice none 0 0, .bool false, .bool false, .bool false, .bool false, .bool false] 53)).heap[wr.heap.size]? = some (.cells #[.int .i64 tt.kind, .int .i64 0, .int .u8 0, .int .u8 0, .int .u8 0, .int .u8 0, .int .u8 0, .int .u8 0, .int .i64 tt.port, .int .i64 tt.state, .slice none 0 0, .bool false, .bool false, .bool false, .bool false, .bool false] 53 (0, 0)) := heap_alloc_new wr.drew (.cells #[.int .i64 tt.kind, .int .i64 0, .int .u8 0, .int .u8 0, .int .u8 0, .int .u8 0, .int .u8 0, .int .u8 0, .int .i64 tt.port, .int .i64 tt.state, .slice none 0 0, .bool false, .bool false, .bool false, .bool false, .bool false] 53)
        go_wp2_with fail
        refine wp_region_plan (fun w' => (w'.cell? ⟨bx, 0, none⟩ = some (.pointer (some ⟨g, 0, none⟩)) ∧ w'.cell? ⟨bx, 1, none⟩ = some (.pointer (some ⟨h, 0, none⟩)) ∧ w'.cell? ⟨bs, 0, none⟩ = some (.slice zo D.length zc) ∧ w'.cell? ⟨bs, 1, none⟩ = some (.slice xo (s0.start.2.map Itm.ofTell).length xc)) ∧ (Instr.loadAt 35 (.pointer (some ⟨b9, o9 + j * 11, none⟩))).run Tryd.prog w' = .ok (.agg #[.int .i64 tt.kind, .int .i64 0, .int .u8 0, .int .u8 0, .int .u8 0, .int .u8 0, .int .u8 0, .int .u8 0, .int .i64 tt.port, .int .i64 tt.state, .slice none 0 0]) w') (.take 0 (.take 1 (.take 2 (.take 3 (.take 4 (.take 5 (.take 6 (.take 7 (.take 8 (.take 9 (.take 10 (.alt 11 (.alt 12 (.take 13 (.last 14)) .none) .none)))))))))))) _
          (by simp only [Plan.map, opOf, List.getElem?_toArray, List.getElem?_cons_zero, List.getElem?_cons_succ, Option.getD_some]; rfl) (by kernel_rfl) (by kernel_rfl) (by kernel_rfl) (by decide) (by intro c a d v w; cases d <;> exact fun h => h)
          (WAY.out _ dr.none) ?_
        (refine wpPlan.taken (by rfl) (by intro w' hS'; (try dsimp only at hS'); go_split_ands; go_simp; try with_reducible rfl) ?_; simp only [Act.put, List.setIfInBounds_toArray, List.set_cons_zero, List.set_cons_succ])
        refine wpPlan.taken (v := .int .i64 0) (by rfl) (by intro w' hS'; go_simp; rfl) ?_; simp only [Act.put, List.setIfInBounds_toArray, List.set_cons_zero, List.set_cons_succ]
        (refine wpPlan.taken (by rfl) (by intro w' hS'; (try dsimp only at hS'); go_split_ands; go_simp; try with_reducible rfl) ?_; simp only [Act.put, List.setIfInBounds_toArray, List.set_cons_zero, List.set_cons_succ])
        refine wpPlan.taken (v := .int .i64 0) (by rfl) (by intro w' hS'; go_simp; rfl) ?_; simp only [Act.put, List.setIfInBounds_toArray, List.set_cons_zero, List.set_cons_succ]
        repeat (first | (refine wpPlan.taken (by rfl) (fun w' hS' => run_load_op rfl rfl hS'.2) ?_; simp only [Act.put, List.setIfInBounds_toArray, List.set_cons_zero, List.set_cons_succ]) | (refine wpPlan.taken (by rfl) (by intro w' hS'; (try dsimp only at hS'); go_split_ands; go_simp; try with_reducible rfl) ?_; simp only [Act.put, List.setIfInBounds_toArray, List.set_cons_zero, List.set_cons_succ]) | (refine wpPlan.passed (by rfl) ?_; simp only [Act.put, List.setIfInBounds_toArray, List.set_cons_zero, List.set_cons_succ]))
        refine wpPlan.runs fun K' hK => ?_
        go_simp
        refine hK.out _ _ (WAY.out _ al.none) ?_
        clear hK K'
        have Y6 := Lib.hid (hY.out.still al)
        refine wpPlan.runs fun K' hK => ?_
        refine step_append_row (m := 1) T43 (by rfl) (.tmp 66) (.tmp 72) (by rfl) (by rfl) Y6.out.ra (by rfl) (Src.ofBlock T43 (m := 1) (c := 1) ob (by rfl) (by simp [Value.oneCell'])) (by have := BN.out; simp [maxLen]; omega) (by have := BN.out; omega) ?_
        intro v7 w7 r7 s7 g7
        refine hK.out _ _ (WAY.out _ (al.none.then_ s7)) ?_
        clear hK K'
        have Y7 := Lib.hid (Y6.out.turnA (A' := D ++ [Itm.ofTell tt]) s7 (by rw [List.length_append, flatI_app]; exact r7) g7)
        have U7 := Lib.hid (((NL.out _ (al.none.then_ s7)).2).step ((Step.refl (· = bs) w7).setCell (p := ⟨bs, 0, none⟩) (fun _ => rfl) v7) (NWS.out _ (al.none.then_ s7)))
        have i1 := al.blk hI.out (fun s => s.elim)
        have i2 := s7.blk i1 (Y6.out.ra.ne i1 (by decide))
        have I7 := Lib.hid (((Step.refl (· = bs) w7).setCell (p := ⟨bs, 0, none⟩) (fun _ => rfl) v7).blk i2 (fun e => blk_ne i2 (s7.blk Y6.out.ways (Y6.out.ra.ne Y6.out.ways (by decide))) (by decide) e))
        clear i1 i2
        have fz7 := blk_frozen (s7.blk Y6.out.ways (Y6.out.ra.ne Y6.out.ways (by decide))) 0
        have HT := WAY.out _ (al.none.then_ s7)
        obtain ⟨⟨m0, m1, m2, m3⟩, -⟩ := HT
        obtain ⟨vo7, vc7, rfl, -, -⟩ := r7.form
        clear hI Y6 hY hU NL WAY NWS al ob dr r7 s7 g7
        repeat (first | (refine wpPlan.taken (by rfl) (fun w' hS' => run_load_op rfl rfl hS'.2) ?_; simp only [Act.put, List.setIfInBounds_toArray, List.set_cons_zero, List.set_cons_succ]) | (refine wpPlan.taken (by rfl) (by intro w' hS'; (try dsimp only at hS'); go_split_ands; go_simp; try with_reducible rfl) ?_; simp only [Act.put, List.setIfInBounds_toArray, List.set_cons_zero, List.set_cons_succ]) | (refine wpPlan.passed (by rfl) ?_; simp only [Act.put, List.setIfInBounds_toArray, List.set_cons_zero, List.set_cons_succ]))
        refine wpPlan.ends fun K' hK => ?_
        go_simp
        refine hK.out _ _ ?_
        clear hK K' fz7 m0 m1 m2 m3
        go_wp2_with fail
        go_roundw
        case rel => exact ⟨j + 1, by omega, by first | rfl | simp, U7, _, by rw [NX.out, List.map_append, ← List.append_assoc, HD.out]; exact Y7, I7⟩
        case measure => simp [intOf]; omega
    · have hC : Hid (Gm.Calm s0.start.1 s0.start.1 (s0.start.2.map Itm.ofTell) (s0.start.2.map Itm.ofTell)) := Lib.hid (Calm.started P0.out.len P0.out.len)
      have hO : Hid (s0.start.1.Ok 63 ∧ s0.start.1.Ok 63) := Lib.hid ⟨Shk.start_ok P0.out.ok, Shk.start_ok P0.out.ok⟩
      have hN : Hid ((s0.start.2.map Itm.ofTell).length ≤ 3 ∧ (s0.start.2.map Itm.ofTell).length ≤ 3) := Lib.hid (by rw [List.length_map, Shk.start_count, P0.out.len]; exact ⟨Nat.le_refl _, Nat.le_refl _⟩)
      rw [← SB.out] at hI
      clear SB P0
      generalize s0.start.2.map Itm.ofTell = A0 at *
      generalize s0.start.1 = s1 at *
      go_wp2_with fail
      go_loopw [14] (fun ti wr => ∃ i : Nat, i ≤ len ∧ i ≤ 200 ∧ ti = .int .i64 i ∧ ∃ (s t : Shk) (va vb : Value) (A B : List Itm), Hid (Way w wr g b h c bx bs s t va vb A B) ∧ Hid (Gm.Calm s t A B) ∧ Hid (s.Ok (63 + (i : Int)) ∧ t.Ok (63 + (i : Int))) ∧ Hid (A.length ≤ 3 + 2 * i ∧ B.length ≤ 3 + 2 * i) ∧ Hid (wr.heap[ib]? = some (.cells (isB s t) 57 (0, 0)))) (fun ti _ => len - (intOf ti).toNat)
      case atStart => exact ⟨0, by omega, by omega, rfl, s1, s1, va, vb, A0, A0, hY, hC, by simpa using hO, by simpa using hN, hI⟩
      case round =>
        clear hY hC hO hN hI
        obtain ⟨i, hi, h200, rfl, s, t, va, vb, A, B, hY, hC, hO, hN, hI⟩ := hrel
        rename_i wr
        have ST := Lib.hid hY.out.st
        cases d1 : decide ((i : Int) < (len : Int))
        · have d1' : decide (i < len) = false := by simpa using d1
          have HW : Hid (Itm.weight A + Itm.weight B ≤ 2000) := Lib.hid (by have := hN.out; have := weight_len A; have := weight_len B; omega)
          have hO3 : Hid (s.Ok 300 ∧ t.Ok 300) := Lib.hid ⟨hO.out.1.mono (by omega), hO.out.2.mono (by omega)⟩
          clear hO hN
          have hO := hO3
          clear hO3
          go_wp2_with fail
          go_loopg [21] (Itm.weight A + Itm.weight B) (fun n _ wr => ∃ (s t : Shk) (va vb : Value) (A B : List Itm), Hid (Way w wr g b h c bx bs s t va vb A B) ∧ Hid (Gm.Calm s t A B) ∧ Hid (s.Ok 300 ∧ t.Ok 300) ∧ Hid (wr.heap[ib]? = some (.cells (isB s t) 57 (0, 0))) ∧ Hid (Itm.weight A + Itm.weight B = n ∧ n ≤ 2000))
          case atStart => exact ⟨s, t, _, _, A, B, hY, hC, hO, hI, Lib.hid ⟨rfl, HW.out⟩⟩
          case round =>
            clear hY hC hO hI HW
            obtain ⟨s, t, va, vb, A, B, hY, hC, hO, hI, hg⟩ := hrel
            by_cases hne : 0 < A.length + B.length
            · refine calm_drain ?_ (by intro c a d v w; cases d <;> exact fun h => h) hne (by have := hg.out; omega) hY hC hO hI
              intro u2 u21 u22 u161 u162 u163 u164 u165 u166 u167 u168 u169 u170 u171 u172 u173 u174 u175 u176 u177 u178 u179 u180 u181 u182 u183
              intro wr s t va vb A B hY hC hO hI hlt
              dsimp only
              go_wp2_with fail
              go_roundg (Itm.weight A + Itm.weight B)
              case measure => have := hg.out; have := hlt.out; omega
              case rel => exact ⟨s, t, va, vb, A, B, hY, hC, hO, hI, Lib.hid ⟨rfl, by have := hg.out; have := hlt.out; omega⟩⟩
            · obtain rfl : A = [] := List.eq_nil_of_length_eq_zero (by omega)
              obtain rfl : B = [] := List.eq_nil_of_length_eq_zero (by simp at hne ⊢; omega)
              clear hne hg
              obtain ⟨xo, xc, hxv, -, -⟩ := hY.out.ra.form
              subst hxv
              obtain ⟨yo, yc, hyv, -, -⟩ := hY.out.rb.form
              subst hyv
              obtain ⟨-, -, m0, m1⟩ := hY.out.here
              simp only [List.length_nil] at m0 m1
              go_wp2_with fail
              clear m0 m1
              obtain ⟨va, hva⟩ : ∃ va, Value.slice xo ([] : List Itm).length xc = va := ⟨_, rfl⟩
              obtain ⟨vb, hvb⟩ : ∃ vb, Value.slice yo ([] : List Itm).length yc = vb := ⟨_, rfl⟩
              rw [hva, hvb] at hY
              clear hva hvb
              go_wp2_with fail
              go_loopw [23] (fun tk wr => ∃ k : Int, (k = 0 ∨ k = 1 ∨ k = 2) ∧ tk = .int .i64 k ∧ Hid (Way w wr g b h c bx bs s t va vb [] []) ∧ Hid (wr.heap[ib]? = some (.cells (isB s t) 57 (0, 0)))) (fun tk _ => 2 - (intOf tk).toNat)
              case atStart => exact ⟨0, by omega, rfl, hY, hI⟩
              case round =>
                clear hY hI
                obtain ⟨k, hk, rfl, hY, hI⟩ := hrel
                rename_i wr
                rcases hk with rfl | rfl | rfl
                · refine calm_check_0 ?_ (by intro c a d v w; cases d <;> exact fun h => h) hY hC hO hI
                  intro u2 u24 u184 u185 u186 u187 u188 u189 u190 u191 u192 u193 u194 u195 u196 u197 u198 u199 u200 u201 u202 u203 u204 u205 u206 u207 u208 u209 u210 u211 u212 u213 u214 u215 u216
                  intro wr hY hI
                  dsimp only
                  go_roundw
                  case rel => exact ⟨1, by omega, by first | rfl | simp, hY, hI⟩
                  case measure => simp [intOf]
                · refine calm_check_1 ?_ (by intro c a d v w; cases d <;> exact fun h => h) hY hC hO hI
                  intro u2 u24 u184 u185 u186 u187 u188 u189 u190 u191 u192 u193 u194 u195 u196 u197 u198 u199 u200 u201 u202 u203 u204 u205 u206 u207 u208 u209 u210 u211 u212 u213 u214 u215 u216
                  intro wr hY hI
                  dsimp only
                  go_roundw
                  case rel => exact ⟨2, by omega, by first | rfl | simp, hY, hI⟩
                  case measure => simp [intOf]
                · have ST9 := Lib.hid hY.out.st
                  go_wp2_with fail
                  go_ret
                  exact ⟨rfl, ST9.out.toBelow⟩
        have hlt : i < len := by simpa using d1
        have d1' : decide (i < len) = true := by simpa using d1
        cases d2 : decide ((i : Int) < 200)
        · have d2' : decide (i < 200) = false := by simp at d2 ⊢; omega
          have HW : Hid (Itm.weight A + Itm.weight B ≤ 2000) := Lib.hid (by have := hN.out; have := weight_len A; have := weight_len B; omega)
          have hO3 : Hid (s.Ok 300 ∧ t.Ok 300) := Lib.hid ⟨hO.out.1.mono (by omega), hO.out.2.mono (by omega)⟩
          clear hO hN
          have hO := hO3
          clear hO3
          go_wp2_with fail
          go_loopg [21] (Itm.weight A + Itm.weight B) (fun n _ wr => ∃ (s t : Shk) (va vb : Value) (A B : List Itm), Hid (Way w wr g b h c bx bs s t va vb A B) ∧ Hid (Gm.Calm s t A B) ∧ Hid (s.Ok 300 ∧ t.Ok 300) ∧ Hid (wr.heap[ib]? = some (.cells (isB s t) 57 (0, 0))) ∧ Hid (Itm.weight A + Itm.weight B = n ∧ n ≤ 2000))
          case atStart => exact ⟨s, t, _, _, A, B, hY, hC, hO, hI, Lib.hid ⟨rfl, HW.out⟩⟩
          case round =>
            clear hY hC hO hI HW
            obtain ⟨s, t, va, vb, A, B, hY, hC, hO, hI, hg⟩ := hrel
            by_cases hne : 0 < A.length + B.length
            · refine calm_drain ?_ (by intro c a d v w; cases d <;> exact fun h => h) hne (by have := hg.out; omega) hY hC hO hI
              intro u2 u21 u22 u161 u162 u163 u164 u165 u166 u167 u168 u169 u170 u171 u172 u173 u174 u175 u176 u177 u178 u179 u180 u181 u182 u183
              intro wr s t va vb A B hY hC hO hI hlt
              dsimp only
              go_wp2_with fail
              go_roundg (Itm.weight A + Itm.weight B)
              case measure => have := hg.out; have := hlt.out; omega
              case rel => exact ⟨s, t, va, vb, A, B, hY, hC, hO, hI, Lib.hid ⟨rfl, by have := hg.out; have := hlt.out; omega⟩⟩
            · obtain rfl : A = [] := List.eq_nil_of_length_eq_zero (by omega)
              obtain rfl : B = [] := List.eq_nil_of_length_eq_zero (by simp at hne ⊢; omega)
              clear hne hg
              obtain ⟨xo, xc, hxv, -, -⟩ := hY.out.ra.form
              subst hxv
              obtain ⟨yo, yc, hyv, -, -⟩ := hY.out.rb.form
              subst hyv
              obtain ⟨-, -, m0, m1⟩ := hY.out.here
              simp only [List.length_nil] at m0 m1
              go_wp2_with fail
              clear m0 m1
              obtain ⟨va, hva⟩ : ∃ va, Value.slice xo ([] : List Itm).length xc = va := ⟨_, rfl⟩
              obtain ⟨vb, hvb⟩ : ∃ vb, Value.slice yo ([] : List Itm).length yc = vb := ⟨_, rfl⟩
              rw [hva, hvb] at hY
              clear hva hvb
              go_wp2_with fail
              go_loopw [23] (fun tk wr => ∃ k : Int, (k = 0 ∨ k = 1 ∨ k = 2) ∧ tk = .int .i64 k ∧ Hid (Way w wr g b h c bx bs s t va vb [] []) ∧ Hid (wr.heap[ib]? = some (.cells (isB s t) 57 (0, 0)))) (fun tk _ => 2 - (intOf tk).toNat)
              case atStart => exact ⟨0, by omega, rfl, hY, hI⟩
              case round =>
                clear hY hI
                obtain ⟨k, hk, rfl, hY, hI⟩ := hrel
                rename_i wr
                rcases hk with rfl | rfl | rfl
                · refine calm_check_0 ?_ (by intro c a d v w; cases d <;> exact fun h => h) hY hC hO hI
                  intro u2 u24 u184 u185 u186 u187 u188 u189 u190 u191 u192 u193 u194 u195 u196 u197 u198 u199 u200 u201 u202 u203 u204 u205 u206 u207 u208 u209 u210 u211 u212 u213 u214 u215 u216
                  intro wr hY hI
                  dsimp only
                  go_roundw
                  case rel => exact ⟨1, by omega, by first | rfl | simp, hY, hI⟩
                  case measure => simp [intOf]
                · refine calm_check_1 ?_ (by intro c a d v w; cases d <;> exact fun h => h) hY hC hO hI
                  intro u2 u24 u184 u185 u186 u187 u188 u189 u190 u191 u192 u193 u194 u195 u196 u197 u198 u199 u200 u201 u202 u203 u204 u205 u206 u207 u208 u209 u210 u211 u212 u213 u214 u215 u216
                  intro wr hY hI
                  dsimp only
                  go_roundw
                  case rel => exact ⟨2, by omega, by first | rfl | simp, hY, hI⟩
                  case measure => simp [intOf]
                · have ST9 := Lib.hid hY.out.st
                  go_wp2_with fail
                  go_ret
                  exact ⟨rfl, ST9.out.toBelow⟩
        have hl2 : i < 200 := by simp at d2; omega
        obtain ⟨b0, off, op, kk, z, rfl, c0, c1, c2⟩ := HROWS.out i hlt
        rw [Nat.add_zero] at c0
        have CE : Hid (∀ w', Step None w w' → w'.cell? ⟨b0, off + i * 3, none⟩ = some (.int .i64 op) ∧ w'.cell? ⟨b0, off + i * 3 + 1, none⟩ = some (.int .i64 kk) ∧ w'.cell? ⟨b0, off + i * 3 + 2, none⟩ = some (.int .i64 z)) := Lib.hid (fun w' h' =>
          ⟨(h'.cell (p := ⟨b0, off + i * 3, none⟩) (World.block_lt_of_cell? _ _ c0) (fun s => s.elim)).trans c0, (h'.cell (p := ⟨b0, off + i * 3 + 1, none⟩) (World.block_lt_of_cell? _ _ c1) (fun s => s.elim)).trans c1, (h'.cell (p := ⟨b0, off + i * 3 + 2, none⟩) (World.block_lt_of_cell? _ _ c2) (fun s => s.elim)).trans c2⟩)
        clear c0 c1 c2
        obtain ⟨kz, hkz⟩ : ∃ kz, bits BinOp.and IntKind.i64 kk 1 = kz := ⟨_, rfl⟩
        have h01 : kz = 0 ∨ kz = 1 := by rw [← hkz, and_1]; omega
        obtain ⟨lz, hlz⟩ : ∃ lz, bits BinOp.and IntKind.i64 z 1 = lz := ⟨_, rfl⟩
        have h02 : lz = 0 ∨ lz = 1 := by rw [← hlz, and_1]; omega
        have HKZ := Lib.hid hkz
        have HLZ := Lib.hid hlz
        rcases h01 with rfl | rfl
        · rcases h02 with rfl | rfl
          · refine calm_0_1 (op := op) ?_ CE.out (by intro c a d v w; cases d <;> exact fun h => h) HKZ.out HLZ.out hlt hl2 hlen hY hC hO hN hI IBF.out
            intro u2 u15 u16 u17 u18 u19 u20 u75 u76 u77 u78 u79 u80 u81 u82 u83 u84 u85 u86 u87 u88 u89 u90 u91 u92 u93 u94 u95 u96 u97 u98 u99 u100 u101 u102 u103 u104 u105 u106 u107 u108 u109 u110 u111 u112 u113 u114 u115 u116 u117 u118 u119 u120 u121 u122 u123 u124 u125 u126 u127 u128 u129 u130 u131 u132 u133 u134 u135 u136 u137 u138 u139 u140 u141 u142 u143 u144 u145 u146 u147 u148 u149 u150 u151 u152 u153 u154 u155 u156 u157 u158 u159 u160
            intro wr s t va vb A B hY hC hO hN hI
            dsimp only
            go_roundw
            case rel => exact ⟨i + 1, by omega, by omega, by first | rfl | simp, s, t, va, vb, A, B, hY, hC, hO, hN, hI⟩
            case measure => simp [intOf]; omega
          · refine calm_0_2 (op := op) ?_ CE.out (by intro c a d v w; cases d <;> exact fun h => h) HKZ.out HLZ.out hlt hl2 hlen hY hC hO hN hI IBF.out
            intro u2 u15 u16 u17 u18 u19 u20 u75 u76 u77 u78 u79 u80 u81 u82 u83 u84 u85 u86 u87 u88 u89 u90 u91 u92 u93 u94 u95 u96 u97 u98 u99 u100 u101 u102 u103 u104 u105 u106 u107 u108 u109 u110 u111 u112 u113 u114 u115 u116 u117 u118 u119 u120 u121 u122 u123 u124 u125 u126 u127 u128 u129 u130 u131 u132 u133 u134 u135 u136 u137 u138 u139 u140 u141 u142 u143 u144 u145 u146 u147 u148 u149 u150 u151 u152 u153 u154 u155 u156 u157 u158 u159 u160
            intro wr s t va vb A B hY hC hO hN hI
            dsimp only
            go_roundw
            case rel => exact ⟨i + 1, by omega, by omega, by first | rfl | simp, s, t, va, vb, A, B, hY, hC, hO, hN, hI⟩
            case measure => simp [intOf]; omega
        · rcases h02 with rfl | rfl
          · refine calm_1_1 (op := op) ?_ CE.out (by intro c a d v w; cases d <;> exact fun h => h) HKZ.out HLZ.out hlt hl2 hlen hY hC hO hN hI IBF.out
            intro u2 u15 u16 u17 u18 u19 u20 u75 u76 u77 u78 u79 u80 u81 u82 u83 u84 u85 u86 u87 u88 u89 u90 u91 u92 u93 u94 u95 u96 u97 u98 u99 u100 u101 u102 u103 u104 u105 u106 u107 u108 u109 u110 u111 u112 u113 u114 u115 u116 u117 u118 u119 u120 u121 u122 u123 u124 u125 u126 u127 u128 u129 u130 u131 u132 u133 u134 u135 u136 u137 u138 u139 u140 u141 u142 u143 u144 u145 u146 u147 u148 u149 u150 u151 u152 u153 u154 u155 u156 u157 u158 u159 u160
            intro wr s t va vb A B hY hC hO hN hI
            dsimp only
            go_roundw
            case rel => exact ⟨i + 1, by omega, by omega, by first | rfl | simp, s, t, va, vb, A, B, hY, hC, hO, hN, hI⟩
            case measure => simp [intOf]; omega
          · refine calm_1_2 (op := op) ?_ CE.out (by intro c a d v w; cases d <;> exact fun h => h) HKZ.out HLZ.out hlt hl2 hlen hY hC hO hN hI IBF.out
            intro u2 u15 u16 u17 u18 u19 u20 u75 u76 u77 u78 u79 u80 u81 u82 u83 u84 u85 u86 u87 u88 u89 u90 u91 u92 u93 u94 u95 u96 u97 u98 u99 u100 u101 u102 u103 u104 u105 u106 u107 u108 u109 u110 u111 u112 u113 u114 u115 u116 u117 u118 u119 u120 u121 u122 u123 u124 u125 u126 u127 u128 u129 u130 u131 u132 u133 u134 u135 u136 u137 u138 u139 u140 u141 u142 u143 u144 u145 u146 u147 u148 u149 u150 u151 u152 u153 u154 u155 u156 u157 u158 u159 u160
            intro wr s t va vb A B hY hC hO hN hI
            dsimp only
            go_roundw
            case rel => exact ⟨i + 1, by omega, by omega, by first | rfl | simp, s, t, va, vb, A, B, hY, hC, hO, hN, hI⟩
            case measure => simp [intOf]; omega
end Go.Proofs.YthebgpbofjgcoaaDoor
