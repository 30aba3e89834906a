/- awake. -/
import Derived.Test.YtgchepijbpcckaaDoorW13
namespace Go.Proofs.YtgchepijbpcckaaDoor
open Go.RowKit Go.Gm

theorem Sm.fresh {T : TypeId} {w : World} {g : Nat} {ep win : Int} (h : w.heap[g]? = some (.cells ((Stm.start ep win).cells (.slice none 0 0)) T (0, 0))) : Sm T w g (.slice none 0 0) (Stm.start ep win) [] :=
  ⟨h, Row.nil _ _ _, rfl, fun i n b h1 _ => by simp [Stm.start] at h1⟩
/-- Two new ones. -/
theorem Duo.fresh {T U : TypeId} {w w1 w2 : World} {g h : Nat} {ep win ep' win' : Int} (hT : HasAt 0 w) (tT : T ≠ 36 ∧ T ≠ 5) (tU : U ≠ 36 ∧ U ≠ 5) (s1 : Step None w w1) (s2 : Step None w1 w2) (hg : w.heap.size ≤ g) (hh : w1.heap.size ≤ h)
    (b1 : w1.heap[g]? = some (.cells ((Stm.start ep win).cells (.slice none 0 0)) T (0, 0))) (b2 : w2.heap[h]? = some (.cells ((Stm.start ep' win').cells (.slice none 0 0)) U (0, 0))) :
    Duo T U w w2 g h (.slice none 0 0) (.slice none 0 0) (Stm.start ep win) (Stm.start ep' win') [] [] := by
  have gl := blk_lt b1
  have z := s1.size
  exact ⟨Sm.fresh (s2.blk b1 (fun s => s.elim)), Sm.fresh b2, by omega, fun k hk => by simp [Leads, Value.ownBlock] at hk, hg, by omega, fun k hk => by simp [Leads, Value.ownBlock] at hk, fun k hk => by simp [Leads, Value.ownBlock] at hk, s1.then_ s2, (hT.still s1).still s2, hT.lt, tT, tU⟩
def n7 : Note := noteOf 7
theorem aw1 : (Stm.start 5 4).send n7 = (⟨5, 4, [n7], 1, 0, 0, 0, false⟩, 0) := by kernel_rfl
theorem aw2 : Stm.tick ⟨5, 4, [n7], 1, 0, 0, 0, false⟩ 0 = (⟨5, 4, [n7], 1, 1, 0, 0, false⟩, [⟨5, 1, 0, n7⟩], 0) := by kernel_rfl
theorem aw3 : (Stm.start 5 4).take ⟨5, 1, 0, n7⟩ = (⟨5, 4, [], 1, 0, 0, 1, true⟩, n7, true, 0) := by kernel_rfl
theorem aw4 : Stm.tick ⟨5, 4, [], 1, 0, 0, 1, true⟩ 0 = (⟨5, 4, [], 1, 0, 0, 1, false⟩, [⟨5, 0, 1, bare⟩], 0) := by kernel_rfl
theorem aw5 : Stm.take ⟨5, 4, [n7], 1, 1, 0, 0, false⟩ ⟨5, 0, 1, bare⟩ = (⟨5, 4, [], 2, 0, 0, 0, false⟩, bare, false, 0) := by kernel_rfl
theorem okA0 : (Stm.start 5 4).Ok := Stm.start_ok (by kernel_rfl)
theorem okA1 : (⟨5, 4, [n7], 1, 0, 0, 0, false⟩ : Stm).Ok := by have := Stm.send_ok okA0 n7; rwa [aw1] at this
theorem okA2 : (⟨5, 4, [n7], 1, 1, 0, 0, false⟩ : Stm).Ok := by have := Stm.tick_ok okA1 0; rwa [aw2] at this
theorem okB1 : (⟨5, 4, [], 1, 0, 0, 1, true⟩ : Stm).Ok := by have := Stm.take_ok okA0 ⟨5, 1, 0, n7⟩; rwa [aw3] at this
theorem pk_one {w : World} {B : Nat} {u : Value} {p : Pkt} {bvs : List Value} (h : Pks w B u [p] bvs) : ∃ b off cap, u = .slice (some ⟨b, off, none⟩) 1 cap ∧ 1 ≤ cap ∧ ∃ bo bc, Own5 w (.slice bo p.n.body.length bc) p.n.body ∧ (Instr.loadAt 38 (.pointer (some ⟨b, off, none⟩))).run Tryd.prog w = .ok (.agg (p.n.packet p.ep p.sq p.ak (.slice bo p.n.body.length bc))) w := by
  obtain ⟨b, off, cap, cur, hv, hc, -⟩ := h.row.lies (by simp)
  subst hv
  obtain ⟨bo, bc, h1, h2⟩ := h.load (j := 0) (p := p) rfl
  exact ⟨b, off, cap, rfl, hc, bo, bc, h1, by simpa using h2⟩
set_option maxRecDepth 100000 in
set_option maxHeartbeats 8000000 in
theorem awake_any (w : World) (hT : HasAt 0 w) : Calls Tryd.prog 7 #[] w fun e w' => e = .returned (.bool true) ∧ Step None w w' := by
  have T0 := Lib.hid hT
  clear hT
  go_enter Tryd.func7, Tryd.ntmps7
  go_wp2_with fail
  refine (new_ok 5 4 w (by kernel_rfl)).mono ?_
  rintro e w1 ⟨rfl, b1, s1⟩
  have B1 := Lib.hid b1
  have S1 := Lib.hid s1
  obtain ⟨g, hg⟩ : ∃ g, w.heap.size = g := ⟨_, rfl⟩
  rw [hg] at B1 ⊢
  have HG := Lib.hid hg
  clear b1 s1 hg
  go_wp2_with fail
  refine (new_ok 5 4 w1 (by kernel_rfl)).mono ?_
  rintro e w2 ⟨rfl, b2, s2⟩
  obtain ⟨h, hh⟩ : ∃ h, w1.heap.size = h := ⟨_, rfl⟩
  rw [hh] at b2 ⊢
  have D2 := Lib.hid (Duo.fresh (T := 66) (U := 66) T0.out ⟨by decide, by decide⟩ ⟨by decide, by decide⟩ S1.out s2 (Nat.le_of_eq HG.out) (Nat.le_of_eq hh) B1.out b2)
  clear b2 s2 hh B1 S1 T0 HG
  go_wp2_with fail
  refine (note_any 7 w2).mono ?_
  rintro e w3 ⟨rfl, s3⟩
  have D3 := Lib.hid (D2.out.still s3)
  clear s3 D2
  go_wp2_with fail
  refine (send_any g _ (Stm.start 5 4) [] n7 none 0 w3 D3.out.one okA0 D3.out.tab (.inl ⟨rfl, rfl⟩)).mono ?_
  rintro e w4 ⟨rfl, went⟩
  rw [aw1] at went ⊢
  obtain ⟨v4, bs4, d4⟩ := D3.out.left went
  have D4 := Lib.hid d4
  clear d4 went D3
  go_wp2_with fail
  refine (tick_any g v4 _ bs4 0 w4 D4.out.one okA1).mono ?_
  rintro e w5 ⟨u, bvs, rfl, pk, sm, st⟩
  rw [aw2] at pk sm ⊢
  obtain ⟨v5, bs5, d5⟩ := D4.out.left (sm.ticked st)
  obtain ⟨pb, po, pc, rfl, hpc, bo, bc, ow, ld⟩ := pk_one pk
  have D5 := Lib.hid d5
  have OW := Lib.hid ow
  have PKH := Lib.hid pk
  clear d5 sm st D4 ow pk
  have i0 : ((0 : Int) < 1) := by decide
  go_wp2_with (first | (refine wpList_load_if 38 (.tmp 48) rfl rfl rfl ld ?_))
  refine (take_any h _ (Stm.start 5 4) [] 5 1 0 n7 bo bc w5 D5.out.two okA0 D5.out.tab (OW.out.bytes (by show (0 : Nat) ≤ _; omega)) (by show (0 : Nat) ≤ _; omega)).mono ?_
  rintro e w6 ⟨bv, rfl, hbv, went⟩
  rw [aw3] at went hbv ⊢
  have hbv' : bv = .slice bo n7.body.length bc := by simpa using hbv
  subst hbv'
  obtain ⟨u6, cs6, d6⟩ := D5.out.right went
  have D6 := Lib.hid d6
  clear d6 went hbv ld D5 OW
  have a6 := heap_alloc_new w6 (.cells #[.int .i64 0, .int .i64 0, .int .u8 0, .int .u8 0, .int .u8 0, .int .u8 0, .int .u8 0, .int .u8 0, .int .i64 0, .int .i64 0, .slice none 0 0] 36)
  obtain ⟨WA, hWA⟩ : ∃ WA, w6.alloc (.cells #[.int .i64 0, .int .i64 0, .int .u8 0, .int .u8 0, .int .u8 0, .int .u8 0, .int .u8 0, .int .u8 0, .int .i64 0, .int .i64 0, .slice none 0 0] 36) = WA := ⟨_, rfl⟩
  have sA : Step None w6 WA := by rw [← hWA]; exact (Step.refl None w6).alloc _
  rw [hWA] at a6
  have HA := Lib.hid hWA
  have A6 := Lib.hid a6
  have sR := sA.setRow (g := w6.heap.size) (fun h => by omega) (n7.cells (.slice bo n7.body.length bc))
  have DR := Lib.hid (D6.out.still sR)
  have R6 := Lib.hid (setRow_heap _ _ _ (n7.cells (.slice bo n7.body.length bc)) _ _ A6.out)
  clear hWA a6 sA sR
  go_wp2_with (first | rw [HA.out] | (refine wpList_store_row rfl 36 (.tmp 7) (.tmp 51) rfl w6.heap.size (n7.cells (.slice bo n7.body.length bc)) rfl rfl 36 _ A6.out (by kernel_rfl) rfl (by simp [Note.cells, Value.oneCell']) ?_))
  obtain ⟨W7, hW7⟩ : ∃ W7, WA.setRow w6.heap.size (n7.cells (.slice bo n7.body.length bc)) = W7 := ⟨_, rfl⟩
  rw [hW7] at DR R6 ⊢
  clear hW7
  refine (tick_any h u6 _ cs6 0 W7 DR.out.two okB1).mono ?_
  rintro e w8 ⟨u8, bvs8, rfl, pk, sm, st⟩
  rw [aw4] at pk sm ⊢
  obtain ⟨v8, cs8, d8⟩ := DR.out.right (sm.ticked st)
  have nh : ¬ w6.heap.size = h := fun e => by have := blk_lt D6.out.two.st; omega
  have R8 := Lib.hid (st.blk R6.out nh)
  obtain ⟨pb8, po8, pc8, rfl, hpc8, bo8, bc8, ow, ld⟩ := pk_one pk
  have D8 := Lib.hid d8
  have OW := Lib.hid ow
  clear d8 sm st ow pk nh DR R6
  go_wp2_with (first | (refine wpList_load_if 38 (.tmp 64) rfl rfl rfl ld ?_))
  refine (take_any g v5 _ bs5 5 0 1 bare bo8 bc8 w8 D8.out.one okA2 D8.out.tab (OW.out.bytes (by show (0 : Nat) ≤ _; omega)) (by show (0 : Nat) ≤ _; omega)).mono ?_
  rintro e w9 ⟨bv9, rfl, hbv, went⟩
  rw [aw5] at went hbv ⊢
  obtain ⟨v9, bs9, d9⟩ := D8.out.left went
  have st2 := went
  obtain ⟨_, _, -, hs9, -⟩ := st2
  have nO : ¬ Of g v5 w6.heap.size := fun e => by
    rcases e with e | e
    · have := blk_lt D6.out.one.st; omega
    · have := D6.out.one.row.lt e; omega
  have R9 := hs9.blk R8.out nO
  have k8 := blk_cell R9 8
  have D9 := Lib.hid d9
  clear d9 went hbv hs9 nO R9 R8 ld OW D8 D6
  have k8' : w9.cell? ⟨w6.heap.size, 8, none⟩ = some (.int .i64 7) := k8
  clear k8
  go_wp2_with fail
  refine (waits_any g v9 _ bs9 w9 D9.out.one).mono ?_
  rintro e wz ⟨rfl, rfl⟩
  go_wp2_with fail
  refine (taken_any h v8 _ cs8 w9 D9.out.two).mono ?_
  rintro e wz ⟨rfl, rfl⟩
  go_wp2_with fail
  go_ret
  exact ⟨rfl, D9.out.st⟩
end Go.Proofs.YtgchepijbpcckaaDoor
