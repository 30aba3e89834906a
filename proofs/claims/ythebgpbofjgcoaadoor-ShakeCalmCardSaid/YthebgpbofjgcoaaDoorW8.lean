/- Two lists of what is told, compared; awake. -/
import Derived.Test.YthebgpbofjgcoaaDoorK16
namespace Go.Proofs.YthebgpbofjgcoaaDoor
open Go.RowKit Go.Gm

def Tell.note (t : Tell) : Note := ⟨t.kind, 0, 0, 0, 0, 0, 0, 0, t.port, t.state, []⟩
theorem tellC_note (t : Tell) : tellC t = (Tell.note t).cells (.slice none (Tell.note t).body.length 0) := rfl
theorem tells_load {w : World} {B : Nat} {v : Value} {l : List Tell} {i : Nat} {t : Tell} (h : Tells w B v l) (hi : l[i]? = some t) :
    ∃ b off cap, v = .slice (some ⟨b, off, none⟩) l.length cap ∧ Leads v b ∧ (Instr.loadAt 35 (.pointer (some ⟨b, off + i * 11, none⟩))).run Tryd.prog w = .ok (.agg (tellC t)) w := by
  have hlt := (List.getElem?_eq_some_iff.1 hi).1
  obtain ⟨b, off, cap, rfl, -, -, hld, hc, -⟩ := h.row.cells (by omega)
  refine ⟨b, off, cap, rfl, hld, ?_⟩
  have := run_loadAt_mid (P := Tryd.prog) w b (off + i * 11) 35 (tellC t).toList _ (fun j u hj => by
    rw [Nat.add_assoc]
    exact hc _ _ (flatT_get l i t j u hi (by simpa using hj))) Tryd.underlying35 rfl (by kernel_rfl)
  simpa using this
theorem run_load_op {P : Program} {ev : Operand → Value} {o : Oper} {ty : TypeId} {x : Operand} {y v : Value} {w : World} (ho : o.op = .load ty x) (hx : ev x = y) (hl : (Instr.loadAt ty y).run P w = .ok v w) : (execOp ev o).run P w = .ok (.value v) w := by
  unfold execOp
  simp only [ho, hx, Sem.run_bind, hl, Result.andThen_ok, Sem.run_pure]
theorem same_tell (t : Tell) (w : World) : Calls Tryd.prog 31 #[.agg (tellC t), .agg (tellC t)] w fun e w' => e = .returned (.bool true) ∧ Step None w w' := by
  have := sameN_any (Tell.note t) (Tell.note t) none none 0 0 w (.inl ⟨rfl, rfl⟩) (.inl ⟨rfl, rfl⟩)
  rw [sameN_refl] at this
  exact this
set_option maxHeartbeats 4000000 in
theorem same_any (u v : Value) (l : List Tell) (B C : Nat) (w : World) (hl : l.length ≤ 1000) (hu : Tells w B u l) (hv : Tells w C v l) : Calls Tryd.prog 22 #[u, v] w fun e w' => e = .returned (.bool true) ∧ Step None w w' := by
  have HU := Lib.hid hu
  have HV := Lib.hid hv
  obtain ⟨uo, uc, rfl, -, -⟩ := hu.row.form
  obtain ⟨vo, vc, rfl, -, -⟩ := hv.row.form
  have hi : ((l.length : Nat) : Int) ≤ 9223372036854775807 := by omega
  have S0 : Hid (Step None w w) := Lib.hid (Step.refl _ _)
  clear hu hv
  go_enter Tryd.func22, Tryd.ntmps22
  go_wp2_with fail
  go_loopw [5] (fun t wr => ∃ i : Nat, i ≤ l.length ∧ t = .int .i64 i ∧ Hid (Step None w wr)) (fun t _ => l.length - (intOf t).toNat)
  case atStart => exact ⟨0, by omega, rfl, S0⟩
  case round =>
    obtain ⟨i, hk, rfl, hS⟩ := hrel
    rename_i wr
    clear S0
    cases c1 : decide ((i : Int) < (l.length : Int))
    · have c1' : decide (i < l.length) = false := by simp at c1 ⊢; omega
      go_wp2_with fail
      go_ret
      exact ⟨rfl, hS.out⟩
    have hlt : i < l.length := by simp at c1; omega
    have c1' : decide (i < l.length) = true := by simpa using hlt
    obtain ⟨t, ht⟩ : ∃ t, l[i]? = some t := ⟨_, List.getElem?_eq_getElem hlt⟩
    obtain ⟨b1, o1, k1, e1, -, -⟩ := tells_load HU.out ht
    obtain ⟨b2, o2, k2, e2, -, -⟩ := tells_load HV.out ht
    simp only [Value.slice.injEq] at e1 e2
    obtain ⟨rfl, -, rfl⟩ := e1
    obtain ⟨rfl, -, rfl⟩ := e2
    have L : Hid (∀ w', Step None w w' → (Instr.loadAt 35 (.pointer (some ⟨b1, o1 + i * 11, none⟩))).run Tryd.prog w' = .ok (.agg (tellC t)) w' ∧ (Instr.loadAt 35 (.pointer (some ⟨b2, o2 + i * 11, none⟩))).run Tryd.prog w' = .ok (.agg (tellC t)) w') := Lib.hid fun w' h' => by
      obtain ⟨x1, y1, z1, q1, -, f1⟩ := tells_load (HU.out.still h') ht
      obtain ⟨x2, y2, z2, q2, -, f2⟩ := tells_load (HV.out.still h') ht
      simp only [Value.slice.injEq, Option.some.injEq, Addr.mk.injEq] at q1 q2
      obtain ⟨⟨rfl, rfl, -⟩, -, -⟩ := q1
      obtain ⟨⟨rfl, rfl, -⟩, -, -⟩ := q2
      exact ⟨f1, f2⟩
    have i0 : (0 : Int) ≤ (i : Int) := by omega
    have i1 : (i : Int) < (l.length : Int) := by omega
    clear ht
    go_wp2_with fail
    have dr := hS.out.drew
    refine wp_region_plan (fun w' => (Instr.loadAt 35 (.pointer (some ⟨b1, o1 + i * 11, none⟩))).run Tryd.prog w' = .ok (.agg (tellC t)) w' ∧ (Instr.loadAt 35 (.pointer (some ⟨b2, o2 + i * 11, none⟩))).run Tryd.prog w' = .ok (.agg (tellC t)) w') (.take 0 (.take 1 (.take 2 (.take 3 (.take 4 (.take 5 (.take 6 (.take 7 (.alt 8 (.take 9 .done) .none))))))))) _
      (by simp only [Plan.map, opOf, List.getElem?_toArray, List.getElem?_cons_zero, List.getElem?_cons_succ, Option.getD_some]; rfl) (by kernel_rfl) (by kernel_rfl) (by kernel_rfl) (by decide) (by intro c a d v w; cases d <;> exact fun h => h)
      (L.out _ dr) ?_
    repeat (first | (refine wpPlan.taken (by rfl) (fun w' hS' => run_load_op rfl rfl hS'.1) ?_; simp only [Act.put, List.setIfInBounds_toArray, List.set_cons_zero, List.set_cons_succ]) | (refine wpPlan.taken (by rfl) (fun w' hS' => run_load_op rfl rfl hS'.2) ?_; simp only [Act.put, List.setIfInBounds_toArray, List.set_cons_zero, List.set_cons_succ]) | (refine wpPlan.taken (by rfl) (by intro w' hS'; (try dsimp only at hS'); go_split_ands; go_simp; try with_reducible rfl) ?_; simp only [Act.put, List.setIfInBounds_toArray, List.set_cons_zero, List.set_cons_succ]) | (refine wpPlan.passed (by rfl) ?_; simp only [Act.put, List.setIfInBounds_toArray, List.set_cons_zero, List.set_cons_succ]))
    refine wpPlan.runs fun K' hK => ?_
    go_simp
    refine (same_tell t _).mono ?_
    rintro e w5 ⟨rfl, s5⟩
    have D5 := Lib.hid (dr.then_ s5)
    refine hK.out _ _ (L.out _ D5.out) ?_
    clear hK K' s5 dr
    repeat (first | (refine wpPlan.taken (by rfl) (fun w' hS' => run_load_op rfl rfl hS'.1) ?_; simp only [Act.put, List.setIfInBounds_toArray, List.set_cons_zero, List.set_cons_succ]) | (refine wpPlan.taken (by rfl) (fun w' hS' => run_load_op rfl rfl hS'.2) ?_; simp only [Act.put, List.setIfInBounds_toArray, List.set_cons_zero, List.set_cons_succ]) | (refine wpPlan.taken (by rfl) (by intro w' hS'; (try dsimp only at hS'); go_split_ands; go_simp; try with_reducible rfl) ?_; simp only [Act.put, List.setIfInBounds_toArray, List.set_cons_zero, List.set_cons_succ]) | (refine wpPlan.passed (by rfl) ?_; simp only [Act.put, List.setIfInBounds_toArray, List.set_cons_zero, List.set_cons_succ]))
    refine wpPlan.done ?_
    go_wp2_with fail
    go_roundw
    case rel => exact ⟨i + 1, by omega, by first | rfl | simp, D5⟩
    case measure => simp [intOf]; omega

def aw0 : Shk := shk0 2
theorem aw0_ok : aw0.Ok 0 := ⟨by decide, by decide⟩
def aw1 : Shk := (aw0.loc 1 true).1
def aw2 : Shk := aw1.start.1
def awT : List Tell := aw1.start.2
def aw3 : Shk := (aw2.take true 4 1 1).1
theorem aw1_ok : aw1.Ok 0 := ⟨by decide, by decide⟩
theorem aw2_ok : aw2.Ok 1 := ⟨by decide, by decide⟩
theorem aw3_ok : aw3.Ok 1 := ⟨by decide, by decide⟩
theorem aw_facts : aw2.serves 1 = false ∧ aw3.serves 1 = true ∧ aw3.blocked 1 = true ∧ awT = [⟨3, 1, 1⟩, ⟨3, 2, 0⟩] := by decide
def awN : Note := ⟨4, 0, 0, 0, 0, 0, 0, 0, 1, 1, []⟩
theorem awN_right : right awN = true := by kernel_rfl
/-- The table's block is none of a Shake's. -/
theorem has_ne {ts te : TypeId} {w : World} {g b : Nat} {s : Shk} (hT : HasAt 0 w) (h : Rep ts te w g b s) (hs : 0 < s.ls.length) : ¬ 0 = g ∧ ¬ 0 = b := by
  constructor
  · rintro rfl
    have h1 := hT 0 (by decide)
    rw [h.cells.1] at h1
    simp at h1
  · rintro rfl
    have h1 := hT 0 (by decide)
    have := (h.link hs).1
    rw [Nat.zero_mul] at this
    rw [this] at h1
    simp at h1
set_option maxHeartbeats 4000000 in
theorem awake_any (w : World) (hT : HasAt 0 w) : Calls Tryd.prog 8 #[] w fun e w' => e = .returned (.bool true) ∧ Step None w w' := by
  have NE := Lib.hid (new_ok 2 (by decide) (by decide) w)
  have HT := Lib.hid hT
  clear hT
  go_enter Tryd.func8, Tryd.ntmps8
  go_wp2_with fail
  refine NE.out.mono ?_
  rintro e w1 ⟨g, b, rfl, r1, g1, b1, s1⟩
  have R1 : Hid (Rep 64 72 w1 g b aw0) := Lib.hid r1
  have GB := Lib.hid (And.intro g1 b1)
  have S1 := Lib.hid s1
  have T1 := Lib.hid (HT.out.still s1)
  clear NE r1 g1 b1 s1 HT
  go_wp2_with fail
  refine (local_any g b aw0 1 true w1 0 aw0_ok (Int.le_refl _) (by decide) R1.out).mono ?_
  rintro e w2 ⟨u, rfl, t2, r2, s2⟩
  have R2 : Hid (Rep 64 72 w2 g b aw1) := Lib.hid r2
  have N := has_ne T1.out R1.out (by decide)
  have T2 := Lib.hid (T1.out.step s2 N.2)
  have S2 := Lib.hid (S1.out.trans s2 (fun k hk e => by have := GB.out; show False; omega))
  clear t2 r2 s2 R1 T1 S1 N
  go_wp2_with fail
  refine (start_any g b aw1 w2 0 aw1_ok R2.out).mono ?_
  rintro e w3 ⟨v, rfl, t3, r3, s3⟩
  have R3 : Hid (Rep 64 72 w3 g b aw2) := Lib.hid r3
  have V3 : Hid (Tells w3 w2.heap.size v awT) := Lib.hid t3
  have N := has_ne T2.out R2.out (by decide)
  have T3 := Lib.hid (T2.out.step s3 (fun e => e.elim N.1 N.2))
  have S3 := Lib.hid (S2.out.trans s3 (fun k hk e => by have := GB.out; show False; omega))
  have BB := Lib.hid (blk_lt R2.out.row)
  clear t3 r3 s3 R2 T2 S2 N
  have F := aw_facts
  obtain ⟨f1, f2, f3, f4⟩ := F
  rw [f4] at V3
  obtain ⟨vb, vf, vc, rfl, hld, hq⟩ := tells_load V3.out (i := 0) (t := ⟨3, 1, 1⟩) rfl
  have q9 : Hid (w3.cell? ⟨vb, vf + 9, none⟩ = some (.int .i64 1)) := Lib.hid (by
    obtain ⟨b', off, cap, hv, -, -, -, hc, -⟩ := V3.out.row.cells (by decide)
    simp only [Value.slice.injEq, Option.some.injEq, Addr.mk.injEq] at hv
    obtain ⟨⟨rfl, rfl, -⟩, -, -⟩ := hv
    exact hc 9 _ rfl)
  have VN : Hid (¬ vb = b) := Lib.hid (V3.out.notB R3.out (by decide) vb hld)
  clear hq hld f4
  go_wp2_with fail
  refine (serves_any g b aw2 1 w3 (by decide) R3.out).mono ?_
  rintro e wz ⟨rfl, rfl⟩
  rw [f1]
  go_wp2_with fail
  refine (take_any g b aw2 awN none 0 w3 1 aw2_ok (by decide) (by decide) T3.out R3.out).mono ?_
  rw [awN_right]
  rintro e w4 ⟨y, rfl, t4, r4, s4⟩
  have R4 : Hid (Rep 64 72 w4 g b aw3) := Lib.hid r4
  have S4 := Lib.hid (S3.out.trans s4 (fun k hk e => by have := GB.out; show False; omega))
  have c9 := (s4.cell (p := ⟨vb, vf + 9, none⟩) (World.block_lt_of_cell? _ _ q9.out) VN.out).trans q9.out
  clear t4 r4 s4 R3 T3 S3 q9
  go_wp2_with fail
  refine (serves_any g b aw3 1 w4 (by decide) R4.out).mono ?_
  rintro e wz ⟨rfl, rfl⟩
  rw [f2]
  go_wp2_with fail
  refine (blocked_any g b aw3 1 w4 (by decide) R4.out).mono ?_
  rintro e wz ⟨rfl, rfl⟩
  rw [f3]
  go_wp2_with fail
  go_ret
  exact ⟨rfl, S4.out⟩
end Go.Proofs.YthebgpbofjgcoaaDoor
