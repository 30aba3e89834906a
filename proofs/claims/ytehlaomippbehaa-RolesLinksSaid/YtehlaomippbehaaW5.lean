/- The best of ways. -/
import Derived.Test.YtehlaomippbehaaW4
import Derived.Deep.MidRow
namespace Go.Proofs.Ytehlaomippbehaa
open Go.RowKit Go.Gm

instance : Inhabited Vec := ⟨⟨⟨0, 0, 0, 0, 0, 0, 0⟩, 0, ⟨0, 0, 0, 0, 0, 0, 0⟩, 0, 0⟩⟩

/-- The place of the best of the first k; -1: of none. -/
def bestK (l : List Vec) : Nat → Int
  | 0 => -1
  | k + 1 => if bestK l k = -1 ∨ lex (l.getD k default).flat (l.getD (bestK l k).toNat default).flat < 0 then (k : Int) else bestK l k

theorem bestK_rng (l : List Vec) : ∀ k, bestK l k = -1 ∧ k = 0 ∨ 0 ≤ bestK l k ∧ bestK l k < k
  | 0 => .inl ⟨rfl, rfl⟩
  | k + 1 => by
    rw [bestK]
    have := bestK_rng l k
    split
    · right; omega
    · right; omega

/-- Ways that lie in a row. -/
structure Ways (w : World) (b off : Nat) (l : List Vec) : Prop where
  at_ : ∀ i v, l[i]? = some v → ∀ j u, v.cells[j]? = some u → w.cell? ⟨b, off + i * 17 + j, none⟩ = some u
  fine : ∀ v ∈ l, v.fine
theorem Ways.step {w w' : World} {S : Nat → Prop} {b off : Nat} {l : List Vec} (h : Ways w b off l) (hw : Step S w w') (hn : ¬ S b) : Ways w' b off l :=
  ⟨fun i v hv j u hu => by
    have := h.at_ i v hv j u hu
    have hb : b < w.heap.size := World.block_lt_of_cell? w _ this
    rw [hw.cell (p := ⟨b, off + i * 17 + j, none⟩) hb hn]; exact this, h.fine⟩

theorem run_load_op {P : Program} {ev : Operand → Value} {o : Oper} {ty : TypeId} {x : Operand} {y v : Value} {w : World} (ho : o.op = .load ty x) (hx : ev x = y) (hl : (Instr.loadAt ty y).run P w = .ok v w) : (execOp ev o).run P w = .ok (.value v) w := by
  unfold execOp
  simp only [ho, hx, Sem.run_bind, hl, Result.andThen_ok, Sem.run_pure]

theorem Ways.load {w : World} {b off : Nat} {l : List Vec} {i : Nat} {v : Vec} (h : Ways w b off l) (hv : l[i]? = some v) : (Instr.loadAt 27 (.pointer (some ⟨b, off + i * 17, none⟩))).run Try.prog w = .ok (.agg v.cells) w := by
  have := run_loadAt_mid (P := Try.prog) w b (off + i * 17) 27 v.cells.toList _ (fun j u hj => h.at_ i v hv j u (by simpa using hj)) Try.underlying27 rfl (by kernel_rfl)
  simpa using this

set_option maxHeartbeats 8000000 in
theorem best_any (l : List Vec) (b off : Nat) (cap : Nat) (w : World) (hl : l.length ≤ 1000) (h : Ways w b off l) :
    Calls Try.prog 21 #[.slice (some ⟨b, off, none⟩) l.length cap] w fun e w' => e = .returned (.int .i64 (bestK l l.length)) ∧ Step None w w' := by
  have H := Lib.hid h
  clear h
  go_enter Try.func21, Try.ntmps21
  go_wp2_with fail
  go_loopw [3, 4, 7] (fun m _ i wr => ∃ k : Nat, k ≤ l.length ∧ i = .int .i64 k ∧ m = .int .i64 (bestK l k) ∧ Hid (Step None w wr)) (fun _ _ i _ => l.length - (intOf i).toNat)
  case atStart => exact ⟨0, Nat.zero_le _, rfl, rfl, Lib.hid (Step.refl _ _)⟩
  case round =>
    obtain ⟨k, hk, rfl, rfl, hs⟩ := hrel
    by_cases hlt : k < l.length
    · have d1 : decide ((k : Int) < (l.length : Int)) = true := by simpa using hlt
      have hw1 : IntKind.i64.wrap ((k : Int) + 1) = ((k + 1 : Nat) : Int) := by rw [IntWalk.i64_in _ (by omega)]; omega
      rcases bestK_rng l k with ⟨hb, h0⟩ | hb
      · have hn : Hid (bestK l (k + 1) = (k : Int)) := Lib.hid (by rw [bestK, if_pos (.inl hb)])
        have d2 : (bestK l k == -1) = true := by simp [hb]
        have HB := Lib.hid hb
        clear hb h0
        generalize bestK l k = bk at *
        go_wp2_with fail
        refine wp_region_plan (fun w' => True) (.take 0 (.take 1 (.take 2 (.take 3 (.take 4 (.take 5 (.take 6 (.take 7 (.take 8 (.take 9 (.take 10 (.alt 11 (.take 12 (.take 13 .done)) .none)))))))))))) _
          (by simp only [Plan.map, opOf, List.getElem?_toArray, List.getElem?_cons_zero, List.getElem?_cons_succ, Option.getD_some]; rfl) (by kernel_rfl) (by kernel_rfl) (by kernel_rfl) (by decide) (by intro c a d v w; cases d <;> exact fun h => h) trivial ?_
        repeat (first | (refine wpPlan.taken (by rfl) (fun w' hS' => run_load_op rfl rfl hS'.1) ?_; simp only [Act.put, List.setIfInBounds_toArray, List.set_cons_zero, List.set_cons_succ]) | (refine wpPlan.taken (by rfl) (fun w' hS' => run_load_op rfl rfl hS'.2) ?_; simp only [Act.put, List.setIfInBounds_toArray, List.set_cons_zero, List.set_cons_succ]) | (refine wpPlan.taken (by rfl) (by intro w' hS'; (try dsimp only at hS'); go_split_ands; go_simp; try with_reducible rfl) ?_; simp only [Act.put, List.setIfInBounds_toArray, List.set_cons_zero, List.set_cons_succ]) | (refine wpPlan.passed (by rfl) ?_; simp only [Act.put, List.setIfInBounds_toArray, List.set_cons_zero, List.set_cons_succ]))
        refine wpPlan.runs fun K' hK => ?_
        go_simp
        refine hK.out _ _ trivial ?_
        clear hK K'
        repeat (first | (refine wpPlan.taken (by rfl) (fun w' hS' => run_load_op rfl rfl hS'.1) ?_; simp only [Act.put, List.setIfInBounds_toArray, List.set_cons_zero, List.set_cons_succ]) | (refine wpPlan.taken (by rfl) (fun w' hS' => run_load_op rfl rfl hS'.2) ?_; simp only [Act.put, List.setIfInBounds_toArray, List.set_cons_zero, List.set_cons_succ]) | (refine wpPlan.taken (by rfl) (by intro w' hS'; (try dsimp only at hS'); go_split_ands; go_simp; try with_reducible rfl) ?_; simp only [Act.put, List.setIfInBounds_toArray, List.set_cons_zero, List.set_cons_succ]) | (refine wpPlan.passed (by rfl) ?_; simp only [Act.put, List.setIfInBounds_toArray, List.set_cons_zero, List.set_cons_succ]))
        refine wpPlan.done ?_
        go_wp2_with fail
        go_roundw
        case rel => exact ⟨k + 1, by omega, rfl, by rw [hn.out], Lib.hid (hs.out.drew)⟩
        case measure => simp [intOf]; omega
      · obtain ⟨m, hm⟩ : ∃ m : Nat, bestK l k = m := ⟨(bestK l k).toNat, by omega⟩
        obtain ⟨x, hx⟩ : ∃ x, l[k]? = some x := ⟨l[k], List.getElem?_eq_getElem hlt⟩
        obtain ⟨y, hy⟩ : ∃ y, l[m]? = some y := ⟨l[m]'(by omega), List.getElem?_eq_getElem (by omega)⟩
        have fx : x.fine := H.out.fine x (List.mem_of_getElem? hx)
        have fy : y.fine := H.out.fine y (List.mem_of_getElem? hy)
        have hn : Hid (bestK l (k + 1) = if lex x.flat y.flat < 0 then (k : Int) else m) := Lib.hid (by
          have e1 : l.getD k default = x := by simp [List.getD, hx]
          have e2 : l.getD m default = y := by simp [List.getD, hy]
          rw [bestK, hm, Int.toNat_natCast, e1, e2]
          have : ¬ (m : Int) = -1 := by omega
          simp [this])
        have K : Hid (∀ w', Step None w w' → (Instr.loadAt 27 (.pointer (some ⟨b, off + k * 17, none⟩))).run Try.prog w' = .ok (.agg x.cells) w' ∧ (Instr.loadAt 27 (.pointer (some ⟨b, off + m * 17, none⟩))).run Try.prog w' = .ok (.agg y.cells) w') := fun w' h' => by
          exact ⟨(H.out.step h' (fun s => s.elim)).load hx, (H.out.step h' (fun s => s.elim)).load hy⟩
        have d2 : ((m : Int) == -1) = false := by simp; try omega
        rw [hm] at hb ⊢
        have cx : (k : Int) < (l.length : Int) := by omega
        have cy : (m : Int) < (l.length : Int) := by omega
        have c0 : (0 : Int) ≤ (k : Int) := by omega
        have c1 : (0 : Int) ≤ (m : Int) := by omega
        have F := Lib.hid (And.intro fx fy)
        clear fx fy hm hx hy hb hlt
        go_wp2_with fail
        refine wp_region_plan (fun w' => (Instr.loadAt 27 (.pointer (some ⟨b, off + k * 17, none⟩))).run Try.prog w' = .ok (.agg x.cells) w' ∧ (Instr.loadAt 27 (.pointer (some ⟨b, off + m * 17, none⟩))).run Try.prog w' = .ok (.agg y.cells) w') (.take 0 (.take 1 (.take 2 (.take 3 (.take 4 (.take 5 (.take 6 (.take 7 (.take 8 (.take 9 (.take 10 (.alt 11 (.take 12 (.take 13 .done)) .none)))))))))))) _
          (by simp only [Plan.map, opOf, List.getElem?_toArray, List.getElem?_cons_zero, List.getElem?_cons_succ, Option.getD_some]; rfl) (by kernel_rfl) (by kernel_rfl) (by kernel_rfl) (by decide) (by intro c a d v w; cases d <;> exact fun h => h) (K.out _ hs.out.drew) ?_
        repeat (first | (refine wpPlan.taken (by rfl) (fun w' hS' => run_load_op rfl rfl hS'.1) ?_; simp only [Act.put, List.setIfInBounds_toArray, List.set_cons_zero, List.set_cons_succ]) | (refine wpPlan.taken (by rfl) (fun w' hS' => run_load_op rfl rfl hS'.2) ?_; simp only [Act.put, List.setIfInBounds_toArray, List.set_cons_zero, List.set_cons_succ]) | (refine wpPlan.taken (by rfl) (by intro w' hS'; (try dsimp only at hS'); go_split_ands; go_simp; try with_reducible rfl) ?_; simp only [Act.put, List.setIfInBounds_toArray, List.set_cons_zero, List.set_cons_succ]) | (refine wpPlan.passed (by rfl) ?_; simp only [Act.put, List.setIfInBounds_toArray, List.set_cons_zero, List.set_cons_succ]))
        refine wpPlan.runs fun K' hK => ?_
        go_simp
        refine (vec_compare x y _ F.out.1 F.out.2).mono ?_
        rintro e w5 ⟨rfl, s5⟩
        have e5 := Lib.hid (hs.out.drew.then_ s5)
        refine hK.out _ _ (K.out _ e5.out) ?_
        clear hK K' s5
        cases h3 : decide (lex x.flat y.flat < 0)
        · have h3' : ¬ lex x.flat y.flat < 0 := by simpa using h3
          have HN := Lib.hid (hn.out.trans (if_neg h3'))
          clear h3' hn K H F
          generalize lex x.flat y.flat = r at *
          repeat (first | (refine wpPlan.taken (by rfl) (fun w' hS' => run_load_op rfl rfl hS'.1) ?_; simp only [Act.put, List.setIfInBounds_toArray, List.set_cons_zero, List.set_cons_succ]) | (refine wpPlan.taken (by rfl) (fun w' hS' => run_load_op rfl rfl hS'.2) ?_; simp only [Act.put, List.setIfInBounds_toArray, List.set_cons_zero, List.set_cons_succ]) | (refine wpPlan.taken (by rfl) (by intro w' hS'; (try dsimp only at hS'); go_split_ands; go_simp; try with_reducible rfl) ?_; simp only [Act.put, List.setIfInBounds_toArray, List.set_cons_zero, List.set_cons_succ]) | (refine wpPlan.passed (by rfl) ?_; simp only [Act.put, List.setIfInBounds_toArray, List.set_cons_zero, List.set_cons_succ]))
          refine wpPlan.done ?_
          go_wp2_with fail
          go_roundw
          case rel => exact ⟨k + 1, by omega, rfl, by rw [HN.out], e5⟩
          case measure => simp [intOf]; omega
        · have h3' : lex x.flat y.flat < 0 := by simpa using h3
          have HN := Lib.hid (hn.out.trans (if_pos h3'))
          clear h3' hn K H F
          generalize lex x.flat y.flat = r at *
          repeat (first | (refine wpPlan.taken (by rfl) (fun w' hS' => run_load_op rfl rfl hS'.1) ?_; simp only [Act.put, List.setIfInBounds_toArray, List.set_cons_zero, List.set_cons_succ]) | (refine wpPlan.taken (by rfl) (fun w' hS' => run_load_op rfl rfl hS'.2) ?_; simp only [Act.put, List.setIfInBounds_toArray, List.set_cons_zero, List.set_cons_succ]) | (refine wpPlan.taken (by rfl) (by intro w' hS'; (try dsimp only at hS'); go_split_ands; go_simp; try with_reducible rfl) ?_; simp only [Act.put, List.setIfInBounds_toArray, List.set_cons_zero, List.set_cons_succ]) | (refine wpPlan.passed (by rfl) ?_; simp only [Act.put, List.setIfInBounds_toArray, List.set_cons_zero, List.set_cons_succ]))
          refine wpPlan.done ?_
          go_wp2_with fail
          go_roundw
          case rel => exact ⟨k + 1, by omega, rfl, by rw [HN.out], e5⟩
          case measure => simp [intOf]; omega
    · have d1 : decide ((k : Int) < (l.length : Int)) = false := by simpa using hlt
      obtain rfl : k = l.length := by omega
      go_wp2_with fail
      go_ret
      exact ⟨rfl, hs.out⟩

set_option maxHeartbeats 8000000 in
theorem rbest_any (l : List Vec) (b off : Nat) (cap : Nat) (w : World) (hl : l.length ≤ 1000) (h : Ways w b off l) :
    Calls Try.prog 22 #[.slice (some ⟨b, off, none⟩) l.length cap] w fun e w' => e = .returned (.int .i64 (bestK l l.length)) ∧ Step None w w' := by
  have H := Lib.hid h
  clear h
  go_enter Try.func22, Try.ntmps22
  go_wp2_with fail
  go_loopw [3, 4] (fun m i wr => ∃ k : Nat, k ≤ l.length ∧ i = .int .i64 k ∧ m = .int .i64 (bestK l k) ∧ Hid (Step None w wr)) (fun _ i _ => l.length - (intOf i).toNat)
  case atStart => exact ⟨0, Nat.zero_le _, rfl, rfl, Lib.hid (Step.refl _ _)⟩
  case round =>
    obtain ⟨k, hk, rfl, rfl, hs⟩ := hrel
    by_cases hlt : k < l.length
    · have d1 : decide ((k : Int) < (l.length : Int)) = true := by simpa using hlt
      have hw1 : IntKind.i64.wrap ((k : Int) + 1) = ((k + 1 : Nat) : Int) := by rw [IntWalk.i64_in _ (by omega)]; omega
      rcases bestK_rng l k with ⟨hb, h0⟩ | hb
      · have hn : Hid (bestK l (k + 1) = (k : Int)) := Lib.hid (by rw [bestK, if_pos (.inl hb)])
        have d2 : decide (bestK l k < 0) = true := by simp [hb]
        have HB := Lib.hid hb
        clear hb h0
        generalize bestK l k = bk at *
        go_wp2_with fail
        refine wp_region_plan (fun w' => True) (.take 0 (.take 1 (.take 2 (.take 3 (.take 4 (.take 5 (.take 6 (.take 7 (.take 8 (.take 9 (.take 10 (.alt 11 (.take 12 (.take 13 .done)) .none)))))))))))) _
          (by simp only [Plan.map, opOf, List.getElem?_toArray, List.getElem?_cons_zero, List.getElem?_cons_succ, Option.getD_some]; rfl) (by kernel_rfl) (by kernel_rfl) (by kernel_rfl) (by decide) (by intro c a d v w; cases d <;> exact fun h => h) trivial ?_
        repeat (first | (refine wpPlan.taken (by rfl) (fun w' hS' => run_load_op rfl rfl hS'.1) ?_; simp only [Act.put, List.setIfInBounds_toArray, List.set_cons_zero, List.set_cons_succ]) | (refine wpPlan.taken (by rfl) (fun w' hS' => run_load_op rfl rfl hS'.2) ?_; simp only [Act.put, List.setIfInBounds_toArray, List.set_cons_zero, List.set_cons_succ]) | (refine wpPlan.taken (by rfl) (by intro w' hS'; (try dsimp only at hS'); go_split_ands; go_simp; try with_reducible rfl) ?_; simp only [Act.put, List.setIfInBounds_toArray, List.set_cons_zero, List.set_cons_succ]) | (refine wpPlan.passed (by rfl) ?_; simp only [Act.put, List.setIfInBounds_toArray, List.set_cons_zero, List.set_cons_succ]))
        refine wpPlan.runs fun K' hK => ?_
        go_simp
        refine hK.out _ _ trivial ?_
        clear hK K'
        repeat (first | (refine wpPlan.taken (by rfl) (fun w' hS' => run_load_op rfl rfl hS'.1) ?_; simp only [Act.put, List.setIfInBounds_toArray, List.set_cons_zero, List.set_cons_succ]) | (refine wpPlan.taken (by rfl) (fun w' hS' => run_load_op rfl rfl hS'.2) ?_; simp only [Act.put, List.setIfInBounds_toArray, List.set_cons_zero, List.set_cons_succ]) | (refine wpPlan.taken (by rfl) (by intro w' hS'; (try dsimp only at hS'); go_split_ands; go_simp; try with_reducible rfl) ?_; simp only [Act.put, List.setIfInBounds_toArray, List.set_cons_zero, List.set_cons_succ]) | (refine wpPlan.passed (by rfl) ?_; simp only [Act.put, List.setIfInBounds_toArray, List.set_cons_zero, List.set_cons_succ]))
        refine wpPlan.done ?_
        go_wp2_with fail
        go_roundw
        case rel => exact ⟨k + 1, by omega, rfl, by rw [hn.out], Lib.hid (hs.out.drew)⟩
        case measure => simp [intOf]; omega
      · obtain ⟨m, hm⟩ : ∃ m : Nat, bestK l k = m := ⟨(bestK l k).toNat, by omega⟩
        obtain ⟨x, hx⟩ : ∃ x, l[k]? = some x := ⟨l[k], List.getElem?_eq_getElem hlt⟩
        obtain ⟨y, hy⟩ : ∃ y, l[m]? = some y := ⟨l[m]'(by omega), List.getElem?_eq_getElem (by omega)⟩
        have fx : x.fine := H.out.fine x (List.mem_of_getElem? hx)
        have fy : y.fine := H.out.fine y (List.mem_of_getElem? hy)
        have hn : Hid (bestK l (k + 1) = if lex x.flat y.flat < 0 then (k : Int) else m) := Lib.hid (by
          have e1 : l.getD k default = x := by simp [List.getD, hx]
          have e2 : l.getD m default = y := by simp [List.getD, hy]
          rw [bestK, hm, Int.toNat_natCast, e1, e2]
          have : ¬ (m : Int) = -1 := by omega
          simp [this])
        have K : Hid (∀ w', Step None w w' → (Instr.loadAt 27 (.pointer (some ⟨b, off + k * 17, none⟩))).run Try.prog w' = .ok (.agg x.cells) w' ∧ (Instr.loadAt 27 (.pointer (some ⟨b, off + m * 17, none⟩))).run Try.prog w' = .ok (.agg y.cells) w') := fun w' h' => by
          exact ⟨(H.out.step h' (fun s => s.elim)).load hx, (H.out.step h' (fun s => s.elim)).load hy⟩
        have d2 : decide ((m : Int) < 0) = false := by simp; try omega
        rw [hm] at hb ⊢
        have cx : (k : Int) < (l.length : Int) := by omega
        have cy : (m : Int) < (l.length : Int) := by omega
        have c0 : (0 : Int) ≤ (k : Int) := by omega
        have c1 : (0 : Int) ≤ (m : Int) := by omega
        have F := Lib.hid (And.intro fx fy)
        clear fx fy hm hx hy hb hlt
        go_wp2_with fail
        refine wp_region_plan (fun w' => (Instr.loadAt 27 (.pointer (some ⟨b, off + k * 17, none⟩))).run Try.prog w' = .ok (.agg x.cells) w' ∧ (Instr.loadAt 27 (.pointer (some ⟨b, off + m * 17, none⟩))).run Try.prog w' = .ok (.agg y.cells) w') (.take 0 (.take 1 (.take 2 (.take 3 (.take 4 (.take 5 (.take 6 (.take 7 (.take 8 (.take 9 (.take 10 (.alt 11 (.take 12 (.take 13 .done)) .none)))))))))))) _
          (by simp only [Plan.map, opOf, List.getElem?_toArray, List.getElem?_cons_zero, List.getElem?_cons_succ, Option.getD_some]; rfl) (by kernel_rfl) (by kernel_rfl) (by kernel_rfl) (by decide) (by intro c a d v w; cases d <;> exact fun h => h) (K.out _ hs.out.drew) ?_
        repeat (first | (refine wpPlan.taken (by rfl) (fun w' hS' => run_load_op rfl rfl hS'.1) ?_; simp only [Act.put, List.setIfInBounds_toArray, List.set_cons_zero, List.set_cons_succ]) | (refine wpPlan.taken (by rfl) (fun w' hS' => run_load_op rfl rfl hS'.2) ?_; simp only [Act.put, List.setIfInBounds_toArray, List.set_cons_zero, List.set_cons_succ]) | (refine wpPlan.taken (by rfl) (by intro w' hS'; (try dsimp only at hS'); go_split_ands; go_simp; try with_reducible rfl) ?_; simp only [Act.put, List.setIfInBounds_toArray, List.set_cons_zero, List.set_cons_succ]) | (refine wpPlan.passed (by rfl) ?_; simp only [Act.put, List.setIfInBounds_toArray, List.set_cons_zero, List.set_cons_succ]))
        refine wpPlan.runs fun K' hK => ?_
        go_simp
        refine (rvec_compare x y _ F.out.1 F.out.2).mono ?_
        rintro e w5 ⟨rfl, s5⟩
        have e5 := Lib.hid (hs.out.drew.then_ s5)
        refine hK.out _ _ (K.out _ e5.out) ?_
        clear hK K' s5
        cases h3 : decide (lex x.flat y.flat < 0)
        · have h3' : ¬ lex x.flat y.flat < 0 := by simpa using h3
          have HN := Lib.hid (hn.out.trans (if_neg h3'))
          clear h3' hn K H F
          generalize lex x.flat y.flat = r at *
          repeat (first | (refine wpPlan.taken (by rfl) (fun w' hS' => run_load_op rfl rfl hS'.1) ?_; simp only [Act.put, List.setIfInBounds_toArray, List.set_cons_zero, List.set_cons_succ]) | (refine wpPlan.taken (by rfl) (fun w' hS' => run_load_op rfl rfl hS'.2) ?_; simp only [Act.put, List.setIfInBounds_toArray, List.set_cons_zero, List.set_cons_succ]) | (refine wpPlan.taken (by rfl) (by intro w' hS'; (try dsimp only at hS'); go_split_ands; go_simp; try with_reducible rfl) ?_; simp only [Act.put, List.setIfInBounds_toArray, List.set_cons_zero, List.set_cons_succ]) | (refine wpPlan.passed (by rfl) ?_; simp only [Act.put, List.setIfInBounds_toArray, List.set_cons_zero, List.set_cons_succ]))
          refine wpPlan.done ?_
          go_wp2_with fail
          go_roundw
          case rel => exact ⟨k + 1, by omega, rfl, by rw [HN.out], e5⟩
          case measure => simp [intOf]; omega
        · have h3' : lex x.flat y.flat < 0 := by simpa using h3
          have HN := Lib.hid (hn.out.trans (if_pos h3'))
          clear h3' hn K H F
          generalize lex x.flat y.flat = r at *
          repeat (first | (refine wpPlan.taken (by rfl) (fun w' hS' => run_load_op rfl rfl hS'.1) ?_; simp only [Act.put, List.setIfInBounds_toArray, List.set_cons_zero, List.set_cons_succ]) | (refine wpPlan.taken (by rfl) (fun w' hS' => run_load_op rfl rfl hS'.2) ?_; simp only [Act.put, List.setIfInBounds_toArray, List.set_cons_zero, List.set_cons_succ]) | (refine wpPlan.taken (by rfl) (by intro w' hS'; (try dsimp only at hS'); go_split_ands; go_simp; try with_reducible rfl) ?_; simp only [Act.put, List.setIfInBounds_toArray, List.set_cons_zero, List.set_cons_succ]) | (refine wpPlan.passed (by rfl) ?_; simp only [Act.put, List.setIfInBounds_toArray, List.set_cons_zero, List.set_cons_succ]))
          refine wpPlan.done ?_
          go_wp2_with fail
          go_roundw
          case rel => exact ⟨k + 1, by omega, rfl, by rw [HN.out], e5⟩
          case measure => simp [intOf]; omega
    · have d1 : decide ((k : Int) < (l.length : Int)) = false := by simpa using hlt
      obtain rfl : k = l.length := by omega
      go_wp2_with fail
      go_ret
      exact ⟨rfl, hs.out⟩

end Go.Proofs.Ytehlaomippbehaa
