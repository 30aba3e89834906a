/- Stop: the code's and the document's. -/
import Derived.Test.YthebgpbofjgcoaaDoorW3
namespace Go.Gm
/-- Behind the first k links. -/
def Shk.stopK (s : Shk) (serve : Bool) : Nat → Shk
  | 0 => { s with ses := false, alone := serve }
  | k + 1 => (s.stopK serve k).put ((k : Int) + 1) ⟨((s.stopK serve k).get ((k : Int) + 1)).up, 0, false⟩
theorem Shk.stopK_is (s : Shk) (serve : Bool) : ∀ k, k ≤ s.ls.length → s.stopK serve k = ⟨(s.ls.take k).map (fun l => ⟨l.up, 0, false⟩) ++ s.ls.drop k, false, serve⟩
  | 0, _ => by simp [Shk.stopK]
  | k + 1, h => by
    have ih := Shk.stopK_is s serve k (by omega)
    rw [Shk.stopK, ih, Shk.put_nat]
    obtain ⟨x, hx⟩ : ∃ x, s.ls[k]? = some x := ⟨_, List.getElem?_eq_getElem (by omega)⟩
    have hl : ((s.ls.take k).map (fun l : Lk => (⟨l.up, 0, false⟩ : Lk))).length = k := by simp; omega
    have hd : s.ls.drop k = x :: s.ls.drop (k + 1) := by
      rw [List.drop_eq_getElem_cons (by omega)]
      rw [List.getElem?_eq_getElem (by omega)] at hx
      simp at hx
      rw [hx]
    have hg : (Shk.get ⟨(s.ls.take k).map (fun l => ⟨l.up, 0, false⟩) ++ s.ls.drop k, false, serve⟩ ((k : Int) + 1)) = x := by
      unfold Shk.get
      simp only
      rw [show ((k : Int) + 1 - 1).toNat = k by omega, List.getD_eq_getElem?_getD, List.getElem?_append_right (by omega), hl, Nat.sub_self, hd]
      rfl
    rw [hg]
    simp only [Shk.mk.injEq, and_true]
    rw [List.set_append_right _ _ (by omega), hl, Nat.sub_self, hd, List.set_cons_zero, List.take_add_one, hx]
    simp
theorem Shk.stopK_all (s : Shk) (serve : Bool) : s.stopK serve s.ls.length = s.stop serve := by
  rw [Shk.stopK_is s serve _ (Nat.le_refl _)]
  simp [Shk.stop]
theorem Shk.stopK_len (s : Shk) (serve : Bool) : ∀ k, (s.stopK serve k).ls.length = s.ls.length
  | 0 => rfl
  | k + 1 => by rw [Shk.stopK, Shk.put_len, Shk.stopK_len s serve k]
theorem Shk.put_put (s : Shk) (k : Nat) (x y : Lk) : (s.put ((k : Int) + 1) x).put ((k : Int) + 1) y = s.put ((k : Int) + 1) y := by
  rw [Shk.put_nat, Shk.put_nat, Shk.put_nat]
  simp
theorem Shk.get_put {s : Shk} {k : Nat} (hk : k < s.ls.length) (x : Lk) : (s.put ((k : Int) + 1) x).get ((k : Int) + 1) = x := by
  rw [Shk.put_nat]
  unfold Shk.get
  rw [show ((k : Int) + 1 - 1).toNat = k by omega]
  simp [List.getD_eq_getElem?_getD, hk]
end Go.Gm
namespace Go.Proofs.YthebgpbofjgcoaaDoor
open Go.RowKit Go.Gm
theorem Rep.setAll {ts te : TypeId} {w : World} {g b : Nat} {s : Shk} (h : Rep ts te w g b s) (ht : ts ≠ te) {k : Nat} (hk : k < s.ls.length) (l : Lk) :
    Rep ts te (((w.setCell ⟨b, k * 3, none⟩ (.bool l.up)).setCell ⟨b, k * 3 + 1, none⟩ (.int .i64 l.owed)).setCell ⟨b, k * 3 + 2, none⟩ (.bool l.down)) g b (s.put ((k : Int) + 1) l) := by
  have r1 := h.setLink0 ht hk (v := .bool l.up) (l := ⟨l.up, (s.get ((k : Int) + 1)).owed, (s.get ((k : Int) + 1)).down⟩) rfl
  have k1 : k < (s.put ((k : Int) + 1) ⟨l.up, (s.get ((k : Int) + 1)).owed, (s.get ((k : Int) + 1)).down⟩).ls.length := by rw [Shk.put_len]; exact hk
  have r2 := r1.setLink ht k1 (j := 1) (by decide) (v := .int .i64 l.owed) (l := ⟨l.up, l.owed, (s.get ((k : Int) + 1)).down⟩) (by rw [Shk.get_put hk]; rfl)
  rw [Shk.put_put] at r2
  have k2 : k < (s.put ((k : Int) + 1) ⟨l.up, l.owed, (s.get ((k : Int) + 1)).down⟩).ls.length := by rw [Shk.put_len]; exact hk
  have r3 := r2.setLink ht k2 (j := 2) (by decide) (v := .bool l.down) (l := l) (by rw [Shk.get_put hk]; rfl)
  rw [Shk.put_put] at r3
  exact r3
set_option maxHeartbeats 4000000 in
theorem stop_any (g b : Nat) (s : Shk) (serve : Bool) (w : World) (hl : s.ls.length ≤ 63) (h : Rep 64 72 w g b s) :
    Calls Tryd.prog 19 #[.pointer (some ⟨g, 0, none⟩), .bool serve] w fun e w' => e = .returned (.tuple #[]) ∧ Rep 64 72 w' g b (s.stop serve) ∧ Step (fun k => k = g ∨ k = b) w w' := by
  have ne := h.ne (by decide)
  have f1 := (h.frz 1).2
  have C := h.cells
  have r1 := h.setSes (by decide) false
  have t1 := (Step.refl (fun k => k = g ∨ k = b) w).setCell (p := ⟨g, 1, none⟩) (fun _ => .inl rfl) (.bool false)
  obtain ⟨W1, hW1⟩ : ∃ W1, w.setCell ⟨g, 1, none⟩ (.bool false) = W1 := ⟨_, rfl⟩
  rw [hW1] at r1 t1
  have f2 := (r1.frz 2).2
  have C1 := r1.cells
  have r2 := r1.setAlone (by decide) serve
  have t2 := t1.setCell (p := ⟨g, 2, none⟩) (fun _ => .inl rfl) (.bool serve)
  obtain ⟨W2, hW2⟩ : ∃ W2, W1.setCell ⟨g, 2, none⟩ (.bool serve) = W2 := ⟨_, rfl⟩
  rw [hW2] at r2 t2
  have HE1 := Lib.hid hW1
  have HE2 := Lib.hid hW2
  have R2 : Hid (Rep 64 72 W2 g b (s.stopK serve 0)) := Lib.hid r2
  have T2 := Lib.hid t2
  obtain ⟨d0, d1, d2⟩ := C
  obtain ⟨e0, e1, e2⟩ := C1
  obtain ⟨g0, -, -⟩ := r2.cells
  simp only at g0
  clear h r1 r2 t1 t2 hW1 hW2
  have hi : ((s.ls.length : Nat) : Int) ≤ 9223372036854775807 := by omega
  go_enter Tryd.func19, Tryd.ntmps19
  go_wp2_with (first | rw [HE1.out] | rw [HE2.out])
  go_loopw [17] (fun t wr => ∃ k : Nat, k ≤ s.ls.length ∧ t = .int .i64 k ∧ Hid (Rep 64 72 wr g b (s.stopK serve k)) ∧ Hid (Step (fun k => k = g ∨ k = b) w wr)) (fun t _ => s.ls.length - (intOf t).toNat)
  case atStart => exact ⟨0, by omega, rfl, R2, T2⟩
  case round =>
    obtain ⟨k, hk, rfl, hR, hT⟩ := hrel
    rename_i wr
    clear R2 T2
    cases c1 : decide ((k : Int) < (s.ls.length : Int))
    · have c1' : decide (k < s.ls.length) = false := by simp at c1 ⊢; omega
      have hin : k = s.ls.length := by simp at c1; omega
      rw [hin, Shk.stopK_all] at hR
      clear hin
      go_wp2_with fail
      go_end0
      exact ⟨rfl, hR.out, hT.out⟩
    have hlt : k < s.ls.length := by simp at c1; omega
    have c1' : decide (k < s.ls.length) = true := by simpa using hlt
    have hlen := Shk.stopK_len s serve k
    have hkk : k < (s.stopK serve k).ls.length := by omega
    have cc := hR.out.cells.1
    rw [hlen] at cc
    obtain ⟨l0, l1, l2⟩ := hR.out.link hkk
    have z0 := (hR.out.frz (k * 3)).1
    have z1 := (hR.out.frz (k * 3 + 1)).1
    have z2 := (hR.out.frz (k * 3 + 2)).1
    clear hlen
    have i0 : (0 : Int) ≤ (k : Int) := by omega
    have i1 : (k : Int) < (s.ls.length : Int) := by omega
    go_wp2_with fail
    have dr : Step (fun k => k = g ∨ k = b) wr wr.drew := (Step.refl _ wr).drew
    refine wp_region_plan (fun w' => w'.cell? ⟨g, 0, none⟩ = some (.slice (some ⟨b, 0, none⟩) s.ls.length s.ls.length) ∧ w'.cell? ⟨b, k * 3, none⟩ = some (.bool ((s.stopK serve k).get ((k : Int) + 1)).up)) (.take 0 (.take 1 (.take 2 (.take 3 (.take 4 (.take 5 (.take 6 (.take 7 (.take 8 (.take 9 (.take 10 (.take 11 (.take 12 (.take 13 (.take 14 (.last 15)))))))))))))))) _
      (by simp only [Plan.map, opOf, List.getElem?_toArray, List.getElem?_cons_zero, List.getElem?_cons_succ, Option.getD_some]; rfl) (by kernel_rfl) (by kernel_rfl) (by kernel_rfl) (by decide) (by intro c a d v w; cases d <;> exact fun h => h)
      ⟨cc, l0⟩ ?_
    repeat (first | (refine wpPlan.taken (by rfl) (by intro w' hS'; (try dsimp only at hS'); go_split_ands; go_simp; try with_reducible rfl) ?_; simp only [Act.put, List.setIfInBounds_toArray, List.set_cons_zero, List.set_cons_succ]) | (refine wpPlan.passed (by rfl) ?_; simp only [Act.put, List.setIfInBounds_toArray, List.set_cons_zero, List.set_cons_succ]))
    refine wpPlan.ends fun K' hK => ?_
    go_simp
    refine hK.out _ _ ?_
    clear hK K'
    have R9 := Lib.hid ((hR.out.setAll (by decide) hkk ⟨((s.stopK serve k).get ((k : Int) + 1)).up, 0, false⟩).still ((Step.refl None _).drew))
    have T9 := Lib.hid ((((hT.out.setCell (p := ⟨b, k * 3, none⟩) (fun _ => .inr rfl) (.bool ((s.stopK serve k).get ((k : Int) + 1)).up)).setCell (p := ⟨b, k * 3 + 1, none⟩) (fun _ => .inr rfl) (.int .i64 0)).setCell (p := ⟨b, k * 3 + 2, none⟩) (fun _ => .inr rfl) (.bool false)).drew)
    clear hR hT l0 l1 l2 z0 z1 z2 cc
    go_wp2_with fail
    go_roundw
    case rel => exact ⟨k + 1, by omega, by first | rfl | simp, R9, T9⟩
    case measure => simp [intOf]; omega
set_option maxHeartbeats 4000000 in
theorem rstop_any (g b : Nat) (s : Shk) (serve : Bool) (w : World) (hl : s.ls.length ≤ 63) (h : Rep 67 74 w g b s) :
    Calls Tryd.prog 25 #[.pointer (some ⟨g, 0, none⟩), .bool serve] w fun e w' => e = .returned (.tuple #[]) ∧ Rep 67 74 w' g b (s.stop serve) ∧ Step (fun k => k = g ∨ k = b) w w' := by
  have ne := h.ne (by decide)
  have f1 := (h.frz 1).2
  have C := h.cells
  have r1 := h.setSes (by decide) false
  have t1 := (Step.refl (fun k => k = g ∨ k = b) w).setCell (p := ⟨g, 1, none⟩) (fun _ => .inl rfl) (.bool false)
  obtain ⟨W1, hW1⟩ : ∃ W1, w.setCell ⟨g, 1, none⟩ (.bool false) = W1 := ⟨_, rfl⟩
  rw [hW1] at r1 t1
  have f2 := (r1.frz 2).2
  have C1 := r1.cells
  have r2 := r1.setAlone (by decide) serve
  have t2 := t1.setCell (p := ⟨g, 2, none⟩) (fun _ => .inl rfl) (.bool serve)
  obtain ⟨W2, hW2⟩ : ∃ W2, W1.setCell ⟨g, 2, none⟩ (.bool serve) = W2 := ⟨_, rfl⟩
  rw [hW2] at r2 t2
  have HE1 := Lib.hid hW1
  have HE2 := Lib.hid hW2
  have R2 : Hid (Rep 67 74 W2 g b (s.stopK serve 0)) := Lib.hid r2
  have T2 := Lib.hid t2
  obtain ⟨d0, d1, d2⟩ := C
  obtain ⟨e0, e1, e2⟩ := C1
  clear h r1 r2 t1 t2 hW1 hW2
  have hi : ((s.ls.length : Nat) : Int) ≤ 9223372036854775807 := by omega
  go_enter Tryd.func25, Tryd.ntmps25
  go_wp2_with (first | rw [HE1.out] | rw [HE2.out])
  go_loopw [4] (fun t wr => ∃ k : Nat, k ≤ s.ls.length ∧ t = .int .i64 k ∧ Hid (Rep 67 74 wr g b (s.stopK serve k)) ∧ Hid (Step (fun k => k = g ∨ k = b) w wr)) (fun t _ => s.ls.length - (intOf t).toNat)
  case atStart => exact ⟨0, by omega, rfl, R2, T2⟩
  case round =>
    obtain ⟨k, hk, rfl, hR, hT⟩ := hrel
    rename_i wr
    clear R2 T2
    have hlen := Shk.stopK_len s serve k
    have cc := hR.out.cells.1
    rw [hlen] at cc
    cases c1 : decide ((k : Int) < (s.ls.length : Int))
    · have c1' : decide (k < s.ls.length) = false := by simp at c1 ⊢; omega
      have hin : k = s.ls.length := by simp at c1; omega
      rw [hin, Shk.stopK_all] at hR
      clear hin hlen
      go_wp2_with fail
      go_end0
      exact ⟨rfl, hR.out, hT.out⟩
    have hlt : k < s.ls.length := by simp at c1; omega
    have c1' : decide (k < s.ls.length) = true := by simpa using hlt
    have hkk : k < (s.stopK serve k).ls.length := by omega
    clear hlen
    obtain ⟨l0, l1, l2⟩ := hR.out.link hkk
    have i0 : (0 : Int) ≤ (k : Int) := by omega
    have i1 : (k : Int) < (s.ls.length : Int) := by omega
    have z1 := (hR.out.frz (k * 3 + 1)).1
    have r3 := hR.out.setLink (by decide) hkk (j := 1) (by decide) (v := .int .i64 0) (l := ⟨((s.stopK serve k).get ((k : Int) + 1)).up, 0, ((s.stopK serve k).get ((k : Int) + 1)).down⟩) rfl
    have t3 := hT.out.setCell (p := ⟨b, k * 3 + 1, none⟩) (fun _ => .inr rfl) (.int .i64 0)
    obtain ⟨W3, hW3⟩ : ∃ W3, wr.setCell ⟨b, k * 3 + 1, none⟩ (.int .i64 0) = W3 := ⟨_, rfl⟩
    rw [hW3] at r3 t3
    have k3 : k < ((s.stopK serve k).put ((k : Int) + 1) ⟨((s.stopK serve k).get ((k : Int) + 1)).up, 0, ((s.stopK serve k).get ((k : Int) + 1)).down⟩).ls.length := by rw [Shk.put_len]; exact hkk
    have z2 := (r3.frz (k * 3 + 2)).1
    have c3 := r3.cells.1
    rw [Shk.put_len, Shk.stopK_len] at c3
    obtain ⟨-, -, m2⟩ := r3.link k3
    have r4 := r3.setLink (by decide) k3 (j := 2) (by decide) (v := .bool false) (l := ⟨((s.stopK serve k).get ((k : Int) + 1)).up, 0, false⟩) (by rw [Shk.get_put hkk]; rfl)
    rw [Shk.put_put] at r4
    have t4 := t3.setCell (p := ⟨b, k * 3 + 2, none⟩) (fun _ => .inr rfl) (.bool false)
    have HE3 := Lib.hid hW3
    have R4 := Lib.hid r4
    have T4 := Lib.hid t4
    clear r3 r4 t3 t4 hW3 hR hT hkk k3
    go_wp2_with (first | rw [HE3.out])
    go_roundw
    case rel => exact ⟨k + 1, by omega, by first | rfl | simp, R4, T4⟩
    case measure => simp [intOf]; omega
end Go.Proofs.YthebgpbofjgcoaaDoor
