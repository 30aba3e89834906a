/- Shake in its blocks; at, has, Serves, Blocked, New: the code's and the document's. -/
import Derived.Test.YthebgpbofjgcoaaDoorK9
import Derived.Test.YthebgpbofjgcoaaDoorA1
import Derived.Test.YthebgpbofjgcoaaDoorCut
import Derived.Test.YthebgpbofjgcoaaDoorTyp
namespace Go.Proofs.YthebgpbofjgcoaaDoor
open Go.RowKit Go.Gm

/-- A Shake (type ts) in block g, its links (type te) in block b. -/
structure Rep (ts te : TypeId) (w : World) (g b : Nat) (s : Shk) : Prop where
  st : w.heap[g]? = some (.cells #[.slice (some ⟨b, 0, none⟩) s.ls.length s.ls.length, .bool s.ses, .bool s.alone] ts (0, 0))
  row : w.heap[b]? = some (.cells (flatL s.ls).toArray te (0, 0))
section
variable {ts te : TypeId} {w w' : World} {g b : Nat} {s : Shk}
theorem Rep.step {S : Nat → Prop} (h : Rep ts te w g b s) (hw : Step S w w') (h1 : ¬ S g) (h2 : ¬ S b) : Rep ts te w' g b s := ⟨hw.blk h.st h1, hw.blk h.row h2⟩
theorem Rep.still (h : Rep ts te w g b s) (hw : Step None w w') : Rep ts te w' g b s := h.step hw (fun s => s.elim) (fun s => s.elim)
theorem Rep.cells (h : Rep ts te w g b s) : w.cell? ⟨g, 0, none⟩ = some (.slice (some ⟨b, 0, none⟩) s.ls.length s.ls.length) ∧ w.cell? ⟨g, 1, none⟩ = some (.bool s.ses) ∧ w.cell? ⟨g, 2, none⟩ = some (.bool s.alone) := by
  have k := blk_cell h.st
  exact ⟨k 0, k 1, k 2⟩
theorem Rep.link (h : Rep ts te w g b s) {k : Nat} (hk : k < s.ls.length) : w.cell? ⟨b, k * 3, none⟩ = some (.bool (s.get ((k : Int) + 1)).up) ∧ w.cell? ⟨b, k * 3 + 1, none⟩ = some (.int .i64 (s.get ((k : Int) + 1)).owed) ∧ w.cell? ⟨b, k * 3 + 2, none⟩ = some (.bool (s.get ((k : Int) + 1)).down) := by
  have q := blk_cell h.row
  have hg := Shk.get_nat hk
  have e := fun j hj => flatL_get s.ls k _ j hg hj
  refine ⟨?_, ?_, ?_⟩
  · rw [q, List.getElem?_toArray, ← Nat.add_zero (k * 3), e 0 (by decide)]; rfl
  · rw [q, List.getElem?_toArray, e 1 (by decide)]; rfl
  · rw [q, List.getElem?_toArray, e 2 (by decide)]; rfl
theorem Rep.frz (h : Rep ts te w g b s) (i : Nat) : w.frozen? ⟨b, i, none⟩ = false ∧ w.frozen? ⟨g, i, none⟩ = false := ⟨blk_frozen h.row i, blk_frozen h.st i⟩
theorem Rep.ne (h : Rep ts te w g b s) (ht : ts ≠ te) : g ≠ b := blk_ne h.st h.row ht
theorem Rep.setLink (h : Rep ts te w g b s) (ht : ts ≠ te) {k : Nat} (hk : k < s.ls.length) {j : Nat} (hj : j < 3) {v : Value} {l : Lk} (hl : (s.get ((k : Int) + 1)).cells.set j v = l.cells) :
    Rep ts te (w.setCell ⟨b, k * 3 + j, none⟩ v) g b (s.put ((k : Int) + 1) l) := by
  have hs := (Step.refl (· = b) w).setCell (p := ⟨b, k * 3 + j, none⟩) (fun _ => rfl) v
  rw [Shk.put_nat]
  refine ⟨?_, ?_⟩
  · have := hs.blk h.st (h.ne ht)
    simpa using this
  · have := blk_set h.row (k * 3 + j) v
    rw [this, List.setIfInBounds_toArray, flatL_set s.ls k _ l j v (Shk.get_nat hk) hj hl]
theorem Rep.setLink0 (h : Rep ts te w g b s) (ht : ts ≠ te) {k : Nat} (hk : k < s.ls.length) {v : Value} {l : Lk} (hl : (s.get ((k : Int) + 1)).cells.set 0 v = l.cells) :
    Rep ts te (w.setCell ⟨b, k * 3, none⟩ v) g b (s.put ((k : Int) + 1) l) := h.setLink ht hk (j := 0) (by decide) hl
theorem Rep.setSes (h : Rep ts te w g b s) (ht : ts ≠ te) (x : Bool) : Rep ts te (w.setCell ⟨g, 1, none⟩ (.bool x)) g b { s with ses := x } := by
  have hs := (Step.refl (· = g) w).setCell (p := ⟨g, 1, none⟩) (fun _ => rfl) (.bool x)
  refine ⟨?_, hs.blk h.row (fun e => h.ne ht e.symm)⟩
  have := blk_set h.st 1 (.bool x)
  simpa using this
theorem Rep.setAlone (h : Rep ts te w g b s) (ht : ts ≠ te) (x : Bool) : Rep ts te (w.setCell ⟨g, 2, none⟩ (.bool x)) g b { s with alone := x } := by
  have hs := (Step.refl (· = g) w).setCell (p := ⟨g, 2, none⟩) (fun _ => rfl) (.bool x)
  refine ⟨?_, hs.blk h.row (fun e => h.ne ht e.symm)⟩
  have := blk_set h.st 2 (.bool x)
  simpa using this
end

theorem at_ok (g b : Nat) (s : Shk) (k : Nat) (w : World) (hk : k < s.ls.length) (hl : s.ls.length ≤ 63) (h : Rep 64 72 w g b s) :
    Calls Tryd.prog 26 #[.pointer (some ⟨g, 0, none⟩), .int .i64 ((k : Int) + 1)] w fun e w' => e = .returned (.pointer (some ⟨b, k * 3, none⟩)) ∧ w = w' := by
  obtain ⟨c0, -, -⟩ := h.cells
  have d1 : decide ((k : Int) + 1 < 1) = false := by simp; omega
  have d2 : decide ((s.ls.length : Int) < (k : Int) + 1) = false := by simp; omega
  have w1 : wrap64 ((k : Int) + 1 - 1) = k := by unfold wrap64; omega
  have u1 : IntKind.i64.wrap ((k : Int) + 1 - 1) = k := by rw [IntKind.wrap_i64]; omega
  have i1 : (k : Int) < (s.ls.length : Int) := by omega
  have i0 : (0 : Int) ≤ (k : Int) := by omega
  clear h
  go_enter Tryd.func26, Tryd.ntmps26
  go_wp2_with fail
  go_ret
  exact ⟨by simp, rfl⟩
theorem at_bad (g b : Nat) (s : Shk) (n : Int) (w : World) (hn : s.has n = false) (h : Rep 64 72 w g b s) :
    Calls Tryd.prog 26 #[.pointer (some ⟨g, 0, none⟩), .int .i64 n] w fun e w' => e = .returned (.pointer none) ∧ w = w' := by
  obtain ⟨c0, -, -⟩ := h.cells
  have hn' : n < 1 ∨ (s.ls.length : Int) < n := by
    simp only [Shk.has, Bool.and_eq_false_iff, decide_eq_false_iff_not] at hn
    omega
  clear h hn
  by_cases h1 : n < 1
  · have d1 : decide (n < 1) = true := by simpa using h1
    clear hn' h1
    go_enter Tryd.func26, Tryd.ntmps26
    go_wp2_with fail
    go_ret
    exact ⟨rfl, rfl⟩
  · have d1 : decide (n < 1) = false := by simpa using h1
    have d2 : decide ((s.ls.length : Int) < n) = true := by simp; omega
    clear hn' h1
    go_enter Tryd.func26, Tryd.ntmps26
    go_wp2_with fail
    go_ret
    exact ⟨rfl, rfl⟩
theorem has_any (g b : Nat) (s : Shk) (n : Int) (w : World) (h : Rep 67 74 w g b s) :
    Calls Tryd.prog 27 #[.pointer (some ⟨g, 0, none⟩), .int .i64 n] w fun e w' => e = .returned (.bool (s.has n)) ∧ w = w' := by
  obtain ⟨c0, -, -⟩ := h.cells
  unfold Shk.has
  clear h
  cases d1 : decide (1 ≤ n)
  · go_enter Tryd.func27, Tryd.ntmps27
    go_wp2_with fail
    go_ret
    exact ⟨by simp, rfl⟩
  · go_enter Tryd.func27, Tryd.ntmps27
    go_wp2_with fail
    go_ret
    exact ⟨by simp, rfl⟩

theorem serves_any (g b : Nat) (s : Shk) (n : Int) (w : World) (hl : s.ls.length ≤ 63) (h : Rep 64 72 w g b s) :
    Calls Tryd.prog 12 #[.pointer (some ⟨g, 0, none⟩), .int .i64 n] w fun e w' => e = .returned (.bool (s.serves n)) ∧ w = w' := by
  have C := h.cells
  cases hn : s.has n
  · have B := Lib.hid (at_bad g b s n w hn h)
    rw [show s.serves n = false by simp [Shk.serves, hn]]
    clear h C
    go_enter Tryd.func12, Tryd.ntmps12
    go_wp2_with fail
    refine B.out.mono ?_
    rintro e w' ⟨rfl, rfl⟩
    go_wp2_with fail
    go_ret
    exact ⟨rfl, rfl⟩
  · obtain ⟨k, rfl, hk⟩ := Shk.has_nat hn
    have B := Lib.hid (at_ok g b s k w hk hl h)
    obtain ⟨l0, l1, -⟩ := h.link hk
    obtain ⟨-, c1, c2⟩ := C
    have hv : Hid (s.serves ((k : Int) + 1) = ((s.get ((k : Int) + 1)).up && (if s.ses then (s.get ((k : Int) + 1)).owed == 0 else s.alone))) := Lib.hid (by simp [Shk.serves, hn])
    rw [hv.out]
    clear h hn hv
    generalize s.get ((k : Int) + 1) = l at *
    cases hu : l.up
    · rw [hu] at l0
      rw [Bool.false_and]
      go_enter Tryd.func12, Tryd.ntmps12
      go_wp2_with fail
      refine B.out.mono ?_
      rintro e w' ⟨rfl, rfl⟩
      go_wp2_with fail
      go_ret
      exact ⟨by simp, rfl⟩
    · rw [hu] at l0
      cases hs : s.ses
      · rw [hs] at c1
        go_enter Tryd.func12, Tryd.ntmps12
        go_wp2_with fail
        refine B.out.mono ?_
        rintro e w' ⟨rfl, rfl⟩
        go_wp2_with fail
        go_ret
        exact ⟨by simp, rfl⟩
      · rw [hs] at c1
        go_enter Tryd.func12, Tryd.ntmps12
        go_wp2_with fail
        refine B.out.mono ?_
        rintro e w' ⟨rfl, rfl⟩
        go_wp2_with fail
        go_ret
        exact ⟨by simp, rfl⟩
theorem blocked_any (g b : Nat) (s : Shk) (n : Int) (w : World) (hl : s.ls.length ≤ 63) (h : Rep 64 72 w g b s) :
    Calls Tryd.prog 14 #[.pointer (some ⟨g, 0, none⟩), .int .i64 n] w fun e w' => e = .returned (.bool (s.blocked n)) ∧ w = w' := by
  have C := h.cells
  cases hn : s.has n
  · have B := Lib.hid (at_bad g b s n w hn h)
    rw [show s.blocked n = true by simp [Shk.blocked, hn]]
    clear h C
    go_enter Tryd.func14, Tryd.ntmps14
    go_wp2_with fail
    refine B.out.mono ?_
    rintro e w' ⟨rfl, rfl⟩
    go_wp2_with fail
    go_ret
    exact ⟨rfl, rfl⟩
  · obtain ⟨k, rfl, hk⟩ := Shk.has_nat hn
    have B := Lib.hid (at_ok g b s k w hk hl h)
    obtain ⟨-, -, l2⟩ := h.link hk
    obtain ⟨-, c1, -⟩ := C
    have hv : Hid (s.blocked ((k : Int) + 1) = (!s.ses || !(s.get ((k : Int) + 1)).down)) := Lib.hid (by simp [Shk.blocked, hn])
    rw [hv.out]
    clear h hn hv
    generalize s.get ((k : Int) + 1) = l at *
    cases hs : s.ses
    · rw [hs] at c1
      go_enter Tryd.func14, Tryd.ntmps14
      go_wp2_with fail
      refine B.out.mono ?_
      rintro e w' ⟨rfl, rfl⟩
      go_wp2_with fail
      go_ret
      exact ⟨by simp, rfl⟩
    · rw [hs] at c1
      go_enter Tryd.func14, Tryd.ntmps14
      go_wp2_with fail
      refine B.out.mono ?_
      rintro e w' ⟨rfl, rfl⟩
      go_wp2_with fail
      go_ret
      exact ⟨by simp, rfl⟩
theorem rserves_any (g b : Nat) (s : Shk) (n : Int) (w : World) (hl : s.ls.length ≤ 63) (h : Rep 67 74 w g b s) :
    Calls Tryd.prog 13 #[.pointer (some ⟨g, 0, none⟩), .int .i64 n] w fun e w' => e = .returned (.bool (s.serves n)) ∧ w = w' := by
  have C := h.cells
  have B := Lib.hid (has_any g b s n w h)
  cases hn : s.has n
  · rw [show s.serves n = false by simp [Shk.serves, hn]]
    rw [hn] at B
    clear h C
    go_enter Tryd.func13, Tryd.ntmps13
    go_wp2_with fail
    refine B.out.mono ?_
    rintro e w' ⟨rfl, rfl⟩
    go_wp2_with fail
    go_ret
    exact ⟨rfl, rfl⟩
  · rw [hn] at B
    obtain ⟨k, rfl, hk⟩ := Shk.has_nat hn
    obtain ⟨l0, l1, l2⟩ := h.link hk
    obtain ⟨c0, c1, c2⟩ := C
    have w1 : wrap64 ((k : Int) + 1 - 1) = k := by unfold wrap64; omega
    have u1 : IntKind.i64.wrap ((k : Int) + 1 - 1) = k := by rw [IntKind.wrap_i64]; omega
    have i1 : (k : Int) < (s.ls.length : Int) := by omega
    have i0 : (0 : Int) ≤ (k : Int) := by omega
    have hv : Hid (s.serves ((k : Int) + 1) = ((s.get ((k : Int) + 1)).up && (if s.ses then (s.get ((k : Int) + 1)).owed == 0 else s.alone))) := Lib.hid (by simp [Shk.serves, hn])
    rw [hv.out]
    clear h hn hv
    generalize s.get ((k : Int) + 1) = l at *
    cases hz4 : l.up
    · rw [hz4] at l0
      rw [Bool.false_and]
      go_enter Tryd.func13, Tryd.ntmps13
      go_wp2_with fail
      refine B.out.mono ?_
      rintro e w' ⟨rfl, rfl⟩
      go_wp2_with fail
      go_ret
      exact ⟨by simp, rfl⟩
    · rw [hz4] at l0
      cases hz6 : s.ses
      · rw [hz6] at c1
        go_enter Tryd.func13, Tryd.ntmps13
        go_wp2_with fail
        refine B.out.mono ?_
        rintro e w' ⟨rfl, rfl⟩
        go_wp2_with fail
        go_ret
        exact ⟨by simp, rfl⟩
      · rw [hz6] at c1
        go_enter Tryd.func13, Tryd.ntmps13
        go_wp2_with fail
        refine B.out.mono ?_
        rintro e w' ⟨rfl, rfl⟩
        go_wp2_with fail
        go_ret
        exact ⟨by simp, rfl⟩
theorem rblocked_any (g b : Nat) (s : Shk) (n : Int) (w : World) (hl : s.ls.length ≤ 63) (h : Rep 67 74 w g b s) :
    Calls Tryd.prog 15 #[.pointer (some ⟨g, 0, none⟩), .int .i64 n] w fun e w' => e = .returned (.bool (s.blocked n)) ∧ w = w' := by
  have C := h.cells
  have B := Lib.hid (has_any g b s n w h)
  cases hn : s.has n
  · rw [show s.blocked n = true by simp [Shk.blocked, hn]]
    rw [hn] at B
    clear h C
    go_enter Tryd.func15, Tryd.ntmps15
    go_wp2_with fail
    refine B.out.mono ?_
    rintro e w' ⟨rfl, rfl⟩
    go_wp2_with fail
    go_ret
    exact ⟨rfl, rfl⟩
  · rw [hn] at B
    obtain ⟨k, rfl, hk⟩ := Shk.has_nat hn
    obtain ⟨l0, l1, l2⟩ := h.link hk
    obtain ⟨c0, c1, c2⟩ := C
    have w1 : wrap64 ((k : Int) + 1 - 1) = k := by unfold wrap64; omega
    have u1 : IntKind.i64.wrap ((k : Int) + 1 - 1) = k := by rw [IntKind.wrap_i64]; omega
    have i1 : (k : Int) < (s.ls.length : Int) := by omega
    have i0 : (0 : Int) ≤ (k : Int) := by omega
    have hv : Hid (s.blocked ((k : Int) + 1) = (!s.ses || !(s.get ((k : Int) + 1)).down)) := Lib.hid (by simp [Shk.blocked, hn])
    rw [hv.out]
    clear h hn hv
    generalize s.get ((k : Int) + 1) = l at *
    cases hz4 : s.ses
    · rw [hz4] at c1
      go_enter Tryd.func15, Tryd.ntmps15
      go_wp2_with fail
      refine B.out.mono ?_
      rintro e w' ⟨rfl, rfl⟩
      go_wp2_with fail
      go_ret
      exact ⟨by simp, rfl⟩
    · rw [hz4] at c1
      go_enter Tryd.func15, Tryd.ntmps15
      go_wp2_with fail
      refine B.out.mono ?_
      rintro e w' ⟨rfl, rfl⟩
      go_wp2_with fail
      go_ret
      exact ⟨by simp, rfl⟩

theorem info : (Tryd.prog.info? 72).map (fun i => (i.zero, i.size, i.bytes)) = some (some (.agg #[.bool false, .int .i64 0, .bool false]), 3, 24) := by kernel_rfl

theorem rinfo : (Tryd.prog.info? 74).map (fun i => (i.zero, i.size, i.bytes)) = some (some (.agg #[.bool false, .int .i64 0, .bool false]), 3, 24) := by kernel_rfl

end Go.Proofs.YthebgpbofjgcoaaDoor
