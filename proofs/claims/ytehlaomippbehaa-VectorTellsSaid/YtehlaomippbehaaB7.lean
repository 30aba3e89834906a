/- walk: through all fields, with each pair of closures. -/
import Derived.Test.YtehlaomippbehaaB6
namespace Go.Proofs.Ytehlaomippbehaa
open Go.RowKit Go.Gm

/-- A field of one: where its number lies and how many bytes it has, or where its address lies. -/
inductive Fld where
  | num (off bytes : Nat)
  | mac (off : Nat)
def flds : List Fld := [.num 1 1, .num 2 2, .mac 3, .num 9 4, .num 10 2, .mac 11, .num 17 2, .num 18 2, .num 19 2, .num 20 2, .num 21 2]

/-- A block that is of other types than ts. -/
def Other (ts : List TypeId) (w : World) (k : Nat) : Prop := ∀ cs t fr, w.heap[k]? = some (.cells cs t fr) → t ∉ ts
theorem Other.not {ts : List TypeId} {w : World} {k : Nat} {cs : Array Value} {t : TypeId} {fr : Nat × Nat} (h : w.heap[k]? = some (.cells cs t fr)) (ht : t ∈ ts) : ¬ Other ts w k := fun ho => ho cs t fr h ht

set_option maxHeartbeats 8000000 in
theorem walk24 (g : Nat) (bn : Value) (J : Nat → World → Prop) (X : Ending → World → Prop) (w : World) (hX : ∀ e w', X e w' → ∃ c, e = .panicked c)
    (hJ : ∀ i a b, J i a → Step None a b → J i b) (h0 : J 0 w)
    (hn : ∀ i a off (k : Nat), flds[i]? = some (.num off k) → J i a → Calls Try.prog 48 #[.agg #[.pointer (some ⟨g, off, none⟩), .int .i64 k], bn] a fun e b => (e = .returned (.tuple #[]) ∧ J (i + 1) b ∧ Step (Other [71, 79] a) a b) ∨ X e b)
    (hm : ∀ i a off, flds[i]? = some (.mac off) → J i a → Calls Try.prog 49 #[.pointer (some ⟨g, off, none⟩)] a fun e b => (e = .returned (.tuple #[]) ∧ J (i + 1) b ∧ Step (Other [71, 79] a) a b) ∨ X e b) :
    Calls Try.prog 47 #[.pointer (some ⟨g, 0, none⟩), .func (.func 48) #[] #[bn], .func (.func 49) #[] #[]] w fun e w' => (e = .returned (.tuple #[]) ∧ J 11 w') ∨ X e w' := by
  have HX := Lib.hid hX
  have HJ := Lib.hid hJ
  have H0 := Lib.hid h0
  have HN := Lib.hid hn
  have HM := Lib.hid hm
  clear hX hJ h0 hn hm
  go_enter Try.func47, Try.ntmps47
  go_wp2_with fail
  refine wp_region_plan (fun w' => True) (.take 0 (.take 1 (.take 2 (.take 3 (.take 4 (.take 5 (.take 6 (.take 7 (.take 8 (.alt 9 (.last 10) .none)))))))))) _
    (by simp only [Plan.map, opOf, List.getElem?_toArray, List.getElem?_cons_zero, List.getElem?_cons_succ, Option.getD_some]; rfl) (by kernel_rfl) (by kernel_rfl) (by kernel_rfl) (by decide) (by intro c a d v w; cases d <;> exact fun h => h) trivial ?_
  repeat (refine wpPlan.taken (by rfl) (by intro w' hS'; (try dsimp only at hS'); go_split_ands; go_simp; try with_reducible rfl) ?_; simp only [Act.put, List.setIfInBounds_toArray, List.set_cons_zero, List.set_cons_succ])
  refine wpPlan.runs fun K' hK => ?_
  go_simp
  refine hK.out _ _ trivial ?_
  clear hK K'
  refine wpPlan.ends fun K' hK => ?_
  go_simp
  refine hK.out _ _ ?_
  clear hK K'
  go_wp2_with fail
  have b1 := heap_alloc_new w (.cells #[.pointer (some ⟨g, 3, none⟩), .pointer (some ⟨g, 11, none⟩)] 79)
  have e1 := ((Step.refl None w).alloc (.cells #[.pointer (some ⟨g, 3, none⟩), .pointer (some ⟨g, 11, none⟩)] 79)).drew
  obtain ⟨W, hW⟩ : ∃ W, (w.alloc (.cells #[.pointer (some ⟨g, 3, none⟩), .pointer (some ⟨g, 11, none⟩)] 79)).drew = W := ⟨_, rfl⟩
  have b1 : W.heap[w.heap.size]? = some (.cells #[.pointer (some ⟨g, 3, none⟩), .pointer (some ⟨g, 11, none⟩)] 79 (0, 0)) := by rw [← hW]; exact b1
  rw [hW] at e1
  rw [hW]
  clear hW
  refine (fields_any g W).mono ?_
  rintro e w2 ⟨rfl, h2, s2⟩
  have H1 := Lib.hid (s2.blk b1 (fun s => s.elim))
  have H2 := Lib.hid h2
  have H3 := Lib.hid (HJ.out 0 _ _ H0.out (e1.then_ s2))
  clear b1 e1 s2 h2 H0
  generalize w.heap.size = M at *
  generalize W.heap.size = B at *
  go_wp2_with fail
  go_loopw [8, 21] (fun _ t wr => ∃ i : Nat, i ≤ 11 ∧ t = .int .i64 i ∧ Hid (J i wr) ∧ Hid (wr.heap[M]? = some (.cells #[.pointer (some ⟨g, 3, none⟩), .pointer (some ⟨g, 11, none⟩)] 79 (0, 0))) ∧ Hid (wr.heap[B]? = some (.cells (fieldCells g) 71 (0, 0)))) (fun _ t _ => 11 - (intOf t).toNat)
  case atStart => exact ⟨0, by omega, rfl, H3, H1, H2⟩
  case round =>
    clear H1 H2 H3
    obtain ⟨i, hi, rfl, hj, h1, h2⟩ := hrel
    rename_i wr
    rcases Nat.lt_or_eq_of_le hi with hlt | rfl
    · have a0 := blk_cell h1.out 0
      have a1 := blk_cell h1.out 1
      simp only [List.getElem?_toArray, List.getElem?_cons_zero, List.getElem?_cons_succ] at a0 a1
      have hcs : i = 0 ∨ i = 1 ∨ i = 2 ∨ i = 3 ∨ i = 4 ∨ i = 5 ∨ i = 6 ∨ i = 7 ∨ i = 8 ∨ i = 9 ∨ i = 10 := by omega
      clear hlt hi
      rcases hcs with rfl | rfl | rfl | rfl | rfl | rfl | rfl | rfl | rfl | rfl | rfl
      · have c0 := blk_cell h2.out 0
        have c1 := blk_cell h2.out 1
        simp only [fieldCells, List.getElem?_toArray, List.getElem?_cons_zero, List.getElem?_cons_succ] at c0 c1
        have al := (Step.refl None wr).alloc (.cells #[.pointer (some ⟨g, 1, none⟩), .int .i64 1] 71)
        have m1 := al.blk h1.out (fun s => s.elim)
        have m2 := al.blk h2.out (fun s => s.elim)
        have m3 := HJ.out 0 _ _ hj.out al
        have C := Lib.hid (HN.out 0 _ 1 1 rfl m3)
        have N1 := Lib.hid m1
        have N2 := Lib.hid m2
        clear m1 m2 m3 al hj h1 h2
        go_wp2_with fail
        refine C.out.mono ?_
        rintro e w3 (⟨rfl, hj, hs⟩ | hx)
        · have h1 := Lib.hid (hs.blk N1.out (Other.not N1.out (by simp)))
          have h2 := Lib.hid (hs.blk N2.out (Other.not N2.out (by simp)))
          have hj := Lib.hid hj
          clear hs N1 N2 C a0 a1 c0 c1
          go_wp2_with fail
          go_roundw
          case rel => exact ⟨1, by omega, rfl, hj, h1, h2⟩
          case measure => simp [intOf]
        · obtain ⟨c, rfl⟩ := HX.out _ _ hx
          have hx := Lib.hid hx
          go_wp2_with fail
          exact ⟨rfl, .inr hx.out⟩
      · have c0 := blk_cell h2.out 2
        have c1 := blk_cell h2.out 3
        simp only [fieldCells, List.getElem?_toArray, List.getElem?_cons_zero, List.getElem?_cons_succ] at c0 c1
        have al := (Step.refl None wr).alloc (.cells #[.pointer (some ⟨g, 2, none⟩), .int .i64 2] 71)
        have m1 := al.blk h1.out (fun s => s.elim)
        have m2 := al.blk h2.out (fun s => s.elim)
        have m3 := HJ.out 1 _ _ hj.out al
        have C := Lib.hid (HN.out 1 _ 2 2 rfl m3)
        have N1 := Lib.hid m1
        have N2 := Lib.hid m2
        clear m1 m2 m3 al hj h1 h2
        go_wp2_with fail
        refine C.out.mono ?_
        rintro e w3 (⟨rfl, hj, hs⟩ | hx)
        · have h1 := Lib.hid (hs.blk N1.out (Other.not N1.out (by simp)))
          have h2 := Lib.hid (hs.blk N2.out (Other.not N2.out (by simp)))
          have hj := Lib.hid hj
          clear hs N1 N2 C a0 a1 c0 c1
          go_wp2_with fail
          go_roundw
          case rel => exact ⟨2, by omega, rfl, hj, h1, h2⟩
          case measure => simp [intOf]
        · obtain ⟨c, rfl⟩ := HX.out _ _ hx
          have hx := Lib.hid hx
          go_wp2_with fail
          exact ⟨rfl, .inr hx.out⟩
      · have c0 := blk_cell h2.out 4
        have c1 := blk_cell h2.out 5
        simp only [fieldCells, List.getElem?_toArray, List.getElem?_cons_zero, List.getElem?_cons_succ] at c0 c1
        have al := (Step.refl None wr).alloc (.cells #[.pointer none, .int .i64 0] 71)
        have m1 := al.blk h1.out (fun s => s.elim)
        have m2 := al.blk h2.out (fun s => s.elim)
        have m3 := HJ.out 2 _ _ hj.out al
        have m4 := blk_cell m1 0
        simp only [List.getElem?_toArray, List.getElem?_cons_zero] at m4
        have C := Lib.hid (HM.out 2 _ 3 rfl m3)
        have N1 := Lib.hid m1
        have N2 := Lib.hid m2
        clear m1 m2 m3 al hj h1 h2
        go_wp2_with fail
        refine C.out.mono ?_
        rintro e w3 (⟨rfl, hj, hs⟩ | hx)
        · have h1 := Lib.hid (hs.blk N1.out (Other.not N1.out (by simp)))
          have h2 := Lib.hid (hs.blk N2.out (Other.not N2.out (by simp)))
          have hj := Lib.hid hj
          clear hs N1 N2 C a0 a1 c0 c1 m4
          go_wp2_with fail
          go_roundw
          case rel => exact ⟨3, by omega, rfl, hj, h1, h2⟩
          case measure => simp [intOf]
        · obtain ⟨c, rfl⟩ := HX.out _ _ hx
          have hx := Lib.hid hx
          go_wp2_with fail
          exact ⟨rfl, .inr hx.out⟩
      · have c0 := blk_cell h2.out 6
        have c1 := blk_cell h2.out 7
        simp only [fieldCells, List.getElem?_toArray, List.getElem?_cons_zero, List.getElem?_cons_succ] at c0 c1
        have al := (Step.refl None wr).alloc (.cells #[.pointer (some ⟨g, 9, none⟩), .int .i64 4] 71)
        have m1 := al.blk h1.out (fun s => s.elim)
        have m2 := al.blk h2.out (fun s => s.elim)
        have m3 := HJ.out 3 _ _ hj.out al
        have C := Lib.hid (HN.out 3 _ 9 4 rfl m3)
        have N1 := Lib.hid m1
        have N2 := Lib.hid m2
        clear m1 m2 m3 al hj h1 h2
        go_wp2_with fail
        refine C.out.mono ?_
        rintro e w3 (⟨rfl, hj, hs⟩ | hx)
        · have h1 := Lib.hid (hs.blk N1.out (Other.not N1.out (by simp)))
          have h2 := Lib.hid (hs.blk N2.out (Other.not N2.out (by simp)))
          have hj := Lib.hid hj
          clear hs N1 N2 C a0 a1 c0 c1
          go_wp2_with fail
          go_roundw
          case rel => exact ⟨4, by omega, rfl, hj, h1, h2⟩
          case measure => simp [intOf]
        · obtain ⟨c, rfl⟩ := HX.out _ _ hx
          have hx := Lib.hid hx
          go_wp2_with fail
          exact ⟨rfl, .inr hx.out⟩
      · have c0 := blk_cell h2.out 8
        have c1 := blk_cell h2.out 9
        simp only [fieldCells, List.getElem?_toArray, List.getElem?_cons_zero, List.getElem?_cons_succ] at c0 c1
        have al := (Step.refl None wr).alloc (.cells #[.pointer (some ⟨g, 10, none⟩), .int .i64 2] 71)
        have m1 := al.blk h1.out (fun s => s.elim)
        have m2 := al.blk h2.out (fun s => s.elim)
        have m3 := HJ.out 4 _ _ hj.out al
        have C := Lib.hid (HN.out 4 _ 10 2 rfl m3)
        have N1 := Lib.hid m1
        have N2 := Lib.hid m2
        clear m1 m2 m3 al hj h1 h2
        go_wp2_with fail
        refine C.out.mono ?_
        rintro e w3 (⟨rfl, hj, hs⟩ | hx)
        · have h1 := Lib.hid (hs.blk N1.out (Other.not N1.out (by simp)))
          have h2 := Lib.hid (hs.blk N2.out (Other.not N2.out (by simp)))
          have hj := Lib.hid hj
          clear hs N1 N2 C a0 a1 c0 c1
          go_wp2_with fail
          go_roundw
          case rel => exact ⟨5, by omega, rfl, hj, h1, h2⟩
          case measure => simp [intOf]
        · obtain ⟨c, rfl⟩ := HX.out _ _ hx
          have hx := Lib.hid hx
          go_wp2_with fail
          exact ⟨rfl, .inr hx.out⟩
      · have c0 := blk_cell h2.out 10
        have c1 := blk_cell h2.out 11
        simp only [fieldCells, List.getElem?_toArray, List.getElem?_cons_zero, List.getElem?_cons_succ] at c0 c1
        have al := (Step.refl None wr).alloc (.cells #[.pointer none, .int .i64 1] 71)
        have m1 := al.blk h1.out (fun s => s.elim)
        have m2 := al.blk h2.out (fun s => s.elim)
        have m3 := HJ.out 5 _ _ hj.out al
        have m4 := blk_cell m1 1
        simp only [List.getElem?_toArray, List.getElem?_cons_zero, List.getElem?_cons_succ] at m4
        have C := Lib.hid (HM.out 5 _ 11 rfl m3)
        have N1 := Lib.hid m1
        have N2 := Lib.hid m2
        clear m1 m2 m3 al hj h1 h2
        go_wp2_with fail
        refine C.out.mono ?_
        rintro e w3 (⟨rfl, hj, hs⟩ | hx)
        · have h1 := Lib.hid (hs.blk N1.out (Other.not N1.out (by simp)))
          have h2 := Lib.hid (hs.blk N2.out (Other.not N2.out (by simp)))
          have hj := Lib.hid hj
          clear hs N1 N2 C a0 a1 c0 c1 m4
          go_wp2_with fail
          go_roundw
          case rel => exact ⟨6, by omega, rfl, hj, h1, h2⟩
          case measure => simp [intOf]
        · obtain ⟨c, rfl⟩ := HX.out _ _ hx
          have hx := Lib.hid hx
          go_wp2_with fail
          exact ⟨rfl, .inr hx.out⟩
      · have c0 := blk_cell h2.out 12
        have c1 := blk_cell h2.out 13
        simp only [fieldCells, List.getElem?_toArray, List.getElem?_cons_zero, List.getElem?_cons_succ] at c0 c1
        have al := (Step.refl None wr).alloc (.cells #[.pointer (some ⟨g, 17, none⟩), .int .i64 2] 71)
        have m1 := al.blk h1.out (fun s => s.elim)
        have m2 := al.blk h2.out (fun s => s.elim)
        have m3 := HJ.out 6 _ _ hj.out al
        have C := Lib.hid (HN.out 6 _ 17 2 rfl m3)
        have N1 := Lib.hid m1
        have N2 := Lib.hid m2
        clear m1 m2 m3 al hj h1 h2
        go_wp2_with fail
        refine C.out.mono ?_
        rintro e w3 (⟨rfl, hj, hs⟩ | hx)
        · have h1 := Lib.hid (hs.blk N1.out (Other.not N1.out (by simp)))
          have h2 := Lib.hid (hs.blk N2.out (Other.not N2.out (by simp)))
          have hj := Lib.hid hj
          clear hs N1 N2 C a0 a1 c0 c1
          go_wp2_with fail
          go_roundw
          case rel => exact ⟨7, by omega, rfl, hj, h1, h2⟩
          case measure => simp [intOf]
        · obtain ⟨c, rfl⟩ := HX.out _ _ hx
          have hx := Lib.hid hx
          go_wp2_with fail
          exact ⟨rfl, .inr hx.out⟩
      · have c0 := blk_cell h2.out 14
        have c1 := blk_cell h2.out 15
        simp only [fieldCells, List.getElem?_toArray, List.getElem?_cons_zero, List.getElem?_cons_succ] at c0 c1
        have al := (Step.refl None wr).alloc (.cells #[.pointer (some ⟨g, 18, none⟩), .int .i64 2] 71)
        have m1 := al.blk h1.out (fun s => s.elim)
        have m2 := al.blk h2.out (fun s => s.elim)
        have m3 := HJ.out 7 _ _ hj.out al
        have C := Lib.hid (HN.out 7 _ 18 2 rfl m3)
        have N1 := Lib.hid m1
        have N2 := Lib.hid m2
        clear m1 m2 m3 al hj h1 h2
        go_wp2_with fail
        refine C.out.mono ?_
        rintro e w3 (⟨rfl, hj, hs⟩ | hx)
        · have h1 := Lib.hid (hs.blk N1.out (Other.not N1.out (by simp)))
          have h2 := Lib.hid (hs.blk N2.out (Other.not N2.out (by simp)))
          have hj := Lib.hid hj
          clear hs N1 N2 C a0 a1 c0 c1
          go_wp2_with fail
          go_roundw
          case rel => exact ⟨8, by omega, rfl, hj, h1, h2⟩
          case measure => simp [intOf]
        · obtain ⟨c, rfl⟩ := HX.out _ _ hx
          have hx := Lib.hid hx
          go_wp2_with fail
          exact ⟨rfl, .inr hx.out⟩
      · have c0 := blk_cell h2.out 16
        have c1 := blk_cell h2.out 17
        simp only [fieldCells, List.getElem?_toArray, List.getElem?_cons_zero, List.getElem?_cons_succ] at c0 c1
        have al := (Step.refl None wr).alloc (.cells #[.pointer (some ⟨g, 19, none⟩), .int .i64 2] 71)
        have m1 := al.blk h1.out (fun s => s.elim)
        have m2 := al.blk h2.out (fun s => s.elim)
        have m3 := HJ.out 8 _ _ hj.out al
        have C := Lib.hid (HN.out 8 _ 19 2 rfl m3)
        have N1 := Lib.hid m1
        have N2 := Lib.hid m2
        clear m1 m2 m3 al hj h1 h2
        go_wp2_with fail
        refine C.out.mono ?_
        rintro e w3 (⟨rfl, hj, hs⟩ | hx)
        · have h1 := Lib.hid (hs.blk N1.out (Other.not N1.out (by simp)))
          have h2 := Lib.hid (hs.blk N2.out (Other.not N2.out (by simp)))
          have hj := Lib.hid hj
          clear hs N1 N2 C a0 a1 c0 c1
          go_wp2_with fail
          go_roundw
          case rel => exact ⟨9, by omega, rfl, hj, h1, h2⟩
          case measure => simp [intOf]
        · obtain ⟨c, rfl⟩ := HX.out _ _ hx
          have hx := Lib.hid hx
          go_wp2_with fail
          exact ⟨rfl, .inr hx.out⟩
      · have c0 := blk_cell h2.out 18
        have c1 := blk_cell h2.out 19
        simp only [fieldCells, List.getElem?_toArray, List.getElem?_cons_zero, List.getElem?_cons_succ] at c0 c1
        have al := (Step.refl None wr).alloc (.cells #[.pointer (some ⟨g, 20, none⟩), .int .i64 2] 71)
        have m1 := al.blk h1.out (fun s => s.elim)
        have m2 := al.blk h2.out (fun s => s.elim)
        have m3 := HJ.out 9 _ _ hj.out al
        have C := Lib.hid (HN.out 9 _ 20 2 rfl m3)
        have N1 := Lib.hid m1
        have N2 := Lib.hid m2
        clear m1 m2 m3 al hj h1 h2
        go_wp2_with fail
        refine C.out.mono ?_
        rintro e w3 (⟨rfl, hj, hs⟩ | hx)
        · have h1 := Lib.hid (hs.blk N1.out (Other.not N1.out (by simp)))
          have h2 := Lib.hid (hs.blk N2.out (Other.not N2.out (by simp)))
          have hj := Lib.hid hj
          clear hs N1 N2 C a0 a1 c0 c1
          go_wp2_with fail
          go_roundw
          case rel => exact ⟨10, by omega, rfl, hj, h1, h2⟩
          case measure => simp [intOf]
        · obtain ⟨c, rfl⟩ := HX.out _ _ hx
          have hx := Lib.hid hx
          go_wp2_with fail
          exact ⟨rfl, .inr hx.out⟩
      · have c0 := blk_cell h2.out 20
        have c1 := blk_cell h2.out 21
        simp only [fieldCells, List.getElem?_toArray, List.getElem?_cons_zero, List.getElem?_cons_succ] at c0 c1
        have al := (Step.refl None wr).alloc (.cells #[.pointer (some ⟨g, 21, none⟩), .int .i64 2] 71)
        have m1 := al.blk h1.out (fun s => s.elim)
        have m2 := al.blk h2.out (fun s => s.elim)
        have m3 := HJ.out 10 _ _ hj.out al
        have C := Lib.hid (HN.out 10 _ 21 2 rfl m3)
        have N1 := Lib.hid m1
        have N2 := Lib.hid m2
        clear m1 m2 m3 al hj h1 h2
        go_wp2_with fail
        refine C.out.mono ?_
        rintro e w3 (⟨rfl, hj, hs⟩ | hx)
        · have h1 := Lib.hid (hs.blk N1.out (Other.not N1.out (by simp)))
          have h2 := Lib.hid (hs.blk N2.out (Other.not N2.out (by simp)))
          have hj := Lib.hid hj
          clear hs N1 N2 C a0 a1 c0 c1
          go_wp2_with fail
          go_roundw
          case rel => exact ⟨11, by omega, rfl, hj, h1, h2⟩
          case measure => simp [intOf]
        · obtain ⟨c, rfl⟩ := HX.out _ _ hx
          have hx := Lib.hid hx
          go_wp2_with fail
          exact ⟨rfl, .inr hx.out⟩
    · go_wp2_with fail
      go_end0
      exact .inl ⟨rfl, hj.out⟩

end Go.Proofs.Ytehlaomippbehaa
