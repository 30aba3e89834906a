/- Right of the code: as the document's. -/
import Derived.Test.YtehlaomippbehaaB8
namespace Go.Proofs.Ytehlaomippbehaa
open Go.RowKit Go.Gm

theorem right2 (v : Value) (w : World) : Calls Try.prog 49 #[v] w fun e w' => e = .returned (.tuple #[]) ∧ w = w' := by
  go_enter Try.func49, Try.ntmps49
  go_wp2_with fail
  go_end0
  exact ⟨rfl, rfl⟩

def chkl (x : Bpd) : List Bool := [fitsB x.flags 1, fitsB x.root.p 2, true, fitsB x.cost 4, fitsB x.bridge.p 2, true, fitsB x.port 2, fitsB x.age 2, fitsB x.most 2, fitsB x.hello 2, fitsB x.fwd 2]
def okUp (x : Bpd) : Nat → Bool
  | 0 => true
  | i + 1 => okUp x i && (chkl x).getD i true
theorem fitsB1 (v : Int) : fitsB v 1 = upTo v 255 := by
  unfold fitsB upTo
  congr 1
  rw [Bool.eq_iff_iff]; simp; omega
theorem fitsB2 (v : Int) : fitsB v 2 = upTo v 65535 := by
  unfold fitsB upTo
  congr 1
  rw [Bool.eq_iff_iff]; simp; omega
theorem fitsB4 (v : Int) : fitsB v 4 = upTo v 4294967295 := by
  unfold fitsB upTo
  congr 1
  rw [Bool.eq_iff_iff]; simp; omega
theorem okUp_fine (x : Bpd) : okUp x 11 = fine x := by
  show (((((((((((true && fitsB x.flags 1) && fitsB x.root.p 2) && true) && fitsB x.cost 4) && fitsB x.bridge.p 2) && true) && fitsB x.port 2) && fitsB x.age 2) && fitsB x.most 2) && fitsB x.hello 2) && fitsB x.fwd 2) = _
  rw [fitsB1, fitsB4, fitsB2, fitsB2, fitsB2, fitsB2, fitsB2, fitsB2, fitsB2]
  unfold fine
  simp only [Bool.true_and, Bool.and_true]
  generalize upTo x.flags 255 = a1
  generalize upTo x.root.p 65535 = a2
  generalize upTo x.cost 4294967295 = a3
  generalize upTo x.bridge.p 65535 = a4
  generalize upTo x.port 65535 = a5
  generalize upTo x.age 65535 = a6
  generalize upTo x.most 65535 = a7
  generalize upTo x.hello 65535 = a8
  generalize upTo x.fwd 65535 = a9
  cases a1 <;> cases a2 <;> cases a3 <;> cases a4 <;> cases a5 <;> simp [Bool.and_comm, Bool.and_left_comm]

structure RJ (x : Bpd) (w : World) (B F i : Nat) (a : World) : Prop where
  one : a.heap[B]? = some (.cells x.cells 39 (0, 0))
  fin : a.heap[F]? = some (.cells #[.bool (okUp x i)] 4 (0, 0))
  st : Step None w a

set_option maxHeartbeats 4000000 in
theorem right_walk (x : Bpd) (w0 w : World) (B F : Nat) (hF : w0.heap.size ≤ F) (h : RJ x w0 B F 0 w) : Calls Try.prog 47 #[.pointer (some ⟨B, 0, none⟩), .func (.func 48) #[] #[.pointer (some ⟨F, 0, none⟩)], .func (.func 49) #[] #[]] w fun e w' => e = .returned (.tuple #[]) ∧ RJ x w0 B F 11 w' := by
  refine (walk24 B (.pointer (some ⟨F, 0, none⟩)) (RJ x w0 B F) (fun _ _ => False) w (fun _ _ h => h.elim) (fun i a b h s => ⟨s.blk h.one (fun s => s.elim), s.blk h.fin (fun s => s.elim), h.st.then_ s⟩) h ?_ ?_).mono ?_
  · intro i a off k hi hj
    have one : ∀ (v : Int), x.cells[off]? = some (.int .i64 v) → (k = 1 ∨ k = 2 ∨ k = 4) → (chkl x).getD i true = fitsB v k →
        Calls Try.prog 48 #[.agg #[.pointer (some ⟨B, off, none⟩), .int .i64 k], .pointer (some ⟨F, 0, none⟩)] a fun e b => (e = .returned (.tuple #[]) ∧ RJ x w0 B F (i + 1) b ∧ Step (Other [71, 79] a) a b) ∨ False := by
      intro v hv hk hc
      refine (right1 B off k F k v (okUp x i) a rfl (by rw [blk_cell hj.one]; exact hv) hj.fin hk).mono ?_
      rintro e b ⟨rfl, h1, h2⟩
      have hne : B ≠ F := blk_ne hj.one hj.fin (by decide)
      refine .inl ⟨rfl, ⟨h2.blk hj.one hne, ?_, ?_⟩, h2.mono ?_⟩
      · rw [h1, ← hc]; rfl
      · exact hj.st.trans h2 fun k _ hk => by subst hk; have := hj.st.size; omega
      · rintro k _ rfl cs t fr hk
        rw [hj.fin] at hk
        simp only [Option.some.injEq, Obj.cells.injEq] at hk
        rw [← hk.2.1]; decide
    match i, hi with
    | 0, hi => simp only [flds, List.getElem?_cons_zero, Option.some.injEq, Fld.num.injEq] at hi; obtain ⟨rfl, rfl⟩ := hi; exact one x.flags rfl (by decide) rfl
    | 1, hi => simp only [flds, List.getElem?_cons_zero, List.getElem?_cons_succ, Option.some.injEq, Fld.num.injEq] at hi; obtain ⟨rfl, rfl⟩ := hi; exact one x.root.p rfl (by decide) rfl
    | 3, hi => simp only [flds, List.getElem?_cons_zero, List.getElem?_cons_succ, Option.some.injEq, Fld.num.injEq] at hi; obtain ⟨rfl, rfl⟩ := hi; exact one x.cost rfl (by decide) rfl
    | 4, hi => simp only [flds, List.getElem?_cons_zero, List.getElem?_cons_succ, Option.some.injEq, Fld.num.injEq] at hi; obtain ⟨rfl, rfl⟩ := hi; exact one x.bridge.p rfl (by decide) rfl
    | 6, hi => simp only [flds, List.getElem?_cons_zero, List.getElem?_cons_succ, Option.some.injEq, Fld.num.injEq] at hi; obtain ⟨rfl, rfl⟩ := hi; exact one x.port rfl (by decide) rfl
    | 7, hi => simp only [flds, List.getElem?_cons_zero, List.getElem?_cons_succ, Option.some.injEq, Fld.num.injEq] at hi; obtain ⟨rfl, rfl⟩ := hi; exact one x.age rfl (by decide) rfl
    | 8, hi => simp only [flds, List.getElem?_cons_zero, List.getElem?_cons_succ, Option.some.injEq, Fld.num.injEq] at hi; obtain ⟨rfl, rfl⟩ := hi; exact one x.most rfl (by decide) rfl
    | 9, hi => simp only [flds, List.getElem?_cons_zero, List.getElem?_cons_succ, Option.some.injEq, Fld.num.injEq] at hi; obtain ⟨rfl, rfl⟩ := hi; exact one x.hello rfl (by decide) rfl
    | 10, hi => simp only [flds, List.getElem?_cons_zero, List.getElem?_cons_succ, Option.some.injEq, Fld.num.injEq] at hi; obtain ⟨rfl, rfl⟩ := hi; exact one x.fwd rfl (by decide) rfl
    | 2, hi => simp [flds] at hi
    | 5, hi => simp [flds] at hi
    | n + 11, hi => simp [flds] at hi
  · intro i a off hi hj
    refine (right2 _ a).mono ?_
    rintro e b ⟨rfl, rfl⟩
    refine .inl ⟨rfl, ⟨hj.one, ?_, hj.st⟩, Step.refl _ _⟩
    have : (chkl x).getD i true = true := by
      match i, hi with
      | 2, _ => rfl
      | 5, _ => rfl
      | 0, hi => simp [flds] at hi
      | 1, hi => simp [flds] at hi
      | 3, hi => simp [flds] at hi
      | 4, hi => simp [flds] at hi
      | 6, hi => simp [flds] at hi
      | 7, hi => simp [flds] at hi
      | 8, hi => simp [flds] at hi
      | 9, hi => simp [flds] at hi
      | 10, hi => simp [flds] at hi
      | n + 11, hi => simp [flds] at hi
    show _ = some (Obj.cells #[.bool (okUp x i && (chkl x).getD i true)] 4 (0, 0))
    rw [this, Bool.and_true]
    exact hj.fin
  · rintro e w' (⟨rfl, h⟩ | h)
    · exact ⟨rfl, h⟩
    · exact h.elim

set_option maxHeartbeats 4000000 in
theorem right_any (x : Bpd) (w : World) : Calls Try.prog 38 #[.agg x.cells] w fun e w' => e = .returned (.bool (okB x)) ∧ Step None w w' := by
  have p1 := heap_alloc_new w (.cells x.cells 39)
  have s1 := (Step.refl None w).alloc (.cells x.cells 39)
  obtain ⟨W, hW⟩ : ∃ W, w.alloc (.cells x.cells 39) = W := ⟨_, rfl⟩
  rw [hW] at p1 s1
  have HE := Lib.hid hW
  have hsz : W.heap.size = w.heap.size + 1 := by rw [← hW]; simp
  clear hW
  have S1 := Lib.hid s1
  have P1 := Lib.hid p1
  have c0 := blk_cell p1 0
  simp only [Bpd.cells, List.getElem?_toArray, List.getElem?_cons_zero] at c0
  have he : ∀ w, (Op.equalIn 10000 39 (.agg x.cells) (.agg #[.int .i64 x.kind, .int .i64 0, .int .i64 0, .int .u8 0, .int .u8 0, .int .u8 0, .int .u8 0, .int .u8 0, .int .u8 0, .int .i64 0, .int .i64 0, .int .u8 0, .int .u8 0, .int .u8 0, .int .u8 0, .int .u8 0, .int .u8 0, .int .i64 0, .int .i64 0, .int .i64 0, .int .i64 0, .int .i64 0])).run Try.prog w = .ok (x.flat == (bare x.kind).flat) w := fun w => eq_bpd x (bare x.kind) w
  have HR : Hid (∀ a, a.heap[w.heap.size]? = some (.cells x.cells 39 (0, 0)) → a.heap[w.heap.size + 1]? = some (.cells #[.bool true] 4 (0, 0)) → Step None w a → Calls Try.prog 47 #[.pointer (some ⟨w.heap.size, 0, none⟩), .func (.func 48) #[] #[.pointer (some ⟨w.heap.size + 1, 0, none⟩)], .func (.func 49) #[] #[]] a fun e w' => e = .returned (.tuple #[]) ∧ RJ x w w.heap.size (w.heap.size + 1) 11 w') :=
    Lib.hid fun a h1 h2 h3 => right_walk x w a _ _ (by omega) ⟨h1, h2, h3⟩
  have HO := Lib.hid (show okB x = if x.kind == 128 then x.flat == (bare 128).flat else if x.kind == 0 || x.kind == 2 then fine x else false from rfl)
  cases k1 : (x.kind == 128)
  · cases k2 : (x.kind == 0)
    · cases k3 : (x.kind == 2)
      · have ho : okB x = false := by rw [HO.out, k1, k2, k3]; rfl
        rw [ho]
        clear HO HR he
        go_enter Try.func38, Try.ntmps38
        go_wp2_with (rw [HE.out])
        go_ret
        exact ⟨rfl, S1.out⟩
      · have ho : okB x = fine x := by rw [HO.out, k1, k2, k3]; rfl
        rw [ho, ← okUp_fine]
        clear HO he
        go_enter Try.func38, Try.ntmps38
        go_wp2_with (rw [HE.out])
        have b1 : (W.alloc (.cells #[.bool true] 4)).heap[w.heap.size + 1]? = some (.cells #[.bool true] 4 (0, 0)) := by rw [← hsz]; exact heap_alloc_new W _
        have al := (Step.refl None W).alloc (.cells #[.bool true] 4)
        refine (HR.out _ (al.blk P1.out (fun s => s.elim)) b1 (S1.out.then_ al)).mono ?_
        rintro e w1 ⟨rfl, h1⟩
        have c1 := blk_cell h1.fin 0
        simp only [List.getElem?_toArray, List.getElem?_cons_zero] at c1
        have ST := Lib.hid h1.st
        clear h1 b1 al HR
        go_wp2_with fail
        go_ret
        exact ⟨rfl, ST.out⟩
    · have ho : okB x = fine x := by rw [HO.out, k1, k2]; rfl
      rw [ho, ← okUp_fine]
      clear HO he
      go_enter Try.func38, Try.ntmps38
      go_wp2_with (rw [HE.out])
      have b1 : (W.alloc (.cells #[.bool true] 4)).heap[w.heap.size + 1]? = some (.cells #[.bool true] 4 (0, 0)) := by rw [← hsz]; exact heap_alloc_new W _
      have al := (Step.refl None W).alloc (.cells #[.bool true] 4)
      refine (HR.out _ (al.blk P1.out (fun s => s.elim)) b1 (S1.out.then_ al)).mono ?_
      rintro e w1 ⟨rfl, h1⟩
      have c1 := blk_cell h1.fin 0
      simp only [List.getElem?_toArray, List.getElem?_cons_zero] at c1
      have ST := Lib.hid h1.st
      clear h1 b1 al HR
      go_wp2_with fail
      go_ret
      exact ⟨rfl, ST.out⟩
  · have ho : okB x = (x.flat == (bare x.kind).flat) := by rw [HO.out, k1, show x.kind = 128 by simpa using k1]; rfl
    rw [ho]
    clear HO HR
    go_enter Try.func38, Try.ntmps38
    go_wp2_with (first | rw [HE.out] | (refine wpList_load_row rfl 39 (.tmp 1) rfl w.heap.size rfl 39 x.cells (0, 0) _ P1.out Try.underlying39 rfl (by kernel_rfl) ?_))
    go_ret
    exact ⟨rfl, S1.out⟩
end Go.Proofs.Ytehlaomippbehaa
