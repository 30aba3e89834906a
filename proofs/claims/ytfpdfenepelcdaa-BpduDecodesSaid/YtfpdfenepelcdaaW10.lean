/- Encode's closures: a number, an address. -/
import Derived.Test.YtfpdfenepelcdaaW9
namespace Go.Proofs.Ytfpdfenepelcdaa
open Go.RowKit Go.Gm

/-- While the code writes: the one, and the variable that holds what is written. -/
structure En (w0 : World) (B C : Nat) (x : Bpd) (l : List Int) (a : World) : Prop where
  one : a.heap[B]? = some (.cells x.cells 27 (0, 0))
  cap : ∃ u, a.heap[C]? = some (.cells #[u] 29 (0, 0)) ∧ Buf 5 a w0.heap.size u l
  st : Step None w0 a
  new : w0.heap.size ≤ C
theorem En.still {w0 a b : World} {B C : Nat} {x : Bpd} {l : List Int} (h : En w0 B C x l a) (s : Step None a b) : En w0 B C x l b := by
  obtain ⟨u, h1, h2⟩ := h.cap
  exact ⟨s.blk h.one (fun s => s.elim), ⟨u, s.blk h1 (fun s => s.elim), h2.still s⟩, h.st.then_ s, h.new⟩
/-- Behind an append and the store of what it gives. -/
theorem En.more {w0 a a1 b : World} {B C : Nat} {x : Bpd} {u u' : Value} {l more : List Int} (h : En w0 B C x l a) (hu : a.heap[C]? = some (.cells #[u] 29 (0, 0))) (hb : Buf 5 a w0.heap.size u l) (h1 : Step None a a1)
    (hr : Row b 5 1 u' (l.length + more.length) (l.map (.int .u8) ++ more.map (.int .u8))) (hs : Step (Leads u) a1 b) (hl : ∀ k, Leads u' k → Leads u k ∨ a1.heap.size ≤ k) :
    En w0 B C x (l ++ more) (b.setCell ⟨C, 0, none⟩ u') ∧ Step (Other [46, 60] a) a (b.setCell ⟨C, 0, none⟩ u') := by
  have hB := h.st.size
  obtain ⟨q, t⟩ := hb.more hB h1 hr hs hl
  have c1 : b.heap[C]? = some (.cells #[u] 29 (0, 0)) := t.blk hu (Typ.not hu (by decide))
  have c2 : (b.setCell ⟨C, 0, none⟩ u').heap[C]? = some (.cells #[u'] 29 (0, 0)) := blk_set c1 0 u'
  have hq : Buf 5 (b.setCell ⟨C, 0, none⟩ u') w0.heap.size u' (l ++ more) := q.step ((Step.refl (fun k => k = C) b).setCell (p := ⟨C, 0, none⟩) (fun _ => rfl) u') (fun k hk e => by
    subst e
    exact q.row.ne c1 (by decide) hk)
  have t2 : Step (fun k => Typ [5] w0.heap.size a k ∨ k = C) a (b.setCell ⟨C, 0, none⟩ u') := (t.mono (T := fun k => Typ [5] w0.heap.size a k ∨ k = C) fun k _ hk => Or.inl hk).setCell (p := ⟨C, 0, none⟩) (fun _ => .inr rfl) u'
  refine ⟨⟨t2.blk h.one ?_, ⟨u', c2, hq⟩, h.st.trans t2 ?_, h.new⟩, t2.mono ?_⟩
  · rintro (hk | hk)
    · exact Typ.not h.one (by decide) hk
    · exact blk_ne h.one hu (by decide) hk
  · rintro k hk (hk' | rfl)
    · have := hk'.1; omega
    · have := h.new; omega
  · rintro k _ (⟨-, cs, t, hk, ht⟩ | rfl) cs' t' fr hk'
    · rw [hk] at hk'
      simp only [Option.some.injEq, Obj.cells.injEq] at hk'
      rw [← hk'.2.1]
      simp at ht
      rw [ht]; decide
    · rw [hu] at hk'
      simp only [Option.some.injEq, Obj.cells.injEq] at hk'
      rw [← hk'.2.1]; decide

theorem Other.trans {ts : List TypeId} {a b c : World} (h : Step (Other ts a) a b) (g : Step (Other ts b) b c) : Step (Other ts a) a c :=
  h.trans g fun k hk ho => by
    by_cases hn : Other ts a k
    · exact hn
    · intro cs t fr e
      exact ho cs t fr (by rw [h.block k hk hn]; exact e)
theorem Other.ofNone {ts : List TypeId} {a b : World} (h : Step None a b) : Step (Other ts a) a b := h.none

def bytesOf (v : Int) : Nat → List Int
  | 1 => [v % 256]
  | 2 => two v
  | 4 => four v
  | _ => []

set_option maxHeartbeats 8000000 in
theorem enc1 (w0 : World) (B C off : Nat) (x : Bpd) (l : List Int) (v : Int) (a : World) (h : En w0 B C x l a) (hv : x.cells[off]? = some (.int .i64 v)) (hl : l.length ≤ 100) :
    Calls Try.prog 20 #[.agg #[.pointer (some ⟨B, off, none⟩), .int .i64 1], .pointer (some ⟨C, 0, none⟩)] a fun e b => e = .returned (.tuple #[]) ∧ En w0 B C x (l ++ bytesOf v 1) b ∧ Step (Other [46, 60] a) a b := by
  have al := (Step.refl None a).alloc (.cells #[.pointer (some ⟨B, off, none⟩), .int .i64 1] 46)
  have hb := heap_alloc_new a (.cells #[.pointer (some ⟨B, off, none⟩), .int .i64 1] 46)
  obtain ⟨W, hW⟩ : ∃ W, a.alloc (.cells #[.pointer (some ⟨B, off, none⟩), .int .i64 1] 46) = W := ⟨_, rfl⟩
  rw [hW] at al hb
  have h' := h.still al
  have HE := Lib.hid hW
  clear hW h
  have c1 := blk_cell hb 1
  simp only [List.getElem?_toArray, List.getElem?_cons_zero, List.getElem?_cons_succ] at c1
  have H := Lib.hid h'
  have HB := Lib.hid hb
  have AL := Lib.hid al
  have HV := Lib.hid hv
  clear h' hb al hv
  go_enter Try.func20, Try.ntmps20
  go_wp2_with (rw [HE.out])
  clear HE c1
  go_loopw [3] (fun t wr => ∃ j : Nat, j ≤ 1 ∧ t = .int .i64 (0 - j) ∧ Hid (En w0 B C x (l ++ (bytesOf v 1).take j) wr) ∧ Hid (wr.heap[a.heap.size]? = some (.cells #[.pointer (some ⟨B, off, none⟩), .int .i64 1] 46 (0, 0))) ∧ Hid (Step (Other [46, 60] a) a wr)) (fun t _ => (intOf t + 1).toNat)
  case atStart => exact ⟨0, by omega, rfl, Lib.hid (by simpa using H.out), HB, Lib.hid (Other.ofNone AL.out)⟩
  case round =>
    clear H HB AL
    obtain ⟨j, hj, rfl, he, hb, hs⟩ := hrel
    rename_i wr
    have hcs : j = 0 ∨ j = 1 := by omega
    clear hj
    rcases hcs with rfl | rfl
    · obtain ⟨L, hL⟩ : ∃ L, l ++ (bytesOf v 1).take 0 = L := ⟨_, rfl⟩
      rw [hL] at he
      have hLl : L.length ≤ 110 := by rw [← hL]; simp [bytesOf]; omega
      have HL := Lib.hid hL
      clear hL
      obtain ⟨u, hu, hf⟩ := he.out.cap
      have c0 := blk_cell hu 0
      have c2 := blk_cell hb.out 0
      have c3 := blk_cell he.out.one off
      rw [HV.out] at c3
      simp only [List.getElem?_toArray, List.getElem?_cons_zero] at c0 c2
      obtain ⟨ao, cp, rfl⟩ := hf.form
      have ob : (wr.alloc (.cells #[.int .u8 (IntKind.u8.wrap v)] 5)).drew.heap[wr.heap.size]? = some (.cells #[.int .u8 (IntKind.u8.wrap v)] 5 (0, 0)) := heap_alloc_new wr (.cells #[.int .u8 (IntKind.u8.wrap v)] 5)
      have al := ((Step.refl None wr).alloc (.cells #[.int .u8 (IntKind.u8.wrap v)] 5)).drew
      have HF := Lib.hid hf
      have HU := Lib.hid hu
      have OB := Lib.hid ob
      have AL := Lib.hid al
      clear hf hu ob al
      go_wp2_with fail
      refine wp_region_plan (fun w' => w'.cell? ⟨C, 0, none⟩ = some (.slice ao L.length cp) ∧ w'.cell? ⟨a.heap.size, 0, none⟩ = some (.pointer (some ⟨B, off, none⟩)) ∧ w'.cell? ⟨B, off, none⟩ = some (.int .i64 v)) (.take 0 (.take 1 (.take 2 (.take 3 (.take 4 (.take 5 (.take 6 (.take 7 (.take 8 (.alt 9 (.alt 10 (.last 11) .none) .none)))))))))) _
        (by simp only [Plan.map, opOf, List.getElem?_toArray, List.getElem?_cons_zero, List.getElem?_cons_succ, Option.getD_some]; rfl) (by kernel_rfl) (by kernel_rfl) (by kernel_rfl) (by decide) (by intro c a d v w; cases d <;> exact fun h => h) ⟨c0, c2, c3⟩ ?_
      have hws : IntKind.i64.wrap 0 = 0 := by decide
      repeat (refine wpPlan.taken (by rfl) (by intro w' hS'; (try dsimp only at hS'); go_split_ands; go_simp; try with_reducible rfl) ?_; simp only [Act.put, List.setIfInBounds_toArray, List.set_cons_zero, List.set_cons_succ])
      refine wpPlan.runs fun K' hK => ?_
      go_simp
      have S1 : ∀ w', Step (Leads (.slice ao L.length cp)) wr w' → w'.cell? ⟨C, 0, none⟩ = some (.slice ao L.length cp) ∧ w'.cell? ⟨a.heap.size, 0, none⟩ = some (.pointer (some ⟨B, off, none⟩)) ∧ w'.cell? ⟨B, off, none⟩ = some (.int .i64 v) := fun w' h' =>
        ⟨(h'.cell (p := ⟨C, 0, none⟩) (blk_lt HU.out) (HF.out.row.ne HU.out (by decide))).trans c0, (h'.cell (p := ⟨a.heap.size, 0, none⟩) (blk_lt hb.out) (HF.out.row.ne hb.out (by decide))).trans c2, (h'.cell (p := ⟨B, off, none⟩) (blk_lt he.out.one) (HF.out.row.ne he.out.one (by decide))).trans c3⟩
      refine hK.out _ _ (S1 _ (AL.out.none)) ?_
      clear hK K'
      refine wpPlan.runs fun K' hK => ?_
      refine step_append_row (m := 1) T29 (by rfl) (.tmp 11) (.tmp 20) (by rfl) (by rfl) (HF.out.still AL.out).row (by rfl) (Src.ofBlock T29 (m := 1) (c := 1) OB.out (by rfl) (by simp [Value.oneCell'])) (by simp [maxLen]; omega) (by simp; omega) ?_
      intro v2 w2 hr2 hs2 hl2
      obtain ⟨vo, vc, rfl, -, -⟩ := hr2.form
      refine hK.out _ _ (S1 _ ((AL.out.none).then_ hs2)) ?_
      clear hK K'
      have M := Lib.hid (he.out.more (more := [IntKind.u8.wrap v]) HU.out HF.out AL.out hr2 hs2 (fun k hk => (hl2 k hk).imp id fun h => h))
      have bx : (w2.setCell ⟨C, 0, none⟩ (.slice vo (L.length + 1) vc)).heap[a.heap.size]? = some (.cells #[.pointer (some ⟨B, off, none⟩), .int .i64 1] 46 (0, 0)) := M.out.2.blk hb.out (Other.not hb.out (by simp))
      have BX := Lib.hid bx
      have ee : L ++ [IntKind.u8.wrap v] = l ++ (bytesOf v 1).take 1 := by
        rw [← HL.out, IntKind.wrap_u8]
        simp [bytesOf]
      have EE := Lib.hid ee
      clear ee
      have bC := ((AL.out.none).then_ hs2).blk HU.out (HF.out.row.ne HU.out (by decide))
      have cw := blk_cell bC 0
      have fz := blk_frozen bC 0
      simp only [List.getElem?_toArray, List.getElem?_cons_zero] at cw
      have OT := Lib.hid (Other.trans hs.out M.out.2)
      clear bx bC hb hs HU HF AL OB S1 hr2 hs2 hl2 c0 c2 c3
      refine wpPlan.ends fun K' hK => ?_
      go_simp
      refine hK.out _ _ ?_
      clear hK K'
      go_wp2_with fail
      go_roundw
      case rel => exact ⟨1, by omega, by first | rfl | simp, Lib.hid (by rw [← EE.out]; exact M.out.1), BX, OT⟩
      case measure => simp [intOf]
    · go_wp2_with fail
      go_end0
      exact ⟨rfl, by have := he.out; simpa [bytesOf, two, four] using this, hs.out⟩

set_option maxHeartbeats 8000000 in
theorem enc2 (w0 : World) (B C off : Nat) (x : Bpd) (l : List Int) (v : Int) (a : World) (h : En w0 B C x l a) (hv : x.cells[off]? = some (.int .i64 v)) (hl : l.length ≤ 100) :
    Calls Try.prog 20 #[.agg #[.pointer (some ⟨B, off, none⟩), .int .i64 2], .pointer (some ⟨C, 0, none⟩)] a fun e b => e = .returned (.tuple #[]) ∧ En w0 B C x (l ++ bytesOf v 2) b ∧ Step (Other [46, 60] a) a b := by
  have al := (Step.refl None a).alloc (.cells #[.pointer (some ⟨B, off, none⟩), .int .i64 2] 46)
  have hb := heap_alloc_new a (.cells #[.pointer (some ⟨B, off, none⟩), .int .i64 2] 46)
  obtain ⟨W, hW⟩ : ∃ W, a.alloc (.cells #[.pointer (some ⟨B, off, none⟩), .int .i64 2] 46) = W := ⟨_, rfl⟩
  rw [hW] at al hb
  have h' := h.still al
  have HE := Lib.hid hW
  clear hW h
  have c1 := blk_cell hb 1
  simp only [List.getElem?_toArray, List.getElem?_cons_zero, List.getElem?_cons_succ] at c1
  have H := Lib.hid h'
  have HB := Lib.hid hb
  have AL := Lib.hid al
  have HV := Lib.hid hv
  clear h' hb al hv
  go_enter Try.func20, Try.ntmps20
  go_wp2_with (rw [HE.out])
  clear HE c1
  go_loopw [3] (fun t wr => ∃ j : Nat, j ≤ 2 ∧ t = .int .i64 (1 - j) ∧ Hid (En w0 B C x (l ++ (bytesOf v 2).take j) wr) ∧ Hid (wr.heap[a.heap.size]? = some (.cells #[.pointer (some ⟨B, off, none⟩), .int .i64 2] 46 (0, 0))) ∧ Hid (Step (Other [46, 60] a) a wr)) (fun t _ => (intOf t + 1).toNat)
  case atStart => exact ⟨0, by omega, rfl, Lib.hid (by simpa using H.out), HB, Lib.hid (Other.ofNone AL.out)⟩
  case round =>
    clear H HB AL
    obtain ⟨j, hj, rfl, he, hb, hs⟩ := hrel
    rename_i wr
    have hcs : j = 0 ∨ j = 1 ∨ j = 2 := by omega
    clear hj
    rcases hcs with rfl | rfl | rfl
    · obtain ⟨L, hL⟩ : ∃ L, l ++ (bytesOf v 2).take 0 = L := ⟨_, rfl⟩
      rw [hL] at he
      have hLl : L.length ≤ 110 := by rw [← hL]; simp [bytesOf, two]; omega
      have HL := Lib.hid hL
      clear hL
      obtain ⟨u, hu, hf⟩ := he.out.cap
      have c0 := blk_cell hu 0
      have c2 := blk_cell hb.out 0
      have c3 := blk_cell he.out.one off
      rw [HV.out] at c3
      simp only [List.getElem?_toArray, List.getElem?_cons_zero] at c0 c2
      obtain ⟨ao, cp, rfl⟩ := hf.form
      have ob : (wr.alloc (.cells #[.int .u8 (IntKind.u8.wrap (v / 256))] 5)).drew.heap[wr.heap.size]? = some (.cells #[.int .u8 (IntKind.u8.wrap (v / 256))] 5 (0, 0)) := heap_alloc_new wr (.cells #[.int .u8 (IntKind.u8.wrap (v / 256))] 5)
      have al := ((Step.refl None wr).alloc (.cells #[.int .u8 (IntKind.u8.wrap (v / 256))] 5)).drew
      have HF := Lib.hid hf
      have HU := Lib.hid hu
      have OB := Lib.hid ob
      have AL := Lib.hid al
      clear hf hu ob al
      go_wp2_with fail
      refine wp_region_plan (fun w' => w'.cell? ⟨C, 0, none⟩ = some (.slice ao L.length cp) ∧ w'.cell? ⟨a.heap.size, 0, none⟩ = some (.pointer (some ⟨B, off, none⟩)) ∧ w'.cell? ⟨B, off, none⟩ = some (.int .i64 v)) (.take 0 (.take 1 (.take 2 (.take 3 (.take 4 (.take 5 (.take 6 (.take 7 (.take 8 (.alt 9 (.alt 10 (.last 11) .none) .none)))))))))) _
        (by simp only [Plan.map, opOf, List.getElem?_toArray, List.getElem?_cons_zero, List.getElem?_cons_succ, Option.getD_some]; rfl) (by kernel_rfl) (by kernel_rfl) (by kernel_rfl) (by decide) (by intro c a d v w; cases d <;> exact fun h => h) ⟨c0, c2, c3⟩ ?_
      have hws : IntKind.i64.wrap 8 = 8 := by decide
      repeat (refine wpPlan.taken (by rfl) (by intro w' hS'; (try dsimp only at hS'); go_split_ands; go_simp; try with_reducible rfl) ?_; simp only [Act.put, List.setIfInBounds_toArray, List.set_cons_zero, List.set_cons_succ])
      refine wpPlan.runs fun K' hK => ?_
      go_simp
      have S1 : ∀ w', Step (Leads (.slice ao L.length cp)) wr w' → w'.cell? ⟨C, 0, none⟩ = some (.slice ao L.length cp) ∧ w'.cell? ⟨a.heap.size, 0, none⟩ = some (.pointer (some ⟨B, off, none⟩)) ∧ w'.cell? ⟨B, off, none⟩ = some (.int .i64 v) := fun w' h' =>
        ⟨(h'.cell (p := ⟨C, 0, none⟩) (blk_lt HU.out) (HF.out.row.ne HU.out (by decide))).trans c0, (h'.cell (p := ⟨a.heap.size, 0, none⟩) (blk_lt hb.out) (HF.out.row.ne hb.out (by decide))).trans c2, (h'.cell (p := ⟨B, off, none⟩) (blk_lt he.out.one) (HF.out.row.ne he.out.one (by decide))).trans c3⟩
      refine hK.out _ _ (S1 _ (AL.out.none)) ?_
      clear hK K'
      refine wpPlan.runs fun K' hK => ?_
      refine step_append_row (m := 1) T29 (by rfl) (.tmp 11) (.tmp 20) (by rfl) (by rfl) (HF.out.still AL.out).row (by rfl) (Src.ofBlock T29 (m := 1) (c := 1) OB.out (by rfl) (by simp [Value.oneCell'])) (by simp [maxLen]; omega) (by simp; omega) ?_
      intro v2 w2 hr2 hs2 hl2
      obtain ⟨vo, vc, rfl, -, -⟩ := hr2.form
      refine hK.out _ _ (S1 _ ((AL.out.none).then_ hs2)) ?_
      clear hK K'
      have M := Lib.hid (he.out.more (more := [IntKind.u8.wrap (v / 256)]) HU.out HF.out AL.out hr2 hs2 (fun k hk => (hl2 k hk).imp id fun h => h))
      have bx : (w2.setCell ⟨C, 0, none⟩ (.slice vo (L.length + 1) vc)).heap[a.heap.size]? = some (.cells #[.pointer (some ⟨B, off, none⟩), .int .i64 2] 46 (0, 0)) := M.out.2.blk hb.out (Other.not hb.out (by simp))
      have BX := Lib.hid bx
      have ee : L ++ [IntKind.u8.wrap (v / 256)] = l ++ (bytesOf v 2).take 1 := by
        rw [← HL.out, IntKind.wrap_u8]
        simp [bytesOf, two]
      have EE := Lib.hid ee
      clear ee
      have bC := ((AL.out.none).then_ hs2).blk HU.out (HF.out.row.ne HU.out (by decide))
      have cw := blk_cell bC 0
      have fz := blk_frozen bC 0
      simp only [List.getElem?_toArray, List.getElem?_cons_zero] at cw
      have OT := Lib.hid (Other.trans hs.out M.out.2)
      clear bx bC hb hs HU HF AL OB S1 hr2 hs2 hl2 c0 c2 c3
      refine wpPlan.ends fun K' hK => ?_
      go_simp
      refine hK.out _ _ ?_
      clear hK K'
      go_wp2_with fail
      go_roundw
      case rel => exact ⟨1, by omega, by first | rfl | simp, Lib.hid (by rw [← EE.out]; exact M.out.1), BX, OT⟩
      case measure => simp [intOf]
    · obtain ⟨L, hL⟩ : ∃ L, l ++ (bytesOf v 2).take 1 = L := ⟨_, rfl⟩
      rw [hL] at he
      have hLl : L.length ≤ 110 := by rw [← hL]; simp [bytesOf, two]; omega
      have HL := Lib.hid hL
      clear hL
      obtain ⟨u, hu, hf⟩ := he.out.cap
      have c0 := blk_cell hu 0
      have c2 := blk_cell hb.out 0
      have c3 := blk_cell he.out.one off
      rw [HV.out] at c3
      simp only [List.getElem?_toArray, List.getElem?_cons_zero] at c0 c2
      obtain ⟨ao, cp, rfl⟩ := hf.form
      have ob : (wr.alloc (.cells #[.int .u8 (IntKind.u8.wrap v)] 5)).drew.heap[wr.heap.size]? = some (.cells #[.int .u8 (IntKind.u8.wrap v)] 5 (0, 0)) := heap_alloc_new wr (.cells #[.int .u8 (IntKind.u8.wrap v)] 5)
      have al := ((Step.refl None wr).alloc (.cells #[.int .u8 (IntKind.u8.wrap v)] 5)).drew
      have HF := Lib.hid hf
      have HU := Lib.hid hu
      have OB := Lib.hid ob
      have AL := Lib.hid al
      clear hf hu ob al
      go_wp2_with fail
      refine wp_region_plan (fun w' => w'.cell? ⟨C, 0, none⟩ = some (.slice ao L.length cp) ∧ w'.cell? ⟨a.heap.size, 0, none⟩ = some (.pointer (some ⟨B, off, none⟩)) ∧ w'.cell? ⟨B, off, none⟩ = some (.int .i64 v)) (.take 0 (.take 1 (.take 2 (.take 3 (.take 4 (.take 5 (.take 6 (.take 7 (.take 8 (.alt 9 (.alt 10 (.last 11) .none) .none)))))))))) _
        (by simp only [Plan.map, opOf, List.getElem?_toArray, List.getElem?_cons_zero, List.getElem?_cons_succ, Option.getD_some]; rfl) (by kernel_rfl) (by kernel_rfl) (by kernel_rfl) (by decide) (by intro c a d v w; cases d <;> exact fun h => h) ⟨c0, c2, c3⟩ ?_
      have hws : IntKind.i64.wrap 0 = 0 := by decide
      repeat (refine wpPlan.taken (by rfl) (by intro w' hS'; (try dsimp only at hS'); go_split_ands; go_simp; try with_reducible rfl) ?_; simp only [Act.put, List.setIfInBounds_toArray, List.set_cons_zero, List.set_cons_succ])
      refine wpPlan.runs fun K' hK => ?_
      go_simp
      have S1 : ∀ w', Step (Leads (.slice ao L.length cp)) wr w' → w'.cell? ⟨C, 0, none⟩ = some (.slice ao L.length cp) ∧ w'.cell? ⟨a.heap.size, 0, none⟩ = some (.pointer (some ⟨B, off, none⟩)) ∧ w'.cell? ⟨B, off, none⟩ = some (.int .i64 v) := fun w' h' =>
        ⟨(h'.cell (p := ⟨C, 0, none⟩) (blk_lt HU.out) (HF.out.row.ne HU.out (by decide))).trans c0, (h'.cell (p := ⟨a.heap.size, 0, none⟩) (blk_lt hb.out) (HF.out.row.ne hb.out (by decide))).trans c2, (h'.cell (p := ⟨B, off, none⟩) (blk_lt he.out.one) (HF.out.row.ne he.out.one (by decide))).trans c3⟩
      refine hK.out _ _ (S1 _ (AL.out.none)) ?_
      clear hK K'
      refine wpPlan.runs fun K' hK => ?_
      refine step_append_row (m := 1) T29 (by rfl) (.tmp 11) (.tmp 20) (by rfl) (by rfl) (HF.out.still AL.out).row (by rfl) (Src.ofBlock T29 (m := 1) (c := 1) OB.out (by rfl) (by simp [Value.oneCell'])) (by simp [maxLen]; omega) (by simp; omega) ?_
      intro v2 w2 hr2 hs2 hl2
      obtain ⟨vo, vc, rfl, -, -⟩ := hr2.form
      refine hK.out _ _ (S1 _ ((AL.out.none).then_ hs2)) ?_
      clear hK K'
      have M := Lib.hid (he.out.more (more := [IntKind.u8.wrap v]) HU.out HF.out AL.out hr2 hs2 (fun k hk => (hl2 k hk).imp id fun h => h))
      have bx : (w2.setCell ⟨C, 0, none⟩ (.slice vo (L.length + 1) vc)).heap[a.heap.size]? = some (.cells #[.pointer (some ⟨B, off, none⟩), .int .i64 2] 46 (0, 0)) := M.out.2.blk hb.out (Other.not hb.out (by simp))
      have BX := Lib.hid bx
      have ee : L ++ [IntKind.u8.wrap v] = l ++ (bytesOf v 2).take 2 := by
        rw [← HL.out, IntKind.wrap_u8]
        simp [bytesOf, two]
      have EE := Lib.hid ee
      clear ee
      have bC := ((AL.out.none).then_ hs2).blk HU.out (HF.out.row.ne HU.out (by decide))
      have cw := blk_cell bC 0
      have fz := blk_frozen bC 0
      simp only [List.getElem?_toArray, List.getElem?_cons_zero] at cw
      have OT := Lib.hid (Other.trans hs.out M.out.2)
      clear bx bC hb hs HU HF AL OB S1 hr2 hs2 hl2 c0 c2 c3
      refine wpPlan.ends fun K' hK => ?_
      go_simp
      refine hK.out _ _ ?_
      clear hK K'
      go_wp2_with fail
      go_roundw
      case rel => exact ⟨2, by omega, by first | rfl | simp, Lib.hid (by rw [← EE.out]; exact M.out.1), BX, OT⟩
      case measure => simp [intOf]
    · go_wp2_with fail
      go_end0
      exact ⟨rfl, by have := he.out; simpa [bytesOf, two, four] using this, hs.out⟩

set_option maxHeartbeats 8000000 in
theorem enc4 (w0 : World) (B C off : Nat) (x : Bpd) (l : List Int) (v : Int) (a : World) (h : En w0 B C x l a) (hv : x.cells[off]? = some (.int .i64 v)) (hl : l.length ≤ 100) :
    Calls Try.prog 20 #[.agg #[.pointer (some ⟨B, off, none⟩), .int .i64 4], .pointer (some ⟨C, 0, none⟩)] a fun e b => e = .returned (.tuple #[]) ∧ En w0 B C x (l ++ bytesOf v 4) b ∧ Step (Other [46, 60] a) a b := by
  have al := (Step.refl None a).alloc (.cells #[.pointer (some ⟨B, off, none⟩), .int .i64 4] 46)
  have hb := heap_alloc_new a (.cells #[.pointer (some ⟨B, off, none⟩), .int .i64 4] 46)
  obtain ⟨W, hW⟩ : ∃ W, a.alloc (.cells #[.pointer (some ⟨B, off, none⟩), .int .i64 4] 46) = W := ⟨_, rfl⟩
  rw [hW] at al hb
  have h' := h.still al
  have HE := Lib.hid hW
  clear hW h
  have c1 := blk_cell hb 1
  simp only [List.getElem?_toArray, List.getElem?_cons_zero, List.getElem?_cons_succ] at c1
  have H := Lib.hid h'
  have HB := Lib.hid hb
  have AL := Lib.hid al
  have HV := Lib.hid hv
  clear h' hb al hv
  go_enter Try.func20, Try.ntmps20
  go_wp2_with (rw [HE.out])
  clear HE c1
  go_loopw [3] (fun t wr => ∃ j : Nat, j ≤ 4 ∧ t = .int .i64 (3 - j) ∧ Hid (En w0 B C x (l ++ (bytesOf v 4).take j) wr) ∧ Hid (wr.heap[a.heap.size]? = some (.cells #[.pointer (some ⟨B, off, none⟩), .int .i64 4] 46 (0, 0))) ∧ Hid (Step (Other [46, 60] a) a wr)) (fun t _ => (intOf t + 1).toNat)
  case atStart => exact ⟨0, by omega, rfl, Lib.hid (by simpa using H.out), HB, Lib.hid (Other.ofNone AL.out)⟩
  case round =>
    clear H HB AL
    obtain ⟨j, hj, rfl, he, hb, hs⟩ := hrel
    rename_i wr
    have hcs : j = 0 ∨ j = 1 ∨ j = 2 ∨ j = 3 ∨ j = 4 := by omega
    clear hj
    rcases hcs with rfl | rfl | rfl | rfl | rfl
    · obtain ⟨L, hL⟩ : ∃ L, l ++ (bytesOf v 4).take 0 = L := ⟨_, rfl⟩
      rw [hL] at he
      have hLl : L.length ≤ 110 := by rw [← hL]; simp [bytesOf, four]; omega
      have HL := Lib.hid hL
      clear hL
      obtain ⟨u, hu, hf⟩ := he.out.cap
      have c0 := blk_cell hu 0
      have c2 := blk_cell hb.out 0
      have c3 := blk_cell he.out.one off
      rw [HV.out] at c3
      simp only [List.getElem?_toArray, List.getElem?_cons_zero] at c0 c2
      obtain ⟨ao, cp, rfl⟩ := hf.form
      have ob : (wr.alloc (.cells #[.int .u8 (IntKind.u8.wrap (v / 16777216))] 5)).drew.heap[wr.heap.size]? = some (.cells #[.int .u8 (IntKind.u8.wrap (v / 16777216))] 5 (0, 0)) := heap_alloc_new wr (.cells #[.int .u8 (IntKind.u8.wrap (v / 16777216))] 5)
      have al := ((Step.refl None wr).alloc (.cells #[.int .u8 (IntKind.u8.wrap (v / 16777216))] 5)).drew
      have HF := Lib.hid hf
      have HU := Lib.hid hu
      have OB := Lib.hid ob
      have AL := Lib.hid al
      clear hf hu ob al
      go_wp2_with fail
      refine wp_region_plan (fun w' => w'.cell? ⟨C, 0, none⟩ = some (.slice ao L.length cp) ∧ w'.cell? ⟨a.heap.size, 0, none⟩ = some (.pointer (some ⟨B, off, none⟩)) ∧ w'.cell? ⟨B, off, none⟩ = some (.int .i64 v)) (.take 0 (.take 1 (.take 2 (.take 3 (.take 4 (.take 5 (.take 6 (.take 7 (.take 8 (.alt 9 (.alt 10 (.last 11) .none) .none)))))))))) _
        (by simp only [Plan.map, opOf, List.getElem?_toArray, List.getElem?_cons_zero, List.getElem?_cons_succ, Option.getD_some]; rfl) (by kernel_rfl) (by kernel_rfl) (by kernel_rfl) (by decide) (by intro c a d v w; cases d <;> exact fun h => h) ⟨c0, c2, c3⟩ ?_
      have hws : IntKind.i64.wrap 24 = 24 := by decide
      repeat (refine wpPlan.taken (by rfl) (by intro w' hS'; (try dsimp only at hS'); go_split_ands; go_simp; try with_reducible rfl) ?_; simp only [Act.put, List.setIfInBounds_toArray, List.set_cons_zero, List.set_cons_succ])
      refine wpPlan.runs fun K' hK => ?_
      go_simp
      have S1 : ∀ w', Step (Leads (.slice ao L.length cp)) wr w' → w'.cell? ⟨C, 0, none⟩ = some (.slice ao L.length cp) ∧ w'.cell? ⟨a.heap.size, 0, none⟩ = some (.pointer (some ⟨B, off, none⟩)) ∧ w'.cell? ⟨B, off, none⟩ = some (.int .i64 v) := fun w' h' =>
        ⟨(h'.cell (p := ⟨C, 0, none⟩) (blk_lt HU.out) (HF.out.row.ne HU.out (by decide))).trans c0, (h'.cell (p := ⟨a.heap.size, 0, none⟩) (blk_lt hb.out) (HF.out.row.ne hb.out (by decide))).trans c2, (h'.cell (p := ⟨B, off, none⟩) (blk_lt he.out.one) (HF.out.row.ne he.out.one (by decide))).trans c3⟩
      refine hK.out _ _ (S1 _ (AL.out.none)) ?_
      clear hK K'
      refine wpPlan.runs fun K' hK => ?_
      refine step_append_row (m := 1) T29 (by rfl) (.tmp 11) (.tmp 20) (by rfl) (by rfl) (HF.out.still AL.out).row (by rfl) (Src.ofBlock T29 (m := 1) (c := 1) OB.out (by rfl) (by simp [Value.oneCell'])) (by simp [maxLen]; omega) (by simp; omega) ?_
      intro v2 w2 hr2 hs2 hl2
      obtain ⟨vo, vc, rfl, -, -⟩ := hr2.form
      refine hK.out _ _ (S1 _ ((AL.out.none).then_ hs2)) ?_
      clear hK K'
      have M := Lib.hid (he.out.more (more := [IntKind.u8.wrap (v / 16777216)]) HU.out HF.out AL.out hr2 hs2 (fun k hk => (hl2 k hk).imp id fun h => h))
      have bx : (w2.setCell ⟨C, 0, none⟩ (.slice vo (L.length + 1) vc)).heap[a.heap.size]? = some (.cells #[.pointer (some ⟨B, off, none⟩), .int .i64 4] 46 (0, 0)) := M.out.2.blk hb.out (Other.not hb.out (by simp))
      have BX := Lib.hid bx
      have ee : L ++ [IntKind.u8.wrap (v / 16777216)] = l ++ (bytesOf v 4).take 1 := by
        rw [← HL.out, IntKind.wrap_u8]
        simp [bytesOf, four]; omega
      have EE := Lib.hid ee
      clear ee
      have bC := ((AL.out.none).then_ hs2).blk HU.out (HF.out.row.ne HU.out (by decide))
      have cw := blk_cell bC 0
      have fz := blk_frozen bC 0
      simp only [List.getElem?_toArray, List.getElem?_cons_zero] at cw
      have OT := Lib.hid (Other.trans hs.out M.out.2)
      clear bx bC hb hs HU HF AL OB S1 hr2 hs2 hl2 c0 c2 c3
      refine wpPlan.ends fun K' hK => ?_
      go_simp
      refine hK.out _ _ ?_
      clear hK K'
      go_wp2_with fail
      go_roundw
      case rel => exact ⟨1, by omega, by first | rfl | simp, Lib.hid (by rw [← EE.out]; exact M.out.1), BX, OT⟩
      case measure => simp [intOf]
    · obtain ⟨L, hL⟩ : ∃ L, l ++ (bytesOf v 4).take 1 = L := ⟨_, rfl⟩
      rw [hL] at he
      have hLl : L.length ≤ 110 := by rw [← hL]; simp [bytesOf, four]; omega
      have HL := Lib.hid hL
      clear hL
      obtain ⟨u, hu, hf⟩ := he.out.cap
      have c0 := blk_cell hu 0
      have c2 := blk_cell hb.out 0
      have c3 := blk_cell he.out.one off
      rw [HV.out] at c3
      simp only [List.getElem?_toArray, List.getElem?_cons_zero] at c0 c2
      obtain ⟨ao, cp, rfl⟩ := hf.form
      have ob : (wr.alloc (.cells #[.int .u8 (IntKind.u8.wrap (v / 65536))] 5)).drew.heap[wr.heap.size]? = some (.cells #[.int .u8 (IntKind.u8.wrap (v / 65536))] 5 (0, 0)) := heap_alloc_new wr (.cells #[.int .u8 (IntKind.u8.wrap (v / 65536))] 5)
      have al := ((Step.refl None wr).alloc (.cells #[.int .u8 (IntKind.u8.wrap (v / 65536))] 5)).drew
      have HF := Lib.hid hf
      have HU := Lib.hid hu
      have OB := Lib.hid ob
      have AL := Lib.hid al
      clear hf hu ob al
      go_wp2_with fail
      refine wp_region_plan (fun w' => w'.cell? ⟨C, 0, none⟩ = some (.slice ao L.length cp) ∧ w'.cell? ⟨a.heap.size, 0, none⟩ = some (.pointer (some ⟨B, off, none⟩)) ∧ w'.cell? ⟨B, off, none⟩ = some (.int .i64 v)) (.take 0 (.take 1 (.take 2 (.take 3 (.take 4 (.take 5 (.take 6 (.take 7 (.take 8 (.alt 9 (.alt 10 (.last 11) .none) .none)))))))))) _
        (by simp only [Plan.map, opOf, List.getElem?_toArray, List.getElem?_cons_zero, List.getElem?_cons_succ, Option.getD_some]; rfl) (by kernel_rfl) (by kernel_rfl) (by kernel_rfl) (by decide) (by intro c a d v w; cases d <;> exact fun h => h) ⟨c0, c2, c3⟩ ?_
      have hws : IntKind.i64.wrap 16 = 16 := by decide
      repeat (refine wpPlan.taken (by rfl) (by intro w' hS'; (try dsimp only at hS'); go_split_ands; go_simp; try with_reducible rfl) ?_; simp only [Act.put, List.setIfInBounds_toArray, List.set_cons_zero, List.set_cons_succ])
      refine wpPlan.runs fun K' hK => ?_
      go_simp
      have S1 : ∀ w', Step (Leads (.slice ao L.length cp)) wr w' → w'.cell? ⟨C, 0, none⟩ = some (.slice ao L.length cp) ∧ w'.cell? ⟨a.heap.size, 0, none⟩ = some (.pointer (some ⟨B, off, none⟩)) ∧ w'.cell? ⟨B, off, none⟩ = some (.int .i64 v) := fun w' h' =>
        ⟨(h'.cell (p := ⟨C, 0, none⟩) (blk_lt HU.out) (HF.out.row.ne HU.out (by decide))).trans c0, (h'.cell (p := ⟨a.heap.size, 0, none⟩) (blk_lt hb.out) (HF.out.row.ne hb.out (by decide))).trans c2, (h'.cell (p := ⟨B, off, none⟩) (blk_lt he.out.one) (HF.out.row.ne he.out.one (by decide))).trans c3⟩
      refine hK.out _ _ (S1 _ (AL.out.none)) ?_
      clear hK K'
      refine wpPlan.runs fun K' hK => ?_
      refine step_append_row (m := 1) T29 (by rfl) (.tmp 11) (.tmp 20) (by rfl) (by rfl) (HF.out.still AL.out).row (by rfl) (Src.ofBlock T29 (m := 1) (c := 1) OB.out (by rfl) (by simp [Value.oneCell'])) (by simp [maxLen]; omega) (by simp; omega) ?_
      intro v2 w2 hr2 hs2 hl2
      obtain ⟨vo, vc, rfl, -, -⟩ := hr2.form
      refine hK.out _ _ (S1 _ ((AL.out.none).then_ hs2)) ?_
      clear hK K'
      have M := Lib.hid (he.out.more (more := [IntKind.u8.wrap (v / 65536)]) HU.out HF.out AL.out hr2 hs2 (fun k hk => (hl2 k hk).imp id fun h => h))
      have bx : (w2.setCell ⟨C, 0, none⟩ (.slice vo (L.length + 1) vc)).heap[a.heap.size]? = some (.cells #[.pointer (some ⟨B, off, none⟩), .int .i64 4] 46 (0, 0)) := M.out.2.blk hb.out (Other.not hb.out (by simp))
      have BX := Lib.hid bx
      have ee : L ++ [IntKind.u8.wrap (v / 65536)] = l ++ (bytesOf v 4).take 2 := by
        rw [← HL.out, IntKind.wrap_u8]
        simp [bytesOf, four]
      have EE := Lib.hid ee
      clear ee
      have bC := ((AL.out.none).then_ hs2).blk HU.out (HF.out.row.ne HU.out (by decide))
      have cw := blk_cell bC 0
      have fz := blk_frozen bC 0
      simp only [List.getElem?_toArray, List.getElem?_cons_zero] at cw
      have OT := Lib.hid (Other.trans hs.out M.out.2)
      clear bx bC hb hs HU HF AL OB S1 hr2 hs2 hl2 c0 c2 c3
      refine wpPlan.ends fun K' hK => ?_
      go_simp
      refine hK.out _ _ ?_
      clear hK K'
      go_wp2_with fail
      go_roundw
      case rel => exact ⟨2, by omega, by first | rfl | simp, Lib.hid (by rw [← EE.out]; exact M.out.1), BX, OT⟩
      case measure => simp [intOf]
    · obtain ⟨L, hL⟩ : ∃ L, l ++ (bytesOf v 4).take 2 = L := ⟨_, rfl⟩
      rw [hL] at he
      have hLl : L.length ≤ 110 := by rw [← hL]; simp [bytesOf, four]; omega
      have HL := Lib.hid hL
      clear hL
      obtain ⟨u, hu, hf⟩ := he.out.cap
      have c0 := blk_cell hu 0
      have c2 := blk_cell hb.out 0
      have c3 := blk_cell he.out.one off
      rw [HV.out] at c3
      simp only [List.getElem?_toArray, List.getElem?_cons_zero] at c0 c2
      obtain ⟨ao, cp, rfl⟩ := hf.form
      have ob : (wr.alloc (.cells #[.int .u8 (IntKind.u8.wrap (v / 256))] 5)).drew.heap[wr.heap.size]? = some (.cells #[.int .u8 (IntKind.u8.wrap (v / 256))] 5 (0, 0)) := heap_alloc_new wr (.cells #[.int .u8 (IntKind.u8.wrap (v / 256))] 5)
      have al := ((Step.refl None wr).alloc (.cells #[.int .u8 (IntKind.u8.wrap (v / 256))] 5)).drew
      have HF := Lib.hid hf
      have HU := Lib.hid hu
      have OB := Lib.hid ob
      have AL := Lib.hid al
      clear hf hu ob al
      go_wp2_with fail
      refine wp_region_plan (fun w' => w'.cell? ⟨C, 0, none⟩ = some (.slice ao L.length cp) ∧ w'.cell? ⟨a.heap.size, 0, none⟩ = some (.pointer (some ⟨B, off, none⟩)) ∧ w'.cell? ⟨B, off, none⟩ = some (.int .i64 v)) (.take 0 (.take 1 (.take 2 (.take 3 (.take 4 (.take 5 (.take 6 (.take 7 (.take 8 (.alt 9 (.alt 10 (.last 11) .none) .none)))))))))) _
        (by simp only [Plan.map, opOf, List.getElem?_toArray, List.getElem?_cons_zero, List.getElem?_cons_succ, Option.getD_some]; rfl) (by kernel_rfl) (by kernel_rfl) (by kernel_rfl) (by decide) (by intro c a d v w; cases d <;> exact fun h => h) ⟨c0, c2, c3⟩ ?_
      have hws : IntKind.i64.wrap 8 = 8 := by decide
      repeat (refine wpPlan.taken (by rfl) (by intro w' hS'; (try dsimp only at hS'); go_split_ands; go_simp; try with_reducible rfl) ?_; simp only [Act.put, List.setIfInBounds_toArray, List.set_cons_zero, List.set_cons_succ])
      refine wpPlan.runs fun K' hK => ?_
      go_simp
      have S1 : ∀ w', Step (Leads (.slice ao L.length cp)) wr w' → w'.cell? ⟨C, 0, none⟩ = some (.slice ao L.length cp) ∧ w'.cell? ⟨a.heap.size, 0, none⟩ = some (.pointer (some ⟨B, off, none⟩)) ∧ w'.cell? ⟨B, off, none⟩ = some (.int .i64 v) := fun w' h' =>
        ⟨(h'.cell (p := ⟨C, 0, none⟩) (blk_lt HU.out) (HF.out.row.ne HU.out (by decide))).trans c0, (h'.cell (p := ⟨a.heap.size, 0, none⟩) (blk_lt hb.out) (HF.out.row.ne hb.out (by decide))).trans c2, (h'.cell (p := ⟨B, off, none⟩) (blk_lt he.out.one) (HF.out.row.ne he.out.one (by decide))).trans c3⟩
      refine hK.out _ _ (S1 _ (AL.out.none)) ?_
      clear hK K'
      refine wpPlan.runs fun K' hK => ?_
      refine step_append_row (m := 1) T29 (by rfl) (.tmp 11) (.tmp 20) (by rfl) (by rfl) (HF.out.still AL.out).row (by rfl) (Src.ofBlock T29 (m := 1) (c := 1) OB.out (by rfl) (by simp [Value.oneCell'])) (by simp [maxLen]; omega) (by simp; omega) ?_
      intro v2 w2 hr2 hs2 hl2
      obtain ⟨vo, vc, rfl, -, -⟩ := hr2.form
      refine hK.out _ _ (S1 _ ((AL.out.none).then_ hs2)) ?_
      clear hK K'
      have M := Lib.hid (he.out.more (more := [IntKind.u8.wrap (v / 256)]) HU.out HF.out AL.out hr2 hs2 (fun k hk => (hl2 k hk).imp id fun h => h))
      have bx : (w2.setCell ⟨C, 0, none⟩ (.slice vo (L.length + 1) vc)).heap[a.heap.size]? = some (.cells #[.pointer (some ⟨B, off, none⟩), .int .i64 4] 46 (0, 0)) := M.out.2.blk hb.out (Other.not hb.out (by simp))
      have BX := Lib.hid bx
      have ee : L ++ [IntKind.u8.wrap (v / 256)] = l ++ (bytesOf v 4).take 3 := by
        rw [← HL.out, IntKind.wrap_u8]
        simp [bytesOf, four]
      have EE := Lib.hid ee
      clear ee
      have bC := ((AL.out.none).then_ hs2).blk HU.out (HF.out.row.ne HU.out (by decide))
      have cw := blk_cell bC 0
      have fz := blk_frozen bC 0
      simp only [List.getElem?_toArray, List.getElem?_cons_zero] at cw
      have OT := Lib.hid (Other.trans hs.out M.out.2)
      clear bx bC hb hs HU HF AL OB S1 hr2 hs2 hl2 c0 c2 c3
      refine wpPlan.ends fun K' hK => ?_
      go_simp
      refine hK.out _ _ ?_
      clear hK K'
      go_wp2_with fail
      go_roundw
      case rel => exact ⟨3, by omega, by first | rfl | simp, Lib.hid (by rw [← EE.out]; exact M.out.1), BX, OT⟩
      case measure => simp [intOf]
    · obtain ⟨L, hL⟩ : ∃ L, l ++ (bytesOf v 4).take 3 = L := ⟨_, rfl⟩
      rw [hL] at he
      have hLl : L.length ≤ 110 := by rw [← hL]; simp [bytesOf, four]; omega
      have HL := Lib.hid hL
      clear hL
      obtain ⟨u, hu, hf⟩ := he.out.cap
      have c0 := blk_cell hu 0
      have c2 := blk_cell hb.out 0
      have c3 := blk_cell he.out.one off
      rw [HV.out] at c3
      simp only [List.getElem?_toArray, List.getElem?_cons_zero] at c0 c2
      obtain ⟨ao, cp, rfl⟩ := hf.form
      have ob : (wr.alloc (.cells #[.int .u8 (IntKind.u8.wrap v)] 5)).drew.heap[wr.heap.size]? = some (.cells #[.int .u8 (IntKind.u8.wrap v)] 5 (0, 0)) := heap_alloc_new wr (.cells #[.int .u8 (IntKind.u8.wrap v)] 5)
      have al := ((Step.refl None wr).alloc (.cells #[.int .u8 (IntKind.u8.wrap v)] 5)).drew
      have HF := Lib.hid hf
      have HU := Lib.hid hu
      have OB := Lib.hid ob
      have AL := Lib.hid al
      clear hf hu ob al
      go_wp2_with fail
      refine wp_region_plan (fun w' => w'.cell? ⟨C, 0, none⟩ = some (.slice ao L.length cp) ∧ w'.cell? ⟨a.heap.size, 0, none⟩ = some (.pointer (some ⟨B, off, none⟩)) ∧ w'.cell? ⟨B, off, none⟩ = some (.int .i64 v)) (.take 0 (.take 1 (.take 2 (.take 3 (.take 4 (.take 5 (.take 6 (.take 7 (.take 8 (.alt 9 (.alt 10 (.last 11) .none) .none)))))))))) _
        (by simp only [Plan.map, opOf, List.getElem?_toArray, List.getElem?_cons_zero, List.getElem?_cons_succ, Option.getD_some]; rfl) (by kernel_rfl) (by kernel_rfl) (by kernel_rfl) (by decide) (by intro c a d v w; cases d <;> exact fun h => h) ⟨c0, c2, c3⟩ ?_
      have hws : IntKind.i64.wrap 0 = 0 := by decide
      repeat (refine wpPlan.taken (by rfl) (by intro w' hS'; (try dsimp only at hS'); go_split_ands; go_simp; try with_reducible rfl) ?_; simp only [Act.put, List.setIfInBounds_toArray, List.set_cons_zero, List.set_cons_succ])
      refine wpPlan.runs fun K' hK => ?_
      go_simp
      have S1 : ∀ w', Step (Leads (.slice ao L.length cp)) wr w' → w'.cell? ⟨C, 0, none⟩ = some (.slice ao L.length cp) ∧ w'.cell? ⟨a.heap.size, 0, none⟩ = some (.pointer (some ⟨B, off, none⟩)) ∧ w'.cell? ⟨B, off, none⟩ = some (.int .i64 v) := fun w' h' =>
        ⟨(h'.cell (p := ⟨C, 0, none⟩) (blk_lt HU.out) (HF.out.row.ne HU.out (by decide))).trans c0, (h'.cell (p := ⟨a.heap.size, 0, none⟩) (blk_lt hb.out) (HF.out.row.ne hb.out (by decide))).trans c2, (h'.cell (p := ⟨B, off, none⟩) (blk_lt he.out.one) (HF.out.row.ne he.out.one (by decide))).trans c3⟩
      refine hK.out _ _ (S1 _ (AL.out.none)) ?_
      clear hK K'
      refine wpPlan.runs fun K' hK => ?_
      refine step_append_row (m := 1) T29 (by rfl) (.tmp 11) (.tmp 20) (by rfl) (by rfl) (HF.out.still AL.out).row (by rfl) (Src.ofBlock T29 (m := 1) (c := 1) OB.out (by rfl) (by simp [Value.oneCell'])) (by simp [maxLen]; omega) (by simp; omega) ?_
      intro v2 w2 hr2 hs2 hl2
      obtain ⟨vo, vc, rfl, -, -⟩ := hr2.form
      refine hK.out _ _ (S1 _ ((AL.out.none).then_ hs2)) ?_
      clear hK K'
      have M := Lib.hid (he.out.more (more := [IntKind.u8.wrap v]) HU.out HF.out AL.out hr2 hs2 (fun k hk => (hl2 k hk).imp id fun h => h))
      have bx : (w2.setCell ⟨C, 0, none⟩ (.slice vo (L.length + 1) vc)).heap[a.heap.size]? = some (.cells #[.pointer (some ⟨B, off, none⟩), .int .i64 4] 46 (0, 0)) := M.out.2.blk hb.out (Other.not hb.out (by simp))
      have BX := Lib.hid bx
      have ee : L ++ [IntKind.u8.wrap v] = l ++ (bytesOf v 4).take 4 := by
        rw [← HL.out, IntKind.wrap_u8]
        simp [bytesOf, four]
      have EE := Lib.hid ee
      clear ee
      have bC := ((AL.out.none).then_ hs2).blk HU.out (HF.out.row.ne HU.out (by decide))
      have cw := blk_cell bC 0
      have fz := blk_frozen bC 0
      simp only [List.getElem?_toArray, List.getElem?_cons_zero] at cw
      have OT := Lib.hid (Other.trans hs.out M.out.2)
      clear bx bC hb hs HU HF AL OB S1 hr2 hs2 hl2 c0 c2 c3
      refine wpPlan.ends fun K' hK => ?_
      go_simp
      refine hK.out _ _ ?_
      clear hK K'
      go_wp2_with fail
      go_roundw
      case rel => exact ⟨4, by omega, by first | rfl | simp, Lib.hid (by rw [← EE.out]; exact M.out.1), BX, OT⟩
      case measure => simp [intOf]
    · go_wp2_with fail
      go_end0
      exact ⟨rfl, by have := he.out; simpa [bytesOf, two, four] using this, hs.out⟩
end Go.Proofs.Ytfpdfenepelcdaa
