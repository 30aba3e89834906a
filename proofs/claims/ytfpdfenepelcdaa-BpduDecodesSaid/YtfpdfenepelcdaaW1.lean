/- Bridges' names, numbers in bytes: the document's. -/
import Derived.Test.YtfpdfenepelcdaaRows
import Derived.Test.YtfpdfenepelcdaaTyp
import Derived.Test.YtfpdfenepelcdaaPlan
import Derived.Test.YtfpdfenepelcdaaLexb
import Derived.Deep.OwnRows
import Derived.Deep.MidRow
namespace Go.Proofs.Ytfpdfenepelcdaa
open Go.RowKit Go.Gm

def two (n : Int) : List Int := [n / 256 % 256, n % 256]
def four (n : Int) : List Int := [n / 65536 / 256 % 256, n / 65536 % 256, n / 256 % 256, n % 256]
theorem T29 : SliceT Try.prog 29 5 1 1 := SliceT.mk' Try.underlying29 (z := .int .u8 0) (by kernel_rfl) rfl (by decide)

/-- A bridge's name. -/
structure Idn where
  p : Int
  m0 : Int
  m1 : Int
  m2 : Int
  m3 : Int
  m4 : Int
  m5 : Int
def Idn.mac (x : Idn) : List Int := [x.m0, x.m1, x.m2, x.m3, x.m4, x.m5]
def Idn.cells (x : Idn) : Array Value := #[.int .i64 x.p, .int .u8 x.m0, .int .u8 x.m1, .int .u8 x.m2, .int .u8 x.m3, .int .u8 x.m4, .int .u8 x.m5]

theorem info5 : (Try.prog.info? 5).map (fun i => (i.zero, i.size, i.bytes)) = some (some (.int .u8 0), 1, 1) := by kernel_rfl

theorem made2 : madeCells #[.int .u8 0] 2 = #[.int .u8 0, .int .u8 0] := by kernel_rfl
theorem made4 : madeCells #[.int .u8 0] 4 = #[.int .u8 0, .int .u8 0, .int .u8 0, .int .u8 0] := by kernel_rfl
theorem make_two (w : World) : (Instr.makeSlice 29 (.int .i64 2) (.int .i64 2)).run Try.prog w = .ok (.slice (some ⟨w.heap.size, 0, none⟩) 2 2) (w.alloc (.cells #[.int .u8 0, .int .u8 0] 5)) :=
  by simpa [made2] using run_make_row' (P := Try.prog) 29 5 (.int .u8 0) 1 Try.underlying29 info5 rfl .i64 .i64 2 (by decide) (by decide) w
theorem make_four (w : World) : (Instr.makeSlice 29 (.int .i64 4) (.int .i64 4)).run Try.prog w = .ok (.slice (some ⟨w.heap.size, 0, none⟩) 4 4) (w.alloc (.cells #[.int .u8 0, .int .u8 0, .int .u8 0, .int .u8 0] 5)) :=
  by simpa [made4] using run_make_row' (P := Try.prog) 29 5 (.int .u8 0) 1 Try.underlying29 info5 rfl .i64 .i64 4 (by decide) (by decide) w

theorem row2 (n : Int) (w : World) : Row (w.alloc (.cells #[.int .u8 (n / 256 % 256), .int .u8 (n % 256)] 5)) 5 1 (.slice (some ⟨w.heap.size, 0, none⟩) 2 2) (two n).length ((two n).map (.int .u8)) :=
  Row.ofBlock (cur := #[.int .u8 (n / 256 % 256), .int .u8 (n % 256)]) (heap_alloc_new _ _) (Nat.le_refl _) (by simp [maxLen]) (by simp)
theorem row4 (n : Int) (w : World) : Row (w.alloc (.cells #[.int .u8 (n / 256 / 256 / 256 % 256), .int .u8 (n / 256 / 256 % 256), .int .u8 (n / 256 % 256), .int .u8 (n % 256)] 5)) 5 1 (.slice (some ⟨w.heap.size, 0, none⟩) 4 4) (four n).length ((four n).map (.int .u8)) := by
  have h1 : n / 65536 / 256 % 256 = n / 256 / 256 / 256 % 256 := by omega
  have h2 : n / 65536 % 256 = n / 256 / 256 % 256 := by omega
  unfold four
  rw [h1, h2]
  exact Row.ofBlock (cur := #[.int .u8 (n / 256 / 256 / 256 % 256), .int .u8 (n / 256 / 256 % 256), .int .u8 (n / 256 % 256), .int .u8 (n % 256)]) (heap_alloc_new _ _) (Nat.le_refl _) (by simp [maxLen]) (by simp)

theorem number_two (n : Int) (w : World) (h0 : 0 ≤ n) (h9 : n < 4294967296) :
    Calls Try.prog 23 #[.int .i64 n, .int .i64 2] w fun e w' => ∃ u, e = .returned u ∧ Buf 5 w' w.heap.size u (two n) ∧ Step None w w' := by
  have hm := make_two
  have a0 : 0 ≤ n := by omega
  have d0 : Int.tdiv (n) 256 = n / 256 := Int.tdiv_eq_ediv_of_nonneg a0
  have r0 : Int.tmod (n) 256 = n % 256 := Int.tmod_eq_emod_of_nonneg a0
  have w0 : wrap64 (n / 256) = n / 256 := IntWalk.wrap64_in _ ⟨by omega, by omega⟩
  have a1 : 0 ≤ n / 256 := by omega
  have d1 : Int.tdiv (n / 256) 256 = n / 256 / 256 := Int.tdiv_eq_ediv_of_nonneg a1
  have r1 : Int.tmod (n / 256) 256 = n / 256 % 256 := Int.tmod_eq_emod_of_nonneg a1
  have w1 : wrap64 (n / 256 / 256) = n / 256 / 256 := IntWalk.wrap64_in _ ⟨by omega, by omega⟩
  go_enter Try.func23, Try.ntmps23
  go_wp2_with fail
  go_loopw [0, 6] (fun m i wr => (m = .int .i64 (n) ∧ i = .int .i64 (1) ∧ wr = w.alloc (.cells #[.int .u8 0, .int .u8 0] 5)) ∨ (m = .int .i64 (n / 256) ∧ i = .int .i64 (0) ∧ wr = w.alloc (.cells #[.int .u8 0, .int .u8 (n % 256)] 5)) ∨ (m = .int .i64 (n / 256 / 256) ∧ i = .int .i64 (-1) ∧ wr = w.alloc (.cells #[.int .u8 (n / 256 % 256), .int .u8 (n % 256)] 5))) (fun _ i _ => (intOf i + 1).toNat)
  case atStart => exact .inl ⟨rfl, rfl, rfl⟩
  case round =>
    rcases hrel with ⟨rfl, rfl, rfl⟩ | ⟨rfl, rfl, rfl⟩ | ⟨rfl, rfl, rfl⟩
    · go_wp2_with fail
      go_roundw
      case rel => exact .inr (.inl ⟨rfl, rfl, by trivial⟩)
      case measure => simp [intOf]
    · go_wp2_with fail
      go_roundw
      case rel => exact .inr (.inr (⟨rfl, rfl, by trivial⟩))
      case measure => simp [intOf]
    · go_wp2_with fail
      go_ret
      exact ⟨_, rfl, ⟨row2 n w, fun k hk => by simp [Leads, Value.ownBlock] at hk; omega⟩, (Step.refl _ _).alloc _⟩

theorem number_four (n : Int) (w : World) (h0 : 0 ≤ n) (h9 : n < 4294967296) :
    Calls Try.prog 23 #[.int .i64 n, .int .i64 4] w fun e w' => ∃ u, e = .returned u ∧ Buf 5 w' w.heap.size u (four n) ∧ Step None w w' := by
  have hm := make_four
  have a0 : 0 ≤ n := by omega
  have d0 : Int.tdiv (n) 256 = n / 256 := Int.tdiv_eq_ediv_of_nonneg a0
  have r0 : Int.tmod (n) 256 = n % 256 := Int.tmod_eq_emod_of_nonneg a0
  have w0 : wrap64 (n / 256) = n / 256 := IntWalk.wrap64_in _ ⟨by omega, by omega⟩
  have a1 : 0 ≤ n / 256 := by omega
  have d1 : Int.tdiv (n / 256) 256 = n / 256 / 256 := Int.tdiv_eq_ediv_of_nonneg a1
  have r1 : Int.tmod (n / 256) 256 = n / 256 % 256 := Int.tmod_eq_emod_of_nonneg a1
  have w1 : wrap64 (n / 256 / 256) = n / 256 / 256 := IntWalk.wrap64_in _ ⟨by omega, by omega⟩
  have a2 : 0 ≤ n / 256 / 256 := by omega
  have d2 : Int.tdiv (n / 256 / 256) 256 = n / 256 / 256 / 256 := Int.tdiv_eq_ediv_of_nonneg a2
  have r2 : Int.tmod (n / 256 / 256) 256 = n / 256 / 256 % 256 := Int.tmod_eq_emod_of_nonneg a2
  have w2 : wrap64 (n / 256 / 256 / 256) = n / 256 / 256 / 256 := IntWalk.wrap64_in _ ⟨by omega, by omega⟩
  have a3 : 0 ≤ n / 256 / 256 / 256 := by omega
  have d3 : Int.tdiv (n / 256 / 256 / 256) 256 = n / 256 / 256 / 256 / 256 := Int.tdiv_eq_ediv_of_nonneg a3
  have r3 : Int.tmod (n / 256 / 256 / 256) 256 = n / 256 / 256 / 256 % 256 := Int.tmod_eq_emod_of_nonneg a3
  have w3 : wrap64 (n / 256 / 256 / 256 / 256) = n / 256 / 256 / 256 / 256 := IntWalk.wrap64_in _ ⟨by omega, by omega⟩
  go_enter Try.func23, Try.ntmps23
  go_wp2_with fail
  go_loopw [0, 6] (fun m i wr => (m = .int .i64 (n) ∧ i = .int .i64 (3) ∧ wr = w.alloc (.cells #[.int .u8 0, .int .u8 0, .int .u8 0, .int .u8 0] 5)) ∨ (m = .int .i64 (n / 256) ∧ i = .int .i64 (2) ∧ wr = w.alloc (.cells #[.int .u8 0, .int .u8 0, .int .u8 0, .int .u8 (n % 256)] 5)) ∨ (m = .int .i64 (n / 256 / 256) ∧ i = .int .i64 (1) ∧ wr = w.alloc (.cells #[.int .u8 0, .int .u8 0, .int .u8 (n / 256 % 256), .int .u8 (n % 256)] 5)) ∨ (m = .int .i64 (n / 256 / 256 / 256) ∧ i = .int .i64 (0) ∧ wr = w.alloc (.cells #[.int .u8 0, .int .u8 (n / 256 / 256 % 256), .int .u8 (n / 256 % 256), .int .u8 (n % 256)] 5)) ∨ (m = .int .i64 (n / 256 / 256 / 256 / 256) ∧ i = .int .i64 (-1) ∧ wr = w.alloc (.cells #[.int .u8 (n / 256 / 256 / 256 % 256), .int .u8 (n / 256 / 256 % 256), .int .u8 (n / 256 % 256), .int .u8 (n % 256)] 5))) (fun _ i _ => (intOf i + 1).toNat)
  case atStart => exact .inl ⟨rfl, rfl, rfl⟩
  case round =>
    rcases hrel with ⟨rfl, rfl, rfl⟩ | ⟨rfl, rfl, rfl⟩ | ⟨rfl, rfl, rfl⟩ | ⟨rfl, rfl, rfl⟩ | ⟨rfl, rfl, rfl⟩
    · go_wp2_with fail
      go_roundw
      case rel => exact .inr (.inl ⟨rfl, rfl, by trivial⟩)
      case measure => simp [intOf]
    · go_wp2_with fail
      go_roundw
      case rel => exact .inr (.inr (.inl ⟨rfl, rfl, by trivial⟩))
      case measure => simp [intOf]
    · go_wp2_with fail
      go_roundw
      case rel => exact .inr (.inr (.inr (.inl ⟨rfl, rfl, by trivial⟩)))
      case measure => simp [intOf]
    · go_wp2_with fail
      go_roundw
      case rel => exact .inr (.inr (.inr (.inr (⟨rfl, rfl, by trivial⟩))))
      case measure => simp [intOf]
    · go_wp2_with fail
      go_ret
      exact ⟨_, rfl, ⟨row4 n w, fun k hk => by simp [Leads, Value.ownBlock] at hk; omega⟩, (Step.refl _ _).alloc _⟩

/-- A name in bytes. -/
def Idn.bytes (x : Idn) : List Int := two x.p ++ x.mac

set_option linter.unusedSimpArgs false in
set_option maxHeartbeats 2000000 in
theorem id_any (x : Idn) (w : World) (h0 : 0 ≤ x.p) (h9 : x.p < 4294967296) :
    Calls Try.prog 22 #[.agg x.cells] w fun e w' => ∃ u, e = .returned u ∧ Buf 5 w' w.heap.size u x.bytes ∧ Step None w w' := by
  have p1 := heap_alloc_new w (.cells x.cells 25)
  have S1 := Lib.hid ((Step.refl None w).alloc (.cells x.cells 25))
  have P : Hid (∀ w', Step None (w.alloc (.cells x.cells 25)) w' → w'.heap[w.heap.size]? = some (.cells x.cells 25 (0, 0))) := Lib.hid fun w' h' => h'.blk p1 (fun s => s.elim)
  have N := Lib.hid (number_two x.p (w.alloc (.cells x.cells 25)) h0 h9)
  clear p1 h0 h9
  unfold Idn.cells at *
  go_enter Try.func22, Try.ntmps22
  go_wp2_with fail
  refine N.out.mono ?_
  rintro e w2 ⟨u2, rfl, f2, s2⟩
  have F2 : Hid (Buf 5 w2 w.heap.size u2 (two x.p) ∧ Step None w w2) := Lib.hid ⟨⟨f2.row, fun k hk => by have := f2.base k hk; simp at this; omega⟩, S1.out.then_ s2⟩
  have P2 := Lib.hid (P.out _ s2)
  clear f2 s2 N P
  go_wp2_with fail
  go_loopw [3, 4] (fun u i wr => ((i = .int .i64 0 ∧ Hid (Buf 5 wr w.heap.size u (two x.p) ∧ Step None w wr ∧ wr.heap[w.heap.size]? = some (.cells #[.int .i64 x.p, .int .u8 x.m0, .int .u8 x.m1, .int .u8 x.m2, .int .u8 x.m3, .int .u8 x.m4, .int .u8 x.m5] 25 (0, 0)))) ∨ (i = .int .i64 1 ∧ Hid (Buf 5 wr w.heap.size u (two x.p ++ [x.m0]) ∧ Step None w wr ∧ wr.heap[w.heap.size]? = some (.cells #[.int .i64 x.p, .int .u8 x.m0, .int .u8 x.m1, .int .u8 x.m2, .int .u8 x.m3, .int .u8 x.m4, .int .u8 x.m5] 25 (0, 0)))) ∨ (i = .int .i64 2 ∧ Hid (Buf 5 wr w.heap.size u (two x.p ++ [x.m0] ++ [x.m1]) ∧ Step None w wr ∧ wr.heap[w.heap.size]? = some (.cells #[.int .i64 x.p, .int .u8 x.m0, .int .u8 x.m1, .int .u8 x.m2, .int .u8 x.m3, .int .u8 x.m4, .int .u8 x.m5] 25 (0, 0)))) ∨ (i = .int .i64 3 ∧ Hid (Buf 5 wr w.heap.size u (two x.p ++ [x.m0] ++ [x.m1] ++ [x.m2]) ∧ Step None w wr ∧ wr.heap[w.heap.size]? = some (.cells #[.int .i64 x.p, .int .u8 x.m0, .int .u8 x.m1, .int .u8 x.m2, .int .u8 x.m3, .int .u8 x.m4, .int .u8 x.m5] 25 (0, 0)))) ∨ (i = .int .i64 4 ∧ Hid (Buf 5 wr w.heap.size u (two x.p ++ [x.m0] ++ [x.m1] ++ [x.m2] ++ [x.m3]) ∧ Step None w wr ∧ wr.heap[w.heap.size]? = some (.cells #[.int .i64 x.p, .int .u8 x.m0, .int .u8 x.m1, .int .u8 x.m2, .int .u8 x.m3, .int .u8 x.m4, .int .u8 x.m5] 25 (0, 0)))) ∨ (i = .int .i64 5 ∧ Hid (Buf 5 wr w.heap.size u (two x.p ++ [x.m0] ++ [x.m1] ++ [x.m2] ++ [x.m3] ++ [x.m4]) ∧ Step None w wr ∧ wr.heap[w.heap.size]? = some (.cells #[.int .i64 x.p, .int .u8 x.m0, .int .u8 x.m1, .int .u8 x.m2, .int .u8 x.m3, .int .u8 x.m4, .int .u8 x.m5] 25 (0, 0)))) ∨ (i = .int .i64 6 ∧ Hid (Buf 5 wr w.heap.size u (two x.p ++ [x.m0] ++ [x.m1] ++ [x.m2] ++ [x.m3] ++ [x.m4] ++ [x.m5]) ∧ Step None w wr ∧ wr.heap[w.heap.size]? = some (.cells #[.int .i64 x.p, .int .u8 x.m0, .int .u8 x.m1, .int .u8 x.m2, .int .u8 x.m3, .int .u8 x.m4, .int .u8 x.m5] 25 (0, 0)))))) (fun _ i _ => 6 - (intOf i).toNat)
  case atStart => exact .inl ⟨rfl, Lib.hid ⟨F2.out.1, F2.out.2, P2.out⟩⟩
  case round =>
    rcases hrel with ⟨rfl, hE⟩ | ⟨rfl, hE⟩ | ⟨rfl, hE⟩ | ⟨rfl, hE⟩ | ⟨rfl, hE⟩ | ⟨rfl, hE⟩ | ⟨rfl, hE⟩
    · have c := blk_cell hE.out.2.2 1
      simp only [List.getElem?_toArray, List.getElem?_cons_zero, List.getElem?_cons_succ] at c
      go_wp2_with (first | (at_builtin; refine wpList_append_row T29 rfl (.tmp 12) (.tmp 17) rfl rfl (hE.out.1.row.alloc _) rfl (Src.ofBlock T29 (c := 1) (heap_alloc_new wr (.cells #[.int .u8 x.m0] 5)) (by rfl) (by simp [Value.oneCell'])) ?ha ?hb ?_))
      case ha => simp [maxLen, two]
      case hb => simp [two]
      intro v3 w3 r3 t3 g3
      have hG := hE.out.1.grew (more := [x.m0]) hE.out.2.1.size ((Step.refl None wr).alloc (.cells #[.int .u8 x.m0] 5)) r3 t3 (by simpa using g3)
      have hE2 := Lib.hid (And.intro hG.buf (And.intro (hE.out.2.1.trans hG.step fun i hi hk => by have := hE.out.1.base i hk; omega) (hG.step.blk hE.out.2.2 fun hk => hE.out.1.row.ne hE.out.2.2 (by decide) hk)))
      clear r3 t3 g3 hG c
      go_wp2_with fail
      go_roundw
      case rel => exact .inr (.inl ⟨rfl, hE2⟩)
      case measure => simp [intOf]
    · have c := blk_cell hE.out.2.2 2
      simp only [List.getElem?_toArray, List.getElem?_cons_zero, List.getElem?_cons_succ] at c
      go_wp2_with (first | (at_builtin; refine wpList_append_row T29 rfl (.tmp 12) (.tmp 17) rfl rfl (hE.out.1.row.alloc _) rfl (Src.ofBlock T29 (c := 1) (heap_alloc_new wr (.cells #[.int .u8 x.m1] 5)) (by rfl) (by simp [Value.oneCell'])) ?ha ?hb ?_))
      case ha => simp [maxLen, two]
      case hb => simp [two]
      intro v3 w3 r3 t3 g3
      have hG := hE.out.1.grew (more := [x.m1]) hE.out.2.1.size ((Step.refl None wr).alloc (.cells #[.int .u8 x.m1] 5)) r3 t3 (by simpa using g3)
      have hE2 := Lib.hid (And.intro hG.buf (And.intro (hE.out.2.1.trans hG.step fun i hi hk => by have := hE.out.1.base i hk; omega) (hG.step.blk hE.out.2.2 fun hk => hE.out.1.row.ne hE.out.2.2 (by decide) hk)))
      clear r3 t3 g3 hG c
      go_wp2_with fail
      go_roundw
      case rel => exact .inr (.inr (.inl ⟨rfl, hE2⟩))
      case measure => simp [intOf]
    · have c := blk_cell hE.out.2.2 3
      simp only [List.getElem?_toArray, List.getElem?_cons_zero, List.getElem?_cons_succ] at c
      go_wp2_with (first | (at_builtin; refine wpList_append_row T29 rfl (.tmp 12) (.tmp 17) rfl rfl (hE.out.1.row.alloc _) rfl (Src.ofBlock T29 (c := 1) (heap_alloc_new wr (.cells #[.int .u8 x.m2] 5)) (by rfl) (by simp [Value.oneCell'])) ?ha ?hb ?_))
      case ha => simp [maxLen, two]
      case hb => simp [two]
      intro v3 w3 r3 t3 g3
      have hG := hE.out.1.grew (more := [x.m2]) hE.out.2.1.size ((Step.refl None wr).alloc (.cells #[.int .u8 x.m2] 5)) r3 t3 (by simpa using g3)
      have hE2 := Lib.hid (And.intro hG.buf (And.intro (hE.out.2.1.trans hG.step fun i hi hk => by have := hE.out.1.base i hk; omega) (hG.step.blk hE.out.2.2 fun hk => hE.out.1.row.ne hE.out.2.2 (by decide) hk)))
      clear r3 t3 g3 hG c
      go_wp2_with fail
      go_roundw
      case rel => exact .inr (.inr (.inr (.inl ⟨rfl, hE2⟩)))
      case measure => simp [intOf]
    · have c := blk_cell hE.out.2.2 4
      simp only [List.getElem?_toArray, List.getElem?_cons_zero, List.getElem?_cons_succ] at c
      go_wp2_with (first | (at_builtin; refine wpList_append_row T29 rfl (.tmp 12) (.tmp 17) rfl rfl (hE.out.1.row.alloc _) rfl (Src.ofBlock T29 (c := 1) (heap_alloc_new wr (.cells #[.int .u8 x.m3] 5)) (by rfl) (by simp [Value.oneCell'])) ?ha ?hb ?_))
      case ha => simp [maxLen, two]
      case hb => simp [two]
      intro v3 w3 r3 t3 g3
      have hG := hE.out.1.grew (more := [x.m3]) hE.out.2.1.size ((Step.refl None wr).alloc (.cells #[.int .u8 x.m3] 5)) r3 t3 (by simpa using g3)
      have hE2 := Lib.hid (And.intro hG.buf (And.intro (hE.out.2.1.trans hG.step fun i hi hk => by have := hE.out.1.base i hk; omega) (hG.step.blk hE.out.2.2 fun hk => hE.out.1.row.ne hE.out.2.2 (by decide) hk)))
      clear r3 t3 g3 hG c
      go_wp2_with fail
      go_roundw
      case rel => exact .inr (.inr (.inr (.inr (.inl ⟨rfl, hE2⟩))))
      case measure => simp [intOf]
    · have c := blk_cell hE.out.2.2 5
      simp only [List.getElem?_toArray, List.getElem?_cons_zero, List.getElem?_cons_succ] at c
      go_wp2_with (first | (at_builtin; refine wpList_append_row T29 rfl (.tmp 12) (.tmp 17) rfl rfl (hE.out.1.row.alloc _) rfl (Src.ofBlock T29 (c := 1) (heap_alloc_new wr (.cells #[.int .u8 x.m4] 5)) (by rfl) (by simp [Value.oneCell'])) ?ha ?hb ?_))
      case ha => simp [maxLen, two]
      case hb => simp [two]
      intro v3 w3 r3 t3 g3
      have hG := hE.out.1.grew (more := [x.m4]) hE.out.2.1.size ((Step.refl None wr).alloc (.cells #[.int .u8 x.m4] 5)) r3 t3 (by simpa using g3)
      have hE2 := Lib.hid (And.intro hG.buf (And.intro (hE.out.2.1.trans hG.step fun i hi hk => by have := hE.out.1.base i hk; omega) (hG.step.blk hE.out.2.2 fun hk => hE.out.1.row.ne hE.out.2.2 (by decide) hk)))
      clear r3 t3 g3 hG c
      go_wp2_with fail
      go_roundw
      case rel => exact .inr (.inr (.inr (.inr (.inr (.inl ⟨rfl, hE2⟩)))))
      case measure => simp [intOf]
    · have c := blk_cell hE.out.2.2 6
      simp only [List.getElem?_toArray, List.getElem?_cons_zero, List.getElem?_cons_succ] at c
      go_wp2_with (first | (at_builtin; refine wpList_append_row T29 rfl (.tmp 12) (.tmp 17) rfl rfl (hE.out.1.row.alloc _) rfl (Src.ofBlock T29 (c := 1) (heap_alloc_new wr (.cells #[.int .u8 x.m5] 5)) (by rfl) (by simp [Value.oneCell'])) ?ha ?hb ?_))
      case ha => simp [maxLen, two]
      case hb => simp [two]
      intro v3 w3 r3 t3 g3
      have hG := hE.out.1.grew (more := [x.m5]) hE.out.2.1.size ((Step.refl None wr).alloc (.cells #[.int .u8 x.m5] 5)) r3 t3 (by simpa using g3)
      have hE2 := Lib.hid (And.intro hG.buf (And.intro (hE.out.2.1.trans hG.step fun i hi hk => by have := hE.out.1.base i hk; omega) (hG.step.blk hE.out.2.2 fun hk => hE.out.1.row.ne hE.out.2.2 (by decide) hk)))
      clear r3 t3 g3 hG c
      go_wp2_with fail
      go_roundw
      case rel => exact .inr (.inr (.inr (.inr (.inr (.inr (⟨rfl, hE2⟩))))))
      case measure => simp [intOf]
    · go_wp2_with fail
      go_ret
      exact ⟨_, rfl, by simpa [Idn.bytes, Idn.mac, two] using hE.out.1, hE.out.2.1⟩

end Go.Proofs.Ytfpdfenepelcdaa
