/- New; what is told of members. -/
import Derived.Test.YthebgpbofjgcoaaDoorW1
namespace Go.Proofs.YthebgpbofjgcoaaDoor
open Go.RowKit Go.Gm

theorem step_setRow {S : Nat → Prop} {a w : World} (h : Step S a w) {g : Nat} (hg : g < a.heap.size → S g) (cs : Array Value) : Step S a (w.setRow g cs) :=
  ⟨h.os, h.tape, h.output, by rw [setRow_size]; exact h.size, fun k hk hn => (setRow_other w g k cs (fun e => hn (by subst e; exact hg hk))).trans (h.block k hk hn)⟩
theorem T47 : SliceT Tryd.prog 47 35 11 64 := SliceT.mk' Tryd.underlying47 (z := .agg #[.int .i64 0, .int .i64 0, .int .u8 0, .int .u8 0, .int .u8 0, .int .u8 0, .int .u8 0, .int .u8 0, .int .i64 0, .int .i64 0, .slice none 0 0]) (by kernel_rfl) rfl (by decide)
theorem T76 : SliceT Tryd.prog 76 3 1 8 := SliceT.mk' Tryd.underlying76 (z := .int .i64 0) (by kernel_rfl) rfl (by decide)
def lk0 : Lk := ⟨false, 0, false⟩
theorem made_links (n : Nat) : madeCells #[.bool false, .int .i64 0, .bool false] (n * 3) = (flatL (List.replicate n lk0)).toArray := by
  apply Array.ext'
  apply List.ext_getElem?
  intro i
  by_cases hi : i < n * 3
  · have e : i = i / 3 * 3 + i % 3 := by omega
    have h1 := flatL_get (List.replicate n lk0) (i / 3) lk0 (i % 3) (by rw [List.getElem?_replicate, if_pos (by omega)]) (by omega)
    rw [← e] at h1
    rw [h1]
    simp only [madeCells, Array.toList_map, Array.toList_range, List.getElem?_map, List.getElem?_range hi, Option.map_some]
    have : i % 3 < 3 := by omega
    rcases (show i % 3 = 0 ∨ i % 3 = 1 ∨ i % 3 = 2 by omega) with h | h | h <;> simp [h, lk0, Lk.cells]
  · rw [List.getElem?_eq_none (by simp [madeCells]; omega), List.getElem?_eq_none (by rw [flatL_len, List.length_replicate]; omega)]

theorem make (n : Nat) (hn : n ≤ 63) (w : World) : (Instr.makeSlice 62 (.int .i64 (n : Int)) (.int .i64 (n : Int))).run Tryd.prog w = .ok (.slice (some ⟨w.heap.size, 0, none⟩) n n) (w.alloc (.cells (flatL (List.replicate n lk0)).toArray 72)) := by
  obtain ⟨i, h1, h2, h3, h4⟩ := info_parts info
  have hr := run_make (P := Tryd.prog) w 62 72 i _ Tryd.underlying62 h1 h2 .i64 .i64 (n : Int) (n : Int) (by omega) (Int.le_refl _) (by rw [h4]; omega) (by omega)
  simp only [Int.toNat_natCast, h3] at hr
  rw [hr]
  show Result.ok _ (w.alloc (.cells (madeCells #[.bool false, .int .i64 0, .bool false] (n * 3)) 72)) = _
  rw [made_links]
def shk0 (n : Nat) : Shk := ⟨List.replicate n lk0, false, false⟩
theorem new_ok (n : Nat) (h1 : 1 ≤ n) (hn : n ≤ 63) (w : World) : Calls Tryd.prog 9 #[.int .i64 (n : Int)] w fun e w' => ∃ g b, e = .returned (.tuple #[.pointer (some ⟨g, 0, none⟩), .int .i64 0]) ∧ Rep 64 72 w' g b (shk0 n) ∧ w.heap.size ≤ g ∧ w.heap.size ≤ b ∧ Step None w w' := by
  have d1 : decide ((n : Int) < 1) = false := by simp; omega
  have d2 : decide (63 < (n : Int)) = false := by simp; omega
  have mk := make n hn w
  obtain ⟨W, hW⟩ : ∃ W, w.alloc (.cells (flatL (List.replicate n lk0)).toArray 72) = W := ⟨_, rfl⟩
  have p1 := heap_alloc_new w (.cells (flatL (List.replicate n lk0)).toArray 72)
  have s1 := (Step.refl None w).alloc (.cells (flatL (List.replicate n lk0)).toArray 72)
  rw [hW] at mk p1 s1
  have p2 := heap_alloc_new W (.cells #[.slice (some ⟨w.heap.size, 0, none⟩) n n, .bool false, .bool false] 64)
  have s2 := (Step.refl None W).alloc (.cells #[.slice (some ⟨w.heap.size, 0, none⟩) n n, .bool false, .bool false] 64)
  have F : Hid (Rep 64 72 (W.alloc (.cells #[.slice (some ⟨w.heap.size, 0, none⟩) n n, .bool false, .bool false] 64)) W.heap.size w.heap.size (shk0 n) ∧ w.heap.size ≤ W.heap.size ∧ Step None w (W.alloc (.cells #[.slice (some ⟨w.heap.size, 0, none⟩) n n, .bool false, .bool false] 64))) :=
    Lib.hid ⟨⟨by simpa [shk0] using p2, s2.blk p1 (fun s => s.elim)⟩, s1.size, s1.then_ s2⟩
  clear hW p1 s1 p2 s2 hn h1
  go_enter Tryd.func9, Tryd.ntmps9
  go_wp2_with fail
  go_ret2
  exact ⟨_, _, rfl, F.out.1, F.out.2.1, Nat.le_refl _, F.out.2.2⟩
theorem new_bad (n : Int) (hn : ¬ (1 ≤ n ∧ n ≤ 63)) (w : World) : Calls Tryd.prog 9 #[.int .i64 n] w fun e w' => e = .returned (.tuple #[.pointer none, .int .i64 1]) ∧ w = w' := by
  by_cases h : n < 1
  · have d1 : decide (n < 1) = true := by simpa using h
    clear hn h
    go_enter Tryd.func9, Tryd.ntmps9
    go_wp2_with fail
    go_ret2
    exact ⟨rfl, rfl⟩
  · have d1 : decide (n < 1) = false := by simpa using h
    have d2 : decide (63 < n) = true := by simp; omega
    clear hn h
    go_enter Tryd.func9, Tryd.ntmps9
    go_wp2_with fail
    go_ret2
    exact ⟨rfl, rfl⟩

theorem rmake (n : Nat) (hn : n ≤ 63) (w : World) : (Instr.makeSlice 65 (.int .i64 (n : Int)) (.int .i64 (n : Int))).run Tryd.prog w = .ok (.slice (some ⟨w.heap.size, 0, none⟩) n n) (w.alloc (.cells (flatL (List.replicate n lk0)).toArray 74)) := by
  obtain ⟨i, h1, h2, h3, h4⟩ := info_parts rinfo
  have hr := run_make (P := Tryd.prog) w 65 74 i _ Tryd.underlying65 h1 h2 .i64 .i64 (n : Int) (n : Int) (by omega) (Int.le_refl _) (by rw [h4]; omega) (by omega)
  simp only [Int.toNat_natCast, h3] at hr
  rw [hr]
  show Result.ok _ (w.alloc (.cells (madeCells #[.bool false, .int .i64 0, .bool false] (n * 3)) 74)) = _
  rw [made_links]
def rshk0 (n : Nat) : Shk := ⟨List.replicate n lk0, false, false⟩
theorem rnew_ok (n : Nat) (h1 : 1 ≤ n) (hn : n ≤ 63) (w : World) : Calls Tryd.prog 10 #[.int .i64 (n : Int)] w fun e w' => ∃ g b, e = .returned (.tuple #[.pointer (some ⟨g, 0, none⟩), .int .i64 0]) ∧ Rep 67 74 w' g b (rshk0 n) ∧ w.heap.size ≤ g ∧ w.heap.size ≤ b ∧ Step None w w' := by
  have d1 : decide ((n : Int) < 1) = false := by simp; omega
  have d2 : decide (63 < (n : Int)) = false := by simp; omega
  have mk := rmake n hn w
  obtain ⟨W, hW⟩ : ∃ W, w.alloc (.cells (flatL (List.replicate n lk0)).toArray 74) = W := ⟨_, rfl⟩
  have p1 := heap_alloc_new w (.cells (flatL (List.replicate n lk0)).toArray 74)
  have s1 := (Step.refl None w).alloc (.cells (flatL (List.replicate n lk0)).toArray 74)
  rw [hW] at mk p1 s1
  have p2 := heap_alloc_new W (.cells #[.slice (some ⟨w.heap.size, 0, none⟩) n n, .bool false, .bool false] 67)
  have s2 := (Step.refl None W).alloc (.cells #[.slice (some ⟨w.heap.size, 0, none⟩) n n, .bool false, .bool false] 67)
  have F : Hid (Rep 67 74 (W.alloc (.cells #[.slice (some ⟨w.heap.size, 0, none⟩) n n, .bool false, .bool false] 67)) W.heap.size w.heap.size (rshk0 n) ∧ w.heap.size ≤ W.heap.size ∧ Step None w (W.alloc (.cells #[.slice (some ⟨w.heap.size, 0, none⟩) n n, .bool false, .bool false] 67))) :=
    Lib.hid ⟨⟨by simpa [rshk0] using p2, s2.blk p1 (fun s => s.elim)⟩, s1.size, s1.then_ s2⟩
  clear hW p1 s1 p2 s2 hn h1
  go_enter Tryd.func10, Tryd.ntmps10
  go_wp2_with fail
  go_ret2
  exact ⟨_, _, rfl, F.out.1, F.out.2.1, Nat.le_refl _, F.out.2.2⟩
theorem rnew_bad (n : Int) (hn : ¬ (1 ≤ n ∧ n ≤ 63)) (w : World) : Calls Tryd.prog 10 #[.int .i64 n] w fun e w' => e = .returned (.tuple #[.pointer none, .int .i64 1]) ∧ w = w' := by
  by_cases h : n < 1
  · have d1 : decide (n < 1) = true := by simpa using h
    clear hn h
    go_enter Tryd.func10, Tryd.ntmps10
    go_wp2_with fail
    go_ret2
    exact ⟨rfl, rfl⟩
  · have d1 : decide (n < 1) = false := by simpa using h
    have d2 : decide (63 < n) = true := by simp; omega
    clear hn h
    go_enter Tryd.func10, Tryd.ntmps10
    go_wp2_with fail
    go_ret2
    exact ⟨rfl, rfl⟩

/-- What is told, as it lies. -/
def tellC (t : Tell) : Array Value := #[.int .i64 t.kind, .int .i64 0, .int .u8 0, .int .u8 0, .int .u8 0, .int .u8 0, .int .u8 0, .int .u8 0, .int .i64 t.port, .int .i64 t.state, .slice none 0 0]
def flatT : List Tell → List Value
  | [] => []
  | t :: r => (tellC t).toList ++ flatT r
theorem flatT_app : ∀ (l : List Tell) (t : Tell), flatT (l ++ [t]) = flatT l ++ (tellC t).toList
  | [], t => by simp [flatT]
  | x :: r, t => by rw [List.cons_append, flatT, flatT, flatT_app r t, List.append_assoc]
theorem flatT_get : ∀ (l : List Tell) (i : Nat) (h : Tell) (j : Nat) (u : Value), l[i]? = some h → (tellC h)[j]? = some u → (flatT l)[i * 11 + j]? = some u
  | [], i, h, j, u, hi, _ => by simp at hi
  | x :: r, 0, h, j, u, hi, hj => by
    simp only [List.getElem?_cons_zero, Option.some.injEq] at hi
    subst hi
    have hl : j < 11 := (Array.getElem?_eq_some_iff.1 hj).1
    rw [flatT, List.getElem?_append_left (by show 0 * 11 + j < 11; omega), Nat.zero_mul, Nat.zero_add]
    simpa using hj
  | x :: r, i + 1, h, j, u, hi, hj => by
    rw [flatT, List.getElem?_append_right (by show 11 ≤ _; omega)]
    have : (i + 1) * 11 + j - (tellC x).toList.length = i * 11 + j := by show (i + 1) * 11 + j - 11 = _; omega
    rw [this]
    exact flatT_get r i h j u (by simpa using hi) hj
/-- A list of notes, in a row of its own, from block B on. -/
structure Tells (w : World) (B : Nat) (v : Value) (l : List Tell) : Prop where
  row : Row w 35 11 v l.length (flatT l)
  new : ∀ k, Leads v k → B ≤ k
theorem Tells.nil (w : World) (B : Nat) : Tells w B (.slice none 0 0) [] := ⟨Row.nil _ _ _, fun k hk => by simp [Leads, Value.ownBlock] at hk⟩
theorem Tells.step {S : Nat → Prop} {w w' : World} {B : Nat} {v : Value} {l : List Tell} (h : Tells w B v l) (hw : Step S w w') (hn : ∀ k, Leads v k → ¬ S k) : Tells w' B v l := ⟨h.row.step hw hn, h.new⟩
theorem Tells.still {w w' : World} {B : Nat} {v : Value} {l : List Tell} (h : Tells w B v l) (hw : Step None w w') : Tells w' B v l := h.step hw fun _ _ s => s.elim
theorem Tells.notB {ts te : TypeId} {w : World} {B g b : Nat} {s : Shk} {v : Value} {l : List Tell} (h : Tells w B v l) (r : Rep ts te w g b s) (hte : te ≠ 35) : ∀ k, Leads v k → ¬ (k = b) := by
  rintro k hk rfl
  exact h.row.ne r.row hte hk
theorem Tells.mono {w : World} {B C : Nat} {v : Value} {l : List Tell} (h : Tells w B v l) (hb : C ≤ B) : Tells w C v l := ⟨h.row, fun k hk => Nat.le_trans hb (h.new k hk)⟩
/-- One more. -/
theorem Tells.more {w w' : World} {B : Nat} {v v' : Value} {l : List Tell} {t : Tell} (h : Tells w B v l) (hB : B ≤ w.heap.size) (hr : Row w' 35 11 v' (l.length + 1) (flatT l ++ (tellC t).toList)) (hl : ∀ k, Leads v' k → Leads v k ∨ w.heap.size ≤ k) : Tells w' B v' (l ++ [t]) :=
  ⟨by rw [List.length_append, flatT_app]; exact hr, fun k hk => by rcases hl k hk with e | e; exact h.new k e; omega⟩
theorem Tells.one {w : World} {B g : Nat} {t : Tell} (h : w.heap[g]? = some (.cells (tellC t) 35 (0, 0))) (hB : B ≤ g) : Tells w B (.slice (some ⟨g, 0, none⟩) 1 1) [t] := by
  refine ⟨?_, fun k hk => ?_⟩
  · have := Row.ofBlock (e := 35) (sz := 11) (n := 1) (cap := 1) h (Nat.le_refl _) (by simp [maxLen]) (by simp [tellC])
    simpa [flatT, tellC] using this
  · simp [Leads, Value.ownBlock] at hk
    omega

set_option maxHeartbeats 2000000 in
theorem rmember_any (g b : Nat) (s : Shk) (k : Nat) (w : World) (hk : k < s.ls.length) (m : Int) (ho : s.Ok m) (hm : 0 ≤ m) (hm2 : m ≤ 1000000) (h : Rep 67 74 w g b s) :
    Calls Tryd.prog 30 #[.pointer (some ⟨g, 0, none⟩), .int .i64 (k : Int)] w fun e w' => e = .returned (.agg (tellC (s.memb ((k : Int) + 1)).2)) ∧ Rep 67 74 w' g b (s.memb ((k : Int) + 1)).1 ∧ Step (· = b) w w' := by
  have hl := ho.len
  have hw := ho.get hm ((k : Int) + 1)
  have p1 := heap_alloc_new w (.cells #[.int .i64 0, .int .i64 0, .int .u8 0, .int .u8 0, .int .u8 0, .int .u8 0, .int .u8 0, .int .u8 0, .int .i64 0, .int .i64 0, .slice none 0 0] 35)
  have s1 := (Step.refl None w).alloc (.cells #[.int .i64 0, .int .i64 0, .int .u8 0, .int .u8 0, .int .u8 0, .int .u8 0, .int .u8 0, .int .u8 0, .int .i64 0, .int .i64 0, .slice none 0 0] 35)
  obtain ⟨W, hW⟩ : ∃ W, w.alloc (.cells #[.int .i64 0, .int .i64 0, .int .u8 0, .int .u8 0, .int .u8 0, .int .u8 0, .int .u8 0, .int .u8 0, .int .i64 0, .int .i64 0, .slice none 0 0] 35) = W := ⟨_, rfl⟩
  rw [hW] at p1 s1
  have HE := Lib.hid hW
  have P1 := Lib.hid p1
  have S1 := Lib.hid s1
  have R1 := Lib.hid (h.still s1)
  clear hW p1 s1 h ho
  obtain ⟨c0, -, -⟩ := R1.out.cells
  obtain ⟨l0, l1, -⟩ := R1.out.link hk
  have fz := (R1.out.frz (k * 3 + 1)).1
  have w1 : wrap64 ((k : Int) + 1) = (k : Int) + 1 := by unfold wrap64; omega
  have u1 : IntKind.i64.wrap ((k : Int) + 1) = (k : Int) + 1 := by rw [IntKind.wrap_i64]; omega
  have w2 : wrap64 ((s.get ((k : Int) + 1)).owed + 1) = (s.get ((k : Int) + 1)).owed + 1 := by unfold wrap64; omega
  have u2 : IntKind.i64.wrap ((s.get ((k : Int) + 1)).owed + 1) = (s.get ((k : Int) + 1)).owed + 1 := by rw [IntKind.wrap_i64]; omega
  have i1 : (k : Int) < (s.ls.length : Int) := by omega
  have i0 : (0 : Int) ≤ (k : Int) := by omega
  have NB : Hid (w.heap.size ≠ b ∧ w.heap.size ≠ g) := Lib.hid ⟨blk_ne P1.out R1.out.row (by decide), blk_ne P1.out R1.out.st (by decide)⟩
  cases hu : (s.get ((k : Int) + 1)).up
  · have hv : Hid (s.memb ((k : Int) + 1) = (s, ⟨3, (k : Int) + 1, 0⟩)) := Lib.hid (by simp [Shk.memb, hu])
    rw [hv.out]
    rw [hu] at l0
    clear hu hv w2 u2 hw l1 fz
    go_enter Tryd.func30, Tryd.ntmps30
    go_wp2_with (first | rw [HE.out] | (refine wpList_store_row rfl 35 (.tmp 4) (.tmp 29) rfl w.heap.size #[.int .i64 3, .int .i64 0, .int .u8 0, .int .u8 0, .int .u8 0, .int .u8 0, .int .u8 0, .int .u8 0, .int .i64 ((k : Int) + 1), .int .i64 0, .slice none 0 0] rfl rfl 35 _ P1.out (by kernel_rfl) rfl (by simp [Value.oneCell']) ?_))
    (try simp only [Exit.inBlock, Exit.then])
    refine bodyPost_ret (results_cell_row (P := Tryd.prog) (fn := Tryd.f30) rfl _ _ w.heap.size 35 #[.int .i64 3, .int .i64 0, .int .u8 0, .int .u8 0, .int .u8 0, .int .u8 0, .int .u8 0, .int .u8 0, .int .i64 ((k : Int) + 1), .int .i64 0, .slice none 0 0] (0, 0) _ rfl (setRow_heap _ _ _ _ _ _ (by exact P1.out)) Tryd.underlying35 rfl (by kernel_rfl)) rfl ?_
    exact ⟨rfl, R1.out.step (step_setRow (S := (· = w.heap.size)) (Step.refl _ W) (fun _ => rfl) _) (fun e => NB.out.2 e.symm) (fun e => NB.out.1 e.symm), step_setRow (S1.out.none) (fun h => by omega) _⟩
  · have hv : Hid (s.memb ((k : Int) + 1) = (s.put ((k : Int) + 1) { s.get ((k : Int) + 1) with owed := (s.get ((k : Int) + 1)).owed + 1 }, ⟨3, (k : Int) + 1, 1⟩)) := Lib.hid (by simp [Shk.memb, hu])
    rw [hv.out]
    rw [hu] at l0
    have r2 := R1.out.setLink (by decide) hk (j := 1) (by decide) (v := .int .i64 ((s.get ((k : Int) + 1)).owed + 1)) (l := { s.get ((k : Int) + 1) with owed := (s.get ((k : Int) + 1)).owed + 1 }) rfl
    have t2 := (Step.refl (· = b) W).setCell (p := ⟨b, k * 3 + 1, none⟩) (fun _ => rfl) (.int .i64 ((s.get ((k : Int) + 1)).owed + 1))
    obtain ⟨W2, hW2⟩ : ∃ W2, W.setCell ⟨b, k * 3 + 1, none⟩ (.int .i64 ((s.get ((k : Int) + 1)).owed + 1)) = W2 := ⟨_, rfl⟩
    rw [hW2] at r2 t2
    have HE2 := Lib.hid hW2
    have R2 := Lib.hid r2
    have T2 := Lib.hid t2
    have P2 := Lib.hid (t2.blk P1.out NB.out.1)
    clear hu hv r2 t2 hW2
    clear hw
    go_enter Tryd.func30, Tryd.ntmps30
    go_wp2_with (first | rw [HE.out] | rw [HE2.out] | (refine wpList_store_row rfl 35 (.tmp 4) (.tmp 26) rfl w.heap.size #[.int .i64 3, .int .i64 0, .int .u8 0, .int .u8 0, .int .u8 0, .int .u8 0, .int .u8 0, .int .u8 0, .int .i64 ((k : Int) + 1), .int .i64 1, .slice none 0 0] rfl rfl 35 _ P2.out (by kernel_rfl) rfl (by simp [Value.oneCell']) ?_))
    (try simp only [Exit.inBlock, Exit.then])
    refine bodyPost_ret (results_cell_row (P := Tryd.prog) (fn := Tryd.f30) rfl _ _ w.heap.size 35 #[.int .i64 3, .int .i64 0, .int .u8 0, .int .u8 0, .int .u8 0, .int .u8 0, .int .u8 0, .int .u8 0, .int .i64 ((k : Int) + 1), .int .i64 1, .slice none 0 0] (0, 0) _ rfl (setRow_heap _ _ _ _ _ _ (by exact P2.out)) Tryd.underlying35 rfl (by kernel_rfl)) rfl ?_
    exact ⟨rfl, R2.out.step (step_setRow (S := (· = w.heap.size)) (Step.refl _ W2) (fun _ => rfl) _) (fun e => NB.out.2 e.symm) (fun e => NB.out.1 e.symm), step_setRow ((S1.out.none).then_ T2.out) (fun h => by omega) _⟩

end Go.Proofs.YthebgpbofjgcoaaDoor
