/- Lemmas on worlds: what a call leaves of memory, told block by block. Of no program. -/
import Derived.WalkKit
import Derived.Lib.Hide
import Derived.Deep.Draws
import Derived.Deep.QuietTactic
import Derived.BigQuiet
import Derived.Deep.RegionHeld3
import Derived.WalkSpells
import Derived.WalkLawsBesides
import Derived.Deep.AppendSrc
import Derived.Deep.AppendLies
import Derived.KernelRfl
import Derived.Deep.RegionLaw
import Derived.Laws.BytesArg
import Derived.Lib.SlBytesConst
import Derived.Deep.CutBlock
import Derived.Deep.DeepCutAuto
import Derived.Deep.LoopGhost
import Derived.StillTailTactics
namespace Go.Gm
open Go.RowKit

/-- w' is w with new blocks, and with writes to blocks of S alone. -/
structure Step (S : Nat → Prop) (w w' : World) : Prop where
  os : w'.os = w.os
  tape : w'.tape = w.tape
  output : w'.output = w.output
  size : w.heap.size ≤ w'.heap.size
  block : ∀ k, k < w.heap.size → ¬ S k → w'.heap[k]? = w.heap[k]?

def None : Nat → Prop := fun _ => False

namespace Step
variable {S T : Nat → Prop} {a b c w w' : World}

theorem refl (S : Nat → Prop) (w : World) : Step S w w := ⟨rfl, rfl, rfl, Nat.le_refl _, fun _ _ _ => rfl⟩
theorem trans (h : Step S a b) (k : Step T b c) (hT : ∀ i, i < a.heap.size → T i → S i) : Step S a c :=
  ⟨k.os.trans h.os, k.tape.trans h.tape, k.output.trans h.output, Nat.le_trans h.size k.size, fun i hi hs =>
    (k.block i (Nat.lt_of_lt_of_le hi h.size) (fun t => hs (hT i hi t))).trans (h.block i hi hs)⟩
theorem then_ (h : Step S a b) (k : Step S b c) : Step S a c := h.trans k fun _ _ t => t
theorem thenNone (h : Step S a b) (k : Step None b c) : Step S a c := h.trans k fun _ _ t => t.elim
theorem mono (h : Step S a b) (hS : ∀ i, i < a.heap.size → S i → T i) : Step T a b :=
  ⟨h.os, h.tape, h.output, h.size, fun i hi ht => h.block i hi fun s => ht (hS i hi s)⟩
theorem alloc (h : Step S a w) (o : Obj) : Step S a (w.alloc o) :=
  ⟨h.os, h.tape, h.output, Nat.le_trans h.size (by simp), fun i hi hs => (Below.heap_alloc w o i (Nat.lt_of_lt_of_le hi h.size)).trans (h.block i hi hs)⟩
theorem drew (h : Step S a w) : Step S a w.drew := ⟨h.os, h.tape, h.output, h.size, h.block⟩
theorem drewN (h : Step S a w) (n : Nat) : Step S a (w.drewN n) := ⟨h.os, h.tape, h.output, h.size, h.block⟩
theorem setCell (h : Step S a w) {p : Addr} (hp : p.block < a.heap.size → S p.block) (u : Value) : Step S a (w.setCell p u) :=
  ⟨h.os, h.tape, h.output, by simpa [World.setCell] using h.size, fun i hi hs => (Below.heap_setCell w p u i (by
    rintro rfl
    exact hs (hp hi))).trans (h.block i hi hs)⟩
theorem grown (h : Step S a w) {row : Option Nat} (hg : w.grownBy w' row) (hr : ∀ k, row = some k → k < a.heap.size → S k) : Step S a w' :=
  h.trans (T := fun k => row = some k) ⟨hg.os, hg.tape, hg.output, hg.size, fun k hk hn => hg.block k hk (fun e => hn e.symm)⟩ fun i hi t => hr i t hi
theorem ofBelow (h : Below w.heap.size w w') : Step None w w' := ⟨h.os, h.tape, h.output, h.size, fun i hi _ => h.block i hi⟩
theorem below (h : Step S w w') {B : Nat} (hB : B ≤ w.heap.size) (hS : ∀ k, S k → B ≤ k) : Below B w w' :=
  ⟨h.os, h.tape, h.output, h.size, fun i hi => h.block i (Nat.lt_of_lt_of_le hi hB) (fun s => by have := hS i s; omega)⟩
theorem toBelow (h : Step None w w') : Below w.heap.size w w' := h.below (Nat.le_refl _) (fun _ s => s.elim)
theorem cell (h : Step S w w') {p : Addr} (hp : p.block < w.heap.size) (hs : ¬ S p.block) : w'.cell? p = w.cell? p := World.cell?_of_block (h.block p.block hp hs)
theorem frozen (h : Step S w w') {p : Addr} (hp : p.block < w.heap.size) (hs : ¬ S p.block) : w'.frozen? p = w.frozen? p := World.frozen?_of_block (h.block p.block hp hs)
theorem blk (h : Step S w w') {k : Nat} {o : Obj} (ho : w.heap[k]? = some o) (hs : ¬ S k) : w'.heap[k]? = some o :=
  (h.block k (Array.getElem?_eq_some_iff.1 ho).1 hs).trans ho
end Step

theorem blk_lt {w : World} {g : Nat} {o : Obj} (h : w.heap[g]? = some o) : g < w.heap.size := (Array.getElem?_eq_some_iff.1 h).1
theorem blk_cell {w : World} {g : Nat} {t : TypeId} {cs : Array Value} {fr : Nat × Nat} (h : w.heap[g]? = some (.cells cs t fr)) (i : Nat) : w.cell? ⟨g, i, none⟩ = cs[i]? := cell_of_row w g i cs t fr h
theorem blk_frozen {w : World} {g : Nat} {t : TypeId} {cs : Array Value} (h : w.heap[g]? = some (.cells cs t (0, 0))) (i : Nat) : w.frozen? ⟨g, i, none⟩ = false := frozen_of_row w g i cs t h
theorem blk_set {w : World} {g : Nat} {t : TypeId} {cs : Array Value} (h : w.heap[g]? = some (.cells cs t (0, 0))) (i : Nat) (u : Value) :
    (w.setCell ⟨g, i, none⟩ u).heap[g]? = some (.cells (cs.setIfInBounds i u) t (0, 0)) := heap_setCell_same w g i cs t u h
theorem blk_ne {w : World} {g g' : Nat} {t t' : TypeId} {cs cs' : Array Value} {f f' : Nat × Nat} (h : w.heap[g]? = some (.cells cs t f)) (h' : w.heap[g']? = some (.cells cs' t' f')) (ht : t ≠ t') : g ≠ g' := by
  rintro rfl
  rw [h] at h'
  simp only [Option.some.injEq, Obj.cells.injEq] at h'
  exact ht h'.2.1

/-- The block that a slice value leads to. -/
def Leads (v : Value) (k : Nat) : Prop := v.ownBlock = some k

/-- A slice value that is seen: its elements' cells (one cell each) hold xs. -/
def Sees (w : World) (v : Value) (xs : List Value) : Prop :=
  ∃ ao cap, v = .slice ao xs.length cap ∧ xs.length ≤ cap ∧ cap ≤ maxLen ∧ ∀ j u, xs[j]? = some u → ∃ b off, ao = some ⟨b, off, none⟩ ∧ w.cell? ⟨b, off + j, none⟩ = some u

theorem Sees.nil (w : World) : Sees w (.slice none 0 0) [] := ⟨none, 0, rfl, Nat.le_refl _, by simp [maxLen], by simp⟩

theorem Sees.step {w w' : World} {S : Nat → Prop} {v : Value} {xs : List Value} (h : Sees w v xs) (hw : Step S w w') (hn : ∀ k, Leads v k → ¬ S k) : Sees w' v xs := by
  obtain ⟨ao, cap, rfl, h1, h2, h3⟩ := h
  refine ⟨ao, cap, rfl, h1, h2, fun j u hj => ?_⟩
  obtain ⟨b, off, rfl, hc⟩ := h3 j u hj
  refine ⟨b, off, rfl, ?_⟩
  rw [hw.cell (World.block_lt_of_cell? w _ hc) (hn b rfl)]
  exact hc

/-! ### Rows: a slice value that may begin inside its block -/

/-- The slice type t, of elements e of sz cells and so many bytes. -/
structure SliceT (P : Program) (t e : TypeId) (sz bytes : Nat) : Prop where
  ht : P.underlying t = some (.slice e)
  info : ∃ i z, P.info? e = some i ∧ i.zero = some z ∧ i.size = sz ∧ i.bytes = bytes ∧ z.cells.size = sz
  pos : 0 < sz

theorem SliceT.mk' {P : Program} {t e : TypeId} {sz bytes : Nat} (ht : P.underlying t = some (.slice e)) {z : Value}
    (hi : (P.info? e).map (fun i => (i.zero, i.size, i.bytes)) = some (some z, sz, bytes)) (hz : z.cells.size = sz) (hp : 0 < sz) : SliceT P t e sz bytes := by
  obtain ⟨i, h1, h2, h3, h4⟩ := info_parts hi
  exact ⟨ht, ⟨i, z, h1, h2, h3, h4, hz⟩, hp⟩

/-- v is a slice of n elements of type e (sz cells each), whose cells hold xs; it has its room in a block of the type e that is not frozen. -/
def Row (w : World) (e : TypeId) (sz : Nat) (v : Value) (n : Nat) (xs : List Value) : Prop :=
  xs.length = n * sz ∧ ∃ ao cap, v = .slice ao n cap ∧ n ≤ cap ∧ cap ≤ maxLen ∧
    ((ao = none ∧ cap = 0) ∨ ∃ b off cur, ao = some ⟨b, off, none⟩ ∧ w.heap[b]? = some (.cells cur e (0, 0)) ∧ off + cap * sz ≤ cur.size ∧ (cur.toList.drop off).take (n * sz) = xs)

namespace Row
variable {w w' : World} {e : TypeId} {sz n : Nat} {v : Value} {xs : List Value}

theorem nil (w : World) (e : TypeId) (sz : Nat) : Row w e sz (.slice none 0 0) 0 [] := ⟨by simp, none, 0, rfl, Nat.le_refl _, by simp [maxLen], .inl ⟨rfl, rfl⟩⟩
theorem step {S : Nat → Prop} (h : Row w e sz v n xs) (hw : Step S w w') (hn : ∀ k, Leads v k → ¬ S k) : Row w' e sz v n xs := by
  obtain ⟨h1, ao, cap, rfl, h2, h3, h4⟩ := h
  refine ⟨h1, ao, cap, rfl, h2, h3, ?_⟩
  rcases h4 with h4 | ⟨b, off, cur, rfl, hb, h5, h6⟩
  · exact .inl h4
  · exact .inr ⟨b, off, cur, rfl, hw.blk hb (hn b rfl), h5, h6⟩
theorem alloc (h : Row w e sz v n xs) (o : Obj) : Row (w.alloc o) e sz v n xs := h.step ((Step.refl None w).alloc o) fun _ _ s => s.elim
theorem drew (h : Row w e sz v n xs) : Row w.drew e sz v n xs := h
theorem drewN (h : Row w e sz v n xs) (m : Nat) : Row (w.drewN m) e sz v n xs := h
theorem typed (h : Row w e sz v n xs) {k : Nat} (hk : Leads v k) : ∃ cur, w.heap[k]? = some (.cells cur e (0, 0)) := by
  obtain ⟨_, ao, cap, rfl, _, _, h4⟩ := h
  rcases h4 with ⟨rfl, _⟩ | ⟨b, off, cur, rfl, hb, _⟩
  · simp [Leads, Value.ownBlock] at hk
  · simp [Leads, Value.ownBlock] at hk
    subst hk
    exact ⟨cur, hb⟩
theorem lt (h : Row w e sz v n xs) {k : Nat} (hk : Leads v k) : k < w.heap.size := by
  obtain ⟨cur, hc⟩ := h.typed hk
  exact blk_lt hc
theorem ne {g : Nat} {t : TypeId} {cs : Array Value} {fr : Nat × Nat} (h : Row w e sz v n xs) (hg : w.heap[g]? = some (.cells cs t fr)) (ht : t ≠ e) : ¬ Leads v g := fun hk => by
  obtain ⟨cur, hc⟩ := h.typed hk
  exact blk_ne hg hc ht rfl
theorem neRow {e' : TypeId} {sz' n' : Nat} {v' : Value} {xs' : List Value} (h : Row w e sz v n xs) (h' : Row w e' sz' v' n' xs') (ht : e ≠ e') : ∀ k, Leads v k → ¬ Leads v' k := fun k hk hk' => by
  obtain ⟨cur, hc⟩ := h.typed hk
  obtain ⟨cur', hc'⟩ := h'.typed hk'
  exact blk_ne hc hc' ht rfl
theorem len (h : Row w e sz v n xs) : xs.length = n * sz := h.1
theorem form (h : Row w e sz v n xs) : ∃ ao cap, v = .slice ao n cap ∧ n ≤ cap ∧ cap ≤ maxLen := by
  obtain ⟨_, ao, cap, rfl, h2, h3, _⟩ := h
  exact ⟨ao, cap, rfl, h2, h3⟩
theorem max (h : Row w e sz v n xs) : n ≤ maxLen := by
  obtain ⟨_, ao, cap, rfl, h2, h3, _⟩ := h
  omega
/-- The cells, by their addresses. -/
theorem cells (h : Row w e sz v n xs) (hp : 0 < n) : ∃ b off cap, v = .slice (some ⟨b, off, none⟩) n cap ∧ n ≤ cap ∧ cap ≤ maxLen ∧ Leads v b ∧ (∀ j u, xs[j]? = some u → w.cell? ⟨b, off + j, none⟩ = some u) ∧ ∀ j, w.frozen? ⟨b, j, none⟩ = false := by
  obtain ⟨h1, ao, cap, rfl, h2, h3, h4⟩ := h
  rcases h4 with ⟨rfl, rfl⟩ | ⟨b, off, cur, rfl, hb, h5, h6⟩
  · omega
  · refine ⟨b, off, cap, rfl, h2, h3, rfl, fun j u hj => ?_, fun j => blk_frozen hb j⟩
    rw [blk_cell hb]
    rw [← h6, List.getElem?_take] at hj
    split at hj
    · rw [List.getElem?_drop] at hj
      simpa using hj
    · cases hj
/-- The row as it lies in its block. -/
theorem lies (h : Row w e sz v n xs) (hp : 0 < n) : ∃ b off cap cur, v = .slice (some ⟨b, off, none⟩) n cap ∧ n ≤ cap ∧ cap ≤ maxLen ∧ w.heap[b]? = some (.cells cur e (0, 0)) ∧ off + cap * sz ≤ cur.size ∧ (cur.toList.drop off).take (n * sz) = xs := by
  obtain ⟨h1, ao, cap, rfl, h2, h3, h4⟩ := h
  rcases h4 with ⟨rfl, rfl⟩ | ⟨b, off, cur, rfl, hb, h5, h6⟩
  · omega
  · exact ⟨b, off, cap, cur, rfl, h2, h3, hb, h5, h6⟩
theorem dropped {b off cap : Nat} {cur : Array Value} (hb : w.heap[b]? = some (.cells cur e (0, 0))) {k off' : Nat} (hk : k ≤ n) (hc : n ≤ cap) (hm : cap ≤ maxLen) (hfit : off + cap * sz ≤ cur.size)
    (ht : (cur.toList.drop off).take (n * sz) = xs) (ho : off' = off + k * sz ∨ n = k ∧ off' + (cap - k) * sz ≤ cur.size) : Row w e sz (.slice (some ⟨b, off', none⟩) (n - k) (cap - k)) (n - k) (xs.drop (k * sz)) := by
  have hmul : (n - k) * sz = n * sz - k * sz := Nat.sub_mul ..
  have hmul2 : (cap - k) * sz = cap * sz - k * sz := Nat.sub_mul ..
  have hle : k * sz ≤ cap * sz := Nat.mul_le_mul_right _ (by omega)
  have hle2 : n * sz ≤ cap * sz := Nat.mul_le_mul_right _ (by omega)
  have hxl : xs.length = n * sz := by rw [← ht]; simp; omega
  refine ⟨by rw [List.length_drop, hmul, hxl], _, _, rfl, by omega, by omega, .inr ⟨b, off', cur, rfl, hb, ?_, ?_⟩⟩
  · rcases ho with rfl | ⟨rfl, h⟩
    · omega
    · exact h
  · rcases ho with rfl | ⟨rfl, h⟩
    · rw [← ht, List.drop_take, List.drop_drop, hmul]
    · rw [Nat.sub_self, Nat.zero_mul, List.take_zero, ← hxl, List.drop_length]
/-- A store into an element of one cell. -/
theorem setAt {b off cap i : Nat} (h : Row w e 1 (.slice (some ⟨b, off, none⟩) n cap) n xs) (hi : i < n) (u : Value) : Row (w.setCell ⟨b, off + i, none⟩ u) e 1 (.slice (some ⟨b, off, none⟩) n cap) n (xs.set i u) := by
  obtain ⟨b', off', cap', cur, hv, h2, h3, hb, h5, h6⟩ := h.lies (by omega)
  simp only [Value.slice.injEq, Option.some.injEq, Addr.mk.injEq] at hv
  obtain ⟨⟨rfl, rfl, -⟩, -, rfl⟩ := hv
  refine ⟨by simpa using h.len, _, _, rfl, h2, h3, .inr ⟨b, off, _, rfl, blk_set hb (off + i) u, by simpa using h5, ?_⟩⟩
  rw [← h6, Array.toList_setIfInBounds]
  apply List.ext_getElem?
  intro j
  by_cases hj : j < n
  · simp only [List.getElem?_take, List.getElem?_drop, List.getElem?_set, Nat.mul_one, hj, if_true]
    by_cases hij : i = j
    · subst hij
      have h7 : off + i < cur.size := by omega
      have h8 : i < (List.take n (List.drop off cur.toList)).length := by simp; omega
      simp only [Array.length_toList, h7, h8, if_true]
    · rw [if_neg (by omega), if_neg hij]
  · simp only [List.getElem?_take, List.getElem?_set, Nat.mul_one, hj, if_false]
    split
    · omega
    · simp
/-- A new row, whole. -/
theorem ofBlock {b : Nat} {cur : Array Value} (hb : w.heap[b]? = some (.cells cur e (0, 0))) {n cap : Nat} (hn : n ≤ cap) (hc : cap ≤ maxLen) (hs : cap * sz ≤ cur.size) : Row w e sz (.slice (some ⟨b, 0, none⟩) n cap) n (cur.toList.take (n * sz)) := by
  refine ⟨?_, _, cap, rfl, hn, hc, .inr ⟨b, 0, cur, rfl, hb, by omega, by simp⟩⟩
  have : n * sz ≤ cap * sz := Nat.mul_le_mul_right _ hn
  simp
  omega
end Row

theorem setCells_far {g : Nat} : ∀ (vs : List Value) (o : Nat) {w : World} (k : Nat), k ≠ g → (w.setCells g o vs).heap[k]? = w.heap[k]?
  | [], _, _, _, _ => rfl
  | v :: r, o, w, k, h => by rw [World.setCells, setCells_far r (o + 1) k h, Below.heap_setCell _ _ _ _ (by simpa using h)]
theorem setCells_same (g : Nat) : ∀ (vs : List Value) (o : Nat) (w : World), (w.setCells g o vs).os = w.os ∧ (w.setCells g o vs).tape = w.tape ∧ (w.setCells g o vs).output = w.output ∧ (w.setCells g o vs).heap.size = w.heap.size
  | [], _, _ => ⟨rfl, rfl, rfl, rfl⟩
  | v :: r, o, w => by
    rw [World.setCells]
    obtain ⟨h1, h2, h3, h4⟩ := setCells_same g r (o + 1) (w.setCell ⟨g, o, none⟩ v)
    exact ⟨h1, h2, h3, by rw [h4]; simp [World.setCell]⟩
theorem setCells_row {g : Nat} {e : TypeId} : ∀ (vs : List Value) (o : Nat) (w : World) (cur : Array Value), w.heap[g]? = some (.cells cur e (0, 0)) → o + vs.length ≤ cur.size →
    ∃ cur', (w.setCells g o vs).heap[g]? = some (.cells cur' e (0, 0)) ∧ cur'.size = cur.size ∧ cur'.toList = cur.toList.take o ++ vs ++ cur.toList.drop (o + vs.length)
  | [], o, w, cur, h, _ => ⟨cur, h, rfl, by simp⟩
  | v :: r, o, w, cur, h, hl => by
    rw [World.setCells]
    obtain ⟨cur', h1, h2, h3⟩ := setCells_row r (o + 1) (w.setCell ⟨g, o, none⟩ v) (cur.setIfInBounds o v) (blk_set h o v) (by simp at hl ⊢; omega)
    refine ⟨cur', h1, by simpa using h2, ?_⟩
    rw [h3]
    have := list_seg_step cur.toList o v r (by simp at hl ⊢; omega)
    simpa [Array.toList_setIfInBounds, Nat.add_assoc, Nat.add_comm 1] using this

theorem firstCells_cells {P : Program} (w : World) (size n : Nat) (b off cap : Nat) (cs : List Value) (hl : cs.length = n * size) (h : ∀ j u, cs[j]? = some u → w.cell? ⟨b, off + j, none⟩ = some u) :
    (Builtin.firstCells size n (.slice (some ⟨b, off, none⟩) n cap)).run P w = .ok cs.toArray w :=
  run_firstCells_some w size n ⟨b, off, none⟩ n cap cs hl (fun j u hj => by
    have hadd : (⟨b, off, none⟩ : Addr).add j = ⟨b, off + j, none⟩ := by unfold Addr.add; split <;> simp_all
    rw [hadd]; exact h j u hj)

/-- A block's cells as a source. -/
theorem Src.ofBlock {P : Program} {t e : TypeId} {sz bytes : Nat} (T : SliceT P t e sz bytes) {w : World} {g : Nat} {cs : Array Value} {u : TypeId} {fr : Nat × Nat} (hg : w.heap[g]? = some (.cells cs u fr)) {m c : Nat} (hm : cs.size = m * sz)
    (h1 : ∀ x ∈ cs.toList, x.oneCell' = true) : Src P sz t (.slice (some ⟨g, 0, none⟩) m c) m cs.toList w :=
  Src.ofSlice w T.ht ⟨g, 0, none⟩ m c cs.toList (by simpa using hm) (World.news_of_block hg) h1

/-- append, of whatever source, onto a row. -/
theorem run_append_row {P : Program} {t e : TypeId} {sz bytes : Nat} (T : SliceT P t e sz bytes) (w : World) (tx ty : TypeId) {v : Value} {n : Nat} {xs : List Value} (h : Row w e sz v n xs)
    {x : Value} {m : Nat} {news : List Value} (hs : Src P sz tx x m news w) (h63 : n + m ≤ maxLen) (hbytes : (n + m) * bytes ≤ 140737488355328) :
    ∃ v' w', (Builtin.append_ #[t, tx] ty #[v, x]).run P w = .ok v' w' ∧ Row w' e sz v' (n + m) (xs ++ news) ∧ Step (Leads v) w w' ∧ ∀ k, Leads v' k → Leads v k ∨ w.heap.size ≤ k := by
  obtain ⟨ht, ⟨i, z, hi, hz, rfl, rfl, hzs⟩, hpos⟩ := T
  obtain ⟨h1, ao, cap, rfl, hnc, hcm, hrow⟩ := h
  have hsmall : n + m ≤ 9223372036854775807 := by simp only [maxLen] at h63; omega
  have hlen : (xs ++ news).length = (n + m) * i.size := by rw [List.length_append, h1, hs.newsLen, Nat.add_mul]
  have grows : cap < n + m → (Builtin.firstCells i.size n (.slice ao n cap)).run P w.drew = .ok xs.toArray w.drew →
      ∃ v' w', (Builtin.append_ #[t, tx] ty #[.slice ao n cap, x]).run P w = .ok v' w' ∧ Row w' e i.size v' (n + m) (xs ++ news) ∧ Step (Leads (.slice ao n cap)) w w' ∧ ∀ k, Leads v' k → Leads (.slice ao n cap) k ∨ w.heap.size ≤ k := by
    intro hg hold
    have hge := grownCap_ge w (n + m) cap e
    have hcm := grownCap_le_maxLen w (n + m) cap e h63
    have hr := run_append_grow_src (P := P) w t tx ty e i z ht hi hz ao n cap xs hold x m news hs hg (by omega) (growslice_fits hg hbytes)
    refine ⟨_, _, hr, ?_, ((Step.refl _ w).drew).alloc _, fun k hk => .inr ?_⟩
    · refine ⟨hlen, _, _, rfl, hge, hcm, .inr ⟨w.heap.size, 0, _, rfl, heap_alloc_new w.drew _, ?_, ?_⟩⟩
      · simp only [Array.size_append, List.size_toArray, size_zeroCells, hzs, hlen, ← Nat.add_mul, Nat.zero_add]
        exact Nat.mul_le_mul_right _ (by omega)
      · simp only [Array.toList_append, List.drop_zero]
        rw [← hlen]
        exact List.take_left
    · simp [Leads, Value.ownBlock] at hk
      omega
  rcases hrow with ⟨rfl, rfl⟩ | ⟨b, off, cur, rfl, hb, hfit, htake⟩
  · have hn0 : n = 0 := by omega
    subst hn0
    have hx : xs = [] := List.eq_nil_of_length_eq_zero (by simpa using h1)
    subst hx
    by_cases hm : m = 0
    · subst hm
      have hnews : news = [] := List.eq_nil_of_length_eq_zero (by simpa using hs.newsLen)
      subst hnews
      refine ⟨.slice none 0 0, w, ?_, Row.nil w e i.size, Step.refl _ w, fun k hk => .inl hk⟩
      rcases hs.kind with ⟨e', hk⟩ | hk <;> simp [Builtin.append_, run_underlying ht, run_underlying hk, sizeOf, typeInfo, hi, hs.len, hs.cells]
    · exact grows (by omega) (run_firstCells_none w.drew i.size 0 0 0)
  · have hxs : ∀ j u, xs[j]? = some u → w.cell? ⟨b, off + j, none⟩ = some u := fun j u hj => by
      rw [blk_cell hb]
      rw [← htake, List.getElem?_take] at hj
      split at hj
      · rw [List.getElem?_drop] at hj
        simpa using hj
      · cases hj
    by_cases hroom : n + m ≤ cap
    · have hfit2 : off + n * i.size + news.length ≤ cur.size := by
        have hmul : (n + m) * i.size ≤ cap * i.size := Nat.mul_le_mul_right _ hroom
        rw [Nat.add_mul] at hmul
        rw [hs.newsLen]
        omega
      have hr := run_append_room_src (P := P) w t tx ty e i ht hi b off n cap x m news hs hroom
        (fun j hj => by rw [blk_cell hb]; simp; omega) (fun j _ => blk_frozen hb _)
      obtain ⟨cur', h3, h4, h5⟩ := setCells_row news (off + n * i.size) w cur hb hfit2
      obtain ⟨s1, s2, s3, s4⟩ := setCells_same b news (off + n * i.size) w
      refine ⟨_, _, hr, ⟨hlen, _, _, rfl, hroom, hcm, .inr ⟨b, off, cur', rfl, h3, by rw [h4]; exact hfit, ?_⟩⟩,
        ⟨s1, s2, s3, by rw [s4]; exact Nat.le_refl _, fun k _ hk => setCells_far news _ k (fun he => hk (by simp [Leads, Value.ownBlock, he]))⟩, fun k hk => .inl hk⟩
      rw [h5, List.append_assoc, List.drop_append_of_le_length (by rw [List.length_take, Array.length_toList]; omega), List.drop_take]
      rw [show off + n * i.size - off = n * i.size by omega, htake, ← List.append_assoc]
      exact List.take_left' hlen
    · exact grows (by omega) (firstCells_cells w.drew i.size n b off cap xs h1 (by simpa using hxs))

section
variable {P : Program} {t e : TypeId} {sz bytes : Nat} {w : World} {o : Oper} {a : Act} {Q : Exit → Act → World → Prop}
theorem wp_append_row {K : Act → World → Prop} (T : SliceT P t e sz bytes) (s x : Operand) {tx : TypeId}
    (ho : o.op = .call { callee := .builtin .append, args := #[s, x], argTypes := #[t, tx] })
    {v : Value} {n : Nat} {xs : List Value} (hv : a.eval s = v) (h : Row w e sz v n xs) {y : Value} {m : Nat} {news : List Value} (hy : a.eval x = y) (hs : Src P sz tx y m news w)
    (h63 : n + m ≤ maxLen) (hbytes : (n + m) * bytes ≤ 140737488355328)
    (hK : ∀ v' w', Row w' e sz v' (n + m) (xs ++ news) → Step (Leads v) w w' → (∀ k, Leads v' k → Leads v k ∨ w.heap.size ≤ k) → K (a.put o.dst v') w') : o.wp P a w K Q := by
  obtain ⟨v', w', hr, h2, h3, h4⟩ := run_append_row T w tx o.type h hs h63 hbytes
  unfold Oper.wp execOp
  simp only [ho, resolve, invoke, builtin, Sem.run_bind, Sem.run_pure, Result.andThen_ok, List.map_toArray, List.map_cons, List.map_nil, hv, hy, hr]
  exact hK v' w' h2 h3 h4
theorem wpList_append_row {ops : Array Oper} {rest : List Oper} (T : SliceT P t e sz bytes) (hgd : o.guard = none) (s x : Operand) {tx : TypeId}
    (ho : o.op = .call { callee := .builtin .append, args := #[s, x], argTypes := #[t, tx] })
    {v : Value} {n : Nat} {xs : List Value} (hv : a.eval s = v) (h : Row w e sz v n xs) {y : Value} {m : Nat} {news : List Value} (hy : a.eval x = y) (hs : Src P sz tx y m news w)
    (h63 : n + m ≤ maxLen) (hbytes : (n + m) * bytes ≤ 140737488355328)
    (hK : ∀ v' w', Row w' e sz v' (n + m) (xs ++ news) → Step (Leads v) w w' → (∀ k, Leads v' k → Leads v k ∨ w.heap.size ≤ k) → wpList P ops Q rest (a.put o.dst v') w') : wpList P ops Q (o :: rest) a w :=
  wpList_plain hgd fun _ hQ => wp_append_row T s x ho hv h hy hs h63 hbytes fun v' w' h2 h3 h4 => hQ _ _ (hK v' w' h2 h3 h4)
theorem step_append_row {K : Act → World → Prop} {ops : Array Oper} {E : Prop} (T : SliceT P t e sz bytes) (hgd : o.guard = none) (s x : Operand) {tx : TypeId}
    (ho : o.op = .call { callee := .builtin .append, args := #[s, x], argTypes := #[t, tx] })
    {v : Value} {n : Nat} {xs : List Value} (hv : a.eval s = v) (h : Row w e sz v n xs) {y : Value} {m : Nat} {news : List Value} (hy : a.eval x = y) (hs : Src P sz tx y m news w)
    (h63 : n + m ≤ maxLen) (hbytes : (n + m) * bytes ≤ 140737488355328)
    (hK : ∀ v' w', Row w' e sz v' (n + m) (xs ++ news) → Step (Leads v) w w' → (∀ k, Leads v' k → Leads v k ∨ w.heap.size ≤ k) → K (a.put o.dst v') w') :
    if Region.wanted o (yielded ops a.tmps) = true then Oper.wp P o a w K Q else E := by
  rw [if_pos (by simp [Region.wanted, hgd])]
  exact wp_append_row T s x ho hv h hy hs h63 hbytes hK
end

/-! ### Bytes -/

/-- A slice of bytes that is seen: nil, or cells behind an address. -/
def Bytes (w : World) (v : Value) (bs : List Int) : Prop :=
  (v = .slice none 0 0 ∧ bs = []) ∨ ∃ b cap, v = .slice (some b) bs.length cap ∧ bs.length ≤ 140737488355328 ∧ ∀ j u, (bs.map (Value.int .u8))[j]? = some u → w.cell? (b.add j) = some u

/-- Each fits a byte. -/
def Small (bs : List Int) : Prop := ∀ x ∈ bs, 0 ≤ x ∧ x ≤ 255

theorem nums_one (k : IntKind) (bs : List Int) : ∀ u ∈ bs.map (Value.int k), u.oneCell' = true := by
  intro u hu
  obtain ⟨_, _, rfl⟩ := List.mem_map.1 hu
  rfl

theorem add_plain (b off j : Nat) : (⟨b, off, none⟩ : Addr).add j = ⟨b, off + j, none⟩ := by unfold Addr.add; split <;> simp_all

theorem Row.bytes {w : World} {e : TypeId} {v : Value} {n : Nat} {bs : List Int} (h : Row w e 1 v n (bs.map (.int .u8))) (hn : n ≤ 140737488355328) : Bytes w v bs := by
  have hl : bs.length = n := by simpa using h.len
  rcases Nat.eq_zero_or_pos n with h0 | hp
  · obtain ⟨ao, cap, rfl, -, -⟩ := h.form
    have hb : bs = [] := List.eq_nil_of_length_eq_zero (by omega)
    subst hb
    cases ao with
    | none =>
      obtain ⟨_, ao', cap', hv, _, _, h4⟩ := h
      simp only [Value.slice.injEq] at hv
      obtain ⟨rfl, -, rfl⟩ := hv
      rcases h4 with ⟨-, rfl⟩ | ⟨b, off, cur, h4, -⟩
      · exact .inl ⟨by rw [h0], rfl⟩
      · cases h4
    | some b => exact .inr ⟨b, cap, by rw [h0]; rfl, by simp, fun j u hj => by simp at hj⟩
  · obtain ⟨b, off, cap, rfl, -, -, -, hc, -⟩ := h.cells hp
    exact .inr ⟨_, cap, by rw [hl], by omega, fun j u hj => by rw [add_plain]; exact hc j u hj⟩

theorem Bytes.ofBlock {w : World} {g : Nat} {cs : Array Value} {t : TypeId} {fr : Nat × Nat} (hg : w.heap[g]? = some (.cells cs t fr)) {bs : List Int} {cap : Nat} (h : cs.toList = bs.map (.int .u8)) (hn : bs.length ≤ 140737488355328) : Bytes w (.slice (some ⟨g, 0, none⟩) bs.length cap) bs :=
  .inr ⟨_, cap, rfl, hn, by rw [← h]; exact World.news_of_block hg⟩

theorem Bytes.step {w w' : World} {S : Nat → Prop} {v : Value} {bs : List Int} (h : Bytes w v bs) (hw : Step S w w') (hn : ∀ k, Leads v k → ¬ S k) : Bytes w' v bs := by
  rcases h with h | ⟨b, cap, rfl, hl, hc⟩
  · exact .inl h
  · refine .inr ⟨b, cap, rfl, hl, fun j u hj => ?_⟩
    have := hc j u hj
    have hb : (b.add j).block = b.block := by unfold Addr.add; split <;> rfl
    rw [hw.cell (World.block_lt_of_cell? w _ this) (by rw [hb]; exact hn b.block rfl)]
    exact this

theorem Bytes.len {w : World} {v : Value} {bs : List Int} (h : Bytes w v bs) : ∃ ao cap, v = .slice ao bs.length cap := by
  rcases h with ⟨rfl, rfl⟩ | ⟨b, cap, rfl, -, -⟩
  · exact ⟨none, 0, rfl⟩
  · exact ⟨_, cap, rfl⟩

theorem Bytes.src {P : Program} {t e : TypeId} (ht : P.underlying t = some (.slice e)) {w : World} {v : Value} {bs : List Int} (h : Bytes w v bs) : Src P 1 t v bs.length (bs.map (.int .u8)) w := by
  rcases h with ⟨rfl, rfl⟩ | ⟨b, cap, rfl, -, hc⟩
  · exact Src.ofNil w ht 0
  · exact Src.ofSlice w ht b bs.length cap _ (by simp) hc (nums_one _ _)

/-- string(b). -/
theorem run_string {P : Program} {src dst e : TypeId} (hs : P.underlying src = some (.slice e)) (he : P.underlying e = some (.int .u8)) (hd : P.underlying dst = some .string) {w : World} {v : Value} {bs : List Int} (h : Bytes w v bs) :
    (convert src dst v).run P w = .ok (.string (strOfNums bs)) w := by
  rcases h with ⟨rfl, rfl⟩ | ⟨b, cap, rfl, -, hc⟩
  · rw [run_convert_bytes_nil w src e hs he 0 0 dst hd]; rfl
  · have hl : (loadCells b bs.length).run P w = .ok (bs.map (Value.int .u8)).toArray w := by
      simpa using run_loadCells_list (P := P) w b (bs.map (Value.int .u8)) hc
    rw [run_convert_bytes_string w src dst e _ _ cap hs he hd, run_bytesToString w _ _ cap bs hl, foldl_push_bytes]
    simp [strOfNums, ByteArray.empty, ByteArray.emptyWithCapacity]
    rfl

theorem strOfNums_inj {a b : List Int} (ha : Small a) (hb : Small b) (h : strOfNums a = strOfNums b) : a = b := by
  have h2 : a.map (fun n => UInt8.ofNat n.toNat) = b.map (fun n => UInt8.ofNat n.toNat) := by
    rw [← strOfNums_data, ← strOfNums_data, h]
  clear h
  induction a generalizing b with
  | nil => cases b with
    | nil => rfl
    | cons y ys => simp at h2
  | cons x xs ih => cases b with
    | nil => simp at h2
    | cons y ys =>
      simp only [List.map_cons, List.cons.injEq] at h2
      have hx := ha x (by simp)
      have hy := hb y (by simp)
      have hxy : x = y := by
        have := congrArg UInt8.toNat h2.1
        simp at this
        omega
      rw [hxy, ih (fun z hz => ha z (by simp [hz])) (fun z hz => hb z (by simp [hz])) h2.2]

/-- []byte("constant") behind its own row. -/
theorem run_bytes_const {P : Program} (w : World) (t e : TypeId) (C : Array Value) (n c g : Nat) (hg : g = w.heap.size) (ht : P.underlying t = some (.slice e)) (he : P.underlying e = some (.int .u8)) :
    (convert t t (.slice (some ⟨g, 0, none⟩) n c)).run P (w.alloc (.cells C e)) = .ok (.slice (some ⟨g, 0, none⟩) n c) (w.alloc (.cells C e (C.size, C.size + 1))) := by
  subst hg
  exact Lib.run_convert_bytes_const w t e C n c ht he

/-! ### Calls that leave the world, in a region that draws -/
theorem quiet_left {P : Program} {f : FuncId} {args : Array Value} {w : World} {n : Nat} {v : Value}
    (h : Calls P f args (w.drewN n) fun e w' => e = .returned v ∧ w.drewN n = w') : Calls P f args (w.drewN n) fun e w'' => e = .returned v ∧ ∃ m, w'' = w.drewN m :=
  h.mono fun _ _ ⟨he, hm⟩ => ⟨he, n, hm.symm⟩

end Go.Gm
