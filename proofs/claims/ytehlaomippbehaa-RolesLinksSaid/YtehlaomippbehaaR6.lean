/- The best way and the roles: the code's Select. -/
import Derived.Test.YtehlaomippbehaaR5
import Derived.Deep.OwnRows
namespace Go.Proofs.Ytehlaomippbehaa
open Go.RowKit Go.Gm

/-- A slice that holds these numbers. -/
def Ints (w : World) (ao : Option Addr) (xs : List Int) : Prop := ∀ j x, xs[j]? = some x → ∃ b off, ∃ cur : Array Value, ao = some ⟨b, off, none⟩ ∧ w.heap[b]? = some (.cells cur 3 (0, 0)) ∧ cur[off + j]? = some (.int .i64 x)
theorem Ints.step {w w' : World} {S : Nat → Prop} {ao : Option Addr} {xs : List Int} (h : Ints w ao xs) (hs : Step S w w') (hn : ∀ k, S k → ∀ cs fr, w.heap[k]? ≠ some (.cells cs 3 fr)) : Ints w' ao xs := fun j x hx => by
  obtain ⟨b, off, cur, e, hb, hc⟩ := h j x hx
  exact ⟨b, off, cur, e, hs.blk hb (fun s => hn b s _ _ hb), hc⟩
theorem Ints.still {w w' : World} {ao : Option Addr} {xs : List Int} (h : Ints w ao xs) (hs : Step None w w') : Ints w' ao xs := h.step hs fun _ s => s.elim
theorem Ints.cell {w : World} {ao : Option Addr} {xs : List Int} (h : Ints w ao xs) {j : Nat} {x : Int} (hx : xs[j]? = some x) : ∃ b off, ao = some ⟨b, off, none⟩ ∧ w.cell? ⟨b, off + j, none⟩ = some (.int .i64 x) := by
  obtain ⟨b, off, cur, e, hb, hc⟩ := h j x hx
  exact ⟨b, off, e, by rw [blk_cell hb]; exact hc⟩
theorem Ints.row {w : World} {ao : Option Addr} {xs : List Int} (h : Ints w ao xs) {g : Nat} {cs : Array Value} {t : TypeId} {fr : Nat × Nat} (hg : w.heap[g]? = some (.cells cs t fr)) (ht : t ≠ 3) (cs' : Array Value) : Ints (w.setRow g cs') ao xs := fun j x hx => by
  obtain ⟨b, off, cur, e, hb, hc⟩ := h j x hx
  exact ⟨b, off, cur, e, (setRow_other _ _ _ _ (blk_ne hb hg (Ne.symm ht))).trans hb, hc⟩
theorem Ints.nil (w : World) (ao : Option Addr) : Ints w ao [] := fun j x hx => by simp at hx

/-- The answers' block: those of the first k are there. -/
def Outs (w : World) (O n : Nat) (xs : List Int) : Prop := ∃ cur : Array Value, w.heap[O]? = some (.cells cur 3 (0, 0)) ∧ cur.size = n ∧ ∀ (j : Nat) (x : Int), xs[j]? = some x → cur[j]? = some (Value.int .i64 x)
theorem Outs.still {w w' : World} {O n : Nat} {xs : List Int} (h : Outs w O n xs) (hs : Step None w w') : Outs w' O n xs := by
  obtain ⟨cur, h1, h2, h3⟩ := h
  exact ⟨cur, hs.blk h1 (fun s => s.elim), h2, h3⟩
theorem Outs.put {w : World} {O n : Nat} {xs : List Int} (h : Outs w O n xs) (hk : xs.length < n) (x : Int) : Outs (w.setCell ⟨O, xs.length, none⟩ (.int .i64 x)) O n (xs ++ [x]) := by
  obtain ⟨cur, h1, h2, h3⟩ := h
  refine ⟨_, blk_set h1 xs.length (.int .i64 x), by simpa using h2, fun j y hj => ?_⟩
  rcases Nat.lt_trichotomy j xs.length with hl | rfl | hl
  · rw [List.getElem?_append_left hl] at hj
    rw [Array.getElem?_setIfInBounds, if_neg (by omega)]
    exact h3 j y hj
  · rw [List.getElem?_append_right (Nat.le_refl _), Nat.sub_self] at hj
    simp at hj
    subst hj
    rw [Array.getElem?_setIfInBounds, if_pos rfl, if_pos (by omega)]
  · rw [List.getElem?_eq_none (by simp; omega)] at hj
    cases hj
theorem Outs.at_ {w : World} {O n : Nat} {xs : List Int} (h : Outs w O n xs) (k : Nat) (hk : k < n) : w.frozen? ⟨O, k, none⟩ = false ∧ ∃ z, w.cell? ⟨O, k, none⟩ = some z := by
  obtain ⟨cur, h1, h2, h3⟩ := h
  exact ⟨blk_frozen h1 k, cur[k]'(by omega), by rw [blk_cell h1, Array.getElem?_eq_getElem]⟩
theorem Outs.ints {w : World} {O n : Nat} {xs : List Int} (h : Outs w O n xs) : Ints w (some ⟨O, 0, none⟩) xs := fun j x hx => by
  obtain ⟨cur, h1, h2, h3⟩ := h
  exact ⟨O, 0, cur, rfl, h1, by rw [Nat.zero_add]; exact h3 j x hx⟩
theorem Outs.ne {w w0 : World} {M L R B O n : Nat} {me : Idn} {ao : Option Addr} {cap : Nat} {l : List Hrd} {best : Vec} {xs : List Int} (h : Sl w0 w M L R B me ao cap l best) (o : Outs w O n xs) (hO : w0.heap.size ≤ O) (hold : ∀ b off, l ≠ [] → ao = some ⟨b, off, none⟩ → b < w0.heap.size) (x : Value) (k : Nat) : Sl w0 (w.setCell ⟨O, k, none⟩ x) M L R B me ao cap l best := by
  obtain ⟨cur, h1, h2, h3⟩ := o
  have nM : M ≠ O := blk_ne h.m h1 (by decide)
  have nL : L ≠ O := blk_ne h.s h1 (by decide)
  have nR : R ≠ O := blk_ne h.r h1 (by decide)
  have nB : B ≠ O := blk_ne h.b h1 (by decide)
  refine ⟨(Below.heap_setCell _ _ _ _ (by simpa using nM)).trans h.m, (Below.heap_setCell _ _ _ _ (by simpa using nL)).trans h.s, (Below.heap_setCell _ _ _ _ (by simpa using nR)).trans h.r, (Below.heap_setCell _ _ _ _ (by simpa using nB)).trans h.b, fun i y hy => ?_, h.st.setCell (fun hh => by simp at hh; omega) _, h.nB, h.nR, h.old⟩
  obtain ⟨f, b, off, e, hc⟩ := h.h i y hy
  refine ⟨f, b, off, e, fun j u hu => ?_⟩
  rw [World.cell?_of_block (w := w) (a := ⟨b, off + i * 21 + j, none⟩) (Below.heap_setCell _ _ _ _ (by have := hold b off (fun hl => by subst hl; simp at hy) e; show b ≠ O; omega))]
  exact hc j u hu
theorem outs_put {w w0 : World} {M L R B O n k : Nat} {me : Idn} {ao : Option Addr} {cap : Nat} {l : List Hrd} {best : Vec} {xs ys : List Int} {z : Int} (h : Sl w0 w M L R B me ao cap l best) (o : Outs w O n xs) (hys : ys = xs ++ [z]) (hl : xs.length = k) (hk : k < n) (hO : w0.heap.size ≤ O) (hold : ∀ b off, l ≠ [] → ao = some ⟨b, off, none⟩ → b < w0.heap.size) {r : Int} (hr : z = r) :
    Sl w0 (w.setCell ⟨O, k, none⟩ (.int .i64 r)) M L R B me ao cap l best ∧ Outs (w.setCell ⟨O, k, none⟩ (.int .i64 r)) O n ys := by
  subst hr hl
  rw [hys]
  exact ⟨Outs.ne h o hO hold _ _, o.put hk _⟩
theorem info3 : (Try.prog.info? 3).map (fun i => (i.zero, i.size, i.bytes)) = some (some (.int .i64 0), 1, 8) := by kernel_rfl
theorem make_ints (w : World) (n : Nat) (hn : n ≤ 1000) : (Instr.makeSlice 45 (.int .i64 n) (.int .i64 n)).run Try.prog w = .ok (.slice (some ⟨w.heap.size, 0, none⟩) n n) (w.alloc (.cells (madeCells #[.int .i64 0] n) 3)) :=
  run_make_row' (P := Try.prog) 45 3 (.int .i64 0) 8 Try.underlying45 info3 rfl .i64 .i64 n (by omega) (by omega) w
theorem outs_new (w : World) (n : Nat) : Outs (w.alloc (.cells (madeCells #[.int .i64 0] n) 3)) w.heap.size n [] :=
  ⟨_, heap_alloc_new w _, by simp [size_madeCells], fun j x hx => by simp at hx⟩

theorem selK_succ {me : Idn} {l : List Hrd} {k : Nat} {x : Hrd} (hx : l[k]? = some x) : selK me l (k + 1) = selStep me (selK me l k) k x := by
  rw [selK, show l.getD k default = x by simp [List.getD, hx]]
theorem way_cells (x : Hrd) : ((x.v.add x.cost).cells.setIfInBounds 16 (.int .i64 x.port)) = x.way.cells := rfl
theorem goes_is (me : Idn) (x : Hrd) : x.goes me = (x.counts && !(x.v.b.flat == me.flat)) := rfl
theorem selStep_not {me : Idn} {s : Vec × Int} {k : Nat} {x : Hrd} (h : x.goes me = false ∨ decide (lex x.way.flat s.1.flat < 0) = false) : selStep me s k x = s := by
  rw [selStep, if_neg]
  rcases h with h | h <;> simp [h]
theorem selStep_yes {me : Idn} {s : Vec × Int} {k : Nat} {x : Hrd} (h : x.goes me = true) (h2 : decide (lex x.way.flat s.1.flat < 0) = true) : selStep me s k x = (x.way, (k : Int)) := by
  rw [selStep, if_pos]
  rw [h, h2]; rfl

theorem default_fine : (default : Hrd).v.fine := ⟨fun x hx => by simp [show (default : Hrd) = ⟨0, 0, false, false, default⟩ from rfl, show (default : Vec) = ⟨⟨0, 0, 0, 0, 0, 0, 0⟩, 0, ⟨0, 0, 0, 0, 0, 0, 0⟩, 0, 0⟩ from rfl, Idn.mac] at hx; omega, fun x hx => by simp [show (default : Hrd) = ⟨0, 0, false, false, default⟩ from rfl, show (default : Vec) = ⟨⟨0, 0, 0, 0, 0, 0, 0⟩, 0, ⟨0, 0, 0, 0, 0, 0, 0⟩, 0, 0⟩ from rfl, Idn.mac] at hx; omega⟩
theorem selK_fine {me : Idn} {l : List Hrd} {w : World} {ao : Option Addr} (hm : Small me.mac) (h : Hears w ao l) (k : Nat) : (selK me l k).1.fine := by
  rcases (sel_all me l k).at_ with ⟨-, h2⟩ | ⟨r, -, -, -, h4, -⟩
  · rw [h2]; exact ⟨hm, hm⟩
  · rw [h4]
    show (l.getD r default).v.fine
    rw [List.getD_eq_getElem?_getD]
    cases e : l[r]? with
    | none => exact default_fine
    | some x => exact (h r x e).1

theorem hears_old {w : World} {ao : Option Addr} {l : List Hrd} (h : Hears w ao l) {b off : Nat} (hne : l ≠ []) (e : ao = some ⟨b, off, none⟩) : b < w.heap.size := by
  cases l with
  | nil => exact absurd rfl hne
  | cons x r =>
    obtain ⟨-, b', off', e', hc⟩ := h 0 x rfl
    rw [e] at e'
    cases e'
    exact World.block_lt_of_cell? _ _ (hc 0 _ rfl)
theorem lhyps_new (me : Idn) (ao : Option Addr) (cap : Nat) (l : List Hrd) (w W : World) (b1 : W.heap[w.heap.size]? = some (.cells me.cells 25 (0, 0))) (b2 : W.heap[w.heap.size + 1]? = some (.cells #[.slice ao l.length cap] 44 (0, 0)))
    (b3 : W.heap[w.heap.size + 1 + 1]? = some (.cells #[.int .i64 0, .int .u8 0, .int .u8 0, .int .u8 0, .int .u8 0, .int .u8 0, .int .u8 0, .int .i64 0, .int .i64 0, .int .u8 0, .int .u8 0, .int .u8 0, .int .u8 0, .int .u8 0, .int .u8 0, .int .i64 0, .int .i64 0] 27 (0, 0))) (s1 : Step None w W) (hh : Hears W ao l) (hlt : ∀ b off, l ≠ [] → ao = some ⟨b, off, none⟩ → b < w.heap.size) (hsz : W.heap.size = w.heap.size + 1 + 1 + 1) :
    ∀ w2 W2, Step None W w2 → W2.heap[w2.heap.size]? = some (.cells (meV me).cells 27 (0, 0)) → Step None w2 W2 → Sl w W2 w.heap.size (w.heap.size + 1) (w.heap.size + 1 + 1) w2.heap.size me ao cap l (meV me) := fun w2 W2 s2 hb s3 =>
  ⟨s3.blk (s2.blk b1 (fun s => s.elim)) (fun s => s.elim), s3.blk (s2.blk b2 (fun s => s.elim)) (fun s => s.elim), s3.blk (s2.blk b3 (fun s => s.elim)) (fun s => s.elim), hb, (hh.still s2).still s3, (s1.then_ s2).then_ s3, by have := s2.size; omega,
    by have := s2.size; omega, fun b off hl e => by have := hlt b off hl e; have := s2.size; omega⟩

set_option maxRecDepth 100000 in
set_option maxHeartbeats 8000000 in
theorem select_any (me : Idn) (ao : Option Addr) (cap : Nat) (l : List Hrd) (w : World) (hme : Small me.mac) (hp : ∀ x ∈ l, (Lit.int .i64 x.port).wf = true) (hl : l.length ≤ 9223372036854775807) (h : Hears w ao l) :
    Calls Try.prog 27 #[.agg me.cells, .slice ao l.length cap] w fun e w' => Step None w w' ∧ ∃ ao2 cap2, e = .returned (.tuple #[.agg (bestOf me l).cells, .slice ao2 (rolesOf me l).length cap2, .int .i64 (fairOf l)]) ∧ Ints w' ao2 (rolesOf me l) := by
  have hlt : ∀ b off, l ≠ [] → ao = some ⟨b, off, none⟩ → b < w.heap.size := fun b off hne e => hears_old h hne e
  have b1 := heap_alloc_new w (.cells me.cells 25)
  have b2 := heap_alloc_new (w.alloc (.cells me.cells 25)) (.cells #[.slice ao l.length cap] 44)
  have b3 := heap_alloc_new ((w.alloc (.cells me.cells 25)).alloc (.cells #[.slice ao l.length cap] 44)) (.cells zeroV 27)
  have s1 := (((Step.refl None w).alloc (.cells me.cells 25)).alloc (.cells #[.slice ao l.length cap] 44)).alloc (.cells zeroV 27)
  have b2 := ((Step.refl None _).alloc (.cells zeroV 27)).blk b2 (fun s => s.elim)
  have b1 := (((Step.refl None _).alloc (.cells #[.slice ao l.length cap] 44)).alloc (.cells zeroV 27)).blk b1 (fun s => s.elim)
  have hsz : (((w.alloc (.cells me.cells 25)).alloc (.cells #[.slice ao l.length cap] 44)).alloc (.cells zeroV 27)).heap.size = w.heap.size + 1 + 1 + 1 := by simp
  simp only [World.size_alloc] at b2 b3
  unfold zeroV at b1 b2 b3 s1 hsz
  obtain ⟨W, hW⟩ : ∃ W, ((w.alloc (.cells me.cells 25)).alloc (.cells #[.slice ao l.length cap] 44)).alloc (.cells #[.int .i64 0, .int .u8 0, .int .u8 0, .int .u8 0, .int .u8 0, .int .u8 0, .int .u8 0, .int .i64 0, .int .i64 0, .int .u8 0, .int .u8 0, .int .u8 0, .int .u8 0, .int .u8 0, .int .u8 0, .int .i64 0, .int .i64 0] 27) = W := ⟨_, rfl⟩
  rw [hW] at b1 b2 b3 s1 hsz
  have HE := Lib.hid hW
  have B1 := Lib.hid b1
  have B2 := Lib.hid b2
  have B3 := Lib.hid b3
  have S1 := Lib.hid s1
  have HS := Lib.hid hsz
  have HH := Lib.hid (h.still s1)
  have c2 := blk_cell b2 0
  simp only [List.getElem?_toArray, List.getElem?_cons_zero] at c2
  have FA := Lib.hid (fair_any ao cap l W hp hl (h.still s1))
  have ME := Lib.hid (And.intro hme hlt)
  have lm := load_idn b1
  have LM := Lib.hid lm
  clear hW b1 b2 b3 s1 hsz lm hp h hlt
  cases hf : (fairOf l == 0)
  · have hz : Hid (¬ fairOf l = 0) := Lib.hid (by simpa using hf)
    have hne : (fairOf l != 0) = true := by simp [bne, hf]
    have R1 := Lib.hid (show bestOf me l = noVec by rw [bestOf, if_neg hz.out])
    have R2 := Lib.hid (show rolesOf me l = [] by rw [rolesOf, if_neg hz.out])
    generalize hF : fairOf l = F at *
    have HF := Lib.hid hF
    clear hF
    go_enter Try.func27, Try.ntmps27
    go_wp2_with (first | rw [HE.out])
    refine FA.out.mono ?_
    rintro e w2 ⟨rfl, s2⟩
    have S2 := Lib.hid s2
    have B3' := Lib.hid (s2.blk B3.out (fun s => s.elim))
    clear s2
    go_wp2_with (first
      | (refine wpList_store_row rfl 27 (.tmp 4) (.tmp 20) rfl (w.heap.size + 1 + 1) noVec.cells rfl rfl 27 _ B3'.out (by kernel_rfl) rfl (by kernel_rfl) ?_))
    (try simp only [Exit.inBlock, Exit.then])
    refine bodyPost_ret (results_cell_row3 (P := Try.prog) (fn := Try.f27) rfl _ _ (w.heap.size + 1 + 1) 27 noVec.cells (0, 0) _ rfl (setRow_heap _ _ _ _ _ _ B3'.out) Try.underlying27 rfl (by kernel_rfl)) rfl ?_
    refine ⟨step_setRow (S1.out.then_ S2.out) (fun h => by omega) _, none, 0, by rw [R1.out, R2.out]; rfl, ?_⟩
    rw [R2.out]
    exact Ints.nil _ _
  have hz : fairOf l = 0 := by simpa using hf
  obtain ⟨h64, -, -⟩ := fairOf_zero hz
  have R1 := Lib.hid (show bestOf me l = (selK me l l.length).1 by rw [bestOf, if_pos hz])
  have R2 := Lib.hid (show rolesOf me l = rolesFrom me (selK me l l.length).1 (selK me l l.length).2 l l.length by rw [rolesOf, if_pos hz])
  have H64 := Lib.hid h64
  rw [hz] at FA
  clear hf
  rw [hz]
  clear hz h64
  have HB := Lib.hid (lhyps_new me ao cap l w W B1.out B2.out B3.out S1.out HH.out ME.out.2 HS.out)
  go_enter Try.func27, Try.ntmps27
  go_wp2_with (first | rw [HE.out])
  refine FA.out.mono ?_
  rintro e w2 ⟨rfl, s2⟩
  have hn := laid_new w2 zeroV (meV me).cells 27
  unfold zeroV at hn
  obtain ⟨W2, hW2⟩ : ∃ W2, (w2.alloc (.cells #[.int .i64 0, .int .u8 0, .int .u8 0, .int .u8 0, .int .u8 0, .int .u8 0, .int .u8 0, .int .i64 0, .int .i64 0, .int .u8 0, .int .u8 0, .int .u8 0, .int .u8 0, .int .u8 0, .int .u8 0, .int .i64 0, .int .i64 0] 27)).setRow w2.heap.size (meV me).cells = W2 := ⟨_, rfl⟩
  rw [hW2] at hn
  have HE2 := Lib.hid hW2
  have SL := Lib.hid (HB.out w2 W2 s2 hn.1 hn.2)
  have lm2 := load_idn (SL.out.m)
  have lm2' := load_idn (s2.blk B1.out (fun s => s.elim))
  have c2' := blk_cell (s2.blk B2.out (fun s => s.elim)) 0
  have c3' := blk_cell SL.out.s 0
  simp only [List.getElem?_toArray, List.getElem?_cons_zero] at c2' c3'
  unfold Idn.cells at lm2 lm2'
  have LM2 := Lib.hid lm2'
  have hmf : ∀ (fn : Fn) (first cap : Array Value) (w : World), (Instr.makeFunc fn first cap).run Try.prog w = .ok (.func fn first cap) w := fun _ _ _ _ => rfl
  clear hW2 lm2 lm2' s2 hn
  go_wp2_with (first
    | (refine wpList_load_is 25 (.tmp 2) rfl rfl rfl LM2.out ?_)
    | (refine wpList_store_row rfl 27 (.tmp 8) (.tmp 24) rfl w2.heap.size (meV me).cells rfl rfl 27 _ (heap_alloc_new w2 _) (by kernel_rfl) rfl (by simp [meV, Vec.cells, Value.oneCell']) ?_; rw [HE2.out]))
  have M2 := Lib.hid (And.intro SL.out.nR SL.out.nB)
  generalize w2.heap.size = B at *
  clear HE2 LM2 FA HB HE B1 B2 B3 S1 HH LM c2 c2'
  go_loopw [9, 11, 12, 28] (fun rt _ _ i wr => ∃ k : Nat, k ≤ l.length ∧ i = .int .i64 k ∧ rt = .int .i64 (selK me l k).2 ∧ Hid (Sl w wr w.heap.size (w.heap.size + 1) (w.heap.size + 1 + 1) B me ao cap l (selK me l k).1)) (fun _ _ _ i _ => l.length - (intOf i).toNat)
  case atStart => exact ⟨0, Nat.zero_le _, rfl, rfl, SL⟩
  case round =>
    obtain ⟨k, hk, rfl, rfl, sl⟩ := hrel
    rename_i wr
    clear SL c3'
    have cs := blk_cell sl.out.s 0
    simp only [List.getElem?_toArray, List.getElem?_cons_zero] at cs
    by_cases hlt : k < l.length
    · obtain ⟨x, hx⟩ : ∃ x, l[k]? = some x := ⟨l[k], List.getElem?_eq_getElem hlt⟩
      obtain ⟨fx, b, off, rfl, hc⟩ := sl.out.h k x hx
      have K : Hid (∀ W, Step None wr W → W.cell? ⟨w.heap.size + 1, 0, none⟩ = some (.slice (some ⟨b, off, none⟩) l.length cap) ∧ (Instr.loadAt 27 (.pointer (some ⟨b, off + k * 21 + 4, none⟩))).run Try.prog W = .ok (.agg x.v.cells) W ∧ W.cell? ⟨b, off + k * 21 + 1, none⟩ = some (.int .i64 x.cost) ∧ W.cell? ⟨b, off + k * 21, none⟩ = some (.int .i64 x.port)) := Lib.hid fun W hW => by
        have q := sl.out.still hW
        obtain ⟨-, b', off', e, hc'⟩ := q.h k x hx
        cases e
        have h' := hcell hc'
        have cs' := blk_cell q.s 0
        simp only [List.getElem?_toArray, List.getElem?_cons_zero] at cs'
        exact ⟨cs', load_way hc', h'.2.1, h'.1⟩
      have FX := Lib.hid fx
      have HX := Lib.hid hx
      have e1 : decide ((k : Int) < (l.length : Int)) = true := by simpa using hlt
      have k0 : (0 : Int) ≤ (k : Int) := by omega
      have k1 : (k : Int) < (l.length : Int) := by omega
      have hw1 : IntKind.i64.wrap ((k : Int) + 1) = ((k + 1 : Nat) : Int) := by rw [IntWalk.i64_in _ (by have := H64.out; omega)]; omega
      clear hc fx hx
      go_wp2_with fail
      refine wp_region_plan (fun w' => w'.cell? ⟨w.heap.size + 1, 0, none⟩ = some (.slice (some ⟨b, off, none⟩) l.length cap) ∧ (Instr.loadAt 27 (.pointer (some ⟨b, off + k * 21 + 4, none⟩))).run Try.prog w' = .ok (.agg x.v.cells) w' ∧ w'.cell? ⟨b, off + k * 21 + 1, none⟩ = some (.int .i64 x.cost) ∧ w'.cell? ⟨b, off + k * 21, none⟩ = some (.int .i64 x.port)) (.take 0 (.take 1 (.take 2 (.take 3 (.take 4 (.take 5 (.take 6 (.take 7 (.take 8 (.take 9 (.alt 10 (.alt 11 (.last 12) .none) (.alt 11 (.alt 10 (.last 12) .none) .none)))))))))))) _
        (by simp only [Plan.map, opOf, List.getElem?_toArray, List.getElem?_cons_zero, List.getElem?_cons_succ, Option.getD_some]; rfl) (by kernel_rfl) (by kernel_rfl) (by kernel_rfl) (by decide) (by intro c a d v w; cases d <;> exact fun h => h) (K.out _ (Step.refl None wr).drew) ?_
      repeat (first | (refine wpPlan.taken (by rfl) (fun w' hS' => run_load_op rfl rfl hS'.2.1) ?_; simp only [Act.put, List.setIfInBounds_toArray, List.set_cons_zero, List.set_cons_succ]) | (refine wpPlan.taken (by rfl) (by intro w' hS'; (try dsimp only at hS'); go_split_ands; go_simp; try with_reducible rfl) ?_; simp only [Act.put, List.setIfInBounds_toArray, List.set_cons_zero, List.set_cons_succ]) | (refine wpPlan.passed (by rfl) ?_; simp only [Act.put, List.setIfInBounds_toArray, List.set_cons_zero, List.set_cons_succ]))
      apply wpPlan.born (v := .agg (x.v.add x.cost).cells) (zero := #[.int .i64 0, .int .u8 0, .int .u8 0, .int .u8 0, .int .u8 0, .int .u8 0, .int .u8 0, .int .i64 0, .int .i64 0, .int .u8 0, .int .u8 0, .int .u8 0, .int .u8 0, .int .u8 0, .int .u8 0, .int .i64 0, .int .i64 0]) (cells := (x.v.add x.cost).cells) (ty := 27)
      case hst => exact fun W hW => K.out W ((Step.refl None wr).drew.then_ hW)
      case hc =>
        intro f W hf hW K' hK'
        rcases hf with rfl | ⟨N, rfl⟩
        · go_simp
          refine (add_any x.v x.cost W).mono ?_
          rintro e W' ⟨rfl, s⟩
          exact hK'.out _ _ ⟨rfl, s⟩
        · go_simp
          refine (add_any x.v x.cost W).mono ?_
          rintro e W' ⟨rfl, s⟩
          exact hK'.out _ _ ⟨rfl, s⟩
      case ha =>
        intro f W hf K' hK'
        rcases hf with rfl | rfl
        · go_simp
          exact hK'.out _ _ ⟨rfl, rfl⟩
        · go_simp
          exact hK'.out _ _ ⟨rfl, rfl⟩
      case hs =>
        intro f N W hf hN K' hK'
        rcases hf with rfl | rfl
        · simp only [Act.put, List.setIfInBounds_toArray, List.set_cons_zero, List.set_cons_succ]
          rw [if_pos (by rfl)]
          exact wp_store_row 27 (.tmp 12) (.tmp 41) rfl N (x.v.add x.cost).cells rfl rfl 27 _ hN (by kernel_rfl) rfl (by simp [Vec.cells, Value.oneCell']) (hK'.out _ _ ⟨rfl, rfl⟩)
        · simp only [Act.put, List.setIfInBounds_toArray, List.set_cons_zero, List.set_cons_succ]
          rw [if_pos (by rfl)]
          exact wp_store_row 27 (.tmp 12) (.tmp 41) rfl N (x.v.add x.cost).cells rfl rfl 27 _ hN (by kernel_rfl) rfl (by simp [Vec.cells, Value.oneCell']) (hK'.out _ _ ⟨rfl, rfl⟩)
      case hK =>
       intro N W hW hN hb
       obtain ⟨a1, a2, a3, a4⟩ := K.out W ((Step.refl None wr).drew.then_ hW)
       have f16 := blk_frozen hb 16
       have c16 := blk_cell hb 16
       simp only [Vec.add, Vec.cells, List.getElem?_toArray, List.getElem?_cons_zero, List.getElem?_cons_succ] at c16
       have b2 := blk_set hb 16 (.int .i64 x.port)
       rw [way_cells] at b2
       have s2 := ((Step.refl None wr).drew.then_ hW).setCell (p := ⟨N, 16, none⟩) (fun hh => absurd hh (Nat.not_lt.2 hN)) (.int .i64 x.port)
       obtain ⟨W2, hW2⟩ : ∃ W2, W.setCell ⟨N, 16, none⟩ (.int .i64 x.port) = W2 := ⟨_, rfl⟩
       rw [hW2] at b2 s2
       have HE2 := Lib.hid hW2
       have SL2 := Lib.hid (sl.out.still s2)
       have B2 := Lib.hid b2
       have LB : Hid ((Instr.loadAt 25 (.pointer (some ⟨N, 8, none⟩))).run Try.prog W2 = .ok (.agg x.v.b.cells) W2) := Lib.hid (load_bridgeOf (x := x.way) b2)
       have CN := Lib.hid (counts_any (w.heap.size + 1) k x _ cap l W2 HX.out SL2.out.s SL2.out.h)
       have FB : Hid (selK me l k).1.fine := Lib.hid (selK_fine ME.out.1 sl.out.h k)
       have he := eq_idn x.v.b me
       have HG := Lib.hid (goes_is me x)
       have HSU := Lib.hid (selK_succ (me := me) HX.out)
       generalize x.counts = cn at *
       generalize (x.v.b.flat == me.flat) = q at *
       clear hW2 b2 s2 sl hW hN hb K
       go_wp2_with (first | rw [HE2.out])
       refine CN.out.mono ?_
       rintro e w3 ⟨rfl, rfl⟩
       cases cn
       · have hn := Lib.hid (HSU.out.trans (selStep_not (.inl HG.out)))
         go_wp2_with fail
         go_roundw
         case rel => exact ⟨k + 1, by omega, rfl, by rw [hn.out], by rw [hn.out]; exact SL2⟩
         case measure => simp [intOf]; omega
       cases q
       rotate_left
       · have hn := Lib.hid (HSU.out.trans (selStep_not (.inl HG.out)))
         go_wp2_with (first
           | (refine wpList_load_is 25 (.tmp 52) rfl rfl rfl LB.out ?_)
           | (refine wpList_load_is 25 (.tmp 2) rfl rfl rfl (load_idn SL2.out.m) ?_))
         go_roundw
         case rel => exact ⟨k + 1, by omega, rfl, by rw [hn.out], by rw [hn.out]; exact SL2⟩
         case measure => simp [intOf]; omega
       go_wp2_with (first
         | (refine wpList_load_is 25 (.tmp 52) rfl rfl rfl LB.out ?_)
         | (refine wpList_load_is 25 (.tmp 2) rfl rfl rfl (load_idn SL2.out.m) ?_)
         | (refine wpList_load_is 27 (.tmp 12) rfl rfl rfl (load_block B2.out rfl) ?_)
         | (refine wpList_load_is 27 (.tmp 8) rfl rfl rfl (load_block SL2.out.b rfl) ?_))
       refine (vec_compare x.way (selK me l k).1 _ FX.out FB.out).mono ?_
       rintro e w4 ⟨rfl, s4⟩
       have SL4 := Lib.hid (SL2.out.still s4)
       have B4 := Lib.hid (s4.blk B2.out (fun s => s.elim))
       clear s4 SL2 B2 LB CN
       cases hd : decide (lex x.way.flat (selK me l k).1.flat < 0)
       · have hn := Lib.hid (HSU.out.trans (selStep_not (.inr hd)))
         go_wp2_with fail
         go_roundw
         case rel => exact ⟨k + 1, by omega, rfl, by rw [hn.out], by rw [hn.out]; exact SL4⟩
         case measure => simp [intOf]; omega
       · have hn := Lib.hid (HSU.out.trans (selStep_yes HG.out hd))
         go_wp2_with (first
           | (refine wpList_load_is 27 (.tmp 12) rfl rfl rfl (load_block B4.out rfl) ?_)
           | (refine wpList_store_row rfl 27 (.tmp 8) (.tmp 63) rfl B x.way.cells rfl rfl 27 _ SL4.out.b (by kernel_rfl) rfl (by simp [Vec.cells, Value.oneCell']) ?_))
         go_roundw
         case rel => exact ⟨k + 1, by omega, rfl, by rw [hn.out], by rw [hn.out]; exact Lib.hid (SL4.out.better x.way)⟩
         case measure => simp [intOf]; omega
    · have e1 : decide ((k : Int) < (l.length : Int)) = false := by simpa using hlt
      obtain rfl : k = l.length := by omega
      have FB : Hid (selK me l l.length).1.fine := Lib.hid (selK_fine ME.out.1 sl.out.h l.length)
      obtain ⟨⟨bst, root⟩, hq⟩ : ∃ s, selK me l l.length = s := ⟨_, rfl⟩
      rw [hq] at sl R1 R2 FB
      rw [hq]
      dsimp only at sl R1 R2 FB
      dsimp only
      clear hq
      have hmk := fun w => make_ints w l.length (by have := H64.out; omega)
      have n2 := (Step.refl None wr).alloc (.cells (madeCells #[.int .i64 0] l.length) 3)
      have OU := Lib.hid (outs_new wr l.length)
      have SL1 := Lib.hid (sl.out.still n2)
      obtain ⟨WM, hWM⟩ : ∃ WM, wr.alloc (.cells (madeCells #[.int .i64 0] l.length) 3) = WM := ⟨_, rfl⟩
      rw [hWM] at OU SL1
      have HEM := Lib.hid hWM
      have cs1 := blk_cell SL1.out.s 0
      simp only [List.getElem?_toArray, List.getElem?_cons_zero] at cs1
      clear hWM n2
      go_wp2_with (first | rw [HEM.out])
      clear cs hmk HEM hk hlt
      have HO := Lib.hid (show w.heap.size ≤ wr.heap.size from sl.out.st.size)
      clear sl
      generalize wr.heap.size = O at *
      clear cs1
      go_loopw [14, 15, 71] (fun _ _ i wr => ∃ (k : Nat) (W : World), W = wr ∧ k ≤ l.length ∧ i = .int .i64 k ∧ Hid (Sl w wr w.heap.size (w.heap.size + 1) (w.heap.size + 1 + 1) B me ao cap l bst) ∧ Hid (Outs wr O l.length (rolesFrom me bst root l k))) (fun _ _ i _ => l.length - (intOf i).toNat)
      case atStart => exact ⟨0, _, rfl, Nat.zero_le _, rfl, SL1, OU⟩
      case round =>
        obtain ⟨k, wq, rfl, hk, rfl, sl, ou⟩ := hrel
        clear SL1 OU
        have cs := blk_cell sl.out.s 0
        simp only [List.getElem?_toArray, List.getElem?_cons_zero] at cs
        by_cases hlt : k < l.length
        · have cO := ou.out.at_ k hlt
          obtain ⟨fO, zO, cO⟩ := cO
          obtain ⟨x, hx⟩ : ∃ x, l[k]? = some x := ⟨l[k], List.getElem?_eq_getElem hlt⟩
          obtain ⟨fx, b, off, rfl, hc⟩ := sl.out.h k x hx
          have FX := Lib.hid fx
          have HX := Lib.hid hx
          have HRS := Lib.hid (show rolesFrom me bst root l (k + 1) = rolesFrom me bst root l k ++ [roleOf me bst root k x] by rw [rolesFrom_succ, show l.getD k default = x by simp [List.getD, hx]])
          have HLK := Lib.hid (rolesFrom_len me bst root l k)
          have HLT := Lib.hid hlt
          have e1 : decide ((k : Int) < (l.length : Int)) = true := by simpa using hlt
          have k0 : (0 : Int) ≤ (k : Int) := by omega
          have k1 : (k : Int) < (l.length : Int) := by omega
          have hw1 : IntKind.i64.wrap ((k : Int) + 1) = ((k + 1 : Nat) : Int) := by rw [IntWalk.i64_in _ (by have := H64.out; omega)]; omega
          have LW := Lib.hid (load_way hc)
          have hn := laid_new wq zeroV x.v.cells 27
          unfold zeroV at hn
          obtain ⟨W1, hW1⟩ : ∃ W1, (wq.alloc (.cells #[.int .i64 0, .int .u8 0, .int .u8 0, .int .u8 0, .int .u8 0, .int .u8 0, .int .u8 0, .int .i64 0, .int .i64 0, .int .u8 0, .int .u8 0, .int .u8 0, .int .u8 0, .int .u8 0, .int .u8 0, .int .i64 0, .int .i64 0] 27)).setRow wq.heap.size x.v.cells = W1 := ⟨_, rfl⟩
          rw [hW1] at hn
          have HE1 := Lib.hid hW1
          have c16 := blk_cell hn.1 16
          have f16 := blk_frozen hn.1 16
          simp only [Vec.cells, List.getElem?_toArray, List.getElem?_cons_zero, List.getElem?_cons_succ] at c16
          have b2 := blk_set hn.1 16 (.int .i64 0)
          have s2 := hn.2.setCell (p := ⟨wq.heap.size, 16, none⟩) (fun hh => absurd hh (Nat.lt_irrefl _)) (.int .i64 0)
          rw [show x.v.cells.setIfInBounds 16 (.int .i64 0) = (x.v.own 0).cells from rfl] at b2
          obtain ⟨W2, hW2⟩ : ∃ W2, W1.setCell ⟨wq.heap.size, 16, none⟩ (.int .i64 0) = W2 := ⟨_, rfl⟩
          rw [hW2] at b2 s2
          have HE2 := Lib.hid hW2
          have B2 := Lib.hid b2
          have SL2 := Lib.hid (sl.out.still s2)
          have OU2 := Lib.hid (ou.out.still s2)
          obtain ⟨fO, zO, cO⟩ := OU2.out.at_ k hlt
          obtain ⟨-, b', off', e', hc'⟩ := SL2.out.h k x hx
          cases e'
          obtain ⟨p0, p1, p2, p3⟩ := hcell hc'
          have cs2 := blk_cell SL2.out.s 0
          simp only [List.getElem?_toArray, List.getElem?_cons_zero] at cs2
          have LB : Hid ((Instr.loadAt 25 (.pointer (some ⟨wq.heap.size, 8, none⟩))).run Try.prog W2 = .ok (.agg x.v.b.cells) W2) := Lib.hid (load_bridgeOf (x := x.v.own 0) b2)
          have SO := Lib.hid (fun r (hr : roleOf me bst root k x = r) => outs_put SL2.out OU2.out HRS.out HLK.out hlt HO.out ME.out.2 hr)
          clear hW1 hW2 hn b2 hc hc' sl ou
          have ck : (0 + k) = k := Nat.zero_add k
          cases hup : x.up
          · have hv := SO.out 0 (by simp [roleOf, hup])
            rw [hup] at p2
            go_wp2_with (first
              | rw [HE1.out]
              | rw [HE2.out]
              | (refine wpList_load_is 27 (.tmp 77) rfl rfl rfl LW.out ?_)
              | (refine wpList_store_row rfl 27 (.tmp 15) (.tmp 78) rfl wq.heap.size x.v.cells rfl rfl 27 _ (heap_alloc_new wq _) (by kernel_rfl) rfl (by simp [Vec.cells, Value.oneCell']) ?_))
            go_roundw
            case rel => exact ⟨k + 1, _, rfl, by omega, rfl, Lib.hid hv.1, Lib.hid hv.2⟩
            case measure => simp [intOf]; omega
          rw [hup] at p2
          by_cases hrt : (k : Int) = root
          · have hv := SO.out 1 (by simp [roleOf, hup, hrt])
            have q1 : ((k : Int) == root) = true := by simpa using hrt
            clear hrt
            go_wp2_with (first
              | rw [HE1.out]
              | rw [HE2.out]
              | (refine wpList_load_is 27 (.tmp 77) rfl rfl rfl LW.out ?_)
              | (refine wpList_store_row rfl 27 (.tmp 15) (.tmp 78) rfl wq.heap.size x.v.cells rfl rfl 27 _ (heap_alloc_new wq _) (by kernel_rfl) rfl (by simp [Vec.cells, Value.oneCell']) ?_))
            go_roundw
            case rel => exact ⟨k + 1, _, rfl, by omega, rfl, Lib.hid hv.1, Lib.hid hv.2⟩
            case measure => simp [intOf]; omega
          have q1 : ((k : Int) == root) = false := by simpa using hrt
          have HRT := Lib.hid hrt
          clear hrt
          have SLD := Lib.hid (SL2.out.still (Step.refl None W2).drew)
          have CN := Lib.hid (counts_any (w.heap.size + 1) k x _ cap l W2.drew HX.out SLD.out.s SLD.out.h)
          have HCN := Lib.hid (show x.counts = (x.up && x.has) from rfl)
          rw [hup] at HCN
          have K : Hid (∀ W, Step None W2 W → (W.cell? ⟨w.heap.size + 1, 0, none⟩ = some (.slice (some ⟨b, off, none⟩) l.length cap) ∧ (Instr.loadAt 27 (.pointer (some ⟨wq.heap.size, 0, none⟩))).run Try.prog W = .ok (.agg (x.v.own 0).cells) W ∧ (Instr.loadAt 25 (.pointer (some ⟨w.heap.size, 0, none⟩))).run Try.prog W = .ok (.agg me.cells) W ∧ (Instr.loadAt 27 (.pointer (some ⟨B, 0, none⟩))).run Try.prog W = .ok (.agg bst.cells) W ∧ W.cell? ⟨b, off + k * 21, none⟩ = some (.int .i64 x.port))) := Lib.hid fun W hW => by
            have q := SL2.out.still hW
            obtain ⟨-, b', off', e, hc'⟩ := q.h k x HX.out
            cases e
            have h' := hcell hc'
            have cs' := blk_cell q.s 0
            simp only [List.getElem?_toArray, List.getElem?_cons_zero] at cs'
            exact ⟨cs', load_block (hW.blk B2.out (fun s => s.elim)) rfl, load_idn q.m, load_block q.b rfl, h'.1⟩
          cases hhas : x.has
          · have hv := by exact (show roleOf me bst root k x = 2 by simp [roleOf, hup, HRT.out, hhas])
            have OUD := OU2.out.still (Step.refl None W2).drew
            have SO2 := Lib.hid (fun (hr : roleOf me bst root k x = 2) => outs_put SLD.out OUD HRS.out HLK.out HLT.out HO.out ME.out.2 hr)
            clear OUD
            rw [hhas] at HCN
            go_wp2_with (first
              | rw [HE1.out]
              | rw [HE2.out]
              | (refine wpList_load_is 27 (.tmp 77) rfl rfl rfl LW.out ?_)
              | (refine wpList_store_row rfl 27 (.tmp 15) (.tmp 78) rfl wq.heap.size x.v.cells rfl rfl 27 _ (heap_alloc_new wq _) (by kernel_rfl) rfl (by simp [Vec.cells, Value.oneCell']) ?_))
            refine wp_region_plan (fun W => W.cell? ⟨w.heap.size + 1, 0, none⟩ = some (.slice (some ⟨b, off, none⟩) l.length cap) ∧ (Instr.loadAt 27 (.pointer (some ⟨wq.heap.size, 0, none⟩))).run Try.prog W = .ok (.agg (x.v.own 0).cells) W ∧ (Instr.loadAt 25 (.pointer (some ⟨w.heap.size, 0, none⟩))).run Try.prog W = .ok (.agg me.cells) W ∧ (Instr.loadAt 27 (.pointer (some ⟨B, 0, none⟩))).run Try.prog W = .ok (.agg bst.cells) W ∧ W.cell? ⟨b, off + k * 21, none⟩ = some (.int .i64 x.port)) (.take 0 (.take 1 (.alt 2 (.take 3 (.take 4 (.take 5 (.take 6 (.take 7 (.take 8 (.take 9 (.take 10 (.take 11 (.take 12 (.alt 13 (.alt 14 (.take 15 (.take 16 (.take 17 .done))) .none) .none))))))))))) .none))) _
              (by simp only [Plan.map, opOf, List.getElem?_toArray, List.getElem?_cons_zero, List.getElem?_cons_succ, Option.getD_some]; rfl) (by kernel_rfl) (by kernel_rfl) (by kernel_rfl) (by decide) (by intro c a d v w; cases d <;> exact fun h => h) (K.out _ (Step.refl None W2).drew) ?_
            repeat (first | (refine wpPlan.taken (by rfl) (fun w' hS' => run_load_op rfl rfl hS'.2.1) ?_; simp only [Act.put, List.setIfInBounds_toArray, List.set_cons_zero, List.set_cons_succ]) | (refine wpPlan.taken (by rfl) (fun w' hS' => run_load_op rfl rfl hS'.2.2.1) ?_; simp only [Act.put, List.setIfInBounds_toArray, List.set_cons_zero, List.set_cons_succ]) | (refine wpPlan.taken (by rfl) (fun w' hS' => run_load_op rfl rfl hS'.2.2.2.1) ?_; simp only [Act.put, List.setIfInBounds_toArray, List.set_cons_zero, List.set_cons_succ]) | (refine wpPlan.taken (by rfl) (by intro w' hS'; (try dsimp only at hS'); go_split_ands; go_simp; try with_reducible rfl) ?_; simp only [Act.put, List.setIfInBounds_toArray, List.set_cons_zero, List.set_cons_succ]) | (refine wpPlan.passed (by rfl) ?_; simp only [Act.put, List.setIfInBounds_toArray, List.set_cons_zero, List.set_cons_succ]))
            refine wpPlan.runs fun K' hK => ?_
            go_simp
            refine CN.out.mono ?_
            rintro e W3 ⟨rfl, rfl⟩
            rw [HCN.out]
            refine hK.out _ _ (K.out _ (Step.refl None W2).drew) ?_
            clear hK K'
            repeat (first | (refine wpPlan.taken (by rfl) (fun w' hS' => run_load_op rfl rfl hS'.2.1) ?_; simp only [Act.put, List.setIfInBounds_toArray, List.set_cons_zero, List.set_cons_succ]) | (refine wpPlan.taken (by rfl) (fun w' hS' => run_load_op rfl rfl hS'.2.2.1) ?_; simp only [Act.put, List.setIfInBounds_toArray, List.set_cons_zero, List.set_cons_succ]) | (refine wpPlan.taken (by rfl) (fun w' hS' => run_load_op rfl rfl hS'.2.2.2.1) ?_; simp only [Act.put, List.setIfInBounds_toArray, List.set_cons_zero, List.set_cons_succ]) | (refine wpPlan.taken (by rfl) (by intro w' hS'; (try dsimp only at hS'); go_split_ands; go_simp; try with_reducible rfl) ?_; simp only [Act.put, List.setIfInBounds_toArray, List.set_cons_zero, List.set_cons_succ]) | (refine wpPlan.passed (by rfl) ?_; simp only [Act.put, List.setIfInBounds_toArray, List.set_cons_zero, List.set_cons_succ]))
            refine wpPlan.runs fun K' hK => ?_
            go_simp
            refine hK.out _ _ (K.out _ (Step.refl None W2).drew) ?_
            clear hK K'
            refine wpPlan.runs fun K' hK => ?_
            go_simp
            refine hK.out _ _ (K.out _ (Step.refl None W2).drew) ?_
            clear hK K'
            repeat (first | (refine wpPlan.taken (by rfl) (fun w' hS' => run_load_op rfl rfl hS'.2.1) ?_; simp only [Act.put, List.setIfInBounds_toArray, List.set_cons_zero, List.set_cons_succ]) | (refine wpPlan.taken (by rfl) (fun w' hS' => run_load_op rfl rfl hS'.2.2.1) ?_; simp only [Act.put, List.setIfInBounds_toArray, List.set_cons_zero, List.set_cons_succ]) | (refine wpPlan.taken (by rfl) (fun w' hS' => run_load_op rfl rfl hS'.2.2.2.1) ?_; simp only [Act.put, List.setIfInBounds_toArray, List.set_cons_zero, List.set_cons_succ]) | (refine wpPlan.taken (by rfl) (by intro w' hS'; (try dsimp only at hS'); go_split_ands; go_simp; try with_reducible rfl) ?_; simp only [Act.put, List.setIfInBounds_toArray, List.set_cons_zero, List.set_cons_succ]) | (refine wpPlan.passed (by rfl) ?_; simp only [Act.put, List.setIfInBounds_toArray, List.set_cons_zero, List.set_cons_succ]))
            refine wpPlan.done ?_
            have hv := SO2.out hv
            go_wp2_with fail
            go_roundw
            case rel => exact ⟨k + 1, _, rfl, by omega, rfl, Lib.hid hv.1, Lib.hid hv.2⟩
            case measure => simp [intOf]; omega
          rw [hhas] at HCN
          go_wp2_with (first
            | rw [HE1.out]
            | rw [HE2.out]
            | (refine wpList_load_is 27 (.tmp 77) rfl rfl rfl LW.out ?_)
            | (refine wpList_store_row rfl 27 (.tmp 15) (.tmp 78) rfl wq.heap.size x.v.cells rfl rfl 27 _ (heap_alloc_new wq _) (by kernel_rfl) rfl (by simp [Vec.cells, Value.oneCell']) ?_))
          refine wp_region_plan (fun W => W.cell? ⟨w.heap.size + 1, 0, none⟩ = some (.slice (some ⟨b, off, none⟩) l.length cap) ∧ (Instr.loadAt 27 (.pointer (some ⟨wq.heap.size, 0, none⟩))).run Try.prog W = .ok (.agg (x.v.own 0).cells) W ∧ (Instr.loadAt 25 (.pointer (some ⟨w.heap.size, 0, none⟩))).run Try.prog W = .ok (.agg me.cells) W ∧ (Instr.loadAt 27 (.pointer (some ⟨B, 0, none⟩))).run Try.prog W = .ok (.agg bst.cells) W ∧ W.cell? ⟨b, off + k * 21, none⟩ = some (.int .i64 x.port)) (.take 0 (.take 1 (.alt 2 (.take 3 (.take 4 (.take 5 (.take 6 (.take 7 (.take 8 (.take 9 (.take 10 (.take 11 (.take 12 (.alt 13 (.alt 14 (.take 15 (.take 16 (.take 17 .done))) .none) .none))))))))))) .none))) _
            (by simp only [Plan.map, opOf, List.getElem?_toArray, List.getElem?_cons_zero, List.getElem?_cons_succ, Option.getD_some]; rfl) (by kernel_rfl) (by kernel_rfl) (by kernel_rfl) (by decide) (by intro c a d v w; cases d <;> exact fun h => h) (K.out _ (Step.refl None W2).drew) ?_
          repeat (first | (refine wpPlan.taken (by rfl) (fun w' hS' => run_load_op rfl rfl hS'.2.1) ?_; simp only [Act.put, List.setIfInBounds_toArray, List.set_cons_zero, List.set_cons_succ]) | (refine wpPlan.taken (by rfl) (fun w' hS' => run_load_op rfl rfl hS'.2.2.1) ?_; simp only [Act.put, List.setIfInBounds_toArray, List.set_cons_zero, List.set_cons_succ]) | (refine wpPlan.taken (by rfl) (fun w' hS' => run_load_op rfl rfl hS'.2.2.2.1) ?_; simp only [Act.put, List.setIfInBounds_toArray, List.set_cons_zero, List.set_cons_succ]) | (refine wpPlan.taken (by rfl) (by intro w' hS'; (try dsimp only at hS'); go_split_ands; go_simp; try with_reducible rfl) ?_; simp only [Act.put, List.setIfInBounds_toArray, List.set_cons_zero, List.set_cons_succ]) | (refine wpPlan.passed (by rfl) ?_; simp only [Act.put, List.setIfInBounds_toArray, List.set_cons_zero, List.set_cons_succ]))
          refine wpPlan.runs fun K' hK => ?_
          go_simp
          refine CN.out.mono ?_
          rintro e W3 ⟨rfl, rfl⟩
          rw [HCN.out]
          refine hK.out _ _ (K.out _ (Step.refl None W2).drew) ?_
          clear hK K'
          repeat (first | (refine wpPlan.taken (by rfl) (fun w' hS' => run_load_op rfl rfl hS'.2.1) ?_; simp only [Act.put, List.setIfInBounds_toArray, List.set_cons_zero, List.set_cons_succ]) | (refine wpPlan.taken (by rfl) (fun w' hS' => run_load_op rfl rfl hS'.2.2.1) ?_; simp only [Act.put, List.setIfInBounds_toArray, List.set_cons_zero, List.set_cons_succ]) | (refine wpPlan.taken (by rfl) (fun w' hS' => run_load_op rfl rfl hS'.2.2.2.1) ?_; simp only [Act.put, List.setIfInBounds_toArray, List.set_cons_zero, List.set_cons_succ]) | (refine wpPlan.taken (by rfl) (by intro w' hS'; (try dsimp only at hS'); go_split_ands; go_simp; try with_reducible rfl) ?_; simp only [Act.put, List.setIfInBounds_toArray, List.set_cons_zero, List.set_cons_succ]) | (refine wpPlan.passed (by rfl) ?_; simp only [Act.put, List.setIfInBounds_toArray, List.set_cons_zero, List.set_cons_succ]))
          refine wpPlan.runs fun K' hK => ?_
          go_simp
          refine (offer_any me bst x.port _).mono ?_
          rintro e W4 ⟨rfl, s4⟩
          have S4 := Lib.hid ((Step.refl None W2).drew.then_ s4)
          refine hK.out _ _ (K.out _ S4.out) ?_
          clear hK K' s4
          refine wpPlan.runs fun K' hK => ?_
          go_simp
          refine (vec_compare (x.v.own 0) (offerV me bst x.port) _ FX.out ⟨FB.out.1, ME.out.1⟩).mono ?_
          rintro e W5 ⟨rfl, s5⟩
          have S5 := Lib.hid (S4.out.then_ s5)
          refine hK.out _ _ (K.out _ S5.out) ?_
          clear hK K' s5 S4
          have SL5 := Lib.hid (SL2.out.still S5.out)
          have OU5 := Lib.hid (OU2.out.still S5.out)
          have LB5 : Hid ((Instr.loadAt 25 (.pointer (some ⟨wq.heap.size, 8, none⟩))).run Try.prog W5 = .ok (.agg x.v.b.cells) W5) := Lib.hid (load_bridgeOf (x := x.v.own 0) (S5.out.blk B2.out (fun s => s.elim)))
          have LM5 := Lib.hid (load_idn SL5.out.m)
          have SO5 := Lib.hid (fun r (hr : roleOf me bst root k x = r) => outs_put SL5.out OU5.out HRS.out HLK.out HLT.out HO.out ME.out.2 hr)
          obtain ⟨fO, zO, cO⟩ := OU5.out.at_ k HLT.out
          have HRO := Lib.hid (show roleOf me bst root k x = if 0 ≤ lex (x.v.own 0).flat (offerV me bst x.port).flat then 2 else if x.v.b.flat = me.flat then 4 else 3 by simp [roleOf, hup, HRT.out, hhas])
          have he := eq_idn x.v.b me
          have q5 : (x.v.b.flat = me.flat) ↔ (x.v.b.flat == me.flat) = true := by simp
          rw [show (if x.v.b.flat = me.flat then (4 : Int) else 3) = if (x.v.b.flat == me.flat) = true then 4 else 3 by simp] at HRO
          clear q5 SO CN SLD K
          generalize lex (x.v.own 0).flat (offerV me bst x.port).flat = r at *
          generalize (x.v.b.flat == me.flat) = q at *
          cases hr : decide (0 ≤ r)
          rotate_left
          · have hv := SO5.out 2 (HRO.out.trans (if_pos (by simpa using hr)))
            repeat (first | (refine wpPlan.taken (by rfl) (fun w' hS' => run_load_op rfl rfl hS'.2.1) ?_; simp only [Act.put, List.setIfInBounds_toArray, List.set_cons_zero, List.set_cons_succ]) | (refine wpPlan.taken (by rfl) (fun w' hS' => run_load_op rfl rfl hS'.2.2.1) ?_; simp only [Act.put, List.setIfInBounds_toArray, List.set_cons_zero, List.set_cons_succ]) | (refine wpPlan.taken (by rfl) (fun w' hS' => run_load_op rfl rfl hS'.2.2.2.1) ?_; simp only [Act.put, List.setIfInBounds_toArray, List.set_cons_zero, List.set_cons_succ]) | (refine wpPlan.taken (by rfl) (by intro w' hS'; (try dsimp only at hS'); go_split_ands; go_simp; try with_reducible rfl) ?_; simp only [Act.put, List.setIfInBounds_toArray, List.set_cons_zero, List.set_cons_succ]) | (refine wpPlan.passed (by rfl) ?_; simp only [Act.put, List.setIfInBounds_toArray, List.set_cons_zero, List.set_cons_succ]))
            refine wpPlan.done ?_
            go_wp2_with fail
            go_roundw
            case rel => exact ⟨k + 1, _, rfl, by omega, rfl, Lib.hid hv.1, Lib.hid hv.2⟩
            case measure => simp [intOf]; omega
          have HR2 := Lib.hid (HRO.out.trans (if_neg (by simpa using hr)))
          repeat (first | (refine wpPlan.taken (by rfl) (fun w' hS' => run_load_op rfl rfl hS'.2.1) ?_; simp only [Act.put, List.setIfInBounds_toArray, List.set_cons_zero, List.set_cons_succ]) | (refine wpPlan.taken (by rfl) (fun w' hS' => run_load_op rfl rfl hS'.2.2.1) ?_; simp only [Act.put, List.setIfInBounds_toArray, List.set_cons_zero, List.set_cons_succ]) | (refine wpPlan.taken (by rfl) (fun w' hS' => run_load_op rfl rfl hS'.2.2.2.1) ?_; simp only [Act.put, List.setIfInBounds_toArray, List.set_cons_zero, List.set_cons_succ]) | (refine wpPlan.taken (by rfl) (by intro w' hS'; (try dsimp only at hS'); go_split_ands; go_simp; try with_reducible rfl) ?_; simp only [Act.put, List.setIfInBounds_toArray, List.set_cons_zero, List.set_cons_succ]) | (refine wpPlan.passed (by rfl) ?_; simp only [Act.put, List.setIfInBounds_toArray, List.set_cons_zero, List.set_cons_succ]))
          refine wpPlan.done ?_
          cases q
          · have hv := SO5.out 3 (HR2.out.trans (by rfl))
            go_wp2_with (first
              | (refine wpList_load_is 25 (.tmp 122) rfl rfl rfl LB5.out ?_)
              | (refine wpList_load_is 25 (.tmp 2) rfl rfl rfl LM5.out ?_))
            go_roundw
            case rel => exact ⟨k + 1, _, rfl, by omega, rfl, Lib.hid hv.1, Lib.hid hv.2⟩
            case measure => simp [intOf]; omega
          · have hv := SO5.out 4 (HR2.out.trans (by rfl))
            go_wp2_with (first
              | (refine wpList_load_is 25 (.tmp 122) rfl rfl rfl LB5.out ?_)
              | (refine wpList_load_is 25 (.tmp 2) rfl rfl rfl LM5.out ?_))
            go_roundw
            case rel => exact ⟨k + 1, _, rfl, by omega, rfl, Lib.hid hv.1, Lib.hid hv.2⟩
            case measure => simp [intOf]; omega
        · have e1 : decide ((k : Int) < (l.length : Int)) = false := by simpa using hlt
          obtain rfl : k = l.length := by omega
          have K : Hid (∀ W, Sl w W w.heap.size (w.heap.size + 1) (w.heap.size + 1 + 1) B me ao cap l bst → (Instr.loadAt 27 (.pointer (some ⟨B, 0, none⟩))).run Try.prog W = .ok (.agg bst.cells) W) := Lib.hid fun W q => load_block q.b rfl
          have SLD := sl
          have RR := Lib.hid (setRow_heap wq (w.heap.size + 1 + 1) _ bst.cells _ _ SLD.out.r)
          have SS := Lib.hid (SLD.out.st.setRow (g := w.heap.size + 1 + 1) (fun h => by omega) bst.cells)
          have OI := Lib.hid (show Ints (wq.setRow (w.heap.size + 1 + 1) bst.cells) (some ⟨O, 0, none⟩) (rolesFrom me bst root l l.length) from by
            obtain ⟨cur, h1, h2, h3⟩ := ou.out
            exact Outs.ints (n := l.length) ⟨cur, (setRow_other _ _ _ _ (blk_ne h1 SLD.out.r (by decide))).trans h1, h2, h3⟩)
          have HLN := Lib.hid (rolesFrom_len me bst root l l.length)
          clear hlt hk
          go_wp2_with (first
            | (refine wpList_load_is 27 (.tmp 8) rfl rfl rfl (load_block SLD.out.b rfl) ?_)
            | (refine wpList_store_row rfl 27 (.tmp 4) (.tmp 130) rfl (w.heap.size + 1 + 1) bst.cells rfl rfl 27 _ SLD.out.r (by kernel_rfl) rfl (by simp [Vec.cells, Value.oneCell']) ?_))
          (try simp only [Exit.inBlock, Exit.then])
          refine bodyPost_ret (results_cell_row3 (P := Try.prog) (fn := Try.f27) rfl _ _ (w.heap.size + 1 + 1) 27 bst.cells (0, 0) _ rfl RR.out Try.underlying27 rfl (by kernel_rfl)) rfl ?_
          refine ⟨SS.out, some ⟨O, 0, none⟩, l.length, ?_, ?_⟩
          · rw [R1.out, R2.out, HLN.out]; rfl
          · rw [R2.out]; exact OI.out
end Go.Proofs.Ytehlaomippbehaa
