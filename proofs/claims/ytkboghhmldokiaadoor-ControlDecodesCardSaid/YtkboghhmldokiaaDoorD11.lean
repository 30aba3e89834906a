/- The document's Decode, walked. -/
import Derived.Test.YtkboghhmldokiaaDoorD10
namespace Go.Proofs.YtkboghhmldokiaaDoor
open Go.RowKit Go.Gm

/-- While the document decodes: the packet's variable. -/
structure Dr (w0 w : World) (T P : Nat) (ep sq ak : Int) (n : Note) (bv : Value) : Prop where
  t : w.heap[T]? = some (.cells noPkt 28 (0, 0))
  p : w.heap[P]? = some (.cells (n.packet ep sq ak bv) 28 (0, 0))
  ne : T ≠ P
  newT : w0.heap.size ≤ T
  newP : w0.heap.size ≤ P
  st : Step None w0 w
section
variable {w0 w w' : World} {T P : Nat} {ep sq ak : Int} {n : Note} {bv : Value}
theorem Dr.still (h : Dr w0 w T P ep sq ak n bv) (hs : Step None w w') : Dr w0 w' T P ep sq ak n bv := ⟨hs.blk h.t (fun s => s.elim), hs.blk h.p (fun s => s.elim), h.ne, h.newT, h.newP, h.st.then_ hs⟩
theorem Dr.put (h : Dr w0 w T P ep sq ak n bv) (i : Nat) (u : Value) {n' : Note} {bv' : Value} (e : (n.packet ep sq ak bv).setIfInBounds i u = n'.packet ep sq ak bv') : Dr w0 (w.setCell ⟨P, i, none⟩ u) T P ep sq ak n' bv' ∧ Step (fun k => k = P) w (w.setCell ⟨P, i, none⟩ u) := by
  have hs : Step (fun k => k = P) w (w.setCell ⟨P, i, none⟩ u) := Step.setCell (S := fun k => k = P) (Step.refl _ w) (p := ⟨P, i, none⟩) (fun _ => rfl) u
  exact ⟨⟨hs.blk h.t h.ne, by rw [blk_set h.p i u, e], h.ne, h.newT, h.newP, h.st.trans hs fun i hi e => by have := h.newP; omega⟩, hs⟩
theorem Dr.led {v : Value} {m : Nat} {xs : List Value} (h : Dr w0 w T P ep sq ak n bv) (hr : Row w 5 1 v m xs) (hs : Step (Leads v) w w') (hv : ∀ k, Leads v k → w0.heap.size ≤ k) : Dr w0 w' T P ep sq ak n bv :=
  ⟨hs.blk h.t (hr.ne h.t (by decide)), hs.blk h.p (hr.ne h.p (by decide)), h.ne, h.newT, h.newP, h.st.trans hs fun i hi hk => by have := hv i hk; omega⟩
end
theorem laid_pkt' (w : World) (cs : Array Value) : ((w.alloc (.cells #[.int .i64 0, .int .i64 0, .int .i64 0, .int .i64 0, .int .i64 0, .int .u8 0, .int .u8 0, .int .u8 0, .int .u8 0, .int .u8 0, .int .u8 0, .int .i64 0, .int .i64 0, .slice none 0 0] 28)).setRow w.heap.size cs).heap[w.heap.size]? = some (.cells cs 28 (0, 0)) ∧ Step None w ((w.alloc (.cells #[.int .i64 0, .int .i64 0, .int .i64 0, .int .i64 0, .int .i64 0, .int .u8 0, .int .u8 0, .int .u8 0, .int .u8 0, .int .u8 0, .int .u8 0, .int .i64 0, .int .i64 0, .slice none 0 0] 28)).setRow w.heap.size cs) :=
  ⟨setRow_heap _ _ _ _ _ _ (heap_alloc_new w _), step_setRow ((Step.refl None w).alloc _) (fun h => by omega) _⟩
theorem dr_laid {w0 w : World} {T : Nat} (ht : w.heap[T]? = some (.cells noPkt 28 (0, 0))) (hT : w0.heap.size ≤ T) (hs : Step None w0 w) (ep sq ak : Int) : Dr w0 ((w.alloc (.cells #[.int .i64 0, .int .i64 0, .int .i64 0, .int .i64 0, .int .i64 0, .int .u8 0, .int .u8 0, .int .u8 0, .int .u8 0, .int .u8 0, .int .u8 0, .int .i64 0, .int .i64 0, .slice none 0 0] 28)).setRow w.heap.size (noNote.packet ep sq ak (.slice none 0 0))) T w.heap.size ep sq ak noNote (.slice none 0 0) := by
  have hl := laid_pkt' w (noNote.packet ep sq ak (.slice none 0 0))
  exact ⟨hl.2.blk ht (fun s => s.elim), hl.1, fun e => by have := blk_lt ht; omega, hT, hs.size, hs.then_ hl.2⟩

theorem of_two {W : World} {b o n c2 : Nat} {a0 a1 : Int} {R : List Int} (c : Nat) (h : Seg W (.slice (some ⟨b, o, none⟩) n c2) (a0 :: a1 :: R)) (hs : Small (a0 :: a1 :: R)) : Calls Tryd.prog 44 #[.slice (some ⟨b, o, none⟩) 2 c] W fun e w' => e = .returned (.int .i64 (of2 a0 a1)) ∧ W = w' := by
  obtain ⟨b', o', c', ev, hc⟩ := h.at_ (by simp)
  simp only [Value.slice.injEq, Option.some.injEq, Addr.mk.injEq, and_true] at ev
  obtain ⟨⟨rfl, rfl⟩, -, -⟩ := ev
  have h := of_any b o c [a0, a1] W (by simp) (fun x hx => hs x (by simp at hx ⊢; rcases hx with h | h <;> simp [h])) (fun j x hj => hc j x (by
    match j, hj with
    | 0, hj => exact hj
    | 1, hj => exact hj
    | j + 2, hj => simp at hj))
  have e : ofL [a0, a1] 0 = of2 a0 a1 := by simp [ofL, of2]
  rwa [e] at h
theorem seg_rest {W : World} {b o n c : Nat} {l : List Int} (h : Seg W (.slice (some ⟨b, o, none⟩) n c) l) (k : Nat) (hk : k ≤ n) : Seg W (.slice (some ⟨b, o + k, none⟩) (n - k) (c - k)) (l.drop k) ∧ n = l.length ∧ n ≤ c := by
  obtain ⟨ao, cap, ev, h1, h2, h3, h4⟩ := h
  simp only [Value.slice.injEq] at ev
  obtain ⟨rfl, rfl, rfl⟩ := ev
  have := seg_drop (n := k) hk h1 h2 h3 h4
  simp only [Option.map_some, add_plain] at this
  exact ⟨this, rfl, h1⟩
theorem seg_first {W : World} {b o n c : Nat} {x : Int} {l : List Int} (h : Seg W (.slice (some ⟨b, o, none⟩) n c) (x :: l)) : W.cell? ⟨b, o, none⟩ = some (.int .u8 x) := by
  obtain ⟨b', o', c', ev, hc⟩ := h.at_ (by simp)
  simp only [Value.slice.injEq, Option.some.injEq, Addr.mk.injEq, and_true] at ev
  obtain ⟨⟨rfl, rfl⟩, -, -⟩ := ev
  exact hc 0 x rfl
theorem seg_beside {W W' : World} {b o n c P : Nat} {l : List Int} (h : Seg W (.slice (some ⟨b, o, none⟩) n c) l) (hs : Step (fun k => k = P) W W') (hb : b ≠ P) : Seg W' (.slice (some ⟨b, o, none⟩) n c) l :=
  h.step hs fun _ k _ hk e => by simp [Leads, Value.ownBlock] at hk; omega
def macJ (m : List Int) (j : Nat) : List Int := m.take j ++ List.replicate (6 - j) 0
theorem mac_put {m : List Int} (hm : m.length = 6) (n : Note) (ep sq ak : Int) (bv : Value) (j : Nat) (hj : j < 6) (x : Int) (hx : m[j]? = some x) : ((n.setMac (macJ m j)).packet ep sq ak bv).setIfInBounds (5 + j) (.int .u8 x) = (n.setMac (macJ m (j + 1))).packet ep sq ak bv := by
  match m, hm with
  | [a, b, c, d, e, f], _ =>
    have hcs : j = 0 ∨ j = 1 ∨ j = 2 ∨ j = 3 ∨ j = 4 ∨ j = 5 := by omega
    rcases hcs with rfl | rfl | rfl | rfl | rfl | rfl <;> (simp at hx; subst hx; rfl)
theorem mac_get {m : List Int} (n : Note) (ep sq ak : Int) (bv : Value) (j : Nat) (hj : j < 6) : ∃ y, ((n.setMac (macJ m j)).packet ep sq ak bv)[5 + j]? = some (.int .u8 y) := by
  have hcs : j = 0 ∨ j = 1 ∨ j = 2 ∨ j = 3 ∨ j = 4 ∨ j = 5 := by omega
  rcases hcs with rfl | rfl | rfl | rfl | rfl | rfl <;> exact ⟨_, rfl⟩
theorem body_facts {n c : Nat} {z : Int} (hn : 2 < n) (hx : n ≤ 5020) (hnc : n ≤ c) (hz : 0 ≤ z) : ∃ yy mn : Nat, n - 2 = yy ∧ min z (yy : Int) = mn ∧ mn ≤ yy ∧ IntKind.i64.wrap ((n : Int) - 2) = (yy : Int) ∧ wrap64 ((n : Int) - 2) = (yy : Int) ∧ IntKind.i64.wrap (2 + (mn : Int)) = ((mn + 2 : Nat) : Int) ∧ wrap64 (2 + (mn : Int)) = ((mn + 2 : Nat) : Int) ∧
    (2 : Int) ≤ ((mn + 2 : Nat) : Int) ∧ ((mn + 2 : Nat) : Int) ≤ (c : Int) ∧ mn + 2 ≤ c ∧ mn ≤ c - 2 ∧ mn ≤ 5020 := by
  obtain ⟨mn, hmn⟩ : ∃ mn : Nat, min z ((n - 2 : Nat) : Int) = mn := ⟨(min z ((n - 2 : Nat) : Int)).toNat, by omega⟩
  have h2 : mn ≤ n - 2 := by omega
  clear hz
  refine ⟨n - 2, mn, rfl, hmn, h2, ?_, ?_, ?_, ?_, by omega, by omega, by omega, by omega, by omega⟩
  · rw [IntWalk.i64_in _ (by omega)]; omega
  · rw [IntWalk.wrap64_in _ ⟨by omega, by omega⟩]; omega
  · rw [IntWalk.i64_in _ (by omega)]; omega
  · rw [IntWalk.wrap64_in _ ⟨by omega, by omega⟩]; omega
theorem len_two {n yy mn : Nat} {a b z : Int} {R : List Int} (h : n = (a :: b :: R).length) (h2 : n - 2 = yy) (h3 : min z (yy : Int) = mn) : (min z (((a :: b :: R).length : Int) - 2)).toNat = mn ∧ yy = R.length := by
  have e : (((a :: b :: R).length : Nat) : Int) - 2 = (yy : Int) := by
    rw [← h]
    have : 2 ≤ n := by rw [h]; simp
    omega
  rw [e, h3]
  refine ⟨rfl, ?_⟩
  rw [← h2, h]
  rfl
theorem run_min_int (w : World) (ts : Array TypeId) (t : TypeId) (x y : Int) : (Builtin.min_ ts t #[.int .i64 x, .int .i64 y]).run Tryd.prog w = .ok (.int .i64 (min x y)) w := by
  simp only [Builtin.min_, List.foldlM_cons, List.foldlM_nil, Builtin.min2]
  by_cases h : x ≤ y
  · rw [Int.min_eq_left h]; simp; omega
  · rw [Int.min_eq_right (by omega)]; simp; omega
theorem two_of {l : List Int} (h : 2 ≤ l.length) : ∃ a b r, l = a :: b :: r := by
  match l, h with
  | a :: b :: r, _ => exact ⟨a, b, r, rfl⟩
theorem one_of {l : List Int} (h : 1 ≤ l.length) : ∃ a r, l = a :: r := by
  match l, h with
  | a :: r, _ => exact ⟨a, r, rfl⟩
theorem six_of {l : List Int} (h : 6 ≤ l.length) : ∃ m r, l = m ++ r ∧ m.length = 6 := ⟨l.take 6, l.drop 6, (List.take_append_drop 6 l).symm, by simp; omega⟩
theorem take6 {m r : List Int} (h : m.length = 6) (bd : Bool) : takeP 6 (m ++ r, bd) = (m, (r, bd)) := by rw [← h]; exact takeP_cons
theorem three (L : List Int) (h : 13 ≤ L.length) : ∃ x0 x1 x2 x3 x4 x5 x6 x7 x8 x9 x10 x11 x12, ∃ t, L = x0 :: x1 :: x2 :: x3 :: x4 :: x5 :: x6 :: x7 :: x8 :: x9 :: x10 :: x11 :: x12 :: t := by
  match L, h with
  | x0 :: x1 :: x2 :: x3 :: x4 :: x5 :: x6 :: x7 :: x8 :: x9 :: x10 :: x11 :: x12 :: t, _ => exact ⟨x0, x1, x2, x3, x4, x5, x6, x7, x8, x9, x10, x11, x12, t, rfl⟩

set_option linter.unusedSimpArgs false in
set_option maxRecDepth 100000 in
set_option maxHeartbeats 16000000 in
theorem rdecode_any (v : Value) (l : List Int) (w : World) (hs : Small l) (hv : Seg w v l) (hl9 : l.length ≤ 5000) :
    Calls Tryd.prog 21 #[v] w fun e w' => ∃ bo bc, e = .returned (.tuple #[.agg ((decN l).packet (decE l) (decS l) (decA l) (.slice bo (decN l).body.length bc)), .int .i64 (decCode l)]) ∧ Bytes w' (.slice bo (decN l).body.length bc) (decN l).body ∧ Step None w w' := by
  obtain ⟨W, hW⟩ : ∃ W, w.alloc (.cells #[.int .i64 0, .int .i64 0, .int .i64 0, .int .i64 0, .int .i64 0, .int .u8 0, .int .u8 0, .int .u8 0, .int .u8 0, .int .u8 0, .int .u8 0, .int .i64 0, .int .i64 0, .slice none 0 0] 28) = W := ⟨_, rfl⟩
  have b1 : W.heap[w.heap.size]? = some (.cells noPkt 28 (0, 0)) := by rw [← hW]; exact heap_alloc_new w _
  have s1 : Step None w W := by rw [← hW]; exact (Step.refl None w).alloc _
  have HE := Lib.hid hW
  have B1 := Lib.hid b1
  have S1 := Lib.hid s1
  clear hW
  by_cases h13 : l.length < 13
  · obtain ⟨ao, cap, ev⟩ := hv.form
    subst ev
    have hno : decOk l = false := by
      cases h : decOk l
      · rfl
      · have := (forth_law hs h).2.2.2; omega
    have HNO := Lib.hid hno
    have d1 : decide ((l.length : Int) < 13) = true := decide_eq_true (by omega)
    have d2 : decide (l.length < 13) = true := decide_eq_true h13
    clear hno hs hv b1 s1 hl9 h13
    go_enter Tryd.func21, Tryd.ntmps21
    go_wp2_with (first
      | rw [HE.out]
      | (refine wpList_store_row rfl 28 (.tmp 2) (.tmp 14) rfl w.heap.size noPkt rfl rfl 28 _ B1.out (by kernel_rfl) rfl (by simp [noPkt, Note.packet, noNote, Value.oneCell']) ?_))
    (try simp only [Exit.inBlock, Exit.then])
    refine bodyPost_ret (results_cell_row2 (P := Tryd.prog) (fn := Tryd.f21) rfl _ _ w.heap.size 28 noPkt (0, 0) _ rfl (setRow_heap _ _ _ _ _ _ B1.out) Tryd.underlying28 rfl (by kernel_rfl)) rfl ?_
    exact dec_fail HNO.out S1.out (Nat.le_refl _)
  have hl13 : 13 ≤ l.length := by omega
  obtain ⟨b, off, cap, rfl, hc⟩ := hv.at_ (by omega)
  have hcap : l.length ≤ cap := by
    obtain ⟨ao, cap', e, h, -⟩ := hv
    simp only [Value.slice.injEq] at e
    omega
  have hblt : b < w.heap.size := World.block_lt_of_cell? _ _ (hc 0 l[0] (List.getElem?_eq_getElem (by omega)))
  obtain ⟨x0, x1, x2, x3, x4, x5, x6, x7, x8, x9, x10, x11, x12, t, hlx⟩ := three l hl13
  have CC : Hid (∀ W', Step None w W' → ∀ j x, l[j]? = some x → W'.cell? ⟨b, off + j, none⟩ = some (.int .u8 x)) := Lib.hid fun W' h' j x hj => (h'.cell (p := ⟨b, off + j, none⟩) hblt (fun s => s.elim)).trans (hc j x hj)
  have OF : Hid (∀ W', Step None w W' → ∀ i c a0 a1 a2 a3, l[i]? = some a0 → l[i + 1]? = some a1 → l[i + 2]? = some a2 → l[i + 3]? = some a3 → Calls Tryd.prog 44 #[.slice (some ⟨b, off + i, none⟩) 4 c] W' fun e w'' => e = .returned (.int .i64 (of4 a0 a1 a2 a3)) ∧ W' = w'') := Lib.hid fun W' h' i c a0 a1 a2 a3 e0 e1 e2 e3 => by
    have hcc := CC.out W' h'
    have h := of_any b (off + i) c [a0, a1, a2, a3] W' (by simp) (fun x hx => by
      simp only [List.mem_cons, List.not_mem_nil, or_false] at hx
      rcases hx with rfl | rfl | rfl | rfl
      · exact hs _ (List.mem_of_getElem? e0)
      · exact hs _ (List.mem_of_getElem? e1)
      · exact hs _ (List.mem_of_getElem? e2)
      · exact hs _ (List.mem_of_getElem? e3)) (fun j x hj => by
        match j, hj with
        | 0, hj => simp at hj; subst hj; exact hcc i _ e0
        | 1, hj => simp at hj; subst hj; have := hcc _ _ e1; rwa [← Nat.add_assoc] at this
        | 2, hj => simp at hj; subst hj; have := hcc _ _ e2; rwa [← Nat.add_assoc] at this
        | 3, hj => simp at hj; subst hj; have := hcc _ _ e3; rwa [← Nat.add_assoc] at this
        | j + 4, hj => simp at hj)
    have e : ofL [a0, a1, a2, a3] 0 = of4 a0 a1 a2 a3 := by simp [ofL, of4, of2]; omega
    rwa [e] at h
  have O1 : Hid (∀ W', Step None w W' → Calls Tryd.prog 44 #[.slice (some ⟨b, off, none⟩) 4 cap] W' fun e w'' => e = .returned (.int .i64 (of4 x0 x1 x2 x3)) ∧ W' = w'') := Lib.hid fun W' h' => by
    have := OF.out W' h' 0 cap x0 x1 x2 x3 (by rw [hlx]; rfl) (by rw [hlx]; rfl) (by rw [hlx]; rfl) (by rw [hlx]; rfl)
    exact this
  have O2 : Hid (∀ W', Step None w W' → ∀ c, Calls Tryd.prog 44 #[.slice (some ⟨b, off + 4, none⟩) 4 c] W' fun e w'' => e = .returned (.int .i64 (of4 x4 x5 x6 x7)) ∧ W' = w'') := Lib.hid fun W' h' c =>
    OF.out W' h' 4 c x4 x5 x6 x7 (by rw [hlx]; rfl) (by rw [hlx]; rfl) (by rw [hlx]; rfl) (by rw [hlx]; rfl)
  have O3 : Hid (∀ W', Step None w W' → ∀ c, Calls Tryd.prog 44 #[.slice (some ⟨b, off + 8, none⟩) 4 c] W' fun e w'' => e = .returned (.int .i64 (of4 x8 x9 x10 x11)) ∧ W' = w'') := Lib.hid fun W' h' c =>
    OF.out W' h' 8 c x8 x9 x10 x11 (by rw [hlx]; rfl) (by rw [hlx]; rfl) (by rw [hlx]; rfl) (by rw [hlx]; rfl)
  have C12 : Hid (∀ W', Step None w W' → W'.cell? ⟨b, off + 12, none⟩ = some (.int .u8 x12)) := Lib.hid fun W' h' => CC.out W' h' 12 x12 (by rw [hlx]; rfl)
  have hx12 : 0 ≤ x12 ∧ x12 ≤ 255 := hs x12 (by rw [hlx]; simp)
  obtain ⟨k, hk⟩ : ∃ k : Nat, x12 = k := ⟨x12.toNat, by omega⟩
  have ek : IntKind.i64.wrap x12 = x12 := IntWalk.i64_in _ (by omega)
  have hk255 : k ≤ 255 := by omega
  have LAW := Lib.hid (ref_law hlx hs hk)
  have HT : Hid (l.drop 13 = t) := Lib.hid (by rw [hlx]; rfl)
  have HST : Hid (Small (t ++ pad) ∧ t.length ≤ 5000) := Lib.hid ⟨small_app (fun x hx => hs x (by rw [hlx]; simp [hx])) small_pad, by rw [hlx] at hl9; simp at hl9; omega⟩
  have HS := Lib.hid hs
  have HV := Lib.hid hv
  have HK := Lib.hid (And.intro hk hk255)
  obtain ⟨m, hm⟩ : ∃ m, l.length = m := ⟨_, rfl⟩
  have HM := Lib.hid (And.intro hm (And.intro hl13 hl9))
  rw [hm] at hcap h13
  have d1 : decide ((m : Int) < 13) = false := decide_eq_false (by omega)
  have d2 : decide (m < 13) = false := decide_eq_false (by omega)
  have g1 : (4 : Int) ≤ (cap : Int) := by omega
  have g2 : (8 : Int) ≤ (cap : Int) := by omega
  have g3 : (12 : Int) ≤ (cap : Int) := by omega
  have g4 : (13 : Int) ≤ (cap : Int) := by omega
  have g5 : (12 : Int) < (m : Int) := by omega
  have g6 : (13 : Int) ≤ (m : Int) := by omega
  have g7 : 4 ≤ cap := by omega
  have g8 : 8 ≤ cap := by omega
  have g9 : 12 ≤ cap := by omega
  have g10 : 13 ≤ cap := by omega
  have g11 : (m : Int) ≤ (cap : Int) := by omega
  have g12 : 12 < m := by omega
  have g13 : 13 ≤ m := by omega
  have g14 : m ≤ cap := hcap
  have n4 : ¬ cap = 4 := by omega
  have n8 : ¬ cap = 8 := by omega
  rw [hm]
  clear hs hv hc hcap hblt hlx OF CC hx12 hk hk255 hm hl13 hl9 h13 b1 s1
  generalize of4 x0 x1 x2 x3 = ep at *
  generalize of4 x4 x5 x6 x7 = sq at *
  generalize of4 x8 x9 x10 x11 = ak at *
  go_enter Tryd.func21, Tryd.ntmps21
  go_wp2_with (first
    | rw [HE.out])
  apply wp_cut1 (fun (P : Nat) (w' : World) => Dr w w' w.heap.size P ep sq ak noNote (.slice none 0 0))
  · refine wp_region_plan (fun _ => True) (.take 0 (.take 1 (.take 3 (.take 4 (.take 6 (.take 7 (.alt 2 (.alt 5 (.alt 8 (.take 9 (.alt 10 (.last 11) .none)) (.alt 10 (.alt 8 (.take 9 (.last 11)) .none) .none)) (.alt 10 (.alt 5 (.alt 8 (.take 9 (.last 11)) .none) .none) .none)) (.alt 10 (.alt 2 (.alt 5 (.alt 8 (.take 9 (.last 11)) .none) .none) .none) .none)))))))) _
      (by simp only [Plan.map, opOf, List.getElem?_toArray, List.getElem?_cons_zero, List.getElem?_cons_succ, Option.getD_some]; rfl) (by kernel_rfl) (by kernel_rfl) (by kernel_rfl) (by decide) (by intro c a d v w; intro h; exact absurd h.1 (by simp)) trivial ?_
    have SX := Lib.hid (S1.out.drew)
    have BX : Hid (W.drew.heap[w.heap.size]? = some (.cells noPkt 28 (0, 0))) := B1
    repeat (first | (refine wpPlan.taken (by rfl) (by intro w' hS'; (try dsimp only at hS'); go_split_ands; go_simp; try with_reducible rfl) ?_; simp only [Act.put, List.setIfInBounds_toArray, List.set_cons_zero, List.set_cons_succ]) | (refine wpPlan.passed (by rfl) ?_; simp only [Act.put, List.setIfInBounds_toArray, List.set_cons_zero, List.set_cons_succ]))
    refine wpPlan.parts ?_ ?_
    · refine wpPlan.runs fun K' hK => ?_
      go_simp
      refine (O1.out _ SX.out).mono ?_
      rintro e w' ⟨rfl, rfl⟩
      refine hK.out _ _ trivial ?_
      clear hK K'
      refine wpPlan.parts ?_ ?_
      · refine wpPlan.runs fun K' hK => ?_
        go_simp
        refine (O2.out _ SX.out _).mono ?_
        rintro e w' ⟨rfl, rfl⟩
        refine hK.out _ _ trivial ?_
        clear hK K'
        refine wpPlan.parts ?_ ?_
        · refine wpPlan.runs fun K' hK => ?_
          go_simp
          refine (O3.out _ SX.out _).mono ?_
          rintro e w' ⟨rfl, rfl⟩
          refine hK.out _ _ trivial ?_
          clear hK K'
          repeat (first | (refine wpPlan.taken (by rfl) (by intro w' hS'; (try dsimp only at hS'); go_split_ands; go_simp; try with_reducible rfl) ?_; simp only [Act.put, List.setIfInBounds_toArray, List.set_cons_zero, List.set_cons_succ]) | (refine wpPlan.passed (by rfl) ?_; simp only [Act.put, List.setIfInBounds_toArray, List.set_cons_zero, List.set_cons_succ]))
          refine wpPlan.runs fun K' hK => ?_
          go_simp
          have SY := Lib.hid (SX.out.alloc (.cells #[.int .i64 0, .int .i64 0, .int .i64 0, .int .i64 0, .int .i64 0, .int .u8 0, .int .u8 0, .int .u8 0, .int .u8 0, .int .u8 0, .int .u8 0, .int .i64 0, .int .i64 0, .slice none 0 0] 28))
          have DL := Lib.hid (dr_laid BX.out (Nat.le_refl _) SX.out ep sq ak)
          rw [show W.drew.heap.size = W.heap.size from rfl] at DL
          refine hK.out _ _ trivial ?_
          clear hK K'
          have HAL := Lib.hid (heap_alloc_new W.drew (.cells #[.int .i64 0, .int .i64 0, .int .i64 0, .int .i64 0, .int .i64 0, .int .u8 0, .int .u8 0, .int .u8 0, .int .u8 0, .int .u8 0, .int .u8 0, .int .i64 0, .int .i64 0, .slice none 0 0] 28))
          rw [show W.drew.heap.size = W.heap.size from rfl] at HAL
          generalize hP : W.heap.size = P at *
          clear hP
          refine wpPlan.ends fun K' hK => ?_
          rw [if_pos (by rfl)]
          refine wp_store_row 28 (.tmp 4) (.tmp 24) rfl P (noNote.packet ep sq ak (.slice none 0 0)) rfl rfl 28 _ HAL.out (by kernel_rfl) rfl (by simp [Note.packet, noNote, Value.oneCell']) (hK.out _ _ ?_)
          exact ⟨rfl, P, rfl, DL.out⟩
        · skip
          refine wpPlan.runs fun K' hK => ?_
          go_simp
          have SY := Lib.hid (SX.out.alloc (.cells #[.int .i64 0, .int .i64 0, .int .i64 0, .int .i64 0, .int .i64 0, .int .u8 0, .int .u8 0, .int .u8 0, .int .u8 0, .int .u8 0, .int .u8 0, .int .i64 0, .int .i64 0, .slice none 0 0] 28))
          have DL := Lib.hid (dr_laid BX.out (Nat.le_refl _) SX.out ep sq ak)
          rw [show W.drew.heap.size = W.heap.size from rfl] at DL
          refine hK.out _ _ trivial ?_
          clear hK K'
          have HAL := Lib.hid (heap_alloc_new W.drew (.cells #[.int .i64 0, .int .i64 0, .int .i64 0, .int .i64 0, .int .i64 0, .int .u8 0, .int .u8 0, .int .u8 0, .int .u8 0, .int .u8 0, .int .u8 0, .int .i64 0, .int .i64 0, .slice none 0 0] 28))
          rw [show W.drew.heap.size = W.heap.size from rfl] at HAL
          generalize hP : W.heap.size = P at *
          clear hP
          refine wpPlan.runs fun K' hK => ?_
          go_simp
          refine (O3.out _ SY.out _).mono ?_
          rintro e w' ⟨rfl, rfl⟩
          refine hK.out _ _ trivial ?_
          clear hK K'
          repeat (first | (refine wpPlan.taken (by rfl) (by intro w' hS'; (try dsimp only at hS'); go_split_ands; go_simp; try with_reducible rfl) ?_; simp only [Act.put, List.setIfInBounds_toArray, List.set_cons_zero, List.set_cons_succ]) | (refine wpPlan.passed (by rfl) ?_; simp only [Act.put, List.setIfInBounds_toArray, List.set_cons_zero, List.set_cons_succ]))
          refine wpPlan.ends fun K' hK => ?_
          rw [if_pos (by rfl)]
          refine wp_store_row 28 (.tmp 4) (.tmp 24) rfl P (noNote.packet ep sq ak (.slice none 0 0)) rfl rfl 28 _ HAL.out (by kernel_rfl) rfl (by simp [Note.packet, noNote, Value.oneCell']) (hK.out _ _ ?_)
          exact ⟨rfl, P, rfl, DL.out⟩
      · skip
        refine wpPlan.runs fun K' hK => ?_
        go_simp
        have SY := Lib.hid (SX.out.alloc (.cells #[.int .i64 0, .int .i64 0, .int .i64 0, .int .i64 0, .int .i64 0, .int .u8 0, .int .u8 0, .int .u8 0, .int .u8 0, .int .u8 0, .int .u8 0, .int .i64 0, .int .i64 0, .slice none 0 0] 28))
        have DL := Lib.hid (dr_laid BX.out (Nat.le_refl _) SX.out ep sq ak)
        rw [show W.drew.heap.size = W.heap.size from rfl] at DL
        refine hK.out _ _ trivial ?_
        clear hK K'
        have HAL := Lib.hid (heap_alloc_new W.drew (.cells #[.int .i64 0, .int .i64 0, .int .i64 0, .int .i64 0, .int .i64 0, .int .u8 0, .int .u8 0, .int .u8 0, .int .u8 0, .int .u8 0, .int .u8 0, .int .i64 0, .int .i64 0, .slice none 0 0] 28))
        rw [show W.drew.heap.size = W.heap.size from rfl] at HAL
        generalize hP : W.heap.size = P at *
        clear hP
        refine wpPlan.runs fun K' hK => ?_
        go_simp
        refine (O2.out _ SY.out _).mono ?_
        rintro e w' ⟨rfl, rfl⟩
        refine hK.out _ _ trivial ?_
        clear hK K'
        refine wpPlan.runs fun K' hK => ?_
        go_simp
        refine (O3.out _ SY.out _).mono ?_
        rintro e w' ⟨rfl, rfl⟩
        refine hK.out _ _ trivial ?_
        clear hK K'
        repeat (first | (refine wpPlan.taken (by rfl) (by intro w' hS'; (try dsimp only at hS'); go_split_ands; go_simp; try with_reducible rfl) ?_; simp only [Act.put, List.setIfInBounds_toArray, List.set_cons_zero, List.set_cons_succ]) | (refine wpPlan.passed (by rfl) ?_; simp only [Act.put, List.setIfInBounds_toArray, List.set_cons_zero, List.set_cons_succ]))
        refine wpPlan.ends fun K' hK => ?_
        rw [if_pos (by rfl)]
        refine wp_store_row 28 (.tmp 4) (.tmp 24) rfl P (noNote.packet ep sq ak (.slice none 0 0)) rfl rfl 28 _ HAL.out (by kernel_rfl) rfl (by simp [Note.packet, noNote, Value.oneCell']) (hK.out _ _ ?_)
        exact ⟨rfl, P, rfl, DL.out⟩
    · skip
      refine wpPlan.runs fun K' hK => ?_
      go_simp
      have SY := Lib.hid (SX.out.alloc (.cells #[.int .i64 0, .int .i64 0, .int .i64 0, .int .i64 0, .int .i64 0, .int .u8 0, .int .u8 0, .int .u8 0, .int .u8 0, .int .u8 0, .int .u8 0, .int .i64 0, .int .i64 0, .slice none 0 0] 28))
      have DL := Lib.hid (dr_laid BX.out (Nat.le_refl _) SX.out ep sq ak)
      rw [show W.drew.heap.size = W.heap.size from rfl] at DL
      refine hK.out _ _ trivial ?_
      clear hK K'
      have HAL := Lib.hid (heap_alloc_new W.drew (.cells #[.int .i64 0, .int .i64 0, .int .i64 0, .int .i64 0, .int .i64 0, .int .u8 0, .int .u8 0, .int .u8 0, .int .u8 0, .int .u8 0, .int .u8 0, .int .i64 0, .int .i64 0, .slice none 0 0] 28))
      rw [show W.drew.heap.size = W.heap.size from rfl] at HAL
      generalize hP : W.heap.size = P at *
      clear hP
      refine wpPlan.runs fun K' hK => ?_
      go_simp
      refine (O1.out _ SY.out).mono ?_
      rintro e w' ⟨rfl, rfl⟩
      refine hK.out _ _ trivial ?_
      clear hK K'
      refine wpPlan.runs fun K' hK => ?_
      go_simp
      refine (O2.out _ SY.out _).mono ?_
      rintro e w' ⟨rfl, rfl⟩
      refine hK.out _ _ trivial ?_
      clear hK K'
      refine wpPlan.runs fun K' hK => ?_
      go_simp
      refine (O3.out _ SY.out _).mono ?_
      rintro e w' ⟨rfl, rfl⟩
      refine hK.out _ _ trivial ?_
      clear hK K'
      repeat (first | (refine wpPlan.taken (by rfl) (by intro w' hS'; (try dsimp only at hS'); go_split_ands; go_simp; try with_reducible rfl) ?_; simp only [Act.put, List.setIfInBounds_toArray, List.set_cons_zero, List.set_cons_succ]) | (refine wpPlan.passed (by rfl) ?_; simp only [Act.put, List.setIfInBounds_toArray, List.set_cons_zero, List.set_cons_succ]))
      refine wpPlan.ends fun K' hK => ?_
      rw [if_pos (by rfl)]
      refine wp_store_row 28 (.tmp 4) (.tmp 24) rfl P (noNote.packet ep sq ak (.slice none 0 0)) rfl rfl 28 _ HAL.out (by kernel_rfl) rfl (by simp [Note.packet, noNote, Value.oneCell']) (hK.out _ _ ?_)
      exact ⟨rfl, P, rfl, DL.out⟩
  intro P w2 dr
  have DR := Lib.hid dr
  have c12 := C12.out w2 dr.st
  have z3 := blk_cell dr.p 3
  have f3 := blk_frozen dr.p 3
  simp only [Note.packet, noNote, List.getElem?_toArray, List.getElem?_cons_zero, List.getElem?_cons_succ] at z3
  have D2 := Lib.hid (dr.put 3 (.int .i64 x12) (n' := { noNote with kind := x12 }) (bv' := .slice none 0 0) rfl).1
  obtain ⟨W3, hW3⟩ : ∃ W3, w2.setCell ⟨P, 3, none⟩ (.int .i64 x12) = W3 := ⟨_, rfl⟩
  rw [hW3] at D2
  have HE3 := Lib.hid hW3
  clear dr hW3 DR
  obtain rfl : x12 = (k : Int) := HK.out.1
  have ht13 : t.length = m - 13 := by
    have h1 := HT.out
    have h2 := congrArg List.length h1
    rw [List.length_drop, HM.out.1] at h2
    omega
  have SG34 : Hid (Seg w (.slice (if cap = 13 then some ⟨b, off, none⟩ else some ⟨b, off + 13, none⟩) (m - 13) (cap - 13)) t) := by
    have hsr := HV.out
    rw [HM.out.1] at hsr
    obtain ⟨h1, -, h3⟩ := seg_rest hsr 13 g13
    rw [HT.out] at h1
    by_cases hc : cap = 13
    · rw [if_pos hc]
      have ht0 : t = [] := List.eq_nil_of_length_eq_zero (by omega)
      subst ht0
      exact Lib.hid ⟨some ⟨b, off, none⟩, cap - 13, by rw [show m - 13 = 0 by omega]; rfl, by simp, by omega, fun e => absurd e (by simp), fun j x hj => by simp at hj⟩
    · rw [if_neg hc]
      exact Lib.hid h1
  obtain ⟨q34, hq34⟩ : ∃ q : Option Addr, (if cap = 13 then some ⟨b, off, none⟩ else some ⟨b, off + 13, none⟩) = q := ⟨_, rfl⟩
  rw [hq34] at SG34
  have HTL := Lib.hid ht13
  have hrow0 : Row (W3.alloc (.cells #[] 5)) 5 1 (.slice (some ⟨W3.heap.size, 0, none⟩) 0 0) 0 [] := Row.ofBlock (n := 0) (cap := 0) (heap_alloc_new W3 (.cells #[] 5)) (Nat.le_refl _) (by simp [maxLen]) (by simp)
  have sa := (Step.refl None W3).alloc (.cells #[] 5)
  obtain ⟨W5, hW5⟩ : ∃ W5, W3.alloc (.cells #[] 5) = W5 := ⟨_, rfl⟩
  rw [hW5] at sa hrow0
  have R0 := Lib.hid hrow0
  have HE5 := Lib.hid hW5
  have D5 := Lib.hid (D2.out.still sa)
  have SZ := Lib.hid (D2.out.st.size)
  have B34 := Lib.hid (((SG34.out.still D5.out.st).bytes (by have := HST.out.2; omega)).src Tryd.underlying24)
  rw [ht13] at B34
  clear ht13 hrow0 sa hW5 D2 B1 S1
  go_wp2_with (first
    | rw [HE3.out]
    | rw [HE5.out]
    | (at_builtin; refine wpList_append_row T24 rfl (.tmp 32) (.tmp 34) rfl rfl R0.out rfl B34.out ?ha ?hb ?_))
  case ha => have := HM.out; simp [maxLen]; omega
  case hb => have := HM.out; simp; omega
  clear hq34
  intro v6 W6 r6 s6 l6
  have lead5 : ∀ k, Leads (.slice (some ⟨W3.heap.size, 0, none⟩) 0 0) k → k = W3.heap.size := fun k hk => by simp [Leads, Value.ownBlock] at hk; exact hk.symm
  have D6 := Lib.hid (D5.out.led R0.out s6 fun k hk => by have := lead5 k hk; have := SZ.out; omega)
  have n6 : Hid (∀ k, Leads v6 k → w.heap.size ≤ k) := Lib.hid fun k hk => by
    rcases l6 k hk with h | h
    · have := lead5 k h; have := SZ.out; omega
    · have := D5.out.st.size; omega
  obtain ⟨v7, W7, hr7, r7, s7, l7⟩ := run_append_zeros W6 24 r6 (by have := HM.out; omega)
  have D7 := Lib.hid (D6.out.led r6 s7 n6.out)
  have hr7 := Lib.hid hr7
  have SG7 : Hid (Seg W7 v7 (t ++ pad)) := Lib.hid (seg_row (by
    have e : (t ++ pad).length = 0 + (m - 13) + 20 := by rw [List.length_append, HTL.out]; simp [pad]
    rw [e]
    simpa [pad] using r7))
  have PN7 : Hid (¬ Leads v7 P) := Lib.hid (r7.ne D7.out.p (by decide))
  clear r6 s6 l6 lead5 D5 D6 n6 R0 HE5 HE3 B34 r7 s7 l7 SG34
  go_wp2_with (first
    | (at_builtin; refine Lib.wpList_append_run _ rfl _ _ _ _ rfl _ _ rfl rfl _ _ hr7.out ?_))
  clear hr7
  have HSM := Lib.hid HST.out.1
  have HLN : Hid ((t ++ pad).length = t.length + 20 ∧ t.length ≤ 5000) := Lib.hid ⟨by simp [pad], HST.out.2⟩
  have RH := Lib.hid (rhas_all k HK.out.2)
  have HSE : Hid (Small (encB ep sq ak (refN k (t ++ pad, false)))) := Lib.hid (by obtain ⟨q1, q2⟩ := refN_small (k := k) (s := (t ++ pad, false)) HST.out.1; exact encB_small q1 q2)
  have RV := Lib.hid (fun W => (RH.out W).1)
  have RM := Lib.hid (fun W => (RH.out W).2.1)
  have RP := Lib.hid (fun W => (RH.out W).2.2.1)
  have RS := Lib.hid (fun W => (RH.out W).2.2.2.1)
  have RB := Lib.hid (fun W => (RH.out W).2.2.2.2)
  have T1 := Lib.hid (show 20 ≤ (t ++ pad).length by have := HLN.out; omega)
  have T2 := Lib.hid (show (t ++ pad).length ≤ 5020 by have := HLN.out; omega)
  clear g1 g2 g3 g4 g5 g6 g7 g8 g9 g10 g11 g12 g13 g14 n4 n8 d1 d2 O1 O2 O3 C12 c12 z3 f3 HTL HT HST HLN SZ RH
  generalize t ++ pad = R at *
  obtain ⟨b7, o7, c7, ev, hc7⟩ := SG7.out.at_ (by have := T1.out; omega)
  subst ev
  have BP : Hid (b7 ≠ P) := Lib.hid fun e => PN7.out (by rw [e]; rfl)
  obtain ⟨n7, hn7⟩ : ∃ n, R.length = n := ⟨_, rfl⟩
  rw [hn7] at SG7
  rw [hn7]
  have HN7 := Lib.hid hn7
  clear hc7 PN7 hn7
  have DZ : Hid (Dr w W7 w.heap.size P ep sq ak { noNote with kind := (k : Int) } (.slice none 0 0)) := D7
  clear D7
  rcases pats_all k with HPAT | HPAT | HPAT | HPAT | HPAT | HPAT | HPAT
  · obtain ⟨hv, hm, hp, hq, hb⟩ := HPAT
    rw [hv] at RV
    rw [hm] at RM
    rw [hp] at RP
    rw [hq] at RS
    rw [hb] at RB
    have LB7 : Hid (20 ≤ n7 ∧ n7 ≤ 5020) := Lib.hid (by rw [← HN7.out]; exact ⟨T1.out, T2.out⟩)
    go_wp2_with fail
    refine (RV.out _).mono ?_
    rintro e w' ⟨rfl, rfl⟩
    go_wp2_with fail
    go_loopw [6, 7] (fun u i wr => u = .slice (some ⟨b7, o7, none⟩) n7 c7 ∧ i = .int .i64 0 ∧ W7 = wr) (fun _ _ _ => 0)
    case atStart => exact ⟨rfl, rfl, rfl⟩
    case round =>
      obtain ⟨rfl, rfl, rfl⟩ := hrel
      go_wp2_with fail
      refine (RM.out _).mono ?_
      rintro e w' ⟨rfl, rfl⟩
      go_wp2_with fail
      refine (RP.out _).mono ?_
      rintro e w' ⟨rfl, rfl⟩
      go_wp2_with fail
      refine (RS.out _).mono ?_
      rintro e w' ⟨rfl, rfl⟩
      go_wp2_with fail
      have EN : refN k (R, false) = ({ noNote with kind := (k : Int), vlan := 0, port := 0, state := 0 } : Note) := by
        simp only [refN, sV, sM, sP, sS, pV, pM, pP, pS, opt, hv, hm, hp, hq, hb, if_true, if_false, Bool.false_eq_true, shortP_cons, byteP_cons]
        rfl
      rw [EN] at LAW HSE
      have hNB : (({ noNote with kind := (k : Int), vlan := 0, port := 0, state := 0 } : Note)).body = [] := rfl
      clear EN
      have DX : Hid (Dr w W7 w.heap.size P ep sq ak ({ noNote with kind := (k : Int), vlan := 0, port := 0, state := 0 } : Note) (.slice none 0 0)) := DZ
      generalize ({ noNote with kind := (k : Int), vlan := 0, port := 0, state := 0 } : Note) = N at *
      have DF : Hid (Dr w W7 w.heap.size P ep sq ak N (.slice none N.body.length 0)) := by rw [hNB]; exact DX
      have BF : Hid (Bytes W7 (.slice none N.body.length 0) N.body) := by rw [hNB]; exact Lib.hid (.inl ⟨rfl, rfl⟩)
      have LF : Hid (¬ Leads (.slice none N.body.length 0) w.heap.size ∧ N.body.length ≤ 10000) := by rw [hNB]; exact Lib.hid ⟨fun hk => by simp [Leads, Value.ownBlock] at hk, by simp⟩
      have LP := Lib.hid (load_pkt DF.out.p)
      have RE := Lib.hid (rencode_all ep sq ak N none 0 W7 BF.out LF.out.2)
      clear hNB DX DZ
      refine (RB.out _).mono ?_
      rintro e w' ⟨rfl, rfl⟩
      go_wp2_with (first
        | (refine wpList_load_is 28 (.tmp 4) rfl rfl rfl LP.out ?_))
      refine RE.out.mono ?_
      rintro e W9 ⟨u, rfl, hu, s9⟩
      have D9 := Lib.hid (DF.out.still s9)
      have B9 := Lib.hid (BF.out.step s9 (fun _ _ s => s.elim))
      have LP := Lib.hid (load_pkt D9.out.p)
      have hE := encB_max ep sq ak N
      have t1 := seg_text (seg_row hu.row) (by have := LF.out.2; omega)
      have hvl := HV.out
      rw [HM.out.1] at hvl
      have t2 := seg_text (hvl.still D9.out.st) (by have := HM.out; omega)
      have HF := Lib.hid hu.form
      have HC := Lib.hid (show codeB ep sq ak N = if okP ep sq ak N then 0 else 1 from rfl)
      clear s9 hu DF BF RE hE hvl
      cases ho : okP ep sq ak N
      · have hc : codeB ep sq ak N = 1 := by rw [HC.out, ho]; rfl
        rw [hc]
        have HNO : Hid (decOk l = false) := by
          cases hd : decOk l
          · exact Lib.hid rfl
          · have := (LAW.out.2 hd).1
            rw [ho] at this
            cases this
        clear hc ho t1 t2 HC
        obtain ⟨xo, xc, rfl⟩ := HF.out
        go_wp2_with (first
          | (refine wpList_store_row rfl 28 (.tmp 2) (.tmp 113) rfl w.heap.size noPkt rfl rfl 28 _ D9.out.t (by kernel_rfl) rfl (by simp [noPkt, Note.packet, noNote, Value.oneCell']) ?_))
        (try simp only [Exit.inBlock, Exit.then])
        refine bodyPost_ret (results_cell_row2 (P := Tryd.prog) (fn := Tryd.f21) rfl _ _ w.heap.size 28 noPkt (0, 0) _ rfl (setRow_heap _ _ _ _ _ _ D9.out.t) Tryd.underlying28 rfl (by kernel_rfl)) rfl ?_
        exact dec_fail HNO.out D9.out.st D9.out.newT
      · have hc : codeB ep sq ak N = 0 := by rw [HC.out, ho]; rfl
        rw [hc]
        cases hd : decOk l
        · have hne : encB ep sq ak N ≠ l := by
            rcases LAW.out.1 hd with h | h
            · rw [ho] at h; cases h
            · exact h
          have hsm : Small (encB ep sq ak N) := HSE.out
          have tb := text_beq hsm HS.out
          rw [decide_eq_false hne] at tb
          have tb2 : ((strOfNums (encB ep sq ak N)).toList != (strOfNums l).toList) = true := by rw [bne, tb]; rfl
          have HNO := Lib.hid hd
          clear hc ho HC hsm hne hd
          obtain ⟨xo, xc, rfl⟩ := HF.out
          generalize strOfNums (encB ep sq ak N) = sE at *
          generalize strOfNums l = sL at *
          go_wp2_with (first
            | (refine wpList_store_row rfl 28 (.tmp 2) (.tmp 113) rfl w.heap.size noPkt rfl rfl 28 _ D9.out.t (by kernel_rfl) rfl (by simp [noPkt, Note.packet, noNote, Value.oneCell']) ?_))
          (try simp only [Exit.inBlock, Exit.then])
          refine bodyPost_ret (results_cell_row2 (P := Tryd.prog) (fn := Tryd.f21) rfl _ _ w.heap.size 28 noPkt (0, 0) _ rfl (setRow_heap _ _ _ _ _ _ D9.out.t) Tryd.underlying28 rfl (by kernel_rfl)) rfl ?_
          exact dec_fail HNO.out D9.out.st D9.out.newT
        · obtain ⟨-, he, h3, h4, h5, h6⟩ := LAW.out.2 hd
          have HY := Lib.hid (And.intro h3 (And.intro h4 (And.intro h5 (And.intro h6 (show decCode l = 0 by rw [decCode, if_pos hd])))))
          rw [he] at t1
          rw [he] at HF
          clear hc ho HC hd h3 h4 h5 h6 he
          obtain ⟨xo, xc, rfl⟩ := HF.out
          generalize strOfNums l = sL at *
          go_wp2_with (first
            | (refine wpList_load_is 28 (.tmp 4) rfl rfl rfl LP.out ?_)
            | (refine wpList_store_row rfl 28 (.tmp 2) (.tmp 114) rfl w.heap.size (N.packet ep sq ak (.slice none N.body.length 0)) rfl rfl 28 _ D9.out.t (by kernel_rfl) rfl (by simp [Note.packet, Value.oneCell']) ?_))
          (try simp only [Exit.inBlock, Exit.then])
          refine bodyPost_ret (results_cell_row2 (P := Tryd.prog) (fn := Tryd.f21) rfl _ _ w.heap.size 28 (N.packet ep sq ak (.slice none N.body.length 0)) (0, 0) _ rfl (setRow_heap _ _ _ _ _ _ D9.out.t) Tryd.underlying28 rfl (by kernel_rfl)) rfl ?_
          obtain ⟨h3, h4, h5, h6, h7⟩ := HY.out
          rw [h3, h4, h5, h6, h7]
          exact ⟨none, 0, rfl, B9.out.step (step_setRow (S := fun k => k = w.heap.size) (Step.refl _ _) (fun _ => rfl) _) (fun k hk e => LF.out.1 (e ▸ hk)), step_setRow D9.out.st (fun hh => by have := D9.out.newT; omega) _⟩
  · obtain ⟨hv, hm, hp, hq, hb⟩ := HPAT
    rw [hv] at RV
    rw [hm] at RM
    rw [hp] at RP
    rw [hq] at RS
    rw [hb] at RB
    have LB7 : Hid (20 ≤ n7 ∧ n7 ≤ 5020) := Lib.hid (by rw [← HN7.out]; exact ⟨T1.out, T2.out⟩)
    go_wp2_with fail
    refine (RV.out _).mono ?_
    rintro e w' ⟨rfl, rfl⟩
    obtain ⟨hsr, hnl, hnc⟩ := seg_rest SG7.out 2 (by have := LB7.out; omega)
    have i1 : (2 : Int) ≤ (c7 : Int) := by have := LB7.out; omega
    have i2 : 2 ≤ c7 := by have := LB7.out; omega
    have i3 : (2 : Int) ≤ (n7 : Int) := by have := LB7.out; omega
    have i4 : 2 ≤ n7 := by have := LB7.out; omega
    have i5 : ¬ c7 = 2 := by have := LB7.out; omega
    have i6 : (n7 : Int) ≤ (c7 : Int) := by omega
    have i7 : n7 ≤ c7 := hnc
    have i8 : (0 : Int) < (n7 : Int) := by have := LB7.out; omega
    have i9 : 0 < n7 := by have := LB7.out; omega
    have HSR := Lib.hid hsr
    clear hsr hnc
    obtain ⟨ya1, yb1, R1, rfl⟩ := two_of (l := R) (by have h2 : n7 = R.length := hnl; omega)
    clear hnl
    have OT := Lib.hid (of_two c7 SG7.out HSM.out)
    go_wp2_with fail
    refine OT.out.mono ?_
    rintro e w' ⟨rfl, rfl⟩
    clear OT
    have ccl := blk_cell DZ.out.p 4
    have cfz := blk_frozen DZ.out.p 4
    simp only [Note.packet, noNote, List.getElem?_toArray, List.getElem?_cons_zero, List.getElem?_cons_succ] at ccl
    have hput := DZ.out.put 4 (.int .i64 (of2 ya1 yb1)) (n' := ({ noNote with kind := (k : Int), vlan := (of2 ya1 yb1), port := 0, state := 0 } : Note)) (bv' := .slice none 0 0) rfl
    obtain ⟨V2, hV2⟩ : ∃ W', World.setCell W7 ⟨P, 4, none⟩ (.int .i64 (of2 ya1 yb1)) = W' := ⟨_, rfl⟩
    rw [hV2] at hput
    have E2 := Lib.hid hV2
    have D2 := Lib.hid hput.1
    have HPUT := Lib.hid hput.2
    clear hput hV2
    have HSM := Lib.hid (show Small R1 from fun x hx => HSM.out x (by simp [hx]))
    go_wp2_with (first
      | rw [E2.out])
    clear i1 i2 i3 i4 i5 i6 i7 i8 i9
    have SG2 := Lib.hid (seg_beside HSR.out HPUT.out BP.out)
    generalize o7 + 2 = o2 at *
    generalize hn2 : n7 - 2 = n2 at *
    generalize c7 - 2 = c2 at *
    have LB2 : Hid (18 ≤ n2 ∧ n2 ≤ 5020) := Lib.hid (by have := LB7.out; omega)
    clear HPUT hn2 HSR ccl cfz DZ SG7
    obtain ⟨mm, Rm, rfl, hm6⟩ := six_of (l := R1) (by
      obtain ⟨-, hnl, -⟩ := seg_rest SG2.out 0 (Nat.zero_le _)
      have h2 : n2 = R1.length := hnl
      have := LB2.out
      omega)
    have HM6 := Lib.hid hm6
    clear hm6
    go_loopw [6, 7] (fun u i wr => ∃ (j : Nat) (W' : World) (oj nj cj : Nat), W' = wr ∧ j ≤ 6 ∧ i = .int .i64 j ∧ u = .slice (some ⟨b7, oj, none⟩) nj cj ∧ Hid (Seg wr (.slice (some ⟨b7, oj, none⟩) nj cj) ((mm ++ Rm).drop j)) ∧ Hid (18 ≤ nj + j ∧ nj ≤ 5020) ∧ Hid (Dr w wr w.heap.size P ep sq ak (Note.setMac ({ noNote with kind := (k : Int), vlan := (of2 ya1 yb1), port := 0, state := 0 } : Note) (macJ mm j)) (.slice none 0 0))) (fun _ i _ => 6 - (intOf i).toNat)
    case atStart => exact ⟨0, _, _, _, _, rfl, by omega, rfl, rfl, SG2, Lib.hid (by have := LB2.out; omega), D2⟩
    case round =>
      clear SG2 D2
      obtain ⟨j, Wj, oj, nj, cj, rfl, hj6, rfl, rfl, SGj, LBj, Dj⟩ := hrel
      by_cases hj : j < 6
      · have e1 : decide ((j : Int) < 6) = true := decide_eq_true (by omega)
        have e2 : decide (j < 6) = true := decide_eq_true hj
        have j0 : (0 : Int) ≤ (j : Int) := by omega
        have j6 : (j : Int) < 6 := by omega
        have hw : IntKind.i64.wrap ((j : Int) + 1) = (j : Int) + 1 := IntWalk.i64_in _ (by omega)
        have HJ := Lib.hid hj
        obtain ⟨x, hx⟩ : ∃ x, mm[j]? = some x := ⟨mm[j]'(by rw [HM6.out]; exact hj), List.getElem?_eq_getElem _⟩
        have hdr : (mm ++ Rm).drop j = x :: (mm ++ Rm).drop (j + 1) := by
          have hjl : j < (mm ++ Rm).length := by simp [HM6.out]; omega
          rw [List.drop_eq_getElem_cons hjl]
          congr 1
          have h2 : (mm ++ Rm)[j]? = some x := by rw [List.getElem?_append_left (by rw [HM6.out]; exact hj)]; exact hx
          rw [List.getElem?_eq_getElem hjl] at h2
          exact Option.some.inj h2
        have HDR : Hid ((mm ++ Rm).drop (j + 1) = ((mm ++ Rm).drop j).drop 1) := Lib.hid (by rw [List.drop_drop])
        have sgx := SGj.out
        rw [hdr] at sgx
        have ca := seg_first sgx
        obtain ⟨y, hy⟩ := mac_get ({ noNote with kind := (k : Int), vlan := (of2 ya1 yb1), port := 0, state := 0 } : Note) ep sq ak (.slice none 0 0) (m := mm) j hj
        have ccl := blk_cell Dj.out.p (5 + j)
        rw [hy] at ccl
        have cfz := blk_frozen Dj.out.p (5 + j)
        have hput := Dj.out.put (5 + j) (.int .u8 x) (mac_put HM6.out ({ noNote with kind := (k : Int), vlan := (of2 ya1 yb1), port := 0, state := 0 } : Note) ep sq ak (.slice none 0 0) j hj x hx)
        obtain ⟨VV, hVV⟩ : ∃ W', World.setCell Wj ⟨P, 5 + j, none⟩ (.int .u8 x) = W' := ⟨_, rfl⟩
        rw [hVV] at hput
        have EV := Lib.hid hVV
        have DV := Lib.hid hput.1
        have HPUT := Lib.hid hput.2
        obtain ⟨hsr, hnl, hnc⟩ := seg_rest SGj.out 1 (by have := LBj.out; have := HJ.out; omega)
        have i1 : (1 : Int) ≤ (cj : Int) := by have := LBj.out; have := HJ.out; omega
        have i2 : 1 ≤ cj := by have := LBj.out; have := HJ.out; omega
        have i3 : (1 : Int) ≤ (nj : Int) := by have := LBj.out; have := HJ.out; omega
        have i4 : 1 ≤ nj := by have := LBj.out; have := HJ.out; omega
        have i5 : ¬ cj = 1 := by have := LBj.out; have := HJ.out; omega
        have i6 : (nj : Int) ≤ (cj : Int) := by omega
        have i7 : nj ≤ cj := hnc
        have i8 : (0 : Int) < (nj : Int) := by have := LBj.out; have := HJ.out; omega
        have i9 : 0 < nj := by have := LBj.out; have := HJ.out; omega
        have HSR := Lib.hid hsr
        clear hsr hnc
        clear hnl hput hVV hdr hx hy sgx hj6 hj
        go_wp2_with fail
        refine (RM.out _).mono ?_
        rintro e w' ⟨rfl, rfl⟩
        go_wp2_with (first
          | rw [EV.out])
        have SGn := Lib.hid (seg_beside HSR.out HPUT.out BP.out)
        go_roundw
        case rel => exact ⟨j + 1, _, _, _, _, rfl, by have := HJ.out; omega, rfl, rfl, by rw [HDR.out]; exact SGn, Lib.hid (by have := LBj.out; omega), DV⟩
        case measure => have := HJ.out; simp [intOf]; omega
      · have e1 : decide ((j : Int) < 6) = false := decide_eq_false (by omega)
        obtain rfl : j = 6 := by omega
        have hmj : macJ mm 6 = mm := by unfold macJ; rw [List.take_of_length_le (by rw [HM6.out]; omega)]; simp
        rw [hmj] at Dj
        rw [List.drop_left' HM6.out] at SGj
        have LBk : Hid (12 ≤ nj ∧ nj ≤ 5020) := Lib.hid (by have := LBj.out; omega)
        have HSM := Lib.hid (show Small Rm from fun x hx => HSM.out x (List.mem_append.2 (.inr hx)))
        clear hmj LBj hj6 hj
        go_wp2_with fail
        clear e1
        refine (RP.out _).mono ?_
        rintro e w' ⟨rfl, rfl⟩
        obtain ⟨hsr, hnl, hnc⟩ := seg_rest SGj.out 2 (by have := LBk.out; omega)
        have i1 : (2 : Int) ≤ (cj : Int) := by have := LBk.out; omega
        have i2 : 2 ≤ cj := by have := LBk.out; omega
        have i3 : (2 : Int) ≤ (nj : Int) := by have := LBk.out; omega
        have i4 : 2 ≤ nj := by have := LBk.out; omega
        have i5 : ¬ cj = 2 := by have := LBk.out; omega
        have i6 : (nj : Int) ≤ (cj : Int) := by omega
        have i7 : nj ≤ cj := hnc
        have i8 : (0 : Int) < (nj : Int) := by have := LBk.out; omega
        have i9 : 0 < nj := by have := LBk.out; omega
        have HSR := Lib.hid hsr
        clear hsr hnc
        obtain ⟨ya3, yb3, R3, rfl⟩ := two_of (l := Rm) (by have h2 : nj = Rm.length := hnl; omega)
        clear hnl
        have OT := Lib.hid (of_two cj SGj.out HSM.out)
        go_wp2_with fail
        refine OT.out.mono ?_
        rintro e w' ⟨rfl, rfl⟩
        clear OT
        have ccl := blk_cell Dj.out.p 11
        have cfz := blk_frozen Dj.out.p 11
        simp only [Note.packet, noNote, List.getElem?_toArray, List.getElem?_cons_zero, List.getElem?_cons_succ] at ccl
        have hput := Dj.out.put 11 (.int .i64 (of2 ya3 yb3)) (n' := (({ noNote with kind := (k : Int), vlan := (of2 ya1 yb1), port := (of2 ya3 yb3), state := 0 } : Note).setMac mm)) (bv' := .slice none 0 0) rfl
        obtain ⟨V4, hV4⟩ : ∃ W', World.setCell Wj ⟨P, 11, none⟩ (.int .i64 (of2 ya3 yb3)) = W' := ⟨_, rfl⟩
        rw [hV4] at hput
        have E4 := Lib.hid hV4
        have D4 := Lib.hid hput.1
        have HPUT := Lib.hid hput.2
        clear hput hV4
        have HSM := Lib.hid (show Small R3 from fun x hx => HSM.out x (by simp [hx]))
        go_wp2_with (first
          | rw [E4.out])
        clear i1 i2 i3 i4 i5 i6 i7 i8 i9
        have SG4 := Lib.hid (seg_beside HSR.out HPUT.out BP.out)
        generalize oj + 2 = o4 at *
        generalize hn4 : nj - 2 = n4 at *
        generalize cj - 2 = c4 at *
        have LB4 : Hid (10 ≤ n4 ∧ n4 ≤ 5020) := Lib.hid (by have := LBk.out; omega)
        clear HPUT hn4 HSR ccl cfz Dj SGj
        refine (RS.out _).mono ?_
        rintro e w' ⟨rfl, rfl⟩
        go_wp2_with fail
        have EN : refN k ((ya1 :: yb1 :: (mm ++ (ya3 :: yb3 :: R3))), false) = (({ noNote with kind := (k : Int), vlan := (of2 ya1 yb1), port := (of2 ya3 yb3), state := 0 } : Note).setMac mm) := by
          simp only [refN, sV, sM, sP, sS, pV, pM, pP, pS, opt, hv, hm, hp, hq, hb, if_true, if_false, Bool.false_eq_true, shortP_cons, byteP_cons, take6 HM6.out]
          rfl
        rw [EN] at LAW HSE
        have hNB : ((({ noNote with kind := (k : Int), vlan := (of2 ya1 yb1), port := (of2 ya3 yb3), state := 0 } : Note).setMac mm)).body = [] := rfl
        clear EN
        have DX : Hid (Dr w V4 w.heap.size P ep sq ak (({ noNote with kind := (k : Int), vlan := (of2 ya1 yb1), port := (of2 ya3 yb3), state := 0 } : Note).setMac mm) (.slice none 0 0)) := D4
        generalize (({ noNote with kind := (k : Int), vlan := (of2 ya1 yb1), port := (of2 ya3 yb3), state := 0 } : Note).setMac mm) = N at *
        have DF : Hid (Dr w V4 w.heap.size P ep sq ak N (.slice none N.body.length 0)) := by rw [hNB]; exact DX
        have BF : Hid (Bytes V4 (.slice none N.body.length 0) N.body) := by rw [hNB]; exact Lib.hid (.inl ⟨rfl, rfl⟩)
        have LF : Hid (¬ Leads (.slice none N.body.length 0) w.heap.size ∧ N.body.length ≤ 10000) := by rw [hNB]; exact Lib.hid ⟨fun hk => by simp [Leads, Value.ownBlock] at hk, by simp⟩
        have LP := Lib.hid (load_pkt DF.out.p)
        have RE := Lib.hid (rencode_all ep sq ak N none 0 V4 BF.out LF.out.2)
        clear hNB DX D4
        refine (RB.out _).mono ?_
        rintro e w' ⟨rfl, rfl⟩
        go_wp2_with (first
          | (refine wpList_load_is 28 (.tmp 4) rfl rfl rfl LP.out ?_))
        refine RE.out.mono ?_
        rintro e W9 ⟨u, rfl, hu, s9⟩
        have D9 := Lib.hid (DF.out.still s9)
        have B9 := Lib.hid (BF.out.step s9 (fun _ _ s => s.elim))
        have LP := Lib.hid (load_pkt D9.out.p)
        have hE := encB_max ep sq ak N
        have t1 := seg_text (seg_row hu.row) (by have := LF.out.2; omega)
        have hvl := HV.out
        rw [HM.out.1] at hvl
        have t2 := seg_text (hvl.still D9.out.st) (by have := HM.out; omega)
        have HF := Lib.hid hu.form
        have HC := Lib.hid (show codeB ep sq ak N = if okP ep sq ak N then 0 else 1 from rfl)
        clear s9 hu DF BF RE hE hvl
        cases ho : okP ep sq ak N
        · have hc : codeB ep sq ak N = 1 := by rw [HC.out, ho]; rfl
          rw [hc]
          have HNO : Hid (decOk l = false) := by
            cases hd : decOk l
            · exact Lib.hid rfl
            · have := (LAW.out.2 hd).1
              rw [ho] at this
              cases this
          clear hc ho t1 t2 HC
          obtain ⟨xo, xc, rfl⟩ := HF.out
          go_wp2_with (first
            | (refine wpList_store_row rfl 28 (.tmp 2) (.tmp 113) rfl w.heap.size noPkt rfl rfl 28 _ D9.out.t (by kernel_rfl) rfl (by simp [noPkt, Note.packet, noNote, Value.oneCell']) ?_))
          (try simp only [Exit.inBlock, Exit.then])
          refine bodyPost_ret (results_cell_row2 (P := Tryd.prog) (fn := Tryd.f21) rfl _ _ w.heap.size 28 noPkt (0, 0) _ rfl (setRow_heap _ _ _ _ _ _ D9.out.t) Tryd.underlying28 rfl (by kernel_rfl)) rfl ?_
          exact dec_fail HNO.out D9.out.st D9.out.newT
        · have hc : codeB ep sq ak N = 0 := by rw [HC.out, ho]; rfl
          rw [hc]
          cases hd : decOk l
          · have hne : encB ep sq ak N ≠ l := by
              rcases LAW.out.1 hd with h | h
              · rw [ho] at h; cases h
              · exact h
            have hsm : Small (encB ep sq ak N) := HSE.out
            have tb := text_beq hsm HS.out
            rw [decide_eq_false hne] at tb
            have tb2 : ((strOfNums (encB ep sq ak N)).toList != (strOfNums l).toList) = true := by rw [bne, tb]; rfl
            have HNO := Lib.hid hd
            clear hc ho HC hsm hne hd
            obtain ⟨xo, xc, rfl⟩ := HF.out
            generalize strOfNums (encB ep sq ak N) = sE at *
            generalize strOfNums l = sL at *
            go_wp2_with (first
              | (refine wpList_store_row rfl 28 (.tmp 2) (.tmp 113) rfl w.heap.size noPkt rfl rfl 28 _ D9.out.t (by kernel_rfl) rfl (by simp [noPkt, Note.packet, noNote, Value.oneCell']) ?_))
            (try simp only [Exit.inBlock, Exit.then])
            refine bodyPost_ret (results_cell_row2 (P := Tryd.prog) (fn := Tryd.f21) rfl _ _ w.heap.size 28 noPkt (0, 0) _ rfl (setRow_heap _ _ _ _ _ _ D9.out.t) Tryd.underlying28 rfl (by kernel_rfl)) rfl ?_
            exact dec_fail HNO.out D9.out.st D9.out.newT
          · obtain ⟨-, he, h3, h4, h5, h6⟩ := LAW.out.2 hd
            have HY := Lib.hid (And.intro h3 (And.intro h4 (And.intro h5 (And.intro h6 (show decCode l = 0 by rw [decCode, if_pos hd])))))
            rw [he] at t1
            rw [he] at HF
            clear hc ho HC hd h3 h4 h5 h6 he
            obtain ⟨xo, xc, rfl⟩ := HF.out
            generalize strOfNums l = sL at *
            go_wp2_with (first
              | (refine wpList_load_is 28 (.tmp 4) rfl rfl rfl LP.out ?_)
              | (refine wpList_store_row rfl 28 (.tmp 2) (.tmp 114) rfl w.heap.size (N.packet ep sq ak (.slice none N.body.length 0)) rfl rfl 28 _ D9.out.t (by kernel_rfl) rfl (by simp [Note.packet, Value.oneCell']) ?_))
            (try simp only [Exit.inBlock, Exit.then])
            refine bodyPost_ret (results_cell_row2 (P := Tryd.prog) (fn := Tryd.f21) rfl _ _ w.heap.size 28 (N.packet ep sq ak (.slice none N.body.length 0)) (0, 0) _ rfl (setRow_heap _ _ _ _ _ _ D9.out.t) Tryd.underlying28 rfl (by kernel_rfl)) rfl ?_
            obtain ⟨h3, h4, h5, h6, h7⟩ := HY.out
            rw [h3, h4, h5, h6, h7]
            exact ⟨none, 0, rfl, B9.out.step (step_setRow (S := fun k => k = w.heap.size) (Step.refl _ _) (fun _ => rfl) _) (fun k hk e => LF.out.1 (e ▸ hk)), step_setRow D9.out.st (fun hh => by have := D9.out.newT; omega) _⟩
  · obtain ⟨hv, hm, hp, hq, hb⟩ := HPAT
    rw [hv] at RV
    rw [hm] at RM
    rw [hp] at RP
    rw [hq] at RS
    rw [hb] at RB
    have LB7 : Hid (20 ≤ n7 ∧ n7 ≤ 5020) := Lib.hid (by rw [← HN7.out]; exact ⟨T1.out, T2.out⟩)
    go_wp2_with fail
    refine (RV.out _).mono ?_
    rintro e w' ⟨rfl, rfl⟩
    obtain ⟨hsr, hnl, hnc⟩ := seg_rest SG7.out 2 (by have := LB7.out; omega)
    have i1 : (2 : Int) ≤ (c7 : Int) := by have := LB7.out; omega
    have i2 : 2 ≤ c7 := by have := LB7.out; omega
    have i3 : (2 : Int) ≤ (n7 : Int) := by have := LB7.out; omega
    have i4 : 2 ≤ n7 := by have := LB7.out; omega
    have i5 : ¬ c7 = 2 := by have := LB7.out; omega
    have i6 : (n7 : Int) ≤ (c7 : Int) := by omega
    have i7 : n7 ≤ c7 := hnc
    have i8 : (0 : Int) < (n7 : Int) := by have := LB7.out; omega
    have i9 : 0 < n7 := by have := LB7.out; omega
    have HSR := Lib.hid hsr
    clear hsr hnc
    obtain ⟨ya1, yb1, R1, rfl⟩ := two_of (l := R) (by have h2 : n7 = R.length := hnl; omega)
    clear hnl
    have OT := Lib.hid (of_two c7 SG7.out HSM.out)
    go_wp2_with fail
    refine OT.out.mono ?_
    rintro e w' ⟨rfl, rfl⟩
    clear OT
    have ccl := blk_cell DZ.out.p 4
    have cfz := blk_frozen DZ.out.p 4
    simp only [Note.packet, noNote, List.getElem?_toArray, List.getElem?_cons_zero, List.getElem?_cons_succ] at ccl
    have hput := DZ.out.put 4 (.int .i64 (of2 ya1 yb1)) (n' := ({ noNote with kind := (k : Int), vlan := (of2 ya1 yb1), port := 0, state := 0 } : Note)) (bv' := .slice none 0 0) rfl
    obtain ⟨V2, hV2⟩ : ∃ W', World.setCell W7 ⟨P, 4, none⟩ (.int .i64 (of2 ya1 yb1)) = W' := ⟨_, rfl⟩
    rw [hV2] at hput
    have E2 := Lib.hid hV2
    have D2 := Lib.hid hput.1
    have HPUT := Lib.hid hput.2
    clear hput hV2
    have HSM := Lib.hid (show Small R1 from fun x hx => HSM.out x (by simp [hx]))
    go_wp2_with (first
      | rw [E2.out])
    clear i1 i2 i3 i4 i5 i6 i7 i8 i9
    have SG2 := Lib.hid (seg_beside HSR.out HPUT.out BP.out)
    generalize o7 + 2 = o2 at *
    generalize hn2 : n7 - 2 = n2 at *
    generalize c7 - 2 = c2 at *
    have LB2 : Hid (18 ≤ n2 ∧ n2 ≤ 5020) := Lib.hid (by have := LB7.out; omega)
    clear HPUT hn2 HSR ccl cfz DZ SG7
    obtain ⟨mm, Rm, rfl, hm6⟩ := six_of (l := R1) (by
      obtain ⟨-, hnl, -⟩ := seg_rest SG2.out 0 (Nat.zero_le _)
      have h2 : n2 = R1.length := hnl
      have := LB2.out
      omega)
    have HM6 := Lib.hid hm6
    clear hm6
    go_loopw [6, 7] (fun u i wr => ∃ (j : Nat) (W' : World) (oj nj cj : Nat), W' = wr ∧ j ≤ 6 ∧ i = .int .i64 j ∧ u = .slice (some ⟨b7, oj, none⟩) nj cj ∧ Hid (Seg wr (.slice (some ⟨b7, oj, none⟩) nj cj) ((mm ++ Rm).drop j)) ∧ Hid (18 ≤ nj + j ∧ nj ≤ 5020) ∧ Hid (Dr w wr w.heap.size P ep sq ak (Note.setMac ({ noNote with kind := (k : Int), vlan := (of2 ya1 yb1), port := 0, state := 0 } : Note) (macJ mm j)) (.slice none 0 0))) (fun _ i _ => 6 - (intOf i).toNat)
    case atStart => exact ⟨0, _, _, _, _, rfl, by omega, rfl, rfl, SG2, Lib.hid (by have := LB2.out; omega), D2⟩
    case round =>
      clear SG2 D2
      obtain ⟨j, Wj, oj, nj, cj, rfl, hj6, rfl, rfl, SGj, LBj, Dj⟩ := hrel
      by_cases hj : j < 6
      · have e1 : decide ((j : Int) < 6) = true := decide_eq_true (by omega)
        have e2 : decide (j < 6) = true := decide_eq_true hj
        have j0 : (0 : Int) ≤ (j : Int) := by omega
        have j6 : (j : Int) < 6 := by omega
        have hw : IntKind.i64.wrap ((j : Int) + 1) = (j : Int) + 1 := IntWalk.i64_in _ (by omega)
        have HJ := Lib.hid hj
        obtain ⟨x, hx⟩ : ∃ x, mm[j]? = some x := ⟨mm[j]'(by rw [HM6.out]; exact hj), List.getElem?_eq_getElem _⟩
        have hdr : (mm ++ Rm).drop j = x :: (mm ++ Rm).drop (j + 1) := by
          have hjl : j < (mm ++ Rm).length := by simp [HM6.out]; omega
          rw [List.drop_eq_getElem_cons hjl]
          congr 1
          have h2 : (mm ++ Rm)[j]? = some x := by rw [List.getElem?_append_left (by rw [HM6.out]; exact hj)]; exact hx
          rw [List.getElem?_eq_getElem hjl] at h2
          exact Option.some.inj h2
        have HDR : Hid ((mm ++ Rm).drop (j + 1) = ((mm ++ Rm).drop j).drop 1) := Lib.hid (by rw [List.drop_drop])
        have sgx := SGj.out
        rw [hdr] at sgx
        have ca := seg_first sgx
        obtain ⟨y, hy⟩ := mac_get ({ noNote with kind := (k : Int), vlan := (of2 ya1 yb1), port := 0, state := 0 } : Note) ep sq ak (.slice none 0 0) (m := mm) j hj
        have ccl := blk_cell Dj.out.p (5 + j)
        rw [hy] at ccl
        have cfz := blk_frozen Dj.out.p (5 + j)
        have hput := Dj.out.put (5 + j) (.int .u8 x) (mac_put HM6.out ({ noNote with kind := (k : Int), vlan := (of2 ya1 yb1), port := 0, state := 0 } : Note) ep sq ak (.slice none 0 0) j hj x hx)
        obtain ⟨VV, hVV⟩ : ∃ W', World.setCell Wj ⟨P, 5 + j, none⟩ (.int .u8 x) = W' := ⟨_, rfl⟩
        rw [hVV] at hput
        have EV := Lib.hid hVV
        have DV := Lib.hid hput.1
        have HPUT := Lib.hid hput.2
        obtain ⟨hsr, hnl, hnc⟩ := seg_rest SGj.out 1 (by have := LBj.out; have := HJ.out; omega)
        have i1 : (1 : Int) ≤ (cj : Int) := by have := LBj.out; have := HJ.out; omega
        have i2 : 1 ≤ cj := by have := LBj.out; have := HJ.out; omega
        have i3 : (1 : Int) ≤ (nj : Int) := by have := LBj.out; have := HJ.out; omega
        have i4 : 1 ≤ nj := by have := LBj.out; have := HJ.out; omega
        have i5 : ¬ cj = 1 := by have := LBj.out; have := HJ.out; omega
        have i6 : (nj : Int) ≤ (cj : Int) := by omega
        have i7 : nj ≤ cj := hnc
        have i8 : (0 : Int) < (nj : Int) := by have := LBj.out; have := HJ.out; omega
        have i9 : 0 < nj := by have := LBj.out; have := HJ.out; omega
        have HSR := Lib.hid hsr
        clear hsr hnc
        clear hnl hput hVV hdr hx hy sgx hj6 hj
        go_wp2_with fail
        refine (RM.out _).mono ?_
        rintro e w' ⟨rfl, rfl⟩
        go_wp2_with (first
          | rw [EV.out])
        have SGn := Lib.hid (seg_beside HSR.out HPUT.out BP.out)
        go_roundw
        case rel => exact ⟨j + 1, _, _, _, _, rfl, by have := HJ.out; omega, rfl, rfl, by rw [HDR.out]; exact SGn, Lib.hid (by have := LBj.out; omega), DV⟩
        case measure => have := HJ.out; simp [intOf]; omega
      · have e1 : decide ((j : Int) < 6) = false := decide_eq_false (by omega)
        obtain rfl : j = 6 := by omega
        have hmj : macJ mm 6 = mm := by unfold macJ; rw [List.take_of_length_le (by rw [HM6.out]; omega)]; simp
        rw [hmj] at Dj
        rw [List.drop_left' HM6.out] at SGj
        have LBk : Hid (12 ≤ nj ∧ nj ≤ 5020) := Lib.hid (by have := LBj.out; omega)
        have HSM := Lib.hid (show Small Rm from fun x hx => HSM.out x (List.mem_append.2 (.inr hx)))
        clear hmj LBj hj6 hj
        go_wp2_with fail
        clear e1
        refine (RP.out _).mono ?_
        rintro e w' ⟨rfl, rfl⟩
        go_wp2_with fail
        refine (RS.out _).mono ?_
        rintro e w' ⟨rfl, rfl⟩
        go_wp2_with fail
        have EN : refN k ((ya1 :: yb1 :: (mm ++ Rm)), false) = (({ noNote with kind := (k : Int), vlan := (of2 ya1 yb1), port := 0, state := 0 } : Note).setMac mm) := by
          simp only [refN, sV, sM, sP, sS, pV, pM, pP, pS, opt, hv, hm, hp, hq, hb, if_true, if_false, Bool.false_eq_true, shortP_cons, byteP_cons, take6 HM6.out]
          rfl
        rw [EN] at LAW HSE
        have hNB : ((({ noNote with kind := (k : Int), vlan := (of2 ya1 yb1), port := 0, state := 0 } : Note).setMac mm)).body = [] := rfl
        clear EN
        have DX : Hid (Dr w Wj w.heap.size P ep sq ak (({ noNote with kind := (k : Int), vlan := (of2 ya1 yb1), port := 0, state := 0 } : Note).setMac mm) (.slice none 0 0)) := Dj
        generalize (({ noNote with kind := (k : Int), vlan := (of2 ya1 yb1), port := 0, state := 0 } : Note).setMac mm) = N at *
        have DF : Hid (Dr w Wj w.heap.size P ep sq ak N (.slice none N.body.length 0)) := by rw [hNB]; exact DX
        have BF : Hid (Bytes Wj (.slice none N.body.length 0) N.body) := by rw [hNB]; exact Lib.hid (.inl ⟨rfl, rfl⟩)
        have LF : Hid (¬ Leads (.slice none N.body.length 0) w.heap.size ∧ N.body.length ≤ 10000) := by rw [hNB]; exact Lib.hid ⟨fun hk => by simp [Leads, Value.ownBlock] at hk, by simp⟩
        have LP := Lib.hid (load_pkt DF.out.p)
        have RE := Lib.hid (rencode_all ep sq ak N none 0 Wj BF.out LF.out.2)
        clear hNB DX Dj
        refine (RB.out _).mono ?_
        rintro e w' ⟨rfl, rfl⟩
        go_wp2_with (first
          | (refine wpList_load_is 28 (.tmp 4) rfl rfl rfl LP.out ?_))
        refine RE.out.mono ?_
        rintro e W9 ⟨u, rfl, hu, s9⟩
        have D9 := Lib.hid (DF.out.still s9)
        have B9 := Lib.hid (BF.out.step s9 (fun _ _ s => s.elim))
        have LP := Lib.hid (load_pkt D9.out.p)
        have hE := encB_max ep sq ak N
        have t1 := seg_text (seg_row hu.row) (by have := LF.out.2; omega)
        have hvl := HV.out
        rw [HM.out.1] at hvl
        have t2 := seg_text (hvl.still D9.out.st) (by have := HM.out; omega)
        have HF := Lib.hid hu.form
        have HC := Lib.hid (show codeB ep sq ak N = if okP ep sq ak N then 0 else 1 from rfl)
        clear s9 hu DF BF RE hE hvl
        cases ho : okP ep sq ak N
        · have hc : codeB ep sq ak N = 1 := by rw [HC.out, ho]; rfl
          rw [hc]
          have HNO : Hid (decOk l = false) := by
            cases hd : decOk l
            · exact Lib.hid rfl
            · have := (LAW.out.2 hd).1
              rw [ho] at this
              cases this
          clear hc ho t1 t2 HC
          obtain ⟨xo, xc, rfl⟩ := HF.out
          go_wp2_with (first
            | (refine wpList_store_row rfl 28 (.tmp 2) (.tmp 113) rfl w.heap.size noPkt rfl rfl 28 _ D9.out.t (by kernel_rfl) rfl (by simp [noPkt, Note.packet, noNote, Value.oneCell']) ?_))
          (try simp only [Exit.inBlock, Exit.then])
          refine bodyPost_ret (results_cell_row2 (P := Tryd.prog) (fn := Tryd.f21) rfl _ _ w.heap.size 28 noPkt (0, 0) _ rfl (setRow_heap _ _ _ _ _ _ D9.out.t) Tryd.underlying28 rfl (by kernel_rfl)) rfl ?_
          exact dec_fail HNO.out D9.out.st D9.out.newT
        · have hc : codeB ep sq ak N = 0 := by rw [HC.out, ho]; rfl
          rw [hc]
          cases hd : decOk l
          · have hne : encB ep sq ak N ≠ l := by
              rcases LAW.out.1 hd with h | h
              · rw [ho] at h; cases h
              · exact h
            have hsm : Small (encB ep sq ak N) := HSE.out
            have tb := text_beq hsm HS.out
            rw [decide_eq_false hne] at tb
            have tb2 : ((strOfNums (encB ep sq ak N)).toList != (strOfNums l).toList) = true := by rw [bne, tb]; rfl
            have HNO := Lib.hid hd
            clear hc ho HC hsm hne hd
            obtain ⟨xo, xc, rfl⟩ := HF.out
            generalize strOfNums (encB ep sq ak N) = sE at *
            generalize strOfNums l = sL at *
            go_wp2_with (first
              | (refine wpList_store_row rfl 28 (.tmp 2) (.tmp 113) rfl w.heap.size noPkt rfl rfl 28 _ D9.out.t (by kernel_rfl) rfl (by simp [noPkt, Note.packet, noNote, Value.oneCell']) ?_))
            (try simp only [Exit.inBlock, Exit.then])
            refine bodyPost_ret (results_cell_row2 (P := Tryd.prog) (fn := Tryd.f21) rfl _ _ w.heap.size 28 noPkt (0, 0) _ rfl (setRow_heap _ _ _ _ _ _ D9.out.t) Tryd.underlying28 rfl (by kernel_rfl)) rfl ?_
            exact dec_fail HNO.out D9.out.st D9.out.newT
          · obtain ⟨-, he, h3, h4, h5, h6⟩ := LAW.out.2 hd
            have HY := Lib.hid (And.intro h3 (And.intro h4 (And.intro h5 (And.intro h6 (show decCode l = 0 by rw [decCode, if_pos hd])))))
            rw [he] at t1
            rw [he] at HF
            clear hc ho HC hd h3 h4 h5 h6 he
            obtain ⟨xo, xc, rfl⟩ := HF.out
            generalize strOfNums l = sL at *
            go_wp2_with (first
              | (refine wpList_load_is 28 (.tmp 4) rfl rfl rfl LP.out ?_)
              | (refine wpList_store_row rfl 28 (.tmp 2) (.tmp 114) rfl w.heap.size (N.packet ep sq ak (.slice none N.body.length 0)) rfl rfl 28 _ D9.out.t (by kernel_rfl) rfl (by simp [Note.packet, Value.oneCell']) ?_))
            (try simp only [Exit.inBlock, Exit.then])
            refine bodyPost_ret (results_cell_row2 (P := Tryd.prog) (fn := Tryd.f21) rfl _ _ w.heap.size 28 (N.packet ep sq ak (.slice none N.body.length 0)) (0, 0) _ rfl (setRow_heap _ _ _ _ _ _ D9.out.t) Tryd.underlying28 rfl (by kernel_rfl)) rfl ?_
            obtain ⟨h3, h4, h5, h6, h7⟩ := HY.out
            rw [h3, h4, h5, h6, h7]
            exact ⟨none, 0, rfl, B9.out.step (step_setRow (S := fun k => k = w.heap.size) (Step.refl _ _) (fun _ => rfl) _) (fun k hk e => LF.out.1 (e ▸ hk)), step_setRow D9.out.st (fun hh => by have := D9.out.newT; omega) _⟩
  · obtain ⟨hv, hm, hp, hq, hb⟩ := HPAT
    rw [hv] at RV
    rw [hm] at RM
    rw [hp] at RP
    rw [hq] at RS
    rw [hb] at RB
    have LB7 : Hid (20 ≤ n7 ∧ n7 ≤ 5020) := Lib.hid (by rw [← HN7.out]; exact ⟨T1.out, T2.out⟩)
    go_wp2_with fail
    refine (RV.out _).mono ?_
    rintro e w' ⟨rfl, rfl⟩
    go_wp2_with fail
    go_loopw [6, 7] (fun u i wr => u = .slice (some ⟨b7, o7, none⟩) n7 c7 ∧ i = .int .i64 0 ∧ W7 = wr) (fun _ _ _ => 0)
    case atStart => exact ⟨rfl, rfl, rfl⟩
    case round =>
      obtain ⟨rfl, rfl, rfl⟩ := hrel
      go_wp2_with fail
      refine (RM.out _).mono ?_
      rintro e w' ⟨rfl, rfl⟩
      go_wp2_with fail
      refine (RP.out _).mono ?_
      rintro e w' ⟨rfl, rfl⟩
      obtain ⟨hsr, hnl, hnc⟩ := seg_rest SG7.out 2 (by have := LB7.out; omega)
      have i1 : (2 : Int) ≤ (c7 : Int) := by have := LB7.out; omega
      have i2 : 2 ≤ c7 := by have := LB7.out; omega
      have i3 : (2 : Int) ≤ (n7 : Int) := by have := LB7.out; omega
      have i4 : 2 ≤ n7 := by have := LB7.out; omega
      have i5 : ¬ c7 = 2 := by have := LB7.out; omega
      have i6 : (n7 : Int) ≤ (c7 : Int) := by omega
      have i7 : n7 ≤ c7 := hnc
      have i8 : (0 : Int) < (n7 : Int) := by have := LB7.out; omega
      have i9 : 0 < n7 := by have := LB7.out; omega
      have HSR := Lib.hid hsr
      clear hsr hnc
      obtain ⟨ya1, yb1, R1, rfl⟩ := two_of (l := R) (by have h2 : n7 = R.length := hnl; omega)
      clear hnl
      have OT := Lib.hid (of_two c7 SG7.out HSM.out)
      go_wp2_with fail
      refine OT.out.mono ?_
      rintro e w' ⟨rfl, rfl⟩
      clear OT
      have ccl := blk_cell DZ.out.p 11
      have cfz := blk_frozen DZ.out.p 11
      simp only [Note.packet, noNote, List.getElem?_toArray, List.getElem?_cons_zero, List.getElem?_cons_succ] at ccl
      have hput := DZ.out.put 11 (.int .i64 (of2 ya1 yb1)) (n' := ({ noNote with kind := (k : Int), vlan := 0, port := (of2 ya1 yb1), state := 0 } : Note)) (bv' := .slice none 0 0) rfl
      obtain ⟨V2, hV2⟩ : ∃ W', World.setCell W7 ⟨P, 11, none⟩ (.int .i64 (of2 ya1 yb1)) = W' := ⟨_, rfl⟩
      rw [hV2] at hput
      have E2 := Lib.hid hV2
      have D2 := Lib.hid hput.1
      have HPUT := Lib.hid hput.2
      clear hput hV2
      have HSM := Lib.hid (show Small R1 from fun x hx => HSM.out x (by simp [hx]))
      go_wp2_with (first
        | rw [E2.out])
      clear i1 i2 i3 i4 i5 i6 i7 i8 i9
      have SG2 := Lib.hid (seg_beside HSR.out HPUT.out BP.out)
      generalize o7 + 2 = o2 at *
      generalize hn2 : n7 - 2 = n2 at *
      generalize c7 - 2 = c2 at *
      have LB2 : Hid (18 ≤ n2 ∧ n2 ≤ 5020) := Lib.hid (by have := LB7.out; omega)
      clear HPUT hn2 HSR ccl cfz DZ SG7
      refine (RS.out _).mono ?_
      rintro e w' ⟨rfl, rfl⟩
      obtain ⟨hsr, hnl, hnc⟩ := seg_rest SG2.out 1 (by have := LB2.out; omega)
      have i1 : (1 : Int) ≤ (c2 : Int) := by have := LB2.out; omega
      have i2 : 1 ≤ c2 := by have := LB2.out; omega
      have i3 : (1 : Int) ≤ (n2 : Int) := by have := LB2.out; omega
      have i4 : 1 ≤ n2 := by have := LB2.out; omega
      have i5 : ¬ c2 = 1 := by have := LB2.out; omega
      have i6 : (n2 : Int) ≤ (c2 : Int) := by omega
      have i7 : n2 ≤ c2 := hnc
      have i8 : (0 : Int) < (n2 : Int) := by have := LB2.out; omega
      have i9 : 0 < n2 := by have := LB2.out; omega
      have HSR := Lib.hid hsr
      clear hsr hnc
      obtain ⟨ya3, R3, rfl⟩ := one_of (l := R1) (by have h2 : n2 = R1.length := hnl; omega)
      clear hnl
      have ca := seg_first SG2.out
      have ea : IntKind.i64.wrap ya3 = ya3 := IntWalk.i64_in _ (by have := HSM.out ya3 (by simp); omega)
      have ccl := blk_cell D2.out.p 12
      have cfz := blk_frozen D2.out.p 12
      simp only [Note.packet, noNote, List.getElem?_toArray, List.getElem?_cons_zero, List.getElem?_cons_succ] at ccl
      have hput := D2.out.put 12 (.int .i64 ya3) (n' := ({ noNote with kind := (k : Int), vlan := 0, port := (of2 ya1 yb1), state := ya3 } : Note)) (bv' := .slice none 0 0) rfl
      obtain ⟨V4, hV4⟩ : ∃ W', World.setCell V2 ⟨P, 12, none⟩ (.int .i64 ya3) = W' := ⟨_, rfl⟩
      rw [hV4] at hput
      have E4 := Lib.hid hV4
      have D4 := Lib.hid hput.1
      have HPUT := Lib.hid hput.2
      clear hput hV4
      have HSM := Lib.hid (show Small R3 from fun x hx => HSM.out x (by simp [hx]))
      go_wp2_with (first
        | rw [E4.out])
      clear i1 i2 i3 i4 i5 i6 i7 i8 i9 ca ea
      have SG4 := Lib.hid (seg_beside HSR.out HPUT.out BP.out)
      generalize o2 + 1 = o4 at *
      generalize hn4 : n2 - 1 = n4 at *
      generalize c2 - 1 = c4 at *
      have LB4 : Hid (17 ≤ n4 ∧ n4 ≤ 5020) := Lib.hid (by have := LB2.out; omega)
      clear HPUT hn4 HSR ccl cfz D2 SG2
      have EN : refN k ((ya1 :: yb1 :: (ya3 :: R3)), false) = ({ noNote with kind := (k : Int), vlan := 0, port := (of2 ya1 yb1), state := ya3 } : Note) := by
        simp only [refN, sV, sM, sP, sS, pV, pM, pP, pS, opt, hv, hm, hp, hq, hb, if_true, if_false, Bool.false_eq_true, shortP_cons, byteP_cons]
        rfl
      rw [EN] at LAW HSE
      have hNB : (({ noNote with kind := (k : Int), vlan := 0, port := (of2 ya1 yb1), state := ya3 } : Note)).body = [] := rfl
      clear EN
      have DX : Hid (Dr w V4 w.heap.size P ep sq ak ({ noNote with kind := (k : Int), vlan := 0, port := (of2 ya1 yb1), state := ya3 } : Note) (.slice none 0 0)) := D4
      generalize ({ noNote with kind := (k : Int), vlan := 0, port := (of2 ya1 yb1), state := ya3 } : Note) = N at *
      have DF : Hid (Dr w V4 w.heap.size P ep sq ak N (.slice none N.body.length 0)) := by rw [hNB]; exact DX
      have BF : Hid (Bytes V4 (.slice none N.body.length 0) N.body) := by rw [hNB]; exact Lib.hid (.inl ⟨rfl, rfl⟩)
      have LF : Hid (¬ Leads (.slice none N.body.length 0) w.heap.size ∧ N.body.length ≤ 10000) := by rw [hNB]; exact Lib.hid ⟨fun hk => by simp [Leads, Value.ownBlock] at hk, by simp⟩
      have LP := Lib.hid (load_pkt DF.out.p)
      have RE := Lib.hid (rencode_all ep sq ak N none 0 V4 BF.out LF.out.2)
      clear hNB DX D4
      refine (RB.out _).mono ?_
      rintro e w' ⟨rfl, rfl⟩
      go_wp2_with (first
        | (refine wpList_load_is 28 (.tmp 4) rfl rfl rfl LP.out ?_))
      refine RE.out.mono ?_
      rintro e W9 ⟨u, rfl, hu, s9⟩
      have D9 := Lib.hid (DF.out.still s9)
      have B9 := Lib.hid (BF.out.step s9 (fun _ _ s => s.elim))
      have LP := Lib.hid (load_pkt D9.out.p)
      have hE := encB_max ep sq ak N
      have t1 := seg_text (seg_row hu.row) (by have := LF.out.2; omega)
      have hvl := HV.out
      rw [HM.out.1] at hvl
      have t2 := seg_text (hvl.still D9.out.st) (by have := HM.out; omega)
      have HF := Lib.hid hu.form
      have HC := Lib.hid (show codeB ep sq ak N = if okP ep sq ak N then 0 else 1 from rfl)
      clear s9 hu DF BF RE hE hvl
      cases ho : okP ep sq ak N
      · have hc : codeB ep sq ak N = 1 := by rw [HC.out, ho]; rfl
        rw [hc]
        have HNO : Hid (decOk l = false) := by
          cases hd : decOk l
          · exact Lib.hid rfl
          · have := (LAW.out.2 hd).1
            rw [ho] at this
            cases this
        clear hc ho t1 t2 HC
        obtain ⟨xo, xc, rfl⟩ := HF.out
        go_wp2_with (first
          | (refine wpList_store_row rfl 28 (.tmp 2) (.tmp 113) rfl w.heap.size noPkt rfl rfl 28 _ D9.out.t (by kernel_rfl) rfl (by simp [noPkt, Note.packet, noNote, Value.oneCell']) ?_))
        (try simp only [Exit.inBlock, Exit.then])
        refine bodyPost_ret (results_cell_row2 (P := Tryd.prog) (fn := Tryd.f21) rfl _ _ w.heap.size 28 noPkt (0, 0) _ rfl (setRow_heap _ _ _ _ _ _ D9.out.t) Tryd.underlying28 rfl (by kernel_rfl)) rfl ?_
        exact dec_fail HNO.out D9.out.st D9.out.newT
      · have hc : codeB ep sq ak N = 0 := by rw [HC.out, ho]; rfl
        rw [hc]
        cases hd : decOk l
        · have hne : encB ep sq ak N ≠ l := by
            rcases LAW.out.1 hd with h | h
            · rw [ho] at h; cases h
            · exact h
          have hsm : Small (encB ep sq ak N) := HSE.out
          have tb := text_beq hsm HS.out
          rw [decide_eq_false hne] at tb
          have tb2 : ((strOfNums (encB ep sq ak N)).toList != (strOfNums l).toList) = true := by rw [bne, tb]; rfl
          have HNO := Lib.hid hd
          clear hc ho HC hsm hne hd
          obtain ⟨xo, xc, rfl⟩ := HF.out
          generalize strOfNums (encB ep sq ak N) = sE at *
          generalize strOfNums l = sL at *
          go_wp2_with (first
            | (refine wpList_store_row rfl 28 (.tmp 2) (.tmp 113) rfl w.heap.size noPkt rfl rfl 28 _ D9.out.t (by kernel_rfl) rfl (by simp [noPkt, Note.packet, noNote, Value.oneCell']) ?_))
          (try simp only [Exit.inBlock, Exit.then])
          refine bodyPost_ret (results_cell_row2 (P := Tryd.prog) (fn := Tryd.f21) rfl _ _ w.heap.size 28 noPkt (0, 0) _ rfl (setRow_heap _ _ _ _ _ _ D9.out.t) Tryd.underlying28 rfl (by kernel_rfl)) rfl ?_
          exact dec_fail HNO.out D9.out.st D9.out.newT
        · obtain ⟨-, he, h3, h4, h5, h6⟩ := LAW.out.2 hd
          have HY := Lib.hid (And.intro h3 (And.intro h4 (And.intro h5 (And.intro h6 (show decCode l = 0 by rw [decCode, if_pos hd])))))
          rw [he] at t1
          rw [he] at HF
          clear hc ho HC hd h3 h4 h5 h6 he
          obtain ⟨xo, xc, rfl⟩ := HF.out
          generalize strOfNums l = sL at *
          go_wp2_with (first
            | (refine wpList_load_is 28 (.tmp 4) rfl rfl rfl LP.out ?_)
            | (refine wpList_store_row rfl 28 (.tmp 2) (.tmp 114) rfl w.heap.size (N.packet ep sq ak (.slice none N.body.length 0)) rfl rfl 28 _ D9.out.t (by kernel_rfl) rfl (by simp [Note.packet, Value.oneCell']) ?_))
          (try simp only [Exit.inBlock, Exit.then])
          refine bodyPost_ret (results_cell_row2 (P := Tryd.prog) (fn := Tryd.f21) rfl _ _ w.heap.size 28 (N.packet ep sq ak (.slice none N.body.length 0)) (0, 0) _ rfl (setRow_heap _ _ _ _ _ _ D9.out.t) Tryd.underlying28 rfl (by kernel_rfl)) rfl ?_
          obtain ⟨h3, h4, h5, h6, h7⟩ := HY.out
          rw [h3, h4, h5, h6, h7]
          exact ⟨none, 0, rfl, B9.out.step (step_setRow (S := fun k => k = w.heap.size) (Step.refl _ _) (fun _ => rfl) _) (fun k hk e => LF.out.1 (e ▸ hk)), step_setRow D9.out.st (fun hh => by have := D9.out.newT; omega) _⟩
  · obtain ⟨hv, hm, hp, hq, hb⟩ := HPAT
    rw [hv] at RV
    rw [hm] at RM
    rw [hp] at RP
    rw [hq] at RS
    rw [hb] at RB
    have LB7 : Hid (20 ≤ n7 ∧ n7 ≤ 5020) := Lib.hid (by rw [← HN7.out]; exact ⟨T1.out, T2.out⟩)
    go_wp2_with fail
    refine (RV.out _).mono ?_
    rintro e w' ⟨rfl, rfl⟩
    go_wp2_with fail
    go_loopw [6, 7] (fun u i wr => u = .slice (some ⟨b7, o7, none⟩) n7 c7 ∧ i = .int .i64 0 ∧ W7 = wr) (fun _ _ _ => 0)
    case atStart => exact ⟨rfl, rfl, rfl⟩
    case round =>
      obtain ⟨rfl, rfl, rfl⟩ := hrel
      go_wp2_with fail
      refine (RM.out _).mono ?_
      rintro e w' ⟨rfl, rfl⟩
      go_wp2_with fail
      refine (RP.out _).mono ?_
      rintro e w' ⟨rfl, rfl⟩
      obtain ⟨hsr, hnl, hnc⟩ := seg_rest SG7.out 2 (by have := LB7.out; omega)
      have i1 : (2 : Int) ≤ (c7 : Int) := by have := LB7.out; omega
      have i2 : 2 ≤ c7 := by have := LB7.out; omega
      have i3 : (2 : Int) ≤ (n7 : Int) := by have := LB7.out; omega
      have i4 : 2 ≤ n7 := by have := LB7.out; omega
      have i5 : ¬ c7 = 2 := by have := LB7.out; omega
      have i6 : (n7 : Int) ≤ (c7 : Int) := by omega
      have i7 : n7 ≤ c7 := hnc
      have i8 : (0 : Int) < (n7 : Int) := by have := LB7.out; omega
      have i9 : 0 < n7 := by have := LB7.out; omega
      have HSR := Lib.hid hsr
      clear hsr hnc
      obtain ⟨ya1, yb1, R1, rfl⟩ := two_of (l := R) (by have h2 : n7 = R.length := hnl; omega)
      clear hnl
      have OT := Lib.hid (of_two c7 SG7.out HSM.out)
      go_wp2_with fail
      refine OT.out.mono ?_
      rintro e w' ⟨rfl, rfl⟩
      clear OT
      have ccl := blk_cell DZ.out.p 11
      have cfz := blk_frozen DZ.out.p 11
      simp only [Note.packet, noNote, List.getElem?_toArray, List.getElem?_cons_zero, List.getElem?_cons_succ] at ccl
      have hput := DZ.out.put 11 (.int .i64 (of2 ya1 yb1)) (n' := ({ noNote with kind := (k : Int), vlan := 0, port := (of2 ya1 yb1), state := 0 } : Note)) (bv' := .slice none 0 0) rfl
      obtain ⟨V2, hV2⟩ : ∃ W', World.setCell W7 ⟨P, 11, none⟩ (.int .i64 (of2 ya1 yb1)) = W' := ⟨_, rfl⟩
      rw [hV2] at hput
      have E2 := Lib.hid hV2
      have D2 := Lib.hid hput.1
      have HPUT := Lib.hid hput.2
      clear hput hV2
      have HSM := Lib.hid (show Small R1 from fun x hx => HSM.out x (by simp [hx]))
      go_wp2_with (first
        | rw [E2.out])
      clear i1 i2 i3 i4 i5 i6 i7 i8 i9
      have SG2 := Lib.hid (seg_beside HSR.out HPUT.out BP.out)
      generalize o7 + 2 = o2 at *
      generalize hn2 : n7 - 2 = n2 at *
      generalize c7 - 2 = c2 at *
      have LB2 : Hid (18 ≤ n2 ∧ n2 ≤ 5020) := Lib.hid (by have := LB7.out; omega)
      clear HPUT hn2 HSR ccl cfz DZ SG7
      refine (RS.out _).mono ?_
      rintro e w' ⟨rfl, rfl⟩
      go_wp2_with fail
      refine (RB.out _).mono ?_
      rintro e w' ⟨rfl, rfl⟩
      obtain ⟨hsr, hnl, hnc⟩ := seg_rest SG2.out 2 (by have := LB2.out; omega)
      have i1 : (2 : Int) ≤ (c2 : Int) := by have := LB2.out; omega
      have i2 : 2 ≤ c2 := by have := LB2.out; omega
      have i3 : (2 : Int) ≤ (n2 : Int) := by have := LB2.out; omega
      have i4 : 2 ≤ n2 := by have := LB2.out; omega
      have i5 : ¬ c2 = 2 := by have := LB2.out; omega
      have i6 : (n2 : Int) ≤ (c2 : Int) := by omega
      have i7 : n2 ≤ c2 := hnc
      have i8 : (0 : Int) < (n2 : Int) := by have := LB2.out; omega
      have i9 : 0 < n2 := by have := LB2.out; omega
      have HSR := Lib.hid hsr
      clear hsr hnc
      obtain ⟨ya3, yb3, R3, rfl⟩ := two_of (l := R1) (by have h2 : n2 = R1.length := hnl; omega)
      have OT := Lib.hid (of_two c2 SG2.out HSM.out)
      have hn2 : n2 = (ya3 :: yb3 :: R3).length := hnl
      have s0 := HSM.out ya3 (by simp)
      have s1 := HSM.out yb3 (by simp)
      have hof : 0 ≤ of2 ya3 yb3 ∧ of2 ya3 yb3 ≤ 65535 := by unfold of2; omega
      obtain ⟨yy, mn, hyy, hmn, hmn2, y1, y2, y3, y4, y5, y6, y7, y8, hmx⟩ := body_facts (n := n2) (c := c2) (z := of2 ya3 yb3) (by have := LB2.out.1; omega) LB2.out.2 i7 hof.1
      have hmin : ∀ w ts t, (Builtin.min_ ts t #[.int .i64 (of2 ya3 yb3), .int .i64 (yy : Int)]).run Tryd.prog w = .ok (.int .i64 (mn : Int)) w := fun w ts t => by
        rw [← hmn]
        exact run_min_int _ _ _ _ _
      have HMX := Lib.hid hmx
      obtain ⟨hMN, hyR⟩ := len_two (z := of2 ya3 yb3) hn2 hyy hmn
      have HMN := Lib.hid hMN
      clear hMN hmn
      obtain ⟨BL, hBL⟩ : ∃ BL, R3.take mn = BL := ⟨_, rfl⟩
      have hBLl : BL.length = mn := by rw [← hBL, List.length_take, ← hyR]; exact Nat.min_eq_left hmn2
      have key := Lib.hid (show refBody (ya3 :: yb3 :: R3) = BL by unfold refBody; rw [shortP_cons]; dsimp only; rw [HMN.out]; exact hBL)
      have SGB : Hid (Seg V2 (.slice (some ⟨b7, o2 + 2, none⟩) BL.length (c2 - 2)) BL) := by
        obtain ⟨ao', cap', ev, h1, h2, h3, h4⟩ := HSR.out
        simp only [Value.slice.injEq] at ev
        obtain ⟨rfl, h0, rfl⟩ := ev
        have := seg_take (n := mn) (l := R3) (by rw [← hyR]; exact hmn2) (show R3.length ≤ c2 - 2 from h1) h2 h3 h4
        rw [hBL, ← hBLl] at this
        exact Lib.hid this
      have HBLL := Lib.hid hBLl
      have hrow0 : Row (World.alloc V2 (.cells #[] 5)) 5 1 (.slice (some ⟨V2.heap.size, 0, none⟩) 0 0) 0 [] := Row.ofBlock (n := 0) (cap := 0) (heap_alloc_new V2 (.cells #[] 5)) (Nat.le_refl _) (by simp [maxLen]) (by simp)
      have sa := (Step.refl None V2).alloc (.cells #[] 5)
      obtain ⟨WB, hWB⟩ : ∃ W5, World.alloc V2 (.cells #[] 5) = W5 := ⟨_, rfl⟩
      rw [hWB] at sa hrow0
      have RB0 := Lib.hid hrow0
      have HEB := Lib.hid hWB
      have DB := Lib.hid (D2.out.still sa)
      have SZB := Lib.hid (D2.out.st.size)
      have BB := Lib.hid (((SGB.out.still sa).bytes (by rw [hBLl]; exact Nat.le_trans HMX.out (by decide))).src Tryd.underlying24)
      rw [hBLl] at BB
      clear hnl hn2 hyR hmn2 hof s0 s1 hyy hmx HMN hBLl hrow0 sa hWB hBL
      go_wp2_with fail
      refine OT.out.mono ?_
      rintro e w' ⟨rfl, rfl⟩
      clear OT
      go_wp2_with (first
        | rw [HEB.out]
        | (at_builtin; refine wpList_append_row T24 rfl (.tmp 91) (.tmp 95) rfl rfl RB0.out rfl BB.out ?ha ?hb ?_))
      case ha => exact Nat.le_trans (by rw [Nat.zero_add]; exact HMX.out) (by decide)
      case hb => exact Nat.le_trans (by rw [Nat.zero_add, Nat.mul_one]; exact HMX.out) (by decide)
      intro v9 W10 r9 s9 l9
      have lead9 : ∀ k, Leads (.slice (some ⟨V2.heap.size, 0, none⟩) 0 0) k → k = V2.heap.size := fun k hk => by simp [Leads, Value.ownBlock] at hk; exact hk.symm
      have DC := Lib.hid (DB.out.led RB0.out s9 fun k hk => by have := lead9 k hk; have := SZB.out; omega)
      have e9 : mn = BL.length := HBLL.out.symm
      obtain ⟨vo, vc, ev, -, -⟩ := r9.form
      rw [e9] at ev r9
      subst ev
      have hput := DC.out.put 13 (.slice vo BL.length vc) (n' := { ({ noNote with kind := (k : Int), vlan := 0, port := (of2 ya1 yb1), state := 0 } : Note) with body := BL }) (bv' := .slice vo BL.length vc) rfl
      have r9' : Row W10 5 1 (.slice vo BL.length vc) BL.length (BL.map (.int .u8)) := r9
      have LN9 := Lib.hid (And.intro (r9'.ne DC.out.t (by decide)) (show BL.length ≤ 10000 by rw [HBLL.out]; exact Nat.le_trans HMX.out (by decide)))
      have BYF := Lib.hid ((r9'.bytes (by rw [HBLL.out]; exact Nat.le_trans HMX.out (by decide))).step hput.2 (fun k hk e => r9'.ne DC.out.p (by decide) (by rw [← e]; exact hk)))
      have ccl := blk_cell DC.out.p 13
      have cfz := blk_frozen DC.out.p 13
      simp only [Note.packet, noNote, List.getElem?_toArray, List.getElem?_cons_zero, List.getElem?_cons_succ] at ccl
      obtain ⟨V13, hV13⟩ : ∃ W', World.setCell W10 ⟨P, 13, none⟩ (.slice vo BL.length vc) = W' := ⟨_, rfl⟩
      rw [hV13] at hput BYF
      have E13 := Lib.hid hV13
      have D13 := Lib.hid hput.1
      clear hput r9 r9' s9 l9 lead9 e9 hV13 DC DB RB0 HEB BB SZB SGB HSR D2 SG2
      have EN : refN k ((ya1 :: yb1 :: (ya3 :: yb3 :: R3)), false) = ({ ({ noNote with kind := (k : Int), vlan := 0, port := (of2 ya1 yb1), state := 0 } : Note) with body := BL } : Note) := by
        simp only [refN, sV, sM, sP, sS, pV, pM, pP, pS, opt, hv, hm, hp, hq, hb, if_true, if_false, Bool.false_eq_true, shortP_cons, byteP_cons, key.out]
        rfl
      rw [EN] at LAW HSE
      have hNB : (({ ({ noNote with kind := (k : Int), vlan := 0, port := (of2 ya1 yb1), state := 0 } : Note) with body := BL } : Note)).body = BL := rfl
      clear EN
      have DX : Hid (Dr w V13 w.heap.size P ep sq ak ({ ({ noNote with kind := (k : Int), vlan := 0, port := (of2 ya1 yb1), state := 0 } : Note) with body := BL } : Note) (.slice vo BL.length vc)) := D13
      generalize ({ ({ noNote with kind := (k : Int), vlan := 0, port := (of2 ya1 yb1), state := 0 } : Note) with body := BL } : Note) = N at *
      have DF : Hid (Dr w V13 w.heap.size P ep sq ak N (.slice vo N.body.length vc)) := by rw [hNB]; exact DX
      have BF : Hid (Bytes V13 (.slice vo N.body.length vc) N.body) := by rw [hNB]; exact BYF
      have LF : Hid (¬ Leads (.slice vo N.body.length vc) w.heap.size ∧ N.body.length ≤ 10000) := by rw [hNB]; exact LN9
      have LP := Lib.hid (load_pkt DF.out.p)
      have RE := Lib.hid (rencode_all ep sq ak N vo vc V13 BF.out LF.out.2)
      clear hNB DX D13
      go_wp2_with (first
        | rw [E13.out]
        | (refine wpList_load_is 28 (.tmp 4) rfl rfl rfl LP.out ?_))
      clear i1 i2 i3 i4 i5 i6 i7 i8 i9 y1 y2 y3 y4 y5 y6 y7 y8 hmin ccl cfz
      refine RE.out.mono ?_
      rintro e W9 ⟨u, rfl, hu, s9⟩
      have D9 := Lib.hid (DF.out.still s9)
      have B9 := Lib.hid (BF.out.step s9 (fun _ _ s => s.elim))
      have LP := Lib.hid (load_pkt D9.out.p)
      have hE := encB_max ep sq ak N
      have t1 := seg_text (seg_row hu.row) (by have := LF.out.2; omega)
      have hvl := HV.out
      rw [HM.out.1] at hvl
      have t2 := seg_text (hvl.still D9.out.st) (by have := HM.out; omega)
      have HF := Lib.hid hu.form
      have HC := Lib.hid (show codeB ep sq ak N = if okP ep sq ak N then 0 else 1 from rfl)
      clear s9 hu DF BF RE hE hvl
      cases ho : okP ep sq ak N
      · have hc : codeB ep sq ak N = 1 := by rw [HC.out, ho]; rfl
        rw [hc]
        have HNO : Hid (decOk l = false) := by
          cases hd : decOk l
          · exact Lib.hid rfl
          · have := (LAW.out.2 hd).1
            rw [ho] at this
            cases this
        clear hc ho t1 t2 HC
        obtain ⟨xo, xc, rfl⟩ := HF.out
        go_wp2_with (first
          | (refine wpList_store_row rfl 28 (.tmp 2) (.tmp 113) rfl w.heap.size noPkt rfl rfl 28 _ D9.out.t (by kernel_rfl) rfl (by simp [noPkt, Note.packet, noNote, Value.oneCell']) ?_))
        (try simp only [Exit.inBlock, Exit.then])
        refine bodyPost_ret (results_cell_row2 (P := Tryd.prog) (fn := Tryd.f21) rfl _ _ w.heap.size 28 noPkt (0, 0) _ rfl (setRow_heap _ _ _ _ _ _ D9.out.t) Tryd.underlying28 rfl (by kernel_rfl)) rfl ?_
        exact dec_fail HNO.out D9.out.st D9.out.newT
      · have hc : codeB ep sq ak N = 0 := by rw [HC.out, ho]; rfl
        rw [hc]
        cases hd : decOk l
        · have hne : encB ep sq ak N ≠ l := by
            rcases LAW.out.1 hd with h | h
            · rw [ho] at h; cases h
            · exact h
          have hsm : Small (encB ep sq ak N) := HSE.out
          have tb := text_beq hsm HS.out
          rw [decide_eq_false hne] at tb
          have tb2 : ((strOfNums (encB ep sq ak N)).toList != (strOfNums l).toList) = true := by rw [bne, tb]; rfl
          have HNO := Lib.hid hd
          clear hc ho HC hsm hne hd
          obtain ⟨xo, xc, rfl⟩ := HF.out
          generalize strOfNums (encB ep sq ak N) = sE at *
          generalize strOfNums l = sL at *
          go_wp2_with (first
            | (refine wpList_store_row rfl 28 (.tmp 2) (.tmp 113) rfl w.heap.size noPkt rfl rfl 28 _ D9.out.t (by kernel_rfl) rfl (by simp [noPkt, Note.packet, noNote, Value.oneCell']) ?_))
          (try simp only [Exit.inBlock, Exit.then])
          refine bodyPost_ret (results_cell_row2 (P := Tryd.prog) (fn := Tryd.f21) rfl _ _ w.heap.size 28 noPkt (0, 0) _ rfl (setRow_heap _ _ _ _ _ _ D9.out.t) Tryd.underlying28 rfl (by kernel_rfl)) rfl ?_
          exact dec_fail HNO.out D9.out.st D9.out.newT
        · obtain ⟨-, he, h3, h4, h5, h6⟩ := LAW.out.2 hd
          have HY := Lib.hid (And.intro h3 (And.intro h4 (And.intro h5 (And.intro h6 (show decCode l = 0 by rw [decCode, if_pos hd])))))
          rw [he] at t1
          rw [he] at HF
          clear hc ho HC hd h3 h4 h5 h6 he
          obtain ⟨xo, xc, rfl⟩ := HF.out
          generalize strOfNums l = sL at *
          go_wp2_with (first
            | (refine wpList_load_is 28 (.tmp 4) rfl rfl rfl LP.out ?_)
            | (refine wpList_store_row rfl 28 (.tmp 2) (.tmp 114) rfl w.heap.size (N.packet ep sq ak (.slice vo N.body.length vc)) rfl rfl 28 _ D9.out.t (by kernel_rfl) rfl (by simp [Note.packet, Value.oneCell']) ?_))
          (try simp only [Exit.inBlock, Exit.then])
          refine bodyPost_ret (results_cell_row2 (P := Tryd.prog) (fn := Tryd.f21) rfl _ _ w.heap.size 28 (N.packet ep sq ak (.slice vo N.body.length vc)) (0, 0) _ rfl (setRow_heap _ _ _ _ _ _ D9.out.t) Tryd.underlying28 rfl (by kernel_rfl)) rfl ?_
          obtain ⟨h3, h4, h5, h6, h7⟩ := HY.out
          rw [h3, h4, h5, h6, h7]
          exact ⟨vo, vc, rfl, B9.out.step (step_setRow (S := fun k => k = w.heap.size) (Step.refl _ _) (fun _ => rfl) _) (fun k hk e => LF.out.1 (e ▸ hk)), step_setRow D9.out.st (fun hh => by have := D9.out.newT; omega) _⟩
  · obtain ⟨hv, hm, hp, hq, hb⟩ := HPAT
    rw [hv] at RV
    rw [hm] at RM
    rw [hp] at RP
    rw [hq] at RS
    rw [hb] at RB
    have LB7 : Hid (20 ≤ n7 ∧ n7 ≤ 5020) := Lib.hid (by rw [← HN7.out]; exact ⟨T1.out, T2.out⟩)
    go_wp2_with fail
    refine (RV.out _).mono ?_
    rintro e w' ⟨rfl, rfl⟩
    go_wp2_with fail
    go_loopw [6, 7] (fun u i wr => u = .slice (some ⟨b7, o7, none⟩) n7 c7 ∧ i = .int .i64 0 ∧ W7 = wr) (fun _ _ _ => 0)
    case atStart => exact ⟨rfl, rfl, rfl⟩
    case round =>
      obtain ⟨rfl, rfl, rfl⟩ := hrel
      go_wp2_with fail
      refine (RM.out _).mono ?_
      rintro e w' ⟨rfl, rfl⟩
      go_wp2_with fail
      refine (RP.out _).mono ?_
      rintro e w' ⟨rfl, rfl⟩
      go_wp2_with fail
      refine (RS.out _).mono ?_
      rintro e w' ⟨rfl, rfl⟩
      obtain ⟨hsr, hnl, hnc⟩ := seg_rest SG7.out 1 (by have := LB7.out; omega)
      have i1 : (1 : Int) ≤ (c7 : Int) := by have := LB7.out; omega
      have i2 : 1 ≤ c7 := by have := LB7.out; omega
      have i3 : (1 : Int) ≤ (n7 : Int) := by have := LB7.out; omega
      have i4 : 1 ≤ n7 := by have := LB7.out; omega
      have i5 : ¬ c7 = 1 := by have := LB7.out; omega
      have i6 : (n7 : Int) ≤ (c7 : Int) := by omega
      have i7 : n7 ≤ c7 := hnc
      have i8 : (0 : Int) < (n7 : Int) := by have := LB7.out; omega
      have i9 : 0 < n7 := by have := LB7.out; omega
      have HSR := Lib.hid hsr
      clear hsr hnc
      obtain ⟨ya1, R1, rfl⟩ := one_of (l := R) (by have h2 : n7 = R.length := hnl; omega)
      clear hnl
      have ca := seg_first SG7.out
      have ea : IntKind.i64.wrap ya1 = ya1 := IntWalk.i64_in _ (by have := HSM.out ya1 (by simp); omega)
      have ccl := blk_cell DZ.out.p 12
      have cfz := blk_frozen DZ.out.p 12
      simp only [Note.packet, noNote, List.getElem?_toArray, List.getElem?_cons_zero, List.getElem?_cons_succ] at ccl
      have hput := DZ.out.put 12 (.int .i64 ya1) (n' := ({ noNote with kind := (k : Int), vlan := 0, port := 0, state := ya1 } : Note)) (bv' := .slice none 0 0) rfl
      obtain ⟨V2, hV2⟩ : ∃ W', World.setCell W7 ⟨P, 12, none⟩ (.int .i64 ya1) = W' := ⟨_, rfl⟩
      rw [hV2] at hput
      have E2 := Lib.hid hV2
      have D2 := Lib.hid hput.1
      have HPUT := Lib.hid hput.2
      clear hput hV2
      have HSM := Lib.hid (show Small R1 from fun x hx => HSM.out x (by simp [hx]))
      go_wp2_with (first
        | rw [E2.out])
      clear i1 i2 i3 i4 i5 i6 i7 i8 i9 ca ea
      have SG2 := Lib.hid (seg_beside HSR.out HPUT.out BP.out)
      generalize o7 + 1 = o2 at *
      generalize hn2 : n7 - 1 = n2 at *
      generalize c7 - 1 = c2 at *
      have LB2 : Hid (19 ≤ n2 ∧ n2 ≤ 5020) := Lib.hid (by have := LB7.out; omega)
      clear HPUT hn2 HSR ccl cfz DZ SG7
      have EN : refN k ((ya1 :: R1), false) = ({ noNote with kind := (k : Int), vlan := 0, port := 0, state := ya1 } : Note) := by
        simp only [refN, sV, sM, sP, sS, pV, pM, pP, pS, opt, hv, hm, hp, hq, hb, if_true, if_false, Bool.false_eq_true, shortP_cons, byteP_cons]
        rfl
      rw [EN] at LAW HSE
      have hNB : (({ noNote with kind := (k : Int), vlan := 0, port := 0, state := ya1 } : Note)).body = [] := rfl
      clear EN
      have DX : Hid (Dr w V2 w.heap.size P ep sq ak ({ noNote with kind := (k : Int), vlan := 0, port := 0, state := ya1 } : Note) (.slice none 0 0)) := D2
      generalize ({ noNote with kind := (k : Int), vlan := 0, port := 0, state := ya1 } : Note) = N at *
      have DF : Hid (Dr w V2 w.heap.size P ep sq ak N (.slice none N.body.length 0)) := by rw [hNB]; exact DX
      have BF : Hid (Bytes V2 (.slice none N.body.length 0) N.body) := by rw [hNB]; exact Lib.hid (.inl ⟨rfl, rfl⟩)
      have LF : Hid (¬ Leads (.slice none N.body.length 0) w.heap.size ∧ N.body.length ≤ 10000) := by rw [hNB]; exact Lib.hid ⟨fun hk => by simp [Leads, Value.ownBlock] at hk, by simp⟩
      have LP := Lib.hid (load_pkt DF.out.p)
      have RE := Lib.hid (rencode_all ep sq ak N none 0 V2 BF.out LF.out.2)
      clear hNB DX D2
      refine (RB.out _).mono ?_
      rintro e w' ⟨rfl, rfl⟩
      go_wp2_with (first
        | (refine wpList_load_is 28 (.tmp 4) rfl rfl rfl LP.out ?_))
      refine RE.out.mono ?_
      rintro e W9 ⟨u, rfl, hu, s9⟩
      have D9 := Lib.hid (DF.out.still s9)
      have B9 := Lib.hid (BF.out.step s9 (fun _ _ s => s.elim))
      have LP := Lib.hid (load_pkt D9.out.p)
      have hE := encB_max ep sq ak N
      have t1 := seg_text (seg_row hu.row) (by have := LF.out.2; omega)
      have hvl := HV.out
      rw [HM.out.1] at hvl
      have t2 := seg_text (hvl.still D9.out.st) (by have := HM.out; omega)
      have HF := Lib.hid hu.form
      have HC := Lib.hid (show codeB ep sq ak N = if okP ep sq ak N then 0 else 1 from rfl)
      clear s9 hu DF BF RE hE hvl
      cases ho : okP ep sq ak N
      · have hc : codeB ep sq ak N = 1 := by rw [HC.out, ho]; rfl
        rw [hc]
        have HNO : Hid (decOk l = false) := by
          cases hd : decOk l
          · exact Lib.hid rfl
          · have := (LAW.out.2 hd).1
            rw [ho] at this
            cases this
        clear hc ho t1 t2 HC
        obtain ⟨xo, xc, rfl⟩ := HF.out
        go_wp2_with (first
          | (refine wpList_store_row rfl 28 (.tmp 2) (.tmp 113) rfl w.heap.size noPkt rfl rfl 28 _ D9.out.t (by kernel_rfl) rfl (by simp [noPkt, Note.packet, noNote, Value.oneCell']) ?_))
        (try simp only [Exit.inBlock, Exit.then])
        refine bodyPost_ret (results_cell_row2 (P := Tryd.prog) (fn := Tryd.f21) rfl _ _ w.heap.size 28 noPkt (0, 0) _ rfl (setRow_heap _ _ _ _ _ _ D9.out.t) Tryd.underlying28 rfl (by kernel_rfl)) rfl ?_
        exact dec_fail HNO.out D9.out.st D9.out.newT
      · have hc : codeB ep sq ak N = 0 := by rw [HC.out, ho]; rfl
        rw [hc]
        cases hd : decOk l
        · have hne : encB ep sq ak N ≠ l := by
            rcases LAW.out.1 hd with h | h
            · rw [ho] at h; cases h
            · exact h
          have hsm : Small (encB ep sq ak N) := HSE.out
          have tb := text_beq hsm HS.out
          rw [decide_eq_false hne] at tb
          have tb2 : ((strOfNums (encB ep sq ak N)).toList != (strOfNums l).toList) = true := by rw [bne, tb]; rfl
          have HNO := Lib.hid hd
          clear hc ho HC hsm hne hd
          obtain ⟨xo, xc, rfl⟩ := HF.out
          generalize strOfNums (encB ep sq ak N) = sE at *
          generalize strOfNums l = sL at *
          go_wp2_with (first
            | (refine wpList_store_row rfl 28 (.tmp 2) (.tmp 113) rfl w.heap.size noPkt rfl rfl 28 _ D9.out.t (by kernel_rfl) rfl (by simp [noPkt, Note.packet, noNote, Value.oneCell']) ?_))
          (try simp only [Exit.inBlock, Exit.then])
          refine bodyPost_ret (results_cell_row2 (P := Tryd.prog) (fn := Tryd.f21) rfl _ _ w.heap.size 28 noPkt (0, 0) _ rfl (setRow_heap _ _ _ _ _ _ D9.out.t) Tryd.underlying28 rfl (by kernel_rfl)) rfl ?_
          exact dec_fail HNO.out D9.out.st D9.out.newT
        · obtain ⟨-, he, h3, h4, h5, h6⟩ := LAW.out.2 hd
          have HY := Lib.hid (And.intro h3 (And.intro h4 (And.intro h5 (And.intro h6 (show decCode l = 0 by rw [decCode, if_pos hd])))))
          rw [he] at t1
          rw [he] at HF
          clear hc ho HC hd h3 h4 h5 h6 he
          obtain ⟨xo, xc, rfl⟩ := HF.out
          generalize strOfNums l = sL at *
          go_wp2_with (first
            | (refine wpList_load_is 28 (.tmp 4) rfl rfl rfl LP.out ?_)
            | (refine wpList_store_row rfl 28 (.tmp 2) (.tmp 114) rfl w.heap.size (N.packet ep sq ak (.slice none N.body.length 0)) rfl rfl 28 _ D9.out.t (by kernel_rfl) rfl (by simp [Note.packet, Value.oneCell']) ?_))
          (try simp only [Exit.inBlock, Exit.then])
          refine bodyPost_ret (results_cell_row2 (P := Tryd.prog) (fn := Tryd.f21) rfl _ _ w.heap.size 28 (N.packet ep sq ak (.slice none N.body.length 0)) (0, 0) _ rfl (setRow_heap _ _ _ _ _ _ D9.out.t) Tryd.underlying28 rfl (by kernel_rfl)) rfl ?_
          obtain ⟨h3, h4, h5, h6, h7⟩ := HY.out
          rw [h3, h4, h5, h6, h7]
          exact ⟨none, 0, rfl, B9.out.step (step_setRow (S := fun k => k = w.heap.size) (Step.refl _ _) (fun _ => rfl) _) (fun k hk e => LF.out.1 (e ▸ hk)), step_setRow D9.out.st (fun hh => by have := D9.out.newT; omega) _⟩
  · obtain ⟨hv, hm, hp, hq, hb⟩ := HPAT
    rw [hv] at RV
    rw [hm] at RM
    rw [hp] at RP
    rw [hq] at RS
    rw [hb] at RB
    have LB7 : Hid (20 ≤ n7 ∧ n7 ≤ 5020) := Lib.hid (by rw [← HN7.out]; exact ⟨T1.out, T2.out⟩)
    go_wp2_with fail
    refine (RV.out _).mono ?_
    rintro e w' ⟨rfl, rfl⟩
    obtain ⟨hsr, hnl, hnc⟩ := seg_rest SG7.out 2 (by have := LB7.out; omega)
    have i1 : (2 : Int) ≤ (c7 : Int) := by have := LB7.out; omega
    have i2 : 2 ≤ c7 := by have := LB7.out; omega
    have i3 : (2 : Int) ≤ (n7 : Int) := by have := LB7.out; omega
    have i4 : 2 ≤ n7 := by have := LB7.out; omega
    have i5 : ¬ c7 = 2 := by have := LB7.out; omega
    have i6 : (n7 : Int) ≤ (c7 : Int) := by omega
    have i7 : n7 ≤ c7 := hnc
    have i8 : (0 : Int) < (n7 : Int) := by have := LB7.out; omega
    have i9 : 0 < n7 := by have := LB7.out; omega
    have HSR := Lib.hid hsr
    clear hsr hnc
    obtain ⟨ya1, yb1, R1, rfl⟩ := two_of (l := R) (by have h2 : n7 = R.length := hnl; omega)
    clear hnl
    have OT := Lib.hid (of_two c7 SG7.out HSM.out)
    go_wp2_with fail
    refine OT.out.mono ?_
    rintro e w' ⟨rfl, rfl⟩
    clear OT
    have ccl := blk_cell DZ.out.p 4
    have cfz := blk_frozen DZ.out.p 4
    simp only [Note.packet, noNote, List.getElem?_toArray, List.getElem?_cons_zero, List.getElem?_cons_succ] at ccl
    have hput := DZ.out.put 4 (.int .i64 (of2 ya1 yb1)) (n' := ({ noNote with kind := (k : Int), vlan := (of2 ya1 yb1), port := 0, state := 0 } : Note)) (bv' := .slice none 0 0) rfl
    obtain ⟨V2, hV2⟩ : ∃ W', World.setCell W7 ⟨P, 4, none⟩ (.int .i64 (of2 ya1 yb1)) = W' := ⟨_, rfl⟩
    rw [hV2] at hput
    have E2 := Lib.hid hV2
    have D2 := Lib.hid hput.1
    have HPUT := Lib.hid hput.2
    clear hput hV2
    have HSM := Lib.hid (show Small R1 from fun x hx => HSM.out x (by simp [hx]))
    go_wp2_with (first
      | rw [E2.out])
    clear i1 i2 i3 i4 i5 i6 i7 i8 i9
    have SG2 := Lib.hid (seg_beside HSR.out HPUT.out BP.out)
    generalize o7 + 2 = o2 at *
    generalize hn2 : n7 - 2 = n2 at *
    generalize c7 - 2 = c2 at *
    have LB2 : Hid (18 ≤ n2 ∧ n2 ≤ 5020) := Lib.hid (by have := LB7.out; omega)
    clear HPUT hn2 HSR ccl cfz DZ SG7
    go_loopw [6, 7] (fun u i wr => u = .slice (some ⟨b7, o2, none⟩) n2 c2 ∧ i = .int .i64 0 ∧ V2 = wr) (fun _ _ _ => 0)
    case atStart => exact ⟨rfl, rfl, rfl⟩
    case round =>
      obtain ⟨rfl, rfl, rfl⟩ := hrel
      go_wp2_with fail
      refine (RM.out _).mono ?_
      rintro e w' ⟨rfl, rfl⟩
      go_wp2_with fail
      refine (RP.out _).mono ?_
      rintro e w' ⟨rfl, rfl⟩
      obtain ⟨hsr, hnl, hnc⟩ := seg_rest SG2.out 2 (by have := LB2.out; omega)
      have i1 : (2 : Int) ≤ (c2 : Int) := by have := LB2.out; omega
      have i2 : 2 ≤ c2 := by have := LB2.out; omega
      have i3 : (2 : Int) ≤ (n2 : Int) := by have := LB2.out; omega
      have i4 : 2 ≤ n2 := by have := LB2.out; omega
      have i5 : ¬ c2 = 2 := by have := LB2.out; omega
      have i6 : (n2 : Int) ≤ (c2 : Int) := by omega
      have i7 : n2 ≤ c2 := hnc
      have i8 : (0 : Int) < (n2 : Int) := by have := LB2.out; omega
      have i9 : 0 < n2 := by have := LB2.out; omega
      have HSR := Lib.hid hsr
      clear hsr hnc
      obtain ⟨ya3, yb3, R3, rfl⟩ := two_of (l := R1) (by have h2 : n2 = R1.length := hnl; omega)
      clear hnl
      have OT := Lib.hid (of_two c2 SG2.out HSM.out)
      go_wp2_with fail
      refine OT.out.mono ?_
      rintro e w' ⟨rfl, rfl⟩
      clear OT
      have ccl := blk_cell D2.out.p 11
      have cfz := blk_frozen D2.out.p 11
      simp only [Note.packet, noNote, List.getElem?_toArray, List.getElem?_cons_zero, List.getElem?_cons_succ] at ccl
      have hput := D2.out.put 11 (.int .i64 (of2 ya3 yb3)) (n' := ({ noNote with kind := (k : Int), vlan := (of2 ya1 yb1), port := (of2 ya3 yb3), state := 0 } : Note)) (bv' := .slice none 0 0) rfl
      obtain ⟨V4, hV4⟩ : ∃ W', World.setCell V2 ⟨P, 11, none⟩ (.int .i64 (of2 ya3 yb3)) = W' := ⟨_, rfl⟩
      rw [hV4] at hput
      have E4 := Lib.hid hV4
      have D4 := Lib.hid hput.1
      have HPUT := Lib.hid hput.2
      clear hput hV4
      have HSM := Lib.hid (show Small R3 from fun x hx => HSM.out x (by simp [hx]))
      go_wp2_with (first
        | rw [E4.out])
      clear i1 i2 i3 i4 i5 i6 i7 i8 i9
      have SG4 := Lib.hid (seg_beside HSR.out HPUT.out BP.out)
      generalize o2 + 2 = o4 at *
      generalize hn4 : n2 - 2 = n4 at *
      generalize c2 - 2 = c4 at *
      have LB4 : Hid (16 ≤ n4 ∧ n4 ≤ 5020) := Lib.hid (by have := LB2.out; omega)
      clear HPUT hn4 HSR ccl cfz D2 SG2
      refine (RS.out _).mono ?_
      rintro e w' ⟨rfl, rfl⟩
      obtain ⟨hsr, hnl, hnc⟩ := seg_rest SG4.out 1 (by have := LB4.out; omega)
      have i1 : (1 : Int) ≤ (c4 : Int) := by have := LB4.out; omega
      have i2 : 1 ≤ c4 := by have := LB4.out; omega
      have i3 : (1 : Int) ≤ (n4 : Int) := by have := LB4.out; omega
      have i4 : 1 ≤ n4 := by have := LB4.out; omega
      have i5 : ¬ c4 = 1 := by have := LB4.out; omega
      have i6 : (n4 : Int) ≤ (c4 : Int) := by omega
      have i7 : n4 ≤ c4 := hnc
      have i8 : (0 : Int) < (n4 : Int) := by have := LB4.out; omega
      have i9 : 0 < n4 := by have := LB4.out; omega
      have HSR := Lib.hid hsr
      clear hsr hnc
      obtain ⟨ya5, R5, rfl⟩ := one_of (l := R3) (by have h2 : n4 = R3.length := hnl; omega)
      clear hnl
      have ca := seg_first SG4.out
      have ea : IntKind.i64.wrap ya5 = ya5 := IntWalk.i64_in _ (by have := HSM.out ya5 (by simp); omega)
      have ccl := blk_cell D4.out.p 12
      have cfz := blk_frozen D4.out.p 12
      simp only [Note.packet, noNote, List.getElem?_toArray, List.getElem?_cons_zero, List.getElem?_cons_succ] at ccl
      have hput := D4.out.put 12 (.int .i64 ya5) (n' := ({ noNote with kind := (k : Int), vlan := (of2 ya1 yb1), port := (of2 ya3 yb3), state := ya5 } : Note)) (bv' := .slice none 0 0) rfl
      obtain ⟨V6, hV6⟩ : ∃ W', World.setCell V4 ⟨P, 12, none⟩ (.int .i64 ya5) = W' := ⟨_, rfl⟩
      rw [hV6] at hput
      have E6 := Lib.hid hV6
      have D6 := Lib.hid hput.1
      have HPUT := Lib.hid hput.2
      clear hput hV6
      have HSM := Lib.hid (show Small R5 from fun x hx => HSM.out x (by simp [hx]))
      go_wp2_with (first
        | rw [E6.out])
      clear i1 i2 i3 i4 i5 i6 i7 i8 i9 ca ea
      have SG6 := Lib.hid (seg_beside HSR.out HPUT.out BP.out)
      generalize o4 + 1 = o6 at *
      generalize hn6 : n4 - 1 = n6 at *
      generalize c4 - 1 = c6 at *
      have LB6 : Hid (15 ≤ n6 ∧ n6 ≤ 5020) := Lib.hid (by have := LB4.out; omega)
      clear HPUT hn6 HSR ccl cfz D4 SG4
      refine (RB.out _).mono ?_
      rintro e w' ⟨rfl, rfl⟩
      obtain ⟨hsr, hnl, hnc⟩ := seg_rest SG6.out 2 (by have := LB6.out; omega)
      have i1 : (2 : Int) ≤ (c6 : Int) := by have := LB6.out; omega
      have i2 : 2 ≤ c6 := by have := LB6.out; omega
      have i3 : (2 : Int) ≤ (n6 : Int) := by have := LB6.out; omega
      have i4 : 2 ≤ n6 := by have := LB6.out; omega
      have i5 : ¬ c6 = 2 := by have := LB6.out; omega
      have i6 : (n6 : Int) ≤ (c6 : Int) := by omega
      have i7 : n6 ≤ c6 := hnc
      have i8 : (0 : Int) < (n6 : Int) := by have := LB6.out; omega
      have i9 : 0 < n6 := by have := LB6.out; omega
      have HSR := Lib.hid hsr
      clear hsr hnc
      obtain ⟨ya7, yb7, R7, rfl⟩ := two_of (l := R5) (by have h2 : n6 = R5.length := hnl; omega)
      have OT := Lib.hid (of_two c6 SG6.out HSM.out)
      have hn2 : n6 = (ya7 :: yb7 :: R7).length := hnl
      have s0 := HSM.out ya7 (by simp)
      have s1 := HSM.out yb7 (by simp)
      have hof : 0 ≤ of2 ya7 yb7 ∧ of2 ya7 yb7 ≤ 65535 := by unfold of2; omega
      obtain ⟨yy, mn, hyy, hmn, hmn2, y1, y2, y3, y4, y5, y6, y7, y8, hmx⟩ := body_facts (n := n6) (c := c6) (z := of2 ya7 yb7) (by have := LB6.out.1; omega) LB6.out.2 i7 hof.1
      have hmin : ∀ w ts t, (Builtin.min_ ts t #[.int .i64 (of2 ya7 yb7), .int .i64 (yy : Int)]).run Tryd.prog w = .ok (.int .i64 (mn : Int)) w := fun w ts t => by
        rw [← hmn]
        exact run_min_int _ _ _ _ _
      have HMX := Lib.hid hmx
      obtain ⟨hMN, hyR⟩ := len_two (z := of2 ya7 yb7) hn2 hyy hmn
      have HMN := Lib.hid hMN
      clear hMN hmn
      obtain ⟨BL, hBL⟩ : ∃ BL, R7.take mn = BL := ⟨_, rfl⟩
      have hBLl : BL.length = mn := by rw [← hBL, List.length_take, ← hyR]; exact Nat.min_eq_left hmn2
      have key := Lib.hid (show refBody (ya7 :: yb7 :: R7) = BL by unfold refBody; rw [shortP_cons]; dsimp only; rw [HMN.out]; exact hBL)
      have SGB : Hid (Seg V6 (.slice (some ⟨b7, o6 + 2, none⟩) BL.length (c6 - 2)) BL) := by
        obtain ⟨ao', cap', ev, h1, h2, h3, h4⟩ := HSR.out
        simp only [Value.slice.injEq] at ev
        obtain ⟨rfl, h0, rfl⟩ := ev
        have := seg_take (n := mn) (l := R7) (by rw [← hyR]; exact hmn2) (show R7.length ≤ c6 - 2 from h1) h2 h3 h4
        rw [hBL, ← hBLl] at this
        exact Lib.hid this
      have HBLL := Lib.hid hBLl
      have hrow0 : Row (World.alloc V6 (.cells #[] 5)) 5 1 (.slice (some ⟨V6.heap.size, 0, none⟩) 0 0) 0 [] := Row.ofBlock (n := 0) (cap := 0) (heap_alloc_new V6 (.cells #[] 5)) (Nat.le_refl _) (by simp [maxLen]) (by simp)
      have sa := (Step.refl None V6).alloc (.cells #[] 5)
      obtain ⟨WB, hWB⟩ : ∃ W5, World.alloc V6 (.cells #[] 5) = W5 := ⟨_, rfl⟩
      rw [hWB] at sa hrow0
      have RB0 := Lib.hid hrow0
      have HEB := Lib.hid hWB
      have DB := Lib.hid (D6.out.still sa)
      have SZB := Lib.hid (D6.out.st.size)
      have BB := Lib.hid (((SGB.out.still sa).bytes (by rw [hBLl]; exact Nat.le_trans HMX.out (by decide))).src Tryd.underlying24)
      rw [hBLl] at BB
      clear hnl hn2 hyR hmn2 hof s0 s1 hyy hmx HMN hBLl hrow0 sa hWB hBL
      go_wp2_with fail
      refine OT.out.mono ?_
      rintro e w' ⟨rfl, rfl⟩
      clear OT
      go_wp2_with (first
        | rw [HEB.out]
        | (at_builtin; refine wpList_append_row T24 rfl (.tmp 91) (.tmp 95) rfl rfl RB0.out rfl BB.out ?ha ?hb ?_))
      case ha => exact Nat.le_trans (by rw [Nat.zero_add]; exact HMX.out) (by decide)
      case hb => exact Nat.le_trans (by rw [Nat.zero_add, Nat.mul_one]; exact HMX.out) (by decide)
      intro v9 W10 r9 s9 l9
      have lead9 : ∀ k, Leads (.slice (some ⟨V6.heap.size, 0, none⟩) 0 0) k → k = V6.heap.size := fun k hk => by simp [Leads, Value.ownBlock] at hk; exact hk.symm
      have DC := Lib.hid (DB.out.led RB0.out s9 fun k hk => by have := lead9 k hk; have := SZB.out; omega)
      have e9 : mn = BL.length := HBLL.out.symm
      obtain ⟨vo, vc, ev, -, -⟩ := r9.form
      rw [e9] at ev r9
      subst ev
      have hput := DC.out.put 13 (.slice vo BL.length vc) (n' := { ({ noNote with kind := (k : Int), vlan := (of2 ya1 yb1), port := (of2 ya3 yb3), state := ya5 } : Note) with body := BL }) (bv' := .slice vo BL.length vc) rfl
      have r9' : Row W10 5 1 (.slice vo BL.length vc) BL.length (BL.map (.int .u8)) := r9
      have LN9 := Lib.hid (And.intro (r9'.ne DC.out.t (by decide)) (show BL.length ≤ 10000 by rw [HBLL.out]; exact Nat.le_trans HMX.out (by decide)))
      have BYF := Lib.hid ((r9'.bytes (by rw [HBLL.out]; exact Nat.le_trans HMX.out (by decide))).step hput.2 (fun k hk e => r9'.ne DC.out.p (by decide) (by rw [← e]; exact hk)))
      have ccl := blk_cell DC.out.p 13
      have cfz := blk_frozen DC.out.p 13
      simp only [Note.packet, noNote, List.getElem?_toArray, List.getElem?_cons_zero, List.getElem?_cons_succ] at ccl
      obtain ⟨V13, hV13⟩ : ∃ W', World.setCell W10 ⟨P, 13, none⟩ (.slice vo BL.length vc) = W' := ⟨_, rfl⟩
      rw [hV13] at hput BYF
      have E13 := Lib.hid hV13
      have D13 := Lib.hid hput.1
      clear hput r9 r9' s9 l9 lead9 e9 hV13 DC DB RB0 HEB BB SZB SGB HSR D6 SG6
      have EN : refN k ((ya1 :: yb1 :: (ya3 :: yb3 :: (ya5 :: (ya7 :: yb7 :: R7)))), false) = ({ ({ noNote with kind := (k : Int), vlan := (of2 ya1 yb1), port := (of2 ya3 yb3), state := ya5 } : Note) with body := BL } : Note) := by
        simp only [refN, sV, sM, sP, sS, pV, pM, pP, pS, opt, hv, hm, hp, hq, hb, if_true, if_false, Bool.false_eq_true, shortP_cons, byteP_cons, key.out]
        rfl
      rw [EN] at LAW HSE
      have hNB : (({ ({ noNote with kind := (k : Int), vlan := (of2 ya1 yb1), port := (of2 ya3 yb3), state := ya5 } : Note) with body := BL } : Note)).body = BL := rfl
      clear EN
      have DX : Hid (Dr w V13 w.heap.size P ep sq ak ({ ({ noNote with kind := (k : Int), vlan := (of2 ya1 yb1), port := (of2 ya3 yb3), state := ya5 } : Note) with body := BL } : Note) (.slice vo BL.length vc)) := D13
      generalize ({ ({ noNote with kind := (k : Int), vlan := (of2 ya1 yb1), port := (of2 ya3 yb3), state := ya5 } : Note) with body := BL } : Note) = N at *
      have DF : Hid (Dr w V13 w.heap.size P ep sq ak N (.slice vo N.body.length vc)) := by rw [hNB]; exact DX
      have BF : Hid (Bytes V13 (.slice vo N.body.length vc) N.body) := by rw [hNB]; exact BYF
      have LF : Hid (¬ Leads (.slice vo N.body.length vc) w.heap.size ∧ N.body.length ≤ 10000) := by rw [hNB]; exact LN9
      have LP := Lib.hid (load_pkt DF.out.p)
      have RE := Lib.hid (rencode_all ep sq ak N vo vc V13 BF.out LF.out.2)
      clear hNB DX D13
      go_wp2_with (first
        | rw [E13.out]
        | (refine wpList_load_is 28 (.tmp 4) rfl rfl rfl LP.out ?_))
      clear i1 i2 i3 i4 i5 i6 i7 i8 i9 y1 y2 y3 y4 y5 y6 y7 y8 hmin ccl cfz
      refine RE.out.mono ?_
      rintro e W9 ⟨u, rfl, hu, s9⟩
      have D9 := Lib.hid (DF.out.still s9)
      have B9 := Lib.hid (BF.out.step s9 (fun _ _ s => s.elim))
      have LP := Lib.hid (load_pkt D9.out.p)
      have hE := encB_max ep sq ak N
      have t1 := seg_text (seg_row hu.row) (by have := LF.out.2; omega)
      have hvl := HV.out
      rw [HM.out.1] at hvl
      have t2 := seg_text (hvl.still D9.out.st) (by have := HM.out; omega)
      have HF := Lib.hid hu.form
      have HC := Lib.hid (show codeB ep sq ak N = if okP ep sq ak N then 0 else 1 from rfl)
      clear s9 hu DF BF RE hE hvl
      cases ho : okP ep sq ak N
      · have hc : codeB ep sq ak N = 1 := by rw [HC.out, ho]; rfl
        rw [hc]
        have HNO : Hid (decOk l = false) := by
          cases hd : decOk l
          · exact Lib.hid rfl
          · have := (LAW.out.2 hd).1
            rw [ho] at this
            cases this
        clear hc ho t1 t2 HC
        obtain ⟨xo, xc, rfl⟩ := HF.out
        go_wp2_with (first
          | (refine wpList_store_row rfl 28 (.tmp 2) (.tmp 113) rfl w.heap.size noPkt rfl rfl 28 _ D9.out.t (by kernel_rfl) rfl (by simp [noPkt, Note.packet, noNote, Value.oneCell']) ?_))
        (try simp only [Exit.inBlock, Exit.then])
        refine bodyPost_ret (results_cell_row2 (P := Tryd.prog) (fn := Tryd.f21) rfl _ _ w.heap.size 28 noPkt (0, 0) _ rfl (setRow_heap _ _ _ _ _ _ D9.out.t) Tryd.underlying28 rfl (by kernel_rfl)) rfl ?_
        exact dec_fail HNO.out D9.out.st D9.out.newT
      · have hc : codeB ep sq ak N = 0 := by rw [HC.out, ho]; rfl
        rw [hc]
        cases hd : decOk l
        · have hne : encB ep sq ak N ≠ l := by
            rcases LAW.out.1 hd with h | h
            · rw [ho] at h; cases h
            · exact h
          have hsm : Small (encB ep sq ak N) := HSE.out
          have tb := text_beq hsm HS.out
          rw [decide_eq_false hne] at tb
          have tb2 : ((strOfNums (encB ep sq ak N)).toList != (strOfNums l).toList) = true := by rw [bne, tb]; rfl
          have HNO := Lib.hid hd
          clear hc ho HC hsm hne hd
          obtain ⟨xo, xc, rfl⟩ := HF.out
          generalize strOfNums (encB ep sq ak N) = sE at *
          generalize strOfNums l = sL at *
          go_wp2_with (first
            | (refine wpList_store_row rfl 28 (.tmp 2) (.tmp 113) rfl w.heap.size noPkt rfl rfl 28 _ D9.out.t (by kernel_rfl) rfl (by simp [noPkt, Note.packet, noNote, Value.oneCell']) ?_))
          (try simp only [Exit.inBlock, Exit.then])
          refine bodyPost_ret (results_cell_row2 (P := Tryd.prog) (fn := Tryd.f21) rfl _ _ w.heap.size 28 noPkt (0, 0) _ rfl (setRow_heap _ _ _ _ _ _ D9.out.t) Tryd.underlying28 rfl (by kernel_rfl)) rfl ?_
          exact dec_fail HNO.out D9.out.st D9.out.newT
        · obtain ⟨-, he, h3, h4, h5, h6⟩ := LAW.out.2 hd
          have HY := Lib.hid (And.intro h3 (And.intro h4 (And.intro h5 (And.intro h6 (show decCode l = 0 by rw [decCode, if_pos hd])))))
          rw [he] at t1
          rw [he] at HF
          clear hc ho HC hd h3 h4 h5 h6 he
          obtain ⟨xo, xc, rfl⟩ := HF.out
          generalize strOfNums l = sL at *
          go_wp2_with (first
            | (refine wpList_load_is 28 (.tmp 4) rfl rfl rfl LP.out ?_)
            | (refine wpList_store_row rfl 28 (.tmp 2) (.tmp 114) rfl w.heap.size (N.packet ep sq ak (.slice vo N.body.length vc)) rfl rfl 28 _ D9.out.t (by kernel_rfl) rfl (by simp [Note.packet, Value.oneCell']) ?_))
          (try simp only [Exit.inBlock, Exit.then])
          refine bodyPost_ret (results_cell_row2 (P := Tryd.prog) (fn := Tryd.f21) rfl _ _ w.heap.size 28 (N.packet ep sq ak (.slice vo N.body.length vc)) (0, 0) _ rfl (setRow_heap _ _ _ _ _ _ D9.out.t) Tryd.underlying28 rfl (by kernel_rfl)) rfl ?_
          obtain ⟨h3, h4, h5, h6, h7⟩ := HY.out
          rw [h3, h4, h5, h6, h7]
          exact ⟨vo, vc, rfl, B9.out.step (step_setRow (S := fun k => k = w.heap.size) (Step.refl _ _) (fun _ => rfl) _) (fun k hk e => LF.out.1 (e ▸ hk)), step_setRow D9.out.st (fun hh => by have := D9.out.newT; omega) _⟩
end Go.Proofs.YtkboghhmldokiaaDoor
