/- The code's reader, whatever is left. -/
import Derived.Test.YtkboghhmldokiaaDoorD1
import Derived.Test.YtkboghhmldokiaaDoorW8
namespace Go.Proofs.YtkboghhmldokiaaDoor
open Go.RowKit Go.Gm

/-- A slice value that holds these bytes. -/
def Seg (w : World) (v : Value) (l : List Int) : Prop := ∃ ao cap, v = .slice ao l.length cap ∧ l.length ≤ cap ∧ cap ≤ 9223372036854775807 ∧ (ao = none → cap = 0) ∧ ∀ j x, l[j]? = some x → ∃ b off, ao = some ⟨b, off, none⟩ ∧ w.cell? ⟨b, off + j, none⟩ = some (.int .u8 x)
theorem Seg.step {S : Nat → Prop} {w w' : World} {v : Value} {l : List Int} (h : Seg w v l) (hs : Step S w w') (hn : l ≠ [] → ∀ k, k < w.heap.size → Leads v k → ¬ S k) : Seg w' v l := by
  obtain ⟨ao, cap, rfl, h1, h2, h0, h3⟩ := h
  refine ⟨ao, cap, rfl, h1, h2, h0, fun j x hj => ?_⟩
  obtain ⟨b, off, rfl, hc⟩ := h3 j x hj
  have hb := World.block_lt_of_cell? w _ hc
  exact ⟨b, off, rfl, (hs.cell (p := ⟨b, off + j, none⟩) hb (hn (fun e => by subst e; simp at hj) b hb rfl)).trans hc⟩
theorem Seg.still {w w' : World} {v : Value} {l : List Int} (h : Seg w v l) (hs : Step None w w') : Seg w' v l := h.step hs fun _ _ _ _ s => s.elim
theorem Seg.nil (w : World) : Seg w (.slice none 0 0) [] := ⟨none, 0, rfl, Nat.le_refl _, by omega, fun _ => rfl, fun j x hj => by simp at hj⟩
theorem Seg.bytes {w : World} {v : Value} {l : List Int} (h : Seg w v l) (hl : l.length ≤ 140737488355328) : Bytes w v l := by
  obtain ⟨ao, cap, rfl, h1, h2, h0, h3⟩ := h
  cases ao with
  | none =>
    obtain rfl := h0 rfl
    have hl : l = [] := List.eq_nil_of_length_eq_zero (by omega)
    subst hl
    exact .inl ⟨rfl, rfl⟩
  | some a =>
    refine .inr ⟨a, cap, rfl, hl, fun j u hj => ?_⟩
    rw [List.getElem?_map] at hj
    obtain ⟨x, hx, rfl⟩ := Option.map_eq_some_iff.1 hj
    obtain ⟨b, off, e, hc⟩ := h3 j x hx
    simp only [Option.some.injEq] at e
    subst e
    rw [add_plain]
    exact hc
theorem seg_take {w : World} {ao : Option Addr} {cap n : Nat} {l : List Int} (hn : n ≤ l.length) (hc : l.length ≤ cap) (hm : cap ≤ 9223372036854775807) (h0 : ao = none → cap = 0) (h : ∀ j x, l[j]? = some x → ∃ b off, ao = some ⟨b, off, none⟩ ∧ w.cell? ⟨b, off + j, none⟩ = some (.int .u8 x)) : Seg w (.slice ao n cap) (l.take n) := by
  refine ⟨ao, cap, by rw [List.length_take, Nat.min_eq_left hn], by rw [List.length_take]; omega, hm, h0, fun j x hj => ?_⟩
  rw [List.getElem?_take] at hj
  split at hj
  · exact h j x hj
  · cases hj
theorem seg_drop {w : World} {ao : Option Addr} {cap n : Nat} {l : List Int} (hn : n ≤ l.length) (hc : l.length ≤ cap) (hm : cap ≤ 9223372036854775807) (h0 : ao = none → cap = 0) (h : ∀ j x, l[j]? = some x → ∃ b off, ao = some ⟨b, off, none⟩ ∧ w.cell? ⟨b, off + j, none⟩ = some (.int .u8 x)) : Seg w (.slice (Option.map (fun x => x.add n) ao) (l.length - n) (cap - n)) (l.drop n) := by
  refine ⟨_, cap - n, by rw [List.length_drop], by rw [List.length_drop]; omega, by omega, fun e => by have := h0 (by simpa using e); omega, fun j x hj => ?_⟩
  rw [List.getElem?_drop] at hj
  obtain ⟨b, off, rfl, hc⟩ := h _ x hj
  refine ⟨b, off + n, ?_, ?_⟩
  · simp [add_plain]
  · rw [Nat.add_assoc]; exact hc

/-- A reader in its variable. -/
structure Rd (w0 w : World) (g : Nat) (s : Rs) : Prop where
  at_ : ∃ v, w.heap[g]? = some (.cells #[v, .bool s.2] 61 (0, 0)) ∧ Seg w0 v s.1
  st : Step None w0 w
  new : w0.heap.size ≤ g
  small : Small s.1
theorem Rd.still {w0 w w' : World} {g : Nat} {s : Rs} (h : Rd w0 w g s) (hs : Step None w w') : Rd w0 w' g s := by
  obtain ⟨v, hv, sv⟩ := h.at_
  exact ⟨⟨v, hs.blk hv (fun s => s.elim), sv⟩, h.st.then_ hs, h.new, h.small⟩
theorem Rd.beside {w0 w w' : World} {g p : Nat} {s : Rs} (h : Rd w0 w g s) (hs : Step (fun k => k = p) w w') (hp : w0.heap.size ≤ p) (hg : g ≠ p) : Rd w0 w' g s := by
  obtain ⟨v, hv, sv⟩ := h.at_
  exact ⟨⟨v, hs.blk hv hg, sv⟩, h.st.trans hs fun i hi e => by omega, h.new, h.small⟩

theorem takeP_none {n : Nat} {s : Rs} (h : s.1.length < n) : takeP n s = (List.replicate n 0, ([], true)) := by rw [takeP, if_pos h]
theorem takeP_some {n : Nat} {s : Rs} (h : n ≤ s.1.length) : takeP n s = (s.1.take n, (s.1.drop n, s.2)) := by rw [takeP, if_neg (by omega)]
theorem made_get {n j : Nat} : ∀ {x : Value}, (madeCells #[.int .u8 0] n)[j]? = some x → x = .int .u8 0 := fun {x} h => by
  simp [madeCells, Nat.mod_one] at h
  exact h.2.symm
theorem take_made (w : World) (n : Nat) (hn : n ≤ 1000000) : (Instr.makeSlice 24 (.int .i64 n) (.int .i64 n)).run Tryd.prog w = .ok (.slice (some ⟨w.heap.size, 0, none⟩) n n) (w.alloc (.cells (madeCells #[.int .u8 0] n) 5)) :=
  run_make_row' (P := Tryd.prog) 24 5 (.int .u8 0) 1 Tryd.underlying24 info5 rfl .i64 .i64 n (by omega) (by omega) w
theorem seg_made (w : World) (n : Nat) (hn : n ≤ 1000000) : Seg (w.alloc (.cells (madeCells #[.int .u8 0] n) 5)) (.slice (some ⟨w.heap.size, 0, none⟩) n n) (List.replicate n 0) := by
  refine ⟨some ⟨w.heap.size, 0, none⟩, n, by simp, by simp, by omega, fun e => absurd e (by simp), fun j x hj => ⟨w.heap.size, 0, rfl, ?_⟩⟩
  have hjn : j < n := by
    have := (List.getElem?_eq_some_iff.1 hj).1
    simpa using this
  have hx : x = 0 := by
    have := List.mem_of_getElem? hj
    simpa using (List.mem_replicate.1 this).2
  subst hx
  rw [blk_cell (heap_alloc_new _ _), Nat.zero_add]
  have hs : j < (madeCells #[.int .u8 0] n).size := by simp [size_madeCells]; omega
  rw [Array.getElem?_eq_getElem hs, made_get (Array.getElem?_eq_getElem hs)]

theorem take_few {w0 : World} (g n : Nat) (s : Rs) (w : World) (h : Rd w0 w g s) (hn : s.1.length < n) (hn9 : n ≤ 1000000) :
    Calls Tryd.prog 45 #[.pointer (some ⟨g, 0, none⟩), .int .i64 n] w fun e w' => ∃ u, e = .returned u ∧ Seg w' u (takeP n s).1 ∧ Rd w0 w' g (takeP n s).2 ∧ Step (fun k => k = g) w w' ∧ ((takeP n s).1 ≠ [] → ∀ k, Leads u k → k ≠ g) := by
  rw [takeP_none hn]
  obtain ⟨v, hv, sv⟩ := h.at_
  obtain ⟨ao, cap, rfl, h1, h2, h0, h3⟩ := sv
  have c0 := blk_cell hv 0
  have c1 := blk_cell hv 1
  have f0 := blk_frozen hv 0
  have f1 := blk_frozen hv 1
  simp only [List.getElem?_toArray, List.getElem?_cons_zero, List.getElem?_cons_succ] at c0 c1
  have d1 : decide ((s.1.length : Int) < (n : Int)) = true := by simp; omega
  have d2 : decide (s.1.length < n) = true := by simp; omega
  have k0 : (0 : Int) ≤ (n : Int) := by omega
  have hm := fun w => take_made w n hn9
  have HV := Lib.hid hv
  have H := Lib.hid h
  have HN := Lib.hid hn9
  clear h3 hv h hn h0 hn9
  go_enter Tryd.func45, Tryd.ntmps45
  go_wp2_with fail
  go_ret
  obtain ⟨X, hX⟩ : ∃ X, (w.setCell ⟨g, 1, none⟩ (.bool true)).setCell ⟨g, 0, none⟩ (.slice none 0 0) = X := ⟨_, rfl⟩
  have bx := blk_set (blk_set HV.out 1 (.bool true)) 0 (.slice none 0 0)
  have sx : Step (fun k => k = g) w ((w.setCell ⟨g, 1, none⟩ (.bool true)).setCell ⟨g, 0, none⟩ (.slice none 0 0)) := Step.setCell (S := fun k => k = g) (Step.setCell (S := fun k => k = g) (Step.refl _ w) (p := ⟨g, 1, none⟩) (fun _ => rfl) _) (p := ⟨g, 0, none⟩) (fun _ => rfl) _
  have hs : ((w.setCell ⟨g, 1, none⟩ (.bool true)).setCell ⟨g, 0, none⟩ (.slice none 0 0)).heap.size = w.heap.size := by simp [World.setCell]
  rw [hX] at bx sx hs
  rw [hX]
  have hg := blk_lt HV.out
  have sg := seg_made X n HN.out
  rw [hs] at sg
  have sy := sx.alloc (.cells (madeCells #[.int .u8 0] n) 5)
  have by_ := ((Step.refl None X).alloc (.cells (madeCells #[.int .u8 0] n) 5)).blk bx (fun s => s.elim)
  exact ⟨_, rfl, sg, ⟨⟨_, by_, Seg.nil w0⟩, H.out.st.trans sy fun i hi e => (by have := H.out.new; omega), H.out.new, small_nil⟩, sy, fun _ k hk e => by simp [Leads, Value.ownBlock] at hk; omega⟩

theorem take_enough {w0 : World} (g n : Nat) (s : Rs) (w : World) (h : Rd w0 w g s) (hn : n ≤ s.1.length) :
    Calls Tryd.prog 45 #[.pointer (some ⟨g, 0, none⟩), .int .i64 n] w fun e w' => ∃ u, e = .returned u ∧ Seg w' u (takeP n s).1 ∧ Rd w0 w' g (takeP n s).2 ∧ Step (fun k => k = g) w w' ∧ ((takeP n s).1 ≠ [] → ∀ k, Leads u k → k ≠ g) := by
  rw [takeP_some hn]
  obtain ⟨v, hv, sv⟩ := h.at_
  obtain ⟨ao, cap, rfl, h1, h2, h0, h3⟩ := sv
  have hout : ∀ u v', Seg w0 u (s.1.take n) → Seg w0 v' (s.1.drop n) → (s.1.take n ≠ [] → ∀ k, Leads u k → k < w0.heap.size) → Seg (w.setCell ⟨g, 0, none⟩ v') u (s.1.take n) ∧ Rd w0 (w.setCell ⟨g, 0, none⟩ v') g (s.1.drop n, s.2) ∧ Step (fun k => k = g) w (w.setCell ⟨g, 0, none⟩ v') ∧ (s.1.take n ≠ [] → ∀ k, Leads u k → k ≠ g) := fun u v' hu hv' hL => by
    have hst : Step (fun k => k = g) w (w.setCell ⟨g, 0, none⟩ v') := Step.setCell (S := fun k => k = g) (Step.refl _ w) (p := ⟨g, 0, none⟩) (fun _ => rfl) v'
    have hne : s.1.take n ≠ [] → ∀ k, Leads u k → k ≠ g := fun h0 k hk e => by have := hL h0 k hk; have := h.new; omega
    exact ⟨(hu.still h.st).step hst fun h0 k _ hk e => hne h0 k hk e, ⟨⟨v', by rw [blk_set hv 0 v']; rfl, hv'⟩, h.st.trans hst fun i hi e => (by have := h.new; omega), h.new, fun x hx => h.small x (List.mem_of_mem_drop hx)⟩, hst, hne⟩
  have HO := Lib.hid hout
  have hlead : s.1.take n ≠ [] → ∀ k c, Leads (.slice ao n c) k → k < w0.heap.size := fun hne k c hk => by
    have hne : s.1 ≠ [] := fun e => hne (by rw [e]; simp)
    obtain ⟨x, hx⟩ : ∃ x, s.1[0]? = some x := ⟨s.1[0]'(List.length_pos_iff.2 hne), List.getElem?_eq_getElem _⟩
    obtain ⟨b, off, rfl, hc⟩ := h3 0 x hx
    simp [Leads, Value.ownBlock] at hk
    subst hk
    exact World.block_lt_of_cell? w0 _ hc
  have c0 := blk_cell hv 0
  have f0 := blk_frozen hv 0
  simp only [List.getElem?_toArray, List.getElem?_cons_zero] at c0
  have d1 : decide ((s.1.length : Int) < (n : Int)) = false := by simp; omega
  have d2 : decide (s.1.length < n) = false := by simp; omega
  have d3 : ¬ s.1.length < n := by omega
  have k0 : (0 : Int) ≤ (n : Int) := by omega
  have k1 : (n : Int) ≤ (cap : Int) := by omega
  have k2 : (n : Int) ≤ (s.1.length : Int) := by omega
  have k3 : n ≤ cap := by omega
  have k5 : (s.1.length : Int) ≤ (cap : Int) := by omega
  have H3 := Lib.hid h3
  have HL := Lib.hid hlead
  have H0 := Lib.hid h0
  clear hv h3 h hout hlead h0
  obtain ⟨T, hT⟩ : ∃ T, s.1.take n = T := ⟨_, rfl⟩
  rw [hT]
  have HT := Lib.hid hT.symm
  clear hT
  go_enter Tryd.func45, Tryd.ntmps45
  go_wp2_with fail
  · go_ret
    have hd : s.1.drop n = [] := List.drop_of_length_le (by omega)
    have ht := seg_take hn h1 h2 H0.out H3.out
    rw [HT.out]
    rw [h] at ht
    refine ⟨_, rfl, HO.out _ _ ht ?_ (fun hne k hk => HL.out hne k _ hk)⟩
    rw [hd]
    exact ⟨ao, 0, by simp; omega, by simp, by omega, fun _ => rfl, fun j x hj => by simp at hj⟩
  · go_ret
    rw [HT.out]
    exact ⟨_, rfl, HO.out _ _ (seg_take (by omega) h1 h2 H0.out H3.out) (seg_drop (by omega) h1 h2 H0.out H3.out) (fun hne k hk => HL.out hne k _ hk)⟩
theorem take_any {w0 : World} (g n : Nat) (s : Rs) (w : World) (h : Rd w0 w g s) (hn9 : n ≤ 1000000) :
    Calls Tryd.prog 45 #[.pointer (some ⟨g, 0, none⟩), .int .i64 n] w fun e w' => ∃ u, e = .returned u ∧ Seg w' u (takeP n s).1 ∧ Rd w0 w' g (takeP n s).2 ∧ Step (fun k => k = g) w w' ∧ ((takeP n s).1 ≠ [] → ∀ k, Leads u k → k ≠ g) := by
  rcases Nat.lt_or_ge s.1.length n with hl | hl
  · exact take_few g n s w h hl hn9
  · exact take_enough g n s w h hl
theorem takeP_len (n : Nat) (s : Rs) : (takeP n s).1.length = n := by
  unfold takeP
  split
  · simp
  · simp; omega
theorem takeP_small {n : Nat} {s : Rs} (h : Small s.1) : Small (takeP n s).1 := by
  unfold takeP
  split
  · intro x hx
    have := (List.mem_replicate.1 hx).2
    omega
  · exact fun x hx => h x (List.mem_of_mem_take hx)
/-- A segment's bytes, one by one. -/
theorem Seg.at_ {w : World} {u : Value} {l : List Int} (h : Seg w u l) (hp : 0 < l.length) : ∃ b off cap, u = .slice (some ⟨b, off, none⟩) l.length cap ∧ ∀ j x, l[j]? = some x → w.cell? ⟨b, off + j, none⟩ = some (.int .u8 x) := by
  obtain ⟨ao, cap, rfl, h1, h2, h0, h3⟩ := h
  obtain ⟨b, off, rfl, -⟩ := h3 0 l[0] (List.getElem?_eq_getElem hp)
  refine ⟨b, off, cap, rfl, fun j x hj => ?_⟩
  obtain ⟨b', off', e, hc⟩ := h3 j x hj
  simp only [Option.some.injEq, Addr.mk.injEq, and_true] at e
  obtain ⟨rfl, rfl⟩ := e
  exact hc

theorem shortP_rng {s : Rs} (h : Small s.1) : 0 ≤ (shortP s).1 ∧ (shortP s).1 < 65536 := by
  have hl := takeP_len 2 s
  have hsm := takeP_small (n := 2) h
  unfold shortP
  generalize takeP 2 s = t at *
  obtain ⟨b, s2⟩ := t
  match b, hl with
  | [x0, x1], _ =>
  have b0 := hsm x0 (by simp)
  have b1 := hsm x1 (by simp)
  show 0 ≤ of2 x0 x1 ∧ of2 x0 x1 < 65536
  unfold of2
  omega
set_option maxHeartbeats 1000000 in
theorem short_any' {w0 : World} (g : Nat) (s : Rs) (w : World) (h : Rd w0 w g s) :
    Calls Tryd.prog 43 #[.pointer (some ⟨g, 0, none⟩)] w fun e w' => e = .returned (.int .i64 (shortP s).1) ∧ Rd w0 w' g (shortP s).2 ∧ Step (fun k => k = g) w w' := by
  have T := Lib.hid (take_any g 2 s w h (by omega))
  have hl := takeP_len 2 s
  have hsm := takeP_small (n := 2) h.small
  have HS := Lib.hid (show shortP s = (of2 ((takeP 2 s).1.getD 0 0) ((takeP 2 s).1.getD 1 0), (takeP 2 s).2) from rfl)
  generalize takeP 2 s = t at *
  obtain ⟨b, s2⟩ := t
  match b, hl with
  | [x0, x1], _ =>
  have b0 := hsm x0 (by simp)
  have b1 := hsm x1 (by simp)
  have ho := or_byte b0 b1
  have e1 : IntKind.i64.wrap x0 = x0 := IntWalk.i64_in _ (by omega)
  have e2 : IntKind.i64.wrap x1 = x1 := IntWalk.i64_in _ (by omega)
  have e3 : IntKind.i64.wrap (x0 * 256) = x0 * 256 := IntWalk.i64_in _ (by omega)
  clear h hsm b0 b1
  go_enter Tryd.func43, Tryd.ntmps43
  go_wp2_with fail
  refine T.out.mono ?_
  rintro e w1 ⟨u, rfl, su, rd, st, -⟩
  obtain ⟨b, off, cap, rfl, hc⟩ := su.at_ (by simp)
  have d0 := hc 0 x0 rfl
  have d1 := hc 1 x1 rfl
  rw [Nat.add_zero] at d0
  have RD := Lib.hid rd
  have ST := Lib.hid st
  clear T su rd st hc
  go_wp2_with fail
  refine wp_region_plan (fun w' => w'.cell? ⟨b, off, none⟩ = some (.int .u8 x0) ∧ w'.cell? ⟨b, off + 1, none⟩ = some (.int .u8 x1)) (.take 0 (.take 1 (.take 2 (.take 3 (.take 4 (.take 5 (.take 6 (.take 7 (.take 8 (.take 9 (.take 10 .done))))))))))) _
    (by simp only [Plan.map, opOf, List.getElem?_toArray, List.getElem?_cons_zero, List.getElem?_cons_succ, Option.getD_some]; rfl) (by kernel_rfl) (by kernel_rfl) (by kernel_rfl) (by decide) (by intro c a d v w; cases d <;> exact fun h => h) ⟨d0, d1⟩ ?_
  repeat (refine wpPlan.taken (by rfl) (by intro w' hS'; (try dsimp only at hS'); go_split_ands; go_simp; try with_reducible rfl) ?_; simp only [Act.put, List.setIfInBounds_toArray, List.set_cons_zero, List.set_cons_succ])
  refine wpPlan.done ?_
  go_wp2_with fail
  go_ret
  rw [HS.out]
  exact ⟨rfl, RD.out.still (Step.refl None w1).drew, ST.out.drew⟩

set_option maxHeartbeats 1000000 in
theorem long_any' {w0 : World} (g : Nat) (s : Rs) (w : World) (h : Rd w0 w g s) :
    Calls Tryd.prog 42 #[.pointer (some ⟨g, 0, none⟩)] w fun e w' => e = .returned (.int .i64 (longP s).1) ∧ Rd w0 w' g (longP s).2 ∧ Step (fun k => k = g) w w' := by
  have T := Lib.hid (short_any' g s w h)
  have T2 := Lib.hid (fun w1 h1 => short_any' (w0 := w0) g (shortP s).2 w1 h1)
  have r1 := shortP_rng h.small
  have r2 := shortP_rng (s := (shortP s).2) (rest_small_short h.small)
  have HS := Lib.hid (show longP s = ((shortP s).1 * 65536 + (shortP (shortP s).2).1, (shortP (shortP s).2).2) from rfl)
  generalize shortP (shortP s).2 = q at *
  generalize shortP s = p at *
  obtain ⟨y, s3⟩ := q
  obtain ⟨x, s2⟩ := p
  dsimp only at r1 r2 T2
  have ho : bits BinOp.or .i64 (x * 65536) y = x * 65536 + y := or_shift (a := x) (b := y) 16 r1.1 r2.1 (by omega) (by omega)
  have e3 : IntKind.i64.wrap (x * 65536) = x * 65536 := IntWalk.i64_in _ (by omega)
  clear r1 r2 h
  go_enter Tryd.func42, Tryd.ntmps42
  go_wp2_with fail
  refine T.out.mono ?_
  rintro e w1 ⟨rfl, rd, st⟩
  have ST := Lib.hid st
  have T3 := Lib.hid (T2.out w1 rd)
  clear T T2 rd st
  go_wp2_with fail
  refine T3.out.mono ?_
  rintro e w2 ⟨rfl, rd, st⟩
  have ST2 := Lib.hid (ST.out.then_ st)
  have RD := Lib.hid rd
  clear T3 rd st ST
  go_wp2_with fail
  go_ret
  rw [HS.out]
  exact ⟨rfl, RD.out, ST2.out⟩
end Go.Proofs.YtkboghhmldokiaaDoor
