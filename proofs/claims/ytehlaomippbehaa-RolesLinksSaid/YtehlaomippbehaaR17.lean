/- RolesLinks, walked. -/
import Derived.Test.YtehlaomippbehaaS3
namespace Go.Proofs.Ytehlaomippbehaa
open Go.RowKit Go.Gm

theorem arg_nums {w : World} {v : Value} (h : Arg w (.slice 1 8 (.int .i64)) v) : ∃ ao cap, ∃ cs : List Int, v = .slice ao cs.length cap ∧ cs.length ≤ 9223372036854775807 ∧ ∀ w', Step None w w' → ∀ j x, cs[j]? = some x → ∃ b off, ao = some ⟨b, off, none⟩ ∧ w'.cell? ⟨b, off + j, none⟩ = some (.int .i64 x) := by
  obtain ⟨ao, bs, cap, rfl, h1, h2, hw, h3⟩ := (h.one rfl).ints
  refine ⟨ao, cap, bs, rfl, by simp only [maxLen] at h2; omega, fun w' hs j x hj => ?_⟩
  rcases h3 with ⟨rfl, rfl⟩ | ⟨a, rfl, h4, h5⟩
  · have := (List.getElem?_eq_some_iff.1 hj).1; omega
  · have hc := h5 j (.int .i64 x) (by rw [List.getElem?_map, hj]; rfl)
    have hp : 0 < bs.length := by have := (List.getElem?_eq_some_iff.1 hj).1; omega
    have h0 := h5 0 (.int .i64 bs[0]) (by rw [List.getElem?_map, List.getElem?_eq_getElem hp]; rfl)
    obtain ⟨b, off, spot⟩ := a
    have hsp : spot = none := by
      have := World.cell?_spot h0
      simpa [Addr.add] using this
    subst hsp
    rw [add_plain] at hc
    exact ⟨b, off, rfl, (hs.cell (p := ⟨b, off + j, none⟩) (World.block_lt_of_cell? _ _ hc) (fun s => s.elim)).trans hc⟩

/-- What stands in the variables of RolesLinks. -/
structure Lk (w0 w : World) (a b : Idn) (v1 v2 : Value) (l1 l2 : List Hrd) : Prop where
  a : w.heap[w0.heap.size]? = some (.cells a.cells 25 (0, 0))
  b : w.heap[w0.heap.size + 1]? = some (.cells b.cells 25 (0, 0))
  t : Two w0 w v1 v2 l1 l2
theorem Lk.still {w0 w w' : World} {a b : Idn} {v1 v2 : Value} {l1 l2 : List Hrd} (h : Lk w0 w a b v1 v2 l1 l2) (hs : Step None w w') : Lk w0 w' a b v1 v2 l1 l2 := ⟨hs.blk h.a (fun s => s.elim), hs.blk h.b (fun s => s.elim), h.t.still hs⟩
theorem Lk.led {w0 w w' : World} {a b : Idn} {v1 v2 v' : Value} {l1 l2 l' : List Hrd} (h : Lk w0 w a b v1 v2 l1 l2) (hs : Step (Leads v1) w w') (t : Two w0 w' v' v2 l' l2) : Lk w0 w' a b v' v2 l' l2 := ⟨h.t.one.blk hs h.a (by decide), h.t.one.blk hs h.b (by decide), t⟩
theorem Lk.led2 {w0 w w' : World} {a b : Idn} {v1 v2 v' : Value} {l1 l2 l' : List Hrd} (h : Lk w0 w a b v1 v2 l1 l2) (hs : Step (Leads v2) w w') (t : Two w0 w' v' v1 l' l1) : Lk w0 w' a b v1 v' l1 l' := ⟨h.t.two.blk hs h.a (by decide), h.t.two.blk hs h.b (by decide), t.swap⟩
theorem lex_ne {a b : Idn} (h : (a.flat == b.flat) = false) : lex a.flat b.flat ≠ 0 := fun e => by
  have h2 : a.flat = b.flat := lex_zero.1 e
  rw [h2] at h
  simp at h
theorem lnk_cells (c : Int) (k : Nat) : (lnk c k).cells = #[.int .i64 ((k : Int) + 1), .int .i64 c, .bool true, .bool false, .int .i64 0, .int .u8 0, .int .u8 0, .int .u8 0, .int .u8 0, .int .u8 0, .int .u8 0, .int .i64 0, .int .i64 0, .int .u8 0, .int .u8 0, .int .u8 0, .int .u8 0, .int .u8 0, .int .u8 0, .int .i64 0, .int .i64 0] := rfl
theorem range_snoc (f : Nat → Hrd) (k : Nat) : (List.range (k + 1)).map f = (List.range k).map f ++ [f k] := by simp [List.range_succ]
theorem ports_wf {f : Nat → Hrd} {n : Nat} (hf : ∀ i, (f i).port = i + 1) (hn : n ≤ 20) : ∀ x ∈ (List.range n).map f, (Lit.int .i64 x.port).wf = true := fun x hx => by
  obtain ⟨i, hi, rfl⟩ := List.mem_map.1 hx
  have hi : i < n := by simpa using hi
  rw [hf]
  have h1 : IntKind.i64.min = -9223372036854775808 := by decide
  have h2 : IntKind.i64.max = 9223372036854775807 := by decide
  simp [Lit.wf, h1]
  omega

theorem noVec_fine : (noVec).fine := ⟨fun y hy => by simp [noVec, noIdn, Idn.mac] at hy; omega, fun y hy => by simp [noVec, noIdn, Idn.mac] at hy; omega⟩
theorem Lk.has1 {w0 w : World} {a b : Idn} {v2 : Value} {p off cap n i : Nat} {l1 l2 : List Hrd} {x : Hrd} (h : Lk w0 w a b (.slice (some ⟨p, off, none⟩) n cap) v2 l1 l2) (hn : l1.length = n) (hx : l1[i]? = some x) :
    Lk w0 (w.setCell ⟨p, off + i * 21 + 3, none⟩ (.bool true)) a b (.slice (some ⟨p, off, none⟩) n cap) v2 (l1.set i { x with has := true }) l2 ∧ Step (Leads (.slice (some ⟨p, off, none⟩) n cap)) w (w.setCell ⟨p, off + i * 21 + 3, none⟩ (.bool true)) := by
  subst hn
  obtain ⟨t, s⟩ := Two.has h.t hx
  exact ⟨h.led s t, s⟩
theorem Lk.has2 {w0 w : World} {a b : Idn} {v1 : Value} {p off cap n i : Nat} {l1 l2 : List Hrd} {x : Hrd} (h : Lk w0 w a b v1 (.slice (some ⟨p, off, none⟩) n cap) l1 l2) (hn : l2.length = n) (hx : l2[i]? = some x) :
    Lk w0 (w.setCell ⟨p, off + i * 21 + 3, none⟩ (.bool true)) a b v1 (.slice (some ⟨p, off, none⟩) n cap) l1 (l2.set i { x with has := true }) ∧ Step (Leads (.slice (some ⟨p, off, none⟩) n cap)) w (w.setCell ⟨p, off + i * 21 + 3, none⟩ (.bool true)) := by
  subst hn
  obtain ⟨t, s⟩ := Two.has h.t.swap hx
  exact ⟨h.led2 s t, s⟩
theorem Lk.way1 {w0 w : World} {a b : Idn} {v2 : Value} {p off cap n i : Nat} {l1 l2 : List Hrd} {x : Hrd} (h : Lk w0 w a b (.slice (some ⟨p, off, none⟩) n cap) v2 l1 l2) (hn : l1.length = n) (hx : l1[i]? = some x) {v : Vec} (hv : v.fine) :
    Lk w0 (w.setCells p (off + i * 21 + 4) v.cells.toList) a b (.slice (some ⟨p, off, none⟩) n cap) v2 (l1.set i { x with v := v }) l2 ∧ Step (Leads (.slice (some ⟨p, off, none⟩) n cap)) w (w.setCells p (off + i * 21 + 4) v.cells.toList) := by
  subst hn
  obtain ⟨t, s⟩ := Two.way h.t hx hv
  exact ⟨h.led s t, s⟩
theorem Lk.way2 {w0 w : World} {a b : Idn} {v1 : Value} {p off cap n i : Nat} {l1 l2 : List Hrd} {x : Hrd} (h : Lk w0 w a b v1 (.slice (some ⟨p, off, none⟩) n cap) l1 l2) (hn : l2.length = n) (hx : l2[i]? = some x) {v : Vec} (hv : v.fine) :
    Lk w0 (w.setCells p (off + i * 21 + 4) v.cells.toList) a b v1 (.slice (some ⟨p, off, none⟩) n cap) l1 (l2.set i { x with v := v }) ∧ Step (Leads (.slice (some ⟨p, off, none⟩) n cap)) w (w.setCells p (off + i * 21 + 4) v.cells.toList) := by
  subst hn
  obtain ⟨t, s⟩ := Two.way h.t.swap hx hv
  exact ⟨h.led2 s t, s⟩
theorem mix_hear {v h : Nat → Hrd} {j n : Nat} (hj : j < n) {o : Vec} (e : (h j).hear o = v j) : ((mixL v h j n).set j { h j with has := true }).set j { ({ h j with has := true } : Hrd) with v := o } = mixL v h (j + 1) n := by
  rw [List.set_set, ← mixL_set hj, ← e]
  rfl
theorem set_here {l : List Hrd} {j : Nat} {x y : Hrd} (h : l[j]? = some x) : (l.set j y)[j]? = some y := by
  have := (List.getElem?_eq_some_iff.1 h).1
  simp [this]
theorem offer_fine {me : Idn} {B : Vec} {p : Int} (h1 : Small me.mac) (h2 : B.fine) : (offerV me B p).fine := ⟨h2.1, h1⟩
/-- What stands in the variables within a turn. -/
structure Tv (w0 w : World) (a b : Idn) (v1 v2 : Value) (l1 l2 : List Hrd) (xo yo : Option Addr) (X Y : List Int) (P Q : Nat) (BA BB : Vec) : Prop where
  lk : Lk w0 w a b v1 v2 l1 l2
  x : Ints w xo X
  y : Ints w yo Y
  p : w.heap[P]? = some (.cells BA.cells 27 (0, 0))
  q : w.heap[Q]? = some (.cells BB.cells 27 (0, 0))
theorem Tv.still {w0 w w' : World} {a b : Idn} {v1 v2 : Value} {l1 l2 : List Hrd} {xo yo : Option Addr} {X Y : List Int} {P Q : Nat} {BA BB : Vec} (h : Tv w0 w a b v1 v2 l1 l2 xo yo X Y P Q BA BB) (hs : Step None w w') : Tv w0 w' a b v1 v2 l1 l2 xo yo X Y P Q BA BB :=
  ⟨h.lk.still hs, h.x.still hs, h.y.still hs, hs.blk h.p (fun s => s.elim), hs.blk h.q (fun s => s.elim)⟩
theorem Tv.one {w0 w w' : World} {a b : Idn} {v1 v2 : Value} {l1 l2 m1 m2 : List Hrd} {xo yo : Option Addr} {X Y : List Int} {P Q : Nat} {BA BB : Vec} (h : Tv w0 w a b v1 v2 l1 l2 xo yo X Y P Q BA BB) (hs : Step (Leads v1) w w') (k : Lk w0 w' a b v1 v2 m1 m2) : Tv w0 w' a b v1 v2 m1 m2 xo yo X Y P Q BA BB :=
  ⟨k, h.x.list h.lk.t.one hs, h.y.list h.lk.t.one hs, h.lk.t.one.blk hs h.p (by decide), h.lk.t.one.blk hs h.q (by decide)⟩
theorem Tv.two {w0 w w' : World} {a b : Idn} {v1 v2 : Value} {l1 l2 m1 m2 : List Hrd} {xo yo : Option Addr} {X Y : List Int} {P Q : Nat} {BA BB : Vec} (h : Tv w0 w a b v1 v2 l1 l2 xo yo X Y P Q BA BB) (hs : Step (Leads v2) w w') (k : Lk w0 w' a b v1 v2 m1 m2) : Tv w0 w' a b v1 v2 m1 m2 xo yo X Y P Q BA BB :=
  ⟨k, h.x.list h.lk.t.two hs, h.y.list h.lk.t.two hs, h.lk.t.two.blk hs h.p (by decide), h.lk.t.two.blk hs h.q (by decide)⟩
theorem Tv.cast2 {w0 w : World} {a b : Idn} {v1 v2 : Value} {l1 l2 m2 : List Hrd} {xo yo : Option Addr} {X Y : List Int} {P Q : Nat} {BA BB : Vec} (h : Tv w0 w a b v1 v2 l1 l2 xo yo X Y P Q BA BB) (e : l2 = m2) : Tv w0 w a b v1 v2 l1 m2 xo yo X Y P Q BA BB := e ▸ h
theorem Tv.cast1 {w0 w : World} {a b : Idn} {v1 v2 : Value} {l1 l2 m1 : List Hrd} {xo yo : Option Addr} {X Y : List Int} {P Q : Nat} {BA BB : Vec} (h : Tv w0 w a b v1 v2 l1 l2 xo yo X Y P Q BA BB) (e : l1 = m1) : Tv w0 w a b v1 v2 m1 l2 xo yo X Y P Q BA BB := e ▸ h

set_option maxRecDepth 100000 in
set_option maxHeartbeats 16000000 in
theorem rolesLinks_walk (v0 v1 v2 : Value) (w : World) (h0 : Arg w (.cat 1 (.int .i64) (.cat 6 (.arr 6 1 (.int .u8)) .nil)) v0) (h1 : Arg w (.cat 1 (.int .i64) (.cat 6 (.arr 6 1 (.int .u8)) .nil)) v1) (h2 : Arg w (.slice 1 8 (.int .i64)) v2) :
    Calls Try.prog 12 #[v0, v1, v2] w fun e w' => e = .returned (.bool true) ∧ Below w.heap.size w w' := by
  obtain ⟨a, rfl, ha⟩ := arg_idn h0
  obtain ⟨b, rfl, hb⟩ := arg_idn h1
  obtain ⟨ao, cap, cs, rfl, hlen, hcs⟩ := arg_nums h2
  clear h0 h1 h2
  have b1 := heap_alloc_new w (.cells a.cells 25)
  have b2 := heap_alloc_new (w.alloc (.cells a.cells 25)) (.cells b.cells 25)
  have s1 := ((Step.refl None w).alloc (.cells a.cells 25)).alloc (.cells b.cells 25)
  have b1 := ((Step.refl None _).alloc (.cells b.cells 25)).blk b1 (fun s => s.elim)
  simp only [World.size_alloc] at b2
  obtain ⟨W, hW⟩ : ∃ W, (w.alloc (.cells a.cells 25)).alloc (.cells b.cells 25) = W := ⟨_, rfl⟩
  rw [hW] at b1 b2 s1
  have HE := Lib.hid hW
  have B1 := Lib.hid b1
  have B2 := Lib.hid b2
  have S1 := Lib.hid s1
  have F := Lib.hid (And.intro ha hb)
  have CS := Lib.hid hcs
  clear hW b1 b2 s1 ha hb hcs
  go_enter Try.func12, Try.ntmps12
  go_wp2_with (first
    | rw [HE.out])
  refine (rawake_any _).mono ?_
  rintro e w2 ⟨rfl, s2⟩
  have LK0 := Lib.hid (Lk.mk (w0 := w) (w := w2) (a := a) (b := b) (s2.blk B1.out (fun s => s.elim)) (s2.blk B2.out (fun s => s.elim)) ⟨Lst.nil w w2 (S1.out.then_ s2), Lst.nil w w2 (S1.out.then_ s2), fun k hk => by simp [Leads, Value.ownBlock] at hk⟩)
  clear s2 S1 B1 B2 HE
  have la := load_idn LK0.out.a
  have lb := load_idn LK0.out.b
  have he := eq_idn a b
  unfold Idn.cells at la lb he
  have LA := Lib.hid la
  have LB := Lib.hid lb
  clear la lb
  have HNE := Lib.hid (lex_ne (a := a) (b := b))
  generalize hq : (a.flat == b.flat) = q at he HNE
  clear hq
  cases q
  rotate_left
  · go_wp2_with (first
      | (refine wpList_load_is 25 (.tmp 3) rfl rfl rfl LA.out ?_)
      | (refine wpList_load_is 25 (.tmp 4) rfl rfl rfl LB.out ?_))
    go_ret
    exact ⟨rfl, LK0.out.t.one.st.toBelow⟩
  have HNE2 := Lib.hid (HNE.out (by first | trivial | rfl))
  clear HNE
  by_cases hn : 0 < cs.length
  rotate_left
  · have d1 : decide ((cs.length : Int) < 1) = true := decide_eq_true (by omega)
    have d2 : decide (cs.length < 1) = true := decide_eq_true (by omega)
    clear hn
    go_wp2_with (first
      | (refine wpList_load_is 25 (.tmp 3) rfl rfl rfl LA.out ?_)
      | (refine wpList_load_is 25 (.tmp 4) rfl rfl rfl LB.out ?_))
    go_ret
    exact ⟨rfl, LK0.out.t.one.st.toBelow⟩
  have d1 : decide ((cs.length : Int) < 1) = false := decide_eq_false (by omega)
  have d2 : decide (cs.length < 1) = false := decide_eq_false (by omega)
  by_cases hm : cs.length ≤ 20
  rotate_left
  · have d3 : decide ((20 : Int) < (cs.length : Int)) = true := by simp; omega
    have d4 : decide (20 < cs.length) = true := by simp; omega
    clear hn hm
    go_wp2_with (first
      | (refine wpList_load_is 25 (.tmp 3) rfl rfl rfl LA.out ?_)
      | (refine wpList_load_is 25 (.tmp 4) rfl rfl rfl LB.out ?_))
    go_ret
    exact ⟨rfl, LK0.out.t.one.st.toBelow⟩
  have d3 : decide ((20 : Int) < (cs.length : Int)) = false := by simp; omega
  have d4 : decide (20 < cs.length) = false := by simp; omega
  have HN := Lib.hid (And.intro hn hm)
  clear hn hm hlen
  go_wp2_with (first
    | (refine wpList_load_is 25 (.tmp 3) rfl rfl rfl LA.out ?_)
    | (refine wpList_load_is 25 (.tmp 4) rfl rfl rfl LB.out ?_))
  clear d1 d2 d3 d4 he LA LB
  go_loopw [8, 9, 10] (fun v1 v2 i wr => ∃ (k : Nat) (W : World), W = wr ∧ k ≤ cs.length ∧ i = .int .i64 k ∧ Hid (Lk w wr a b v1 v2 ((List.range k).map fun i => lnk (cs.getD i 0) i) ((List.range k).map fun i => lnk (cs.getD i 0) i)) ∧ Hid (∀ i, i < k → 1 ≤ cs.getD i 0 ∧ cs.getD i 0 ≤ 200000000)) (fun _ _ i _ => cs.length - (intOf i).toNat)
  case atStart => exact ⟨0, _, rfl, Nat.zero_le _, rfl, LK0, Lib.hid fun i hi => by omega⟩
  case round =>
    obtain ⟨k, wr, rfl, hk, rfl, lk, fine⟩ := hrel
    clear LK0
    by_cases hlt : k < cs.length
    · have e1 : decide ((k : Int) < (cs.length : Int)) = true := by simpa using hlt
      have k0 : (0 : Int) ≤ (k : Int) := by omega
      have k1 : (k : Int) < (cs.length : Int) := by omega
      have hw1 : IntKind.i64.wrap ((k : Int) + 1) = ((k : Int) + 1) := by rw [IntWalk.i64_in _ (by have := HN.out; omega)]
      obtain ⟨x, hx⟩ : ∃ x, cs[k]? = some x := ⟨cs[k], List.getElem?_eq_getElem hlt⟩
      have hxd : cs.getD k 0 = x := by simp [List.getD, hx]
      obtain ⟨p, off, rfl, cx⟩ := CS.out wr lk.out.t.one.st k x hx
      have HLT := Lib.hid hlt
      have HXD := Lib.hid hxd
      have HXK := Lib.hid hx
      clear hlt hk hx hxd
      cases hA : decide (x < 1)
      rotate_left
      · go_wp2_with fail
        go_ret
        exact ⟨rfl, lk.out.t.one.st.toBelow⟩
      cases hB : decide (200000000 < x)
      rotate_left
      · go_wp2_with fail
        go_ret
        exact ⟨rfl, lk.out.t.one.st.toBelow⟩
      have HX := Lib.hid (And.intro hA hB)
      obtain ⟨D, hD⟩ : ∃ D, ((List.range k).map fun i => lnk (cs.getD i 0) i) = D := ⟨_, rfl⟩
      rw [hD] at lk
      have hl : D.length = k := by rw [← hD]; simp
      have HT := Lib.hid (range_snoc (fun i => lnk (cs.getD i 0) i) k)
      rw [hD, HXD.out] at HT
      have HL := Lib.hid hl
      obtain ⟨ao1, cap1, ev, -⟩ := lk.out.t.one.form
      obtain ⟨ao2, cap2, ev2, -⟩ := lk.out.t.two.form
      subst ev ev2
      -- the first slice that is appended
      have sa := (Step.refl None wr).alloc (.cells (lnk x k).cells 52)
      have lk1 := Lib.hid (lk.out.still sa)
      have ba := Lib.hid (heap_alloc_new wr (.cells (lnk x k).cells 52))
      obtain ⟨WA, hWA⟩ : ∃ WA, wr.alloc (.cells (lnk x k).cells 52) = WA := ⟨_, rfl⟩
      rw [hWA] at lk1 ba
      rw [lnk_cells] at hWA
      have HA := Lib.hid hWA
      clear hWA sa hD hl lk
      go_wp2_with (first
        | rw [HA.out]
        | (at_builtin; refine wpList_append_row (m := 1) T44 rfl (.tmp 60) (.tmp 68) rfl rfl lk1.out.t.one.row rfl (src_hrd ba.out) ?ha ?hb ?_))
      case ha => rw [HL.out]; have := HN.out; have := HLT.out; simp [maxLen]; omega
      case hb => rw [HL.out]; have := HN.out; have := HLT.out; simp; omega
      intro v6 W6 r6 s6 l6
      have lk6 := Lib.hid (lk1.out.led s6 (Two.more (x := lnk x k) lk1.out.t noVec_fine (by simpa using r6) s6 l6))
      obtain ⟨p6, off6, e6, cx6⟩ := CS.out W6 lk6.out.t.one.st k x HXK.out
      simp only [Option.some.injEq, Addr.mk.injEq, and_true] at e6
      obtain ⟨rfl, rfl⟩ := e6
      have sa := (Step.refl None W6).alloc (.cells (lnk x k).cells 52)
      have lk7 := Lib.hid (lk6.out.still sa)
      have ba := Lib.hid (heap_alloc_new W6 (.cells (lnk x k).cells 52))
      obtain ⟨WB, hWB⟩ : ∃ WA, W6.alloc (.cells (lnk x k).cells 52) = WA := ⟨_, rfl⟩
      rw [hWB] at lk7 ba
      rw [lnk_cells] at hWB
      have HB2 := Lib.hid hWB
      clear r6 s6 l6 lk1 HA hWB sa lk6
      go_wp2_with (first
        | rw [HB2.out]
        | (at_builtin; refine wpList_append_row (m := 1) T44 rfl (.tmp 70) (.tmp 78) rfl rfl lk7.out.t.two.row rfl (src_hrd ba.out) ?ha ?hb ?_))
      case ha => rw [HL.out]; have := HN.out; have := HLT.out; simp [maxLen]; omega
      case hb => rw [HL.out]; have := HN.out; have := HLT.out; simp; omega
      intro v7 W7 r7 s7 l7
      have lk8 := Lib.hid (lk7.out.led2 s7 (Two.more (x := lnk x k) lk7.out.t.swap noVec_fine (by simpa using r7) s7 l7))
      clear r7 s7 l7 lk7 ba HB2
      go_wp2_with fail
      go_roundw
      case rel => exact ⟨k + 1, _, rfl, by have := HLT.out; omega, rfl, by rw [HT.out]; exact lk8, Lib.hid fun i hi => by
        rcases Nat.lt_or_ge i k with h | h
        · exact fine.out i h
        · obtain rfl : i = k := by omega
          have := HX.out
          simp only [decide_eq_false_iff_not] at this
          rw [HXD.out]; omega⟩
      case measure => have := HLT.out; simp [intOf]; omega
    · have e1 : decide ((k : Int) < (cs.length : Int)) = false := by simpa using hlt
      obtain rfl : k = cs.length := by omega
      have OK : Hid (okC cs) := Lib.hid ⟨HN.out.2, fun c hc => by
        obtain ⟨i, hi, rfl⟩ := List.getElem_of_mem hc
        have := fine.out i hi
        rwa [show cs.getD i 0 = cs[i] by simp [List.getD, hi]] at this⟩
      obtain ⟨ao1, cap1, ev, -⟩ := lk.out.t.one.form
      obtain ⟨ao2, cap2, ev2, -⟩ := lk.out.t.two.form
      rw [show ((List.range cs.length).map fun i => lnk (cs.getD i 0) i).length = cs.length by simp] at ev ev2
      subst ev ev2
      clear fine hlt hk
      go_wp2_with fail
      clear e1
      go_loopw [11, 12, 13] (fun x y t wt => ∃ (k : Nat) (W : World) (g h : Nat → Hrd) (xo yo : Option Addr) (xc yc : Nat) (xs ys : List Int), W = wt ∧ k ≤ 3 ∧ t = .int .i64 k ∧
        x = .slice xo xs.length xc ∧ y = .slice yo ys.length yc ∧ Hid (Ints wt xo xs) ∧ Hid (Ints wt yo ys) ∧ Hid (1 < k → Fin cs.length xs ys) ∧
        Hid (Lk w wt a b (.slice ao1 cs.length cap1) (.slice ao2 cs.length cap2) ((List.range cs.length).map g) ((List.range cs.length).map h)) ∧
        Hid (Turn a b cs.length k (fun i => lnkH b (cs.getD i 0) i) (fun i => lnkH a (cs.getD i 0) i) g h) ∧ Hid ((∀ i, (g i).port = i + 1) ∧ ∀ i, (h i).port = i + 1)) (fun _ _ t _ => 3 - (intOf t).toNat)
      case atStart => exact ⟨0, _, fun i => lnk (cs.getD i 0) i, fun i => lnk (cs.getD i 0) i, none, none, 0, 0, [], [], rfl, by omega, rfl, rfl, rfl, Lib.hid (Ints.nil _ _), Lib.hid (Ints.nil _ _), Lib.hid (fun h => absurd h (by decide)), lk, Lib.hid (turn_first OK.out), Lib.hid ⟨fun _ => rfl, fun _ => rfl⟩⟩
      case round =>
        clear lk
        obtain ⟨k, wt, g, h, xo, yo, xc, yc, xs, ys, rfl, hk3, rfl, rfl, rfl, ix, iy, fin, lk, tn, pt⟩ := hrel
        by_cases h3 : k < 3
        · have e1 : decide ((k : Int) < 3) = true := by simp; omega
          have e2 : decide (k < 3) = true := by simpa using h3
          have hw1 : IntKind.i64.wrap ((k : Int) + 1) = (k : Int) + 1 := IntWalk.i64_in _ (by omega)
          obtain ⟨L1, hL1⟩ : ∃ L, (List.range cs.length).map g = L := ⟨_, rfl⟩
          obtain ⟨L2, hL2⟩ : ∃ L, (List.range cs.length).map h = L := ⟨_, rfl⟩
          have pw1 := ports_wf pt.out.1 HN.out.2
          have pw2 := ports_wf pt.out.2 HN.out.2
          obtain ⟨tfa, tfb, toB, toA, tfin⟩ := tn.out
          rw [hL1] at lk pw1 tfa toB
          rw [hL2] at lk pw2 tfb toA
          rw [hL1, hL2] at tfin
          have hl1 : L1.length = cs.length := by rw [← hL1]; simp
          have hl2 : L2.length = cs.length := by rw [← hL2]; simp
          have hm1 : mixL (fun i => lnkH b (cs.getD i 0) i) g 0 cs.length = L1 := (mixL_zero _ _ _).trans hL1
          have hm2 : mixL (fun i => lnkH a (cs.getD i 0) i) h 0 cs.length = L2 := (mixL_zero _ _ _).trans hL2
          obtain ⟨ao1', cap1', ev, hh1⟩ := lk.out.t.one.form
          simp only [Value.slice.injEq] at ev
          obtain ⟨rfl, -, rfl⟩ := ev
          have SEL := select_any a ao1 cap1 L1 wt F.out.1 pw1 (by have := HN.out; omega) hh1
          have FA : (bestOf a L1).fine := (root_law F.out.1 hh1 tfa).fine
          have hrx : (rolesOf a L1).length = cs.length := by rw [rolesOf_len, if_pos tfa, hl1]
          rw [hl1, hrx, tfa] at SEL
          generalize hX : rolesOf a L1 = X at *
          generalize hBA : bestOf a L1 = BA at *
          clear hh1 pw1 tfa hX hBA
          have SEL2 : Hid (∀ w' ao2' cap2', Hears w' ao2' L2 → Calls Try.prog 27 #[.agg b.cells, .slice ao2' cs.length cap2'] w' fun e w'' => Step None w' w'' ∧ ∃ o c, e = .returned (.tuple #[.agg (bestOf b L2).cells, .slice o cs.length c, .int .i64 0]) ∧ Ints w'' o (rolesOf b L2)) := Lib.hid fun w' o c hh => by
            have SEL := select_any b o c L2 w' F.out.2 pw2 (by have := HN.out; omega) hh
            rw [hl2, show (rolesOf b L2).length = cs.length by rw [rolesOf_len, if_pos tfb, hl2], tfb] at SEL
            exact SEL
          have FB : (bestOf b L2).fine := by
            obtain ⟨o, c, -, hh2⟩ := lk.out.t.two.form
            exact (root_law F.out.2 hh2 tfb).fine
          have HYL : Hid ((rolesOf b L2).length = cs.length) := Lib.hid (by rw [rolesOf_len, if_pos tfb, hl2])
          generalize hY : rolesOf b L2 = Y at *
          generalize hBB : bestOf b L2 = BB at *
          clear pw2 tfb hY hBB
          have HXL := Lib.hid hrx
          have FIN := Lib.hid tfin
          have TOA := Lib.hid toA
          have TOB := Lib.hid toB
          have FV := Lib.hid (And.intro FA FB)
          have HSEL := Lib.hid SEL
          have HM := Lib.hid (And.intro hm1 hm2)
          have PT := pt
          have la := load_idn lk.out.a
          unfold Idn.cells at la
          have LA := Lib.hid la
          have HK3 := Lib.hid h3
          clear hrx la tfin toA toB FA FB SEL hl1 hl2 hL1 hL2 hm1 hm2 tn pt fin hk3 h3
          go_wp2_with (first
            | (refine wpList_load_is 25 (.tmp 3) rfl rfl rfl LA.out ?_))
          refine HSEL.out.mono ?_
          rintro e w3 ⟨s3, xo3, xc3, rfl, ix3⟩
          have hn := laid_new w3 zeroV BA.cells 27
          unfold zeroV at hn
          obtain ⟨W4, hW4⟩ : ∃ W4, (w3.alloc (.cells #[.int .i64 0, .int .u8 0, .int .u8 0, .int .u8 0, .int .u8 0, .int .u8 0, .int .u8 0, .int .i64 0, .int .i64 0, .int .u8 0, .int .u8 0, .int .u8 0, .int .u8 0, .int .u8 0, .int .u8 0, .int .i64 0, .int .i64 0] 27)).setRow w3.heap.size BA.cells = W4 := ⟨_, rfl⟩
          rw [hW4] at hn
          have HE4 := Lib.hid hW4
          have lk4 := Lib.hid ((lk.out.still s3).still hn.2)
          have ix4 := Lib.hid (ix3.still hn.2)
          have N4 := Lib.hid hn.1
          have lb := load_idn lk4.out.b
          unfold Idn.cells at lb
          have LB := Lib.hid lb
          obtain ⟨ao2', cap2', ev, hh2⟩ := lk4.out.t.two.form
          simp only [Value.slice.injEq] at ev
          obtain ⟨rfl, -, rfl⟩ := ev
          have SELB := Lib.hid (SEL2.out W4 ao2 cap2 hh2)
          clear hn hW4 s3 ix3 lb hh2 SEL2 LA HSEL lk ix iy
          go_wp2_with (first
            | rw [HE4.out]
            | (refine wpList_store_row rfl 27 (.tmp 14) (.tmp 88) rfl w3.heap.size BA.cells rfl rfl 27 _ (heap_alloc_new w3 _) (by kernel_rfl) rfl (by simp [Vec.cells, Value.oneCell']) ?_)
            | (refine wpList_load_is 25 (.tmp 4) rfl rfl rfl LB.out ?_))
          refine SELB.out.mono ?_
          rintro e w5 ⟨s5, yo5, yc5, rfl, iy5⟩
          have hn := laid_new w5 zeroV BB.cells 27
          unfold zeroV at hn
          obtain ⟨W6, hW6⟩ : ∃ W6, (w5.alloc (.cells #[.int .i64 0, .int .u8 0, .int .u8 0, .int .u8 0, .int .u8 0, .int .u8 0, .int .u8 0, .int .i64 0, .int .i64 0, .int .u8 0, .int .u8 0, .int .u8 0, .int .u8 0, .int .u8 0, .int .u8 0, .int .i64 0, .int .i64 0] 27)).setRow w5.heap.size BB.cells = W6 := ⟨_, rfl⟩
          rw [hW6] at hn
          have HE6 := Lib.hid hW6
          have tv0 := Lib.hid (Tv.mk ((lk4.out.still s5).still hn.2) ((ix4.out.still s5).still hn.2) (iy5.still hn.2) (hn.2.blk (s5.blk N4.out (fun s => s.elim)) (fun s => s.elim)) hn.1)
          clear hn hW6 s5 iy5 LB SELB lk4 ix4 N4 HE4
          go_wp2_with (first
            | rw [HE6.out]
            | (refine wpList_store_row rfl 27 (.tmp 17) (.tmp 95) rfl w5.heap.size BB.cells rfl rfl 27 _ (heap_alloc_new w5 _) (by kernel_rfl) rfl (by simp [Vec.cells, Value.oneCell']) ?_))
          generalize w3.heap.size = P at *
          generalize w5.heap.size = Q at *
          clear HE6
          go_loopw [20] (fun i wr => ∃ (j : Nat) (W : World), W = wr ∧ j ≤ cs.length ∧ i = .int .i64 j ∧ Hid (Tv w wr a b (.slice ao1 cs.length cap1) (.slice ao2 cs.length cap2) (mixL (fun i => lnkH b (cs.getD i 0) i) g j cs.length) (mixL (fun i => lnkH a (cs.getD i 0) i) h j cs.length) xo3 yo5 X Y P Q BA BB)) (fun i _ => cs.length - (intOf i).toNat)
          case atStart => exact ⟨0, _, rfl, Nat.zero_le _, rfl, by rw [HM.out.1, HM.out.2]; exact tv0⟩
          case round =>
            obtain ⟨j, wr, rfl, hj, rfl, tv⟩ := hrel
            clear tv0
            by_cases hlt : j < cs.length
            · have e3 : decide ((j : Int) < (cs.length : Int)) = true := by simpa using hlt
              have j0 : (0 : Int) ≤ (j : Int) := by omega
              have j1 : (j : Int) < (cs.length : Int) := by omega
              have hw2 : IntKind.i64.wrap ((j : Int) + 1) = (j : Int) + 1 := IntWalk.i64_in _ (by have := HN.out; omega)
              have HJ := Lib.hid hlt
              obtain ⟨p, hp, pa, pn⟩ := TOB.out j hlt
              obtain ⟨q, hq, qa, qn⟩ := TOA.out j hlt
              have HP := Lib.hid hp
              have HQ := Lib.hid hq
              have PAn := Lib.hid pn
              have QAn := Lib.hid qn
              have PA := Lib.hid pa
              have QA := Lib.hid qa
              obtain ⟨x1, x2, e4, cx⟩ := tv.out.x.cell hp
              subst e4
              clear hlt hj hp hq pa pn qa qn
              cases hP : (p == 2)
              · have tvB : Hid (Tv w wr a b (.slice ao1 cs.length cap1) (.slice ao2 cs.length cap2) (mixL (fun i => lnkH b (cs.getD i 0) i) g j cs.length) (mixL (fun i => lnkH a (cs.getD i 0) i) h (j + 1) cs.length) (some ⟨x1, x2, none⟩) yo5 X Y P Q BA BB) := by
                  rw [← mixL_same (f := fun i => lnkH a (cs.getD i 0) i) (PAn.out (by simpa using hP))]
                  exact tv
                obtain ⟨y1, y2, e5, cy⟩ := tv.out.y.cell HQ.out
                subst e5
                clear tv
                cases hQ : (q == 2)
                · have tvC : Hid (Tv w wr a b (.slice ao1 cs.length cap1) (.slice ao2 cs.length cap2) (mixL (fun i => lnkH b (cs.getD i 0) i) g (j + 1) cs.length) (mixL (fun i => lnkH a (cs.getD i 0) i) h (j + 1) cs.length) (some ⟨x1, x2, none⟩) (some ⟨y1, y2, none⟩) X Y P Q BA BB) := by
                    rw [← mixL_same (f := fun i => lnkH b (cs.getD i 0) i) (QAn.out (by simpa using hQ))]
                    exact tvB
                  clear tvB
                  go_wp2_with fail
                  go_roundw
                  case rel => exact ⟨j + 1, _, rfl, by have := HJ.out; omega, rfl, tvC⟩
                  case measure => have := HJ.out; simp [intOf]; omega
                · have hq2 : q = 2 := by simpa using hQ
                  subst hq2
                  have here := mixL_here (f := (fun i => lnkH b (cs.getD i 0) i)) (g := g) HJ.out
                  obtain ⟨pb, po, pc, ev, -, hcc, hff, hth⟩ := tvB.out.lk.t.one.at_ here
                  rw [mixL_len] at ev
                  simp only [Value.slice.injEq] at ev
                  obtain ⟨rfl, -, rfl⟩ := ev
                  obtain ⟨-, -, -, c3⟩ := hcell hcc
                  have f3 := hff (po + j * 21 + 3)
                  obtain ⟨lkh, sh⟩ := tvB.out.lk.has1 (mixL_len _ _ _ _) here
                  have tvh := tvB.out.one sh lkh
                  obtain ⟨WH, hWH⟩ : ∃ WH, wr.setCell ⟨pb, po + j * 21 + 3, none⟩ (.bool true) = WH := ⟨_, rfl⟩
                  rw [hWH] at tvh
                  have HWH := Lib.hid hWH
                  have TVH := Lib.hid tvh
                  have HERE := Lib.hid here
                  have lm := load_idn tvh.lk.b
                  unfold Idn.cells at lm
                  have LM := Lib.hid lm
                  have LV := Lib.hid (load_block tvh.q rfl : (Instr.loadAt 27 (.pointer (some ⟨Q, 0, none⟩))).run Try.prog WH = .ok (.agg BB.cells) WH)
                  clear tvB here hcc hff hth lkh sh tvh lm hWH
                  go_wp2_with (first
                    | rw [HWH.out]
                    | (refine wpList_load_is 25 (.tmp 4) rfl rfl rfl LM.out ?_)
                    | (refine wpList_load_is 27 (.tmp 17) rfl rfl rfl LV.out ?_))
                  clear c3 f3 HWH LM LV
                  refine (offer_any b BB ((j : Int) + 1) WH).mono ?_
                  rintro e wo ⟨rfl, so⟩
                  have TVO := Lib.hid (TVH.out.still so)
                  have here2 := set_here (y := { g j with has := true }) HERE.out
                  have thr := (TVO.out.lk.t.one.at_ here2)
                  obtain ⟨pb', po', pc', ev, -, -, -, hth⟩ := thr
                  rw [List.length_set, mixL_len] at ev
                  simp only [Value.slice.injEq, Option.some.injEq, Addr.mk.injEq, and_true, true_and] at ev
                  obtain ⟨⟨rfl, rfl⟩, rfl⟩ := ev
                  obtain ⟨lkw, sw⟩ := TVO.out.lk.way1 (by rw [List.length_set, mixL_len]) here2 (offer_fine (p := (j : Int) + 1) F.out.2 FV.out.2)
                  have tvw := TVO.out.one sw lkw
                  have tvC := Lib.hid (tvw.cast1 (mix_hear HJ.out (QA.out (by first | trivial | rfl))))
                  obtain ⟨WW1, hWW⟩ : ∃ WW, wo.setCells pb (po + j * 21 + 4) (offerV b BB ((j : Int) + 1)).cells.toList = WW := ⟨_, rfl⟩
                  rw [hWW] at tvC
                  have HWW1 := Lib.hid hWW
                  have HTH1 := Lib.hid hth
                  clear TVH TVO HERE here2 hth lkw sw tvw hWW so
                  go_wp2_with (first
                    | (refine wpList_store_mid rfl 27 (.tmp 145) (.tmp 143) rfl pb (po + j * 21 + 4) (offerV b BB ((j : Int) + 1)).cells rfl rfl HTH1.out (by kernel_rfl) (by simp [offerV, Vec.cells, Value.oneCell']) ?_; rw [HWW1.out]))
                  go_roundw
                  case rel => exact ⟨j + 1, _, rfl, by have := HJ.out; omega, rfl, tvC⟩
                  case measure => have := HJ.out; simp [intOf]; omega
              · have hp2 : p = 2 := by simpa using hP
                subst hp2
                have here := mixL_here (f := (fun i => lnkH a (cs.getD i 0) i)) (g := h) HJ.out
                obtain ⟨pq, pqo, pc, ev, -, hcc, hff, hth⟩ := tv.out.lk.t.two.at_ here
                rw [mixL_len] at ev
                simp only [Value.slice.injEq] at ev
                obtain ⟨rfl, -, rfl⟩ := ev
                obtain ⟨-, -, -, c3⟩ := hcell hcc
                have f3 := hff (pqo + j * 21 + 3)
                obtain ⟨lkh, sh⟩ := tv.out.lk.has2 (mixL_len _ _ _ _) here
                have tvh := tv.out.two sh lkh
                obtain ⟨WH, hWH⟩ : ∃ WH, wr.setCell ⟨pq, pqo + j * 21 + 3, none⟩ (.bool true) = WH := ⟨_, rfl⟩
                rw [hWH] at tvh
                have HWH := Lib.hid hWH
                have TVH := Lib.hid tvh
                have HERE := Lib.hid here
                have lm := load_idn tvh.lk.a
                unfold Idn.cells at lm
                have LM := Lib.hid lm
                have LV := Lib.hid (load_block tvh.p rfl : (Instr.loadAt 27 (.pointer (some ⟨P, 0, none⟩))).run Try.prog WH = .ok (.agg BA.cells) WH)
                clear tv here hcc hff hth lkh sh tvh lm hWH
                go_wp2_with (first
                  | rw [HWH.out]
                  | (refine wpList_load_is 25 (.tmp 3) rfl rfl rfl LM.out ?_)
                  | (refine wpList_load_is 27 (.tmp 14) rfl rfl rfl LV.out ?_))
                clear c3 f3 HWH LM LV
                refine (offer_any a BA ((j : Int) + 1) WH).mono ?_
                rintro e wo ⟨rfl, so⟩
                have TVO := Lib.hid (TVH.out.still so)
                have here2 := set_here (y := { h j with has := true }) HERE.out
                have thr := (TVO.out.lk.t.two.at_ here2)
                obtain ⟨pq', po', pc', ev, -, -, -, hth⟩ := thr
                rw [List.length_set, mixL_len] at ev
                simp only [Value.slice.injEq, Option.some.injEq, Addr.mk.injEq, and_true, true_and] at ev
                obtain ⟨⟨rfl, rfl⟩, rfl⟩ := ev
                obtain ⟨lkw, sw⟩ := TVO.out.lk.way2 (by rw [List.length_set, mixL_len]) here2 (offer_fine (p := (j : Int) + 1) F.out.1 FV.out.1)
                have tvw := TVO.out.two sw lkw
                have tvB := Lib.hid (tvw.cast2 (mix_hear HJ.out (PA.out (by first | trivial | rfl))))
                obtain ⟨WW2, hWW⟩ : ∃ WW, wo.setCells pq (pqo + j * 21 + 4) (offerV a BA ((j : Int) + 1)).cells.toList = WW := ⟨_, rfl⟩
                rw [hWW] at tvB
                have HWW2 := Lib.hid hWW
                have HTH2 := Lib.hid hth
                clear TVH TVO HERE here2 hth lkw sw tvw hWW so
                skip
                obtain ⟨y1, y2, e5, cy⟩ := tvB.out.y.cell HQ.out
                subst e5
                cases hQ : (q == 2)
                · have tvC : Hid (Tv w WW2 a b (.slice ao1 cs.length cap1) (.slice (some ⟨pq, pqo, none⟩) cs.length cap2) (mixL (fun i => lnkH b (cs.getD i 0) i) g (j + 1) cs.length) (mixL (fun i => lnkH a (cs.getD i 0) i) h (j + 1) cs.length) (some ⟨x1, x2, none⟩) (some ⟨y1, y2, none⟩) X Y P Q BA BB) := by
                    rw [← mixL_same (f := fun i => lnkH b (cs.getD i 0) i) (QAn.out (by simpa using hQ))]
                    exact tvB
                  clear tvB
                  go_wp2_with (first
                      | (refine wpList_store_mid rfl 27 (.tmp 127) (.tmp 125) rfl pq (pqo + j * 21 + 4) (offerV a BA ((j : Int) + 1)).cells rfl rfl HTH2.out (by kernel_rfl) (by simp [offerV, Vec.cells, Value.oneCell']) ?_; rw [HWW2.out]))
                  go_roundw
                  case rel => exact ⟨j + 1, _, rfl, by have := HJ.out; omega, rfl, tvC⟩
                  case measure => have := HJ.out; simp [intOf]; omega
                · have hq2 : q = 2 := by simpa using hQ
                  subst hq2
                  have here := mixL_here (f := (fun i => lnkH b (cs.getD i 0) i)) (g := g) HJ.out
                  obtain ⟨pb, po, pc, ev, -, hcc, hff, hth⟩ := tvB.out.lk.t.one.at_ here
                  rw [mixL_len] at ev
                  simp only [Value.slice.injEq] at ev
                  obtain ⟨rfl, -, rfl⟩ := ev
                  obtain ⟨-, -, -, c3⟩ := hcell hcc
                  have f3 := hff (po + j * 21 + 3)
                  obtain ⟨lkh, sh⟩ := tvB.out.lk.has1 (mixL_len _ _ _ _) here
                  have tvh := tvB.out.one sh lkh
                  obtain ⟨WH, hWH⟩ : ∃ WH, WW2.setCell ⟨pb, po + j * 21 + 3, none⟩ (.bool true) = WH := ⟨_, rfl⟩
                  rw [hWH] at tvh
                  have HWH := Lib.hid hWH
                  have TVH := Lib.hid tvh
                  have HERE := Lib.hid here
                  have lm := load_idn tvh.lk.b
                  unfold Idn.cells at lm
                  have LM := Lib.hid lm
                  have LV := Lib.hid (load_block tvh.q rfl : (Instr.loadAt 27 (.pointer (some ⟨Q, 0, none⟩))).run Try.prog WH = .ok (.agg BB.cells) WH)
                  clear tvB here hcc hff hth lkh sh tvh lm hWH
                  go_wp2_with (first
                    | (refine wpList_store_mid rfl 27 (.tmp 127) (.tmp 125) rfl pq (pqo + j * 21 + 4) (offerV a BA ((j : Int) + 1)).cells rfl rfl HTH2.out (by kernel_rfl) (by simp [offerV, Vec.cells, Value.oneCell']) ?_; rw [HWW2.out])
                    | rw [HWH.out]
                    | (refine wpList_load_is 25 (.tmp 4) rfl rfl rfl LM.out ?_)
                    | (refine wpList_load_is 27 (.tmp 17) rfl rfl rfl LV.out ?_))
                  clear c3 f3 HWH LM LV
                  refine (offer_any b BB ((j : Int) + 1) WH).mono ?_
                  rintro e wo ⟨rfl, so⟩
                  have TVO := Lib.hid (TVH.out.still so)
                  have here2 := set_here (y := { g j with has := true }) HERE.out
                  have thr := (TVO.out.lk.t.one.at_ here2)
                  obtain ⟨pb', po', pc', ev, -, -, -, hth⟩ := thr
                  rw [List.length_set, mixL_len] at ev
                  simp only [Value.slice.injEq, Option.some.injEq, Addr.mk.injEq, and_true, true_and] at ev
                  obtain ⟨⟨rfl, rfl⟩, rfl⟩ := ev
                  obtain ⟨lkw, sw⟩ := TVO.out.lk.way1 (by rw [List.length_set, mixL_len]) here2 (offer_fine (p := (j : Int) + 1) F.out.2 FV.out.2)
                  have tvw := TVO.out.one sw lkw
                  have tvC := Lib.hid (tvw.cast1 (mix_hear HJ.out (QA.out (by first | trivial | rfl))))
                  obtain ⟨WW1, hWW⟩ : ∃ WW, wo.setCells pb (po + j * 21 + 4) (offerV b BB ((j : Int) + 1)).cells.toList = WW := ⟨_, rfl⟩
                  rw [hWW] at tvC
                  have HWW1 := Lib.hid hWW
                  have HTH1 := Lib.hid hth
                  clear TVH TVO HERE here2 hth lkw sw tvw hWW so
                  go_wp2_with (first
                    | (refine wpList_store_mid rfl 27 (.tmp 145) (.tmp 143) rfl pb (po + j * 21 + 4) (offerV b BB ((j : Int) + 1)).cells rfl rfl HTH1.out (by kernel_rfl) (by simp [offerV, Vec.cells, Value.oneCell']) ?_; rw [HWW1.out]))
                  go_roundw
                  case rel => exact ⟨j + 1, _, rfl, by have := HJ.out; omega, rfl, tvC⟩
                  case measure => have := HJ.out; simp [intOf]; omega
            · have e3 : decide ((j : Int) < (cs.length : Int)) = false := by simpa using hlt
              obtain rfl : j = cs.length := by omega
              have lk9 := Lib.hid tv.out.lk
              rw [mixL_all, mixL_all] at lk9
              have IX := Lib.hid tv.out.x
              have IY := Lib.hid tv.out.y
              have hXl : X.length = cs.length := HXL.out
              have hYl : Y.length = cs.length := HYL.out
              clear tv
              go_wp2_with fail
              go_roundw
              case rel => exact ⟨k + 1, _, fun i => lnkH b (cs.getD i 0) i, fun i => lnkH a (cs.getD i 0) i, xo3, yo5, xc3, yc5, X, Y, rfl, by have := HK3.out; omega, rfl, by rw [hXl], by rw [hYl], IX, IY, Lib.hid fun h => FIN.out (by omega), lk9, Lib.hid (turn_later OK.out HN.out.1 HNE2.out (k + 1)), Lib.hid ⟨fun _ => rfl, fun _ => rfl⟩⟩
              case measure => have := HK3.out; simp [intOf]; omega
        · have e1 : decide ((k : Int) < 3) = false := by simp; omega
          have e2 : decide (k < 3) = false := by simpa using h3
          obtain ⟨hlx, hly, r, hr, one⟩ := fin.out (by omega)
          have ONE := Lib.hid one
          have HR := Lib.hid hr
          have HLX := Lib.hid (And.intro hlx hly)
          have ST := Lib.hid lk.out.t.one.st
          clear fin hlx hly one hr tn pt lk h3 hk3
          go_wp2_with fail
          go_loopw [21, 22] (fun s i wr => ∃ (j : Nat) (W : World), W = wr ∧ j ≤ cs.length ∧ i = .int .i64 j ∧ s = .int .i64 (oneIf j r) ∧ Hid (Step None wt wr)) (fun _ i _ => cs.length - (intOf i).toNat)
          case atStart => exact ⟨0, _, rfl, Nat.zero_le _, rfl, by rw [oneIf_zero], Lib.hid (Step.refl _ _)⟩
          case round =>
            obtain ⟨j, wr, rfl, hj, rfl, rfl, sw⟩ := hrel
            by_cases hlt : j < cs.length
            · have e3 : decide ((j : Int) < (cs.length : Int)) = true := by simpa using hlt
              have j0 : (0 : Int) ≤ (j : Int) := by omega
              have j1 : (j : Int) < (xs.length : Int) := by have := HLX.out.1; omega
              have j2 : (j : Int) < (ys.length : Int) := by have := HLX.out.2; omega
              have hw2 : IntKind.i64.wrap ((j : Int) + 1) = (j : Int) + 1 := IntWalk.i64_in _ (by have := HN.out; omega)
              have HJ := Lib.hid hlt
              obtain ⟨p, q, hp, hq, hc, h1⟩ := ONE.out j hlt
              obtain ⟨x1, x2, e4, cx⟩ := (ix.out.still (sw.out.drew)).cell hp
              obtain ⟨y1, y2, e5, cy⟩ := (iy.out.still (sw.out.drew)).cell hq
              subst e4 e5
              have H1 := Lib.hid h1
              have rg := oneIf_rng j r
              have hw3 : IntKind.i64.wrap (oneIf j r + 1) = oneIf j r + 1 := IntWalk.i64_in _ (by omega)
              have SW := Lib.hid sw.out.drew
              clear hlt hj hp hq h1 rg sw
              rcases hc with ⟨rfl, hq2⟩ | ⟨hp2, rfl⟩
              · have hq2 : (q == 2) = false := by simpa using hq2
                cases hz : (q == 1)
                · go_wp2_with fail
                  refine wp_region_plan (fun W => W.cell? ⟨x1, x2 + j, none⟩ = some (.int .i64 2) ∧ W.cell? ⟨y1, y2 + j, none⟩ = some (.int .i64 q)) (.take 0 (.take 1 (.take 2 (.take 3 (.take 4 (.take 5 (.take 6 (.take 7 (.take 8 (.take 9 (.take 10 .done))))))))))) _
                    (by simp only [Plan.map, opOf, List.getElem?_toArray, List.getElem?_cons_zero, List.getElem?_cons_succ, Option.getD_some]; rfl) (by kernel_rfl) (by kernel_rfl) (by kernel_rfl) (by decide) (by intro c a d v w; cases d <;> exact fun h => h) ⟨cx, cy⟩ ?_
                  repeat (first | (refine wpPlan.taken (by rfl) (fun w' hS' => run_load_op rfl rfl hS'.1) ?_; simp only [Act.put, List.setIfInBounds_toArray, List.set_cons_zero, List.set_cons_succ]) | (refine wpPlan.taken (by rfl) (fun w' hS' => run_load_op rfl rfl hS'.2) ?_; simp only [Act.put, List.setIfInBounds_toArray, List.set_cons_zero, List.set_cons_succ]) | (refine wpPlan.taken (by rfl) (by intro w' hS'; (try dsimp only at hS'); go_split_ands; go_simp; try with_reducible rfl) ?_; simp only [Act.put, List.setIfInBounds_toArray, List.set_cons_zero, List.set_cons_succ]) | (refine wpPlan.passed (by rfl) ?_; simp only [Act.put, List.setIfInBounds_toArray, List.set_cons_zero, List.set_cons_succ]))
                  refine wpPlan.done ?_
                  go_wp2_with fail
                  go_roundw
                  case rel => exact ⟨j + 1, _, rfl, by have := HJ.out; omega, rfl, by rw [oneIf_off (fun e => by have := H1.out.2 e; simp at hz; omega)], SW⟩
                  case measure => have := HJ.out; simp [intOf]; omega
                · go_wp2_with fail
                  refine wp_region_plan (fun W => W.cell? ⟨x1, x2 + j, none⟩ = some (.int .i64 2) ∧ W.cell? ⟨y1, y2 + j, none⟩ = some (.int .i64 q)) (.take 0 (.take 1 (.take 2 (.take 3 (.take 4 (.take 5 (.take 6 (.take 7 (.take 8 (.take 9 (.take 10 .done))))))))))) _
                    (by simp only [Plan.map, opOf, List.getElem?_toArray, List.getElem?_cons_zero, List.getElem?_cons_succ, Option.getD_some]; rfl) (by kernel_rfl) (by kernel_rfl) (by kernel_rfl) (by decide) (by intro c a d v w; cases d <;> exact fun h => h) ⟨cx, cy⟩ ?_
                  repeat (first | (refine wpPlan.taken (by rfl) (fun w' hS' => run_load_op rfl rfl hS'.1) ?_; simp only [Act.put, List.setIfInBounds_toArray, List.set_cons_zero, List.set_cons_succ]) | (refine wpPlan.taken (by rfl) (fun w' hS' => run_load_op rfl rfl hS'.2) ?_; simp only [Act.put, List.setIfInBounds_toArray, List.set_cons_zero, List.set_cons_succ]) | (refine wpPlan.taken (by rfl) (by intro w' hS'; (try dsimp only at hS'); go_split_ands; go_simp; try with_reducible rfl) ?_; simp only [Act.put, List.setIfInBounds_toArray, List.set_cons_zero, List.set_cons_succ]) | (refine wpPlan.passed (by rfl) ?_; simp only [Act.put, List.setIfInBounds_toArray, List.set_cons_zero, List.set_cons_succ]))
                  refine wpPlan.done ?_
                  go_wp2_with fail
                  go_roundw
                  case rel => exact ⟨j + 1, _, rfl, by have := HJ.out; omega, rfl, by rw [oneIf_at (H1.out.1 (.inr (by simpa using hz)))], SW⟩
                  case measure => have := HJ.out; simp [intOf]; omega
              · have hp2 : (p == 2) = false := by simpa using hp2
                cases hz : (p == 1)
                · go_wp2_with fail
                  refine wp_region_plan (fun W => W.cell? ⟨x1, x2 + j, none⟩ = some (.int .i64 p) ∧ W.cell? ⟨y1, y2 + j, none⟩ = some (.int .i64 2)) (.take 0 (.take 1 (.take 2 (.take 3 (.take 4 (.take 5 (.take 6 (.take 7 (.take 8 (.take 9 (.take 10 .done))))))))))) _
                    (by simp only [Plan.map, opOf, List.getElem?_toArray, List.getElem?_cons_zero, List.getElem?_cons_succ, Option.getD_some]; rfl) (by kernel_rfl) (by kernel_rfl) (by kernel_rfl) (by decide) (by intro c a d v w; cases d <;> exact fun h => h) ⟨cx, cy⟩ ?_
                  repeat (first | (refine wpPlan.taken (by rfl) (fun w' hS' => run_load_op rfl rfl hS'.1) ?_; simp only [Act.put, List.setIfInBounds_toArray, List.set_cons_zero, List.set_cons_succ]) | (refine wpPlan.taken (by rfl) (fun w' hS' => run_load_op rfl rfl hS'.2) ?_; simp only [Act.put, List.setIfInBounds_toArray, List.set_cons_zero, List.set_cons_succ]) | (refine wpPlan.taken (by rfl) (by intro w' hS'; (try dsimp only at hS'); go_split_ands; go_simp; try with_reducible rfl) ?_; simp only [Act.put, List.setIfInBounds_toArray, List.set_cons_zero, List.set_cons_succ]) | (refine wpPlan.passed (by rfl) ?_; simp only [Act.put, List.setIfInBounds_toArray, List.set_cons_zero, List.set_cons_succ]))
                  refine wpPlan.done ?_
                  go_wp2_with fail
                  go_roundw
                  case rel => exact ⟨j + 1, _, rfl, by have := HJ.out; omega, rfl, by rw [oneIf_off (fun e => by have := H1.out.2 e; simp at hz; omega)], SW⟩
                  case measure => have := HJ.out; simp [intOf]; omega
                · go_wp2_with fail
                  refine wp_region_plan (fun W => W.cell? ⟨x1, x2 + j, none⟩ = some (.int .i64 p) ∧ W.cell? ⟨y1, y2 + j, none⟩ = some (.int .i64 2)) (.take 0 (.take 1 (.take 2 (.take 3 (.take 4 (.take 5 (.take 6 (.take 7 (.take 8 (.take 9 (.take 10 .done))))))))))) _
                    (by simp only [Plan.map, opOf, List.getElem?_toArray, List.getElem?_cons_zero, List.getElem?_cons_succ, Option.getD_some]; rfl) (by kernel_rfl) (by kernel_rfl) (by kernel_rfl) (by decide) (by intro c a d v w; cases d <;> exact fun h => h) ⟨cx, cy⟩ ?_
                  repeat (first | (refine wpPlan.taken (by rfl) (fun w' hS' => run_load_op rfl rfl hS'.1) ?_; simp only [Act.put, List.setIfInBounds_toArray, List.set_cons_zero, List.set_cons_succ]) | (refine wpPlan.taken (by rfl) (fun w' hS' => run_load_op rfl rfl hS'.2) ?_; simp only [Act.put, List.setIfInBounds_toArray, List.set_cons_zero, List.set_cons_succ]) | (refine wpPlan.taken (by rfl) (by intro w' hS'; (try dsimp only at hS'); go_split_ands; go_simp; try with_reducible rfl) ?_; simp only [Act.put, List.setIfInBounds_toArray, List.set_cons_zero, List.set_cons_succ]) | (refine wpPlan.passed (by rfl) ?_; simp only [Act.put, List.setIfInBounds_toArray, List.set_cons_zero, List.set_cons_succ]))
                  refine wpPlan.done ?_
                  go_wp2_with fail
                  go_roundw
                  case rel => exact ⟨j + 1, _, rfl, by have := HJ.out; omega, rfl, by rw [oneIf_at (H1.out.1 (.inl (by simpa using hz)))], SW⟩
                  case measure => have := HJ.out; simp [intOf]; omega
            · have e3 : decide ((j : Int) < (cs.length : Int)) = false := by simpa using hlt
              obtain rfl : j = cs.length := by omega
              rw [oneIf_end HR.out]
              go_wp2_with fail
              go_ret
              exact ⟨rfl, (ST.out.then_ sw.out).toBelow⟩
end Go.Proofs.Ytehlaomippbehaa
