/- Tick of the code. -/
import Derived.Test.YtgchepijbpcckaaDoorW8
namespace Go.Proofs.YtgchepijbpcckaaDoor
open Go.RowKit Go.Gm

/-- What a tick tells, behind its range. -/
structure Told (w0 : World) (B g D : Nat) (v u : Value) (s : Stm) (bs : List Value) (l : List Pkt) (bvs : List Value) (w : World) : Prop where
  st : Step None w0 w
  sm : Sm 66 w g v s bs
  pk : Pks w w0.heap.size u l bvs
  box : w.heap[B]? = some (.cells #[u] 49 (0, 0))
  def_ : w.heap[D]? = some (.deferred (some []))
  b0 : w0.heap.size ≤ B
  d0 : w0.heap.size ≤ D
/-- The end of a tick: the numbers of the stream are written, the deferred calls are taken. -/
theorem Told.fin {w0 W3 W4 : World} {B g D : Nat} {v u : Value} {s s' : Stm} {bs : List Value} {l : List Pkt} {bvs : List Value} (h0 : Sm 66 w0 g v s bs) (h : Told w0 B g D v u s bs l bvs W3) (hs : Step (fun k => k = g) W3 W4) (hst : W4.heap[g]? = some (.cells (s'.cells v) 66 (0, 0))) (hw : s'.ws = s.ws) :
    W4.heap[D]? = some (.deferred (some [])) ∧ Pks (W4.putObj D (.deferred none)) w0.heap.size u l bvs ∧ Sm 66 (W4.putObj D (.deferred none)) g v s' bs ∧ Step (fun k => k = g) w0 (W4.putObj D (.deferred none)) := by
  have gl := blk_lt h0.st
  have dg : D ≠ g := fun e => by have := h.d0; omega
  have hd4 := hs.blk h.def_ dg
  have N4 := h.sm.tail (s' := s') (by decide) (by decide) hw hs hst
  have sp : Step (fun k => k = D) W4 (W4.putObj D (.deferred none)) := Step.putObj (S := fun k => k = D) (Step.refl _ _) (fun _ => rfl) _
  have nc : ∀ k, k = D → ∀ cs t fr, W4.heap[k]? ≠ some (.cells cs t fr) := fun k e cs t fr hc => by subst e; rw [hd4] at hc; cases hc
  have p4 := h.pk.step hs (fun k hk e => by subst e; have := h.pk.base _ hk; omega) (fun k e => h.sm.not5 (by decide) k (.inl e))
  refine ⟨hd4, p4.step sp (fun k hk e => ?_) (fun k e cs fr => nc k e cs 5 fr), N4.step sp (fun e => dg e.symm) (fun k hk e => ?_) (fun k e cs fr => nc k e cs 5 fr), ((h.st.none).then_ hs).trans sp fun k hk e => ?_⟩
  · obtain ⟨cur, hc⟩ := p4.row.typed hk
    exact nc k e _ _ _ hc
  · obtain ⟨cur, hc⟩ := N4.row.typed hk
    exact nc k e _ _ _ hc
  · have := h.d0; omega
theorem Told.still {w0 W W' : World} {B g D : Nat} {v u : Value} {s : Stm} {bs : List Value} {l : List Pkt} {bvs : List Value} (h : Told w0 B g D v u s bs l bvs W) (hs : Step None W W') : Told w0 B g D v u s bs l bvs W' :=
  ⟨h.st.then_ hs, h.sm.still hs, h.pk.still hs, hs.blk h.box (fun s => s.elim), hs.blk h.def_ (fun s => s.elim), h.b0, h.d0⟩
theorem Told.more {w0 W6 w7 : World} {B g D : Nat} {v u u' : Value} {s : Stm} {bs : List Value} {p : Pkt} (h0 : Sm 66 w0 g v s bs) (hp : p.n.body = []) (h : Told w0 B g D v u s bs [] [] W6) (r : Row w7 38 14 u' 1 (p.n.packet p.ep p.sq p.ak (.slice none 0 0)).toList) (s7 : Step (Leads u) W6 w7)
    (l7 : ∀ k, Leads u' k → Leads u k ∨ W6.heap.size ≤ k) : Told w0 B g D v u' s bs [p] [.slice none 0 0] (w7.setCell ⟨B, 0, none⟩ u') := by
  have hne : ¬ Leads u B := h.pk.row.ne h.box (by decide)
  have b7 := s7.blk h.box hne
  have hdl : ¬ Leads u D := fun hk => by obtain ⟨cur, hc⟩ := h.pk.row.typed hk; rw [h.def_] at hc; cases hc
  have d7 := s7.blk h.def_ hdl
  have dB : D ≠ B := fun e => by have := h.box; rw [← e, h.def_] at this; cases this
  have s8 : Step (fun k => k = B) w7 (w7.setCell ⟨B, 0, none⟩ u') := (Step.refl (fun k => k = B) w7).setCell (p := ⟨B, 0, none⟩) (fun _ => rfl) u'
  have st : Step None w0 (w7.setCell ⟨B, 0, none⟩ u') := (h.st.trans s7 fun k hk hl => by have := h.pk.base k hl; omega).trans s8 fun k hk e => by have := h.b0; omega
  refine ⟨st, h0.still st, ⟨?_, rfl, fun i q b h1 h2 => ?_, fun k hk => ?_⟩, blk_set b7 0 _, s8.blk d7 dB, h.b0, h.d0⟩
  · have hr := r.step s8 fun k hk e => by subst e; exact r.ne b7 (by decide) hk
    simpa [flatP, encV, Value.oneCell'] using hr
  · match i with
    | 0 => simp at h1 h2; subst h1 h2; rw [hp]; exact Own5.nil _
    | i + 1 => simp at h1
  · rcases l7 k hk with e | e
    · exact h.pk.base k e
    · have := h.st.size; omega
theorem outs_body {w W : World} {g : Nat} {v : Value} {s : Stm} {bs : List Value} (h : Sm 66 w g v s bs) (hs : Step None w W) (a b : Nat) (hb : b ≤ s.ws.length) : ∀ (i : Nat) (p : Pkt) (c : Value), ((s.outs bs a b).map (·.1))[i]? = some p → ((s.outs bs a b).map fun z => encV z.2)[i]? = some c → Own5 W c p.n.body := fun i p c h1 h2 => by
  rw [List.getElem?_map] at h1 h2
  obtain ⟨z, hz, rfl⟩ := Option.map_eq_some_iff.1 h1
  rw [hz] at h2
  simp only [Option.map_some, Option.some.injEq] at h2
  subst h2
  have hi : i < b - a := by
    have := (List.getElem?_eq_some_iff.1 hz).1
    rwa [outs_len] at this
  have hg := outs_get s bs (a := a) (b := b) (j := a + i) (by omega) (by omega)
  rw [show a + i - a = i by omega, hz] at hg
  simp only [Option.some.injEq] at hg
  subst hg
  have hl : a + i < s.ws.length := by omega
  obtain ⟨n, hn⟩ : ∃ n, s.ws[a + i]? = some n := ⟨_, List.getElem?_eq_getElem hl⟩
  obtain ⟨bv, hbv⟩ : ∃ bv, bs[a + i]? = some bv := ⟨_, List.getElem?_eq_getElem (by rw [h.len]; exact hl)⟩
  have hk := h.body _ _ _ hn hbv
  show Own5 W (encV (bs.getD (a + i) _)) (s.ws.getD (a + i) bare).body
  rw [List.getD_eq_getElem?_getD, List.getD_eq_getElem?_getD, hn, hbv]
  show Own5 W (encV bv) n.body
  rw [encV_of hk.one]
  exact hk.step hs fun _ s => s.elim
theorem flatP_zip (l : List (Pkt × Value)) : flatP ((l.map (·.1)).zip (l.map fun z => encV z.2)) = flatP l := by
  induction l with
  | nil => rfl
  | cons z r ih =>
    simp only [List.map_cons, List.zip_cons_cons]
    unfold flatP at ih ⊢
    rw [List.flatMap_cons, List.flatMap_cons, ih]
    simp only [encV_of (encV_one z.2)]
theorem Got.told {w0 W W3 : World} {B g D : Nat} {v : Value} {s : Stm} {bs : List Value} {a b : Nat} (h0 : Sm 66 w0 g v s bs) (hs : Step None w0 W) (hB : w0.heap.size ≤ B) (hD : W.heap.size ≤ D) (hb : b ≤ s.ws.length) (h : Got B W (s.outs bs a b) W3) (hK : W3.heap[D]? = some (.deferred (some []))) :
    ∃ uo uc, Told w0 B g D v (.slice uo (s.pkts a b).length uc) s bs (s.pkts a b) ((s.outs bs a b).map fun z => encV z.2) W3 := by
  obtain ⟨v', b1, r1, l1, s1⟩ := h
  obtain ⟨uo, uc, rfl, -, -⟩ := r1.form
  have st : Step None w0 W3 := hs.trans s1 fun k hk e => by omega
  have hl : (s.outs bs a b).length = (s.pkts a b).length := by rw [outs_len, Stm.pkts_len]
  rw [hl] at b1 r1 l1
  refine ⟨uo, uc, ⟨st, h0.still st, ⟨?_, ?_, ?_, fun k hk => ?_⟩, b1, hK, hB, Nat.le_trans hs.size hD⟩⟩
  · rw [← outs_fst s bs a b, flatP_zip, List.length_map]
    rw [hl]; exact r1
  · simp [outs_len, Stm.pkts_len]
  · rw [← outs_fst s bs a b]
    exact outs_body h0 st a b hb
  · have := l1 k hk
    have := hs.size
    omega
theorem wp_cut0 {P : Program} {c : Code} {Q : Exit → Act → World → Prop} {a : Act} {w : World} {F : Act} (R : World → Prop)
    (h : c.wp P (fun e a' w' => e = .normal ∧ a' = F ∧ R w') a w) (hK : ∀ w', R w' → Q .normal F w') : c.wp P Q a w :=
  wp_mono h fun e a' w' ⟨he, ha, hr⟩ => by subst he ha; exact hK w' hr
theorem tick_bad (g : Nat) (now : Int) (w : World) (hn : now < 0 ∨ 1099511627776 < now) :
    Calls Tryd.prog 16 #[.pointer (some ⟨g, 0, none⟩), .int .i64 now] w fun e w' => e = .returned (.tuple #[.slice none 0 0, .int .i64 1]) ∧ w = w' := by
  cases d1 : decide (now < 0)
  · have d2 : decide (1099511627776 < now) = true := by simp at d1 ⊢; omega
    clear hn
    go_enter Tryd.func16, Tryd.ntmps16
    go_wp2_with fail
    go_ret2
    exact ⟨rfl, rfl⟩
  · clear hn
    go_enter Tryd.func16, Tryd.ntmps16
    go_wp2_with fail
    go_ret2
    exact ⟨rfl, rfl⟩

set_option maxRecDepth 100000 in
set_option maxHeartbeats 8000000 in
theorem tick_resend (g : Nat) (v : Value) (s : Stm) (bs : List Value) (now : Int) (w : World) (h : Sm 66 w g v s bs) (ok : s.Ok) (hn0 : 0 ≤ now) (hn1 : now ≤ 1099511627776) (hr1 : min (s.ws.length : Int) s.win ≤ s.out) (hr2 : 3 ≤ now - s.last) :
    Calls Tryd.prog 16 #[.pointer (some ⟨g, 0, none⟩), .int .i64 now] w fun e w' => ∃ u bvs, e = .returned (.tuple #[u, .int .i64 (s.tick now).2.2]) ∧ Pks w' w.heap.size u (s.tick now).2.1 bvs ∧ Sm 66 w' g v (s.tick now).1 bs ∧ Step (fun k => k = g) w w' := by
  have h' := h
  obtain ⟨ao, cap, rfl, hcap, -⟩ := h'.row.form
  obtain ⟨mn, hmn⟩ : ∃ m : Nat, min (s.ws.length : Int) s.win = (m : Int) := ⟨(min (s.ws.length : Int) s.win).toNat, by have := ok.win; omega⟩
  obtain ⟨on, hon⟩ : ∃ m : Nat, s.out = (m : Int) := ⟨s.out.toNat, by have := ok.out; omega⟩
  have HL : Hid (mn ≤ s.ws.length ∧ on ≤ s.ws.length) := Lib.hid (by have := ok.out; omega)
  have hla := ok.last
  have hsz : s.span now = (((0 : Nat) : Int), ((on : Nat) : Int)) := by unfold Stm.span; rw [hmn, hon]; exact (if_pos (by rw [← hmn, ← hon]; exact ⟨hr1, hr2⟩)).trans (by simp)
  have d1 : decide (now < 0) = false := decide_eq_false (by omega)
  have d2 : decide (1099511627776 < now) = false := decide_eq_false (by omega)
  have wn := (IntWalk.i64_in (now - s.last) (by omega) : IntKind.i64.wrap (now - s.last) = now - s.last)
  have wn2 : wrap64 (now - s.last) = now - s.last := IntWalk.wrap64_in _ ⟨by omega, by omega⟩
  have hmin : ∀ w ts t, (Builtin.min_ ts t #[.int .i64 (s.ws.length : Int), .int .i64 s.win]).run Tryd.prog w = .ok (.int .i64 (mn : Int)) w := fun w ts t => by rw [run_min_int, hmn]
  obtain ⟨mx, hmx⟩ : ∃ mx : Int, max (on : Int) ((on : Nat) : Int) = mx := ⟨_, rfl⟩
  have hmax : ∀ w ts t, (Builtin.max_ ts t #[.int .i64 (on : Int), .int .i64 ((on : Nat) : Int)]).run Tryd.prog w = .ok (.int .i64 mx) w := fun w ts t => by rw [run_max_int, hmx]
  have e1 : decide ((mn : Int) ≤ (on : Int)) = true := decide_eq_true (by omega)
  have e2 : decide (mn ≤ on) = true := decide_eq_true (by omega)
  have e3 : decide (3 ≤ now - s.last) = true := decide_eq_true hr2
  have ET : s.tick now = if s.pkts 0 on ≠ [] then ({ s with out := mx, last := now, due := false }, s.pkts 0 on, 0) else if s.due then ({ s with due := false }, [⟨s.ep, 0, s.taken, bare⟩], 0) else (s, [], 0) := by
    unfold Stm.tick
    rw [if_neg (by omega), hsz]
    simp only [Int.toNat_natCast, hon, hmx]
  have H := Lib.hid h
  have OK := Lib.hid ok
  have cells : ∀ W', Sm 66 W' g (.slice ao s.ws.length cap) s bs → W'.cell? ⟨g, 0, none⟩ = some (.int .i64 s.ep) ∧ W'.cell? ⟨g, 1, none⟩ = some (.int .i64 s.win) ∧ W'.cell? ⟨g, 2, none⟩ = some (.slice ao s.ws.length cap) ∧ W'.cell? ⟨g, 4, none⟩ = some (.int .i64 (on : Int)) ∧ W'.cell? ⟨g, 5, none⟩ = some (.int .i64 s.last) ∧ W'.cell? ⟨g, 6, none⟩ = some (.int .i64 s.taken) ∧ W'.cell? ⟨g, 7, none⟩ = some (.bool s.due) := fun W' h' => by
    refine ⟨blk_cell h'.st 0, blk_cell h'.st 1, blk_cell h'.st 2, ?_, blk_cell h'.st 5, blk_cell h'.st 6, blk_cell h'.st 7⟩
    rw [blk_cell h'.st 4, ← hon]; rfl
  have CE := Lib.hid cells
  have HON := Lib.hid hon
  obtain ⟨c0, c1, c2, c4, c5, c6, c7⟩ := cells w h
  have ETT := Lib.hid ET
  clear h h' ok cells hmx hmn hsz hla hn0 hn1 hon ET c0 c6 c7 hr1 hr2
  refine callsIn_wide.1 (callsIn_of_wp_marks (n := 8) Tryd.func16 rfl trivial (wpIn_wide.2 ?_) rfl)
  simp only [Tryd.ntmps16, List.size_toArray, List.length_cons, List.length_nil, Nat.reduceAdd, Nat.reduceSub, Array.replicate_succ, Array.replicate_zero, List.push_toArray, List.append_toArray, List.nil_append, List.cons_append]
  go_wp2_with fail
  apply wp_cut0 (fun w' => w' = w.drew)
  · refine wp_region_plan (fun w' => w'.cell? ⟨g, 1, none⟩ = some (.int .i64 s.win) ∧ w'.cell? ⟨g, 2, none⟩ = some (.slice ao s.ws.length cap) ∧ w'.cell? ⟨g, 4, none⟩ = some (.int .i64 (on : Int))) (.take 0 (.take 1 (.take 2 (.take 3 (.take 4 (.take 5 (.take 6 (.take 7 (.take 8 (.take 9 (.take 10 (.take 11 (.take 12 (.take 13 (.take 14 (.take 15 .done)))))))))))))))) _
      (by simp only [Plan.map, opOf, List.getElem?_toArray, List.getElem?_cons_zero, List.getElem?_cons_succ, Option.getD_some]; rfl) (by kernel_rfl) (by kernel_rfl) (by kernel_rfl) (by decide) (by intro c a d v w h; exact absurd h.1 (by simp)) ⟨c1, c2, c4⟩ ?_
    repeat (first | (refine wpPlan.taken (by rfl) (by intro w' hS'; (try dsimp only at hS'); go_split_ands; go_simp; try with_reducible rfl) ?_; simp only [Act.put, List.setIfInBounds_toArray, List.set_cons_zero, List.set_cons_succ]) | (refine wpPlan.passed (by rfl) ?_; simp only [Act.put, List.setIfInBounds_toArray, List.set_cons_zero, List.set_cons_succ]))
    refine wpPlan.done ?_
    exact ⟨rfl, rfl, rfl⟩
  rintro _ rfl
  have c1 : w.drew.cell? ⟨g, 1, none⟩ = some (.int .i64 s.win) := c1
  have c4 : w.drew.cell? ⟨g, 4, none⟩ = some (.int .i64 (on : Int)) := c4
  have c5 : w.drew.cell? ⟨g, 5, none⟩ = some (.int .i64 s.last) := c5
  go_wp2_with fail
  apply wp_cut0 (fun w' => w' = w.drew.drew)
  · refine wp_region_plan (fun w' => w'.cell? ⟨g, 4, none⟩ = some (.int .i64 (on : Int))) (.take 0 (.take 1 (.take 2 (.take 3 (.take 4 (.take 5 .done)))))) _
      (by simp only [Plan.map, opOf, List.getElem?_toArray, List.getElem?_cons_zero, List.getElem?_cons_succ, Option.getD_some]; rfl) (by kernel_rfl) (by kernel_rfl) (by kernel_rfl) (by decide) (by intro c a d v w h; exact absurd h.1 (by simp)) c4 ?_
    repeat (first | (refine wpPlan.taken (by rfl) (by intro w' hS'; (try dsimp only at hS'); go_split_ands; go_simp; try with_reducible rfl) ?_; simp only [Act.put, List.setIfInBounds_toArray, List.set_cons_zero, List.set_cons_succ]) | (refine wpPlan.passed (by rfl) ?_; simp only [Act.put, List.setIfInBounds_toArray, List.set_cons_zero, List.set_cons_succ]))
    refine wpPlan.done ?_
    exact ⟨rfl, rfl, rfl⟩
  rintro _ rfl
  have sa : Step None w ((w.alloc (.cells #[.slice none 0 0] 49)).drew.drew) := ((Step.refl None w).alloc _).drew.drew
  obtain ⟨W, hW⟩ : ∃ W, (w.alloc (.cells #[.slice none 0 0] 49)).drew.drew = W := ⟨_, rfl⟩
  have hb : W.heap[w.heap.size]? = some (.cells #[.slice none 0 0] 49 (0, 0)) := by rw [← hW]; exact heap_alloc_new w _
  rw [hW] at sa
  have SZ : Hid (W.heap.size = w.heap.size + 1) := Lib.hid (by rw [← hW]; simp)
  have HE := Lib.hid hW
  have SA := Lib.hid sa
  have HB := Lib.hid hb
  clear hW sa hb c1 c4 c5 c2
  go_wp2_with (first | rw [HE.out])
  refine (packets_any g 0 on W).mono ?_
  rintro e w4 ⟨rfl, rfl⟩
  have s4 := (((Step.refl None W).alloc (.cells #[.pointer (some ⟨g, 0, none⟩)] 25)).alloc (.cells #[.int .i64 0] 3)).alloc (.cells #[.int .i64 (on : Nat)] 3)
  have q1 : (((W.alloc (.cells #[.pointer (some ⟨g, 0, none⟩)] 25)).alloc (.cells #[.int .i64 0] 3)).alloc (.cells #[.int .i64 (on : Nat)] 3)).heap[W.heap.size]? = some (.cells #[.pointer (some ⟨g, 0, none⟩)] 25 (0, 0)) := (Below.heap_alloc _ _ _ (by simp; omega)).trans ((Below.heap_alloc _ _ _ (by simp)).trans (heap_alloc_new _ _))
  have q2 : (((W.alloc (.cells #[.pointer (some ⟨g, 0, none⟩)] 25)).alloc (.cells #[.int .i64 0] 3)).alloc (.cells #[.int .i64 (on : Nat)] 3)).heap[W.heap.size + 1]? = some (.cells #[.int .i64 0] 3 (0, 0)) := by
    have := heap_alloc_new (W.alloc (.cells #[.pointer (some ⟨g, 0, none⟩)] 25)) (.cells #[.int .i64 0] 3)
    rw [World.size_alloc] at this
    exact (Below.heap_alloc _ _ _ (by simp)).trans this
  have q3 : (((W.alloc (.cells #[.pointer (some ⟨g, 0, none⟩)] 25)).alloc (.cells #[.int .i64 0] 3)).alloc (.cells #[.int .i64 (on : Nat)] 3)).heap[W.heap.size + 1 + 1]? = some (.cells #[.int .i64 (on : Nat)] 3 (0, 0)) := by
    have := heap_alloc_new ((W.alloc (.cells #[.pointer (some ⟨g, 0, none⟩)] 25)).alloc (.cells #[.int .i64 0] 3)) (.cells #[.int .i64 (on : Nat)] 3)
    rwa [World.size_alloc, World.size_alloc] at this
  obtain ⟨W4, hW4⟩ : ∃ W4, ((W.alloc (.cells #[.pointer (some ⟨g, 0, none⟩)] 25)).alloc (.cells #[.int .i64 0] 3)).alloc (.cells #[.int .i64 (on : Nat)] 3) = W4 := ⟨_, rfl⟩
  have z4 : W4.heap.size = W.heap.size + 3 := by rw [← hW4]; simp
  rw [hW4] at s4 q1 q2 q3 ⊢
  clear hW4
  have S4 := Lib.hid (SA.out.then_ s4)
  have hS : Stands (W.heap.size + 1) (W.heap.size + 1 + 1) W.heap.size g (.slice ao s.ws.length cap) s bs 0 on W4 := ⟨H.out.still S4.out, q2, q3, q1⟩
  have hLQ : LiesQ W4.heap.size w.heap.size (W.heap.size + 1) (W.heap.size + 1 + 1) W.heap.size g (.slice ao s.ws.length cap) := by
    have g1 := blk_lt H.out.st
    have z := SZ.out
    refine ⟨⟨by omega, by omega⟩, fun k hk => ?_, ⟨by omega, by omega⟩, ⟨by omega, by omega⟩, ⟨by omega, by omega⟩⟩
    have := H.out.row.lt hk
    exact ⟨by omega, by omega⟩
  have HS := Lib.hid hS
  have HLQ := Lib.hid hLQ
  have HB4 := Lib.hid (s4.blk HB.out (fun s => s.elim))
  clear hS hLQ q1 q2 q3 s4 z4 HB SZ SA
  go_wp2_with fail
  refine range_law w.heap.size (W.heap.size + 1) (W.heap.size + 1 + 1) W.heap.size g (.slice ao s.ws.length cap) s bs 0 on OK.out HL.out.2 HLQ.out HS.out HB4.out rfl rfl rfl ?_
  intro D W5 hD hgot hK
  obtain ⟨uo, uc, told⟩ := hgot.told H.out S4.out (Nat.le_refl _) hD HL.out.2 hK
  have TT := Lib.hid told
  clear hgot hK hD told HS HLQ HB4 S4
  obtain ⟨q, hq⟩ : ∃ q, (s.pkts 0 on).length = q := ⟨_, rfl⟩
  have HQ := Lib.hid hq
  have tb := blk_cell TT.out.box 0
  have tf := blk_frozen TT.out.box 0
  simp only [List.getElem?_toArray, List.getElem?_cons_zero] at tb
  rw [hq] at tb
  obtain ⟨c0, c1, c2, c4, c5, c6, c7⟩ := CE.out _ TT.out.sm
  have f4 := blk_frozen TT.out.sm.st 4
  have f5 := blk_frozen TT.out.sm.st 5
  have f7 := blk_frozen TT.out.sm.st 7
  clear hq c1 c2
  by_cases hq0 : q = 0
  rotate_left
  · have dq : decide (0 < q) = true := decide_eq_true (by omega)
    have dq2 : decide (0 < (q : Int)) = true := decide_eq_true (by omega)
    have dq3 : ((q : Int) == 0) = false := by simp; omega
    have dq4 : (q == 0) = false := by simp; omega
    have hne : s.pkts 0 on ≠ [] := fun e => by have := HQ.out; rw [e] at this; simp at this; omega
    have FIN := Lib.hid (Told.fin (s' := { s with out := mx, last := now, due := false }) H.out TT.out ((((Step.refl (fun k => k = g) W5).setCell (p := ⟨g, 4, none⟩) (fun _ => rfl) (.int .i64 (mx))).setCell (p := ⟨g, 5, none⟩) (fun _ => rfl) (.int .i64 now)).setCell (p := ⟨g, 7, none⟩) (fun _ => rfl) (.bool false)) (blk_set (blk_set (blk_set TT.out.sm.st 4 _) 5 _) 7 _) rfl)
    have E2 := Lib.hid (show s.tick now = ({ s with out := mx, last := now, due := false }, s.pkts 0 on, 0) by rw [ETT.out, if_pos hne])
    clear hq0 hne ETT
    cases hd : s.due
    all_goals
      rw [hd] at c7
      go_wp2_with fail
      refine ⟨by simp, .inl ⟨_, _, rfl, run_takeDeferred FIN.out.1, ?_⟩⟩
      refine ⟨_, results_tmp2 rfl _ _ _, ?_⟩
      rw [E2.out]
      have hqq := HQ.out
      subst hqq
      exact ⟨_, _, rfl, FIN.out.2.1, FIN.out.2.2.1, FIN.out.2.2.2⟩
  subst hq0
  have hnil : s.pkts 0 on = [] := List.eq_nil_of_length_eq_zero HQ.out
  have hnol : s.outs bs 0 on = [] := List.eq_nil_of_length_eq_zero (by rw [outs_len, ← Stm.pkts_len, hnil]; rfl)
  cases hd : s.due
  · rw [hd] at c7
    have E2 := Lib.hid (show s.tick now = (s, [], 0) by rw [ETT.out, if_neg (by rw [hnil]; simp), if_neg (by rw [hd]; simp)])
    have T2 := TT.out
    rw [hnil, hnol] at T2
    have FIN := Lib.hid (Told.fin (s' := s) H.out T2 ((Step.refl (fun k => k = g) W5).setCell (p := ⟨g, 7, none⟩) (fun _ => rfl) (.bool false)) ((blk_set T2.sm.st 7 _).trans (by simp [Stm.cells, hd])) rfl)
    clear hnil hnol ETT T2
    go_wp2_with fail
    refine ⟨by simp, .inl ⟨_, _, rfl, run_takeDeferred FIN.out.1, ?_⟩⟩
    refine ⟨_, results_tmp2 rfl _ _ _, ?_⟩
    rw [E2.out]
    exact ⟨_, _, rfl, FIN.out.2.1, FIN.out.2.2.1, FIN.out.2.2.2⟩
  · rw [hd] at c7
    have E2 := Lib.hid (show s.tick now = ({ s with due := false }, [⟨s.ep, 0, s.taken, bare⟩], 0) by rw [ETT.out, if_neg (by rw [hnil]; simp), if_pos hd])
    have T2 := TT.out
    rw [hnil, hnol] at T2
    have TB := Lib.hid T2
    clear hnil hnol ETT T2 f4 f5 f7 c4
    clear TT
    go_wp2_with fail
    have hTB := TB.out
    apply wp_cut2 (fun (uo1 : Option Addr) (uc1 : Nat) (w' : World) => Told w w.heap.size g D (.slice ao s.ws.length cap) (.slice uo1 1 uc1) s bs [⟨s.ep, 0, s.taken, bare⟩] [.slice none 0 0] w')
    · refine wp_region_plan (fun w' => w'.cell? ⟨w.heap.size, 0, none⟩ = some (.slice uo 0 uc) ∧ w'.cell? ⟨g, 0, none⟩ = some (.int .i64 s.ep) ∧ w'.cell? ⟨g, 6, none⟩ = some (.int .i64 s.taken)) (.take 0 (.take 1 (.take 2 (.take 3 (.take 4 (.take 5 (.take 6 (.take 7 (.take 8 (.take 9 (.alt 10 (.alt 11 (.last 12) .none) .none))))))))))) _
        (by simp only [Plan.map, opOf, List.getElem?_toArray, List.getElem?_cons_zero, List.getElem?_cons_succ, Option.getD_some]; rfl) (by kernel_rfl) (by kernel_rfl) (by kernel_rfl) (by decide) (by intro c a d v w h; exact absurd h.1 (by simp)) ⟨tb, c0, c6⟩ ?_
      repeat (first | (refine wpPlan.taken (by rfl) (by intro w' hS'; (try dsimp only at hS'); go_split_ands; go_simp; try with_reducible rfl) ?_; simp only [Act.put, List.setIfInBounds_toArray, List.set_cons_zero, List.set_cons_succ]) | (refine wpPlan.passed (by rfl) ?_; simp only [Act.put, List.setIfInBounds_toArray, List.set_cons_zero, List.set_cons_succ]))
      refine wpPlan.runs fun K' hK => ?_
      go_simp
      have sa := ((Step.refl None W5).drew).alloc (.cells (bare.packet s.ep 0 s.taken (.slice none 0 0)) 38)
      have ba := heap_alloc_new W5.drew (.cells (bare.packet s.ep 0 s.taken (.slice none 0 0)) 38)
      have T6 := Lib.hid (hTB.still sa)
      have k6 := CE.out _ T6.out.sm
      have b6 := blk_cell T6.out.box 0
      simp only [List.getElem?_toArray, List.getElem?_cons_zero] at b6
      refine hK.out _ _ ⟨b6, k6.1, k6.2.2.2.2.2.1⟩ ?_
      clear hK K' k6 b6 sa
      refine wpPlan.runs fun K' hK => ?_
      refine step_append_row (m := 1) T49 (by rfl) (.tmp 77) (.tmp 87) (by rfl) (by rfl) T6.out.pk.row (by rfl) (Src.ofBlock T49 (m := 1) (c := 1) ba (by rfl) (packet_one _ _ _ _ _ rfl)) (by simp [maxLen]) (by simp) ?_
      intro v7 w7 r7 s7 l7
      have r8 : Row w7 38 14 v7 1 (bare.packet s.ep 0 s.taken (.slice none 0 0)).toList := by simpa [flatP] using r7
      obtain ⟨vo, vc, rfl, -, -⟩ := r8.form
      have T7 := Lib.hid (Told.more (p := ⟨s.ep, 0, s.taken, bare⟩) H.out rfl T6.out r8 s7 l7)
      have hne : ¬ Leads (.slice uo ([] : List Pkt).length uc) w.heap.size := T6.out.pk.row.ne T6.out.box (by decide)
      have b7 := blk_cell (s7.blk T6.out.box hne) 0
      have fb7 := blk_frozen (s7.blk T6.out.box hne) 0
      have g7 : w7.heap[g]? = _ := s7.blk T6.out.sm.st (fun hk => by have := T6.out.pk.base _ hk; have := blk_lt H.out.st; omega)
      have k0 := blk_cell g7 0
      have k6 := blk_cell g7 6
      simp only [List.getElem?_toArray, List.getElem?_cons_zero] at b7
      simp only [Stm.cells, List.getElem?_toArray, List.getElem?_cons_zero, List.getElem?_cons_succ] at k0 k6
      refine hK.out _ _ ⟨b7, k0, k6⟩ ?_
      clear hK K' r7 s7 l7 hne g7 r8 T6 ba k0 k6
      refine wpPlan.ends fun K' hK => ?_
      go_simp
      refine hK.out _ _ ?_
      exact ⟨rfl, vo, vc, rfl, T7.out⟩
    rintro uo1 uc1 W6 told6
    have FIN := Lib.hid (Told.fin (s' := { s with due := false }) H.out told6 ((Step.refl (fun k => k = g) W6).setCell (p := ⟨g, 7, none⟩) (fun _ => rfl) (.bool false)) (blk_set told6.sm.st 7 _) rfl)
    have tb := blk_cell told6.box 0
    have c7 : W6.cell? ⟨g, 7, none⟩ = some (.bool true) := by rw [blk_cell told6.sm.st 7, ← hd]; rfl
    have f7 := blk_frozen told6.sm.st 7
    simp only [List.getElem?_toArray, List.getElem?_cons_zero] at tb
    clear told6
    go_wp2_with fail
    refine ⟨by simp, .inl ⟨_, _, rfl, run_takeDeferred FIN.out.1, ?_⟩⟩
    refine ⟨_, results_tmp2 rfl _ _ _, ?_⟩
    rw [E2.out]
    exact ⟨_, _, rfl, FIN.out.2.1, FIN.out.2.2.1, FIN.out.2.2.2⟩

set_option maxRecDepth 100000 in
set_option maxHeartbeats 8000000 in
theorem tick_more (g : Nat) (v : Value) (s : Stm) (bs : List Value) (now : Int) (w : World) (h : Sm 66 w g v s bs) (ok : s.Ok) (hn0 : 0 ≤ now) (hn1 : now ≤ 1099511627776) (hr1 : ¬ min (s.ws.length : Int) s.win ≤ s.out) :
    Calls Tryd.prog 16 #[.pointer (some ⟨g, 0, none⟩), .int .i64 now] w fun e w' => ∃ u bvs, e = .returned (.tuple #[u, .int .i64 (s.tick now).2.2]) ∧ Pks w' w.heap.size u (s.tick now).2.1 bvs ∧ Sm 66 w' g v (s.tick now).1 bs ∧ Step (fun k => k = g) w w' := by
  have h' := h
  obtain ⟨ao, cap, rfl, hcap, -⟩ := h'.row.form
  obtain ⟨mn, hmn⟩ : ∃ m : Nat, min (s.ws.length : Int) s.win = (m : Int) := ⟨(min (s.ws.length : Int) s.win).toNat, by have := ok.win; omega⟩
  obtain ⟨on, hon⟩ : ∃ m : Nat, s.out = (m : Int) := ⟨s.out.toNat, by have := ok.out; omega⟩
  have HL : Hid (mn ≤ s.ws.length ∧ on ≤ s.ws.length) := Lib.hid (by have := ok.out; omega)
  have hla := ok.last
  have hsz : s.span now = (((on : Nat) : Int), ((mn : Nat) : Int)) := by unfold Stm.span; rw [hmn, hon]; exact (if_neg (by rw [← hmn, ← hon]; exact fun h => hr1 h.1))
  have d1 : decide (now < 0) = false := decide_eq_false (by omega)
  have d2 : decide (1099511627776 < now) = false := decide_eq_false (by omega)
  have wn := (IntWalk.i64_in (now - s.last) (by omega) : IntKind.i64.wrap (now - s.last) = now - s.last)
  have wn2 : wrap64 (now - s.last) = now - s.last := IntWalk.wrap64_in _ ⟨by omega, by omega⟩
  have hmin : ∀ w ts t, (Builtin.min_ ts t #[.int .i64 (s.ws.length : Int), .int .i64 s.win]).run Tryd.prog w = .ok (.int .i64 (mn : Int)) w := fun w ts t => by rw [run_min_int, hmn]
  obtain ⟨mx, hmx⟩ : ∃ mx : Int, max (on : Int) ((mn : Nat) : Int) = mx := ⟨_, rfl⟩
  have hmax : ∀ w ts t, (Builtin.max_ ts t #[.int .i64 (on : Int), .int .i64 ((mn : Nat) : Int)]).run Tryd.prog w = .ok (.int .i64 mx) w := fun w ts t => by rw [run_max_int, hmx]
  have e1 : decide ((mn : Int) ≤ (on : Int)) = false := decide_eq_false (by omega)
  have e2 : decide (mn ≤ on) = false := decide_eq_false (by omega)
  have ET : s.tick now = if s.pkts on mn ≠ [] then ({ s with out := mx, last := now, due := false }, s.pkts on mn, 0) else if s.due then ({ s with due := false }, [⟨s.ep, 0, s.taken, bare⟩], 0) else (s, [], 0) := by
    unfold Stm.tick
    rw [if_neg (by omega), hsz]
    simp only [Int.toNat_natCast, hon, hmx]
  have H := Lib.hid h
  have OK := Lib.hid ok
  have cells : ∀ W', Sm 66 W' g (.slice ao s.ws.length cap) s bs → W'.cell? ⟨g, 0, none⟩ = some (.int .i64 s.ep) ∧ W'.cell? ⟨g, 1, none⟩ = some (.int .i64 s.win) ∧ W'.cell? ⟨g, 2, none⟩ = some (.slice ao s.ws.length cap) ∧ W'.cell? ⟨g, 4, none⟩ = some (.int .i64 (on : Int)) ∧ W'.cell? ⟨g, 5, none⟩ = some (.int .i64 s.last) ∧ W'.cell? ⟨g, 6, none⟩ = some (.int .i64 s.taken) ∧ W'.cell? ⟨g, 7, none⟩ = some (.bool s.due) := fun W' h' => by
    refine ⟨blk_cell h'.st 0, blk_cell h'.st 1, blk_cell h'.st 2, ?_, blk_cell h'.st 5, blk_cell h'.st 6, blk_cell h'.st 7⟩
    rw [blk_cell h'.st 4, ← hon]; rfl
  have CE := Lib.hid cells
  have HON := Lib.hid hon
  obtain ⟨c0, c1, c2, c4, c5, c6, c7⟩ := cells w h
  have ETT := Lib.hid ET
  clear h h' ok cells hmx hmn hsz hla hn0 hn1 hon ET c0 c6 c7 hr1
  refine callsIn_wide.1 (callsIn_of_wp_marks (n := 8) Tryd.func16 rfl trivial (wpIn_wide.2 ?_) rfl)
  simp only [Tryd.ntmps16, List.size_toArray, List.length_cons, List.length_nil, Nat.reduceAdd, Nat.reduceSub, Array.replicate_succ, Array.replicate_zero, List.push_toArray, List.append_toArray, List.nil_append, List.cons_append]
  go_wp2_with fail
  apply wp_cut0 (fun w' => w' = w.drew)
  · refine wp_region_plan (fun w' => w'.cell? ⟨g, 1, none⟩ = some (.int .i64 s.win) ∧ w'.cell? ⟨g, 2, none⟩ = some (.slice ao s.ws.length cap) ∧ w'.cell? ⟨g, 4, none⟩ = some (.int .i64 (on : Int))) (.take 0 (.take 1 (.take 2 (.take 3 (.take 4 (.take 5 (.take 6 (.take 7 (.take 8 (.take 9 (.take 10 (.take 11 (.take 12 (.take 13 (.take 14 (.take 15 .done)))))))))))))))) _
      (by simp only [Plan.map, opOf, List.getElem?_toArray, List.getElem?_cons_zero, List.getElem?_cons_succ, Option.getD_some]; rfl) (by kernel_rfl) (by kernel_rfl) (by kernel_rfl) (by decide) (by intro c a d v w h; exact absurd h.1 (by simp)) ⟨c1, c2, c4⟩ ?_
    repeat (first | (refine wpPlan.taken (by rfl) (by intro w' hS'; (try dsimp only at hS'); go_split_ands; go_simp; try with_reducible rfl) ?_; simp only [Act.put, List.setIfInBounds_toArray, List.set_cons_zero, List.set_cons_succ]) | (refine wpPlan.passed (by rfl) ?_; simp only [Act.put, List.setIfInBounds_toArray, List.set_cons_zero, List.set_cons_succ]))
    refine wpPlan.done ?_
    exact ⟨rfl, rfl, rfl⟩
  rintro _ rfl
  have c1 : w.drew.cell? ⟨g, 1, none⟩ = some (.int .i64 s.win) := c1
  have c4 : w.drew.cell? ⟨g, 4, none⟩ = some (.int .i64 (on : Int)) := c4
  have c5 : w.drew.cell? ⟨g, 5, none⟩ = some (.int .i64 s.last) := c5
  go_wp2_with fail
  have sa : Step None w ((w.alloc (.cells #[.slice none 0 0] 49)).drew) := ((Step.refl None w).alloc _).drew
  obtain ⟨W, hW⟩ : ∃ W, (w.alloc (.cells #[.slice none 0 0] 49)).drew = W := ⟨_, rfl⟩
  have hb : W.heap[w.heap.size]? = some (.cells #[.slice none 0 0] 49 (0, 0)) := by rw [← hW]; exact heap_alloc_new w _
  rw [hW] at sa
  have SZ : Hid (W.heap.size = w.heap.size + 1) := Lib.hid (by rw [← hW]; simp)
  have HE := Lib.hid hW
  have SA := Lib.hid sa
  have HB := Lib.hid hb
  clear hW sa hb c1 c4 c5 c2
  go_wp2_with (first | rw [HE.out])
  refine (packets_any g on mn W).mono ?_
  rintro e w4 ⟨rfl, rfl⟩
  have s4 := (((Step.refl None W).alloc (.cells #[.pointer (some ⟨g, 0, none⟩)] 25)).alloc (.cells #[.int .i64 (on : Nat)] 3)).alloc (.cells #[.int .i64 (mn : Nat)] 3)
  have q1 : (((W.alloc (.cells #[.pointer (some ⟨g, 0, none⟩)] 25)).alloc (.cells #[.int .i64 (on : Nat)] 3)).alloc (.cells #[.int .i64 (mn : Nat)] 3)).heap[W.heap.size]? = some (.cells #[.pointer (some ⟨g, 0, none⟩)] 25 (0, 0)) := (Below.heap_alloc _ _ _ (by simp; omega)).trans ((Below.heap_alloc _ _ _ (by simp)).trans (heap_alloc_new _ _))
  have q2 : (((W.alloc (.cells #[.pointer (some ⟨g, 0, none⟩)] 25)).alloc (.cells #[.int .i64 (on : Nat)] 3)).alloc (.cells #[.int .i64 (mn : Nat)] 3)).heap[W.heap.size + 1]? = some (.cells #[.int .i64 (on : Nat)] 3 (0, 0)) := by
    have := heap_alloc_new (W.alloc (.cells #[.pointer (some ⟨g, 0, none⟩)] 25)) (.cells #[.int .i64 (on : Nat)] 3)
    rw [World.size_alloc] at this
    exact (Below.heap_alloc _ _ _ (by simp)).trans this
  have q3 : (((W.alloc (.cells #[.pointer (some ⟨g, 0, none⟩)] 25)).alloc (.cells #[.int .i64 (on : Nat)] 3)).alloc (.cells #[.int .i64 (mn : Nat)] 3)).heap[W.heap.size + 1 + 1]? = some (.cells #[.int .i64 (mn : Nat)] 3 (0, 0)) := by
    have := heap_alloc_new ((W.alloc (.cells #[.pointer (some ⟨g, 0, none⟩)] 25)).alloc (.cells #[.int .i64 (on : Nat)] 3)) (.cells #[.int .i64 (mn : Nat)] 3)
    rwa [World.size_alloc, World.size_alloc] at this
  obtain ⟨W4, hW4⟩ : ∃ W4, ((W.alloc (.cells #[.pointer (some ⟨g, 0, none⟩)] 25)).alloc (.cells #[.int .i64 (on : Nat)] 3)).alloc (.cells #[.int .i64 (mn : Nat)] 3) = W4 := ⟨_, rfl⟩
  have z4 : W4.heap.size = W.heap.size + 3 := by rw [← hW4]; simp
  rw [hW4] at s4 q1 q2 q3 ⊢
  clear hW4
  have S4 := Lib.hid (SA.out.then_ s4)
  have hS : Stands (W.heap.size + 1) (W.heap.size + 1 + 1) W.heap.size g (.slice ao s.ws.length cap) s bs on mn W4 := ⟨H.out.still S4.out, q2, q3, q1⟩
  have hLQ : LiesQ W4.heap.size w.heap.size (W.heap.size + 1) (W.heap.size + 1 + 1) W.heap.size g (.slice ao s.ws.length cap) := by
    have g1 := blk_lt H.out.st
    have z := SZ.out
    refine ⟨⟨by omega, by omega⟩, fun k hk => ?_, ⟨by omega, by omega⟩, ⟨by omega, by omega⟩, ⟨by omega, by omega⟩⟩
    have := H.out.row.lt hk
    exact ⟨by omega, by omega⟩
  have HS := Lib.hid hS
  have HLQ := Lib.hid hLQ
  have HB4 := Lib.hid (s4.blk HB.out (fun s => s.elim))
  clear hS hLQ q1 q2 q3 s4 z4 HB SZ SA
  go_wp2_with fail
  refine range_law w.heap.size (W.heap.size + 1) (W.heap.size + 1 + 1) W.heap.size g (.slice ao s.ws.length cap) s bs on mn OK.out HL.out.1 HLQ.out HS.out HB4.out rfl rfl rfl ?_
  intro D W5 hD hgot hK
  obtain ⟨uo, uc, told⟩ := hgot.told H.out S4.out (Nat.le_refl _) hD HL.out.1 hK
  have TT := Lib.hid told
  clear hgot hK hD told HS HLQ HB4 S4
  obtain ⟨q, hq⟩ : ∃ q, (s.pkts on mn).length = q := ⟨_, rfl⟩
  have HQ := Lib.hid hq
  have tb := blk_cell TT.out.box 0
  have tf := blk_frozen TT.out.box 0
  simp only [List.getElem?_toArray, List.getElem?_cons_zero] at tb
  rw [hq] at tb
  obtain ⟨c0, c1, c2, c4, c5, c6, c7⟩ := CE.out _ TT.out.sm
  have f4 := blk_frozen TT.out.sm.st 4
  have f5 := blk_frozen TT.out.sm.st 5
  have f7 := blk_frozen TT.out.sm.st 7
  clear hq c1 c2
  by_cases hq0 : q = 0
  rotate_left
  · have dq : decide (0 < q) = true := decide_eq_true (by omega)
    have dq2 : decide (0 < (q : Int)) = true := decide_eq_true (by omega)
    have dq3 : ((q : Int) == 0) = false := by simp; omega
    have dq4 : (q == 0) = false := by simp; omega
    have hne : s.pkts on mn ≠ [] := fun e => by have := HQ.out; rw [e] at this; simp at this; omega
    have FIN := Lib.hid (Told.fin (s' := { s with out := mx, last := now, due := false }) H.out TT.out ((((Step.refl (fun k => k = g) W5).setCell (p := ⟨g, 4, none⟩) (fun _ => rfl) (.int .i64 (mx))).setCell (p := ⟨g, 5, none⟩) (fun _ => rfl) (.int .i64 now)).setCell (p := ⟨g, 7, none⟩) (fun _ => rfl) (.bool false)) (blk_set (blk_set (blk_set TT.out.sm.st 4 _) 5 _) 7 _) rfl)
    have E2 := Lib.hid (show s.tick now = ({ s with out := mx, last := now, due := false }, s.pkts on mn, 0) by rw [ETT.out, if_pos hne])
    clear hq0 hne ETT
    cases hd : s.due
    all_goals
      rw [hd] at c7
      go_wp2_with fail
      refine ⟨by simp, .inl ⟨_, _, rfl, run_takeDeferred FIN.out.1, ?_⟩⟩
      refine ⟨_, results_tmp2 rfl _ _ _, ?_⟩
      rw [E2.out]
      have hqq := HQ.out
      subst hqq
      exact ⟨_, _, rfl, FIN.out.2.1, FIN.out.2.2.1, FIN.out.2.2.2⟩
  subst hq0
  have hnil : s.pkts on mn = [] := List.eq_nil_of_length_eq_zero HQ.out
  have hnol : s.outs bs on mn = [] := List.eq_nil_of_length_eq_zero (by rw [outs_len, ← Stm.pkts_len, hnil]; rfl)
  cases hd : s.due
  · rw [hd] at c7
    have E2 := Lib.hid (show s.tick now = (s, [], 0) by rw [ETT.out, if_neg (by rw [hnil]; simp), if_neg (by rw [hd]; simp)])
    have T2 := TT.out
    rw [hnil, hnol] at T2
    have FIN := Lib.hid (Told.fin (s' := s) H.out T2 ((Step.refl (fun k => k = g) W5).setCell (p := ⟨g, 7, none⟩) (fun _ => rfl) (.bool false)) ((blk_set T2.sm.st 7 _).trans (by simp [Stm.cells, hd])) rfl)
    clear hnil hnol ETT T2
    go_wp2_with fail
    refine ⟨by simp, .inl ⟨_, _, rfl, run_takeDeferred FIN.out.1, ?_⟩⟩
    refine ⟨_, results_tmp2 rfl _ _ _, ?_⟩
    rw [E2.out]
    exact ⟨_, _, rfl, FIN.out.2.1, FIN.out.2.2.1, FIN.out.2.2.2⟩
  · rw [hd] at c7
    have E2 := Lib.hid (show s.tick now = ({ s with due := false }, [⟨s.ep, 0, s.taken, bare⟩], 0) by rw [ETT.out, if_neg (by rw [hnil]; simp), if_pos hd])
    have T2 := TT.out
    rw [hnil, hnol] at T2
    have TB := Lib.hid T2
    clear hnil hnol ETT T2 f4 f5 f7 c4
    clear TT
    go_wp2_with fail
    have hTB := TB.out
    apply wp_cut2 (fun (uo1 : Option Addr) (uc1 : Nat) (w' : World) => Told w w.heap.size g D (.slice ao s.ws.length cap) (.slice uo1 1 uc1) s bs [⟨s.ep, 0, s.taken, bare⟩] [.slice none 0 0] w')
    · refine wp_region_plan (fun w' => w'.cell? ⟨w.heap.size, 0, none⟩ = some (.slice uo 0 uc) ∧ w'.cell? ⟨g, 0, none⟩ = some (.int .i64 s.ep) ∧ w'.cell? ⟨g, 6, none⟩ = some (.int .i64 s.taken)) (.take 0 (.take 1 (.take 2 (.take 3 (.take 4 (.take 5 (.take 6 (.take 7 (.take 8 (.take 9 (.alt 10 (.alt 11 (.last 12) .none) .none))))))))))) _
        (by simp only [Plan.map, opOf, List.getElem?_toArray, List.getElem?_cons_zero, List.getElem?_cons_succ, Option.getD_some]; rfl) (by kernel_rfl) (by kernel_rfl) (by kernel_rfl) (by decide) (by intro c a d v w h; exact absurd h.1 (by simp)) ⟨tb, c0, c6⟩ ?_
      repeat (first | (refine wpPlan.taken (by rfl) (by intro w' hS'; (try dsimp only at hS'); go_split_ands; go_simp; try with_reducible rfl) ?_; simp only [Act.put, List.setIfInBounds_toArray, List.set_cons_zero, List.set_cons_succ]) | (refine wpPlan.passed (by rfl) ?_; simp only [Act.put, List.setIfInBounds_toArray, List.set_cons_zero, List.set_cons_succ]))
      refine wpPlan.runs fun K' hK => ?_
      go_simp
      have sa := ((Step.refl None W5).drew).alloc (.cells (bare.packet s.ep 0 s.taken (.slice none 0 0)) 38)
      have ba := heap_alloc_new W5.drew (.cells (bare.packet s.ep 0 s.taken (.slice none 0 0)) 38)
      have T6 := Lib.hid (hTB.still sa)
      have k6 := CE.out _ T6.out.sm
      have b6 := blk_cell T6.out.box 0
      simp only [List.getElem?_toArray, List.getElem?_cons_zero] at b6
      refine hK.out _ _ ⟨b6, k6.1, k6.2.2.2.2.2.1⟩ ?_
      clear hK K' k6 b6 sa
      refine wpPlan.runs fun K' hK => ?_
      refine step_append_row (m := 1) T49 (by rfl) (.tmp 77) (.tmp 87) (by rfl) (by rfl) T6.out.pk.row (by rfl) (Src.ofBlock T49 (m := 1) (c := 1) ba (by rfl) (packet_one _ _ _ _ _ rfl)) (by simp [maxLen]) (by simp) ?_
      intro v7 w7 r7 s7 l7
      have r8 : Row w7 38 14 v7 1 (bare.packet s.ep 0 s.taken (.slice none 0 0)).toList := by simpa [flatP] using r7
      obtain ⟨vo, vc, rfl, -, -⟩ := r8.form
      have T7 := Lib.hid (Told.more (p := ⟨s.ep, 0, s.taken, bare⟩) H.out rfl T6.out r8 s7 l7)
      have hne : ¬ Leads (.slice uo ([] : List Pkt).length uc) w.heap.size := T6.out.pk.row.ne T6.out.box (by decide)
      have b7 := blk_cell (s7.blk T6.out.box hne) 0
      have fb7 := blk_frozen (s7.blk T6.out.box hne) 0
      have g7 : w7.heap[g]? = _ := s7.blk T6.out.sm.st (fun hk => by have := T6.out.pk.base _ hk; have := blk_lt H.out.st; omega)
      have k0 := blk_cell g7 0
      have k6 := blk_cell g7 6
      simp only [List.getElem?_toArray, List.getElem?_cons_zero] at b7
      simp only [Stm.cells, List.getElem?_toArray, List.getElem?_cons_zero, List.getElem?_cons_succ] at k0 k6
      refine hK.out _ _ ⟨b7, k0, k6⟩ ?_
      clear hK K' r7 s7 l7 hne g7 r8 T6 ba k0 k6
      refine wpPlan.ends fun K' hK => ?_
      go_simp
      refine hK.out _ _ ?_
      exact ⟨rfl, vo, vc, rfl, T7.out⟩
    rintro uo1 uc1 W6 told6
    have FIN := Lib.hid (Told.fin (s' := { s with due := false }) H.out told6 ((Step.refl (fun k => k = g) W6).setCell (p := ⟨g, 7, none⟩) (fun _ => rfl) (.bool false)) (blk_set told6.sm.st 7 _) rfl)
    have tb := blk_cell told6.box 0
    have c7 : W6.cell? ⟨g, 7, none⟩ = some (.bool true) := by rw [blk_cell told6.sm.st 7, ← hd]; rfl
    have f7 := blk_frozen told6.sm.st 7
    simp only [List.getElem?_toArray, List.getElem?_cons_zero] at tb
    clear told6
    go_wp2_with fail
    refine ⟨by simp, .inl ⟨_, _, rfl, run_takeDeferred FIN.out.1, ?_⟩⟩
    refine ⟨_, results_tmp2 rfl _ _ _, ?_⟩
    rw [E2.out]
    exact ⟨_, _, rfl, FIN.out.2.1, FIN.out.2.2.1, FIN.out.2.2.2⟩

set_option maxRecDepth 100000 in
set_option maxHeartbeats 8000000 in
theorem tick_quiet (g : Nat) (v : Value) (s : Stm) (bs : List Value) (now : Int) (w : World) (h : Sm 66 w g v s bs) (ok : s.Ok) (hn0 : 0 ≤ now) (hn1 : now ≤ 1099511627776) (hr1 : min (s.ws.length : Int) s.win ≤ s.out) (hr2 : ¬ 3 ≤ now - s.last) :
    Calls Tryd.prog 16 #[.pointer (some ⟨g, 0, none⟩), .int .i64 now] w fun e w' => ∃ u bvs, e = .returned (.tuple #[u, .int .i64 (s.tick now).2.2]) ∧ Pks w' w.heap.size u (s.tick now).2.1 bvs ∧ Sm 66 w' g v (s.tick now).1 bs ∧ Step (fun k => k = g) w w' := by
  have h' := h
  obtain ⟨ao, cap, rfl, hcap, -⟩ := h'.row.form
  obtain ⟨mn, hmn⟩ : ∃ m : Nat, min (s.ws.length : Int) s.win = (m : Int) := ⟨(min (s.ws.length : Int) s.win).toNat, by have := ok.win; omega⟩
  obtain ⟨on, hon⟩ : ∃ m : Nat, s.out = (m : Int) := ⟨s.out.toNat, by have := ok.out; omega⟩
  have HL : Hid (mn ≤ s.ws.length ∧ on ≤ s.ws.length) := Lib.hid (by have := ok.out; omega)
  have hla := ok.last
  have hsz : s.span now = (((on : Nat) : Int), ((mn : Nat) : Int)) := by unfold Stm.span; rw [hmn, hon]; exact (if_neg (by rw [← hmn, ← hon]; exact fun h => hr2 h.2))
  have d1 : decide (now < 0) = false := decide_eq_false (by omega)
  have d2 : decide (1099511627776 < now) = false := decide_eq_false (by omega)
  have wn := (IntWalk.i64_in (now - s.last) (by omega) : IntKind.i64.wrap (now - s.last) = now - s.last)
  have wn2 : wrap64 (now - s.last) = now - s.last := IntWalk.wrap64_in _ ⟨by omega, by omega⟩
  have hmin : ∀ w ts t, (Builtin.min_ ts t #[.int .i64 (s.ws.length : Int), .int .i64 s.win]).run Tryd.prog w = .ok (.int .i64 (mn : Int)) w := fun w ts t => by rw [run_min_int, hmn]
  obtain ⟨mx, hmx⟩ : ∃ mx : Int, max (on : Int) ((mn : Nat) : Int) = mx := ⟨_, rfl⟩
  have hmax : ∀ w ts t, (Builtin.max_ ts t #[.int .i64 (on : Int), .int .i64 ((mn : Nat) : Int)]).run Tryd.prog w = .ok (.int .i64 mx) w := fun w ts t => by rw [run_max_int, hmx]
  have e1 : decide ((mn : Int) ≤ (on : Int)) = true := decide_eq_true (by omega)
  have e2 : decide (mn ≤ on) = true := decide_eq_true (by omega)
  have e3 : decide (3 ≤ now - s.last) = false := decide_eq_false hr2
  have ET : s.tick now = if s.pkts on mn ≠ [] then ({ s with out := mx, last := now, due := false }, s.pkts on mn, 0) else if s.due then ({ s with due := false }, [⟨s.ep, 0, s.taken, bare⟩], 0) else (s, [], 0) := by
    unfold Stm.tick
    rw [if_neg (by omega), hsz]
    simp only [Int.toNat_natCast, hon, hmx]
  have H := Lib.hid h
  have OK := Lib.hid ok
  have cells : ∀ W', Sm 66 W' g (.slice ao s.ws.length cap) s bs → W'.cell? ⟨g, 0, none⟩ = some (.int .i64 s.ep) ∧ W'.cell? ⟨g, 1, none⟩ = some (.int .i64 s.win) ∧ W'.cell? ⟨g, 2, none⟩ = some (.slice ao s.ws.length cap) ∧ W'.cell? ⟨g, 4, none⟩ = some (.int .i64 (on : Int)) ∧ W'.cell? ⟨g, 5, none⟩ = some (.int .i64 s.last) ∧ W'.cell? ⟨g, 6, none⟩ = some (.int .i64 s.taken) ∧ W'.cell? ⟨g, 7, none⟩ = some (.bool s.due) := fun W' h' => by
    refine ⟨blk_cell h'.st 0, blk_cell h'.st 1, blk_cell h'.st 2, ?_, blk_cell h'.st 5, blk_cell h'.st 6, blk_cell h'.st 7⟩
    rw [blk_cell h'.st 4, ← hon]; rfl
  have CE := Lib.hid cells
  have HON := Lib.hid hon
  obtain ⟨c0, c1, c2, c4, c5, c6, c7⟩ := cells w h
  have ETT := Lib.hid ET
  clear h h' ok cells hmx hmn hsz hla hn0 hn1 hon ET c0 c6 c7 hr1 hr2
  refine callsIn_wide.1 (callsIn_of_wp_marks (n := 8) Tryd.func16 rfl trivial (wpIn_wide.2 ?_) rfl)
  simp only [Tryd.ntmps16, List.size_toArray, List.length_cons, List.length_nil, Nat.reduceAdd, Nat.reduceSub, Array.replicate_succ, Array.replicate_zero, List.push_toArray, List.append_toArray, List.nil_append, List.cons_append]
  go_wp2_with fail
  apply wp_cut0 (fun w' => w' = w.drew)
  · refine wp_region_plan (fun w' => w'.cell? ⟨g, 1, none⟩ = some (.int .i64 s.win) ∧ w'.cell? ⟨g, 2, none⟩ = some (.slice ao s.ws.length cap) ∧ w'.cell? ⟨g, 4, none⟩ = some (.int .i64 (on : Int))) (.take 0 (.take 1 (.take 2 (.take 3 (.take 4 (.take 5 (.take 6 (.take 7 (.take 8 (.take 9 (.take 10 (.take 11 (.take 12 (.take 13 (.take 14 (.take 15 .done)))))))))))))))) _
      (by simp only [Plan.map, opOf, List.getElem?_toArray, List.getElem?_cons_zero, List.getElem?_cons_succ, Option.getD_some]; rfl) (by kernel_rfl) (by kernel_rfl) (by kernel_rfl) (by decide) (by intro c a d v w h; exact absurd h.1 (by simp)) ⟨c1, c2, c4⟩ ?_
    repeat (first | (refine wpPlan.taken (by rfl) (by intro w' hS'; (try dsimp only at hS'); go_split_ands; go_simp; try with_reducible rfl) ?_; simp only [Act.put, List.setIfInBounds_toArray, List.set_cons_zero, List.set_cons_succ]) | (refine wpPlan.passed (by rfl) ?_; simp only [Act.put, List.setIfInBounds_toArray, List.set_cons_zero, List.set_cons_succ]))
    refine wpPlan.done ?_
    exact ⟨rfl, rfl, rfl⟩
  rintro _ rfl
  have c1 : w.drew.cell? ⟨g, 1, none⟩ = some (.int .i64 s.win) := c1
  have c4 : w.drew.cell? ⟨g, 4, none⟩ = some (.int .i64 (on : Int)) := c4
  have c5 : w.drew.cell? ⟨g, 5, none⟩ = some (.int .i64 s.last) := c5
  go_wp2_with fail
  have sa : Step None w ((w.alloc (.cells #[.slice none 0 0] 49)).drew) := ((Step.refl None w).alloc _).drew
  obtain ⟨W, hW⟩ : ∃ W, (w.alloc (.cells #[.slice none 0 0] 49)).drew = W := ⟨_, rfl⟩
  have hb : W.heap[w.heap.size]? = some (.cells #[.slice none 0 0] 49 (0, 0)) := by rw [← hW]; exact heap_alloc_new w _
  rw [hW] at sa
  have SZ : Hid (W.heap.size = w.heap.size + 1) := Lib.hid (by rw [← hW]; simp)
  have HE := Lib.hid hW
  have SA := Lib.hid sa
  have HB := Lib.hid hb
  clear hW sa hb c1 c4 c5 c2
  go_wp2_with (first | rw [HE.out])
  refine (packets_any g on mn W).mono ?_
  rintro e w4 ⟨rfl, rfl⟩
  have s4 := (((Step.refl None W).alloc (.cells #[.pointer (some ⟨g, 0, none⟩)] 25)).alloc (.cells #[.int .i64 (on : Nat)] 3)).alloc (.cells #[.int .i64 (mn : Nat)] 3)
  have q1 : (((W.alloc (.cells #[.pointer (some ⟨g, 0, none⟩)] 25)).alloc (.cells #[.int .i64 (on : Nat)] 3)).alloc (.cells #[.int .i64 (mn : Nat)] 3)).heap[W.heap.size]? = some (.cells #[.pointer (some ⟨g, 0, none⟩)] 25 (0, 0)) := (Below.heap_alloc _ _ _ (by simp; omega)).trans ((Below.heap_alloc _ _ _ (by simp)).trans (heap_alloc_new _ _))
  have q2 : (((W.alloc (.cells #[.pointer (some ⟨g, 0, none⟩)] 25)).alloc (.cells #[.int .i64 (on : Nat)] 3)).alloc (.cells #[.int .i64 (mn : Nat)] 3)).heap[W.heap.size + 1]? = some (.cells #[.int .i64 (on : Nat)] 3 (0, 0)) := by
    have := heap_alloc_new (W.alloc (.cells #[.pointer (some ⟨g, 0, none⟩)] 25)) (.cells #[.int .i64 (on : Nat)] 3)
    rw [World.size_alloc] at this
    exact (Below.heap_alloc _ _ _ (by simp)).trans this
  have q3 : (((W.alloc (.cells #[.pointer (some ⟨g, 0, none⟩)] 25)).alloc (.cells #[.int .i64 (on : Nat)] 3)).alloc (.cells #[.int .i64 (mn : Nat)] 3)).heap[W.heap.size + 1 + 1]? = some (.cells #[.int .i64 (mn : Nat)] 3 (0, 0)) := by
    have := heap_alloc_new ((W.alloc (.cells #[.pointer (some ⟨g, 0, none⟩)] 25)).alloc (.cells #[.int .i64 (on : Nat)] 3)) (.cells #[.int .i64 (mn : Nat)] 3)
    rwa [World.size_alloc, World.size_alloc] at this
  obtain ⟨W4, hW4⟩ : ∃ W4, ((W.alloc (.cells #[.pointer (some ⟨g, 0, none⟩)] 25)).alloc (.cells #[.int .i64 (on : Nat)] 3)).alloc (.cells #[.int .i64 (mn : Nat)] 3) = W4 := ⟨_, rfl⟩
  have z4 : W4.heap.size = W.heap.size + 3 := by rw [← hW4]; simp
  rw [hW4] at s4 q1 q2 q3 ⊢
  clear hW4
  have S4 := Lib.hid (SA.out.then_ s4)
  have hS : Stands (W.heap.size + 1) (W.heap.size + 1 + 1) W.heap.size g (.slice ao s.ws.length cap) s bs on mn W4 := ⟨H.out.still S4.out, q2, q3, q1⟩
  have hLQ : LiesQ W4.heap.size w.heap.size (W.heap.size + 1) (W.heap.size + 1 + 1) W.heap.size g (.slice ao s.ws.length cap) := by
    have g1 := blk_lt H.out.st
    have z := SZ.out
    refine ⟨⟨by omega, by omega⟩, fun k hk => ?_, ⟨by omega, by omega⟩, ⟨by omega, by omega⟩, ⟨by omega, by omega⟩⟩
    have := H.out.row.lt hk
    exact ⟨by omega, by omega⟩
  have HS := Lib.hid hS
  have HLQ := Lib.hid hLQ
  have HB4 := Lib.hid (s4.blk HB.out (fun s => s.elim))
  clear hS hLQ q1 q2 q3 s4 z4 HB SZ SA
  go_wp2_with fail
  refine range_law w.heap.size (W.heap.size + 1) (W.heap.size + 1 + 1) W.heap.size g (.slice ao s.ws.length cap) s bs on mn OK.out HL.out.1 HLQ.out HS.out HB4.out rfl rfl rfl ?_
  intro D W5 hD hgot hK
  obtain ⟨uo, uc, told⟩ := hgot.told H.out S4.out (Nat.le_refl _) hD HL.out.1 hK
  have TT := Lib.hid told
  clear hgot hK hD told HS HLQ HB4 S4
  obtain ⟨q, hq⟩ : ∃ q, (s.pkts on mn).length = q := ⟨_, rfl⟩
  have HQ := Lib.hid hq
  have tb := blk_cell TT.out.box 0
  have tf := blk_frozen TT.out.box 0
  simp only [List.getElem?_toArray, List.getElem?_cons_zero] at tb
  rw [hq] at tb
  obtain ⟨c0, c1, c2, c4, c5, c6, c7⟩ := CE.out _ TT.out.sm
  have f4 := blk_frozen TT.out.sm.st 4
  have f5 := blk_frozen TT.out.sm.st 5
  have f7 := blk_frozen TT.out.sm.st 7
  clear hq c1 c2
  by_cases hq0 : q = 0
  rotate_left
  · have dq : decide (0 < q) = true := decide_eq_true (by omega)
    have dq2 : decide (0 < (q : Int)) = true := decide_eq_true (by omega)
    have dq3 : ((q : Int) == 0) = false := by simp; omega
    have dq4 : (q == 0) = false := by simp; omega
    have hne : s.pkts on mn ≠ [] := fun e => by have := HQ.out; rw [e] at this; simp at this; omega
    have FIN := Lib.hid (Told.fin (s' := { s with out := mx, last := now, due := false }) H.out TT.out ((((Step.refl (fun k => k = g) W5).setCell (p := ⟨g, 4, none⟩) (fun _ => rfl) (.int .i64 (mx))).setCell (p := ⟨g, 5, none⟩) (fun _ => rfl) (.int .i64 now)).setCell (p := ⟨g, 7, none⟩) (fun _ => rfl) (.bool false)) (blk_set (blk_set (blk_set TT.out.sm.st 4 _) 5 _) 7 _) rfl)
    have E2 := Lib.hid (show s.tick now = ({ s with out := mx, last := now, due := false }, s.pkts on mn, 0) by rw [ETT.out, if_pos hne])
    clear hq0 hne ETT
    cases hd : s.due
    all_goals
      rw [hd] at c7
      go_wp2_with fail
      refine ⟨by simp, .inl ⟨_, _, rfl, run_takeDeferred FIN.out.1, ?_⟩⟩
      refine ⟨_, results_tmp2 rfl _ _ _, ?_⟩
      rw [E2.out]
      have hqq := HQ.out
      subst hqq
      exact ⟨_, _, rfl, FIN.out.2.1, FIN.out.2.2.1, FIN.out.2.2.2⟩
  subst hq0
  have hnil : s.pkts on mn = [] := List.eq_nil_of_length_eq_zero HQ.out
  have hnol : s.outs bs on mn = [] := List.eq_nil_of_length_eq_zero (by rw [outs_len, ← Stm.pkts_len, hnil]; rfl)
  cases hd : s.due
  · rw [hd] at c7
    have E2 := Lib.hid (show s.tick now = (s, [], 0) by rw [ETT.out, if_neg (by rw [hnil]; simp), if_neg (by rw [hd]; simp)])
    have T2 := TT.out
    rw [hnil, hnol] at T2
    have FIN := Lib.hid (Told.fin (s' := s) H.out T2 ((Step.refl (fun k => k = g) W5).setCell (p := ⟨g, 7, none⟩) (fun _ => rfl) (.bool false)) ((blk_set T2.sm.st 7 _).trans (by simp [Stm.cells, hd])) rfl)
    clear hnil hnol ETT T2
    go_wp2_with fail
    refine ⟨by simp, .inl ⟨_, _, rfl, run_takeDeferred FIN.out.1, ?_⟩⟩
    refine ⟨_, results_tmp2 rfl _ _ _, ?_⟩
    rw [E2.out]
    exact ⟨_, _, rfl, FIN.out.2.1, FIN.out.2.2.1, FIN.out.2.2.2⟩
  · rw [hd] at c7
    have E2 := Lib.hid (show s.tick now = ({ s with due := false }, [⟨s.ep, 0, s.taken, bare⟩], 0) by rw [ETT.out, if_neg (by rw [hnil]; simp), if_pos hd])
    have T2 := TT.out
    rw [hnil, hnol] at T2
    have TB := Lib.hid T2
    clear hnil hnol ETT T2 f4 f5 f7 c4
    clear TT
    go_wp2_with fail
    have hTB := TB.out
    apply wp_cut2 (fun (uo1 : Option Addr) (uc1 : Nat) (w' : World) => Told w w.heap.size g D (.slice ao s.ws.length cap) (.slice uo1 1 uc1) s bs [⟨s.ep, 0, s.taken, bare⟩] [.slice none 0 0] w')
    · refine wp_region_plan (fun w' => w'.cell? ⟨w.heap.size, 0, none⟩ = some (.slice uo 0 uc) ∧ w'.cell? ⟨g, 0, none⟩ = some (.int .i64 s.ep) ∧ w'.cell? ⟨g, 6, none⟩ = some (.int .i64 s.taken)) (.take 0 (.take 1 (.take 2 (.take 3 (.take 4 (.take 5 (.take 6 (.take 7 (.take 8 (.take 9 (.alt 10 (.alt 11 (.last 12) .none) .none))))))))))) _
        (by simp only [Plan.map, opOf, List.getElem?_toArray, List.getElem?_cons_zero, List.getElem?_cons_succ, Option.getD_some]; rfl) (by kernel_rfl) (by kernel_rfl) (by kernel_rfl) (by decide) (by intro c a d v w h; exact absurd h.1 (by simp)) ⟨tb, c0, c6⟩ ?_
      repeat (first | (refine wpPlan.taken (by rfl) (by intro w' hS'; (try dsimp only at hS'); go_split_ands; go_simp; try with_reducible rfl) ?_; simp only [Act.put, List.setIfInBounds_toArray, List.set_cons_zero, List.set_cons_succ]) | (refine wpPlan.passed (by rfl) ?_; simp only [Act.put, List.setIfInBounds_toArray, List.set_cons_zero, List.set_cons_succ]))
      refine wpPlan.runs fun K' hK => ?_
      go_simp
      have sa := ((Step.refl None W5).drew).alloc (.cells (bare.packet s.ep 0 s.taken (.slice none 0 0)) 38)
      have ba := heap_alloc_new W5.drew (.cells (bare.packet s.ep 0 s.taken (.slice none 0 0)) 38)
      have T6 := Lib.hid (hTB.still sa)
      have k6 := CE.out _ T6.out.sm
      have b6 := blk_cell T6.out.box 0
      simp only [List.getElem?_toArray, List.getElem?_cons_zero] at b6
      refine hK.out _ _ ⟨b6, k6.1, k6.2.2.2.2.2.1⟩ ?_
      clear hK K' k6 b6 sa
      refine wpPlan.runs fun K' hK => ?_
      refine step_append_row (m := 1) T49 (by rfl) (.tmp 77) (.tmp 87) (by rfl) (by rfl) T6.out.pk.row (by rfl) (Src.ofBlock T49 (m := 1) (c := 1) ba (by rfl) (packet_one _ _ _ _ _ rfl)) (by simp [maxLen]) (by simp) ?_
      intro v7 w7 r7 s7 l7
      have r8 : Row w7 38 14 v7 1 (bare.packet s.ep 0 s.taken (.slice none 0 0)).toList := by simpa [flatP] using r7
      obtain ⟨vo, vc, rfl, -, -⟩ := r8.form
      have T7 := Lib.hid (Told.more (p := ⟨s.ep, 0, s.taken, bare⟩) H.out rfl T6.out r8 s7 l7)
      have hne : ¬ Leads (.slice uo ([] : List Pkt).length uc) w.heap.size := T6.out.pk.row.ne T6.out.box (by decide)
      have b7 := blk_cell (s7.blk T6.out.box hne) 0
      have fb7 := blk_frozen (s7.blk T6.out.box hne) 0
      have g7 : w7.heap[g]? = _ := s7.blk T6.out.sm.st (fun hk => by have := T6.out.pk.base _ hk; have := blk_lt H.out.st; omega)
      have k0 := blk_cell g7 0
      have k6 := blk_cell g7 6
      simp only [List.getElem?_toArray, List.getElem?_cons_zero] at b7
      simp only [Stm.cells, List.getElem?_toArray, List.getElem?_cons_zero, List.getElem?_cons_succ] at k0 k6
      refine hK.out _ _ ⟨b7, k0, k6⟩ ?_
      clear hK K' r7 s7 l7 hne g7 r8 T6 ba k0 k6
      refine wpPlan.ends fun K' hK => ?_
      go_simp
      refine hK.out _ _ ?_
      exact ⟨rfl, vo, vc, rfl, T7.out⟩
    rintro uo1 uc1 W6 told6
    have FIN := Lib.hid (Told.fin (s' := { s with due := false }) H.out told6 ((Step.refl (fun k => k = g) W6).setCell (p := ⟨g, 7, none⟩) (fun _ => rfl) (.bool false)) (blk_set told6.sm.st 7 _) rfl)
    have tb := blk_cell told6.box 0
    have c7 : W6.cell? ⟨g, 7, none⟩ = some (.bool true) := by rw [blk_cell told6.sm.st 7, ← hd]; rfl
    have f7 := blk_frozen told6.sm.st 7
    simp only [List.getElem?_toArray, List.getElem?_cons_zero] at tb
    clear told6
    go_wp2_with fail
    refine ⟨by simp, .inl ⟨_, _, rfl, run_takeDeferred FIN.out.1, ?_⟩⟩
    refine ⟨_, results_tmp2 rfl _ _ _, ?_⟩
    rw [E2.out]
    exact ⟨_, _, rfl, FIN.out.2.1, FIN.out.2.2.1, FIN.out.2.2.2⟩

theorem tick_any (g : Nat) (v : Value) (s : Stm) (bs : List Value) (now : Int) (w : World) (h : Sm 66 w g v s bs) (ok : s.Ok) :
    Calls Tryd.prog 16 #[.pointer (some ⟨g, 0, none⟩), .int .i64 now] w fun e w' => ∃ u bvs, e = .returned (.tuple #[u, .int .i64 (s.tick now).2.2]) ∧ Pks w' w.heap.size u (s.tick now).2.1 bvs ∧ Sm 66 w' g v (s.tick now).1 bs ∧ Step (fun k => k = g) w w' := by
  by_cases hb : now < 0 ∨ 1099511627776 < now
  · refine (tick_bad g now w hb).mono ?_
    rintro e w' ⟨rfl, rfl⟩
    have e0 : s.tick now = (s, [], 1) := by unfold Stm.tick; rw [if_pos hb]
    rw [e0]
    exact ⟨_, [], rfl, Pks.nil _ _, h, Step.refl _ _⟩
  by_cases hr1 : min (s.ws.length : Int) s.win ≤ s.out
  · by_cases hr2 : 3 ≤ now - s.last
    · exact tick_resend g v s bs now w h ok (by omega) (by omega) hr1 hr2
    · exact tick_quiet g v s bs now w h ok (by omega) (by omega) hr1 hr2
  · exact tick_more g v s bs now w h ok (by omega) (by omega) hr1
end Go.Proofs.YtgchepijbpcckaaDoor
