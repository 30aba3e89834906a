/- The document's packets, Tick, Same. -/
import Derived.Test.YtgchepijbpcckaaDoorW9
namespace Go.Proofs.YtgchepijbpcckaaDoor
open Go.RowKit Go.Gm

set_option maxRecDepth 100000 in
set_option maxHeartbeats 4000000 in
theorem rpackets_walk (g : Nat) (v : Value) (s : Stm) (bvs : List Value) (a b : Nat) (w : World) (h : Sm 45 w g v s bvs) (ok : s.Ok) (hb : b ≤ s.ws.length) :
    Calls Tryd.prog 29 #[.pointer (some ⟨g, 0, none⟩), .int .i64 (a : Int), .int .i64 (b : Int)] w fun e w' => ∃ u, e = .returned u ∧ Row w' 38 14 u (b - a) (flatP (s.outs bvs a b)) ∧ (∀ k, Leads u k → w.heap.size ≤ k) ∧ Step None w w' := by
  have hf1 := ok.first
  have hf2 := ok.sum
  have hlen := ok.len
  have HS := Lib.hid h
  have HB := Lib.hid hb
  have HF : Hid (1 ≤ s.first ∧ s.first ≤ 1073741824 ∧ s.ws.length ≤ 5000) := Lib.hid ⟨hf1, by omega, hlen⟩
  clear h hb hf1 hf2 hlen ok
  go_enter Tryd.func29, Tryd.ntmps29
  go_wp2_with fail
  go_loopw [7, 8] (fun u i wr => ∃ j : Nat, i = .int .i64 j ∧ a ≤ j ∧ (j ≤ b ∨ j = a) ∧ Row wr 38 14 u (j - a) (flatP ((s.outs bvs a b).take (j - a))) ∧ (∀ k, Leads u k → w.heap.size ≤ k) ∧ Step None w wr) (fun _ i _ => b - (intOf i).toNat)
  case atStart => exact ⟨a, rfl, Nat.le_refl _, .inr rfl, by simpa [flatP] using Row.nil w 38 14, fun k hk => by simp [Leads, Value.ownBlock] at hk, Step.refl _ _⟩
  case round =>
    obtain ⟨j, rfl, h1, h2, hr, hl, hs⟩ := hrel
    have HR := Lib.hid hr
    have HLd := Lib.hid hl
    have HST := Lib.hid hs
    have H12 := Lib.hid (And.intro h1 h2)
    obtain ⟨uo, uc, rfl, -, -⟩ := hr.form
    clear hr hl hs
    by_cases hjb : j < b
    rotate_left
    · have d1 : decide ((j : Int) < (b : Int)) = false := decide_eq_false (by omega)
      have d2 : decide (j < b) = false := decide_eq_false hjb
      have e0 : (s.outs bvs a b).take (j - a) = s.outs bvs a b := List.take_of_length_le (by rw [outs_len]; omega)
      have e1 : j - a = b - a := by omega
      have HR2 : Hid (Row wr 38 14 (.slice uo (j - a) uc) (b - a) (flatP (s.outs bvs a b))) := Lib.hid (by have h := HR.out; rw [e0] at h; rw [← e1]; exact h)
      clear h1 h2 hjb e0 e1 HR H12
      go_wp2_with fail
      go_ret
      exact ⟨_, rfl, HR2.out, HLd.out, HST.out⟩
    · have d1 : decide ((j : Int) < (b : Int)) = true := decide_eq_true (by omega)
      have d2 : decide (j < b) = true := decide_eq_true hjb
      have HJB := Lib.hid hjb
      have hjl : j < s.ws.length := by have := HB.out; omega
      obtain ⟨n, hn⟩ : ∃ n, s.ws[j]? = some n := ⟨_, List.getElem?_eq_getElem hjl⟩
      obtain ⟨bv, hbv⟩ : ∃ bv, bvs[j]? = some bv := ⟨_, List.getElem?_eq_getElem (by rw [HS.out.len]; exact hjl)⟩
      have hz : (s.ws.zip bvs)[j]? = some (n, bv) := by rw [List.getElem?_zip_eq_some]; exact ⟨hn, hbv⟩
      have hx : (⟨s.ep, s.first + (j : Int), s.taken, s.ws.getD j bare⟩, bvs.getD j (.slice none 0 0)) = ((⟨s.ep, s.first + (j : Int), s.taken, n⟩ : Pkt), bv) := by
        rw [List.getD_eq_getElem?_getD, hn, List.getD_eq_getElem?_getD, hbv]; rfl
      have ht := outs_take s bvs h1 hjb
      rw [hx] at ht
      have hone := (HS.out.body j n bv hn hbv).one
      have HT : Hid (flatP ((s.outs bvs a b).take (j + 1 - a)) = flatP ((s.outs bvs a b).take (j - a)) ++ (n.packet s.ep (s.first + (j : Int)) s.taken bv).toList) := Lib.hid (by rw [ht, flatP_snoc, encV_of hone])
      obtain ⟨vb, voff, vcap, cur, hv, -⟩ := HS.out.row.lies (by omega)
      subst hv
      have facts : ∀ w', Step None w w' → w'.cell? ⟨g, 0, none⟩ = some (.int .i64 s.ep) ∧ w'.cell? ⟨g, 3, none⟩ = some (.int .i64 s.first) ∧ w'.cell? ⟨g, 6, none⟩ = some (.int .i64 s.taken) ∧ w'.cell? ⟨g, 2, none⟩ = some (.slice (some ⟨vb, voff, none⟩) s.ws.length vcap) ∧ (Instr.loadAt 36 (.pointer (some ⟨vb, voff + j * 11, none⟩))).run Tryd.prog w' = .ok (.agg #[.int .i64 n.kind, .int .i64 n.vlan, .int .u8 n.m0, .int .u8 n.m1, .int .u8 n.m2, .int .u8 n.m3, .int .u8 n.m4, .int .u8 n.m5, .int .i64 n.port, .int .i64 n.state, bv]) w' := fun w' hk' => by
        have b5 := HS.out.still hk'
        exact ⟨blk_cell b5.st 0, blk_cell b5.st 3, blk_cell b5.st 6, blk_cell b5.st 2, load_row_note b5.row (by omega) hz⟩
      have FA := Lib.hid facts
      have HONE := Lib.hid (packet_one n s.ep (s.first + (j : Int)) s.taken bv hone)
      have i0 : (0 : Int) ≤ (j : Int) := by omega
      have i1 : (j : Int) < (s.ws.length : Int) := by omega
      have hj5 : (j : Int) ≤ 5000 := by have := HF.out.2.2; omega
      have hfj : 0 ≤ s.first + (j : Int) ∧ s.first + (j : Int) ≤ 2000000000000 := by have h3 := HF.out.1; have h4 := HF.out.2.1; omega
      have hj1 : 0 ≤ (j : Int) + 1 ∧ (j : Int) + 1 ≤ 2000000000000 := by omega
      have JA : Hid (j - a + 1 ≤ 5001 ∧ j + 1 - a = j - a + 1) := Lib.hid ⟨by omega, by omega⟩
      obtain ⟨wr2, wr1⟩ := small_wrap hfj.1 hfj.2
      obtain ⟨wj2, wj1⟩ := small_wrap hj1.1 hj1.2
      clear hj5 hfj hj1 facts hz hx ht hn hbv h1 h2 hjl hjb hone
      go_wp2_with fail
      refine wp_region_plan (fun w' => w'.cell? ⟨g, 0, none⟩ = some (.int .i64 s.ep) ∧ w'.cell? ⟨g, 3, none⟩ = some (.int .i64 s.first) ∧ w'.cell? ⟨g, 6, none⟩ = some (.int .i64 s.taken) ∧ w'.cell? ⟨g, 2, none⟩ = some (.slice (some ⟨vb, voff, none⟩) s.ws.length vcap) ∧ (Instr.loadAt 36 (.pointer (some ⟨vb, voff + j * 11, none⟩))).run Tryd.prog w' = .ok (.agg #[.int .i64 n.kind, .int .i64 n.vlan, .int .u8 n.m0, .int .u8 n.m1, .int .u8 n.m2, .int .u8 n.m3, .int .u8 n.m4, .int .u8 n.m5, .int .i64 n.port, .int .i64 n.state, bv]) w') (.take 0 (.take 1 (.take 2 (.take 3 (.take 4 (.take 5 (.take 6 (.take 7 (.take 8 (.take 9 (.take 10 (.take 11 (.take 12 (.take 13 (.take 14 (.take 15 (.take 16 (.take 17 (.take 18 (.take 19 (.take 20 (.take 21 (.take 22 (.alt 23 (.alt 24 (.take 25 .done) .none) .none)))))))))))))))))))))))) _
        (by simp only [Plan.map, opOf, List.getElem?_toArray, List.getElem?_cons_zero, List.getElem?_cons_succ, Option.getD_some]; rfl) (by kernel_rfl) (by kernel_rfl) (by kernel_rfl) (by decide) (by intro c a d v w; cases d <;> exact fun h => h) (FA.out _ HST.out.drew) ?_
      repeat (first | (refine wpPlan.taken (by rfl) (fun w' hS' => run_load_op rfl rfl hS'.2.2.2.2) ?_; simp only [Act.put, List.setIfInBounds_toArray, List.set_cons_zero, List.set_cons_succ]) | (refine wpPlan.taken (by rfl) (by intro w' hS'; (try dsimp only at hS'); go_split_ands; go_simp; try with_reducible rfl) ?_; simp only [Act.put, List.setIfInBounds_toArray, List.set_cons_zero, List.set_cons_succ]) | (refine wpPlan.passed (by rfl) ?_; simp only [Act.put, List.setIfInBounds_toArray, List.set_cons_zero, List.set_cons_succ]))
      refine wpPlan.runs fun K' hK => ?_
      go_simp
      have sa := ((Step.refl None wr).drew).alloc (.cells (n.packet s.ep (s.first + (j : Int)) s.taken bv) 38)
      have ba := Lib.hid (heap_alloc_new wr.drew (.cells (n.packet s.ep (s.first + (j : Int)) s.taken bv) 38))
      have SA := Lib.hid (HST.out.then_ sa)
      have R1 := Lib.hid (HR.out.step sa (fun _ _ s => s.elim))
      refine hK.out _ _ (FA.out _ SA.out) ?_
      clear hK K' sa
      refine wpPlan.runs fun K' hK => ?_
      refine step_append_row (m := 1) T49 (by rfl) (.tmp 15) (.tmp 38) (by rfl) (by rfl) R1.out (by rfl) (Src.ofBlock (P := Tryd.prog) T49 (m := 1) (c := 1) ba.out (by rfl) HONE.out) (by have := JA.out.1; simp [maxLen]; omega) (by have := JA.out.1; omega) ?_
      intro v7 w7 r7 s7 l7
      have FS : Hid (Step None w w7) := Lib.hid (SA.out.trans s7 fun i hi hk => by have := HLd.out i hk; omega)
      have FL : Hid (∀ k, Leads v7 k → w.heap.size ≤ k) := Lib.hid fun k hk => by
        rcases l7 k hk with h | h
        · exact HLd.out k h
        · exact Nat.le_trans SA.out.size h
      have FR : Hid (Row w7 38 14 v7 (j - a + 1) (flatP ((s.outs bvs a b).take (j + 1 - a)))) := Lib.hid (by rw [HT.out]; exact r7)
      refine hK.out _ _ (FA.out _ FS.out) ?_
      clear hK K' r7 s7 l7 SA R1 ba
      repeat (first | (refine wpPlan.taken (by rfl) (by intro w' hS'; (try dsimp only at hS'); go_split_ands; go_simp; try with_reducible rfl) ?_; simp only [Act.put, List.setIfInBounds_toArray, List.set_cons_zero, List.set_cons_succ]) | (refine wpPlan.passed (by rfl) ?_; simp only [Act.put, List.setIfInBounds_toArray, List.set_cons_zero, List.set_cons_succ]))
      refine wpPlan.done ?_
      go_wp2_with fail
      go_roundw
      case rel =>
        have h12 := H12.out
        have hjb := HJB.out
        exact ⟨j + 1, by simp, by omega, .inl (by omega), by have h := FR.out; rw [JA.out.2] at h ⊢; exact h, FL.out, FS.out⟩
      case measure =>
        have hjb := HJB.out
        simp [intOf]
        omega
theorem routs_body {T : TypeId} {w W : World} {g : Nat} {v : Value} {s : Stm} {bs : List Value} (h : Sm T w g v s bs) (hs : Step None w W) (a b : Nat) (hb : b ≤ s.ws.length) : ∀ (i : Nat) (p : Pkt) (c : Value), ((s.outs bs a b).map (·.1))[i]? = some p → ((s.outs bs a b).map fun z => encV z.2)[i]? = some c → Own5 W c p.n.body := fun i p c h1 h2 => by
  rw [List.getElem?_map] at h1 h2
  obtain ⟨z, hz, rfl⟩ := Option.map_eq_some_iff.1 h1
  rw [hz] at h2
  simp only [Option.map_some, Option.some.injEq] at h2
  subst h2
  have hi : i < b - a := by
    have := (List.getElem?_eq_some_iff.1 hz).1
    rwa [outs_len] at this
  have hg := outs_get s bs (a := a) (b := b) (j := a + i) (by omega) (by omega)
  rw [show a + i - a = i by omega, hz] at hg
  simp only [Option.some.injEq] at hg
  subst hg
  have hl : a + i < s.ws.length := by omega
  obtain ⟨n, hn⟩ : ∃ n, s.ws[a + i]? = some n := ⟨_, List.getElem?_eq_getElem hl⟩
  obtain ⟨bv, hbv⟩ : ∃ bv, bs[a + i]? = some bv := ⟨_, List.getElem?_eq_getElem (by rw [h.len]; exact hl)⟩
  have hk := h.body _ _ _ hn hbv
  show Own5 W (encV (bs.getD (a + i) _)) (s.ws.getD (a + i) bare).body
  rw [List.getD_eq_getElem?_getD, List.getD_eq_getElem?_getD, hn, hbv]
  show Own5 W (encV bv) n.body
  rw [encV_of hk.one]
  exact hk.step hs fun _ s => s.elim
/-- Out of a row of the call's own. -/
theorem pks_of {w W3 : World} {T : TypeId} {g : Nat} {v u : Value} {s : Stm} {bs : List Value} {a b : Nat} (h0 : Sm T w g v s bs) (hs : Step None w W3) (hb : b ≤ s.ws.length) (r : Row W3 38 14 u (b - a) (flatP (s.outs bs a b))) (hl : ∀ k, Leads u k → w.heap.size ≤ k) :
    Pks W3 w.heap.size u (s.pkts a b) ((s.outs bs a b).map fun z => encV z.2) := by
  have hl2 : b - a = (s.pkts a b).length := by rw [Stm.pkts_len]
  refine ⟨?_, by simp [outs_len, Stm.pkts_len], ?_, hl⟩
  · rw [← hl2, ← outs_fst s bs a b, flatP_zip]
    exact r
  · rw [← outs_fst s bs a b]
    exact routs_body h0 hs a b hb

theorem rtick_bad (g : Nat) (now : Int) (w : World) (hn : now < 0 ∨ 1099511627776 < now) :
    Calls Tryd.prog 19 #[.pointer (some ⟨g, 0, none⟩), .int .i64 now] w fun e w' => e = .returned (.tuple #[.slice none 0 0, .int .i64 1]) ∧ w = w' := by
  cases d1 : decide (now < 0)
  · have d2 : decide (1099511627776 < now) = true := by simp at d1 ⊢; omega
    clear hn
    go_enter Tryd.func19, Tryd.ntmps19
    go_wp2_with fail
    go_ret2
    exact ⟨rfl, rfl⟩
  · clear hn
    go_enter Tryd.func19, Tryd.ntmps19
    go_wp2_with fail
    go_ret2
    exact ⟨rfl, rfl⟩
theorem rtick_fin {w W W4 : World} {g : Nat} {v u : Value} {s s' : Stm} {bs : List Value} {l : List Pkt} {bvs : List Value} (h0 : Sm 45 w g v s bs) (st : Step None w W) (pk : Pks W w.heap.size u l bvs) (hs : Step (fun k => k = g) W W4) (hst : W4.heap[g]? = some (.cells (s'.cells v) 45 (0, 0))) (hw : s'.ws = s.ws) :
    Pks W4 w.heap.size u l bvs ∧ Sm 45 W4 g v s' bs ∧ Step (fun k => k = g) w W4 := by
  have gl := blk_lt h0.st
  exact ⟨pk.step hs (fun k hk e => by subst e; have := pk.base _ hk; omega) (fun k e => (h0.still st).not5 (by decide) k (.inl e)), (h0.still st).tail (by decide) (by decide) hw hs hst, (st.none).then_ hs⟩

set_option maxRecDepth 100000 in
set_option maxHeartbeats 8000000 in
theorem rtick_more (g : Nat) (v : Value) (s : Stm) (bs : List Value) (now : Int) (w : World) (h : Sm 45 w g v s bs) (ok : s.Ok) (hn0 : 0 ≤ now) (hn1 : now ≤ 1099511627776) (hr1 : ¬ min (s.ws.length : Int) s.win ≤ s.out) :
    Calls Tryd.prog 19 #[.pointer (some ⟨g, 0, none⟩), .int .i64 now] w fun e w' => ∃ u bvs, e = .returned (.tuple #[u, .int .i64 (s.tick now).2.2]) ∧ Pks w' w.heap.size u (s.tick now).2.1 bvs ∧ Sm 45 w' g v (s.tick now).1 bs ∧ Step (fun k => k = g) w w' := by
  have h' := h
  obtain ⟨ao, cap, rfl, hcap, -⟩ := h'.row.form
  obtain ⟨mn, hmn⟩ : ∃ m : Nat, min (s.ws.length : Int) s.win = (m : Int) := ⟨(min (s.ws.length : Int) s.win).toNat, by have := ok.win; omega⟩
  obtain ⟨on, hon⟩ : ∃ m : Nat, s.out = (m : Int) := ⟨s.out.toNat, by have := ok.out; omega⟩
  have HL : Hid (mn ≤ s.ws.length ∧ on ≤ s.ws.length) := Lib.hid (by have := ok.out; omega)
  have hla := ok.last
  have d1 : decide (now < 0) = false := decide_eq_false (by omega)
  have d2 : decide (1099511627776 < now) = false := decide_eq_false (by omega)
  obtain ⟨mx, hmx⟩ : ∃ mx : Int, max (on : Int) (mn : Int) = mx := ⟨_, rfl⟩
  have hmin : ∀ w ts t, (Builtin.min_ ts t #[.int .i64 (s.ws.length : Int), .int .i64 s.win]).run Tryd.prog w = .ok (.int .i64 (mn : Int)) w := fun w ts t => by rw [run_min_int, hmn]
  have hmax : ∀ w ts t, (Builtin.max_ ts t #[.int .i64 (on : Int), .int .i64 (mn : Int)]).run Tryd.prog w = .ok (.int .i64 mx) w := fun w ts t => by rw [run_max_int, hmx]
  have hlt : on < mn := by omega
  have QM := Lib.hid hlt
  have E2 : Hid (s.tick now = ({ s with out := mx, last := now, due := false }, s.pkts on mn, 0)) := Lib.hid (by
    have hsz : s.span now = ((on : Int), (mn : Int)) := by unfold Stm.span; rw [if_neg (fun h => hr1 h.1), hmn, hon]
    have hne : s.pkts on mn ≠ [] := fun e => by have := Stm.pkts_len s on mn; rw [e] at this; simp at this; omega
    unfold Stm.tick
    rw [if_neg (by omega), hsz]
    simp only [Int.toNat_natCast, hon, hmx, if_pos hne])
  clear hlt
  have wn := (IntWalk.i64_in (now - s.last) (by omega) : IntKind.i64.wrap (now - s.last) = now - s.last)
  have wn2 : wrap64 (now - s.last) = now - s.last := IntWalk.wrap64_in _ ⟨by omega, by omega⟩
  have H := Lib.hid h
  have OK := Lib.hid ok
  have cells : ∀ W', Sm 45 W' g (.slice ao s.ws.length cap) s bs → W'.cell? ⟨g, 0, none⟩ = some (.int .i64 s.ep) ∧ W'.cell? ⟨g, 1, none⟩ = some (.int .i64 s.win) ∧ W'.cell? ⟨g, 2, none⟩ = some (.slice ao s.ws.length cap) ∧ W'.cell? ⟨g, 4, none⟩ = some (.int .i64 (on : Int)) ∧ W'.cell? ⟨g, 5, none⟩ = some (.int .i64 s.last) ∧ W'.cell? ⟨g, 6, none⟩ = some (.int .i64 s.taken) ∧ W'.cell? ⟨g, 7, none⟩ = some (.bool s.due) := fun W' h' => by
    refine ⟨blk_cell h'.st 0, blk_cell h'.st 1, blk_cell h'.st 2, ?_, blk_cell h'.st 5, blk_cell h'.st 6, blk_cell h'.st 7⟩
    rw [blk_cell h'.st 4, ← hon]; rfl
  have CE := Lib.hid cells
  obtain ⟨c0, c1, c2, c4, c5, c6, c7⟩ := cells w h
  clear h h' ok cells hmx hmn hla hn0 hn1 hon c0 c6 c7 hr1
  go_enter Tryd.func19, Tryd.ntmps19
  go_wp2_with fail
  refine wp_region_plan (fun w' => w'.cell? ⟨g, 1, none⟩ = some (.int .i64 s.win) ∧ w'.cell? ⟨g, 2, none⟩ = some (.slice ao s.ws.length cap)) (.take 0 (.take 1 (.take 2 (.take 3 (.take 4 (.take 5 (.take 6 (.take 7 (.take 8 (.take 9 (.take 10 .done))))))))))) _
    (by simp only [Plan.map, opOf, List.getElem?_toArray, List.getElem?_cons_zero, List.getElem?_cons_succ, Option.getD_some]; rfl) (by kernel_rfl) (by kernel_rfl) (by kernel_rfl) (by decide) (by intro c a d v w; cases d <;> exact fun h => h) ⟨c1, c2⟩ ?_
  repeat (first | (refine wpPlan.taken (by rfl) (by intro w' hS'; (try dsimp only at hS'); go_split_ands; go_simp; try with_reducible rfl) ?_; simp only [Act.put, List.setIfInBounds_toArray, List.set_cons_zero, List.set_cons_succ]) | (refine wpPlan.passed (by rfl) ?_; simp only [Act.put, List.setIfInBounds_toArray, List.set_cons_zero, List.set_cons_succ]))
  refine wpPlan.done ?_
  have c4 : w.drew.cell? ⟨g, 4, none⟩ = some (.int .i64 (on : Int)) := c4
  clear c1 c2 c5
  go_wp2_with fail
  refine (rpackets_walk g _ s bs on mn w.drew (H.out.still (Step.refl None w).drew) OK.out HL.out.1).mono ?_
  rintro e W1 ⟨u, rfl, r1, l1, s1⟩
  have S1 : Hid (Step None w W1) := Lib.hid (((Step.refl None w).drew).then_ s1)
  have PK := Lib.hid (pks_of H.out S1.out HL.out.1 r1 l1)
  obtain ⟨uo, uc, rfl, -, -⟩ := r1.form
  have HD := Lib.hid (H.out.still S1.out)
  obtain ⟨c0, c1, c2, c4, c5, c6, c7⟩ := CE.out _ HD.out
  have f4 := blk_frozen HD.out.st 4
  have f5 := blk_frozen HD.out.st 5
  have f7 := blk_frozen HD.out.st 7
  obtain ⟨q, hq⟩ : ∃ q, mn - on = q := ⟨_, rfl⟩
  have hqp : (s.pkts on mn).length = q := by rw [Stm.pkts_len, hq]
  have HQP := Lib.hid hqp
  rw [hq]
  clear r1 l1 s1 hqp c1 c2
  have QP : Hid (0 < q) := Lib.hid (by have := QM.out; omega)
  have dq : decide (0 < q) = true := decide_eq_true QP.out
  have dq2 : decide (0 < (q : Int)) = true := decide_eq_true (by have : 0 < q := QP.out; omega)
  have dq3 : ((q : Int) == 0) = false := by simp; have : 0 < q := QP.out; omega
  have dq4 : (q == 0) = false := by simp; have : 0 < q := QP.out; omega
  have FIN := Lib.hid (rtick_fin (s' := { s with out := mx, last := now, due := false }) H.out S1.out PK.out ((((Step.refl (fun k => k = g) W1).setCell (p := ⟨g, 4, none⟩) (fun _ => rfl) (.int .i64 mx)).setCell (p := ⟨g, 5, none⟩) (fun _ => rfl) (.int .i64 now)).setCell (p := ⟨g, 7, none⟩) (fun _ => rfl) (.bool false)) (blk_set (blk_set (blk_set HD.out.st 4 _) 5 _) 7 _) rfl)
  rw [hq] at FIN
  clear hq
  cases hd : s.due
  all_goals
    rw [hd] at c7
    go_wp2_with fail
    go_ret2
    rw [E2.out]
    exact ⟨_, _, rfl, FIN.out.1, FIN.out.2.1, FIN.out.2.2⟩

set_option maxRecDepth 100000 in
set_option maxHeartbeats 8000000 in
theorem rtick_resend (g : Nat) (v : Value) (s : Stm) (bs : List Value) (now : Int) (w : World) (h : Sm 45 w g v s bs) (ok : s.Ok) (hn0 : 0 ≤ now) (hn1 : now ≤ 1099511627776) (hr1 : min (s.ws.length : Int) s.win ≤ s.out) (hr2 : 3 ≤ now - s.last) (ho : 0 < s.out) :
    Calls Tryd.prog 19 #[.pointer (some ⟨g, 0, none⟩), .int .i64 now] w fun e w' => ∃ u bvs, e = .returned (.tuple #[u, .int .i64 (s.tick now).2.2]) ∧ Pks w' w.heap.size u (s.tick now).2.1 bvs ∧ Sm 45 w' g v (s.tick now).1 bs ∧ Step (fun k => k = g) w w' := by
  have h' := h
  obtain ⟨ao, cap, rfl, hcap, -⟩ := h'.row.form
  obtain ⟨mn, hmn⟩ : ∃ m : Nat, min (s.ws.length : Int) s.win = (m : Int) := ⟨(min (s.ws.length : Int) s.win).toNat, by have := ok.win; omega⟩
  obtain ⟨on, hon⟩ : ∃ m : Nat, s.out = (m : Int) := ⟨s.out.toNat, by have := ok.out; omega⟩
  have HL : Hid (mn ≤ s.ws.length ∧ on ≤ s.ws.length) := Lib.hid (by have := ok.out; omega)
  have hla := ok.last
  have d1 : decide (now < 0) = false := decide_eq_false (by omega)
  have d2 : decide (1099511627776 < now) = false := decide_eq_false (by omega)
  obtain ⟨mx, hmx⟩ : ∃ mx : Int, max (on : Int) (mn : Int) = mx := ⟨_, rfl⟩
  have hmin : ∀ w ts t, (Builtin.min_ ts t #[.int .i64 (s.ws.length : Int), .int .i64 s.win]).run Tryd.prog w = .ok (.int .i64 (mn : Int)) w := fun w ts t => by rw [run_min_int, hmn]
  have hmax : ∀ w ts t, (Builtin.max_ ts t #[.int .i64 (on : Int), .int .i64 (mn : Int)]).run Tryd.prog w = .ok (.int .i64 mx) w := fun w ts t => by rw [run_max_int, hmx]
  have hle : mn ≤ on := by omega
  have QM : Hid (mn ≤ on ∧ 0 < on) := Lib.hid ⟨hle, by omega⟩
  have e3 : decide (3 ≤ now - s.last) = true := decide_eq_true hr2
  have e4 : decide ((0 : Int) < (on : Int)) = true := decide_eq_true (by omega)
  have e5 : decide (0 < on) = true := decide_eq_true (by omega)
  have E2 : Hid (s.tick now = ({ s with out := mx, last := now, due := false }, s.pkts 0 on, 0)) := Lib.hid (by
    have hsz : s.span now = (0, (on : Int)) := by unfold Stm.span; rw [if_pos ⟨hr1, hr2⟩, hon]
    have hne : s.pkts 0 on ≠ [] := fun e => by have := Stm.pkts_len s 0 on; rw [e] at this; simp at this; omega
    have hm : max (on : Int) (on : Int) = mx := by omega
    unfold Stm.tick
    rw [if_neg (by omega), hsz]
    simp only [Int.toNat_natCast, Int.toNat_zero, hon, hm, if_pos hne])
  clear hle
  have wn := (IntWalk.i64_in (now - s.last) (by omega) : IntKind.i64.wrap (now - s.last) = now - s.last)
  have wn2 : wrap64 (now - s.last) = now - s.last := IntWalk.wrap64_in _ ⟨by omega, by omega⟩
  have H := Lib.hid h
  have OK := Lib.hid ok
  have cells : ∀ W', Sm 45 W' g (.slice ao s.ws.length cap) s bs → W'.cell? ⟨g, 0, none⟩ = some (.int .i64 s.ep) ∧ W'.cell? ⟨g, 1, none⟩ = some (.int .i64 s.win) ∧ W'.cell? ⟨g, 2, none⟩ = some (.slice ao s.ws.length cap) ∧ W'.cell? ⟨g, 4, none⟩ = some (.int .i64 (on : Int)) ∧ W'.cell? ⟨g, 5, none⟩ = some (.int .i64 s.last) ∧ W'.cell? ⟨g, 6, none⟩ = some (.int .i64 s.taken) ∧ W'.cell? ⟨g, 7, none⟩ = some (.bool s.due) := fun W' h' => by
    refine ⟨blk_cell h'.st 0, blk_cell h'.st 1, blk_cell h'.st 2, ?_, blk_cell h'.st 5, blk_cell h'.st 6, blk_cell h'.st 7⟩
    rw [blk_cell h'.st 4, ← hon]; rfl
  have CE := Lib.hid cells
  obtain ⟨c0, c1, c2, c4, c5, c6, c7⟩ := cells w h
  clear h h' ok cells hmx hmn hla hn0 hn1 hon c0 c6 c7 hr1 hr2 ho
  go_enter Tryd.func19, Tryd.ntmps19
  go_wp2_with fail
  refine wp_region_plan (fun w' => w'.cell? ⟨g, 1, none⟩ = some (.int .i64 s.win) ∧ w'.cell? ⟨g, 2, none⟩ = some (.slice ao s.ws.length cap)) (.take 0 (.take 1 (.take 2 (.take 3 (.take 4 (.take 5 (.take 6 (.take 7 (.take 8 (.take 9 (.take 10 .done))))))))))) _
    (by simp only [Plan.map, opOf, List.getElem?_toArray, List.getElem?_cons_zero, List.getElem?_cons_succ, Option.getD_some]; rfl) (by kernel_rfl) (by kernel_rfl) (by kernel_rfl) (by decide) (by intro c a d v w; cases d <;> exact fun h => h) ⟨c1, c2⟩ ?_
  repeat (first | (refine wpPlan.taken (by rfl) (by intro w' hS'; (try dsimp only at hS'); go_split_ands; go_simp; try with_reducible rfl) ?_; simp only [Act.put, List.setIfInBounds_toArray, List.set_cons_zero, List.set_cons_succ]) | (refine wpPlan.passed (by rfl) ?_; simp only [Act.put, List.setIfInBounds_toArray, List.set_cons_zero, List.set_cons_succ]))
  refine wpPlan.done ?_
  have c4 : w.drew.cell? ⟨g, 4, none⟩ = some (.int .i64 (on : Int)) := c4
  clear c1 c2 c5
  go_wp2_with fail
  refine (rpackets_walk g _ s bs on mn w.drew (H.out.still (Step.refl None w).drew) OK.out HL.out.1).mono ?_
  rintro e W1 ⟨u, rfl, r1, l1, s1⟩
  have S1 : Hid (Step None w W1) := Lib.hid (((Step.refl None w).drew).then_ s1)
  have PK := Lib.hid (pks_of H.out S1.out HL.out.1 r1 l1)
  obtain ⟨uo, uc, rfl, -, -⟩ := r1.form
  have HD := Lib.hid (H.out.still S1.out)
  obtain ⟨c0, c1, c2, c4, c5, c6, c7⟩ := CE.out _ HD.out
  have f4 := blk_frozen HD.out.st 4
  have f5 := blk_frozen HD.out.st 5
  have f7 := blk_frozen HD.out.st 7
  obtain ⟨q, hq⟩ : ∃ q, mn - on = q := ⟨_, rfl⟩
  have hqp : (s.pkts on mn).length = q := by rw [Stm.pkts_len, hq]
  have HQP := Lib.hid hqp
  rw [hq]
  clear r1 l1 s1 hqp c1 c2
  have q0 : q = 0 := by have := QM.out.1; omega
  subst q0
  clear hq PK HQP f4 f5 f7 c0 c6 c7
  go_wp2_with fail
  refine (rpackets_walk g _ s bs 0 on W1 HD.out OK.out HL.out.2).mono ?_
  clear c4 c5
  rintro e W2 ⟨u2, rfl, r2, l2, s2⟩
  have S2 : Hid (Step None w W2) := Lib.hid (S1.out.then_ s2)
  have PK := Lib.hid (pks_of H.out S2.out HL.out.2 r2 (fun k hk => Nat.le_trans S1.out.size (l2 k hk)))
  obtain ⟨u2o, u2c, rfl, -, -⟩ := r2.form
  replace HD := Lib.hid (H.out.still S2.out)
  obtain ⟨c0, c1, c2, c4, c5, c6, c7⟩ := CE.out _ HD.out
  have f4 := blk_frozen HD.out.st 4
  have f5 := blk_frozen HD.out.st 5
  have f7 := blk_frozen HD.out.st 7
  obtain ⟨q, hq⟩ : ∃ q, on - 0 = q := ⟨_, rfl⟩
  have hqp : (s.pkts 0 on).length = q := by rw [Stm.pkts_len, hq]
  rw [hq]
  clear r2 l2 s2 c1 c2
  have QP : Hid (0 < q) := Lib.hid (by have := QM.out.2; omega)
  have dq : decide (0 < q) = true := decide_eq_true QP.out
  have dq2 : decide (0 < (q : Int)) = true := decide_eq_true (by have : 0 < q := QP.out; omega)
  have dq3 : ((q : Int) == 0) = false := by simp; have : 0 < q := QP.out; omega
  have dq4 : (q == 0) = false := by simp; have : 0 < q := QP.out; omega
  have FIN := Lib.hid (rtick_fin (s' := { s with out := mx, last := now, due := false }) H.out S2.out PK.out ((((Step.refl (fun k => k = g) W2).setCell (p := ⟨g, 4, none⟩) (fun _ => rfl) (.int .i64 mx)).setCell (p := ⟨g, 5, none⟩) (fun _ => rfl) (.int .i64 now)).setCell (p := ⟨g, 7, none⟩) (fun _ => rfl) (.bool false)) (blk_set (blk_set (blk_set HD.out.st 4 _) 5 _) 7 _) rfl)
  rw [hq] at FIN
  clear hq hqp
  cases hd : s.due
  all_goals
    rw [hd] at c7
    go_wp2_with fail
    go_ret2
    rw [E2.out]
    exact ⟨_, _, rfl, FIN.out.1, FIN.out.2.1, FIN.out.2.2⟩

set_option maxRecDepth 100000 in
set_option maxHeartbeats 8000000 in
theorem rtick_quiet (g : Nat) (v : Value) (s : Stm) (bs : List Value) (now : Int) (w : World) (h : Sm 45 w g v s bs) (ok : s.Ok) (hn0 : 0 ≤ now) (hn1 : now ≤ 1099511627776) (hr1 : min (s.ws.length : Int) s.win ≤ s.out) (hr2 : ¬ 3 ≤ now - s.last) (ho : 0 < s.out) :
    Calls Tryd.prog 19 #[.pointer (some ⟨g, 0, none⟩), .int .i64 now] w fun e w' => ∃ u bvs, e = .returned (.tuple #[u, .int .i64 (s.tick now).2.2]) ∧ Pks w' w.heap.size u (s.tick now).2.1 bvs ∧ Sm 45 w' g v (s.tick now).1 bs ∧ Step (fun k => k = g) w w' := by
  have h' := h
  obtain ⟨ao, cap, rfl, hcap, -⟩ := h'.row.form
  obtain ⟨mn, hmn⟩ : ∃ m : Nat, min (s.ws.length : Int) s.win = (m : Int) := ⟨(min (s.ws.length : Int) s.win).toNat, by have := ok.win; omega⟩
  obtain ⟨on, hon⟩ : ∃ m : Nat, s.out = (m : Int) := ⟨s.out.toNat, by have := ok.out; omega⟩
  have HL : Hid (mn ≤ s.ws.length ∧ on ≤ s.ws.length) := Lib.hid (by have := ok.out; omega)
  have hla := ok.last
  have d1 : decide (now < 0) = false := decide_eq_false (by omega)
  have d2 : decide (1099511627776 < now) = false := decide_eq_false (by omega)
  obtain ⟨mx, hmx⟩ : ∃ mx : Int, max (on : Int) (mn : Int) = mx := ⟨_, rfl⟩
  have hmin : ∀ w ts t, (Builtin.min_ ts t #[.int .i64 (s.ws.length : Int), .int .i64 s.win]).run Tryd.prog w = .ok (.int .i64 (mn : Int)) w := fun w ts t => by rw [run_min_int, hmn]
  have hmax : ∀ w ts t, (Builtin.max_ ts t #[.int .i64 (on : Int), .int .i64 (mn : Int)]).run Tryd.prog w = .ok (.int .i64 mx) w := fun w ts t => by rw [run_max_int, hmx]
  have hle : mn ≤ on := by omega
  have QM : Hid (mn ≤ on) := Lib.hid hle
  have HMX : Hid (mx = s.out) := Lib.hid (by omega)
  have hp0 : s.pkts (s.span now).1.toNat (s.span now).2.toNat = [] := by
    refine List.eq_nil_of_length_eq_zero ?_
    rw [Stm.pkts_len]
    unfold Stm.span
    rw [if_neg (fun h => hr2 h.2)]; simp only; omega
  have hnb : ¬ (now < 0 ∨ 1099511627776 < now) := by omega
  have E2 : Hid (s.due = false → s.tick now = (s, [], 0)) := Lib.hid fun hd => by
    unfold Stm.tick
    rw [if_neg hnb]
    simp only [hp0]
    rw [if_neg (by simp), if_neg (by rw [hd]; simp)]
  have E3 : Hid (s.due = true → s.tick now = ({ s with due := false }, [⟨s.ep, 0, s.taken, bare⟩], 0)) := Lib.hid fun hd => by
    unfold Stm.tick
    rw [if_neg hnb]
    simp only [hp0]
    rw [if_neg (by simp), if_pos hd]
  clear hle hp0 hnb
  have e3 : decide (3 ≤ now - s.last) = false := decide_eq_false hr2
  have e4 : decide ((0 : Int) < (on : Int)) = true := decide_eq_true (by omega)
  have e5 : decide (0 < on) = true := decide_eq_true (by omega)
  have wn := (IntWalk.i64_in (now - s.last) (by omega) : IntKind.i64.wrap (now - s.last) = now - s.last)
  have wn2 : wrap64 (now - s.last) = now - s.last := IntWalk.wrap64_in _ ⟨by omega, by omega⟩
  have H := Lib.hid h
  have OK := Lib.hid ok
  have cells : ∀ W', Sm 45 W' g (.slice ao s.ws.length cap) s bs → W'.cell? ⟨g, 0, none⟩ = some (.int .i64 s.ep) ∧ W'.cell? ⟨g, 1, none⟩ = some (.int .i64 s.win) ∧ W'.cell? ⟨g, 2, none⟩ = some (.slice ao s.ws.length cap) ∧ W'.cell? ⟨g, 4, none⟩ = some (.int .i64 (on : Int)) ∧ W'.cell? ⟨g, 5, none⟩ = some (.int .i64 s.last) ∧ W'.cell? ⟨g, 6, none⟩ = some (.int .i64 s.taken) ∧ W'.cell? ⟨g, 7, none⟩ = some (.bool s.due) := fun W' h' => by
    refine ⟨blk_cell h'.st 0, blk_cell h'.st 1, blk_cell h'.st 2, ?_, blk_cell h'.st 5, blk_cell h'.st 6, blk_cell h'.st 7⟩
    rw [blk_cell h'.st 4, ← hon]; rfl
  have CE := Lib.hid cells
  obtain ⟨c0, c1, c2, c4, c5, c6, c7⟩ := cells w h
  clear h h' ok cells hmx hmn hla hn0 hn1 hon c0 c6 c7 hr1 hr2 ho
  go_enter Tryd.func19, Tryd.ntmps19
  go_wp2_with fail
  refine wp_region_plan (fun w' => w'.cell? ⟨g, 1, none⟩ = some (.int .i64 s.win) ∧ w'.cell? ⟨g, 2, none⟩ = some (.slice ao s.ws.length cap)) (.take 0 (.take 1 (.take 2 (.take 3 (.take 4 (.take 5 (.take 6 (.take 7 (.take 8 (.take 9 (.take 10 .done))))))))))) _
    (by simp only [Plan.map, opOf, List.getElem?_toArray, List.getElem?_cons_zero, List.getElem?_cons_succ, Option.getD_some]; rfl) (by kernel_rfl) (by kernel_rfl) (by kernel_rfl) (by decide) (by intro c a d v w; cases d <;> exact fun h => h) ⟨c1, c2⟩ ?_
  repeat (first | (refine wpPlan.taken (by rfl) (by intro w' hS'; (try dsimp only at hS'); go_split_ands; go_simp; try with_reducible rfl) ?_; simp only [Act.put, List.setIfInBounds_toArray, List.set_cons_zero, List.set_cons_succ]) | (refine wpPlan.passed (by rfl) ?_; simp only [Act.put, List.setIfInBounds_toArray, List.set_cons_zero, List.set_cons_succ]))
  refine wpPlan.done ?_
  have c4 : w.drew.cell? ⟨g, 4, none⟩ = some (.int .i64 (on : Int)) := c4
  clear c1 c2 c5
  go_wp2_with fail
  refine (rpackets_walk g _ s bs on mn w.drew (H.out.still (Step.refl None w).drew) OK.out HL.out.1).mono ?_
  rintro e W1 ⟨u, rfl, r1, l1, s1⟩
  have S1 : Hid (Step None w W1) := Lib.hid (((Step.refl None w).drew).then_ s1)
  have PK := Lib.hid (pks_of H.out S1.out HL.out.1 r1 l1)
  obtain ⟨uo, uc, rfl, -, -⟩ := r1.form
  have HD := Lib.hid (H.out.still S1.out)
  obtain ⟨c0, c1, c2, c4, c5, c6, c7⟩ := CE.out _ HD.out
  have f4 := blk_frozen HD.out.st 4
  have f5 := blk_frozen HD.out.st 5
  have f7 := blk_frozen HD.out.st 7
  obtain ⟨q, hq⟩ : ∃ q, mn - on = q := ⟨_, rfl⟩
  have hqp : (s.pkts on mn).length = q := by rw [Stm.pkts_len, hq]
  have HQP := Lib.hid hqp
  rw [hq]
  clear r1 l1 s1 hqp c1 c2
  have q0 : q = 0 := by have := QM.out; omega
  subst q0
  have hnil : s.pkts on mn = [] := List.eq_nil_of_length_eq_zero HQP.out
  have hnol : s.outs bs on mn = [] := List.eq_nil_of_length_eq_zero (by rw [outs_len, ← Stm.pkts_len s, hnil]; rfl)
  have pk0 := PK.out
  rw [hnil, hnol] at pk0
  have e0 : on - mn = on - mn := rfl
  have P0 : Hid (Pks W1 w.heap.size (.slice uo 0 uc) [] []) := Lib.hid (by rw [hq] at pk0; exact pk0)
  clear hq pk0 hnil hnol PK HQP e0
  cases hd : s.due
  · rw [hd] at c7
    have FIN := Lib.hid (rtick_fin (s' := s) H.out S1.out P0.out (((Step.refl (fun k => k = g) W1).setCell (p := ⟨g, 4, none⟩) (fun _ => rfl) (.int .i64 mx)).setCell (p := ⟨g, 7, none⟩) (fun _ => rfl) (.bool false)) ((blk_set (blk_set HD.out.st 4 _) 7 _).trans (by simp [Stm.cells, hd, HMX.out])) rfl)
    go_wp2_with fail
    go_ret2
    rw [E2.out hd]
    exact ⟨_, _, rfl, FIN.out.1, FIN.out.2.1, FIN.out.2.2⟩
  · rw [hd] at c7
    have st4 := Lib.hid ((Step.refl (fun k => k = g) W1).setCell (p := ⟨g, 4, none⟩) (fun _ => rfl) (.int .i64 mx))
    have g4 := Lib.hid (blk_set HD.out.st 4 (.int .i64 mx))
    go_wp2_with fail
    obtain ⟨W4, hW4⟩ : ∃ W4, W1.setCell ⟨g, 4, none⟩ (.int .i64 mx) = W4 := ⟨_, rfl⟩
    rw [hW4] at st4 g4 ⊢
    have G4 := g4
    have S4 : Hid (Step (fun k => k = g) w W4) := Lib.hid ((S1.out.none).then_ st4.out)
    have k0 := blk_cell G4.out 0
    have k6 := blk_cell G4.out 6
    clear hW4 c0 c4 c5 c6 c7 f4 f5 f7 P0
    simp [Stm.cells] at k0 k6
    refine wp_region_plan (fun w' => w'.cell? ⟨g, 0, none⟩ = some (.int .i64 s.ep) ∧ w'.cell? ⟨g, 6, none⟩ = some (.int .i64 s.taken)) (.take 0 (.take 1 (.take 2 (.take 3 (.take 4 (.take 5 (.take 6 (.take 7 (.take 8 (.alt 9 (.take 10 .done) .none)))))))))) _
      (by simp only [Plan.map, opOf, List.getElem?_toArray, List.getElem?_cons_zero, List.getElem?_cons_succ, Option.getD_some]; rfl) (by kernel_rfl) (by kernel_rfl) (by kernel_rfl) (by decide) (by intro c a d v w; cases d <;> exact fun h => h) ⟨k0, k6⟩ ?_
    repeat (first | (refine wpPlan.taken (by rfl) (by intro w' hS'; (try dsimp only at hS'); go_split_ands; go_simp; try with_reducible rfl) ?_; simp only [Act.put, List.setIfInBounds_toArray, List.set_cons_zero, List.set_cons_succ]) | (refine wpPlan.passed (by rfl) ?_; simp only [Act.put, List.setIfInBounds_toArray, List.set_cons_zero, List.set_cons_succ]))
    refine wpPlan.runs fun K' hK => ?_
    go_simp
    have sa := ((Step.refl None W4).drew).alloc (.cells (bare.packet s.ep 0 s.taken (.slice none 0 0)) 38)
    have ba := heap_alloc_new W4.drew (.cells (bare.packet s.ep 0 s.taken (.slice none 0 0)) 38)
    refine hK.out _ _ ⟨blk_cell (sa.blk G4.out (fun s => s.elim)) 0, (blk_cell (sa.blk G4.out (fun s => s.elim)) 6)⟩ ?_
    clear hK K'
    repeat (first | (refine wpPlan.taken (by rfl) (by intro w' hS'; (try dsimp only at hS'); go_split_ands; go_simp; try with_reducible rfl) ?_; simp only [Act.put, List.setIfInBounds_toArray, List.set_cons_zero, List.set_cons_succ]) | (refine wpPlan.passed (by rfl) ?_; simp only [Act.put, List.setIfInBounds_toArray, List.set_cons_zero, List.set_cons_succ]))
    refine wpPlan.done ?_
    have PK5 : Pks (W4.alloc (.cells #[.int .i64 s.ep, .int .i64 0, .int .i64 s.taken, .int .i64 0, .int .i64 0, .int .u8 0, .int .u8 0, .int .u8 0, .int .u8 0, .int .u8 0, .int .u8 0, .int .i64 0, .int .i64 0, .slice none 0 0] 38)).drew w.heap.size (.slice (some ⟨W4.heap.size, 0, none⟩) 1 1) [⟨s.ep, 0, s.taken, bare⟩] [.slice none 0 0] := by
      refine ⟨?_, rfl, fun i p b h1 h2 => ?_, fun k hk => ?_⟩
      · have := Row.ofBlock (e := 38) (sz := 14) (n := 1) (cap := 1) ba (Nat.le_refl _) (by simp [maxLen]) (by simp [Note.packet])
        exact this
      · match i with
        | 0 => simp at h1 h2; subst h1 h2; exact Own5.nil _
        | i + 1 => simp at h1
      · simp [Leads, Value.ownBlock] at hk
        have := S4.out.size
        omega
    obtain ⟨W5, hW5⟩ : ∃ W5, (W4.alloc (.cells #[.int .i64 s.ep, .int .i64 0, .int .i64 s.taken, .int .i64 0, .int .i64 0, .int .u8 0, .int .u8 0, .int .u8 0, .int .u8 0, .int .u8 0, .int .u8 0, .int .i64 0, .int .i64 0, .slice none 0 0] 38)).drew = W5 := ⟨_, rfl⟩
    have sa5 : Step None W4 W5 := by rw [← hW5]; exact sa
    rw [hW5] at PK5
    have hW5' : W4.drew.alloc (.cells #[.int .i64 s.ep, .int .i64 0, .int .i64 s.taken, .int .i64 0, .int .i64 0, .int .u8 0, .int .u8 0, .int .u8 0, .int .u8 0, .int .u8 0, .int .u8 0, .int .i64 0, .int .i64 0, .slice none 0 0] 38) = W5 := hW5
    first | rw [hW5] | rw [hW5'] | (simp only [hW5]) | (simp only [hW5'])
    have G5 := Lib.hid (sa5.blk G4.out (fun s => s.elim))
    have P5 := Lib.hid PK5
    have S5 := Lib.hid (S4.out.trans sa5 fun _ _ s => s.elim)
    have k7 := blk_cell G5.out 7
    have kf7 := blk_frozen G5.out 7
    clear sa ba sa5 PK5 hW5 hW5'
    simp [Stm.cells, hd] at k7

    go_wp2_with fail
    go_ret2
    rw [E3.out hd]
    have gl := blk_lt H.out.st
    have s8 : Step (fun k => k = g) W5 (W5.setCell ⟨g, 7, none⟩ (.bool false)) := (Step.refl (fun k => k = g) W5).setCell (p := ⟨g, 7, none⟩) (fun _ => rfl) _
    refine ⟨_, _, rfl, P5.out.step s8 (fun k hk e => by subst e; have := P5.out.base _ hk; omega) (fun k e cs fr hc => by subst e; exact blk_ne G5.out hc (by decide) rfl), H.out.tail (by decide) (by decide) rfl (S5.out.then_ s8) ((blk_set G5.out 7 _).trans (by simp [Stm.cells, HMX.out])), S5.out.then_ s8⟩

set_option maxRecDepth 100000 in
set_option maxHeartbeats 8000000 in
theorem rtick_none (g : Nat) (v : Value) (s : Stm) (bs : List Value) (now : Int) (w : World) (h : Sm 45 w g v s bs) (ok : s.Ok) (hn0 : 0 ≤ now) (hn1 : now ≤ 1099511627776) (hr1 : min (s.ws.length : Int) s.win ≤ s.out) (ho : ¬ 0 < s.out) :
    Calls Tryd.prog 19 #[.pointer (some ⟨g, 0, none⟩), .int .i64 now] w fun e w' => ∃ u bvs, e = .returned (.tuple #[u, .int .i64 (s.tick now).2.2]) ∧ Pks w' w.heap.size u (s.tick now).2.1 bvs ∧ Sm 45 w' g v (s.tick now).1 bs ∧ Step (fun k => k = g) w w' := by
  have h' := h
  obtain ⟨ao, cap, rfl, hcap, -⟩ := h'.row.form
  obtain ⟨mn, hmn⟩ : ∃ m : Nat, min (s.ws.length : Int) s.win = (m : Int) := ⟨(min (s.ws.length : Int) s.win).toNat, by have := ok.win; omega⟩
  obtain ⟨on, hon⟩ : ∃ m : Nat, s.out = (m : Int) := ⟨s.out.toNat, by have := ok.out; omega⟩
  have HL : Hid (mn ≤ s.ws.length ∧ on ≤ s.ws.length) := Lib.hid (by have := ok.out; omega)
  have hla := ok.last
  have d1 : decide (now < 0) = false := decide_eq_false (by omega)
  have d2 : decide (1099511627776 < now) = false := decide_eq_false (by omega)
  obtain ⟨mx, hmx⟩ : ∃ mx : Int, max (on : Int) (mn : Int) = mx := ⟨_, rfl⟩
  have hmin : ∀ w ts t, (Builtin.min_ ts t #[.int .i64 (s.ws.length : Int), .int .i64 s.win]).run Tryd.prog w = .ok (.int .i64 (mn : Int)) w := fun w ts t => by rw [run_min_int, hmn]
  have hmax : ∀ w ts t, (Builtin.max_ ts t #[.int .i64 (on : Int), .int .i64 (mn : Int)]).run Tryd.prog w = .ok (.int .i64 mx) w := fun w ts t => by rw [run_max_int, hmx]
  have hle : mn ≤ on := by omega
  have QM : Hid (mn ≤ on) := Lib.hid hle
  have HMX : Hid (mx = s.out) := Lib.hid (by omega)
  have hp0 : s.pkts (s.span now).1.toNat (s.span now).2.toNat = [] := by
    refine List.eq_nil_of_length_eq_zero ?_
    rw [Stm.pkts_len]
    unfold Stm.span
    split <;> simp only <;> omega
  have hnb : ¬ (now < 0 ∨ 1099511627776 < now) := by omega
  have E2 : Hid (s.due = false → s.tick now = (s, [], 0)) := Lib.hid fun hd => by
    unfold Stm.tick
    rw [if_neg hnb]
    simp only [hp0]
    rw [if_neg (by simp), if_neg (by rw [hd]; simp)]
  have E3 : Hid (s.due = true → s.tick now = ({ s with due := false }, [⟨s.ep, 0, s.taken, bare⟩], 0)) := Lib.hid fun hd => by
    unfold Stm.tick
    rw [if_neg hnb]
    simp only [hp0]
    rw [if_neg (by simp), if_pos hd]
  clear hle hp0 hnb
  have e4 : decide ((0 : Int) < (on : Int)) = false := decide_eq_false (by omega)
  have e5 : decide (0 < on) = false := decide_eq_false (by omega)
  have wn := (IntWalk.i64_in (now - s.last) (by omega) : IntKind.i64.wrap (now - s.last) = now - s.last)
  have wn2 : wrap64 (now - s.last) = now - s.last := IntWalk.wrap64_in _ ⟨by omega, by omega⟩
  have H := Lib.hid h
  have OK := Lib.hid ok
  have cells : ∀ W', Sm 45 W' g (.slice ao s.ws.length cap) s bs → W'.cell? ⟨g, 0, none⟩ = some (.int .i64 s.ep) ∧ W'.cell? ⟨g, 1, none⟩ = some (.int .i64 s.win) ∧ W'.cell? ⟨g, 2, none⟩ = some (.slice ao s.ws.length cap) ∧ W'.cell? ⟨g, 4, none⟩ = some (.int .i64 (on : Int)) ∧ W'.cell? ⟨g, 5, none⟩ = some (.int .i64 s.last) ∧ W'.cell? ⟨g, 6, none⟩ = some (.int .i64 s.taken) ∧ W'.cell? ⟨g, 7, none⟩ = some (.bool s.due) := fun W' h' => by
    refine ⟨blk_cell h'.st 0, blk_cell h'.st 1, blk_cell h'.st 2, ?_, blk_cell h'.st 5, blk_cell h'.st 6, blk_cell h'.st 7⟩
    rw [blk_cell h'.st 4, ← hon]; rfl
  have CE := Lib.hid cells
  obtain ⟨c0, c1, c2, c4, c5, c6, c7⟩ := cells w h
  clear h h' ok cells hmx hmn hla hn0 hn1 hon c0 c6 c7 hr1 ho
  go_enter Tryd.func19, Tryd.ntmps19
  go_wp2_with fail
  refine wp_region_plan (fun w' => w'.cell? ⟨g, 1, none⟩ = some (.int .i64 s.win) ∧ w'.cell? ⟨g, 2, none⟩ = some (.slice ao s.ws.length cap)) (.take 0 (.take 1 (.take 2 (.take 3 (.take 4 (.take 5 (.take 6 (.take 7 (.take 8 (.take 9 (.take 10 .done))))))))))) _
    (by simp only [Plan.map, opOf, List.getElem?_toArray, List.getElem?_cons_zero, List.getElem?_cons_succ, Option.getD_some]; rfl) (by kernel_rfl) (by kernel_rfl) (by kernel_rfl) (by decide) (by intro c a d v w; cases d <;> exact fun h => h) ⟨c1, c2⟩ ?_
  repeat (first | (refine wpPlan.taken (by rfl) (by intro w' hS'; (try dsimp only at hS'); go_split_ands; go_simp; try with_reducible rfl) ?_; simp only [Act.put, List.setIfInBounds_toArray, List.set_cons_zero, List.set_cons_succ]) | (refine wpPlan.passed (by rfl) ?_; simp only [Act.put, List.setIfInBounds_toArray, List.set_cons_zero, List.set_cons_succ]))
  refine wpPlan.done ?_
  have c4 : w.drew.cell? ⟨g, 4, none⟩ = some (.int .i64 (on : Int)) := c4
  clear c1 c2 c5
  go_wp2_with fail
  refine (rpackets_walk g _ s bs on mn w.drew (H.out.still (Step.refl None w).drew) OK.out HL.out.1).mono ?_
  rintro e W1 ⟨u, rfl, r1, l1, s1⟩
  have S1 : Hid (Step None w W1) := Lib.hid (((Step.refl None w).drew).then_ s1)
  have PK := Lib.hid (pks_of H.out S1.out HL.out.1 r1 l1)
  obtain ⟨uo, uc, rfl, -, -⟩ := r1.form
  have HD := Lib.hid (H.out.still S1.out)
  obtain ⟨c0, c1, c2, c4, c5, c6, c7⟩ := CE.out _ HD.out
  have f4 := blk_frozen HD.out.st 4
  have f5 := blk_frozen HD.out.st 5
  have f7 := blk_frozen HD.out.st 7
  obtain ⟨q, hq⟩ : ∃ q, mn - on = q := ⟨_, rfl⟩
  have hqp : (s.pkts on mn).length = q := by rw [Stm.pkts_len, hq]
  have HQP := Lib.hid hqp
  rw [hq]
  clear r1 l1 s1 hqp c1 c2
  have q0 : q = 0 := by have := QM.out; omega
  subst q0
  have hnil : s.pkts on mn = [] := List.eq_nil_of_length_eq_zero HQP.out
  have hnol : s.outs bs on mn = [] := List.eq_nil_of_length_eq_zero (by rw [outs_len, ← Stm.pkts_len s, hnil]; rfl)
  have pk0 := PK.out
  rw [hnil, hnol] at pk0
  have e0 : on - mn = on - mn := rfl
  have P0 : Hid (Pks W1 w.heap.size (.slice uo 0 uc) [] []) := Lib.hid (by rw [hq] at pk0; exact pk0)
  clear hq pk0 hnil hnol PK HQP e0
  cases hd : s.due
  · rw [hd] at c7
    have FIN := Lib.hid (rtick_fin (s' := s) H.out S1.out P0.out (((Step.refl (fun k => k = g) W1).setCell (p := ⟨g, 4, none⟩) (fun _ => rfl) (.int .i64 mx)).setCell (p := ⟨g, 7, none⟩) (fun _ => rfl) (.bool false)) ((blk_set (blk_set HD.out.st 4 _) 7 _).trans (by simp [Stm.cells, hd, HMX.out])) rfl)
    go_wp2_with fail
    go_ret2
    rw [E2.out hd]
    exact ⟨_, _, rfl, FIN.out.1, FIN.out.2.1, FIN.out.2.2⟩
  · rw [hd] at c7
    have st4 := Lib.hid ((Step.refl (fun k => k = g) W1).setCell (p := ⟨g, 4, none⟩) (fun _ => rfl) (.int .i64 mx))
    have g4 := Lib.hid (blk_set HD.out.st 4 (.int .i64 mx))
    go_wp2_with fail
    obtain ⟨W4, hW4⟩ : ∃ W4, W1.setCell ⟨g, 4, none⟩ (.int .i64 mx) = W4 := ⟨_, rfl⟩
    rw [hW4] at st4 g4 ⊢
    have G4 := g4
    have S4 : Hid (Step (fun k => k = g) w W4) := Lib.hid ((S1.out.none).then_ st4.out)
    have k0 := blk_cell G4.out 0
    have k6 := blk_cell G4.out 6
    clear hW4 c0 c4 c5 c6 c7 f4 f5 f7 P0
    simp [Stm.cells] at k0 k6
    refine wp_region_plan (fun w' => w'.cell? ⟨g, 0, none⟩ = some (.int .i64 s.ep) ∧ w'.cell? ⟨g, 6, none⟩ = some (.int .i64 s.taken)) (.take 0 (.take 1 (.take 2 (.take 3 (.take 4 (.take 5 (.take 6 (.take 7 (.take 8 (.alt 9 (.take 10 .done) .none)))))))))) _
      (by simp only [Plan.map, opOf, List.getElem?_toArray, List.getElem?_cons_zero, List.getElem?_cons_succ, Option.getD_some]; rfl) (by kernel_rfl) (by kernel_rfl) (by kernel_rfl) (by decide) (by intro c a d v w; cases d <;> exact fun h => h) ⟨k0, k6⟩ ?_
    repeat (first | (refine wpPlan.taken (by rfl) (by intro w' hS'; (try dsimp only at hS'); go_split_ands; go_simp; try with_reducible rfl) ?_; simp only [Act.put, List.setIfInBounds_toArray, List.set_cons_zero, List.set_cons_succ]) | (refine wpPlan.passed (by rfl) ?_; simp only [Act.put, List.setIfInBounds_toArray, List.set_cons_zero, List.set_cons_succ]))
    refine wpPlan.runs fun K' hK => ?_
    go_simp
    have sa := ((Step.refl None W4).drew).alloc (.cells (bare.packet s.ep 0 s.taken (.slice none 0 0)) 38)
    have ba := heap_alloc_new W4.drew (.cells (bare.packet s.ep 0 s.taken (.slice none 0 0)) 38)
    refine hK.out _ _ ⟨blk_cell (sa.blk G4.out (fun s => s.elim)) 0, (blk_cell (sa.blk G4.out (fun s => s.elim)) 6)⟩ ?_
    clear hK K'
    repeat (first | (refine wpPlan.taken (by rfl) (by intro w' hS'; (try dsimp only at hS'); go_split_ands; go_simp; try with_reducible rfl) ?_; simp only [Act.put, List.setIfInBounds_toArray, List.set_cons_zero, List.set_cons_succ]) | (refine wpPlan.passed (by rfl) ?_; simp only [Act.put, List.setIfInBounds_toArray, List.set_cons_zero, List.set_cons_succ]))
    refine wpPlan.done ?_
    have PK5 : Pks (W4.alloc (.cells #[.int .i64 s.ep, .int .i64 0, .int .i64 s.taken, .int .i64 0, .int .i64 0, .int .u8 0, .int .u8 0, .int .u8 0, .int .u8 0, .int .u8 0, .int .u8 0, .int .i64 0, .int .i64 0, .slice none 0 0] 38)).drew w.heap.size (.slice (some ⟨W4.heap.size, 0, none⟩) 1 1) [⟨s.ep, 0, s.taken, bare⟩] [.slice none 0 0] := by
      refine ⟨?_, rfl, fun i p b h1 h2 => ?_, fun k hk => ?_⟩
      · have := Row.ofBlock (e := 38) (sz := 14) (n := 1) (cap := 1) ba (Nat.le_refl _) (by simp [maxLen]) (by simp [Note.packet])
        exact this
      · match i with
        | 0 => simp at h1 h2; subst h1 h2; exact Own5.nil _
        | i + 1 => simp at h1
      · simp [Leads, Value.ownBlock] at hk
        have := S4.out.size
        omega
    obtain ⟨W5, hW5⟩ : ∃ W5, (W4.alloc (.cells #[.int .i64 s.ep, .int .i64 0, .int .i64 s.taken, .int .i64 0, .int .i64 0, .int .u8 0, .int .u8 0, .int .u8 0, .int .u8 0, .int .u8 0, .int .u8 0, .int .i64 0, .int .i64 0, .slice none 0 0] 38)).drew = W5 := ⟨_, rfl⟩
    have sa5 : Step None W4 W5 := by rw [← hW5]; exact sa
    rw [hW5] at PK5
    have hW5' : W4.drew.alloc (.cells #[.int .i64 s.ep, .int .i64 0, .int .i64 s.taken, .int .i64 0, .int .i64 0, .int .u8 0, .int .u8 0, .int .u8 0, .int .u8 0, .int .u8 0, .int .u8 0, .int .i64 0, .int .i64 0, .slice none 0 0] 38) = W5 := hW5
    first | rw [hW5] | rw [hW5'] | (simp only [hW5]) | (simp only [hW5'])
    have G5 := Lib.hid (sa5.blk G4.out (fun s => s.elim))
    have P5 := Lib.hid PK5
    have S5 := Lib.hid (S4.out.trans sa5 fun _ _ s => s.elim)
    have k7 := blk_cell G5.out 7
    have kf7 := blk_frozen G5.out 7
    clear sa ba sa5 PK5 hW5 hW5'
    simp [Stm.cells, hd] at k7

    go_wp2_with fail
    go_ret2
    rw [E3.out hd]
    have gl := blk_lt H.out.st
    have s8 : Step (fun k => k = g) W5 (W5.setCell ⟨g, 7, none⟩ (.bool false)) := (Step.refl (fun k => k = g) W5).setCell (p := ⟨g, 7, none⟩) (fun _ => rfl) _
    refine ⟨_, _, rfl, P5.out.step s8 (fun k hk e => by subst e; have := P5.out.base _ hk; omega) (fun k e cs fr hc => by subst e; exact blk_ne G5.out hc (by decide) rfl), H.out.tail (by decide) (by decide) rfl (S5.out.then_ s8) ((blk_set G5.out 7 _).trans (by simp [Stm.cells, HMX.out])), S5.out.then_ s8⟩

theorem rtick_any (g : Nat) (v : Value) (s : Stm) (bs : List Value) (now : Int) (w : World) (h : Sm 45 w g v s bs) (ok : s.Ok) :
    Calls Tryd.prog 19 #[.pointer (some ⟨g, 0, none⟩), .int .i64 now] w fun e w' => ∃ u bvs, e = .returned (.tuple #[u, .int .i64 (s.tick now).2.2]) ∧ Pks w' w.heap.size u (s.tick now).2.1 bvs ∧ Sm 45 w' g v (s.tick now).1 bs ∧ Step (fun k => k = g) w w' := by
  by_cases hb : now < 0 ∨ 1099511627776 < now
  · refine (rtick_bad g now w hb).mono ?_
    rintro e w' ⟨rfl, rfl⟩
    have e0 : s.tick now = (s, [], 1) := by unfold Stm.tick; rw [if_pos hb]
    rw [e0]
    exact ⟨_, [], rfl, Pks.nil _ _, h, Step.refl _ _⟩
  by_cases hr1 : min (s.ws.length : Int) s.win ≤ s.out
  · by_cases ho : 0 < s.out
    · by_cases hr2 : 3 ≤ now - s.last
      · exact rtick_resend g v s bs now w h ok (by omega) (by omega) hr1 hr2 ho
      · exact rtick_quiet g v s bs now w h ok (by omega) (by omega) hr1 hr2 ho
    · exact rtick_none g v s bs now w h ok (by omega) (by omega) hr1 ho
  · exact rtick_more g v s bs now w h ok (by omega) (by omega) hr1

theorem flatP_get : ∀ (l : List (Pkt × Value)) (i j : Nat) (p : Pkt) (v u : Value), l[i]? = some (p, v) → (p.n.packet p.ep p.sq p.ak (encV v))[j]? = some u → (flatP l)[i * 14 + j]? = some u
  | [], i, j, n, v, u, h, _ => by simp at h
  | (m, y) :: r, 0, j, p, v, u, h, hu => by
    simp at h
    obtain ⟨rfl, rfl⟩ := h
    have hj : j < 14 := (Array.getElem?_eq_some_iff.1 hu).1
    rw [Nat.zero_mul, Nat.zero_add]
    show ((m.n.packet m.ep m.sq m.ak (encV y)).toList ++ flatP r)[j]? = some u
    rw [List.getElem?_append_left (show j < (m.n.packet m.ep m.sq m.ak (encV y)).toList.length from hj)]
    simpa using hu
  | (m, y) :: r, i + 1, j, p, v, u, h, hu => by
    have ih := flatP_get r i j p v u (by simpa using h) hu
    show ((m.n.packet m.ep m.sq m.ak (encV y)).toList ++ flatP r)[(i + 1) * 14 + j]? = some u
    have hl : (m.n.packet m.ep m.sq m.ak (encV y)).toList.length = 14 := rfl
    rw [List.getElem?_append_right (by rw [hl]; omega), hl, show (i + 1) * 14 + j - 14 = i * 14 + j by omega]
    exact ih
theorem Pks.load {w : World} {B b off k cap : Nat} {l : List Pkt} {bvs : List Value} {j : Nat} {p : Pkt} (h : Pks w B (.slice (some ⟨b, off, none⟩) k cap) l bvs) (hp : l[j]? = some p) :
    ∃ bo bc, Own5 w (.slice bo p.n.body.length bc) p.n.body ∧ (Instr.loadAt 38 (.pointer (some ⟨b, off + j * 14, none⟩))).run Tryd.prog w = .ok (.agg (p.n.packet p.ep p.sq p.ak (.slice bo p.n.body.length bc))) w := by
  have hlt := (List.getElem?_eq_some_iff.1 hp).1
  obtain ⟨c, hc⟩ : ∃ c, bvs[j]? = some c := ⟨_, List.getElem?_eq_getElem (by rw [h.len]; exact hlt)⟩
  have ho := h.body j p c hp hc
  obtain ⟨bo, bc, rfl, -, -⟩ := Row.form ho
  refine ⟨bo, bc, ho, ?_⟩
  obtain ⟨b', off', cap', e, -, -, -, hcell, -⟩ := h.row.cells (by omega)
  simp only [Value.slice.injEq, Option.some.injEq, Addr.mk.injEq] at e
  obtain ⟨⟨rfl, rfl, -⟩, -, rfl⟩ := e
  have := run_loadAt_mid (P := Tryd.prog) w b (off + j * 14) 38 (p.n.packet p.ep p.sq p.ak (.slice bo p.n.body.length bc)).toList _ (fun i u hi => by
    rw [Nat.add_assoc]
    exact hcell _ _ (flatP_get _ j i p (.slice bo p.n.body.length bc) u (by rw [List.getElem?_zip_eq_some]; exact ⟨hp, hc⟩) (by simpa [encV, Value.oneCell'] using hi))) Tryd.underlying38 rfl (by kernel_rfl)
  simpa using this
theorem load_kept {w w' : World} {B b off k cap : Nat} {l : List Pkt} {bvs : List Value} {j : Nat} {p : Pkt} {x : Value} (h : Pks w B (.slice (some ⟨b, off, none⟩) k cap) l bvs) (hp : l[j]? = some p) (hl : (Instr.loadAt 38 (.pointer (some ⟨b, off + j * 14, none⟩))).run Tryd.prog w = .ok x w) (hs : Step None w w') :
    (Instr.loadAt 38 (.pointer (some ⟨b, off + j * 14, none⟩))).run Tryd.prog w' = .ok x w' := by
  have hlt := (List.getElem?_eq_some_iff.1 hp).1
  obtain ⟨c, hc⟩ : ∃ c, bvs[j]? = some c := ⟨_, List.getElem?_eq_getElem (by rw [h.len]; exact hlt)⟩
  have go : ∀ W, Step None w W → (Instr.loadAt 38 (.pointer (some ⟨b, off + j * 14, none⟩))).run Tryd.prog W = .ok (.agg (p.n.packet p.ep p.sq p.ak (encV c))) W := fun W hW => by
    obtain ⟨b', off', cap', e, -, -, -, hcell, -⟩ := (h.still hW).row.cells (by omega)
    simp only [Value.slice.injEq, Option.some.injEq, Addr.mk.injEq] at e
    obtain ⟨⟨rfl, rfl, -⟩, -, rfl⟩ := e
    have := run_loadAt_mid (P := Tryd.prog) W b (off + j * 14) 38 (p.n.packet p.ep p.sq p.ak (encV c)).toList _ (fun i u hi => by
      rw [Nat.add_assoc]
      exact hcell _ _ (flatP_get _ j i p c u (by rw [List.getElem?_zip_eq_some]; exact ⟨hp, hc⟩) (by simpa using hi))) Tryd.underlying38 rfl (by kernel_rfl)
    simpa using this
  have e1 := go w (Step.refl _ _)
  rw [e1] at hl
  cases hl
  exact go w' hs
theorem sameP_refl (p : Pkt) : sameP p.ep p.sq p.ak p.n p.ep p.sq p.ak p.n = true := by simp [sameP, sameN_refl]
set_option maxHeartbeats 4000000 in
theorem same_any (w : World) (B C : Nat) (u v : Value) (l : List Pkt) (bvs cvs : List Value) (h1 : Pks w B u l bvs) (h2 : Pks w C v l cvs) (hl : l.length ≤ 5000) (hbl : ∀ p ∈ l, p.n.body.length ≤ 10000) :
    Calls Tryd.prog 20 #[u, v] w fun e w' => e = .returned (.bool true) ∧ Step None w w' := by
  obtain ⟨uo, uc, rfl, -, -⟩ := h1.row.form
  obtain ⟨vo, vc, rfl, -, -⟩ := h2.row.form
  have H1 := Lib.hid h1
  have H2 := Lib.hid h2
  have HL := Lib.hid hl
  have HB := Lib.hid hbl
  have d0 : (((l.length : Nat) : Int) != ((l.length : Nat) : Int)) = false := by simp
  clear h1 h2 hl hbl
  go_enter Tryd.func20, Tryd.ntmps20
  go_wp2_with fail
  go_loopw [5] (fun i wr => ∃ j : Nat, i = .int .i64 j ∧ j ≤ l.length ∧ Step None w wr) (fun i _ => l.length - (intOf i).toNat)
  case atStart => exact ⟨0, rfl, Nat.zero_le _, Step.refl _ _⟩
  case round =>
    obtain ⟨j, rfl, hj, hs⟩ := hrel
    have HS := Lib.hid hs
    clear hs
    by_cases hjl : j < l.length
    rotate_left
    · have d1 : decide ((j : Int) < (l.length : Int)) = false := decide_eq_false (by omega)
      have d2 : decide (j < l.length) = false := decide_eq_false hjl
      clear hj hjl
      go_wp2_with fail
      go_ret
      exact ⟨rfl, HS.out⟩
    · have d1 : decide ((j : Int) < (l.length : Int)) = true := decide_eq_true (by omega)
      have d2 : decide (j < l.length) = true := decide_eq_true hjl
      have HJ := Lib.hid hjl
      obtain ⟨p, hp⟩ : ∃ p, l[j]? = some p := ⟨_, List.getElem?_eq_getElem hjl⟩
      obtain ⟨b1, o1, c1, -, hv1, -⟩ := H1.out.row.lies (by omega)
      obtain ⟨b2, o2, c2, -, hv2, -⟩ := H2.out.row.lies (by omega)
      simp only [Value.slice.injEq] at hv1 hv2
      obtain ⟨rfl, -, rfl⟩ := hv1
      obtain ⟨rfl, -, rfl⟩ := hv2
      have sd := HS.out.drew
      obtain ⟨x1, y1, ho1, ld1⟩ := (H1.out.still sd).load hp
      obtain ⟨x2, y2, ho2, ld2⟩ := (H2.out.still sd).load hp
      have hbl := HB.out p (List.mem_of_getElem? hp)
      have LOAD1 : Hid (∀ w', Step None wr.drew w' → (Instr.loadAt 38 (.pointer (some ⟨b1, o1 + j * 14, none⟩))).run Tryd.prog w' = .ok (.agg (p.n.packet p.ep p.sq p.ak (.slice x1 p.n.body.length y1))) w') := Lib.hid fun w' hs' => load_kept (H1.out.still sd) hp ld1 hs'
      have LOAD2 : Hid (∀ w', Step None wr.drew w' → (Instr.loadAt 38 (.pointer (some ⟨b2, o2 + j * 14, none⟩))).run Tryd.prog w' = .ok (.agg (p.n.packet p.ep p.sq p.ak (.slice x2 p.n.body.length y2))) w') := Lib.hid fun w' hs' => load_kept (H2.out.still sd) hp ld2 hs'
      have CC := Lib.hid (sameP_any p.ep p.sq p.ak p.ep p.sq p.ak p.n p.n x1 x2 y1 y2 wr.drew (ho1.bytes (by omega)) (ho2.bytes (by omega)))
      have i0 : (0 : Int) ≤ (j : Int) := by omega
      have i1 : (j : Int) < (l.length : Int) := by omega
      have hj1 : 0 ≤ (j : Int) + 1 ∧ (j : Int) + 1 ≤ 2000000000000 := by have := HL.out; omega
      obtain ⟨wj2, wj1⟩ := small_wrap hj1.1 hj1.2
      have SR := Lib.hid (sameP_refl p)
      clear hj1 ho1 ho2 hbl hj hp hjl sd
      go_wp2_with fail
      refine wp_region_plan (fun w' => (Instr.loadAt 38 (.pointer (some ⟨b1, o1 + j * 14, none⟩))).run Tryd.prog w' = .ok (.agg (p.n.packet p.ep p.sq p.ak (.slice x1 p.n.body.length y1))) w' ∧ (Instr.loadAt 38 (.pointer (some ⟨b2, o2 + j * 14, none⟩))).run Tryd.prog w' = .ok (.agg (p.n.packet p.ep p.sq p.ak (.slice x2 p.n.body.length y2))) w') (.take 0 (.take 1 (.take 2 (.take 3 (.take 4 (.take 5 (.take 6 (.take 7 (.alt 8 (.take 9 .done) .none))))))))) _
        (by simp only [Plan.map, opOf, List.getElem?_toArray, List.getElem?_cons_zero, List.getElem?_cons_succ, Option.getD_some]; rfl) (by kernel_rfl) (by kernel_rfl) (by kernel_rfl) (by decide) (by intro c a d v w; cases d <;> exact fun h => h) ⟨ld1, ld2⟩ ?_
      repeat (first | (refine wpPlan.taken (by rfl) (fun w' hS' => run_load_op rfl rfl hS'.1) ?_; simp only [Act.put, List.setIfInBounds_toArray, List.set_cons_zero, List.set_cons_succ]) | (refine wpPlan.taken (by rfl) (fun w' hS' => run_load_op rfl rfl hS'.2) ?_; simp only [Act.put, List.setIfInBounds_toArray, List.set_cons_zero, List.set_cons_succ]) | (refine wpPlan.taken (by rfl) (by intro w' hS'; (try dsimp only at hS'); go_split_ands; go_simp; try with_reducible rfl) ?_; simp only [Act.put, List.setIfInBounds_toArray, List.set_cons_zero, List.set_cons_succ]) | (refine wpPlan.passed (by rfl) ?_; simp only [Act.put, List.setIfInBounds_toArray, List.set_cons_zero, List.set_cons_succ]))
      refine wpPlan.runs fun K' hK => ?_
      go_simp
      refine CC.out.mono ?_
      rintro e w7 ⟨rfl, s7⟩
      rw [SR.out]
      have FS := Lib.hid ((HS.out.drew).then_ s7)
      refine hK.out _ _ ?_ ?_
      · exact ⟨LOAD1.out _ s7, LOAD2.out _ s7⟩
      clear hK K' s7
      repeat (first | (refine wpPlan.taken (by rfl) (by intro w' hS'; (try dsimp only at hS'); go_split_ands; go_simp; try with_reducible rfl) ?_; simp only [Act.put, List.setIfInBounds_toArray, List.set_cons_zero, List.set_cons_succ]) | (refine wpPlan.passed (by rfl) ?_; simp only [Act.put, List.setIfInBounds_toArray, List.set_cons_zero, List.set_cons_succ]))
      refine wpPlan.done ?_
      go_wp2_with fail
      go_roundw
      case rel =>
        have := HJ.out
        exact ⟨j + 1, by simp, by omega, FS.out⟩
      case measure =>
        have := HJ.out
        simp [intOf]
        omega
end Go.Proofs.YtgchepijbpcckaaDoor
