/- The document's Get. -/
import Derived.Test.YtboaelkpmfagfaaW13
namespace Go.Proofs.Ytboaelkpmfagfaa
open Go.RowKit Go.Gm

/-- j is the first of the first k whose class is the greatest. -/
def Best (W : List (Int × List Int)) (k j : Nat) : Prop := ∃ p, W[j]? = some p ∧ j < k ∧ (∀ i q, i < j → W[i]? = some q → q.1 < p.1) ∧ ∀ i q, i < k → W[i]? = some q → q.1 ≤ p.1

theorem Best.first {W : List (Int × List Int)} (h : 0 < W.length) : Best W 1 0 := by
  refine ⟨W[0], by simp [h], by omega, fun i q hi => by omega, fun i q hi hq => ?_⟩
  obtain rfl : i = 0 := by omega
  simp [h] at hq
  subst hq
  exact Int.le_refl _
theorem Best.more {W : List (Int × List Int)} {k j : Nat} (h : Best W k j) {p q : Int × List Int} (hj : W[j]? = some p) (hk : W[k]? = some q) (hlt : p.1 < q.1) : Best W (k + 1) k := by
  obtain ⟨p', hp', h1, h2, h3⟩ := h
  rw [hj] at hp'
  cases hp'
  refine ⟨q, hk, by omega, fun i r hi hr => ?_, fun i r hi hr => ?_⟩
  · have := h3 i r hi hr; omega
  · by_cases e : i = k
    · subst e
      rw [hk] at hr
      cases hr
      exact Int.le_refl _
    · have := h3 i r (by omega) hr; omega
theorem Best.same {W : List (Int × List Int)} {k j : Nat} (h : Best W k j) {p q : Int × List Int} (hj : W[j]? = some p) (hk : W[k]? = some q) (hle : ¬ p.1 < q.1) : Best W (k + 1) j := by
  obtain ⟨p', hp', h1, h2, h3⟩ := h
  rw [hj] at hp'
  cases hp'
  refine ⟨p, hj, by omega, h2, fun i r hi hr => ?_⟩
  by_cases e : i = k
  · subst e
    rw [hk] at hr
    cases hr
    omega
  · exact h3 i r (by omega) hr

theorem Best.uniq {W : List (Int × List Int)} {k i j : Nat} (h : Best W k i) (h' : Best W k j) : i = j := by
  obtain ⟨p, hp, h1, h2, h3⟩ := h
  obtain ⟨q, hq, g1, g2, g3⟩ := h'
  rcases Nat.lt_trichotomy i j with h | h | h
  · have := g2 i p h hp
    have := h3 j q g1 hq
    omega
  · exact h
  · have := h2 j q h hq
    have := g3 i p h1 hp
    omega

/-- v[:j]. -/
theorem Row.taken {w : World} {e : TypeId} {sz n cap j : Nat} {ao : Option Addr} {xs : List Value} (h : Row w e sz (.slice ao n cap) n xs) (hj : j ≤ n) : Row w e sz (.slice ao j cap) j (xs.take (j * sz)) := by
  obtain ⟨h1, ao', cap', hv, h2, h3, h4⟩ := h
  simp only [Value.slice.injEq, true_and] at hv
  obtain ⟨rfl, rfl⟩ := hv
  have hle : j * sz ≤ n * sz := Nat.mul_le_mul_right _ hj
  refine ⟨by rw [List.length_take, h1]; omega, ao, cap, rfl, by omega, h3, ?_⟩
  rcases h4 with h4 | ⟨b, off, cur, rfl, hb, h5, h6⟩
  · exact .inl h4
  · refine .inr ⟨b, off, cur, rfl, hb, h5, ?_⟩
    rw [← h6, List.take_take, Nat.min_eq_left hle]

/-- v[k:]. -/
theorem Row.rest {w : World} {e : TypeId} {sz n cap k b off off' : Nat} {xs : List Value} (h : Row w e sz (.slice (some ⟨b, off, none⟩) n cap) n xs) (hn : 0 < n) (hk : k ≤ n) (ho : (cap = k ∧ off' = off) ∨ off' = off + k * sz) :
    Row w e sz (.slice (some ⟨b, off', none⟩) (n - k) (cap - k)) (n - k) (xs.drop (k * sz)) := by
  obtain ⟨b1, off1, cap1, cur, hv, h2, h3, hb, h5, h6⟩ := h.lies hn
  simp only [Value.slice.injEq, Option.some.injEq, Addr.mk.injEq, true_and] at hv
  obtain ⟨⟨rfl, rfl, -⟩, rfl⟩ := hv
  refine Row.dropped hb hk h2 h3 h5 h6 ?_
  rcases ho with ⟨rfl, rfl⟩ | rfl
  · exact .inr ⟨by omega, by simp; omega⟩
  · exact .inl rfl

theorem rget_none (g : Nat) (w : World) {Q : Nat} {room : Int} {L : Nat → Int} (h : RSt w Q g room [] L) :
    Calls Try.prog 22 #[.pointer (some ⟨g, 0, none⟩)] w fun e w' => e = .returned (.tuple #[.int .i64 0, .slice none 0 0, .bool false]) ∧ w = w' := by
  obtain ⟨ao, cap, hl, -⟩ := h.at
  clear h
  simp only [List.length_nil] at hl
  go_enter Try.func22, Try.ntmps22
  go_wp2_with fail
  go_loop [5, 6] (fun b i => b = .int .i64 (-1) ∧ i = .int .i64 0) (fun _ _ => 0)
  case atStart => exact ⟨rfl, rfl⟩
  case round =>
    obtain ⟨rfl, rfl⟩ := hrel
    go_wp2_with fail
    go_ret3
    exact ⟨rfl, rfl⟩

/-- Behind the appends and the store. -/
theorem RSt.got {w w3 : World} {Q g j : Nat} {room : Int} {W : List (Int × List Int)} {L : Nat → Int} (hg : Q ≤ g) {cur : Array Value} {v0 : Value} {ws : List (Int × Value)}
    (h : w.heap[g]? = some (.cells cur 54 (0, 0)) ∧ cur.size = 10 ∧ cur[0]? = some (.int .i64 room) ∧ cur[1]? = some v0 ∧ (∀ c, c < 8 → cur[2 + c]? = some (.int .i64 (L c))) ∧ RL w v0 W ws)
    (hs : Step None w w3) (hj : j < W.length) {v : Value} {n : Nat} (hn : n = W.length - 1) (hr : Row w3 56 2 v n ((flat ws).take (j * 2) ++ (flat ws).drop ((j + 1) * 2))) :
    RSt (w3.setCell ⟨g, 1, none⟩ v) Q g room (W.take j ++ W.drop (j + 1)) L ∧ Step (fun k => k = g) w (w3.setCell ⟨g, 1, none⟩ v) := by
  obtain ⟨hb, h1, h2, h3, h4, h5⟩ := h
  have hb3 := hs.blk hb (fun s => s.elim)
  have e4 : Step (fun k => k = g) w3 (w3.setCell ⟨g, 1, none⟩ v) := Step.setCell (S := fun k => k = g) (Step.refl _ w3) (p := ⟨g, 1, none⟩) (fun _ => rfl) v
  have e5 : Step (fun k => k = g) w (w3.setCell ⟨g, 1, none⟩ v) := (hs.mono fun _ _ s => s.elim).then_ e4
  have hl5 := h5.len
  have hlen : (W.take j ++ W.drop (j + 1)).length = n := by simp; omega
  refine ⟨⟨⟨_, v, ws.take j ++ ws.drop (j + 1), blk_set hb3 1 v, by simpa using h1, ?_, ?_, fun d hd => ?_, ⟨?_, by simp [h5.len], fun i p hi => ?_⟩⟩, hg⟩, e5⟩
  · rw [Array.getElem?_setIfInBounds_ne (by omega)]; exact h2
  · rw [Array.getElem?_setIfInBounds_self_of_lt (by omega)]
  · rw [Array.getElem?_setIfInBounds_ne (by omega)]; exact h4 d hd
  · rw [flat_append, flat_take, flat_drop, hlen]
    exact hr.step e4 fun k hk => by rintro rfl; exact hr.ne hb3 (by decide) hk
  · have hmap : ∃ i' : Nat, W[i']? = some p ∧ (ws.take j ++ ws.drop (j + 1))[i]? = ws[i']? := by
      rcases Nat.lt_or_ge i j with hlt | hge
      · rw [List.getElem?_append_left (by simp; omega), List.getElem?_take_of_lt hlt] at hi
        exact ⟨i, hi, by rw [List.getElem?_append_left (by simp; omega), List.getElem?_take_of_lt hlt]⟩
      · rw [List.getElem?_append_right (by simp; omega), List.getElem?_drop] at hi
        refine ⟨_, hi, ?_⟩
        rw [List.getElem?_append_right (by simp; omega), List.getElem?_drop]
        simp only [List.length_take, hl5]
    obtain ⟨i', hi', hw⟩ := hmap
    obtain ⟨y, hy, hel⟩ := h5.els i' p hi'
    refine ⟨y, by rw [hw, hy], hel.step e5 fun k hk => ?_⟩
    rintro rfl
    exact hel.row.ne hb (by decide) hk

set_option maxHeartbeats 400000 in
theorem rget_some (g j : Nat) (w : World) {Q : Nat} {room : Int} {W : List (Int × List Int)} {L : Nat → Int} (h : RSt w Q g room W L) (hW : W.length ≤ 100000) (hb : Best W W.length j) {p : Int × List Int} (hp : W[j]? = some p) :
    Calls Try.prog 22 #[.pointer (some ⟨g, 0, none⟩)] w fun e w' => ∃ u, e = .returned (.tuple #[.int .i64 p.1, u, .bool true]) ∧ El w' 0 u p.2 ∧ RSt w' Q g room (W.take j ++ W.drop (j + 1)) L ∧ Step (fun k => k = g) w w' := by
  have H := Lib.hid h
  obtain ⟨cur, v, ws, hh⟩ := h.blk
  obtain ⟨ao, cap, rfl, -, -⟩ := hh.2.2.2.2.2.row.form
  have hl := (blk_cell hh.1 1).trans hh.2.2.2.1
  obtain ⟨ao', cap', hl', hcap, hmax, hat⟩ := h.at
  rw [hl] at hl'
  simp only [Option.some.injEq, Value.slice.injEq, true_and] at hl'
  obtain ⟨rfl, rfl⟩ := hl'
  have hjl : j < W.length := by
    rcases Nat.lt_or_ge j W.length with h | h
    · exact h
    · rw [List.getElem?_eq_none h] at hp; cases hp
  obtain ⟨b0, off0, u0, rfl, -, -, -⟩ := hat j p hp
  have K : Hid (∀ w', Step None w w' → w'.cell? ⟨g, 1, none⟩ = some (.slice (some ⟨b0, off0, none⟩) W.length cap)) := fun w' h' => (blk_cell (h'.blk hh.1 (fun s => s.elim)) 1).trans hh.2.2.2.1
  have HH := Lib.hid hh
  have HAT : Hid (∀ w', Step None w w' → ∀ (j : Nat) (p : Int × List Int), W[j]? = some p → ∃ u, w'.cell? ⟨b0, off0 + j * 2, none⟩ = some (.int .i64 p.1) ∧ w'.cell? ⟨b0, off0 + j * 2 + 1, none⟩ = some u ∧ El w' 0 u p.2) := fun w' h' j p hj => by
    obtain ⟨b, off, u, hv, h1, h2, h3⟩ := hat j p hj
    simp only [Option.some.injEq, Addr.mk.injEq] at hv
    obtain ⟨rfl, rfl, -⟩ := hv
    exact ⟨u, (h'.cell (p := ⟨b0, off0 + j * 2, none⟩) (World.block_lt_of_cell? w _ h1) (fun s => s.elim)).trans h1, (h'.cell (p := ⟨b0, off0 + j * 2 + 1, none⟩) (World.block_lt_of_cell? w _ h2) (fun s => s.elim)).trans h2, h3.step h' (fun _ _ s => s.elim)⟩
  have HO : Hid (∀ u ∈ flat ws, u.oneCell' = true) := RL.one hh.2.2.2.2.2
  have HB := Lib.hid hb
  have HP := Lib.hid hp
  clear h hh hat hb hp hl
  go_enter Try.func22, Try.ntmps22
  go_wp2_with fail
  go_loopw [5, 6] (fun b i wr => ∃ k : Nat, k ≤ W.length ∧ i = .int .i64 k ∧ ((k = 0 ∧ b = .int .i64 (-1)) ∨ ∃ m : Nat, b = .int .i64 m ∧ Hid (Best W k m)) ∧ Hid (Step None w wr)) (fun _ i _ => W.length - (intOf i).toNat)
  case atStart => exact ⟨0, by omega, rfl, .inl ⟨rfl, rfl⟩, Step.refl _ _⟩
  case round =>
    obtain ⟨k, hk, rfl, hbest, hst⟩ := hrel
    have hl' := K.out _ hst.out
    by_cases hlt : k < W.length
    · obtain ⟨uk, k0, k1, -⟩ := HAT.out _ hst.out k W[k] (by simp [hlt])
      have i0 : (0 : Int) ≤ (k : Int) := by omega
      have i1 : (k : Int) < (W.length : Int) := by omega
      rcases hbest with ⟨rfl, rfl⟩ | ⟨m, rfl, hm⟩
      · have hf := Lib.hid (Best.first (W := W) (by omega))
        go_wp2_with fail
        go_quiet (fail)
        go_wp2_with fail
        go_roundw
        case rel => exact ⟨1, by omega, by go_num, .inr ⟨0, rfl, hf.out⟩, hst.out.drewN _⟩
        case measure => simp [intOf]; omega
      · obtain ⟨pm, hpm, hmk, -⟩ := id hm.out
        obtain ⟨um, m0, m1, -⟩ := HAT.out _ hst.out m pm hpm
        have j0 : (0 : Int) ≤ (m : Int) := by omega
        have j1 : (m : Int) < (W.length : Int) := by omega
        have c0 : decide ((m : Int) < 0) = false := by simp
        by_cases hgt : pm.1 < W[k].1
        · have hg : decide (pm.1 < W[k].1) = true := by simpa using hgt
          have hn := Lib.hid (hm.out.more hpm (by simp [hlt]) hgt)
          clear hpm hgt
          go_wp2_with fail
          go_quiet (fail)
          go_wp2_with fail
          go_roundw
          case rel => exact ⟨k + 1, by omega, by go_num, .inr ⟨k, rfl, hn.out⟩, hst.out.drewN _⟩
          case measure => simp [intOf]; omega
        · have hg : decide (pm.1 < W[k].1) = false := by simpa using hgt
          have hn := Lib.hid (hm.out.same hpm (q := W[k]) (by simp [hlt]) hgt)
          clear hpm hgt
          go_wp2_with fail
          go_quiet (fail)
          go_wp2_with fail
          go_roundw
          case rel => exact ⟨k + 1, by omega, by go_num, .inr ⟨m, rfl, hn.out⟩, hst.out.drewN _⟩
          case measure => simp [intOf]; omega
    · obtain rfl : k = W.length := by omega
      rcases hbest with ⟨h0, -⟩ | ⟨m, rfl, hm⟩
      · omega
      · obtain rfl : m = j := hm.out.uniq HB.out
        obtain ⟨u, k0, k1, hu⟩ := HAT.out _ hst.out m p HP.out
        obtain ⟨uo, ucap, rfl, -, -⟩ := hu.row.form
        have HU := Lib.hid hu
        have j0 : (0 : Int) ≤ (m : Int) := by omega
        have j1 : (m : Int) < (W.length : Int) := by omega
        have c0 : decide ((m : Int) < 0) = false := by simp
        have hw1 : IntKind.i64.wrap ((m : Int) + 1) = (m : Int) + 1 := IntWalk.i64_in _ (by omega)
        have j2 : (0 : Int) ≤ (m : Int) + 1 := by omega
        have j3 : (m : Int) + 1 ≤ (W.length : Int) := by omega
        clear hu hm
        by_cases hcm : cap = m + 1
        · subst hcm
          have q0 : (m : Int) ≤ (m : Int) + 1 := by omega
          have q1 : (W.length : Int) ≤ (m : Int) + 1 := by omega
          have q2 : (W.length : Int) ≤ ((m + 1 : Nat) : Int) := by omega
          have q3 : (m : Int) ≤ ((m + 1 : Nat) : Int) := by omega
          go_wp2_with fail
          refine wp_region_plan (fun w' => w'.cell? ⟨g, 1, none⟩ = some (.slice (some ⟨b0, off0, none⟩) W.length (m + 1))) (.take 0 (.take 2 (.take 3 (.take 4 (.take 5 (.take 6 (.take 7 (.take 9 (.take 10 (.take 11 (.take 12 (.take 13 (.take 14 (.take 15 (.alt 1 (.alt 8 (.alt 16 (.take 17 (.take 18 (.last 19))) .none) .none) .none))))))))))))))) _ (by simp only [Plan.map, opOf, List.getElem?_toArray, List.getElem?_cons_zero, List.getElem?_cons_succ, Option.getD_some]; rfl) (by kernel_rfl) (by kernel_rfl) (by kernel_rfl) (by decide) (by intro c a d v w; cases d <;> exact fun h => h) (K.out _ ((hst.out.alloc _).drew)) ?_
          repeat (refine wpPlan.taken (by rfl) (by intro w' hS'; (try dsimp only at hS'); go_split_ands; go_simp; try with_reducible rfl) ?_; simp only [Act.put, List.setIfInBounds_toArray, List.set_cons_zero, List.set_cons_succ])
          refine wpPlan.runs fun K' hK => ?_
          go_simp
          refine hK.out _ _ (K.out _ (((hst.out.alloc _).drew).alloc _)) ?_
          clear hK K'
          refine wpPlan.runs fun K' hK => ?_
          have hb1 : (((wr.alloc (.cells #[.int .i64 p.1, .slice uo p.2.length ucap] 56)).drew).alloc (.cells #[] 56)).heap[wr.heap.size + 1]? = some (.cells #[] 56 (0, 0)) := by simpa using heap_alloc_new ((wr.alloc (.cells #[.int .i64 p.1, .slice uo p.2.length ucap] 56)).drew) (.cells #[] 56)
          refine step_append_new (w0 := wr.alloc (.cells #[.int .i64 p.1, .slice uo p.2.length ucap] 56)) (b := wr.heap.size + 1) (m := m) (news := (flat ws).take (m * 2)) T52 (by rfl) (.tmp 49) (.tmp 55) (by rfl) (by rfl) (by exact hb1) (((Step.refl _ _).drew).alloc _) (by simp) (by rfl) (Row.src T52 (Row.taken (HH.out.2.2.2.2.2.row.step (((hst.out.alloc _).drew).alloc _) (fun _ _ s => s.elim)) (by omega)) (fun u hu => HO.out u (List.mem_of_mem_take hu))) (by simp [maxLen]; omega) (by omega) ?_
          intro v1 w1 r1 t1 g1 l1
          have e1 : Step None w w1 := (hst.out.alloc _).then_ g1
          obtain ⟨o1, cap1, rfl, -, -⟩ := r1.form
          refine hK.out _ _ (K.out _ e1) ?_
          clear hK K'
          refine wpPlan.runs fun K' hK => ?_
          refine step_append_row (y := .slice (some ⟨b0, off0, none⟩) 0 0) (m := 0) (news := (flat ws).drop ((m + 1) * 2)) T52 (by rfl) (.tmp 56) (.tmp 63) (by rfl) (by rfl) r1 (by rfl) (by have hsrc := Row.src T52 (Row.rest (k := m + 1) (HH.out.2.2.2.2.2.row.step e1 (fun _ _ s => s.elim)) (by omega) (by omega) (.inl ⟨rfl, rfl⟩)) (fun u hu => HO.out u (List.mem_of_mem_drop hu)); rw [Nat.sub_self, show W.length - (m + 1) = 0 by omega] at hsrc; exact hsrc) (by simp [maxLen]; omega) (by omega) ?_
          intro v3 w3 r3 t3 l3
          rw [Nat.add_zero] at r3
          obtain ⟨o3, cap3, rfl, -, -⟩ := r3.form
          have g3 := g1.trans t3 fun k hk s => by have := l1 k s; omega
          have e3 : Step None w w3 := (hst.out.alloc _).then_ g3
          refine hK.out _ _ (K.out _ e3) ?_
          clear hK K'
          repeat (refine wpPlan.taken (by rfl) (by intro w' hS'; (try dsimp only at hS'); go_split_ands; go_simp; try with_reducible rfl) ?_; simp only [Act.put, List.setIfInBounds_toArray, List.set_cons_zero, List.set_cons_succ])
          refine wpPlan.ends fun K' hK => ?_
          have hf3 := blk_frozen (e3.blk HH.out.1 (fun s => s.elim)) 1
          have hk3 := K.out _ e3
          have HN := Lib.hid (RSt.got H.out.base HH.out e3 hjl (by omega) r3)
          go_simp
          refine hK.out _ _ ?_
          clear hK K'
          have hx : Hid (El (w3.setCell ⟨g, 1, none⟩ (.slice o3 m cap3)) 0 (.slice uo p.2.length ucap) p.2) :=
            ((HU.out.step ((Step.refl None wr).alloc _) (fun _ _ s => s.elim)).step g3 (fun _ _ s => s.elim)).step (Step.setCell (S := fun k => k = g) (Step.refl _ w3) (p := ⟨g, 1, none⟩) (fun _ => rfl) _) fun k hk => by
              rintro rfl
              exact HU.out.row.ne (hst.out.blk HH.out.1 (fun s => s.elim)) (by decide) hk
          have hcx := blk_cell (e3.blk HH.out.1 (fun s => s.elim)) 1
          have hbx : (w3.setCell ⟨g, 1, none⟩ (.slice o3 m cap3)).heap[wr.heap.size]? = some (.cells #[.int .i64 p.1, .slice uo p.2.length ucap] 56 (0, 0)) := by
            rw [Below.heap_setCell _ _ _ _ (by have := H.out.lt; have := hst.out.size; simp; omega)]
            exact g3.blk (heap_alloc_new _ _) (fun s => s.elim)
          have hy0 := blk_cell hbx 0
          have hy1 := blk_cell hbx 1
          clear hf3 hk3 hbx hcx
          go_wp2_with fail
          go_quiet (fail)
          go_wp2_with fail
          go_ret3
          exact ⟨_, rfl, hx.out.step ((Step.refl None _).drewN _) (fun _ _ s => s.elim), HN.out.1.drewN _, HN.out.2.drewN _⟩
        · have q0 : (m : Int) ≤ (cap : Int) := by omega
          have q1 : (W.length : Int) ≤ (cap : Int) := by omega
          have q2 : cap ≠ m + 1 := hcm
          go_wp2_with fail
          refine wp_region_plan (fun w' => w'.cell? ⟨g, 1, none⟩ = some (.slice (some ⟨b0, off0, none⟩) W.length cap)) (.take 0 (.take 2 (.take 3 (.take 4 (.take 5 (.take 6 (.take 7 (.take 9 (.take 10 (.take 11 (.take 12 (.take 13 (.take 14 (.take 15 (.alt 1 (.alt 8 (.alt 16 (.take 17 (.take 18 (.last 19))) .none) .none) .none))))))))))))))) _ (by simp only [Plan.map, opOf, List.getElem?_toArray, List.getElem?_cons_zero, List.getElem?_cons_succ, Option.getD_some]; rfl) (by kernel_rfl) (by kernel_rfl) (by kernel_rfl) (by decide) (by intro c a d v w; cases d <;> exact fun h => h) (K.out _ ((hst.out.alloc _).drew)) ?_
          repeat (refine wpPlan.taken (by rfl) (by intro w' hS'; (try dsimp only at hS'); go_split_ands; go_simp; try with_reducible rfl) ?_; simp only [Act.put, List.setIfInBounds_toArray, List.set_cons_zero, List.set_cons_succ])
          refine wpPlan.runs fun K' hK => ?_
          go_simp
          refine hK.out _ _ (K.out _ (((hst.out.alloc _).drew).alloc _)) ?_
          clear hK K'
          refine wpPlan.runs fun K' hK => ?_
          have hb1 : (((wr.alloc (.cells #[.int .i64 p.1, .slice uo p.2.length ucap] 56)).drew).alloc (.cells #[] 56)).heap[wr.heap.size + 1]? = some (.cells #[] 56 (0, 0)) := by simpa using heap_alloc_new ((wr.alloc (.cells #[.int .i64 p.1, .slice uo p.2.length ucap] 56)).drew) (.cells #[] 56)
          refine step_append_new (w0 := wr.alloc (.cells #[.int .i64 p.1, .slice uo p.2.length ucap] 56)) (b := wr.heap.size + 1) (m := m) (news := (flat ws).take (m * 2)) T52 (by rfl) (.tmp 49) (.tmp 55) (by rfl) (by rfl) (by exact hb1) (((Step.refl _ _).drew).alloc _) (by simp) (by rfl) (Row.src T52 (Row.taken (HH.out.2.2.2.2.2.row.step (((hst.out.alloc _).drew).alloc _) (fun _ _ s => s.elim)) (by omega)) (fun u hu => HO.out u (List.mem_of_mem_take hu))) (by simp [maxLen]; omega) (by omega) ?_
          intro v1 w1 r1 t1 g1 l1
          have e1 : Step None w w1 := (hst.out.alloc _).then_ g1
          obtain ⟨o1, cap1, rfl, -, -⟩ := r1.form
          refine hK.out _ _ (K.out _ e1) ?_
          clear hK K'
          refine wpPlan.runs fun K' hK => ?_
          refine step_append_row T52 (by rfl) (.tmp 56) (.tmp 63) (by rfl) (by rfl) r1 (by rfl) (Row.src T52 (Row.rest (k := m + 1) (HH.out.2.2.2.2.2.row.step e1 (fun _ _ s => s.elim)) (by omega) (by omega) (.inr rfl)) (fun u hu => HO.out u (List.mem_of_mem_drop hu))) (by simp [maxLen]; omega) (by omega) ?_
          intro v3 w3 r3 t3 l3
          obtain ⟨o3, cap3, rfl, -, -⟩ := r3.form
          have g3 := g1.trans t3 fun k hk s => by have := l1 k s; omega
          have e3 : Step None w w3 := (hst.out.alloc _).then_ g3
          refine hK.out _ _ (K.out _ e3) ?_
          clear hK K'
          repeat (refine wpPlan.taken (by rfl) (by intro w' hS'; (try dsimp only at hS'); go_split_ands; go_simp; try with_reducible rfl) ?_; simp only [Act.put, List.setIfInBounds_toArray, List.set_cons_zero, List.set_cons_succ])
          refine wpPlan.ends fun K' hK => ?_
          have hf3 := blk_frozen (e3.blk HH.out.1 (fun s => s.elim)) 1
          have hk3 := K.out _ e3
          have HN := Lib.hid (RSt.got H.out.base HH.out e3 hjl (by omega) r3)
          go_simp
          refine hK.out _ _ ?_
          clear hK K'
          have hx : Hid (El (w3.setCell ⟨g, 1, none⟩ (.slice o3 (m + (W.length - (m + 1))) cap3)) 0 (.slice uo p.2.length ucap) p.2) :=
            ((HU.out.step ((Step.refl None wr).alloc _) (fun _ _ s => s.elim)).step g3 (fun _ _ s => s.elim)).step (Step.setCell (S := fun k => k = g) (Step.refl _ w3) (p := ⟨g, 1, none⟩) (fun _ => rfl) _) fun k hk => by
              rintro rfl
              exact HU.out.row.ne (hst.out.blk HH.out.1 (fun s => s.elim)) (by decide) hk
          have hcx := blk_cell (e3.blk HH.out.1 (fun s => s.elim)) 1
          have hbx : (w3.setCell ⟨g, 1, none⟩ (.slice o3 (m + (W.length - (m + 1))) cap3)).heap[wr.heap.size]? = some (.cells #[.int .i64 p.1, .slice uo p.2.length ucap] 56 (0, 0)) := by
            rw [Below.heap_setCell _ _ _ _ (by have := H.out.lt; have := hst.out.size; simp; omega)]
            exact g3.blk (heap_alloc_new _ _) (fun s => s.elim)
          have hy0 := blk_cell hbx 0
          have hy1 := blk_cell hbx 1
          clear hf3 hk3 hbx hcx
          go_wp2_with fail
          go_quiet (fail)
          go_wp2_with fail
          go_ret3
          exact ⟨_, rfl, hx.out.step ((Step.refl None _).drewN _) (fun _ _ s => s.elim), HN.out.1.drewN _, HN.out.2.drewN _⟩

end Go.Proofs.Ytboaelkpmfagfaa
