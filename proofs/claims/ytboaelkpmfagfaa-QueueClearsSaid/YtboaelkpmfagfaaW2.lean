/- (*Queue).Put. -/
import Derived.Test.YtboaelkpmfagfaaW1
namespace Go.Proofs.Ytboaelkpmfagfaa
open Go.RowKit Go.Gm

/-- A cloned slice: a row of its own. -/
structure Cloned (w w' : World) (u : Value) (bs : List Int) : Prop where
  row : Row w' 5 1 u bs.length (bs.map (.int .u8))
  step : Step None w w'
  new : ∀ k, Leads u k → w.heap.size ≤ k

theorem clone_any {w : World} {v : Value} {bs : List Int} (h : Bytes w v bs) : Calls Try.prog 20 #[v] w fun e w' => ∃ u, e = .returned u ∧ Cloned w w' u bs := by
  rcases h with ⟨rfl, rfl⟩ | ⟨b, cap, rfl, hn, hc⟩
  · refine (clone_nil w).mono ?_
    rintro e w' ⟨rfl, rfl⟩
    exact ⟨_, rfl, Row.nil _ _ _, Step.refl _ _, fun k hk => by simp [Leads, Value.ownBlock] at hk⟩
  · refine (clone_some b bs.length cap (bs.map (.int .u8)) w (by simp) hc (nums_one _ _) hn).mono ?_
    rintro e w' ⟨u, rfl, h1, h2, h3⟩
    exact ⟨u, rfl, h1, h2, h3⟩

theorem put_bad (g : Nat) (c : Int) (vb : Value) (w : World) (hc : ¬ (0 ≤ c ∧ c < 8)) : Calls Try.prog 10 #[.pointer (some ⟨g, 0, none⟩), .int .i64 c, vb] w fun e w' => e = .returned (.int .i64 1) ∧ w = w' := by
  have hr : (decide (0 ≤ c) && decide (c < 8)) = false := by simp; omega
  go_enter Try.func10, Try.ntmps10
  go_wp2_with (first | (go_at_call 19; refine (right_any c _).mono ?_; rintro e w' ⟨rfl, rfl⟩; rw [hr]))
  go_ret
  exact ⟨rfl, rfl⟩

theorem put_full {B : Nat} (g : Nat) (c : Nat) (vb : Value) (w : World) (hc : c < 8) {room : Int} {V : Nat → Value} {X : Nat → List (List Int)} {L : Nat → Int} (h : QRep w B g room V X L)
    (hfull : room ≤ (X c).length) (hL0 : 0 ≤ L c) (hL1 : L c ≤ 1000000) :
    Calls Try.prog 10 #[.pointer (some ⟨g, 0, none⟩), .int .i64 c, vb] w fun e w' => e = .returned (.int .i64 3) ∧ ∃ n, w' = (w.setCell ⟨g, 9 + c, none⟩ (.int .i64 (L c + 1))).drewN n := by
  have hr : (decide (0 ≤ (c : Int)) && decide ((c : Int) < 8)) = true := by simp; omega
  obtain ⟨h0, h1, h2, h3⟩ := h.cells
  have hV := h1 c hc
  have hLc := h2 c hc
  have hf := h3 (9 + c)
  obtain ⟨xs, hx, -⟩ := h.rows c hc
  obtain ⟨ao, cap, hv, hcap, hmax⟩ := hx.form
  rw [hv] at hV
  have hge : decide (room ≤ ((X c).length : Int)) = true := by simpa using hfull
  clear h1 h2 h3 hx hv h
  go_enter Try.func10, Try.ntmps10
  go_wp2_with (first | (go_at_call 19; refine (right_any c _).mono ?_; rintro e w' ⟨rfl, rfl⟩; rw [hr]))
  go_quiet (fail)
  go_wp2
  go_region
  all_goals go_wp2
  all_goals go_ret
  exact ⟨rfl, nq + 1, rfl⟩

/-- What Put leaves: the row of the class is another one. -/
structure PutDone (w w' : World) (B g : Nat) (room : Int) (V : Nat → Value) (X : Nat → List (List Int)) (L : Nat → Int) (c : Nat) (bs : List Int) : Prop where
  rep : ∃ v, QRep w' B g room (fun d => if d = c then v else V d) (fun d => if d = c then X c ++ [bs] else X d) L ∧ ∀ k, Leads v k → Leads (V c) k ∨ w.heap.size ≤ k
  step : Step (fun k => k = g ∨ Leads (V c) k) w w'

/-- A store of v to class c's place. -/
theorem QRep.turned {w w' : World} {B g : Nat} {room : Int} {V : Nat → Value} {X : Nat → List (List Int)} {L : Nat → Int} (h : QRep w B g room V X L) {c : Nat} (hc : c < 8) {v : Value} {l : List (List Int)}
    (hw : Step (fun k => k = g ∨ Leads (V c) k) w w')
    (hrow : ∃ xs, Row w' 31 1 v l.length xs ∧ ∀ (j : Nat) (b : List Int), l[j]? = some b → ∃ u, xs[j]? = some u ∧ El w' B u b)
    (hl : ∀ k, Leads v k → Leads (V c) k ∨ w.heap.size ≤ k)
    (hcell : ∀ cur, w.heap[g]? = some (.cells cur 49 (0, 0)) → w'.heap[g]? = some (.cells (cur.setIfInBounds (1 + c) v) 49 (0, 0))) :
    QRep w' B g room (fun d => if d = c then v else V d) (fun d => if d = c then l else X d) L := by
  obtain ⟨cur, hb, hs, h0, h1, h2⟩ := h.blk
  refine ⟨⟨_, hcell cur hb, by simpa using hs, ?_, ?_, ?_⟩, ?_, ?_⟩
  · rw [Array.getElem?_setIfInBounds_ne (by omega)]; exact h0
  · intro d hd
    by_cases e : d = c
    · subst e
      rw [if_pos rfl, Array.getElem?_setIfInBounds_self_of_lt (by omega)]
    · rw [if_neg e, Array.getElem?_setIfInBounds_ne (by omega)]; exact h1 d hd
  · intro d hd
    rw [Array.getElem?_setIfInBounds_ne (by omega)]; exact h2 d hd
  · intro d hd
    by_cases e : d = c
    · subst e
      simpa using hrow
    · simp only [if_neg e]
      obtain ⟨xs, hx, hel⟩ := h.rows d hd
      refine ⟨xs, hx.step hw fun k hk => ?_, fun j b hj => ?_⟩
      · rintro (rfl | hk')
        · exact hx.ne hb (by decide) hk
        · exact h.apart d c hd hc e k hk hk'
      · obtain ⟨u, hu, hr⟩ := hel j b hj
        refine ⟨u, hu, hr.step hw fun k hk => ?_⟩
        rintro (rfl | hk')
        · exact hr.row.ne hb (by decide) hk
        · obtain ⟨ys, hy, -⟩ := h.rows c hc
          exact hr.row.neRow hy (by decide) k hk hk'
  · intro d e hd he hne k hk hk'
    by_cases e1 : d = c
    · subst e1
      rw [if_pos rfl] at hk
      rw [if_neg (Ne.symm hne)] at hk'
      rcases hl k hk with h3 | h3
      · exact h.apart d e hd he hne k h3 hk'
      · obtain ⟨ys, hy, -⟩ := h.rows e he
        have := hy.lt hk'
        omega
    · rw [if_neg e1] at hk
      by_cases e2 : e = c
      · subst e2
        rw [if_pos rfl] at hk'
        rcases hl k hk' with h3 | h3
        · exact h.apart d e hd he hne k hk h3
        · obtain ⟨ys, hy, -⟩ := h.rows d hd
          have := hy.lt hk
          omega
      · rw [if_neg e2] at hk'
        exact h.apart d e hd he hne k hk hk'

theorem put_done {w w1 w2 : World} {B g c m : Nat} {room : Int} {V : Nat → Value} {X : Nat → List (List Int)} {L : Nat → Int} {bs : List Int} {u v1 vc : Value} {xs : List Value} (hc : c < 8) (hB : B ≤ w.heap.size) (H : QRep w B g room V X L) (hv : V c = vc)
    (hx : Row w 31 1 (V c) (X c).length xs) (hel : ∀ (j : Nat) (l : List Int), (X c)[j]? = some l → ∃ u, xs[j]? = some u ∧ El w B u l)
    (hcl : Cloned (w.drewN m) w1 u bs) (hs1 : Step (Leads vc) (w1.alloc (.cells #[u] 31)) w2)
    (hr1 : Row w2 31 1 v1 ((X c).length + 1) (xs ++ (#[u] : Array Value).toList)) (hl1 : ∀ k, Leads v1 k → Leads vc k ∨ (w1.alloc (.cells #[u] 31)).heap.size ≤ k) :
    PutDone w (w2.setCell ⟨g, 1 + c, none⟩ v1) B g room V X L c bs := by
  subst hv
  have e1 : Step None w w1 := (Step.drewN (Step.refl _ w) m).then_ hcl.step
  have e2 : Step (Leads (V c)) w w2 := ((e1.mono fun _ _ s => s.elim).alloc _).then_ hs1
  obtain ⟨cur, hb, -⟩ := H.blk
  have hgl : ¬ Leads (V c) g := hx.ne hb (by decide)
  have hb2 := e2.blk hb hgl
  have e3 : Step (fun k => k = g ∨ Leads (V c) k) w (w2.setCell ⟨g, 1 + c, none⟩ v1) := (e2.mono fun _ _ s => Or.inr s).setCell (S := fun k => k = g ∨ Leads (V c) k) (p := ⟨g, 1 + c, none⟩) (fun _ => .inl rfl) v1
  have hb3 : ∀ k, k ≠ g → (w2.setCell ⟨g, 1 + c, none⟩ v1).heap[k]? = w2.heap[k]? := fun k hk => Below.heap_setCell _ _ _ _ hk
  have e4 : Step (fun k => k = g) w2 (w2.setCell ⟨g, 1 + c, none⟩ v1) := Step.setCell (S := fun k => k = g) (Step.refl _ w2) (p := ⟨g, 1 + c, none⟩) (fun _ => rfl) v1
  have hl1' : ∀ k, Leads v1 k → Leads (V c) k ∨ w.heap.size ≤ k := fun k hk => by
    rcases hl1 k hk with h | h
    · exact .inl h
    · have := e1.size
      simp at h
      exact .inr (by omega)
  refine ⟨⟨v1, H.turned (l := X c ++ [bs]) hc e3 ⟨xs ++ [u], ?_, ?_⟩ hl1' ?_, hl1'⟩, e3⟩
  · have := hr1.step e4 (fun k hk => by rintro rfl; exact hr1.ne hb2 (by decide) hk)
    simpa using this
  · intro j b hj
    rcases Nat.lt_or_ge j (X c).length with hlt | hge
    · rw [List.getElem?_append_left hlt] at hj
      obtain ⟨y, hy, hry⟩ := hel j b hj
      have hxl : j < xs.length := by rw [hx.len]; omega
      refine ⟨y, by rw [List.getElem?_append_left hxl]; exact hy, hry.step e3 fun k hk => ?_⟩
      rintro (rfl | hk')
      · exact hry.row.ne hb (by decide) hk
      · exact hry.row.neRow hx (by decide) k hk hk'
    · have hj2 := hj
      rw [List.getElem?_append_right hge] at hj
      obtain ⟨hj0, rfl⟩ : j - (X c).length = 0 ∧ b = bs := by
        cases hd : j - (X c).length with
        | zero => rw [hd] at hj; simp at hj; exact ⟨rfl, hj.symm⟩
        | succ n => rw [hd] at hj; simp at hj
      have hxl : xs.length ≤ j := by rw [hx.len]; omega
      refine ⟨u, ?_, ?_⟩
      · rw [List.getElem?_append_right hxl, show j - xs.length = 0 by rw [hx.len]; omega]; rfl
      · have hu := hcl.row
        have ha := hu.alloc (.cells #[u] 31)
        refine ⟨(ha.step hs1 fun k hk hk' => ?_).step e4 fun k hk => ?_, fun k hk => ?_⟩
        · have h5 := hcl.new k hk
          have h6 := hx.lt hk'
          simp at h5
          omega
        · rintro rfl
          have h5 := hcl.new k hk
          have h6 := blk_lt hb
          simp at h5
          omega
        · have h5 := hcl.new k hk
          simp at h5
          omega
  · intro cur' hb'
    rw [hb] at hb'
    simp only [Option.some.injEq, Obj.cells.injEq] at hb'
    obtain ⟨rfl, -, -⟩ := hb'
    exact blk_set hb2 (1 + c) v1

set_option maxHeartbeats 400000 in
theorem put_ok {B : Nat} (g : Nat) (c : Nat) (vb : Value) (bs : List Int) (w : World) (hc : c < 8) {room : Int} {V : Nat → Value} {X : Nat → List (List Int)} {L : Nat → Int} (h : QRep w B g room V X L)
    (hB : B ≤ w.heap.size) (hb : Bytes w vb bs) (hfull : (X c).length < room) (hroom : room ≤ 1000) :
    Calls Try.prog 10 #[.pointer (some ⟨g, 0, none⟩), .int .i64 c, vb] w fun e w' => e = .returned (.int .i64 0) ∧ PutDone w w' B g room V X L c bs := by
  have hr : (decide (0 ≤ (c : Int)) && decide ((c : Int) < 8)) = true := by simp; omega
  obtain ⟨h0, h1, h2, h3⟩ := h.cells
  have hV := h1 c hc
  have hf := h3 (1 + c)
  obtain ⟨xs, hx, hel⟩ := h.rows c hc
  obtain ⟨cur, hblk, -⟩ := h.blk
  have hge : decide (room ≤ ((X c).length : Int)) = false := by simp; omega
  have hgl : ¬ Leads (V c) g := hx.ne hblk (by decide)
  have hglt := blk_lt hblk
  obtain ⟨ao, cap, hv, hcap, hmax⟩ := hx.form
  have hc0 : (0 : Int) ≤ (c : Int) := by omega
  have hc1 : (c : Int) < 8 := by omega
  have H := Lib.hid h
  have HV := Lib.hid hv
  rw [hv] at hV hgl
  clear h1 h2 h3 h hv
  go_enter Try.func10, Try.ntmps10
  go_wp2_with (first | (go_at_call 19; refine (right_any c _).mono ?_; rintro e w' ⟨rfl, rfl⟩; rw [hr]))
  go_quiet (fail)
  go_wp2
  go_region_law (first
      | (go_simp; go_at_call 20; refine (clone_any (bs := bs) (by exact hb)).mono ?_; rintro e w1 ⟨u, rfl, hcl⟩; obtain ⟨uo, ucap, rfl, -, -⟩ := hcl.row.form; have hrow := Row.step (w := w.drewN _) hx hcl.step (fun _ _ s => s.elim); rw [HV.out] at hrow; have hb1 := Lib.hid (hcl.step.blk (w := w.drewN _) hblk (fun s => s.elim)); have hV1 := (hcl.step.cell (p := ⟨g, 1 + c, none⟩) hglt (fun s => s.elim)).trans hV; have hlt1 := blk_lt hb1.out)
      | (refine step_append_row T46 (by rfl) (.tmp 41) (.tmp 44) (by rfl) (by rfl) (hrow.alloc _) (by rfl) (Src.ofBlock T46 (c := 1) (heap_alloc_new w1 (.cells #[.slice uo bs.length ucap] 31)) (by rfl) (by simp [Value.oneCell'])) (by simp [maxLen]; omega) (by omega) ?_; intro v1 w2 hr1 hs1 hl1; have hb2 : w2.heap[g]? = some (.cells cur 49 (0, 0)) := hs1.blk ((Below.heap_alloc w1 (.cells #[.slice uo bs.length ucap] 31) g (blk_lt hb1.out)).trans hb1.out) hgl; have hf2 := blk_frozen hb2 (1 + c); have hc2 := (blk_cell hb2 (1 + c)).trans ((blk_cell hblk (1 + c)).symm.trans hV); have Hb2 := Lib.hid hb2; clear hb2; obtain ⟨vo, vcap, rfl, -, -⟩ := hr1.form))
  all_goals go_wp2
  all_goals go_ret
  all_goals exact ⟨rfl, put_done hc hB H.out HV.out hx hel hcl hs1 hr1 hl1⟩

end Go.Proofs.Ytboaelkpmfagfaa
