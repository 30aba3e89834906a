/- The document's queue: its state; New, Len, Lost, Clear. -/
import Derived.Test.YtboaelkpmfagfaaW11
import Derived.Test.YtboaelkpmfagfaaPlan
namespace Go.Proofs.Ytboaelkpmfagfaa
open Go.RowKit Go.Gm

theorem T52 : SliceT Try.prog 52 56 2 32 := SliceT.mk' Try.underlying52 (z := .agg #[.int .i64 0, .slice none 0 0]) (by kernel_rfl) rfl (by decide)

def flat (ws : List (Int × Value)) : List Value := ws.flatMap fun p => [.int .i64 p.1, p.2]
theorem flat_cons (p : Int × Value) (ws : List (Int × Value)) : flat (p :: ws) = .int .i64 p.1 :: p.2 :: flat ws := rfl
theorem flat_append (a b : List (Int × Value)) : flat (a ++ b) = flat a ++ flat b := by simp [flat]
theorem flat_len : ∀ (ws : List (Int × Value)), (flat ws).length = ws.length * 2
  | [] => rfl
  | p :: ws => by rw [flat_cons]; simp only [List.length_cons, flat_len ws]; omega
theorem flat_at : ∀ (ws : List (Int × Value)) (j : Nat) (p : Int × Value), ws[j]? = some p → (flat ws)[j * 2]? = some (.int .i64 p.1) ∧ (flat ws)[j * 2 + 1]? = some p.2
  | [], _, _, h => by simp at h
  | q :: ws, 0, p, h => by simp at h; subst h; exact ⟨rfl, rfl⟩
  | q :: ws, j + 1, p, h => by
    have := flat_at ws j p (by simpa using h)
    rw [flat_cons, show (j + 1) * 2 = j * 2 + 1 + 1 by omega]
    simpa using this
theorem flat_take (ws : List (Int × Value)) (n : Nat) : flat (ws.take n) = (flat ws).take (n * 2) := by
  induction ws generalizing n with
  | nil => simp [flat]
  | cons p ws ih =>
    cases n with
    | zero => simp [flat]
    | succ n => rw [List.take_succ_cons, flat_cons, flat_cons, ih, show (n + 1) * 2 = n * 2 + 1 + 1 by omega]; simp
theorem flat_drop (ws : List (Int × Value)) (n : Nat) : flat (ws.drop n) = (flat ws).drop (n * 2) := by
  induction ws generalizing n with
  | nil => simp [flat]
  | cons p ws ih =>
    cases n with
    | zero => simp
    | succ n => rw [List.drop_succ_cons, flat_cons, ih, show (n + 1) * 2 = n * 2 + 1 + 1 by omega]; simp

/-- What waits, in a row of classes and bytes. -/
structure RL (w : World) (v : Value) (W : List (Int × List Int)) (ws : List (Int × Value)) : Prop where
  row : Row w 56 2 v W.length (flat ws)
  len : ws.length = W.length
  els : ∀ (j : Nat) (p : Int × List Int), W[j]? = some p → ∃ u, ws[j]? = some (p.1, u) ∧ El w 0 u p.2

/-- The document's queue at block g. -/
structure RSt (w : World) (Q g : Nat) (room : Int) (W : List (Int × List Int)) (L : Nat → Int) : Prop where
  blk : ∃ cur v ws, w.heap[g]? = some (.cells cur 54 (0, 0)) ∧ cur.size = 10 ∧ cur[0]? = some (.int .i64 room) ∧ cur[1]? = some v ∧ (∀ c, c < 8 → cur[2 + c]? = some (.int .i64 (L c))) ∧ RL w v W ws
  base : Q ≤ g

theorem RL.step {w w' : World} {S : Nat → Prop} {v : Value} {W : List (Int × List Int)} {ws : List (Int × Value)} (h : RL w v W ws) (hw : Step S w w')
    (hn : ∀ k, S k → ∀ cs t, w.heap[k]? = some (.cells cs t (0, 0)) → t ≠ 56 ∧ t ≠ 5) : RL w' v W ws := by
  refine ⟨h.row.step hw fun k hk s => ?_, h.len, fun j p hj => ?_⟩
  · obtain ⟨cs, hcs⟩ := h.row.typed hk
    exact (hn k s _ _ hcs).1 rfl
  · obtain ⟨u, hu, he⟩ := h.els j p hj
    refine ⟨u, hu, he.step hw fun k hk s => ?_⟩
    obtain ⟨cs, hcs⟩ := he.row.typed hk
    exact (hn k s _ _ hcs).2 rfl

theorem RSt.step {w w' : World} {S : Nat → Prop} {Q g : Nat} {room : Int} {W : List (Int × List Int)} {L : Nat → Int} (h : RSt w Q g room W L) (hw : Step S w w')
    (hn : ∀ k, S k → ∀ cs t, w.heap[k]? = some (.cells cs t (0, 0)) → t ≠ 54 ∧ t ≠ 56 ∧ t ≠ 5) : RSt w' Q g room W L := by
  obtain ⟨cur, v, ws, hb, h1, h2, h3, h4, h5⟩ := h.blk
  exact ⟨⟨cur, v, ws, hw.blk hb fun s => (hn g s _ _ hb).1 rfl, h1, h2, h3, h4, h5.step hw fun k s cs t ht => (hn k s cs t ht).2⟩, h.base⟩
theorem RSt.own {w w' : World} {Q Q' g : Nat} {room : Int} {W : List (Int × List Int)} {L : Nat → Int} (h : RSt w Q g room W L) (hw : Step (Own Q' w) w w') : RSt w' Q g room W L :=
  h.step hw fun k hk cs t ht => by
    obtain ⟨-, cs', t', hk', h2⟩ := hk
    rw [ht] at hk'
    simp only [Option.some.injEq, Obj.cells.injEq] at hk'
    obtain ⟨-, rfl, -⟩ := hk'
    rcases h2 with rfl | rfl <;> exact ⟨by decide, by decide, by decide⟩
theorem RSt.alloc {w : World} {Q g : Nat} {room : Int} {W : List (Int × List Int)} {L : Nat → Int} (h : RSt w Q g room W L) (o : Obj) : RSt (w.alloc o) Q g room W L := h.step ((Step.refl None w).alloc o) fun _ s => s.elim
theorem RSt.drewN {w : World} {Q g : Nat} {room : Int} {W : List (Int × List Int)} {L : Nat → Int} (h : RSt w Q g room W L) (n : Nat) : RSt (w.drewN n) Q g room W L := h.step ((Step.refl None w).drewN n) fun _ s => s.elim
theorem RSt.lt {w : World} {Q g : Nat} {room : Int} {W : List (Int × List Int)} {L : Nat → Int} (h : RSt w Q g room W L) : g < w.heap.size := by
  obtain ⟨cur, v, ws, hb, -⟩ := h.blk
  exact blk_lt hb
/-- The queue, while the document's moves. -/
theorem QSt.ref {w w' : World} {B Q g r : Nat} {room : Int} {X : Nat → List (List Int)} {L : Nat → Int} (h : QSt w B Q g room X L) {cur : Array Value} (hr : w.heap[r]? = some (.cells cur 54 (0, 0))) (hw : Step (fun k => k = r) w w') : QSt w' B Q g room X L :=
  h.step hw fun k hk cs t ht => by
    subst hk
    rw [hr] at ht
    simp only [Option.some.injEq, Obj.cells.injEq] at ht
    obtain ⟨-, rfl, -⟩ := ht
    exact ⟨by decide, by decide, by intro; contradiction⟩

def refCells (room : Int) : Array Value := #[.int .i64 room, .slice none 0 0, .int .i64 0, .int .i64 0, .int .i64 0, .int .i64 0, .int .i64 0, .int .i64 0, .int .i64 0, .int .i64 0]

theorem rnew_bad (room : Int) (w : World) (h : room < 1 ∨ 1000 < room) : Calls Try.prog 14 #[.int .i64 room] w fun e w' => e = .returned (.tuple #[.pointer none, .int .i64 1]) ∧ w = w' := by
  by_cases h1 : room < 1
  · have h1' : decide (room < 1) = true := by simpa using h1
    go_enter Try.func14, Try.ntmps14
    go_wp2
    go_ret2
    exact ⟨rfl, rfl⟩
  · have h1' : decide (room < 1) = false := by simpa using h1
    have h2' : decide (1000 < room) = true := by simp; omega
    go_enter Try.func14, Try.ntmps14
    go_wp2
    go_ret2
    exact ⟨rfl, rfl⟩

theorem rnew_st (room : Int) (w : World) (h1 : 1 ≤ room) (h2 : room ≤ 1000) {Q : Nat} (hQ : Q ≤ w.heap.size) :
    Calls Try.prog 14 #[.int .i64 room] w fun e w' => e = .returned (.tuple #[.pointer (some ⟨w.heap.size, 0, none⟩), .int .i64 0]) ∧ RSt w' Q w.heap.size room [] (fun _ => 0) ∧ Step None w w' := by
  have h1' : decide (room < 1) = false := by simpa using h1
  have h2' : decide (1000 < room) = false := by simp; omega
  have hst : RSt (w.alloc (.cells (refCells room) 54)) Q w.heap.size room [] (fun _ => 0) :=
    ⟨⟨refCells room, _, [], heap_alloc_new w _, rfl, rfl, rfl, by intro c hc; match c, hc with | 0, _ => rfl | 1, _ => rfl | 2, _ => rfl | 3, _ => rfl | 4, _ => rfl | 5, _ => rfl | 6, _ => rfl | 7, _ => rfl, ⟨Row.nil _ _ _, rfl, by simp⟩⟩, hQ⟩
  have H := Lib.hid hst
  clear hst
  go_enter Try.func14, Try.ntmps14
  go_wp2
  go_ret2
  exact ⟨rfl, H.out, (Step.refl _ w).alloc _⟩

theorem rlost_st (g : Nat) (c : Int) (w : World) {Q : Nat} {room : Int} {W : List (Int × List Int)} {L : Nat → Int} (h : RSt w Q g room W L) :
    Calls Try.prog 17 #[.pointer (some ⟨g, 0, none⟩), .int .i64 c] w fun e w' => e = .returned (.int .i64 (lostE L c)) ∧ w = w' := by
  unfold lostE
  by_cases hc : 0 ≤ c ∧ c < 8
  · obtain ⟨k, rfl⟩ : ∃ k : Nat, c = k := ⟨c.toNat, by omega⟩
    rw [if_pos hc]
    obtain ⟨cur, v, ws, hb, -, -, -, h4, -⟩ := h.blk
    have hl := (blk_cell hb (2 + k)).trans (h4 k (by omega))
    have c1 : decide ((k : Int) < 0) = false := by simp
    have c2 : decide ((8 : Int) ≤ k) = false := by simp; omega
    have c4 : (0 : Int) ≤ (k : Int) := by omega
    have c5 : (k : Int) < 8 := by omega
    clear h4 hb h
    go_enter Try.func17, Try.ntmps17
    go_wp2
    go_ret
    exact ⟨by simp, rfl⟩
  · rw [if_neg hc]
    by_cases h0 : c < 0
    · have c1 : decide (c < 0) = true := by simpa using h0
      go_enter Try.func17, Try.ntmps17
      go_wp2
      go_ret
      exact ⟨rfl, rfl⟩
    · have c1 : decide (c < 0) = false := by simpa using h0
      have c2 : decide ((8 : Int) ≤ c) = true := by simp; omega
      go_enter Try.func17, Try.ntmps17
      go_wp2
      go_ret
      exact ⟨rfl, rfl⟩

theorem rclear_st (g : Nat) (w : World) {Q : Nat} {room : Int} {W : List (Int × List Int)} {L : Nat → Int} (h : RSt w Q g room W L) :
    Calls Try.prog 23 #[.pointer (some ⟨g, 0, none⟩)] w fun e w' => e = .returned (.int .i64 W.length) ∧ RSt w' Q g room [] L ∧ Step (fun k => k = g) w w' := by
  obtain ⟨cur, v, ws, hb, h1, h2, h3, h4, h5⟩ := h.blk
  obtain ⟨ao, cap, rfl, -, -⟩ := h5.row.form
  have hl := (blk_cell hb 1).trans h3
  have hf := blk_frozen hb 1
  have hst : RSt (w.setCell ⟨g, 1, none⟩ (.slice none 0 0)) Q g room [] L := by
    refine ⟨⟨_, .slice none 0 0, [], blk_set hb 1 _, by simpa using h1, ?_, ?_, fun c hc => ?_, ⟨Row.nil _ _ _, rfl, by simp⟩⟩, h.base⟩
    · rw [Array.getElem?_setIfInBounds_ne (by omega)]; exact h2
    · rw [Array.getElem?_setIfInBounds_self_of_lt (by omega)]
    · rw [Array.getElem?_setIfInBounds_ne (by omega)]; exact h4 c hc
  have H := Lib.hid hst
  clear hst h5 h4 h3 h2 h1 hb h
  go_enter Try.func23, Try.ntmps23
  go_wp2
  go_ret
  exact ⟨rfl, H.out, Step.setCell (S := fun k => k = g) (Step.refl _ w) (p := ⟨g, 1, none⟩) (fun _ => rfl) _⟩

/-- How many wait of a class. -/
def cnt (W : List (Int × List Int)) (c : Int) : Nat := (W.filter fun p => p.1 == c).length
theorem cnt_le (W : List (Int × List Int)) (c : Int) : cnt W c ≤ W.length := List.length_filter_le ..

theorem RSt.at {w : World} {Q g : Nat} {room : Int} {W : List (Int × List Int)} {L : Nat → Int} (h : RSt w Q g room W L) :
    ∃ ao cap, w.cell? ⟨g, 1, none⟩ = some (.slice ao W.length cap) ∧ W.length ≤ cap ∧ cap ≤ maxLen ∧ ∀ (j : Nat) (p : Int × List Int), W[j]? = some p → ∃ b off u, ao = some ⟨b, off, none⟩ ∧ w.cell? ⟨b, off + j * 2, none⟩ = some (.int .i64 p.1) ∧ w.cell? ⟨b, off + j * 2 + 1, none⟩ = some u ∧ El w 0 u p.2 := by
  obtain ⟨cur, v, ws, hb, -, -, h3, -, h5⟩ := h.blk
  obtain ⟨ao, cap, rfl, hc1, hc2⟩ := h5.row.form
  refine ⟨ao, cap, (blk_cell hb 1).trans h3, hc1, hc2, fun j p hj => ?_⟩
  have hlt : j < W.length := by
    rcases Nat.lt_or_ge j W.length with h | h
    · exact h
    · rw [List.getElem?_eq_none h] at hj; cases hj
  obtain ⟨b, off, cap', hv, -, -, -, hcell, -⟩ := h5.row.cells (by omega)
  simp only [Value.slice.injEq] at hv
  obtain ⟨rfl, -, rfl⟩ := hv
  obtain ⟨u, hu, he⟩ := h5.els j p hj
  obtain ⟨f1, f2⟩ := flat_at ws j _ hu
  exact ⟨b, off, u, rfl, hcell _ _ f1, by have := hcell _ _ f2; rwa [← Nat.add_assoc] at this, he⟩

theorem rlen_st (g : Nat) (c : Int) (w : World) {Q : Nat} {room : Int} {W : List (Int × List Int)} {L : Nat → Int} (h : RSt w Q g room W L) (hW : W.length ≤ 100000) :
    Calls Try.prog 16 #[.pointer (some ⟨g, 0, none⟩), .int .i64 c] w fun e w' => e = .returned (.int .i64 (cnt W c)) ∧ w = w' := by
  obtain ⟨ao, cap, hl, -, -, hat⟩ := h.at
  have HAT := Lib.hid hat
  clear hat h
  go_enter Try.func16, Try.ntmps16
  go_wp2
  go_loopw [5, 6] (fun n i wr => ∃ k : Nat, k ≤ W.length ∧ i = .int .i64 k ∧ n = .int .i64 (cnt (W.take k) c) ∧ wr = w) (fun _ i _ => W.length - (intOf i).toNat)
  case atStart => exact ⟨0, by omega, rfl, rfl, rfl⟩
  case round =>
    obtain ⟨k, hk, rfl, rfl, rfl⟩ := hrel
    by_cases hlt : k < W.length
    · obtain ⟨b, off, u, rfl, hc0, -, -⟩ := HAT.out k W[k] (by simp [hlt])
      have hcs : cnt (W.take (k + 1)) c = cnt (W.take k) c + if W[k].1 == c then 1 else 0 := by
        rw [List.take_succ_eq_append_getElem hlt]
        simp only [cnt, List.filter_append, List.length_append]
        by_cases e : W[k].1 == c <;> simp [List.filter, e]
      have hcb := cnt_le (W.take k) c
      have hcb2 : (W.take k).length ≤ k := by simp; omega
      have k0 : (0 : Int) ≤ (k : Int) := by omega
      have k1 : (k : Int) < (W.length : Int) := by omega
      by_cases e : W[k].1 = c
      · have e1 : (W[k].1 == c) = true := by simpa using e
        rw [e1] at hcs
        rw [e] at hc0
        have hcs' : ((cnt (W.take (k + 1)) c : Nat) : Int) = (cnt (W.take k) c : Int) + 1 := by rw [hcs]; simp
        have hw : IntKind.i64.wrap ((cnt (W.take k) c : Int) + 1) = (cnt (W.take k) c : Int) + 1 := IntWalk.i64_in _ (by omega)
        have HC := Lib.hid hcs'
        clear hcs hcs' e e1
        go_wp2
        go_roundw
        case rel => exact ⟨k + 1, by omega, by go_num, by rw [HC.out], by trivial⟩
        case measure => simp [intOf]; omega
      · have e1 : (W[k].1 == c) = false := by simpa using e
        rw [e1] at hcs
        have HC := Lib.hid hcs
        clear hcs e
        go_wp2
        go_roundw
        case rel => exact ⟨k + 1, by omega, by go_num, by rw [HC.out]; simp, by trivial⟩
        case measure => simp [intOf]; omega
    · obtain rfl : k = W.length := by omega
      go_wp2
      go_ret
      exact ⟨by simp, by trivial⟩

end Go.Proofs.Ytboaelkpmfagfaa
