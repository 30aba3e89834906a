/- hear: one hears the first item on the way. -/
import Derived.Test.YthebgpbofjgcoaaDoorA2
namespace Go.Gm
/-- What hearing does: the state, what is told. -/
def Shk.hearN (s : Shk) (r : Bool) (t : Tell) : Shk × List Tell × Int := s.take r t.kind t.port t.state
end Go.Gm
namespace Go.Proofs.YthebgpbofjgcoaaDoor
open Go.RowKit Go.Gm
/-- Blocks of type 57 are as they were. -/
def Keep (w w' : World) : Prop := ∀ (k : Nat) (cs : Array Value), w.heap[k]? = some (Obj.cells cs 57 (0, 0)) → w'.heap[k]? = some (Obj.cells cs 57 (0, 0))
theorem Keep.refl (w : World) : Keep w w := fun _ _ h => h
theorem Keep.trans {a b c : World} (h : Keep a b) (k : Keep b c) : Keep a c := fun i cs e => k i cs (h i cs e)
theorem Keep.of {S : Nat → Prop} {w w' : World} (s : Step S w w') (h : ∀ (k : Nat) (cs : Array Value), w.heap[k]? = some (Obj.cells cs 57 (0, 0)) → ¬ S k) : Keep w w' := fun k cs e => s.blk e (h k cs e)
theorem Keep.none {w w' : World} (s : Step None w w') : Keep w w' := Keep.of s fun _ _ _ x => x.elim
theorem Keep.row {w w' : World} {e : TypeId} {sz n : Nat} {v : Value} {xs : List Value} (r : Row w e sz v n xs) (he : (57 : TypeId) ≠ e) (s : Step (Leads v) w w') : Keep w w' := Keep.of s fun _ _ h => r.ne h he
theorem Keep.one {w w' : World} {g : Nat} {t : TypeId} {cs : Array Value} {fr : Nat × Nat} (hg : w.heap[g]? = some (.cells cs t fr)) (ht : (57 : TypeId) ≠ t) (s : Step (· = g) w w') : Keep w w' := Keep.of s fun _ _ h e => blk_ne h hg ht e
theorem pop_row {w : World} {x : Itm} {r : List Itm} {b off cap off' : Nat} (h : Row w 53 16 (.slice (some ⟨b, off, none⟩) (r.length + 1) cap) (r.length + 1) (flatI (x :: r))) (ho : (cap = 1 ∧ off' = off) ∨ off' = off + 16) :
    Row w 53 16 (.slice (some ⟨b, off', none⟩) r.length (cap - 1)) r.length (flatI r) := by
  obtain ⟨b1, off1, cap1, cur, hv, h2, h3, hb, h5, h6⟩ := h.lies (by omega)
  simp only [Value.slice.injEq, Option.some.injEq, Addr.mk.injEq, true_and] at hv
  obtain ⟨⟨rfl, rfl, -⟩, rfl⟩ := hv
  have hd := Row.dropped (sz := 16) (k := 1) (off' := off') hb (n := r.length + 1) (by omega) h2 h3 h5 h6 (by
    rcases ho with ⟨h1, rfl⟩ | rfl
    · exact .inr ⟨by omega, by omega⟩
    · exact .inl rfl)
  rw [Nat.add_sub_cancel, Nat.one_mul, flatI_tail] at hd
  exact hd
theorem load_item_note {w : World} {g : Nat} {x : Itm} {t : TypeId} {fr : Nat × Nat} (h : w.heap[g]? = some (.cells (itemC x) t fr)) : (Instr.loadAt 35 (.pointer (some ⟨g, 0, none⟩))).run Tryd.prog w = .ok (.agg (tellC x.note)) w := by
  have := run_loadAt_mid (P := Tryd.prog) w g 0 35 (tellC x.note).toList _ (fun j u hj => by
    rw [blk_cell h]
    match j, hj with
    | 0, hj => exact hj
    | 1, hj => exact hj
    | 2, hj => exact hj
    | 3, hj => exact hj
    | 4, hj => exact hj
    | 5, hj => exact hj
    | 6, hj => exact hj
    | 7, hj => exact hj
    | 8, hj => exact hj
    | 9, hj => exact hj
    | 10, hj => exact hj
    | j + 11, hj => simp [tellC] at hj) Tryd.underlying35 rfl (by kernel_rfl)
  simpa using this
theorem hearA_none {w0 w : World} {g b h c xs ws : Nat} {s t : Shk} {va vb : Value} {B : List Itm} (y : Way w0 w g b h c xs ws s t va vb [] B) :
    Calls Tryd.prog 18 #[.pointer (some ⟨g, 0, none⟩), .pointer (some ⟨ws, 0, none⟩), .pointer (some ⟨ws, 1, none⟩)] w fun e w' => e = .returned (.bool true) ∧ w = w' := by
  obtain ⟨k0, k1, k2, k3⟩ := y.here
  obtain ⟨ao, cap, rfl, -, -⟩ := y.ra.form
  clear y
  go_enter Tryd.func18, Tryd.ntmps18
  go_wp2_with fail
  go_ret
  exact ⟨rfl, rfl⟩
set_option maxHeartbeats 4000000 in
theorem hearA_frame {w0 w : World} {g b h c xs ws : Nat} {s t : Shk} {va vb : Value} {x : Itm} {r B : List Itm} (y : Way w0 w g b h c xs ws s t va vb (x :: r) B) (hf : x.frame = true) (hls : s.ls.length ≤ 63) (hno : ∀ k : Nat, 1 ≤ k → k ≤ 3 → x.sent k = true → s.blocked (k : Int) = true) :
    Calls Tryd.prog 18 #[.pointer (some ⟨g, 0, none⟩), .pointer (some ⟨ws, 0, none⟩), .pointer (some ⟨ws, 1, none⟩)] w fun e w' => e = .returned (.bool true) ∧ ∃ v', Way w0 w' g b h c xs ws s t v' vb r B ∧ Keep w w' := by
  obtain ⟨k0, k1, k2, k3⟩ := y.here
  obtain ⟨b1, f1, cap, rfl, hld, hq⟩ := item_load y.ra
  obtain ⟨ao9, cap9, hv9, hcp, hcm⟩ := y.ra.form
  simp only [Value.slice.injEq] at hv9
  obtain ⟨rfl, -, rfl⟩ := hv9
  have HP := Lib.hid (fun off' ho => pop_row (off' := off') y.ra ho)
  have fz := blk_frozen y.ways 0
  have i1 : (0 : Int) < (r.length : Int) + 1 := by omega
  have i2 : ((r.length : Int) + 1 == 0) = false := by simp; omega
  simp only [List.length_cons] at hcp
  have p1 := heap_alloc_new w (.cells (itemC x) 53)
  have s1 := (Step.refl None w).alloc (.cells (itemC x) 53)
  obtain ⟨W, hW⟩ : ∃ W, w.alloc (.cells (itemC x) 53) = W := ⟨_, rfl⟩
  rw [hW] at p1 s1
  have HE : Hid (w.alloc (.cells #[.int .i64 x.note.kind, .int .i64 0, .int .u8 0, .int .u8 0, .int .u8 0, .int .u8 0, .int .u8 0, .int .u8 0, .int .i64 x.note.port, .int .i64 x.note.state, .slice none 0 0, .bool x.frame, .bool false, .bool x.s1, .bool x.s2, .bool x.s3] 53) = W) := Lib.hid hW
  have hq' : (Instr.loadAt 53 (.pointer (some ⟨b1, f1, none⟩))).run Tryd.prog w = .ok (.agg #[.int .i64 x.note.kind, .int .i64 0, .int .u8 0, .int .u8 0, .int .u8 0, .int .u8 0, .int .u8 0, .int .u8 0, .int .i64 x.note.port, .int .i64 x.note.state, .slice none 0 0, .bool x.frame, .bool false, .bool x.s1, .bool x.s2, .bool x.s3]) w := hq
  rw [hf] at HE hq'
  have P1 := Lib.hid p1
  have Y1 := Lib.hid (y.still s1)
  have KW := Lib.hid (Keep.none s1)
  have NW : Hid (ws ≠ w.heap.size) := Lib.hid (by have := blk_lt y.ways; omega)
  have HNO := Lib.hid hno
  have HPW := Lib.hid (fun off' ho => (HP.out off' ho).step s1 (fun _ _ s => s.elim))
  clear hW p1 s1 y hq hno HP hld
  obtain ⟨l0, l1, l2, l3⟩ := Y1.out.here
  have fw := blk_frozen Y1.out.ways 0
  by_cases hc1 : cap = 1
  · subst hc1
    obtain rfl : r = [] := List.eq_nil_of_length_eq_zero (by omega)
    have Y2 : Hid (Way w0 (W.setCell ⟨ws, 0, none⟩ (.slice (some ⟨b1, f1, none⟩) 0 0)) g b h c xs ws s t (.slice (some ⟨b1, f1, none⟩) 0 0) vb [] B) := Lib.hid (Y1.out.turnA (s1 := Step.refl _ _) (HPW.out _ (.inl ⟨rfl, rfl⟩)) (fun k hk => .inl (by simpa [Leads, Value.ownBlock] using hk)))
    have P2 := Lib.hid (((Step.refl (· = ws) W).setCell (p := ⟨ws, 0, none⟩) (fun _ => rfl) (.slice (some ⟨b1, f1, none⟩) 0 0)).blk P1.out NW.out.symm)
    obtain ⟨X, hX⟩ : ∃ X, W.setCell ⟨ws, 0, none⟩ (.slice (some ⟨b1, f1, none⟩) 0 0) = X := ⟨_, rfl⟩
    have KX := Lib.hid (KW.out.trans (Keep.one Y1.out.ways (by decide) ((Step.refl (· = ws) W).setCell (p := ⟨ws, 0, none⟩) (fun _ => rfl) (.slice (some ⟨b1, f1, none⟩) 0 0))))
    rw [hX] at Y2 P2 KX
    have HX := Lib.hid hX
    clear hX HPW Y1 P1
    have q11 := blk_cell P2.out 11
    simp only [itemC, List.getElem?_toArray, List.getElem?_cons_zero, List.getElem?_cons_succ] at q11
    rw [hf] at q11
    have qs : Hid (∀ k : Nat, 1 ≤ k → k ≤ 3 → X.cell? ⟨w.heap.size, 12 + k, none⟩ = some (.bool (x.sent k))) := Lib.hid (by
      intro k h1 h3
      rw [blk_cell P2.out]
      rcases (show k = 1 ∨ k = 2 ∨ k = 3 by omega) with rfl | rfl | rfl <;> rfl)
    clear P2
    go_enter Tryd.func18, Tryd.ntmps18
    go_wp2_with (first | (refine wpList_load_if 53 (.tmp 20) rfl rfl rfl hq' ?_) | rw [HE.out] | rw [HX.out])
    go_loopw [8] (fun tk wr => ∃ k : Nat, 1 ≤ k ∧ k ≤ 4 ∧ tk = .int .i64 k ∧ wr = X) (fun tk _ => 4 - (intOf tk).toNat)
    case atStart => exact ⟨1, by omega, by omega, rfl, rfl⟩
    case round =>
      obtain ⟨k, h1, h4, rfl, rfl⟩ := hrel
      by_cases hk : k = 4
      · have d1 : decide ((k : Int) ≤ 3) = false := by simp; omega
        have d1' : decide (k ≤ 3) = false := by simp; omega
        clear hk
        go_wp2_with fail
        go_ret
        exact ⟨rfl, _, Y2.out, KX.out⟩
      have h3 : k ≤ 3 := by omega
      have d1 : decide ((k : Int) ≤ 3) = true := by simp; omega
      have d1' : decide (k ≤ 3) = true := by simpa using h3
      have q := qs.out k h1 h3
      have hn := HNO.out k h1 h3
      have j0 : (0 : Int) ≤ (k : Int) := by omega
      have j1 : (k : Int) < 4 := by omega
      clear hk
      cases hs : x.sent k
      · rw [hs] at q
        clear hn
        go_wp2_with fail
        go_roundw
        case rel => exact ⟨k + 1, by omega, by omega, by first | rfl | simp, by first | trivial | rfl⟩
        case measure => simp [intOf]; omega
      · rw [hs] at q
        have HB := Lib.hid (hn hs)
        clear hn
        go_wp2_with fail
        refine (serves_any g b s (k : Int) _ hls Y2.out.one).mono ?_
        rintro e wz ⟨rfl, rfl⟩
        cases hv : s.serves (k : Int)
        · go_wp2_with fail
          go_roundw
          case rel => exact ⟨k + 1, by omega, by omega, by first | rfl | simp, by first | trivial | rfl⟩
          case measure => simp [intOf]; omega
        · go_wp2_with fail
          refine (blocked_any g b s (k : Int) _ hls Y2.out.one).mono ?_
          rintro e wz ⟨rfl, rfl⟩
          rw [HB.out]
          go_wp2_with fail
          go_roundw
          case rel => exact ⟨k + 1, by omega, by omega, by first | rfl | simp, by first | trivial | rfl⟩
          case measure => simp [intOf]; omega
  · have Y2 : Hid (Way w0 (W.setCell ⟨ws, 0, none⟩ (.slice (some ⟨b1, f1 + 16, none⟩) r.length (cap - 1))) g b h c xs ws s t (.slice (some ⟨b1, f1 + 16, none⟩) r.length (cap - 1)) vb r B) := Lib.hid (Y1.out.turnA (s1 := Step.refl _ _) (HPW.out _ (.inr rfl)) (fun k hk => .inl (by simpa [Leads, Value.ownBlock] using hk)))
    have P2 := Lib.hid (((Step.refl (· = ws) W).setCell (p := ⟨ws, 0, none⟩) (fun _ => rfl) (.slice (some ⟨b1, f1 + 16, none⟩) r.length (cap - 1))).blk P1.out NW.out.symm)
    obtain ⟨X, hX⟩ : ∃ X, W.setCell ⟨ws, 0, none⟩ (.slice (some ⟨b1, f1 + 16, none⟩) r.length (cap - 1)) = X := ⟨_, rfl⟩
    have KX := Lib.hid (KW.out.trans (Keep.one Y1.out.ways (by decide) ((Step.refl (· = ws) W).setCell (p := ⟨ws, 0, none⟩) (fun _ => rfl) (.slice (some ⟨b1, f1 + 16, none⟩) r.length (cap - 1)))))
    rw [hX] at Y2 P2 KX
    have HX := Lib.hid hX
    clear hX HPW Y1 P1
    have q11 := blk_cell P2.out 11
    simp only [itemC, List.getElem?_toArray, List.getElem?_cons_zero, List.getElem?_cons_succ] at q11
    rw [hf] at q11
    have qs : Hid (∀ k : Nat, 1 ≤ k → k ≤ 3 → X.cell? ⟨w.heap.size, 12 + k, none⟩ = some (.bool (x.sent k))) := Lib.hid (by
      intro k h1 h3
      rw [blk_cell P2.out]
      rcases (show k = 1 ∨ k = 2 ∨ k = 3 by omega) with rfl | rfl | rfl <;> rfl)
    clear P2
    go_enter Tryd.func18, Tryd.ntmps18
    go_wp2_with (first | (refine wpList_load_if 53 (.tmp 20) rfl rfl rfl hq' ?_) | rw [HE.out] | rw [HX.out])
    go_loopw [8] (fun tk wr => ∃ k : Nat, 1 ≤ k ∧ k ≤ 4 ∧ tk = .int .i64 k ∧ wr = X) (fun tk _ => 4 - (intOf tk).toNat)
    case atStart => exact ⟨1, by omega, by omega, rfl, rfl⟩
    case round =>
      obtain ⟨k, h1, h4, rfl, rfl⟩ := hrel
      by_cases hk : k = 4
      · have d1 : decide ((k : Int) ≤ 3) = false := by simp; omega
        have d1' : decide (k ≤ 3) = false := by simp; omega
        clear hk
        go_wp2_with fail
        go_ret
        exact ⟨rfl, _, Y2.out, KX.out⟩
      have h3 : k ≤ 3 := by omega
      have d1 : decide ((k : Int) ≤ 3) = true := by simp; omega
      have d1' : decide (k ≤ 3) = true := by simpa using h3
      have q := qs.out k h1 h3
      have hn := HNO.out k h1 h3
      have j0 : (0 : Int) ≤ (k : Int) := by omega
      have j1 : (k : Int) < 4 := by omega
      clear hk
      cases hs : x.sent k
      · rw [hs] at q
        clear hn
        go_wp2_with fail
        go_roundw
        case rel => exact ⟨k + 1, by omega, by omega, by first | rfl | simp, by first | trivial | rfl⟩
        case measure => simp [intOf]; omega
      · rw [hs] at q
        have HB := Lib.hid (hn hs)
        clear hn
        go_wp2_with fail
        refine (serves_any g b s (k : Int) _ hls Y2.out.one).mono ?_
        rintro e wz ⟨rfl, rfl⟩
        cases hv : s.serves (k : Int)
        · go_wp2_with fail
          go_roundw
          case rel => exact ⟨k + 1, by omega, by omega, by first | rfl | simp, by first | trivial | rfl⟩
          case measure => simp [intOf]; omega
        · go_wp2_with fail
          refine (blocked_any g b s (k : Int) _ hls Y2.out.one).mono ?_
          rintro e wz ⟨rfl, rfl⟩
          rw [HB.out]
          go_wp2_with fail
          go_roundw
          case rel => exact ⟨k + 1, by omega, by omega, by first | rfl | simp, by first | trivial | rfl⟩
          case measure => simp [intOf]; omega
set_option maxHeartbeats 4000000 in
theorem hearA_note {w0 w : World} {g b h c xs ws : Nat} {s t : Shk} {va vb : Value} {x : Itm} {r B : List Itm} (y : Way w0 w g b h c xs ws s t va vb (x :: r) B) (hf : x.frame = false) (m : Int) (hok : s.Ok m) (hm : 0 ≤ m) (hm2 : m ≤ 1000000) (hbl : B.length ≤ 1000000) :
    Calls Tryd.prog 18 #[.pointer (some ⟨g, 0, none⟩), .pointer (some ⟨ws, 0, none⟩), .pointer (some ⟨ws, 1, none⟩)] w fun e w' => e = .returned (.bool ((s.hearN (right (Tell.note x.note)) x.note).2.2 == 0)) ∧ ∃ v' u', Way w0 w' g b h c xs ws (s.hearN (right (Tell.note x.note)) x.note).1 t v' u' r (B ++ (s.hearN (right (Tell.note x.note)) x.note).2.1.map Itm.ofTell) ∧ Keep w w' := by
  obtain ⟨k0, k1, k2, k3⟩ := y.here
  obtain ⟨b1, f1, cap, rfl, hld, hq⟩ := item_load y.ra
  obtain ⟨ao9, cap9, hv9, hcp, hcm⟩ := y.ra.form
  simp only [Value.slice.injEq] at hv9
  obtain ⟨rfl, -, rfl⟩ := hv9
  have HP := Lib.hid (fun off' ho => pop_row (off' := off') y.ra ho)
  have fz := blk_frozen y.ways 0
  have i1 : (0 : Int) < (r.length : Int) + 1 := by omega
  have i2 : ((r.length : Int) + 1 == 0) = false := by simp; omega
  simp only [List.length_cons] at hcp
  have p1 := heap_alloc_new w (.cells (itemC x) 53)
  have s1 := (Step.refl None w).alloc (.cells (itemC x) 53)
  obtain ⟨W, hW⟩ : ∃ W, w.alloc (.cells (itemC x) 53) = W := ⟨_, rfl⟩
  rw [hW] at p1 s1
  have HE : Hid (w.alloc (.cells #[.int .i64 x.note.kind, .int .i64 0, .int .u8 0, .int .u8 0, .int .u8 0, .int .u8 0, .int .u8 0, .int .u8 0, .int .i64 x.note.port, .int .i64 x.note.state, .slice none 0 0, .bool x.frame, .bool false, .bool x.s1, .bool x.s2, .bool x.s3] 53) = W) := Lib.hid hW
  have hq' : (Instr.loadAt 53 (.pointer (some ⟨b1, f1, none⟩))).run Tryd.prog w = .ok (.agg #[.int .i64 x.note.kind, .int .i64 0, .int .u8 0, .int .u8 0, .int .u8 0, .int .u8 0, .int .u8 0, .int .u8 0, .int .i64 x.note.port, .int .i64 x.note.state, .slice none 0 0, .bool x.frame, .bool false, .bool x.s1, .bool x.s2, .bool x.s3]) w := hq
  rw [hf] at HE hq'
  have P1 := Lib.hid p1
  have Y1 := Lib.hid (y.still s1)
  have KW := Lib.hid (Keep.none s1)
  have NW : Hid (ws ≠ w.heap.size) := Lib.hid (by have := blk_lt y.ways; omega)
  have HPW := Lib.hid (fun off' ho => (HP.out off' ho).step s1 (fun _ _ s => s.elim))
  clear hW p1 s1 y hq HP hld
  obtain ⟨l0, l1, l2, l3⟩ := Y1.out.here
  have fw := blk_frozen Y1.out.ways 0
  have HOK := Lib.hid hok
  clear hok
  by_cases hc1 : cap = 1
  · subst hc1
    obtain rfl : r = [] := List.eq_nil_of_length_eq_zero (by omega)
    have Y2 : Hid (Way w0 (W.setCell ⟨ws, 0, none⟩ (.slice (some ⟨b1, f1, none⟩) 0 0)) g b h c xs ws s t (.slice (some ⟨b1, f1, none⟩) 0 0) vb [] B) := Lib.hid (Y1.out.turnA (s1 := Step.refl _ _) (HPW.out _ (.inl ⟨rfl, rfl⟩)) (fun k hk => .inl (by simpa [Leads, Value.ownBlock] using hk)))
    have P2 := Lib.hid (((Step.refl (· = ws) W).setCell (p := ⟨ws, 0, none⟩) (fun _ => rfl) (.slice (some ⟨b1, f1, none⟩) 0 0)).blk P1.out NW.out.symm)
    obtain ⟨X, hX⟩ : ∃ X, W.setCell ⟨ws, 0, none⟩ (.slice (some ⟨b1, f1, none⟩) 0 0) = X := ⟨_, rfl⟩
    have KX := Lib.hid (KW.out.trans (Keep.one Y1.out.ways (by decide) ((Step.refl (· = ws) W).setCell (p := ⟨ws, 0, none⟩) (fun _ => rfl) (.slice (some ⟨b1, f1, none⟩) 0 0))))
    rw [hX] at Y2 P2 KX
    have HX := Lib.hid hX
    clear hX HPW Y1 P1
    have q11 := blk_cell P2.out 11
    simp only [itemC, List.getElem?_toArray, List.getElem?_cons_zero, List.getElem?_cons_succ] at q11
    rw [hf] at q11
    have lp := load_item_note P2.out
    have HH : Hid (s.hearN (right (Tell.note x.note)) x.note = s.take (right (Tell.note x.note)) (Tell.note x.note).kind (Tell.note x.note).port (Tell.note x.note).state) := Lib.hid rfl
    rw [HH.out]
    have CNT := Lib.hid (Shk.take_count s (right (Tell.note x.note)) (Tell.note x.note).kind (Tell.note x.note).port (Tell.note x.note).state)
    have TK := Lib.hid (take_any g b s (Tell.note x.note) none 0 X m HOK.out hm hm2 Y2.out.tab Y2.out.one)
    rw [← tellC_note] at TK
    obtain ⟨q, hq2⟩ : ∃ q, s.take (right (Tell.note x.note)) (Tell.note x.note).kind (Tell.note x.note).port (Tell.note x.note).state = q := ⟨_, rfl⟩
    rw [hq2] at TK CNT ⊢
    obtain ⟨s', l, e0⟩ := q
    simp only at TK CNT ⊢
    clear P2 HH hq2
    go_enter Tryd.func18, Tryd.ntmps18
    go_wp2_with (first | (refine wpList_load_if 53 (.tmp 20) rfl rfl rfl hq' ?_) | (refine wpList_load_if 35 (.tmp 51) rfl rfl rfl lp ?_) | rw [HE.out] | rw [HX.out])
    refine TK.out.mono ?_
    rintro e w5 ⟨ul, rfl, t5, r5, s5⟩
    have Y5 := Lib.hid (Y2.out.next1 (s5.mono (T := fun k => k = g ∨ k = b) fun k _ e => .inr e) r5)
    have K5 := Lib.hid (KX.out.trans (Keep.one Y2.out.one.row (by decide) s5))
    have U5 := Lib.hid t5
    obtain ⟨uo, uc, rfl, -, -⟩ := t5.row.form
    have LL : Hid (l.length ≤ 1) := CNT
    have hli : ((l.length : Nat) : Int) ≤ 9223372036854775807 := by have := LL.out; omega
    clear t5 r5 s5 TK Y2 CNT lp q11 l0 l1 l2 l3 fw
    go_wp2_with fail
    go_loopw [11] (fun tj wr => ∃ j : Nat, j ≤ l.length ∧ tj = .int .i64 j ∧ Hid (Tells wr 0 (.slice uo l.length uc) l) ∧ Hid (Keep w wr) ∧ ∃ u', Hid (Way w0 wr g b h c xs ws s' t (.slice (some ⟨b1, f1, none⟩) 0 0) u' [] (B ++ (l.take j).map Itm.ofTell))) (fun tj _ => l.length - (intOf tj).toNat)
    case atStart => exact ⟨0, by omega, rfl, Lib.hid (U5.out.mono (Nat.zero_le _)), K5, vb, by simpa using Y5⟩
    case round =>
      obtain ⟨j, hj, rfl, hU, hKP, u', hY⟩ := hrel
      rename_i wr
      clear U5 Y5 K5
      cases c1 : decide ((j : Int) < (l.length : Int))
      · have c1' : decide (j < l.length) = false := by simp at c1 ⊢; omega
        have hin : j = l.length := by simp at c1; omega
        rw [hin, List.take_length] at hY
        clear hin
        go_wp2_with fail
        go_ret
        exact ⟨rfl, _, _, hY.out, hKP.out⟩
      have hlt : j < l.length := by simp at c1; omega
      obtain ⟨D, hD⟩ : ∃ D, B ++ (l.take j).map Itm.ofTell = D := ⟨_, rfl⟩
      rw [hD] at hY
      have BN : Hid (D.length ≤ 1000001) := Lib.hid (by have := LL.out; rw [← hD, List.length_append, List.length_map, List.length_take]; omega)
      have HD := Lib.hid hD
      clear hD
      have c1' : decide (j < l.length) = true := by simpa using hlt
      obtain ⟨tt, htt⟩ : ∃ tt, l[j]? = some tt := ⟨_, List.getElem?_eq_getElem hlt⟩
      have hnx : l.take (j + 1) = l.take j ++ [tt] := by rw [List.take_add_one, htt]; rfl
      have NX := Lib.hid hnx
      clear hnx
      obtain ⟨zo, zc, rfl, -, -⟩ := hY.out.rb.form
      obtain ⟨b9, o9, k9, e9, hl9, h9⟩ := tells_load hU.out htt
      simp only [Value.slice.injEq] at e9
      obtain ⟨rfl, -, rfl⟩ := e9
      have NL : Hid (∀ w', Step (Leads (.slice zo D.length zc)) wr w' → (Instr.loadAt 35 (.pointer (some ⟨b9, o9 + j * 11, none⟩))).run Tryd.prog w' = .ok (.agg #[.int .i64 tt.kind, .int .i64 0, .int .u8 0, .int .u8 0, .int .u8 0, .int .u8 0, .int .u8 0, .int .u8 0, .int .i64 tt.port, .int .i64 tt.state, .slice none 0 0]) w' ∧ Tells w' 0 (.slice (some ⟨b9, o9, none⟩) l.length uc) l) := Lib.hid (fun w' h' => by
        have hU2 := hU.out.step h' (fun k hk => by
          obtain ⟨cur, hcur⟩ := hU.out.row.typed hk
          exact hY.out.rb.ne hcur (by decide))
        obtain ⟨x1, y1, z1, q1, -, f1⟩ := tells_load hU2 htt
        simp only [Value.slice.injEq, Option.some.injEq, Addr.mk.injEq] at q1
        obtain ⟨⟨rfl, rfl, -⟩, -, -⟩ := q1
        exact ⟨f1, hU2⟩)
      have j0 : (0 : Int) ≤ (j : Int) := by omega
      have j1 : (j : Int) < (l.length : Int) := by omega
      have WAY := Lib.hid (fun w' (h' : Step (Leads (.slice zo D.length zc)) wr w') => And.intro (hY.out.cells hY.out.rb h') (NL.out w' h').1)
      have NWS : Hid (∀ w', Step (Leads (.slice zo D.length zc)) wr w' → ∀ k, Leads (.slice (some ⟨b9, o9, none⟩) l.length uc) k → ¬ k = ws) := Lib.hid (fun w' h' k hk e => by
        obtain ⟨cur, hcur⟩ := hU.out.row.typed hk
        subst e
        exact blk_ne hY.out.ways hcur (by decide) rfl)
      clear htt hl9 h9
      have dr : Step None wr wr.drew := (Step.refl None wr).drew
      have al := dr.alloc (.cells #[.int .i64 tt.kind, .int .i64 0, .int .u8 0, .int .u8 0, .int .u8 0, .int .u8 0, .int .u8 0, .int .u8 0, .int .i64 tt.port, .int .i64 tt.state, .slice none 0 0, .bool false, .bool false, .bool false, .bool false, .bool false] 53)
      have ob : (wr.drew.alloc (.cells #[.int .i64 tt.kind, .int .i64 0, .int .u8 0, .int .u8 0, .int .u8 0, .int .u8 0, .int .u8 0, .int .u8 0, .int .i64 tt.port, .int .i64 tt.state, .slice none 0 0, .bool false, .bool false, .bool false, .bool false, .bool false] 53)).heap[wr.heap.size]? = some (.cells #[.int .i64 tt.kind, .int .i64 0, .int .u8 0, .int .u8 0, .int .u8 0, .int .u8 0, .int .u8 0, .int .u8 0, .int .i64 tt.port, .int .i64 tt.state, .slice none 0 0, .bool false, .bool false, .bool false, .bool false, .bool false] 53 (0, 0)) := heap_alloc_new wr.drew (.cells #[.int .i64 tt.kind, .int .i64 0, .int .u8 0, .int .u8 0, .int .u8 0, .int .u8 0, .int .u8 0, .int .u8 0, .int .i64 tt.port, .int .i64 tt.state, .slice none 0 0, .bool false, .bool false, .bool false, .bool false, .bool false] 53)
      go_wp2_with fail
      refine wp_region_plan (fun w' => (w'.cell? ⟨xs, 0, none⟩ = some (.pointer (some ⟨g, 0, none⟩)) ∧ w'.cell? ⟨xs, 1, none⟩ = some (.pointer (some ⟨h, 0, none⟩)) ∧ w'.cell? ⟨ws, 0, none⟩ = some (.slice (some ⟨b1, f1, none⟩) 0 0) ∧ w'.cell? ⟨ws, 1, none⟩ = some (.slice zo D.length zc)) ∧ (Instr.loadAt 35 (.pointer (some ⟨b9, o9 + j * 11, none⟩))).run Tryd.prog w' = .ok (.agg #[.int .i64 tt.kind, .int .i64 0, .int .u8 0, .int .u8 0, .int .u8 0, .int .u8 0, .int .u8 0, .int .u8 0, .int .i64 tt.port, .int .i64 tt.state, .slice none 0 0]) w') (.take 0 (.take 1 (.take 2 (.take 3 (.take 4 (.take 5 (.take 6 (.take 7 (.take 8 (.alt 9 (.alt 10 (.take 11 (.last 12)) .none) .none)))))))))) _
        (by simp only [Plan.map, opOf, List.getElem?_toArray, List.getElem?_cons_zero, List.getElem?_cons_succ, Option.getD_some]; rfl) (by kernel_rfl) (by kernel_rfl) (by kernel_rfl) (by decide) (by intro c a d v w; cases d <;> exact fun h => h)
        (WAY.out _ dr.none) ?_
      repeat (first | (refine wpPlan.taken (by rfl) (fun w' hS' => run_load_op rfl rfl hS'.2) ?_; simp only [Act.put, List.setIfInBounds_toArray, List.set_cons_zero, List.set_cons_succ]) | (refine wpPlan.taken (by rfl) (by intro w' hS'; (try dsimp only at hS'); go_split_ands; go_simp; try with_reducible rfl) ?_; simp only [Act.put, List.setIfInBounds_toArray, List.set_cons_zero, List.set_cons_succ]) | (refine wpPlan.passed (by rfl) ?_; simp only [Act.put, List.setIfInBounds_toArray, List.set_cons_zero, List.set_cons_succ]))
      refine wpPlan.runs fun K' hK => ?_
      go_simp
      refine hK.out _ _ (WAY.out _ al.none) ?_
      clear hK K'
      have Y6 := Lib.hid (hY.out.still al)
      refine wpPlan.runs fun K' hK => ?_
      refine step_append_row (m := 1) T43 (by rfl) (.tmp 65) (.tmp 71) (by rfl) (by rfl) Y6.out.rb (by rfl) (Src.ofBlock T43 (m := 1) (c := 1) ob (by rfl) (by simp [Value.oneCell'])) (by have := BN.out; simp [maxLen]; omega) (by have := BN.out; omega) ?_
      intro v7 w7 r7 s7 g7
      refine hK.out _ _ (WAY.out _ (al.none.then_ s7)) ?_
      clear hK K'
      have Y7 := Lib.hid (Y6.out.turnB (B' := D ++ [Itm.ofTell tt]) s7 (by rw [List.length_append, flatI_app]; exact r7) g7)
      have K7 := Lib.hid (((hKP.out.trans (Keep.none al)).trans (Keep.row Y6.out.rb (by decide) s7)).trans (Keep.one (s7.blk Y6.out.ways (Y6.out.rb.ne Y6.out.ways (by decide))) (by decide) ((Step.refl (· = ws) w7).setCell (p := ⟨ws, 1, none⟩) (fun _ => rfl) v7)))
      have U7 := Lib.hid (((NL.out _ (al.none.then_ s7)).2).step ((Step.refl (· = ws) w7).setCell (p := ⟨ws, 1, none⟩) (fun _ => rfl) v7) (NWS.out _ (al.none.then_ s7)))
      have fz7 := blk_frozen (s7.blk Y6.out.ways (Y6.out.rb.ne Y6.out.ways (by decide))) 1
      have HT := WAY.out _ (al.none.then_ s7)
      obtain ⟨⟨m0, m1, m2, m3⟩, -⟩ := HT
      obtain ⟨vo7, vc7, rfl, -, -⟩ := r7.form
      clear Y6 hY hU NL WAY NWS al ob dr r7 s7 g7
      repeat (first | (refine wpPlan.taken (by rfl) (fun w' hS' => run_load_op rfl rfl hS'.2) ?_; simp only [Act.put, List.setIfInBounds_toArray, List.set_cons_zero, List.set_cons_succ]) | (refine wpPlan.taken (by rfl) (by intro w' hS'; (try dsimp only at hS'); go_split_ands; go_simp; try with_reducible rfl) ?_; simp only [Act.put, List.setIfInBounds_toArray, List.set_cons_zero, List.set_cons_succ]) | (refine wpPlan.passed (by rfl) ?_; simp only [Act.put, List.setIfInBounds_toArray, List.set_cons_zero, List.set_cons_succ]))
      refine wpPlan.ends fun K' hK => ?_
      go_simp
      refine hK.out _ _ ?_
      clear hK K' fz7 m0 m1 m2 m3
      go_wp2_with fail
      go_roundw
      case rel => exact ⟨j + 1, by omega, by first | rfl | simp, U7, K7, _, by rw [NX.out, List.map_append, ← List.append_assoc, HD.out]; exact Y7⟩
      case measure => simp [intOf]; omega
  · have Y2 : Hid (Way w0 (W.setCell ⟨ws, 0, none⟩ (.slice (some ⟨b1, f1 + 16, none⟩) r.length (cap - 1))) g b h c xs ws s t (.slice (some ⟨b1, f1 + 16, none⟩) r.length (cap - 1)) vb r B) := Lib.hid (Y1.out.turnA (s1 := Step.refl _ _) (HPW.out _ (.inr rfl)) (fun k hk => .inl (by simpa [Leads, Value.ownBlock] using hk)))
    have P2 := Lib.hid (((Step.refl (· = ws) W).setCell (p := ⟨ws, 0, none⟩) (fun _ => rfl) (.slice (some ⟨b1, f1 + 16, none⟩) r.length (cap - 1))).blk P1.out NW.out.symm)
    obtain ⟨X, hX⟩ : ∃ X, W.setCell ⟨ws, 0, none⟩ (.slice (some ⟨b1, f1 + 16, none⟩) r.length (cap - 1)) = X := ⟨_, rfl⟩
    have KX := Lib.hid (KW.out.trans (Keep.one Y1.out.ways (by decide) ((Step.refl (· = ws) W).setCell (p := ⟨ws, 0, none⟩) (fun _ => rfl) (.slice (some ⟨b1, f1 + 16, none⟩) r.length (cap - 1)))))
    rw [hX] at Y2 P2 KX
    have HX := Lib.hid hX
    clear hX HPW Y1 P1
    have q11 := blk_cell P2.out 11
    simp only [itemC, List.getElem?_toArray, List.getElem?_cons_zero, List.getElem?_cons_succ] at q11
    rw [hf] at q11
    have lp := load_item_note P2.out
    have HH : Hid (s.hearN (right (Tell.note x.note)) x.note = s.take (right (Tell.note x.note)) (Tell.note x.note).kind (Tell.note x.note).port (Tell.note x.note).state) := Lib.hid rfl
    rw [HH.out]
    have CNT := Lib.hid (Shk.take_count s (right (Tell.note x.note)) (Tell.note x.note).kind (Tell.note x.note).port (Tell.note x.note).state)
    have TK := Lib.hid (take_any g b s (Tell.note x.note) none 0 X m HOK.out hm hm2 Y2.out.tab Y2.out.one)
    rw [← tellC_note] at TK
    obtain ⟨q, hq2⟩ : ∃ q, s.take (right (Tell.note x.note)) (Tell.note x.note).kind (Tell.note x.note).port (Tell.note x.note).state = q := ⟨_, rfl⟩
    rw [hq2] at TK CNT ⊢
    obtain ⟨s', l, e0⟩ := q
    simp only at TK CNT ⊢
    clear P2 HH hq2
    go_enter Tryd.func18, Tryd.ntmps18
    go_wp2_with (first | (refine wpList_load_if 53 (.tmp 20) rfl rfl rfl hq' ?_) | (refine wpList_load_if 35 (.tmp 51) rfl rfl rfl lp ?_) | rw [HE.out] | rw [HX.out])
    refine TK.out.mono ?_
    rintro e w5 ⟨ul, rfl, t5, r5, s5⟩
    have Y5 := Lib.hid (Y2.out.next1 (s5.mono (T := fun k => k = g ∨ k = b) fun k _ e => .inr e) r5)
    have K5 := Lib.hid (KX.out.trans (Keep.one Y2.out.one.row (by decide) s5))
    have U5 := Lib.hid t5
    obtain ⟨uo, uc, rfl, -, -⟩ := t5.row.form
    have LL : Hid (l.length ≤ 1) := CNT
    have hli : ((l.length : Nat) : Int) ≤ 9223372036854775807 := by have := LL.out; omega
    clear t5 r5 s5 TK Y2 CNT lp q11 l0 l1 l2 l3 fw
    go_wp2_with fail
    go_loopw [11] (fun tj wr => ∃ j : Nat, j ≤ l.length ∧ tj = .int .i64 j ∧ Hid (Tells wr 0 (.slice uo l.length uc) l) ∧ Hid (Keep w wr) ∧ ∃ u', Hid (Way w0 wr g b h c xs ws s' t (.slice (some ⟨b1, f1 + 16, none⟩) r.length (cap - 1)) u' r (B ++ (l.take j).map Itm.ofTell))) (fun tj _ => l.length - (intOf tj).toNat)
    case atStart => exact ⟨0, by omega, rfl, Lib.hid (U5.out.mono (Nat.zero_le _)), K5, vb, by simpa using Y5⟩
    case round =>
      obtain ⟨j, hj, rfl, hU, hKP, u', hY⟩ := hrel
      rename_i wr
      clear U5 Y5 K5
      cases c1 : decide ((j : Int) < (l.length : Int))
      · have c1' : decide (j < l.length) = false := by simp at c1 ⊢; omega
        have hin : j = l.length := by simp at c1; omega
        rw [hin, List.take_length] at hY
        clear hin
        go_wp2_with fail
        go_ret
        exact ⟨rfl, _, _, hY.out, hKP.out⟩
      have hlt : j < l.length := by simp at c1; omega
      obtain ⟨D, hD⟩ : ∃ D, B ++ (l.take j).map Itm.ofTell = D := ⟨_, rfl⟩
      rw [hD] at hY
      have BN : Hid (D.length ≤ 1000001) := Lib.hid (by have := LL.out; rw [← hD, List.length_append, List.length_map, List.length_take]; omega)
      have HD := Lib.hid hD
      clear hD
      have c1' : decide (j < l.length) = true := by simpa using hlt
      obtain ⟨tt, htt⟩ : ∃ tt, l[j]? = some tt := ⟨_, List.getElem?_eq_getElem hlt⟩
      have hnx : l.take (j + 1) = l.take j ++ [tt] := by rw [List.take_add_one, htt]; rfl
      have NX := Lib.hid hnx
      clear hnx
      obtain ⟨zo, zc, rfl, -, -⟩ := hY.out.rb.form
      obtain ⟨b9, o9, k9, e9, hl9, h9⟩ := tells_load hU.out htt
      simp only [Value.slice.injEq] at e9
      obtain ⟨rfl, -, rfl⟩ := e9
      have NL : Hid (∀ w', Step (Leads (.slice zo D.length zc)) wr w' → (Instr.loadAt 35 (.pointer (some ⟨b9, o9 + j * 11, none⟩))).run Tryd.prog w' = .ok (.agg #[.int .i64 tt.kind, .int .i64 0, .int .u8 0, .int .u8 0, .int .u8 0, .int .u8 0, .int .u8 0, .int .u8 0, .int .i64 tt.port, .int .i64 tt.state, .slice none 0 0]) w' ∧ Tells w' 0 (.slice (some ⟨b9, o9, none⟩) l.length uc) l) := Lib.hid (fun w' h' => by
        have hU2 := hU.out.step h' (fun k hk => by
          obtain ⟨cur, hcur⟩ := hU.out.row.typed hk
          exact hY.out.rb.ne hcur (by decide))
        obtain ⟨x1, y1, z1, q1, -, f1⟩ := tells_load hU2 htt
        simp only [Value.slice.injEq, Option.some.injEq, Addr.mk.injEq] at q1
        obtain ⟨⟨rfl, rfl, -⟩, -, -⟩ := q1
        exact ⟨f1, hU2⟩)
      have j0 : (0 : Int) ≤ (j : Int) := by omega
      have j1 : (j : Int) < (l.length : Int) := by omega
      have WAY := Lib.hid (fun w' (h' : Step (Leads (.slice zo D.length zc)) wr w') => And.intro (hY.out.cells hY.out.rb h') (NL.out w' h').1)
      have NWS : Hid (∀ w', Step (Leads (.slice zo D.length zc)) wr w' → ∀ k, Leads (.slice (some ⟨b9, o9, none⟩) l.length uc) k → ¬ k = ws) := Lib.hid (fun w' h' k hk e => by
        obtain ⟨cur, hcur⟩ := hU.out.row.typed hk
        subst e
        exact blk_ne hY.out.ways hcur (by decide) rfl)
      clear htt hl9 h9
      have dr : Step None wr wr.drew := (Step.refl None wr).drew
      have al := dr.alloc (.cells #[.int .i64 tt.kind, .int .i64 0, .int .u8 0, .int .u8 0, .int .u8 0, .int .u8 0, .int .u8 0, .int .u8 0, .int .i64 tt.port, .int .i64 tt.state, .slice none 0 0, .bool false, .bool false, .bool false, .bool false, .bool false] 53)
      have ob : (wr.drew.alloc (.cells #[.int .i64 tt.kind, .int .i64 0, .int .u8 0, .int .u8 0, .int .u8 0, .int .u8 0, .int .u8 0, .int .u8 0, .int .i64 tt.port, .int .i64 tt.state, .slice none 0 0, .bool false, .bool false, .bool false, .bool false, .bool false] 53)).heap[wr.heap.size]? = some (.cells #[.int .i64 tt.kind, .int .i64 0, .int .u8 0, .int .u8 0, .int .u8 0, .int .u8 0, .int .u8 0, .int .u8 0, .int .i64 tt.port, .int .i64 tt.state, .slice none 0 0, .bool false, .bool false, .bool false, .bool false, .bool false] 53 (0, 0)) := heap_alloc_new wr.drew (.cells #[.int .i64 tt.kind, .int .i64 0, .int .u8 0, .int .u8 0, .int .u8 0, .int .u8 0, .int .u8 0, .int .u8 0, .int .i64 tt.port, .int .i64 tt.state, .slice none 0 0, .bool false, .bool false, .bool false, .bool false, .bool false] 53)
      go_wp2_with fail
      refine wp_region_plan (fun w' => (w'.cell? ⟨xs, 0, none⟩ = some (.pointer (some ⟨g, 0, none⟩)) ∧ w'.cell? ⟨xs, 1, none⟩ = some (.pointer (some ⟨h, 0, none⟩)) ∧ w'.cell? ⟨ws, 0, none⟩ = some (.slice (some ⟨b1, f1 + 16, none⟩) r.length (cap - 1)) ∧ w'.cell? ⟨ws, 1, none⟩ = some (.slice zo D.length zc)) ∧ (Instr.loadAt 35 (.pointer (some ⟨b9, o9 + j * 11, none⟩))).run Tryd.prog w' = .ok (.agg #[.int .i64 tt.kind, .int .i64 0, .int .u8 0, .int .u8 0, .int .u8 0, .int .u8 0, .int .u8 0, .int .u8 0, .int .i64 tt.port, .int .i64 tt.state, .slice none 0 0]) w') (.take 0 (.take 1 (.take 2 (.take 3 (.take 4 (.take 5 (.take 6 (.take 7 (.take 8 (.alt 9 (.alt 10 (.take 11 (.last 12)) .none) .none)))))))))) _
        (by simp only [Plan.map, opOf, List.getElem?_toArray, List.getElem?_cons_zero, List.getElem?_cons_succ, Option.getD_some]; rfl) (by kernel_rfl) (by kernel_rfl) (by kernel_rfl) (by decide) (by intro c a d v w; cases d <;> exact fun h => h)
        (WAY.out _ dr.none) ?_
      repeat (first | (refine wpPlan.taken (by rfl) (fun w' hS' => run_load_op rfl rfl hS'.2) ?_; simp only [Act.put, List.setIfInBounds_toArray, List.set_cons_zero, List.set_cons_succ]) | (refine wpPlan.taken (by rfl) (by intro w' hS'; (try dsimp only at hS'); go_split_ands; go_simp; try with_reducible rfl) ?_; simp only [Act.put, List.setIfInBounds_toArray, List.set_cons_zero, List.set_cons_succ]) | (refine wpPlan.passed (by rfl) ?_; simp only [Act.put, List.setIfInBounds_toArray, List.set_cons_zero, List.set_cons_succ]))
      refine wpPlan.runs fun K' hK => ?_
      go_simp
      refine hK.out _ _ (WAY.out _ al.none) ?_
      clear hK K'
      have Y6 := Lib.hid (hY.out.still al)
      refine wpPlan.runs fun K' hK => ?_
      refine step_append_row (m := 1) T43 (by rfl) (.tmp 65) (.tmp 71) (by rfl) (by rfl) Y6.out.rb (by rfl) (Src.ofBlock T43 (m := 1) (c := 1) ob (by rfl) (by simp [Value.oneCell'])) (by have := BN.out; simp [maxLen]; omega) (by have := BN.out; omega) ?_
      intro v7 w7 r7 s7 g7
      refine hK.out _ _ (WAY.out _ (al.none.then_ s7)) ?_
      clear hK K'
      have Y7 := Lib.hid (Y6.out.turnB (B' := D ++ [Itm.ofTell tt]) s7 (by rw [List.length_append, flatI_app]; exact r7) g7)
      have K7 := Lib.hid (((hKP.out.trans (Keep.none al)).trans (Keep.row Y6.out.rb (by decide) s7)).trans (Keep.one (s7.blk Y6.out.ways (Y6.out.rb.ne Y6.out.ways (by decide))) (by decide) ((Step.refl (· = ws) w7).setCell (p := ⟨ws, 1, none⟩) (fun _ => rfl) v7)))
      have U7 := Lib.hid (((NL.out _ (al.none.then_ s7)).2).step ((Step.refl (· = ws) w7).setCell (p := ⟨ws, 1, none⟩) (fun _ => rfl) v7) (NWS.out _ (al.none.then_ s7)))
      have fz7 := blk_frozen (s7.blk Y6.out.ways (Y6.out.rb.ne Y6.out.ways (by decide))) 1
      have HT := WAY.out _ (al.none.then_ s7)
      obtain ⟨⟨m0, m1, m2, m3⟩, -⟩ := HT
      obtain ⟨vo7, vc7, rfl, -, -⟩ := r7.form
      clear Y6 hY hU NL WAY NWS al ob dr r7 s7 g7
      repeat (first | (refine wpPlan.taken (by rfl) (fun w' hS' => run_load_op rfl rfl hS'.2) ?_; simp only [Act.put, List.setIfInBounds_toArray, List.set_cons_zero, List.set_cons_succ]) | (refine wpPlan.taken (by rfl) (by intro w' hS'; (try dsimp only at hS'); go_split_ands; go_simp; try with_reducible rfl) ?_; simp only [Act.put, List.setIfInBounds_toArray, List.set_cons_zero, List.set_cons_succ]) | (refine wpPlan.passed (by rfl) ?_; simp only [Act.put, List.setIfInBounds_toArray, List.set_cons_zero, List.set_cons_succ]))
      refine wpPlan.ends fun K' hK => ?_
      go_simp
      refine hK.out _ _ ?_
      clear hK K' fz7 m0 m1 m2 m3
      go_wp2_with fail
      go_roundw
      case rel => exact ⟨j + 1, by omega, by first | rfl | simp, U7, K7, _, by rw [NX.out, List.map_append, ← List.append_assoc, HD.out]; exact Y7⟩
      case measure => simp [intOf]; omega
theorem hearB_none {w0 w : World} {g b h c xs ws : Nat} {s t : Shk} {va vb : Value} {A : List Itm} (y : Way w0 w g b h c xs ws s t va vb A []) :
    Calls Tryd.prog 18 #[.pointer (some ⟨h, 0, none⟩), .pointer (some ⟨ws, 1, none⟩), .pointer (some ⟨ws, 0, none⟩)] w fun e w' => e = .returned (.bool true) ∧ w = w' := by
  obtain ⟨k0, k1, k2, k3⟩ := y.here
  obtain ⟨ao, cap, rfl, -, -⟩ := y.rb.form
  clear y
  go_enter Tryd.func18, Tryd.ntmps18
  go_wp2_with fail
  go_ret
  exact ⟨rfl, rfl⟩
set_option maxHeartbeats 4000000 in
theorem hearB_frame {w0 w : World} {g b h c xs ws : Nat} {s t : Shk} {va vb : Value} {x : Itm} {r A : List Itm} (y : Way w0 w g b h c xs ws s t va vb A (x :: r)) (hf : x.frame = true) (hls : t.ls.length ≤ 63) (hno : ∀ k : Nat, 1 ≤ k → k ≤ 3 → x.sent k = true → t.blocked (k : Int) = true) :
    Calls Tryd.prog 18 #[.pointer (some ⟨h, 0, none⟩), .pointer (some ⟨ws, 1, none⟩), .pointer (some ⟨ws, 0, none⟩)] w fun e w' => e = .returned (.bool true) ∧ ∃ v', Way w0 w' g b h c xs ws s t va v' A r ∧ Keep w w' := by
  obtain ⟨k0, k1, k2, k3⟩ := y.here
  obtain ⟨b1, f1, cap, rfl, hld, hq⟩ := item_load y.rb
  obtain ⟨ao9, cap9, hv9, hcp, hcm⟩ := y.rb.form
  simp only [Value.slice.injEq] at hv9
  obtain ⟨rfl, -, rfl⟩ := hv9
  have HP := Lib.hid (fun off' ho => pop_row (off' := off') y.rb ho)
  have fz := blk_frozen y.ways 1
  have i1 : (0 : Int) < (r.length : Int) + 1 := by omega
  have i2 : ((r.length : Int) + 1 == 0) = false := by simp; omega
  simp only [List.length_cons] at hcp
  have p1 := heap_alloc_new w (.cells (itemC x) 53)
  have s1 := (Step.refl None w).alloc (.cells (itemC x) 53)
  obtain ⟨W, hW⟩ : ∃ W, w.alloc (.cells (itemC x) 53) = W := ⟨_, rfl⟩
  rw [hW] at p1 s1
  have HE : Hid (w.alloc (.cells #[.int .i64 x.note.kind, .int .i64 0, .int .u8 0, .int .u8 0, .int .u8 0, .int .u8 0, .int .u8 0, .int .u8 0, .int .i64 x.note.port, .int .i64 x.note.state, .slice none 0 0, .bool x.frame, .bool false, .bool x.s1, .bool x.s2, .bool x.s3] 53) = W) := Lib.hid hW
  have hq' : (Instr.loadAt 53 (.pointer (some ⟨b1, f1, none⟩))).run Tryd.prog w = .ok (.agg #[.int .i64 x.note.kind, .int .i64 0, .int .u8 0, .int .u8 0, .int .u8 0, .int .u8 0, .int .u8 0, .int .u8 0, .int .i64 x.note.port, .int .i64 x.note.state, .slice none 0 0, .bool x.frame, .bool false, .bool x.s1, .bool x.s2, .bool x.s3]) w := hq
  rw [hf] at HE hq'
  have P1 := Lib.hid p1
  have Y1 := Lib.hid (y.still s1)
  have KW := Lib.hid (Keep.none s1)
  have NW : Hid (ws ≠ w.heap.size) := Lib.hid (by have := blk_lt y.ways; omega)
  have HNO := Lib.hid hno
  have HPW := Lib.hid (fun off' ho => (HP.out off' ho).step s1 (fun _ _ s => s.elim))
  clear hW p1 s1 y hq hno HP hld
  obtain ⟨l0, l1, l2, l3⟩ := Y1.out.here
  have fw := blk_frozen Y1.out.ways 1
  by_cases hc1 : cap = 1
  · subst hc1
    obtain rfl : r = [] := List.eq_nil_of_length_eq_zero (by omega)
    have Y2 : Hid (Way w0 (W.setCell ⟨ws, 1, none⟩ (.slice (some ⟨b1, f1, none⟩) 0 0)) g b h c xs ws s t va (.slice (some ⟨b1, f1, none⟩) 0 0) A []) := Lib.hid (Y1.out.turnB (s1 := Step.refl _ _) (HPW.out _ (.inl ⟨rfl, rfl⟩)) (fun k hk => .inl (by simpa [Leads, Value.ownBlock] using hk)))
    have P2 := Lib.hid (((Step.refl (· = ws) W).setCell (p := ⟨ws, 1, none⟩) (fun _ => rfl) (.slice (some ⟨b1, f1, none⟩) 0 0)).blk P1.out NW.out.symm)
    obtain ⟨X, hX⟩ : ∃ X, W.setCell ⟨ws, 1, none⟩ (.slice (some ⟨b1, f1, none⟩) 0 0) = X := ⟨_, rfl⟩
    have KX := Lib.hid (KW.out.trans (Keep.one Y1.out.ways (by decide) ((Step.refl (· = ws) W).setCell (p := ⟨ws, 1, none⟩) (fun _ => rfl) (.slice (some ⟨b1, f1, none⟩) 0 0))))
    rw [hX] at Y2 P2 KX
    have HX := Lib.hid hX
    clear hX HPW Y1 P1
    have q11 := blk_cell P2.out 11
    simp only [itemC, List.getElem?_toArray, List.getElem?_cons_zero, List.getElem?_cons_succ] at q11
    rw [hf] at q11
    have qs : Hid (∀ k : Nat, 1 ≤ k → k ≤ 3 → X.cell? ⟨w.heap.size, 12 + k, none⟩ = some (.bool (x.sent k))) := Lib.hid (by
      intro k h1 h3
      rw [blk_cell P2.out]
      rcases (show k = 1 ∨ k = 2 ∨ k = 3 by omega) with rfl | rfl | rfl <;> rfl)
    clear P2
    go_enter Tryd.func18, Tryd.ntmps18
    go_wp2_with (first | (refine wpList_load_if 53 (.tmp 20) rfl rfl rfl hq' ?_) | rw [HE.out] | rw [HX.out])
    go_loopw [8] (fun tk wr => ∃ k : Nat, 1 ≤ k ∧ k ≤ 4 ∧ tk = .int .i64 k ∧ wr = X) (fun tk _ => 4 - (intOf tk).toNat)
    case atStart => exact ⟨1, by omega, by omega, rfl, rfl⟩
    case round =>
      obtain ⟨k, h1, h4, rfl, rfl⟩ := hrel
      by_cases hk : k = 4
      · have d1 : decide ((k : Int) ≤ 3) = false := by simp; omega
        have d1' : decide (k ≤ 3) = false := by simp; omega
        clear hk
        go_wp2_with fail
        go_ret
        exact ⟨rfl, _, Y2.out, KX.out⟩
      have h3 : k ≤ 3 := by omega
      have d1 : decide ((k : Int) ≤ 3) = true := by simp; omega
      have d1' : decide (k ≤ 3) = true := by simpa using h3
      have q := qs.out k h1 h3
      have hn := HNO.out k h1 h3
      have j0 : (0 : Int) ≤ (k : Int) := by omega
      have j1 : (k : Int) < 4 := by omega
      clear hk
      cases hs : x.sent k
      · rw [hs] at q
        clear hn
        go_wp2_with fail
        go_roundw
        case rel => exact ⟨k + 1, by omega, by omega, by first | rfl | simp, by first | trivial | rfl⟩
        case measure => simp [intOf]; omega
      · rw [hs] at q
        have HB := Lib.hid (hn hs)
        clear hn
        go_wp2_with fail
        refine (serves_any h c t (k : Int) _ hls Y2.out.two).mono ?_
        rintro e wz ⟨rfl, rfl⟩
        cases hv : t.serves (k : Int)
        · go_wp2_with fail
          go_roundw
          case rel => exact ⟨k + 1, by omega, by omega, by first | rfl | simp, by first | trivial | rfl⟩
          case measure => simp [intOf]; omega
        · go_wp2_with fail
          refine (blocked_any h c t (k : Int) _ hls Y2.out.two).mono ?_
          rintro e wz ⟨rfl, rfl⟩
          rw [HB.out]
          go_wp2_with fail
          go_roundw
          case rel => exact ⟨k + 1, by omega, by omega, by first | rfl | simp, by first | trivial | rfl⟩
          case measure => simp [intOf]; omega
  · have Y2 : Hid (Way w0 (W.setCell ⟨ws, 1, none⟩ (.slice (some ⟨b1, f1 + 16, none⟩) r.length (cap - 1))) g b h c xs ws s t va (.slice (some ⟨b1, f1 + 16, none⟩) r.length (cap - 1)) A r) := Lib.hid (Y1.out.turnB (s1 := Step.refl _ _) (HPW.out _ (.inr rfl)) (fun k hk => .inl (by simpa [Leads, Value.ownBlock] using hk)))
    have P2 := Lib.hid (((Step.refl (· = ws) W).setCell (p := ⟨ws, 1, none⟩) (fun _ => rfl) (.slice (some ⟨b1, f1 + 16, none⟩) r.length (cap - 1))).blk P1.out NW.out.symm)
    obtain ⟨X, hX⟩ : ∃ X, W.setCell ⟨ws, 1, none⟩ (.slice (some ⟨b1, f1 + 16, none⟩) r.length (cap - 1)) = X := ⟨_, rfl⟩
    have KX := Lib.hid (KW.out.trans (Keep.one Y1.out.ways (by decide) ((Step.refl (· = ws) W).setCell (p := ⟨ws, 1, none⟩) (fun _ => rfl) (.slice (some ⟨b1, f1 + 16, none⟩) r.length (cap - 1)))))
    rw [hX] at Y2 P2 KX
    have HX := Lib.hid hX
    clear hX HPW Y1 P1
    have q11 := blk_cell P2.out 11
    simp only [itemC, List.getElem?_toArray, List.getElem?_cons_zero, List.getElem?_cons_succ] at q11
    rw [hf] at q11
    have qs : Hid (∀ k : Nat, 1 ≤ k → k ≤ 3 → X.cell? ⟨w.heap.size, 12 + k, none⟩ = some (.bool (x.sent k))) := Lib.hid (by
      intro k h1 h3
      rw [blk_cell P2.out]
      rcases (show k = 1 ∨ k = 2 ∨ k = 3 by omega) with rfl | rfl | rfl <;> rfl)
    clear P2
    go_enter Tryd.func18, Tryd.ntmps18
    go_wp2_with (first | (refine wpList_load_if 53 (.tmp 20) rfl rfl rfl hq' ?_) | rw [HE.out] | rw [HX.out])
    go_loopw [8] (fun tk wr => ∃ k : Nat, 1 ≤ k ∧ k ≤ 4 ∧ tk = .int .i64 k ∧ wr = X) (fun tk _ => 4 - (intOf tk).toNat)
    case atStart => exact ⟨1, by omega, by omega, rfl, rfl⟩
    case round =>
      obtain ⟨k, h1, h4, rfl, rfl⟩ := hrel
      by_cases hk : k = 4
      · have d1 : decide ((k : Int) ≤ 3) = false := by simp; omega
        have d1' : decide (k ≤ 3) = false := by simp; omega
        clear hk
        go_wp2_with fail
        go_ret
        exact ⟨rfl, _, Y2.out, KX.out⟩
      have h3 : k ≤ 3 := by omega
      have d1 : decide ((k : Int) ≤ 3) = true := by simp; omega
      have d1' : decide (k ≤ 3) = true := by simpa using h3
      have q := qs.out k h1 h3
      have hn := HNO.out k h1 h3
      have j0 : (0 : Int) ≤ (k : Int) := by omega
      have j1 : (k : Int) < 4 := by omega
      clear hk
      cases hs : x.sent k
      · rw [hs] at q
        clear hn
        go_wp2_with fail
        go_roundw
        case rel => exact ⟨k + 1, by omega, by omega, by first | rfl | simp, by first | trivial | rfl⟩
        case measure => simp [intOf]; omega
      · rw [hs] at q
        have HB := Lib.hid (hn hs)
        clear hn
        go_wp2_with fail
        refine (serves_any h c t (k : Int) _ hls Y2.out.two).mono ?_
        rintro e wz ⟨rfl, rfl⟩
        cases hv : t.serves (k : Int)
        · go_wp2_with fail
          go_roundw
          case rel => exact ⟨k + 1, by omega, by omega, by first | rfl | simp, by first | trivial | rfl⟩
          case measure => simp [intOf]; omega
        · go_wp2_with fail
          refine (blocked_any h c t (k : Int) _ hls Y2.out.two).mono ?_
          rintro e wz ⟨rfl, rfl⟩
          rw [HB.out]
          go_wp2_with fail
          go_roundw
          case rel => exact ⟨k + 1, by omega, by omega, by first | rfl | simp, by first | trivial | rfl⟩
          case measure => simp [intOf]; omega
set_option maxHeartbeats 4000000 in
theorem hearB_note {w0 w : World} {g b h c xs ws : Nat} {s t : Shk} {va vb : Value} {x : Itm} {r A : List Itm} (y : Way w0 w g b h c xs ws s t va vb A (x :: r)) (hf : x.frame = false) (m : Int) (hok : t.Ok m) (hm : 0 ≤ m) (hm2 : m ≤ 1000000) (hbl : A.length ≤ 1000000) :
    Calls Tryd.prog 18 #[.pointer (some ⟨h, 0, none⟩), .pointer (some ⟨ws, 1, none⟩), .pointer (some ⟨ws, 0, none⟩)] w fun e w' => e = .returned (.bool ((t.hearN (right (Tell.note x.note)) x.note).2.2 == 0)) ∧ ∃ v' u', Way w0 w' g b h c xs ws s (t.hearN (right (Tell.note x.note)) x.note).1 u' v' (A ++ (t.hearN (right (Tell.note x.note)) x.note).2.1.map Itm.ofTell) r ∧ Keep w w' := by
  obtain ⟨k0, k1, k2, k3⟩ := y.here
  obtain ⟨b1, f1, cap, rfl, hld, hq⟩ := item_load y.rb
  obtain ⟨ao9, cap9, hv9, hcp, hcm⟩ := y.rb.form
  simp only [Value.slice.injEq] at hv9
  obtain ⟨rfl, -, rfl⟩ := hv9
  have HP := Lib.hid (fun off' ho => pop_row (off' := off') y.rb ho)
  have fz := blk_frozen y.ways 1
  have i1 : (0 : Int) < (r.length : Int) + 1 := by omega
  have i2 : ((r.length : Int) + 1 == 0) = false := by simp; omega
  simp only [List.length_cons] at hcp
  have p1 := heap_alloc_new w (.cells (itemC x) 53)
  have s1 := (Step.refl None w).alloc (.cells (itemC x) 53)
  obtain ⟨W, hW⟩ : ∃ W, w.alloc (.cells (itemC x) 53) = W := ⟨_, rfl⟩
  rw [hW] at p1 s1
  have HE : Hid (w.alloc (.cells #[.int .i64 x.note.kind, .int .i64 0, .int .u8 0, .int .u8 0, .int .u8 0, .int .u8 0, .int .u8 0, .int .u8 0, .int .i64 x.note.port, .int .i64 x.note.state, .slice none 0 0, .bool x.frame, .bool false, .bool x.s1, .bool x.s2, .bool x.s3] 53) = W) := Lib.hid hW
  have hq' : (Instr.loadAt 53 (.pointer (some ⟨b1, f1, none⟩))).run Tryd.prog w = .ok (.agg #[.int .i64 x.note.kind, .int .i64 0, .int .u8 0, .int .u8 0, .int .u8 0, .int .u8 0, .int .u8 0, .int .u8 0, .int .i64 x.note.port, .int .i64 x.note.state, .slice none 0 0, .bool x.frame, .bool false, .bool x.s1, .bool x.s2, .bool x.s3]) w := hq
  rw [hf] at HE hq'
  have P1 := Lib.hid p1
  have Y1 := Lib.hid (y.still s1)
  have KW := Lib.hid (Keep.none s1)
  have NW : Hid (ws ≠ w.heap.size) := Lib.hid (by have := blk_lt y.ways; omega)
  have HPW := Lib.hid (fun off' ho => (HP.out off' ho).step s1 (fun _ _ s => s.elim))
  clear hW p1 s1 y hq HP hld
  obtain ⟨l0, l1, l2, l3⟩ := Y1.out.here
  have fw := blk_frozen Y1.out.ways 1
  have HOK := Lib.hid hok
  clear hok
  by_cases hc1 : cap = 1
  · subst hc1
    obtain rfl : r = [] := List.eq_nil_of_length_eq_zero (by omega)
    have Y2 : Hid (Way w0 (W.setCell ⟨ws, 1, none⟩ (.slice (some ⟨b1, f1, none⟩) 0 0)) g b h c xs ws s t va (.slice (some ⟨b1, f1, none⟩) 0 0) A []) := Lib.hid (Y1.out.turnB (s1 := Step.refl _ _) (HPW.out _ (.inl ⟨rfl, rfl⟩)) (fun k hk => .inl (by simpa [Leads, Value.ownBlock] using hk)))
    have P2 := Lib.hid (((Step.refl (· = ws) W).setCell (p := ⟨ws, 1, none⟩) (fun _ => rfl) (.slice (some ⟨b1, f1, none⟩) 0 0)).blk P1.out NW.out.symm)
    obtain ⟨X, hX⟩ : ∃ X, W.setCell ⟨ws, 1, none⟩ (.slice (some ⟨b1, f1, none⟩) 0 0) = X := ⟨_, rfl⟩
    have KX := Lib.hid (KW.out.trans (Keep.one Y1.out.ways (by decide) ((Step.refl (· = ws) W).setCell (p := ⟨ws, 1, none⟩) (fun _ => rfl) (.slice (some ⟨b1, f1, none⟩) 0 0))))
    rw [hX] at Y2 P2 KX
    have HX := Lib.hid hX
    clear hX HPW Y1 P1
    have q11 := blk_cell P2.out 11
    simp only [itemC, List.getElem?_toArray, List.getElem?_cons_zero, List.getElem?_cons_succ] at q11
    rw [hf] at q11
    have lp := load_item_note P2.out
    have HH : Hid (t.hearN (right (Tell.note x.note)) x.note = t.take (right (Tell.note x.note)) (Tell.note x.note).kind (Tell.note x.note).port (Tell.note x.note).state) := Lib.hid rfl
    rw [HH.out]
    have CNT := Lib.hid (Shk.take_count t (right (Tell.note x.note)) (Tell.note x.note).kind (Tell.note x.note).port (Tell.note x.note).state)
    have TK := Lib.hid (take_any h c t (Tell.note x.note) none 0 X m HOK.out hm hm2 Y2.out.tab Y2.out.two)
    rw [← tellC_note] at TK
    obtain ⟨q, hq2⟩ : ∃ q, t.take (right (Tell.note x.note)) (Tell.note x.note).kind (Tell.note x.note).port (Tell.note x.note).state = q := ⟨_, rfl⟩
    rw [hq2] at TK CNT ⊢
    obtain ⟨s', l, e0⟩ := q
    simp only at TK CNT ⊢
    clear P2 HH hq2
    go_enter Tryd.func18, Tryd.ntmps18
    go_wp2_with (first | (refine wpList_load_if 53 (.tmp 20) rfl rfl rfl hq' ?_) | (refine wpList_load_if 35 (.tmp 51) rfl rfl rfl lp ?_) | rw [HE.out] | rw [HX.out])
    refine TK.out.mono ?_
    rintro e w5 ⟨ul, rfl, t5, r5, s5⟩
    have Y5 := Lib.hid (Y2.out.next2 (s5.mono (T := fun k => k = h ∨ k = c) fun k _ e => .inr e) r5)
    have K5 := Lib.hid (KX.out.trans (Keep.one Y2.out.two.row (by decide) s5))
    have U5 := Lib.hid t5
    obtain ⟨uo, uc, rfl, -, -⟩ := t5.row.form
    have LL : Hid (l.length ≤ 1) := CNT
    have hli : ((l.length : Nat) : Int) ≤ 9223372036854775807 := by have := LL.out; omega
    clear t5 r5 s5 TK Y2 CNT lp q11 l0 l1 l2 l3 fw
    go_wp2_with fail
    go_loopw [11] (fun tj wr => ∃ j : Nat, j ≤ l.length ∧ tj = .int .i64 j ∧ Hid (Tells wr 0 (.slice uo l.length uc) l) ∧ Hid (Keep w wr) ∧ ∃ u', Hid (Way w0 wr g b h c xs ws s s' u' (.slice (some ⟨b1, f1, none⟩) 0 0) (A ++ (l.take j).map Itm.ofTell) [])) (fun tj _ => l.length - (intOf tj).toNat)
    case atStart => exact ⟨0, by omega, rfl, Lib.hid (U5.out.mono (Nat.zero_le _)), K5, va, by simpa using Y5⟩
    case round =>
      obtain ⟨j, hj, rfl, hU, hKP, u', hY⟩ := hrel
      rename_i wr
      clear U5 Y5 K5
      cases c1 : decide ((j : Int) < (l.length : Int))
      · have c1' : decide (j < l.length) = false := by simp at c1 ⊢; omega
        have hin : j = l.length := by simp at c1; omega
        rw [hin, List.take_length] at hY
        clear hin
        go_wp2_with fail
        go_ret
        exact ⟨rfl, _, _, hY.out, hKP.out⟩
      have hlt : j < l.length := by simp at c1; omega
      obtain ⟨D, hD⟩ : ∃ D, A ++ (l.take j).map Itm.ofTell = D := ⟨_, rfl⟩
      rw [hD] at hY
      have BN : Hid (D.length ≤ 1000001) := Lib.hid (by have := LL.out; rw [← hD, List.length_append, List.length_map, List.length_take]; omega)
      have HD := Lib.hid hD
      clear hD
      have c1' : decide (j < l.length) = true := by simpa using hlt
      obtain ⟨tt, htt⟩ : ∃ tt, l[j]? = some tt := ⟨_, List.getElem?_eq_getElem hlt⟩
      have hnx : l.take (j + 1) = l.take j ++ [tt] := by rw [List.take_add_one, htt]; rfl
      have NX := Lib.hid hnx
      clear hnx
      obtain ⟨zo, zc, rfl, -, -⟩ := hY.out.ra.form
      obtain ⟨b9, o9, k9, e9, hl9, h9⟩ := tells_load hU.out htt
      simp only [Value.slice.injEq] at e9
      obtain ⟨rfl, -, rfl⟩ := e9
      have NL : Hid (∀ w', Step (Leads (.slice zo D.length zc)) wr w' → (Instr.loadAt 35 (.pointer (some ⟨b9, o9 + j * 11, none⟩))).run Tryd.prog w' = .ok (.agg #[.int .i64 tt.kind, .int .i64 0, .int .u8 0, .int .u8 0, .int .u8 0, .int .u8 0, .int .u8 0, .int .u8 0, .int .i64 tt.port, .int .i64 tt.state, .slice none 0 0]) w' ∧ Tells w' 0 (.slice (some ⟨b9, o9, none⟩) l.length uc) l) := Lib.hid (fun w' h' => by
        have hU2 := hU.out.step h' (fun k hk => by
          obtain ⟨cur, hcur⟩ := hU.out.row.typed hk
          exact hY.out.ra.ne hcur (by decide))
        obtain ⟨x1, y1, z1, q1, -, f1⟩ := tells_load hU2 htt
        simp only [Value.slice.injEq, Option.some.injEq, Addr.mk.injEq] at q1
        obtain ⟨⟨rfl, rfl, -⟩, -, -⟩ := q1
        exact ⟨f1, hU2⟩)
      have j0 : (0 : Int) ≤ (j : Int) := by omega
      have j1 : (j : Int) < (l.length : Int) := by omega
      have WAY := Lib.hid (fun w' (h' : Step (Leads (.slice zo D.length zc)) wr w') => And.intro (hY.out.cells hY.out.ra h') (NL.out w' h').1)
      have NWS : Hid (∀ w', Step (Leads (.slice zo D.length zc)) wr w' → ∀ k, Leads (.slice (some ⟨b9, o9, none⟩) l.length uc) k → ¬ k = ws) := Lib.hid (fun w' h' k hk e => by
        obtain ⟨cur, hcur⟩ := hU.out.row.typed hk
        subst e
        exact blk_ne hY.out.ways hcur (by decide) rfl)
      clear htt hl9 h9
      have dr : Step None wr wr.drew := (Step.refl None wr).drew
      have al := dr.alloc (.cells #[.int .i64 tt.kind, .int .i64 0, .int .u8 0, .int .u8 0, .int .u8 0, .int .u8 0, .int .u8 0, .int .u8 0, .int .i64 tt.port, .int .i64 tt.state, .slice none 0 0, .bool false, .bool false, .bool false, .bool false, .bool false] 53)
      have ob : (wr.drew.alloc (.cells #[.int .i64 tt.kind, .int .i64 0, .int .u8 0, .int .u8 0, .int .u8 0, .int .u8 0, .int .u8 0, .int .u8 0, .int .i64 tt.port, .int .i64 tt.state, .slice none 0 0, .bool false, .bool false, .bool false, .bool false, .bool false] 53)).heap[wr.heap.size]? = some (.cells #[.int .i64 tt.kind, .int .i64 0, .int .u8 0, .int .u8 0, .int .u8 0, .int .u8 0, .int .u8 0, .int .u8 0, .int .i64 tt.port, .int .i64 tt.state, .slice none 0 0, .bool false, .bool false, .bool false, .bool false, .bool false] 53 (0, 0)) := heap_alloc_new wr.drew (.cells #[.int .i64 tt.kind, .int .i64 0, .int .u8 0, .int .u8 0, .int .u8 0, .int .u8 0, .int .u8 0, .int .u8 0, .int .i64 tt.port, .int .i64 tt.state, .slice none 0 0, .bool false, .bool false, .bool false, .bool false, .bool false] 53)
      go_wp2_with fail
      refine wp_region_plan (fun w' => (w'.cell? ⟨xs, 0, none⟩ = some (.pointer (some ⟨g, 0, none⟩)) ∧ w'.cell? ⟨xs, 1, none⟩ = some (.pointer (some ⟨h, 0, none⟩)) ∧ w'.cell? ⟨ws, 0, none⟩ = some (.slice zo D.length zc) ∧ w'.cell? ⟨ws, 1, none⟩ = some (.slice (some ⟨b1, f1, none⟩) 0 0)) ∧ (Instr.loadAt 35 (.pointer (some ⟨b9, o9 + j * 11, none⟩))).run Tryd.prog w' = .ok (.agg #[.int .i64 tt.kind, .int .i64 0, .int .u8 0, .int .u8 0, .int .u8 0, .int .u8 0, .int .u8 0, .int .u8 0, .int .i64 tt.port, .int .i64 tt.state, .slice none 0 0]) w') (.take 0 (.take 1 (.take 2 (.take 3 (.take 4 (.take 5 (.take 6 (.take 7 (.take 8 (.alt 9 (.alt 10 (.take 11 (.last 12)) .none) .none)))))))))) _
        (by simp only [Plan.map, opOf, List.getElem?_toArray, List.getElem?_cons_zero, List.getElem?_cons_succ, Option.getD_some]; rfl) (by kernel_rfl) (by kernel_rfl) (by kernel_rfl) (by decide) (by intro c a d v w; cases d <;> exact fun h => h)
        (WAY.out _ dr.none) ?_
      repeat (first | (refine wpPlan.taken (by rfl) (fun w' hS' => run_load_op rfl rfl hS'.2) ?_; simp only [Act.put, List.setIfInBounds_toArray, List.set_cons_zero, List.set_cons_succ]) | (refine wpPlan.taken (by rfl) (by intro w' hS'; (try dsimp only at hS'); go_split_ands; go_simp; try with_reducible rfl) ?_; simp only [Act.put, List.setIfInBounds_toArray, List.set_cons_zero, List.set_cons_succ]) | (refine wpPlan.passed (by rfl) ?_; simp only [Act.put, List.setIfInBounds_toArray, List.set_cons_zero, List.set_cons_succ]))
      refine wpPlan.runs fun K' hK => ?_
      go_simp
      refine hK.out _ _ (WAY.out _ al.none) ?_
      clear hK K'
      have Y6 := Lib.hid (hY.out.still al)
      refine wpPlan.runs fun K' hK => ?_
      refine step_append_row (m := 1) T43 (by rfl) (.tmp 65) (.tmp 71) (by rfl) (by rfl) Y6.out.ra (by rfl) (Src.ofBlock T43 (m := 1) (c := 1) ob (by rfl) (by simp [Value.oneCell'])) (by have := BN.out; simp [maxLen]; omega) (by have := BN.out; omega) ?_
      intro v7 w7 r7 s7 g7
      refine hK.out _ _ (WAY.out _ (al.none.then_ s7)) ?_
      clear hK K'
      have Y7 := Lib.hid (Y6.out.turnA (A' := D ++ [Itm.ofTell tt]) s7 (by rw [List.length_append, flatI_app]; exact r7) g7)
      have K7 := Lib.hid (((hKP.out.trans (Keep.none al)).trans (Keep.row Y6.out.ra (by decide) s7)).trans (Keep.one (s7.blk Y6.out.ways (Y6.out.ra.ne Y6.out.ways (by decide))) (by decide) ((Step.refl (· = ws) w7).setCell (p := ⟨ws, 0, none⟩) (fun _ => rfl) v7)))
      have U7 := Lib.hid (((NL.out _ (al.none.then_ s7)).2).step ((Step.refl (· = ws) w7).setCell (p := ⟨ws, 0, none⟩) (fun _ => rfl) v7) (NWS.out _ (al.none.then_ s7)))
      have fz7 := blk_frozen (s7.blk Y6.out.ways (Y6.out.ra.ne Y6.out.ways (by decide))) 0
      have HT := WAY.out _ (al.none.then_ s7)
      obtain ⟨⟨m0, m1, m2, m3⟩, -⟩ := HT
      obtain ⟨vo7, vc7, rfl, -, -⟩ := r7.form
      clear Y6 hY hU NL WAY NWS al ob dr r7 s7 g7
      repeat (first | (refine wpPlan.taken (by rfl) (fun w' hS' => run_load_op rfl rfl hS'.2) ?_; simp only [Act.put, List.setIfInBounds_toArray, List.set_cons_zero, List.set_cons_succ]) | (refine wpPlan.taken (by rfl) (by intro w' hS'; (try dsimp only at hS'); go_split_ands; go_simp; try with_reducible rfl) ?_; simp only [Act.put, List.setIfInBounds_toArray, List.set_cons_zero, List.set_cons_succ]) | (refine wpPlan.passed (by rfl) ?_; simp only [Act.put, List.setIfInBounds_toArray, List.set_cons_zero, List.set_cons_succ]))
      refine wpPlan.ends fun K' hK => ?_
      go_simp
      refine hK.out _ _ ?_
      clear hK K' fz7 m0 m1 m2 m3
      go_wp2_with fail
      go_roundw
      case rel => exact ⟨j + 1, by omega, by first | rfl | simp, U7, K7, _, by rw [NX.out, List.map_append, ← List.append_assoc, HD.out]; exact Y7⟩
      case measure => simp [intOf]; omega
  · have Y2 : Hid (Way w0 (W.setCell ⟨ws, 1, none⟩ (.slice (some ⟨b1, f1 + 16, none⟩) r.length (cap - 1))) g b h c xs ws s t va (.slice (some ⟨b1, f1 + 16, none⟩) r.length (cap - 1)) A r) := Lib.hid (Y1.out.turnB (s1 := Step.refl _ _) (HPW.out _ (.inr rfl)) (fun k hk => .inl (by simpa [Leads, Value.ownBlock] using hk)))
    have P2 := Lib.hid (((Step.refl (· = ws) W).setCell (p := ⟨ws, 1, none⟩) (fun _ => rfl) (.slice (some ⟨b1, f1 + 16, none⟩) r.length (cap - 1))).blk P1.out NW.out.symm)
    obtain ⟨X, hX⟩ : ∃ X, W.setCell ⟨ws, 1, none⟩ (.slice (some ⟨b1, f1 + 16, none⟩) r.length (cap - 1)) = X := ⟨_, rfl⟩
    have KX := Lib.hid (KW.out.trans (Keep.one Y1.out.ways (by decide) ((Step.refl (· = ws) W).setCell (p := ⟨ws, 1, none⟩) (fun _ => rfl) (.slice (some ⟨b1, f1 + 16, none⟩) r.length (cap - 1)))))
    rw [hX] at Y2 P2 KX
    have HX := Lib.hid hX
    clear hX HPW Y1 P1
    have q11 := blk_cell P2.out 11
    simp only [itemC, List.getElem?_toArray, List.getElem?_cons_zero, List.getElem?_cons_succ] at q11
    rw [hf] at q11
    have lp := load_item_note P2.out
    have HH : Hid (t.hearN (right (Tell.note x.note)) x.note = t.take (right (Tell.note x.note)) (Tell.note x.note).kind (Tell.note x.note).port (Tell.note x.note).state) := Lib.hid rfl
    rw [HH.out]
    have CNT := Lib.hid (Shk.take_count t (right (Tell.note x.note)) (Tell.note x.note).kind (Tell.note x.note).port (Tell.note x.note).state)
    have TK := Lib.hid (take_any h c t (Tell.note x.note) none 0 X m HOK.out hm hm2 Y2.out.tab Y2.out.two)
    rw [← tellC_note] at TK
    obtain ⟨q, hq2⟩ : ∃ q, t.take (right (Tell.note x.note)) (Tell.note x.note).kind (Tell.note x.note).port (Tell.note x.note).state = q := ⟨_, rfl⟩
    rw [hq2] at TK CNT ⊢
    obtain ⟨s', l, e0⟩ := q
    simp only at TK CNT ⊢
    clear P2 HH hq2
    go_enter Tryd.func18, Tryd.ntmps18
    go_wp2_with (first | (refine wpList_load_if 53 (.tmp 20) rfl rfl rfl hq' ?_) | (refine wpList_load_if 35 (.tmp 51) rfl rfl rfl lp ?_) | rw [HE.out] | rw [HX.out])
    refine TK.out.mono ?_
    rintro e w5 ⟨ul, rfl, t5, r5, s5⟩
    have Y5 := Lib.hid (Y2.out.next2 (s5.mono (T := fun k => k = h ∨ k = c) fun k _ e => .inr e) r5)
    have K5 := Lib.hid (KX.out.trans (Keep.one Y2.out.two.row (by decide) s5))
    have U5 := Lib.hid t5
    obtain ⟨uo, uc, rfl, -, -⟩ := t5.row.form
    have LL : Hid (l.length ≤ 1) := CNT
    have hli : ((l.length : Nat) : Int) ≤ 9223372036854775807 := by have := LL.out; omega
    clear t5 r5 s5 TK Y2 CNT lp q11 l0 l1 l2 l3 fw
    go_wp2_with fail
    go_loopw [11] (fun tj wr => ∃ j : Nat, j ≤ l.length ∧ tj = .int .i64 j ∧ Hid (Tells wr 0 (.slice uo l.length uc) l) ∧ Hid (Keep w wr) ∧ ∃ u', Hid (Way w0 wr g b h c xs ws s s' u' (.slice (some ⟨b1, f1 + 16, none⟩) r.length (cap - 1)) (A ++ (l.take j).map Itm.ofTell) r)) (fun tj _ => l.length - (intOf tj).toNat)
    case atStart => exact ⟨0, by omega, rfl, Lib.hid (U5.out.mono (Nat.zero_le _)), K5, va, by simpa using Y5⟩
    case round =>
      obtain ⟨j, hj, rfl, hU, hKP, u', hY⟩ := hrel
      rename_i wr
      clear U5 Y5 K5
      cases c1 : decide ((j : Int) < (l.length : Int))
      · have c1' : decide (j < l.length) = false := by simp at c1 ⊢; omega
        have hin : j = l.length := by simp at c1; omega
        rw [hin, List.take_length] at hY
        clear hin
        go_wp2_with fail
        go_ret
        exact ⟨rfl, _, _, hY.out, hKP.out⟩
      have hlt : j < l.length := by simp at c1; omega
      obtain ⟨D, hD⟩ : ∃ D, A ++ (l.take j).map Itm.ofTell = D := ⟨_, rfl⟩
      rw [hD] at hY
      have BN : Hid (D.length ≤ 1000001) := Lib.hid (by have := LL.out; rw [← hD, List.length_append, List.length_map, List.length_take]; omega)
      have HD := Lib.hid hD
      clear hD
      have c1' : decide (j < l.length) = true := by simpa using hlt
      obtain ⟨tt, htt⟩ : ∃ tt, l[j]? = some tt := ⟨_, List.getElem?_eq_getElem hlt⟩
      have hnx : l.take (j + 1) = l.take j ++ [tt] := by rw [List.take_add_one, htt]; rfl
      have NX := Lib.hid hnx
      clear hnx
      obtain ⟨zo, zc, rfl, -, -⟩ := hY.out.ra.form
      obtain ⟨b9, o9, k9, e9, hl9, h9⟩ := tells_load hU.out htt
      simp only [Value.slice.injEq] at e9
      obtain ⟨rfl, -, rfl⟩ := e9
      have NL : Hid (∀ w', Step (Leads (.slice zo D.length zc)) wr w' → (Instr.loadAt 35 (.pointer (some ⟨b9, o9 + j * 11, none⟩))).run Tryd.prog w' = .ok (.agg #[.int .i64 tt.kind, .int .i64 0, .int .u8 0, .int .u8 0, .int .u8 0, .int .u8 0, .int .u8 0, .int .u8 0, .int .i64 tt.port, .int .i64 tt.state, .slice none 0 0]) w' ∧ Tells w' 0 (.slice (some ⟨b9, o9, none⟩) l.length uc) l) := Lib.hid (fun w' h' => by
        have hU2 := hU.out.step h' (fun k hk => by
          obtain ⟨cur, hcur⟩ := hU.out.row.typed hk
          exact hY.out.ra.ne hcur (by decide))
        obtain ⟨x1, y1, z1, q1, -, f1⟩ := tells_load hU2 htt
        simp only [Value.slice.injEq, Option.some.injEq, Addr.mk.injEq] at q1
        obtain ⟨⟨rfl, rfl, -⟩, -, -⟩ := q1
        exact ⟨f1, hU2⟩)
      have j0 : (0 : Int) ≤ (j : Int) := by omega
      have j1 : (j : Int) < (l.length : Int) := by omega
      have WAY := Lib.hid (fun w' (h' : Step (Leads (.slice zo D.length zc)) wr w') => And.intro (hY.out.cells hY.out.ra h') (NL.out w' h').1)
      have NWS : Hid (∀ w', Step (Leads (.slice zo D.length zc)) wr w' → ∀ k, Leads (.slice (some ⟨b9, o9, none⟩) l.length uc) k → ¬ k = ws) := Lib.hid (fun w' h' k hk e => by
        obtain ⟨cur, hcur⟩ := hU.out.row.typed hk
        subst e
        exact blk_ne hY.out.ways hcur (by decide) rfl)
      clear htt hl9 h9
      have dr : Step None wr wr.drew := (Step.refl None wr).drew
      have al := dr.alloc (.cells #[.int .i64 tt.kind, .int .i64 0, .int .u8 0, .int .u8 0, .int .u8 0, .int .u8 0, .int .u8 0, .int .u8 0, .int .i64 tt.port, .int .i64 tt.state, .slice none 0 0, .bool false, .bool false, .bool false, .bool false, .bool false] 53)
      have ob : (wr.drew.alloc (.cells #[.int .i64 tt.kind, .int .i64 0, .int .u8 0, .int .u8 0, .int .u8 0, .int .u8 0, .int .u8 0, .int .u8 0, .int .i64 tt.port, .int .i64 tt.state, .slice none 0 0, .bool false, .bool false, .bool false, .bool false, .bool false] 53)).heap[wr.heap.size]? = some (.cells #[.int .i64 tt.kind, .int .i64 0, .int .u8 0, .int .u8 0, .int .u8 0, .int .u8 0, .int .u8 0, .int .u8 0, .int .i64 tt.port, .int .i64 tt.state, .slice none 0 0, .bool false, .bool false, .bool false, .bool false, .bool false] 53 (0, 0)) := heap_alloc_new wr.drew (.cells #[.int .i64 tt.kind, .int .i64 0, .int .u8 0, .int .u8 0, .int .u8 0, .int .u8 0, .int .u8 0, .int .u8 0, .int .i64 tt.port, .int .i64 tt.state, .slice none 0 0, .bool false, .bool false, .bool false, .bool false, .bool false] 53)
      go_wp2_with fail
      refine wp_region_plan (fun w' => (w'.cell? ⟨xs, 0, none⟩ = some (.pointer (some ⟨g, 0, none⟩)) ∧ w'.cell? ⟨xs, 1, none⟩ = some (.pointer (some ⟨h, 0, none⟩)) ∧ w'.cell? ⟨ws, 0, none⟩ = some (.slice zo D.length zc) ∧ w'.cell? ⟨ws, 1, none⟩ = some (.slice (some ⟨b1, f1 + 16, none⟩) r.length (cap - 1))) ∧ (Instr.loadAt 35 (.pointer (some ⟨b9, o9 + j * 11, none⟩))).run Tryd.prog w' = .ok (.agg #[.int .i64 tt.kind, .int .i64 0, .int .u8 0, .int .u8 0, .int .u8 0, .int .u8 0, .int .u8 0, .int .u8 0, .int .i64 tt.port, .int .i64 tt.state, .slice none 0 0]) w') (.take 0 (.take 1 (.take 2 (.take 3 (.take 4 (.take 5 (.take 6 (.take 7 (.take 8 (.alt 9 (.alt 10 (.take 11 (.last 12)) .none) .none)))))))))) _
        (by simp only [Plan.map, opOf, List.getElem?_toArray, List.getElem?_cons_zero, List.getElem?_cons_succ, Option.getD_some]; rfl) (by kernel_rfl) (by kernel_rfl) (by kernel_rfl) (by decide) (by intro c a d v w; cases d <;> exact fun h => h)
        (WAY.out _ dr.none) ?_
      repeat (first | (refine wpPlan.taken (by rfl) (fun w' hS' => run_load_op rfl rfl hS'.2) ?_; simp only [Act.put, List.setIfInBounds_toArray, List.set_cons_zero, List.set_cons_succ]) | (refine wpPlan.taken (by rfl) (by intro w' hS'; (try dsimp only at hS'); go_split_ands; go_simp; try with_reducible rfl) ?_; simp only [Act.put, List.setIfInBounds_toArray, List.set_cons_zero, List.set_cons_succ]) | (refine wpPlan.passed (by rfl) ?_; simp only [Act.put, List.setIfInBounds_toArray, List.set_cons_zero, List.set_cons_succ]))
      refine wpPlan.runs fun K' hK => ?_
      go_simp
      refine hK.out _ _ (WAY.out _ al.none) ?_
      clear hK K'
      have Y6 := Lib.hid (hY.out.still al)
      refine wpPlan.runs fun K' hK => ?_
      refine step_append_row (m := 1) T43 (by rfl) (.tmp 65) (.tmp 71) (by rfl) (by rfl) Y6.out.ra (by rfl) (Src.ofBlock T43 (m := 1) (c := 1) ob (by rfl) (by simp [Value.oneCell'])) (by have := BN.out; simp [maxLen]; omega) (by have := BN.out; omega) ?_
      intro v7 w7 r7 s7 g7
      refine hK.out _ _ (WAY.out _ (al.none.then_ s7)) ?_
      clear hK K'
      have Y7 := Lib.hid (Y6.out.turnA (A' := D ++ [Itm.ofTell tt]) s7 (by rw [List.length_append, flatI_app]; exact r7) g7)
      have K7 := Lib.hid (((hKP.out.trans (Keep.none al)).trans (Keep.row Y6.out.ra (by decide) s7)).trans (Keep.one (s7.blk Y6.out.ways (Y6.out.ra.ne Y6.out.ways (by decide))) (by decide) ((Step.refl (· = ws) w7).setCell (p := ⟨ws, 0, none⟩) (fun _ => rfl) v7)))
      have U7 := Lib.hid (((NL.out _ (al.none.then_ s7)).2).step ((Step.refl (· = ws) w7).setCell (p := ⟨ws, 0, none⟩) (fun _ => rfl) v7) (NWS.out _ (al.none.then_ s7)))
      have fz7 := blk_frozen (s7.blk Y6.out.ways (Y6.out.ra.ne Y6.out.ways (by decide))) 0
      have HT := WAY.out _ (al.none.then_ s7)
      obtain ⟨⟨m0, m1, m2, m3⟩, -⟩ := HT
      obtain ⟨vo7, vc7, rfl, -, -⟩ := r7.form
      clear Y6 hY hU NL WAY NWS al ob dr r7 s7 g7
      repeat (first | (refine wpPlan.taken (by rfl) (fun w' hS' => run_load_op rfl rfl hS'.2) ?_; simp only [Act.put, List.setIfInBounds_toArray, List.set_cons_zero, List.set_cons_succ]) | (refine wpPlan.taken (by rfl) (by intro w' hS'; (try dsimp only at hS'); go_split_ands; go_simp; try with_reducible rfl) ?_; simp only [Act.put, List.setIfInBounds_toArray, List.set_cons_zero, List.set_cons_succ]) | (refine wpPlan.passed (by rfl) ?_; simp only [Act.put, List.setIfInBounds_toArray, List.set_cons_zero, List.set_cons_succ]))
      refine wpPlan.ends fun K' hK => ?_
      go_simp
      refine hK.out _ _ ?_
      clear hK K' fz7 m0 m1 m2 m3
      go_wp2_with fail
      go_roundw
      case rel => exact ⟨j + 1, by omega, by first | rfl | simp, U7, K7, _, by rw [NX.out, List.map_append, ← List.append_assoc, HD.out]; exact Y7⟩
      case measure => simp [intOf]; omega

end Go.Proofs.YthebgpbofjgcoaaDoor
