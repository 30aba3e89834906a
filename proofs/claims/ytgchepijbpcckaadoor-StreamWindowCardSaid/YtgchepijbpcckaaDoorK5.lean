/- Encode's put. -/
import Derived.Test.YtgchepijbpcckaaDoorK4
namespace Go.Proofs.YtgchepijbpcckaaDoor
open Go.RowKit Go.Gm

/-- While a packet is written. -/
structure Enc (w0 w : World) (nb bb : Nat) (n : Note) (bo : Option Addr) (bc : Nat) (l : List Int) : Prop where
  tab : HasAt 0 w
  note : NoteAt w nb n (.slice bo n.body.length bc)
  slot : ∃ u, w.heap[bb]? = some (.cells #[u] 34 (0, 0)) ∧ Buf 5 w w0.heap.size u l
  st : Step None w0 w
  base : 0 < w0.heap.size ∧ w0.heap.size ≤ nb ∧ w0.heap.size ≤ bb

/-- Behind a closure's append and the store. -/
theorem Enc.put {w0 w w1 : World} {nb bb : Nat} {n : Note} {bo : Option Addr} {bc : Nat} {l l' : List Int} {u u' : Value} (h : Enc w0 w nb bb n bo bc l) (hb : w.heap[bb]? = some (.cells #[u] 34 (0, 0))) (hu : Buf 5 w w0.heap.size u l)
    (g : Grew 5 w w1 w0.heap.size u u' l') : Enc w0 (w1.setCell ⟨bb, 0, none⟩ u') nb bb n bo bc l' := by
  have t1 := g.typ hu
  have hb1 := t1.blk hb (Typ.not hb (by decide))
  have hn1 := t1.blk h.note (Typ.not h.note (by decide))
  have hne : nb ≠ bb := blk_ne hn1 hb1 (by decide)
  have e4 : Step (fun k => k = bb) w1 (w1.setCell ⟨bb, 0, none⟩ u') := Step.setCell (S := fun k => k = bb) (Step.refl _ w1) (p := ⟨bb, 0, none⟩) (fun _ => rfl) u'
  refine ⟨(h.tab.step t1 (Typ.old h.base.1)).step e4 (fun e => by have := h.base; omega), e4.blk hn1 (by exact hne), ⟨u', by rw [blk_set hb1 0 u']; rfl, g.buf.step e4 fun k hk => by rintro rfl; exact g.buf.row.ne hb1 (by decide) hk⟩, ?_, h.base⟩
  exact (h.st.typNone t1).trans e4 fun k hk hkb => by have := h.base; omega

theorem put_not (f : Int) (G : Value) (k : Nat) (w0 w : World) {nb bb : Nat} {n : Note} {bo : Option Addr} {bc : Nat} {l : List Int} (h : Enc w0 w nb bb n bo bc l) (hk : n.kind = k) (hk9 : k < 9) (hB : hasB k f = false) :
    Calls Tryd.prog 39 #[.int .i64 f, G, .pointer (some ⟨nb, 0, none⟩), .pointer (some ⟨bb, 0, none⟩)] w fun e w' => e = .returned (.tuple #[]) ∧ w = w' := by
  have h0 : w.cell? ⟨nb, 0, none⟩ = some (.int .i64 k) := by rw [← hk]; exact blk_cell h.note 0
  have h1 := h.tab k hk9
  have k0 : (0 : Int) ≤ (k : Int) := by omega
  have k9 : (k : Int) < 9 := by omega
  have hw : IntKind.i64.wrap (tab.getD k 0) = tab.getD k 0 := by
    have : ∀ i : Fin 9, IntKind.i64.wrap (tab.getD i.val 0) = tab.getD i.val 0 := by decide
    exact this ⟨k, hk9⟩
  have hb' : (bits BinOp.and .i64 (tab.getD k 0) f == 0) = true := by unfold hasB at hB; simpa using hB
  have hb2 : (bits BinOp.and .i64 (tab.getD k 0) f != 0) = false := hB
  generalize tab.getD k 0 = tk at h1 hw hb' hb2
  clear h hB hk
  go_enter Tryd.func39, Tryd.ntmps39
  go_wp2_with fail
  go_end0
  exact ⟨rfl, rfl⟩

theorem put_vlan (k : Nat) (w0 w : World) {nb bb : Nat} {n : Note} {bo : Option Addr} {bc : Nat} {l : List Int} (h : Enc w0 w nb bb n bo bc l) (hk : n.kind = k) (hk9 : k < 9) (hl : l.length ≤ 10000) :
    Calls Tryd.prog 39 #[.int .i64 1, .func (.func 40) #[] #[.pointer (some ⟨nb, 0, none⟩)], .pointer (some ⟨nb, 0, none⟩), .pointer (some ⟨bb, 0, none⟩)] w fun e w' => e = .returned (.tuple #[]) ∧ Enc w0 w' nb bb n bo bc (l ++ if hasB k 1 then two n.vlan else []) := by
  cases hB : hasB k 1
  · refine (put_not 1 _ k w0 w h hk hk9 hB).mono ?_
    rintro e w' ⟨rfl, rfl⟩
    exact ⟨rfl, by simpa using h⟩
  · have h0 : w.cell? ⟨nb, 0, none⟩ = some (.int .i64 k) := by rw [← hk]; exact blk_cell h.note 0
    have h1 := h.tab k hk9
    have k0 : (0 : Int) ≤ (k : Int) := by omega
    have k9 : (k : Int) < 9 := by omega
    have hw : IntKind.i64.wrap (tab.getD k 0) = tab.getD k 0 := by
      have : ∀ i : Fin 9, IntKind.i64.wrap (tab.getD i.val 0) = tab.getD i.val 0 := by decide
      exact this ⟨k, hk9⟩
    have hb' : (bits BinOp.and .i64 (tab.getD k 0) 1 == 0) = false := by unfold hasB at hB; simpa using hB
    have hb2 : (bits BinOp.and .i64 (tab.getD k 0) 1 != 0) = true := hB
    generalize tab.getD k 0 = tk at h1 hw hb' hb2
    obtain ⟨u, hsl, hbu⟩ := h.slot
    have hc := blk_cell hsl 0
    have H := Lib.hid h
    have hs := Lib.hid hsl
    have hu := Lib.hid hbu
    clear h hk hB hsl hbu
    go_enter Tryd.func39, Tryd.ntmps39
    go_wp2_with fail
    refine (more_vlan nb n _ u l w (by exact H.out.note) (by exact hu.out) H.out.st.size (by omega)).mono ?_
    rintro e w1 ⟨u1, rfl, g⟩
    have t1 := g.typ hu.out
    have hb1 := t1.blk hs.out (Typ.not hs.out (by decide))
    have hc1 := blk_cell hb1 0
    have hf1 := blk_frozen hb1 0
    have hn := Lib.hid (H.out.put hs.out hu.out g)
    obtain ⟨uo, ucap, rfl⟩ := g.buf.form
    clear g t1 hb1
    go_wp2_with fail
    go_end0
    exact ⟨rfl, by simpa using hn.out⟩

theorem put_mac (k : Nat) (w0 w : World) {nb bb : Nat} {n : Note} {bo : Option Addr} {bc : Nat} {l : List Int} (h : Enc w0 w nb bb n bo bc l) (hk : n.kind = k) (hk9 : k < 9) (hl : l.length ≤ 10000) :
    Calls Tryd.prog 39 #[.int .i64 2, .func (.func 42) #[] #[.pointer (some ⟨nb, 0, none⟩)], .pointer (some ⟨nb, 0, none⟩), .pointer (some ⟨bb, 0, none⟩)] w fun e w' => e = .returned (.tuple #[]) ∧ Enc w0 w' nb bb n bo bc (l ++ if hasB k 2 then n.mac else []) := by
  cases hB : hasB k 2
  · refine (put_not 2 _ k w0 w h hk hk9 hB).mono ?_
    rintro e w' ⟨rfl, rfl⟩
    exact ⟨rfl, by simpa using h⟩
  · have h0 : w.cell? ⟨nb, 0, none⟩ = some (.int .i64 k) := by rw [← hk]; exact blk_cell h.note 0
    have h1 := h.tab k hk9
    have k0 : (0 : Int) ≤ (k : Int) := by omega
    have k9 : (k : Int) < 9 := by omega
    have hw : IntKind.i64.wrap (tab.getD k 0) = tab.getD k 0 := by
      have : ∀ i : Fin 9, IntKind.i64.wrap (tab.getD i.val 0) = tab.getD i.val 0 := by decide
      exact this ⟨k, hk9⟩
    have hb' : (bits BinOp.and .i64 (tab.getD k 0) 2 == 0) = false := by unfold hasB at hB; simpa using hB
    have hb2 : (bits BinOp.and .i64 (tab.getD k 0) 2 != 0) = true := hB
    generalize tab.getD k 0 = tk at h1 hw hb' hb2
    obtain ⟨u, hsl, hbu⟩ := h.slot
    have hc := blk_cell hsl 0
    have H := Lib.hid h
    have hs := Lib.hid hsl
    have hu := Lib.hid hbu
    clear h hk hB hsl hbu
    go_enter Tryd.func39, Tryd.ntmps39
    go_wp2_with fail
    refine (more_mac nb n _ u l w (by exact H.out.note) (by exact hu.out) H.out.st.size (by omega)).mono ?_
    rintro e w1 ⟨u1, rfl, g⟩
    have t1 := g.typ hu.out
    have hb1 := t1.blk hs.out (Typ.not hs.out (by decide))
    have hc1 := blk_cell hb1 0
    have hf1 := blk_frozen hb1 0
    have hn := Lib.hid (H.out.put hs.out hu.out g)
    obtain ⟨uo, ucap, rfl⟩ := g.buf.form
    clear g t1 hb1
    go_wp2_with fail
    go_end0
    exact ⟨rfl, by simpa using hn.out⟩

theorem put_port (k : Nat) (w0 w : World) {nb bb : Nat} {n : Note} {bo : Option Addr} {bc : Nat} {l : List Int} (h : Enc w0 w nb bb n bo bc l) (hk : n.kind = k) (hk9 : k < 9) (hl : l.length ≤ 10000) :
    Calls Tryd.prog 39 #[.int .i64 4, .func (.func 43) #[] #[.pointer (some ⟨nb, 0, none⟩)], .pointer (some ⟨nb, 0, none⟩), .pointer (some ⟨bb, 0, none⟩)] w fun e w' => e = .returned (.tuple #[]) ∧ Enc w0 w' nb bb n bo bc (l ++ if hasB k 4 then two n.port else []) := by
  cases hB : hasB k 4
  · refine (put_not 4 _ k w0 w h hk hk9 hB).mono ?_
    rintro e w' ⟨rfl, rfl⟩
    exact ⟨rfl, by simpa using h⟩
  · have h0 : w.cell? ⟨nb, 0, none⟩ = some (.int .i64 k) := by rw [← hk]; exact blk_cell h.note 0
    have h1 := h.tab k hk9
    have k0 : (0 : Int) ≤ (k : Int) := by omega
    have k9 : (k : Int) < 9 := by omega
    have hw : IntKind.i64.wrap (tab.getD k 0) = tab.getD k 0 := by
      have : ∀ i : Fin 9, IntKind.i64.wrap (tab.getD i.val 0) = tab.getD i.val 0 := by decide
      exact this ⟨k, hk9⟩
    have hb' : (bits BinOp.and .i64 (tab.getD k 0) 4 == 0) = false := by unfold hasB at hB; simpa using hB
    have hb2 : (bits BinOp.and .i64 (tab.getD k 0) 4 != 0) = true := hB
    generalize tab.getD k 0 = tk at h1 hw hb' hb2
    obtain ⟨u, hsl, hbu⟩ := h.slot
    have hc := blk_cell hsl 0
    have H := Lib.hid h
    have hs := Lib.hid hsl
    have hu := Lib.hid hbu
    clear h hk hB hsl hbu
    go_enter Tryd.func39, Tryd.ntmps39
    go_wp2_with fail
    refine (more_port nb n _ u l w (by exact H.out.note) (by exact hu.out) H.out.st.size (by omega)).mono ?_
    rintro e w1 ⟨u1, rfl, g⟩
    have t1 := g.typ hu.out
    have hb1 := t1.blk hs.out (Typ.not hs.out (by decide))
    have hc1 := blk_cell hb1 0
    have hf1 := blk_frozen hb1 0
    have hn := Lib.hid (H.out.put hs.out hu.out g)
    obtain ⟨uo, ucap, rfl⟩ := g.buf.form
    clear g t1 hb1
    go_wp2_with fail
    go_end0
    exact ⟨rfl, by simpa using hn.out⟩

theorem put_state (k : Nat) (w0 w : World) {nb bb : Nat} {n : Note} {bo : Option Addr} {bc : Nat} {l : List Int} (h : Enc w0 w nb bb n bo bc l) (hk : n.kind = k) (hk9 : k < 9) (hl : l.length ≤ 10000) :
    Calls Tryd.prog 39 #[.int .i64 8, .func (.func 44) #[] #[.pointer (some ⟨nb, 0, none⟩)], .pointer (some ⟨nb, 0, none⟩), .pointer (some ⟨bb, 0, none⟩)] w fun e w' => e = .returned (.tuple #[]) ∧ Enc w0 w' nb bb n bo bc (l ++ if hasB k 8 then [n.state % 256] else []) := by
  cases hB : hasB k 8
  · refine (put_not 8 _ k w0 w h hk hk9 hB).mono ?_
    rintro e w' ⟨rfl, rfl⟩
    exact ⟨rfl, by simpa using h⟩
  · have h0 : w.cell? ⟨nb, 0, none⟩ = some (.int .i64 k) := by rw [← hk]; exact blk_cell h.note 0
    have h1 := h.tab k hk9
    have k0 : (0 : Int) ≤ (k : Int) := by omega
    have k9 : (k : Int) < 9 := by omega
    have hw : IntKind.i64.wrap (tab.getD k 0) = tab.getD k 0 := by
      have : ∀ i : Fin 9, IntKind.i64.wrap (tab.getD i.val 0) = tab.getD i.val 0 := by decide
      exact this ⟨k, hk9⟩
    have hb' : (bits BinOp.and .i64 (tab.getD k 0) 8 == 0) = false := by unfold hasB at hB; simpa using hB
    have hb2 : (bits BinOp.and .i64 (tab.getD k 0) 8 != 0) = true := hB
    generalize tab.getD k 0 = tk at h1 hw hb' hb2
    obtain ⟨u, hsl, hbu⟩ := h.slot
    have hc := blk_cell hsl 0
    have H := Lib.hid h
    have hs := Lib.hid hsl
    have hu := Lib.hid hbu
    clear h hk hB hsl hbu
    go_enter Tryd.func39, Tryd.ntmps39
    go_wp2_with fail
    refine (more_state nb n _ u l w (by exact H.out.note) (by exact hu.out) H.out.st.size (by omega)).mono ?_
    rintro e w1 ⟨u1, rfl, g⟩
    have t1 := g.typ hu.out
    have hb1 := t1.blk hs.out (Typ.not hs.out (by decide))
    have hc1 := blk_cell hb1 0
    have hf1 := blk_frozen hb1 0
    have hn := Lib.hid (H.out.put hs.out hu.out g)
    obtain ⟨uo, ucap, rfl⟩ := g.buf.form
    clear g t1 hb1
    go_wp2_with fail
    go_end0
    exact ⟨rfl, by simpa using hn.out⟩

theorem put_body (k : Nat) (w0 w : World) {nb bb : Nat} {n : Note} {bo : Option Addr} {bc : Nat} {l : List Int} (h : Enc w0 w nb bb n bo bc l) (hk : n.kind = k) (hk9 : k < 9) (hl : l.length ≤ 10000) (hbl : n.body.length ≤ 10000) (hb : Bytes w0 (.slice bo n.body.length bc) n.body) :
    Calls Tryd.prog 39 #[.int .i64 16, .func (.func 45) #[] #[.pointer (some ⟨nb, 0, none⟩)], .pointer (some ⟨nb, 0, none⟩), .pointer (some ⟨bb, 0, none⟩)] w fun e w' => e = .returned (.tuple #[]) ∧ Enc w0 w' nb bb n bo bc (l ++ if hasB k 16 then (two n.body.length ++ n.body) else []) := by
  cases hB : hasB k 16
  · refine (put_not 16 _ k w0 w h hk hk9 hB).mono ?_
    rintro e w' ⟨rfl, rfl⟩
    exact ⟨rfl, by simpa using h⟩
  · have h0 : w.cell? ⟨nb, 0, none⟩ = some (.int .i64 k) := by rw [← hk]; exact blk_cell h.note 0
    have h1 := h.tab k hk9
    have k0 : (0 : Int) ≤ (k : Int) := by omega
    have k9 : (k : Int) < 9 := by omega
    have hw : IntKind.i64.wrap (tab.getD k 0) = tab.getD k 0 := by
      have : ∀ i : Fin 9, IntKind.i64.wrap (tab.getD i.val 0) = tab.getD i.val 0 := by decide
      exact this ⟨k, hk9⟩
    have hb' : (bits BinOp.and .i64 (tab.getD k 0) 16 == 0) = false := by unfold hasB at hB; simpa using hB
    have hb2 : (bits BinOp.and .i64 (tab.getD k 0) 16 != 0) = true := hB
    generalize tab.getD k 0 = tk at h1 hw hb' hb2
    obtain ⟨u, hsl, hbu⟩ := h.slot
    have hc := blk_cell hsl 0
    have H := Lib.hid h
    have hs := Lib.hid hsl
    have hu := Lib.hid hbu
    clear h hk hB hsl hbu
    go_enter Tryd.func39, Tryd.ntmps39
    go_wp2_with fail
    refine (more_body nb n bo bc u l w (by exact H.out.note) (by exact hu.out) H.out.st.size (by omega) hbl (fun w' hw => hb.step (Step.ofBelow (H.out.st.toBelow.trans hw)) (fun _ _ s => s.elim))).mono ?_
    rintro e w1 ⟨u1, rfl, g⟩
    have t1 := g.typ hu.out
    have hb1 := t1.blk hs.out (Typ.not hs.out (by decide))
    have hc1 := blk_cell hb1 0
    have hf1 := blk_frozen hb1 0
    have hn := Lib.hid (H.out.put hs.out hu.out g)
    obtain ⟨uo, ucap, rfl⟩ := g.buf.form
    clear g t1 hb1
    go_wp2_with fail
    go_end0
    exact ⟨rfl, by simpa using hn.out⟩

end Go.Proofs.YtgchepijbpcckaaDoor
