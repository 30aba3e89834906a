/- The document's Encode: its pieces. -/
import Derived.Test.YtgchepijbpcckaaDoorK6
import Derived.Test.YtgchepijbpcckaaDoorK8
import Derived.Test.YtgchepijbpcckaaDoorK9
namespace Go.Proofs.YtgchepijbpcckaaDoor
open Go.RowKit Go.Gm

/-- While the document writes a packet: what is written, and the note's variable. -/
structure REnc (w0 w : World) (nb : Nat) (n : Note) (bo : Option Addr) (bc : Nat) (u : Value) (l : List Int) : Prop where
  note : NoteAt w nb n (.slice bo n.body.length bc)
  buf : Buf 5 w w0.heap.size u l
  st : Step None w0 w

theorem REnc.still {w0 w w1 : World} {nb : Nat} {n : Note} {bo : Option Addr} {bc : Nat} {u : Value} {l : List Int} (h : REnc w0 w nb n bo bc u l) (hs : Step None w w1) : REnc w0 w1 nb n bo bc u l :=
  ⟨h.note.step hs (fun s => s.elim), h.buf.still hs, h.st.then_ hs⟩

/-- One append more: behind what came before it. -/
theorem REnc.more {w0 w w1 : World} {nb : Nat} {n : Note} {bo : Option Addr} {bc : Nat} {u u' : Value} {l more : List Int} (h : REnc w0 w nb n bo bc u l)
    (hr : Row w1 5 1 u' (l.length + more.length) (l.map (.int .u8) ++ more.map (.int .u8))) (hs : Step (Leads u) w w1) (hl : ∀ k, Leads u' k → Leads u k ∨ w.heap.size ≤ k) : REnc w0 w1 nb n bo bc u' (l ++ more) := by
  have g := h.buf.grew (more := more) h.st.size (Step.refl None w) hr hs hl
  exact ⟨h.note.step hs (fun hk => h.buf.row.ne h.note (by decide) hk), g.buf, h.st.trans hs fun i hi hk => by have := h.buf.base i hk; omega⟩

/-- What may be is small. -/
theorem right_range (n : Note) (k : Nat) (hk : n.kind = k) (h : right n = true) : (0 ≤ n.vlan ∧ n.vlan ≤ 4094) ∧ (0 ≤ n.port ∧ n.port ≤ 1000) ∧ (0 ≤ n.state ∧ n.state ≤ 250) ∧ n.body.length ≤ 1600 := by
  have hk' : n.kind.toNat = k := by omega
  have hb : ∀ {f v lo hi : Int}, 0 ≤ lo → 0 ≤ hi → fit k v f lo hi = true → 0 ≤ v ∧ v ≤ hi := by
    intro f v lo hi h0 h1 h
    cases hf : hasB k f <;> simp [fit, bnd, isIn, hf] at h <;> omega
  have hst : states k ≤ 250 ∧ 0 ≤ states k := by unfold states; repeat (split <;> try omega)
  simp only [right, rightAt, hk', Bool.and_eq_true] at h
  obtain ⟨-, ⟨⟨⟨-, h1⟩, h2⟩, h3⟩, h4⟩ := h
  have b1 := hb (by omega) (by omega) h1
  have b2 := hb (by omega) (by omega) h2
  have b3 := hb (by omega) hst.2 h3
  have b4 := hb (by omega) (by omega) h4
  exact ⟨b1, b2, ⟨b3.1, by omega⟩, by omega⟩

/-- Which kinds have what. -/
theorem has_pats (k : Nat) (hk : k < 9) : (hasB k 1 = false ∧ hasB k 2 = false ∧ hasB k 4 = false ∧ hasB k 8 = false ∧ hasB k 16 = false) ∨ (hasB k 1 = true ∧ hasB k 2 = true ∧ hasB k 4 = true ∧ hasB k 8 = false ∧ hasB k 16 = false) ∨
    (hasB k 1 = true ∧ hasB k 2 = true ∧ hasB k 4 = false ∧ hasB k 8 = false ∧ hasB k 16 = false) ∨ (hasB k 1 = false ∧ hasB k 2 = false ∧ hasB k 4 = true ∧ hasB k 8 = true ∧ hasB k 16 = false) ∨
    (hasB k 1 = false ∧ hasB k 2 = false ∧ hasB k 4 = true ∧ hasB k 8 = false ∧ hasB k 16 = true) ∨ (hasB k 1 = false ∧ hasB k 2 = false ∧ hasB k 4 = false ∧ hasB k 8 = true ∧ hasB k 16 = false) ∨
    (hasB k 1 = true ∧ hasB k 2 = false ∧ hasB k 4 = true ∧ hasB k 8 = true ∧ hasB k 16 = true) := by
  have : ∀ i : Fin 9, (hasB i.val 1 = false ∧ hasB i.val 2 = false ∧ hasB i.val 4 = false ∧ hasB i.val 8 = false ∧ hasB i.val 16 = false) ∨ (hasB i.val 1 = true ∧ hasB i.val 2 = true ∧ hasB i.val 4 = true ∧ hasB i.val 8 = false ∧ hasB i.val 16 = false) ∨
    (hasB i.val 1 = true ∧ hasB i.val 2 = true ∧ hasB i.val 4 = false ∧ hasB i.val 8 = false ∧ hasB i.val 16 = false) ∨ (hasB i.val 1 = false ∧ hasB i.val 2 = false ∧ hasB i.val 4 = true ∧ hasB i.val 8 = true ∧ hasB i.val 16 = false) ∨
    (hasB i.val 1 = false ∧ hasB i.val 2 = false ∧ hasB i.val 4 = true ∧ hasB i.val 8 = false ∧ hasB i.val 16 = true) ∨ (hasB i.val 1 = false ∧ hasB i.val 2 = false ∧ hasB i.val 4 = false ∧ hasB i.val 8 = true ∧ hasB i.val 16 = false) ∨
    (hasB i.val 1 = true ∧ hasB i.val 2 = false ∧ hasB i.val 4 = true ∧ hasB i.val 8 = true ∧ hasB i.val 16 = true) := by decide
  exact this ⟨k, hk⟩

end Go.Proofs.YtgchepijbpcckaaDoor
