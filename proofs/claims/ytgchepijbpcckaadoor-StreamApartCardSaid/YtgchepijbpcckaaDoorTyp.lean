/- Footprints by type: blocks from B on whose elements are of one of the listed types. -/
import Derived.Test.YtgchepijbpcckaaDoorReg
namespace Go.Gm
open Go.RowKit

def Typ (ts : List TypeId) (B : Nat) (w : World) (k : Nat) : Prop := B ≤ k ∧ ∃ cs t, w.heap[k]? = some (.cells cs t (0, 0)) ∧ t ∈ ts

theorem Typ.not {ts : List TypeId} {B k : Nat} {w : World} {cs : Array Value} {t : TypeId} {fr : Nat × Nat} (h : w.heap[k]? = some (.cells cs t fr)) (ht : t ∉ ts) : ¬ Typ ts B w k := by
  rintro ⟨-, cs', t', hk, hm⟩
  rw [h] at hk
  simp only [Option.some.injEq, Obj.cells.injEq] at hk
  obtain ⟨-, rfl, -⟩ := hk
  exact ht hm
theorem Typ.old {ts : List TypeId} {B k : Nat} {w : World} (h : k < B) : ¬ Typ ts B w k := fun hk => by have := hk.1; omega
theorem Typ.lt {ts : List TypeId} {B k : Nat} {w : World} (h : Typ ts B w k) : k < w.heap.size := by
  obtain ⟨-, cs, t, hk, -⟩ := h
  exact blk_lt hk

theorem Step.typ {ts : List TypeId} {B : Nat} {w a b : World} (h : Step (Typ ts B w) w a) (h' : Step (Typ ts B a) a b) : Step (Typ ts B w) w b := by
  refine h.trans h' fun i hi ht => ?_
  by_cases hn : Typ ts B w i
  · exact hn
  · obtain ⟨h1, cs, t, hk, hm⟩ := ht
    exact ⟨h1, cs, t, by rw [← h.block i hi hn]; exact hk, hm⟩
theorem Step.typBelow {ts : List TypeId} {B : Nat} {w w' : World} (h : Step (Typ ts B w) w w') (hB : B ≤ w.heap.size) : Below B w w' := h.below hB fun _ hk => hk.1
/-- All that is touched is new. -/
theorem Step.typNone {ts : List TypeId} {w0 w w' : World} (h : Step None w0 w) (h' : Step (Typ ts w0.heap.size w) w w') : Step None w0 w' := h.trans h' fun _ hi ht => by have := ht.1; omega
theorem Step.typMono {ts us : List TypeId} {B C : Nat} {w w' : World} (h : Step (Typ ts B w) w w') (hB : C ≤ B) (ht : ∀ t ∈ ts, t ∈ us) : Step (Typ us C w) w w' :=
  h.mono fun _ _ ⟨h1, cs, t, hk, hm⟩ => ⟨by omega, cs, t, hk, ht t hm⟩
theorem Step.none {S : Nat → Prop} {w w' : World} (h : Step None w w') : Step S w w' := h.mono fun _ _ s => s.elim

/-- u is a byte slice that holds l, in a row of its own, from block B on; e: the type of a byte. -/
structure Buf (e : TypeId) (w : World) (B : Nat) (u : Value) (l : List Int) : Prop where
  row : Row w e 1 u l.length (l.map (.int .u8))
  base : ∀ k, Leads u k → B ≤ k

theorem Buf.nil (e : TypeId) (w : World) (B : Nat) : Buf e w B (.slice none 0 0) [] := ⟨Row.nil _ _ _, fun k h => by simp [Leads, Value.ownBlock] at h⟩
theorem Buf.step {e : TypeId} {w w' : World} {S : Nat → Prop} {B : Nat} {u : Value} {l : List Int} (h : Buf e w B u l) (hw : Step S w w') (hn : ∀ k, Leads u k → ¬ S k) : Buf e w' B u l := ⟨h.row.step hw hn, h.base⟩
theorem Buf.still {e : TypeId} {w w' : World} {B : Nat} {u : Value} {l : List Int} (h : Buf e w B u l) (hw : Step Go.Gm.None w w') : Buf e w' B u l := h.step hw fun _ _ s => s.elim
theorem Buf.form {e : TypeId} {w : World} {B : Nat} {u : Value} {l : List Int} (h : Buf e w B u l) : ∃ ao cap, u = .slice ao l.length cap := by
  obtain ⟨ao, cap, rfl, -, -⟩ := h.row.form
  exact ⟨ao, cap, rfl⟩
theorem Buf.typ {e : TypeId} {w : World} {B : Nat} {u : Value} {l : List Int} (h : Buf e w B u l) : ∀ k, Leads u k → Typ [e] B w k := fun k hk => by
  obtain ⟨cs, hcs⟩ := h.row.typed hk
  exact ⟨h.base k hk, cs, e, hcs, by simp⟩

/-- Behind an append. -/
theorem Buf.more {e : TypeId} {w w1 w' : World} {B : Nat} {u u' : Value} {l more : List Int} (h : Buf e w B u l) (hB : B ≤ w.heap.size) (h1 : Step Go.Gm.None w w1) (hr : Row w' e 1 u' (l.length + more.length) (l.map (.int .u8) ++ more.map (.int .u8)))
    (hs : Step (Leads u) w1 w') (hl : ∀ k, Leads u' k → Leads u k ∨ w1.heap.size ≤ k) : Buf e w' B u' (l ++ more) ∧ Step (Typ [e] B w) w w' := by
  refine ⟨⟨by rw [List.length_append, List.map_append]; exact hr, fun k hk => ?_⟩, ((h1.none).then_ hs).mono fun k _ hk => h.typ k hk⟩
  rcases hl k hk with h2 | h2
  · exact h.base k h2
  · have := h1.size; omega

/-- A buffer was appended to: u' holds l; its row is u's or new. -/
structure Grew (e : TypeId) (w w' : World) (B : Nat) (u u' : Value) (l : List Int) : Prop where
  buf : Buf e w' B u' l
  step : Step (Leads u) w w'
  new : ∀ k, Leads u' k → Leads u k ∨ w.heap.size ≤ k
theorem Grew.typ {e : TypeId} {w w' : World} {B : Nat} {u u' : Value} {l l' : List Int} (g : Grew e w w' B u u' l') (h : Buf e w B u l) : Step (Typ [e] B w) w w' := g.step.mono fun k _ hk => h.typ k hk
theorem Grew.trans {e : TypeId} {w w1 w2 : World} {B : Nat} {u u1 u2 : Value} {l l' : List Int} (g : Grew e w w1 B u u1 l) (g' : Grew e w1 w2 B u1 u2 l') : Grew e w w2 B u u2 l' :=
  ⟨g'.buf, g.step.trans g'.step fun k hk hl => by rcases g.new k hl with h | h; exact h; omega, fun k hk => by
    rcases g'.new k hk with h | h
    · exact g.new k h
    · have := g.step.size; exact .inr (by omega)⟩
theorem Buf.grew {e : TypeId} {w w1 w' : World} {B : Nat} {u u' : Value} {l more : List Int} (h : Buf e w B u l) (hB : B ≤ w.heap.size) (h1 : Step Go.Gm.None w w1) (hr : Row w' e 1 u' (l.length + more.length) (l.map (.int .u8) ++ more.map (.int .u8)))
    (hs : Step (Leads u) w1 w') (hl : ∀ k, Leads u' k → Leads u k ∨ w1.heap.size ≤ k) : Grew e w w' B u u' (l ++ more) :=
  ⟨(h.more hB h1 hr hs hl).1, (h1.none).then_ hs, fun k hk => by
    rcases hl k hk with h | h
    · exact .inl h
    · have := h1.size; exact .inr (by omega)⟩

theorem run_string_row {P : Program} {src dst e : TypeId} (hs : P.underlying src = some (.slice e)) (he : P.underlying e = some (.int .u8)) (hd : P.underlying dst = some .string) {w : World} {t : TypeId} {v : Value} {n : Nat} {bs : List Int} (h : Row w t 1 v n (bs.map (.int .u8))) :
    (convert src dst v).run P w = .ok (.string (strOfNums bs)) w := by
  rcases Nat.eq_zero_or_pos n with h0 | hp
  · exact run_string hs he hd (h.bytes (by omega))
  · have hl : bs.length = n := by simpa using h.len
    obtain ⟨b, off, cap, rfl, -, -, -, hc, -⟩ := h.cells hp
    subst hl
    have hl : (loadCells ⟨b, off, none⟩ bs.length).run P w = .ok (bs.map (Value.int .u8)).toArray w := by
      simpa using run_loadCells_list (P := P) w ⟨b, off, none⟩ (bs.map (Value.int .u8)) fun j u hj => by rw [add_plain]; exact hc j u hj
    rw [run_convert_bytes_string w src dst e _ _ cap hs he hd, run_bytesToString w _ _ cap bs hl, foldl_push_bytes]
    simp [strOfNums, ByteArray.empty, ByteArray.emptyWithCapacity]
    rfl
end Go.Gm
