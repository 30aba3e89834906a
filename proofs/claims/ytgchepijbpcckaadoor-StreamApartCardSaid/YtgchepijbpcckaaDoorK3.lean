/- The closures of Encode. -/
import Derived.Test.YtgchepijbpcckaaDoorK1
import Derived.Test.YtgchepijbpcckaaDoorK2
import Derived.Test.YtgchepijbpcckaaDoorPlan
namespace Go.Proofs.YtgchepijbpcckaaDoor
open Go.RowKit Go.Gm

def two (n : Int) : List Int := [n / 256 % 256, n % 256]
def four (n : Int) : List Int := [n / 65536 / 256 % 256, n / 65536 % 256, n / 256 % 256, n % 256]

/-- A note in its variable. -/
def NoteAt (w : World) (g : Nat) (n : Note) (bv : Value) : Prop := w.heap[g]? = some (.cells (n.cells bv) 36 (0, 0))
theorem NoteAt.step {w w' : World} {S : Nat → Prop} {g : Nat} {n : Note} {bv : Value} (h : NoteAt w g n bv) (hw : Step S w w') (hn : ¬ S g) : NoteAt w' g n bv := hw.blk h hn

theorem more_vlan (g : Nat) (n : Note) (bv u : Value) (l : List Int) (w : World) {B : Nat} (hn : NoteAt w g n bv) (h : Buf 5 w B u l) (hB : B ≤ w.heap.size) (hl : l.length ≤ 90000) :
    Calls Tryd.prog 40 #[u, .pointer (some ⟨g, 0, none⟩)] w fun e w' => ∃ u', e = .returned u' ∧ Grew 5 w w' B u u' (l ++ two n.vlan) := by
  have h1 : w.cell? ⟨g, 1, none⟩ = some (.int .i64 n.vlan) := blk_cell hn 1
  clear hn
  go_enter Tryd.func40, Tryd.ntmps40
  go_wp2_with fail
  refine (short_any u l n.vlan w h hB (by omega)).mono ?_
  rintro e w1 ⟨u1, rfl, g1⟩
  go_wp2_with fail
  go_ret
  exact ⟨u1, rfl, g1⟩

theorem more_port (g : Nat) (n : Note) (bv u : Value) (l : List Int) (w : World) {B : Nat} (hn : NoteAt w g n bv) (h : Buf 5 w B u l) (hB : B ≤ w.heap.size) (hl : l.length ≤ 90000) :
    Calls Tryd.prog 43 #[u, .pointer (some ⟨g, 0, none⟩)] w fun e w' => ∃ u', e = .returned u' ∧ Grew 5 w w' B u u' (l ++ two n.port) := by
  have h1 : w.cell? ⟨g, 8, none⟩ = some (.int .i64 n.port) := blk_cell hn 8
  clear hn
  go_enter Tryd.func43, Tryd.ntmps43
  go_wp2_with fail
  refine (short_any u l n.port w h hB (by omega)).mono ?_
  rintro e w1 ⟨u1, rfl, g1⟩
  go_wp2_with fail
  go_ret
  exact ⟨u1, rfl, g1⟩

def Note.mac (n : Note) : List Int := [n.m0, n.m1, n.m2, n.m3, n.m4, n.m5]

theorem more_mac (g : Nat) (n : Note) (bv u : Value) (l : List Int) (w : World) {B : Nat} (hn : NoteAt w g n bv) (h : Buf 5 w B u l) (hB : B ≤ w.heap.size) (hl : l.length ≤ 90000) :
    Calls Tryd.prog 42 #[u, .pointer (some ⟨g, 0, none⟩)] w fun e w' => ∃ u', e = .returned u' ∧ Grew 5 w w' B u u' (l ++ n.mac) := by
  have H := Lib.hid h
  obtain ⟨ao, cap, rfl⟩ := h.form
  have HN := Lib.hid hn
  have hs : Hid (Src Tryd.prog 1 34 (.slice (some ⟨g, 2, none⟩) 6 6) 6 (n.mac.map (.int .u8)) w) := by
    refine Src.ofSlice w Tryd.underlying34 ⟨g, 2, none⟩ 6 6 (n.mac.map (.int .u8)) rfl (fun j v hj => ?_) (nums_one _ _)
    rw [add_plain, blk_cell hn]
    match j, hj with
    | 0, hj => exact hj
    | 1, hj => exact hj
    | 2, hj => exact hj
    | 3, hj => exact hj
    | 4, hj => exact hj
    | 5, hj => exact hj
    | j + 6, hj => simp [Note.mac] at hj
  clear h hn
  go_enter Tryd.func42, Tryd.ntmps42
  go_wp2_with (first | (at_builtin; refine wpList_append_row T24 rfl (.tmp 4) (.tmp 6) rfl rfl H.out.row rfl hs.out ?ha ?hb ?_))
  case ha => simp [maxLen]; omega
  case hb => omega
  intro v' w' h2 h3 h4
  have HM := Lib.hid (H.out.grew (more := n.mac) hB (Step.refl None w) h2 h3 h4)
  clear h2 h3 h4
  go_wp2
  go_ret
  exact ⟨v', rfl, HM.out⟩

theorem more_state (g : Nat) (n : Note) (bv u : Value) (l : List Int) (w : World) {B : Nat} (hn : NoteAt w g n bv) (h : Buf 5 w B u l) (hB : B ≤ w.heap.size) (hl : l.length ≤ 90000) :
    Calls Tryd.prog 44 #[u, .pointer (some ⟨g, 0, none⟩)] w fun e w' => ∃ u', e = .returned u' ∧ Grew 5 w w' B u u' (l ++ [n.state % 256]) := by
  have h1 : w.cell? ⟨g, 9, none⟩ = some (.int .i64 n.state) := blk_cell hn 9
  have H := Lib.hid h
  obtain ⟨ao, cap, rfl⟩ := h.form
  clear h hn
  go_enter Tryd.func44, Tryd.ntmps44
  go_wp2_with (first | (at_builtin; refine wpList_append_row T24 rfl (.tmp 4) (.tmp 8) rfl rfl (H.out.row.alloc _) rfl (Src.ofBlock T24 (c := 1) (heap_alloc_new w (.cells #[.int .u8 (n.state % 256)] 5)) (by rfl) (by simp [Value.oneCell'])) ?ha ?hb ?_))
  case ha => simp [maxLen]; omega
  case hb => omega
  intro v' w' h2 h3 h4
  have HM := Lib.hid (H.out.grew (more := [n.state % 256]) hB ((Step.refl None w).alloc _) h2 h3 (by simpa using h4))
  clear h2 h3 h4
  go_wp2
  go_ret
  exact ⟨v', rfl, HM.out⟩

end Go.Proofs.YtgchepijbpcckaaDoor
