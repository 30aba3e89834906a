/- Words for the laws over steps. -/
import Derived.Test.YtboaelkpmfagfaaW6
namespace Go.Proofs.Ytboaelkpmfagfaa
open Go.RowKit Go.Gm

/-- The steps that came in: of each what is done, its class, its bytes. -/
def StepsAt (w : World) (ao : Option Addr) (len : Nat) : Prop :=
  ∀ i, i < len → ∃ b off d c bo bs bc, ao = some ⟨b, off, none⟩ ∧ w.cell? ⟨b, off + i * 3, none⟩ = some (.int .i64 d) ∧ w.cell? ⟨b, off + i * 3 + 1, none⟩ = some (.int .i64 c) ∧ w.cell? ⟨b, off + i * 3 + 2, none⟩ = some (.slice bo bs.length bc) ∧ Bytes w (.slice bo bs.length bc) bs ∧ Small bs

theorem stepsAt {w : World} {v : Value} (h : Arg w (.slice 3 40 (.cat 1 (.int .i64) (.cat 1 (.int .i64) (.cat 1 (.slice 1 1 (.int .u8)) .nil)))) v) : ∃ ao len cap, v = .slice ao len cap ∧ len ≤ 9223372036854775807 ∧ StepsAt w ao len := by
  obtain ⟨ao, len, cap, rfl, h1, h2, h3, h4⟩ := (h.one rfl).elems (by decide)
  refine ⟨ao, len, cap, rfl, by omega, fun i hi => ?_⟩
  obtain ⟨b, off, cs, rfl, hl, hc, hf⟩ := h4 i hi
  match cs, hl with
  | [x0, x1, x2], _ =>
    obtain ⟨⟨d, hd, -⟩, ⟨c, hcc, -⟩, hb, -⟩ := hf
    simp at hd hcc hb
    subst hd hcc
    obtain ⟨bs, hbs, hsm, -⟩ := hb.bytes
    obtain ⟨bo, bc, rfl⟩ := hbs.len
    exact ⟨b, off, d, c, bo, bs, bc, rfl, hc 0 (by decide), hc 1 (by decide), hc 2 (by decide), hbs, hsm⟩

/-- A box of eight counts. -/
def Eight (w : World) (g : Nat) (A : Nat → Int) : Prop := ∃ cur, w.heap[g]? = some (.cells cur 30 (0, 0)) ∧ cur.size = 8 ∧ ∀ c, c < 8 → cur[c]? = some (.int .i64 (A c))

theorem Eight.cells {w : World} {g : Nat} {A : Nat → Int} (h : Eight w g A) : (∀ c, c < 8 → w.cell? ⟨g, c, none⟩ = some (.int .i64 (A c))) ∧ ∀ j, w.frozen? ⟨g, j, none⟩ = false := by
  obtain ⟨cur, hb, hs, h1⟩ := h
  exact ⟨fun c hc => by rw [blk_cell hb]; exact h1 c hc, blk_frozen hb⟩
theorem Eight.step {w w' : World} {S : Nat → Prop} {g : Nat} {A : Nat → Int} (h : Eight w g A) (hw : Step S w w') (hn : ¬ S g) : Eight w' g A := by
  obtain ⟨cur, hb, h1⟩ := h
  exact ⟨cur, hw.blk hb hn, h1⟩
theorem Eight.own {w w' : World} {Q g : Nat} {A : Nat → Int} (h : Eight w g A) (hw : Step (Own Q w) w w') : Eight w' g A := by
  obtain ⟨cur, hb, h1⟩ := h
  exact ⟨cur, hw.blk hb (Own.other hb (by decide) (by decide)), h1⟩
theorem Eight.set {w : World} {g : Nat} {A : Nat → Int} (h : Eight w g A) {c : Nat} (hc : c < 8) (x : Int) : Eight (w.setCell ⟨g, c, none⟩ (.int .i64 x)) g (fun d => if d = c then x else A d) := by
  obtain ⟨cur, hb, hs, h1⟩ := h
  refine ⟨_, blk_set hb c _, by simpa using hs, fun d hd => ?_⟩
  show _ = some (Value.int .i64 (if d = c then x else A d))
  by_cases e : d = c
  · subst e
    rw [if_pos rfl, Array.getElem?_setIfInBounds_self_of_lt (by omega)]
  · rw [if_neg e, Array.getElem?_setIfInBounds_ne (by omega)]; exact h1 d hd
theorem Eight.lt {w : World} {g : Nat} {A : Nat → Int} (h : Eight w g A) : g < w.heap.size := by
  obtain ⟨cur, hb, -⟩ := h
  exact blk_lt hb

def zero8 : Array Value := #[.int .i64 0, .int .i64 0, .int .i64 0, .int .i64 0, .int .i64 0, .int .i64 0, .int .i64 0, .int .i64 0]
theorem Eight.new (w : World) : Eight (w.alloc (.cells zero8 30)) w.heap.size (fun _ => 0) :=
  ⟨zero8, heap_alloc_new w _, rfl, by intro c hc; match c, hc with | 0, _ => rfl | 1, _ => rfl | 2, _ => rfl | 3, _ => rfl | 4, _ => rfl | 5, _ => rfl | 6, _ => rfl | 7, _ => rfl⟩

end Go.Proofs.Ytboaelkpmfagfaa
