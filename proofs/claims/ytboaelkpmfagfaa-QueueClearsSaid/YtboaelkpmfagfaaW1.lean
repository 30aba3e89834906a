/- The small functions of package queue. -/
import Derived.Test.YtboaelkpmfagfaaRows
import Derived.Test.YtboaelkpmfagfaaGm
namespace Go.Proofs.Ytboaelkpmfagfaa
open Go.RowKit Go.Gm

theorem right_any (c : Int) (w : World) : Calls Try.prog 19 #[.int .i64 c] w fun e w' => e = .returned (.bool (decide (0 ≤ c) && decide (c < 8))) ∧ w = w' := by
  by_cases h0 : 0 ≤ c
  · have h0' : decide (0 ≤ c) = true := by simpa using h0
    go_enter Try.func19, Try.ntmps19
    go_wp2
    go_ret
    exact ⟨by simp [h0], rfl⟩
  · have h0' : decide (0 ≤ c) = false := by simpa using h0
    go_enter Try.func19, Try.ntmps19
    go_wp2
    go_ret
    exact ⟨by simp, rfl⟩

/-- u is a byte slice that holds l, in a row of its own, from block B on. -/
structure El (w : World) (B : Nat) (u : Value) (l : List Int) : Prop where
  row : Row w 5 1 u l.length (l.map (.int .u8))
  base : ∀ k, Leads u k → B ≤ k
theorem El.step {w w' : World} {S : Nat → Prop} {B : Nat} {u : Value} {l : List Int} (h : El w B u l) (hw : Step S w w') (hn : ∀ k, Leads u k → ¬ S k) : El w' B u l := ⟨h.row.step hw hn, h.base⟩

/-- The queue at block g: its room, eight rows, eight counts. -/
structure QRep (w : World) (B g : Nat) (room : Int) (V : Nat → Value) (X : Nat → List (List Int)) (L : Nat → Int) : Prop where
  blk : ∃ cur, w.heap[g]? = some (.cells cur 49 (0, 0)) ∧ cur.size = 17 ∧ cur[0]? = some (.int .i64 room) ∧ (∀ c, c < 8 → cur[1 + c]? = some (V c)) ∧ ∀ c, c < 8 → cur[9 + c]? = some (.int .i64 (L c))
  rows : ∀ c, c < 8 → ∃ xs, Row w 31 1 (V c) (X c).length xs ∧ ∀ (j : Nat) (l : List Int), (X c)[j]? = some l → ∃ u, xs[j]? = some u ∧ El w B u l
  apart : ∀ c d, c < 8 → d < 8 → c ≠ d → ∀ k, Leads (V c) k → ¬ Leads (V d) k

theorem new_bad (room : Int) (w : World) (h : room < 1 ∨ 1000 < room) : Calls Try.prog 9 #[.int .i64 room] w fun e w' => e = .returned (.tuple #[.pointer none, .int .i64 1]) ∧ w = w' := by
  by_cases h1 : room < 1
  · have h1' : decide (room < 1) = true := by simpa using h1
    go_enter Try.func9, Try.ntmps9
    go_wp2
    go_ret2
    exact ⟨rfl, rfl⟩
  · have h1' : decide (room < 1) = false := by simpa using h1
    have h2' : decide (1000 < room) = true := by simp; omega
    go_enter Try.func9, Try.ntmps9
    go_wp2
    go_ret2
    exact ⟨rfl, rfl⟩
/-- A new queue's cells. -/
def newCells (room : Int) : Array Value := #[.int .i64 room, .slice none 0 0, .slice none 0 0, .slice none 0 0, .slice none 0 0, .slice none 0 0, .slice none 0 0, .slice none 0 0, .slice none 0 0, .int .i64 0, .int .i64 0, .int .i64 0, .int .i64 0, .int .i64 0, .int .i64 0, .int .i64 0, .int .i64 0]

theorem new_ok (room : Int) (w : World) (h1 : 1 ≤ room) (h2 : room ≤ 1000) : Calls Try.prog 9 #[.int .i64 room] w fun e w' => e = .returned (.tuple #[.pointer (some ⟨w.heap.size, 0, none⟩), .int .i64 0]) ∧ w.alloc (.cells (newCells room) 49) = w' := by
  have h1' : decide (room < 1) = false := by simpa using h1
  have h2' : decide (1000 < room) = false := by simp; omega
  go_enter Try.func9, Try.ntmps9
  go_wp2
  go_ret2
  exact ⟨rfl, rfl⟩

theorem newRep (room : Int) (w : World) (B : Nat) : QRep (w.alloc (.cells (newCells room) 49)) B w.heap.size room (fun _ => .slice none 0 0) (fun _ => []) (fun _ => 0) where
  blk := ⟨newCells room, heap_alloc_new w _, rfl, rfl, by intro c hc; match c, hc with | 0, _ => rfl | 1, _ => rfl | 2, _ => rfl | 3, _ => rfl | 4, _ => rfl | 5, _ => rfl | 6, _ => rfl | 7, _ => rfl, by intro c hc; match c, hc with | 0, _ => rfl | 1, _ => rfl | 2, _ => rfl | 3, _ => rfl | 4, _ => rfl | 5, _ => rfl | 6, _ => rfl | 7, _ => rfl⟩
  rows := fun c _ => ⟨[], Row.nil _ _ _, by simp⟩
  apart := fun _ _ _ _ _ k h => by simp [Leads, Value.ownBlock] at h

theorem T31 : SliceT Try.prog 31 5 1 1 := SliceT.mk' Try.underlying31 (z := .int .u8 0) (by kernel_rfl) rfl (by decide)
theorem T46 : SliceT Try.prog 46 31 1 24 := SliceT.mk' Try.underlying46 (z := .slice none 0 0) (by kernel_rfl) rfl (by decide)

/-- What is cloned: nil, or bytes that are seen. -/
theorem clone_nil (w : World) : Calls Try.prog 20 #[.slice none 0 0] w fun e w' => e = .returned (.slice none 0 0) ∧ w = w' := by
  have hnil := fun (W : World) (a : Option Addr) (n c : Nat) => Lib.run_eql_slice_nil (P := Try.prog) W 31 5 a n c 0 0 Try.underlying31
  go_enter Try.func20, Try.ntmps20
  go_wp2
  go_ret
  exact ⟨rfl, rfl⟩

theorem clone_some (b : Addr) (n cap : Nat) (news : List Value) (w : World) (hl : news.length = n) (hc : ∀ j u, news[j]? = some u → w.cell? (b.add j) = some u) (h1 : ∀ u ∈ news, u.oneCell' = true) (hn : n ≤ 140737488355328) :
    Calls Try.prog 20 #[.slice (some b) n cap] w fun e w' => ∃ u, e = .returned u ∧ Row w' 5 1 u n news ∧ Step None w w' ∧ ∀ k, Leads u k → w.heap.size ≤ k := by
  have hnil := fun (W : World) (a : Option Addr) (n c : Nat) => Lib.run_eql_slice_nil (P := Try.prog) W 31 5 a n c 0 0 Try.underlying31
  have hrow : Row (w.alloc (.cells #[] 5)) 5 1 (.slice (some ⟨w.heap.size, 0, none⟩) 0 0) 0 [] := Row.ofBlock (cur := #[]) (heap_alloc_new w _) (Nat.le_refl _) (by simp [maxLen]) (by simp)
  have hsrc : Src Try.prog 1 31 (.slice (some b) n cap) n news (w.alloc (.cells #[] 5)) := Src.ofSlice _ Try.underlying31 b n cap news (by omega) (fun j u hj => by
    have := hc j u hj
    rwa [World.cell?_alloc_lt _ _ _ (World.block_lt_of_cell? w _ this)]) h1
  go_enter Try.func20, Try.ntmps20
  go_wp2_with (first | (at_builtin; refine wpList_append_row T31 rfl (.tmp 5) (.tmp 6) rfl rfl hrow rfl hsrc ?ha ?hb ?_))
  case ha => simp [maxLen]; omega
  case hb => omega
  intro v' w' h2 h3 h4
  go_wp2
  go_ret
  refine ⟨v', rfl, h2, ?_, fun k hk => ?_⟩
  · exact (((Step.refl None w).alloc _).trans h3 fun i hi hl => by simp [Leads, Value.ownBlock] at hl; omega)
  · rcases h4 k hk with h | h
    · simp [Leads, Value.ownBlock] at h; omega
    · omega

/-- The facts on a queue's cells, for a walk. -/
theorem QRep.cells {w : World} {B g : Nat} {room : Int} {V : Nat → Value} {X : Nat → List (List Int)} {L : Nat → Int} (h : QRep w B g room V X L) :
    w.cell? ⟨g, 0, none⟩ = some (.int .i64 room) ∧ (∀ c, c < 8 → w.cell? ⟨g, 1 + c, none⟩ = some (V c)) ∧ (∀ c, c < 8 → w.cell? ⟨g, 9 + c, none⟩ = some (.int .i64 (L c))) ∧ ∀ j, w.frozen? ⟨g, j, none⟩ = false := by
  obtain ⟨cur, hb, hs, h0, h1, h2⟩ := h.blk
  exact ⟨by rw [blk_cell hb]; exact h0, fun c hc => by rw [blk_cell hb]; exact h1 c hc, fun c hc => by rw [blk_cell hb]; exact h2 c hc, blk_frozen hb⟩

theorem len_bad (g : Nat) (c : Int) (w : World) (hc : ¬ (0 ≤ c ∧ c < 8)) : Calls Try.prog 12 #[.pointer (some ⟨g, 0, none⟩), .int .i64 c] w fun e w' => e = .returned (.int .i64 0) ∧ w = w' := by
  have hr : (decide (0 ≤ c) && decide (c < 8)) = false := by simp; omega
  go_enter Try.func12, Try.ntmps12
  go_wp2_with (first | (go_at_call 19; refine (right_any c _).mono ?_; rintro e w' ⟨rfl, rfl⟩; rw [hr]))
  go_ret
  exact ⟨rfl, rfl⟩
theorem len_ok {B : Nat} (g : Nat) (c : Nat) (w : World) (hc : c < 8) {room : Int} {V : Nat → Value} {X : Nat → List (List Int)} {L : Nat → Int} (h : QRep w B g room V X L) :
    Calls Try.prog 12 #[.pointer (some ⟨g, 0, none⟩), .int .i64 c] w fun e w' => e = .returned (.int .i64 (X c).length) ∧ w = w' := by
  have hr : (decide (0 ≤ (c : Int)) && decide ((c : Int) < 8)) = true := by simp; omega
  obtain ⟨-, h1, -, -⟩ := h.cells
  have hV := h1 c hc
  obtain ⟨xs, hx, -⟩ := h.rows c hc
  obtain ⟨ao, cap, hv, hcap, hmax⟩ := hx.form
  rw [hv] at hV
  clear h1 hx hv h
  go_enter Try.func12, Try.ntmps12
  go_wp2_with (first | (go_at_call 19; refine (right_any c _).mono ?_; rintro e w' ⟨rfl, rfl⟩; rw [hr]))
  go_ret
  exact ⟨rfl, rfl⟩
theorem lost_bad (g : Nat) (c : Int) (w : World) (hc : ¬ (0 ≤ c ∧ c < 8)) : Calls Try.prog 13 #[.pointer (some ⟨g, 0, none⟩), .int .i64 c] w fun e w' => e = .returned (.int .i64 0) ∧ w = w' := by
  have hr : (decide (0 ≤ c) && decide (c < 8)) = false := by simp; omega
  go_enter Try.func13, Try.ntmps13
  go_wp2_with (first | (go_at_call 19; refine (right_any c _).mono ?_; rintro e w' ⟨rfl, rfl⟩; rw [hr]))
  go_ret
  exact ⟨rfl, rfl⟩
theorem lost_ok {B : Nat} (g : Nat) (c : Nat) (w : World) (hc : c < 8) {room : Int} {V : Nat → Value} {X : Nat → List (List Int)} {L : Nat → Int} (h : QRep w B g room V X L) :
    Calls Try.prog 13 #[.pointer (some ⟨g, 0, none⟩), .int .i64 c] w fun e w' => e = .returned (.int .i64 (L c)) ∧ w = w' := by
  have hr : (decide (0 ≤ (c : Int)) && decide ((c : Int) < 8)) = true := by simp; omega
  obtain ⟨-, -, h1, -⟩ := h.cells
  have hV := h1 c hc
  clear h1 h
  go_enter Try.func13, Try.ntmps13
  go_wp2_with (first | (go_at_call 19; refine (right_any c _).mono ?_; rintro e w' ⟨rfl, rfl⟩; rw [hr]))
  go_ret
  exact ⟨rfl, rfl⟩

end Go.Proofs.Ytboaelkpmfagfaa
