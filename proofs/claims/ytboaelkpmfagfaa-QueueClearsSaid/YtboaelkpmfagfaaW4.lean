/- (*Queue).Clear. -/
import Derived.Test.YtboaelkpmfagfaaW3
namespace Go.Proofs.Ytboaelkpmfagfaa
open Go.RowKit Go.Gm

/-- How many wait in the first k classes. -/
def total (X : Nat → List (List Int)) : Nat → Nat
  | 0 => 0
  | k + 1 => total X k + (X k).length
theorem total_le (X : Nat → List (List Int)) (h : ∀ d, d < 8 → (X d).length ≤ 1000) : ∀ k, k ≤ 8 → total X k ≤ 1000 * k
  | 0, _ => Nat.le_refl _
  | k + 1, hk => by have := total_le X h k (by omega); have := h k (by omega); simp only [total]; omega

theorem QRep.congr {w : World} {B g : Nat} {room : Int} {V V' : Nat → Value} {X X' : Nat → List (List Int)} {L L' : Nat → Int} (h : QRep w B g room V X L) (hV : ∀ d, d < 8 → V d = V' d) (hX : ∀ d, d < 8 → X d = X' d) (hL : ∀ d, d < 8 → L d = L' d) : QRep w B g room V' X' L' := by
  obtain ⟨cur, hb, hs, h0, h1, h2⟩ := h.blk
  refine ⟨⟨cur, hb, hs, h0, fun c hc => by rw [← hV c hc]; exact h1 c hc, fun c hc => by rw [← hL c hc]; exact h2 c hc⟩, fun c hc => ?_, fun c d hc hd hne => ?_⟩
  · rw [← hV c hc, ← hX c hc]; exact h.rows c hc
  · rw [← hV c hc, ← hV d hd]; exact h.apart c d hc hd hne

/-- The queue while its first k rows are let go. -/
structure Going (w wr : World) (B g : Nat) (room : Int) (V : Nat → Value) (X : Nat → List (List Int)) (L : Nat → Int) (k : Nat) : Prop where
  rep : QRep wr B g room (fun d => if d < k then .slice none 0 0 else V d) (fun d => if d < k then [] else X d) L
  step : Step (fun k => k = g) w wr

theorem Going.next {w wr : World} {B g : Nat} {room : Int} {V : Nat → Value} {X : Nat → List (List Int)} {L : Nat → Int} {k : Nat} (h : Going w wr B g room V X L k) (hk : k < 8) :
    Going w (wr.setCell ⟨g, 1 + k, none⟩ (.slice none 0 0)) B g room V X L (k + 1) := by
  obtain ⟨cur, hb, -⟩ := h.rep.blk
  have e4 : Step (fun k => k = g) wr (wr.setCell ⟨g, 1 + k, none⟩ (.slice none 0 0)) := Step.setCell (S := fun k => k = g) (Step.refl _ wr) (p := ⟨g, 1 + k, none⟩) (fun _ => rfl) _
  refine ⟨?_, h.step.then_ e4⟩
  have := h.rep.turned (c := k) (v := .slice none 0 0) (l := []) hk (e4.mono fun _ _ s => .inl s) ⟨[], Row.nil _ _ _, by simp⟩ (fun j hj => by simp [Leads, Value.ownBlock] at hj) (fun cur' hb' => blk_set hb' (1 + k) _)
  refine this.congr (fun d _ => ?_) (fun d _ => ?_) fun _ _ => rfl
  · by_cases e : d = k
    · simp [e]
    · by_cases e2 : d < k
      · simp [e, e2, Nat.lt_succ_of_lt e2]
      · simp [e, e2, show ¬ d < k + 1 by omega]
  · by_cases e : d = k
    · simp [e]
    · by_cases e2 : d < k
      · simp [e, e2, Nat.lt_succ_of_lt e2]
      · simp [e, e2, show ¬ d < k + 1 by omega]

theorem clear_any {B : Nat} (g : Nat) (w : World) {room : Int} {V : Nat → Value} {X : Nat → List (List Int)} {L : Nat → Int} (h : QRep w B g room V X L) (hm : ∀ d, d < 8 → (X d).length ≤ 1000) :
    Calls Try.prog 18 #[.pointer (some ⟨g, 0, none⟩)] w fun e w' => e = .returned (.int .i64 (total X 8)) ∧ Going w w' B g room V X L 8 := by
  have h0 : Going w w B g room V X L 0 := ⟨h.congr (fun _ _ => by simp) (fun _ _ => by simp) fun _ _ => rfl, Step.refl _ _⟩
  have H0 := Lib.hid h0
  clear h h0
  go_enter Try.func18, Try.ntmps18
  go_wp2
  go_loopw [3, 4, 5] (fun n _c i wr => ∃ k : Nat, k ≤ 8 ∧ i = .int .i64 k ∧ n = .int .i64 (total X k) ∧ Hid (Going w wr B g room V X L k)) (fun _ _ i _ => 8 - (intOf i).toNat)
  case atStart => exact ⟨0, by omega, rfl, rfl, H0⟩
  case round =>
    obtain ⟨k, hk, rfl, rfl, hg⟩ := hrel
    by_cases hlt : k < 8
    · obtain ⟨-, h1, -, h3⟩ := hg.out.rep.cells
      have hV := h1 k hlt
      have hf := h3 (1 + k)
      simp only [Nat.lt_irrefl, if_false] at hV
      obtain ⟨xs, hr, -⟩ := hg.out.rep.rows k hlt
      simp only [Nat.lt_irrefl, if_false] at hr
      obtain ⟨ao, cap, hv, -, -⟩ := hr.form
      rw [hv] at hV
      have ht := total_le X hm k hk
      have hmk := hm k hlt
      have hn := Lib.hid (hg.out.next hlt)
      have h8 : (k : Int) < 8 := by omega
      clear h1 h3 hr hv
      go_wp2
      go_roundw
      case rel => exact ⟨k + 1, by omega, by go_num, by simp [total], hn⟩
      case measure => simp [intOf]; omega
    · obtain rfl : k = 8 := by omega
      go_wp2
      go_ret
      exact ⟨rfl, hg.out⟩

end Go.Proofs.Ytboaelkpmfagfaa
