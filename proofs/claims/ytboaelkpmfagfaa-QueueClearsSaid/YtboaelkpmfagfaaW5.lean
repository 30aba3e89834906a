/- The queue's calls over its state alone: what waits of each class, how many are lost. -/
import Derived.Test.YtboaelkpmfagfaaW4
namespace Go.Proofs.Ytboaelkpmfagfaa
open Go.RowKit Go.Gm

/-- Blocks of a queue: from Q on, by their types. -/
def Own (Q : Nat) (w : World) (k : Nat) : Prop := Q ≤ k ∧ ∃ cs t, w.heap[k]? = some (.cells cs t (0, 0)) ∧ (t = 49 ∨ t = 31)

theorem Own.other {Q : Nat} {w : World} {k : Nat} {cs : Array Value} {t : TypeId} {fr : Nat × Nat} (h : w.heap[k]? = some (.cells cs t fr)) (h1 : t ≠ 49) (h2 : t ≠ 31) : ¬ Own Q w k := by
  rintro ⟨-, cs', t', hk, ht⟩
  rw [h] at hk
  simp only [Option.some.injEq, Obj.cells.injEq] at hk
  obtain ⟨-, rfl, -⟩ := hk
  rcases ht with rfl | rfl <;> contradiction
theorem Own.old {Q : Nat} {w : World} {k : Nat} (h : k < Q) : ¬ Own Q w k := fun hk => by have := hk.1; omega

/-- A queue at block g: its room, what waits, how many are lost. -/
structure QSt (w : World) (B Q g : Nat) (room : Int) (X : Nat → List (List Int)) (L : Nat → Int) : Prop where
  rep : ∃ V, QRep w B g room V X L ∧ ∀ c, c < 8 → ∀ k, Leads (V c) k → Q ≤ k
  base : Q ≤ g
  few : ∀ c, c < 8 → (X c).length ≤ 1000

theorem QSt.lt {w : World} {B Q g : Nat} {room : Int} {X : Nat → List (List Int)} {L : Nat → Int} (h : QSt w B Q g room X L) : g < w.heap.size := by
  obtain ⟨V, ⟨⟨cur, hb, -⟩, -, -⟩, -⟩ := h.rep
  exact blk_lt hb

theorem QSt.step {w w' : World} {S : Nat → Prop} {B Q g : Nat} {room : Int} {X : Nat → List (List Int)} {L : Nat → Int} (h : QSt w B Q g room X L) (hw : Step S w w')
    (hn : ∀ k, S k → ∀ cs t, w.heap[k]? = some (.cells cs t (0, 0)) → t ≠ 49 ∧ t ≠ 31 ∧ (t = 5 → k < B)) : QSt w' B Q g room X L := by
  obtain ⟨V, ⟨⟨cur, hb, h1⟩, hr, ha⟩, hl⟩ := h.rep
  refine ⟨⟨V, ⟨⟨cur, hw.blk hb fun s => (hn g s _ _ hb).1 rfl, h1⟩, fun c hc => ?_, ha⟩, hl⟩, h.base, h.few⟩
  obtain ⟨xs, hx, hel⟩ := hr c hc
  refine ⟨xs, hx.step hw fun k hk s => ?_, fun j l hj => ?_⟩
  · obtain ⟨cs, hcs⟩ := hx.typed hk
    exact (hn k s _ _ hcs).2.1 rfl
  · obtain ⟨u, hu, he⟩ := hel j l hj
    refine ⟨u, hu, he.step hw fun k hk s => ?_⟩
    obtain ⟨cs, hcs⟩ := he.row.typed hk
    have := (hn k s _ _ hcs).2.2 rfl
    have := he.base k hk
    omega

/-- new, put, get, clear: over the state. -/
def putE (room : Int) (X : Nat → List (List Int)) (c : Int) : Int := if 0 ≤ c ∧ c < 8 then if room ≤ (X c.toNat).length then 3 else 0 else 1
def putX (room : Int) (X : Nat → List (List Int)) (c : Int) (b : List Int) : Nat → List (List Int) := fun d => if putE room X c = 0 ∧ d = c.toNat then X d ++ [b] else X d
def putL (room : Int) (X : Nat → List (List Int)) (L : Nat → Int) (c : Int) : Nat → Int := fun d => if putE room X c = 3 ∧ d = c.toNat then L d + 1 else L d

theorem new_st (room : Int) (w : World) (h1 : 1 ≤ room) (h2 : room ≤ 1000) (B : Nat) :
    Calls Try.prog 9 #[.int .i64 room] w fun e w' => e = .returned (.tuple #[.pointer (some ⟨w.heap.size, 0, none⟩), .int .i64 0]) ∧ QSt w' B w.heap.size w.heap.size room (fun _ => []) (fun _ => 0) ∧ Step None w w' := by
  refine (new_ok room w h1 h2).mono ?_
  rintro e w' ⟨rfl, rfl⟩
  exact ⟨rfl, ⟨⟨_, newRep room w B, fun c _ k hk => by simp [Leads, Value.ownBlock] at hk⟩, Nat.le_refl _, fun _ _ => by simp⟩, (Step.refl _ w).alloc _⟩

def lenE (X : Nat → List (List Int)) (c : Int) : Int := if 0 ≤ c ∧ c < 8 then ((X c.toNat).length : Int) else 0
def lostE (L : Nat → Int) (c : Int) : Int := if 0 ≤ c ∧ c < 8 then L c.toNat else 0

theorem lenE_nat (X : Nat → List (List Int)) {j : Nat} (h : j < 8) : lenE X j = (X j).length := by
  unfold lenE
  rw [if_pos (by omega)]
  simp
theorem lostE_nat (L : Nat → Int) {j : Nat} (h : j < 8) : lostE L j = L j := by
  unfold lostE
  rw [if_pos (by omega)]
  simp

theorem len_st (g : Nat) (c : Int) (w : World) {B Q : Nat} {room : Int} {X : Nat → List (List Int)} {L : Nat → Int} (h : QSt w B Q g room X L) :
    Calls Try.prog 12 #[.pointer (some ⟨g, 0, none⟩), .int .i64 c] w fun e w' => e = .returned (.int .i64 (lenE X c)) ∧ w = w' := by
  unfold lenE
  by_cases hc : 0 ≤ c ∧ c < 8
  · obtain ⟨k, rfl⟩ : ∃ k : Nat, c = k := ⟨c.toNat, by omega⟩
    obtain ⟨V, hr, -⟩ := h.rep
    rw [if_pos hc]
    exact len_ok g k w (by omega) hr
  · rw [if_neg hc]; exact len_bad g c w hc
theorem lost_st (g : Nat) (c : Int) (w : World) {B Q : Nat} {room : Int} {X : Nat → List (List Int)} {L : Nat → Int} (h : QSt w B Q g room X L) :
    Calls Try.prog 13 #[.pointer (some ⟨g, 0, none⟩), .int .i64 c] w fun e w' => e = .returned (.int .i64 (lostE L c)) ∧ w = w' := by
  unfold lostE
  by_cases hc : 0 ≤ c ∧ c < 8
  · obtain ⟨k, rfl⟩ : ∃ k : Nat, c = k := ⟨c.toNat, by omega⟩
    obtain ⟨V, hr, -⟩ := h.rep
    rw [if_pos hc]
    exact lost_ok g k w (by omega) hr
  · rw [if_neg hc]; exact lost_bad g c w hc

theorem put_st (g : Nat) (c : Int) (vb : Value) (bs : List Int) (w : World) {B Q : Nat} {room : Int} {X : Nat → List (List Int)} {L : Nat → Int} (h : QSt w B Q g room X L)
    (hb : Bytes w vb bs) (hB : B ≤ w.heap.size) (hQ : Q ≤ w.heap.size) (hroom : room ≤ 1000) (hL : ∀ c, c < 8 → 0 ≤ L c ∧ L c ≤ 1000000) :
    Calls Try.prog 10 #[.pointer (some ⟨g, 0, none⟩), .int .i64 c, vb] w fun e w' => e = .returned (.int .i64 (putE room X c)) ∧ QSt w' B Q g room (putX room X c bs) (putL room X L c) ∧ Step (Own Q w) w w' := by
  by_cases hc : 0 ≤ c ∧ c < 8
  · obtain ⟨k, rfl⟩ : ∃ k : Nat, c = k := ⟨c.toNat, by omega⟩
    obtain ⟨V, hr, hl⟩ := h.rep
    by_cases hf : room ≤ (X k).length
    · have hE : putE room X k = 3 := by simp [putE, hc, hf]
      refine (put_full g k vb w (by omega) hr hf (hL k (by omega)).1 (hL k (by omega)).2).mono ?_
      rintro e w' ⟨rfl, n, rfl⟩
      obtain ⟨cur, hb0, hs, hc0, hc1, hc2⟩ := hr.blk
      have e4 : Step (fun j => j = g) w ((w.setCell ⟨g, 9 + k, none⟩ (.int .i64 (L k + 1))).drewN n) :=
        (Step.setCell (S := fun j => j = g) (Step.refl _ w) (p := ⟨g, 9 + k, none⟩) (fun _ => rfl) _).drewN n
      have hown : ∀ j, j = g → Own Q w j := by rintro j rfl; exact ⟨h.base, _, _, hb0, .inl rfl⟩
      have hX : ∀ d, putX room X (k : Int) bs d = X d := fun d => by simp [putX, hE]
      refine ⟨by rw [hE], ⟨⟨V, ⟨⟨cur.setIfInBounds (9 + k) (.int .i64 (L k + 1)), blk_set hb0 _ _, by simpa using hs, ?_, ?_, ?_⟩, fun d hd => ?_, hr.apart⟩, hl⟩, h.base, fun d hd => by rw [hX]; exact h.few d hd⟩, e4.mono fun j _ s => hown j s⟩
      · rw [Array.getElem?_setIfInBounds_ne (by omega)]; exact hc0
      · intro d hd
        rw [Array.getElem?_setIfInBounds_ne (by omega)]; exact hc1 d hd
      · intro d hd
        by_cases e : d = k
        · subst e
          rw [Array.getElem?_setIfInBounds_self_of_lt (by omega)]
          simp [putL, hE]
        · rw [Array.getElem?_setIfInBounds_ne (by omega), hc2 d hd]
          simp [putL, hE, e]
      · rw [hX]
        obtain ⟨xs, hx, hel⟩ := hr.rows d hd
        refine ⟨xs, hx.step e4 fun j hj => by rintro rfl; exact hx.ne hb0 (by decide) hj, fun j l hj => ?_⟩
        obtain ⟨u, hu, he⟩ := hel j l hj
        exact ⟨u, hu, he.step e4 fun i hi => by rintro rfl; exact he.row.ne hb0 (by decide) hi⟩
    · have hE : putE room X k = 0 := by simp [putE, hc, hf]
      refine (put_ok g k vb bs w (by omega) hr hB hb (by omega) hroom).mono ?_
      rintro e w' ⟨rfl, ⟨v, hrep, hlv⟩, hst⟩
      obtain ⟨cur, hb0, -⟩ := hr.blk
      refine ⟨by rw [hE], ⟨⟨_, hrep.congr (fun _ _ => rfl) (X' := putX room X k bs) (fun d _ => ?_) (L' := putL room X L k) (fun d _ => ?_), fun d hd j hj => ?_⟩, h.base, fun d hd => ?_⟩, hst.mono fun j _ s => ?_⟩
      · by_cases e : d = k
        · simp [putX, hE, e]
        · simp [putX, hE, e]
      · simp [putL, hE]
      · by_cases e : d = k
        · simp only [e, if_true] at hj
          rcases hlv j hj with h2 | h2
          · exact hl k (by omega) j h2
          · omega
        · simp only [e, if_false] at hj
          exact hl d hd j hj
      · by_cases e : d = k
        · simp [putX, hE, e]; omega
        · simp [putX, hE, e]; exact h.few d hd
      · rcases s with rfl | s
        · exact ⟨h.base, _, _, hb0, .inl rfl⟩
        · obtain ⟨xs, hx, -⟩ := hr.rows k (by omega)
          obtain ⟨cs, hcs⟩ := hx.typed s
          exact ⟨hl k (by omega) j s, _, _, hcs, .inr rfl⟩
  · have hE : putE room X c = 1 := by simp only [putE]; rw [if_neg hc]
    refine (put_bad g c vb w hc).mono ?_
    rintro e w' ⟨rfl, rfl⟩
    refine ⟨by rw [hE], ?_, Step.refl _ _⟩
    obtain ⟨V, hr, hl⟩ := h.rep
    exact ⟨⟨V, hr.congr (fun _ _ => rfl) (fun d _ => by simp [putX, hE]) (fun d _ => by simp [putL, hE]), hl⟩, h.base, fun d hd => by simp [putX, hE]; exact h.few d hd⟩

/-- Class c is the greatest of which something waits. -/
def Top (X : Nat → List (List Int)) (c : Nat) : Prop := c < 8 ∧ ∀ d, c < d → d < 8 → X d = []

theorem top_or (X : Nat → List (List Int)) : (∀ c, c < 8 → X c = []) ∨ ∃ c b rest, Top X c ∧ X c = b :: rest := by
  have : ∀ n, n ≤ 8 → (∀ c, n ≤ c → c < 8 → X c = []) → (∀ c, c < 8 → X c = []) ∨ ∃ c b rest, Top X c ∧ X c = b :: rest := by
    intro n
    induction n with
    | zero => intro _ h; exact .inl fun c hc => h c (Nat.zero_le _) hc
    | succ n ih =>
      intro hn h
      cases hx : X n with
      | nil =>
        refine ih (by omega) fun c hc1 hc2 => ?_
        by_cases e : c = n
        · rw [e]; exact hx
        · exact h c (by omega) hc2
      | cons b rest => exact .inr ⟨n, b, rest, ⟨by omega, fun d h1 h2 => h d (by omega) h2⟩, hx⟩
  exact this 8 (Nat.le_refl _) fun c h1 h2 => by omega

def getX (X : Nat → List (List Int)) (c : Nat) (rest : List (List Int)) : Nat → List (List Int) := fun d => if d = c then rest else X d

theorem get_st (g : Nat) (w : World) {B Q : Nat} {room : Int} {X : Nat → List (List Int)} {L : Nat → Int} (h : QSt w B Q g room X L) {c : Nat} {b : List Int} {rest : List (List Int)} (ht : Top X c) (hX : X c = b :: rest) :
    Calls Try.prog 11 #[.pointer (some ⟨g, 0, none⟩)] w fun e w' => ∃ u, e = .returned (.tuple #[.int .i64 c, u, .bool true]) ∧ El w' B u b ∧ QSt w' B Q g room (getX X c rest) L ∧ Step (Own Q w) w w' := by
  obtain ⟨V, hr, hl⟩ := h.rep
  have hf := h.few c ht.1
  rw [hX] at hf
  simp at hf
  refine (get_some g w hr ht.1 hX (by omega) ht.2).mono ?_
  rintro e w' ⟨u, rfl, ⟨v, hrep, hlv⟩, hst, hgot⟩
  obtain ⟨cur, hb0, -⟩ := hr.blk
  refine ⟨u, rfl, hgot, ⟨⟨_, hrep, fun d hd j hj => ?_⟩, h.base, fun d hd => ?_⟩, hst.mono fun j _ s => ?_⟩
  · by_cases e : d = c
    · simp only [e, if_true] at hj
      exact hl c ht.1 j (hlv j hj)
    · simp only [e, if_false] at hj
      exact hl d hd j hj
  · by_cases e : d = c
    · simp [getX, e]; omega
    · simp [getX, e]; exact h.few d hd
  · subst s
    exact ⟨h.base, _, _, hb0, .inl rfl⟩
theorem get_st_none (g : Nat) (w : World) {B Q : Nat} {room : Int} {X : Nat → List (List Int)} {L : Nat → Int} (h : QSt w B Q g room X L) (hx : ∀ c, c < 8 → X c = []) :
    Calls Try.prog 11 #[.pointer (some ⟨g, 0, none⟩)] w fun e w' => e = .returned (.tuple #[.int .i64 0, .slice none 0 0, .bool false]) ∧ w = w' := by
  obtain ⟨V, hr, -⟩ := h.rep
  exact get_none g w hr hx
theorem clear_st (g : Nat) (w : World) {B Q : Nat} {room : Int} {X : Nat → List (List Int)} {L : Nat → Int} (h : QSt w B Q g room X L) :
    Calls Try.prog 18 #[.pointer (some ⟨g, 0, none⟩)] w fun e w' => e = .returned (.int .i64 (total X 8)) ∧ QSt w' B Q g room (fun _ => []) L ∧ Step (Own Q w) w w' := by
  obtain ⟨V, hr, hl⟩ := h.rep
  obtain ⟨cur, hb0, -⟩ := hr.blk
  refine (clear_any g w hr h.few).mono ?_
  rintro e w' ⟨rfl, hrep, hst⟩
  refine ⟨rfl, ⟨⟨_, hrep.congr (fun _ _ => rfl) (fun d hd => by simp [hd]) (fun _ _ => rfl), fun d hd k hk => ?_⟩, h.base, fun _ _ => by simp⟩, hst.mono fun j _ s => ?_⟩
  · simp [hd, Leads, Value.ownBlock] at hk
  · subst s
    exact ⟨h.base, _, _, hb0, .inl rfl⟩

end Go.Proofs.Ytboaelkpmfagfaa
