/- QueueSums. -/
import Derived.Test.YtboaelkpmfagfaaW7
namespace Go.Proofs.Ytboaelkpmfagfaa
open Go.RowKit Go.Gm

/-- What holds between two steps: of each class what was asked is got, waits, or is lost. -/
structure Sums (w wr : World) (Q gq ga gb : Nat) (room : Int) (k : Nat) (X : Nat → List (List Int)) (L A G : Nat → Int) : Prop where
  st : QSt wr 0 Q gq room X L
  asked : Eight wr ga A
  got : Eight wr gb G
  ne : ga ≠ gb
  base : w.heap.size ≤ Q ∧ w.heap.size ≤ ga ∧ w.heap.size ≤ gb
  law : ∀ c, c < 8 → A c = G c + (X c).length + L c ∧ ((X c).length : Int) ≤ room ∧ 0 ≤ L c ∧ L c ≤ k ∧ 0 ≤ G c ∧ G c ≤ k ∧ A c ≤ k
  below : Below w.heap.size w wr

theorem Sums.alloc {w wr : World} {Q gq ga gb : Nat} {room : Int} {k : Nat} {X : Nat → List (List Int)} {L A G : Nat → Int} (h : Sums w wr Q gq ga gb room k X L A G) (o : Obj) : Sums w (wr.alloc o) Q gq ga gb room k X L A G :=
  ⟨h.st.alloc o, h.asked.step ((Step.refl None _).alloc o) (fun s => s.elim), h.got.step ((Step.refl None _).alloc o) (fun s => s.elim), h.ne, h.base, h.law, h.below.alloc h.below.size o⟩
theorem Sums.later {w wr : World} {Q gq ga gb : Nat} {room : Int} {k : Nat} {X : Nat → List (List Int)} {L A G : Nat → Int} (h : Sums w wr Q gq ga gb room k X L A G) : Sums w wr Q gq ga gb room (k + 1) X L A G :=
  ⟨h.st, h.asked, h.got, h.ne, h.base, fun c hc => by have := h.law c hc; omega, h.below⟩
theorem Sums.drewN {w wr : World} {Q gq ga gb : Nat} {room : Int} {k : Nat} {X : Nat → List (List Int)} {L A G : Nat → Int} (h : Sums w wr Q gq ga gb room k X L A G) (n : Nat) : Sums w (wr.drewN n) Q gq ga gb room k X L A G :=
  ⟨h.st.step ((Step.refl None _).drewN n) (fun _ s => s.elim), h.asked.step ((Step.refl None _).drewN n) (fun s => s.elim), h.got.step ((Step.refl None _).drewN n) (fun s => s.elim), h.ne, h.base, h.law, (Step.toBelow (h.below.size |> fun _ => (Step.refl None wr).drewN n)).mono h.below.size |> h.below.trans⟩

/-- Put of something that is no class's. -/
theorem Sums.put_bad {w wr w4 : World} {Q gq ga gb : Nat} {room : Int} {k : Nat} {X : Nat → List (List Int)} {L A G : Nat → Int} (h : Sums w wr Q gq ga gb room k X L A G) {c : Int} {bs : List Int} (hc : ¬ (0 ≤ c ∧ c < 8))
    (q : QSt w4 0 Q gq room (putX room X c bs) (putL room X L c)) (s : Step (Own Q wr) wr w4) : Sums w w4 Q gq ga gb room (k + 1) X L A G := by
  have hE : putE room X c = 1 := by simp only [putE]; rw [if_neg hc]
  have hX : putX room X c bs = X := by funext d; simp [putX, hE]
  have hL : putL room X L c = L := by funext d; simp [putL, hE]
  rw [hX, hL] at q
  exact ⟨q, h.asked.own s, h.got.own s, h.ne, h.base, h.later.law, h.below.trans (s.belowOwn h.base.1 h.below.size)⟩

/-- Put of something that is a class's, and its count. -/
theorem Sums.put_ok {w wr w4 : World} {Q gq ga gb : Nat} {room : Int} {k : Nat} {X : Nat → List (List Int)} {L A G : Nat → Int} (h : Sums w wr Q gq ga gb room k X L A G) {c : Nat} {bs : List Int} (hc : c < 8)
    (q : QSt w4 0 Q gq room (putX room X c bs) (putL room X L c)) (s : Step (Own Q wr) wr w4) :
    Sums w (w4.setCell ⟨ga, c, none⟩ (.int .i64 (A c + 1))) Q gq ga gb room (k + 1) (putX room X c bs) (putL room X L c) (fun d => if d = c then A c + 1 else A d) G := by
  have ha := h.asked.own s
  have hg := h.got.own s
  have e4 : Step (fun j => j = ga) w4 (w4.setCell ⟨ga, c, none⟩ (.int .i64 (A c + 1))) := Step.setCell (S := fun j => j = ga) (Step.refl _ w4) (p := ⟨ga, c, none⟩) (fun _ => rfl) _
  obtain ⟨cur, hb, -⟩ := id ha
  refine ⟨q.step e4 ?_, ha.set hc _, hg.step e4 (fun e => h.ne e.symm), h.ne, h.base, fun d hd => ?_, (h.below.trans (s.belowOwn h.base.1 h.below.size)).setCell h.base.2.1 _⟩
  · rintro j rfl cs t hj
    rw [hb] at hj
    simp only [Option.some.injEq, Obj.cells.injEq] at hj
    obtain ⟨-, rfl, -⟩ := hj
    exact ⟨by decide, by decide, by intro; contradiction⟩
  · have h1 := h.law d hd
    have h2 := h.law c hc
    have hE : putE room X (c : Int) = if room ≤ (X c).length then 3 else 0 := by
      simp only [putE]; rw [if_pos (by omega)]; simp
    by_cases hf : room ≤ (X c).length
    · rw [if_pos hf] at hE
      by_cases e : d = c
      · subst e; simp [putX, putL, hE]; omega
      · simp [putX, putL, hE, e]; omega
    · rw [if_neg hf] at hE
      by_cases e : d = c
      · subst e; simp [putX, putL, hE]; omega
      · simp [putX, putL, hE, e]; omega

theorem Sums.get_ok {w wr w4 : World} {Q gq ga gb : Nat} {room : Int} {k : Nat} {X : Nat → List (List Int)} {L A G : Nat → Int} (h : Sums w wr Q gq ga gb room k X L A G) {c : Nat} {b : List Int} {rest : List (List Int)} (hc : c < 8) (hX : X c = b :: rest)
    (q : QSt w4 0 Q gq room (getX X c rest) L) (s : Step (Own Q wr) wr w4) :
    Sums w (w4.setCell ⟨gb, c, none⟩ (.int .i64 (G c + 1))) Q gq ga gb room (k + 1) (getX X c rest) L A (fun d => if d = c then G c + 1 else G d) := by
  have ha := h.asked.own s
  have hg := h.got.own s
  have e4 : Step (fun j => j = gb) w4 (w4.setCell ⟨gb, c, none⟩ (.int .i64 (G c + 1))) := Step.setCell (S := fun j => j = gb) (Step.refl _ w4) (p := ⟨gb, c, none⟩) (fun _ => rfl) _
  obtain ⟨cur, hb, -⟩ := id hg
  refine ⟨q.step e4 ?_, ha.step e4 (fun e => h.ne e), hg.set hc _, h.ne, h.base, fun d hd => ?_, (h.below.trans (s.belowOwn h.base.1 h.below.size)).setCell h.base.2.2 _⟩
  · rintro j rfl cs t hj
    rw [hb] at hj
    simp only [Option.some.injEq, Obj.cells.injEq] at hj
    obtain ⟨-, rfl, -⟩ := hj
    exact ⟨by decide, by decide, by intro; contradiction⟩
  · have h1 := h.law d hd
    have h2 := h.law c hc
    rw [hX] at h2
    simp at h2
    by_cases e : d = c
    · subst e
      rw [hX] at h1
      simp at h1
      simp [getX]; omega
    · simp [getX, e]; omega

end Go.Proofs.Ytboaelkpmfagfaa
