/- The queue and the document's queue side by side. -/
import Derived.Test.YtboaelkpmfagfaaW14
namespace Go.Proofs.Ytboaelkpmfagfaa
open Go.RowKit Go.Gm

structure Link (X : Nat → List (List Int)) (W : List (Int × List Int)) : Prop where
  each : ∀ c, c < 8 → X c = (W.filter fun p => p.1 == (c : Int)).map Prod.snd
  range : ∀ p ∈ W, 0 ≤ p.1 ∧ p.1 < 8

theorem Link.nil : Link (fun _ => []) [] := ⟨fun _ _ => rfl, by simp⟩

theorem Link.len {X : Nat → List (List Int)} {W : List (Int × List Int)} (h : Link X W) (c : Int) : lenE X c = cnt W c := by
  by_cases hc : 0 ≤ c ∧ c < 8
  · obtain ⟨k, rfl⟩ : ∃ k : Nat, c = k := ⟨c.toNat, by omega⟩
    rw [lenE_nat X (by omega), h.each k (by omega)]
    simp [cnt]
  · simp only [lenE]
    rw [if_neg hc]
    have : (W.filter fun p => p.1 == c) = [] := by
      rw [List.filter_eq_nil_iff]
      intro p hp he
      have := h.range p hp
      simp at he
      omega
    simp [cnt, this]

theorem total_filter {X : Nat → List (List Int)} {W : List (Int × List Int)} (h : Link X W) : ∀ k, k ≤ 8 → total X k = (W.filter fun p => decide (p.1 < (k : Int))).length
  | 0, _ => by
    have : (W.filter fun p => decide (p.1 < ((0 : Nat) : Int))) = [] := by
      rw [List.filter_eq_nil_iff]
      intro p hp he
      have := h.range p hp
      simp at he
      omega
    rw [this]; rfl
  | k + 1, hk => by
    rw [total, total_filter h k (by omega), h.each k (by omega), List.length_map]
    clear h hk
    induction W with
    | nil => rfl
    | cons p W ih =>
      simp only [List.filter_cons]
      by_cases h1 : p.1 < (k : Int)
      · have h2 : p.1 < ((k + 1 : Nat) : Int) := by omega
        have h3 : (p.1 == (k : Int)) = false := by simp; omega
        simp only [h1, h2, h3, decide_true, if_true, Bool.false_eq_true, if_false, List.length_cons]
        omega
      · by_cases h4 : p.1 = (k : Int)
        · have h2 : p.1 < ((k + 1 : Nat) : Int) := by omega
          have h3 : (p.1 == (k : Int)) = true := by simpa using h4
          simp only [h1, h2, h3, decide_true, decide_false, if_true, Bool.false_eq_true, if_false, List.length_cons]
          omega
        · have h2 : ¬ p.1 < ((k + 1 : Nat) : Int) := by omega
          have h3 : (p.1 == (k : Int)) = false := by simpa using h4
          simp only [h1, h2, h3, decide_false, Bool.false_eq_true, if_false]
          exact ih

theorem Link.total {X : Nat → List (List Int)} {W : List (Int × List Int)} (h : Link X W) : total X 8 = W.length := by
  rw [total_filter h 8 (Nat.le_refl _), List.filter_eq_self.2]
  intro p hp
  have := h.range p hp
  simp
  omega

theorem Link.put {X : Nat → List (List Int)} {W : List (Int × List Int)} {room : Int} (h : Link X W) {c : Nat} (hc : c < 8) (bs : List Int) (hE : putE room X c = 0) : Link (putX room X c bs) (W ++ [((c : Int), bs)]) := by
  refine ⟨fun d hd => ?_, fun p hp => ?_⟩
  · rw [List.filter_append, List.map_append, ← h.each d hd]
    by_cases e : d = c
    · subst e
      simp [putX, hE]
    · have : ((c : Int) == (d : Int)) = false := by simp; omega
      simp [putX, e, this]
  · rcases List.mem_append.1 hp with hp | hp
    · exact h.range p hp
    · simp at hp
      subst hp
      exact ⟨by omega, by simp; omega⟩

theorem Link.same {X : Nat → List (List Int)} {W : List (Int × List Int)} {room c : Int} (h : Link X W) (bs : List Int) (hE : putE room X c ≠ 0) : Link (putX room X c bs) W := by
  have : putX room X c bs = X := by funext d; simp [putX, hE]
  rw [this]; exact h

theorem best_any {W : List (Int × List Int)} : ∀ k, 1 ≤ k → k ≤ W.length → ∃ j, Best W k j
  | 1, _, h => ⟨0, Best.first (by omega)⟩
  | k + 2, _, h => by
    obtain ⟨j, hj⟩ := best_any (W := W) (k + 1) (by omega) (by omega)
    obtain ⟨p, hp, -⟩ := id hj
    by_cases hlt : p.1 < (W[k + 1]'(by omega)).1
    · exact ⟨_, hj.more hp (q := W[k + 1]'(by omega)) (by simp) hlt⟩
    · exact ⟨_, hj.same hp (q := W[k + 1]'(by omega)) (by simp) hlt⟩

theorem Link.best {X : Nat → List (List Int)} {W : List (Int × List Int)} (h : Link X W) {j : Nat} (hb : Best W W.length j) :
    ∃ (c : Nat) (b : List Int) (rest : List (List Int)), W[j]? = some ((c : Int), b) ∧ Top X c ∧ X c = b :: rest ∧ Link (getX X c rest) (W.take j ++ W.drop (j + 1)) := by
  obtain ⟨⟨ci, b⟩, hp, hj, h1, h2⟩ := hb
  have hr := h.range _ (List.mem_of_getElem? hp)
  obtain ⟨c, rfl⟩ : ∃ c : Nat, ci = c := ⟨ci.toNat, by simp at hr; omega⟩
  have hc : c < 8 := by simp at hr; omega
  have hsplit : W = W.take j ++ ((c : Int), b) :: W.drop (j + 1) := by
    have hg : W[j]'hj = ((c : Int), b) := by
      rw [List.getElem?_eq_getElem hj] at hp
      exact Option.some.inj hp
    rw [← hg, List.getElem_cons_drop, List.take_append_drop]
  have hpre : (W.take j).filter (fun p => p.1 == (c : Int)) = [] := by
    rw [List.filter_eq_nil_iff]
    intro p hm he
    obtain ⟨i, hi⟩ := List.getElem?_of_mem hm
    have hij : i < j := by
      rcases Nat.lt_or_ge i j with h | h
      · exact h
      · rw [List.getElem?_eq_none (by simp; omega)] at hi; cases hi
    rw [List.getElem?_take_of_lt hij] at hi
    have := h1 i p hij hi
    simp at he this
    omega
  have hX : X c = b :: ((W.drop (j + 1)).filter fun p => p.1 == (c : Int)).map Prod.snd := by
    rw [h.each c hc]
    conv => lhs; rw [hsplit]
    rw [List.filter_append, hpre]
    simp
  refine ⟨c, b, _, hp, ⟨hc, fun d hd hd8 => ?_⟩, hX, ⟨fun d hd => ?_, fun p hp => ?_⟩⟩
  · rw [h.each d hd8]
    have : (W.filter fun p => p.1 == (d : Int)) = [] := by
      rw [List.filter_eq_nil_iff]
      intro p hm he
      obtain ⟨i, hi⟩ := List.getElem?_of_mem hm
      have hil : i < W.length := by
        rcases Nat.lt_or_ge i W.length with h | h
        · exact h
        · rw [List.getElem?_eq_none h] at hi; cases hi
      have := h2 i p hil hi
      simp at he this
      omega
    rw [this]; rfl
  · rw [List.filter_append, List.map_append]
    by_cases e : d = c
    · subst e
      rw [hpre]
      simp [getX]
    · simp only [getX, e, if_false]
      rw [h.each d hd]
      conv => lhs; rw [hsplit]
      have : ((c : Int) == (d : Int)) = false := by simp; omega
      rw [List.filter_append, List.filter_cons]
      simp only [this, Bool.false_eq_true, if_false, List.map_append]
  · refine h.range p ?_
    rw [hsplit]
    rcases List.mem_append.1 hp with hp | hp
    · exact List.mem_append_left _ hp
    · exact List.mem_append_right _ (List.mem_cons_of_mem _ hp)

theorem Link.empty {X : Nat → List (List Int)} (h : Link X []) : ∀ c, c < 8 → X c = [] := fun c hc => h.each c hc

end Go.Proofs.Ytboaelkpmfagfaa
