/- RolesLinks, in plain words: turn by turn. -/
import Derived.Test.YtehlaomippbehaaS1
import Derived.Test.YtehlaomippbehaaRA
namespace Go.Proofs.Ytehlaomippbehaa
open Go.RowKit Go.Gm

/-! Lists that are changed place by place. -/
def mixL (f g : Nat → Hrd) (i n : Nat) : List Hrd := (List.range n).map fun k => if k < i then f k else g k
theorem mixL_len (f g : Nat → Hrd) (i n : Nat) : (mixL f g i n).length = n := by simp [mixL]
theorem mixL_get {f g : Nat → Hrd} {i n k : Nat} (h : k < n) : (mixL f g i n)[k]? = some (if k < i then f k else g k) := by simp [mixL, h]
theorem mixL_here {f g : Nat → Hrd} {i n : Nat} (h : i < n) : (mixL f g i n)[i]? = some (g i) := by rw [mixL_get h, if_neg (Nat.lt_irrefl i)]
theorem mixL_zero (f g : Nat → Hrd) (n : Nat) : mixL f g 0 n = (List.range n).map g := by simp [mixL]
theorem mixL_all (f g : Nat → Hrd) (n : Nat) : mixL f g n n = (List.range n).map f := List.map_congr_left fun k hk => by rw [if_pos (by simpa using hk)]
theorem mixL_set {f g : Nat → Hrd} {i n : Nat} (h : i < n) : (mixL f g i n).set i (f i) = mixL f g (i + 1) n := by
  apply List.ext_getElem?
  intro k
  rw [List.getElem?_set]
  by_cases hk : k < n
  · by_cases e : i = k
    · subst e
      rw [if_pos rfl, mixL_get h, if_pos (Nat.lt_succ_self i), mixL_len, if_pos h]
    · rw [if_neg e, mixL_get hk, mixL_get hk]
      by_cases h1 : k < i
      · rw [if_pos h1, if_pos (by omega)]
      · rw [if_neg h1, if_neg (by omega)]
  · rw [if_neg (by omega), List.getElem?_eq_none (by rw [mixL_len]; omega), List.getElem?_eq_none (by rw [mixL_len]; omega)]
theorem mixL_same {f g : Nat → Hrd} {i n : Nat} (h : g i = f i) : mixL f g i n = mixL f g (i + 1) n := by
  refine List.map_congr_left fun k _ => ?_
  by_cases h1 : k < i
  · rw [if_pos h1, if_pos (by omega)]
  · rw [if_neg h1]
    by_cases e : k = i
    · subst e
      rw [if_pos (Nat.lt_succ_self k), h]
    · rw [if_neg (by omega)]

/-- A port that hears v. -/
def Hrd.hear (x : Hrd) (v : Vec) : Hrd := { x with has := true, v := v }

/-- What stands at the end. -/
structure Fin (n : Nat) (xs ys : List Int) : Prop where
  lx : xs.length = n
  ly : ys.length = n
  one : ∃ r, r < n ∧ ∀ i, i < n → ∃ p q, xs[i]? = some p ∧ ys[i]? = some q ∧ ((p = 2 ∧ q ≠ 2) ∨ (p ≠ 2 ∧ q = 2)) ∧ ((p = 1 ∨ q = 1) ↔ i = r)

/-- What a turn finds and does; g, h: what the two have heard; u, v: what they hear behind it. -/
structure Turn (a b : Idn) (n : Nat) (k : Nat) (u v g h : Nat → Hrd) : Prop where
  fa : fairOf ((List.range n).map g) = 0
  fb : fairOf ((List.range n).map h) = 0
  toB : ∀ i, i < n → ∃ p, (rolesOf a ((List.range n).map g))[i]? = some p ∧ (p = 2 → (h i).hear (offerV a (bestOf a ((List.range n).map g)) (i + 1)) = v i) ∧ (p ≠ 2 → h i = v i)
  toA : ∀ i, i < n → ∃ p, (rolesOf b ((List.range n).map h))[i]? = some p ∧ (p = 2 → (g i).hear (offerV b (bestOf b ((List.range n).map h)) (i + 1)) = u i) ∧ (p ≠ 2 → g i = u i)
  fin : 0 < k → Fin n (rolesOf a ((List.range n).map g)) (rolesOf b ((List.range n).map h))

theorem deafL_map (cs : List Int) : deafL cs = (List.range cs.length).map fun i => lnk (cs.getD i 0) i := rfl
theorem hearL_map (o : Idn) (cs : List Int) : hearL o cs = (List.range cs.length).map fun i => lnkH o (cs.getD i 0) i := rfl

theorem turn_first {a b : Idn} {cs : List Int} (h : okC cs) : Turn a b cs.length 0 (fun i => lnkH b (cs.getD i 0) i) (fun i => lnkH a (cs.getD i 0) i) (fun i => lnk (cs.getD i 0) i) (fun i => lnk (cs.getD i 0) i) := by
  refine ⟨fair_deaf h, fair_deaf h, fun i hi => ⟨2, ?_, fun _ => ?_, fun e => absurd rfl e⟩, fun i hi => ⟨2, ?_, fun _ => ?_, fun e => absurd rfl e⟩, fun h => absurd h (by omega)⟩
  · rw [← deafL_map, deaf_roles h]; simp [hi]
  · rw [← deafL_map, deaf_best h]; rfl
  · rw [← deafL_map, deaf_roles h]; simp [hi]
  · rw [← deafL_map, deaf_best h]; rfl
theorem fin_of {cs : List Int} {r : Nat} (hr : r < cs.length) {xs ys : List Int} (hx : xs = List.replicate cs.length 2) (hy : ys = (List.range cs.length).map fun i => if i = r then (1 : Int) else 3) : Fin cs.length xs ys ∧ Fin cs.length ys xs := by
  subst hx hy
  refine ⟨⟨by simp, by simp, r, hr, fun i hi => ⟨2, if i = r then 1 else 3, by simp [hi], by simp [hi], .inl ⟨rfl, by split <;> decide⟩, ?_⟩⟩,
    ⟨by simp, by simp, r, hr, fun i hi => ⟨if i = r then 1 else 3, 2, by simp [hi], by simp [hi], .inr ⟨by split <;> decide, rfl⟩, ?_⟩⟩⟩
  · by_cases e : i = r <;> simp [e]
  · by_cases e : i = r <;> simp [e]
theorem turn_later {a b : Idn} {cs : List Int} (h : okC cs) (hn : 0 < cs.length) (hab : lex a.flat b.flat ≠ 0) (k : Nat) : Turn a b cs.length k (fun i => lnkH b (cs.getD i 0) i) (fun i => lnkH a (cs.getD i 0) i) (fun i => lnkH b (cs.getD i 0) i) (fun i => lnkH a (cs.getD i 0) i) := by
  have h0 := lex_neg a.flat b.flat
  rcases Int.lt_or_gt_of_ne hab with hl | hl
  · obtain ⟨r, hr, hy⟩ := better_roles (me := b) (o := a) h hn hl
    have hx := worse_roles (me := a) (o := b) h hl
    have hB := worse_best (me := a) (o := b) h hl
    rw [hearL_map] at hx hy hB
    refine ⟨fair_hear h, fair_hear h, fun i hi => ⟨2, by rw [hx]; simp [hi], fun _ => by rw [hB]; rfl, fun e => absurd rfl e⟩, fun i hi => ⟨if i = r then 1 else 3, by rw [hy]; simp [hi], fun e => absurd e (by split <;> decide), fun _ => rfl⟩, fun _ => (fin_of hr hx hy).1⟩
  · have hl' : lex b.flat a.flat < 0 := by omega
    obtain ⟨r, hr, hy⟩ := better_roles (me := a) (o := b) h hn hl'
    have hx := worse_roles (me := b) (o := a) h hl'
    have hB := worse_best (me := b) (o := a) h hl'
    rw [hearL_map] at hx hy hB
    refine ⟨fair_hear h, fair_hear h, fun i hi => ⟨if i = r then 1 else 3, by rw [hy]; simp [hi], fun e => absurd e (by split <;> decide), fun _ => rfl⟩, fun i hi => ⟨2, by rw [hx]; simp [hi], fun _ => by rw [hB]; rfl, fun e => absurd rfl e⟩, fun _ => (fin_of hr hx hy).2⟩

/-- How many root ports are among the first k. -/
def oneIf (k r : Nat) : Int := if r < k then 1 else 0
theorem oneIf_zero (r : Nat) : oneIf 0 r = 0 := by simp [oneIf]
theorem oneIf_at {k r : Nat} (h : k = r) : oneIf (k + 1) r = oneIf k r + 1 := by subst h; simp [oneIf]
theorem oneIf_off {k r : Nat} (h : ¬ k = r) : oneIf (k + 1) r = oneIf k r := by
  unfold oneIf
  by_cases e : r < k
  · rw [if_pos e, if_pos (by omega)]
  · rw [if_neg e, if_neg (by omega)]
theorem oneIf_rng (k r : Nat) : 0 ≤ oneIf k r ∧ oneIf k r ≤ 1 := by unfold oneIf; split <;> omega
theorem oneIf_end {n r : Nat} (h : r < n) : oneIf n r = 1 := by rw [oneIf, if_pos h]

end Go.Proofs.Ytehlaomippbehaa
