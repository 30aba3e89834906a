/- The set of ports: plain laws. -/
import Derived.Test.YtehlaomippbehaaR2
import Derived.Maps.OwnSet
import Derived.Maps.Views
namespace Go.Proofs.Ytehlaomippbehaa
open Go.RowKit Go.Gm Go.Maps

/-- Those that are there once. -/
def oncE : List Int → List Int → List Int
  | acc, [] => acc
  | acc, x :: xs => if acc.contains x then oncE acc xs else oncE (acc ++ [x]) xs
theorem once_le : ∀ (xs acc : List Int), (oncE acc xs).length ≤ acc.length + xs.length
  | [], acc => by simp [oncE]
  | x :: xs, acc => by
    rw [oncE]
    split
    · have := once_le xs acc
      simp; omega
    · have := once_le xs (acc ++ [x])
      simp at this ⊢; omega
theorem once_full : ∀ (xs acc : List Int), (oncE acc xs).length = acc.length + xs.length ↔ xs.Nodup ∧ ∀ x ∈ xs, x ∉ acc
  | [], acc => by simp [oncE]
  | x :: xs, acc => by
    rw [oncE]
    split
    · rename_i h
      have h' : x ∈ acc := by simpa using h
      have := once_le xs acc
      constructor
      · intro e; simp at e; omega
      · intro e; exact absurd h' (e.2 x (by simp))
    · rename_i h
      have h' : x ∉ acc := by simpa using h
      have ih := once_full xs (acc ++ [x])
      have e : ((oncE (acc ++ [x]) xs).length = acc.length + (x :: xs).length) ↔ ((oncE (acc ++ [x]) xs).length = (acc ++ [x]).length + xs.length) := by simp; omega
      rw [e, ih, List.nodup_cons]
      constructor
      · rintro ⟨h1, h2⟩
        refine ⟨⟨fun hx => ?_, h1⟩, fun y hy => ?_⟩
        · exact h2 x hx (by simp)
        · rcases List.mem_cons.1 hy with rfl | hy
          · exact h'
          · exact fun ha => h2 y hy (by simp [ha])
      · rintro ⟨⟨h1, h2⟩, h3⟩
        refine ⟨h2, fun y hy ha => ?_⟩
        rcases List.mem_append.1 ha with ha | ha
        · exact h3 y (by simp [hy]) ha
        · simp at ha
          subst ha
          exact h1 hy
theorem any_lit (x : Int) : ∀ l : List Int, ((l.map (Lit.int .i64)).any fun y => y.sameKey (.int .i64 x)) = l.contains x
  | [] => rfl
  | a :: r => by
    rw [List.map_cons, List.any_cons, List.contains_cons, any_lit x r]
    congr 1
    show decide (IntKind.i64 = IntKind.i64 ∧ a = x) = (x == a)
    by_cases e : a = x
    · subst e
      simp
    · have e' : ¬ x = a := fun h => e h.symm
      simp [e, e']
theorem fold_once : ∀ (xs acc : List Int), (xs.map (Lit.int .i64)).foldl addKey (acc.map (Lit.int .i64)) = (oncE acc xs).map (Lit.int .i64)
  | [], acc => rfl
  | x :: xs, acc => by
    rw [List.map_cons, List.foldl_cons, oncE, addKey, any_lit]
    split
    · exact fold_once xs acc
    · rw [show acc.map (Lit.int .i64) ++ [Lit.int .i64 x] = (acc ++ [x]).map (Lit.int .i64) by simp]
      exact fold_once xs (acc ++ [x])

def portKeys (l : List Hrd) (k : Nat) : List Lit := ((l.take k).map Hrd.port).map (Lit.int .i64)
/-- The set of the first k ports. -/
def portSet {H : Type} (l : List Hrd) (k : Nat) : DataW H := setOf (.lit (.bool true)) (portKeys l k)
theorem portSet_zero {H : Type} (l : List Hrd) : portSet (H := H) l 0 = .map [] := by simp [portSet, portKeys, setOf]
theorem portSet_succ {H : Type} (l : List Hrd) (k : Nat) (x : Hrd) (hx : l[k]? = some x) : portSet (H := H) l (k + 1) = (portSet l k).put (.int .i64 x.port) (.lit (.bool true)) := by
  unfold portSet
  rw [← setOf_snoc]
  congr 1
  unfold portKeys
  rw [List.take_add_one, hx]
  simp
theorem portSet_size {H : Type} (l : List Hrd) : Maps.size (portSet (H := H) l l.length) ≤ l.length ∧ ((Maps.size (portSet (H := H) l l.length) = l.length) ↔ (l.map Hrd.port).Nodup) := by
  unfold portSet
  rw [size_setOf _ _ fun y hy => by obtain ⟨_, _, rfl⟩ := List.mem_map.1 hy; trivial]
  have h := fold_once (l.map Hrd.port) []
  rw [List.map_nil] at h
  rw [show portKeys l l.length = (l.map Hrd.port).map (Lit.int .i64) by simp [portKeys], h, List.length_map]
  have h1 := once_le (l.map Hrd.port) []
  have h2 := once_full (l.map Hrd.port) []
  simp at h1 h2
  exact ⟨h1, h2⟩

/-- Is one of the first k bad? -/
def badK (l : List Hrd) (k : Nat) : Bool := (l.take k).any Hrd.bad
theorem badK_succ {l : List Hrd} {k : Nat} {x : Hrd} (hx : l[k]? = some x) : badK l (k + 1) = (badK l k || x.bad) := by
  unfold badK
  rw [List.take_add_one, hx]
  simp
theorem badK_bad {l : List Hrd} {k : Nat} {x : Hrd} (hx : l[k]? = some x) (hb : x.bad = true) (h64 : l.length ≤ 64) : fairOf l = 1 := by
  have : l.any Hrd.bad = true := List.any_eq_true.2 ⟨x, List.mem_of_getElem? hx, hb⟩
  rw [fairOf, if_neg (by omega), if_pos this]
theorem fairOf_many {l : List Hrd} (h : 64 < l.length) : fairOf l = 1 := by rw [fairOf, if_pos h]
theorem fairOf_size {l : List Hrd} {H : Type} (h64 : l.length ≤ 64) (hb : badK l l.length = false) : fairOf l = if Maps.size (portSet (H := H) l l.length) < l.length then 5 else 0 := by
  have hb' : ¬ l.any Hrd.bad = true := by
    unfold badK at hb
    rw [List.take_length] at hb
    rw [hb]; decide
  obtain ⟨h1, h2⟩ := portSet_size (H := H) l
  rw [fairOf, if_neg (by omega), if_neg hb']
  by_cases hn : (l.map Hrd.port).Nodup
  · rw [if_pos hn, if_neg (by have := h2.2 hn; omega)]
  · rw [if_neg hn, if_pos (by have : ¬ _ = _ := fun e => hn (h2.1 e); omega)]
end Go.Proofs.Ytehlaomippbehaa
