/- What one of two knows of links that both have a member of: plain. Of no program. -/
import Derived.Test.YthebgpbofjgcoaaDoorGm
namespace Go.Gm

structure Lk where
  up : Bool
  owed : Int
  down : Bool
structure Shk where
  ls : List Lk
  ses : Bool
  alone : Bool
/-- What is told: a note of a kind, a port, a state. -/
structure Tell where
  kind : Int
  port : Int
  state : Int
  deriving DecidableEq

namespace Lk
def cells (l : Lk) : List Value := [.bool l.up, .int .i64 l.owed, .bool l.down]
end Lk
def flatL : List Lk → List Value
  | [] => []
  | l :: r => l.cells ++ flatL r
theorem flatL_len : ∀ l : List Lk, (flatL l).length = l.length * 3
  | [] => rfl
  | x :: r => by rw [flatL, List.length_append, flatL_len r, List.length_cons]; show 3 + _ = _; omega
theorem flatL_get : ∀ (l : List Lk) (i : Nat) (x : Lk) (j : Nat), l[i]? = some x → j < 3 → (flatL l)[i * 3 + j]? = x.cells[j]?
  | [], i, x, j, hi, _ => by simp at hi
  | y :: r, 0, x, j, hi, hj => by
    simp only [List.getElem?_cons_zero, Option.some.injEq] at hi
    subst hi
    rw [flatL, List.getElem?_append_left (by show 0 * 3 + j < 3; omega), Nat.zero_mul, Nat.zero_add]
  | y :: r, i + 1, x, j, hi, hj => by
    rw [flatL, List.getElem?_append_right (by show 3 ≤ _; omega)]
    have : (i + 1) * 3 + j - y.cells.length = i * 3 + j := by show (i + 1) * 3 + j - 3 = _; omega
    rw [this]
    exact flatL_get r i x j (by simpa using hi) hj
theorem flatL_set : ∀ (l : List Lk) (i : Nat) (x y : Lk) (j : Nat) (v : Value), l[i]? = some x → j < 3 → x.cells.set j v = y.cells → (flatL l).set (i * 3 + j) v = flatL (l.set i y)
  | [], i, x, y, j, v, hi, _, _ => by simp at hi
  | z :: r, 0, x, y, j, v, hi, hj, he => by
    simp only [List.getElem?_cons_zero, Option.some.injEq] at hi
    subst hi
    rw [flatL, List.set_append_left _ _ (by show 0 * 3 + j < 3; omega), Nat.zero_mul, Nat.zero_add, he]
    rfl
  | z :: r, i + 1, x, y, j, v, hi, hj, he => by
    rw [flatL, List.set_append_right _ _ (by show 3 ≤ _; omega)]
    have : (i + 1) * 3 + j - z.cells.length = i * 3 + j := by show (i + 1) * 3 + j - 3 = _; omega
    rw [this, flatL_set r i x y j v (by simpa using hi) hj he]
    rfl

namespace Shk
def has (s : Shk) (n : Int) : Bool := decide (1 ≤ n) && decide (n ≤ (s.ls.length : Int))
def get (s : Shk) (n : Int) : Lk := s.ls.getD (n - 1).toNat ⟨false, 0, false⟩
def put (s : Shk) (n : Int) (l : Lk) : Shk := { s with ls := s.ls.set (n - 1).toNat l }
/-- What is told of a member. -/
def memb (s : Shk) (n : Int) : Shk × Tell :=
  let l := s.get n
  if l.up then (s.put n { l with owed := l.owed + 1 }, ⟨3, n, 1⟩) else (s, ⟨3, n, 0⟩)
def membs : Shk → List Int → Shk × List Tell
  | s, [] => (s, [])
  | s, n :: r => let x := s.memb n; let y := membs x.1 r; (y.1, x.2 :: y.2)
def stop (s : Shk) (serve : Bool) : Shk := ⟨s.ls.map fun l => ⟨l.up, 0, false⟩, false, serve⟩
def all (n : Nat) : List Int := (List.range n).map fun (i : Nat) => (i : Int) + 1
def start (s : Shk) : Shk × List Tell := membs { s.stop false with ses := true } (all s.ls.length)
def loc (s : Shk) (n : Int) (up : Bool) : Shk × List Tell × Int :=
  if s.has n then
    let t := s.put n { s.get n with up := up }
    if (s.get n).up = up then (t, [], 0)
    else if s.ses then let y := t.memb n; (y.1, [y.2], 0) else (t, [], 0)
  else (s, [], 1)
def take (s : Shk) (right : Bool) (kind port state : Int) : Shk × List Tell × Int :=
  if right = true ∧ (kind = 3 ∨ kind = 4) then
    if s.has port then
      if s.ses then
        let l := s.get port
        if kind = 4 then (s.put port { l with owed := max (l.owed - 1) 0 }, [], 0)
        else
          let t := s.put port { l with down := state == 0 }
          if state = 0 then (t, [], 0) else (t, [⟨4, port, 1⟩], 0)
      else (s, [], 6)
    else (s, [], 1)
  else (s, [], 2)
def serves (s : Shk) (n : Int) : Bool := s.has n && (s.get n).up && (if s.ses then (s.get n).owed == 0 else s.alone)
def blocked (s : Shk) (n : Int) : Bool := !s.has n || !s.ses || !(s.get n).down

/-- Within bounds. -/
structure Ok (s : Shk) (m : Int) : Prop where
  len : s.ls.length ≤ 63
  owed : ∀ l ∈ s.ls, 0 ≤ l.owed ∧ l.owed ≤ m
theorem has_nat {s : Shk} {n : Int} (h : s.has n = true) : ∃ k : Nat, n = (k : Int) + 1 ∧ k < s.ls.length := by
  simp only [has, Bool.and_eq_true, decide_eq_true_eq] at h
  exact ⟨(n - 1).toNat, by omega, by omega⟩
theorem get_nat {s : Shk} {k : Nat} (h : k < s.ls.length) : s.ls[k]? = some (s.get ((k : Int) + 1)) := by
  unfold get
  rw [show ((k : Int) + 1 - 1).toNat = k by omega, List.getD_eq_getElem?_getD, List.getElem?_eq_getElem h]
  rfl
theorem put_nat (s : Shk) (k : Nat) (l : Lk) : s.put ((k : Int) + 1) l = { s with ls := s.ls.set k l } := by
  unfold put
  rw [show ((k : Int) + 1 - 1).toNat = k by omega]
theorem put_len (s : Shk) (n : Int) (l : Lk) : (s.put n l).ls.length = s.ls.length := by simp [put]
theorem memb_len (s : Shk) (n : Int) : (s.memb n).1.ls.length = s.ls.length := by
  unfold memb
  simp only
  split
  · exact put_len _ _ _
  · rfl
theorem memb_ses (s : Shk) (n : Int) : (s.memb n).1.ses = s.ses ∧ (s.memb n).1.alone = s.alone := by
  unfold memb
  simp only
  split <;> exact ⟨rfl, rfl⟩
theorem membs_len : ∀ (l : List Int) (s : Shk), (membs s l).1.ls.length = s.ls.length
  | [], s => rfl
  | n :: r, s => by
    show (membs (s.memb n).1 r).1.ls.length = _
    rw [membs_len r, memb_len]
theorem membs_count : ∀ (l : List Int) (s : Shk), (membs s l).2.length = l.length
  | [], s => rfl
  | n :: r, s => by
    show (_ :: (membs (s.memb n).1 r).2).length = _
    rw [List.length_cons, membs_count r, List.length_cons]
theorem membs_app : ∀ (l : List Int) (n : Int) (s : Shk), membs s (l ++ [n]) = (((membs s l).1.memb n).1, (membs s l).2 ++ [((membs s l).1.memb n).2])
  | [], n, s => rfl
  | x :: r, n, s => by
    have := membs_app r n (s.memb x).1
    show ((membs (s.memb x).1 (r ++ [n])).1, (s.memb x).2 :: (membs (s.memb x).1 (r ++ [n])).2) = _
    rw [this]
    rfl
theorem Ok.put {s : Shk} {m : Int} (h : s.Ok m) (n : Int) {l : Lk} (hl : 0 ≤ l.owed ∧ l.owed ≤ m) : (s.put n l).Ok m := by
  refine ⟨by rw [put_len]; exact h.len, fun x hx => ?_⟩
  rcases List.mem_or_eq_of_mem_set hx with hx | rfl
  · exact h.owed x hx
  · exact hl
theorem Ok.get {s : Shk} {m : Int} (h : s.Ok m) (hm : 0 ≤ m) (n : Int) : 0 ≤ (s.get n).owed ∧ (s.get n).owed ≤ m := by
  unfold Shk.get
  rw [List.getD_eq_getElem?_getD]
  cases e : s.ls[(n - 1).toNat]? with
  | none => exact ⟨Int.le_refl _, hm⟩
  | some x => exact h.owed x (List.mem_of_getElem? e)
theorem Ok.mono {s : Shk} {m k : Int} (h : s.Ok m) (hk : m ≤ k) : s.Ok k := ⟨h.len, fun l hl => by have := h.owed l hl; omega⟩
theorem Ok.memb {s : Shk} {m : Int} (h : s.Ok m) (hm : 0 ≤ m) (n : Int) : (s.memb n).1.Ok (m + 1) := by
  unfold Shk.memb
  simp only
  have := h.get hm n
  split
  · exact (h.mono (by omega)).put n ⟨by show 0 ≤ (s.get n).owed + 1; omega, by show (s.get n).owed + 1 ≤ m + 1; omega⟩
  · exact h.mono (by omega)
theorem Ok.membs : ∀ (l : List Int) {s : Shk} {m : Int}, s.Ok m → 0 ≤ m → (Shk.membs s l).1.Ok (m + l.length)
  | [], s, m, h, _ => h.mono (by simp)
  | n :: r, s, m, h, hm => by
    have := Ok.membs r (h.memb hm n) (by omega)
    rw [List.length_cons]
    exact this.mono (by omega)
theorem Ok.stop {s : Shk} {m : Int} (h : s.Ok m) (hm : 0 ≤ m) (b : Bool) : (s.stop b).Ok m := by
  refine ⟨by unfold Shk.stop; simpa using h.len, fun l hl => ?_⟩
  obtain ⟨x, -, rfl⟩ := List.mem_map.1 hl
  exact ⟨Int.le_refl _, hm⟩
end Shk
end Go.Gm
