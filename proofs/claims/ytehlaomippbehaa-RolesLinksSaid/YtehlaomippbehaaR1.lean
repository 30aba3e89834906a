/- What ports have heard; the best way and the roles: plain laws. -/
import Derived.Test.YtehlaomippbehaaW6
namespace Go.Proofs.Ytehlaomippbehaa
open Go.RowKit Go.Gm

/-- What a port has heard. -/
structure Hrd where
  port : Int
  cost : Int
  up : Bool
  has : Bool
  v : Vec
instance : Inhabited Hrd := ⟨⟨0, 0, false, false, default⟩⟩
def Hrd.cells (h : Hrd) : Array Value := #[.int .i64 h.port, .int .i64 h.cost, .bool h.up, .bool h.has, .int .i64 h.v.r.p, .int .u8 h.v.r.m0, .int .u8 h.v.r.m1, .int .u8 h.v.r.m2, .int .u8 h.v.r.m3, .int .u8 h.v.r.m4, .int .u8 h.v.r.m5, .int .i64 h.v.c, .int .i64 h.v.b.p, .int .u8 h.v.b.m0, .int .u8 h.v.b.m1, .int .u8 h.v.b.m2, .int .u8 h.v.b.m3, .int .u8 h.v.b.m4, .int .u8 h.v.b.m5, .int .i64 h.v.p, .int .i64 h.v.o]

def Vec.own (v : Vec) (o : Int) : Vec := { v with o := o }
def Hrd.way (h : Hrd) : Vec := (h.v.add h.cost).own h.port
def Hrd.counts (h : Hrd) : Bool := h.up && h.has
def Hrd.bad (h : Hrd) : Bool := decide (h.port < 1) || decide (65535 < h.port) || decide (h.cost < 1) || decide (200000000 < h.cost)
def noIdn : Idn := ⟨0, 0, 0, 0, 0, 0, 0⟩
def noVec : Vec := ⟨noIdn, 0, noIdn, 0, 0⟩
/-- A bridge's own way. -/
def meV (me : Idn) : Vec := ⟨me, 0, me, 0, 0⟩
/-- May it be the way to the root? -/
def Hrd.goes (me : Idn) (h : Hrd) : Bool := h.counts && !(h.v.b.flat == me.flat)
def selStep (me : Idn) (s : Vec × Int) (i : Nat) (h : Hrd) : Vec × Int := if (h.goes me && decide (lex h.way.flat s.1.flat < 0)) = true then (h.way, (i : Int)) else s
def selK (me : Idn) (l : List Hrd) : Nat → Vec × Int
  | 0 => (meV me, -1)
  | k + 1 => selStep me (selK me l k) k (l.getD k default)
def offerV (me : Idn) (best : Vec) (port : Int) : Vec := ⟨best.r, best.c, me, port, 0⟩
def roleOf (me : Idn) (best : Vec) (root : Int) (i : Nat) (h : Hrd) : Int :=
  if h.up = false then 0 else if (i : Int) = root then 1 else if h.has = false ∨ 0 ≤ lex (h.v.own 0).flat (offerV me best h.port).flat then 2 else if h.v.b.flat = me.flat then 4 else 3
/-- The roles of the ports from i on. -/
def rolesFrom (me : Idn) (best : Vec) (root : Int) (l : List Hrd) (n : Nat) : List Int := (List.range n).map fun i => roleOf me best root i (l.getD i default)
def fairOf (l : List Hrd) : Int := if 64 < l.length then 1 else if l.any Hrd.bad = true then 1 else if (l.map Hrd.port).Nodup then 0 else 5
def bestOf (me : Idn) (l : List Hrd) : Vec := if fairOf l = 0 then (selK me l l.length).1 else noVec
def rolesOf (me : Idn) (l : List Hrd) : List Int := if fairOf l = 0 then rolesFrom me (selK me l l.length).1 (selK me l l.length).2 l l.length else []

theorem fairOf_rng (l : List Hrd) : fairOf l = 0 ∨ fairOf l = 1 ∨ fairOf l = 5 := by unfold fairOf; split <;> (try split) <;> (try split) <;> simp
theorem fairOf_zero {l : List Hrd} (h : fairOf l = 0) : l.length ≤ 64 ∧ (∀ x ∈ l, x.bad = false) ∧ (l.map Hrd.port).Nodup := by
  unfold fairOf at h
  split at h
  · omega
  · split at h
    · omega
    · split at h
      · rename_i h1 h2 h3
        refine ⟨by omega, fun x hx => ?_, h3⟩
        cases hb : x.bad
        · rfl
        · exact absurd (List.any_eq_true.2 ⟨x, hx, hb⟩) h2
      · omega
theorem rolesFrom_len (me : Idn) (best : Vec) (root : Int) (l : List Hrd) (n : Nat) : (rolesFrom me best root l n).length = n := by simp [rolesFrom]
theorem rolesFrom_get {me : Idn} {best : Vec} {root : Int} {l : List Hrd} {n i : Nat} (h : i < n) : (rolesFrom me best root l n)[i]? = some (roleOf me best root i (l.getD i default)) := by simp [rolesFrom, h]
theorem rolesFrom_succ (me : Idn) (best : Vec) (root : Int) (l : List Hrd) (n : Nat) : rolesFrom me best root l (n + 1) = rolesFrom me best root l n ++ [roleOf me best root n (l.getD n default)] := by
  simp [rolesFrom, List.range_succ]
theorem rolesOf_len (me : Idn) (l : List Hrd) : (rolesOf me l).length = if fairOf l = 0 then l.length else 0 := by
  unfold rolesOf
  split
  · exact rolesFrom_len _ _ _ _ _
  · rfl

theorem Idn.flat_inj {x y : Idn} (h : x.flat = y.flat) : x = y := by
  cases x; cases y
  simp [Idn.flat, Idn.mac] at h
  simp [h]
theorem Vec.flat_inj {x y : Vec} (h : x.flat = y.flat) : x = y := by
  obtain ⟨xr, xc, xb, xp, xo⟩ := x
  obtain ⟨yr, yc, yb, yp, yo⟩ := y
  have h1 : xr.flat = yr.flat ∧ xc = yc ∧ xb.flat = yb.flat ∧ xp = yp ∧ xo = yo := by
    simp [Vec.flat, Idn.flat, Idn.mac] at h
    simp [Idn.flat, Idn.mac, h]
  obtain ⟨h1, rfl, h2, rfl, rfl⟩ := h1
  rw [Idn.flat_inj h1, Idn.flat_inj h2]

/-- What was chosen of the first k. -/
structure Sel (me : Idn) (l : List Hrd) (k : Nat) (s : Vec × Int) : Prop where
  at_ : s.2 = -1 ∧ s.1 = meV me ∨ ∃ r : Nat, s.2 = r ∧ r < k ∧ (l.getD r default).goes me = true ∧ s.1 = (l.getD r default).way ∧ lex s.1.flat (meV me).flat < 0
  le : lex s.1.flat (meV me).flat ≤ 0
  best : ∀ j, j < k → (l.getD j default).goes me = true → lex s.1.flat (l.getD j default).way.flat ≤ 0

theorem sel_all (me : Idn) (l : List Hrd) : ∀ k, Sel me l k (selK me l k)
  | 0 => ⟨.inl ⟨rfl, rfl⟩, by rw [selK, lex_self]; omega, fun j hj => by omega⟩
  | k + 1 => by
    have ih := sel_all me l k
    rw [selK, selStep]
    split
    · rename_i h
      simp only [Bool.and_eq_true, decide_eq_true_eq] at h
      have t := lex_trans (show lex (l.getD k default).way.flat (selK me l k).1.flat ≤ 0 by omega) ih.le
      refine ⟨.inr ⟨k, rfl, by omega, h.1, rfl, t.2 (.inl h.2)⟩, t.1, fun j hj hg => ?_⟩
      by_cases e : j = k
      · subst e
        rw [lex_self]; omega
      · have := ih.best j (by omega) hg
        exact (lex_trans (show lex (l.getD k default).way.flat (selK me l k).1.flat ≤ 0 by omega) this).1
    · rename_i h
      refine ⟨?_, ih.le, fun j hj hg => ?_⟩
      · rcases ih.at_ with h1 | ⟨r, h1, h2, h3⟩
        · exact .inl h1
        · exact .inr ⟨r, h1, by omega, h3⟩
      · by_cases e : j = k
        · subst e
          have h' : ¬ lex (l.getD j default).way.flat (selK me l j).1.flat < 0 := fun hl => h (by rw [hg, decide_eq_true hl]; rfl)
          have := lex_neg (l.getD j default).way.flat (selK me l j).1.flat
          omega
        · exact ih.best j (by omega) hg

theorem goes_bridge {me : Idn} {h : Hrd} (hg : h.goes me = true) : h.up = true ∧ h.has = true ∧ h.v.b.flat ≠ me.flat := by
  simp only [Hrd.goes, Hrd.counts, Bool.and_eq_true, Bool.not_eq_true', beq_eq_false_iff_ne] at hg
  exact ⟨hg.1.1, hg.1.2, hg.2⟩
theorem selK_meV {me : Idn} {l : List Hrd} {k : Nat} : (selK me l k).2 = -1 ↔ (selK me l k).1 = meV me := by
  rcases (sel_all me l k).at_ with ⟨h1, h2⟩ | ⟨r, h1, h2, h3, h4, h5⟩
  · simp [h1, h2]
  · constructor
    · intro h; omega
    · intro h
      have := (goes_bridge h3).2.2
      rw [h4] at h
      have hb : (l.getD r default).v.b = me := congrArg Vec.b h
      exact absurd (congrArg Idn.flat hb) this

theorem lex_root_le {x y : Vec} (h : lex x.flat y.flat ≤ 0) : lex x.r.flat y.r.flat ≤ 0 := by
  have e : lex x.flat y.flat = if lex x.r.flat y.r.flat = 0 then lex (x.c :: (x.b.flat ++ [x.p, x.o])) (y.c :: (y.b.flat ++ [y.p, y.o])) else lex x.r.flat y.r.flat := lex_app (by rfl)
  rw [e] at h
  split at h
  · omega
  · exact h
end Go.Proofs.Ytehlaomippbehaa
