/- RolesLinks, in plain words: two bridges that hear one another. -/
import Derived.Test.YtehlaomippbehaaR14
namespace Go.Proofs.Ytehlaomippbehaa
open Go.RowKit Go.Gm

/-- What is offered over a link by a bridge that is its own root. -/
def ownV (o : Idn) (p : Int) : Vec := ⟨o, 0, o, p, 0⟩
def lnk (c : Int) (p : Nat) : Hrd := ⟨p + 1, c, true, false, noVec⟩
def lnkH (o : Idn) (c : Int) (p : Nat) : Hrd := ⟨p + 1, c, true, true, ownV o (p + 1)⟩
def deafL (cs : List Int) : List Hrd := (List.range cs.length).map fun i => lnk (cs.getD i 0) i
def hearL (o : Idn) (cs : List Int) : List Hrd := (List.range cs.length).map fun i => lnkH o (cs.getD i 0) i
def okC (cs : List Int) : Prop := cs.length ≤ 20 ∧ ∀ c ∈ cs, 1 ≤ c ∧ c ≤ 200000000
theorem deafL_len (cs : List Int) : (deafL cs).length = cs.length := by simp [deafL]
theorem hearL_len (o : Idn) (cs : List Int) : (hearL o cs).length = cs.length := by simp [hearL]
theorem deafL_get {cs : List Int} {i : Nat} (h : i < cs.length) : (deafL cs).getD i default = lnk (cs.getD i 0) i := by simp [deafL, List.getD, h]
theorem hearL_get {o : Idn} {cs : List Int} {i : Nat} (h : i < cs.length) : (hearL o cs).getD i default = lnkH o (cs.getD i 0) i := by simp [hearL, List.getD, h]
theorem okC_get {cs : List Int} (h : okC cs) {i : Nat} (hi : i < cs.length) : 1 ≤ cs.getD i 0 ∧ cs.getD i 0 ≤ 200000000 := by
  rw [show cs.getD i 0 = cs[i] by simp [List.getD, hi]]
  exact h.2 _ (List.getElem_mem hi)
theorem range_ports (f : Nat → Hrd) (hf : ∀ i, (f i).port = i + 1) (n : Nat) : (((List.range n).map f).map Hrd.port).Nodup := by
  rw [List.map_map]
  refine List.Pairwise.map _ (fun a b (h : a ≠ b) => ?_) List.nodup_range
  simp only [Function.comp, hf]
  omega
theorem fair_range {f : Nat → Hrd} (hf : ∀ i, (f i).port = i + 1) {n : Nat} (hn : n ≤ 20) (hc : ∀ i, i < n → 1 ≤ (f i).cost ∧ (f i).cost ≤ 200000000) : fairOf ((List.range n).map f) = 0 := by
  have hb : ¬ ((List.range n).map f).any Hrd.bad = true := by
    simp only [List.any_map, List.any_eq_true, not_exists, not_and]
    intro i hi
    have hi' : i < n := by simpa using hi
    have := hc i hi'
    simp [Hrd.bad, hf]
    omega
  rw [fairOf, if_neg (by simp; omega), if_neg hb, if_pos (range_ports f hf n)]
theorem fair_deaf {cs : List Int} (h : okC cs) : fairOf (deafL cs) = 0 := fair_range (fun _ => rfl) h.1 fun _ hi => okC_get h hi
theorem fair_hear {o : Idn} {cs : List Int} (h : okC cs) : fairOf (hearL o cs) = 0 := fair_range (fun _ => rfl) h.1 fun _ hi => okC_get h hi
theorem lex_root {a b : Vec} (h : lex a.r.flat b.r.flat ≠ 0) : lex a.flat b.flat = lex a.r.flat b.r.flat := by
  rw [Vec.flat, Vec.flat, lex_app (by simp [Idn.flat, Idn.mac]), if_neg h]
theorem lex_cost {a b : Vec} (h : a.r = b.r) (hc : a.c < b.c) : lex a.flat b.flat = -1 := by
  rw [Vec.flat, Vec.flat, lex_app (by simp [Idn.flat, Idn.mac]), if_pos (by rw [h, lex_self])]
  show (if cmpI a.c b.c = 0 then _ else cmpI a.c b.c) = -1
  have := cmpI_lt.2 hc
  rw [if_neg (by rw [this]; decide), this]
theorem sel_own {me : Idn} {l : List Hrd} (h : ∀ i, i < l.length → (l.getD i default).goes me = true → ¬ lex (l.getD i default).way.flat (meV me).flat < 0) : selK me l l.length = (meV me, -1) := by
  rcases (sel_all me l l.length).at_ with ⟨h1, h2⟩ | ⟨r, h1, h2, h3, h4, h5⟩
  · exact Prod.ext h2 h1
  · exact absurd (by rw [h4] at h5; exact h5) (h r h2 h3)

/-- Where nothing was heard: all are designated. -/
theorem deaf_best {me : Idn} {cs : List Int} (h : okC cs) : bestOf me (deafL cs) = meV me := by
  rw [bestOf, if_pos (fair_deaf h), sel_own fun i hi hg => by
    rw [deafL_len] at hi
    rw [deafL_get hi] at hg
    simp [Hrd.goes, Hrd.counts, lnk] at hg]
theorem deaf_roles {me : Idn} {cs : List Int} (h : okC cs) : rolesOf me (deafL cs) = List.replicate cs.length 2 := by
  rw [rolesOf, if_pos (fair_deaf h), sel_own fun i hi hg => by
    rw [deafL_len] at hi
    rw [deafL_get hi] at hg
    simp [Hrd.goes, Hrd.counts, lnk] at hg, deafL_len]
  refine List.ext_getElem (by simp [rolesFrom]) fun i h1 h2 => ?_
  have hi : i < cs.length := by simpa using h2
  simp only [rolesFrom, List.getElem_map, List.getElem_range, List.getElem_replicate, deafL_get hi]
  simp [roleOf, lnk]

/-- Where all ways lead to a worse root: all are designated. -/
theorem worse_sel {me o : Idn} {cs : List Int} (ho : lex me.flat o.flat < 0) : selK me (hearL o cs) (hearL o cs).length = (meV me, -1) := by
  refine sel_own fun i hi _ => ?_
  rw [hearL_len] at hi
  rw [hearL_get hi]
  have e : lex (lnkH o (cs.getD i 0) i).way.flat (meV me).flat = lex o.flat me.flat := lex_root (a := (lnkH o (cs.getD i 0) i).way) (b := meV me) (by show lex o.flat me.flat ≠ 0; have := lex_neg me.flat o.flat; omega)
  rw [e]
  have := lex_neg me.flat o.flat
  omega
theorem worse_best {me o : Idn} {cs : List Int} (h : okC cs) (ho : lex me.flat o.flat < 0) : bestOf me (hearL o cs) = meV me := by
  rw [bestOf, if_pos (fair_hear h), worse_sel ho]
theorem worse_roles {me o : Idn} {cs : List Int} (h : okC cs) (ho : lex me.flat o.flat < 0) : rolesOf me (hearL o cs) = List.replicate cs.length 2 := by
  rw [rolesOf, if_pos (fair_hear h), worse_sel ho, hearL_len]
  refine List.ext_getElem (by simp [rolesFrom]) fun i h1 h2 => ?_
  have hi : i < cs.length := by simpa using h2
  simp only [rolesFrom, List.getElem_map, List.getElem_range, List.getElem_replicate, hearL_get hi]
  have e : lex ((lnkH o (cs.getD i 0) i).v.own 0).flat (offerV me (meV me) (lnkH o (cs.getD i 0) i).port).flat = lex o.flat me.flat := lex_root (a := (lnkH o (cs.getD i 0) i).v.own 0) (b := offerV me (meV me) (lnkH o (cs.getD i 0) i).port) (by show lex o.flat me.flat ≠ 0; have := lex_neg me.flat o.flat; omega)
  have e0 := lex_neg me.flat o.flat
  rw [roleOf, if_neg (by simp [lnkH]), if_neg (by show ¬ (i : Int) = -1; omega), if_pos (.inr (by rw [e]; omega))]

/-- Where all ways lead to a better root: one is the root port, the others are alternate. -/
theorem better_sel {me o : Idn} {cs : List Int} (hn : 0 < cs.length) (ho : lex o.flat me.flat < 0) : ∃ r, r < cs.length ∧ selK me (hearL o cs) (hearL o cs).length = ((lnkH o (cs.getD r 0) r).way, (r : Int)) := by
  rcases (sel_all me (hearL o cs) (hearL o cs).length).at_ with ⟨-, h2⟩ | ⟨r, h1, h2, -, h4, -⟩
  · exfalso
    have hw := (sel_all me (hearL o cs) (hearL o cs).length).best 0 (by rw [hearL_len]; exact hn) (by
      rw [hearL_get hn]
      have : (o.flat == me.flat) = false := by
        apply beq_eq_false_iff_ne.2
        intro he
        rw [he, lex_self] at ho
        omega
      simp [Hrd.goes, Hrd.counts, lnkH, ownV, this])
    rw [h2, hearL_get hn] at hw
    have e : lex (meV me).flat (lnkH o (cs.getD 0 0) 0).way.flat = lex me.flat o.flat := lex_root (a := meV me) (b := (lnkH o (cs.getD 0 0) 0).way) (by show lex me.flat o.flat ≠ 0; have := lex_neg me.flat o.flat; omega)
    rw [e] at hw
    have := lex_neg me.flat o.flat
    omega
  · rw [hearL_len] at h2
    rw [hearL_get h2] at h4
    exact ⟨r, h2, Prod.ext h4 h1⟩
theorem better_roles {me o : Idn} {cs : List Int} (h : okC cs) (hn : 0 < cs.length) (ho : lex o.flat me.flat < 0) : ∃ r, r < cs.length ∧ rolesOf me (hearL o cs) = (List.range cs.length).map fun i => if i = r then (1 : Int) else 3 := by
  obtain ⟨r, hr, hs⟩ := better_sel (me := me) hn ho
  refine ⟨r, hr, ?_⟩
  rw [rolesOf, if_pos (fair_hear h), hs, hearL_len]
  refine List.map_congr_left fun i hi => ?_
  have hi : i < cs.length := by simpa using hi
  rw [hearL_get hi, roleOf, if_neg (by simp [lnkH])]
  by_cases hir : i = r
  · rw [if_pos (show ((i : Nat) : Int) = (r : Int) by omega), if_pos hir]
  rw [if_neg (show ¬ ((i : Nat) : Int) = (r : Int) by omega), if_neg hir]
  have hc := okC_get h hr
  have e : lex ((lnkH o (cs.getD i 0) i).v.own 0).flat (offerV me (lnkH o (cs.getD r 0) r).way (lnkH o (cs.getD i 0) i).port).flat = -1 := lex_cost (a := (lnkH o (cs.getD i 0) i).v.own 0) (b := offerV me (lnkH o (cs.getD r 0) r).way (lnkH o (cs.getD i 0) i).port) rfl (by
    show (0 : Int) < addC 0 (cs.getD r 0)
    generalize cs.getD r 0 = x at hc
    have h1 : isC 0 = true := by simp [isC]
    have h2 : isC x = true := by simp [isC]; omega
    simp only [addC, h1, h2]
    rw [if_pos (by rfl), if_pos (by omega)]
    omega)
  rw [if_neg (by rw [e]; simp [lnkH]), if_neg]
  intro he
  have : o.flat = me.flat := he
  rw [this, lex_self] at ho
  omega
end Go.Proofs.Ytehlaomippbehaa
