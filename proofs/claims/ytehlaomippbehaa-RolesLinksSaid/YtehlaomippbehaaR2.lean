/- Roles: the order of ports plays no part; a bridge alone; two ports of one bridge: plain laws. -/
import Derived.Test.YtehlaomippbehaaR1
namespace Go.Proofs.Ytehlaomippbehaa
open Go.RowKit Go.Gm

theorem getD_reverse {l : List Hrd} {j : Nat} (h : j < l.length) : l.reverse.getD j default = l.getD (l.length - 1 - j) default := by
  simp only [List.getD_eq_getElem?_getD, List.getElem?_reverse h]
theorem ports_apart {l : List Hrd} (h : (l.map Hrd.port).Nodup) {i j : Nat} (hi : i < l.length) (hj : j < l.length) (e : (l.getD i default).port = (l.getD j default).port) : i = j := by
  have p := List.pairwise_iff_getElem.1 h
  have gi : l.getD i default = l[i] := by simp [List.getD, hi]
  have gj : l.getD j default = l[j] := by simp [List.getD, hj]
  rw [gi, gj] at e
  rcases Nat.lt_trichotomy i j with h1 | h1 | h1
  · exact absurd (by rw [List.getElem_map, List.getElem_map]; exact e) (p i j (by simpa using hi) (by simpa using hj) h1)
  · exact h1
  · exact absurd (by rw [List.getElem_map, List.getElem_map]; exact e.symm) (p j i (by simpa using hj) (by simpa using hi) h1)

theorem fairOf_reverse (l : List Hrd) : fairOf l.reverse = fairOf l := by
  unfold fairOf
  have h : (l.reverse.map Hrd.port).Nodup ↔ (l.map Hrd.port).Nodup := by
    rw [List.map_reverse]
    unfold List.Nodup
    rw [List.pairwise_reverse]
    exact ⟨fun h => h.imp fun e => e.symm, fun h => h.imp fun e => e.symm⟩
  simp only [List.length_reverse, List.any_reverse, h]

theorem sel_reverse (me : Idn) {l : List Hrd} (hn : (l.map Hrd.port).Nodup) :
    (selK me l.reverse l.length).1 = (selK me l l.length).1 ∧ ((selK me l.reverse l.length).2 = -1 ∧ (selK me l l.length).2 = -1 ∨ ∃ r, r < l.length ∧ (selK me l l.length).2 = (r : Nat) ∧ (selK me l.reverse l.length).2 = ((l.length - 1 - r : Nat) : Int)) := by
  have S := sel_all me l l.length
  have T := sel_all me l.reverse l.length
  generalize selK me l l.length = s at *
  generalize selK me l.reverse l.length = t at *
  rcases S.at_ with ⟨s1, s2⟩ | ⟨r, s1, s2, s3, s4, s5⟩
  · rcases T.at_ with ⟨t1, t2⟩ | ⟨q, t1, t2, t3, t4, t5⟩
    · exact ⟨by rw [s2, t2], .inl ⟨t1, s1⟩⟩
    · rw [getD_reverse t2] at t3 t4
      have h := S.best _ (by omega) t3
      rw [s2, ← t4] at h
      have := lex_neg t.1.flat (meV me).flat
      omega
  · rcases T.at_ with ⟨t1, t2⟩ | ⟨q, t1, t2, t3, t4, t5⟩
    · have h := T.best (l.length - 1 - r) (by omega) (by rw [getD_reverse (by omega), show l.length - 1 - (l.length - 1 - r) = r by omega]; exact s3)
      rw [getD_reverse (by omega), show l.length - 1 - (l.length - 1 - r) = r by omega, t2, ← s4] at h
      have := lex_neg s.1.flat (meV me).flat
      omega
    · have h1 := T.best (l.length - 1 - r) (by omega) (by rw [getD_reverse (by omega), show l.length - 1 - (l.length - 1 - r) = r by omega]; exact s3)
      rw [getD_reverse (by omega), show l.length - 1 - (l.length - 1 - r) = r by omega, ← s4] at h1
      rw [getD_reverse t2] at t3 t4
      have h2 := S.best _ (by omega) t3
      rw [← t4] at h2
      have h3 := lex_neg s.1.flat t.1.flat
      have e : s.1.flat = t.1.flat := lex_zero.1 (by omega)
      have e2 : s.1 = t.1 := Vec.flat_inj e
      have e3 : (l.getD r default).port = (l.getD (l.length - 1 - q) default).port := by
        rw [s4, t4] at e2
        exact congrArg Vec.o e2
      have e4 := ports_apart hn s2 (by omega) e3
      exact ⟨e2.symm, .inr ⟨r, s2, s1, by rw [t1]; omega⟩⟩

theorem bestOf_reverse (me : Idn) (l : List Hrd) : bestOf me l.reverse = bestOf me l := by
  unfold bestOf
  rw [fairOf_reverse, List.length_reverse]
  split
  · rename_i h
    rw [(sel_reverse me (fairOf_zero h).2.2).1]
  · rfl
theorem rolesOf_reverse (me : Idn) (l : List Hrd) (i : Nat) (hi : i < (rolesOf me l).length) : (rolesOf me l.reverse)[(rolesOf me l).length - 1 - i]? = (rolesOf me l)[i]? := by
  rw [rolesOf_len] at hi ⊢
  unfold rolesOf
  rw [fairOf_reverse, List.length_reverse]
  split at hi
  · rename_i h
    rw [if_pos h, if_pos h, if_pos h, rolesFrom_get (by omega), rolesFrom_get hi, getD_reverse (by omega), show l.length - 1 - (l.length - 1 - i) = i by omega]
    obtain ⟨e, hr⟩ := sel_reverse me (fairOf_zero h).2.2
    rw [e]
    unfold roleOf
    have hc : (((l.length - 1 - i : Nat) : Int) = (selK me l.reverse l.length).2) ↔ ((i : Int) = (selK me l l.length).2) := by
      rcases hr with ⟨h1, h2⟩ | ⟨r, h1, h2, h3⟩
      · rw [h1, h2]; omega
      · rw [h2, h3]; omega
    simp only [hc]
  · omega

theorem sel_none {me : Idn} {l : List Hrd} : ∀ {k : Nat}, (∀ j, j < k → (l.getD j default).goes me = false) → selK me l k = (meV me, -1)
  | 0, _ => rfl
  | k + 1, h => by
    rw [selK, sel_none fun j hj => h j (by omega), selStep, h k (by omega)]
    rfl

theorem goes_deaf {me : Idn} {x : Hrd} (h : x.up = true → x.has = false) : x.goes me = false := by
  cases hu : x.up
  · simp [Hrd.goes, Hrd.counts, hu]
  · simp [Hrd.goes, Hrd.counts, h hu]
/-- A bridge that hears nothing that counts. -/
theorem alone_best {me : Idn} {l : List Hrd} (hf : fairOf l = 0) (h : ∀ x ∈ l, x.up = true → x.has = false) : bestOf me l = meV me := by
  rw [bestOf, if_pos hf, sel_none]
  intro j hj
  have hm : l.getD j default ∈ l := by simp [List.getD, hj]
  exact goes_deaf (h _ hm)
theorem alone_role {me : Idn} {l : List Hrd} (hf : fairOf l = 0) (h : ∀ x ∈ l, x.up = true → x.has = false) {i : Nat} (hi : i < l.length) : (rolesOf me l)[i]? = some (if (l.getD i default).up = true then 2 else 0) := by
  have hs : selK me l l.length = (meV me, -1) := sel_none fun j hj => by
    have hm : l.getD j default ∈ l := by simp [List.getD, hj]
    exact goes_deaf (h _ hm)
  rw [rolesOf, if_pos hf, rolesFrom_get hi, hs]
  unfold roleOf
  have hm : l.getD i default ∈ l := by simp [List.getD, hi]
  have hh := h _ hm
  cases hu : (l.getD i default).up
  · simp
  · simp only [hh hu]
    have : ¬ (i : Int) = -1 := by omega
    simp [this]

/-- Two ports of one bridge that hear one another. -/
def pairOf (me : Idn) (c0 c1 p0 p1 : Int) : List Hrd := [⟨p0, c0, true, true, ⟨me, 0, me, p1, 0⟩⟩, ⟨p1, c1, true, true, ⟨me, 0, me, p0, 0⟩⟩]
theorem pair_sel (me : Idn) (c0 c1 p0 p1 : Int) : selK me (pairOf me c0 c1 p0 p1) 2 = (meV me, -1) := sel_none fun j hj => by
  match j, hj with
  | 0, _ => simp [pairOf, Hrd.goes]
  | 1, _ => simp [pairOf, Hrd.goes]
theorem pair_best {me : Idn} {c0 c1 p0 p1 : Int} (hf : fairOf (pairOf me c0 c1 p0 p1) = 0) : bestOf me (pairOf me c0 c1 p0 p1) = meV me := by
  rw [bestOf, if_pos hf, show (pairOf me c0 c1 p0 p1).length = 2 from rfl, pair_sel]
theorem lex_port (me : Idn) (p q : Int) : lex (Vec.own ⟨me, 0, me, p, 0⟩ 0).flat (offerV me (meV me) q).flat = cmpI p q := by
  have e := lex_vec (Vec.own ⟨me, 0, me, p, 0⟩ 0) (offerV me (meV me) q)
  rw [← e]
  simp [Vec.own, offerV, meV, lex_self, cmpI_self, firstNZ]
  intro h; exact h.symm
theorem pair_roles {me : Idn} {c0 c1 p0 p1 : Int} (hf : fairOf (pairOf me c0 c1 p0 p1) = 0) : rolesOf me (pairOf me c0 c1 p0 p1) = [if p1 < p0 then 4 else 2, if p0 < p1 then 4 else 2] := by
  have hb := (fairOf_zero hf).2.2
  rw [rolesOf, if_pos hf, show (pairOf me c0 c1 p0 p1).length = 2 from rfl, pair_sel]
  have h1 := lex_port me p1 p0
  have h2 := lex_port me p0 p1
  simp only [rolesFrom, List.range, List.range.loop, List.map_cons, List.map_nil, pairOf, roleOf, List.getD_cons_zero, List.getD_cons_succ, h1, h2]
  have g1 : 0 ≤ cmpI p1 p0 ↔ ¬ p1 < p0 := by
    have := @cmpI_lt p1 p0
    have := cmpI_rng p1 p0
    omega
  have g2 : 0 ≤ cmpI p0 p1 ↔ ¬ p0 < p1 := by
    have := @cmpI_lt p0 p1
    have := cmpI_rng p0 p1
    omega
  simp only [g1, g2]
  by_cases a : p1 < p0 <;> by_cases b : p0 < p1 <;> simp [a, b]
end Go.Proofs.Ytehlaomippbehaa
