/- Arguments that are ports; what the root port is: plain laws. -/
import Derived.Test.YtehlaomippbehaaR7
import Derived.Test.YtehlaomippbehaaPiec
namespace Go.Proofs.Ytehlaomippbehaa
open Go.RowKit Go.Gm

theorem fits_idn {w : World} {l : List Value} (h : Fits w (.cat 1 (.int .i64) (.cat 6 (.arr 6 1 (.int .u8)) .nil)) l) : ∃ x : Idn, l = x.cells.toList ∧ Small x.mac := by
  obtain ⟨p, _, rfl, -, h1⟩ := h.intc
  obtain ⟨_, _, rfl, hm, h2⟩ := h1.aggc
  obtain ⟨ms, rfl, hl, hw⟩ := hm.intArr
  obtain rfl := h2.nilc
  match ms, hl with
  | [a0, a1, a2, a3, a4, a5], _ => exact ⟨⟨p, a0, a1, a2, a3, a4, a5⟩, rfl, fun x hx => wf_u8 (hw x hx)⟩
theorem arg_idn {w : World} {v : Value} (h : Arg w (.cat 1 (.int .i64) (.cat 6 (.arr 6 1 (.int .u8)) .nil)) v) : ∃ x : Idn, v = .agg x.cells ∧ Small x.mac := by
  obtain ⟨⟨l⟩, rfl, hf⟩ := h.agg rfl
  obtain ⟨x, hx, fx⟩ := fits_idn hf
  exact ⟨x, by rw [show l = x.cells.toList from hx], fx⟩
theorem fits_way {w : World} {l : List Value} (h : Fits w (.cat 7 (.cat 1 (.int .i64) (.cat 6 (.arr 6 1 (.int .u8)) .nil)) (.cat 1 (.int .i64) (.cat 7 (.cat 1 (.int .i64) (.cat 6 (.arr 6 1 (.int .u8)) .nil)) (.cat 1 (.int .i64) (.cat 1 (.int .i64) .nil))))) l) : ∃ x : Vec, l = x.cells.toList ∧ x.fine := by
  obtain ⟨_, _, rfl, hr, h1⟩ := h.aggc
  obtain ⟨r, rfl, fr⟩ := fits_idn hr
  obtain ⟨c, _, rfl, -, h2⟩ := h1.intc
  obtain ⟨_, _, rfl, hb, h3⟩ := h2.aggc
  obtain ⟨b, rfl, fb⟩ := fits_idn hb
  obtain ⟨p, _, rfl, -, h4⟩ := h3.intc
  obtain ⟨o, _, rfl, -, h5⟩ := h4.intc
  obtain rfl := h5.nilc
  exact ⟨⟨r, c, b, p, o⟩, rfl, fr, fb⟩
theorem fits_hrd {w : World} {l : List Value} (h : Fits w (.cat 1 (.int .i64) (.cat 1 (.int .i64) (.cat 1 .bool (.cat 1 .bool (.cat 17 (.cat 7 (.cat 1 (.int .i64) (.cat 6 (.arr 6 1 (.int .u8)) .nil)) (.cat 1 (.int .i64) (.cat 7 (.cat 1 (.int .i64) (.cat 6 (.arr 6 1 (.int .u8)) .nil)) (.cat 1 (.int .i64) (.cat 1 (.int .i64) .nil))))) .nil))))) l) : ∃ x : Hrd, l = x.cells.toList ∧ x.v.fine ∧ (Lit.int .i64 x.port).wf = true := by
  obtain ⟨p, _, rfl, hp, h1⟩ := h.intc
  obtain ⟨c, _, rfl, -, h2⟩ := h1.intc
  obtain ⟨u, _, rfl, h3⟩ := h2.boolc
  obtain ⟨s, _, rfl, h4⟩ := h3.boolc
  obtain ⟨_, _, rfl, hv, h5⟩ := h4.aggc
  obtain ⟨v, rfl, fv⟩ := fits_way hv
  obtain rfl := h5.nilc
  exact ⟨⟨p, c, u, s, v⟩, rfl, fv, hp⟩
theorem arg_hears {w : World} {v : Value} (h : Arg w (.slice 21 80 (.cat 1 (.int .i64) (.cat 1 (.int .i64) (.cat 1 .bool (.cat 1 .bool (.cat 17 (.cat 7 (.cat 1 (.int .i64) (.cat 6 (.arr 6 1 (.int .u8)) .nil)) (.cat 1 (.int .i64) (.cat 7 (.cat 1 (.int .i64) (.cat 6 (.arr 6 1 (.int .u8)) .nil)) (.cat 1 (.int .i64) (.cat 1 (.int .i64) .nil))))) .nil)))))) v) :
    ∃ ao cap, ∃ l : List Hrd, v = .slice ao l.length cap ∧ Hears w ao l ∧ (∀ x ∈ l, (Lit.int .i64 x.port).wf = true) ∧ l.length ≤ 140737488351232 := by
  obtain ⟨ao, len, cap, rfl, h1, h2, h3, h4⟩ := (h.one rfl).elems (by decide)
  have h5 : ∀ i, i < len → ∃ x : Hrd, (Lit.int .i64 x.port).wf = true ∧ x.v.fine ∧ ∃ b off, ao = some ⟨b, off, none⟩ ∧ ∀ j u, x.cells[j]? = some u → w.cell? ⟨b, off + i * 21 + j, none⟩ = some u := fun i hi => by
    obtain ⟨b, off, cs, hb, hl, hc, hf⟩ := h4 i hi
    obtain ⟨x, rfl, fx, px⟩ := fits_hrd hf
    refine ⟨x, px, fx, b, off, hb, fun j u hj => ?_⟩
    have hj' : j < 21 := (Array.getElem?_eq_some_iff.1 hj).1
    rw [hc j hj']
    simpa using hj
  have h6 : ∃ l : List Hrd, l.length = len ∧ Hears w ao l ∧ ∀ x ∈ l, (Lit.int .i64 x.port).wf = true := by
    clear h1 h2 h3 h4 h
    induction len with
    | zero => exact ⟨[], rfl, fun i x hx => by simp at hx, fun x hx => by simp at hx⟩
    | succ n ih =>
      obtain ⟨l, hl, hx, hp⟩ := ih fun i hi => h5 i (by omega)
      obtain ⟨x, px, fx, b, off, e, hc⟩ := h5 n (by omega)
      refine ⟨l ++ [x], by simp [hl], fun i y hy => ?_, fun y hy => ?_⟩
      · rcases Nat.lt_or_ge i l.length with hi | hi
        · rw [List.getElem?_append_left hi] at hy
          exact hx i y hy
        · rw [List.getElem?_append_right hi] at hy
          have hi2 : i = n := by
            rcases Nat.eq_zero_or_pos (i - l.length) with h | h
            · omega
            · rw [List.getElem?_eq_none (by simp; omega)] at hy; cases hy
          subst hi2
          rw [show i - l.length = 0 by omega] at hy
          simp at hy
          subst hy
          exact ⟨fx, b, off, e, hc⟩
      · rcases List.mem_append.1 hy with hy | hy
        · exact hp y hy
        · simp at hy; subst hy; exact px
  obtain ⟨l, rfl, hx, hp⟩ := h6
  exact ⟨ao, cap, l, rfl, hx, hp, by omega⟩

/-- How many root ports are among the first k. -/
def rootsIn (xs : List Int) (k : Nat) : Nat := ((xs.take k).filter (· == 1)).length
theorem rootsIn_le (xs : List Int) (k : Nat) : rootsIn xs k ≤ k := by
  unfold rootsIn
  exact Nat.le_trans (List.length_filter_le _ _) (by simp; omega)
theorem rootsIn_succ {xs : List Int} {k : Nat} {x : Int} (h : xs[k]? = some x) : rootsIn xs (k + 1) = rootsIn xs k + if x == 1 then 1 else 0 := by
  unfold rootsIn
  rw [List.take_add_one, h]
  simp only [Option.toList, List.filter_append, List.length_append]
  congr 1
  cases hx : (x == 1) <;> simp [hx]
theorem rootsIn_none {xs : List Int} : ∀ {k : Nat}, (∀ i, i < k → xs[i]? ≠ some 1) → rootsIn xs k = 0
  | 0, _ => by simp [rootsIn]
  | k + 1, h => by
    have ih := rootsIn_none (xs := xs) (k := k) fun i hi => h i (by omega)
    cases hx : xs[k]? with
    | none =>
      unfold rootsIn at ih ⊢
      rw [List.take_add_one, hx]
      simpa using ih
    | some x =>
      rw [rootsIn_succ hx, ih]
      have : x ≠ 1 := fun e => h k (by omega) (by rw [hx, e])
      simp [this]
theorem rootsIn_one {xs : List Int} {r : Nat} (hr : xs[r]? = some 1) (ho : ∀ i, i ≠ r → xs[i]? ≠ some 1) : ∀ k : Nat, rootsIn xs k = (if r < k then 1 else 0 : Nat)
  | 0 => by simp [rootsIn]
  | k + 1 => by
    have ih := rootsIn_one hr ho k
    by_cases e : k = r
    · subst e
      rw [rootsIn_succ hr, ih, if_neg (Nat.lt_irrefl k), if_pos (Nat.lt_succ_self k)]
      rfl
    · cases hx : xs[k]? with
      | none =>
        unfold rootsIn at ih ⊢
        rw [List.take_add_one, hx]
        simp only [Option.toList, List.append_nil]
        rw [ih]
        by_cases h : r < k
        · rw [if_pos h, if_pos (by omega)]
        · rw [if_neg h, if_neg (by omega)]
      | some x =>
        have : x ≠ 1 := fun e2 => ho k e (by rw [hx, e2])
        rw [rootsIn_succ hx, ih]
        have hx1 : (x == 1) = false := by simpa using this
        rw [hx1]
        simp only [Bool.false_eq_true, if_false, Nat.add_zero]
        by_cases h : r < k
        · rw [if_pos h, if_pos (by omega)]
        · rw [if_neg h, if_neg (by omega)]

theorem roleOf_root {me : Idn} {best : Vec} {root : Int} {i : Nat} {h : Hrd} (hr : roleOf me best root i h = 1) : h.up = true ∧ (i : Int) = root := by
  unfold roleOf at hr
  split at hr
  · omega
  · rename_i hu
    split at hr
    · rename_i he
      exact ⟨by simpa using hu, he⟩
    · split at hr
      · omega
      · split at hr <;> omega
theorem roleOf_is_root {me : Idn} {best : Vec} {root : Int} {i : Nat} {h : Hrd} (hu : h.up = true) (hi : (i : Int) = root) : roleOf me best root i h = 1 := by
  rw [roleOf, if_neg (by simp [hu]), if_pos hi]

structure RootLaw (me : Idn) (l : List Hrd) (B : Vec) (xs : List Int) : Prop where
  len : xs.length = l.length
  is : ∀ (i : Nat) (x : Hrd), l[i]? = some x → xs[i]? = some 1 → x.up = true ∧ x.has = true ∧ B.o = x.port ∧ B.r = x.v.r ∧ B.b = x.v.b
  most : rootsIn xs xs.length ≤ 1
  none : (((rootsIn xs xs.length : Nat) : Int) == 0) = (B.flat == (meV me).flat)
  le : lex B.r.flat me.flat ≤ 0
  fine : B.fine
theorem root_law {me : Idn} {l : List Hrd} {w : World} {ao : Option Addr} (hme : Small me.mac) (hh : Hears w ao l) (hf : fairOf l = 0) : RootLaw me l (bestOf me l) (rolesOf me l) := by
  have S := sel_all me l l.length
  have hl : (rolesOf me l).length = l.length := by rw [rolesOf_len, if_pos hf]
  have hg : ∀ i x, l[i]? = some x → (rolesOf me l)[i]? = some (roleOf me (selK me l l.length).1 (selK me l l.length).2 i x) := fun i x hx => by
    have hi := (List.getElem?_eq_some_iff.1 hx).1
    rw [rolesOf, if_pos hf, rolesFrom_get hi, show l.getD i default = x by simp [List.getD, hx]]
  have hB : bestOf me l = (selK me l l.length).1 := by rw [bestOf, if_pos hf]
  have hgo : ∀ i, (rolesOf me l)[i]? = some 1 → i < l.length := fun i h => by rw [← hl]; exact (List.getElem?_eq_some_iff.1 h).1
  refine ⟨hl, fun i x hx h1 => ?_, ?_, ?_, ?_, ?_⟩
  · rw [hg i x hx] at h1
    obtain ⟨hu, hi⟩ := roleOf_root (Option.some.inj h1)
    rcases S.at_ with ⟨s1, -⟩ | ⟨r, s1, s2, s3, s4, -⟩
    · omega
    · have e : r = i := by omega
      subst e
      rw [show l.getD r default = x by simp [List.getD, hx]] at s3 s4
      obtain ⟨g1, g2, -⟩ := goes_bridge s3
      rw [hB, s4]
      exact ⟨g1, g2, rfl, rfl, rfl⟩
  · rcases S.at_ with ⟨s1, -⟩ | ⟨r, s1, s2, s3, s4, -⟩
    · rw [rootsIn_none]
      · omega
      · intro i hi h1
        obtain ⟨x, hx⟩ : ∃ x, l[i]? = some x := ⟨l[i]'(hgo i h1), List.getElem?_eq_getElem (hgo i h1)⟩
        rw [hg i x hx] at h1
        have := (roleOf_root (Option.some.inj h1)).2
        omega
    · obtain ⟨x, hx⟩ : ∃ x, l[r]? = some x := ⟨l[r], List.getElem?_eq_getElem s2⟩
      rw [rootsIn_one (r := r)]
      · split <;> omega
      · rw [hg r x hx]
        rw [show l.getD r default = x by simp [List.getD, hx]] at s3
        rw [roleOf_is_root (goes_bridge s3).1 s1.symm]
      · intro i hi h1
        obtain ⟨y, hy⟩ : ∃ x, l[i]? = some x := ⟨l[i]'(hgo i h1), List.getElem?_eq_getElem (hgo i h1)⟩
        rw [hg i y hy] at h1
        have := (roleOf_root (Option.some.inj h1)).2
        omega
  · rw [hB, hl]
    rcases S.at_ with ⟨s1, s2⟩ | ⟨r, s1, s2, s3, s4, -⟩
    · rw [rootsIn_none]
      · rw [s2]; simp
      · intro i hi h1
        obtain ⟨x, hx⟩ : ∃ x, l[i]? = some x := ⟨l[i]'(hgo i h1), List.getElem?_eq_getElem (hgo i h1)⟩
        rw [hg i x hx] at h1
        have := (roleOf_root (Option.some.inj h1)).2
        omega
    · have hne : ¬ (selK me l l.length).1.flat = (meV me).flat := fun e => by
        have e2 := selK_meV.2 (Vec.flat_inj e)
        omega
      obtain ⟨x, hx⟩ : ∃ x, l[r]? = some x := ⟨l[r], List.getElem?_eq_getElem s2⟩
      rw [rootsIn_one (r := r), if_pos s2]
      · simp [hne]
      · rw [hg r x hx]
        rw [show l.getD r default = x by simp [List.getD, hx]] at s3
        rw [roleOf_is_root (goes_bridge s3).1 s1.symm]
      · intro i hi h1
        obtain ⟨y, hy⟩ : ∃ x, l[i]? = some x := ⟨l[i]'(hgo i h1), List.getElem?_eq_getElem (hgo i h1)⟩
        rw [hg i y hy] at h1
        have := (roleOf_root (Option.some.inj h1)).2
        omega
  · rw [hB]
    exact lex_root_le S.le
  · rw [hB]
    exact selK_fine hme hh l.length
end Go.Proofs.Ytehlaomippbehaa
