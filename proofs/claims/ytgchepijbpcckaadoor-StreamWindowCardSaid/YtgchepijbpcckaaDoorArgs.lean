/- What a walk is told of arguments that can be read as data: the cells of each by its type's shape. Of no program. -/
import Derived.ProofKit
import Derived.OpenShut
import Derived.ShutString
import Derived.ChangeOld
import Derived.Below
import Derived.SizedLaws
import Derived.KernelRfl
import Derived.Test.YtgchepijbpcckaaDoorGm
namespace Go.Gm

/-- The shape of a type. -/
inductive Sh where
  | int (k : IntKind)
  | bool
  | float (k : FloatKind)
  | str
  | slice (n bytes : Nat) (e : Sh)
  | arr (m n : Nat) (e : Sh)
  | nil
  | cat (n : Nat) (a b : Sh)

/-- Cells of a shape. -/
def Fits (w : World) : Sh → List Value → Prop
  | .int k, cs => ∃ x, cs = [.int k x] ∧ (Lit.int k x).wf = true
  | .bool, cs => ∃ b, cs = [.bool b]
  | .float k, cs => ∃ b, cs = [.float k b] ∧ (Lit.float k b).wf = true
  | .str, cs => ∃ s : ByteArray, cs = [.string s] ∧ s.size ≤ 140737488351232
  | .slice n bytes e, cs => ∃ ao len cap, cs = [.slice ao len cap] ∧ len ≤ cap ∧ cap ≤ maxLen ∧
      ((ao = none ∧ cap = 0) ∨ ∃ a, ao = some a ∧ cap * bytes ≤ 140737488351232 ∧ ∀ i, i < len → ∃ cs', w.cells? 0 (a.add (i * n)) n = some cs' ∧ Fits w e cs')
  | .arr m n e, cs => cs.length = m * n ∧ ∀ i, i < m → Fits w e ((cs.drop (i * n)).take n)
  | .nil, cs => cs = []
  | .cat n a b, cs => Fits w a (cs.take n) ∧ Fits w b (cs.drop n)

def chkF (P : Program) (c : TypeId → Sh → Bool) (tot : Nat) : List Field → Nat → Sh → Bool
  | [], off, .nil => off == tot
  | f :: fs, off, .cat n a b => f.offset == off && P.cellsOf f.type == n && c f.type a && chkF P c tot fs (off + n) b
  | _, _, _ => false

def chk (P : Program) : Nat → TypeId → Sh → Bool
  | 0, _, _ => false
  | k + 1, t, sh =>
    match P.underlying t, sh with
    | some (.int i), .int j => decide (i = j)
    | some .bool, .bool => true
    | some (.float i), .float j => decide (i = j)
    | some .string, .str => true
    | some (.slice e), .slice n bytes s => P.cellsOf e == n && P.bytesOf e == bytes && chk P k e s
    | some (.array m e), .arr m' n s => m == m' && P.cellsOf e == n && P.cellsOf t == m * n && chk P k e s
    | some (.struct fs), s => chkF P (chk P k) (P.cellsOf t) fs.toList 0 s
    | _, _ => false

section
variable {H : Type} {enc : TypeId × Value → H} {P : Program} {w : World}

theorem trod_float {base : Nat} {spare : Nat → Bool} {held : Bool} {fuel : Nat} {t : TypeId} {cs : List Value} {x : DataW H × List MemPlace} {k : FloatKind} (ht : P.underlying t = some (.float k)) (h : DataW.trod enc P w base spare held fuel t cs = some x) :
    ∃ n, cs = [.float k n] ∧ x = (.lit (.float k n), []) ∧ (Lit.float k n).wf = true := by
  cases fuel with
  | zero => simp [DataW.trod] at h
  | succ n =>
    unfold DataW.trod at h
    rw [ht] at h
    split at h <;> simp_all

theorem weightsAll_mem {e : TypeId} : ∀ {l : List (DataW H)} {d : DataW H}, d ∈ l → ∀ {q : Nat → Bool}, (DataW.weightsAll P e l).all q = true → (d.weights P e).all q = true
  | x :: r, d, hd, q, h => by
    rw [DataW.weightsAll, List.all_append, Bool.and_eq_true] at h
    rcases List.mem_cons.1 hd with rfl | hd
    · exact h.1
    · exact weightsAll_mem hd h.2

/-- What is read fits its shape. -/
theorem fits_of_trod : ∀ (k : Nat) (t : TypeId) (sh : Sh) (fuel : Nat) (cs : List Value) (x : DataW H × List MemPlace), DataW.trod enc P w 0 (fun _ => true) true fuel t cs = some x →
    (x.1.weights P t).all (· ≤ reachBytes) = true → chk P k t sh = true → Fits w sh cs := by
  intro k
  induction k with
  | zero => intro t sh fuel cs x _ _ hc; simp [chk] at hc
  | succ k ih =>
    intro t sh fuel cs x h hw hc
    unfold chk at hc
    split at hc
    · rename_i i j ht
      obtain rfl := of_decide_eq_true hc
      obtain ⟨n, rfl, _, hwf⟩ := DataW.trod_int ht h
      exact ⟨n, rfl, hwf⟩
    · rename_i ht
      obtain ⟨b, rfl, _⟩ := DataW.trod_bool ht h
      exact ⟨b, rfl⟩
    · rename_i i j ht
      obtain rfl := of_decide_eq_true hc
      obtain ⟨n, rfl, _, hwf⟩ := trod_float ht h
      exact ⟨n, rfl, hwf⟩
    · rename_i ht
      obtain ⟨s, rfl, rfl, _⟩ := DataW.trod_string ht h
      refine ⟨s, rfl, ?_⟩
      have hs : s.data.toList.length = s.size := by rw [Array.length_toList]; rfl
      have hw' : s.data.toList.length ≤ reachBytes := by simpa [DataW.weights] using hw
      rw [hs] at hw'
      exact hw'
    · rename_i e n bytes s ht
      simp only [Bool.and_eq_true, beq_iff_eq] at hc
      obtain ⟨⟨rfl, rfl⟩, hc⟩ := hc
      rcases DataW.trod_slice ht h with ⟨rfl, _⟩ | ⟨a, len, cap, elems, rest, m, _, rfl, rfl, _, hl, hm, hlen, hel, hsp, _⟩
      · exact ⟨none, 0, 0, rfl, Nat.le_refl _, by simp [maxLen], .inl ⟨rfl, rfl⟩⟩
      · obtain ⟨hr, _⟩ := hsp rfl
        simp only [DataW.weights, ht, List.all_cons, List.all_append, Bool.and_eq_true, List.length_map, decide_eq_true_eq] at hw
        refine ⟨some a, len, cap, rfl, hl, hm, .inr ⟨a, rfl, ?_, fun i hi => ?_⟩⟩
        · have := hw.1
          rw [hlen, hr, show len + (cap - len) = cap by omega] at this
          simp only [reachBytes] at this
          omega
        · have h1 := hel i hi
          rw [List.getElem?_eq_getElem (by omega), Option.bind_eq_some_iff] at h1
          obtain ⟨cs', h2, h3⟩ := h1
          refine ⟨cs', h2, ih e s m cs' _ h3 ?_ hc⟩
          exact weightsAll_mem (List.mem_map.2 ⟨_, List.getElem_mem (by omega), rfl⟩) hw.2.1
    · rename_i m e m' n s ht
      simp only [Bool.and_eq_true, beq_iff_eq] at hc
      obtain ⟨⟨⟨rfl, rfl⟩, hcells⟩, hc⟩ := hc
      obtain ⟨xs, f, _, rfl, hl, hxs, hel⟩ := DataW.trod_array ht h
      simp only [DataW.weights, ht] at hw
      refine ⟨by rw [hl, hcells], fun i hi => ?_⟩
      have h1 := hel i hi
      rw [List.getElem?_eq_getElem (by omega)] at h1
      exact ih e s f _ _ h1 (weightsAll_mem (List.mem_map.2 ⟨_, List.getElem_mem (by omega), rfl⟩) hw) hc
    · rename_i fs ht
      obtain ⟨xs, f, _, rfl, hl, hxs, hel⟩ := DataW.trod_struct ht h
      simp only [DataW.weights, ht] at hw
      have key : ∀ (l : List Field) (off : Nat) (s : Sh) (ys : List (DataW H × List MemPlace)), chkF P (chk P k) (P.cellsOf t) l off s = true → ys.length = l.length →
          (∀ (i : Nat) (g : Field), l[i]? = some g → DataW.trod enc P w 0 (fun _ => true) true f g.type ((cs.drop g.offset).take (P.cellsOf g.type)) = ys[i]?) →
          (DataW.weightsEach P (l.map (·.type)) (ys.map (·.1))).all (· ≤ reachBytes) = true → Fits w s (cs.drop off) := by
        intro l
        induction l with
        | nil =>
          intro off s ys hc _ _ _
          cases s <;> simp [chkF] at hc
          subst hc
          show cs.drop _ = []
          rw [← hl, List.drop_length]
        | cons g l ihl =>
          intro off s ys hc hly hel hw
          cases s <;> simp [chkF] at hc
          rename_i n a b
          obtain ⟨⟨⟨rfl, rfl⟩, hca⟩, hcb⟩ := hc
          cases ys with
          | nil => simp at hly
          | cons y ys =>
            simp only [List.map_cons, DataW.weightsEach, List.all_append, Bool.and_eq_true] at hw
            refine ⟨?_, ?_⟩
            · exact ih _ a f _ _ (hel 0 g rfl) hw.1 hca
            · rw [List.drop_drop]
              exact ihl _ b ys hcb (by simpa using hly) (fun i g' hg => by simpa using hel (i + 1) g' (by simpa using hg)) hw.2
      simpa using key fs.toList 0 _ xs hc (by simpa using hxs) (fun i g hg => hel i g (by simpa using hg)) hw
    · cases hc
end

def Sh.many : Sh → Bool
  | .arr .. => true
  | .nil => true
  | .cat .. => true
  | _ => false

/-- An argument of a shape: one value, or the cells of a struct or an array. -/
def Arg (w : World) (sh : Sh) (v : Value) : Prop := Fits w sh v.cells.toList ∧ (if sh.many then ∃ cs, v = .agg cs else v.oneCell' = true)

theorem chkF_many {P : Program} {c : TypeId → Sh → Bool} {tot : Nat} : ∀ {l : List Field} {off : Nat} {s : Sh}, chkF P c tot l off s = true → s.many = true := by
  intro l off s h
  cases l <;> cases s <;> simp_all [chkF, Sh.many]

theorem arg_of {H : Type} {enc : TypeId × Value → H} {P : Program} {w : World} {base : Nat} {t : TypeId} {v : Value} {d : DataW H} {p : List MemPlace} {k : Nat} {sh : Sh}
    (h : DataW.Trod enc P w 0 (fun _ => true) true t v d p) (ho : Value.okWide P w .any base t v) (hw : (d.weights P t).all (· ≤ reachBytes) = true) (hc : chk P k t sh = true) : Arg w sh v := by
  obtain ⟨fuel, hf⟩ := h
  refine ⟨fits_of_trod k t sh fuel _ _ hf hw hc, ?_⟩
  unfold Value.okWide at ho
  cases k with
  | zero => simp [chk] at hc
  | succ k =>
    have one : (∀ fs, P.underlying t ≠ some (.struct fs)) → (∀ n e, P.underlying t ≠ some (.array n e)) → Cell.okWide P w .any base t v → v.oneCell' = true := by
      intro h1 h2 h3
      cases v with
      | agg cs => unfold Cell.okWide at h3; split at h3 <;> simp_all [Cell.ok]
      | tuple cs => unfold Cell.okWide at h3; split at h3 <;> simp_all [Cell.ok]
      | _ => rfl
    unfold chk at hc
    split at hc
    all_goals (try (rename_i ht; rw [ht] at ho))
    all_goals first | (cases hc; done) | skip
    · exact one (by simp_all) (by simp_all) ho
    · exact one (by simp_all) (by simp_all) ho
    · exact one (by simp_all) (by simp_all) ho
    · exact one (by simp_all) (by simp_all) ho
    · exact one (by simp_all) (by simp_all) ho
    · obtain ⟨cs, rfl, _⟩ := ho
      exact ⟨cs, rfl⟩
    · rw [if_pos (chkF_many hc)]
      obtain ⟨cs, rfl, _⟩ := ho
      exact ⟨cs, rfl⟩

theorem Arg.one {w : World} {sh : Sh} {v : Value} (h : Arg w sh v) (hm : sh.many = false) : Fits w sh [v] := by
  obtain ⟨h1, h2⟩ := h
  rw [hm] at h2
  cases v <;> simp_all [Value.cells, Value.oneCell']
theorem Arg.agg {w : World} {sh : Sh} {v : Value} (h : Arg w sh v) (hm : sh.many = true) : ∃ cs, v = .agg cs ∧ Fits w sh cs.toList := by
  obtain ⟨h1, h2⟩ := h
  rw [hm] at h2
  obtain ⟨cs, rfl⟩ := h2
  exact ⟨cs, rfl, h1⟩

theorem Arg.int {w : World} {k : IntKind} {v : Value} (h : Arg w (.int k) v) : ∃ n, v = .int k n ∧ (Lit.int k n).wf = true := by
  obtain ⟨x, hx, hw⟩ := h.one rfl
  exact ⟨x, by simpa using hx, hw⟩
theorem Arg.bool {w : World} {v : Value} (h : Arg w .bool v) : ∃ b, v = .bool b := by
  obtain ⟨x, hx⟩ := h.one rfl
  exact ⟨x, by simpa using hx⟩

theorem cells?_one {w : World} {a : Addr} {cs : List Value} (h : w.cells? 0 a 1 = some cs) : ∃ u, cs = [u] ∧ w.cell? (a.add 0) = some u := by
  simp [World.cells?, List.mapM_cons, List.mapM_nil, Option.bind_eq_some_iff, List.range_succ] at h
  obtain ⟨u, h1, rfl⟩ := h
  exact ⟨u, rfl, h1⟩

theorem wf_u8 {n : Int} (h : (Lit.int .u8 n).wf = true) : 0 ≤ n ∧ n ≤ 255 := by
  have := bounds_u8 h
  omega

/-- The cells of a slice of integers. -/
theorem Fits.ints {w : World} {k : IntKind} {by_ : Nat} {v : Value} (h : Fits w (.slice 1 by_ (.int k)) [v]) : ∃ (ao : Option Addr) (bs : List Int) (cap : Nat), v = .slice ao bs.length cap ∧ bs.length ≤ cap ∧ cap ≤ maxLen ∧ (∀ x ∈ bs, (Lit.int k x).wf = true) ∧
    ((ao = none ∧ cap = 0) ∨ ∃ a, ao = some a ∧ cap * by_ ≤ 140737488351232 ∧ ∀ j u, (bs.map (Value.int k))[j]? = some u → w.cell? (a.add j) = some u) := by
  obtain ⟨ao, len, cap, hv, h1, h2, h3⟩ := h
  simp only [List.cons.injEq, and_true] at hv
  subst hv
  rcases h3 with ⟨rfl, rfl⟩ | ⟨a, rfl, h4, h5⟩
  · obtain rfl : len = 0 := by omega
    exact ⟨none, [], 0, rfl, Nat.le_refl _, h2, by simp, .inl ⟨rfl, rfl⟩⟩
  · have h6 : ∀ i, i < len → ∃ x, w.cell? (a.add i) = some (.int k x) ∧ (Lit.int k x).wf = true := fun i hi => by
      obtain ⟨cs', hc, x, rfl, hx⟩ := h5 i hi
      obtain ⟨u, hu, hcell⟩ := cells?_one hc
      simp only [List.cons.injEq, and_true] at hu
      subst hu
      refine ⟨x, ?_, hx⟩
      rw [Nat.mul_one] at hcell
      rwa [show (a.add i).add 0 = a.add i from by unfold Addr.add; split <;> simp_all] at hcell
    have h7 : ∃ bs : List Int, bs.length = len ∧ ∀ i, (hi : i < bs.length) → w.cell? (a.add i) = some (.int k bs[i]) ∧ (Lit.int k bs[i]).wf = true := by
      clear h1 h5
      induction len with
      | zero => exact ⟨[], rfl, fun i hi => by simp at hi⟩
      | succ m ih =>
        obtain ⟨bs, hl, hb⟩ := ih fun i hi => h6 i (by omega)
        obtain ⟨x, hx1, hx2⟩ := h6 m (by omega)
        refine ⟨bs ++ [x], by simp [hl], fun i hi => ?_⟩
        by_cases e : i < bs.length
        · rw [List.getElem_append_left e]; exact hb i e
        · have : i = m := by simp at hi; omega
          subst this
          simp [hl, hx1, hx2]
    obtain ⟨bs, rfl, hb⟩ := h7
    refine ⟨some a, bs, cap, rfl, h1, h2, fun x hx => ?_, .inr ⟨a, rfl, h4, fun j u hj => ?_⟩⟩
    · obtain ⟨i, hi, rfl⟩ := List.getElem_of_mem hx
      exact (hb i hi).2
    · rw [List.getElem?_map] at hj
      obtain ⟨x, hx, rfl⟩ := Option.map_eq_some_iff.1 hj
      obtain ⟨hi, rfl⟩ := List.getElem?_eq_some_iff.1 hx
      exact (hb j hi).1

/-- A slice of bytes. -/
theorem Fits.bytes {w : World} {v : Value} (h : Fits w (.slice 1 1 (.int .u8)) [v]) : ∃ bs, Bytes w v bs ∧ Small bs ∧ bs.length ≤ 140737488351232 := by
  obtain ⟨ao, bs, cap, rfl, h1, h2, hw, h3⟩ := h.ints
  refine ⟨bs, ?_, fun x hx => wf_u8 (hw x hx), ?_⟩
  · rcases h3 with ⟨rfl, rfl⟩ | ⟨a, rfl, h4, h5⟩
    · have : bs = [] := List.eq_nil_of_length_eq_zero (by omega)
      subst this
      exact .inl ⟨rfl, rfl⟩
    · exact .inr ⟨a, cap, rfl, by omega, h5⟩
  · rcases h3 with ⟨rfl, rfl⟩ | ⟨a, rfl, h4, h5⟩ <;> omega

/-- The elements of a slice, each of n cells. -/
theorem Fits.elems {w : World} {n by_ : Nat} {e : Sh} {v : Value} (hn : 0 < n) (h : Fits w (.slice n by_ e) [v]) : ∃ (ao : Option Addr) (len cap : Nat), v = .slice ao len cap ∧ len ≤ cap ∧ cap ≤ maxLen ∧ cap * by_ ≤ 140737488351232 ∧
    ∀ i, i < len → ∃ b off cs, ao = some ⟨b, off, none⟩ ∧ cs.length = n ∧ (∀ j, j < n → w.cell? ⟨b, off + i * n + j, none⟩ = cs[j]?) ∧ Fits w e cs := by
  obtain ⟨ao, len, cap, hv, h1, h2, h3⟩ := h
  simp only [List.cons.injEq, and_true] at hv
  refine ⟨ao, len, cap, hv, h1, h2, ?_, fun i hi => ?_⟩
  · rcases h3 with ⟨rfl, rfl⟩ | ⟨a, rfl, h4, h5⟩
    · simp
    · exact h4
  · rcases h3 with ⟨rfl, rfl⟩ | ⟨a, rfl, h4, h5⟩
    · omega
    · obtain ⟨cs, hc, hf⟩ := h5 i hi
      obtain ⟨_, hlen, hcell⟩ := World.cells?_some hc
      obtain ⟨b, off, spot⟩ := a
      obtain ⟨cs0, hc0, -⟩ := h5 0 (by omega)
      obtain ⟨_, hlen0, hcell0⟩ := World.cells?_some hc0
      have h0 := (hcell0 0 (by omega)).trans (List.getElem?_eq_getElem (l := cs0) (i := 0) (by omega))
      have hsp : spot = none := by
        have := World.cell?_spot h0
        simpa [Addr.add] using this
      subst hsp
      refine ⟨b, off, cs, rfl, hlen, fun j hj => ?_, hf⟩
      have := hcell j hj
      rw [add_plain, add_plain] at this
      exact this

end Go.Gm
