/- What two know of one another, and what is on the way: plain laws. -/
import Derived.Test.YthebgpbofjgcoaaDoorW13
namespace Go.Gm
open Go.Proofs.YthebgpbofjgcoaaDoor
namespace Shk
theorem get_put_same {s : Shk} {n : Int} (h : s.has n = true) (l : Lk) : (s.put n l).get n = l := by
  obtain ⟨k, rfl, hk⟩ := has_nat h
  rw [put_nat]
  unfold get
  rw [show ((k : Int) + 1 - 1).toNat = k by omega]
  simp [List.getD_eq_getElem?_getD, hk]
theorem get_put_ne {s : Shk} {n m : Int} (hn : 1 ≤ n) (hm : 1 ≤ m) (hne : m ≠ n) (l : Lk) : (s.put n l).get m = s.get m := by
  unfold get put
  simp only [List.getD_eq_getElem?_getD]
  rw [List.getElem?_set_ne (by omega)]
theorem has_three {s : Shk} (h : s.ls.length = 3) (n : Int) : s.has n = (decide (1 ≤ n) && decide (n ≤ 3)) := by simp [has, h]
/-- What a local change does, in session. -/
theorem loc_is {s : Shk} {n : Int} (h : s.has n = true) (hs : s.ses = true) (up : Bool) :
    (s.loc n up).1.ses = true ∧ (((s.loc n up).2.1 = [] ∧ (s.get n).up = up ∧ ∀ m, 1 ≤ m → (s.loc n up).1.get m = s.get m) ∨
      ((s.loc n up).2.1 = [⟨3, n, if up then 1 else 0⟩] ∧ (s.loc n up).1.get n = ⟨up, (s.get n).owed + (if up then 1 else 0), (s.get n).down⟩ ∧ ∀ m, 1 ≤ m → m ≠ n → (s.loc n up).1.get m = s.get m)) := by
  have hn : 1 ≤ n := by simp only [has, Bool.and_eq_true, decide_eq_true_eq] at h; exact h.1
  by_cases hq : (s.get n).up = up
  · have e : s.loc n up = (s.put n { s.get n with up := up }, [], 0) := by simp [loc, h, hq]
    rw [e]
    refine ⟨hs, .inl ⟨rfl, hq, fun m hm => ?_⟩⟩
    by_cases hmn : m = n
    · subst hmn
      rw [get_put_same h]
      rw [← hq]
    · exact get_put_ne hn hm hmn _
  · have e : s.loc n up = (((s.put n { s.get n with up := up }).memb n).1, [((s.put n { s.get n with up := up }).memb n).2], 0) := by simp [loc, h, hq, hs]
    have hg : (s.put n { s.get n with up := up }).get n = { s.get n with up := up } := get_put_same h _
    have hp : (s.put n { s.get n with up := up }).has n = true := by simpa [has, put_len] using h
    rw [e]
    cases up
    · have e2 : (s.put n { s.get n with up := false }).memb n = (s.put n { s.get n with up := false }, ⟨3, n, 0⟩) := by simp [memb, hg]
      rw [e2]
      refine ⟨hs, .inr ⟨rfl, ?_, fun m hm hmn => get_put_ne hn hm hmn _⟩⟩
      rw [hg]
      simp
    · have e2 : (s.put n { s.get n with up := true }).memb n = ((s.put n { s.get n with up := true }).put n ⟨true, (s.get n).owed + 1, (s.get n).down⟩, ⟨3, n, 1⟩) := by simp [memb, hg]
      rw [e2]
      refine ⟨hs, .inr ⟨rfl, ?_, fun m hm hmn => ?_⟩⟩
      · rw [get_put_same hp]
        simp
      · rw [get_put_ne hn hm hmn, get_put_ne hn hm hmn]
theorem loc_no {s : Shk} {n : Int} (h : s.has n = false) (up : Bool) : s.loc n up = (s, [], 1) := by simp [loc, h]
end Shk
namespace Itm
/-- What may be told. -/
def valid (x : Itm) : Prop := x.frame = false → (x.note.kind = 3 ∨ x.note.kind = 4) ∧ (1 ≤ x.note.port ∧ x.note.port ≤ 3) ∧ (x.note.state = 0 ∨ x.note.state = 1)
def is3 (l : Int) (x : Itm) : Bool := !x.frame && x.note.kind == 3 && x.note.port == l
def is4 (l : Int) (x : Itm) : Bool := !x.frame && x.note.kind == 4 && x.note.port == l
/-- Whether the other one's member is held for down, behind what is on the way. -/
def fin (l : Int) : Bool → List Itm → Bool
  | d, [] => d
  | d, x :: r => fin l (if x.is3 l then x.note.state == 0 else d) r
/-- No frame on the way was sent over the link where it is held for down. -/
def good (l : Nat) : Bool → List Itm → Prop
  | _, [] => True
  | d, x :: r => (x.frame = true → x.sent l = true → d = false) ∧ good l (if x.is3 l then x.note.state == 0 else d) r
def c3 (l : Int) : List Itm → Int
  | [] => 0
  | x :: r => (if x.is3 l && x.note.state != 0 then 1 else 0) + c3 l r
def c4 (l : Int) : List Itm → Int
  | [] => 0
  | x :: r => (if x.is4 l then 1 else 0) + c4 l r
def weight : List Itm → Nat
  | [] => 0
  | x :: r => (if x.frame then 1 else if x.note.kind = 3 then 2 else 1) + weight r
theorem fin_app (l : Int) : ∀ (a b : List Itm) (d : Bool), fin l d (a ++ b) = fin l (fin l d a) b
  | [], _, _ => rfl
  | _ :: r, b, _ => fin_app l r b _
theorem good_app (l : Nat) : ∀ (a b : List Itm) (d : Bool), good l d (a ++ b) ↔ good l d a ∧ good l (fin l d a) b
  | [], b, d => by simp [good, fin]
  | x :: r, b, d => by
    show _ ∧ good l _ (r ++ b) ↔ (_ ∧ good l _ r) ∧ good l (fin l _ r) b
    rw [good_app l r b]
    exact and_assoc.symm
theorem c3_app (l : Int) : ∀ (a b : List Itm), c3 l (a ++ b) = c3 l a + c3 l b
  | [], b => by simp [c3]
  | x :: r, b => by rw [List.cons_append, c3, c3, c3_app l r b]; omega
theorem c4_app (l : Int) : ∀ (a b : List Itm), c4 l (a ++ b) = c4 l a + c4 l b
  | [], b => by simp [c4]
  | x :: r, b => by rw [List.cons_append, c4, c4, c4_app l r b]; omega
theorem weight_app : ∀ (a b : List Itm), weight (a ++ b) = weight a + weight b
  | [], b => by simp [weight]
  | x :: r, b => by rw [List.cons_append, weight, weight, weight_app r b]; omega
theorem c3_pos (l : Int) : ∀ a : List Itm, 0 ≤ c3 l a
  | [] => Int.le_refl _
  | x :: r => by have := c3_pos l r; rw [c3]; split <;> omega
theorem c4_pos (l : Int) : ∀ a : List Itm, 0 ≤ c4 l a
  | [] => Int.le_refl _
  | x :: r => by have := c4_pos l r; rw [c4]; split <;> omega
end Itm

/-- Of one link: the one (s) as the other one (t) sees it; A: on the way to s, B: to t. -/
structure Lnk (l : Nat) (s t : Shk) (A B : List Itm) : Prop where
  fin : Itm.fin l (t.get l).down B = !(s.get l).up
  good : Itm.good l (t.get l).down B
  owe : (s.get l).owed = Itm.c3 l B + Itm.c4 l A
/-- Both, of all links. -/
structure Calm (s t : Shk) (A B : List Itm) : Prop where
  ses : s.ses = true
  tes : t.ses = true
  sl : s.ls.length = 3
  tl : t.ls.length = 3
  va : ∀ x ∈ A, x.valid
  vb : ∀ x ∈ B, x.valid
  one : ∀ l : Nat, 1 ≤ l → l ≤ 3 → Lnk l s t A B
  two : ∀ l : Nat, 1 ≤ l → l ≤ 3 → Lnk l t s B A
theorem Calm.swap {s t : Shk} {A B : List Itm} (h : Calm s t A B) : Calm t s B A := ⟨h.tes, h.ses, h.tl, h.sl, h.vb, h.va, h.two, h.one⟩
theorem is3_self {n st : Int} : (Itm.ofTell ⟨3, n, st⟩).is3 n = true := by simp [Itm.is3, Itm.ofTell]
theorem is3_ne {n m st : Int} (h : n ≠ m) : (Itm.ofTell ⟨3, n, st⟩).is3 m = false := by simp [Itm.is3, Itm.ofTell, h]
theorem is3_four {n m st : Int} : (Itm.ofTell ⟨4, n, st⟩).is3 m = false := by simp [Itm.is3, Itm.ofTell]
theorem is4_three {n m st : Int} : (Itm.ofTell ⟨3, n, st⟩).is4 m = false := by simp [Itm.is4, Itm.ofTell]
theorem is4_self {n st : Int} : (Itm.ofTell ⟨4, n, st⟩).is4 n = true := by simp [Itm.is4, Itm.ofTell]
theorem is4_ne {n m st : Int} (h : n ≠ m) : (Itm.ofTell ⟨4, n, st⟩).is4 m = false := by simp [Itm.is4, Itm.ofTell, h]

/-- A local change of the first one's. -/
theorem Calm.loc {s t : Shk} {A B : List Itm} (h : Calm s t A B) (n : Int) (up : Bool) : Calm (s.loc n up).1 t A (B ++ (s.loc n up).2.1.map Itm.ofTell) := by
  cases hn : s.has n
  · rw [Shk.loc_no hn]
    simpa using h
  obtain ⟨h1, h2⟩ := Shk.loc_is hn h.ses up
  have hb : 1 ≤ n ∧ n ≤ 3 := by rw [Shk.has_three h.sl] at hn; simpa using hn
  have hlen := (Shk.loc_len s n up).trans h.sl
  generalize (s.loc n up).1 = s' at *
  generalize (s.loc n up).2.1 = q at *
  rcases h2 with ⟨rfl, -, h3⟩ | ⟨rfl, h3, h4⟩
  · refine ⟨h1, h.tes, hlen, h.tl, h.va, by simpa using h.vb, fun l l1 l3 => ?_, fun l l1 l3 => ?_⟩
    · obtain ⟨a, b, c⟩ := h.one l l1 l3
      rw [List.map_nil, List.append_nil]
      exact ⟨by rw [h3 l (by omega)]; exact a, b, by rw [h3 l (by omega)]; exact c⟩
    · obtain ⟨a, b, c⟩ := h.two l l1 l3
      rw [List.map_nil, List.append_nil]
      exact ⟨by rw [h3 l (by omega)]; exact a, by rw [h3 l (by omega)]; exact b, c⟩
  · simp only [List.map_cons, List.map_nil]
    refine ⟨h1, h.tes, hlen, h.tl, h.va, ?_, fun l l1 l3 => ?_, fun l l1 l3 => ?_⟩
    · intro x hx
      rcases List.mem_append.1 hx with hx | hx
      · exact h.vb x hx
      · simp only [List.mem_cons, List.not_mem_nil, or_false] at hx
        subst hx
        exact fun _ => ⟨.inl rfl, hb, by show (if up then (1 : Int) else 0) = 0 ∨ _ = 1; cases up <;> simp [Itm.ofTell]⟩
    · obtain ⟨a, b, c⟩ := h.one l l1 l3
      by_cases hl : n = l
      · subst hl
        refine ⟨?_, ?_, ?_⟩
        · rw [Itm.fin_app, h3]
          show Itm.fin (l : Int) (if (Itm.ofTell ⟨3, (l : Int), if up then 1 else 0⟩).is3 l then _ else _) [] = _
          rw [is3_self]
          cases up <;> rfl
        · rw [Itm.good_app]
          exact ⟨b, fun hf => by exact absurd hf (by simp [Itm.ofTell]), trivial⟩
        · rw [h3, Itm.c3_app]
          show (s.get l).owed + _ = Itm.c3 l B + ((if (Itm.ofTell ⟨3, (l : Int), if up then 1 else 0⟩).is3 l && _ then 1 else 0) + 0) + _
          rw [is3_self]
          cases up <;> simp [Itm.ofTell] <;> omega
      · have hg := h4 l (by omega) (fun e => hl e.symm)
        refine ⟨?_, ?_, ?_⟩
        · rw [Itm.fin_app, hg, a]
          show Itm.fin (l : Int) (if (Itm.ofTell ⟨3, n, if up then 1 else 0⟩).is3 l then _ else _) [] = _
          rw [is3_ne hl]
          rfl
        · rw [Itm.good_app]
          exact ⟨b, fun hf => by exact absurd hf (by simp [Itm.ofTell]), trivial⟩
        · rw [hg, Itm.c3_app, c]
          show _ = Itm.c3 l B + ((if (Itm.ofTell ⟨3, n, if up then 1 else 0⟩).is3 l && _ then 1 else 0) + 0) + _
          rw [is3_ne hl]
          simp
    · obtain ⟨a, b, c⟩ := h.two l l1 l3
      have hd : (s'.get l).down = (s.get l).down := by
        by_cases hl : n = l
        · subst hl; rw [h3]
        · rw [h4 l (by omega) (fun e => hl e.symm)]
      refine ⟨by rw [hd]; exact a, by rw [hd]; exact b, ?_⟩
      rw [Itm.c4_app, c]
      show _ = _ + (_ + ((if (Itm.ofTell ⟨3, n, if up then 1 else 0⟩).is4 l then 1 else 0) + 0))
      rw [is4_three]
      simp
/-- A frame of the first one's. -/
theorem Calm.frame {s t : Shk} {A B : List Itm} (h : Calm s t A B) : Calm s t A (B ++ [Itm.ofFrame (s.serves 1) (s.serves 2) (s.serves 3)]) := by
  have hs : ∀ l : Nat, 1 ≤ l → l ≤ 3 → (Itm.ofFrame (s.serves 1) (s.serves 2) (s.serves 3)).sent l = s.serves l := by
    intro l l1 l3
    rcases (show l = 1 ∨ l = 2 ∨ l = 3 by omega) with rfl | rfl | rfl <;> rfl
  refine ⟨h.ses, h.tes, h.sl, h.tl, h.va, ?_, fun l l1 l3 => ?_, fun l l1 l3 => ?_⟩
  · intro x hx
    rcases List.mem_append.1 hx with hx | hx
    · exact h.vb x hx
    · simp only [List.mem_cons, List.not_mem_nil, or_false] at hx
      subst hx
      exact fun hf => by exact absurd hf (by simp [Itm.ofFrame])
  · obtain ⟨a, b, c⟩ := h.one l l1 l3
    refine ⟨?_, ?_, ?_⟩
    · rw [Itm.fin_app, a]; rfl
    · rw [Itm.good_app]
      refine ⟨b, fun _ hq => ?_, trivial⟩
      rw [hs l l1 l3] at hq
      rw [a]
      simp only [Shk.serves, Bool.and_eq_true] at hq
      simp [hq.1.2]
    · rw [Itm.c3_app, c]
      show _ = _ + (0 + 0) + _
      omega
  · obtain ⟨a, b, c⟩ := h.two l l1 l3
    refine ⟨a, b, ?_⟩
    rw [Itm.c4_app, c]
    show _ = _ + (_ + (0 + 0))
    omega
theorem right_three {p st : Int} {k : Int} (hk : k = 3 ∨ k = 4) (hp : 1 ≤ p ∧ p ≤ 3) (hs : st = 0 ∨ st = 1) : right (Tell.note ⟨k, p, st⟩) = true := by
  have f : ∀ i : Fin 5, 3 ≤ i.val → hasB i.val 1 = false ∧ hasB i.val 2 = false ∧ hasB i.val 4 = true ∧ hasB i.val 8 = true ∧ hasB i.val 16 = false := by decide
  rcases hk with rfl | rfl
  · obtain ⟨a, b, c, d, e⟩ := f 3 (by decide)
    simp only [right, rightAt, Tell.note, fit, bnd, Note.noMac, isIn, states, show (3 : Int).toNat = 3 by rfl, show hasB 3 1 = false from a, show hasB 3 2 = false from b, show hasB 3 4 = true from c, show hasB 3 8 = true from d, show hasB 3 16 = false from e]
    simp
    omega
  · obtain ⟨a, b, c, d, e⟩ := f 4 (by decide)
    simp only [right, rightAt, Tell.note, fit, bnd, Note.noMac, isIn, states, show (4 : Int).toNat = 4 by rfl, show hasB 4 1 = false from a, show hasB 4 2 = false from b, show hasB 4 4 = true from c, show hasB 4 8 = true from d, show hasB 4 16 = false from e]
    simp
    omega
namespace Shk
theorem take_three {t : Shk} {p st : Int} (h : t.has p = true) (hs : t.ses = true) : t.take true 3 p st = (t.put p { t.get p with down := st == 0 }, if st = 0 then [] else [⟨4, p, 1⟩], 0) := by
  unfold take
  by_cases h0 : st = 0 <;> simp [h, hs, h0]
theorem take_four {t : Shk} {p st : Int} (h : t.has p = true) (hs : t.ses = true) : t.take true 4 p st = (t.put p { t.get p with owed := max ((t.get p).owed - 1) 0 }, [], 0) := by
  unfold take
  simp [h, hs]
end Shk
/-- The second one hears a note. -/
theorem Calm.hear {s t : Shk} {A r : List Itm} {x : Itm} (h : Calm s t A (x :: r)) (hx : x.frame = false) :
    right (Tell.note x.note) = true ∧ (t.hearN true x.note).2.2 = 0 ∧ Calm s (t.hearN true x.note).1 (A ++ (t.hearN true x.note).2.1.map Itm.ofTell) r ∧
      Itm.weight (A ++ (t.hearN true x.note).2.1.map Itm.ofTell) + Itm.weight r < Itm.weight A + Itm.weight (x :: r) := by
  obtain ⟨hk, hp, hst⟩ := h.vb x (List.mem_cons_self ..) hx
  have hr := right_three hk hp hst
  obtain ⟨⟨kd, p, st⟩, fr, s1, s2, s3⟩ := x
  simp only at hx hk hp hst hr
  subst hx
  have hh : t.has p = true := by rw [Shk.has_three h.tl]; simpa using hp
  have vr : ∀ y ∈ r, y.valid := fun y hy => h.vb y (List.mem_cons_of_mem _ hy)
  refine ⟨hr, ?_⟩
  rcases hk with rfl | rfl
  · have e : t.hearN true ⟨3, p, st⟩ = (t.put p { t.get p with down := st == 0 }, if st = 0 then [] else [⟨4, p, 1⟩], 0) := Shk.take_three hh h.tes
    rw [e]
    have gs := Shk.get_put_same hh { t.get p with down := st == 0 }
    have gn := fun m (h1 : 1 ≤ m) (h2 : m ≠ p) => Shk.get_put_ne (s := t) hp.1 h1 h2 { t.get p with down := st == 0 }
    have hlen := (Shk.put_len t p { t.get p with down := st == 0 }).trans h.tl
    have hses : (t.put p { t.get p with down := st == 0 }).ses = true := h.tes
    simp only
    generalize t.put p { t.get p with down := st == 0 } = t' at *
    refine ⟨trivial, ⟨h.ses, hses, h.sl, hlen, ?_, vr, fun l l1 l3 => ?_, fun l l1 l3 => ?_⟩, ?_⟩
    · intro y hy
      rcases List.mem_append.1 hy with hy | hy
      · exact h.va y hy
      · split at hy
        · simp at hy
        · simp only [List.map_cons, List.map_nil, List.mem_cons, List.not_mem_nil, or_false] at hy
          subst hy
          exact fun _ => ⟨.inr rfl, hp, .inr rfl⟩
    · obtain ⟨a, b, c⟩ := h.one l l1 l3
      by_cases hl : p = l
      · subst hl
        have i3 : (⟨⟨3, (l : Int), st⟩, false, s1, s2, s3⟩ : Itm).is3 l = true := by simp [Itm.is3]
        simp only [Itm.fin, i3, if_true] at a
        simp only [Itm.good, i3, if_true] at b
        simp only [Itm.c3, i3, Bool.true_and] at c
        refine ⟨by rw [gs]; exact a, by rw [gs]; exact b.2, ?_⟩
        rw [Itm.c4_app, c]
        rcases hst with rfl | rfl
        · simp [Itm.c4]
        · simp only [List.map_cons, List.map_nil, Itm.c4, is4_self, show ¬ (1 : Int) = 0 by decide, if_false, if_true]
          simp
          omega
      · have i3 : (⟨⟨3, p, st⟩, false, s1, s2, s3⟩ : Itm).is3 l = false := by simp [Itm.is3, hl]
        simp only [Itm.fin, i3, Bool.false_eq_true, if_false] at a
        simp only [Itm.good, i3, Bool.false_eq_true, if_false] at b
        simp only [Itm.c3, i3, Bool.false_and, Bool.false_eq_true, if_false] at c
        have g := gn l (by omega) (fun e => hl e.symm)
        refine ⟨by rw [g]; exact a, by rw [g]; exact b.2, ?_⟩
        rw [Itm.c4_app, c]
        split
        · simp [Itm.c4]
        · simp only [List.map_cons, List.map_nil, Itm.c4, is4_ne hl]
          simp
    · obtain ⟨a, b, c⟩ := h.two l l1 l3
      have hu : (t'.get l).up = (t.get l).up ∧ (t'.get l).owed = (t.get l).owed := by
        by_cases hl : p = l
        · subst hl; rw [gs]; exact ⟨rfl, rfl⟩
        · rw [gn l (by omega) (fun e => hl e.symm)]; exact ⟨rfl, rfl⟩
      have i4 : (⟨⟨3, p, st⟩, false, s1, s2, s3⟩ : Itm).is4 l = false := by simp [Itm.is4]
      simp only [Itm.c4, i4, Bool.false_eq_true, if_false] at c
      refine ⟨?_, ?_, ?_⟩
      · rw [hu.1, Itm.fin_app, a]
        split
        · rfl
        · simp only [List.map_cons, List.map_nil, Itm.fin, is3_four]
          simp
      · rw [Itm.good_app]
        refine ⟨b, ?_⟩
        split
        · trivial
        · exact ⟨fun hf => by exact absurd hf (by simp [Itm.ofTell]), trivial⟩
      · rw [hu.2, Itm.c3_app, c]
        split
        · simp [Itm.c3]
        · simp only [List.map_cons, List.map_nil, Itm.c3, is3_four]
          simp
    · rw [Itm.weight_app, Itm.weight]
      split
      · simp [Itm.weight]
      · simp [Itm.weight, Itm.ofTell]
        omega
  · have e : t.hearN true ⟨4, p, st⟩ = (t.put p { t.get p with owed := max ((t.get p).owed - 1) 0 }, [], 0) := Shk.take_four hh h.tes
    rw [e]
    have gs := Shk.get_put_same hh { t.get p with owed := max ((t.get p).owed - 1) 0 }
    have gn := fun m (h1 : 1 ≤ m) (h2 : m ≠ p) => Shk.get_put_ne (s := t) hp.1 h1 h2 { t.get p with owed := max ((t.get p).owed - 1) 0 }
    have hlen := (Shk.put_len t p { t.get p with owed := max ((t.get p).owed - 1) 0 }).trans h.tl
    have hses : (t.put p { t.get p with owed := max ((t.get p).owed - 1) 0 }).ses = true := h.tes
    simp only [List.map_nil, List.append_nil]
    generalize t.put p { t.get p with owed := max ((t.get p).owed - 1) 0 } = t' at *
    refine ⟨trivial, ⟨h.ses, hses, h.sl, hlen, h.va, vr, fun l l1 l3 => ?_, fun l l1 l3 => ?_⟩, ?_⟩
    · obtain ⟨a, b, c⟩ := h.one l l1 l3
      have hd : (t'.get l).down = (t.get l).down := by
        by_cases hl : p = l
        · subst hl; rw [gs]
        · rw [gn l (by omega) (fun e => hl e.symm)]
      have i3 : (⟨⟨4, p, st⟩, false, s1, s2, s3⟩ : Itm).is3 l = false := by simp [Itm.is3]
      simp only [Itm.fin, i3, Bool.false_eq_true, if_false] at a
      simp only [Itm.good, i3, Bool.false_eq_true, if_false] at b
      simp only [Itm.c3, i3, Bool.false_and, Bool.false_eq_true, if_false] at c
      exact ⟨by rw [hd]; exact a, by rw [hd]; exact b.2, by omega⟩
    · obtain ⟨a, b, c⟩ := h.two l l1 l3
      by_cases hl : p = l
      · subst hl
        have i4 : (⟨⟨4, (l : Int), st⟩, false, s1, s2, s3⟩ : Itm).is4 l = true := by simp [Itm.is4]
        simp only [Itm.c4, i4, if_true] at c
        refine ⟨by rw [gs]; exact a, b, ?_⟩
        rw [gs]
        have := Itm.c3_pos l A
        have := Itm.c4_pos l r
        show max ((t.get l).owed - 1) 0 = _
        omega
      · have i4 : (⟨⟨4, p, st⟩, false, s1, s2, s3⟩ : Itm).is4 l = false := by simp [Itm.is4, hl]
        simp only [Itm.c4, i4, Bool.false_eq_true, if_false] at c
        have g := gn l (by omega) (fun e => hl e.symm)
        exact ⟨by rw [g]; exact a, b, by rw [g]; omega⟩
    · rw [Itm.weight]
      simp
/-- The second one hears a frame. -/
theorem Calm.hearF {s t : Shk} {A r : List Itm} {x : Itm} (h : Calm s t A (x :: r)) (hx : x.frame = true) : Calm s t A r ∧ (∀ k : Nat, 1 ≤ k → k ≤ 3 → x.sent k = true → t.blocked (k : Int) = true) := by
  have i3 : ∀ l : Int, x.is3 l = false := fun l => by simp [Itm.is3, hx]
  have i4 : ∀ l : Int, x.is4 l = false := fun l => by simp [Itm.is4, hx]
  refine ⟨⟨h.ses, h.tes, h.sl, h.tl, h.va, fun y hy => h.vb y (List.mem_cons_of_mem _ hy), fun l l1 l3 => ?_, fun l l1 l3 => ?_⟩, fun k k1 k3 hs => ?_⟩
  · obtain ⟨a, b, c⟩ := h.one l l1 l3
    simp only [Itm.fin, i3, Bool.false_eq_true, if_false] at a
    simp only [Itm.good, i3, Bool.false_eq_true, if_false] at b
    simp only [Itm.c3, i3, Bool.false_and, Bool.false_eq_true, if_false] at c
    exact ⟨a, b.2, by omega⟩
  · obtain ⟨a, b, c⟩ := h.two l l1 l3
    simp only [Itm.c4, i4, Bool.false_eq_true, if_false] at c
    exact ⟨a, b, by omega⟩
  · have b := (h.one k k1 k3).good
    have hd := b.1 hx hs
    unfold Shk.blocked
    rw [hd]
    simp
theorem start_is (u1 u2 u3 d1 d2 d3 p q : Bool) (o1 o2 o3 : Int) : Shk.start ⟨[⟨u1, o1, d1⟩, ⟨u2, o2, d2⟩, ⟨u3, o3, d3⟩], p, q⟩ =
    (⟨[⟨u1, if u1 then 1 else 0, false⟩, ⟨u2, if u2 then 1 else 0, false⟩, ⟨u3, if u3 then 1 else 0, false⟩], true, false⟩, [⟨3, 1, if u1 then 1 else 0⟩, ⟨3, 2, if u2 then 1 else 0⟩, ⟨3, 3, if u3 then 1 else 0⟩]) := by
  cases u1 <;> cases u2 <;> cases u3 <;> rfl
theorem good_notes : ∀ (l : Nat) (q : List Itm) (d : Bool), (∀ x ∈ q, x.frame = false) → Itm.good l d q
  | _, [], _, _ => trivial
  | l, x :: r, d, h => ⟨fun hf => by rw [h x (List.mem_cons_self ..)] at hf; exact absurd hf (by decide), good_notes l r _ fun y hy => h y (List.mem_cons_of_mem _ hy)⟩
/-- Behind the beginning of both. -/
theorem Calm.started {s t : Shk} (hs : s.ls.length = 3) (ht : t.ls.length = 3) : Calm s.start.1 t.start.1 (t.start.2.map Itm.ofTell) (s.start.2.map Itm.ofTell) := by
  obtain ⟨ls, p, q⟩ := s
  obtain ⟨lt, p', q'⟩ := t
  match ls, hs, lt, ht with
  | [⟨u1, o1, d1⟩, ⟨u2, o2, d2⟩, ⟨u3, o3, d3⟩], _, [⟨v1, o4, d4⟩, ⟨v2, o5, d5⟩, ⟨v3, o6, d6⟩], _ =>
    rw [start_is, start_is]
    have fr : ∀ (l : List Tell), ∀ x ∈ l.map Itm.ofTell, x.frame = false := by
      intro l x hx
      obtain ⟨y, -, rfl⟩ := List.mem_map.1 hx
      rfl
    have valid : ∀ (u1 u2 u3 : Bool), ∀ x ∈ [(⟨3, 1, if u1 then 1 else 0⟩ : Tell), ⟨3, 2, if u2 then 1 else 0⟩, ⟨3, 3, if u3 then 1 else 0⟩].map Itm.ofTell, x.valid := by
      intro u1 u2 u3 x hx
      simp only [List.map_cons, List.map_nil, List.mem_cons, List.not_mem_nil, or_false] at hx
      rcases hx with rfl | rfl | rfl
      · exact fun _ => ⟨.inl rfl, ⟨show (1 : Int) ≤ 1 by decide, show (1 : Int) ≤ 3 by decide⟩, by cases u1 <;> simp [Itm.ofTell]⟩
      · exact fun _ => ⟨.inl rfl, ⟨show (1 : Int) ≤ 2 by decide, show (2 : Int) ≤ 3 by decide⟩, by cases u2 <;> simp [Itm.ofTell]⟩
      · exact fun _ => ⟨.inl rfl, ⟨show (1 : Int) ≤ 3 by decide, show (3 : Int) ≤ 3 by decide⟩, by cases u3 <;> simp [Itm.ofTell]⟩
    refine ⟨rfl, rfl, rfl, rfl, valid _ _ _, valid _ _ _, fun l l1 l3 => ?_, fun l l1 l3 => ?_⟩
    · rcases (show l = 1 ∨ l = 2 ∨ l = 3 by omega) with rfl | rfl | rfl
      · exact ⟨by cases u1 <;> rfl, good_notes _ _ _ (fr _), by cases u1 <;> rfl⟩
      · exact ⟨by cases u2 <;> rfl, good_notes _ _ _ (fr _), by cases u2 <;> rfl⟩
      · exact ⟨by cases u3 <;> rfl, good_notes _ _ _ (fr _), by cases u3 <;> rfl⟩
    · rcases (show l = 1 ∨ l = 2 ∨ l = 3 by omega) with rfl | rfl | rfl
      · exact ⟨by cases v1 <;> rfl, good_notes _ _ _ (fr _), by cases v1 <;> rfl⟩
      · exact ⟨by cases v2 <;> rfl, good_notes _ _ _ (fr _), by cases v2 <;> rfl⟩
      · exact ⟨by cases v3 <;> rfl, good_notes _ _ _ (fr _), by cases v3 <;> rfl⟩
end Go.Gm
