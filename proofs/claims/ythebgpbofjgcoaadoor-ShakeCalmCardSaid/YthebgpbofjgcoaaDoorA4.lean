/- hear, under what the two know of one another. -/
import Derived.Test.YthebgpbofjgcoaaDoorA3
namespace Go.Gm
open Go.Proofs.YthebgpbofjgcoaaDoor
theorem Shk.take_up (s : Shk) (r : Bool) (k p st : Int) (l : Int) (hl : 1 ≤ l) : ((s.take r k p st).1.get l).up = (s.get l).up := by
  unfold Shk.take
  split
  · split
    · rename_i hp
      have h1 : 1 ≤ p := by simp only [Shk.has, Bool.and_eq_true, decide_eq_true_eq] at hp; exact hp.1
      have key : ∀ x : Lk, x.up = (s.get p).up → ((s.put p x).get l).up = (s.get l).up := by
        intro x hx
        by_cases e : l = p
        · subst e; rw [Shk.get_put_same hp]; exact hx
        · rw [Shk.get_put_ne h1 hl e]
      split
      · simp only
        split
        · exact key _ rfl
        · split <;> exact key _ rfl
      · rfl
    · rfl
  · rfl
end Go.Gm
namespace Go.Proofs.YthebgpbofjgcoaaDoor
open Go.RowKit Go.Gm
/-- A block of the call's own is written. -/
theorem Way.mine {w0 w w1 : World} {g b h c xs ws yb : Nat} {s t : Shk} {va vb : Value} {A B : List Itm} {cs : Array Value} (y : Way w0 w g b h c xs ws s t va vb A B) (hy : w.heap[yb]? = some (.cells cs 53 (0, 0))) (h0 : w0.heap.size ≤ yb) (ha : ¬ Leads va yb) (hb : ¬ Leads vb yb) (s1 : Step (· = yb) w w1) :
    Way w0 w1 g b h c xs ws s t va vb A B := by
  have t0 := y.t0
  refine ⟨y.one.step s1 (fun e => blk_ne y.one.st hy (by decide) e) (fun e => blk_ne y.one.row hy (by decide) e), y.two.step s1 (fun e => blk_ne y.two.st hy (by decide) e) (fun e => blk_ne y.two.row hy (by decide) e), s1.blk y.arr (fun e => blk_ne y.arr hy (by decide) e), s1.blk y.ways (fun e => blk_ne y.ways hy (by decide) e), y.ra.step s1 ?_, y.rb.step s1 ?_, y.g0, y.b0, y.h0, y.c0, y.ws0, y.la, y.lb, y.apart, y.gh, y.bc, y.st.trans s1 ?_, y.tab.step s1 ?_, y.t0⟩
  · rintro k hk rfl; exact ha hk
  · rintro k hk rfl; exact hb hk
  · intro k hk e; have e' : k = yb := e; show False; omega
  · intro e; have e' : 0 = yb := e; omega
/-- What hearing leaves. -/
structure Heard (s t s' : Shk) (A B A' B' : List Itm) (m : Int) : Prop where
  calm : Gm.Calm s' t A' B'
  ok : s'.Ok m
  la : A'.length ≤ A.length
  lb : B'.length ≤ B.length + 1
  less : Itm.weight A' + Itm.weight B' < Itm.weight A + Itm.weight B ∨ A = [] ∧ A' = A ∧ B' = B ∧ s' = s
  up : ∀ l : Int, 1 ≤ l → (s'.get l).up = (s.get l).up
theorem heard_none {s t : Shk} {B : List Itm} {m : Int} (h : Gm.Calm s t [] B) (ok : s.Ok m) : Heard s t s [] B [] B m := ⟨h, ok, Nat.le_refl _, Nat.le_succ _, .inr ⟨rfl, rfl, rfl, rfl⟩, fun _ _ => rfl⟩
theorem heard_frame {s t : Shk} {x : Itm} {r B : List Itm} {m : Int} (h : Gm.Calm s t (x :: r) B) (ok : s.Ok m) (hx : x.frame = true) : Heard s t s (x :: r) B r B m :=
  ⟨(h.swap.hearF hx).1.swap, ok, by simp, Nat.le_succ _, .inl (by rw [Itm.weight, if_pos hx]; omega), fun _ _ => rfl⟩
theorem heard_note {s t : Shk} {x : Itm} {r B : List Itm} {m : Int} (h : Gm.Calm s t (x :: r) B) (ok : s.Ok m) (hm : 0 ≤ m) (hx : x.frame = false) : Heard s t (s.hearN true x.note).1 (x :: r) B r (B ++ (s.hearN true x.note).2.1.map Itm.ofTell) m := by
  obtain ⟨h1, h2, h3, h4⟩ := h.swap.hear hx
  refine ⟨h3.swap, Shk.take_ok ok hm _ _ _ _, by simp, ?_, .inl (by omega), fun l hl => Shk.take_up s _ _ _ _ l hl⟩
  have : (s.hearN true x.note).2.1.length ≤ 1 := Shk.take_count s true x.note.kind x.note.port x.note.state
  rw [List.length_append, List.length_map]
  omega
theorem hear2A {w0 w : World} {g b h c xs ws : Nat} {s t : Shk} {va vb : Value} {A B : List Itm} {m : Int} (y : Way w0 w g b h c xs ws s t va vb A B) (hc : Gm.Calm s t A B) (ok : s.Ok m) (hm : 0 ≤ m) (hm2 : m ≤ 1000000) (hb : B.length ≤ 1000000) :
    Calls Tryd.prog 18 #[.pointer (some ⟨g, 0, none⟩), .pointer (some ⟨ws, 0, none⟩), .pointer (some ⟨ws, 1, none⟩)] w fun e w' => e = .returned (.bool true) ∧ ∃ s' va' vb' A' B', Way w0 w' g b h c xs ws s' t va' vb' A' B' ∧ Heard s t s' A B A' B' m ∧ Keep w w' := by
  cases A with
  | nil =>
    refine (hearA_none y).mono ?_
    rintro e w' ⟨rfl, rfl⟩
    exact ⟨rfl, _, _, _, _, _, y, heard_none hc ok, Keep.refl _⟩
  | cons x r =>
    cases hx : x.frame
    · refine (hearA_note y hx m ok hm hm2 hb).mono ?_
      obtain ⟨h1, h2, -, -⟩ := hc.swap.hear hx
      rw [h1, h2]
      rintro e w' ⟨rfl, v', u', hw, hk⟩
      exact ⟨rfl, _, _, _, _, _, hw, heard_note hc ok hm hx, hk⟩
    · refine (hearA_frame y hx ok.len (hc.swap.hearF hx).2).mono ?_
      rintro e w' ⟨rfl, v', hw, hk⟩
      exact ⟨rfl, _, _, _, _, _, hw, heard_frame hc ok hx, hk⟩
theorem hear2B {w0 w : World} {g b h c xs ws : Nat} {s t : Shk} {va vb : Value} {A B : List Itm} {m : Int} (y : Way w0 w g b h c xs ws s t va vb A B) (hc : Gm.Calm t s B A) (ok : t.Ok m) (hm : 0 ≤ m) (hm2 : m ≤ 1000000) (hb : A.length ≤ 1000000) :
    Calls Tryd.prog 18 #[.pointer (some ⟨h, 0, none⟩), .pointer (some ⟨ws, 1, none⟩), .pointer (some ⟨ws, 0, none⟩)] w fun e w' => e = .returned (.bool true) ∧ ∃ t' va' vb' A' B', Way w0 w' g b h c xs ws s t' va' vb' A' B' ∧ Heard t s t' B A B' A' m ∧ Keep w w' := by
  cases B with
  | nil =>
    refine (hearB_none y).mono ?_
    rintro e w' ⟨rfl, rfl⟩
    exact ⟨rfl, _, _, _, _, _, y, heard_none hc ok, Keep.refl _⟩
  | cons x r =>
    cases hx : x.frame
    · refine (hearB_note y hx m ok hm hm2 hb).mono ?_
      obtain ⟨h1, h2, -, -⟩ := hc.swap.hear hx
      rw [h1, h2]
      rintro e w' ⟨rfl, v', u', hw, hk⟩
      exact ⟨rfl, _, _, _, _, _, hw, heard_note hc ok hm hx, hk⟩
    · refine (hearB_frame y hx ok.len (hc.swap.hearF hx).2).mono ?_
      rintro e w' ⟨rfl, v', hw, hk⟩
      exact ⟨rfl, _, _, _, _, _, hw, heard_frame hc ok hx, hk⟩
end Go.Proofs.YthebgpbofjgcoaaDoor
