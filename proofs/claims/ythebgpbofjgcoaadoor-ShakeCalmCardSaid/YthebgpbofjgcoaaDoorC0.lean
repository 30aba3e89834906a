/- ShakeCalm: plain laws; the array beside the two; the bodies of its loops. -/
import Derived.Test.YthebgpbofjgcoaaDoorA4
import Derived.Test.YthebgpbofjgcoaaDoorBits
namespace Go.Gm
open Go.Proofs.YthebgpbofjgcoaaDoor
/-- What was told to be up last. -/
def isB (s t : Shk) : Array Value := #[.bool false, .bool (s.get 1).up, .bool (s.get 2).up, .bool (s.get 3).up, .bool false, .bool (t.get 1).up, .bool (t.get 2).up, .bool (t.get 3).up]
theorem isB_same {s t s' t' : Shk} (h1 : ∀ l : Int, 1 ≤ l → (s'.get l).up = (s.get l).up) (h2 : ∀ l : Int, 1 ≤ l → (t'.get l).up = (t.get l).up) : isB s' t' = isB s t := by
  unfold isB
  rw [h1 1 (by decide), h1 2 (by decide), h1 3 (by decide), h2 1 (by decide), h2 2 (by decide), h2 3 (by decide)]
theorem Shk.loc_up {s : Shk} {n : Int} (h : s.has n = true) (hs : s.ses = true) (up : Bool) : ((s.loc n up).1.get n).up = up ∧ ∀ m : Int, 1 ≤ m → m ≠ n → ((s.loc n up).1.get m).up = (s.get m).up := by
  obtain ⟨-, h2⟩ := Shk.loc_is h hs up
  have hn : 1 ≤ n := by simp only [Shk.has, Bool.and_eq_true, decide_eq_true_eq] at h; exact h.1
  rcases h2 with ⟨-, h3, h4⟩ | ⟨-, h3, h4⟩
  · exact ⟨by rw [h4 n hn, h3], fun m hm _ => by rw [h4 m hm]⟩
  · exact ⟨by rw [h3], fun m hm hne => by rw [h4 m hm hne]⟩
theorem isB_loc1 {s t : Shk} (hl : s.ls.length = 3) (hs : s.ses = true) (n : Nat) (h1 : 1 ≤ n) (h3 : n ≤ 3) (up : Bool) : (isB s t).setIfInBounds n (.bool up) = isB (s.loc n up).1 t := by
  have hh : s.has (n : Int) = true := by rw [Shk.has_three hl]; simp; omega
  obtain ⟨u1, u2⟩ := Shk.loc_up hh hs up
  have hc : n = 1 ∨ n = 2 ∨ n = 3 := by omega
  unfold isB
  rcases hc with rfl | rfl | rfl
  · rw [show (1 : Int) = ((1 : Nat) : Int) from rfl, u1, u2 2 (by decide) (by decide), u2 3 (by decide) (by decide)]; rfl
  · rw [show (2 : Int) = ((2 : Nat) : Int) from rfl, u1, u2 1 (by decide) (by decide), u2 3 (by decide) (by decide)]; rfl
  · rw [show (3 : Int) = ((3 : Nat) : Int) from rfl, u1, u2 1 (by decide) (by decide), u2 2 (by decide) (by decide)]; rfl
theorem isB_loc2 {s t : Shk} (hl : t.ls.length = 3) (hs : t.ses = true) (n : Nat) (h1 : 1 ≤ n) (h3 : n ≤ 3) (up : Bool) : (isB s t).setIfInBounds (4 + n) (.bool up) = isB s (t.loc n up).1 := by
  have hh : t.has (n : Int) = true := by rw [Shk.has_three hl]; simp; omega
  obtain ⟨u1, u2⟩ := Shk.loc_up hh hs up
  have hc : n = 1 ∨ n = 2 ∨ n = 3 := by omega
  unfold isB
  rcases hc with rfl | rfl | rfl
  · rw [show (1 : Int) = ((1 : Nat) : Int) from rfl, u1, u2 2 (by decide) (by decide), u2 3 (by decide) (by decide)]; rfl
  · rw [show (2 : Int) = ((2 : Nat) : Int) from rfl, u1, u2 1 (by decide) (by decide), u2 3 (by decide) (by decide)]; rfl
  · rw [show (3 : Int) = ((3 : Nat) : Int) from rfl, u1, u2 1 (by decide) (by decide), u2 2 (by decide) (by decide)]; rfl
/-- Where nothing is on the way. -/
theorem calm_end {s t : Shk} (h : Gm.Calm s t [] []) (l : Nat) (h1 : 1 ≤ l) (h3 : l ≤ 3) : s.serves l = (s.get l).up ∧ s.blocked l = (t.get l).up := by
  obtain ⟨a, -, c⟩ := h.one l h1 h3
  obtain ⟨a', -, -⟩ := h.two l h1 h3
  have hh : s.has (l : Int) = true := by rw [Shk.has_three h.sl]; simp; omega
  have c : (s.get l).owed = 0 := c
  have a' : (s.get l).down = !(t.get l).up := a'
  constructor
  · unfold Shk.serves
    rw [hh, h.ses, c]
    simp
  · unfold Shk.blocked
    rw [hh, h.ses, a']
    simp
end Go.Gm
namespace Go.Proofs.YthebgpbofjgcoaaDoor
open Go.RowKit Go.Gm
/-- A block of type 57 is written. -/
theorem Way.is {w0 w w1 : World} {g b h c xs ws yb : Nat} {s t : Shk} {va vb : Value} {A B : List Itm} {cs : Array Value} (y : Way w0 w g b h c xs ws s t va vb A B) (hy : w.heap[yb]? = some (.cells cs 57 (0, 0))) (h0 : w0.heap.size ≤ yb) (s1 : Step (· = yb) w w1) :
    Way w0 w1 g b h c xs ws s t va vb A B := by
  have t0 := y.t0
  refine ⟨y.one.step s1 (fun e => blk_ne y.one.st hy (by decide) e) (fun e => blk_ne y.one.row hy (by decide) e), y.two.step s1 (fun e => blk_ne y.two.st hy (by decide) e) (fun e => blk_ne y.two.row hy (by decide) e), s1.blk y.arr (fun e => blk_ne y.arr hy (by decide) e), s1.blk y.ways (fun e => blk_ne y.ways hy (by decide) e), y.ra.step s1 ?_, y.rb.step s1 ?_, y.g0, y.b0, y.h0, y.c0, y.ws0, y.la, y.lb, y.apart, y.gh, y.bc, y.st.trans s1 ?_, y.tab.step s1 ?_, y.t0⟩
  · rintro k hk rfl; exact y.ra.ne hy (by decide) hk
  · rintro k hk rfl; exact y.rb.ne hy (by decide) hk
  · intro k hk e; have e' : k = yb := e; show False; omega
  · intro e; have e' : 0 = yb := e; omega
def loopsIn : Code → List Code
  | .loop c => c :: loopsIn c
  | .seq a b => loopsIn a ++ loopsIn b
  | .block _ c => loopsIn c
  | .scope c => loopsIn c
  | .cond _ a b => loopsIn a ++ loopsIn b
  | _ => []
/-- The body of the main loop: the third one of the function; of the loop that hears what is left: the fifth. -/
noncomputable def calmBody : Code := ((Tryd.f5.body.bind fun c => (loopsIn c)[2]?).getD .skip)
noncomputable def drainBody : Code := ((Tryd.f5.body.bind fun c => (loopsIn c)[4]?).getD .skip)
end Go.Proofs.YthebgpbofjgcoaaDoor
