/- ShakeOnce: what its walk needs; the body of its main loop. -/
import Derived.Test.YthebgpbofjgcoaaDoorA4
import Derived.Test.YthebgpbofjgcoaaDoorBits
namespace Go.Gm
/-- Ahead of the beginning. -/
structure Shk.Pre (s : Shk) : Prop where
  ses : s.ses = false
  len : s.ls.length = 3
  ok : s.Ok 0
theorem Shk.Pre.loc {s : Shk} (h : s.Pre) (n : Int) (up : Bool) : (s.loc n up).1.Pre := by
  refine ⟨?_, (Shk.loc_len s n up).trans h.len, ?_⟩
  · unfold Shk.loc
    split
    · simp only
      split
      · exact h.ses
      · rw [if_neg (by rw [h.ses]; decide)]; exact h.ses
    · exact h.ses
  · unfold Shk.loc
    split
    · have h1 := h.ok.put n (l := { s.get n with up := up }) (h.ok.get (Int.le_refl _) n)
      simp only
      split
      · exact h1
      · rw [if_neg (by rw [h.ses]; decide)]; exact h1
    · exact h.ok
end Go.Gm
namespace Go.Proofs.YthebgpbofjgcoaaDoor
open Go.RowKit Go.Gm
def RowsAt (w : World) (ao : Option Addr) (len : Nat) : Prop :=
  ∀ i, i < len → ∃ b off x y z, ao = some ⟨b, off, none⟩ ∧ w.cell? ⟨b, off + i * 3 + 0, none⟩ = some (.int .i64 x) ∧ w.cell? ⟨b, off + i * 3 + 1, none⟩ = some (.int .i64 y) ∧ w.cell? ⟨b, off + i * 3 + 2, none⟩ = some (.int .i64 z)
theorem rows_arg {w : World} {v : Value} (h : Arg w (.slice 3 24 (.arr 3 1 (.int .i64))) v) : ∃ ao len cap, v = .slice ao len cap ∧ len ≤ cap ∧ (len : Int) ≤ 9223372036854775807 ∧ RowsAt w ao len := by
  obtain ⟨ao, len, cap, rfl, h1, h2, h3, h4⟩ := (h.one rfl).elems (by decide)
  refine ⟨ao, len, cap, rfl, h1, by omega, fun i hi => ?_⟩
  obtain ⟨b, off, cs, rfl, hl, hc, hf⟩ := h4 i hi
  obtain ⟨x, hx, -⟩ := hf.2 0 (by decide)
  obtain ⟨y, hy, -⟩ := hf.2 1 (by decide)
  obtain ⟨z, hz, -⟩ := hf.2 2 (by decide)
  match cs, hl with
  | [p, q, r], _ =>
    simp at hx hy hz
    subst hx hy hz
    exact ⟨b, off, x, y, z, rfl, hc 0 (by decide), hc 1 (by decide), hc 2 (by decide)⟩
theorem pre0 : (shk0 3).Pre := ⟨rfl, rfl, ⟨by decide, by decide⟩⟩

def loopsOf : Code → List Code
  | .loop c => c :: loopsOf c
  | .seq a b => loopsOf a ++ loopsOf b
  | .block _ c => loopsOf c
  | .scope c => loopsOf c
  | .cond _ a b => loopsOf a ++ loopsOf b
  | _ => []
/-- The body of the main loop: the fifth one of the function. -/
noncomputable def onceBody : Code := ((Tryd.f4.body.bind fun c => (loopsOf c)[4]?).getD .skip)
end Go.Proofs.YthebgpbofjgcoaaDoor
