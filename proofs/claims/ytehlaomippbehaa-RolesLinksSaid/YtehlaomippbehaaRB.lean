/- What came in stays beside a list that is built. -/
import Derived.Test.YtehlaomippbehaaRA
namespace Go.Proofs.Ytehlaomippbehaa
open Go.RowKit Go.Gm
theorem hears_app {w0 w w' : World} {v : Value} {d l : List Hrd} {ao : Option Addr} (h : Hears w ao l) (ls : Lst w0 w v d) (hs : Step (Leads v) w w') (ho : ∀ b off, l ≠ [] → ao = some ⟨b, off, none⟩ → b < w0.heap.size) : Hears w' ao l := fun i x hx => by
  obtain ⟨f, b, off, e, hc⟩ := h i x hx
  refine ⟨f, b, off, e, fun j u hu => ?_⟩
  have := hc j u hu
  rw [hs.cell (p := ⟨b, off + i * 21 + j, none⟩) (World.block_lt_of_cell? w _ this) (fun hk => by
    have h1 : w0.heap.size ≤ b := ls.new _ hk
    have := ho b off (fun hl => by subst hl; simp at hx) e
    omega)]
  exact this
end Go.Proofs.Ytehlaomippbehaa
