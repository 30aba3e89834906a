/- read: the deferred closure. -/
import Derived.Test.YtfpdfenepelcdaaD4
import Derived.Defers
import Derived.Recover
import Derived.Laws.Pointers
namespace Go.Proofs.Ytfpdfenepelcdaa
open Go.RowKit Go.Gm

def bareC : Array Value := (bare 0).cells

theorem assert_nil (w : World) : (Instr.typeAssert Value.nilIface 20 64 true).run Try.prog w = .ok (.tuple #[.agg #[], .bool false]) w := by kernel_rfl
theorem assert_short (w : World) : (Instr.typeAssert (.iface 64 (.agg #[])) 20 64 true).run Try.prog w = .ok (.tuple #[.agg #[], .bool true]) w := by kernel_rfl

theorem catch_idle (P F : Nat) (w : World) : CallsD Try.prog 35 #[.pointer (some ⟨P, 0, none⟩), .pointer (some ⟨F, 0, none⟩)] .returning w fun e u' w' => e = .returned (.tuple #[]) ∧ u' = .returning ∧ w' = w.alloc (.cells #[] 64) := by
  refine callsD_of_wpS Try.func35 rfl fun c₀ cs hu => ?_
  apply wpS_seq
  apply wpS_region
  simp [wpOpsS, go_sem, recoverD, hu, Try.ntmps35, Exit.thenS, assert_nil]
  apply wpS_seq
  apply wpS_region
  simp [wpOpsS, go_sem, Exit.thenS]
  refine wpS_cond (t := false) (by simp [Act.eval, Array.replicate]) ?_
  simp only [Bool.false_eq_true, if_false]
  refine wpS_of_wp (wp_skip ?_)
  cases c₀
  simp_all [bodyPostS, results, Try.results35]

theorem catch_panicking (P F : Nat) (old : Array Value) (x : Value) (w : World) (hp : w.heap[P]? = some (.cells old 27 (0, 0))) (hs : old.size = 22) (hf : w.heap[F]? = some (.cells #[x] 4 (0, 0))) :
    CallsD Try.prog 35 #[.pointer (some ⟨P, 0, none⟩), .pointer (some ⟨F, 0, none⟩)] (.panicking ({ v := .iface 64 (.agg #[]), recovered := false } :: [])) w fun e u' w' =>
      e = .returned (.tuple #[]) ∧ u' = .panicking ({ v := .iface 64 (.agg #[]), recovered := true } :: []) ∧ w' = ((w.alloc (.cells #[] 64)).setRow P (bare 0).cells).setCell ⟨F, 0, none⟩ (.bool false) := by
  refine callsD_of_wpS Try.func35 rfl fun c₀ cs hu => ?_
  apply wpS_seq
  apply wpS_region
  simp [wpOpsS, go_sem, recoverD, hu, Try.ntmps35, Exit.thenS, assert_short]
  have hb : (w.alloc (.cells #[] 64)).heap[P]? = some (.cells old 27 (0, 0)) := ((Step.refl None w).alloc _).blk hp (fun s => s.elim)
  have hg : (w.alloc (.cells #[] 64)).heap[F]? = some (.cells #[x] 4 (0, 0)) := ((Step.refl None w).alloc _).blk hf (fun s => s.elim)
  generalize w.alloc (.cells #[] 64) = W at *
  have hFP : F ≠ P := blk_ne hg hb (by decide)
  have hg2 := (setRow_other W P F (bare 0).cells hFP).trans hg
  have cF := blk_cell hg2 0
  have fF := blk_frozen hg2 0
  simp only [List.getElem?_toArray, List.getElem?_cons_zero] at cF
  apply wpS_seq
  apply wpS_region
  simp [wpOpsS, go_sem, Exit.thenS]
  refine wpS_cond (t := true) (by simp [Act.eval, Array.replicate]) ?_
  simp only [if_true]
  refine wpS_of_wp ?_
  simp only [Array.replicate, List.replicate]
  simp
  refine wp_mono (Q := fun e a' w' => e = .normal ∧ a'.defers = [] ∧ w' = (W.setRow P (bare 0).cells).setCell ⟨F, 0, none⟩ (.bool false)) ?_ ?_
  · clear hg hu hp hf
    go_wp2_with (first
      | (refine wpList_store_row rfl 27 (.tmp 0) (.tmp 10) rfl P (bare 0).cells rfl rfl 27 old hb (by kernel_rfl) (by rw [hs]; rfl) (by kernel_rfl) ?_))
    done
  · rintro e a' w' ⟨rfl, hd, rfl⟩
    cases c₀
    simp_all [bodyPostS, results, Try.results35]
end Go.Proofs.Ytfpdfenepelcdaa
