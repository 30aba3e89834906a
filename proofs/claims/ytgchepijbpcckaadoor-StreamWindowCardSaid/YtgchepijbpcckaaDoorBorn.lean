/- A region that draws, in which a call and a new variable's block stand beside one another, and a store of the one in the other comes last. Of no program. -/
import Derived.Test.YtgchepijbpcckaaDoorPlan
import Derived.Laws.Tables
import Derived.Laws.Rows
namespace Go
open Go.RowKit Go.Gm

theorem Gm.Step.setRow {S : Nat → Prop} {a w : World} (h : Step S a w) {g : Nat} (hg : g < a.heap.size → S g) (cs : Array Value) : Step S a (w.setRow g cs) :=
  ⟨h.os, h.tape, h.output, by rw [setRow_size]; exact h.size, fun k hk hn => (setRow_other w g k cs (fun e => hn (by subst e; exact hg hk))).trans (h.block k hk hn)⟩

theorem results_cell_row3 {P : Program} {fn : Func} {p u v : Tmp} {ty : TypeId} (h : fn.results = #[.cell p ty, .tmp u, .tmp v]) (tmps : Array Value) (w : World) (g : Nat) (t : TypeId) (cs : Array Value) (fr : Nat × Nat) (d : TypeDesc)
    (hp : tmps.getD p undef = .pointer (some ⟨g, 0, none⟩)) (hg : w.heap[g]? = some (.cells cs t fr))
    (hu : P.underlying ty = some d) (hd : (match d with | .struct _ | .array _ _ => true | _ => false) = true) (hi : (P.info? ty).map (·.size) = some cs.size) :
    (results fn tmps).run P w = .ok (.tuple #[.agg cs, tmps.getD u undef, tmps.getD v undef]) w := by
  have hp' : tmps[p]?.getD undef = .pointer (some ⟨g, 0, none⟩) := by simpa using hp
  simp [results, h, hp', asAddr, run_loadVar_row w g t ty cs fr d hg hu hd hi]
theorem results_cell_row2 {P : Program} {fn : Func} {p u : Tmp} {ty : TypeId} (h : fn.results = #[.cell p ty, .tmp u]) (tmps : Array Value) (w : World) (g : Nat) (t : TypeId) (cs : Array Value) (fr : Nat × Nat) (d : TypeDesc)
    (hp : tmps.getD p undef = .pointer (some ⟨g, 0, none⟩)) (hg : w.heap[g]? = some (.cells cs t fr))
    (hu : P.underlying ty = some d) (hd : (match d with | .struct _ | .array _ _ => true | _ => false) = true) (hi : (P.info? ty).map (·.size) = some cs.size) :
    (results fn tmps).run P w = .ok (.tuple #[.agg cs, tmps.getD u undef]) w := by
  have hp' : tmps[p]?.getD undef = .pointer (some ⟨g, 0, none⟩) := by simpa using hp
  simp [results, h, hp', asAddr, run_loadVar_row w g t ty cs fr d hg hu hd hi]
section
variable {P : Program} {ops : Array Oper} {Q : Exit → Act → World → Prop} {S : World → Prop}

theorem Goes.mono {o : Oper} {K L : Act → World → Prop} {a : Act} {w : World} (h : Goes P ops Q o K a w) (hKL : ∀ a' w', K a' w' → L a' w') : Goes P ops Q o L a w :=
  fun K' hK' => h K' (Lib.hid fun a' w' hk => hK'.out a' w' (hKL a' w' hk))

theorem wpPlan.born {oc oa os : Oper} {a : Act} {w : World} {v : Value} (F : Nat → Act) (zero cells : Array Value) (ty : TypeId)
    (hst : ∀ W, Step Gm.None w W → S W)
    (hc : ∀ b W, (b = a ∨ ∃ N, b = a.put oa.dst (.pointer (some ⟨N, 0, none⟩))) → Step Gm.None w W → Goes P ops Q oc (fun b' W' => b' = b.put oc.dst v ∧ Step Gm.None W W') b W)
    (ha : ∀ b W, (b = a ∨ b = a.put oc.dst v) → Goes P ops Q oa (fun b' W' => b' = b.put oa.dst (.pointer (some ⟨W.heap.size, 0, none⟩)) ∧ W' = W.alloc (.cells zero ty)) b W)
    (hs : ∀ b N W, (b = (a.put oc.dst v).put oa.dst (.pointer (some ⟨N, 0, none⟩)) ∨ b = (a.put oa.dst (.pointer (some ⟨N, 0, none⟩))).put oc.dst v) → W.heap[N]? = some (.cells zero ty (0, 0)) → Goes P ops Q os (fun b' W' => b' = F N ∧ W' = W.setRow N cells) b W)
    (hK : ∀ N W, Step Gm.None w W → w.heap.size ≤ N → W.heap[N]? = some (.cells cells ty (0, 0)) → Q .normal (F N) W) :
    wpPlan P ops Q S (.alt oc (.alt oa (.last os) .none) (.alt oa (.alt oc (.last os) .none) .none)) a w := by
  refine ⟨?_, ?_, trivial⟩
  · refine (hc a w (.inl rfl) (Step.refl _ w)).mono ?_
    rintro b W ⟨rfl, s1⟩
    refine ⟨hst W s1, ?_, trivial⟩
    refine (ha _ W (.inr rfl)).mono ?_
    rintro b W2 ⟨rfl, rfl⟩
    refine ⟨hst _ (s1.alloc _), ?_⟩
    refine (hs _ W.heap.size _ (.inl rfl) (heap_alloc_new W _)).mono ?_
    rintro b W3 ⟨rfl, rfl⟩
    exact hK _ _ ((s1.alloc _).setRow (fun h => by have := s1.size; omega) _) s1.size (setRow_heap _ _ _ _ _ _ (heap_alloc_new W _))
  · refine (ha a w (.inl rfl)).mono ?_
    rintro b W ⟨rfl, rfl⟩
    refine ⟨hst _ ((Step.refl _ w).alloc _), ?_, trivial⟩
    refine (hc _ _ (.inr ⟨_, rfl⟩) ((Step.refl _ w).alloc _)).mono ?_
    rintro b W2 ⟨rfl, s2⟩
    have s1 := ((Step.refl Gm.None w).alloc (.cells zero ty)).then_ s2
    have hb := s2.blk (heap_alloc_new w (.cells zero ty)) (fun s => s.elim)
    refine ⟨hst _ s1, ?_⟩
    refine (hs _ w.heap.size _ (.inr rfl) hb).mono ?_
    rintro b W3 ⟨rfl, rfl⟩
    exact hK _ _ (s1.setRow (fun h => by omega) _) (Nat.le_refl _) (setRow_heap _ _ _ _ _ _ hb)
end
end Go
