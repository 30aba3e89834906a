/- append of zeros; what kinds have, any kind; the document's Decode in plain words. -/
import Derived.Test.YtkboghhmldokiaaDoorD6
import Derived.Lib.AppendZerosOnto
namespace Go.Proofs.YtkboghhmldokiaaDoor
open Go.RowKit Go.Gm

theorem zeros20 : Builtin.zeroCells (Value.cells (.int .u8 0)) 20 = (List.replicate 20 (Value.int .u8 0)).toArray := by kernel_rfl
theorem info5' : ∃ i : TypeInfo, Tryd.prog.info? 5 = some i ∧ i.zero = some (.int .u8 0) ∧ i.size = 1 ∧ i.bytes = 1 := info_parts info5
theorem zero_len (k : Nat) : (Builtin.zeroCells (Value.cells (.int .u8 0)) k).size = k := by
  rw [size_zeroCells]
  exact Nat.mul_one k
set_option maxHeartbeats 1000000 in
theorem run_append_zeros (w : World) (ty : TypeId) {v : Value} {m : Nat} {xs : List Value} (h : Row w 5 1 v m xs) (hm : m ≤ 1000000) :
    ∃ v' w', (Builtin.append_ #[24, 3] ty #[v, .int .i64 20]).run Tryd.prog w = .ok v' w' ∧ Row w' 5 1 v' (m + 20) (xs ++ List.replicate 20 (.int .u8 0)) ∧ Step (Leads v) w w' ∧ ∀ k, Leads v' k → Leads v k ∨ w.heap.size ≤ k := by
  obtain ⟨i, hi, hz, hs1, hb1⟩ := info5'
  have hrow := h
  obtain ⟨h1, ao, cap, rfl, hnc, hcm, h4⟩ := h
  have hlen : (xs ++ List.replicate 20 (Value.int .u8 0)).length = (m + 20) * 1 := by simp [h1]
  have grows : cap < m + 20 → (Builtin.firstCells 1 m (.slice ao m cap)).run Tryd.prog w.drew = .ok xs.toArray w.drew →
      ∃ v' w', (Builtin.append_ #[24, 3] ty #[.slice ao m cap, .int .i64 20]).run Tryd.prog w = .ok v' w' ∧ Row w' 5 1 v' (m + 20) (xs ++ List.replicate 20 (.int .u8 0)) ∧ Step (Leads (.slice ao m cap)) w w' ∧ ∀ k, Leads v' k → Leads (.slice ao m cap) k ∨ w.heap.size ≤ k := by
    intro hg hold
    have hge := grownCap_ge w (m + 20) cap 5
    have hgm := grownCap_le_maxLen w (m + 20) cap 5 (by simp [maxLen]; omega)
    have hr := Lib.run_append_grow_zeros (P := Tryd.prog) w 24 3 ty 5 i (.int .u8 0) .i64 .i64 Tryd.underlying24 Tryd.underlying3 hi hz ao m cap xs (by rw [hs1]; exact hold) 20 (by omega) (by omega) hg (by omega) (by rw [hb1]; omega) (growslice_fits hg (by rw [hb1]; omega))
    refine ⟨_, _, hr, ?_, ((Step.refl _ w).drew).alloc _, fun k hk => .inr ?_⟩
    · refine ⟨hlen, _, _, rfl, hge, hgm, .inr ⟨w.heap.size, 0, _, rfl, heap_alloc_new w.drew _, ?_, ?_⟩⟩
      · simp only [Array.size_append, List.size_toArray, zero_len, h1]
        omega
      · rw [zeros20]
        simp only [Array.toList_append, List.drop_zero]
        rw [← hlen]
        exact List.take_left
    · simp [Leads, Value.ownBlock] at hk
      omega
  rcases h4 with ⟨rfl, rfl⟩ | ⟨b, off, cur, rfl, hb, hfit, htake⟩
  · have hm0 : m = 0 := by omega
    subst hm0
    have hx : xs = [] := List.eq_nil_of_length_eq_zero (by simpa using h1)
    subst hx
    exact grows (by omega) (run_firstCells_none w.drew 1 0 0 0)
  · have hxs : ∀ j u, xs[j]? = some u → w.cell? ⟨b, off + j, none⟩ = some u := fun j u hj => by
      rw [blk_cell hb]
      rw [← htake, List.getElem?_take] at hj
      split at hj
      · rw [List.getElem?_drop] at hj
        simpa using hj
      · cases hj
    by_cases hroom : m + 20 ≤ cap
    · have hfit2 : off + m * 1 + (List.replicate 20 (Value.int .u8 0)).length ≤ cur.size := by simp; omega
      have hst := run_storeCells_cells (P := Tryd.prog) b (off + m * 1) (List.replicate 20 (Value.int .u8 0)) 0 w (fun j hj => by rw [blk_cell hb]; simp at hj ⊢; omega) (fun j _ => blk_frozen hb _) (fun v hv => by rw [(List.mem_replicate.1 hv).2]; rfl)
      simp only [Nat.add_zero] at hst
      have hr : (Builtin.append_ #[24, 3] ty #[.slice (some ⟨b, off, none⟩) m cap, .int .i64 20]).run Tryd.prog w = .ok (.slice (some ⟨b, off, none⟩) (m + 20) cap) (w.setCells b (off + m * 1) (List.replicate 20 (.int .u8 0))) := by
        have hw : IntKind.i64.wrap (20 : Int) = 20 := by decide
        have h48i : ¬ (281474976710656 < (20 : Int) * (i.bytes : Int)) := by rw [hb1]; decide
        have hz2 : (Builtin.zeroCells (Value.cells (.int .u8 0)) 20).toList = List.replicate 20 (Value.int .u8 0) := by rw [zeros20]
        rw [Nat.mul_one] at hst ⊢
        simp [-List.reduceReplicate, Builtin.append_, run_underlying Tryd.underlying24, run_underlying Tryd.underlying3, sizeOf, typeInfo, zeroValue, hi, hz, asInt, asIntOf, hw, hs1, hb1, hroom, Addr.add_lit]
        rw [hz2, hst]
        rfl
      obtain ⟨cur', h3, h4, h5⟩ := setCells_row (List.replicate 20 (Value.int .u8 0)) (off + m * 1) w cur hb hfit2
      obtain ⟨s1, s2, s3, s4⟩ := setCells_same b (List.replicate 20 (Value.int .u8 0)) (off + m * 1) w
      refine ⟨_, _, hr, ⟨hlen, _, _, rfl, hroom, hcm, .inr ⟨b, off, cur', rfl, h3, by rw [h4]; exact hfit, ?_⟩⟩,
        ⟨s1, s2, s3, by rw [s4]; exact Nat.le_refl _, fun k _ hk => setCells_far _ _ k (fun he => hk (by simp [Leads, Value.ownBlock, he]))⟩, fun k hk => .inl hk⟩
      rw [h5, List.append_assoc, List.drop_append_of_le_length (by rw [List.length_take, Array.length_toList]; omega), List.drop_take]
      rw [show off + m * 1 - off = m * 1 by omega, htake, ← List.append_assoc]
      exact List.take_left' hlen
    · exact grows (by omega) (firstCells_cells w.drew 1 m b off cap xs (by simpa using h1) (by simpa using hxs))
end Go.Proofs.YtkboghhmldokiaaDoor
