/- acked. -/
import Derived.Test.YtgchepijbpcckaaDoorW3
namespace Go.Proofs.YtgchepijbpcckaaDoor
open Go.RowKit Go.Gm

set_option maxHeartbeats 2000000 in
theorem acked_no (g : Nat) (v : Value) (s : Stm) (k : Int) (w : World) (bs : List Value) (h : Sm 66 w g v s bs) (ok : s.Ok) (hk0 : 0 ≤ k) (hk1 : k ≤ 1073741824) (hno : ¬ (0 < k - s.first + 1 ∧ k - s.first + 1 ≤ s.out)) :
    Calls Tryd.prog 28 #[.pointer (some ⟨g, 0, none⟩), .int .i64 k] w fun e w' => e = .returned (.tuple #[]) ∧ w = w' := by
  have hf := ok.first
  have hsum := ok.sum
  have c3 := blk_cell h.st 3
  have c4 := blk_cell h.st 4
  simp only [Stm.cells, List.getElem?_toArray, List.getElem?_cons_zero, List.getElem?_cons_succ] at c3 c4
  have e1 : IntKind.i64.wrap (k - s.first) = k - s.first := IntWalk.i64_in _ (by omega)
  have e2 : IntKind.i64.wrap (k - s.first + 1) = k - s.first + 1 := IntWalk.i64_in _ (by omega)
  have e3 : wrap64 (k - s.first) = k - s.first := IntWalk.wrap64_in _ ⟨by omega, by omega⟩
  have e4 : wrap64 (k - s.first + 1) = k - s.first + 1 := IntWalk.wrap64_in _ ⟨by omega, by omega⟩
  cases d1 : decide (0 < k - s.first + 1)
  · clear h ok hf hsum hno hk0 hk1
    go_enter Tryd.func28, Tryd.ntmps28
    go_wp2_with fail
    go_end0
    exact ⟨rfl, rfl⟩
  cases d2 : decide (k - s.first + 1 ≤ s.out)
  · clear h ok hf hsum hno hk0 hk1
    go_enter Tryd.func28, Tryd.ntmps28
    go_wp2_with fail
    go_end0
    exact ⟨rfl, rfl⟩
  exact absurd ⟨by simpa using d1, by simpa using d2⟩ hno
/- The changing case, of letters. -/
set_option maxHeartbeats 4000000 in
theorem acked_walk (g b off len cap m : Nat) (k first out : Int) (R : Option Addr → Nat → Nat → World → Prop) (w : World) (hm : k - first + 1 = m) (hm0 : 0 < m) (hmo : (m : Int) ≤ out) (hml : m ≤ len) (hlc : len ≤ cap) (hcap : cap ≤ maxLen) (hf : 1 ≤ first) (hf2 : first ≤ 1073741824) (hk0 : 0 ≤ k) (hk1 : k ≤ 1073741824) (ho : out ≤ 5000)
    (c2 : w.cell? ⟨g, 2, none⟩ = some (.slice (some ⟨b, off, none⟩) len cap)) (c3 : w.cell? ⟨g, 3, none⟩ = some (.int .i64 first)) (c4 : w.cell? ⟨g, 4, none⟩ = some (.int .i64 out))
    (hR : ∀ uo un uc w1, R uo un uc w1 → w1.frozen? ⟨g, 2, none⟩ = false ∧ w1.cell? ⟨g, 3, none⟩ = some (.int .i64 first) ∧ w1.cell? ⟨g, 4, none⟩ = some (.int .i64 out) ∧ w1.frozen? ⟨g, 3, none⟩ = false ∧ w1.frozen? ⟨g, 4, none⟩ = false ∧ ∃ x, w1.cell? ⟨g, 2, none⟩ = some x)
    (C : Calls Tryd.prog 46 #[.slice (if cap = m then some ⟨b, off, none⟩ else some ⟨b, off + m * 11, none⟩) (len - m) (cap - m)] w fun e w' => ∃ uo un uc, e = .returned (.slice uo un uc) ∧ R uo un uc w') :
    Calls Tryd.prog 28 #[.pointer (some ⟨g, 0, none⟩), .int .i64 k] w fun e w' => e = .returned (.tuple #[]) ∧ ∃ uo un uc w1, R uo un uc w1 ∧ w' = ((w1.setCell ⟨g, 2, none⟩ (.slice uo un uc)).setCell ⟨g, 4, none⟩ (.int .i64 (out - m))).setCell ⟨g, 3, none⟩ (.int .i64 (first + m)) := by
  have HC := Lib.hid hlc
  have HP := Lib.hid hcap
  clear hlc hcap
  have e1 : IntKind.i64.wrap (k - first) = k - first := IntWalk.i64_in _ (by omega)
  have e2 : IntKind.i64.wrap (k - first + 1) = m := (IntWalk.i64_in (k - first + 1) (by omega)).trans hm
  have e3 : wrap64 (k - first) = k - first := IntWalk.wrap64_in _ ⟨by omega, by omega⟩
  have e4 : wrap64 (k - first + 1) = m := (IntWalk.wrap64_in (k - first + 1) ⟨by omega, by omega⟩).trans hm
  have em : wrap64 (m : Int) = m := IntWalk.wrap64_in _ ⟨by omega, by omega⟩
  have o1 : IntKind.i64.wrap (out - (m : Int)) = out - m := IntWalk.i64_in _ (by omega)
  have o2 : IntKind.i64.wrap (first + (m : Int)) = first + m := IntWalk.i64_in _ (by omega)
  have o3 : wrap64 (out - (m : Int)) = out - m := IntWalk.wrap64_in _ ⟨by omega, by omega⟩
  have o4 : wrap64 (first + (m : Int)) = first + m := IntWalk.wrap64_in _ ⟨by omega, by omega⟩
  have g1 : decide (0 < (m : Int)) = true := decide_eq_true (by omega)
  have g1b : decide (0 < m) = true := decide_eq_true (by omega)
  have g2 : decide ((m : Int) ≤ out) = true := decide_eq_true hmo
  have i0 : (0 : Int) ≤ (m : Int) := by omega
  have i1 : (m : Int) ≤ (len : Int) := by omega
  obtain ⟨q, hq⟩ : ∃ q : Option Addr, (if cap = m then some (⟨b, off, none⟩ : Addr) else some ⟨b, off + m * 11, none⟩) = q := ⟨_, rfl⟩
  rw [hq] at C
  have CC := Lib.hid C
  have HR := Lib.hid hR
  have HQ := Lib.hid hq
  clear C hR hm hm0 hmo hf hf2 hk0 hk1 ho hq
  go_enter Tryd.func28, Tryd.ntmps28
  go_wp2_with (first | rw [HQ.out])
  refine CC.out.mono ?_
  rintro e w1 ⟨uo, un, uc, rfl, hr⟩
  have RR := Lib.hid hr
  obtain ⟨d2, d3, d4, f3, f4, x2, d5⟩ := HR.out _ _ _ _ hr
  clear hr
  go_wp2_with fail
  go_end0
  exact ⟨rfl, _, _, _, _, RR.out, rfl⟩
theorem acked_any (g : Nat) (v : Value) (s : Stm) (bs : List Value) (k : Int) (w : World) (h : Sm 66 w g v s bs) (ok : s.Ok) (hk0 : 0 ≤ k) (hk1 : k ≤ 1073741824) :
    Calls Tryd.prog 28 #[.pointer (some ⟨g, 0, none⟩), .int .i64 k] w fun e w' => e = .returned (.tuple #[]) ∧ Went 66 w w' g v (s.acked k) := by
  by_cases hk : 0 < k - s.first + 1 ∧ k - s.first + 1 ≤ s.out
  rotate_left
  · refine (acked_no g v s k w bs h ok hk0 hk1 hk).mono ?_
    rintro e w' ⟨rfl, rfl⟩
    have ha : s.acked k = s := by unfold Stm.acked; rw [if_neg hk]
    rw [ha]
    exact ⟨rfl, h.went⟩
  obtain ⟨m, hm⟩ : ∃ m : Nat, k - s.first + 1 = (m : Int) := ⟨(k - s.first + 1).toNat, by omega⟩
  have ha : s.acked k = { s with ws := s.ws.drop m, out := s.out - m, first := s.first + m } := by unfold Stm.acked; rw [if_pos hk, hm]; rfl
  rw [ha]
  have hf := ok.first
  have ho := ok.out
  have hlen := ok.len
  have hf2 : s.first ≤ 1073741824 := by have := ok.sum; omega
  obtain ⟨b, off, cap, cur, rfl, hc1, hc2, hb, hfit, htk⟩ := h.row.lies (by omega)
  have hmn : m ≤ s.ws.length := by omega
  have K : ∀ w1, Step None w w1 → w1.frozen? ⟨g, 2, none⟩ = false ∧ w1.cell? ⟨g, 3, none⟩ = some (.int .i64 s.first) ∧ w1.cell? ⟨g, 4, none⟩ = some (.int .i64 s.out) ∧ w1.frozen? ⟨g, 3, none⟩ = false ∧ w1.frozen? ⟨g, 4, none⟩ = false ∧ ∃ x, w1.cell? ⟨g, 2, none⟩ = some x := fun w1 s1 => by
    have H1 := (h.still s1).st
    exact ⟨blk_frozen H1 2, blk_cell H1 3, blk_cell H1 4, blk_frozen H1 3, blk_frozen H1 4, _, blk_cell H1 2⟩
  refine (acked_walk g b off s.ws.length cap m k s.first s.out (fun uo un uc w1 => Row w1 36 11 (.slice uo un uc) (s.ws.length - m) ((flatN (s.ws.zip bs)).drop (m * 11)) ∧ Step None w w1 ∧ ∀ k, Leads (.slice uo un uc) k → w.heap.size ≤ k) w hm (by omega) (by omega) hmn hc1 hc2 hf hf2 hk0 hk1 (by omega) (blk_cell h.st 2) (blk_cell h.st 3) (blk_cell h.st 4) (fun _ _ _ w1 hr => K w1 hr.2.1) ?_).mono ?_
  · have C : ∀ off', (off' = off + m * 11 ∨ s.ws.length = m ∧ off' + (cap - m) * 11 ≤ cur.size) → Calls Tryd.prog 46 #[.slice (some ⟨b, off', none⟩) (s.ws.length - m) (cap - m)] w fun e w' => ∃ uo un uc, e = .returned (.slice uo un uc) ∧ Row w' 36 11 (.slice uo un uc) (s.ws.length - m) ((flatN (s.ws.zip bs)).drop (m * 11)) ∧ Step None w w' ∧ ∀ k, Leads (.slice uo un uc) k → w.heap.size ≤ k := fun off' ho' => by
      refine (sclone_some _ _ _ _ w (Row.dropped hb hmn hc1 hc2 hfit htk ho') (fun u hu => flatN_one h.one u (List.mem_of_mem_drop hu)) (by omega)).mono ?_
      rintro e w1 ⟨u, rfl, r1, s1, n1⟩
      obtain ⟨uo, uc, rfl, -, -⟩ := r1.form
      exact ⟨uo, _, uc, rfl, r1, s1, n1⟩
    by_cases hcm : cap = m
    · rw [if_pos hcm]
      exact C off (.inr ⟨by omega, by subst hcm; omega⟩)
    · rw [if_neg hcm]
      exact C _ (.inl rfl)
  · rintro e w' ⟨rfl, uo, un, uc, w1, ⟨r1, s1, n1⟩, rfl⟩
    have H1 := h.still s1
    exact ⟨rfl, h.acked (by decide) (by decide) r1 s1 (fun k hk => .inr (n1 k hk)) ((((Step.refl (fun i => i = g) w1).setCell (p := ⟨g, 2, none⟩) (fun _ => rfl) _).setCell (p := ⟨g, 4, none⟩) (fun _ => rfl) _).setCell (p := ⟨g, 3, none⟩) (fun _ => rfl) _) (blk_set (blk_set (blk_set H1.st 2 _) 4 _) 3 _)⟩
end Go.Proofs.YtgchepijbpcckaaDoor
