/- PickSpreads, walked. -/
import Derived.Test.YtbdlcmfmnjhklaaW6
namespace Go.Proofs.Ytbdlcmfmnjhklaa
open Go.RowKit Go.Gm

set_option linter.unusedSimpArgs false in
set_option maxHeartbeats 2000000 in
theorem pickSpreads_walk (v0 v1 v2 : Value) (w : World) (h0 : Arg w (.int .i64) v0) (h1 : Arg w (.int .i64) v1) (h2 : Arg w (.int .u32) v2) :
    Calls Try.prog 8 #[v0, v1, v2] w fun e w' => e = .returned (.bool true) ∧ Below w.heap.size w w' := by
  obtain ⟨a, rfl, -⟩ := h0.int
  obtain ⟨b, rfl, -⟩ := h1.int
  obtain ⟨h, rfl, hw⟩ := h2.int
  have hh := wf_u32 hw
  have C1 : Hid (∀ w' : World, Calls Try.prog 14 #[.slice (some ⟨w'.heap.size, 0, none⟩) 1 1, .int .u32 h] (w'.alloc (.cells #[.int .i64 a] 3)) fun e w'' => e = .returned (.tuple #[.int .i64 a, .bool true]) ∧ Step None (w'.alloc (.cells #[.int .i64 a] 3)) w'') := Lib.hid fun w' =>
    choose_any a [] h w'.heap.size 0 1 _ hh (by simp) (by simp) (fun j x hj => by
      rw [blk_cell (heap_alloc_new w' _)]
      match j, hj with
      | 0, hj => simp at hj; simp [hj]
      | j + 1, hj => simp at hj)
  have C2 : Hid (∀ w' : World, Calls Try.prog 14 #[.slice (some ⟨w'.heap.size, 0, none⟩) 2 2, .int .u32 h] (w'.alloc (.cells #[.int .i64 a, .int .i64 b] 3)) fun e w'' => e = .returned (.tuple #[.int .i64 (if Gm.ahead (weight h) b a then b else a), .bool true]) ∧ Step None (w'.alloc (.cells #[.int .i64 a, .int .i64 b] 3)) w'') := Lib.hid fun w' =>
    choose_any a [b] h w'.heap.size 0 2 _ hh (by simp) (by simp) (fun j x hj => by
      rw [blk_cell (heap_alloc_new w' _)]
      match j, hj with
      | 0, hj => simp at hj; simp [hj]
      | 1, hj => simp at hj; simp [hj]
      | j + 2, hj => simp at hj)
  have W1 := Lib.hid (weigh_any h a · hh)
  have W2 := Lib.hid (weigh_any h b · hh)
  have ha : Hid (Gm.ahead (weight h) b a = (decide (weight h a < weight h b) || (weight h b == weight h a && decide (b < a)))) := Lib.hid rfl
  clear h0 h1 h2 hw hh
  obtain ⟨c, hc⟩ : ∃ c, (if Gm.ahead (weight h) b a then b else a) = c := ⟨_, rfl⟩
  rw [hc] at C2
  have HC := Lib.hid hc
  clear hc
  generalize Gm.ahead (weight h) b a = t at *
  generalize weight h a = x at *
  generalize weight h b = y at *
  have sym : (x == y) = (y == x) := Bool.eq_iff_iff.2 ⟨fun h => by simp at h ⊢; exact h.symm, fun h => by simp at h ⊢; exact h.symm⟩
  go_enter Try.func8, Try.ntmps8
  go_wp2_with fail
  refine (awake_any _).mono ?_
  rintro e w2 ⟨rfl, s2⟩
  have Z2 := Lib.hid s2
  clear s2
  go_wp2_with fail
  refine (C1.out _).mono ?_
  rintro e w3 ⟨rfl, s3⟩
  have Z3 := Lib.hid ((Z2.out.alloc _).then_ s3)
  clear s3
  go_wp2_with fail
  refine (C2.out _).mono ?_
  rintro e w4 ⟨rfl, s4⟩
  have Z4 := Lib.hid ((Z3.out.alloc _).then_ s4)
  clear s4
  go_wp2_with fail
  refine (W1.out _).mono ?_
  rintro e w5 ⟨rfl, s5⟩
  have Z5 := Lib.hid (Z4.out.then_ s5)
  clear s5
  go_wp2_with fail
  refine (W2.out _).mono ?_
  rintro e w6 ⟨rfl, s6⟩
  have Z6 := Lib.hid (Z5.out.then_ s6)
  clear s6
  cases d1 : decide (x < y)
  · cases d2 : (y == x)
    · rw [d2] at sym
      have e1 := HC.out
      rw [ha.out, d1, d2] at e1
      have e2 : c = a := by simpa using e1.symm
      clear e1
      subst e2
      go_wp2_with fail
      go_ret
      exact ⟨by simp, Z6.out.toBelow⟩
    · rw [d2] at sym
      cases d3 : decide (b < a)
      · have e1 := HC.out
        rw [ha.out, d1, d2, d3] at e1
        have e2 : c = a := by simpa using e1.symm
        clear e1
        subst e2
        go_wp2_with fail
        go_ret
        exact ⟨by simp, Z6.out.toBelow⟩
      · have e1 := HC.out
        rw [ha.out, d1, d2, d3] at e1
        have e2 : c = b := by simpa using e1.symm
        clear e1
        subst e2
        go_wp2_with fail
        go_ret
        exact ⟨by simp, Z6.out.toBelow⟩
  · have e1 := HC.out
    rw [ha.out, d1] at e1
    have e2 : c = b := by simpa using e1.symm
    clear e1
    subst e2
    go_wp2_with fail
    go_ret
    exact ⟨by simp, Z6.out.toBelow⟩

end Go.Proofs.Ytbdlcmfmnjhklaa
