/- ShakeOwed, walked. -/
import Derived.Test.YthebgpbofjgcoaaDoorW11
namespace Go.Gm
namespace Shk
/-- One link, in session. -/
def one (up : Bool) (owed : Int) : Shk := ⟨[⟨up, owed, false⟩], true, false⟩
theorem one_off (u : Bool) (n : Int) : ∃ l, (one u n).loc 1 false = (one false n, l, 0) := by
  cases u
  · exact ⟨[], rfl⟩
  · exact ⟨[⟨3, 1, 0⟩], rfl⟩
theorem one_on (n : Int) : (one false n).loc 1 true = (one true (n + 1), [⟨3, 1, 1⟩], 0) := rfl
theorem one_take (n : Int) : (one true n).take true 4 1 1 = (one true (max (n - 1) 0), [], 0) := rfl
theorem one_serves (n : Int) : (one true n).serves 1 = (n == 0) := rfl
theorem one_ok {u : Bool} {n m : Int} (h : 0 ≤ n) (hm : n ≤ m) : (one u n).Ok m := ⟨by show 1 ≤ 63; decide, fun l hl => by
  simp only [one, List.mem_cons, List.not_mem_nil, or_false] at hl
  subst hl
  exact ⟨h, hm⟩⟩
end Shk
end Go.Gm
namespace Go.Proofs.YthebgpbofjgcoaaDoor
open Go.RowKit Go.Gm

set_option maxRecDepth 10000 in
set_option maxHeartbeats 16000000 in
theorem shakeOwed_walk (v0 v1 : Value) (w : World) (hT : HasAt 0 w) (h0 : Arg w (.int .i64) v0) (h1 : Arg w (.int .i64) v1) :
    Calls Tryd.prog 7 #[v0, v1] w fun e w' => e = .returned (.bool true) ∧ Below w.heap.size w w' := by
  obtain ⟨times, rfl, -⟩ := h0.int
  obtain ⟨more, rfl, -⟩ := h1.int
  have T1 := Lib.hid hT
  clear hT
  have N := Lib.hid (fun w => new_ok 1 (by decide) (by decide) w)
  have OK : Hid ((shk0 1).Ok 0) := Lib.hid ⟨by decide, by decide⟩
  go_enter Tryd.func7, Tryd.ntmps7
  go_wp2_with fail
  refine (awake_any w T1.out).mono ?_
  rintro e w2 ⟨rfl, s2⟩
  have S2 := Lib.hid s2
  have T2 := Lib.hid (T1.out.still s2)
  clear s2
  go_wp2_with fail
  refine (N.out _).mono ?_
  rintro e w3 ⟨g, b, rfl, r3, g3, b3, s3⟩
  have B3 : Hid (Solo w w3 g b (shk0 1)) := Lib.hid (by
    have h1 := S2.out.size
    have h4 := T1.out.lt
    exact ⟨r3, by omega, by omega, S2.out.then_ s3, T2.out.still s3, h4⟩)
  clear r3 g3 b3 s3 S2 T2 N T1
  cases d1 : decide (times < 1)
  rotate_left
  · go_wp2_with fail
    go_ret
    exact ⟨rfl, B3.out.st.toBelow⟩
  cases d2 : decide (50 < times)
  rotate_left
  · go_wp2_with fail
    go_ret
    exact ⟨rfl, B3.out.st.toBelow⟩
  cases d3 : decide (more < 0)
  rotate_left
  · go_wp2_with fail
    go_ret
    exact ⟨rfl, B3.out.st.toBelow⟩
  cases d4 : decide (50 < more)
  rotate_left
  · go_wp2_with fail
    go_ret
    exact ⟨rfl, B3.out.st.toBelow⟩
  have TM : Hid ((1 ≤ times ∧ times ≤ 50) ∧ 0 ≤ more ∧ more ≤ 50) := Lib.hid (by simp at d1 d2 d3 d4; omega)
  go_wp2_with fail
  clear d1 d2 d3 d4
  refine (start_any g b (shk0 1) w3 0 OK.out B3.out.one).mono ?_
  rintro e w4 ⟨u4, rfl, t4, r4, s4⟩
  have B4 : Hid (Solo w w4 g b (Shk.one false 0)) := Lib.hid (B3.out.next s4 r4)
  obtain ⟨vo, vc, rfl, -, -⟩ := t4.row.form
  clear t4 r4 s4 B3 OK
  go_wp2_with fail
  go_loopw [8, 9] (fun tt t wr => ∃ i : Nat, (i : Int) ≤ times ∧ t = .int .i64 i ∧ tt = .int .i64 i ∧ ∃ u, Hid (Solo w wr g b (Shk.one u i))∧ (u = false → i = 0)) (fun _ t _ => 50 - (intOf t).toNat)
  case atStart => exact ⟨0, by have := TM.out; omega, rfl, rfl, false, B4, fun _ => rfl⟩
  case round =>
    obtain ⟨i, hi, rfl, rfl, u, hB, hu⟩ := hrel
    rename_i wr
    clear B4
    cases d1 : decide ((i : Int) < times)
    · have hin : (i : Int) = times := by simp at d1; omega
      have hu1 : u = true := by
        cases u
        · have := hu rfl; have := TM.out; omega
        · rfl
      subst hu1
      clear hu
      have HIN := Lib.hid hin
      clear hin
      go_wp2_with fail
      go_loopw [12] (fun t wr => ∃ j : Nat, (j : Int) ≤ more ∧ t = .int .i64 j ∧ ∃ n : Int, 0 ≤ n ∧ n ≤ 50 ∧ n = max ((i : Int) - j) 0 ∧ Hid (Solo w wr g b (Shk.one true n))) (fun t _ => 50 - (intOf t).toNat)
      case atStart => exact ⟨0, by have := TM.out; omega, rfl, (i : Int), by omega, by have := TM.out; have := HIN.out; omega, by omega, hB⟩
      case round =>
        obtain ⟨j, hj, rfl, n, n0, n50, hn, hC⟩ := hrel
        clear hB
        cases d2 : decide ((j : Int) < more)
        · go_wp2_with fail
          go_ret
          exact ⟨rfl, hC.out.st.toBelow⟩
        have hlt : (j : Int) < more := by simpa using d2
        have HN := Lib.hid hn
        clear hn
        have TK := Lib.hid (take_any g b (Shk.one true n) awN none 0 _ 50 (Shk.one_ok n0 n50) (by decide) (by decide) hC.out.tab hC.out.one)
        rw [awN_right, show (Shk.one true n).take true awN.kind awN.port awN.state = (Shk.one true (max (n - 1) 0), [], 0) from Shk.one_take n] at TK
        have w1 : wrap64 ((j : Int) + 1) = (j : Int) + 1 := by have := TM.out; unfold wrap64; omega
        have u1 : IntKind.i64.wrap ((j : Int) + 1) = (j : Int) + 1 := by have := TM.out; rw [IntKind.wrap_i64]; omega
        go_wp2_with fail
        refine TK.out.mono ?_
        rintro e w8 ⟨u8, rfl, t8, r8, s8⟩
        have F8 := Lib.hid (hC.out.nextB s8 r8)
        obtain ⟨xo, xc, rfl, -, -⟩ := t8.row.form
        clear t8 r8 s8 TK hC
        go_wp2_with fail
        refine (serves_any g b _ 1 w8 (by show 1 ≤ 63; decide) F8.out.one).mono ?_
        rintro e wz ⟨rfl, rfl⟩
        rw [Shk.one_serves]
        have eq1 : (max (n - 1) 0 == 0) = decide ((i : Int) ≤ (j : Int) + 1) := by
          have := HN.out
          by_cases h : (i : Int) ≤ (j : Int) + 1
          · have : max (n - 1) 0 = 0 := by omega
            simp [h, this]
          · have : ¬ max (n - 1) 0 = 0 := by omega
            simp [h, this]
        rw [eq1]
        cases hq : decide ((i : Int) ≤ (j : Int) + 1)
        · have hq' : decide (i ≤ j + 1) = false := by simp at hq ⊢; omega
          go_wp2_with fail
          go_roundw
          case rel => exact ⟨j + 1, by omega, by first | rfl | simp, _, by omega, by omega, by have := HN.out; omega, F8⟩
          case measure => have := TM.out; simp [intOf]; omega
        · have hq' : decide (i ≤ j + 1) = true := by simp at hq ⊢; omega
          go_wp2_with fail
          go_roundw
          case rel => exact ⟨j + 1, by omega, by first | rfl | simp, _, by omega, by omega, by have := HN.out; omega, F8⟩
          case measure => have := TM.out; simp [intOf]; omega
    have hlt : (i : Int) < times := by simpa using d1
    obtain ⟨l1, e1⟩ := Shk.one_off u (i : Int)
    have LA := Lib.hid (local_any g b (Shk.one u i) 1 false wr 50 (Shk.one_ok (by omega) (by have := TM.out; omega)) (by decide) (by decide) hB.out.one)
    rw [e1] at LA
    clear e1 hu
    have w1 : wrap64 ((i : Int) + 1) = (i : Int) + 1 := by have := TM.out; unfold wrap64; omega
    have u1 : IntKind.i64.wrap ((i : Int) + 1) = (i : Int) + 1 := by have := TM.out; rw [IntKind.wrap_i64]; omega
    go_wp2_with fail
    refine LA.out.mono ?_
    rintro e w5 ⟨u5, rfl, t5, r5, s5⟩
    have F5 := Lib.hid (hB.out.nextB s5 r5)
    obtain ⟨xo, xc, rfl, -, -⟩ := t5.row.form
    clear t5 r5 s5 LA hB
    have LB := Lib.hid (local_any g b (Shk.one false i) 1 true w5 50 (Shk.one_ok (by omega) (by have := TM.out; omega)) (by decide) (by decide) F5.out.one)
    rw [Shk.one_on] at LB
    go_wp2_with fail
    refine LB.out.mono ?_
    rintro e w6 ⟨u6, rfl, t6, r6, s6⟩
    have F6 := Lib.hid (F5.out.nextB s6 r6)
    have U6 := Lib.hid t6
    obtain ⟨vb, vf, vc, rfl, hld, hq⟩ := tells_load t6 (i := 0) (t := ⟨3, 1, 1⟩) rfl
    have q9 : w6.cell? ⟨vb, vf + 9, none⟩ = some (.int .i64 1) := by
      obtain ⟨b', off, cap, hv, -, -, -, hc, -⟩ := U6.out.row.cells (by decide)
      simp only [Value.slice.injEq, Option.some.injEq, Addr.mk.injEq] at hv
      obtain ⟨⟨rfl, rfl, -⟩, -, -⟩ := hv
      exact hc 9 _ rfl
    clear t6 r6 s6 LB F5 hld hq U6
    have sv : (((i : Int) + 1) == 0) = false := by simp; omega
    go_wp2_with fail
    refine (serves_any g b _ 1 w6 (by show 1 ≤ 63; decide) F6.out.one).mono ?_
    rintro e wz ⟨rfl, rfl⟩
    rw [Shk.one_serves, sv]
    go_wp2_with fail
    go_roundw
    case rel => exact ⟨i + 1, by omega, by first | rfl | simp, by first | rfl | simp, true, F6, fun h => by cases h⟩
    case measure => have := TM.out; simp [intOf]; omega
end Go.Proofs.YthebgpbofjgcoaaDoor
