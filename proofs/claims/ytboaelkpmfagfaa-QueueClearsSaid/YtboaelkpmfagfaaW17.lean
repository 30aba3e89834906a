/- QueueScripts: the walk. -/
import Derived.Test.YtboaelkpmfagfaaW16
namespace Go.Proofs.Ytboaelkpmfagfaa
open Go.RowKit Go.Gm

set_option maxRecDepth 10000 in
set_option maxHeartbeats 1000000 in
theorem scripts_loop (room class_ : Int) (ao : Option Addr) (len cap : Nat) (w : World) (hlen : len ≤ 9223372036854775807) (hs : StepsAt w ao len) (h1 : 1 ≤ room) (h2 : room ≤ 1000) :
    Calls Try.prog 6 #[.int .i64 room, .slice ao len cap, .int .i64 class_] w fun e w' => e = .returned (.bool true) ∧ Below w.heap.size w w' := by
  have HS := Lib.hid hs
  clear hs
  go_enter Try.func6, Try.ntmps6
  go_wp2_with fail
  refine (awake_any w).mono ?_
  rintro e w1 ⟨rfl, b1⟩
  go_wp2_with fail
  refine (new_st room _ h1 h2 0).mono ?_
  rintro e w2 ⟨rfl, q2, s2⟩
  go_wp2_with fail
  refine (rnew_st room _ h1 h2 (Q := w1.heap.size) s2.size).mono ?_
  rintro e w3 ⟨rfl, r3, s3⟩
  have z1 := b1.size
  have S0 : Hid (Both w w3 w1.heap.size w2.heap.size room 0 (fun _ => []) (fun _ => 0) []) :=
    ⟨q2.step s3 (fun _ s => s.elim), r3, Link.nil, fun _ _ => by simp, z1, (b1.trans (s2.toBelow.mono b1.size)).trans (s3.toBelow.mono (by have := s2.size; omega))⟩
  clear q2 s2 r3 s3 b1
  go_wp2_with fail
  go_loopw [12, 13] (fun i _ wr => ∃ k : Nat, k ≤ len ∧ k ≤ 200 ∧ i = .int .i64 k ∧ Hid (∃ X L W, Both w wr w1.heap.size w2.heap.size room k X L W)) (fun i _ _ => len - (intOf i).toNat)
  case atStart => exact ⟨0, Nat.zero_le _, Nat.zero_le _, rfl, ⟨_, _, _, S0⟩⟩
  case round =>
    obtain ⟨k, hk, hk2, rfl, hS⟩ := hrel
    obtain ⟨X, L, W, S⟩ := hS.out
    by_cases hlt : k < len
    · by_cases h200 : k < 200
      · obtain ⟨b, off, d, c, bo, bs, bc, rfl, hc0, hc1, hc2, hb, hsm⟩ := HS.out k hlt
        have hbl := World.block_lt_of_cell? w _ hc0
        have d0 := (S.below.cell (p := ⟨b, off + k * 3, none⟩) hbl).trans hc0
        have d1 := (S.below.cell (p := ⟨b, off + k * 3 + 1, none⟩) hbl).trans hc1
        have d2 := (S.below.cell (p := ⟨b, off + k * 3 + 2, none⟩) hbl).trans hc2
        have HB := Lib.hid hb
        have h200b : decide ((k : Int) < 200) = true := by simp; omega
        have S' := Lib.hid S
        clear hc0 hc1 hc2 hb S hS
        go_wp2_with fail
        refine (step_st d c _ bs w _ S'.out HB.out (by omega) h2).mono ?_
        rintro e w4 ⟨rfl, X4, L4, W4, S4⟩
        have T := Lib.hid S4
        have hlE := S4.link.len class_
        clear S4
        go_wp2_with fail
        refine (len_st _ _ _ (by exact T.out.q)).mono ?_
        rintro e w5 ⟨rfl, rfl⟩
        go_wp2_with fail
        refine (rlen_st _ _ _ (by exact T.out.r) T.out.few).mono ?_
        rintro e w5 ⟨rfl, rfl⟩
        go_wp2_with fail
        refine (lost_st _ _ _ (by exact T.out.q)).mono ?_
        rintro e w5 ⟨rfl, rfl⟩
        go_wp2_with fail
        refine (rlost_st _ _ _ (by exact T.out.r)).mono ?_
        rintro e w5 ⟨rfl, rfl⟩
        go_wp2_with fail
        go_roundw
        case rel => exact ⟨k + 1, by omega, by omega, by go_num, ⟨_, _, _, T.out⟩⟩
        case measure => simp [intOf]; omega
      · obtain rfl : k = 200 := by omega
        have hb := Lib.hid S.below
        clear S hS
        go_wp2_with fail
        go_ret
        exact ⟨rfl, hb.out⟩
    · obtain rfl : k = len := by omega
      have hb := Lib.hid S.below
      clear S hS
      go_wp2_with fail
      go_ret
      exact ⟨rfl, hb.out⟩

theorem queueScripts_walk (v0 v1 v2 : Value) (w : World) (h0 : Arg w (.int .i64) v0) (h1 : Arg w (.slice 3 40 (.cat 1 (.int .i64) (.cat 1 (.int .i64) (.cat 1 (.slice 1 1 (.int .u8)) .nil)))) v1) (h2 : Arg w (.int .i64) v2) :
    Calls Try.prog 6 #[v0, v1, v2] w fun e w' => e = .returned (.bool true) ∧ Below w.heap.size w w' := by
  obtain ⟨room, rfl, -⟩ := h0.int
  obtain ⟨class_, rfl, -⟩ := h2.int
  obtain ⟨ao, len, cap, rfl, hlen, hs⟩ := stepsAt h1
  by_cases hr : 1 ≤ room ∧ room ≤ 1000
  · exact scripts_loop room class_ ao len cap w hlen hs hr.1 hr.2
  · clear hs h1
    go_enter Try.func6, Try.ntmps6
    go_wp2_with fail
    refine (awake_any w).mono ?_
    rintro e w1 ⟨rfl, b1⟩
    go_wp2_with fail
    refine (new_bad room _ (by omega)).mono ?_
    rintro e w2 ⟨rfl, rfl⟩
    go_wp2_with fail
    refine (rnew_bad room _ (by omega)).mono ?_
    rintro e w2 ⟨rfl, rfl⟩
    go_wp2_with fail
    go_loopw [12, 13] (fun i _ wr => i = .int .i64 0 ∧ wr = w1) (fun _ _ _ => 0)
    case atStart => exact ⟨rfl, rfl⟩
    case round =>
      obtain ⟨rfl, rfl⟩ := hrel
      by_cases hl : 0 < len
      · go_wp2_with fail
        go_ret
        exact ⟨rfl, b1⟩
      · obtain rfl : len = 0 := by omega
        go_wp2_with fail
        go_ret
        exact ⟨rfl, b1⟩

end Go.Proofs.Ytboaelkpmfagfaa
