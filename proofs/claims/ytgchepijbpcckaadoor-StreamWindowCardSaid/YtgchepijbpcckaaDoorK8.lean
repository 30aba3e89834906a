/- The document's numbers. -/
import Derived.Test.YtgchepijbpcckaaDoorK7
import Derived.Test.YtgchepijbpcckaaDoorK4
import Derived.Deep.OwnRows
namespace Go.Proofs.YtgchepijbpcckaaDoor
open Go.RowKit Go.Gm

theorem info5 : (Tryd.prog.info? 5).map (fun i => (i.zero, i.size, i.bytes)) = some (some (.int .u8 0), 1, 1) := by kernel_rfl

theorem made2 : madeCells #[.int .u8 0] 2 = #[.int .u8 0, .int .u8 0] := by kernel_rfl
theorem made4 : madeCells #[.int .u8 0] 4 = #[.int .u8 0, .int .u8 0, .int .u8 0, .int .u8 0] := by kernel_rfl
theorem make_two (w : World) : (Instr.makeSlice 34 (.int .i64 2) (.int .i64 2)).run Tryd.prog w = .ok (.slice (some ⟨w.heap.size, 0, none⟩) 2 2) (w.alloc (.cells #[.int .u8 0, .int .u8 0] 5)) :=
  by simpa [made2] using run_make_row' (P := Tryd.prog) 34 5 (.int .u8 0) 1 Tryd.underlying34 info5 rfl .i64 .i64 2 (by decide) (by decide) w
theorem make_four (w : World) : (Instr.makeSlice 34 (.int .i64 4) (.int .i64 4)).run Tryd.prog w = .ok (.slice (some ⟨w.heap.size, 0, none⟩) 4 4) (w.alloc (.cells #[.int .u8 0, .int .u8 0, .int .u8 0, .int .u8 0] 5)) :=
  by simpa [made4] using run_make_row' (P := Tryd.prog) 34 5 (.int .u8 0) 1 Tryd.underlying34 info5 rfl .i64 .i64 4 (by decide) (by decide) w

theorem row2 (n : Int) (w : World) : Row (w.alloc (.cells #[.int .u8 (n / 256 % 256), .int .u8 (n % 256)] 5)) 5 1 (.slice (some ⟨w.heap.size, 0, none⟩) 2 2) (two n).length ((two n).map (.int .u8)) :=
  Row.ofBlock (cur := #[.int .u8 (n / 256 % 256), .int .u8 (n % 256)]) (heap_alloc_new _ _) (Nat.le_refl _) (by simp [maxLen]) (by simp)
theorem row4 (n : Int) (w : World) : Row (w.alloc (.cells #[.int .u8 (n / 256 / 256 / 256 % 256), .int .u8 (n / 256 / 256 % 256), .int .u8 (n / 256 % 256), .int .u8 (n % 256)] 5)) 5 1 (.slice (some ⟨w.heap.size, 0, none⟩) 4 4) (four n).length ((four n).map (.int .u8)) := by
  have h1 : n / 65536 / 256 % 256 = n / 256 / 256 / 256 % 256 := by omega
  have h2 : n / 65536 % 256 = n / 256 / 256 % 256 := by omega
  unfold four
  rw [h1, h2]
  exact Row.ofBlock (cur := #[.int .u8 (n / 256 / 256 / 256 % 256), .int .u8 (n / 256 / 256 % 256), .int .u8 (n / 256 % 256), .int .u8 (n % 256)]) (heap_alloc_new _ _) (Nat.le_refl _) (by simp [maxLen]) (by simp)

theorem number_two (n : Int) (w : World) (h0 : 0 ≤ n) (h9 : n < 4294967296) :
    Calls Tryd.prog 53 #[.int .i64 n, .int .i64 2] w fun e w' => ∃ u, e = .returned u ∧ Buf 5 w' w.heap.size u (two n) ∧ Step None w w' := by
  have hm := make_two
  have a0 : 0 ≤ n := by omega
  have d0 : Int.tdiv (n) 256 = n / 256 := Int.tdiv_eq_ediv_of_nonneg a0
  have r0 : Int.tmod (n) 256 = n % 256 := Int.tmod_eq_emod_of_nonneg a0
  have w0 : wrap64 (n / 256) = n / 256 := IntWalk.wrap64_in _ ⟨by omega, by omega⟩
  have a1 : 0 ≤ n / 256 := by omega
  have d1 : Int.tdiv (n / 256) 256 = n / 256 / 256 := Int.tdiv_eq_ediv_of_nonneg a1
  have r1 : Int.tmod (n / 256) 256 = n / 256 % 256 := Int.tmod_eq_emod_of_nonneg a1
  have w1 : wrap64 (n / 256 / 256) = n / 256 / 256 := IntWalk.wrap64_in _ ⟨by omega, by omega⟩
  go_enter Tryd.func53, Tryd.ntmps53
  go_wp2_with fail
  go_loopw [0, 6] (fun m i wr => (m = .int .i64 (n) ∧ i = .int .i64 (1) ∧ wr = w.alloc (.cells #[.int .u8 0, .int .u8 0] 5)) ∨ (m = .int .i64 (n / 256) ∧ i = .int .i64 (0) ∧ wr = w.alloc (.cells #[.int .u8 0, .int .u8 (n % 256)] 5)) ∨ (m = .int .i64 (n / 256 / 256) ∧ i = .int .i64 (-1) ∧ wr = w.alloc (.cells #[.int .u8 (n / 256 % 256), .int .u8 (n % 256)] 5))) (fun _ i _ => (intOf i + 1).toNat)
  case atStart => exact .inl ⟨rfl, rfl, rfl⟩
  case round =>
    rcases hrel with ⟨rfl, rfl, rfl⟩ | ⟨rfl, rfl, rfl⟩ | ⟨rfl, rfl, rfl⟩
    · go_wp2_with fail
      go_roundw
      case rel => exact .inr (.inl ⟨rfl, rfl, by trivial⟩)
      case measure => simp [intOf]
    · go_wp2_with fail
      go_roundw
      case rel => exact .inr (.inr (⟨rfl, rfl, by trivial⟩))
      case measure => simp [intOf]
    · go_wp2_with fail
      go_ret
      exact ⟨_, rfl, ⟨row2 n w, fun k hk => by simp [Leads, Value.ownBlock] at hk; omega⟩, (Step.refl _ _).alloc _⟩

theorem number_four (n : Int) (w : World) (h0 : 0 ≤ n) (h9 : n < 4294967296) :
    Calls Tryd.prog 53 #[.int .i64 n, .int .i64 4] w fun e w' => ∃ u, e = .returned u ∧ Buf 5 w' w.heap.size u (four n) ∧ Step None w w' := by
  have hm := make_four
  have a0 : 0 ≤ n := by omega
  have d0 : Int.tdiv (n) 256 = n / 256 := Int.tdiv_eq_ediv_of_nonneg a0
  have r0 : Int.tmod (n) 256 = n % 256 := Int.tmod_eq_emod_of_nonneg a0
  have w0 : wrap64 (n / 256) = n / 256 := IntWalk.wrap64_in _ ⟨by omega, by omega⟩
  have a1 : 0 ≤ n / 256 := by omega
  have d1 : Int.tdiv (n / 256) 256 = n / 256 / 256 := Int.tdiv_eq_ediv_of_nonneg a1
  have r1 : Int.tmod (n / 256) 256 = n / 256 % 256 := Int.tmod_eq_emod_of_nonneg a1
  have w1 : wrap64 (n / 256 / 256) = n / 256 / 256 := IntWalk.wrap64_in _ ⟨by omega, by omega⟩
  have a2 : 0 ≤ n / 256 / 256 := by omega
  have d2 : Int.tdiv (n / 256 / 256) 256 = n / 256 / 256 / 256 := Int.tdiv_eq_ediv_of_nonneg a2
  have r2 : Int.tmod (n / 256 / 256) 256 = n / 256 / 256 % 256 := Int.tmod_eq_emod_of_nonneg a2
  have w2 : wrap64 (n / 256 / 256 / 256) = n / 256 / 256 / 256 := IntWalk.wrap64_in _ ⟨by omega, by omega⟩
  have a3 : 0 ≤ n / 256 / 256 / 256 := by omega
  have d3 : Int.tdiv (n / 256 / 256 / 256) 256 = n / 256 / 256 / 256 / 256 := Int.tdiv_eq_ediv_of_nonneg a3
  have r3 : Int.tmod (n / 256 / 256 / 256) 256 = n / 256 / 256 / 256 % 256 := Int.tmod_eq_emod_of_nonneg a3
  have w3 : wrap64 (n / 256 / 256 / 256 / 256) = n / 256 / 256 / 256 / 256 := IntWalk.wrap64_in _ ⟨by omega, by omega⟩
  go_enter Tryd.func53, Tryd.ntmps53
  go_wp2_with fail
  go_loopw [0, 6] (fun m i wr => (m = .int .i64 (n) ∧ i = .int .i64 (3) ∧ wr = w.alloc (.cells #[.int .u8 0, .int .u8 0, .int .u8 0, .int .u8 0] 5)) ∨ (m = .int .i64 (n / 256) ∧ i = .int .i64 (2) ∧ wr = w.alloc (.cells #[.int .u8 0, .int .u8 0, .int .u8 0, .int .u8 (n % 256)] 5)) ∨ (m = .int .i64 (n / 256 / 256) ∧ i = .int .i64 (1) ∧ wr = w.alloc (.cells #[.int .u8 0, .int .u8 0, .int .u8 (n / 256 % 256), .int .u8 (n % 256)] 5)) ∨ (m = .int .i64 (n / 256 / 256 / 256) ∧ i = .int .i64 (0) ∧ wr = w.alloc (.cells #[.int .u8 0, .int .u8 (n / 256 / 256 % 256), .int .u8 (n / 256 % 256), .int .u8 (n % 256)] 5)) ∨ (m = .int .i64 (n / 256 / 256 / 256 / 256) ∧ i = .int .i64 (-1) ∧ wr = w.alloc (.cells #[.int .u8 (n / 256 / 256 / 256 % 256), .int .u8 (n / 256 / 256 % 256), .int .u8 (n / 256 % 256), .int .u8 (n % 256)] 5))) (fun _ i _ => (intOf i + 1).toNat)
  case atStart => exact .inl ⟨rfl, rfl, rfl⟩
  case round =>
    rcases hrel with ⟨rfl, rfl, rfl⟩ | ⟨rfl, rfl, rfl⟩ | ⟨rfl, rfl, rfl⟩ | ⟨rfl, rfl, rfl⟩ | ⟨rfl, rfl, rfl⟩
    · go_wp2_with fail
      go_roundw
      case rel => exact .inr (.inl ⟨rfl, rfl, by trivial⟩)
      case measure => simp [intOf]
    · go_wp2_with fail
      go_roundw
      case rel => exact .inr (.inr (.inl ⟨rfl, rfl, by trivial⟩))
      case measure => simp [intOf]
    · go_wp2_with fail
      go_roundw
      case rel => exact .inr (.inr (.inr (.inl ⟨rfl, rfl, by trivial⟩)))
      case measure => simp [intOf]
    · go_wp2_with fail
      go_roundw
      case rel => exact .inr (.inr (.inr (.inr (⟨rfl, rfl, by trivial⟩))))
      case measure => simp [intOf]
    · go_wp2_with fail
      go_ret
      exact ⟨_, rfl, ⟨row4 n w, fun k hk => by simp [Leads, Value.ownBlock] at hk; omega⟩, (Step.refl _ _).alloc _⟩

end Go.Proofs.YtgchepijbpcckaaDoor
