/- How much a member is: the code and the document. -/
import Derived.Test.YtbdlcmfmnjhklaaW1
namespace Go.Proofs.Ytbdlcmfmnjhklaa
open Go.RowKit Go.Gm

theorem weight_bytes (h m : Int) : weight h m = endW (mixL h [m % 256, m / 256 % 256, m / 65536 % 256, m / 16777216 % 256]) := by
  simp [weight, byteAt]

theorem end_is {x : Int} (hx : 0 ≤ x ∧ x < 4294967296) : bits .xor .u32 (bits .xor .u32 x (x / 32768) * 739982445 % 4294967296) (bits .xor .u32 x (x / 32768) * 739982445 % 4294967296 / 4096) = endW x := by
  rw [xr_u32 hx (by omega)]
  exact xr_u32 (by omega) (by omega)

set_option maxHeartbeats 2000000 in
theorem weigh_any (h m : Int) (w : World) (hh : 0 ≤ h ∧ h < 4294967296) :
    Calls Try.prog 12 #[.int .u32 h, .int .i64 m] w fun e w' => e = .returned (.int .u32 (weight h m)) ∧ Step None w w' := by
  have HH := Lib.hid hh
  obtain ⟨N, n0, n1, n2, n3, n4⟩ : ∃ N : Nat → Int, N 0 = h ∧ N 1 = mixB (N 0) (m % 256) ∧ N 2 = mixB (N 1) (m / 256 % 256) ∧ N 3 = mixB (N 2) (m / 65536 % 256) ∧ N 4 = mixB (N 3) (m / 16777216 % 256) :=
    ⟨fun j => mixL h ([m % 256, m / 256 % 256, m / 65536 % 256, m / 16777216 % 256].take j), rfl, rfl, rfl, rfl, rfl⟩
  have hw : weight h m = endW (N 4) := by rw [n4, n3, n2, n1, n0, weight_bytes]; rfl
  have r0 : 0 ≤ N 0 ∧ N 0 < 4294967296 := by rw [n0]; exact hh
  have r1 : 0 ≤ N 1 ∧ N 1 < 4294967296 := by rw [n1]; exact mixB_rng _ _
  have r2 : 0 ≤ N 2 ∧ N 2 < 4294967296 := by rw [n2]; exact mixB_rng _ _
  have r3 : 0 ≤ N 3 ∧ N 3 < 4294967296 := by rw [n3]; exact mixB_rng _ _
  have r4 : 0 ≤ N 4 ∧ N 4 < 4294967296 := by rw [n4]; exact mixB_rng _ _
  rw [hw]
  have N0 := Lib.hid n0
  have N1 := Lib.hid n1
  have N2 := Lib.hid n2
  have N3 := Lib.hid n3
  have N4 := Lib.hid n4
  have R0 := Lib.hid r0
  have R1 := Lib.hid r1
  have R2 := Lib.hid r2
  have R3 := Lib.hid r3
  have R4 := Lib.hid r4
  clear hw n0 n1 n2 n3 n4 r0 r1 r2 r3 r4 hh
  go_enter Try.func12, Try.ntmps12
  go_wp2_with fail
  go_loopw [5, 6, 8] (fun x _ i wr => ∃ j : Nat, j ≤ 4 ∧ i = .int .i64 j ∧ x = .int .u32 (N j) ∧ Hid (Step None w wr)) (fun _ _ i _ => 4 - (intOf i).toNat)
  case atStart => exact ⟨0, by omega, rfl, by rw [N0.out], Lib.hid (Step.refl _ _)⟩
  case round =>
    obtain ⟨j, hj, rfl, rfl, hs⟩ := hrel
    rcases (show j = 0 ∨ j = 1 ∨ j = 2 ∨ j = 3 ∨ j = 4 by omega) with rfl | rfl | rfl | rfl | rfl
    · have hb : Hid (mixL (N 0) [m % 256] = N 1) := Lib.hid (by rw [N1.out]; rfl)
      go_wp2_with fail
      refine (mix_any (N 0) wr.heap.size 0 1 [m % 256] _ R0.out (by simp) (fun x hx => by simp at hx; omega) (fun i y hy => ?hcell0)).mono ?_
      case hcell0 =>
        rw [blk_cell (heap_alloc_new wr _)]
        match i, hy with
        | 0, hy => simp at hy; simp [hy]
        | i + 1, hy => simp at hy
      rintro e w2 ⟨rfl, rfl⟩
      rw [hb.out]
      have hs' := Lib.hid (hs.out.alloc (.cells #[.int .u8 (m % 256)] 5))
      go_wp2_with fail
      go_roundw
      case rel => exact ⟨1, by omega, rfl, rfl, hs'⟩
      case measure => simp [intOf]
    · have hb : Hid (mixL (N 1) [m / 256 % 256] = N 2) := Lib.hid (by rw [N2.out]; rfl)
      go_wp2_with fail
      refine (mix_any (N 1) wr.heap.size 0 1 [m / 256 % 256] _ R1.out (by simp) (fun x hx => by simp at hx; omega) (fun i y hy => ?hcell1)).mono ?_
      case hcell1 =>
        rw [blk_cell (heap_alloc_new wr _)]
        match i, hy with
        | 0, hy => simp at hy; simp [hy]
        | i + 1, hy => simp at hy
      rintro e w2 ⟨rfl, rfl⟩
      rw [hb.out]
      have hs' := Lib.hid (hs.out.alloc (.cells #[.int .u8 (m / 256 % 256)] 5))
      go_wp2_with fail
      go_roundw
      case rel => exact ⟨2, by omega, rfl, rfl, hs'⟩
      case measure => simp [intOf]
    · have hb : Hid (mixL (N 2) [m / 65536 % 256] = N 3) := Lib.hid (by rw [N3.out]; rfl)
      go_wp2_with fail
      refine (mix_any (N 2) wr.heap.size 0 1 [m / 65536 % 256] _ R2.out (by simp) (fun x hx => by simp at hx; omega) (fun i y hy => ?hcell2)).mono ?_
      case hcell2 =>
        rw [blk_cell (heap_alloc_new wr _)]
        match i, hy with
        | 0, hy => simp at hy; simp [hy]
        | i + 1, hy => simp at hy
      rintro e w2 ⟨rfl, rfl⟩
      rw [hb.out]
      have hs' := Lib.hid (hs.out.alloc (.cells #[.int .u8 (m / 65536 % 256)] 5))
      go_wp2_with fail
      go_roundw
      case rel => exact ⟨3, by omega, rfl, rfl, hs'⟩
      case measure => simp [intOf]
    · have hb : Hid (mixL (N 3) [m / 16777216 % 256] = N 4) := Lib.hid (by rw [N4.out]; rfl)
      go_wp2_with fail
      refine (mix_any (N 3) wr.heap.size 0 1 [m / 16777216 % 256] _ R3.out (by simp) (fun x hx => by simp at hx; omega) (fun i y hy => ?hcell3)).mono ?_
      case hcell3 =>
        rw [blk_cell (heap_alloc_new wr _)]
        match i, hy with
        | 0, hy => simp at hy; simp [hy]
        | i + 1, hy => simp at hy
      rintro e w2 ⟨rfl, rfl⟩
      rw [hb.out]
      have hs' := Lib.hid (hs.out.alloc (.cells #[.int .u8 (m / 16777216 % 256)] 5))
      go_wp2_with fail
      go_roundw
      case rel => exact ⟨4, by omega, rfl, rfl, hs'⟩
      case measure => simp [intOf]
    · go_wp2_with fail
      go_ret
      exact ⟨by rw [← end_is R4.out]; rfl, hs.out⟩

theorem u64_mod (m : Int) : Int.tmod (IntKind.u64.wrap m) 4294967296 = m % 4294967296 := by
  have h : IntKind.u64.wrap m = m % 18446744073709551616 := by simp [IntKind.wrap, IntKind.bits, IntKind.signed]
  rw [h, Int.tmod_eq_emod_of_nonneg (by omega)]
  omega

set_option maxHeartbeats 2000000 in
theorem rweigh_any (h m : Int) (w : World) (hh : 0 ≤ h ∧ h < 4294967296) :
    Calls Try.prog 13 #[.int .u32 h, .int .i64 m] w fun e w' => e = .returned (.int .u32 (weight h m)) ∧ w = w' := by
  obtain ⟨N, n0, n1, n2, n3, n4⟩ : ∃ N : Nat → Int, N 0 = h ∧ N 1 = mixB (N 0) (m % 256) ∧ N 2 = mixB (N 1) (m / 256 % 256) ∧ N 3 = mixB (N 2) (m / 65536 % 256) ∧ N 4 = mixB (N 3) (m / 16777216 % 256) :=
    ⟨fun j => mixL h ([m % 256, m / 256 % 256, m / 65536 % 256, m / 16777216 % 256].take j), rfl, rfl, rfl, rfl, rfl⟩
  obtain ⟨M, m0, m1, m2, m3, m4⟩ : ∃ M : Nat → Int, M 0 = m % 4294967296 ∧ M 1 = M 0 / 256 ∧ M 2 = M 1 / 256 ∧ M 3 = M 2 / 256 ∧ M 4 = M 3 / 256 :=
    ⟨fun j => m % 4294967296 / 256 ^ j, by simp, by simp, by simp [Int.ediv_ediv_of_nonneg], by simp [Int.ediv_ediv_of_nonneg], by simp [Int.ediv_ediv_of_nonneg]⟩
  have hw : weight h m = endW (N 4) := by rw [n4, n3, n2, n1, n0, weight_bytes]; rfl
  have r0 : 0 ≤ N 0 ∧ N 0 < 4294967296 := by rw [n0]; exact hh
  have r1 : 0 ≤ N 1 ∧ N 1 < 4294967296 := by rw [n1]; exact mixB_rng _ _
  have r2 : 0 ≤ N 2 ∧ N 2 < 4294967296 := by rw [n2]; exact mixB_rng _ _
  have r3 : 0 ≤ N 3 ∧ N 3 < 4294967296 := by rw [n3]; exact mixB_rng _ _
  have r4 : 0 ≤ N 4 ∧ N 4 < 4294967296 := by rw [n4]; exact mixB_rng _ _
  obtain ⟨q, hq⟩ : ∃ q, xr (N 4) (N 4 / 32768) = q := ⟨_, rfl⟩
  obtain ⟨y, hy⟩ : ∃ y, q * 739982445 % 4294967296 = y := ⟨_, rfl⟩
  obtain ⟨z, hz⟩ : ∃ z, xr y (y / 4096) = z := ⟨_, rfl⟩
  have rq : 0 ≤ q ∧ q < 4294967296 := by rw [← hq]; exact xr_rng r4 (by omega)
  have ry : 0 ≤ y ∧ y < 4294967296 := by omega
  have rz : 0 ≤ z ∧ z < 4294967296 := by rw [← hz]; exact xr_rng ry (by omega)
  have hend : endW (N 4) = z := by simp only [endW, hq, hy, hz]
  rw [hw, hend]
  have f0 : Int.tdiv (N 4) 32768 = N 4 / 32768 := Int.tdiv_eq_ediv_of_nonneg (by omega)
  have f00 : IntKind.u64.wrap (N 4 / 32768) = N 4 / 32768 := IntWalk.u64_in _ (by omega)
  have f1 : bits .xor .u64 (N 4) (N 4 / 32768) = q := by rw [xr_u64 r4 (by omega), hq]
  have f2 : IntKind.u64.wrap (q * 739982445) = q * 739982445 := IntWalk.u64_in _ (by omega)
  have f3 : Int.tmod (q * 739982445) 4294967296 = y := by rw [Int.tmod_eq_emod_of_nonneg (by omega), hy]
  have f4 : IntKind.u64.wrap y = y := IntWalk.u64_in _ (by omega)
  have f5 : Int.tdiv y 4096 = y / 4096 := Int.tdiv_eq_ediv_of_nonneg (by omega)
  have f6 : IntKind.u64.wrap (y / 4096) = y / 4096 := IntWalk.u64_in _ (by omega)
  have f7 : bits .xor .u64 y (y / 4096) = z := by rw [xr_u64 ry (by omega), hz]
  have f8 : IntKind.u32.wrap z = z := IntWalk.u32_in _ (by omega)
  have g0 : IntKind.u64.wrap h = h := IntWalk.u64_in _ (by omega)
  have g1 := u64_mod m
  have g2 : IntKind.u64.wrap (m % 4294967296) = m % 4294967296 := IntWalk.u64_in _ (by omega)
  have a0 : Int.tmod (M 0) 256 = m % 256 := by rw [Int.tmod_eq_emod_of_nonneg (by omega)]; omega
  have b0 : Int.tdiv (M 0) 256 = M 1 := by rw [Int.tdiv_eq_ediv_of_nonneg (by omega)]; omega
  have c0 : IntKind.u64.wrap (M 1) = M 1 := IntWalk.u64_in _ (by omega)
  have d0 : IntKind.u8.wrap (m % 256) = m % 256 := IntWalk.u8_in _ (by omega)
  have e0 : IntKind.u64.wrap (m % 256) = m % 256 := IntWalk.u64_in _ (by omega)
  have a1 : Int.tmod (M 1) 256 = m / 256 % 256 := by rw [Int.tmod_eq_emod_of_nonneg (by omega)]; omega
  have b1 : Int.tdiv (M 1) 256 = M 2 := by rw [Int.tdiv_eq_ediv_of_nonneg (by omega)]; omega
  have c1 : IntKind.u64.wrap (M 2) = M 2 := IntWalk.u64_in _ (by omega)
  have d1 : IntKind.u8.wrap (m / 256 % 256) = m / 256 % 256 := IntWalk.u8_in _ (by omega)
  have e1 : IntKind.u64.wrap (m / 256 % 256) = m / 256 % 256 := IntWalk.u64_in _ (by omega)
  have a2 : Int.tmod (M 2) 256 = m / 65536 % 256 := by rw [Int.tmod_eq_emod_of_nonneg (by omega)]; omega
  have b2 : Int.tdiv (M 2) 256 = M 3 := by rw [Int.tdiv_eq_ediv_of_nonneg (by omega)]; omega
  have c2 : IntKind.u64.wrap (M 3) = M 3 := IntWalk.u64_in _ (by omega)
  have d2 : IntKind.u8.wrap (m / 65536 % 256) = m / 65536 % 256 := IntWalk.u8_in _ (by omega)
  have e2 : IntKind.u64.wrap (m / 65536 % 256) = m / 65536 % 256 := IntWalk.u64_in _ (by omega)
  have a3 : Int.tmod (M 3) 256 = m / 16777216 % 256 := by rw [Int.tmod_eq_emod_of_nonneg (by omega)]; omega
  have b3 : Int.tdiv (M 3) 256 = M 4 := by rw [Int.tdiv_eq_ediv_of_nonneg (by omega)]; omega
  have c3 : IntKind.u64.wrap (M 4) = M 4 := IntWalk.u64_in _ (by omega)
  have d3 : IntKind.u8.wrap (m / 16777216 % 256) = m / 16777216 % 256 := IntWalk.u8_in _ (by omega)
  have e3 : IntKind.u64.wrap (m / 16777216 % 256) = m / 16777216 % 256 := IntWalk.u64_in _ (by omega)
  have N0 := Lib.hid n0
  have N1 := Lib.hid n1
  have N2 := Lib.hid n2
  have N3 := Lib.hid n3
  have N4 := Lib.hid n4
  have M0 := Lib.hid m0
  have R0 := Lib.hid r0
  have R1 := Lib.hid r1
  have R2 := Lib.hid r2
  have R3 := Lib.hid r3
  have R4 := Lib.hid r4
  clear hw n0 n1 n2 n3 n4 r0 r1 r2 r3 r4 hh hq hy hz rq ry rz hend m0 m1 m2 m3 m4
  go_enter Try.func13, Try.ntmps13
  go_wp2_with fail
  go_loopw [5, 6, 7] (fun x k i wr => ∃ j : Nat, j ≤ 4 ∧ i = .int .i64 j ∧ x = .int .u64 (N j) ∧ k = .int .u64 (M j) ∧ wr = w) (fun _ _ i _ => 4 - (intOf i).toNat)
  case atStart => exact ⟨0, by omega, rfl, by rw [N0.out], by rw [M0.out], rfl⟩
  case round =>
    obtain ⟨j, hj, rfl, rfl, rfl, rfl⟩ := hrel
    rcases (show j = 0 ∨ j = 1 ∨ j = 2 ∨ j = 3 ∨ j = 4 by omega) with rfl | rfl | rfl | rfl | rfl
    · go_wp2_with fail
      refine (step_any (N 0) (m % 256) _ R0.out (by omega)).mono ?_
      rintro e w2 ⟨rfl, rfl⟩
      rw [← N1.out]
      go_wp2_with fail
      go_roundw
      case rel => exact ⟨1, by omega, rfl, rfl, rfl, by trivial⟩
      case measure => simp [intOf]
    · go_wp2_with fail
      refine (step_any (N 1) (m / 256 % 256) _ R1.out (by omega)).mono ?_
      rintro e w2 ⟨rfl, rfl⟩
      rw [← N2.out]
      go_wp2_with fail
      go_roundw
      case rel => exact ⟨2, by omega, rfl, rfl, rfl, by trivial⟩
      case measure => simp [intOf]
    · go_wp2_with fail
      refine (step_any (N 2) (m / 65536 % 256) _ R2.out (by omega)).mono ?_
      rintro e w2 ⟨rfl, rfl⟩
      rw [← N3.out]
      go_wp2_with fail
      go_roundw
      case rel => exact ⟨3, by omega, rfl, rfl, rfl, by trivial⟩
      case measure => simp [intOf]
    · go_wp2_with fail
      refine (step_any (N 3) (m / 16777216 % 256) _ R3.out (by omega)).mono ?_
      rintro e w2 ⟨rfl, rfl⟩
      rw [← N4.out]
      go_wp2_with fail
      go_roundw
      case rel => exact ⟨4, by omega, rfl, rfl, rfl, by trivial⟩
      case measure => simp [intOf]
    · go_wp2_with fail
      go_ret
      exact ⟨rfl, rfl⟩

end Go.Proofs.Ytbdlcmfmnjhklaa
