/- The hash's steps, and how much a member is. -/
import Derived.Test.YtbdlcmfmnjhklaaRows
import Derived.Test.YtbdlcmfmnjhklaaTyp
import Derived.Test.YtbdlcmfmnjhklaaPlan
import Derived.Test.YtbdlcmfmnjhklaaLex
import Derived.Test.YtbdlcmfmnjhklaaMix
namespace Go.Proofs.Ytbdlcmfmnjhklaa
open Go.RowKit Go.Gm

theorem mix_any (x : Int) (b off cap : Nat) (l : List Int) (w : World) (hx : 0 ≤ x ∧ x < 4294967296) (hl : l.length ≤ 100) (hs : Small l) (hc : ∀ j y, l[j]? = some y → w.cell? ⟨b, off + j, none⟩ = some (.int .u8 y)) :
    Calls Try.prog 16 #[.int .u32 x, .slice (some ⟨b, off, none⟩) l.length cap] w fun e w' => e = .returned (.int .u32 (mixL x l)) ∧ w = w' := by
  have H := Lib.hid hc
  have HS := Lib.hid hs
  have HX := Lib.hid hx
  clear hc hs hx
  go_enter Try.func16, Try.ntmps16
  go_wp2_with fail
  go_loopw [0, 6, 9] (fun n _ i wr => ∃ j : Nat, j ≤ l.length ∧ i = .int .i64 j ∧ n = .int .u32 (mixL x (l.take j)) ∧ wr = w) (fun _ _ i _ => l.length - (intOf i).toNat)
  case atStart => exact ⟨0, Nat.zero_le _, rfl, rfl, rfl⟩
  case round =>
    obtain ⟨j, hj, rfl, rfl, rfl⟩ := hrel
    by_cases h : j < l.length
    · have d1 : decide ((j : Int) < (l.length : Int)) = true := by simpa using h
      have c0 : (0 : Int) ≤ (j : Int) := by omega
      have c1 : (j : Int) < (l.length : Int) := by omega
      obtain ⟨y, hy⟩ : ∃ y, l[j]? = some y := ⟨l[j], List.getElem?_eq_getElem h⟩
      have hcell := H.out j y hy
      have hb := HS.out y (List.mem_of_getElem? hy)
      have hn : l.take (j + 1) = l.take j ++ [y] := by rw [List.take_add_one, hy]; rfl
      have hr := mixL_rng HX.out (l.take j)
      have hsn := mixL_snoc x (l.take j) y
      rw [← hn] at hsn
      have hw1 : IntKind.i64.wrap ((j : Int) + 1) = ((j + 1 : Nat) : Int) := by rw [IntWalk.i64_in _ (by omega)]; omega
      have HN := Lib.hid hsn
      clear hsn hn hy
      generalize mixL x (l.take j) = N at *
      have e1 : IntKind.u32.wrap y = y := IntWalk.u32_in _ (by omega)
      have e2 : bits .xor .u32 N y = xr N y := xr_u32 hr (by omega)
      have e3 : IntKind.u32.wrap (xr N y * 16777619) = mixB N y := by rw [IntKind.wrap_u32]; rfl
      clear hr hb
      go_wp2_with fail
      go_roundw
      case rel => exact ⟨j + 1, by omega, rfl, by rw [HN.out], by trivial⟩
      case measure => simp [intOf]; omega
    · have d1 : decide ((j : Int) < (l.length : Int)) = false := by simpa using h
      obtain rfl : j = l.length := by omega
      rw [List.take_length]
      go_wp2_with fail
      go_ret
      exact ⟨rfl, rfl⟩

theorem step_any (x b : Int) (w : World) (hx : 0 ≤ x ∧ x < 4294967296) (hb : 0 ≤ b ∧ b ≤ 255) :
    Calls Try.prog 17 #[.int .u64 x, .int .u8 b] w fun e w' => e = .returned (.int .u64 (mixB x b)) ∧ w = w' := by
  have hr := xr_rng hx (show 0 ≤ b ∧ b < 4294967296 by omega)
  have e1 : IntKind.u64.wrap b = b := IntWalk.u64_in _ (by omega)
  have e2 : bits .xor .u64 x b = xr x b := xr_u64 hx (by omega)
  have hm : Hid (mixB x b = xr x b * 16777619 % 4294967296) := Lib.hid rfl
  clear hx hb
  generalize xr x b = y at *
  have e3 : IntKind.u64.wrap (y * 16777619) = y * 16777619 := IntWalk.u64_in _ (by omega)
  have e4 : Int.tmod (y * 16777619) 4294967296 = y * 16777619 % 4294967296 := Int.tmod_eq_emod_of_nonneg (by omega)
  have e5 : IntKind.u64.wrap (y * 16777619 % 4294967296) = y * 16777619 % 4294967296 := IntWalk.u64_in _ (by omega)
  clear hr
  go_enter Try.func17, Try.ntmps17
  go_wp2_with fail
  go_ret
  exact ⟨by rw [hm.out]; rfl, rfl⟩

theorem firstNZ_drop {l : List Int} {j : Nat} {x : Int} (h : l[j]? = some x) : firstNZ (l.drop j) = if x = 0 then firstNZ (l.drop (j + 1)) else x := by
  obtain ⟨hj, rfl⟩ := List.getElem?_eq_some_iff.1 h
  rw [List.drop_eq_getElem_cons hj]
  rfl

theorem or_ints (l : List Int) (g : Nat) (c : Nat) (w : World) (hl : l.length ≤ 10) (hc : ∀ j x, l[j]? = some x → w.cell? ⟨g, j, none⟩ = some (.int .i64 x)) :
    Calls Try.prog 19 #[.slice (some ⟨g, 0, none⟩) l.length c] w fun e w' => e = .returned (.int .i64 (firstNZ l)) ∧ w = w' := by
  have H := Lib.hid hc
  clear hc
  go_enter Try.func19, Try.ntmps19
  go_wp2_with fail
  go_loopw [5, 8] (fun _ i wr => ∃ j : Nat, j ≤ l.length ∧ i = .int .i64 j ∧ Hid (firstNZ (l.drop j) = firstNZ l) ∧ wr = w) (fun _ i _ => l.length - (intOf i).toNat)
  case atStart => exact ⟨0, Nat.zero_le _, rfl, Lib.hid rfl, rfl⟩
  case round =>
    obtain ⟨j, hj, rfl, hd, rfl⟩ := hrel
    by_cases h : j < l.length
    · have d1 : decide ((j : Int) < (l.length : Int)) = true := by simpa using h
      have c0 : (0 : Int) ≤ (j : Int) := by omega
      have c1 : (j : Int) < (l.length : Int) := by omega
      have hx := H.out j l[j] (List.getElem?_eq_getElem h)
      have hf := firstNZ_drop (List.getElem?_eq_getElem h)
      have HF := Lib.hid hf
      clear hf
      have hw1 : IntKind.i64.wrap ((j : Int) + 1) = ((j + 1 : Nat) : Int) := by rw [IntWalk.i64_in _ (by omega)]; omega
      generalize l[j] = x at *
      cases hz : (x == 0)
      · have hz' : (x != 0) = true := by simp [bne, hz]
        go_wp2_with fail
        go_ret
        refine ⟨?_, rfl⟩
        rw [← hd.out, HF.out, if_neg (by simpa using hz)]
        rfl
      · have hz' : (x != 0) = false := by simp [bne, hz]
        go_wp2_with fail
        go_roundw
        case rel => exact ⟨j + 1, by omega, rfl, Lib.hid (by rw [← hd.out, HF.out, if_pos (by simpa using hz)]), by trivial⟩
        case measure => simp [intOf]; omega
    · have d1 : decide ((j : Int) < (l.length : Int)) = false := by simpa using h
      go_wp2_with fail
      go_ret
      refine ⟨?_, rfl⟩
      rw [← hd.out, List.drop_eq_nil_of_le (by omega)]
      rfl

theorem cmp_int (x y : Int) (w : World) : Calls Try.prog 21 #[.int .i64 x, .int .i64 y] w fun e w' => e = .returned (.int .i64 (cmpI x y)) ∧ w = w' := by
  unfold cmpI
  go_enter Try.func21, Try.ntmps21
  by_cases h1 : x < y
  · have d1 : decide (x < y) = true := by simpa using h1
    rw [if_pos h1]
    go_wp2
    go_ret
    exact ⟨rfl, rfl⟩
  · have d1 : decide (x < y) = false := by simpa using h1
    rw [if_neg h1]
    by_cases h2 : y < x
    · have d2 : decide (y < x) = true := by simpa using h2
      rw [if_pos h2]
      go_wp2
      go_ret
      exact ⟨rfl, rfl⟩
    · have d2 : decide (y < x) = false := by simpa using h2
      rw [if_neg h2]
      go_wp2
      go_ret
      exact ⟨rfl, rfl⟩

theorem cmp_u32 (x y : Int) (w : World) : Calls Try.prog 20 #[.int .u32 x, .int .u32 y] w fun e w' => e = .returned (.int .i64 (cmpI x y)) ∧ w = w' := by
  unfold cmpI
  go_enter Try.func20, Try.ntmps20
  by_cases h1 : x < y
  · have d1 : decide (x < y) = true := by simpa using h1
    rw [if_pos h1]
    go_wp2
    go_ret
    exact ⟨rfl, rfl⟩
  · have d1 : decide (x < y) = false := by simpa using h1
    rw [if_neg h1]
    by_cases h2 : y < x
    · have d2 : decide (y < x) = true := by simpa using h2
      rw [if_pos h2]
      go_wp2
      go_ret
      exact ⟨rfl, rfl⟩
    · have d2 : decide (y < x) = false := by simpa using h2
      rw [if_neg h2]
      go_wp2
      go_ret
      exact ⟨rfl, rfl⟩


end Go.Proofs.Ytbdlcmfmnjhklaa
