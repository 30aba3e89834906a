/- Choose: the code and the document. -/
import Derived.Test.YtbdlcmfmnjhklaaW4
namespace Go.Proofs.Ytbdlcmfmnjhklaa
open Go.RowKit Go.Gm

theorem choose_nil (ao : Option Addr) (cap : Nat) (h : Int) (w : World) : Calls Try.prog 14 #[.slice ao 0 cap, .int .u32 h] w fun e w' => e = .returned (.tuple #[.int .i64 0, .bool false]) ∧ Step None w w' := by
  have S := Lib.hid ((Step.refl None w).alloc (.cells #[.int .u32 h] 27))
  go_enter Try.func14, Try.ntmps14
  go_wp2_with fail
  go_ret2
  exact ⟨rfl, S.out⟩
theorem rchoose_nil (ao : Option Addr) (cap : Nat) (h : Int) (w : World) : Calls Try.prog 15 #[.slice ao 0 cap, .int .u32 h] w fun e w' => e = .returned (.tuple #[.int .i64 0, .bool false]) ∧ Step None w w' := by
  go_enter Try.func15, Try.ntmps15
  go_wp2_with fail
  go_ret2
  exact ⟨rfl, Step.refl _ _⟩

theorem choose_any (m0 : Int) (l : List Int) (h : Int) (b off cap : Nat) (w : World) (hh : 0 ≤ h ∧ h < 4294967296) (hl : l.length ≤ 2000) (hb : b < w.heap.size)
    (hc : ∀ j x, (m0 :: l)[j]? = some x → w.cell? ⟨b, off + j, none⟩ = some (.int .i64 x)) :
    Calls Try.prog 14 #[.slice (some ⟨b, off, none⟩) (l.length + 1) cap, .int .u32 h] w fun e w' => e = .returned (.tuple #[.int .i64 (Gm.chosen (weight h) m0 l), .bool true]) ∧ Step None w w' := by
  have S1 := Lib.hid ((Step.refl None w).alloc (.cells #[.int .u32 h] 27))
  have hg : (w.alloc (.cells #[.int .u32 h] 27)).cell? ⟨w.heap.size, 0, none⟩ = some (.int .u32 h) := blk_cell (heap_alloc_new w _) 0
  have M := Lib.hid (maxFunc_any m0 l h b off cap w.heap.size (w.alloc (.cells #[.int .u32 h] 27)) hh hg hl (fun j x hj => by
    have := hc j x hj
    rw [S1.out.cell (p := ⟨b, off + j, none⟩) hb (fun s => s.elim)]; exact this))
  have d1 : (((l.length + 1 : Nat) : Int) == 0) = false := by simp; omega
  have d2 : ((l.length : Int) + 1 == 0) = false := by simp; omega
  clear hc hg
  go_enter Try.func14, Try.ntmps14
  go_wp2_with fail
  refine M.out.mono ?_
  rintro e w2 ⟨rfl, s2⟩
  have S2 := Lib.hid (S1.out.then_ s2)
  clear s2 M
  go_wp2_with fail
  go_ret2
  exact ⟨rfl, S2.out⟩

set_option linter.unusedSimpArgs false in
set_option maxHeartbeats 2000000 in
theorem rchoose_any (m0 : Int) (l : List Int) (h : Int) (b off cap : Nat) (w : World) (hh : 0 ≤ h ∧ h < 4294967296) (hl : l.length ≤ 2000)
    (hc : ∀ j x, (m0 :: l)[j]? = some x → w.cell? ⟨b, off + j, none⟩ = some (.int .i64 x)) :
    Calls Try.prog 15 #[.slice (some ⟨b, off, none⟩) (l.length + 1) cap, .int .u32 h] w fun e w' => e = .returned (.tuple #[.int .i64 (Gm.chosen (weight h) m0 l), .bool true]) ∧ Step None w w' := by
  have H := Lib.hid hc
  have B : Hid (∀ a w', Calls Try.prog 13 #[.int .u32 h, .int .i64 a] w' fun e w'' => e = .returned (.int .u32 (weight h a)) ∧ w' = w'') := Lib.hid fun a w' => rweigh_any h a w' hh
  have k0 : w.cell? ⟨b, off, none⟩ = some (.int .i64 m0) := hc 0 m0 rfl
  have CS := Lib.hid (chosen_snoc (weight h))
  have g0 : (0 : Int) < (l.length : Int) + 1 := by omega
  have d0 : (((l.length + 1 : Nat) : Int) == 0) = false := by simp; omega
  have d00 : ((l.length : Int) + 1 == 0) = false := by simp; omega
  clear hc hh
  generalize weight h = W at *
  go_enter Try.func15, Try.ntmps15
  go_wp2_with fail
  go_loopw [6, 7, 8, 9] (fun m i _ _ wr => ∃ j : Nat, j ≤ l.length ∧ i = .int .i64 ((j : Int) + 1) ∧ m = .int .i64 (Gm.chosen W m0 (l.take j)) ∧ wr = w) (fun _ i _ _ _ => l.length + 1 - (intOf i).toNat)
  case atStart => exact ⟨0, by omega, rfl, rfl, rfl⟩
  case round =>
    obtain ⟨j, hj, rfl, rfl, rfl⟩ := hrel
    by_cases hlt : j < l.length
    · have d1 : decide ((j : Int) + 1 < (l.length : Int) + 1) = true := by simp; omega
      have d2 : (j : Int) + 1 < (l.length : Int) + 1 := by omega
      have d5 : decide ((j : Int) < (l.length : Int)) = true := by simp; omega
      have d6 : decide (j < l.length) = true := by simp; omega
      have d7 : (0 : Int) ≤ (j : Int) + 1 := by omega
      obtain ⟨x, hx⟩ : ∃ x, l[j]? = some x := ⟨l[j], List.getElem?_eq_getElem hlt⟩
      have c1 := H.out (j + 1) x (by simpa using hx)
      have hn : l.take (j + 1) = l.take j ++ [x] := by rw [List.take_add_one, hx]; rfl
      have HN := Lib.hid (CS.out (l.take j) m0 x)
      rw [← hn] at HN
      have hw1 : IntKind.i64.wrap ((j : Int) + 1 + 1) = ((j + 1 : Nat) : Int) + 1 := by rw [IntWalk.i64_in _ (by omega)]; omega
      clear hn hx
      generalize Gm.chosen W m0 (l.take j) = cm at *
      go_wp2_with fail
      refine (B.out x _).mono ?_
      rintro e w2 ⟨rfl, rfl⟩
      go_wp2_with fail
      refine (B.out cm _).mono ?_
      rintro e w2 ⟨rfl, rfl⟩
      have ha : Hid (Gm.ahead W x cm = (decide (W cm < W x) || (W x == W cm && decide (x < cm)))) := Lib.hid rfl
      generalize W x = p at *
      generalize W cm = q at *
      cases h1 : decide (q < p)
      · cases h2 : (p == q)
        · have HN' := Lib.hid (HN.out.trans (if_neg (by rw [ha.out, h1, h2]; simp)))
          go_wp2_with fail
          go_roundw
          case rel => exact ⟨j + 1, by omega, by simp, by rw [HN'.out], by trivial⟩
          case measure => simp [intOf]; omega
        · cases h3 : decide (x < cm)
          · have HN' := Lib.hid (HN.out.trans (if_neg (by rw [ha.out, h1, h2, h3]; simp)))
            go_wp2_with fail
            go_roundw
            case rel => exact ⟨j + 1, by omega, by simp, by rw [HN'.out], by trivial⟩
            case measure => simp [intOf]; omega
          · have HN' := Lib.hid (HN.out.trans (if_pos (by rw [ha.out, h1, h2, h3]; simp)))
            go_wp2_with fail
            go_roundw
            case rel => exact ⟨j + 1, by omega, by simp, by rw [HN'.out], by trivial⟩
            case measure => simp [intOf]; omega
      · have HN' := Lib.hid (HN.out.trans (if_pos (by rw [ha.out, h1]; simp)))
        go_wp2_with fail
        go_roundw
        case rel => exact ⟨j + 1, by omega, by simp, by rw [HN'.out], by trivial⟩
        case measure => simp [intOf]; omega
    · have d1 : decide ((j : Int) + 1 < (l.length : Int) + 1) = false := by simp; omega
      have d5 : decide ((j : Int) < (l.length : Int)) = false := by simp; omega
      have d6 : decide (j < l.length) = false := by simp; omega
      obtain rfl : j = l.length := by omega
      rw [List.take_length]
      go_wp2_with fail
      go_ret2
      exact ⟨rfl, Step.refl _ _⟩

/-- The frame of which nothing is told. -/
def noFrame : Frm := ⟨0, 0, 0, 0, 0, 0, 0, 0, 0, 0, 0, 0, false, 0, 0, 0, .slice none 0 0⟩
theorem noFrame_hash : (hashF noFrame != 0) = true := by decide +kernel

end Go.Proofs.Ytbdlcmfmnjhklaa
