/- Compare, Cost and Limit: the code and the document. -/
import Derived.Test.YtfhfhajanpminaaW1
import Derived.Test.YtfhfhajanpminaaF5
namespace Go.Proofs.Ytfhfhajanpminaa
open Go.RowKit Go.Gm Go.Flo

theorem firstNZ_drop {l : List Int} {j : Nat} {x : Int} (h : l[j]? = some x) : firstNZ (l.drop j) = if x = 0 then firstNZ (l.drop (j + 1)) else x := by
  obtain ⟨hj, rfl⟩ := List.getElem?_eq_some_iff.1 h
  rw [List.drop_eq_getElem_cons hj]
  rfl

theorem or_ints (l : List Int) (g : Nat) (c : Nat) (w : World) (hl : l.length ≤ 10) (hc : ∀ j x, l[j]? = some x → w.cell? ⟨g, j, none⟩ = some (.int .i64 x)) :
    Calls Try.prog 23 #[.slice (some ⟨g, 0, none⟩) l.length c] w fun e w' => e = .returned (.int .i64 (firstNZ l)) ∧ w = w' := by
  have H := Lib.hid hc
  clear hc
  go_enter Try.func23, Try.ntmps23
  go_wp2_with fail
  go_loopw [5, 8] (fun _ i wr => ∃ j : Nat, j ≤ l.length ∧ i = .int .i64 j ∧ Hid (firstNZ (l.drop j) = firstNZ l) ∧ wr = w) (fun _ i _ => l.length - (intOf i).toNat)
  case atStart => exact ⟨0, Nat.zero_le _, rfl, Lib.hid rfl, rfl⟩
  case round =>
    obtain ⟨j, hj, rfl, hd, rfl⟩ := hrel
    by_cases h : j < l.length
    · have d1 : decide ((j : Int) < (l.length : Int)) = true := by simpa using h
      have c0 : (0 : Int) ≤ (j : Int) := by omega
      have c1 : (j : Int) < (l.length : Int) := by omega
      have hx := H.out j l[j] (List.getElem?_eq_getElem h)
      have hf := firstNZ_drop (List.getElem?_eq_getElem h)
      have HF := Lib.hid hf
      clear hf
      have hw1 : IntKind.i64.wrap ((j : Int) + 1) = ((j + 1 : Nat) : Int) := by rw [IntWalk.i64_in _ (by omega)]; omega
      generalize l[j] = x at *
      cases hz : (x == 0)
      · have hz' : (x != 0) = true := by simp [bne, hz]
        go_wp2_with fail
        go_ret
        refine ⟨?_, rfl⟩
        rw [← hd.out, HF.out, if_neg (by simpa using hz)]
        rfl
      · have hz' : (x != 0) = false := by simp [bne, hz]
        go_wp2_with fail
        go_roundw
        case rel => exact ⟨j + 1, by omega, rfl, Lib.hid (by rw [← hd.out, HF.out, if_pos (by simpa using hz)]), by trivial⟩
        case measure => simp [intOf]; omega
    · have d1 : decide ((j : Int) < (l.length : Int)) = false := by simpa using h
      go_wp2_with fail
      go_ret
      refine ⟨?_, rfl⟩
      rw [← hd.out, List.drop_eq_nil_of_le (by omega)]
      rfl


theorem sign_any (x : Nat) (w : World) (hx : x < 2 ^ 64) : Calls Try.prog 21 #[.float .f64 x] w fun e w' => e = .returned (.int .i64 (sgI x)) ∧ w = w' := by
  have C := Lib.hid (signbit_any x · hx)
  unfold sgI
  generalize sgn x = b at *
  cases b
  · rw [if_neg (by decide)]
    go_enter Try.func21, Try.ntmps21
    go_wp2_with fail
    refine (C.out _).mono ?_
    rintro e w1 ⟨rfl, rfl⟩
    clear C
    go_wp2_with fail
    go_ret
    exact ⟨rfl, rfl⟩
  · rw [if_pos rfl]
    go_enter Try.func21, Try.ntmps21
    go_wp2_with fail
    refine (C.out _).mono ?_
    rintro e w1 ⟨rfl, rfl⟩
    clear C
    go_wp2_with fail
    go_ret
    exact ⟨rfl, rfl⟩

theorem compare_any (a b : Nat) (w : World) (ha : a < 2 ^ 64) (hb : b < 2 ^ 64) : Calls Try.prog 11 #[.float .f64 a, .float .f64 b] w fun e w' => e = .returned (.int .i64 (cmpS a b)) ∧ Step None w w' := by
  have C := Lib.hid (isNaN_any a)
  have D := Lib.hid (isNaN_any b)
  have E := Lib.hid (cmp_float a b)
  have F := Lib.hid (sign_any a · ha)
  have G := Lib.hid (sign_any b · hb)
  have H := Lib.hid (cmp_int (sgI a) (sgI b))
  have R : firstNZ [cmpI (key a) (key b), cmpI (sgI a) (sgI b)] = if cmpI (key a) (key b) = 0 then cmpI (sgI a) (sgI b) else cmpI (key a) (key b) := by
    simp only [firstNZ]
    split
    · split
      · rename_i h; rw [h]
      · rfl
    · rfl
  unfold cmpF at E
  unfold cmpS
  rw [← R]
  clear R
  generalize nanB a = x at *
  generalize nanB b = y at *
  cases x <;> cases y
  · rw [if_neg (by decide), if_neg (by decide)] at E
    rw [if_neg (by decide), if_neg (by decide)]
    generalize cmpI (key a) (key b) = m at *
    generalize cmpI (sgI a) (sgI b) = n at *
    generalize sgI a = sa at *
    generalize sgI b = sb at *
    go_enter Try.func11, Try.ntmps11
    go_wp2_with fail
    refine (C.out _).mono ?_
    rintro e w1 ⟨rfl, rfl⟩
    go_wp2_with fail
    refine (D.out _).mono ?_
    rintro e w1 ⟨rfl, rfl⟩
    clear C D
    go_wp2_with fail
    refine (E.out _).mono ?_
    rintro e w1 ⟨rfl, rfl⟩
    go_wp2_with fail
    refine (F.out _).mono ?_
    rintro e w1 ⟨rfl, rfl⟩
    go_wp2_with fail
    refine (G.out _).mono ?_
    rintro e w1 ⟨rfl, rfl⟩
    go_wp2_with fail
    refine (H.out _).mono ?_
    rintro e w1 ⟨rfl, rfl⟩
    go_wp2_with fail
    refine (or_ints [m, n] w.heap.size 2 _ (by simp) ?hcells).mono ?_
    case hcells =>
      intro j z hj
      rw [blk_cell (heap_alloc_new w _)]
      match j, hj with
      | 0, hj => simp at hj; simp [hj]
      | 1, hj => simp at hj; simp [hj]
      | j + 2, hj => simp at hj
    rintro e w3 ⟨rfl, rfl⟩
    go_wp2_with fail
    go_ret
    exact ⟨rfl, (Step.refl Go.Gm.None w).alloc _⟩
  · rw [if_neg (by decide), if_pos rfl]
    go_enter Try.func11, Try.ntmps11
    go_wp2_with fail
    refine (C.out _).mono ?_
    rintro e w1 ⟨rfl, rfl⟩
    go_wp2_with fail
    refine (D.out _).mono ?_
    rintro e w1 ⟨rfl, rfl⟩
    clear C D E F G H
    go_wp2
    go_ret
    exact ⟨rfl, Step.refl _ _⟩
  · rw [if_pos rfl, if_neg (by decide)]
    go_enter Try.func11, Try.ntmps11
    go_wp2_with fail
    refine (C.out _).mono ?_
    rintro e w1 ⟨rfl, rfl⟩
    go_wp2_with fail
    refine (D.out _).mono ?_
    rintro e w1 ⟨rfl, rfl⟩
    clear C D E F G H
    go_wp2
    go_ret
    exact ⟨rfl, Step.refl _ _⟩
  · rw [if_pos rfl, if_pos rfl]
    go_enter Try.func11, Try.ntmps11
    go_wp2_with fail
    refine (C.out _).mono ?_
    rintro e w1 ⟨rfl, rfl⟩
    go_wp2_with fail
    refine (D.out _).mono ?_
    rintro e w1 ⟨rfl, rfl⟩
    clear C D E F G H
    go_wp2
    go_ret
    exact ⟨rfl, Step.refl _ _⟩

theorem limit_any (p : Nat) (c : Int) (w : World) (hp : p < 2 ^ 64) : Calls Try.prog 9 #[.float .f64 p, .int .i64 c] w fun e w' => e = .returned (.int .i64 (limS p c)) ∧ w = w' := by
  unfold limS
  have hn : (if 1073741824 < c then 1073741824 else c) = limN c := by unfold limN; split <;> omega
  by_cases h0 : limN c < 1
  · have d0 : decide (limN c < 1) = true := by simpa using h0
    rw [if_pos h0]
    go_enter Try.func9, Try.ntmps9
    go_wp2_with fail
    go_ret
    exact ⟨rfl, rfl⟩
  · have d0 : decide (limN c < 1) = false := by simpa using h0
    rw [if_neg h0]
    cases h1 : (FloatKind.f64.format.order p 0 == some .gt)
    · rw [if_neg (by decide)]
      go_enter Try.func9, Try.ntmps9
      go_wp2_with fail
      go_ret
      exact ⟨rfl, rfl⟩
    · rw [if_pos rfl]
      cases h2 : (FloatKind.f64.format.order p cH == some .gt || FloatKind.f64.format.order p cH == some .eq)
      · rw [if_neg (by decide)]
        obtain ⟨h3, h4⟩ := lim_mid hp h1 h2
        have ok := lim_ok (n := (limN c).toNat) h4 (by unfold limN; omega)
        have hx := toInt_pos (a := limX p (limN c).toNat) (Nat.lt_of_le_of_lt ok.xle ok.flt) (Nat.lt_of_le_of_lt ok.share (by unfold limN; omega))
        have hsh := ok.share
        have e1 : ∀ w t, (binOp .quo t (.float .f64 p) (.float .f64 4636737291354636288)).run Try.prog w = .ok (.float .f64 (limQ p)) w := fun w t => run_float_arith w .quo t .f64 _ _ _ ok.div
        have e2 : ∀ w, (convert 3 22 (.int .i64 (limN c))).run Try.prog w = .ok (.float .f64 (limF (limN c).toNat)) w := fun w => by
          have hcast : limN c = (((limN c).toNat : Nat) : Int) := by omega
          have := run_convert_int_float (P := Try.prog) w 3 22 .i64 .f64 (limN c) (by kernel_rfl) Try.underlying22
          rw [this]
          unfold limF
          rw [← hcast]
          rfl
        have e3 : ∀ w t, (binOp .mul t (.float .f64 (limQ p)) (.float .f64 (limF (limN c).toNat))).run Try.prog w = .ok (.float .f64 (limX p (limN c).toNat)) w := fun w t => run_float_arith w .mul t .f64 _ _ _ ok.mul
        have e5 := fun w => run_convert_float_int (P := Try.prog) w 22 3 .f64 .i64 (limX p (limN c).toNat) _ (by kernel_rfl) Try.underlying3 hx
        have hm : ∀ z : Nat, z ≤ (limN c).toNat → (if limN c < (z : Int) then limN c else (z : Int)) = (z : Int) := fun z hz => by rw [if_neg (by omega)]
        have hm' := hm _ hsh
        clear hm hx ok hsh h4 h3
        generalize (((V (limX p (limN c).toNat) / U : Nat) : Int)) = z at *
        have h2' : (FloatKind.f64.format.order p 4636737291354636288 == some .gt || FloatKind.f64.format.order p 4636737291354636288 == some .eq) = false := h2
        clear h2
        go_enter Try.func9, Try.ntmps9
        go_wp2_with (first | rw [e1] | rw [e2] | rw [e3] | rw [e5])
        go_ret
        exact ⟨rfl, rfl⟩
      · rw [if_pos rfl]
        have h2' : (FloatKind.f64.format.order p 4636737291354636288 == some .gt || FloatKind.f64.format.order p 4636737291354636288 == some .eq) = true := h2
        clear h2
        go_enter Try.func9, Try.ntmps9
        go_wp2_with fail
        go_ret
        exact ⟨rfl, rfl⟩
end Go.Proofs.Ytfhfhajanpminaa
