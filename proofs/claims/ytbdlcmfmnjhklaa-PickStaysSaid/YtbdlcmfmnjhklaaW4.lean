/- The one that a hash goes to. -/
import Derived.Test.YtbdlcmfmnjhklaaW3
namespace Go.Proofs.Ytbdlcmfmnjhklaa
open Go.RowKit Go.Gm

set_option linter.unusedSimpArgs false in
set_option maxHeartbeats 2000000 in
theorem better_any (a b h : Int) (g : Nat) (w : World) (hh : 0 ≤ h ∧ h < 4294967296) (hg : w.cell? ⟨g, 0, none⟩ = some (.int .u32 h)) :
    Calls Try.prog 18 #[.int .i64 a, .int .i64 b, .pointer (some ⟨g, 0, none⟩)] w fun e w' => e = .returned (.int .i64 (firstNZ [cmpI (weight h a) (weight h b), cmpI b a])) ∧ Step None w w' := by
  have K : Hid (∀ w', Step None w w' → w'.cell? ⟨g, 0, none⟩ = some (.int .u32 h)) := Lib.hid fun w' h' => by
    rw [h'.cell (p := ⟨g, 0, none⟩) (World.block_lt_of_cell? _ _ hg) (fun s => s.elim)]; exact hg
  have A := Lib.hid (weigh_any h a · hh)
  have B := Lib.hid (weigh_any h b · hh)
  have e0 := Lib.hid (Step.refl None w).drew
  clear hg hh
  generalize weight h a = x at *
  generalize weight h b = y at *
  go_enter Try.func18, Try.ntmps18
  go_wp2_with fail
  refine wp_region_plan (fun w' => w'.cell? ⟨g, 0, none⟩ = some (.int .u32 h)) (.take 0 (.take 1 (.take 3 (.take 4 (.take 7 (.take 8 (.alt 2 (.alt 5 (.alt 6 (.alt 9 (.alt 10 (.alt 11 (.take 12 .done) .none) .none) .none) .none) .none) .none))))))) _
    (by simp only [Plan.map, opOf, List.getElem?_toArray, List.getElem?_cons_zero, List.getElem?_cons_succ, Option.getD_some]; rfl) (by kernel_rfl) (by kernel_rfl) (by kernel_rfl) (by decide) (by intro c a d v w; cases d <;> exact fun h => h) (K.out _ e0.out) ?_
  repeat (refine wpPlan.taken (by rfl) (by intro w' hS'; (try dsimp only at hS'); go_split_ands; go_simp; try with_reducible rfl) ?_; simp only [Act.put, List.setIfInBounds_toArray, List.set_cons_zero, List.set_cons_succ])
  refine wpPlan.runs fun K' hK => ?_
  go_simp
  refine (A.out _).mono ?_
  rintro e w1 ⟨rfl, s1⟩
  have e1 := Lib.hid (e0.out.then_ s1)
  refine hK.out _ _ (K.out _ e1.out) ?_
  clear s1
  clear hK K'
  repeat (refine wpPlan.taken (by rfl) (by intro w' hS'; (try dsimp only at hS'); go_split_ands; go_simp; try with_reducible rfl) ?_; simp only [Act.put, List.setIfInBounds_toArray, List.set_cons_zero, List.set_cons_succ])
  refine wpPlan.runs fun K' hK => ?_
  go_simp
  refine (B.out _).mono ?_
  rintro e w2 ⟨rfl, s2⟩
  have e2 := Lib.hid (e1.out.then_ s2)
  refine hK.out _ _ (K.out _ e2.out) ?_
  clear s2
  clear hK K'
  repeat (refine wpPlan.taken (by rfl) (by intro w' hS'; (try dsimp only at hS'); go_split_ands; go_simp; try with_reducible rfl) ?_; simp only [Act.put, List.setIfInBounds_toArray, List.set_cons_zero, List.set_cons_succ])
  refine wpPlan.runs fun K' hK => ?_
  go_simp
  refine (cmp_u32 x y _).mono ?_
  rintro e w3 ⟨rfl, rfl⟩
  refine hK.out _ _ (K.out _ e2.out) ?_
  clear hK K'
  repeat (refine wpPlan.taken (by rfl) (by intro w' hS'; (try dsimp only at hS'); go_split_ands; go_simp; try with_reducible rfl) ?_; simp only [Act.put, List.setIfInBounds_toArray, List.set_cons_zero, List.set_cons_succ])
  refine wpPlan.runs fun K' hK => ?_
  go_simp
  refine (cmp_int b a _).mono ?_
  rintro e w3 ⟨rfl, rfl⟩
  refine hK.out _ _ (K.out _ e2.out) ?_
  clear hK K'
  repeat (refine wpPlan.taken (by rfl) (by intro w' hS'; (try dsimp only at hS'); go_split_ands; go_simp; try with_reducible rfl) ?_; simp only [Act.put, List.setIfInBounds_toArray, List.set_cons_zero, List.set_cons_succ])
  refine wpPlan.runs fun K' hK => ?_
  go_simp
  refine hK.out _ _ (K.out _ (e2.out.alloc _)) ?_
  clear hK K'
  repeat (refine wpPlan.taken (by rfl) (by intro w' hS'; (try dsimp only at hS'); go_split_ands; go_simp; try with_reducible rfl) ?_; simp only [Act.put, List.setIfInBounds_toArray, List.set_cons_zero, List.set_cons_succ])
  refine wpPlan.runs fun K' hK => ?_
  go_simp
  refine (or_ints [cmpI x y, cmpI b a] w2.heap.size 2 _ (by simp) ?hcells).mono ?_
  case hcells =>
    intro j z hj
    rw [blk_cell (heap_alloc_new w2 _)]
    match j, hj with
    | 0, hj => simp at hj; simp [hj]
    | 1, hj => simp at hj; simp [hj]
    | j + 2, hj => simp at hj
  rintro e w3 ⟨rfl, rfl⟩
  refine hK.out _ _ (K.out _ (e2.out.alloc _)) ?_
  clear hK K'
  repeat (refine wpPlan.taken (by rfl) (by intro w' hS'; (try dsimp only at hS'); go_split_ands; go_simp; try with_reducible rfl) ?_; simp only [Act.put, List.setIfInBounds_toArray, List.set_cons_zero, List.set_cons_succ])
  refine wpPlan.done ?_
  have E := Lib.hid (e2.out.alloc (.cells #[.int .i64 (cmpI x y), .int .i64 (cmpI b a)] 3))
  go_wp2_with fail
  go_ret
  exact ⟨rfl, E.out⟩

theorem better_ahead (W : Int → Int) (a b : Int) : decide (0 < firstNZ [cmpI (W a) (W b), cmpI b a]) = Gm.ahead W a b := by
  rw [Bool.eq_iff_iff, decide_eq_true_eq]
  simp only [Gm.ahead, Bool.or_eq_true, Bool.and_eq_true, beq_iff_eq, decide_eq_true_eq]
  have h0 : firstNZ [cmpI (W a) (W b), cmpI b a] = if cmpI (W a) (W b) = 0 then (if cmpI b a = 0 then 0 else cmpI b a) else cmpI (W a) (W b) := rfl
  rw [h0]
  by_cases h1 : W a = W b
  · rw [if_pos (cmpI_zero.2 h1)]
    by_cases h2 : b = a
    · rw [if_pos (cmpI_zero.2 h2)]; subst h2; simp
    · rw [if_neg (fun h => h2 (cmpI_zero.1 h))]
      have := cmpI_rng b a
      have g := @cmpI_gt b a
      have l := @cmpI_lt b a
      constructor
      · intro h
        have := g.1 (by omega)
        exact .inr ⟨h1, this⟩
      · rintro (h | ⟨-, h⟩)
        · omega
        · have := g.2 h; omega
  · rw [if_neg (fun h => h1 (cmpI_zero.1 h))]
    have := cmpI_rng (W a) (W b)
    have g := @cmpI_gt (W a) (W b)
    constructor
    · intro h
      exact .inl (g.1 (by omega))
    · rintro (h | ⟨h, -⟩)
      · have := g.2 h; omega
      · exact absurd h h1

theorem chosen_snoc (W : Int → Int) : ∀ (l : List Int) (m x : Int), Gm.chosen W m (l ++ [x]) = if Gm.ahead W x (Gm.chosen W m l) then x else Gm.chosen W m l
  | [], _, _ => rfl
  | _ :: l, _, x => chosen_snoc W l _ x

set_option linter.unusedSimpArgs false in
set_option maxHeartbeats 2000000 in
theorem maxFunc_any (m0 : Int) (l : List Int) (h : Int) (b off cap g : Nat) (w : World) (hh : 0 ≤ h ∧ h < 4294967296) (hg : w.cell? ⟨g, 0, none⟩ = some (.int .u32 h)) (hl : l.length ≤ 2000)
    (hc : ∀ j x, (m0 :: l)[j]? = some x → w.cell? ⟨b, off + j, none⟩ = some (.int .i64 x)) :
    Calls Try.prog 22 #[.slice (some ⟨b, off, none⟩) (l.length + 1) cap, .func (.func 18) #[] #[.pointer (some ⟨g, 0, none⟩)]] w fun e w' => e = .returned (.int .i64 (Gm.chosen (weight h) m0 l)) ∧ Step None w w' := by
  have K : Hid (∀ w', Step None w w' → w'.cell? ⟨g, 0, none⟩ = some (.int .u32 h) ∧ ∀ j x, (m0 :: l)[j]? = some x → w'.cell? ⟨b, off + j, none⟩ = some (.int .i64 x)) := Lib.hid fun w' h' =>
    ⟨by rw [h'.cell (p := ⟨g, 0, none⟩) (World.block_lt_of_cell? _ _ hg) (fun s => s.elim)]; exact hg, fun j x hj => by
      have := hc j x hj
      rw [h'.cell (p := ⟨b, off + j, none⟩) (World.block_lt_of_cell? _ _ this) (fun s => s.elim)]; exact this⟩
  have B : Hid (∀ a m w', w'.cell? ⟨g, 0, none⟩ = some (.int .u32 h) → Calls Try.prog 18 #[.int .i64 a, .int .i64 m, .pointer (some ⟨g, 0, none⟩)] w' fun e w'' => e = .returned (.int .i64 (firstNZ [cmpI (weight h a) (weight h m), cmpI m a])) ∧ Step None w' w'') := Lib.hid fun a m w' hg' => better_any a m h g w' hh hg'
  have BA := Lib.hid (better_ahead (weight h))
  have k0 : w.cell? ⟨b, off, none⟩ = some (.int .i64 m0) := hc 0 m0 rfl
  have CS := Lib.hid (chosen_snoc (weight h))
  have d0 : decide (((l.length + 1 : Nat) : Int) < 1) = false := by simp; omega
  have d0' : ¬ ((l.length : Int) + 1 < 1) := by omega
  have g0 : (0 : Int) < (l.length : Int) + 1 := by omega
  have d3 : decide ((l.length : Int) + 1 < 1) = false := by simp; omega
  have d4 : decide (l.length + 1 < 1) = false := by simp
  clear hg hc hh
  generalize weight h = W at *
  go_enter Try.func22, Try.ntmps22
  go_wp2_with fail
  go_loopw [5, 6] (fun m i wr => ∃ j : Nat, j ≤ l.length ∧ i = .int .i64 ((j : Int) + 1) ∧ m = .int .i64 (Gm.chosen W m0 (l.take j)) ∧ Hid (Step None w wr)) (fun _ i _ => l.length + 1 - (intOf i).toNat)
  case atStart => exact ⟨0, by omega, rfl, rfl, Lib.hid (Step.refl _ _)⟩
  case round =>
    obtain ⟨j, hj, rfl, rfl, hs⟩ := hrel
    by_cases hlt : j < l.length
    · have d1 : decide ((j : Int) + 1 < (l.length : Int) + 1) = true := by simp; omega
      have d2 : (j : Int) + 1 < (l.length : Int) + 1 := by omega
      have d5 : decide ((j : Int) < (l.length : Int)) = true := by simp; omega
      have d6 : decide (j < l.length) = true := by simp; omega
      have d7 : (0 : Int) ≤ (j : Int) + 1 := by omega
      obtain ⟨x, hx⟩ : ∃ x, l[j]? = some x := ⟨l[j], List.getElem?_eq_getElem hlt⟩
      have hcell : ∀ w', Step None w w' → w'.cell? ⟨b, off + (j + 1), none⟩ = some (.int .i64 x) := fun w' h' => (K.out w' h').2 (j + 1) x (by simpa using hx)
      have HCELL := Lib.hid hcell
      have c1 := hcell _ hs.out
      have hn : l.take (j + 1) = l.take j ++ [x] := by rw [List.take_add_one, hx]; rfl
      have HN := Lib.hid (CS.out (l.take j) m0 x)
      rw [← hn] at HN
      have hw1 : IntKind.i64.wrap ((j : Int) + 1 + 1) = ((j + 1 : Nat) : Int) + 1 := by rw [IntWalk.i64_in _ (by omega)]; omega
      clear hn hx hcell
      generalize Gm.chosen W m0 (l.take j) = cm at *
      go_wp2_with fail
      refine (B.out x cm _ (K.out _ hs.out).1).mono ?_
      rintro e w2 ⟨rfl, s2⟩
      have Z2 := Lib.hid (hs.out.then_ s2)
      have c2 := HCELL.out _ Z2.out
      have hd := BA.out x cm
      clear s2 c1
      generalize firstNZ [cmpI (W x) (W cm), cmpI cm x] = r at *
      cases ha : Gm.ahead W x cm
      · rw [ha] at hd
        have HN' := Lib.hid (HN.out.trans (if_neg (by rw [ha]; decide)))
        go_wp2_with fail
        go_roundw
        case rel => exact ⟨j + 1, by omega, by simp, by rw [HN'.out], Z2⟩
        case measure => simp [intOf]; omega
      · rw [ha] at hd
        have HN' := Lib.hid (HN.out.trans (if_pos ha))
        go_wp2_with fail
        go_roundw
        case rel => exact ⟨j + 1, by omega, by simp, by rw [HN'.out], Z2⟩
        case measure => simp [intOf]; omega
    · have d1 : decide ((j : Int) + 1 < (l.length : Int) + 1) = false := by simp; omega
      have d5 : decide ((j : Int) < (l.length : Int)) = false := by simp; omega
      have d6 : decide (j < l.length) = false := by simp; omega
      obtain rfl : j = l.length := by omega
      rw [List.take_length]
      go_wp2_with fail
      go_ret
      exact ⟨rfl, hs.out⟩

end Go.Proofs.Ytbdlcmfmnjhklaa
