/- PickTurned, walked. -/
import Derived.Test.YtbdlcmfmnjhklaaW8
namespace Go.Proofs.Ytbdlcmfmnjhklaa
open Go.RowKit Go.Gm

theorem T32 : SliceT Try.prog 32 3 1 8 := SliceT.mk' Try.underlying32 (z := .int .i64 0) (by kernel_rfl) rfl (by decide)

/-- Members that were laid down, back from the last one to the k-th, each with the one at half its place. -/
structure Back (w0 w : World) (u : Value) (B L : List Int) (k : Nat) : Prop where
  row : Row w 3 1 u B.length (B.map (.int .i64))
  base : ∀ j, Leads u j → w0.heap.size ≤ j
  st : Step None w0 w
  mem : ∀ x ∈ B, x ∈ L
  all : ∀ j x, k ≤ j → L[j]? = some x → x ∈ B
  len : B.length = 2 * (L.length - k)

theorem Back.more {w0 w w1 w' : World} {u u' : Value} {B L : List Int} {j : Nat} {x y : Int} (h : Back w0 w u B L (j + 1)) (hj : j < L.length) (hx : L[j]? = some x) (hy : y ∈ L) (h1 : Step None w w1)
    (hr : Row w' 3 1 u' (B.length + 2) (B.map (.int .i64) ++ [.int .i64 x, .int .i64 y])) (hs : Step (Leads u) w1 w') (hl : ∀ k, Leads u' k → Leads u k ∨ w1.heap.size ≤ k) : Back w0 w' u' (B ++ [x, y]) L j := by
  refine ⟨by simpa using hr, fun k hk => ?_, (h.st.then_ h1).trans hs fun i hi hk => by have := h.base i hk; omega, fun z hz => ?_, fun i z hi hz => ?_, by have := h.len; simp; omega⟩
  · rcases hl k hk with h2 | h2
    · exact h.base k h2
    · have a := h1.size
      have b := h.st.size
      omega
  · rcases List.mem_append.1 hz with hz | hz
    · exact h.mem z hz
    · simp only [List.mem_cons, List.not_mem_nil, or_false] at hz
      rcases hz with rfl | rfl
      · exact List.mem_of_getElem? hx
      · exact hy
  · rcases Nat.lt_or_ge j i with h2 | h2
    · exact List.mem_append_left _ (h.all i z (by omega) hz)
    · have : i = j := by omega
      subst this
      rw [hx] at hz
      cases hz
      simp

set_option linter.unusedSimpArgs false in
set_option maxHeartbeats 4000000 in
theorem pickTurned_walk (v0 v1 : Value) (w : World) (h0 : Arg w (.slice 1 8 (.int .i64)) v0) (h1 : Arg w (.int .u32) v1) :
    Calls Try.prog 5 #[v0, v1] w fun e w' => e = .returned (.bool true) ∧ Below w.heap.size w w' := by
  obtain ⟨h, rfl, hw⟩ := h1.int
  have hh := wf_u32 hw
  rcases arg_members h0 with ⟨ao, cap, rfl⟩ | ⟨b, off, cap, m, l, rfl, hmax, hb, hc⟩
  · clear h0 h1 hw hh
    go_enter Try.func5, Try.ntmps5
    go_wp2_with fail
    refine (awake_any _).mono ?_
    rintro e w2 ⟨rfl, s2⟩
    have Z2 := Lib.hid s2
    clear s2
    go_wp2_with fail
    go_loopw [6, 7] (fun u i wr => u = .slice none 0 0 ∧ i = .int .i64 (-1) ∧ wr = w2) (fun _ _ _ => 0)
    case atStart => exact ⟨rfl, rfl, rfl⟩
    case round =>
      obtain ⟨rfl, rfl, rfl⟩ := hrel
      go_wp2_with fail
      refine (choose_nil _ _ _ _).mono ?_
      rintro e w3 ⟨rfl, s3⟩
      have Z3 := Lib.hid (Z2.out.then_ s3)
      clear s3
      go_wp2_with fail
      refine (choose_nil _ _ _ _).mono ?_
      rintro e w4 ⟨rfl, s4⟩
      have Z4 := Lib.hid (Z3.out.then_ s4)
      clear s4
      go_wp2_with fail
      go_loopw [12, 13] (fun u i wx => u = .bool false ∧ i = .int .i64 0 ∧ wx = w4) (fun _ _ _ => 0)
      case atStart => exact ⟨rfl, rfl, rfl⟩
      case round =>
        obtain ⟨rfl, rfl, rfl⟩ := hrel
        go_wp2_with fail
        go_ret
        exact ⟨rfl, Z4.out.toBelow⟩
  · have HH := Lib.hid hh
    have q1 : ((l.length : Int) + 1 ≤ 9223372036854775807) := by omega
    have HST : Hid (∀ w', Step None w w' → b < w'.heap.size ∧ ∀ j x, (m :: l)[j]? = some x → w'.cell? ⟨b, off + j, none⟩ = some (.int .i64 x)) := Lib.hid fun w' h' =>
      ⟨Nat.lt_of_lt_of_le hb h'.size, fun j x hj => by rw [h'.cell (p := ⟨b, off + j, none⟩) hb (fun s => s.elim)]; exact hc j x hj⟩
    clear h0 h1 hw hh hc hb
    go_enter Try.func5, Try.ntmps5
    go_wp2_with fail
    refine (awake_any _).mono ?_
    rintro e w2 ⟨rfl, s2⟩
    have Z2 := Lib.hid s2
    clear s2
    cases hg : decide ((500 : Int) < (l.length : Int) + 1)
    rotate_left
    · go_wp2_with fail
      go_ret
      exact ⟨rfl, Z2.out.toBelow⟩
    have hl : l.length ≤ 500 := by simp at hg; omega
    have hg2 : decide (500 < l.length + 1) = false := by simp at hg; simp; omega
    have hw0 : IntKind.i64.wrap ((l.length : Int) + 1 - 1) = (l.length : Int) := by rw [IntWalk.i64_in _ (by omega)]; omega
    go_wp2_with fail
    go_loopw [6, 7] (fun u i wr => ∃ k B, k ≤ l.length + 1 ∧ i = .int .i64 ((k : Int) - 1) ∧ Hid (Back w wr u B (m :: l) k)) (fun _ i _ => (intOf i + 1).toNat)
    case atStart => exact ⟨l.length + 1, [], Nat.le_refl _, by simp, Lib.hid ⟨Row.nil _ _ _, (fun j hj => by simp [Leads, Value.ownBlock] at hj), Z2.out, (fun x hx => by simp at hx), (fun j x hj hx => by rw [List.getElem?_eq_none (by simpa using hj)] at hx; cases hx), by simp⟩⟩
    case round =>
      obtain ⟨k, B, hk, rfl, hB⟩ := hrel
      rcases Nat.eq_zero_or_pos k with rfl | hp
      · have e0 : (((0 : Nat) : Int) - 1) = -1 := by omega
        rw [e0]
        have hne : ∃ m' l', B = m' :: l' := by
          cases B with
          | nil => have := hB.out.len; simp at this
          | cons m' l' => exact ⟨m', l', rfl⟩
        obtain ⟨m', l', rfl⟩ := hne
        have hlen : l'.length + 1 = 2 * (l.length + 1) := by have := hB.out.len; simpa using this
        obtain ⟨b', off', cap', rfl, -, -, hL', hc', -⟩ := hB.out.row.cells (by simp)
        have hb' : b' < wr.heap.size := hB.out.row.lt hL'
        have ch : Hid (Gm.chosen (weight h) m' l' = Gm.chosen (weight h) m l) := Lib.hid (chosen_only (hB.out.mem _ (chosen_mem _ _ _)) fun x hx => by
          obtain ⟨i, hi⟩ := List.getElem?_of_mem hx
          exact chosen_top _ _ _ x (hB.out.all i x (Nat.zero_le _) hi))
        have C2 : Hid (∀ w', Step None wr w' → Calls Try.prog 14 #[.slice (some ⟨b', off', none⟩) (l'.length + 1) cap', .int .u32 h] w' fun e w'' => e = .returned (.tuple #[.int .i64 (Gm.chosen (weight h) m l), .bool true]) ∧ Step None w' w'') := Lib.hid fun w' h' => by
          rw [← ch.out]
          exact choose_any m' l' h b' off' cap' w' HH.out (by omega) (Nat.lt_of_lt_of_le hb' h'.size) fun j x hj => by
            rw [h'.cell (p := ⟨b', off' + j, none⟩) hb' (fun s => s.elim)]
            exact hc' j (.int .i64 x) (by rw [List.getElem?_map, hj]; rfl)
        have hcm := chosen_mem (weight h) m l
        have Z3 := Lib.hid hB.out.st
        have C1 : Hid (Calls Try.prog 14 #[.slice (some ⟨b, off, none⟩) (l.length + 1) cap, .int .u32 h] wr fun e w'' => e = .returned (.tuple #[.int .i64 (Gm.chosen (weight h) m l), .bool true]) ∧ Step None wr w'') := Lib.hid
          (choose_any m l h b off cap wr HH.out (by omega) (HST.out _ Z3.out).1 (HST.out _ Z3.out).2)
        have HCM := Lib.hid hcm
        clear hB ch hlen hL' hc' hb' e0 hcm
        generalize Gm.chosen (weight h) m l = c at *
        go_wp2_with fail
        refine C1.out.mono ?_
        rintro e w4 ⟨rfl, s4⟩
        have Z4 := Lib.hid (Z3.out.then_ s4)
        have C2' := Lib.hid (C2.out _ s4)
        clear s4 C1 C2
        go_wp2_with fail
        refine C2'.out.mono ?_
        rintro e w5 ⟨rfl, s5⟩
        have Z5 := Lib.hid (Z4.out.then_ s5)
        clear s5 C2'
        go_wp2_with fail
        go_loopw [12, 13] (fun u i wx => ∃ j : Nat, j ≤ l.length + 1 ∧ i = .int .i64 j ∧ u = .bool (((m :: l).take j).any (· == c)) ∧ wx = w5) (fun _ i _ => l.length + 1 - (intOf i).toNat)
        case atStart => exact ⟨0, by omega, rfl, rfl, rfl⟩
        case round =>
          obtain ⟨j, hj, rfl, rfl, rfl⟩ := hrel
          by_cases hlt : j < l.length + 1
          · have d1 : decide ((j : Int) < (l.length : Int) + 1) = true := by simp; omega
            have c0 : (0 : Int) ≤ (j : Int) := by omega
            have c1 : (j : Int) < (l.length : Int) + 1 := by omega
            obtain ⟨x, hx⟩ : ∃ x, (m :: l)[j]? = some x := ⟨_, List.getElem?_eq_getElem (by simpa using hlt)⟩
            have k1 := (HST.out _ Z5.out).2 j x hx
            have hn : ((m :: l).take (j + 1)).any (· == c) = (((m :: l).take j).any (· == c) || (x == c)) := by
              rw [List.take_add_one, hx, List.any_append]
              simp
            have hw1 : IntKind.i64.wrap ((j : Int) + 1) = ((j + 1 : Nat) : Int) := by rw [IntWalk.i64_in _ (by omega)]; omega
            have HN := Lib.hid hn
            clear hn hx
            generalize ((m :: l).take j).any (· == c) = t at *
            cases t
            · cases hxc : (x == c)
              · have HN' : Hid (((m :: l).take (j + 1)).any (· == c) = false) := Lib.hid (by rw [HN.out, hxc]; rfl)
                go_wp2_with fail
                go_roundw
                case rel => exact ⟨j + 1, by omega, by simp, by rw [HN'.out], by trivial⟩
                case measure => simp [intOf]; omega
              · have HN' : Hid (((m :: l).take (j + 1)).any (· == c) = true) := Lib.hid (by rw [HN.out, hxc]; rfl)
                go_wp2_with fail
                go_roundw
                case rel => exact ⟨j + 1, by omega, by simp, by rw [HN'.out], by trivial⟩
                case measure => simp [intOf]; omega
            · have HN' : Hid (((m :: l).take (j + 1)).any (· == c) = true) := Lib.hid (by rw [HN.out]; rfl)
              go_wp2_with fail
              go_roundw
              case rel => exact ⟨j + 1, by omega, by simp, by rw [HN'.out], by trivial⟩
              case measure => simp [intOf]; omega
          · have d1 : decide ((j : Int) < (l.length : Int) + 1) = false := by simp; omega
            obtain rfl : j = l.length + 1 := by omega
            have ht : ((m :: l).take (l.length + 1)).any (· == c) = true := by
              rw [List.take_of_length_le (by simp), List.any_eq_true]
              exact ⟨c, HCM.out, by simp⟩
            rw [ht]
            clear ht
            go_wp2_with fail
            go_ret
            exact ⟨by simp, Z5.out.toBelow⟩
      · obtain ⟨j, rfl⟩ : ∃ j, k = j + 1 := ⟨k - 1, by omega⟩
        have e1 : ((j + 1 : Nat) : Int) - 1 = (j : Int) := by omega
        rw [e1]
        have hj : j < (m :: l).length := by simp; omega
        obtain ⟨x, hx⟩ : ∃ x, (m :: l)[j]? = some x := ⟨_, List.getElem?_eq_getElem hj⟩
        obtain ⟨y, hy⟩ : ∃ y, (m :: l)[j / 2]? = some y := ⟨_, List.getElem?_eq_getElem (by omega)⟩
        have K : Hid (∀ w', Step None w w' → w'.cell? ⟨b, off + j, none⟩ = some (.int .i64 x) ∧ w'.cell? ⟨b, off + j / 2, none⟩ = some (.int .i64 y)) := Lib.hid fun w' h' => ⟨(HST.out w' h').2 j x hx, (HST.out w' h').2 (j / 2) y hy⟩
        have c0 : (0 : Int) ≤ (j : Int) := by omega
        have c1 : (j : Int) < (l.length : Int) + 1 := by simp at hj; omega
        have c2 : Int.tdiv (j : Int) 2 = (j : Int) / 2 := Int.tdiv_eq_ediv_of_nonneg (by omega)
        have c3 : IntKind.i64.wrap ((j : Int) / 2) = (j : Int) / 2 := IntWalk.i64_in _ (by omega)
        have c4 : (0 : Int) ≤ (j : Int) / 2 := by omega
        have c5 : (j : Int) / 2 < (l.length : Int) + 1 := by omega
        have c7 : ((j : Int) / 2).toNat = j / 2 := by omega
        have c6 : decide ((0 : Int) ≤ (j : Int)) = true := by simp
        have HXY := Lib.hid (And.intro hx hy)
        have hlen := hB.out.len
        have hB500 : B.length + 2 ≤ 2000 := by simp at hlen hj; omega
        clear hx hy e1 hlen
        go_wp2_with fail
        refine wp_region_plan (fun w' => w'.cell? ⟨b, off + j, none⟩ = some (.int .i64 x) ∧ w'.cell? ⟨b, off + j / 2, none⟩ = some (.int .i64 y)) (.take 0 (.take 1 (.take 2 (.take 3 (.take 4 (.take 5 (.take 6 (.take 7 (.take 8 (.take 9 (.alt 10 (.alt 11 (.take 12 .done) .none) .none))))))))))) _
          (by simp only [Plan.map, opOf, List.getElem?_toArray, List.getElem?_cons_zero, List.getElem?_cons_succ, Option.getD_some]; rfl) (by kernel_rfl) (by kernel_rfl) (by kernel_rfl) (by decide) (by intro c a d v w; cases d <;> exact fun h => h) (K.out _ hB.out.st.drew) ?_
        repeat (refine wpPlan.taken (by rfl) (by intro w' hS'; (try dsimp only at hS'); go_split_ands; go_simp; try with_reducible rfl) ?_; simp only [Act.put, List.setIfInBounds_toArray, List.set_cons_zero, List.set_cons_succ])
        refine wpPlan.runs fun K' hK => ?_
        go_simp
        refine hK.out _ _ (K.out _ (hB.out.st.drew.alloc _)) ?_
        clear hK K'
        refine wpPlan.runs fun K' hK => ?_
        refine step_append_row T32 (by rfl) (.tmp 30) (.tmp 40) (by rfl) (by rfl) ((hB.out.row.drew).alloc _) (by rfl) (Src.ofBlock T32 (c := 2) (heap_alloc_new wr.drew (.cells #[.int .i64 x, .int .i64 y] 3)) (by rfl) (by simp [Value.oneCell'])) (by simp [maxLen]; omega) (by omega) ?_
        intro v5 w5 hr5 hs5 hl5
        have hb5 := hB.out.more hj HXY.out.1 (List.mem_of_getElem? HXY.out.2) (((Step.refl None wr).drew).alloc (.cells #[.int .i64 x, .int .i64 y] 3)) hr5 hs5 (by simpa using hl5)
        refine hK.out _ _ (K.out _ hb5.st) ?_
        clear hK K' hr5 hs5 hl5
        have HB5 := Lib.hid hb5
        clear hb5
        repeat (refine wpPlan.taken (by rfl) (by intro w' hS'; (try dsimp only at hS'); go_split_ands; go_simp; try with_reducible rfl) ?_; simp only [Act.put, List.setIfInBounds_toArray, List.set_cons_zero, List.set_cons_succ])
        refine wpPlan.done ?_
        have hw1 : IntKind.i64.wrap ((j : Int) - 1) = (j : Int) - 1 := IntWalk.i64_in _ (by omega)
        go_wp2_with fail
        go_roundw
        case rel => exact ⟨j, B ++ [x, y], by omega, rfl, HB5⟩
        case measure => simp [intOf]

end Go.Proofs.Ytbdlcmfmnjhklaa
