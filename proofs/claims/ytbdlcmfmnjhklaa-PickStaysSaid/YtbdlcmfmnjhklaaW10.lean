/- PickStays, walked. -/
import Derived.Test.YtbdlcmfmnjhklaaW9
namespace Go.Proofs.Ytbdlcmfmnjhklaa
open Go.RowKit Go.Gm

/-- Members that stay: those that are not the other one. -/
structure Rest (w0 w : World) (u : Value) (R : List Int) : Prop where
  row : Row w 3 1 u R.length (R.map (.int .i64))
  base : ∀ j, Leads u j → w0.heap.size ≤ j
  st : Step None w0 w
theorem Rest.more {w0 w w1 w' : World} {u u' : Value} {R : List Int} {x : Int} (h : Rest w0 w u R) (h1 : Step None w w1)
    (hr : Row w' 3 1 u' (R.length + 1) (R.map (.int .i64) ++ [.int .i64 x])) (hs : Step (Leads u) w1 w') (hl : ∀ k, Leads u' k → Leads u k ∨ w1.heap.size ≤ k) : Rest w0 w' u' (R ++ [x]) := by
  refine ⟨by simpa using hr, fun k hk => ?_, (h.st.then_ h1).trans hs fun i hi hk => by have := h.base i hk; omega⟩
  rcases hl k hk with h2 | h2
  · exact h.base k h2
  · have a := h1.size
    have b := h.st.size
    omega

/-- Choose, over a row. -/
theorem choose_rest {w0 w : World} {u : Value} {m' : Int} {l' : List Int} {h : Int} (hh : 0 ≤ h ∧ h < 4294967296) (hR : Rest w0 w u (m' :: l')) (hl : l'.length ≤ 2000) :
    Calls Try.prog 14 #[u, .int .u32 h] w fun e w'' => e = .returned (.tuple #[.int .i64 (Gm.chosen (weight h) m' l'), .bool true]) ∧ Step None w w'' := by
  obtain ⟨b', off', cap', rfl, -, -, hL', hc', -⟩ := hR.row.cells (by simp)
  exact choose_any m' l' h b' off' cap' w hh hl (hR.row.lt hL') fun j x hj => hc' j (.int .i64 x) (by rw [List.getElem?_map, hj]; rfl)

/-- The law, plainly: where another one comes. -/
theorem stays_more (W : Int → Int) (m : Int) (l : List Int) (o : Int) : (Gm.chosen W m (l ++ [o]) == Gm.chosen W m l || Gm.chosen W m (l ++ [o]) == o) = true := by
  have hs : Gm.chosen W m (l ++ [o]) = if Gm.ahead W o (Gm.chosen W m l) then o else Gm.chosen W m l := by
    induction l generalizing m with
    | nil => rfl
    | cons x l ih => exact ih _
  rw [hs]
  cases Gm.ahead W o (Gm.chosen W m l) <;> simp
/-- Where another one goes. -/
theorem stays_less {W : Int → Int} {m : Int} {l : List Int} {o : Int} (h : o ≠ Gm.chosen W m l) : ∃ m' l', (m :: l).filter (· != o) = m' :: l' ∧ Gm.chosen W m' l' = Gm.chosen W m l := by
  have hm : Gm.chosen W m l ∈ (m :: l).filter (· != o) := List.mem_filter.2 ⟨chosen_mem W m l, by simpa using fun e => h e.symm⟩
  cases hf : (m :: l).filter (· != o) with
  | nil => rw [hf] at hm; simp at hm
  | cons m' l' =>
    refine ⟨m', l', rfl, (chosen_only (by rw [← hf]; exact hm) fun x hx => ?_).symm⟩
    rw [← hf] at hx
    exact chosen_top W m l x (List.mem_filter.1 hx).1

set_option linter.unusedSimpArgs false in
set_option maxHeartbeats 4000000 in
theorem pickStays_walk (v0 v1 v2 : Value) (w : World) (h0 : Arg w (.slice 1 8 (.int .i64)) v0) (h1 : Arg w (.int .i64) v1) (h2 : Arg w (.int .u32) v2) :
    Calls Try.prog 6 #[v0, v1, v2] w fun e w' => e = .returned (.bool true) ∧ Below w.heap.size w w' := by
  obtain ⟨h, rfl, hw⟩ := h2.int
  obtain ⟨o, rfl, -⟩ := h1.int
  have hh := wf_u32 hw
  rcases arg_members h0 with ⟨ao, cap, rfl⟩ | ⟨b, off, cap, m, l, rfl, hmax, hb, hc⟩
  · clear h0 h1 h2 hw hh
    go_enter Try.func6, Try.ntmps6
    go_wp2_with fail
    refine (awake_any _).mono ?_
    rintro e w2 ⟨rfl, s2⟩
    have Z2 := Lib.hid s2
    clear s2
    go_wp2_with fail
    go_ret
    exact ⟨rfl, Z2.out.toBelow⟩
  · have HH := Lib.hid hh
    have q1 : ((l.length : Int) + 1 ≤ 9223372036854775807) := by omega
    have HST : Hid (∀ w', Step None w w' → b < w'.heap.size ∧ ∀ j x, (m :: l)[j]? = some x → w'.cell? ⟨b, off + j, none⟩ = some (.int .i64 x)) := Lib.hid fun w' h' =>
      ⟨Nat.lt_of_lt_of_le hb h'.size, fun j x hj => by rw [h'.cell (p := ⟨b, off + j, none⟩) hb (fun s => s.elim)]; exact hc j x hj⟩
    have SR : Hid (∀ w', Step None w w' → Src Try.prog 1 32 (.slice (some ⟨b, off, none⟩) (l.length + 1) cap) (l.length + 1) ((m :: l).map (.int .i64)) w') := Lib.hid fun w' h' =>
      Src.ofSlice w' Try.underlying32 ⟨b, off, none⟩ (l.length + 1) cap ((m :: l).map (.int .i64)) (by simp) (fun j v hj => by
        rw [add_plain]
        rw [List.getElem?_map] at hj
        obtain ⟨x, hx, rfl⟩ := Option.map_eq_some_iff.1 hj
        exact (HST.out w' h').2 j x hx) (nums_one _ _)
    have e0 : ((l.length : Int) + 1 == 0) = false := by simp; omega
    have LM := Lib.hid (stays_more (weight h) m l o)
    have LL := Lib.hid (@stays_less (weight h) m l o)
    clear h0 h1 h2 hw hh hc hb
    go_enter Try.func6, Try.ntmps6
    go_wp2_with fail
    refine (awake_any _).mono ?_
    rintro e w2 ⟨rfl, s2⟩
    have Z2 := Lib.hid s2
    clear s2
    cases hg : decide ((500 : Int) < (l.length : Int) + 1)
    rotate_left
    · go_wp2_with fail
      go_ret
      exact ⟨rfl, Z2.out.toBelow⟩
    have hl : l.length ≤ 500 := by simp at hg; omega
    have hg2 : decide (500 < l.length + 1) = false := by simp at hg; simp; omega
    go_wp2_with fail
    refine (choose_any m l h b off cap _ HH.out (by omega) (HST.out _ Z2.out).1 (HST.out _ Z2.out).2).mono ?_
    rintro e w3 ⟨rfl, s3⟩
    have Z3 := Lib.hid (Z2.out.then_ s3)
    clear s3 Z2
    have hrow : Row (w3.alloc (.cells #[] 3)) 3 1 (.slice (some ⟨w3.heap.size, 0, none⟩) 0 0) 0 [] := Row.ofBlock (cur := #[]) (heap_alloc_new w3 _) (Nat.le_refl _) (by simp [maxLen]) (by simp)
    go_wp2_with (first | (at_builtin; refine wpList_append_row T32 rfl (.tmp 37) (.tmp 38) rfl rfl hrow rfl (SR.out _ (Z3.out.alloc _)) ?ha ?hb ?_))
    case ha => simp only [maxLen]; omega
    case hb => omega
    intro v4 w4 r4 t4 g4
    have hR4 : Hid (Rest w w4 v4 (m :: l)) := Lib.hid ⟨by simpa [Nat.add_comm] using r4, fun k hk => by
      rcases g4 k hk with hk | hk
      · simp [Leads, Value.ownBlock] at hk; have := Z3.out.size; omega
      · have := Z3.out.size; (try simp at hk); omega, (Z3.out.alloc _).trans t4 fun i hi hk => by simp [Leads, Value.ownBlock] at hk; have := Z3.out.size; omega⟩
    clear r4 t4 g4 hrow
    go_wp2_with (first | (at_builtin; refine wpList_append_row T32 rfl (.tmp 39) (.tmp 41) rfl rfl (hR4.out.row.alloc _) rfl (Src.ofBlock T32 (c := 1) (heap_alloc_new w4 (.cells #[.int .i64 o] 3)) (by rfl) (by simp [Value.oneCell'])) ?ha ?hb ?_))
    case ha => simp only [maxLen, List.length_cons]; omega
    case hb => simp only [List.length_cons]; omega
    intro v5 w5 r5 t5 g5
    have hR5 : Hid (Rest w w5 v5 (m :: (l ++ [o]))) := Lib.hid (hR4.out.more ((Step.refl None w4).alloc (.cells #[.int .i64 o] 3)) r5 t5 (by simpa using g5))
    clear r5 t5 g5 hR4
    go_wp2_with fail
    refine (choose_rest HH.out hR5.out (by simp; omega)).mono ?_
    rintro e w6 ⟨rfl, s6⟩
    have Z6 := Lib.hid (hR5.out.st.then_ s6)
    clear s6 hR5 Z3
    go_wp2_with fail
    go_loopw [12, 13] (fun u i wr => ∃ j : Nat, j ≤ l.length + 1 ∧ i = .int .i64 j ∧ Hid (Rest w wr u (((m :: l).take j).filter (· != o)))) (fun _ i _ => l.length + 1 - (intOf i).toNat)
    case atStart => exact ⟨0, by omega, rfl, Lib.hid ⟨Row.nil _ _ _, (fun j hj => by simp [Leads, Value.ownBlock] at hj), Z6.out⟩⟩
    case round =>
      obtain ⟨j, hj, rfl, hR⟩ := hrel
      by_cases hlt : j < l.length + 1
      · have d1 : decide ((j : Int) < (l.length : Int) + 1) = true := by simp; omega
        have c0 : (0 : Int) ≤ (j : Int) := by omega
        have c1 : (j : Int) < (l.length : Int) + 1 := by omega
        obtain ⟨x, hx⟩ : ∃ x, (m :: l)[j]? = some x := ⟨_, List.getElem?_eq_getElem (by simpa using hlt)⟩
        have k1 := (HST.out _ hR.out.st).2 j x hx
        have hn : (m :: l).take (j + 1) = (m :: l).take j ++ [x] := by rw [List.take_add_one, hx]; rfl
        have hw1 : IntKind.i64.wrap ((j : Int) + 1) = ((j + 1 : Nat) : Int) := by rw [IntWalk.i64_in _ (by omega)]; omega
        have hlen : (((m :: l).take j).filter (· != o)).length ≤ 1000 := by
          have := List.length_filter_le (· != o) ((m :: l).take j)
          simp at this
          omega
        have HN := Lib.hid hn
        clear hn hx
        cases hxo : (x != o)
        · go_wp2_with fail
          go_roundw
          case rel => exact ⟨j + 1, by omega, by simp, by rw [HN.out, List.filter_append, show [x].filter (· != o) = [] by simp [hxo], List.append_nil]; exact hR⟩
          case measure => simp [intOf]; omega
        · go_wp2_with (first | (at_builtin; refine wpList_append_row T32 rfl (.tmp 59) (.tmp 64) rfl rfl (hR.out.row.alloc _) rfl (Src.ofBlock T32 (c := 1) (heap_alloc_new wr (.cells #[.int .i64 x] 3)) (by rfl) (by simp [Value.oneCell'])) ?ha ?hb ?_))
          case ha => simp only [maxLen]; omega
          case hb => omega
          intro v7 w7 r7 t7 g7
          have hR7 := Lib.hid (hR.out.more ((Step.refl None wr).alloc (.cells #[.int .i64 x] 3)) r7 t7 (by simpa using g7))
          clear r7 t7 g7
          go_wp2_with fail
          go_roundw
          case rel => exact ⟨j + 1, by omega, by simp, by rw [HN.out, List.filter_append, show [x].filter (· != o) = [x] by simp [hxo]]; exact hR7⟩
          case measure => simp [intOf]; omega
      · have d1 : decide ((j : Int) < (l.length : Int) + 1) = false := by simp; omega
        obtain rfl : j = l.length + 1 := by omega
        have ht : (m :: l).take (l.length + 1) = m :: l := List.take_of_length_le (by simp)
        rw [ht] at hR
        clear ht
        have key : ∃ R, (m :: l).filter (· != o) = R := ⟨_, rfl⟩
        obtain ⟨R, hRR⟩ := key
        rw [hRR] at hR
        have hlen : R.length ≤ 501 := by
          have := List.length_filter_le (· != o) (m :: l)
          rw [hRR] at this
          simp at this
          omega
        have LL' : Hid (o ≠ Gm.chosen (weight h) m l → ∃ m' l', R = m' :: l' ∧ Gm.chosen (weight h) m' l' = Gm.chosen (weight h) m l) := Lib.hid fun hne => by
          obtain ⟨m', l', h1, h2⟩ := LL.out hne
          exact ⟨m', l', hRR.symm.trans h1, h2⟩
        clear LL hRR
        generalize Gm.chosen (weight h) m l = c at *
        generalize Gm.chosen (weight h) m (l ++ [o]) = n at *
        have LM' := LM.out
        clear LM
        cases hoc : (o == c)
        · obtain ⟨m', l', rfl, hch⟩ := LL'.out (by simpa using hoc)
          have C := Lib.hid (choose_rest HH.out hR.out (by simp at hlen; omega))
          rw [hch] at C
          clear hch LL' hlen
          cases hnc : (n == c)
          · rw [hnc, Bool.false_or] at LM'
            go_wp2_with fail
            refine C.out.mono ?_
            rintro e w7 ⟨rfl, s7⟩
            have Z7 := Lib.hid (hR.out.st.then_ s7)
            clear s7
            go_wp2_with fail
            go_ret
            exact ⟨by simp, Z7.out.toBelow⟩
          · clear LM'
            go_wp2_with fail
            refine C.out.mono ?_
            rintro e w7 ⟨rfl, s7⟩
            have Z7 := Lib.hid (hR.out.st.then_ s7)
            clear s7
            go_wp2_with fail
            go_ret
            exact ⟨by simp, Z7.out.toBelow⟩
        · clear LL'
          cases R with
          | nil =>
            obtain ⟨ao, cp, rfl, -, -⟩ := hR.out.row.form
            cases hnc : (n == c)
            · rw [hnc, Bool.false_or] at LM'
              go_wp2_with fail
              refine (choose_nil _ _ _ _).mono ?_
              rintro e w7 ⟨rfl, s7⟩
              have Z7 := Lib.hid (hR.out.st.then_ s7)
              clear s7
              go_wp2_with fail
              go_ret
              exact ⟨by simp, Z7.out.toBelow⟩
            · clear LM'
              go_wp2_with fail
              refine (choose_nil _ _ _ _).mono ?_
              rintro e w7 ⟨rfl, s7⟩
              have Z7 := Lib.hid (hR.out.st.then_ s7)
              clear s7
              go_wp2_with fail
              go_ret
              exact ⟨by simp, Z7.out.toBelow⟩
          | cons m' l' =>
            have C := Lib.hid (choose_rest HH.out hR.out (by simp at hlen; omega))
            clear hlen
            cases hnc : (n == c)
            · rw [hnc, Bool.false_or] at LM'
              go_wp2_with fail
              refine C.out.mono ?_
              rintro e w7 ⟨rfl, s7⟩
              have Z7 := Lib.hid (hR.out.st.then_ s7)
              clear s7
              go_wp2_with fail
              go_ret
              exact ⟨by simp, Z7.out.toBelow⟩
            · clear LM'
              go_wp2_with fail
              refine C.out.mono ?_
              rintro e w7 ⟨rfl, s7⟩
              have Z7 := Lib.hid (hR.out.st.then_ s7)
              clear s7
              go_wp2_with fail
              go_ret
              exact ⟨by simp, Z7.out.toBelow⟩

end Go.Proofs.Ytbdlcmfmnjhklaa
