/- The document's Put. -/
import Derived.Test.YtboaelkpmfagfaaW12
namespace Go.Proofs.Ytboaelkpmfagfaa
open Go.RowKit Go.Gm

theorem RSt.lost {w : World} {Q g : Nat} {room : Int} {W : List (Int × List Int)} {L : Nat → Int} (h : RSt w Q g room W L) {c : Nat} (hc : c < 8) (n : Nat) :
    RSt ((w.setCell ⟨g, 2 + c, none⟩ (.int .i64 (L c + 1))).drewN n) Q g room W (fun d => if d = c then L d + 1 else L d) := by
  obtain ⟨cur, v, ws, hb, h1, h2, h3, h4, h5⟩ := h.blk
  have e4 : Step (fun k => k = g) w ((w.setCell ⟨g, 2 + c, none⟩ (.int .i64 (L c + 1))).drewN n) := (Step.setCell (S := fun k => k = g) (Step.refl _ w) (p := ⟨g, 2 + c, none⟩) (fun _ => rfl) _).drewN n
  refine ⟨⟨_, v, ws, blk_set hb (2 + c) _, by simpa using h1, ?_, ?_, fun d hd => ?_, h5.step e4 ?_⟩, h.base⟩
  · rw [Array.getElem?_setIfInBounds_ne (by omega)]; exact h2
  · rw [Array.getElem?_setIfInBounds_ne (by omega)]; exact h3
  · by_cases e : d = c
    · subst e
      rw [Array.getElem?_setIfInBounds_self_of_lt (by omega)]
      simp
    · rw [Array.getElem?_setIfInBounds_ne (by omega), h4 d hd]
      simp [e]
  · rintro k rfl cs t ht
    rw [hb] at ht
    simp only [Option.some.injEq, Obj.cells.injEq] at ht
    obtain ⟨-, rfl, -⟩ := ht
    exact ⟨by decide, by decide⟩

theorem rput_bad (g : Nat) (c : Int) (u : Value) (w : World) (hc : ¬ (0 ≤ c ∧ c < 8)) : Calls Try.prog 21 #[.pointer (some ⟨g, 0, none⟩), .int .i64 c, u] w fun e w' => e = .returned (.int .i64 1) ∧ w = w' := by
  by_cases h0 : c < 0
  · have c1 : decide (c < 0) = true := by simpa using h0
    go_enter Try.func21, Try.ntmps21
    go_wp2
    go_ret
    exact ⟨rfl, rfl⟩
  · have c1 : decide (c < 0) = false := by simpa using h0
    have c2 : decide ((8 : Int) ≤ c) = true := by simp; omega
    go_enter Try.func21, Try.ntmps21
    go_wp2
    go_ret
    exact ⟨rfl, rfl⟩

theorem rput_full (g c : Nat) (u : Value) (w : World) {Q : Nat} {room : Int} {W : List (Int × List Int)} {L : Nat → Int} (h : RSt w Q g room W L) (hc : c < 8) (hW : W.length ≤ 100000) (hf : room ≤ cnt W c) (hL : 0 ≤ L c ∧ L c ≤ 1000000) :
    Calls Try.prog 21 #[.pointer (some ⟨g, 0, none⟩), .int .i64 c, u] w fun e w' => e = .returned (.int .i64 3) ∧ RSt w' Q g room W (fun d => if d = c then L d + 1 else L d) ∧ Step (fun k => k = g) w w' := by
  have H := Lib.hid h
  obtain ⟨cur, v, ws, hb, h1, h2, h3, h4, h5⟩ := h.blk
  have k0 := (blk_cell hb 0).trans h2
  have k1 := (blk_cell hb (2 + c)).trans (h4 c hc)
  have kf := blk_frozen hb (2 + c)
  have c1 : decide ((c : Int) < 0) = false := by simp
  have c2 : decide ((8 : Int) ≤ c) = false := by simp; omega
  have c3 : decide (room ≤ (cnt W c : Int)) = true := by simp; omega
  have c4 : (0 : Int) ≤ (c : Int) := by omega
  have c5 : (c : Int) < 8 := by omega
  have hw : IntKind.i64.wrap (L c + 1) = L c + 1 := IntWalk.i64_in _ (by omega)
  clear h hb h1 h2 h3 h4 h5
  go_enter Try.func21, Try.ntmps21
  go_wp2_with fail
  go_quiet (first | (go_at_call 16; exact quiet_left (rlen_st _ _ _ (by exact H.out.drewN _) hW)))
  go_wp2_with fail
  go_region
  all_goals go_wp2
  all_goals go_ret
  all_goals exact ⟨rfl, H.out.lost hc _, (Step.setCell (S := fun k => k = g) (Step.refl _ w) (p := ⟨g, 2 + c, none⟩) (fun _ => rfl) _).drewN _⟩

/-- Behind the appends and the store. -/
theorem RSt.put {w w3 : World} {Q g : Nat} {room : Int} {W : List (Int × List Int)} {L : Nat → Int} (hg : Q ≤ g) {cur : Array Value} {v0 : Value} {ws : List (Int × Value)}
    (h : w.heap[g]? = some (.cells cur 54 (0, 0)) ∧ cur.size = 10 ∧ cur[0]? = some (.int .i64 room) ∧ cur[1]? = some v0 ∧ (∀ c, c < 8 → cur[2 + c]? = some (.int .i64 (L c))) ∧ RL w v0 W ws)
    (hs : Step None w w3) {v u : Value} {c : Int} {bs : List Int} (hr : Row w3 56 2 v (W.length + 1) (flat ws ++ [.int .i64 c, u])) (hu : El w3 0 u bs) :
    RSt (w3.setCell ⟨g, 1, none⟩ v) Q g room (W ++ [(c, bs)]) L ∧ Step (fun k => k = g) w (w3.setCell ⟨g, 1, none⟩ v) := by
  obtain ⟨hb, h1, h2, h3, h4, h5⟩ := h
  have hb3 := hs.blk hb (fun s => s.elim)
  have e4 : Step (fun k => k = g) w3 (w3.setCell ⟨g, 1, none⟩ v) := Step.setCell (S := fun k => k = g) (Step.refl _ w3) (p := ⟨g, 1, none⟩) (fun _ => rfl) v
  have e5 : Step (fun k => k = g) w (w3.setCell ⟨g, 1, none⟩ v) := (hs.mono fun _ _ s => s.elim).then_ e4
  refine ⟨⟨⟨_, v, ws ++ [(c, u)], blk_set hb3 1 v, by simpa using h1, ?_, ?_, fun d hd => ?_, ⟨?_, by simp [h5.len], fun j p hj => ?_⟩⟩, hg⟩, e5⟩
  · rw [Array.getElem?_setIfInBounds_ne (by omega)]; exact h2
  · rw [Array.getElem?_setIfInBounds_self_of_lt (by omega)]
  · rw [Array.getElem?_setIfInBounds_ne (by omega)]; exact h4 d hd
  · rw [flat_append, List.length_append]
    exact hr.step e4 fun k hk => by rintro rfl; exact hr.ne hb3 (by decide) hk
  · rcases Nat.lt_or_ge j W.length with hlt | hge
    · rw [List.getElem?_append_left hlt] at hj
      obtain ⟨y, hy, hel⟩ := h5.els j p hj
      refine ⟨y, by rw [List.getElem?_append_left (by rw [h5.len]; omega)]; exact hy, hel.step e5 fun k hk => ?_⟩
      rintro rfl
      exact hel.row.ne hb (by decide) hk
    · rw [List.getElem?_append_right hge] at hj
      obtain ⟨hj0, rfl⟩ : j - W.length = 0 ∧ p = (c, bs) := by
        cases hd : j - W.length with
        | zero => rw [hd] at hj; simp at hj; exact ⟨rfl, hj.symm⟩
        | succ n => rw [hd] at hj; simp at hj
      refine ⟨u, ?_, hu.step e4 fun k hk => ?_⟩
      · rw [List.getElem?_append_right (by rw [h5.len]; omega), show j - ws.length = 0 by rw [h5.len]; omega]; rfl
      · rintro rfl
        exact hu.row.ne hb3 (by decide) hk

theorem RL.one {w : World} {v : Value} {W : List (Int × List Int)} {ws : List (Int × Value)} (h : RL w v W ws) : ∀ u ∈ flat ws, u.oneCell' = true := by
  intro u hu
  simp only [flat, List.mem_flatMap] at hu
  obtain ⟨p, hp, hm⟩ := hu
  obtain ⟨j, hj⟩ := List.getElem?_of_mem hp
  have hlt : j < W.length := by
    rw [← h.len]
    rcases Nat.lt_or_ge j ws.length with h | h
    · exact h
    · rw [List.getElem?_eq_none h] at hj; cases hj
  obtain ⟨y, hy, hel⟩ := h.els j W[j] (by simp [hlt])
  rw [hy] at hj
  cases hj
  simp only [List.mem_cons, List.not_mem_nil, or_false] at hm
  rcases hm with rfl | rfl
  · rfl
  · obtain ⟨ao, cap, rfl, -, -⟩ := hel.row.form
    rfl

theorem rput_ok (g c : Nat) (vb : Value) (bs : List Int) (w : World) {Q : Nat} {room : Int} {W : List (Int × List Int)} {L : Nat → Int} (h : RSt w Q g room W L) (hc : c < 8) (hW : W.length ≤ 100000) (hf : cnt W c < room) (hb : Bytes w vb bs) :
    Calls Try.prog 21 #[.pointer (some ⟨g, 0, none⟩), .int .i64 c, vb] w fun e w' => e = .returned (.int .i64 0) ∧ RSt w' Q g room (W ++ [((c : Int), bs)]) L ∧ Step (fun k => k = g) w w' := by
  have H := Lib.hid h
  obtain ⟨cur, v, ws, hh⟩ := h.blk
  obtain ⟨ao, cap, rfl, -, -⟩ := hh.2.2.2.2.2.row.form
  have k0 := (blk_cell hh.1 0).trans hh.2.2.1
  have k1 := (blk_cell hh.1 1).trans hh.2.2.2.1
  have c1 : decide ((c : Int) < 0) = false := by simp
  have c2 : decide ((8 : Int) ≤ c) = false := by simp; omega
  have c3 : decide (room ≤ (cnt W c : Int)) = false := by simp; omega
  have c4 : (0 : Int) ≤ (c : Int) := by omega
  have c5 : (c : Int) < 8 := by omega
  have hlt := blk_lt hh.1
  have K : Hid (∀ w', Step None w w' → w'.cell? ⟨g, 1, none⟩ = some (.slice ao W.length cap)) := fun w' h' => (blk_cell (h'.blk hh.1 (fun s => s.elim)) 1).trans hh.2.2.2.1
  have ka : ∀ n, ((w.drewN n).alloc (.cells #[] 56)).cell? ⟨g, 1, none⟩ = some (.slice ao W.length cap) := fun n => K.out _ (((Step.refl _ w).drewN n).alloc _)
  have HH := Lib.hid hh
  have HO : Hid (∀ u ∈ flat ws, u.oneCell' = true) := RL.one hh.2.2.2.2.2
  have hbz : bs.length ≤ 140737488355328 := by
    rcases hb with ⟨-, rfl⟩ | ⟨_, _, _, h, _⟩
    · simp
    · exact h
  have HB := Lib.hid hb
  clear h hh hb
  go_enter Try.func21, Try.ntmps21
  go_wp2_with fail
  go_quiet (first | (go_at_call 16; exact quiet_left (rlen_st _ _ _ (by exact H.out.drewN _) hW)))
  go_wp2_with (first | (at_builtin; refine wpList_append_new (w0 := w) (m := W.length) (news := flat ws) T52 rfl (.tmp 32) (.tmp 36) rfl rfl rfl ?hb1 ?hs1 ?hB1 ?hsrc1 ?ha1 ?hc1 ?_))
  case hb1 => exact heap_alloc_new _ _
  case hs1 => exact ((Step.refl _ _).drewN _).alloc _
  case hB1 => exact Nat.le_refl _
  case hsrc1 => exact Row.src T52 ((HH.out.2.2.2.2.2.row.drewN _).alloc _) HO.out
  case ha1 => simp [maxLen]; omega
  case hc1 => omega
  intro v1 w1 r1 t1 e1 l1
  obtain ⟨o1, cap1, rfl, -, -⟩ := r1.form
  have R1 := Lib.hid r1
  have T1 := Lib.hid t1
  have E1 := Lib.hid e1
  have L1 := Lib.hid l1
  clear r1 t1 e1 l1
  go_wp2_with (first | (at_builtin; refine wpList_append_new (w0 := w) (m := bs.length) (news := bs.map (.int .u8)) T31 rfl (.tmp 39) (.tmp 40) rfl rfl rfl ?hb2 ?hs2 ?hB2 ?hsrc2 ?ha2 ?hc2 ?_))
  case hb2 => exact heap_alloc_new _ _
  case hs2 => exact E1.out.alloc _
  case hB2 => exact E1.out.size
  case hsrc2 => exact (HB.out.step (E1.out.alloc _) (fun _ _ s => s.elim)).src Try.underlying31
  case ha2 => simp [maxLen]; omega
  case hc2 => omega
  intro v2 w2 r2 t2 e2 l2
  obtain ⟨o2, cap2, rfl, -, -⟩ := r2.form
  have R2 := Lib.hid r2
  have T2 := Lib.hid t2
  have E2 := Lib.hid e2
  have L2 := Lib.hid l2
  have R3 : Hid (Row w2 56 2 (.slice o1 W.length cap1) W.length (flat ws)) := ((R1.out.alloc _).step t2 fun k hk => by rintro rfl; have := R1.out.lt hk; omega)
  clear r2 t2 e2 l2
  have kf := fun (w3 : World) (h3 : Step None w w3) => blk_frozen (h3.blk HH.out.1 (fun s => s.elim)) 1
  have KF := Lib.hid kf
  clear kf
  go_wp2_with (first | (at_builtin; refine wpList_append_row T52 rfl (.tmp 37) (.tmp 43) rfl rfl (R3.out.alloc _) rfl (Src.ofBlock T52 (c := 1) (heap_alloc_new w2 (.cells #[.int .i64 c, .slice o2 bs.length cap2] 56)) (by rfl) (by simp [Value.oneCell'])) ?ha3 ?hc3 ?_))
  case ha3 => simp [maxLen]; omega
  case hc3 => omega
  intro v3 w3 r3 t3 l3
  obtain ⟨o3, cap3, rfl, -, -⟩ := r3.form
  have e3 : Step None w w3 := (E2.out.alloc _).trans t3 fun k hk s => by have := L1.out k s; omega
  have f3 := KF.out w3 e3
  have k3 := K.out w3 e3
  have hu : El w3 0 (.slice o2 bs.length cap2) bs := ⟨(R2.out.alloc _).step t3 fun k hk s => R2.out.neRow R3.out (by decide) k hk s, fun _ _ => Nat.zero_le _⟩
  have HN := Lib.hid (RSt.put H.out.base HH.out e3 (by simpa using r3) hu)
  clear r3 t3 l3 e3 hu
  go_wp2_with fail
  go_ret
  exact ⟨rfl, HN.out⟩

end Go.Proofs.Ytboaelkpmfagfaa
