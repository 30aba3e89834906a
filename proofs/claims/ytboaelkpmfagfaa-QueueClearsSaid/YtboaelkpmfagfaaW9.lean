/- QueueSums: the walk. -/
import Derived.Test.YtboaelkpmfagfaaW8
namespace Go.Proofs.Ytboaelkpmfagfaa
open Go.RowKit Go.Gm

theorem and7 (c : Nat) (h : c < 8) : bits BinOp.and IntKind.i64 (c : Int) 7 = c := by
  have : ∀ c : Fin 8, bits BinOp.and IntKind.i64 ((c.val : Nat) : Int) 7 = c.val := by decide
  exact this ⟨c, h⟩

set_option maxRecDepth 100000 in
set_option maxHeartbeats 4000000 in
theorem sums_loop (room : Int) (ao : Option Addr) (len cap : Nat) (w : World) (hlen : len ≤ 9223372036854775807) (hs : StepsAt w ao len) (h1 : 1 ≤ room) (h2 : room ≤ 1000) :
    Calls Try.prog 5 #[.int .i64 room, .slice ao len cap] w fun e w' => e = .returned (.bool true) ∧ Below w.heap.size w w' := by
  have HS := Lib.hid hs
  clear hs
  go_enter Try.func5, Try.ntmps5
  go_wp2_with fail
  refine (awake_any w).mono ?_
  rintro e w1 ⟨rfl, b1⟩
  go_wp2_with fail
  refine (new_st room _ h1 h2 0).mono ?_
  rintro e w2 ⟨rfl, q2, s2⟩
  have z1 := b1.size
  have z2 : w1.heap.size < w2.heap.size := q2.lt
  have b2 := b1.trans (s2.toBelow.mono b1.size)
  have S0 : Hid (Sums w ((w2.alloc (.cells zero8 30)).alloc (.cells zero8 30)) w1.heap.size w1.heap.size w2.heap.size (w2.heap.size + 1) room 0 (fun _ => []) (fun _ => 0) (fun _ => 0) (fun _ => 0)) := by
    refine ⟨(q2.alloc _).alloc _, (Eight.new w2).step ((Step.refl None _).alloc _) (fun s => s.elim), by simpa using Eight.new (w2.alloc (.cells zero8 30)), by omega, ⟨z1, by omega, by omega⟩, fun c _ => ?_, (b2.alloc (by omega) _).alloc (by simp; omega) _⟩
    simp
    omega
  have hb2 := Lib.hid b2
  clear q2 s2 b2 b1
  go_wp2_with fail
  go_loopw [10] (fun i wr => ∃ k : Nat, k ≤ len ∧ k ≤ 200 ∧ i = .int .i64 k ∧ Hid (∃ X L A G, Sums w wr w1.heap.size w1.heap.size w2.heap.size (w2.heap.size + 1) room k X L A G)) (fun i _ => len - (intOf i).toNat)
  case atStart => exact ⟨0, Nat.zero_le _, Nat.zero_le _, rfl, ⟨_, _, _, _, S0⟩⟩
  case round =>
    obtain ⟨k, hk, hk2, rfl, hS⟩ := hrel
    by_cases hlt : k < len
    · by_cases h200 : k < 200
      · obtain ⟨b, off, d, c, bo, bs, bc, rfl, hc0, hc1, hc2, hb, hsm⟩ := HS.out k hlt
        obtain ⟨X, L, A, G, S⟩ := hS.out
        have hbl := World.block_lt_of_cell? w _ hc0
        have d0 := (S.below.cell (p := ⟨b, off + k * 3, none⟩) hbl).trans hc0
        have d1 := (S.below.cell (p := ⟨b, off + k * 3 + 1, none⟩) hbl).trans hc1
        have d2 := (S.below.cell (p := ⟨b, off + k * 3 + 2, none⟩) hbl).trans hc2
        have hbr := Lib.hid (hb.step (Step.ofBelow S.below) (fun _ _ s => s.elim))
        have zr := S.below.size
        have S' := Lib.hid (S.alloc (.cells #[.int .i64 d, .int .i64 c, .slice bo bs.length bc] 33))
        clear hc0 hc1 hc2 hb S hS
        have h200b : decide ((k : Int) < 200) = true := by simp; omega
        have hget : (∀ c, c < 8 → X c = []) ∨ ∃ c b rest, Top X c ∧ X c = b :: rest := top_or X
        go_upto_block 2 with (fail)
        go_cut [12, 13, 14, 15] (fun _a _b _c _d wc => Hid (∃ X L A G, Sums w wc w1.heap.size w1.heap.size w2.heap.size (w2.heap.size + 1) room (k + 1) X L A G))
        case first =>
          by_cases hd0 : d = 0
          · subst hd0
            go_wp2_with fail
            refine (put_st _ c _ bs _ S'.out.st (by exact hbr.out.step ((Step.refl None _).alloc _) (fun _ _ s => s.elim)) (Nat.zero_le _) (by simp; have := S'.out.st.lt; simp at this; omega) h2 (fun c hc => by have := S'.out.law c hc; omega)).mono ?_
            rintro e w4 ⟨rfl, q4, s4⟩
            have hbox := s4.blk (heap_alloc_new wr _) (Own.other (heap_alloc_new wr _) (by decide) (by decide))
            have hbx0 := blk_cell hbox 0
            have hbx1 := blk_cell hbox 1
            have z4 := s4.size
            simp only [World.size_alloc] at z4
            by_cases hc8 : 0 ≤ c ∧ c < 8
            · obtain ⟨cn, rfl⟩ : ∃ cn : Nat, c = cn := ⟨c.toNat, by omega⟩
              have hcn : cn < 8 := by omega
              have hne : putE room X cn ≠ 1 := by simp only [putE]; rw [if_pos hc8]; split <;> decide
              have e1 : (putE room X cn == 1) = false := by simpa using hne
              have e2 : (putE room X cn != 1) = true := by simpa using hne
              have e3 : decide ((cn : Int) < 0) = false := by simp
              have e4 : decide ((7 : Int) < (cn : Int)) = false := by simp; omega
              have hA := S'.out.law cn hcn
              have hA0 : 0 ≤ A cn := by omega
              have hA1 : A cn ≤ 200 := by omega
              have ha := (S'.out.asked.own s4).cells
              have hac := ha.1 cn hcn
              have haf := ha.2 cn
              have hn := Lib.hid (S'.out.put_ok hcn q4 s4)
              clear ha q4 s4 hA hbox hne
              go_wp2_with fail
              go_meet
              case rel => exact ⟨_, _, _, _, hn.out⟩
            · have hE : putE room X c = 1 := by simp only [putE]; rw [if_neg hc8]
              have hn := Lib.hid (S'.out.put_bad hc8 q4 s4)
              have e3 : (decide (c < 0) || decide (7 < c)) = true := by simp; omega
              clear q4 s4 hbox
              by_cases hc0 : c < 0
              · have e5 : decide (c < 0) = true := by simpa using hc0
                go_wp2_with fail
                go_meet
                case rel => exact ⟨_, _, _, _, hn.out⟩
              · have e5 : decide (c < 0) = false := by simpa using hc0
                have e6 : decide (7 < c) = true := by simp; omega
                go_wp2_with fail
                go_meet
                case rel => exact ⟨_, _, _, _, hn.out⟩
          · have hd0b : (d == 0) = false := by simpa using hd0
            by_cases hd1 : d = 1
            · subst hd1
              rcases hget with hempty | ⟨cn, bb, rest, htop, hX⟩
              · go_wp2_with fail
                refine (get_st_none _ _ S'.out.st hempty).mono ?_
                rintro e w4 ⟨rfl, rfl⟩
                go_wp2_with fail
                go_meet
                case rel => exact ⟨_, _, _, _, S'.out.later⟩
              · go_wp2_with fail
                refine (get_st _ _ S'.out.st htop hX).mono ?_
                rintro e w4 ⟨u, rfl, e4, q4, s4⟩
                have hcn : cn < 8 := htop.1
                have hG := S'.out.law cn hcn
                have hg0 : 0 ≤ G cn := hG.2.2.2.2.1
                have hg1 : G cn ≤ 200 := by omega
                have hg := (S'.out.got.own s4).cells
                have hgc := hg.1 cn hcn
                have hgf := hg.2 cn
                have hn := Lib.hid (S'.out.get_ok hcn hX q4 s4)
                clear hg q4 s4 hG e4 hX htop
                have eb : bits BinOp.and IntKind.i64 (cn : Int) 7 = cn := and7 cn hcn
                go_wp2_with fail
                go_meet
                case rel => exact ⟨_, _, _, _, hn.out⟩
            · have hd1b : (d == 1) = false := by simpa using hd1
              go_wp2_with fail
              go_meet
              case rel => exact ⟨_, _, _, _, S'.out.later⟩
        case rest =>
          obtain ⟨X2, L2, A2, G2, S2⟩ := hcut
          have S2' := Lib.hid S2
          clear S2 S' hget d0 d1 d2 hbr
          go_wp2_with fail
          go_loopw [16] (fun i wx => ∃ j : Nat, j ≤ 8 ∧ i = .int .i64 j ∧ Hid (Sums w wx w1.heap.size w1.heap.size w2.heap.size (w2.heap.size + 1) room (k + 1) X2 L2 A2 G2)) (fun i _ => 8 - (intOf i).toNat)
          case atStart => exact ⟨0, by omega, rfl, S2'⟩
          case round =>
            obtain ⟨j, hj, rfl, hT⟩ := hrel
            by_cases hj8 : j < 8
            · have hlaw := hT.out.law j hj8
              have ha := hT.out.asked.cells
              have hg := hT.out.got.cells
              have hac := ha.1 j hj8
              have hgc := hg.1 j hj8
              have hlE : lenE X2 j = (X2 j).length := lenE_nat X2 hj8
              have hoE : lostE L2 j = L2 j := lostE_nat L2 hj8
              have hwr1 : IntKind.i64.wrap (G2 j + lenE X2 j) = G2 j + lenE X2 j := IntWalk.i64_in _ (by omega)
              have hwr2 : IntKind.i64.wrap (G2 j + lenE X2 j + lostE L2 j) = G2 j + lenE X2 j + lostE L2 j := IntWalk.i64_in _ (by omega)
              have hne : (A2 j != G2 j + lenE X2 j + lostE L2 j) = false := by simp; omega
              have hroom : decide (room < lenE X2 j) = false := by simp; omega
              have hj0 : (0 : Int) ≤ (j : Int) := by omega
              have hj1 : (j : Int) < 8 := by omega
              clear ha hg hlaw hlE hoE
              go_wp2_with fail
              go_quiet (first | (go_at_call 12; exact quiet_left (len_st _ _ _ (by exact hT.out.st.drewN _))) | (go_at_call 13; exact quiet_left (lost_st _ _ _ (by exact hT.out.st.drewN _))))
              go_wp2_with fail
              go_roundw
              case rel => exact ⟨j + 1, by omega, by go_num, hT.out.drewN nq⟩
              case measure => simp [intOf]; omega
            · obtain rfl : j = 8 := by omega
              go_wp2_with fail
              go_roundw
              case rel => exact ⟨k + 1, by omega, by omega, by go_num, ⟨_, _, _, _, hT.out⟩⟩
              case measure => simp [intOf]; omega
      · obtain rfl : k = 200 := by omega
        obtain ⟨X, L, A, G, S⟩ := hS.out
        have hb := Lib.hid S.below
        clear S hS
        go_wp2_with fail
        go_ret
        exact ⟨rfl, hb.out⟩
    · obtain rfl : k = len := by omega
      obtain ⟨X, L, A, G, S⟩ := hS.out
      have hb := Lib.hid S.below
      clear S hS
      go_wp2_with fail
      go_ret
      exact ⟨rfl, hb.out⟩

theorem queueSums_walk (v0 v1 : Value) (w : World) (h0 : Arg w (.int .i64) v0) (h1 : Arg w (.slice 3 40 (.cat 1 (.int .i64) (.cat 1 (.int .i64) (.cat 1 (.slice 1 1 (.int .u8)) .nil)))) v1) :
    Calls Try.prog 5 #[v0, v1] w fun e w' => e = .returned (.bool true) ∧ Below w.heap.size w w' := by
  obtain ⟨room, rfl, -⟩ := h0.int
  obtain ⟨ao, len, cap, rfl, hlen, hs⟩ := stepsAt h1
  by_cases hr : 1 ≤ room ∧ room ≤ 1000
  · exact sums_loop room ao len cap w hlen hs hr.1 hr.2
  · clear hs
    go_enter Try.func5, Try.ntmps5
    go_wp2_with fail
    refine (awake_any w).mono ?_
    rintro e w1 ⟨rfl, b1⟩
    go_wp2_with fail
    refine (new_bad room _ (by omega)).mono ?_
    rintro e w2 ⟨rfl, rfl⟩
    go_wp2_with fail
    go_ret
    exact ⟨rfl, b1⟩

end Go.Proofs.Ytboaelkpmfagfaa
