/- QueueClears: the walk. -/
import Derived.Test.YtboaelkpmfagfaaW17
namespace Go.Proofs.Ytboaelkpmfagfaa
open Go.RowKit Go.Gm

/-- While the queue is filled anew. -/
structure Fills (w0 wr : World) (gq : Nat) (room : Int) (cn : Nat) (L : Nat → Int) (k : Nat) : Prop where
  st : ∃ X, QSt wr 0 gq gq room X L ∧ (X cn).length = k
  base : w0.heap.size ≤ gq
  below : Below w0.heap.size w0 wr

theorem total_sum {X : Nat → List (List Int)} (k : Nat) (hk : k < 8) : (total X k : Int) + lenE X k = (total X (k + 1) : Nat) := by
  rw [lenE_nat X hk, total]; omega

set_option maxRecDepth 10000 in
set_option maxHeartbeats 2000000 in
theorem clears_loop (room : Int) (cn : Nat) (ao : Option Addr) (len cap : Nat) (w : World) (hlen : len ≤ 9223372036854775807) (hs : StepsAt w ao len) (h1 : 1 ≤ room) (h2 : room ≤ 60) (hcn : cn < 8) :
    Calls Try.prog 7 #[.int .i64 room, .slice ao len cap, .int .i64 cn] w fun e w' => e = .returned (.bool true) ∧ Below w.heap.size w w' := by
  have HS := Lib.hid hs
  have c1 : decide ((60 : Int) < room) = false := by simp; omega
  have c2 : decide ((cn : Int) < 0) = false := by simp
  have c3 : decide ((7 : Int) < (cn : Int)) = false := by simp; omega
  clear hs
  go_enter Try.func7, Try.ntmps7
  go_wp2_with fail
  refine (awake_any w).mono ?_
  rintro e w1 ⟨rfl, b1⟩
  go_wp2_with fail
  refine (new_st room _ h1 (by omega) 0).mono ?_
  rintro e w2 ⟨rfl, q2, s2⟩
  go_wp2_with fail
  refine (rnew_st room _ h1 (by omega) (Q := w1.heap.size) s2.size).mono ?_
  rintro e w3 ⟨rfl, r3, s3⟩
  have z1 := b1.size
  have S0 : Hid (Both w w3 w1.heap.size w2.heap.size room 0 (fun _ => []) (fun _ => 0) []) :=
    ⟨q2.step s3 (fun _ s => s.elim), r3, Link.nil, fun _ _ => by simp, z1, (b1.trans (s2.toBelow.mono b1.size)).trans (s3.toBelow.mono (by have := s2.size; omega))⟩
  clear q2 s2 r3 s3 b1
  go_wp2_with fail
  have hafter : ∀ (u : Nat), True := fun _ => trivial
  clear hafter
  go_loopw [12] (fun i wr => ∃ k : Nat, k ≤ len ∧ k ≤ 100 ∧ i = .int .i64 k ∧ Hid (∃ X L W, Both w wr w1.heap.size w2.heap.size room k X L W)) (fun i _ => len - (intOf i).toNat)
  case atStart => exact ⟨0, Nat.zero_le _, Nat.zero_le _, rfl, ⟨_, _, _, S0⟩⟩
  case round =>
    obtain ⟨k, hk, hk2, rfl, hS⟩ := hrel
    by_cases hgo : k < len ∧ k < 100
    · obtain ⟨hlt, h200⟩ := hgo
      obtain ⟨X, L, W, S⟩ := hS.out
      obtain ⟨b, off, d, c, bo, bs, bc, rfl, hc0, hc1, hc2, hb, hsm⟩ := HS.out k hlt
      have hbl := World.block_lt_of_cell? w _ hc0
      have d0 := (S.below.cell (p := ⟨b, off + k * 3, none⟩) hbl).trans hc0
      have d1 := (S.below.cell (p := ⟨b, off + k * 3 + 1, none⟩) hbl).trans hc1
      have d2 := (S.below.cell (p := ⟨b, off + k * 3 + 2, none⟩) hbl).trans hc2
      have HB := Lib.hid hb
      have h200b : decide ((k : Int) < 100) = true := by simp; omega
      have S' := Lib.hid S
      clear hc0 hc1 hc2 hb S hS
      go_wp2_with fail
      refine (step_st d c _ bs w _ S'.out HB.out (by omega) (by omega)).mono ?_
      rintro e w4 ⟨rfl, X4, L4, W4, S4⟩
      have T := Lib.hid S4
      clear S4
      go_wp2_with fail
      go_roundw
      case rel => exact ⟨k + 1, by omega, by omega, by go_num, ⟨_, _, _, T.out⟩⟩
      case measure => simp [intOf]; omega
    · have hout : Hid (¬ (k < len ∧ k < 100)) := hgo
      obtain ⟨X, L, W, S⟩ := hS.out
      have hq := Lib.hid S.q
      have hlaw := Lib.hid S.law
      have hbw := Lib.hid S.below
      have hfew := Lib.hid (total_le X S.q.few)
      clear S hS hgo
      have g1 : (decide ((k : Int) < (len : Int)) && decide ((k : Int) < 100)) = false := by have := hout.out; simp; omega
      by_cases hkl : k < len
      · have hk100 : decide ((k : Int) < 100) = false := by have := hout.out; simp; omega
        go_wp2_with fail
        go_loopw [13, 14] (fun n i wx => ∃ j : Nat, j ≤ 8 ∧ i = .int .i64 j ∧ n = .int .i64 (total X j) ∧ wx = wr) (fun _ i _ => 8 - (intOf i).toNat)
        case atStart => exact ⟨0, by omega, rfl, rfl, by trivial⟩
        case round =>
          obtain ⟨j, hj, rfl, rfl, rfl⟩ := hrel
          by_cases hj8 : j < 8
          · have hsum := total_sum (X := X) j hj8
            have hb1 := hfew.out (j + 1) (by omega)
            have hwr : IntKind.i64.wrap ((total X j : Int) + lenE X j) = (total X (j + 1) : Nat) := by rw [IntWalk.i64_in _ (by omega)]; exact hsum
            clear hsum
            go_wp2_with fail
            refine (len_st _ _ _ (by exact hq.out)).mono ?_
            rintro e w5 ⟨rfl, rfl⟩
            go_wp2_with fail
            go_roundw
            case rel => exact ⟨j + 1, by omega, by go_num, rfl, by trivial⟩
            case measure => simp [intOf]; omega
          · obtain rfl : j = 8 := by omega
            go_wp2_with fail
            refine (lost_st _ _ _ (by exact hq.out)).mono ?_
            rintro e w5 ⟨rfl, rfl⟩
            go_wp2_with fail
            refine (clear_st _ _ hq.out).mono ?_
            rintro e w5 ⟨rfl, q5, s5⟩
            have hq5 := Lib.hid q5
            have b5 := Lib.hid (hbw.out.trans (s5.belowOwn z1 hbw.out.size))
            clear q5 s5
            go_wp2_with fail
            refine (get_st_none _ _ (by exact hq5.out) (fun _ _ => rfl)).mono ?_
            rintro e w6 ⟨rfl, rfl⟩
            go_wp2_with fail
            refine (lost_st _ _ _ (by exact hq5.out)).mono ?_
            rintro e w6 ⟨rfl, rfl⟩
            have l0 : lenE (fun _ => []) (cn : Int) = 0 := by simp [lenE]
            go_wp2_with fail
            refine (len_st _ _ _ (by exact hq5.out)).mono ?_
            rintro e w6 ⟨rfl, rfl⟩
            go_wp2_with fail
            have hF : Hid (Fills w w5 w1.heap.size room cn L 0) := ⟨⟨_, hq5.out, rfl⟩, z1, b5.out⟩
            go_loopw [20, 21] (fun i _ wx => ∃ j : Nat, (j : Int) ≤ room ∧ i = .int .i64 j ∧ Hid (Fills w wx w1.heap.size room cn L j)) (fun i _ _ => (room - intOf i).toNat)
            case atStart => exact ⟨0, by simp; omega, rfl, hF⟩
            case round =>
              obtain ⟨j, hj, rfl, hT⟩ := hrel
              obtain ⟨X6, hq6, hx6⟩ := hT.out.st
              have hLc := hlaw.out cn hcn
              by_cases hjr : (j : Int) < room
              · have hE : putE room X6 cn = 0 := by simp only [putE]; rw [if_pos (by omega)]; simp; omega
                have hL : putL room X6 L cn = L := by funext d; simp [putL, hE]
                have hq6' := Lib.hid (hq6.alloc (.cells #[.int .u8 ((j : Int))] 5))
                have hlt6 := hq6.lt
                have hQ6 : w1.heap.size ≤ wr.heap.size + 1 := by omega
                clear hq6
                go_wp2_with fail
                refine (put_st _ _ _ [(j : Int)] _ (by exact hq6'.out) (Bytes.ofBlock (heap_alloc_new _ _) rfl (by simp)) (Nat.zero_le _) (by simp; omega) (by omega) (fun c hc => by have := hlaw.out c hc; omega)).mono ?_
                rintro e w7 ⟨rfl, q7, s7⟩
                rw [hE]
                have hn : Hid (Fills w w7 w1.heap.size room cn L (j + 1)) := ⟨⟨_, by rw [hL] at q7; exact q7, by simp [putX, hE, hx6]⟩, z1, (hT.out.below.alloc hT.out.below.size _).trans (s7.belowOwn z1 (by have := hT.out.below.size; simp; omega))⟩
                clear q7 s7
                go_wp2_with fail
                go_roundw
                case rel => exact ⟨j + 1, by omega, by go_num, hn⟩
                case measure => simp [intOf]; omega
              · obtain rfl : room = j := by omega
                have hE : putE (j : Int) X6 cn = 3 := by simp only [putE]; rw [if_pos (by omega)]; simp; omega
                have hlt6 := hq6.lt
                have hq6' := Lib.hid hq6
                clear hq6
                go_wp2_with fail
                refine (put_st _ _ _ [] _ (by exact hq6'.out) (.inl ⟨rfl, rfl⟩) (Nat.zero_le _) (by omega) (by omega) (fun c hc => by have := hlaw.out c hc; omega)).mono ?_
                rintro e w7 ⟨rfl, q7, s7⟩
                rw [hE]
                have hq7 := Lib.hid q7
                have b7 := Lib.hid (hT.out.below.trans (s7.belowOwn z1 hT.out.below.size))
                have hl7 : lostE (putL (j : Int) X6 L cn) cn = lostE L cn + 1 := by rw [lostE_nat _ hcn, lostE_nat _ hcn]; simp [putL, hE]
                have hn7 : lenE (putX (j : Int) X6 cn []) cn = j := by rw [lenE_nat _ hcn]; simp [putX, hE, hx6]
                have hlb : lostE L cn = L cn := lostE_nat L hcn
                have hwr : IntKind.i64.wrap (lostE L cn + 1) = lostE L cn + 1 := IntWalk.i64_in _ (by rw [hlb]; omega)
                clear hlb
                clear q7 s7
                go_wp2_with fail
                refine (lost_st _ _ _ (by exact hq7.out)).mono ?_
                rintro e w8 ⟨rfl, rfl⟩
                go_wp2_with fail
                refine (len_st _ _ _ (by exact hq7.out)).mono ?_
                rintro e w8 ⟨rfl, rfl⟩
                go_wp2_with fail
                go_ret
                exact ⟨rfl, b7.out⟩
      · obtain rfl : k = len := by omega
        go_wp2_with fail
        go_loopw [13, 14] (fun n i wx => ∃ j : Nat, j ≤ 8 ∧ i = .int .i64 j ∧ n = .int .i64 (total X j) ∧ wx = wr) (fun _ i _ => 8 - (intOf i).toNat)
        case atStart => exact ⟨0, by omega, rfl, rfl, by trivial⟩
        case round =>
          obtain ⟨j, hj, rfl, rfl, rfl⟩ := hrel
          by_cases hj8 : j < 8
          · have hsum := total_sum (X := X) j hj8
            have hb1 := hfew.out (j + 1) (by omega)
            have hwr : IntKind.i64.wrap ((total X j : Int) + lenE X j) = (total X (j + 1) : Nat) := by rw [IntWalk.i64_in _ (by omega)]; exact hsum
            clear hsum
            go_wp2_with fail
            refine (len_st _ _ _ (by exact hq.out)).mono ?_
            rintro e w5 ⟨rfl, rfl⟩
            go_wp2_with fail
            go_roundw
            case rel => exact ⟨j + 1, by omega, by go_num, rfl, by trivial⟩
            case measure => simp [intOf]; omega
          · obtain rfl : j = 8 := by omega
            go_wp2_with fail
            refine (lost_st _ _ _ (by exact hq.out)).mono ?_
            rintro e w5 ⟨rfl, rfl⟩
            go_wp2_with fail
            refine (clear_st _ _ hq.out).mono ?_
            rintro e w5 ⟨rfl, q5, s5⟩
            have hq5 := Lib.hid q5
            have b5 := Lib.hid (hbw.out.trans (s5.belowOwn z1 hbw.out.size))
            clear q5 s5
            go_wp2_with fail
            refine (get_st_none _ _ (by exact hq5.out) (fun _ _ => rfl)).mono ?_
            rintro e w6 ⟨rfl, rfl⟩
            go_wp2_with fail
            refine (lost_st _ _ _ (by exact hq5.out)).mono ?_
            rintro e w6 ⟨rfl, rfl⟩
            have l0 : lenE (fun _ => []) (cn : Int) = 0 := by simp [lenE]
            go_wp2_with fail
            refine (len_st _ _ _ (by exact hq5.out)).mono ?_
            rintro e w6 ⟨rfl, rfl⟩
            go_wp2_with fail
            have hF : Hid (Fills w w5 w1.heap.size room cn L 0) := ⟨⟨_, hq5.out, rfl⟩, z1, b5.out⟩
            go_loopw [20, 21] (fun i _ wx => ∃ j : Nat, (j : Int) ≤ room ∧ i = .int .i64 j ∧ Hid (Fills w wx w1.heap.size room cn L j)) (fun i _ _ => (room - intOf i).toNat)
            case atStart => exact ⟨0, by simp; omega, rfl, hF⟩
            case round =>
              obtain ⟨j, hj, rfl, hT⟩ := hrel
              obtain ⟨X6, hq6, hx6⟩ := hT.out.st
              have hLc := hlaw.out cn hcn
              by_cases hjr : (j : Int) < room
              · have hE : putE room X6 cn = 0 := by simp only [putE]; rw [if_pos (by omega)]; simp; omega
                have hL : putL room X6 L cn = L := by funext d; simp [putL, hE]
                have hq6' := Lib.hid (hq6.alloc (.cells #[.int .u8 ((j : Int))] 5))
                have hlt6 := hq6.lt
                have hQ6 : w1.heap.size ≤ wr.heap.size + 1 := by omega
                clear hq6
                go_wp2_with fail
                refine (put_st _ _ _ [(j : Int)] _ (by exact hq6'.out) (Bytes.ofBlock (heap_alloc_new _ _) rfl (by simp)) (Nat.zero_le _) (by simp; omega) (by omega) (fun c hc => by have := hlaw.out c hc; omega)).mono ?_
                rintro e w7 ⟨rfl, q7, s7⟩
                rw [hE]
                have hn : Hid (Fills w w7 w1.heap.size room cn L (j + 1)) := ⟨⟨_, by rw [hL] at q7; exact q7, by simp [putX, hE, hx6]⟩, z1, (hT.out.below.alloc hT.out.below.size _).trans (s7.belowOwn z1 (by have := hT.out.below.size; simp; omega))⟩
                clear q7 s7
                go_wp2_with fail
                go_roundw
                case rel => exact ⟨j + 1, by omega, by go_num, hn⟩
                case measure => simp [intOf]; omega
              · obtain rfl : room = j := by omega
                have hE : putE (j : Int) X6 cn = 3 := by simp only [putE]; rw [if_pos (by omega)]; simp; omega
                have hlt6 := hq6.lt
                have hq6' := Lib.hid hq6
                clear hq6
                go_wp2_with fail
                refine (put_st _ _ _ [] _ (by exact hq6'.out) (.inl ⟨rfl, rfl⟩) (Nat.zero_le _) (by omega) (by omega) (fun c hc => by have := hlaw.out c hc; omega)).mono ?_
                rintro e w7 ⟨rfl, q7, s7⟩
                rw [hE]
                have hq7 := Lib.hid q7
                have b7 := Lib.hid (hT.out.below.trans (s7.belowOwn z1 hT.out.below.size))
                have hl7 : lostE (putL (j : Int) X6 L cn) cn = lostE L cn + 1 := by rw [lostE_nat _ hcn, lostE_nat _ hcn]; simp [putL, hE]
                have hn7 : lenE (putX (j : Int) X6 cn []) cn = j := by rw [lenE_nat _ hcn]; simp [putX, hE, hx6]
                have hlb : lostE L cn = L cn := lostE_nat L hcn
                have hwr : IntKind.i64.wrap (lostE L cn + 1) = lostE L cn + 1 := IntWalk.i64_in _ (by rw [hlb]; omega)
                clear hlb
                clear q7 s7
                go_wp2_with fail
                refine (lost_st _ _ _ (by exact hq7.out)).mono ?_
                rintro e w8 ⟨rfl, rfl⟩
                go_wp2_with fail
                refine (len_st _ _ _ (by exact hq7.out)).mono ?_
                rintro e w8 ⟨rfl, rfl⟩
                go_wp2_with fail
                go_ret
                exact ⟨rfl, b7.out⟩

theorem queueClears_walk (v0 v1 v2 : Value) (w : World) (h0 : Arg w (.int .i64) v0) (h1 : Arg w (.slice 3 40 (.cat 1 (.int .i64) (.cat 1 (.int .i64) (.cat 1 (.slice 1 1 (.int .u8)) .nil)))) v1) (h2 : Arg w (.int .i64) v2) :
    Calls Try.prog 7 #[v0, v1, v2] w fun e w' => e = .returned (.bool true) ∧ Below w.heap.size w w' := by
  obtain ⟨room, rfl, -⟩ := h0.int
  obtain ⟨class_, rfl, -⟩ := h2.int
  obtain ⟨ao, len, cap, rfl, hlen, hs⟩ := stepsAt h1
  by_cases hr : 1 ≤ room ∧ room ≤ 1000
  · by_cases hg : room ≤ 60 ∧ 0 ≤ class_ ∧ class_ < 8
    · obtain ⟨cn, rfl⟩ : ∃ cn : Nat, class_ = cn := ⟨class_.toNat, by omega⟩
      exact clears_loop room cn ao len cap w hlen hs hr.1 hg.1 (by omega)
    · clear hs h1
      have fin : ∀ w1 w2, Below w.heap.size w w1 → Step None w1 w2 → Below w.heap.size w w2 := fun w1 w2 b s => b.trans (s.toBelow.mono b.size)
      go_enter Try.func7, Try.ntmps7
      go_wp2_with fail
      refine (awake_any w).mono ?_
      rintro e w1 ⟨rfl, b1⟩
      go_wp2_with fail
      refine (new_st room _ hr.1 hr.2 0).mono ?_
      rintro e w2 ⟨rfl, -, s2⟩
      have b2 := Lib.hid (fin _ _ b1 s2)
      clear s2
      by_cases g1 : room ≤ 60
      · have c1 : decide ((60 : Int) < room) = false := by simp; omega
        by_cases g2 : class_ < 0
        · have c2 : decide (class_ < 0) = true := by simpa using g2
          go_wp2_with fail
          go_ret
          exact ⟨rfl, b2.out⟩
        · have c2 : decide (class_ < 0) = false := by simpa using g2
          have c3 : decide ((7 : Int) < class_) = true := by simp; omega
          go_wp2_with fail
          go_ret
          exact ⟨rfl, b2.out⟩
      · have c1 : decide ((60 : Int) < room) = true := by simp; omega
        go_wp2_with fail
        go_ret
        exact ⟨rfl, b2.out⟩
  · clear hs h1
    go_enter Try.func7, Try.ntmps7
    go_wp2_with fail
    refine (awake_any w).mono ?_
    rintro e w1 ⟨rfl, b1⟩
    go_wp2_with fail
    refine (new_bad room _ (by omega)).mono ?_
    rintro e w2 ⟨rfl, rfl⟩
    go_wp2_with fail
    go_ret
    exact ⟨rfl, b1⟩

end Go.Proofs.Ytboaelkpmfagfaa
