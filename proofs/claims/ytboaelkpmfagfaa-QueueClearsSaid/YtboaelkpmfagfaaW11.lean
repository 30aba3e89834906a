/- QueueOrder: the walk. -/
import Derived.Test.YtboaelkpmfagfaaW10
import Derived.Test.YtboaelkpmfagfaaReg
namespace Go.Proofs.Ytboaelkpmfagfaa
open Go.RowKit Go.Gm

theorem run_string_drewN {w : World} {u : Value} {b : List Int} (h : Bytes w u b) (n : Nat) : (convert 31 9 u).run Try.prog (w.drewN n) = .ok (.string (strOfNums b)) (w.drewN n) :=
  run_string (P := Try.prog) (src := 31) (dst := 9) Try.underlying31 Try.underlying5 Try.underlying9 (show Bytes (w.drewN n) u b from h)

theorem run_string_row {P : Program} {src dst e : TypeId} (hs : P.underlying src = some (.slice e)) (he : P.underlying e = some (.int .u8)) (hd : P.underlying dst = some .string) {w : World} {t : TypeId} {v : Value} {n : Nat} {bs : List Int} (h : Row w t 1 v n (bs.map (.int .u8))) :
    (convert src dst v).run P w = .ok (.string (strOfNums bs)) w := by
  rcases Nat.eq_zero_or_pos n with h0 | hp
  · exact run_string hs he hd (h.bytes (by omega))
  · have hl : bs.length = n := by simpa using h.len
    obtain ⟨b, off, cap, rfl, -, -, -, hc, -⟩ := h.cells hp
    subst hl
    have hl : (loadCells ⟨b, off, none⟩ bs.length).run P w = .ok (bs.map (Value.int .u8)).toArray w := by
      simpa using run_loadCells_list (P := P) w ⟨b, off, none⟩ (bs.map (Value.int .u8)) fun j u hj => by rw [add_plain]; exact hc j u hj
    rw [run_convert_bytes_string w src dst e _ _ cap hs he hd, run_bytesToString w _ _ cap bs hl, foldl_push_bytes]
    simp [strOfNums, ByteArray.empty, ByteArray.emptyWithCapacity]
    rfl

theorem Lists.still {w w5 : World} {B g c : Nat} {V : Nat → Value} {P : Nat → List ByteArray} (h : Lists w B g V P) (hc : c < 8) {vc : Value} (hv : V c = vc) (hs : Step (Leads vc) w w5) :
    w5.cell? ⟨g, c, none⟩ = some vc ∧ w5.frozen? ⟨g, c, none⟩ = false := by
  subst hv
  obtain ⟨cur, hb, hsz, h1⟩ := h.blk
  have hb5 := hs.blk hb ((h.rows c hc).ne hb (by decide))
  exact ⟨by rw [blk_cell hb5]; exact h1 c hc, blk_frozen hb5 c⟩

set_option maxRecDepth 100000 in
set_option maxHeartbeats 4000000 in
theorem order_loop (room : Int) (ao : Option Addr) (len cap : Nat) (w : World) (hlen : len ≤ 9223372036854775807) (hs : StepsAt w ao len) (h1 : 1 ≤ room) (h2 : room ≤ 1000) :
    Calls Try.prog 3 #[.int .i64 room, .slice ao len cap] w fun e w' => e = .returned (.bool true) ∧ Below w.heap.size w w' := by
  have HS := Lib.hid hs
  clear hs
  go_enter Try.func3, Try.ntmps3
  go_wp2_with fail
  refine (awake_any w).mono ?_
  rintro e w1 ⟨rfl, b1⟩
  go_wp2_with fail
  refine (new_st room _ h1 h2 0).mono ?_
  rintro e w2 ⟨rfl, q2, s2⟩
  have z1 := b1.size
  have z2 : w1.heap.size < w2.heap.size := q2.lt
  have b2 := b1.trans (s2.toBelow.mono b1.size)
  have S0 : Hid (Ord w ((w2.alloc (.cells nil8 29)).alloc (.cells zero8 30)) w1.heap.size w1.heap.size w2.heap.size (w2.heap.size + 1) room 0 (fun _ => []) (fun _ => 0) (fun _ => .slice none 0 0) (fun _ => []) (fun _ => 0)) := by
    refine ⟨(q2.alloc _).alloc _, (Lists.new w2 (by omega)).alloc _, by simpa using Eight.new (w2.alloc (.cells nil8 29)), ⟨z1, by omega⟩, fun c _ => ⟨0, rfl, by simp, by simp, by simp, by simp, by simp⟩, (b2.alloc (by omega) _).alloc (by simp; omega) _⟩
  have hb2 := Lib.hid b2
  clear q2 s2 b2 b1
  go_wp2_with fail
  go_loopw [10] (fun i wr => ∃ k : Nat, k ≤ len ∧ k ≤ 200 ∧ i = .int .i64 k ∧ Hid (∃ X L V P G, Ord w wr w1.heap.size w1.heap.size w2.heap.size (w2.heap.size + 1) room k X L V P G)) (fun i _ => len - (intOf i).toNat)
  case atStart => exact ⟨0, Nat.zero_le _, Nat.zero_le _, rfl, ⟨_, _, _, _, _, S0⟩⟩
  case round =>
    obtain ⟨k, hk, hk2, rfl, hS⟩ := hrel
    obtain ⟨X, L, V, P, G, S⟩ := hS.out
    by_cases hlt : k < len
    · by_cases h200 : k < 200
      · obtain ⟨b, off, d, c, bo, bs, bc, rfl, hc0, hc1, hc2, hb, hsm⟩ := HS.out k hlt
        have hbl := World.block_lt_of_cell? w _ hc0
        have d0 := (S.below.cell (p := ⟨b, off + k * 3, none⟩) hbl).trans hc0
        have d1 := (S.below.cell (p := ⟨b, off + k * 3 + 1, none⟩) hbl).trans hc1
        have d2 := (S.below.cell (p := ⟨b, off + k * 3 + 2, none⟩) hbl).trans hc2
        have hbr := Lib.hid (hb.step (Step.ofBelow S.below) (fun _ _ s => s.elim))
        have zr := S.below.size
        have zq := S.st.lt
        have S' := Lib.hid (S.alloc (.cells #[.int .i64 d, .int .i64 c, .slice bo bs.length bc] 33))
        have h200b : decide ((k : Int) < 200) = true := by simp; omega
        have HB := Lib.hid hb
        clear hc0 hc1 hc2 hb S hS
        by_cases hd0 : d = 0
        · subst hd0
          go_wp2_with fail
          refine (put_st _ c _ bs _ S'.out.st (by exact hbr.out.step ((Step.refl None _).alloc _) (fun _ _ s => s.elim)) (Nat.zero_le _) (by simp; omega) h2 (fun c hc => by obtain ⟨n, hn⟩ := S'.out.law c hc; omega)).mono ?_
          rintro e w4 ⟨rfl, q4, s4⟩
          by_cases hE : putE room X c = 0
          · have hc8 : 0 ≤ c ∧ c < 8 := by
              by_cases hc8 : 0 ≤ c ∧ c < 8
              · exact hc8
              · simp only [putE] at hE; rw [if_neg hc8] at hE; cases hE
            obtain ⟨cn, rfl⟩ : ∃ cn : Nat, c = cn := ⟨c.toNat, by omega⟩
            have hcn : cn < 8 := by omega
            have hbox := s4.blk (heap_alloc_new wr _) (Own.other (heap_alloc_new wr _) (by decide) (by decide))
            have hbx0 := blk_cell hbox 0
            have hbx1 := blk_cell hbox 1
            have hbx2 := blk_cell hbox 2
            have z4 := s4.size
            simp only [World.size_alloc] at z4
            have hbz := blk_lt hbox
            have p4 := S'.out.put.own s4
            have hVc := p4.cells.1 cn hcn
            have hVf := p4.cells.2 cn
            have hgz := p4.lt
            have hrow := p4.rows cn hcn
            obtain ⟨vo, vcap, hv, -, -⟩ := hrow.form
            rw [hv] at hVc
            have HV := Lib.hid hv
            have b4 := S'.out.below.trans (s4.belowOwn z1 (by simp; omega))
            have B4 := Lib.hid b4
            have hby : (convert 31 9 (.slice bo bs.length bc)).run Try.prog w4.drew = .ok (.string (strOfNums bs)) w4.drew := run_string_drewN (HB.out.step (Step.ofBelow b4) (fun _ _ s => s.elim)) 1
            have hwe : (0 : Int) ≤ (cn : Int) := by omega
            have hwe2 : (cn : Int) < 8 := by omega
            have Q4 := Lib.hid q4
            have S4 := Lib.hid s4
            have P4 := Lib.hid p4
            have hrz : (P cn).length ≤ 200 := by obtain ⟨n, hn⟩ := S'.out.law cn hcn; omega
            have K : Hid (∀ w', Step (Leads (.slice vo (P cn).length vcap)) w4 w' → w'.cell? ⟨wr.heap.size, 1, none⟩ = some (.int .i64 cn) ∧ w'.cell? ⟨wr.heap.size, 2, none⟩ = some (.slice bo bs.length bc) ∧ w'.cell? ⟨w2.heap.size, cn, none⟩ = some (.slice vo (P cn).length vcap) ∧ (convert 31 9 (.slice bo bs.length bc)).run Try.prog w' = .ok (.string (strOfNums bs)) w') := by
              refine fun w' h' => ?_
              have hx : w'.heap[wr.heap.size]? = _ := h'.blk hbox fun s => hrow.ne hbox (by decide) (hv ▸ s)
              refine ⟨by rw [blk_cell hx]; rfl, by rw [blk_cell hx]; rfl, (p4.still hcn hv h').1, run_string (P := Try.prog) (src := 31) (dst := 9) Try.underlying31 Try.underlying5 Try.underlying9 ?_⟩
              exact HB.out.step (Step.ofBelow (b4.trans (h'.below b4.size fun k hk => p4.base.2 cn hcn k (hv ▸ hk)))) (fun _ _ s => s.elim)
            clear q4 s4 p4 b4 hv hbox hrow
            go_wp2_with fail
            refine wp_region_row (fun w' => w'.cell? ⟨wr.heap.size, 1, none⟩ = some (.int .i64 cn) ∧ w'.cell? ⟨wr.heap.size, 2, none⟩ = some (.slice bo bs.length bc) ∧ w'.cell? ⟨w2.heap.size, cn, none⟩ = some (.slice vo (P cn).length vcap) ∧ (convert 31 9 (.slice bo bs.length bc)).run Try.prog w' = .ok (.string (strOfNums bs)) w') [(0, 0), (0, 1), (0, 2), (0, 3), (0, 4), (0, 5), (0, 6), (0, 7), (0, 8), (1, 9), (1, 10), (0, 11), (2, 12)] _ (by simp only [Region.items, List.filterMap_cons, List.filterMap_nil, List.getElem?_toArray, List.getElem?_cons_zero, List.getElem?_cons_succ, Option.map_some]; rfl) (by kernel_rfl) (by kernel_rfl) (by kernel_rfl) (by decide) (by intro c a d v w; cases d <;> exact fun h => h) (K.out _ ((Step.refl _ _).drewN 1)) ?_
            repeat (refine wpRow.take (by rfl) (by intro w' hS'; (try dsimp only at hS'); go_split_ands; go_simp; try with_reducible rfl) ?_; simp only [Act.put, List.setIfInBounds_toArray, List.set_cons_zero, List.set_cons_succ])
            refine wpRow.run fun K' hK => ?_
            go_simp
            refine hK.out _ _ (K.out _ (((Step.refl _ _).drewN 1).alloc _)) ?_
            clear hK K'
            refine wpRow.run fun K' hK => ?_
            refine step_append_row T28 (by rfl) (.tmp 74) (.tmp 78) (by rfl) (by rfl) (HV.out ▸ ((P4.out.rows cn hcn).drewN _).alloc _) (by rfl) (Src.ofBlock T28 (c := 1) (heap_alloc_new w4.drew (.cells #[.string (strOfNums bs)] 9)) (by rfl) (by simp [Value.oneCell'])) (by simp [maxLen]; omega) (by omega) ?_
            intro v5 w5 hr5 hs5 hl5
            obtain ⟨vo5, vcap5, rfl, -, -⟩ := hr5.form
            obtain ⟨hc5, hf5⟩ := P4.out.after (n := 1) hcn HV.out hs5
            refine hK.out _ _ (K.out _ ((((Step.refl _ _).drewN 1).alloc _).then_ hs5)) ?_
            clear hK K'
            repeat (refine wpRow.take (by rfl) (by intro w' hS'; (try dsimp only at hS'); go_split_ands; go_simp; try with_reducible rfl) ?_; simp only [Act.put, List.setIfInBounds_toArray, List.set_cons_zero, List.set_cons_succ])
            refine wpRow.last fun K' hK => ?_
            go_simp
            refine hK.out _ _ (wpRow.done ?_)
            clear hK K'
            have hn := Lib.hid (S'.out.put_took hcn hE Q4.out S4.out (m := 1) hr5 (HV.out ▸ hs5) (fun k hk => by rw [HV.out]; simpa using hl5 k hk))
            clear hr5 hs5 hl5
            go_wp2_with fail
            go_roundw
            case rel => exact ⟨k + 1, by omega, by omega, by go_num, ⟨_, _, _, _, _, hn.out⟩⟩
            case measure => simp [intOf]; omega
          · have hEb : (putE room X c == 0) = false := by simpa using hE
            have hn := Lib.hid (S'.out.put_not hE q4 s4)
            have hbox := blk_cell (s4.blk (heap_alloc_new wr _) (Own.other (heap_alloc_new wr _) (by decide) (by decide))) 0
            clear q4 s4
            go_wp2_with fail
            go_roundw
            case rel => exact ⟨k + 1, by omega, by omega, by go_num, ⟨_, _, _, _, _, hn.out⟩⟩
            case measure => simp [intOf]; omega
        · have hd0b : (d == 0) = false := by simpa using hd0
          by_cases hd1 : d = 1
          · subst hd1
            rcases top_or X with hempty | ⟨cn, bb, rest, htop, hX⟩
            · go_wp2_with fail
              refine (get_st_none _ _ S'.out.st hempty).mono ?_
              rintro e w4 ⟨rfl, rfl⟩
              have HE := Lib.hid hempty
              clear hempty
              go_wp2_with fail
              go_loopw [16] (fun i wx => ∃ j : Nat, j ≤ 8 ∧ i = .int .i64 j ∧ Hid (Ord w wx w1.heap.size w1.heap.size w2.heap.size (w2.heap.size + 1) room k X L V P G)) (fun i _ => 8 - (intOf i).toNat)
              case atStart => exact ⟨0, by omega, rfl, S'⟩
              case round =>
                obtain ⟨j, hj, rfl, hT⟩ := hrel
                by_cases hj8 : j < 8
                · have hgc := hT.out.got.cells.1 j hj8
                  have hpc := hT.out.put.cells.1 j hj8
                  obtain ⟨vo, vcap, hv, -, -⟩ := (hT.out.put.rows j hj8).form
                  rw [hv] at hpc
                  have hG := hT.out.empty hj8 (HE.out j hj8)
                  rw [hG] at hgc
                  have hj0 : (0 : Int) ≤ (j : Int) := by omega
                  have hj1 : (j : Int) < 8 := by omega
                  clear hv hG
                  go_wp2_with fail
                  go_quiet (fail)
                  go_wp2_with fail
                  go_roundw
                  case rel => exact ⟨j + 1, by omega, by go_num, hT.out.drewN _⟩
                  case measure => simp [intOf]; omega
                · obtain rfl : j = 8 := by omega
                  go_wp2_with fail
                  go_roundw
                  case rel => exact ⟨k + 1, by omega, by omega, by go_num, ⟨_, _, _, _, _, hT.out.later⟩⟩
                  case measure => simp [intOf]; omega
            · go_wp2_with fail
              refine (get_st _ _ S'.out.st htop hX).mono ?_
              rintro e w4 ⟨u, rfl, e4, q4, s4⟩
              have hcn : cn < 8 := htop.1
              obtain ⟨gn, hGn, hlt1, hpn⟩ := S'.out.next hcn hX
              have p4 := S'.out.put.own s4
              have g4 := S'.out.got.own s4
              have hpc := p4.cells.1 cn hcn
              obtain ⟨vb, voff, vcap, hv, -, -, -, hcell, -⟩ := (p4.rows cn hcn).cells (by omega)
              rw [hv] at hpc
              have hel := hcell gn (.string (strOfNums bb)) (by rw [List.getElem?_map, hpn]; rfl)
              have hgc := g4.cells.1 cn hcn
              have hgf := g4.cells.2 cn
              rw [hGn] at hgc
              have hlen1 := (S'.out.law cn hcn)
              have hlen2 : (P cn).length ≤ 200 := by obtain ⟨n, -, -, h, -⟩ := hlen1; omega
              have hcv : (convert 31 9 u).run Try.prog w4.drew = .ok (.string (strOfNums bb)) w4.drew := run_string_row (P := Try.prog) (src := 31) (dst := 9) Try.underlying31 Try.underlying5 Try.underlying9 (e4.row.drewN 1)
              have hn := Lib.hid (S'.out.get_ok hcn hX q4 s4)
              have hE2 : Hid (∀ j, cn < j → j < 8 → getX X cn rest j = []) := fun j h1 h2 => by simp only [getX]; rw [if_neg (by omega)]; exact htop.2 j h1 h2
              have c1 : decide ((cn : Int) < 0) = false := by simp
              have c2 : decide ((7 : Int) < (cn : Int)) = false := by simp; omega
              have c3 : decide (((P cn).length : Int) ≤ (gn : Int)) = false := by simp; omega
              have c3b : decide ((P cn).length ≤ gn) = false := by simp; omega
              have c4 : (0 : Int) ≤ (cn : Int) := by omega
              have c5 : (cn : Int) < 8 := by omega
              have c6 : (0 : Int) ≤ (gn : Int) := by omega
              have c7 : (gn : Int) < ((P cn).length : Int) := by omega
              rw [hGn] at hn
              clear p4 g4 hv hcell q4 s4 e4 htop hX hlen1 hpn hGn
              go_wp2_with fail
              refine wp_region_row (fun w' => w'.cell? ⟨w2.heap.size, cn, none⟩ = some (.slice (some ⟨vb, voff, none⟩) (P cn).length vcap) ∧ w'.cell? ⟨w2.heap.size + 1, cn, none⟩ = some (.int .i64 gn) ∧ w'.cell? ⟨vb, voff + gn, none⟩ = some (.string (strOfNums bb)) ∧ (convert 31 9 u).run Try.prog w' = .ok (.string (strOfNums bb)) w') [(0, 0), (0, 1), (0, 2), (0, 3), (0, 4), (0, 5), (0, 6), (0, 7), (0, 8), (0, 9), (0, 10), (0, 11), (0, 12), (0, 13), (0, 14), (0, 15), (0, 16), (0, 17), (0, 18), (0, 19), (0, 20), (0, 21), (0, 22), (0, 23), (0, 24), (0, 25), (0, 26), (0, 27), (0, 28)] _ (by simp only [Region.items, List.filterMap_cons, List.filterMap_nil, List.getElem?_toArray, List.getElem?_cons_zero, List.getElem?_cons_succ, Option.map_some]; rfl) (by kernel_rfl) (by kernel_rfl) (by kernel_rfl) (by decide) (by intro c a d v w; cases d <;> exact fun h => h) ⟨hpc, hgc, hel, hcv⟩ ?_
              repeat (refine wpRow.take (by rfl) (by intro w' hS'; (try dsimp only at hS'); go_split_ands; go_simp; try with_reducible rfl) ?_; simp only [Act.put, List.setIfInBounds_toArray, List.set_cons_zero, List.set_cons_succ])
              refine wpRow.done ?_
              have hcn1 : IntKind.i64.wrap ((cn : Int) + 1) = ((cn + 1 : Nat) : Int) := by rw [IntWalk.i64_in _ (by omega)]; omega
              clear hel hcv hpc c7 c6 c3 c3b
              go_wp2_with fail
              go_loopw [17] (fun i wx => ∃ j : Nat, cn < j ∧ j ≤ 8 ∧ i = .int .i64 j ∧ Hid (Ord w wx w1.heap.size w1.heap.size w2.heap.size (w2.heap.size + 1) room (k + 1) (getX X cn rest) L V P (fun d => if d = cn then (gn : Int) + 1 else G d))) (fun i _ => 8 - (intOf i).toNat)
              case atStart => exact ⟨cn + 1, by omega, by omega, by go_num, hn.out.drewN 1⟩
              case round =>
                obtain ⟨j, hj0, hj, rfl, hT⟩ := hrel
                by_cases hj8 : j < 8
                · have hgc := hT.out.got.cells.1 j hj8
                  have hpc := hT.out.put.cells.1 j hj8
                  obtain ⟨vo, vcap, hv, -, -⟩ := (hT.out.put.rows j hj8).form
                  rw [hv] at hpc
                  have hG := hT.out.empty hj8 (hE2.out j hj0 hj8)
                  rw [hG] at hgc
                  have hj0 : (0 : Int) ≤ (j : Int) := by omega
                  have hj1 : (j : Int) < 8 := by omega
                  clear hv hG
                  go_wp2_with fail
                  go_quiet (fail)
                  go_wp2_with fail
                  go_roundw
                  case rel => exact ⟨j + 1, by omega, by omega, by go_num, hT.out.drewN _⟩
                  case measure => simp [intOf]; omega
                · obtain rfl : j = 8 := by omega
                  go_wp2_with fail
                  go_roundw
                  case rel => exact ⟨k + 1, by omega, by omega, by go_num, ⟨_, _, _, _, _, hT.out⟩⟩
                  case measure => simp [intOf]; omega
          · have hd1b : (d == 1) = false := by simpa using hd1
            go_wp2_with fail
            go_roundw
            case rel => exact ⟨k + 1, by omega, by omega, by go_num, ⟨_, _, _, _, _, S'.out.later⟩⟩
            case measure => simp [intOf]; omega
      · obtain rfl : k = 200 := by omega
        have hb := Lib.hid S.below
        clear S hS
        go_wp2_with fail
        go_ret
        exact ⟨rfl, hb.out⟩
    · obtain rfl : k = len := by omega
      have hb := Lib.hid S.below
      clear S hS
      go_wp2_with fail
      go_ret
      exact ⟨rfl, hb.out⟩

theorem queueOrder_walk (v0 v1 : Value) (w : World) (h0 : Arg w (.int .i64) v0) (h1 : Arg w (.slice 3 40 (.cat 1 (.int .i64) (.cat 1 (.int .i64) (.cat 1 (.slice 1 1 (.int .u8)) .nil)))) v1) :
    Calls Try.prog 3 #[v0, v1] w fun e w' => e = .returned (.bool true) ∧ Below w.heap.size w w' := by
  obtain ⟨room, rfl, -⟩ := h0.int
  obtain ⟨ao, len, cap, rfl, hlen, hs⟩ := stepsAt h1
  by_cases hr : 1 ≤ room ∧ room ≤ 1000
  · exact order_loop room ao len cap w hlen hs hr.1 hr.2
  · clear hs
    go_enter Try.func3, Try.ntmps3
    go_wp2_with fail
    refine (awake_any w).mono ?_
    rintro e w1 ⟨rfl, b1⟩
    go_wp2_with fail
    refine (new_bad room _ (by omega)).mono ?_
    rintro e w2 ⟨rfl, rfl⟩
    go_wp2_with fail
    go_ret
    exact ⟨rfl, b1⟩

end Go.Proofs.Ytboaelkpmfagfaa
