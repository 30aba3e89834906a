/- The document's order of bridges; ways. -/
import Derived.Test.YtehlaomippbehaaW1
namespace Go.Proofs.Ytehlaomippbehaa
open Go.RowKit Go.Gm

def numL : List Int → Int → Int
  | [], n => n
  | a :: l, n => numL l (n * 256 + a)
theorem numL_lex : ∀ {a b : List Int} {n m : Int}, a.length = b.length → Small a → Small b → cmpI (numL a n) (numL b m) = if cmpI n m = 0 then lex a b else cmpI n m
  | [], [], n, m, _, _, _ => by
    simp only [numL, lex]
    split
    · assumption
    · rfl
  | a :: l, b :: k, n, m, h, ha, hb => by
    have h1 := ha a (by simp)
    have h2 := hb b (by simp)
    rw [numL, numL, numL_lex (by simpa using h) (fun z hz => ha z (by simp [hz])) (fun z hz => hb z (by simp [hz]))]
    have key : cmpI (n * 256 + a) (m * 256 + b) = if cmpI n m = 0 then cmpI a b else cmpI n m := by
      unfold cmpI
      by_cases c1 : n < m
      · rw [if_pos (by omega)]; simp [c1]
      · by_cases c2 : m < n
        · rw [if_neg (by omega), if_pos (by omega)]; simp [c1, c2]
        · have : n = m := by omega
          subst this
          by_cases c3 : a < b
          · rw [if_pos (by omega)]; simp [c3]
          · by_cases c4 : b < a
            · rw [if_neg (by omega), if_pos (by omega)]; simp [c3, c4]
            · rw [if_neg (by omega), if_neg (by omega)]; simp [c3, c4]
    rw [key, lex]
    by_cases c : cmpI n m = 0
    · simp [c]
    · simp [c]

/-- The number behind so many bytes. -/
theorem num_steps (x : Idn) (h : Small x.mac) : ∃ N : Nat → Int, (N 0 = 0 ∧ N 1 = N 0 * 256 + x.m0 ∧ N 2 = N 1 * 256 + x.m1 ∧ N 3 = N 2 * 256 + x.m2 ∧ N 4 = N 3 * 256 + x.m3 ∧ N 5 = N 4 * 256 + x.m4 ∧ N 6 = N 5 * 256 + x.m5) ∧ N 6 = numL x.mac 0 ∧
    ∀ j, j ≤ 6 → 0 ≤ N j ∧ N j < 281474976710656 := by
  have b0 := h x.m0 (by simp [Idn.mac])
  have b1 := h x.m1 (by simp [Idn.mac])
  have b2 := h x.m2 (by simp [Idn.mac])
  have b3 := h x.m3 (by simp [Idn.mac])
  have b4 := h x.m4 (by simp [Idn.mac])
  have b5 := h x.m5 (by simp [Idn.mac])
  refine ⟨fun j => numL (x.mac.take j) 0, by simp [Idn.mac, numL], by simp [Idn.mac], fun j hj => ?_⟩
  rcases (show j = 0 ∨ j = 1 ∨ j = 2 ∨ j = 3 ∨ j = 4 ∨ j = 5 ∨ j = 6 by omega) with rfl | rfl | rfl | rfl | rfl | rfl | rfl <;> simp [Idn.mac, numL] <;> omega

set_option maxHeartbeats 2000000 in
theorem rnumber_mac (x : Idn) (w : World) (h : Small x.mac) : Calls Try.prog 46 #[.agg (macV x)] w fun e w' => e = .returned (.int .u64 (numL x.mac 0)) ∧ Step None w w' := by
  obtain ⟨N, ⟨n0, n1, n2, n3, n4, n5, n6⟩, hN, hb⟩ := num_steps x h
  rw [← hN]
  have HB := Lib.hid hb
  have N0 := Lib.hid n0
  have N1 := Lib.hid n1
  have N2 := Lib.hid n2
  have N3 := Lib.hid n3
  have N4 := Lib.hid n4
  have N5 := Lib.hid n5
  have N6 := Lib.hid n6
  have HM := Lib.hid h
  clear hN hb n0 n1 n2 n3 n4 n5 n6 h
  unfold macV
  go_enter Try.func46, Try.ntmps46
  go_wp2_with fail
  go_loopw [3, 4] (fun n i wr => ∃ j : Nat, j ≤ 6 ∧ i = .int .i64 j ∧ n = .int .u64 (N j) ∧ wr = w.alloc (.cells #[.int .u8 x.m0, .int .u8 x.m1, .int .u8 x.m2, .int .u8 x.m3, .int .u8 x.m4, .int .u8 x.m5] 23)) (fun _ i _ => 6 - (intOf i).toNat)
  case atStart => exact ⟨0, by omega, rfl, by rw [N0.out], rfl⟩
  case round =>
    obtain ⟨j, hj, rfl, rfl, rfl⟩ := hrel
    rcases (show j = 0 ∨ j = 1 ∨ j = 2 ∨ j = 3 ∨ j = 4 ∨ j = 5 ∨ j = 6 by omega) with rfl | rfl | rfl | rfl | rfl | rfl | rfl
    · have q := N1.out
      have hb := HB.out 0 (by omega)
      have hb1 := HB.out 1 (by omega)
      have hm := HM.out x.m0 (by simp [Idn.mac])
      have w1 : IntKind.u64.wrap (N 0 * 256) = N 0 * 256 := IntWalk.u64_in _ (by omega)
      have w2 : IntKind.u64.wrap x.m0 = x.m0 := IntWalk.u64_in _ (by omega)
      have w3 : IntKind.u64.wrap (N 0 * 256 + x.m0) = N 1 := by rw [← q]; exact IntWalk.u64_in _ (by omega)
      clear q hb hb1 hm
      go_wp2_with fail
      go_roundw
      case rel => exact ⟨1, by omega, rfl, rfl, by trivial⟩
      case measure => simp [intOf]
    · have q := N2.out
      have hb := HB.out 1 (by omega)
      have hb1 := HB.out 2 (by omega)
      have hm := HM.out x.m1 (by simp [Idn.mac])
      have w1 : IntKind.u64.wrap (N 1 * 256) = N 1 * 256 := IntWalk.u64_in _ (by omega)
      have w2 : IntKind.u64.wrap x.m1 = x.m1 := IntWalk.u64_in _ (by omega)
      have w3 : IntKind.u64.wrap (N 1 * 256 + x.m1) = N 2 := by rw [← q]; exact IntWalk.u64_in _ (by omega)
      clear q hb hb1 hm
      go_wp2_with fail
      go_roundw
      case rel => exact ⟨2, by omega, rfl, rfl, by trivial⟩
      case measure => simp [intOf]
    · have q := N3.out
      have hb := HB.out 2 (by omega)
      have hb1 := HB.out 3 (by omega)
      have hm := HM.out x.m2 (by simp [Idn.mac])
      have w1 : IntKind.u64.wrap (N 2 * 256) = N 2 * 256 := IntWalk.u64_in _ (by omega)
      have w2 : IntKind.u64.wrap x.m2 = x.m2 := IntWalk.u64_in _ (by omega)
      have w3 : IntKind.u64.wrap (N 2 * 256 + x.m2) = N 3 := by rw [← q]; exact IntWalk.u64_in _ (by omega)
      clear q hb hb1 hm
      go_wp2_with fail
      go_roundw
      case rel => exact ⟨3, by omega, rfl, rfl, by trivial⟩
      case measure => simp [intOf]
    · have q := N4.out
      have hb := HB.out 3 (by omega)
      have hb1 := HB.out 4 (by omega)
      have hm := HM.out x.m3 (by simp [Idn.mac])
      have w1 : IntKind.u64.wrap (N 3 * 256) = N 3 * 256 := IntWalk.u64_in _ (by omega)
      have w2 : IntKind.u64.wrap x.m3 = x.m3 := IntWalk.u64_in _ (by omega)
      have w3 : IntKind.u64.wrap (N 3 * 256 + x.m3) = N 4 := by rw [← q]; exact IntWalk.u64_in _ (by omega)
      clear q hb hb1 hm
      go_wp2_with fail
      go_roundw
      case rel => exact ⟨4, by omega, rfl, rfl, by trivial⟩
      case measure => simp [intOf]
    · have q := N5.out
      have hb := HB.out 4 (by omega)
      have hb1 := HB.out 5 (by omega)
      have hm := HM.out x.m4 (by simp [Idn.mac])
      have w1 : IntKind.u64.wrap (N 4 * 256) = N 4 * 256 := IntWalk.u64_in _ (by omega)
      have w2 : IntKind.u64.wrap x.m4 = x.m4 := IntWalk.u64_in _ (by omega)
      have w3 : IntKind.u64.wrap (N 4 * 256 + x.m4) = N 5 := by rw [← q]; exact IntWalk.u64_in _ (by omega)
      clear q hb hb1 hm
      go_wp2_with fail
      go_roundw
      case rel => exact ⟨5, by omega, rfl, rfl, by trivial⟩
      case measure => simp [intOf]
    · have q := N6.out
      have hb := HB.out 5 (by omega)
      have hb1 := HB.out 6 (by omega)
      have hm := HM.out x.m5 (by simp [Idn.mac])
      have w1 : IntKind.u64.wrap (N 5 * 256) = N 5 * 256 := IntWalk.u64_in _ (by omega)
      have w2 : IntKind.u64.wrap x.m5 = x.m5 := IntWalk.u64_in _ (by omega)
      have w3 : IntKind.u64.wrap (N 5 * 256 + x.m5) = N 6 := by rw [← q]; exact IntWalk.u64_in _ (by omega)
      clear q hb hb1 hm
      go_wp2_with fail
      go_roundw
      case rel => exact ⟨6, by omega, rfl, rfl, by trivial⟩
      case measure => simp [intOf]
    · go_wp2_with fail
      go_ret
      exact ⟨rfl, (Step.refl None w).alloc _⟩

set_option maxHeartbeats 2000000 in
theorem rmac_compare (x y : Idn) (w : World) (hx : Small x.mac) (hy : Small y.mac) :
    Calls Try.prog 37 #[.agg (macV x), .agg (macV y)] w fun e w' => e = .returned (.int .i64 (lex x.mac y.mac)) ∧ Step None w w' := by
  obtain ⟨p1, p2⟩ := two_new w (macV x) (macV y) 23 23
  have st := ((Step.refl None w).alloc (.cells (macV x) 23)).alloc (.cells (macV y) 23)
  have hl : lex x.mac y.mac = cmpI (numL x.mac 0) (numL y.mac 0) := by
    rw [numL_lex (by rfl) hx hy, cmpI_self, if_pos rfl]
  rw [hl]
  clear hl
  have X := Lib.hid (rnumber_mac x · hx)
  have Y := Lib.hid (rnumber_mac y · hy)
  have P2 := Lib.hid p2
  have ST := Lib.hid st
  clear st p1 p2 hx hy
  generalize numL x.mac 0 = n at *
  generalize numL y.mac 0 = m at *
  unfold macV at *
  go_enter Try.func37, Try.ntmps37
  go_wp2_with fail
  refine (X.out _).mono ?_
  rintro e w2 ⟨rfl, s2⟩
  have c := blk_cell (s2.blk P2.out (fun s => s.elim))
  have c0 := c 0
  have c1 := c 1
  have c2 := c 2
  have c3 := c 3
  have c4 := c 4
  have c5 := c 5
  simp only [List.getElem?_toArray, List.getElem?_cons_zero, List.getElem?_cons_succ] at c0 c1 c2 c3 c4 c5
  have S2 := Lib.hid (ST.out.then_ s2)
  clear s2 c P2 ST
  go_wp2_with fail
  refine (Y.out _).mono ?_
  rintro e w3 ⟨rfl, s3⟩
  have S3 := Lib.hid (S2.out.then_ s3)
  clear s3 S2
  by_cases h1 : n < m
  · have d1 : decide (n < m) = true := by simpa using h1
    have e1 : cmpI n m = -1 := cmpI_lt.2 h1
    go_wp2
    go_ret
    exact ⟨by rw [e1]; rfl, S3.out⟩
  · have d1 : decide (n < m) = false := by simpa using h1
    by_cases h2 : m < n
    · have d2 : decide (m < n) = true := by simpa using h2
      have e1 : cmpI n m = 1 := cmpI_gt.2 h2
      go_wp2
      go_ret
      exact ⟨by rw [e1]; rfl, S3.out⟩
    · have d2 : decide (m < n) = false := by simpa using h2
      have e1 : cmpI n m = 0 := cmpI_zero.2 (by omega)
      go_wp2
      go_ret
      exact ⟨by rw [e1]; rfl, S3.out⟩

set_option maxHeartbeats 2000000 in
theorem rid_compare (x y : Idn) (w : World) (hx : Small x.mac) (hy : Small y.mac) :
    Calls Try.prog 23 #[.agg x.cells, .agg y.cells] w fun e w' => e = .returned (.int .i64 (lex x.flat y.flat)) ∧ Step None w w' := by
  have ST := Lib.hid (((Step.refl None w).alloc (.cells x.cells 25)).alloc (.cells y.cells 25))
  have H := Lib.hid (rmac_compare x y · hx hy)
  have hl : lex x.flat y.flat = if cmpI x.p y.p = 0 then lex x.mac y.mac else cmpI x.p y.p := rfl
  rw [hl]
  clear hl hx hy
  unfold macV at *
  unfold Idn.cells at *
  go_enter Try.func23, Try.ntmps23
  by_cases h1 : x.p < y.p
  · have d1 : decide (x.p < y.p) = true := by simpa using h1
    have e1 : cmpI x.p y.p = -1 := cmpI_lt.2 h1
    rw [e1]
    go_wp2
    go_ret
    exact ⟨rfl, ST.out⟩
  · have d1 : decide (x.p < y.p) = false := by simpa using h1
    by_cases h2 : y.p < x.p
    · have d2 : decide (y.p < x.p) = true := by simpa using h2
      have e1 : cmpI x.p y.p = 1 := cmpI_gt.2 h2
      rw [e1]
      go_wp2
      go_ret
      exact ⟨rfl, ST.out⟩
    · have d2 : decide (y.p < x.p) = false := by simpa using h2
      have e1 : cmpI x.p y.p = 0 := cmpI_zero.2 (by omega)
      rw [e1]
      go_wp2_with fail
      refine (H.out _).mono ?_
      rintro e w2 ⟨rfl, s2⟩
      have S2 := Lib.hid (ST.out.then_ s2)
      clear s2
      go_wp2_with fail
      go_ret
      exact ⟨rfl, S2.out⟩

end Go.Proofs.Ytehlaomippbehaa
