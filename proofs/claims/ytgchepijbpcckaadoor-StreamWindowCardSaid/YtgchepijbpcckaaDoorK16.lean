/- The document's Same. -/
import Derived.Test.YtgchepijbpcckaaDoorK13
import Derived.Test.YtgchepijbpcckaaDoorTxt
namespace Go.Proofs.YtgchepijbpcckaaDoor
open Go.RowKit Go.Gm

def macEq (n m : Note) : Bool := n.m0 == m.m0 && n.m1 == m.m1 && n.m2 == m.m2 && n.m3 == m.m3 && n.m4 == m.m4 && n.m5 == m.m5
/-- Are two notes the same? -/
def sameN (n m : Note) : Bool := n.kind == m.kind && (n.vlan == m.vlan && (macEq n m && (n.port == m.port && (n.state == m.state && ((strOfNums n.body).toList == (strOfNums m.body).toList)))))
def sameP (ep sq ak : Int) (n : Note) (ep' sq' ak' : Int) (m : Note) : Bool := ep == ep' && (sq == sq' && (ak == ak' && sameN n m))

theorem text_body {w : World} {v : Value} {l : List Int} (h : Bytes w v l) : (convert 34 9 v).run Tryd.prog w = .ok (.string (strOfNums l)) w :=
  run_string Tryd.underlying34 Tryd.underlying5 (by kernel_rfl) h

set_option linter.unusedSimpArgs false in
set_option maxHeartbeats 4000000 in
theorem sameN_any (n m : Note) (bo bo' : Option Addr) (bc bc' : Nat) (w : World) (hb : Bytes w (.slice bo n.body.length bc) n.body) (hb' : Bytes w (.slice bo' m.body.length bc') m.body) :
    Calls Tryd.prog 23 #[.agg (n.cells (.slice bo n.body.length bc)), .agg (m.cells (.slice bo' m.body.length bc'))] w fun e w' => e = .returned (.bool (sameN n m)) ∧ Step None w w' := by
  have st := ((Step.refl None w).alloc (.cells (n.cells (.slice bo n.body.length bc)) 36)).alloc (.cells (m.cells (.slice bo' m.body.length bc')) 36)
  have t1 := text_body (hb.step st (fun _ _ s => s.elim))
  have t2 := text_body (hb'.step st (fun _ _ s => s.elim))
  have ST := Lib.hid st
  clear st hb hb'
  have hmac : ∀ W, (Op.equalIn 10000 33 (.agg #[.int .u8 n.m0, .int .u8 n.m1, .int .u8 n.m2, .int .u8 n.m3, .int .u8 n.m4, .int .u8 n.m5]) (.agg #[.int .u8 m.m0, .int .u8 m.m1, .int .u8 m.m2, .int .u8 m.m3, .int .u8 m.m4, .int .u8 m.m5])).run Tryd.prog W = .ok (macEq n m) W := fun W =>
    run_equalIn_six W 9998 33 5 Tryd.underlying33 Tryd.underlying5 (fun w => by kernel_rfl) n.m0 n.m1 n.m2 n.m3 n.m4 n.m5 m.m0 m.m1 m.m2 m.m3 m.m4 m.m5
  unfold Note.cells at *
  unfold sameN
  go_enter Tryd.func23, Tryd.ntmps23
  cases h1 : (n.kind == m.kind)
  · go_wp2_with fail
    go_ret
    exact ⟨by simp, ST.out⟩
  cases h2 : (n.vlan == m.vlan)
  · go_wp2_with fail
    go_ret
    exact ⟨by simp, ST.out⟩
  cases h3 : macEq n m
  · go_wp2_with fail
    go_ret
    exact ⟨by simp [h3], ST.out⟩
  cases h4 : (n.port == m.port)
  · go_wp2_with fail
    go_ret
    exact ⟨by simp, ST.out⟩
  cases h5 : (n.state == m.state)
  · go_wp2_with fail
    go_ret
    exact ⟨by simp, ST.out⟩
  go_wp2_with fail
  go_ret
  exact ⟨by simp, ST.out⟩

set_option linter.unusedSimpArgs false in
set_option maxHeartbeats 4000000 in
theorem sameP_any (ep sq ak ep' sq' ak' : Int) (n m : Note) (bo bo' : Option Addr) (bc bc' : Nat) (w : World) (hb : Bytes w (.slice bo n.body.length bc) n.body) (hb' : Bytes w (.slice bo' m.body.length bc') m.body) :
    Calls Tryd.prog 30 #[.agg (n.packet ep sq ak (.slice bo n.body.length bc)), .agg (m.packet ep' sq' ak' (.slice bo' m.body.length bc'))] w fun e w' => e = .returned (.bool (sameP ep sq ak n ep' sq' ak' m)) ∧ Step None w w' := by
  have st := ((Step.refl None w).alloc (.cells (n.packet ep sq ak (.slice bo n.body.length bc)) 38)).alloc (.cells (m.packet ep' sq' ak' (.slice bo' m.body.length bc')) 38)
  have HB := Lib.hid (hb.step st (fun _ _ s => s.elim))
  have HB' := Lib.hid (hb'.step st (fun _ _ s => s.elim))
  have p1 : ((w.alloc (.cells (n.packet ep sq ak (.slice bo n.body.length bc)) 38)).alloc (.cells (m.packet ep' sq' ak' (.slice bo' m.body.length bc')) 38)).heap[w.heap.size]? = some (.cells (n.packet ep sq ak (.slice bo n.body.length bc)) 38 (0, 0)) :=
    (Below.heap_alloc _ _ _ (by simp)).trans (heap_alloc_new _ _)
  have p2 : ((w.alloc (.cells (n.packet ep sq ak (.slice bo n.body.length bc)) 38)).alloc (.cells (m.packet ep' sq' ak' (.slice bo' m.body.length bc')) 38)).heap[w.heap.size + 1]? = some (.cells (m.packet ep' sq' ak' (.slice bo' m.body.length bc')) 38 (0, 0)) := by
    have := heap_alloc_new (w.alloc (.cells (n.packet ep sq ak (.slice bo n.body.length bc)) 38)) (.cells (m.packet ep' sq' ak' (.slice bo' m.body.length bc')) 38)
    simpa using this
  have P1 := Lib.hid p1
  have P2 := Lib.hid p2
  have ST := Lib.hid st
  clear st hb hb' p1 p2
  unfold Note.packet at *
  unfold sameP
  go_enter Tryd.func30, Tryd.ntmps30
  go_wp2_with fail
  refine (sameN_any n m bo bo' bc bc' _ HB.out HB'.out).mono ?_
  rintro e w2 ⟨rfl, s2⟩
  have c0 := blk_cell (s2.blk P1.out (fun s => s.elim)) 0
  have c1 := blk_cell (s2.blk P1.out (fun s => s.elim)) 1
  have c2 := blk_cell (s2.blk P1.out (fun s => s.elim)) 2
  have d0 := blk_cell (s2.blk P2.out (fun s => s.elim)) 0
  have d1 := blk_cell (s2.blk P2.out (fun s => s.elim)) 1
  have d2 := blk_cell (s2.blk P2.out (fun s => s.elim)) 2
  simp only [List.getElem?_toArray, List.getElem?_cons_zero, List.getElem?_cons_succ] at c0 c1 c2 d0 d1 d2
  have S2 := Lib.hid (ST.out.then_ s2)
  clear s2 ST P1 P2
  cases h1 : (ep == ep')
  · go_wp2_with fail
    go_ret
    exact ⟨by simp [h1], S2.out⟩
  cases h2 : (sq == sq')
  · go_wp2_with fail
    go_ret
    exact ⟨by simp [h2], S2.out⟩
  cases h3 : (ak == ak')
  · go_wp2_with fail
    go_ret
    exact ⟨by simp [h3], S2.out⟩
  go_wp2_with fail
  go_ret
  exact ⟨by simp [h1, h2, h3], S2.out⟩

/-! ### Plainly -/

theorem okP_parts {ep sq ak : Int} {n : Note} (h : okP ep sq ak n = true) : right n = true ∧ (0 ≤ ep ∧ ep ≤ 1073741824) ∧ (0 ≤ sq ∧ sq ≤ 1073741824) ∧ (0 ≤ ak ∧ ak ≤ 1073741824) := by
  simp only [okP, num, isIn, Bool.and_eq_true, decide_eq_true_eq] at h
  exact ⟨h.1.1.1, h.1.1.2, h.1.2, h.2⟩

/-- What a note that may be has not is zero. -/
theorem right_zero (n : Note) (k : Nat) (hk : n.kind = k) (h : right n = true) : (hasB k 1 = false → n.vlan = 0) ∧ (hasB k 2 = false → n.m0 = 0 ∧ n.m1 = 0 ∧ n.m2 = 0 ∧ n.m3 = 0 ∧ n.m4 = 0 ∧ n.m5 = 0) ∧ (hasB k 4 = false → n.port = 0) ∧ (hasB k 8 = false → n.state = 0) ∧ (hasB k 16 = false → n.body = []) := by
  have hk' : n.kind.toNat = k := by omega
  simp only [right, rightAt, hk', Bool.and_eq_true] at h
  obtain ⟨-, ⟨⟨⟨h0, h1⟩, h2⟩, h3⟩, h4⟩ := h
  refine ⟨fun hv => ?_, fun hv => ?_, fun hv => ?_, fun hv => ?_, fun hv => ?_⟩
  · rw [fit_not hv] at h1; simpa using h1
  · simp [hv, Note.noMac] at h0; simp [h0]
  · rw [fit_not hv] at h2; simpa using h2
  · rw [fit_not hv] at h3; simpa using h3
  · rw [fit_not hv] at h4; simp at h4; exact h4

theorem right_kind {n : Note} (h : right n = true) : ∃ k : Nat, n.kind = k ∧ k < 9 ∧ n.kind.toNat = k := by
  simp only [right, isIn, Bool.and_eq_true, decide_eq_true_eq] at h
  exact ⟨n.kind.toNat, by omega, by omega, rfl⟩

theorem enc_inj {ep sq ak ep' sq' ak' : Int} {n m : Note} (hn : okP ep sq ak n = true) (hm : okP ep' sq' ak' m = true) (h : enc ep sq ak n n.kind.toNat = enc ep' sq' ak' m m.kind.toNat) : ep = ep' ∧ sq = sq' ∧ ak = ak' ∧ n = m := by
  obtain ⟨rn, b1, b2, b3⟩ := okP_parts hn
  obtain ⟨rm, b4, b5, b6⟩ := okP_parts hm
  obtain ⟨k, hk, hk9, hkn⟩ := right_kind rn
  obtain ⟨j, hj, hj9, hjm⟩ := right_kind rm
  have hkj : k = j := by
    have := congrArg (fun l : List Int => l[12]?) h
    simp [enc, four, hkn, hjm] at this
    omega
  subst hkj
  rw [hkn, hjm] at h
  obtain ⟨v1, v2, v3, v4⟩ := right_range n k hk rn
  obtain ⟨u1, u2, u3, u4⟩ := right_range m k hj rm
  obtain ⟨z1, z2, z3, z4, z5⟩ := right_zero n k hk rn
  obtain ⟨y1, y2, y3, y4, y5⟩ := right_zero m k hj rm
  clear hn hm rn rm
  cases n with
  | mk kn vln a0 a1 a2 a3 a4 a5 pon stn bn =>
  cases m with
  | mk km vlm c0 c1 c2 c3 c4 c5 pom stm bm =>
  dsimp only at *
  rcases has_pats k hk9 with ⟨hv, hm, hp, hq, hb⟩ | ⟨hv, hm, hp, hq, hb⟩ | ⟨hv, hm, hp, hq, hb⟩ | ⟨hv, hm, hp, hq, hb⟩ | ⟨hv, hm, hp, hq, hb⟩ | ⟨hv, hm, hp, hq, hb⟩ | ⟨hv, hm, hp, hq, hb⟩
  all_goals
    simp only [enc, four, two, Note.mac, hv, hm, hp, hq, hb, if_true, if_false, Bool.false_eq_true, List.cons_append, List.nil_append, List.append_nil, List.cons.injEq, and_true] at h
    simp only [hv, hm, hp, hq, hb, forall_const, Bool.true_eq_false, false_implies] at z1 z2 z3 z4 z5 y1 y2 y3 y4 y5
    simp only [Note.mk.injEq]
  all_goals refine ⟨by omega, by omega, by omega, by omega, by omega, by omega, by omega, by omega, by omega, by omega, by omega, by omega, by omega, ?_⟩
  all_goals first | rw [z5, y5] | exact h.2.2.2.2.2.2.2.2.2.2.2.2.2.2.2.2.2 | exact h.2.2.2.2.2.2.2.2.2.2.2.2.2.2.2.2.2.2.2.2

theorem enc_len (ep sq ak : Int) (n : Note) (k : Nat) : 13 ≤ (enc ep sq ak n k).length ∧ (k = 0 → (enc ep sq ak n k).length = 13) := by
  refine ⟨by simp [enc, four], fun h => ?_⟩
  subst h
  have h1 : hasB 0 1 = false := by decide
  have h2 : hasB 0 2 = false := by decide
  have h4 : hasB 0 4 = false := by decide
  have h8 : hasB 0 8 = false := by decide
  have h16 : hasB 0 16 = false := by decide
  simp [enc, four, h1, h2, h4, h8, h16]

theorem small_app {a b : List Int} (ha : Small a) (hb : Small b) : Small (a ++ b) := fun x hx => by
  rcases List.mem_append.1 hx with h | h
  · exact ha x h
  · exact hb x h
theorem small_ite {c : Bool} {a : List Int} (ha : Small a) : Small (if c then a else []) := by
  cases c
  · intro x hx; simp at hx
  · exact ha
theorem small_four (n : Int) : Small (four n) := fun x hx => by
  simp only [four, List.mem_cons, List.not_mem_nil, or_false] at hx
  omega
theorem small_two (n : Int) : Small (two n) := fun x hx => by
  simp only [two, List.mem_cons, List.not_mem_nil, or_false] at hx
  omega
theorem enc_small {ep sq ak : Int} {n : Note} {k : Nat} (hk : k < 9) (hm : Small n.mac) (hb : Small n.body) : Small (enc ep sq ak n k) := by
  unfold enc
  refine small_app (small_app (small_app (small_app (small_app (small_app (small_app (small_app (small_four _) (small_four _)) (small_four _)) ?_) (small_ite (small_two _))) (small_ite hm)) (small_ite (small_two _))) (small_ite ?_)) (small_ite (small_app (small_two _) hb))
  · intro x hx; simp at hx; omega
  · intro x hx; simp at hx; omega
theorem encB_small {ep sq ak : Int} {n : Note} (hm : Small n.mac) (hb : Small n.body) : Small (encB ep sq ak n) := by
  unfold encB
  split
  · rename_i h
    obtain ⟨k, -, h9, hk⟩ := right_kind (okP_parts h).1
    exact enc_small (by omega) hm hb
  · intro x hx; simp at hx

theorem sameN_refl (n : Note) : sameN n n = true := by simp [sameN, macEq]
theorem sameN_eq {n m : Note} (hn : Small n.body) (hm : Small m.body) (h : sameN n m = true) : n = m := by
  simp only [sameN, macEq, text_beq hn hm, Bool.and_eq_true, beq_iff_eq, decide_eq_true_eq] at h
  cases n; cases m
  simp only [Note.mk.injEq]
  dsimp only at h
  exact ⟨h.1, h.2.1, h.2.2.1.1.1.1.1.1, h.2.2.1.1.1.1.1.2, h.2.2.1.1.1.1.2, h.2.2.1.1.1.2, h.2.2.1.1.2, h.2.2.1.2, h.2.2.2.1, h.2.2.2.2.1, h.2.2.2.2.2⟩

/-- ControlOnce, plainly. -/
theorem once_law {ep sq ak ep' sq' ak' : Int} {n m : Note} (hn : okP ep sq ak n = true) (hm : okP ep' sq' ak' m = true) (s1 : Small n.body) (s2 : Small m.body) (s3 : Small n.mac) (s4 : Small m.mac) :
    sameP ep sq ak n ep' sq' ak' m = ((strOfNums (encB ep sq ak n)).toList == (strOfNums (encB ep' sq' ak' m)).toList) := by
  rw [text_beq (encB_small s3 s1) (encB_small s4 s2)]
  by_cases h : encB ep sq ak n = encB ep' sq' ak' m
  · have h' := h
    simp only [encB, hn, hm, if_true] at h'
    obtain ⟨rfl, rfl, rfl, rfl⟩ := enc_inj hn hm h'
    simp [sameP, sameN_refl]
  · simp only [h, decide_false]
    cases hs : sameP ep sq ak n ep' sq' ak' m
    · rfl
    · exfalso
      simp only [sameP, Bool.and_eq_true, beq_iff_eq] at hs
      obtain ⟨rfl, rfl, rfl, h4⟩ := hs
      exact h (by rw [sameN_eq s1 s2 h4])

end Go.Proofs.YtgchepijbpcckaaDoor
