/- RolesAlone, walked. -/
import Derived.Test.YtehlaomippbehaaRB
namespace Go.Proofs.Ytehlaomippbehaa
open Go.RowKit Go.Gm

/-- What a port has heard counts no more. -/
def deafH (x : Hrd) : Hrd := { x with has := x.has && !x.up }
theorem deaf_cells (x : Hrd) : x.cells.setIfInBounds 3 (.bool (x.has && !x.up)) = (deafH x).cells := rfl
theorem deaf_take {l : List Hrd} {k : Nat} {x : Hrd} (hx : l[k]? = some x) : (l.map deafH).take (k + 1) = (l.map deafH).take k ++ [deafH x] := by
  rw [List.take_add_one, List.getElem?_map, hx]
  rfl

set_option maxRecDepth 100000 in
set_option maxHeartbeats 8000000 in
theorem rolesAlone_walk (v0 v1 : Value) (w : World) (h0 : Arg w (.cat 1 (.int .i64) (.cat 6 (.arr 6 1 (.int .u8)) .nil)) v0) (h1 : Arg w (.slice 21 80 (.cat 1 (.int .i64) (.cat 1 (.int .i64) (.cat 1 .bool (.cat 1 .bool (.cat 17 (.cat 7 (.cat 1 (.int .i64) (.cat 6 (.arr 6 1 (.int .u8)) .nil)) (.cat 1 (.int .i64) (.cat 7 (.cat 1 (.int .i64) (.cat 6 (.arr 6 1 (.int .u8)) .nil)) (.cat 1 (.int .i64) (.cat 1 (.int .i64) .nil))))) .nil)))))) v1) :
    Calls Try.prog 13 #[v0, v1] w fun e w' => e = .returned (.bool true) ∧ Below w.heap.size w w' := by
  obtain ⟨me, rfl, hme⟩ := arg_idn h0
  obtain ⟨ao, cap, l, rfl, hh, hp, hl⟩ := arg_hears h1
  clear h0 h1
  have b1 := heap_alloc_new w (.cells me.cells 25)
  have s1 := (Step.refl None w).alloc (.cells me.cells 25)
  have HH0 := hh.still s1
  obtain ⟨W, hW⟩ : ∃ W, w.alloc (.cells me.cells 25) = W := ⟨_, rfl⟩
  rw [hW] at b1 s1 HH0
  have HE := Lib.hid hW
  have B1 := Lib.hid b1
  have S1 := Lib.hid s1
  have HH := Lib.hid HH0
  have F := Lib.hid (And.intro hme hp)
  have OLD : Hid (∀ b off, l ≠ [] → ao = some ⟨b, off, none⟩ → b < w.heap.size) := Lib.hid fun b off hne e => hears_old hh hne e
  clear hW b1 s1 HH0 hh hme hp
  go_enter Try.func13, Try.ntmps13
  go_wp2_with (first
    | rw [HE.out])
  refine (rawake_any _).mono ?_
  rintro e w2 ⟨rfl, s2⟩
  have S2 := Lib.hid (S1.out.then_ s2)
  have B2 := Lib.hid (s2.blk B1.out (fun s => s.elim))
  have HH2 := Lib.hid (HH.out.still s2)
  clear s2 S1 B1 HH HE
  by_cases h64 : l.length ≤ 100
  rotate_left
  · have d1 : decide ((100 : Int) < (l.length : Int)) = true := by simp; omega
    have d2 : decide (100 < l.length) = true := by simp; omega
    clear h64
    go_wp2_with fail
    go_ret
    exact ⟨rfl, S2.out.toBelow⟩
  have d1 : decide ((100 : Int) < (l.length : Int)) = false := by simp; omega
  have d2 : decide (100 < l.length) = false := by simp; omega
  have H64 := Lib.hid h64
  clear h64 hl
  go_wp2_with fail
  clear d1 d2
  go_loopw [6, 7, 8] (fun v i _ wr => ∃ (k : Nat) (W : World), W = wr ∧ k ≤ l.length ∧ i = .int .i64 k ∧ Hid (Lst w wr v ((l.map deafH).take k)) ∧ Hid (Hears wr ao l) ∧ Hid (wr.heap[w.heap.size]? = some (.cells me.cells 25 (0, 0)))) (fun _ i _ _ => l.length - (intOf i).toNat)
  case atStart => exact ⟨0, _, rfl, Nat.zero_le _, rfl, Lib.hid (by rw [List.take_zero]; exact Lst.nil w w2 S2.out), HH2, B2⟩
  case round =>
    obtain ⟨k, wr, rfl, hk, rfl, ls, hh, bm⟩ := hrel
    obtain ⟨D, hD⟩ : ∃ D, (l.map deafH).take k = D := ⟨_, rfl⟩
    rw [hD] at ls
    have HD := Lib.hid hD
    clear hD
    obtain ⟨ao1, cap1, ev, hh1⟩ := ls.out.form
    subst ev
    by_cases hlt : k < l.length
    · have e1 : decide ((k : Int) < (l.length : Int)) = true := by simpa using hlt
      have k0 : (0 : Int) ≤ (k : Int) := by omega
      have k1 : (k : Int) < (l.length : Int) := by omega
      have hw1 : IntKind.i64.wrap ((k : Int) + 1) = ((k + 1 : Nat) : Int) := by rw [IntWalk.i64_in _ (by have := H64.out; omega)]; omega
      obtain ⟨x, hx⟩ : ∃ x, l[k]? = some x := ⟨l[k], List.getElem?_eq_getElem hlt⟩
      obtain ⟨fx, b, off, e3, hc⟩ := hh.out k x hx
      subst e3
      have LH := Lib.hid (load_heard hc)
      have HT := Lib.hid (deaf_take hx)
      rw [HD.out] at HT
      have FX := Lib.hid fx
      have HLT := Lib.hid hlt
      -- the variable
      have hn := laid_new wr zeroH x.cells 52
      unfold zeroH at hn
      obtain ⟨W1, hW1⟩ : ∃ W1, (wr.alloc (.cells #[.int .i64 0, .int .i64 0, .bool false, .bool false, .int .i64 0, .int .u8 0, .int .u8 0, .int .u8 0, .int .u8 0, .int .u8 0, .int .u8 0, .int .i64 0, .int .i64 0, .int .u8 0, .int .u8 0, .int .u8 0, .int .u8 0, .int .u8 0, .int .u8 0, .int .i64 0, .int .i64 0] 52)).setRow wr.heap.size x.cells = W1 := ⟨_, rfl⟩
      rw [hW1] at hn
      have HE1 := Lib.hid hW1
      have c2 := blk_cell hn.1 2
      have c3 := blk_cell hn.1 3
      have f3 := blk_frozen hn.1 3
      simp only [Hrd.cells, List.getElem?_toArray, List.getElem?_cons_zero, List.getElem?_cons_succ] at c2 c3
      obtain ⟨z, hz⟩ : ∃ z, (x.has && !x.up) = z := ⟨_, rfl⟩
      have b2 := blk_set hn.1 3 (.bool z)
      rw [← hz, deaf_cells] at b2
      have s2 := hn.2.setCell (p := ⟨wr.heap.size, 3, none⟩) (fun hh => absurd hh (Nat.lt_irrefl _)) (.bool z)
      rw [hz] at b2
      obtain ⟨W2, hW2⟩ : ∃ W2, W1.setCell ⟨wr.heap.size, 3, none⟩ (.bool z) = W2 := ⟨_, rfl⟩
      rw [hW2] at b2 s2
      have HE2 := Lib.hid hW2
      have lb := load_heard (x := deafH x) (w := W2) (b := wr.heap.size) (o := 0) (fun j u hu => by rw [Nat.zero_add, blk_cell b2]; exact hu)
      unfold Hrd.cells at lb
      have LB := Lib.hid lb
      -- the slice that is appended
      have sa := (Step.refl None W2).alloc (.cells (deafH x).cells 52)
      have ls5 := Lib.hid ((ls.out.still s2).still sa)
      have hh5 := Lib.hid ((hh.out.still s2).still sa)
      have bm5 := Lib.hid (sa.blk (s2.blk bm.out (fun s => s.elim)) (fun s => s.elim))
      have ba := Lib.hid (heap_alloc_new W2 (.cells (deafH x).cells 52))
      obtain ⟨WA, hWA⟩ : ∃ WA, W2.alloc (.cells (deafH x).cells 52) = WA := ⟨_, rfl⟩
      rw [hWA] at ls5 hh5 bm5 ba
      unfold Hrd.cells at hWA
      have HA := Lib.hid hWA
      have hl2 : D.length = k := by rw [← HD.out]; simp; omega
      have HL2 := Lib.hid hl2
      clear hc hx fx hl2 hWA sa hlt hk hh1 ls hh bm hn b2 s2 hW1 hW2 lb
      cases hhas : x.has
      · rw [hhas, Bool.false_and] at hz
        rw [hhas] at c3
        subst hz
        go_wp2_with (first
          | rw [HE1.out]
          | rw [HE2.out]
          | rw [HA.out]
          | (refine wpList_load_is 52 (.tmp 30) rfl rfl rfl LH.out ?_)
          | (refine wpList_load_is 52 (.tmp 8) rfl rfl rfl LB.out ?_)
          | (refine wpList_store_row rfl 52 (.tmp 8) (.tmp 31) rfl wr.heap.size x.cells rfl rfl 52 _ (heap_alloc_new wr _) (by kernel_rfl) rfl (by simp [Hrd.cells, Value.oneCell']) ?_)
          | (at_builtin; refine wpList_append_row (m := 1) T44 rfl (.tmp 40) (.tmp 42) rfl rfl ls5.out.row rfl (src_hrd ba.out) ?ha ?hb ?_))
        case ha => rw [HL2.out]; have := H64.out; have := HLT.out; simp [maxLen]; omega
        case hb => rw [HL2.out]; have := H64.out; have := HLT.out; simp; omega
        intro v6 W6 r6 s6 l6
        have ls6 := Lib.hid (Lst.more (x := deafH x) ls5.out FX.out (by simpa using r6) s6 l6)
        have bm6 := Lib.hid (ls5.out.blk s6 bm5.out (by decide))
        have hh6 := Lib.hid (hears_app hh5.out ls5.out s6 OLD.out)
        go_wp2_with fail
        go_roundw
        case rel => exact ⟨k + 1, _, rfl, by have := HLT.out; omega, rfl, by rw [HT.out]; exact ls6, hh6, bm6⟩
        case measure => have := HLT.out; simp [intOf]; omega
      · rw [hhas, Bool.true_and] at hz
        rw [hhas] at c3
        go_wp2_with (first
          | rw [HE1.out]
          | rw [HE2.out]
          | rw [HA.out]
          | (refine wpList_load_is 52 (.tmp 30) rfl rfl rfl LH.out ?_)
          | (refine wpList_load_is 52 (.tmp 8) rfl rfl rfl LB.out ?_)
          | (refine wpList_store_row rfl 52 (.tmp 8) (.tmp 31) rfl wr.heap.size x.cells rfl rfl 52 _ (heap_alloc_new wr _) (by kernel_rfl) rfl (by simp [Hrd.cells, Value.oneCell']) ?_)
          | (at_builtin; refine wpList_append_row (m := 1) T44 rfl (.tmp 40) (.tmp 42) rfl rfl ls5.out.row rfl (src_hrd ba.out) ?ha ?hb ?_))
        case ha => rw [HL2.out]; have := H64.out; have := HLT.out; simp [maxLen]; omega
        case hb => rw [HL2.out]; have := H64.out; have := HLT.out; simp; omega
        intro v6 W6 r6 s6 l6
        have ls6 := Lib.hid (Lst.more (x := deafH x) ls5.out FX.out (by simpa using r6) s6 l6)
        have bm6 := Lib.hid (ls5.out.blk s6 bm5.out (by decide))
        have hh6 := Lib.hid (hears_app hh5.out ls5.out s6 OLD.out)
        go_wp2_with fail
        go_roundw
        case rel => exact ⟨k + 1, _, rfl, by have := HLT.out; omega, rfl, by rw [HT.out]; exact ls6, hh6, bm6⟩
        case measure => have := HLT.out; simp [intOf]; omega
    · have e1 : decide ((k : Int) < (l.length : Int)) = false := by simpa using hlt
      obtain rfl : k = l.length := by omega
      have hDr : D = l.map deafH := by rw [← HD.out, List.take_of_length_le (by simp)]
      subst hDr
      have HLL : Hid ((l.map deafH).length = l.length) := Lib.hid (by simp)
      have HPP : Hid (∀ x ∈ l.map deafH, (Lit.int .i64 x.port).wf = true) := Lib.hid fun x hx => by
        obtain ⟨y, hy, rfl⟩ := List.mem_map.1 hx
        exact F.out.2 y hy
      have HDF : Hid (∀ x ∈ l.map deafH, x.up = true → x.has = false) := Lib.hid fun x hx hu => by
        obtain ⟨y, hy, rfl⟩ := List.mem_map.1 hx
        have hu' : y.up = true := hu
        show (y.has && !y.up) = false
        rw [hu']; simp
      have HGU : Hid (∀ (i : Nat) (x : Hrd), l[i]? = some x → ((l.map deafH).getD i default).up = x.up) := Lib.hid fun i x hx => by
        rw [List.getD_eq_getElem?_getD, List.getElem?_map, hx]
        rfl
      have lm := load_idn bm.out
      unfold Idn.cells at lm
      have LM := Lib.hid lm
      have ST := Lib.hid ls.out.st
      clear lm HD OLD
      have SEL := Lib.hid (select_any me ao1 cap1 (l.map deafH) wr F.out.1 HPP.out (by have := H64.out; have := HLL.out; omega) hh1)
      rw [HLL.out] at SEL
      go_wp2_with (first
        | (refine wpList_load_is 25 (.tmp 2) rfl rfl rfl LM.out ?_))
      refine SEL.out.mono ?_
      rintro e w3 ⟨s3, ao2, cap2, rfl, i2⟩
      have hn := laid_new w3 zeroV (bestOf me (l.map deafH)).cells 27
      unfold zeroV at hn
      obtain ⟨W4, hW4⟩ : ∃ W4, (w3.alloc (.cells #[.int .i64 0, .int .u8 0, .int .u8 0, .int .u8 0, .int .u8 0, .int .u8 0, .int .u8 0, .int .i64 0, .int .i64 0, .int .u8 0, .int .u8 0, .int .u8 0, .int .u8 0, .int .u8 0, .int .u8 0, .int .i64 0, .int .i64 0] 27)).setRow w3.heap.size (bestOf me (l.map deafH)).cells = W4 := ⟨_, rfl⟩
      rw [hW4] at hn
      have HE4 := Lib.hid hW4
      have N4 := Lib.hid hn.1
      have I4 := Lib.hid (i2.still hn.2)
      have hh4 := Lib.hid ((hh.out.still s3).still hn.2)
      have bm4 := Lib.hid (hn.2.blk (s3.blk bm.out (fun s => s.elim)) (fun s => s.elim))
      have ST4 := Lib.hid ((ST.out.then_ s3).then_ hn.2)
      have hr := fairOf_rng (l.map deafH)
      have HR := Lib.hid (fun hf i hi => alone_role (me := me) (l := l.map deafH) hf HDF.out (i := i) hi)
      have HBB := Lib.hid (fun hf => alone_best (me := me) (l := l.map deafH) hf HDF.out)
      have HXL := Lib.hid (rolesOf_len me (l.map deafH))
      clear hn hW4 i2 s3 hh bm LM SEL hh1 ls ST
      by_cases hf : fairOf (l.map deafH) = 0
      rotate_left
      · generalize rolesOf me (l.map deafH) = xs at *
        generalize fairOf (l.map deafH) = f at *
        generalize bestOf me (l.map deafH) = B at *
        rcases hr with hr | hr | hr
        · exact absurd hr hf
        · subst hr
          clear hf
          go_wp2_with (first
            | rw [HE4.out]
            | (refine wpList_store_row rfl 27 (.tmp 9) (.tmp 48) rfl w3.heap.size B.cells rfl rfl 27 _ (heap_alloc_new w3 _) (by kernel_rfl) rfl (by simp [Vec.cells, Value.oneCell']) ?_))
          go_ret
          exact ⟨rfl, ST4.out.toBelow⟩
        · subst hr
          clear hf
          go_wp2_with (first
            | rw [HE4.out]
            | (refine wpList_store_row rfl 27 (.tmp 9) (.tmp 48) rfl w3.heap.size B.cells rfl rfl 27 _ (heap_alloc_new w3 _) (by kernel_rfl) rfl (by simp [Vec.cells, Value.oneCell']) ?_))
          go_ret
          exact ⟨rfl, ST4.out.toBelow⟩
      have hB := HBB.out hf
      have HR2 : Hid (∀ (i : Nat) (x : Hrd), l[i]? = some x → (rolesOf me (l.map deafH))[i]? = some (if x.up = true then 2 else 0)) := Lib.hid fun i x hx => by
        rw [HR.out hf i (by have := (List.getElem?_eq_some_iff.1 hx).1; simpa using this), HGU.out i x hx]
      have hxl : (rolesOf me (l.map deafH)).length = l.length := by rw [HXL.out, if_pos hf, HLL.out]
      rw [hf]
      rw [hB] at HE4 N4
      rw [hB, hxl]
      clear hr hf hB HR HBB HXL HDF HGU HPP HLL
      generalize rolesOf me (l.map deafH) = xs at *
      have HXL := Lib.hid hxl
      clear hxl
      go_wp2_with (first
        | rw [HE4.out]
        | (refine wpList_store_row rfl 27 (.tmp 9) (.tmp 48) rfl w3.heap.size (meV me).cells rfl rfl 27 _ (heap_alloc_new w3 _) (by kernel_rfl) rfl (by simp [Vec.cells, Value.oneCell']) ?_))
      generalize w3.heap.size = N at *
      clear HE4
      go_loopw [12] (fun i wr => ∃ (k : Nat) (W : World), W = wr ∧ k ≤ l.length ∧ i = .int .i64 k ∧ wr = W4) (fun i _ => l.length - (intOf i).toNat)
      case atStart => exact ⟨0, _, rfl, Nat.zero_le _, rfl, rfl⟩
      case round =>
        obtain ⟨k, wq, rfl, hk, rfl, rfl⟩ := hrel
        by_cases hlt : k < l.length
        · have e1 : decide ((k : Int) < (l.length : Int)) = true := by simpa using hlt
          have k0 : (0 : Int) ≤ (k : Int) := by omega
          have k1 : (k : Int) < (l.length : Int) := by omega
          have hw1 : IntKind.i64.wrap ((k : Int) + 1) = ((k + 1 : Nat) : Int) := by rw [IntWalk.i64_in _ (by have := H64.out; omega)]; omega
          obtain ⟨x, hx⟩ : ∃ x, l[k]? = some x := ⟨l[k], List.getElem?_eq_getElem hlt⟩
          have hr := HR2.out k x hx
          obtain ⟨q, qo, e2, cq⟩ := I4.out.cell hr
          obtain ⟨-, b, off, e3, hc⟩ := hh4.out k x hx
          subst e2 e3
          obtain ⟨p0, p1, p2, p3⟩ := hcell hc
          have HLT := Lib.hid hlt
          clear hc hx hr hlt p0 p1 p3
          cases hu : x.up
          · rw [hu] at p2 cq
            simp only [Bool.false_eq_true, if_false] at cq
            go_wp2_with fail
            go_roundw
            case rel => exact ⟨k + 1, _, rfl, by have := HLT.out; omega, rfl, by first | trivial | rfl⟩
            case measure => have := HLT.out; simp [intOf]; omega
          · rw [hu] at p2 cq
            simp only [if_true] at cq
            go_wp2_with fail
            go_roundw
            case rel => exact ⟨k + 1, _, rfl, by have := HLT.out; omega, rfl, by first | trivial | rfl⟩
            case measure => have := HLT.out; simp [intOf]; omega
        · have e1 : decide ((k : Int) < (l.length : Int)) = false := by simpa using hlt
          obtain rfl : k = l.length := by omega
          have he : ∀ w, (Op.equalIn 10000 27 (.agg (meV me).cells) (.agg #[.int .i64 me.p, .int .u8 me.m0, .int .u8 me.m1, .int .u8 me.m2, .int .u8 me.m3, .int .u8 me.m4, .int .u8 me.m5, .int .i64 0, .int .i64 me.p, .int .u8 me.m0, .int .u8 me.m1, .int .u8 me.m2, .int .u8 me.m3, .int .u8 me.m4, .int .u8 me.m5, .int .i64 0, .int .i64 0])).run Try.prog w = .ok true w := fun w => by
            have := eq_vec (meV me) (meV me) w
            simp only [BEq.rfl] at this
            exact this
          have lm := load_idn bm4.out
          unfold Idn.cells at lm
          have LM := Lib.hid lm
          clear lm
          go_wp2_with (first
            | (refine wpList_load_is 27 (.tmp 9) rfl rfl rfl (load_block N4.out rfl) ?_)
            | (refine wpList_load_is 25 (.tmp 2) rfl rfl rfl LM.out ?_))
          go_ret
          exact ⟨rfl, ST4.out.toBelow⟩
end Go.Proofs.Ytehlaomippbehaa
