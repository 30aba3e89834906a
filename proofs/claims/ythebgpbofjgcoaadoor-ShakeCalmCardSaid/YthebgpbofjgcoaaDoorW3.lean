/- What is told of members: the code's loop. -/
import Derived.Test.YthebgpbofjgcoaaDoorW2
namespace Go.Proofs.YthebgpbofjgcoaaDoor
open Go.RowKit Go.Gm

/-- Behind some of the numbers. -/
structure MS (w wr : World) (g b : Nat) (s : Shk) (l : List Int) (u : Value) : Prop where
  rep : Rep 64 72 wr g b (Shk.membs s l).1
  out : Tells wr w.heap.size u (Shk.membs s l).2
  st : Step (· = b) w wr
theorem take_succ {l : List Int} {i : Nat} {n : Int} (h : l[i]? = some n) : l.take (i + 1) = l.take i ++ [n] := by
  rw [List.take_add_one, h]
  rfl
theorem MS.more {w X w' : World} {g b : Nat} {s s1 : Shk} {l' : List Int} {u v' : Value} {tl : List Tell} {t : Tell} (rX : Rep 64 72 X g b s1) (oX : Tells X w.heap.size u tl) (sX : Step (· = b) w X) (hg : g < w.heap.size) (hb : b < w.heap.size)
    (hr : Row w' 35 11 v' (tl.length + 1) (flatT tl ++ (tellC t).toList)) (hs : Step (Leads u) X w') (hl : ∀ k, Leads v' k → Leads u k ∨ X.heap.size ≤ k) (e : Shk.membs s l' = (s1, tl ++ [t])) : MS w w' g b s l' v' := by
  refine ⟨?_, ?_, sX.trans hs fun k hk e => by have := oX.new k e; omega⟩
  · rw [e]
    exact rX.step hs (fun e => by have := oX.new _ e; omega) (fun e => by have := oX.new _ e; omega)
  · rw [e]
    exact oX.more sX.size hr hl
set_option maxHeartbeats 4000000 in
theorem members_any (g b : Nat) (s : Shk) (v : Value) (ns : List Int) (w : World) (m : Int) (ho : s.Ok m) (hm : 0 ≤ m) (hm2 : m ≤ 1000000) (hlen : ns.length ≤ 1000) (hn : ∀ n ∈ ns, s.has n = true) (hv : Row w 3 1 v ns.length (ns.map (.int .i64))) (h : Rep 64 72 w g b s) :
    Calls Tryd.prog 28 #[.pointer (some ⟨g, 0, none⟩), v] w fun e w' => ∃ u, e = .returned u ∧ Tells w' w.heap.size u (Shk.membs s ns).2 ∧ Rep 64 72 w' g b (Shk.membs s ns).1 ∧ Step (· = b) w w' := by
  obtain ⟨vo, vc, rfl, hvc, hvm⟩ := hv.form
  have hw0 : IntKind.i64.wrap 0 = 0 := by decide
  have HV := Lib.hid hv
  have HO := Lib.hid ho
  have HN := Lib.hid hn
  have RB := Lib.hid h.row
  have GG : Hid (b < w.heap.size ∧ g < w.heap.size) := Lib.hid ⟨blk_lt h.row, blk_lt h.st⟩
  have h0 : Hid (MS w w g b s [] (.slice none 0 0)) := Lib.hid ⟨h, Tells.nil _ _, Step.refl _ _⟩
  have hvi : ((ns.length : Nat) : Int) ≤ 9223372036854775807 := by omega
  clear hv ho hn h
  go_enter Tryd.func28, Tryd.ntmps28
  go_wp2_with fail
  go_loopw [5, 12] (fun u t wr => ∃ i : Nat, i ≤ ns.length ∧ t = .int .i64 i ∧ Hid (MS w wr g b s (ns.take i) u)) (fun _ t _ => ns.length - (intOf t).toNat)
  case atStart => exact ⟨0, by omega, rfl, by simpa using h0⟩
  case round =>
    obtain ⟨i, hi, rfl, hM⟩ := hrel
    rename_i u wr
    clear h0
    cases d1 : decide ((i : Int) < (ns.length : Int))
    · have hin : i = ns.length := by simp at d1; omega
      have d1' : decide (i < ns.length) = false := by simp; omega
      rw [hin, List.take_length] at hM
      clear hin
      obtain ⟨uo, uc, rfl, -, -⟩ := hM.out.out.row.form
      go_wp2_with fail
      go_ret
      exact ⟨_, rfl, hM.out.out, hM.out.rep, hM.out.st⟩
    have hlt : i < ns.length := by simp at d1; omega
    have d1' : decide (i < ns.length) = true := by simpa using hlt
    obtain ⟨n, hni⟩ : ∃ n, ns[i]? = some n := ⟨_, List.getElem?_eq_getElem hlt⟩
    have hn1 := HN.out n (List.mem_of_getElem? hni)
    obtain ⟨k, rfl, hk⟩ := Shk.has_nat hn1
    obtain ⟨b0, off, cap, hv2, -, -, hld, hcell, -⟩ := HV.out.cells (by omega)
    simp only [Value.slice.injEq] at hv2
    obtain ⟨rfl, -, rfl⟩ := hv2
    have nb : b0 ≠ b := by
      rintro rfl
      exact HV.out.ne RB.out (by decide) hld
    have q0 := hcell i (.int .i64 ((k : Int) + 1)) (by rw [List.getElem?_map, hni]; rfl)
    have q1 : Hid (∀ w', Step (· = b) w w' → w'.cell? ⟨b0, off + i, none⟩ = some (.int .i64 ((k : Int) + 1))) := Lib.hid fun w' h' => (h'.cell (p := ⟨b0, off + i, none⟩) (World.block_lt_of_cell? _ _ q0) nb).trans q0
    have q2 := q1.out _ hM.out.st
    have hlen1 : (Shk.membs s (ns.take i)).1.ls.length = s.ls.length := Shk.membs_len _ _
    have hok1 := Lib.hid (Shk.Ok.membs (ns.take i) HO.out hm)
    have hm1 : m + ((ns.take i).length : Int) ≤ 1001000 := by rw [List.length_take]; omega
    have e1 : Hid (Shk.membs s (ns.take (i + 1)) = (((Shk.membs s (ns.take i)).1.memb ((k : Int) + 1)).1, (Shk.membs s (ns.take i)).2 ++ [((Shk.membs s (ns.take i)).1.memb ((k : Int) + 1)).2])) := Lib.hid (by rw [take_succ hni, Shk.membs_app])
    have R0 := Lib.hid hM.out.rep
    have O0 := Lib.hid hM.out.out
    have S0 := Lib.hid hM.out.st
    have tlen : (Shk.membs s (ns.take i)).2.length = i := by rw [Shk.membs_count, List.length_take]; omega
    clear hM q0 hcell hld hn1 hni
    generalize (Shk.membs s (ns.take i)).1 = si at *
    generalize (Shk.membs s (ns.take i)).2 = tl at *
    obtain ⟨uo, uc, rfl, -, -⟩ := O0.out.row.form
    have ULT := Lib.hid (fun j (hj : Leads (.slice uo tl.length uc) j) => O0.out.row.lt hj)
    have TL := Lib.hid tlen
    clear tlen
    have hks : k < si.ls.length := by omega
    have hls : si.ls.length ≤ 63 := hok1.out.len
    have hwo := hok1.out.get (by omega) ((k : Int) + 1)
    have p1 := heap_alloc_new wr (.cells #[.int .i64 3, .int .i64 0, .int .u8 0, .int .u8 0, .int .u8 0, .int .u8 0, .int .u8 0, .int .u8 0, .int .i64 ((k : Int) + 1), .int .i64 0, .slice none 0 0] 35)
    have s1 := (Step.refl None wr).alloc (.cells #[.int .i64 3, .int .i64 0, .int .u8 0, .int .u8 0, .int .u8 0, .int .u8 0, .int .u8 0, .int .u8 0, .int .i64 ((k : Int) + 1), .int .i64 0, .slice none 0 0] 35)
    obtain ⟨W1, hW1⟩ : ∃ W1, wr.alloc (.cells #[.int .i64 3, .int .i64 0, .int .u8 0, .int .u8 0, .int .u8 0, .int .u8 0, .int .u8 0, .int .u8 0, .int .i64 ((k : Int) + 1), .int .i64 0, .slice none 0 0] 35) = W1 := ⟨_, rfl⟩
    rw [hW1] at p1 s1
    have HE1 := Lib.hid hW1
    have P1 := Lib.hid p1
    have S1 := Lib.hid (S0.out.then_ s1.none)
    have R1 := Lib.hid (R0.out.still s1)
    have O1 := Lib.hid (O0.out.still s1)
    have NX : Hid (wr.heap.size ≠ b ∧ wr.heap.size ≠ g) := Lib.hid (by have := S0.out.size; have := GG.out; omega)
    clear hW1 p1 s1 R0 O0
    have AT := Lib.hid (at_ok g b si k W1 hks hls R1.out)
    obtain ⟨l0, l1, -⟩ := R1.out.link hks
    have c0i : (0 : Int) ≤ (i : Int) := by omega
    go_wp2_with (first | rw [HE1.out])
    refine AT.out.mono ?_
    rintro e wz ⟨rfl, rfl⟩
    cases hu : (si.get ((k : Int) + 1)).up
    · have hv : si.memb ((k : Int) + 1) = (si, ⟨3, (k : Int) + 1, 0⟩) := by simp [Shk.memb, hu]
      rw [hv] at e1
      rw [hu] at l0
      clear hu hv AT l1
      have p2 := heap_alloc_new W1 (.cells #[.int .i64 3, .int .i64 0, .int .u8 0, .int .u8 0, .int .u8 0, .int .u8 0, .int .u8 0, .int .u8 0, .int .i64 ((k : Int) + 1), .int .i64 0, .slice none 0 0] 35)
      have s2 := (Step.refl None W1).alloc (.cells #[.int .i64 3, .int .i64 0, .int .u8 0, .int .u8 0, .int .u8 0, .int .u8 0, .int .u8 0, .int .u8 0, .int .i64 ((k : Int) + 1), .int .i64 0, .slice none 0 0] 35)
      obtain ⟨W2, hW2⟩ : ∃ W2, W1.alloc (.cells #[.int .i64 3, .int .i64 0, .int .u8 0, .int .u8 0, .int .u8 0, .int .u8 0, .int .u8 0, .int .u8 0, .int .i64 ((k : Int) + 1), .int .i64 0, .slice none 0 0] 35) = W2 := ⟨_, rfl⟩
      rw [hW2] at p2 s2
      have HE2 := Lib.hid hW2
      have P2 := Lib.hid p2
      have S2 := Lib.hid (S1.out.then_ s2.none)
      have R2 := Lib.hid (R1.out.still s2)
      have O2 := Lib.hid (O1.out.still s2)
      clear hW2 p2 s2
      go_wp2_with (first | rw [HE2.out] | (refine wpList_load_row rfl 35 (.tmp 8) rfl wr.heap.size rfl 35 #[.int .i64 3, .int .i64 0, .int .u8 0, .int .u8 0, .int .u8 0, .int .u8 0, .int .u8 0, .int .u8 0, .int .i64 ((k : Int) + 1), .int .i64 0, .slice none 0 0] (0, 0) _ P1.out Tryd.underlying35 rfl (by kernel_rfl) ?_) | (at_builtin; refine wpList_append_row T47 rfl (.tmp 33) (.tmp 35) rfl rfl O2.out.row rfl (Src.ofBlock T47 (m := 1) (c := 1) P2.out (by rfl) (by simp [Value.oneCell'])) ?ha ?hb ?_))
      case ha => have := TL.out; simp [maxLen]; omega
      case hb => have := TL.out; omega
      intro v4 w4 r4 t4 g4
      have F := Lib.hid (MS.more R2.out O2.out S2.out GG.out.2 GG.out.1 (t := ⟨3, (k : Int) + 1, 0⟩) r4 t4 g4 e1.out)
      clear r4 t4 g4
      go_wp2_with fail
      go_roundw
      case rel => exact ⟨i + 1, by omega, by first | rfl | simp, F⟩
      case measure => simp [intOf]; omega
    · have hv : si.memb ((k : Int) + 1) = (si.put ((k : Int) + 1) { si.get ((k : Int) + 1) with owed := (si.get ((k : Int) + 1)).owed + 1 }, ⟨3, (k : Int) + 1, 1⟩) := by simp [Shk.memb, hu]
      rw [hv] at e1
      rw [hu] at l0
      clear hu hv AT
      have w2 : wrap64 ((si.get ((k : Int) + 1)).owed + 1) = (si.get ((k : Int) + 1)).owed + 1 := by unfold wrap64; omega
      have u2 : IntKind.i64.wrap ((si.get ((k : Int) + 1)).owed + 1) = (si.get ((k : Int) + 1)).owed + 1 := by rw [IntKind.wrap_i64]; omega
      have fz := (R1.out.frz (k * 3 + 1)).1
      have r2 := R1.out.setLink (by decide) hks (j := 1) (by decide) (v := .int .i64 ((si.get ((k : Int) + 1)).owed + 1)) (l := { si.get ((k : Int) + 1) with owed := (si.get ((k : Int) + 1)).owed + 1 }) rfl
      have t2 := (Step.refl (· = b) W1).setCell (p := ⟨b, k * 3 + 1, none⟩) (fun _ => rfl) (.int .i64 ((si.get ((k : Int) + 1)).owed + 1))
      obtain ⟨W2, hW2⟩ : ∃ W2, W1.setCell ⟨b, k * 3 + 1, none⟩ (.int .i64 ((si.get ((k : Int) + 1)).owed + 1)) = W2 := ⟨_, rfl⟩
      rw [hW2] at r2 t2
      have HE2 := Lib.hid hW2
      have P2 := Lib.hid (t2.blk P1.out NX.out.1)
      have S2 := Lib.hid (S1.out.then_ t2)
      have R2 := Lib.hid r2
      have O2 := Lib.hid (O1.out.step t2 (O1.out.notB R1.out (by decide)))
      clear hW2 r2 t2 hwo
      have fx := blk_frozen P2.out 9
      have cx := blk_cell P2.out 9
      simp only [List.getElem?_toArray, List.getElem?_cons_zero, List.getElem?_cons_succ] at cx
      have p3 := blk_set P2.out 9 (.int .i64 1)
      have t3 := (Step.refl (· = wr.heap.size) W2).setCell (p := ⟨wr.heap.size, 9, none⟩) (fun _ => rfl) (.int .i64 1)
      obtain ⟨W3, hW3⟩ : ∃ W3, W2.setCell ⟨wr.heap.size, 9, none⟩ (.int .i64 1) = W3 := ⟨_, rfl⟩
      rw [hW3] at p3 t3
      have HE3 := Lib.hid hW3
      have P3 : Hid (W3.heap[wr.heap.size]? = some (.cells #[.int .i64 3, .int .i64 0, .int .u8 0, .int .u8 0, .int .u8 0, .int .u8 0, .int .u8 0, .int .u8 0, .int .i64 ((k : Int) + 1), .int .i64 1, .slice none 0 0] 35 (0, 0))) := Lib.hid (by simpa using p3)
      have S3 := Lib.hid (S2.out.trans t3 (fun j hj e => by have := S0.out.size; have e' : j = wr.heap.size := e; omega))
      have R3 := Lib.hid (R2.out.step t3 (fun e => NX.out.2 e.symm) (fun e => NX.out.1 e.symm))
      have O3 := Lib.hid (O2.out.step t3 (fun j hj e => by
        have e' : j = wr.heap.size := e
        have := ULT.out j hj
        omega))
      clear hW3 p3 t3
      have p4 := heap_alloc_new W3 (.cells #[.int .i64 3, .int .i64 0, .int .u8 0, .int .u8 0, .int .u8 0, .int .u8 0, .int .u8 0, .int .u8 0, .int .i64 ((k : Int) + 1), .int .i64 1, .slice none 0 0] 35)
      have s4 := (Step.refl None W3).alloc (.cells #[.int .i64 3, .int .i64 0, .int .u8 0, .int .u8 0, .int .u8 0, .int .u8 0, .int .u8 0, .int .u8 0, .int .i64 ((k : Int) + 1), .int .i64 1, .slice none 0 0] 35)
      obtain ⟨W4, hW4⟩ : ∃ W4, W3.alloc (.cells #[.int .i64 3, .int .i64 0, .int .u8 0, .int .u8 0, .int .u8 0, .int .u8 0, .int .u8 0, .int .u8 0, .int .i64 ((k : Int) + 1), .int .i64 1, .slice none 0 0] 35) = W4 := ⟨_, rfl⟩
      rw [hW4] at p4 s4
      have HE4 := Lib.hid hW4
      have P4 := Lib.hid p4
      have S4 := Lib.hid (S3.out.then_ s4.none)
      have R4 := Lib.hid (R3.out.still s4)
      have O4 := Lib.hid (O3.out.still s4)
      clear hW4 p4 s4
      go_wp2_with (first | rw [HE2.out] | rw [HE3.out] | rw [HE4.out] | (refine wpList_load_row rfl 35 (.tmp 8) rfl wr.heap.size rfl 35 #[.int .i64 3, .int .i64 0, .int .u8 0, .int .u8 0, .int .u8 0, .int .u8 0, .int .u8 0, .int .u8 0, .int .i64 ((k : Int) + 1), .int .i64 1, .slice none 0 0] (0, 0) _ P3.out Tryd.underlying35 rfl (by kernel_rfl) ?_) | (at_builtin; refine wpList_append_row T47 rfl (.tmp 33) (.tmp 35) rfl rfl O4.out.row rfl (Src.ofBlock T47 (m := 1) (c := 1) P4.out (by rfl) (by simp [Value.oneCell'])) ?ha ?hb ?_))
      case ha => have := TL.out; simp [maxLen]; omega
      case hb => have := TL.out; omega
      intro v4 w4 r4 t4 g4
      have F := Lib.hid (MS.more R4.out O4.out S4.out GG.out.2 GG.out.1 (t := ⟨3, (k : Int) + 1, 1⟩) r4 t4 g4 e1.out)
      clear r4 t4 g4
      go_wp2_with fail
      go_roundw
      case rel => exact ⟨i + 1, by omega, by first | rfl | simp, F⟩
      case measure => simp [intOf]; omega
end Go.Proofs.YthebgpbofjgcoaaDoor
