/- Start: the code's and the document's. -/
import Derived.Test.YthebgpbofjgcoaaDoorW4
namespace Go.Gm
theorem Shk.all_succ (n : Nat) : Shk.all (n + 1) = Shk.all n ++ [(n : Int) + 1] := by
  simp [Shk.all, List.range_succ]
theorem Shk.all_len (n : Nat) : (Shk.all n).length = n := by simp [Shk.all]
theorem Shk.all_has {s : Shk} {n : Int} (h : n ∈ Shk.all s.ls.length) : s.has n = true := by
  simp only [Shk.all, List.mem_map, List.mem_range] at h
  obtain ⟨i, hi, rfl⟩ := h
  simp [Shk.has]
  omega
end Go.Gm
namespace Go.Proofs.YthebgpbofjgcoaaDoor
open Go.RowKit Go.Gm
/-- A row of numbers, from block B on. -/
structure Nums (w : World) (B : Nat) (v : Value) (l : List Int) : Prop where
  row : Row w 3 1 v l.length (l.map (.int .i64))
  new : ∀ k, Leads v k → B ≤ k
theorem Nums.nil (w : World) (B : Nat) : Nums w B (.slice none 0 0) [] := ⟨Row.nil _ _ _, fun k hk => by simp [Leads, Value.ownBlock] at hk⟩
theorem ok_start {s : Shk} {m : Int} (h : s.Ok m) : ({ s.stop false with ses := true } : Shk).Ok 0 := by
  refine ⟨by simpa [Shk.stop] using h.len, fun l hl => ?_⟩
  obtain ⟨x, -, rfl⟩ := List.mem_map.1 hl
  exact ⟨Int.le_refl _, Int.le_refl _⟩
set_option maxHeartbeats 4000000 in
theorem start_any (g b : Nat) (s : Shk) (w : World) (m : Int) (ho : s.Ok m) (h : Rep 64 72 w g b s) :
    Calls Tryd.prog 17 #[.pointer (some ⟨g, 0, none⟩)] w fun e w' => ∃ u, e = .returned u ∧ Tells w' w.heap.size u s.start.2 ∧ Rep 64 72 w' g b s.start.1 ∧ Step (fun k => k = g ∨ k = b) w w' := by
  have hl := ho.len
  have ST := Lib.hid (stop_any g b s false w hl h)
  have OK := Lib.hid (ok_start ho)
  have sl : (s.stop false).ls.length = s.ls.length := by simp [Shk.stop]
  have GG : Hid (b < w.heap.size ∧ g < w.heap.size) := Lib.hid ⟨blk_lt h.row, blk_lt h.st⟩
  have SL := Lib.hid sl
  have hS : Hid (s.start = Shk.membs { s.stop false with ses := true } (Shk.all s.ls.length)) := Lib.hid rfl
  have hi : ((s.ls.length : Nat) : Int) ≤ 9223372036854775807 := by omega
  rw [hS.out]
  clear h ho sl
  go_enter Tryd.func17, Tryd.ntmps17
  go_wp2_with fail
  refine ST.out.mono ?_
  rintro e w1 ⟨rfl, r1, s1⟩
  clear ST
  have C := r1.cells
  have f1 := (r1.frz 1).2
  have r2 := r1.setSes (by decide) true
  have t2 := s1.setCell (p := ⟨g, 1, none⟩) (fun _ => .inl rfl) (.bool true)
  obtain ⟨W2, hW2⟩ : ∃ W2, w1.setCell ⟨g, 1, none⟩ (.bool true) = W2 := ⟨_, rfl⟩
  rw [hW2] at r2 t2
  have HE2 := Lib.hid hW2
  have cc := r2.cells.1
  simp only [SL.out] at cc
  have R2 := Lib.hid r2
  have T2 := Lib.hid t2
  obtain ⟨d0, d1, d2⟩ := C
  clear r1 s1 r2 t2 hW2
  go_wp2_with (first | rw [HE2.out])
  have SZ : Hid (w.heap.size ≤ W2.heap.size) := Lib.hid T2.out.size
  clear d0 d1 d2 cc
  go_loopw [3, 15] (fun u t wr => ∃ k : Nat, k ≤ s.ls.length ∧ t = .int .i64 k ∧ Hid (Nums wr W2.heap.size u (Shk.all k)) ∧ Hid (Step None W2 wr)) (fun _ t _ => s.ls.length - (intOf t).toNat)
  case atStart => exact ⟨0, by omega, rfl, Lib.hid (Nums.nil _ _), Lib.hid (Step.refl _ _)⟩
  case round =>
    obtain ⟨k, hk, rfl, hN, hT⟩ := hrel
    rename_i wr
    cases c1 : decide ((k : Int) < (s.ls.length : Int))
    · have c1' : decide (k < s.ls.length) = false := by simp at c1 ⊢; omega
      have hin : k = s.ls.length := by simp at c1; omega
      rw [hin] at hN
      clear hin
      have A := Lib.hid (members_any g b { s.stop false with ses := true } u3 (Shk.all s.ls.length) wr 0 OK.out (Int.le_refl _) (by decide) (by rw [Shk.all_len]; omega) (fun n hn => Shk.all_has (by rw [SL.out]; exact hn)) hN.out.row (R2.out.still hT.out))
      go_wp2_with fail
      refine A.out.mono ?_
      rintro e w5 ⟨y, rfl, t5, r5, s5⟩
      have F := Lib.hid (And.intro t5 (And.intro r5 s5))
      obtain ⟨yo, yc, rfl, -, -⟩ := t5.row.form
      clear t5 r5 s5 A
      go_wp2_with fail
      go_ret
      exact ⟨_, rfl, F.out.1.mono (by have := SZ.out; have := hT.out.size; omega), F.out.2.1, (T2.out.then_ hT.out.none).then_ (F.out.2.2.mono fun k _ e => .inr e)⟩
    have hlt : k < s.ls.length := by simp at c1; omega
    have c1' : decide (k < s.ls.length) = true := by simpa using hlt
    have w1 : wrap64 ((k : Int) + 1) = (k : Int) + 1 := by unfold wrap64; omega
    have u1 : IntKind.i64.wrap ((k : Int) + 1) = (k : Int) + 1 := by rw [IntKind.wrap_i64]; omega
    obtain ⟨uo, uc, hu, -, -⟩ := hN.out.row.form
    rw [Shk.all_len] at hu
    subst hu
    have p4 := heap_alloc_new wr (.cells #[.int .i64 ((k : Int) + 1)] 3)
    have s4 := (Step.refl None wr).alloc (.cells #[.int .i64 ((k : Int) + 1)] 3)
    obtain ⟨W4, hW4⟩ : ∃ W4, wr.alloc (.cells #[.int .i64 ((k : Int) + 1)] 3) = W4 := ⟨_, rfl⟩
    rw [hW4] at p4 s4
    have HE4 := Lib.hid hW4
    have P4 := Lib.hid p4
    have N4 := Lib.hid (hN.out.row.step s4 (fun _ _ s => s.elim))
    have S4 := Lib.hid (hT.out.then_ s4)
    have NW := Lib.hid hN.out.new
    clear hW4 p4 s4 hN hT
    go_wp2_with (first | rw [HE4.out] | (at_builtin; refine wpList_append_row T76 rfl (.tmp 18) (.tmp 21) rfl rfl N4.out rfl (Src.ofBlock T76 (m := 1) (c := 1) P4.out (by rfl) (by simp [Value.oneCell'])) ?ha ?hb ?_))
    case ha => rw [Shk.all_len]; simp [maxLen]; omega
    case hb => rw [Shk.all_len]; omega
    intro v5 w5 r5 t5 g5
    have F : Hid (Nums w5 W2.heap.size v5 (Shk.all (k + 1)) ∧ Step None W2 w5) := Lib.hid ⟨⟨by
      rw [Shk.all_succ, List.length_append, List.map_append]
      exact r5, fun j hj => by
      have := S4.out.size
      rcases g5 j hj with h | h
      · exact NW.out j h
      · omega⟩, S4.out.trans t5 fun j hj e => by have := NW.out j e; show False; omega⟩
    clear r5 t5 g5 N4 S4 P4 NW
    go_wp2_with fail
    go_roundw
    case rel => exact ⟨k + 1, by omega, by first | rfl | simp, Lib.hid F.out.1, Lib.hid F.out.2⟩
    case measure => simp [intOf]; omega

end Go.Proofs.YthebgpbofjgcoaaDoor
