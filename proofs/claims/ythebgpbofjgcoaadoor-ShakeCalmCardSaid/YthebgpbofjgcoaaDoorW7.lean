/- Take: the code's and the document's. -/
import Derived.Test.YthebgpbofjgcoaaDoorW6
namespace Go.Proofs.YthebgpbofjgcoaaDoor
open Go.RowKit Go.Gm

set_option maxHeartbeats 8000000 in
theorem take_any (g b : Nat) (s : Shk) (n : Note) (bo : Option Addr) (bc : Nat) (w : World) (m : Int) (ho : s.Ok m) (hm : 0 ≤ m) (hm2 : m ≤ 1000000) (hT : HasAt 0 w) (h : Rep 64 72 w g b s) :
    Calls Tryd.prog 20 #[.pointer (some ⟨g, 0, none⟩), .agg (n.cells (.slice bo n.body.length bc))] w fun e w' => ∃ u, e = .returned (.tuple #[u, .int .i64 (s.take (right n) n.kind n.port n.state).2.2]) ∧ Tells w' w.heap.size u (s.take (right n) n.kind n.port n.state).2.1 ∧ Rep 64 72 w' g b (s.take (right n) n.kind n.port n.state).1 ∧ Step (· = b) w w' := by
  have hl := ho.len
  have p1 := heap_alloc_new w (.cells (n.cells (.slice bo n.body.length bc)) 35)
  have s1 := (Step.refl None w).alloc (.cells (n.cells (.slice bo n.body.length bc)) 35)
  obtain ⟨W, hW⟩ : ∃ W, w.alloc (.cells (n.cells (.slice bo n.body.length bc)) 35) = W := ⟨_, rfl⟩
  rw [hW] at p1 s1
  have HE := Lib.hid hW
  have P1 := Lib.hid p1
  have S1 := Lib.hid s1
  have R1 := Lib.hid (h.still s1)
  have k := blk_cell p1
  have x0 := k 0
  have x8 := k 8
  have x9 := k 9
  simp only [Note.cells, List.getElem?_toArray, List.getElem?_cons_zero, List.getElem?_cons_succ] at x0 x8 x9
  have T1 := Lib.hid (hT.still s1)
  clear k hW p1 s1 h hT
  cases hr : right n
  · have e0 : s.take false n.kind n.port n.state = (s, [], 2) := by simp [Shk.take]
    rw [e0]
    clear e0 ho
    have AT : Hid (∃ pv : Option Addr, Calls Tryd.prog 26 #[.pointer (some ⟨g, 0, none⟩), .int .i64 n.port] W fun e w' => e = .returned (.pointer pv) ∧ W = w') := Lib.hid (by
      cases hp : s.has n.port
      · exact ⟨_, at_bad g b s n.port W hp R1.out⟩
      · obtain ⟨k, hk, hkl⟩ := Shk.has_nat hp
        rw [hk]
        exact ⟨_, at_ok g b s k W hkl hl R1.out⟩)
    obtain ⟨pv, hat⟩ := AT.out
    replace AT := Lib.hid hat
    clear hat
    go_enter Tryd.func20, Tryd.ntmps20
    go_wp2_with (first | rw [HE.out] | (refine wpList_load_row rfl 35 (.tmp 3) rfl w.heap.size rfl 35 (n.cells (.slice bo n.body.length bc)) (0, 0) _ P1.out Tryd.underlying35 rfl (by kernel_rfl) ?_))
    refine AT.out.mono ?_
    rintro e wz ⟨rfl, rfl⟩
    go_wp2_with (first | (refine wpList_load_row rfl 35 (.tmp 3) rfl w.heap.size rfl 35 (n.cells (.slice bo n.body.length bc)) (0, 0) _ P1.out Tryd.underlying35 rfl (by kernel_rfl) ?_))
    refine (right_any n bo bc W T1.out).mono ?_
    rintro e w2 ⟨rfl, s2⟩
    rw [hr]
    have P2 := Lib.hid (s2.blk P1.out (fun s => s.elim))
    have R2 := Lib.hid (R1.out.still s2)
    have S2 := Lib.hid (S1.out.then_ s2)
    have k := blk_cell P2.out
    have x0 := k 0
    have x8 := k 8
    have x9 := k 9
    simp only [Note.cells, List.getElem?_toArray, List.getElem?_cons_zero, List.getElem?_cons_succ] at x0 x8 x9
    clear k s2 P1 R1 S1
    go_wp2_with fail
    go_ret2
    exact ⟨_, rfl, Tells.nil _ _, R2.out, S2.out.none⟩
  by_cases hk : n.kind = 3 ∨ n.kind = 4
  rotate_left
  · have e0 : s.take true n.kind n.port n.state = (s, [], 2) := by simp [Shk.take, hk]
    rw [e0]
    clear e0 ho
    have k3 : (n.kind == 3) = false := by simp; omega
    have k4 : (n.kind == 4) = false := by simp; omega
    have k3n : (n.kind != 3) = true := by simp; omega
    have k4n : (n.kind != 4) = true := by simp; omega
    clear hk
    have AT : Hid (∃ pv : Option Addr, Calls Tryd.prog 26 #[.pointer (some ⟨g, 0, none⟩), .int .i64 n.port] W fun e w' => e = .returned (.pointer pv) ∧ W = w') := Lib.hid (by
      cases hp : s.has n.port
      · exact ⟨_, at_bad g b s n.port W hp R1.out⟩
      · obtain ⟨k, hk, hkl⟩ := Shk.has_nat hp
        rw [hk]
        exact ⟨_, at_ok g b s k W hkl hl R1.out⟩)
    obtain ⟨pv, hat⟩ := AT.out
    replace AT := Lib.hid hat
    clear hat
    go_enter Tryd.func20, Tryd.ntmps20
    go_wp2_with (first | rw [HE.out] | (refine wpList_load_row rfl 35 (.tmp 3) rfl w.heap.size rfl 35 (n.cells (.slice bo n.body.length bc)) (0, 0) _ P1.out Tryd.underlying35 rfl (by kernel_rfl) ?_))
    refine AT.out.mono ?_
    rintro e wz ⟨rfl, rfl⟩
    go_wp2_with (first | (refine wpList_load_row rfl 35 (.tmp 3) rfl w.heap.size rfl 35 (n.cells (.slice bo n.body.length bc)) (0, 0) _ P1.out Tryd.underlying35 rfl (by kernel_rfl) ?_))
    refine (right_any n bo bc W T1.out).mono ?_
    rintro e w2 ⟨rfl, s2⟩
    rw [hr]
    have P2 := Lib.hid (s2.blk P1.out (fun s => s.elim))
    have R2 := Lib.hid (R1.out.still s2)
    have S2 := Lib.hid (S1.out.then_ s2)
    have k := blk_cell P2.out
    have x0 := k 0
    have x8 := k 8
    have x9 := k 9
    simp only [Note.cells, List.getElem?_toArray, List.getElem?_cons_zero, List.getElem?_cons_succ] at x0 x8 x9
    clear k s2 P1 R1 S1
    go_wp2_with fail
    go_ret2
    exact ⟨_, rfl, Tells.nil _ _, R2.out, S2.out.none⟩
  cases hp : s.has n.port
  · have e0 : s.take true n.kind n.port n.state = (s, [], 1) := by simp [Shk.take, hk, hp]
    rw [e0]
    clear e0 ho
    cases k3 : (n.kind == 3)
    · have k4 : (n.kind == 4) = true := by simp at k3 ⊢; omega
      have k3n : (n.kind != 3) = true := by simp at k3 ⊢; omega
      have k4n : (n.kind != 4) = false := by simp at k4 ⊢; omega
      clear hk
      have AT := Lib.hid (at_bad g b s n.port W hp R1.out)
      go_enter Tryd.func20, Tryd.ntmps20
      go_wp2_with (first | rw [HE.out] | (refine wpList_load_row rfl 35 (.tmp 3) rfl w.heap.size rfl 35 (n.cells (.slice bo n.body.length bc)) (0, 0) _ P1.out Tryd.underlying35 rfl (by kernel_rfl) ?_))
      refine AT.out.mono ?_
      rintro e wz ⟨rfl, rfl⟩
      go_wp2_with (first | (refine wpList_load_row rfl 35 (.tmp 3) rfl w.heap.size rfl 35 (n.cells (.slice bo n.body.length bc)) (0, 0) _ P1.out Tryd.underlying35 rfl (by kernel_rfl) ?_))
      refine (right_any n bo bc W T1.out).mono ?_
      rintro e w2 ⟨rfl, s2⟩
      rw [hr]
      have P2 := Lib.hid (s2.blk P1.out (fun s => s.elim))
      have R2 := Lib.hid (R1.out.still s2)
      have S2 := Lib.hid (S1.out.then_ s2)
      have k := blk_cell P2.out
      have x0 := k 0
      have x8 := k 8
      have x9 := k 9
      simp only [Note.cells, List.getElem?_toArray, List.getElem?_cons_zero, List.getElem?_cons_succ] at x0 x8 x9
      clear k s2 P1 R1 S1
      go_wp2_with fail
      go_ret2
      exact ⟨_, rfl, Tells.nil _ _, R2.out, S2.out.none⟩
    · have k4 : (n.kind == 4) = false := by simp at k3 ⊢; omega
      have k3n : (n.kind != 3) = false := by simp at k3 ⊢; omega
      have k4n : (n.kind != 4) = true := by simp at k4 ⊢; omega
      clear hk
      have AT := Lib.hid (at_bad g b s n.port W hp R1.out)
      go_enter Tryd.func20, Tryd.ntmps20
      go_wp2_with (first | rw [HE.out] | (refine wpList_load_row rfl 35 (.tmp 3) rfl w.heap.size rfl 35 (n.cells (.slice bo n.body.length bc)) (0, 0) _ P1.out Tryd.underlying35 rfl (by kernel_rfl) ?_))
      refine AT.out.mono ?_
      rintro e wz ⟨rfl, rfl⟩
      go_wp2_with (first | (refine wpList_load_row rfl 35 (.tmp 3) rfl w.heap.size rfl 35 (n.cells (.slice bo n.body.length bc)) (0, 0) _ P1.out Tryd.underlying35 rfl (by kernel_rfl) ?_))
      refine (right_any n bo bc W T1.out).mono ?_
      rintro e w2 ⟨rfl, s2⟩
      rw [hr]
      have P2 := Lib.hid (s2.blk P1.out (fun s => s.elim))
      have R2 := Lib.hid (R1.out.still s2)
      have S2 := Lib.hid (S1.out.then_ s2)
      have k := blk_cell P2.out
      have x0 := k 0
      have x8 := k 8
      have x9 := k 9
      simp only [Note.cells, List.getElem?_toArray, List.getElem?_cons_zero, List.getElem?_cons_succ] at x0 x8 x9
      clear k s2 P1 R1 S1
      go_wp2_with fail
      go_ret2
      exact ⟨_, rfl, Tells.nil _ _, R2.out, S2.out.none⟩

  obtain ⟨k, hpk, hkl⟩ := Shk.has_nat hp
  have HPK := Lib.hid hpk
  have at0 := at_ok g b s k W hkl hl R1.out
  rw [← hpk] at at0
  have AT := Lib.hid at0
  clear at0
  cases hs : s.ses
  · have e0 : s.take true n.kind n.port n.state = (s, [], 6) := by simp [Shk.take, hk, hp, hs]
    rw [e0]
    clear e0 ho hpk
    cases k3 : (n.kind == 3)
    · have k4 : (n.kind == 4) = true := by simp at k3 ⊢; omega
      have k3n : (n.kind != 3) = true := by simp at k3 ⊢; omega
      have k4n : (n.kind != 4) = false := by simp at k4 ⊢; omega
      clear hk
      go_enter Tryd.func20, Tryd.ntmps20
      go_wp2_with (first | rw [HE.out] | (refine wpList_load_row rfl 35 (.tmp 3) rfl w.heap.size rfl 35 (n.cells (.slice bo n.body.length bc)) (0, 0) _ P1.out Tryd.underlying35 rfl (by kernel_rfl) ?_))
      refine AT.out.mono ?_
      rintro e wz ⟨rfl, rfl⟩
      go_wp2_with (first | (refine wpList_load_row rfl 35 (.tmp 3) rfl w.heap.size rfl 35 (n.cells (.slice bo n.body.length bc)) (0, 0) _ P1.out Tryd.underlying35 rfl (by kernel_rfl) ?_))
      refine (right_any n bo bc W T1.out).mono ?_
      rintro e w2 ⟨rfl, s2⟩
      rw [hr]
      have P2 := Lib.hid (s2.blk P1.out (fun s => s.elim))
      have R2 := Lib.hid (R1.out.still s2)
      have S2 := Lib.hid (S1.out.then_ s2)
      have k := blk_cell P2.out
      have x0 := k 0
      have x8 := k 8
      have x9 := k 9
      simp only [Note.cells, List.getElem?_toArray, List.getElem?_cons_zero, List.getElem?_cons_succ] at x0 x8 x9
      clear k s2 P1 R1 S1
      have cs := R2.out.cells.2.1
      rw [hs] at cs
      go_wp2_with fail
      go_ret2
      exact ⟨_, rfl, Tells.nil _ _, R2.out, S2.out.none⟩
    · have k4 : (n.kind == 4) = false := by simp at k3 ⊢; omega
      have k3n : (n.kind != 3) = false := by simp at k3 ⊢; omega
      have k4n : (n.kind != 4) = true := by simp at k4 ⊢; omega
      clear hk
      go_enter Tryd.func20, Tryd.ntmps20
      go_wp2_with (first | rw [HE.out] | (refine wpList_load_row rfl 35 (.tmp 3) rfl w.heap.size rfl 35 (n.cells (.slice bo n.body.length bc)) (0, 0) _ P1.out Tryd.underlying35 rfl (by kernel_rfl) ?_))
      refine AT.out.mono ?_
      rintro e wz ⟨rfl, rfl⟩
      go_wp2_with (first | (refine wpList_load_row rfl 35 (.tmp 3) rfl w.heap.size rfl 35 (n.cells (.slice bo n.body.length bc)) (0, 0) _ P1.out Tryd.underlying35 rfl (by kernel_rfl) ?_))
      refine (right_any n bo bc W T1.out).mono ?_
      rintro e w2 ⟨rfl, s2⟩
      rw [hr]
      have P2 := Lib.hid (s2.blk P1.out (fun s => s.elim))
      have R2 := Lib.hid (R1.out.still s2)
      have S2 := Lib.hid (S1.out.then_ s2)
      have k := blk_cell P2.out
      have x0 := k 0
      have x8 := k 8
      have x9 := k 9
      simp only [Note.cells, List.getElem?_toArray, List.getElem?_cons_zero, List.getElem?_cons_succ] at x0 x8 x9
      clear k s2 P1 R1 S1
      have cs := R2.out.cells.2.1
      rw [hs] at cs
      go_wp2_with fail
      go_ret2
      exact ⟨_, rfl, Tells.nil _ _, R2.out, S2.out.none⟩

  cases k4 : (n.kind == 4)
  · have k3 : (n.kind == 3) = true := by simp at k4 ⊢; omega
    have k3n : (n.kind != 3) = false := by simp at k3 ⊢; omega
    have k4n : (n.kind != 4) = true := by simp at k4 ⊢; omega
    cases hz : (n.state == 0)
    · have e0 : s.take true n.kind n.port n.state = (s.put ((k : Int) + 1) { s.get ((k : Int) + 1) with down := false }, [⟨4, n.port, 1⟩], 0) := by
        have hk3 : n.kind = 3 := by simpa using k3
        have hz' : ¬ n.state = 0 := by simpa using hz
        simp only [Shk.take, hk3, hp, hs]
        rw [hpk]
        simp [hz', hz]
      rw [e0]
      clear e0
      clear hk ho hpk
      go_enter Tryd.func20, Tryd.ntmps20
      go_wp2_with (first | rw [HE.out] | (refine wpList_load_row rfl 35 (.tmp 3) rfl w.heap.size rfl 35 (n.cells (.slice bo n.body.length bc)) (0, 0) _ P1.out Tryd.underlying35 rfl (by kernel_rfl) ?_))
      refine AT.out.mono ?_
      rintro e wz ⟨rfl, rfl⟩
      go_wp2_with (first | (refine wpList_load_row rfl 35 (.tmp 3) rfl w.heap.size rfl 35 (n.cells (.slice bo n.body.length bc)) (0, 0) _ P1.out Tryd.underlying35 rfl (by kernel_rfl) ?_))
      refine (right_any n bo bc W T1.out).mono ?_
      rintro e w2 ⟨rfl, s2⟩
      rw [hr]
      have P2 := Lib.hid (s2.blk P1.out (fun s => s.elim))
      have R2 := Lib.hid (R1.out.still s2)
      have S2 := Lib.hid (S1.out.then_ s2)
      have kc := blk_cell P2.out
      have x0 := kc 0
      have x8 := kc 8
      have x9 := kc 9
      simp only [Note.cells, List.getElem?_toArray, List.getElem?_cons_zero, List.getElem?_cons_succ] at x0 x8 x9
      clear kc s2 P1 R1 S1
      have C2 := R2.out.cells
      obtain ⟨cl, cs, -⟩ := C2
      rw [hs] at cs
      obtain ⟨l0, l1, l2⟩ := R2.out.link hkl
      have fz1 := (R2.out.frz (k * 3 + 1)).1
      have fz2 := (R2.out.frz (k * 3 + 2)).1
      have r3 := R2.out.setLink (by decide) hkl (j := 2) (by decide) (v := (.bool false)) (l := { s.get ((k : Int) + 1) with down := false }) rfl
      have t3 := (Step.refl (· = b) w2).setCell (p := ⟨b, k * 3 + 2, none⟩) (fun _ => rfl) (.bool false)
      obtain ⟨W3, hW3⟩ : ∃ W3, w2.setCell ⟨b, k * 3 + 2, none⟩ (.bool false) = W3 := ⟨_, rfl⟩
      rw [hW3] at r3 t3
      have HE3 := Lib.hid hW3
      have NX : Hid (w.heap.size ≠ b) := Lib.hid (blk_ne P2.out R2.out.row (by decide))
      have P3 := Lib.hid (t3.blk P2.out NX.out)
      have kc := blk_cell P3.out
      have z0 := kc 0
      have z8 := kc 8
      have z9 := kc 9
      simp only [Note.cells, List.getElem?_toArray, List.getElem?_cons_zero, List.getElem?_cons_succ] at z0 z8 z9
      have R3 := Lib.hid r3
      have S3 := Lib.hid ((S2.out.none).then_ t3)
      clear kc r3 t3 hW3
      obtain ⟨-, -, m2⟩ := R3.out.link (by rw [Shk.put_len]; exact hkl)
      rw [Shk.get_put hkl] at m2
      have p4 := heap_alloc_new W3 (.cells #[.int .i64 4, .int .i64 0, .int .u8 0, .int .u8 0, .int .u8 0, .int .u8 0, .int .u8 0, .int .u8 0, .int .i64 n.port, .int .i64 1, .slice none 0 0] 35)
      have s4 := (Step.refl None W3).alloc (.cells #[.int .i64 4, .int .i64 0, .int .u8 0, .int .u8 0, .int .u8 0, .int .u8 0, .int .u8 0, .int .u8 0, .int .i64 n.port, .int .i64 1, .slice none 0 0] 35)
      have F : Hid (Tells (W3.alloc (.cells #[.int .i64 4, .int .i64 0, .int .u8 0, .int .u8 0, .int .u8 0, .int .u8 0, .int .u8 0, .int .u8 0, .int .i64 n.port, .int .i64 1, .slice none 0 0] 35)) w.heap.size (.slice (some ⟨W3.heap.size, 0, none⟩) 1 1) [⟨4, n.port, 1⟩] ∧ Rep 64 72 (W3.alloc (.cells #[.int .i64 4, .int .i64 0, .int .u8 0, .int .u8 0, .int .u8 0, .int .u8 0, .int .u8 0, .int .u8 0, .int .i64 n.port, .int .i64 1, .slice none 0 0] 35)) g b (s.put ((k : Int) + 1) { s.get ((k : Int) + 1) with down := false }) ∧ Step (· = b) w (W3.alloc (.cells #[.int .i64 4, .int .i64 0, .int .u8 0, .int .u8 0, .int .u8 0, .int .u8 0, .int .u8 0, .int .u8 0, .int .i64 n.port, .int .i64 1, .slice none 0 0] 35))) := Lib.hid ⟨Tells.one (t := ⟨4, n.port, 1⟩) p4 (by have := S3.out.size; omega), R3.out.still s4, S3.out.then_ s4.none⟩
      clear p4 s4
      go_wp2_with (first | rw [HE3.out])
      go_ret2
      exact ⟨_, rfl, F.out⟩
    · have e0 : s.take true n.kind n.port n.state = (s.put ((k : Int) + 1) { s.get ((k : Int) + 1) with down := true }, [], 0) := by
        have hk3 : n.kind = 3 := by simpa using k3
        have hz' : n.state = 0 := by simpa using hz
        simp only [Shk.take, hk3, hp, hs, hz']
        rw [hpk]
        simp
      rw [e0]
      clear e0
      clear hk ho hpk
      go_enter Tryd.func20, Tryd.ntmps20
      go_wp2_with (first | rw [HE.out] | (refine wpList_load_row rfl 35 (.tmp 3) rfl w.heap.size rfl 35 (n.cells (.slice bo n.body.length bc)) (0, 0) _ P1.out Tryd.underlying35 rfl (by kernel_rfl) ?_))
      refine AT.out.mono ?_
      rintro e wz ⟨rfl, rfl⟩
      go_wp2_with (first | (refine wpList_load_row rfl 35 (.tmp 3) rfl w.heap.size rfl 35 (n.cells (.slice bo n.body.length bc)) (0, 0) _ P1.out Tryd.underlying35 rfl (by kernel_rfl) ?_))
      refine (right_any n bo bc W T1.out).mono ?_
      rintro e w2 ⟨rfl, s2⟩
      rw [hr]
      have P2 := Lib.hid (s2.blk P1.out (fun s => s.elim))
      have R2 := Lib.hid (R1.out.still s2)
      have S2 := Lib.hid (S1.out.then_ s2)
      have kc := blk_cell P2.out
      have x0 := kc 0
      have x8 := kc 8
      have x9 := kc 9
      simp only [Note.cells, List.getElem?_toArray, List.getElem?_cons_zero, List.getElem?_cons_succ] at x0 x8 x9
      clear kc s2 P1 R1 S1
      have C2 := R2.out.cells
      obtain ⟨cl, cs, -⟩ := C2
      rw [hs] at cs
      obtain ⟨l0, l1, l2⟩ := R2.out.link hkl
      have fz1 := (R2.out.frz (k * 3 + 1)).1
      have fz2 := (R2.out.frz (k * 3 + 2)).1
      have r3 := R2.out.setLink (by decide) hkl (j := 2) (by decide) (v := (.bool true)) (l := { s.get ((k : Int) + 1) with down := true }) rfl
      have t3 := (Step.refl (· = b) w2).setCell (p := ⟨b, k * 3 + 2, none⟩) (fun _ => rfl) (.bool true)
      obtain ⟨W3, hW3⟩ : ∃ W3, w2.setCell ⟨b, k * 3 + 2, none⟩ (.bool true) = W3 := ⟨_, rfl⟩
      rw [hW3] at r3 t3
      have HE3 := Lib.hid hW3
      have NX : Hid (w.heap.size ≠ b) := Lib.hid (blk_ne P2.out R2.out.row (by decide))
      have P3 := Lib.hid (t3.blk P2.out NX.out)
      have kc := blk_cell P3.out
      have z0 := kc 0
      have z8 := kc 8
      have z9 := kc 9
      simp only [Note.cells, List.getElem?_toArray, List.getElem?_cons_zero, List.getElem?_cons_succ] at z0 z8 z9
      have R3 := Lib.hid r3
      have S3 := Lib.hid ((S2.out.none).then_ t3)
      clear kc r3 t3 hW3
      obtain ⟨-, -, m2⟩ := R3.out.link (by rw [Shk.put_len]; exact hkl)
      rw [Shk.get_put hkl] at m2
      go_wp2_with (first | rw [HE3.out])
      go_ret2
      exact ⟨_, rfl, Tells.nil _ _, R3.out, S3.out⟩
  · have k3 : (n.kind == 3) = false := by simp at k4 ⊢; omega
    have k3n : (n.kind != 3) = true := by simp at k3 ⊢; omega
    have k4n : (n.kind != 4) = false := by simp at k4 ⊢; omega
    have e0 : s.take true n.kind n.port n.state = (s.put ((k : Int) + 1) { s.get ((k : Int) + 1) with owed := max ((s.get ((k : Int) + 1)).owed - 1) 0 }, [], 0) := by
      have hk4 : n.kind = 4 := by simpa using k4
      simp only [Shk.take, hk4, hp, hs]
      rw [hpk]
      simp
    rw [e0]
    clear e0
    clear hk
    have hwo := ho.get hm ((k : Int) + 1)
    have w3 : wrap64 ((s.get ((k : Int) + 1)).owed - 1) = (s.get ((k : Int) + 1)).owed - 1 := by unfold wrap64; omega
    have u3 : IntKind.i64.wrap ((s.get ((k : Int) + 1)).owed - 1) = (s.get ((k : Int) + 1)).owed - 1 := by rw [IntKind.wrap_i64]; omega
    clear ho hpk
    by_cases hx : (s.get ((k : Int) + 1)).owed - 1 < 0
    · have hmx : max ((s.get ((k : Int) + 1)).owed - 1) 0 = 0 := by omega
      rw [hmx]
      have hx2 : ¬ 0 ≤ (s.get ((k : Int) + 1)).owed - 1 := by omega
      clear hmx hwo
      go_enter Tryd.func20, Tryd.ntmps20
      go_wp2_with (first | rw [HE.out] | (refine wpList_load_row rfl 35 (.tmp 3) rfl w.heap.size rfl 35 (n.cells (.slice bo n.body.length bc)) (0, 0) _ P1.out Tryd.underlying35 rfl (by kernel_rfl) ?_))
      refine AT.out.mono ?_
      rintro e wz ⟨rfl, rfl⟩
      go_wp2_with (first | (refine wpList_load_row rfl 35 (.tmp 3) rfl w.heap.size rfl 35 (n.cells (.slice bo n.body.length bc)) (0, 0) _ P1.out Tryd.underlying35 rfl (by kernel_rfl) ?_))
      refine (right_any n bo bc W T1.out).mono ?_
      rintro e w2 ⟨rfl, s2⟩
      rw [hr]
      have P2 := Lib.hid (s2.blk P1.out (fun s => s.elim))
      have R2 := Lib.hid (R1.out.still s2)
      have S2 := Lib.hid (S1.out.then_ s2)
      have kc := blk_cell P2.out
      have x0 := kc 0
      have x8 := kc 8
      have x9 := kc 9
      simp only [Note.cells, List.getElem?_toArray, List.getElem?_cons_zero, List.getElem?_cons_succ] at x0 x8 x9
      clear kc s2 P1 R1 S1
      have C2 := R2.out.cells
      obtain ⟨cl, cs, -⟩ := C2
      rw [hs] at cs
      obtain ⟨l0, l1, l2⟩ := R2.out.link hkl
      have fz1 := (R2.out.frz (k * 3 + 1)).1
      have fz2 := (R2.out.frz (k * 3 + 2)).1
      have r3 := R2.out.setLink (by decide) hkl (j := 1) (by decide) (v := (.int .i64 (0))) (l := { s.get ((k : Int) + 1) with owed := 0 }) rfl
      have t3 := (Step.refl (· = b) w2).setCell (p := ⟨b, k * 3 + 1, none⟩) (fun _ => rfl) (.int .i64 (0))
      obtain ⟨W3, hW3⟩ : ∃ W3, w2.setCell ⟨b, k * 3 + 1, none⟩ (.int .i64 (0)) = W3 := ⟨_, rfl⟩
      rw [hW3] at r3 t3
      have HE3 := Lib.hid hW3
      have NX : Hid (w.heap.size ≠ b) := Lib.hid (blk_ne P2.out R2.out.row (by decide))
      have P3 := Lib.hid (t3.blk P2.out NX.out)
      have kc := blk_cell P3.out
      have z0 := kc 0
      have z8 := kc 8
      have z9 := kc 9
      simp only [Note.cells, List.getElem?_toArray, List.getElem?_cons_zero, List.getElem?_cons_succ] at z0 z8 z9
      have R3 := Lib.hid r3
      have S3 := Lib.hid ((S2.out.none).then_ t3)
      clear kc r3 t3 hW3
      go_wp2_with (first | rw [HE3.out])
      go_ret2
      exact ⟨_, rfl, Tells.nil _ _, R3.out, S3.out⟩
    · have hmx : max ((s.get ((k : Int) + 1)).owed - 1) 0 = (s.get ((k : Int) + 1)).owed - 1 := by omega
      rw [hmx]
      have hx2 : 0 ≤ (s.get ((k : Int) + 1)).owed - 1 := by omega
      clear hmx hwo
      go_enter Tryd.func20, Tryd.ntmps20
      go_wp2_with (first | rw [HE.out] | (refine wpList_load_row rfl 35 (.tmp 3) rfl w.heap.size rfl 35 (n.cells (.slice bo n.body.length bc)) (0, 0) _ P1.out Tryd.underlying35 rfl (by kernel_rfl) ?_))
      refine AT.out.mono ?_
      rintro e wz ⟨rfl, rfl⟩
      go_wp2_with (first | (refine wpList_load_row rfl 35 (.tmp 3) rfl w.heap.size rfl 35 (n.cells (.slice bo n.body.length bc)) (0, 0) _ P1.out Tryd.underlying35 rfl (by kernel_rfl) ?_))
      refine (right_any n bo bc W T1.out).mono ?_
      rintro e w2 ⟨rfl, s2⟩
      rw [hr]
      have P2 := Lib.hid (s2.blk P1.out (fun s => s.elim))
      have R2 := Lib.hid (R1.out.still s2)
      have S2 := Lib.hid (S1.out.then_ s2)
      have kc := blk_cell P2.out
      have x0 := kc 0
      have x8 := kc 8
      have x9 := kc 9
      simp only [Note.cells, List.getElem?_toArray, List.getElem?_cons_zero, List.getElem?_cons_succ] at x0 x8 x9
      clear kc s2 P1 R1 S1
      have C2 := R2.out.cells
      obtain ⟨cl, cs, -⟩ := C2
      rw [hs] at cs
      obtain ⟨l0, l1, l2⟩ := R2.out.link hkl
      have fz1 := (R2.out.frz (k * 3 + 1)).1
      have fz2 := (R2.out.frz (k * 3 + 2)).1
      have r3 := R2.out.setLink (by decide) hkl (j := 1) (by decide) (v := (.int .i64 ((s.get ((k : Int) + 1)).owed - 1))) (l := { s.get ((k : Int) + 1) with owed := (s.get ((k : Int) + 1)).owed - 1 }) rfl
      have t3 := (Step.refl (· = b) w2).setCell (p := ⟨b, k * 3 + 1, none⟩) (fun _ => rfl) (.int .i64 ((s.get ((k : Int) + 1)).owed - 1))
      obtain ⟨W3, hW3⟩ : ∃ W3, w2.setCell ⟨b, k * 3 + 1, none⟩ (.int .i64 ((s.get ((k : Int) + 1)).owed - 1)) = W3 := ⟨_, rfl⟩
      rw [hW3] at r3 t3
      have HE3 := Lib.hid hW3
      have NX : Hid (w.heap.size ≠ b) := Lib.hid (blk_ne P2.out R2.out.row (by decide))
      have P3 := Lib.hid (t3.blk P2.out NX.out)
      have kc := blk_cell P3.out
      have z0 := kc 0
      have z8 := kc 8
      have z9 := kc 9
      simp only [Note.cells, List.getElem?_toArray, List.getElem?_cons_zero, List.getElem?_cons_succ] at z0 z8 z9
      have R3 := Lib.hid r3
      have S3 := Lib.hid ((S2.out.none).then_ t3)
      clear kc r3 t3 hW3
      go_wp2_with (first | rw [HE3.out])
      go_ret2
      exact ⟨_, rfl, Tells.nil _ _, R3.out, S3.out⟩

set_option maxHeartbeats 8000000 in
theorem rtake_any (g b : Nat) (s : Shk) (n : Note) (bo : Option Addr) (bc : Nat) (w : World) (m : Int) (ho : s.Ok m) (hm : 0 ≤ m) (hm2 : m ≤ 1000000) (h : Rep 67 74 w g b s) :
    Calls Tryd.prog 23 #[.pointer (some ⟨g, 0, none⟩), .agg (n.cells (.slice bo n.body.length bc))] w fun e w' => ∃ u, e = .returned (.tuple #[u, .int .i64 (s.take (right n) n.kind n.port n.state).2.2]) ∧ Tells w' w.heap.size u (s.take (right n) n.kind n.port n.state).2.1 ∧ Rep 67 74 w' g b (s.take (right n) n.kind n.port n.state).1 ∧ Step (· = b) w w' := by
  have hl := ho.len
  have p1 := heap_alloc_new w (.cells (n.cells (.slice bo n.body.length bc)) 35)
  have s1 := (Step.refl None w).alloc (.cells (n.cells (.slice bo n.body.length bc)) 35)
  obtain ⟨W, hW⟩ : ∃ W, w.alloc (.cells (n.cells (.slice bo n.body.length bc)) 35) = W := ⟨_, rfl⟩
  rw [hW] at p1 s1
  have HE := Lib.hid hW
  have P1 := Lib.hid p1
  have S1 := Lib.hid s1
  have R1 := Lib.hid (h.still s1)
  have k := blk_cell p1
  have x0 := k 0
  have x8 := k 8
  have x9 := k 9
  simp only [Note.cells, List.getElem?_toArray, List.getElem?_cons_zero, List.getElem?_cons_succ] at x0 x8 x9
  clear k hW p1 s1 h
  cases hr : right n
  · have e0 : s.take false n.kind n.port n.state = (s, [], 2) := by simp [Shk.take]
    rw [e0]
    clear e0 ho
    go_enter Tryd.func23, Tryd.ntmps23
    go_wp2_with (first | rw [HE.out] | (refine wpList_load_row rfl 35 (.tmp 3) rfl w.heap.size rfl 35 (n.cells (.slice bo n.body.length bc)) (0, 0) _ P1.out Tryd.underlying35 rfl (by kernel_rfl) ?_))
    refine (rright_any n bo bc W).mono ?_
    rintro e w2 ⟨rfl, s2⟩
    rw [hr]
    have P2 := Lib.hid (s2.blk P1.out (fun s => s.elim))
    have R2 := Lib.hid (R1.out.still s2)
    have S2 := Lib.hid (S1.out.then_ s2)
    have k := blk_cell P2.out
    have x0 := k 0
    have x8 := k 8
    have x9 := k 9
    simp only [Note.cells, List.getElem?_toArray, List.getElem?_cons_zero, List.getElem?_cons_succ] at x0 x8 x9
    clear k s2 P1 R1 S1
    go_wp2_with fail
    go_ret2
    exact ⟨_, rfl, Tells.nil _ _, R2.out, S2.out.none⟩
  by_cases hk : n.kind = 3 ∨ n.kind = 4
  rotate_left
  · have e0 : s.take true n.kind n.port n.state = (s, [], 2) := by simp [Shk.take, hk]
    rw [e0]
    clear e0 ho
    have k3 : (n.kind == 3) = false := by simp; omega
    have k4 : (n.kind == 4) = false := by simp; omega
    have k3n : (n.kind != 3) = true := by simp; omega
    have k4n : (n.kind != 4) = true := by simp; omega
    clear hk
    go_enter Tryd.func23, Tryd.ntmps23
    go_wp2_with (first | rw [HE.out] | (refine wpList_load_row rfl 35 (.tmp 3) rfl w.heap.size rfl 35 (n.cells (.slice bo n.body.length bc)) (0, 0) _ P1.out Tryd.underlying35 rfl (by kernel_rfl) ?_))
    refine (rright_any n bo bc W).mono ?_
    rintro e w2 ⟨rfl, s2⟩
    rw [hr]
    have P2 := Lib.hid (s2.blk P1.out (fun s => s.elim))
    have R2 := Lib.hid (R1.out.still s2)
    have S2 := Lib.hid (S1.out.then_ s2)
    have k := blk_cell P2.out
    have x0 := k 0
    have x8 := k 8
    have x9 := k 9
    simp only [Note.cells, List.getElem?_toArray, List.getElem?_cons_zero, List.getElem?_cons_succ] at x0 x8 x9
    clear k s2 P1 R1 S1
    go_wp2_with fail
    go_ret2
    exact ⟨_, rfl, Tells.nil _ _, R2.out, S2.out.none⟩
  cases hp : s.has n.port
  · have e0 : s.take true n.kind n.port n.state = (s, [], 1) := by simp [Shk.take, hk, hp]
    rw [e0]
    clear e0 ho
    cases k3 : (n.kind == 3)
    · have k4 : (n.kind == 4) = true := by simp at k3 ⊢; omega
      have k3n : (n.kind != 3) = true := by simp at k3 ⊢; omega
      have k4n : (n.kind != 4) = false := by simp at k4 ⊢; omega
      clear hk
      go_enter Tryd.func23, Tryd.ntmps23
      go_wp2_with (first | rw [HE.out] | (refine wpList_load_row rfl 35 (.tmp 3) rfl w.heap.size rfl 35 (n.cells (.slice bo n.body.length bc)) (0, 0) _ P1.out Tryd.underlying35 rfl (by kernel_rfl) ?_))
      refine (rright_any n bo bc W).mono ?_
      rintro e w2 ⟨rfl, s2⟩
      rw [hr]
      have P2 := Lib.hid (s2.blk P1.out (fun s => s.elim))
      have R2 := Lib.hid (R1.out.still s2)
      have S2 := Lib.hid (S1.out.then_ s2)
      have k := blk_cell P2.out
      have x0 := k 0
      have x8 := k 8
      have x9 := k 9
      simp only [Note.cells, List.getElem?_toArray, List.getElem?_cons_zero, List.getElem?_cons_succ] at x0 x8 x9
      clear k s2 P1 R1 S1
      go_wp2_with fail
      refine (has_any g b s n.port _ R2.out).mono ?_
      rintro e wz ⟨rfl, rfl⟩
      rw [hp]
      go_wp2_with fail
      go_ret2
      exact ⟨_, rfl, Tells.nil _ _, R2.out, S2.out.none⟩
    · have k4 : (n.kind == 4) = false := by simp at k3 ⊢; omega
      have k3n : (n.kind != 3) = false := by simp at k3 ⊢; omega
      have k4n : (n.kind != 4) = true := by simp at k4 ⊢; omega
      clear hk
      go_enter Tryd.func23, Tryd.ntmps23
      go_wp2_with (first | rw [HE.out] | (refine wpList_load_row rfl 35 (.tmp 3) rfl w.heap.size rfl 35 (n.cells (.slice bo n.body.length bc)) (0, 0) _ P1.out Tryd.underlying35 rfl (by kernel_rfl) ?_))
      refine (rright_any n bo bc W).mono ?_
      rintro e w2 ⟨rfl, s2⟩
      rw [hr]
      have P2 := Lib.hid (s2.blk P1.out (fun s => s.elim))
      have R2 := Lib.hid (R1.out.still s2)
      have S2 := Lib.hid (S1.out.then_ s2)
      have k := blk_cell P2.out
      have x0 := k 0
      have x8 := k 8
      have x9 := k 9
      simp only [Note.cells, List.getElem?_toArray, List.getElem?_cons_zero, List.getElem?_cons_succ] at x0 x8 x9
      clear k s2 P1 R1 S1
      go_wp2_with fail
      refine (has_any g b s n.port _ R2.out).mono ?_
      rintro e wz ⟨rfl, rfl⟩
      rw [hp]
      go_wp2_with fail
      go_ret2
      exact ⟨_, rfl, Tells.nil _ _, R2.out, S2.out.none⟩

  obtain ⟨k, hpk, hkl⟩ := Shk.has_nat hp
  have HPK := Lib.hid hpk
  cases hs : s.ses
  · have e0 : s.take true n.kind n.port n.state = (s, [], 6) := by simp [Shk.take, hk, hp, hs]
    rw [e0]
    clear e0 ho hpk
    cases k3 : (n.kind == 3)
    · have k4 : (n.kind == 4) = true := by simp at k3 ⊢; omega
      have k3n : (n.kind != 3) = true := by simp at k3 ⊢; omega
      have k4n : (n.kind != 4) = false := by simp at k4 ⊢; omega
      clear hk
      go_enter Tryd.func23, Tryd.ntmps23
      go_wp2_with (first | rw [HE.out] | (refine wpList_load_row rfl 35 (.tmp 3) rfl w.heap.size rfl 35 (n.cells (.slice bo n.body.length bc)) (0, 0) _ P1.out Tryd.underlying35 rfl (by kernel_rfl) ?_))
      refine (rright_any n bo bc W).mono ?_
      rintro e w2 ⟨rfl, s2⟩
      rw [hr]
      have P2 := Lib.hid (s2.blk P1.out (fun s => s.elim))
      have R2 := Lib.hid (R1.out.still s2)
      have S2 := Lib.hid (S1.out.then_ s2)
      have k := blk_cell P2.out
      have x0 := k 0
      have x8 := k 8
      have x9 := k 9
      simp only [Note.cells, List.getElem?_toArray, List.getElem?_cons_zero, List.getElem?_cons_succ] at x0 x8 x9
      clear k s2 P1 R1 S1
      go_wp2_with fail
      refine (has_any g b s n.port _ R2.out).mono ?_
      rintro e wz ⟨rfl, rfl⟩
      rw [hp]
      have cs := R2.out.cells.2.1
      rw [hs] at cs
      go_wp2_with fail
      go_ret2
      exact ⟨_, rfl, Tells.nil _ _, R2.out, S2.out.none⟩
    · have k4 : (n.kind == 4) = false := by simp at k3 ⊢; omega
      have k3n : (n.kind != 3) = false := by simp at k3 ⊢; omega
      have k4n : (n.kind != 4) = true := by simp at k4 ⊢; omega
      clear hk
      go_enter Tryd.func23, Tryd.ntmps23
      go_wp2_with (first | rw [HE.out] | (refine wpList_load_row rfl 35 (.tmp 3) rfl w.heap.size rfl 35 (n.cells (.slice bo n.body.length bc)) (0, 0) _ P1.out Tryd.underlying35 rfl (by kernel_rfl) ?_))
      refine (rright_any n bo bc W).mono ?_
      rintro e w2 ⟨rfl, s2⟩
      rw [hr]
      have P2 := Lib.hid (s2.blk P1.out (fun s => s.elim))
      have R2 := Lib.hid (R1.out.still s2)
      have S2 := Lib.hid (S1.out.then_ s2)
      have k := blk_cell P2.out
      have x0 := k 0
      have x8 := k 8
      have x9 := k 9
      simp only [Note.cells, List.getElem?_toArray, List.getElem?_cons_zero, List.getElem?_cons_succ] at x0 x8 x9
      clear k s2 P1 R1 S1
      go_wp2_with fail
      refine (has_any g b s n.port _ R2.out).mono ?_
      rintro e wz ⟨rfl, rfl⟩
      rw [hp]
      have cs := R2.out.cells.2.1
      rw [hs] at cs
      go_wp2_with fail
      go_ret2
      exact ⟨_, rfl, Tells.nil _ _, R2.out, S2.out.none⟩

  cases k4 : (n.kind == 4)
  · have k3 : (n.kind == 3) = true := by simp at k4 ⊢; omega
    have k3n : (n.kind != 3) = false := by simp at k3 ⊢; omega
    have k4n : (n.kind != 4) = true := by simp at k4 ⊢; omega
    cases hz : (n.state == 0)
    · have e0 : s.take true n.kind n.port n.state = (s.put ((k : Int) + 1) { s.get ((k : Int) + 1) with down := false }, [⟨4, n.port, 1⟩], 0) := by
        have hk3 : n.kind = 3 := by simpa using k3
        have hz' : ¬ n.state = 0 := by simpa using hz
        simp only [Shk.take, hk3, hp, hs]
        rw [hpk]
        simp [hz', hz]
      rw [e0]
      clear e0
      clear hk
      have w1 : wrap64 (n.port - 1) = k := by unfold wrap64; omega
      have u1 : IntKind.i64.wrap (n.port - 1) = k := by rw [IntKind.wrap_i64]; omega
      have i1 : (k : Int) < (s.ls.length : Int) := by omega
      have i0 : (0 : Int) ≤ (k : Int) := by omega
      clear ho hpk
      go_enter Tryd.func23, Tryd.ntmps23
      go_wp2_with (first | rw [HE.out] | (refine wpList_load_row rfl 35 (.tmp 3) rfl w.heap.size rfl 35 (n.cells (.slice bo n.body.length bc)) (0, 0) _ P1.out Tryd.underlying35 rfl (by kernel_rfl) ?_))
      refine (rright_any n bo bc W).mono ?_
      rintro e w2 ⟨rfl, s2⟩
      rw [hr]
      have P2 := Lib.hid (s2.blk P1.out (fun s => s.elim))
      have R2 := Lib.hid (R1.out.still s2)
      have S2 := Lib.hid (S1.out.then_ s2)
      have kc := blk_cell P2.out
      have x0 := kc 0
      have x8 := kc 8
      have x9 := kc 9
      simp only [Note.cells, List.getElem?_toArray, List.getElem?_cons_zero, List.getElem?_cons_succ] at x0 x8 x9
      clear kc s2 P1 R1 S1
      go_wp2_with fail
      refine (has_any g b s n.port _ R2.out).mono ?_
      rintro e wz ⟨rfl, rfl⟩
      rw [hp]
      have C2 := R2.out.cells
      obtain ⟨cl, cs, -⟩ := C2
      rw [hs] at cs
      obtain ⟨l0, l1, l2⟩ := R2.out.link hkl
      have fz1 := (R2.out.frz (k * 3 + 1)).1
      have fz2 := (R2.out.frz (k * 3 + 2)).1
      go_wp2_with fail
      refine wp_region_plan (fun w' => w'.cell? ⟨g, 0, none⟩ = some (.slice (some ⟨b, 0, none⟩) s.ls.length s.ls.length) ∧ w'.cell? ⟨b, k * 3 + 1, none⟩ = some (.int .i64 (s.get ((k : Int) + 1)).owed) ∧ w'.cell? ⟨b, k * 3 + 2, none⟩ = some (.bool (s.get ((k : Int) + 1)).down) ∧ w'.cell? ⟨w.heap.size, 9, none⟩ = some (.int .i64 n.state)) (.take 0 (.take 1 (.take 2 (.take 3 (.take 4 (.take 5 (.take 6 (.take 7 (.take 8 (.take 9 (.last 10))))))))))) _
        (by simp only [Plan.map, opOf, List.getElem?_toArray, List.getElem?_cons_zero, List.getElem?_cons_succ, Option.getD_some]; rfl) (by kernel_rfl) (by kernel_rfl) (by kernel_rfl) (by decide) (by intro c a d v w; cases d <;> exact fun h => h)
        ⟨cl, l1, l2, x9⟩ ?_
      repeat (first | (refine wpPlan.taken (by rfl) (by intro w' hS'; (try dsimp only at hS'); go_split_ands; go_simp; try with_reducible rfl) ?_; simp only [Act.put, List.setIfInBounds_toArray, List.set_cons_zero, List.set_cons_succ]) | (refine wpPlan.passed (by rfl) ?_; simp only [Act.put, List.setIfInBounds_toArray, List.set_cons_zero, List.set_cons_succ]))
      refine wpPlan.ends fun K' hK => ?_
      go_simp
      refine hK.out _ _ ?_
      clear hK K'
      have r3 := (R2.out.setLink (by decide) hkl (j := 2) (by decide) (v := (.bool false)) (l := { s.get ((k : Int) + 1) with down := false }) rfl).still ((Step.refl None _).drew)
      have t3 := ((Step.refl (· = b) w2).setCell (p := ⟨b, k * 3 + 2, none⟩) (fun _ => rfl) (.bool false)).drew
      obtain ⟨W3, hW3⟩ : ∃ W3, (w2.setCell ⟨b, k * 3 + 2, none⟩ (.bool false)).drew = W3 := ⟨_, rfl⟩
      (try rw [if_neg (show ¬ (s.get ((k : Int) + 1)).owed - 1 < 0 by omega)])
      rw [hW3]
      rw [hW3] at r3 t3
      have HE3 := Lib.hid hW3
      have NX : Hid (w.heap.size ≠ b) := Lib.hid (blk_ne P2.out R2.out.row (by decide))
      have P3 := Lib.hid (t3.blk P2.out NX.out)
      have kc := blk_cell P3.out
      have z0 := kc 0
      have z8 := kc 8
      have z9 := kc 9
      simp only [Note.cells, List.getElem?_toArray, List.getElem?_cons_zero, List.getElem?_cons_succ] at z0 z8 z9
      have R3 := Lib.hid r3
      have S3 := Lib.hid ((S2.out.none).then_ t3)
      clear kc r3 t3 hW3
      have p4 := heap_alloc_new W3 (.cells #[.int .i64 4, .int .i64 0, .int .u8 0, .int .u8 0, .int .u8 0, .int .u8 0, .int .u8 0, .int .u8 0, .int .i64 n.port, .int .i64 1, .slice none 0 0] 35)
      have s4 := (Step.refl None W3).alloc (.cells #[.int .i64 4, .int .i64 0, .int .u8 0, .int .u8 0, .int .u8 0, .int .u8 0, .int .u8 0, .int .u8 0, .int .i64 n.port, .int .i64 1, .slice none 0 0] 35)
      have F : Hid (Tells (W3.alloc (.cells #[.int .i64 4, .int .i64 0, .int .u8 0, .int .u8 0, .int .u8 0, .int .u8 0, .int .u8 0, .int .u8 0, .int .i64 n.port, .int .i64 1, .slice none 0 0] 35)) w.heap.size (.slice (some ⟨W3.heap.size, 0, none⟩) 1 1) [⟨4, n.port, 1⟩] ∧ Rep 67 74 (W3.alloc (.cells #[.int .i64 4, .int .i64 0, .int .u8 0, .int .u8 0, .int .u8 0, .int .u8 0, .int .u8 0, .int .u8 0, .int .i64 n.port, .int .i64 1, .slice none 0 0] 35)) g b (s.put ((k : Int) + 1) { s.get ((k : Int) + 1) with down := false }) ∧ Step (· = b) w (W3.alloc (.cells #[.int .i64 4, .int .i64 0, .int .u8 0, .int .u8 0, .int .u8 0, .int .u8 0, .int .u8 0, .int .u8 0, .int .i64 n.port, .int .i64 1, .slice none 0 0] 35))) := Lib.hid ⟨Tells.one (t := ⟨4, n.port, 1⟩) p4 (by have := S3.out.size; omega), R3.out.still s4, S3.out.then_ s4.none⟩
      clear p4 s4
      go_wp2_with fail
      go_ret2
      exact ⟨_, rfl, F.out⟩
    · have e0 : s.take true n.kind n.port n.state = (s.put ((k : Int) + 1) { s.get ((k : Int) + 1) with down := true }, [], 0) := by
        have hk3 : n.kind = 3 := by simpa using k3
        have hz' : n.state = 0 := by simpa using hz
        simp only [Shk.take, hk3, hp, hs, hz']
        rw [hpk]
        simp
      rw [e0]
      clear e0
      clear hk
      have w1 : wrap64 (n.port - 1) = k := by unfold wrap64; omega
      have u1 : IntKind.i64.wrap (n.port - 1) = k := by rw [IntKind.wrap_i64]; omega
      have i1 : (k : Int) < (s.ls.length : Int) := by omega
      have i0 : (0 : Int) ≤ (k : Int) := by omega
      clear ho hpk
      go_enter Tryd.func23, Tryd.ntmps23
      go_wp2_with (first | rw [HE.out] | (refine wpList_load_row rfl 35 (.tmp 3) rfl w.heap.size rfl 35 (n.cells (.slice bo n.body.length bc)) (0, 0) _ P1.out Tryd.underlying35 rfl (by kernel_rfl) ?_))
      refine (rright_any n bo bc W).mono ?_
      rintro e w2 ⟨rfl, s2⟩
      rw [hr]
      have P2 := Lib.hid (s2.blk P1.out (fun s => s.elim))
      have R2 := Lib.hid (R1.out.still s2)
      have S2 := Lib.hid (S1.out.then_ s2)
      have kc := blk_cell P2.out
      have x0 := kc 0
      have x8 := kc 8
      have x9 := kc 9
      simp only [Note.cells, List.getElem?_toArray, List.getElem?_cons_zero, List.getElem?_cons_succ] at x0 x8 x9
      clear kc s2 P1 R1 S1
      go_wp2_with fail
      refine (has_any g b s n.port _ R2.out).mono ?_
      rintro e wz ⟨rfl, rfl⟩
      rw [hp]
      have C2 := R2.out.cells
      obtain ⟨cl, cs, -⟩ := C2
      rw [hs] at cs
      obtain ⟨l0, l1, l2⟩ := R2.out.link hkl
      have fz1 := (R2.out.frz (k * 3 + 1)).1
      have fz2 := (R2.out.frz (k * 3 + 2)).1
      go_wp2_with fail
      refine wp_region_plan (fun w' => w'.cell? ⟨g, 0, none⟩ = some (.slice (some ⟨b, 0, none⟩) s.ls.length s.ls.length) ∧ w'.cell? ⟨b, k * 3 + 1, none⟩ = some (.int .i64 (s.get ((k : Int) + 1)).owed) ∧ w'.cell? ⟨b, k * 3 + 2, none⟩ = some (.bool (s.get ((k : Int) + 1)).down) ∧ w'.cell? ⟨w.heap.size, 9, none⟩ = some (.int .i64 n.state)) (.take 0 (.take 1 (.take 2 (.take 3 (.take 4 (.take 5 (.take 6 (.take 7 (.take 8 (.take 9 (.last 10))))))))))) _
        (by simp only [Plan.map, opOf, List.getElem?_toArray, List.getElem?_cons_zero, List.getElem?_cons_succ, Option.getD_some]; rfl) (by kernel_rfl) (by kernel_rfl) (by kernel_rfl) (by decide) (by intro c a d v w; cases d <;> exact fun h => h)
        ⟨cl, l1, l2, x9⟩ ?_
      repeat (first | (refine wpPlan.taken (by rfl) (by intro w' hS'; (try dsimp only at hS'); go_split_ands; go_simp; try with_reducible rfl) ?_; simp only [Act.put, List.setIfInBounds_toArray, List.set_cons_zero, List.set_cons_succ]) | (refine wpPlan.passed (by rfl) ?_; simp only [Act.put, List.setIfInBounds_toArray, List.set_cons_zero, List.set_cons_succ]))
      refine wpPlan.ends fun K' hK => ?_
      go_simp
      refine hK.out _ _ ?_
      clear hK K'
      have r3 := (R2.out.setLink (by decide) hkl (j := 2) (by decide) (v := (.bool true)) (l := { s.get ((k : Int) + 1) with down := true }) rfl).still ((Step.refl None _).drew)
      have t3 := ((Step.refl (· = b) w2).setCell (p := ⟨b, k * 3 + 2, none⟩) (fun _ => rfl) (.bool true)).drew
      obtain ⟨W3, hW3⟩ : ∃ W3, (w2.setCell ⟨b, k * 3 + 2, none⟩ (.bool true)).drew = W3 := ⟨_, rfl⟩
      (try rw [if_neg (show ¬ (s.get ((k : Int) + 1)).owed - 1 < 0 by omega)])
      rw [hW3]
      rw [hW3] at r3 t3
      have HE3 := Lib.hid hW3
      have NX : Hid (w.heap.size ≠ b) := Lib.hid (blk_ne P2.out R2.out.row (by decide))
      have P3 := Lib.hid (t3.blk P2.out NX.out)
      have kc := blk_cell P3.out
      have z0 := kc 0
      have z8 := kc 8
      have z9 := kc 9
      simp only [Note.cells, List.getElem?_toArray, List.getElem?_cons_zero, List.getElem?_cons_succ] at z0 z8 z9
      have R3 := Lib.hid r3
      have S3 := Lib.hid ((S2.out.none).then_ t3)
      clear kc r3 t3 hW3
      go_wp2_with fail
      go_ret2
      exact ⟨_, rfl, Tells.nil _ _, R3.out, S3.out⟩
  · have k3 : (n.kind == 3) = false := by simp at k4 ⊢; omega
    have k3n : (n.kind != 3) = true := by simp at k3 ⊢; omega
    have k4n : (n.kind != 4) = false := by simp at k4 ⊢; omega
    have e0 : s.take true n.kind n.port n.state = (s.put ((k : Int) + 1) { s.get ((k : Int) + 1) with owed := max ((s.get ((k : Int) + 1)).owed - 1) 0 }, [], 0) := by
      have hk4 : n.kind = 4 := by simpa using k4
      simp only [Shk.take, hk4, hp, hs]
      rw [hpk]
      simp
    rw [e0]
    clear e0
    clear hk
    have hwo := ho.get hm ((k : Int) + 1)
    have w3 : wrap64 ((s.get ((k : Int) + 1)).owed - 1) = (s.get ((k : Int) + 1)).owed - 1 := by unfold wrap64; omega
    have u3 : IntKind.i64.wrap ((s.get ((k : Int) + 1)).owed - 1) = (s.get ((k : Int) + 1)).owed - 1 := by rw [IntKind.wrap_i64]; omega
    have w1 : wrap64 (n.port - 1) = k := by unfold wrap64; omega
    have u1 : IntKind.i64.wrap (n.port - 1) = k := by rw [IntKind.wrap_i64]; omega
    have i1 : (k : Int) < (s.ls.length : Int) := by omega
    have i0 : (0 : Int) ≤ (k : Int) := by omega
    clear ho hpk
    by_cases hx : (s.get ((k : Int) + 1)).owed - 1 < 0
    · have hmx : max ((s.get ((k : Int) + 1)).owed - 1) 0 = 0 := by omega
      rw [hmx]
      have hx2 : ¬ 0 ≤ (s.get ((k : Int) + 1)).owed - 1 := by omega
      clear hmx hwo
      go_enter Tryd.func23, Tryd.ntmps23
      go_wp2_with (first | rw [HE.out] | (refine wpList_load_row rfl 35 (.tmp 3) rfl w.heap.size rfl 35 (n.cells (.slice bo n.body.length bc)) (0, 0) _ P1.out Tryd.underlying35 rfl (by kernel_rfl) ?_))
      refine (rright_any n bo bc W).mono ?_
      rintro e w2 ⟨rfl, s2⟩
      rw [hr]
      have P2 := Lib.hid (s2.blk P1.out (fun s => s.elim))
      have R2 := Lib.hid (R1.out.still s2)
      have S2 := Lib.hid (S1.out.then_ s2)
      have kc := blk_cell P2.out
      have x0 := kc 0
      have x8 := kc 8
      have x9 := kc 9
      simp only [Note.cells, List.getElem?_toArray, List.getElem?_cons_zero, List.getElem?_cons_succ] at x0 x8 x9
      clear kc s2 P1 R1 S1
      go_wp2_with fail
      refine (has_any g b s n.port _ R2.out).mono ?_
      rintro e wz ⟨rfl, rfl⟩
      rw [hp]
      have C2 := R2.out.cells
      obtain ⟨cl, cs, -⟩ := C2
      rw [hs] at cs
      obtain ⟨l0, l1, l2⟩ := R2.out.link hkl
      have fz1 := (R2.out.frz (k * 3 + 1)).1
      have fz2 := (R2.out.frz (k * 3 + 2)).1
      go_wp2_with fail
      refine wp_region_plan (fun w' => w'.cell? ⟨g, 0, none⟩ = some (.slice (some ⟨b, 0, none⟩) s.ls.length s.ls.length) ∧ w'.cell? ⟨b, k * 3 + 1, none⟩ = some (.int .i64 (s.get ((k : Int) + 1)).owed) ∧ w'.cell? ⟨b, k * 3 + 2, none⟩ = some (.bool (s.get ((k : Int) + 1)).down) ∧ w'.cell? ⟨w.heap.size, 9, none⟩ = some (.int .i64 n.state)) (.take 0 (.take 1 (.take 2 (.take 3 (.take 4 (.take 5 (.take 6 (.take 7 (.take 8 (.take 9 (.take 10 (.take 11 (.take 12 (.take 13 (.alt 14 (.take 15 (.take 16 (.last 17))) .none))))))))))))))) _
        (by simp only [Plan.map, opOf, List.getElem?_toArray, List.getElem?_cons_zero, List.getElem?_cons_succ, Option.getD_some]; rfl) (by kernel_rfl) (by kernel_rfl) (by kernel_rfl) (by decide) (by intro c a d v w; cases d <;> exact fun h => h)
        ⟨cl, l1, l2, x9⟩ ?_
      repeat (first | (refine wpPlan.taken (by rfl) (by intro w' hS'; (try dsimp only at hS'); go_split_ands; go_simp; try with_reducible rfl) ?_; simp only [Act.put, List.setIfInBounds_toArray, List.set_cons_zero, List.set_cons_succ]) | (refine wpPlan.passed (by rfl) ?_; simp only [Act.put, List.setIfInBounds_toArray, List.set_cons_zero, List.set_cons_succ]))
      refine wpPlan.runs fun K' hK => ?_
      go_simp
      refine hK.out _ _ ⟨cl, l1, l2, x9⟩ ?_
      clear hK K'
      repeat (first | (refine wpPlan.taken (by rfl) (by intro w' hS'; (try dsimp only at hS'); go_split_ands; go_simp; try with_reducible rfl) ?_; simp only [Act.put, List.setIfInBounds_toArray, List.set_cons_zero, List.set_cons_succ]) | (refine wpPlan.passed (by rfl) ?_; simp only [Act.put, List.setIfInBounds_toArray, List.set_cons_zero, List.set_cons_succ]))
      refine wpPlan.ends fun K' hK => ?_
      go_simp
      refine hK.out _ _ ?_
      clear hK K'
      have r3 := (R2.out.setLink (by decide) hkl (j := 1) (by decide) (v := (.int .i64 (0))) (l := { s.get ((k : Int) + 1) with owed := 0 }) rfl).still ((Step.refl None _).drew)
      have t3 := ((Step.refl (· = b) w2).setCell (p := ⟨b, k * 3 + 1, none⟩) (fun _ => rfl) (.int .i64 (0))).drew
      obtain ⟨W3, hW3⟩ : ∃ W3, (w2.setCell ⟨b, k * 3 + 1, none⟩ (.int .i64 (0))).drew = W3 := ⟨_, rfl⟩
      (try rw [if_neg (show ¬ (s.get ((k : Int) + 1)).owed - 1 < 0 by omega)])
      rw [hW3]
      rw [hW3] at r3 t3
      have HE3 := Lib.hid hW3
      have NX : Hid (w.heap.size ≠ b) := Lib.hid (blk_ne P2.out R2.out.row (by decide))
      have P3 := Lib.hid (t3.blk P2.out NX.out)
      have kc := blk_cell P3.out
      have z0 := kc 0
      have z8 := kc 8
      have z9 := kc 9
      simp only [Note.cells, List.getElem?_toArray, List.getElem?_cons_zero, List.getElem?_cons_succ] at z0 z8 z9
      have R3 := Lib.hid r3
      have S3 := Lib.hid ((S2.out.none).then_ t3)
      clear kc r3 t3 hW3
      go_wp2_with fail
      go_ret2
      exact ⟨_, rfl, Tells.nil _ _, R3.out, S3.out⟩
    · have hmx : max ((s.get ((k : Int) + 1)).owed - 1) 0 = (s.get ((k : Int) + 1)).owed - 1 := by omega
      rw [hmx]
      have hx2 : 0 ≤ (s.get ((k : Int) + 1)).owed - 1 := by omega
      clear hmx hwo
      go_enter Tryd.func23, Tryd.ntmps23
      go_wp2_with (first | rw [HE.out] | (refine wpList_load_row rfl 35 (.tmp 3) rfl w.heap.size rfl 35 (n.cells (.slice bo n.body.length bc)) (0, 0) _ P1.out Tryd.underlying35 rfl (by kernel_rfl) ?_))
      refine (rright_any n bo bc W).mono ?_
      rintro e w2 ⟨rfl, s2⟩
      rw [hr]
      have P2 := Lib.hid (s2.blk P1.out (fun s => s.elim))
      have R2 := Lib.hid (R1.out.still s2)
      have S2 := Lib.hid (S1.out.then_ s2)
      have kc := blk_cell P2.out
      have x0 := kc 0
      have x8 := kc 8
      have x9 := kc 9
      simp only [Note.cells, List.getElem?_toArray, List.getElem?_cons_zero, List.getElem?_cons_succ] at x0 x8 x9
      clear kc s2 P1 R1 S1
      go_wp2_with fail
      refine (has_any g b s n.port _ R2.out).mono ?_
      rintro e wz ⟨rfl, rfl⟩
      rw [hp]
      have C2 := R2.out.cells
      obtain ⟨cl, cs, -⟩ := C2
      rw [hs] at cs
      obtain ⟨l0, l1, l2⟩ := R2.out.link hkl
      have fz1 := (R2.out.frz (k * 3 + 1)).1
      have fz2 := (R2.out.frz (k * 3 + 2)).1
      go_wp2_with fail
      refine wp_region_plan (fun w' => w'.cell? ⟨g, 0, none⟩ = some (.slice (some ⟨b, 0, none⟩) s.ls.length s.ls.length) ∧ w'.cell? ⟨b, k * 3 + 1, none⟩ = some (.int .i64 (s.get ((k : Int) + 1)).owed) ∧ w'.cell? ⟨b, k * 3 + 2, none⟩ = some (.bool (s.get ((k : Int) + 1)).down) ∧ w'.cell? ⟨w.heap.size, 9, none⟩ = some (.int .i64 n.state)) (.take 0 (.take 1 (.take 2 (.take 3 (.take 4 (.take 5 (.take 6 (.take 7 (.take 8 (.take 9 (.take 10 (.take 11 (.take 12 (.take 13 (.alt 14 (.take 15 (.take 16 (.last 17))) .none))))))))))))))) _
        (by simp only [Plan.map, opOf, List.getElem?_toArray, List.getElem?_cons_zero, List.getElem?_cons_succ, Option.getD_some]; rfl) (by kernel_rfl) (by kernel_rfl) (by kernel_rfl) (by decide) (by intro c a d v w; cases d <;> exact fun h => h)
        ⟨cl, l1, l2, x9⟩ ?_
      repeat (first | (refine wpPlan.taken (by rfl) (by intro w' hS'; (try dsimp only at hS'); go_split_ands; go_simp; try with_reducible rfl) ?_; simp only [Act.put, List.setIfInBounds_toArray, List.set_cons_zero, List.set_cons_succ]) | (refine wpPlan.passed (by rfl) ?_; simp only [Act.put, List.setIfInBounds_toArray, List.set_cons_zero, List.set_cons_succ]))
      refine wpPlan.runs fun K' hK => ?_
      go_simp
      refine hK.out _ _ ⟨cl, l1, l2, x9⟩ ?_
      clear hK K'
      repeat (first | (refine wpPlan.taken (by rfl) (by intro w' hS'; (try dsimp only at hS'); go_split_ands; go_simp; try with_reducible rfl) ?_; simp only [Act.put, List.setIfInBounds_toArray, List.set_cons_zero, List.set_cons_succ]) | (refine wpPlan.passed (by rfl) ?_; simp only [Act.put, List.setIfInBounds_toArray, List.set_cons_zero, List.set_cons_succ]))
      refine wpPlan.ends fun K' hK => ?_
      go_simp
      refine hK.out _ _ ?_
      clear hK K'
      have r3 := (R2.out.setLink (by decide) hkl (j := 1) (by decide) (v := (.int .i64 ((s.get ((k : Int) + 1)).owed - 1))) (l := { s.get ((k : Int) + 1) with owed := (s.get ((k : Int) + 1)).owed - 1 }) rfl).still ((Step.refl None _).drew)
      have t3 := ((Step.refl (· = b) w2).setCell (p := ⟨b, k * 3 + 1, none⟩) (fun _ => rfl) (.int .i64 ((s.get ((k : Int) + 1)).owed - 1))).drew
      obtain ⟨W3, hW3⟩ : ∃ W3, (w2.setCell ⟨b, k * 3 + 1, none⟩ (.int .i64 ((s.get ((k : Int) + 1)).owed - 1))).drew = W3 := ⟨_, rfl⟩
      (try rw [if_neg (show ¬ (s.get ((k : Int) + 1)).owed - 1 < 0 by omega)])
      rw [hW3]
      rw [hW3] at r3 t3
      have HE3 := Lib.hid hW3
      have NX : Hid (w.heap.size ≠ b) := Lib.hid (blk_ne P2.out R2.out.row (by decide))
      have P3 := Lib.hid (t3.blk P2.out NX.out)
      have kc := blk_cell P3.out
      have z0 := kc 0
      have z8 := kc 8
      have z9 := kc 9
      simp only [Note.cells, List.getElem?_toArray, List.getElem?_cons_zero, List.getElem?_cons_succ] at z0 z8 z9
      have R3 := Lib.hid r3
      have S3 := Lib.hid ((S2.out.none).then_ t3)
      clear kc r3 t3 hW3
      go_wp2_with fail
      go_ret2
      exact ⟨_, rfl, Tells.nil _ _, R3.out, S3.out⟩

end Go.Proofs.YthebgpbofjgcoaaDoor
