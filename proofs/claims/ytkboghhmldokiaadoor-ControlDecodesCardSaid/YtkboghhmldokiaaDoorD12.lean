/- ControlDecodes, walked. -/
import Derived.Test.YtkboghhmldokiaaDoorD11
import Derived.Test.YtkboghhmldokiaaDoorD8
namespace Go.Proofs.YtkboghhmldokiaaDoor
open Go.RowKit Go.Gm

set_option maxRecDepth 100000 in
set_option maxHeartbeats 8000000 in
theorem controlDecodes_walk (v0 : Value) (w : World) (hT : HasAt 0 w) (h0 : Arg w (.slice 1 1 (.int .u8)) v0) :
    Calls Tryd.prog 7 #[v0] w fun e w' => e = .returned (.bool true) ∧ Below w.heap.size w w' := by
  obtain ⟨l, hr, sr, rlen⟩ := arg_seg h0
  clear h0
  obtain ⟨ro, rc, ev⟩ := hr.form
  subst ev
  have T := Lib.hid hT
  have SM := Lib.hid sr
  have HR := Lib.hid hr
  have q2 : ((l.length : Int) ≤ 9223372036854775807) := by omega
  clear hT sr hr rlen
  go_enter Tryd.func7, Tryd.ntmps7
  go_wp2_with fail
  refine (awake_any _ T.out).mono ?_
  rintro e w2 ⟨rfl, s2⟩
  have S2 := Lib.hid s2
  clear s2
  by_cases hm : l.length ≤ 3000
  rotate_left
  · have d3 : decide ((3000 : Int) < (l.length : Int)) = true := decide_eq_true (by omega)
    have d4 : decide (3000 < l.length) = true := decide_eq_true (by omega)
    clear hm
    go_wp2_with fail
    go_ret
    exact ⟨rfl, S2.out.toBelow⟩
  have d3 : decide ((3000 : Int) < (l.length : Int)) = false := decide_eq_false (by omega)
  have d4 : decide (3000 < l.length) = false := decide_eq_false (by omega)
  have HN := Lib.hid hm
  have DE := Lib.hid (decode_any _ l w2 (T.out.still S2.out) SM.out (HR.out.still S2.out))
  have RD : Hid (∀ w', Step None w w' → Calls Tryd.prog 21 #[.slice ro l.length rc] w' fun e w'' => ∃ bo bc, e = .returned (.tuple #[.agg ((decN l).packet (decE l) (decS l) (decA l) (.slice bo (decN l).body.length bc)), .int .i64 (decCode l)]) ∧ Bytes w'' (.slice bo (decN l).body.length bc) (decN l).body ∧ Step None w' w'') := Lib.hid fun w' h' => rdecode_any _ l w' SM.out (HR.out.still h') (by have := HN.out; omega)
  clear hm
  generalize decN l = dn at *
  generalize decE l = de at *
  generalize decS l = ds at *
  generalize decA l = da at *
  generalize decCode l = dc at *
  go_wp2_with fail
  clear d3 d4
  refine DE.out.mono ?_
  rintro e w4 ⟨p1, p2, rfl, by4, s4⟩
  have hp := laid_pkt w4 (dn.packet de ds da (.slice p1 dn.body.length p2))
  obtain ⟨W5, hW5⟩ : ∃ W5, (w4.alloc (.cells #[.int .i64 0, .int .i64 0, .int .i64 0, .int .i64 0, .int .i64 0, .int .u8 0, .int .u8 0, .int .u8 0, .int .u8 0, .int .u8 0, .int .u8 0, .int .i64 0, .int .i64 0, .slice none 0 0] 28)).setRow w4.heap.size (dn.packet de ds da (.slice p1 dn.body.length p2)) = W5 := ⟨_, rfl⟩
  rw [hW5] at hp
  have HE5 := Lib.hid hW5
  have S5 := Lib.hid ((S2.out.then_ s4).then_ hp.2)
  have P5 := Lib.hid hp.1
  have B5 := Lib.hid (by4.step hp.2 (fun _ _ s => s.elim))
  clear hW5 hp s4 by4 DE S2
  go_wp2_with (first
    | rw [HE5.out]
    | (refine wpList_store_row rfl 28 (.tmp 4) (.tmp 21) rfl w4.heap.size (dn.packet de ds da (.slice p1 dn.body.length p2)) rfl rfl 28 _ (heap_alloc_new w4 _) (by kernel_rfl) rfl (by simp [Note.packet, Value.oneCell']) ?_))
  refine (RD.out W5 S5.out).mono ?_
  rintro e w6 ⟨p3, p4, rfl, by6, s6⟩
  have hp := laid_pkt w6 (dn.packet de ds da (.slice p3 dn.body.length p4))
  obtain ⟨W7, hW7⟩ : ∃ W7, (w6.alloc (.cells #[.int .i64 0, .int .i64 0, .int .i64 0, .int .i64 0, .int .i64 0, .int .u8 0, .int .u8 0, .int .u8 0, .int .u8 0, .int .u8 0, .int .u8 0, .int .i64 0, .int .i64 0, .slice none 0 0] 28)).setRow w6.heap.size (dn.packet de ds da (.slice p3 dn.body.length p4)) = W7 := ⟨_, rfl⟩
  rw [hW7] at hp
  have HE7 := Lib.hid hW7
  have S7 := Lib.hid ((S5.out.then_ s6).then_ hp.2)
  have LA := Lib.hid (load_pkt (hp.2.blk (s6.blk P5.out (fun s => s.elim)) (fun s => s.elim)))
  have LB := Lib.hid (load_pkt hp.1)
  have SA := Lib.hid (sameP_any de ds da de ds da dn dn p1 p3 p2 p4 W7 ((B5.out.step s6 (fun _ _ s => s.elim)).step hp.2 (fun _ _ s => s.elim)) (by6.step hp.2 (fun _ _ s => s.elim)))
  rw [show sameP de ds da dn de ds da dn = true by simp [sameP, sameN_refl]] at SA
  clear hW7 hp s6 by6 S5 P5 B5 HE5
  go_wp2_with (first
    | rw [HE7.out]
    | (refine wpList_store_row rfl 28 (.tmp 6) (.tmp 26) rfl w6.heap.size (dn.packet de ds da (.slice p3 dn.body.length p4)) rfl rfl 28 _ (heap_alloc_new w6 _) (by kernel_rfl) rfl (by simp [Note.packet, Value.oneCell']) ?_)
    | (refine wpList_load_is 28 (.tmp 4) rfl rfl rfl LA.out ?_)
    | (refine wpList_load_is 28 (.tmp 6) rfl rfl rfl LB.out ?_))
  refine SA.out.mono ?_
  rintro e w8 ⟨rfl, s8⟩
  have S8 := Lib.hid (S7.out.then_ s8)
  clear s8 SA LA LB HE7
  go_wp2_with fail
  go_ret
  exact ⟨by simp, S8.out.toBelow⟩
end Go.Proofs.YtkboghhmldokiaaDoor
