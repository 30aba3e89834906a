/- ControlAlive, walked. -/
import Derived.Test.YtkboghhmldokiaaDoorW21
namespace Go.Proofs.YtkboghhmldokiaaDoor
open Go.RowKit Go.Gm

theorem told_not {l : List Int} (h : l.length ≠ 8) : told l = toldNo := by
  match l, h with
  | [], _ => rfl
  | [_], _ => rfl
  | [_, _], _ => rfl
  | [_, _, _], _ => rfl
  | [_, _, _, _], _ => rfl
  | [_, _, _, _, _], _ => rfl
  | [_, _, _, _, _, _], _ => rfl
  | [_, _, _, _, _, _, _], _ => rfl
  | [_, _, _, _, _, _, _, _], h => exact absurd rfl h
  | _ :: _ :: _ :: _ :: _ :: _ :: _ :: _ :: _ :: _, _ => rfl

theorem rtold_any (b off cap : Nat) (l : List Int) (w : World) (hcap : l.length ≤ cap) (hs : Small l) (hb : b < w.heap.size) (hc : ∀ j x, l[j]? = some x → w.cell? ⟨b, off + j, none⟩ = some (.int .u8 x)) :
    Calls Tryd.prog 19 #[.slice (some ⟨b, off, none⟩) l.length cap] w fun e w' => e = .returned (.tuple (told l)) ∧ Step None w w' := by
  by_cases h : l.length = 8
  · match l, h with
    | [a, x0, x1, x2, x3, y0, y1, z], _ => exact rtold_eight b off cap a x0 x1 x2 x3 y0 y1 z w hcap hs hb hc
  · rw [told_not h]
    exact rtold_short _ _ _ _ h

theorem told_form (l : List Int) : ∃ E P B C, told l = #[.int .i64 E, .int .i64 P, .bool B, .int .i64 C] := by
  unfold told
  split
  · split
    · exact ⟨_, _, _, _, rfl⟩
    · exact ⟨_, _, _, _, rfl⟩
  · exact ⟨_, _, _, _, rfl⟩

/-- Bytes that are handed in, and what both say that they tell. -/
theorem arg_told {w : World} {v : Value} (h : Arg w (.slice 1 1 (.int .u8)) v) : ∃ ao len cap E P B C, v = .slice ao len cap ∧ len ≤ 140737488351232 ∧
    (∀ w', Step None w w' → Calls Tryd.prog 18 #[.slice ao len cap] w' fun e w'' => e = .returned (.tuple #[.int .i64 E, .int .i64 P, .bool B, .int .i64 C]) ∧ Step None w' w'') ∧
    (∀ w', Step None w w' → Calls Tryd.prog 19 #[.slice ao len cap] w' fun e w'' => e = .returned (.tuple #[.int .i64 E, .int .i64 P, .bool B, .int .i64 C]) ∧ Step None w' w'') := by
  rcases arg_bytes h with ⟨ao, cap, rfl⟩ | ⟨b, off, cap, l, rfl, hp, hcap, hmax, hs, hb, hc⟩
  · exact ⟨ao, 0, cap, 0, 0, false, 2, rfl, by omega, fun w' _ => told_short ao 0 cap w' (by decide), fun w' _ => rtold_short ao 0 cap w' (by decide)⟩
  · obtain ⟨E, P, B, C, ht⟩ := told_form l
    have key : ∀ w', Step None w w' → b < w'.heap.size ∧ ∀ j x, l[j]? = some x → w'.cell? ⟨b, off + j, none⟩ = some (.int .u8 x) := fun w' h' =>
      ⟨Nat.lt_of_lt_of_le hb h'.size, fun j x hj => by rw [h'.cell (p := ⟨b, off + j, none⟩) hb (fun s => s.elim)]; exact hc j x hj⟩
    refine ⟨_, l.length, cap, E, P, B, C, rfl, by omega, fun w' h' => ?_, fun w' h' => ?_⟩
    · rw [← ht]; exact told_any b off cap l w' hcap hs (key w' h').1 (key w' h').2
    · rw [← ht]; exact rtold_any b off cap l w' hcap hs (key w' h').1 (key w' h').2

set_option linter.unusedSimpArgs false in
set_option maxHeartbeats 4000000 in
theorem controlAlive_walk (v0 v1 v2 : Value) (w : World) (hT : HasAt 0 w) (h0 : Arg w (.arr 2 1 (.int .i64)) v0) (h1 : Arg w .bool v1) (h2 : Arg w (.slice 1 1 (.int .u8)) v2) :
    Calls Tryd.prog 6 #[v0, v1, v2] w fun e w' => e = .returned (.bool true) ∧ Below w.heap.size w w' := by
  obtain ⟨x, y, rfl⟩ : ∃ x y, v0 = .agg #[.int .i64 x, .int .i64 y] := by
    obtain ⟨⟨l⟩, rfl, hf⟩ := h0.agg rfl
    obtain ⟨xs, hx, hl, -⟩ := Fits.intArr hf
    match xs, hl with
    | [a, b], _ => exact ⟨a, b, by rw [show l = _ from hx]; rfl⟩
  obtain ⟨prim, rfl⟩ := h1.bool
  obtain ⟨ao, len, cap, E, P, B, C, rfl, hmax, t1, t2⟩ := arg_told h2
  have T1 := Lib.hid t1
  have T2 := Lib.hid t2
  have q1 : ((len : Int) ≤ 9223372036854775807) := by omega
  clear t1 t2 h0 h1 h2
  have S1 := Lib.hid ((Step.refl None w).alloc (.cells #[.int .i64 x, .int .i64 y] 37))
  have P1 := Lib.hid (heap_alloc_new w (.cells #[.int .i64 x, .int .i64 y] 37))
  have Tb := Lib.hid hT
  clear hT
  go_enter Tryd.func6, Tryd.ntmps6
  go_wp2_with fail
  refine (awake_any _ (Tb.out.still S1.out)).mono ?_
  rintro e w2 ⟨rfl, s2⟩
  have P2 := Lib.hid (s2.blk P1.out (fun s => s.elim))
  have S2 := Lib.hid (S1.out.then_ s2)
  clear s2 P1 S1
  cases hg : decide ((1000 : Int) < (len : Int))
  rotate_left
  · go_wp2_with fail
    go_ret
    exact ⟨rfl, S2.out.toBelow⟩
  have hg2 : decide (1000 < len) = false := by simp at hg; simp; omega
  have c0 := blk_cell P2.out 0
  have c1 := blk_cell P2.out 1
  simp only [List.getElem?_toArray, List.getElem?_cons_zero, List.getElem?_cons_succ] at c0 c1
  go_wp2_with fail
  refine (alive_any x y prim _).mono ?_
  rintro e w3 ⟨u, rfl, hu, s3⟩
  have U3 := Lib.hid hu
  have S3 := Lib.hid (S2.out.then_ s3)
  have P3 := Lib.hid (s3.blk P2.out (fun s => s.elim))
  clear hu s3 c0 c1 P2 S2
  have c0 := blk_cell P3.out 0
  have c1 := blk_cell P3.out 1
  simp only [List.getElem?_toArray, List.getElem?_cons_zero, List.getElem?_cons_succ] at c0 c1
  go_wp2_with fail
  refine (ralive_any x y prim _).mono ?_
  rintro e w4 ⟨u', rfl, hu, s4⟩
  have U4 := Lib.hid (U3.out.still s4)
  have V4 := Lib.hid hu
  have S4 := Lib.hid (S3.out.then_ s4)
  clear hu s4 c0 c1 P3 S3 U3
  go_wp2_with fail
  refine (T1.out _ S4.out).mono ?_
  rintro e w5 ⟨rfl, s5⟩
  have U5 := Lib.hid (U4.out.still s5)
  have V5 := Lib.hid (V4.out.still s5)
  have S5 := Lib.hid (S4.out.then_ s5)
  clear s5 S4 U4 V4
  go_wp2_with fail
  refine (T2.out _ S5.out).mono ?_
  rintro e w6 ⟨rfl, s6⟩
  have t1 := text_of (U5.out.still s6)
  have t2 := text_of (V5.out.still s6)
  have S6 := Lib.hid (S5.out.then_ s6)
  clear s6 S5 U5 V5
  go_wp2_with fail
  go_ret
  exact ⟨by simp, S6.out.toBelow⟩

end Go.Proofs.YtkboghhmldokiaaDoor
