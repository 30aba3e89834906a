/- The document's Encode: the walk. -/
import Derived.Test.YtgchepijbpcckaaDoorK10
namespace Go.Proofs.YtgchepijbpcckaaDoor
open Go.RowKit Go.Gm

set_option maxHeartbeats 8000000 in
theorem rencode_bad (ep sq ak : Int) (n : Note) (bo : Option Addr) (bc : Nat) (w : World) (hno : okP ep sq ak n = false) :
    Calls Tryd.prog 32 #[.agg (n.packet ep sq ak (.slice bo n.body.length bc))] w fun e w' => e = .returned (.tuple #[.slice none 0 0, .int .i64 1]) ∧ Step None w w' := by
  have hp := heap_alloc_new w (.cells (n.packet ep sq ak (.slice bo n.body.length bc)) 38)
  have P1 := Lib.hid hp
  have S1 := Lib.hid ((Step.refl None w).alloc (.cells (n.packet ep sq ak (.slice bo n.body.length bc)) 38))
  clear hp
  unfold okP at hno
  unfold Note.packet at *
  go_enter Tryd.func32, Tryd.ntmps32
  go_wp2_with fail
  refine (rright_any n bo bc _).mono ?_
  rintro e w2 ⟨rfl, s2⟩
  have P2 := Lib.hid (s2.blk P1.out (fun s => s.elim))
  have S2 := Lib.hid (S1.out.then_ s2)
  clear s2
  have p0 := blk_cell P2.out 0
  have p1 := blk_cell P2.out 1
  have p2 := blk_cell P2.out 2
  simp only [List.getElem?_toArray, List.getElem?_cons_zero, List.getElem?_cons_succ] at p0 p1 p2
  clear P1 S1
  cases hr : right n
  · go_wp2_with fail
    go_ret2
    exact ⟨rfl, S2.out⟩
  · rw [hr, Bool.true_and] at hno
    go_wp2_with fail
    refine (rwithin_any _ _ _ _).mono ?_
    rintro e w3 ⟨rfl, rfl⟩
    cases h1 : isIn ep 0 1073741824
    · go_wp2_with fail
      go_ret2
      exact ⟨rfl, S2.out⟩
    · rw [show num ep = true from h1, Bool.true_and] at hno
      go_wp2_with fail
      refine (rwithin_any _ _ _ _).mono ?_
      rintro e w3 ⟨rfl, rfl⟩
      cases h2 : isIn sq 0 1073741824
      · go_wp2_with fail
        go_ret2
        exact ⟨rfl, S2.out⟩
      · rw [show num sq = true from h2, Bool.true_and] at hno
        have h3 : isIn ak 0 1073741824 = false := hno
        go_wp2_with fail
        refine (rwithin_any _ _ _ _).mono ?_
        rintro e w3 ⟨rfl, rfl⟩
        rw [h3]
        go_wp2_with fail
        go_ret2
        exact ⟨rfl, S2.out⟩

end Go.Proofs.YtgchepijbpcckaaDoor
