/- The closure that puts the body. -/
import Derived.Test.YtgchepijbpcckaaDoorK3
namespace Go.Proofs.YtgchepijbpcckaaDoor
open Go.RowKit Go.Gm

theorem more_body (g : Nat) (n : Note) (bo : Option Addr) (bc : Nat) (u : Value) (l : List Int) (w : World) {B : Nat} (hn : NoteAt w g n (.slice bo n.body.length bc)) (h : Buf 5 w B u l) (hB : B ≤ w.heap.size) (hl : l.length ≤ 50000)
    (hbl : n.body.length ≤ 10000) (hb : ∀ w', Below B w w' → Bytes w' (.slice bo n.body.length bc) n.body) :
    Calls Tryd.prog 45 #[u, .pointer (some ⟨g, 0, none⟩)] w fun e w' => ∃ u', e = .returned u' ∧ Grew 5 w w' B u u' (l ++ (two n.body.length ++ n.body)) := by
  have H := Lib.hid h
  have HB := Lib.hid hb
  have K : Hid (∀ w', Step (Typ [5] B w) w w' → w'.cell? ⟨g, 10, none⟩ = some (.slice bo n.body.length bc)) := fun w' hs => blk_cell (hs.blk hn (Typ.not hn (by decide))) 10
  clear h hn hb
  go_enter Tryd.func45, Tryd.ntmps45
  go_wp2_with fail
  refine wp_region_plan (fun w' => w'.cell? ⟨g, 10, none⟩ = some (.slice bo n.body.length bc)) (.take 0 (.take 1 (.take 2 (.take 3 (.take 5 (.take 6 (.alt 4 (.alt 7 (.take 8 .done) .none) .none))))))) _
    (by simp only [Plan.map, opOf, List.getElem?_toArray, List.getElem?_cons_zero, List.getElem?_cons_succ, Option.getD_some]; rfl) (by kernel_rfl) (by kernel_rfl) (by kernel_rfl) (by decide) (by intro c a d v w; cases d <;> exact fun h => h) (K.out _ ((Step.refl _ _).drewN 1)) ?_
  repeat (refine wpPlan.taken (by rfl) (by intro w' hS'; (try dsimp only at hS'); go_split_ands; go_simp; try with_reducible rfl) ?_; simp only [Act.put, List.setIfInBounds_toArray, List.set_cons_zero, List.set_cons_succ])
  refine wpPlan.runs fun K' hK => ?_
  go_simp
  refine (short_any u l n.body.length w.drew (H.out.still ((Step.refl None w).drew)) hB (by omega)).mono ?_
  rintro e w1 ⟨u1, rfl, g1⟩
  have t1 : Step (Typ [5] B w) w w1 := ((Step.refl _ w).drew).then_ (g1.typ (H.out.still ((Step.refl None w).drew)))
  obtain ⟨uo, ucap, rfl⟩ := g1.buf.form
  refine hK.out _ _ (K.out _ t1) ?_
  clear hK K'
  refine wpPlan.runs fun K' hK => ?_
  refine step_append_row T24 (by rfl) (.tmp 8) (.tmp 10) (by rfl) (by rfl) g1.buf.row (by rfl) ((HB.out w1 (t1.typBelow hB)).src Tryd.underlying34) (by simp [maxLen]; omega) (by simp; omega) ?_
  intro v2 w2 hr2 hs2 hl2
  have g2 := g1.trans (g1.buf.grew (more := n.body) (by have := t1.size; omega) (Step.refl None w1) hr2 hs2 hl2)
  have t2 : Step (Typ [5] B w) w w2 := ((Step.refl _ w).drew).then_ (g2.typ (H.out.still ((Step.refl None w).drew)))
  refine hK.out _ _ (K.out _ t2) ?_
  clear hK K'
  have G : Hid (Grew 5 w w2 B u v2 (l ++ (two n.body.length ++ n.body))) := by
    refine Lib.hid ⟨by have := g2.buf; simpa [two] using this, ((Step.refl (Leads u) w).drew).then_ g2.step, g2.new⟩
  clear g1 g2 t1 t2 hr2 hs2 hl2
  repeat (refine wpPlan.taken (by rfl) (by intro w' hS'; (try dsimp only at hS'); go_split_ands; go_simp; try with_reducible rfl) ?_; simp only [Act.put, List.setIfInBounds_toArray, List.set_cons_zero, List.set_cons_succ])
  refine wpPlan.done ?_
  go_wp2_with fail
  go_ret
  exact ⟨v2, rfl, G.out⟩

end Go.Proofs.YtgchepijbpcckaaDoor
