/- A step at both queues. -/
import Derived.Test.YtboaelkpmfagfaaW15
namespace Go.Proofs.Ytboaelkpmfagfaa
open Go.RowKit Go.Gm

structure Both (w0 w : World) (gq gr : Nat) (room : Int) (k : Nat) (X : Nat → List (List Int)) (L : Nat → Int) (W : List (Int × List Int)) : Prop where
  q : QSt w 0 gq gq room X L
  r : RSt w gq gr room W L
  link : Link X W
  law : ∀ c, c < 8 → 0 ≤ L c ∧ L c ≤ k
  base : w0.heap.size ≤ gq
  below : Below w0.heap.size w0 w

section
variable {w0 w w' : World} {gq gr : Nat} {room : Int} {k : Nat} {X : Nat → List (List Int)} {L : Nat → Int} {W : List (Int × List Int)}
theorem Both.step (h : Both w0 w gq gr room k X L W) (hs : Step None w w') : Both w0 w' gq gr room k X L W :=
  ⟨h.q.step hs (fun _ s => s.elim), h.r.step hs (fun _ s => s.elim), h.link, h.law, h.base, h.below.trans (hs.toBelow.mono h.below.size)⟩
theorem Both.later (h : Both w0 w gq gr room k X L W) : Both w0 w gq gr room (k + 1) X L W :=
  ⟨h.q, h.r, h.link, fun c hc => by have := h.law c hc; omega, h.base, h.below⟩
theorem Both.few (h : Both w0 w gq gr room k X L W) : W.length ≤ 100000 := by
  have := total_le X h.q.few 8 (Nat.le_refl _)
  rw [h.link.total] at this
  omega
theorem Both.lost (h : Both w0 w gq gr room k X L W) (hk : k ≤ 1000) : ∀ c, c < 8 → 0 ≤ L c ∧ L c ≤ 1000000 := fun c hc => by have := h.law c hc; omega
/-- The queue has moved, and then the document's. -/
theorem Both.moved {wm : World} {X' : Nat → List (List Int)} {L' : Nat → Int} {W' : List (Int × List Int)} (h : Both w0 w gq gr room k X L W) (hq : QSt wm 0 gq gq room X' L') (s1 : Step (Own gq w) w wm)
    (hr : RSt w' gq gr room W' L') (s2 : Step (fun j => j = gr) wm w') (hl : Link X' W') (hlaw : ∀ c, c < 8 → 0 ≤ L' c ∧ L' c ≤ k + 1) : Both w0 w' gq gr room (k + 1) X' L' W' := by
  have hrm := h.r.own s1
  obtain ⟨cur, v, ws, hb, -⟩ := hrm.blk
  refine ⟨hq.ref hb s2, hr, hl, hlaw, h.base, (h.below.trans (s1.belowOwn h.base h.below.size)).trans (s2.below ?_ fun j hj => ?_)⟩
  · have := h.below.size; have := s1.size; omega
  · subst hj; have := h.r.base; have := h.base; omega
end

set_option maxRecDepth 10000 in
set_option maxHeartbeats 1000000 in
theorem step_st (d c : Int) (ub : Value) (bs : List Int) (w0 w : World) {gq gr : Nat} {room : Int} {k : Nat} {X : Nat → List (List Int)} {L : Nat → Int} {W : List (Int × List Int)} (h : Both w0 w gq gr room k X L W)
    (hb : Bytes w0 ub bs) (hk : k ≤ 1000) (hroom : room ≤ 1000) :
    Calls Try.prog 15 #[.pointer (some ⟨gq, 0, none⟩), .pointer (some ⟨gr, 0, none⟩), .agg #[.int .i64 d, .int .i64 c, ub]] w fun e w' => e = .returned (.bool true) ∧ ∃ X' L' W', Both w0 w' gq gr room (k + 1) X' L' W' := by
  obtain ⟨bo, bc, rfl⟩ := hb.len
  have H := Lib.hid (h.step ((Step.refl None w).alloc (.cells #[.int .i64 d, .int .i64 c, .slice bo bs.length bc] 33)))
  have HB := Lib.hid (hb.step (Step.ofBelow H.out.below) (fun _ _ s => s.elim))
  have HB0 := Lib.hid hb
  have hlt := h.q.lt
  have hlt2 := h.r.lt
  clear h hb
  by_cases hd0 : d = 0
  · subst hd0
    go_enter Try.func15, Try.ntmps15
    go_wp2_with fail
    refine (put_st _ c _ bs _ H.out.q (by exact HB.out) (Nat.zero_le _) (by simp; omega) hroom (H.out.lost hk)).mono ?_
    rintro e w1 ⟨rfl, q1, s1⟩
    have hbox := s1.blk (heap_alloc_new w _) (Own.other (heap_alloc_new w _) (by decide) (by decide))
    have hbx0 := blk_cell hbox 0
    have hbx1 := blk_cell hbox 1
    have hbx2 := blk_cell hbox 2
    have r1 := H.out.r.own s1
    have hb1 : Bytes w1 (.slice bo bs.length bc) bs := HB0.out.step (Step.ofBelow (H.out.below.trans (s1.belowOwn H.out.base H.out.below.size))) (fun _ _ s => s.elim)
    have Q1 := Lib.hid q1
    have S1 := Lib.hid s1
    have R1 := Lib.hid r1
    have HB1 := Lib.hid hb1
    clear q1 s1 r1 hb1 hbox
    by_cases hc8 : 0 ≤ c ∧ c < 8
    · obtain ⟨cn, rfl⟩ : ∃ cn : Nat, c = cn := ⟨c.toNat, by omega⟩
      have hcn : cn < 8 := by omega
      have hX : (X cn).length = cnt W cn := by have := H.out.link.len (cn : Int); rw [lenE_nat X hcn] at this; omega
      by_cases hf : room ≤ ((X cn).length : Int)
      · have hE : putE room X cn = 3 := by simp only [putE]; rw [if_pos hc8]; simp [hf]
        rw [hE]
        go_wp2_with fail
        refine (rput_full _ cn _ _ (L := L) (W := W) (room := room) (Q := gq) (by exact R1.out) hcn H.out.few (by omega) (H.out.lost hk cn hcn)).mono ?_
        rintro e w2 ⟨rfl, r2, s2⟩
        have hL : putL room X L cn = fun d => if d = cn then L d + 1 else L d := by funext d; simp [putL, hE]
        have hn : Both w0 w2 gq gr room (k + 1) _ _ _ := H.out.moved Q1.out S1.out (by rw [hL]; exact r2) s2 (H.out.link.same bs (by rw [hE]; decide)) (fun d hd => by have := H.out.law d hd; rw [hL]; dsimp only; split <;> omega)
        have HN := Lib.hid hn
        clear hn r2 s2
        go_wp2_with fail
        go_ret
        exact ⟨rfl, _, _, _, HN.out⟩
      · have hE : putE room X cn = 0 := by simp only [putE]; rw [if_pos hc8]; simp [hf]
        rw [hE]
        go_wp2_with fail
        refine (rput_ok _ cn _ bs _ (L := L) (W := W) (room := room) (Q := gq) (by exact R1.out) hcn H.out.few (by omega) (by exact HB1.out)).mono ?_
        rintro e w2 ⟨rfl, r2, s2⟩
        have hL : putL room X L cn = L := by funext d; simp [putL, hE]
        have hn : Both w0 w2 gq gr room (k + 1) _ _ _ := H.out.moved Q1.out S1.out (by rw [hL]; exact r2) s2 (H.out.link.put hcn bs hE) (fun d hd => by have := H.out.law d hd; rw [hL]; omega)
        have HN := Lib.hid hn
        clear hn r2 s2
        go_wp2_with fail
        go_ret
        exact ⟨rfl, _, _, _, HN.out⟩
    · have hE : putE room X c = 1 := by simp only [putE]; rw [if_neg hc8]
      rw [hE]
      go_wp2_with fail
      refine (rput_bad _ c _ _ hc8).mono ?_
      rintro e w2 ⟨rfl, rfl⟩
      have hL : putL room X L c = L := by funext d; simp [putL, hE]
      have hn : Both w0 w1 gq gr room (k + 1) _ _ _ := H.out.moved Q1.out S1.out (by rw [hL]; exact R1.out) (Step.refl _ _) (H.out.link.same bs (by rw [hE]; decide)) (fun d hd => by have := H.out.law d hd; rw [hL]; omega)
      have HN := Lib.hid hn
      clear hn
      go_wp2_with fail
      go_ret
      exact ⟨rfl, _, _, _, HN.out⟩
  · have hd0b : (d == 0) = false := by simpa using hd0
    by_cases hd1 : d = 1
    · subst hd1
      rcases W with _ | ⟨p0, W0⟩
      · go_enter Try.func15, Try.ntmps15
        go_wp2_with fail
        refine (get_st_none _ _ H.out.q H.out.link.empty).mono ?_
        rintro e w1 ⟨rfl, rfl⟩
        go_wp2_with fail
        refine (rget_none _ _ (by exact H.out.r)).mono ?_
        rintro e w1 ⟨rfl, rfl⟩
        have c1 := fun w => run_string (P := Try.prog) (src := 31) (dst := 9) Try.underlying31 Try.underlying5 Try.underlying9 (w := w) (v := .slice none 0 0) (bs := []) (.inl ⟨rfl, rfl⟩)
        go_wp2_with fail
        go_ret
        exact ⟨rfl, _, _, _, H.out.later⟩
      · obtain ⟨j, hj⟩ := best_any (W := p0 :: W0) (p0 :: W0).length (by simp) (Nat.le_refl _)
        obtain ⟨cn, b, rest, hp, htop, hX, hlink⟩ := H.out.link.best hj
        have HJ := Lib.hid hj
        have HP := Lib.hid hp
        have HT := Lib.hid htop
        have HX := Lib.hid hX
        have HL := Lib.hid hlink
        clear hj hp htop hX hlink
        go_enter Try.func15, Try.ntmps15
        go_wp2_with fail
        refine (get_st _ _ H.out.q HT.out HX.out).mono ?_
        rintro e w1 ⟨u, rfl, e1, q1, s1⟩
        have r1 := H.out.r.own s1
        go_wp2_with fail
        refine (rget_some _ j _ (L := L) (by exact r1) H.out.few HJ.out HP.out).mono ?_
        rintro e w2 ⟨u2, rfl, e2, r2, s2⟩
        obtain ⟨cur, v, ws, hbr, -⟩ := r1.blk
        have e1' := e1.step s2 fun k hk => by rintro rfl; exact e1.row.ne hbr (by decide) hk
        have c1 := run_string_row (P := Try.prog) (src := 31) (dst := 9) Try.underlying31 Try.underlying5 Try.underlying9 e1'.row
        have c2 := run_string_row (P := Try.prog) (src := 31) (dst := 9) Try.underlying31 Try.underlying5 Try.underlying9 e2.row
        have hn : Both w0 w2 gq gr room (k + 1) _ _ _ := H.out.moved q1 s1 r2 s2 HL.out (fun d hd => by have := H.out.law d hd; omega)
        have HN := Lib.hid hn
        clear hn q1 s1 r1 e1 e2 e1' r2 s2 hbr
        go_wp2_with fail
        go_ret
        exact ⟨rfl, _, _, _, HN.out⟩
    · have hd1b : (d == 1) = false := by simpa using hd1
      go_enter Try.func15, Try.ntmps15
      go_wp2_with fail
      refine (clear_st _ _ H.out.q).mono ?_
      rintro e w1 ⟨rfl, q1, s1⟩
      have r1 := H.out.r.own s1
      have ht := H.out.link.total
      go_wp2_with fail
      refine (rclear_st _ _ (by exact r1)).mono ?_
      rintro e w2 ⟨rfl, r2, s2⟩
      have hn : Both w0 w2 gq gr room (k + 1) _ _ _ := H.out.moved q1 s1 r2 s2 Link.nil (fun d hd => by have := H.out.law d hd; omega)
      have HN := Lib.hid hn
      clear hn q1 s1 r1 r2 s2
      go_wp2_with fail
      go_ret
      exact ⟨rfl, _, _, _, HN.out⟩

end Go.Proofs.Ytboaelkpmfagfaa
