/- SessionRises, walked. -/
import Derived.Test.YtaacpjihkmklbaaDoorW9
namespace Go.Proofs.YtaacpjihkmklbaaDoor
open Go.RowKit Go.Gm

/-- Behind a step: the life never falls; a session that is up no more is in another life; what life and known make together never falls. -/
structure Rise (s t : Ses) : Prop where
  life : s.life ≤ t.life
  down : s.up = true → t.up = false → s.life < t.life
  sum : s.life + s.known ≤ t.life + t.known
  lost : s.up = true → t.up = false → s.life + s.known < t.life + t.known
  up : t.up = true → t.life < 536870912
theorem Rise.refl {s : Ses} (h : s.up = true → s.life < 536870912) : Rise s s := ⟨Int.le_refl _, fun h g => by rw [h] at g; exact absurd g (by decide), Int.le_refl _, fun h g => by rw [h] at g; exact absurd g (by decide), h⟩
theorem rise_fresh {s : Ses} (ok : s.Ok) (h : s.up = true → s.life < 536870912) : Rise s s.fresh := by
  have hl := ok.life
  refine ⟨?_, fun hu _ => ?_, ?_, fun hu _ => ?_, fun h => by exact absurd h (by simp [Ses.fresh])⟩
  · show s.life ≤ min (s.life + 1) 536870912; omega
  · have := h hu; show s.life < min (s.life + 1) 536870912; omega
  · show s.life + s.known ≤ min (s.life + 1) 536870912 + s.known; omega
  · have := h hu; show s.life + s.known < min (s.life + 1) 536870912 + s.known; omega
theorem rise_step {s : Ses} (ok : s.Ok) (h : s.up = true → s.life < 536870912) (n : Note) (d now ep sq ak : Int) : Rise s (stepS s n d now ep sq ak) := by
  unfold stepS
  split
  · unfold Ses.take
    split
    · split
      · split
        · exact Rise.refl h
        · rename_i hk
          have hl := ok.life
          have hh : Rise s (s.heard ep now) ∧ ((s.heard ep now).up = false → (s.heard ep now).life ≠ 536870912 → (s.heard ep now).life < 536870912) := by
            unfold Ses.heard
            simp only
            split
            · rename_i hc
              simp only [Bool.and_eq_true, decide_eq_true_eq] at hc
              have hf := h hc.2
              refine ⟨⟨?_, fun _ _ => ?_, ?_, fun _ _ => ?_, fun h => by exact absurd h (by simp [Ses.fresh])⟩, fun _ hx => ?_⟩
              · show s.life ≤ min (s.life + 1) 536870912; omega
              · show s.life < min (s.life + 1) 536870912; omega
              · show s.life + s.known ≤ min (s.life + 1) 536870912 + ep; omega
              · show s.life + s.known < min (s.life + 1) 536870912 + ep; omega
              · show min (s.life + 1) 536870912 < 536870912
                have hx' : min (s.life + 1) 536870912 ≠ 536870912 := hx
                omega
            · refine ⟨⟨Int.le_refl _, fun a b => ?_, ?_, fun a b => ?_, h⟩, fun _ hx => ?_⟩
              · have b' : s.up = false := b
                rw [a] at b'; exact absurd b' (by decide)
              · show s.life + s.known ≤ s.life + ep; omega
              · have b' : s.up = false := b
                rw [a] at b'; exact absurd b' (by decide)
              · have hx' : s.life ≠ 536870912 := hx
                show s.life < 536870912; omega
          obtain ⟨hr, hx⟩ := hh
          split
          · exact hr
          · rename_i hc
            refine ⟨hr.life, fun _ b => ?_, hr.sum, fun _ b => ?_, fun _ => hx ?_ ?_⟩
            · exact absurd b (by simp [Ses.meet])
            · exact absurd b (by simp [Ses.meet])
            · cases hu : (s.heard ep now).up
              · rfl
              · exact absurd (.inr (.inl hu)) hc
            · exact fun e => hc (.inr (.inr e))
      · exact Rise.refl h
    · exact Rise.refl h
  · split
    · unfold Ses.tick
      split
      · split
        · split
          · exact rise_fresh ok h
          · split
            · rename_i hu _
              have ok2 : ({ s with role := 2 } : Ses).Ok := ⟨ok.id, ok.prio, ok.life, ok.known, ⟨show (0 : Int) ≤ 2 by omega, show (2 : Int) ≤ 2 by omega⟩, ok.claim, ok.link, ok.beat⟩
              have := rise_fresh (s := { s with role := 2 }) ok2 h
              exact ⟨this.life, this.down, this.sum, this.lost, this.up⟩
            · exact Rise.refl h
        · exact Rise.refl h
      · exact Rise.refl h
    · split
      · unfold Ses.seen
        split
        · exact ⟨Int.le_refl _, fun h g => by have g' : s.up = false := g; rw [h] at g'; exact absurd g' (by decide), Int.le_refl _, fun h g => by have g' : s.up = false := g; rw [h] at g'; exact absurd g' (by decide), h⟩
        · exact Rise.refl h
      · unfold Ses.alive
        split
        · exact ⟨Int.le_refl _, fun h g => by have g' : s.up = false := g; rw [h] at g'; exact absurd g' (by decide), Int.le_refl _, fun h g => by have g' : s.up = false := g; rw [h] at g'; exact absurd g' (by decide), h⟩
        · exact Rise.refl h

/-- What the law keeps. -/
structure Kept (s : Ses) (best : Int) : Prop where
  ok : s.Ok
  up : s.up = true → s.life < 536870912
  low : 0 ≤ best
  le : best ≤ s.life + s.known
  lt : s.up = false → best < s.life + s.known
theorem Kept.next {s t : Ses} {best : Int} (h : Kept s best) (r : Rise s t) (ok : t.Ok) : Kept t (if best < t.epoch then t.epoch else best) := by
  have h1 := h.low
  have h2 := h.le
  have h3 := r.sum
  have h4 := ok.life
  have h5 := ok.known
  cases hu : t.up
  · have e : t.epoch = 0 := by simp [Ses.epoch, hu]
    rw [e, if_neg (by omega)]
    refine ⟨ok, r.up, h1, by omega, fun _ => ?_⟩
    cases hs : s.up
    · have := h.lt hs; omega
    · have := r.lost hs hu; omega
  · have e : t.epoch = t.life + t.known := by simp [Ses.epoch, hu]
    rw [e]
    refine ⟨ok, r.up, by split <;> omega, by split <;> omega, fun h => by rw [hu] at h; exact absurd h (by decide)⟩

set_option maxRecDepth 10000 in
set_option maxHeartbeats 16000000 in
theorem sessionRises_walk (v0 : Value) (w : World) (hT : HasAt 0 w) (h0 : Arg w (.slice 16 104 (.cat 1 (.int .i64) (.cat 1 (.int .i64) (.cat 14 (.cat 1 (.int .i64) (.cat 1 (.int .i64) (.cat 1 (.int .i64) (.cat 11 (.cat 1 (.int .i64) (.cat 1 (.int .i64) (.cat 6 (.arr 6 1 (.int .u8)) (.cat 1 (.int .i64) (.cat 1 (.int .i64) (.cat 1 (.slice 1 1 (.int .u8)) .nil)))))) .nil)))) .nil)))) v0) :
    Calls Tryd.prog 7 #[v0] w fun e w' => e = .returned (.bool true) ∧ Below w.heap.size w w' := by
  obtain ⟨ao, len, cap, rfl, hcap, hlen, hsteps⟩ := steps_arg h0
  clear h0
  have HST := Lib.hid hsteps
  have T1 := Lib.hid hT
  have N := Lib.hid (fun w => new_ok 0 5 3 w (by decide))
  have R := Lib.hid (fun w => rnew_ok 0 5 3 w (by decide))
  have OK : Hid (ses0 0 5 3).Ok := Lib.hid (ses0_ok (by decide))
  clear hsteps hT
  go_enter Tryd.func7, Tryd.ntmps7
  go_wp2_with fail
  refine (awake_any w T1.out).mono ?_
  rintro e w2 ⟨rfl, s2⟩
  have S2 := Lib.hid s2
  have T2 := Lib.hid (T1.out.still s2)
  clear s2
  go_wp2_with fail
  refine (N.out _).mono ?_
  rintro e w3 ⟨rfl, a3, s3⟩
  have A3 := Lib.hid a3
  have T3 := Lib.hid (T2.out.still s3)
  have S3 := Lib.hid (S2.out.then_ s3)
  clear a3 s3
  go_wp2_with fail
  refine (R.out _).mono ?_
  rintro e w4 ⟨rfl, b4, s4⟩
  have BO : Hid (Both w w4 w2.heap.size w3.heap.size (ses0 0 5 3)) := Lib.hid ⟨⟨0, s4.blk A3.out (fun s => s.elim)⟩, b4, by have := blk_lt A3.out; omega, (S3.out.then_ s4).none, OK.out, T3.out.still s4⟩
  have KO : Hid (Kept (ses0 0 5 3) 0) := Lib.hid ⟨OK.out, fun h => absurd h (by decide), by omega, by decide, fun _ => by decide⟩
  have GG : Hid (w.heap.size ≤ w2.heap.size ∧ w.heap.size ≤ w3.heap.size) := Lib.hid ⟨S2.out.size, S3.out.size⟩
  clear b4 s4 A3 S3 N R S2 OK T1 T2 T3
  generalize w2.heap.size = g at *
  generalize w3.heap.size = r at *
  go_wp2_with fail
  go_loopw [8, 9, 10, 11] (fun tb tl tw t wr => ∃ i : Nat, i ≤ len ∧ t = .int .i64 i ∧ ∃ s best, tb = .int .i64 best ∧ tl = .int .i64 s.life ∧ tw = .bool s.up ∧ Hid (Both w wr g r s) ∧ Hid (Kept s best)) (fun _ _ _ t _ => len - (intOf t).toNat)
  case atStart => exact ⟨0, by omega, rfl, _, 0, rfl, rfl, rfl, BO, KO⟩
  case round =>
    obtain ⟨i, hi, rfl, s, best, rfl, rfl, rfl, hB, hK⟩ := hrel
    rename_i wr
    clear BO KO
    have BL : Hid (∀ w', Step None wr w' → Step None w w') := Lib.hid fun w' h' => (hB.out.st.mono (T := Go.Gm.None) (fun k hk e => by have := GG.out; omega)).then_ h'
    cases d1 : decide ((i : Int) < (len : Int))
    · have d1' : decide (i < len) = false := by simpa using d1
      go_wp2_with fail
      go_ret
      exact ⟨rfl, (BL.out _ (Step.refl _ _)).toBelow⟩
    · have hlt : i < len := by simpa using d1
      have d1' : decide (i < len) = true := by simpa using d1
      cases d2 : decide ((i : Int) < 150)
      · go_wp2_with fail
        go_ret
        exact ⟨rfl, (BL.out _ (Step.refl _ _)).toBelow⟩
      · obtain ⟨b0, off, n, bo, bc, d, now, ep, sq, ak, rfl, hcells, hby, hbl⟩ := HST.out i hlt
        have c0i : (0 : Int) ≤ (i : Int) := by omega
        have c1i : (i : Int) < (len : Int) := by omega
        have kb := (BL.out _ (Step.refl _ _)).cell (p := ⟨b0, off + i * 16 + 15, none⟩) (World.block_lt_of_cell? _ _ (hcells 15 (.slice bo n.body.length bc) rfl)) (fun s => s.elim)
        rw [hcells 15 (.slice bo n.body.length bc) rfl] at kb
        cases d3 : decide ((2000 : Int) < (n.body.length : Int))
        rotate_left
        · have d3' : decide (2000 < n.body.length) = true := by simp at d3 ⊢; omega
          go_wp2_with fail
          go_ret
          exact ⟨rfl, (BL.out _ (Step.refl _ _)).toBelow⟩
        have d3' : decide (2000 < n.body.length) = false := by simp at d3 ⊢; omega
        have hb2 : n.body.length ≤ 10000 := by simp at d3; omega
        have ls : Hid ((Instr.loadAt 55 (.pointer (some ⟨b0, off + i * 16, none⟩))).run Tryd.prog wr = .ok (.agg (stepC n d now ep sq ak (.slice bo n.body.length bc))) wr) := Lib.hid (load_step rfl (fun j u hj => by
          have hx := hcells j u hj
          rw [(BL.out _ (Step.refl _ _)).cell (p := ⟨b0, off + i * 16 + j, none⟩) (World.block_lt_of_cell? _ _ hx) (fun s => s.elim)]
          exact hx))
        have SA := Lib.hid (step_any s g r n bo bc d now ep sq ak w wr hB.out (hby.step (BL.out _ (Step.refl _ _)) (fun _ _ s => s.elim)) (fun w' h' => hby.step ((hB.out.st.then_ (h'.mono (T := fun k => k = g ∨ k = r) fun k _ e => .inl e)).mono (T := Go.Gm.None) (fun k hk e => by have := GG.out; omega)) (fun _ _ s => s.elim)) hb2)
        have RS := rise_step hB.out.ok hK.out.up n d now ep sq ak
        have TO := stepS_ok hB.out.ok n d now ep sq ak
        clear hcells hby
        go_wp2_with (refine wpList_load_if 55 (.tmp 55) rfl rfl rfl ls.out ?_)
        refine SA.out.mono ?_
        rintro e w5 ⟨rfl, h5⟩
        have B5 := Lib.hid h5
        clear h5 SA ls hB kb
        generalize stepS s n d now ep sq ak = t at *
        have KN := Lib.hid (hK.out.next RS TO)
        have hk := hK.out
        have e1 : decide (t.life < s.life) = false := by have := RS.life; simp; omega
        have ht : t.up = true → t.epoch = t.life + t.known := fun h => by simp [Ses.epoch, h]
        have e3 : t.up = true → decide (t.epoch < best) = false := fun h => by have := ht h; have := RS.sum; have := hk.le; simp; omega
        have e4 : t.up = true → s.up = false → decide (t.epoch ≤ best) = false := fun h g => by have := ht h; have := RS.sum; have := hk.lt g; simp; omega
        have e2 : s.up = true → t.up = false → (t.life == s.life) = false := fun h g => by have := RS.down h g; simp; omega
        obtain ⟨op5, g5⟩ := B5.out.one
        have G5 := Lib.hid g5
        clear g5 RS TO hk ht hK
        have FIN : (Hid (∀ w', Step None w5 w' → Hid (Both w w' g r t))) := Lib.hid fun w' h' => Lib.hid (B5.out.still h')
        go_wp2_with fail
        refine (up_any g t op5 w5 G5.out).mono ?_
        rintro e w6 ⟨rfl, rfl⟩
        go_wp2_with fail
        refine (life_any g t op5 w5 G5.out).mono ?_
        rintro e w6 ⟨rfl, rfl⟩
        cases hs' : s.up
        · cases ht' : t.up
          · have Z := Lib.hid (Step.refl None w5)
            have G := G5
            go_wp2_with fail
            refine (life_any g t op5 w5 G.out).mono ?_
            rintro e wz ⟨rfl, rfl⟩
            go_wp2_with fail
            refine (epoch_any g t op5 w5 B5.out.ok G.out).mono ?_
            rintro e w6 ⟨rfl, sz⟩
            have G := Lib.hid (sz.blk G.out (fun s => s.elim))
            have Z := Lib.hid (Z.out.then_ sz)
            clear sz
            go_wp2_with fail
            go_roundw
            case rel => exact ⟨i + 1, by omega, by first | rfl | simp, t, _, rfl, rfl, by first | rfl | (rw [hu]) | (rw [ht']), FIN.out _ Z.out, KN⟩
            case measure => simp [intOf]; omega
          · have e3' := e3 ht'
            have e4' := e4 ht' hs'
            have Z := Lib.hid (Step.refl None w5)
            have G := G5
            go_wp2_with fail
            refine (epoch_any g t op5 w5 B5.out.ok G.out).mono ?_
            rintro e w6 ⟨rfl, sz⟩
            have G := Lib.hid (sz.blk G.out (fun s => s.elim))
            have Z := Lib.hid (Z.out.then_ sz)
            clear sz
            go_wp2_with fail
            refine (epoch_any g t op5 w6 B5.out.ok G.out).mono ?_
            rintro e w7 ⟨rfl, sz⟩
            have G := Lib.hid (sz.blk G.out (fun s => s.elim))
            have Z := Lib.hid (Z.out.then_ sz)
            clear sz
            go_wp2_with fail
            refine (life_any g t op5 w7 G.out).mono ?_
            rintro e wz ⟨rfl, rfl⟩
            go_wp2_with fail
            refine (epoch_any g t op5 w7 B5.out.ok G.out).mono ?_
            rintro e w8 ⟨rfl, sz⟩
            have G := Lib.hid (sz.blk G.out (fun s => s.elim))
            have Z := Lib.hid (Z.out.then_ sz)
            clear sz
            go_wp2_with fail
            go_roundw
            case rel => exact ⟨i + 1, by omega, by first | rfl | simp, t, _, rfl, rfl, by first | rfl | (rw [hu]) | (rw [ht']), FIN.out _ Z.out, KN⟩
            case measure => simp [intOf]; omega
        · cases ht' : t.up
          · have e2' := e2 hs' ht'
            have Z := Lib.hid (Step.refl None w5)
            have G := G5
            go_wp2_with fail
            refine (life_any g t op5 w5 G.out).mono ?_
            rintro e wz ⟨rfl, rfl⟩
            go_wp2_with fail
            refine (life_any g t op5 w5 G.out).mono ?_
            rintro e wz ⟨rfl, rfl⟩
            go_wp2_with fail
            refine (epoch_any g t op5 w5 B5.out.ok G.out).mono ?_
            rintro e w6 ⟨rfl, sz⟩
            have G := Lib.hid (sz.blk G.out (fun s => s.elim))
            have Z := Lib.hid (Z.out.then_ sz)
            clear sz
            go_wp2_with fail
            go_roundw
            case rel => exact ⟨i + 1, by omega, by first | rfl | simp, t, _, rfl, rfl, by first | rfl | (rw [hu]) | (rw [ht']), FIN.out _ Z.out, KN⟩
            case measure => simp [intOf]; omega
          · have e3' := e3 ht'
            have Z := Lib.hid (Step.refl None w5)
            have G := G5
            go_wp2_with fail
            refine (epoch_any g t op5 w5 B5.out.ok G.out).mono ?_
            rintro e w6 ⟨rfl, sz⟩
            have G := Lib.hid (sz.blk G.out (fun s => s.elim))
            have Z := Lib.hid (Z.out.then_ sz)
            clear sz
            go_wp2_with fail
            refine (life_any g t op5 w6 G.out).mono ?_
            rintro e wz ⟨rfl, rfl⟩
            go_wp2_with fail
            refine (epoch_any g t op5 w6 B5.out.ok G.out).mono ?_
            rintro e w7 ⟨rfl, sz⟩
            have G := Lib.hid (sz.blk G.out (fun s => s.elim))
            have Z := Lib.hid (Z.out.then_ sz)
            clear sz
            go_wp2_with fail
            go_roundw
            case rel => exact ⟨i + 1, by omega, by first | rfl | simp, t, _, rfl, rfl, by first | rfl | (rw [hu]) | (rw [ht']), FIN.out _ Z.out, KN⟩
            case measure => simp [intOf]; omega
end Go.Proofs.YtaacpjihkmklbaaDoor
