/- (*Queue).Get. -/
import Derived.Test.YtboaelkpmfagfaaW2
namespace Go.Proofs.Ytboaelkpmfagfaa
open Go.RowKit Go.Gm

theorem get_none {B : Nat} (g : Nat) (w : World) {room : Int} {V : Nat → Value} {X : Nat → List (List Int)} {L : Nat → Int} (h : QRep w B g room V X L) (hx : ∀ c, c < 8 → X c = []) :
    Calls Try.prog 11 #[.pointer (some ⟨g, 0, none⟩)] w fun e w' => e = .returned (.tuple #[.int .i64 0, .slice none 0 0, .bool false]) ∧ w = w' := by
  have hcell : ∀ c, c < 8 → ∃ ao cap, w.cell? ⟨g, 1 + c, none⟩ = some (.slice ao 0 cap) := fun c hc => by
    obtain ⟨-, h1, -, -⟩ := h.cells
    obtain ⟨xs, hr, -⟩ := h.rows c hc
    obtain ⟨ao, cap, hv, -, -⟩ := hr.form
    rw [hx c hc] at hv
    exact ⟨ao, cap, by rw [h1 c hc, hv]; rfl⟩
  have HC := Lib.hid hcell
  clear hcell h hx
  go_enter Try.func11, Try.ntmps11
  go_wp2
  go_loop [5, 6] (fun i _l => ∃ k : Int, -1 ≤ k ∧ k ≤ 7 ∧ i = .int .i64 k) (fun i _ => (intOf i + 1).toNat)
  case atStart => exact ⟨7, by omega, by omega, rfl⟩
  case round =>
    obtain ⟨k, hk0, hk1, rfl⟩ := hrel
    by_cases hneg : k < 0
    · go_wp2
      go_ret3
      exact ⟨rfl, rfl⟩
    · obtain ⟨c, rfl⟩ : ∃ c : Nat, k = c := ⟨k.toNat, by omega⟩
      obtain ⟨ao, cap, hc⟩ := HC.out c (by omega)
      have h8 : (c : Int) < 8 := by omega
      go_wp2
      go_round
      case rel => exact ⟨(c : Int) - 1, by omega, by omega, by go_num⟩
      case measure => simp [intOf]

/-- What Get leaves where something waits. -/
structure GetDone (w w' : World) (B g : Nat) (room : Int) (V : Nat → Value) (X : Nat → List (List Int)) (L : Nat → Int) (c : Nat) (u : Value) (b : List Int) (rest : List (List Int)) : Prop where
  rep : ∃ v, QRep w' B g room (fun d => if d = c then v else V d) (fun d => if d = c then rest else X d) L ∧ ∀ k, Leads v k → Leads (V c) k
  step : Step (fun k => k = g) w w'
  got : El w' B u b

theorem get_done {w : World} {B g c m bb off off' cap n : Nat} {room : Int} {V : Nat → Value} {X : Nat → List (List Int)} {L : Nat → Int} (H : QRep w B g room V X L) (hc : c < 8) {b : List Int} {rest : List (List Int)} (hX : X c = b :: rest)
    (hn : n = rest.length + 1) {u : Value} (hv : V c = .slice (some ⟨bb, off, none⟩) n cap) (hu : w.cell? ⟨bb, off, none⟩ = some u)
    (ho : (cap = 1 ∧ off' = off) ∨ off' = off + 1) :
    GetDone w ((w.drewN m).setCell ⟨g, 1 + c, none⟩ (.slice (some ⟨bb, off', none⟩) rest.length (cap - 1))) B g room V X L c u b rest := by
  obtain ⟨cur0, hb0, -⟩ := H.blk
  obtain ⟨xs, hx, hel⟩ := H.rows c hc
  have hXl : (X c).length = n := by rw [hX, hn]; rfl
  rw [hXl] at hx
  have e4 : Step (fun k => k = g) w ((w.drewN m).setCell ⟨g, 1 + c, none⟩ (.slice (some ⟨bb, off', none⟩) rest.length (cap - 1))) :=
    Step.setCell (S := fun k => k = g) ((Step.refl _ w).drewN m) (p := ⟨g, 1 + c, none⟩) (fun _ => rfl) _
  obtain ⟨bb', off1, cap', cur, hv', hcap, hmax, hblk, hfit, htake⟩ := hx.lies (by omega)
  rw [hv] at hv'
  simp only [Value.slice.injEq, Option.some.injEq, Addr.mk.injEq] at hv'
  obtain ⟨⟨rfl, rfl, -⟩, -, rfl⟩ := hv'
  have hne : g ≠ bb := blk_ne hb0 hblk (by decide)
  obtain ⟨u', hu', hru⟩ := hel 0 b (by rw [hX]; rfl)
  obtain ⟨b2, o2, c2, hv2, -, -, -, hcells, -⟩ := hx.cells (by omega)
  rw [hv] at hv2
  simp only [Value.slice.injEq, Option.some.injEq, Addr.mk.injEq] at hv2
  obtain ⟨⟨rfl, rfl, -⟩, -, rfl⟩ := hv2
  have huu : u' = u := by
    have := hcells 0 u' hu'
    rw [Nat.add_zero, hu] at this
    exact (Option.some.inj this).symm
  subst huu
  refine ⟨⟨.slice (some ⟨bb, off', none⟩) rest.length (cap - 1), H.turned (l := rest) hc (e4.mono fun _ _ s => .inl s) ⟨xs.drop 1, ?_, ?_⟩ ?_ ?_, ?_⟩, e4, ?_⟩
  · have hd := Row.dropped (sz := 1) (k := 1) (off' := off') hblk (n := n) (by omega) hcap hmax hfit htake (by
      rcases ho with ⟨h1, rfl⟩ | rfl
      · exact .inr ⟨by omega, by omega⟩
      · exact .inl rfl)
    rw [show n - 1 = rest.length by omega] at hd
    exact hd.step e4 fun k hk => by
      simp [Leads, Value.ownBlock] at hk
      omega
  · intro j l hj
    obtain ⟨y, hy, hry⟩ := hel (j + 1) l (by rw [hX]; simpa using hj)
    refine ⟨y, by rw [List.getElem?_drop, Nat.add_comm]; exact hy, hry.step e4 fun k hk => ?_⟩
    rintro rfl
    exact hry.row.ne hb0 (by decide) hk
  · intro k hk
    simp [Leads, Value.ownBlock] at hk
    subst hk
    exact .inl (by rw [hv]; rfl)
  · intro cur' hb'
    exact blk_set (w := w.drewN m) hb' (1 + c) _
  · intro k hk
    simp [Leads, Value.ownBlock] at hk
    subst hk
    rw [hv]; rfl
  · exact hru.step e4 fun k hk => by
      rintro rfl
      exact hru.row.ne hb0 (by decide) hk

theorem get_some {B : Nat} (g : Nat) (w : World) {room : Int} {V : Nat → Value} {X : Nat → List (List Int)} {L : Nat → Int} (h : QRep w B g room V X L) {c : Nat} (hc : c < 8) {b : List Int} {rest : List (List Int)} (hX : X c = b :: rest)
    (hlt : rest.length < 1000000) (hx : ∀ d, c < d → d < 8 → X d = []) :
    Calls Try.prog 11 #[.pointer (some ⟨g, 0, none⟩)] w fun e w' => ∃ u, e = .returned (.tuple #[.int .i64 c, u, .bool true]) ∧ GetDone w w' B g room V X L c u b rest := by
  have hcell : ∀ d, c < d → d < 8 → ∃ ao cap, w.cell? ⟨g, 1 + d, none⟩ = some (.slice ao 0 cap) := fun d hd1 hd2 => by
    obtain ⟨-, h1, -, -⟩ := h.cells
    obtain ⟨xs, hr, -⟩ := h.rows d hd2
    obtain ⟨ao, cap, hv, -, -⟩ := hr.form
    rw [hx d hd1 hd2] at hv
    exact ⟨ao, cap, by rw [h1 d hd2, hv]; rfl⟩
  have HC := Lib.hid hcell
  have H := Lib.hid h
  obtain ⟨-, h1, -, h3⟩ := h.cells
  have hV := h1 c hc
  have hf := h3 (1 + c)
  obtain ⟨xs, hr, hel⟩ := h.rows c hc
  have hXl : (X c).length = rest.length + 1 := by rw [hX]; rfl
  rw [hXl] at hr
  obtain ⟨bb, off, cap, hv, hcap, hmax, -, hcells, -⟩ := hr.cells (by omega)
  obtain ⟨u', hu', hru⟩ := hel 0 b (by rw [hX]; rfl)
  have hu := hcells 0 u' hu'
  rw [Nat.add_zero] at hu
  rw [hv] at hV
  obtain ⟨uo, ucap, rfl, -, -⟩ := hru.row.form
  obtain ⟨cur0, hb0, -⟩ := h.blk
  have hne : bb ≠ g := fun e => hr.ne hb0 (by decide) (by rw [hv, e]; rfl)
  have HV := Lib.hid hv
  have HX := Lib.hid hX
  clear hb0
  clear hcell h hx h1 h3 hr hel hXl hcells hv hX hu' hru
  go_enter Try.func11, Try.ntmps11
  go_wp2
  go_loop [5, 6] (fun i _l => ∃ k : Nat, c ≤ k ∧ k ≤ 7 ∧ i = .int .i64 k) (fun i _ => (intOf i).toNat)
  case atStart => exact ⟨7, by omega, by omega, rfl⟩
  case round =>
    obtain ⟨k, hk0, hk1, rfl⟩ := hrel
    by_cases hck : c = k
    · subst hck
      have h8 : (c : Int) < 8 := by omega
      have h0 : (0 : Int) ≤ (c : Int) := by omega
      by_cases hcap1 : cap = 1
      · go_wp2
        go_region
        go_wp2
        go_region
        go_wp2
        go_ret3
        subst hcap1
        exact ⟨_, rfl, get_done (m := 2) H.out hc HX.out rfl HV.out hu (.inl ⟨rfl, rfl⟩)⟩
      · go_wp2
        go_region
        go_wp2
        go_region
        go_wp2
        go_ret3
        exact ⟨_, rfl, get_done (m := 2) H.out hc HX.out rfl HV.out hu (.inr rfl)⟩
    · obtain ⟨ao, cap2, hd⟩ := HC.out k (by omega) (by omega)
      have h8 : (k : Int) < 8 := by omega
      have h0 : (0 : Int) ≤ (k : Int) := by omega
      go_wp2
      go_round
      case rel => exact ⟨k - 1, by omega, by omega, by go_num⟩
      case measure => simp [intOf]; omega

end Go.Proofs.Ytboaelkpmfagfaa
