/- Both Encodes in one form, awake, and what a packet is that is handed in. -/
import Derived.Test.YtgchepijbpcckaaDoorK12
import Derived.Test.YtgchepijbpcckaaDoorPiec
namespace Go.Proofs.YtgchepijbpcckaaDoor
open Go.RowKit Go.Gm

def encB (ep sq ak : Int) (n : Note) : List Int := if okP ep sq ak n then enc ep sq ak n n.kind.toNat else []
def codeB (ep sq ak : Int) (n : Note) : Int := if okP ep sq ak n then 0 else 1

theorem encode_all (ep sq ak : Int) (n : Note) (bo : Option Addr) (bc : Nat) (w : World) (hT : HasAt 0 w) (hb : Bytes w (.slice bo n.body.length bc) n.body) (hbl : n.body.length ≤ 10000) :
    Calls Tryd.prog 27 #[.agg (n.packet ep sq ak (.slice bo n.body.length bc))] w fun e w' => ∃ u, e = .returned (.tuple #[u, .int .i64 (codeB ep sq ak n)]) ∧ Buf 5 w' w.heap.size u (encB ep sq ak n) ∧ Step None w w' := by
  refine (encode_any ep sq ak n bo bc w hT hb hbl).mono ?_
  rintro e w' ⟨⟨h, rfl⟩ | ⟨h, u, rfl, hu⟩, hs⟩
  · exact ⟨.slice none 0 0, by simp [codeB, h], by simpa [encB, h] using Buf.nil _ _ _, hs⟩
  · exact ⟨u, by simp [codeB, h], by simpa [encB, h] using hu, hs⟩

theorem rencode_all (ep sq ak : Int) (n : Note) (bo : Option Addr) (bc : Nat) (w : World) (hb : Bytes w (.slice bo n.body.length bc) n.body) (hbl : n.body.length ≤ 10000) :
    Calls Tryd.prog 32 #[.agg (n.packet ep sq ak (.slice bo n.body.length bc))] w fun e w' => ∃ u, e = .returned (.tuple #[u, .int .i64 (codeB ep sq ak n)]) ∧ Buf 5 w' w.heap.size u (encB ep sq ak n) ∧ Step None w w' := by
  cases h : okP ep sq ak n
  · refine (rencode_bad ep sq ak n bo bc w h).mono ?_
    rintro e w' ⟨rfl, hs⟩
    exact ⟨.slice none 0 0, by simp [codeB, h], by simpa [encB, h] using Buf.nil _ _ _, hs⟩
  · refine (rencode_ok ep sq ak n bo bc w h hb hbl).mono ?_
    rintro e w' ⟨⟨u, rfl, hu⟩, hs⟩
    exact ⟨u, by simp [codeB, h], by simpa [encB, h] using hu, hs⟩

theorem fits_note {w : World} {l : List Value} (h : Fits w (.cat 1 (.int .i64) (.cat 1 (.int .i64) (.cat 6 (.arr 6 1 (.int .u8)) (.cat 1 (.int .i64) (.cat 1 (.int .i64) (.cat 1 (.slice 1 1 (.int .u8)) .nil)))))) l) :
    ∃ n bo bc, l = (Note.cells n (.slice bo n.body.length bc)).toList ∧ Bytes w (.slice bo n.body.length bc) n.body ∧ Small n.body ∧ Small n.mac ∧ n.body.length ≤ 140737488351232 := by
  obtain ⟨kd, _, rfl, -, h1⟩ := h.intc
  obtain ⟨vl, _, rfl, -, h2⟩ := h1.intc
  obtain ⟨_, _, rfl, hm, h3⟩ := h2.aggc
  obtain ⟨ms, rfl, hml, hmw⟩ := hm.intArr
  obtain ⟨po, _, rfl, -, h4⟩ := h3.intc
  obtain ⟨st, _, rfl, -, h5⟩ := h4.intc
  obtain ⟨bv, _, rfl, hb, h6⟩ := h5.slicec
  obtain rfl := h6.nilc
  obtain ⟨bs, hbs, hsm, hlen⟩ := hb.bytes
  obtain ⟨ao, cap, rfl⟩ := hbs.len
  match ms, hml with
  | [a0, a1, a2, a3, a4, a5], _ =>
    exact ⟨⟨kd, vl, a0, a1, a2, a3, a4, a5, po, st, bs⟩, ao, cap, rfl, hbs, hsm, fun x hx => wf_u8 (hmw x hx), hlen⟩

theorem arg_packet {w : World} {v : Value} (h : Arg w (.cat 1 (.int .i64) (.cat 1 (.int .i64) (.cat 1 (.int .i64) (.cat 11 (.cat 1 (.int .i64) (.cat 1 (.int .i64) (.cat 6 (.arr 6 1 (.int .u8)) (.cat 1 (.int .i64) (.cat 1 (.int .i64) (.cat 1 (.slice 1 1 (.int .u8)) .nil)))))) .nil)))) v) :
    ∃ ep sq ak n bo bc, v = .agg (Note.packet n ep sq ak (.slice bo n.body.length bc)) ∧ Bytes w (.slice bo n.body.length bc) n.body ∧ Small n.body ∧ Small n.mac ∧ n.body.length ≤ 140737488351232 := by
  obtain ⟨⟨l⟩, rfl, hf⟩ := h.agg rfl
  obtain ⟨ep, _, rfl, -, k1⟩ := Fits.intc hf
  obtain ⟨sq, _, rfl, -, k2⟩ := k1.intc
  obtain ⟨ak, _, rfl, -, k3⟩ := k2.intc
  obtain ⟨_, _, rfl, hn, k4⟩ := k3.aggc
  obtain rfl := k4.nilc
  obtain ⟨n, bo, bc, rfl, h1, h2, h3, h4⟩ := fits_note hn
  exact ⟨ep, sq, ak, n, bo, bc, rfl, h1, h2, h3, h4⟩

end Go.Proofs.YtgchepijbpcckaaDoor
