/- Encode of both in one form; awake; what is handed in. -/
import Derived.Test.YtfpdfenepelcdaaW11
import Derived.Test.YtfpdfenepelcdaaPiec
import Derived.Test.YtfpdfenepelcdaaTxt
namespace Go.Proofs.Ytfpdfenepelcdaa
open Go.RowKit Go.Gm

def code (x : Bpd) : Int := if okB x then 0 else 1
def encA (x : Bpd) : List Int := if okB x then encB x else []

theorem encode_all (x : Bpd) (w : World) : Calls Try.prog 10 #[.agg x.cells] w fun e w' => ∃ u, e = .returned (.tuple #[u, .int .i64 (code x)]) ∧ Buf 5 w' w.heap.size u (encA x) ∧ Step None w w' := by
  cases h : okB x
  · refine (encode_bad x w h).mono ?_
    rintro e w' ⟨rfl, hs⟩
    exact ⟨_, by simp [code, h]; rfl, by rw [encA, h]; exact Buf.nil _ _ _, hs⟩
  · refine (encode_ok x w h).mono ?_
    rintro e w' ⟨u, rfl, hb, hs⟩
    exact ⟨_, by simp [code, h]; rfl, by rw [encA, h]; exact hb, hs⟩
theorem rencode_all (x : Bpd) (w : World) : Calls Try.prog 11 #[.agg x.cells] w fun e w' => ∃ u, e = .returned (.tuple #[u, .int .i64 (code x)]) ∧ Buf 5 w' w.heap.size u (encA x) ∧ Step None w w' := by
  cases h : okB x
  · refine (rencode_bad x w h).mono ?_
    rintro e w' ⟨rfl, hs⟩
    exact ⟨_, by simp [code, h]; rfl, by rw [encA, h]; exact Buf.nil _ _ _, hs⟩
  · have hk : x.kind = 128 ∨ x.kind = 0 ∨ x.kind = 2 := by
      cases k1 : (x.kind == 128)
      · cases k2 : (x.kind == 0)
        · cases k3 : (x.kind == 2)
          · simp [okB, k1, k2, k3] at h
          · exact .inr (.inr (by simpa using k3))
        · exact .inr (.inl (by simpa using k2))
      · exact .inl (by simpa using k1)
    have fin : (Calls Try.prog 11 #[.agg x.cells] w fun e w' => ∃ u, e = .returned (.tuple #[u, .int .i64 0]) ∧ Buf 5 w' w.heap.size u (encB x) ∧ Step None w w') → Calls Try.prog 11 #[.agg x.cells] w fun e w' => ∃ u, e = .returned (.tuple #[u, .int .i64 (code x)]) ∧ Buf 5 w' w.heap.size u (encA x) ∧ Step None w w' := by
      intro hc
      refine hc.mono ?_
      rintro e w' ⟨u, rfl, hb, hs⟩
      exact ⟨_, by simp [code, h]; rfl, by rw [encA, h]; exact hb, hs⟩
    rcases hk with hk | hk | hk
    · exact fin (rencode_change x w h hk)
    · exact fin (rencode_config x w h hk)
    · exact fin (rencode_rapid x w h hk)

theorem text_of {w : World} {B : Nat} {u : Value} {l : List Int} (h : Buf 5 w B u l) : (convert 29 9 u).run Try.prog w = .ok (.string (strOfNums l)) w :=
  run_string_row Try.underlying29 Try.underlying5 (by kernel_rfl) h.row

theorem fits_id {w : World} {l : List Value} (h : Fits w (.cat 1 (.int .i64) (.cat 6 (.arr 6 1 (.int .u8)) .nil)) l) : ∃ x : Idn, l = x.cells.toList ∧ Small x.mac := by
  obtain ⟨p, _, rfl, -, h1⟩ := h.intc
  obtain ⟨_, _, rfl, hm, h2⟩ := h1.aggc
  obtain ⟨ms, rfl, hl, hw⟩ := hm.intArr
  obtain rfl := h2.nilc
  match ms, hl with
  | [a0, a1, a2, a3, a4, a5], _ => exact ⟨⟨p, a0, a1, a2, a3, a4, a5⟩, rfl, fun x hx => wf_u8 (hw x hx)⟩

def awk : Bpd := ⟨2, 0, noId, 0, noId, 258, 0, 0, 0, 0⟩
theorem awk_len : (encA awk).length = 36 := by decide
theorem bare_text : strOfNums (encA (bare 128)) = { data := #[0, 0, 0, 128] } := by kernel_rfl

set_option maxHeartbeats 4000000 in
theorem awake_any (w : World) : Calls Try.prog 9 #[] w fun e w' => e = .returned (.bool true) ∧ Step None w w' := by
  have C := Lib.hid (encode_all (bare 128))
  have D := Lib.hid (encode_all awk)
  rw [show code (bare 128) = 0 by decide] at C
  rw [show code awk = 0 by decide] at D
  go_enter Try.func9, Try.ntmps9
  go_wp2_with fail
  refine (C.out _).mono ?_
  rintro e w1 ⟨u1, rfl, b1, s1⟩
  go_wp2_with fail
  refine (D.out _).mono ?_
  rintro e w2 ⟨u2, rfl, b2, s2⟩
  have t1 := text_of (b1.still s2)
  rw [bare_text] at t1
  have r2 : Row w2 5 1 u2 36 ((encA awk).map (.int .u8)) := by have := b2.row; rw [awk_len] at this; exact this
  obtain ⟨b, off, cap, rfl, -, -, -, hc, -⟩ := r2.cells (by decide)
  have c25 : w2.cell? ⟨b, off + 25, none⟩ = some (.int .u8 1) := hc 25 _ rfl
  have c26 : w2.cell? ⟨b, off + 26, none⟩ = some (.int .u8 2) := hc 26 _ rfl
  have S := Lib.hid (s1.then_ s2)
  clear b1 b2 s1 s2 r2 hc C D
  go_wp2_with (rw [t1])
  go_ret
  exact ⟨rfl, S.out⟩
end Go.Proofs.Ytfpdfenepelcdaa
