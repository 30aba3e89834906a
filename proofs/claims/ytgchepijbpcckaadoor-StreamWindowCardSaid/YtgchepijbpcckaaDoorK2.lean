/- Numbers in two and four bytes. -/
import Derived.Test.YtgchepijbpcckaaDoorRows
import Derived.Test.YtgchepijbpcckaaDoorHas
namespace Go.Proofs.YtgchepijbpcckaaDoor
open Go.RowKit Go.Gm

theorem T24 : SliceT Tryd.prog 34 5 1 1 := SliceT.mk' Tryd.underlying34 (z := .int .u8 0) (by kernel_rfl) rfl (by decide)

theorem short_any (u : Value) (l : List Int) (n : Int) (w : World) {B : Nat} (h : Buf 5 w B u l) (hB : B ≤ w.heap.size) (hl : l.length ≤ 100000) :
    Calls Tryd.prog 41 #[u, .int .i64 n] w fun e w' => ∃ u', e = .returned u' ∧ Grew 5 w w' B u u' (l ++ [n / 256 % 256, n % 256]) := by
  have H := Lib.hid h
  obtain ⟨ao, cap, rfl⟩ := h.form
  clear h
  go_enter Tryd.func41, Tryd.ntmps41
  go_wp2_with (first | (at_builtin; refine wpList_append_row T24 rfl (.tmp 5) (.tmp 11) rfl rfl (H.out.row.alloc _) rfl (Src.ofBlock T24 (c := 2) (heap_alloc_new w (.cells #[.int .u8 (n / 256 % 256), .int .u8 (n % 256)] 5)) (by rfl) (by simp [Value.oneCell'])) ?ha ?hb ?_))
  case ha => simp [maxLen]; omega
  case hb => omega
  intro v' w' h2 h3 h4
  have hm := H.out.grew (more := [n / 256 % 256, n % 256]) hB ((Step.refl None w).alloc _) h2 h3 (by simpa using h4)
  have HM := Lib.hid hm
  clear hm h2 h3 h4
  go_wp2
  go_ret
  exact ⟨v', rfl, HM.out⟩

theorem long_any (u : Value) (l : List Int) (n : Int) (w : World) {B : Nat} (h : Buf 5 w B u l) (hB : B ≤ w.heap.size) (hl : l.length ≤ 90000) :
    Calls Tryd.prog 38 #[u, .int .i64 n] w fun e w' => ∃ u', e = .returned u' ∧ Grew 5 w w' B u u' (l ++ [n / 65536 / 256 % 256, n / 65536 % 256, n / 256 % 256, n % 256]) := by
  have H := Lib.hid h
  clear h
  go_enter Tryd.func38, Tryd.ntmps38
  go_wp2_with fail
  refine (short_any u l (n / 65536) w (by exact H.out) hB (by omega)).mono ?_
  rintro e w1 ⟨u1, rfl, g1⟩
  have G1 := Lib.hid g1
  clear g1
  go_wp2_with fail
  refine (short_any u1 _ n w1 (by exact G1.out.buf) (by have := G1.out.step.size; omega) (by simp; omega)).mono ?_
  rintro e w2 ⟨u2, rfl, g2⟩
  have G2 : Hid (Grew 5 w w2 B u u2 (l ++ [n / 65536 / 256 % 256, n / 65536 % 256, n / 256 % 256, n % 256])) := by
    refine Lib.hid ?_
    have := G1.out.trans g2
    simpa using this
  clear g2
  go_wp2_with fail
  go_ret
  exact ⟨u2, rfl, G2.out⟩

end Go.Proofs.YtgchepijbpcckaaDoor
