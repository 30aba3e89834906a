/- A keepalive's bytes. -/
import Derived.Test.YtkboghhmldokiaaDoorW17
namespace Go.Proofs.YtkboghhmldokiaaDoor
open Go.RowKit Go.Gm

def okA (ep pr : Int) : Bool := num ep && isIn pr 0 65535
def encA (ep pr : Int) (prim : Bool) : List Int := [75] ++ four ep ++ two pr ++ [if prim then 1 else 0]
def bytesA (ep pr : Int) (prim : Bool) : List Int := if okA ep pr then encA ep pr prim else []
def codeA (ep pr : Int) : Int := if okA ep pr then 0 else 1

set_option linter.unusedSimpArgs false in
set_option maxHeartbeats 4000000 in
theorem alive_any (ep pr : Int) (prim : Bool) (w : World) :
    Calls Tryd.prog 16 #[.int .i64 ep, .int .i64 pr, .bool prim] w fun e w' => ∃ u, e = .returned (.tuple #[u, .int .i64 (codeA ep pr)]) ∧ Buf 5 w' w.heap.size u (bytesA ep pr prim) ∧ Step None w w' := by
  go_enter Tryd.func16, Tryd.ntmps16
  go_wp2_with fail
  refine (numbered_any ep _).mono ?_
  rintro e w1 ⟨rfl, rfl⟩
  cases h1 : num ep
  · go_wp2_with fail
    go_ret2
    rw [show codeA ep pr = 1 by simp [codeA, okA, h1], show bytesA ep pr prim = [] by simp [bytesA, okA, h1]]
    exact ⟨_, rfl, Buf.nil _ _ _, Step.refl _ _⟩
  go_wp2_with fail
  refine (within_any pr 0 65535 _).mono ?_
  rintro e w1 ⟨rfl, rfl⟩
  cases h2 : isIn pr 0 65535
  · go_wp2_with fail
    go_ret2
    rw [show codeA ep pr = 1 by simp [codeA, okA, h1, h2], show bytesA ep pr prim = [] by simp [bytesA, okA, h1, h2]]
    exact ⟨_, rfl, Buf.nil _ _ _, Step.refl _ _⟩
  have HC : Hid (codeA ep pr = 0 ∧ bytesA ep pr prim = encA ep pr prim) := Lib.hid ⟨by simp [codeA, okA, h1, h2], by simp [bytesA, okA, h1, h2]⟩
  go_wp2_with fail
  have hb : Buf 5 (w.alloc (.cells #[.int .u8 75] 5)) w.heap.size (.slice (some ⟨w.heap.size, 0, none⟩) 1 1) [75] :=
    ⟨Row.ofBlock (cur := #[.int .u8 75]) (heap_alloc_new _ _) (Nat.le_refl _) (by simp [maxLen]) (by simp), fun k hk => by simp [Leads, Value.ownBlock] at hk; omega⟩
  have s1 := (Step.refl None w).alloc (.cells #[.int .u8 75] 5)
  refine (long_any _ _ ep _ hb s1.size (by simp)).mono ?_
  rintro e w2 ⟨u2, rfl, g2⟩
  have s2 : Step None w w2 := s1.trans g2.step fun i hi hk => by have := hb.base i hk; omega
  have G2 := Lib.hid g2
  have S2 := Lib.hid s2
  clear s1 s2 g2 hb
  go_wp2_with fail
  refine (short_any _ _ pr _ G2.out.buf S2.out.size (by simp)).mono ?_
  rintro e w3 ⟨u3, rfl, g3⟩
  have s3 : Step None w w3 := S2.out.trans g3.step fun i hi hk => by have := G2.out.buf.base i hk; omega
  have G3 := Lib.hid g3
  have S3 := Lib.hid s3
  clear s3 g3 S2 G2
  go_wp2_with (first | (at_builtin; refine wpList_append_row T24 rfl (.tmp 21) (.tmp 22) rfl rfl (G3.out.buf.row.alloc _) rfl (Src.ofBlock T24 (c := 1) (heap_alloc_new w3 (.cells #[.int .u8 0] 5)) (by rfl) (by simp [Value.oneCell'])) ?ha ?hb ?_))
  case ha => simp [maxLen]
  case hb => simp
  intro v4 w4 h4 h5 h6
  have hm := G3.out.buf.grew (more := [0]) S3.out.size ((Step.refl None w3).alloc _) h4 h5 (by simpa using h6)
  have s4 : Step None w w4 := S3.out.trans hm.step fun i hi hk => by have := G3.out.buf.base i hk; omega
  have HM := Lib.hid hm
  have S4 := Lib.hid s4
  clear hm h4 h5 h6 s4 G3
  cases prim
  · go_wp2_with fail
    go_ret2
    rw [HC.out.1, HC.out.2]
    exact ⟨_, rfl, by simpa [encA, four, two] using HM.out.buf, S4.out⟩
  · have hr := HM.out.buf.row
    obtain ⟨b, off, cap, rfl, hge, -, hL, hc, hf⟩ := hr.cells (by simp)
    have c7 := hc 7 (.int .u8 0) (by simp)
    have f7 := hf (off + 7)
    have hge' : 7 < cap := by simp at hge; omega
    clear hc hf
    have R : Hid (Row w4 5 1 (.slice (some ⟨b, off, none⟩) 8 cap) 8 ([75, ep / 65536 / 256 % 256, ep / 65536 % 256, ep / 256 % 256, ep % 256, pr / 256 % 256, pr % 256, 0].map (.int .u8))) := Lib.hid (by simpa using hr)
    have B4 := Lib.hid (HM.out.buf.base b hL)
    clear hr HM hL
    go_wp2_with fail
    go_ret2
    rw [HC.out.1, HC.out.2]
    refine ⟨_, rfl, ⟨?_, ?_⟩, ?_⟩
    · have := R.out.setAt (i := 7) (by decide) (.int .u8 1)
      simpa [encA, four, two] using this
    · intro k hk
      have := B4.out
      simp [Leads, Value.ownBlock] at hk
      omega
    · exact S4.out.setCell (fun h => by have := B4.out; simp at h; omega) _

set_option linter.unusedSimpArgs false in
set_option maxHeartbeats 4000000 in
theorem ralive_any (ep pr : Int) (prim : Bool) (w : World) :
    Calls Tryd.prog 17 #[.int .i64 ep, .int .i64 pr, .bool prim] w fun e w' => ∃ u, e = .returned (.tuple #[u, .int .i64 (codeA ep pr)]) ∧ Buf 5 w' w.heap.size u (bytesA ep pr prim) ∧ Step None w w' := by
  go_enter Tryd.func17, Tryd.ntmps17
  go_wp2_with fail
  refine (rwithin_any ep 0 1073741824 _).mono ?_
  rintro e w1 ⟨rfl, rfl⟩
  cases h1 : isIn ep 0 1073741824
  · go_wp2_with fail
    go_ret2
    rw [show codeA ep pr = 1 by simp [codeA, okA, num, h1], show bytesA ep pr prim = [] by simp [bytesA, okA, num, h1]]
    exact ⟨_, rfl, Buf.nil _ _ _, Step.refl _ _⟩
  go_wp2_with fail
  refine (rwithin_any pr 0 65535 _).mono ?_
  rintro e w1 ⟨rfl, rfl⟩
  cases h2 : isIn pr 0 65535
  · go_wp2_with fail
    go_ret2
    rw [show codeA ep pr = 1 by simp [codeA, okA, num, h1, h2], show bytesA ep pr prim = [] by simp [bytesA, okA, num, h1, h2]]
    exact ⟨_, rfl, Buf.nil _ _ _, Step.refl _ _⟩
  have HC : Hid (codeA ep pr = 0 ∧ bytesA ep pr prim = encA ep pr prim) := Lib.hid ⟨by simp [codeA, okA, num, h1, h2], by simp [bytesA, okA, num, h1, h2]⟩
  have b1 : 0 ≤ ep ∧ ep < 4294967296 := by simp [isIn] at h1; omega
  have b2 : 0 ≤ pr ∧ pr < 4294967296 := by simp [isIn] at h2; omega
  have B1 := Lib.hid b1
  have B2 := Lib.hid b2
  clear b1 b2
  go_wp2_with fail
  have hb : Buf 5 (w.alloc (.cells #[.int .u8 75] 5)) w.heap.size (.slice (some ⟨w.heap.size, 0, none⟩) 1 1) [75] :=
    ⟨Row.ofBlock (cur := #[.int .u8 75]) (heap_alloc_new _ _) (Nat.le_refl _) (by simp [maxLen]) (by simp), fun k hk => by simp [Leads, Value.ownBlock] at hk; omega⟩
  have s1 := (Step.refl None w).alloc (.cells #[.int .u8 75] 5)
  refine (number_four ep _ B1.out.1 B1.out.2).mono ?_
  rintro e w2 ⟨u2, rfl, f2, s2⟩
  have H2 := Lib.hid (hb.still s2)
  have F2 := Lib.hid f2
  have S2 := Lib.hid (s1.then_ s2)
  clear s1 s2 f2 hb
  go_wp2_with (first | (at_builtin; refine wpList_append_row T24 rfl (.tmp 17) (.tmp 19) rfl rfl H2.out.row rfl (Row.src T24 F2.out.row (nums_one _ _)) ?ha ?hb ?_))
  case ha => simp [maxLen, four]
  case hb => simp [four]
  intro v3 w3 h4 h5 h6
  have g3 := H2.out.grew (more := four ep) S2.out.size (Step.refl None w2) h4 h5 h6
  have s3 : Step None w w3 := S2.out.trans g3.step fun i hi hk => by have := H2.out.base i hk; omega
  have G3 := Lib.hid g3
  have S3 := Lib.hid s3
  clear h4 h5 h6 s3 g3 S2 H2 F2
  go_wp2_with fail
  refine (number_two pr _ B2.out.1 B2.out.2).mono ?_
  rintro e w4 ⟨u4, rfl, f4, s4⟩
  have H4 := Lib.hid (G3.out.buf.still s4)
  have F4 := Lib.hid f4
  have S4 := Lib.hid (S3.out.then_ s4)
  clear s4 f4 S3 G3
  go_wp2_with (first | (at_builtin; refine wpList_append_row T24 rfl (.tmp 21) (.tmp 23) rfl rfl H4.out.row rfl (Row.src T24 F4.out.row (nums_one _ _)) ?ha ?hb ?_))
  case ha => simp [maxLen, four, two]
  case hb => simp [four, two]
  intro v5 w5 h4 h5 h6
  have g5 := H4.out.grew (more := two pr) S4.out.size (Step.refl None w4) h4 h5 h6
  have s5 : Step None w w5 := S4.out.trans g5.step fun i hi hk => by have := H4.out.base i hk; omega
  have G5 := Lib.hid g5
  have S5 := Lib.hid s5
  clear h4 h5 h6 s5 g5 S4 H4 F4
  cases prim
  · go_wp2_with (first | (at_builtin; refine wpList_append_row T24 rfl (.tmp 29) (.tmp 30) rfl rfl (G5.out.buf.row.alloc _) rfl (Src.ofBlock T24 (c := 1) (heap_alloc_new w5 (.cells #[.int .u8 0] 5)) (by rfl) (by simp [Value.oneCell'])) ?ha ?hb ?_))
    case ha => simp [maxLen, four, two]
    case hb => simp [four, two]
    intro v6 w6 h4 h5 h6
    have g6 := G5.out.buf.grew (more := [0]) S5.out.size ((Step.refl None w5).alloc _) h4 h5 (by simpa using h6)
    have s6 : Step None w w6 := S5.out.trans g6.step fun i hi hk => by have := G5.out.buf.base i hk; omega
    have G6 := Lib.hid g6
    have S6 := Lib.hid s6
    clear h4 h5 h6 s6 g6
    go_wp2_with fail
    go_ret2
    rw [HC.out.1, HC.out.2]
    exact ⟨_, rfl, by simpa [encA] using G6.out.buf, S6.out⟩
  · go_wp2_with (first | (at_builtin; refine wpList_append_row T24 rfl (.tmp 26) (.tmp 27) rfl rfl (G5.out.buf.row.alloc _) rfl (Src.ofBlock T24 (c := 1) (heap_alloc_new w5 (.cells #[.int .u8 1] 5)) (by rfl) (by simp [Value.oneCell'])) ?ha ?hb ?_))
    case ha => simp [maxLen, four, two]
    case hb => simp [four, two]
    intro v6 w6 h4 h5 h6
    have g6 := G5.out.buf.grew (more := [1]) S5.out.size ((Step.refl None w5).alloc _) h4 h5 (by simpa using h6)
    have s6 : Step None w w6 := S5.out.trans g6.step fun i hi hk => by have := G5.out.buf.base i hk; omega
    have G6 := Lib.hid g6
    have S6 := Lib.hid s6
    clear h4 h5 h6 s6 g6
    go_wp2_with fail
    go_ret2
    rw [HC.out.1, HC.out.2]
    exact ⟨_, rfl, by simpa [encA] using G6.out.buf, S6.out⟩
end Go.Proofs.YtkboghhmldokiaaDoor
