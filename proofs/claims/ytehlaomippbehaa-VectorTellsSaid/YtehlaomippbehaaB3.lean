/- May one be? The document's Right. -/
import Derived.Test.YtehlaomippbehaaB2
namespace Go.Proofs.Ytehlaomippbehaa
open Go.RowKit Go.Gm

/-- Its numbers are within their bounds. -/
def fine (x : Bpd) : Bool := upTo x.age 65535 && (upTo x.most 65535 && (upTo x.hello 65535 && (upTo x.fwd 65535 && (upTo x.flags 255 && (upTo x.root.p 65535 && (upTo x.bridge.p 65535 && (upTo x.port 65535 && (upTo x.cost 4294967295))))))))
/-- May it be? -/
def okB (x : Bpd) : Bool := if x.kind == 128 then x.flat == (bare 128).flat else if x.kind == 0 || x.kind == 2 then fine x else false

set_option linter.unusedSimpArgs false in
set_option maxHeartbeats 4000000 in
theorem rright_any (x : Bpd) (w : World) : Calls Try.prog 39 #[.agg x.cells] w fun e w' => e = .returned (.bool (okB x)) ∧ Step None w w' := by
  have p1 := heap_alloc_new w (.cells x.cells 39)
  have s1 := (Step.refl None w).alloc (.cells x.cells 39)
  obtain ⟨W, hW⟩ : ∃ W, w.alloc (.cells x.cells 39) = W := ⟨_, rfl⟩
  rw [hW] at p1 s1
  have HE := Lib.hid hW
  clear hW
  have S1 := Lib.hid s1
  have P1 := Lib.hid p1
  clear s1
  have c18 := blk_cell p1 18
  have c19 := blk_cell p1 19
  have c20 := blk_cell p1 20
  have c21 := blk_cell p1 21
  have c1 := blk_cell p1 1
  have c2 := blk_cell p1 2
  have c10 := blk_cell p1 10
  have c17 := blk_cell p1 17
  have c9 := blk_cell p1 9
  have c0 := blk_cell p1 0
  simp only [Bpd.cells, List.getElem?_toArray, List.getElem?_cons_zero, List.getElem?_cons_succ] at c18 c19 c20 c21 c1 c2 c10 c17 c9 c0
  have he : ∀ w, (Op.equalIn 10000 39 (.agg x.cells) (.agg #[.int .i64 128, .int .i64 0, .int .i64 0, .int .u8 0, .int .u8 0, .int .u8 0, .int .u8 0, .int .u8 0, .int .u8 0, .int .i64 0, .int .i64 0, .int .u8 0, .int .u8 0, .int .u8 0, .int .u8 0, .int .u8 0, .int .u8 0, .int .i64 0, .int .i64 0, .int .i64 0, .int .i64 0, .int .i64 0])).run Try.prog w = .ok (x.flat == (bare 128).flat) w := fun w => eq_bpd x (bare 128) w
  have HO := Lib.hid (show okB x = if x.kind == 128 then x.flat == (bare 128).flat else if x.kind == 0 || x.kind == 2 then fine x else false from rfl)
  have HF := Lib.hid (show fine x = (upTo x.age 65535 && (upTo x.most 65535 && (upTo x.hello 65535 && (upTo x.fwd 65535 && (upTo x.flags 255 && (upTo x.root.p 65535 && (upTo x.bridge.p 65535 && (upTo x.port 65535 && (upTo x.cost 4294967295))))))))) from rfl)
  clear p1
  generalize okB x = R at *
  generalize fine x = Q at *
  generalize (x.flat == (bare 128).flat) = E at *
  go_enter Try.func39, Try.ntmps39
  cases h1 : (x.kind == 128)
  rotate_left
  · have hR := Lib.hid (HO.out.trans (if_pos h1))
    go_wp2_with (first | rw [HE.out] | (refine wpList_load_row rfl 39 (.tmp 1) rfl w.heap.size rfl 39 x.cells (0, 0) _ P1.out Try.underlying39 rfl (by kernel_rfl) ?_))
    go_ret
    exact ⟨by rw [hR.out]; rfl, S1.out⟩
  have e1 := HO.out
  rw [h1] at e1
  cases h2 : (x.kind == 0 || x.kind == 2)
  · have hR : Hid (R = false) := Lib.hid (by rw [e1, h2]; rfl)
    have h3 : (x.kind != 0) = true := by simp [bne]; simp at h2; exact h2.1
    have h4 : (x.kind != 2) = true := by simp [bne]; simp at h2; exact h2.2
    clear e1
    go_wp2_with (rw [HE.out])
    go_ret
    exact ⟨by rw [hR.out]; rfl, S1.out⟩
  have hR : Hid (R = Q) := Lib.hid (by rw [e1, h2]; rfl)
  have h3 : (x.kind != 0 && x.kind != 2) = false := by
    cases a : (x.kind == 0) <;> cases b : (x.kind == 2) <;> simp_all [bne]
  clear e1
  have main : ∀ k0 k2 : Bool, True := fun _ _ => trivial
  clear main
  cases h4 : (x.kind != 0)
  · skip
    go_wp2_with (rw [HE.out])
    refine (rwithin_any x.age 65535 _).mono ?_
    rintro e w1 ⟨rfl, rfl⟩
    cases u0 : upTo x.age 65535
    · go_wp2_with fail
      go_ret
      exact ⟨by rw [hR.out, HF.out, u0]; rfl, S1.out⟩
    go_wp2_with fail
    refine (rwithin_any x.most 65535 _).mono ?_
    rintro e w1 ⟨rfl, rfl⟩
    cases u1 : upTo x.most 65535
    · go_wp2_with fail
      go_ret
      exact ⟨by rw [hR.out, HF.out, u0, u1]; rfl, S1.out⟩
    go_wp2_with fail
    refine (rwithin_any x.hello 65535 _).mono ?_
    rintro e w1 ⟨rfl, rfl⟩
    cases u2 : upTo x.hello 65535
    · go_wp2_with fail
      go_ret
      exact ⟨by rw [hR.out, HF.out, u0, u1, u2]; rfl, S1.out⟩
    go_wp2_with fail
    refine (rwithin_any x.fwd 65535 _).mono ?_
    rintro e w1 ⟨rfl, rfl⟩
    cases u3 : upTo x.fwd 65535
    · go_wp2_with fail
      go_ret
      exact ⟨by rw [hR.out, HF.out, u0, u1, u2, u3]; rfl, S1.out⟩
    go_wp2_with fail
    refine (rwithin_any x.flags 255 _).mono ?_
    rintro e w1 ⟨rfl, rfl⟩
    cases u4 : upTo x.flags 255
    · go_wp2_with fail
      go_ret
      exact ⟨by rw [hR.out, HF.out, u0, u1, u2, u3, u4]; rfl, S1.out⟩
    go_wp2_with fail
    refine (rwithin_any x.root.p 65535 _).mono ?_
    rintro e w1 ⟨rfl, rfl⟩
    cases u5 : upTo x.root.p 65535
    · go_wp2_with fail
      go_ret
      exact ⟨by rw [hR.out, HF.out, u0, u1, u2, u3, u4, u5]; rfl, S1.out⟩
    go_wp2_with fail
    refine (rwithin_any x.bridge.p 65535 _).mono ?_
    rintro e w1 ⟨rfl, rfl⟩
    cases u6 : upTo x.bridge.p 65535
    · go_wp2_with fail
      go_ret
      exact ⟨by rw [hR.out, HF.out, u0, u1, u2, u3, u4, u5, u6]; rfl, S1.out⟩
    go_wp2_with fail
    refine (rwithin_any x.port 65535 _).mono ?_
    rintro e w1 ⟨rfl, rfl⟩
    cases u7 : upTo x.port 65535
    · go_wp2_with fail
      go_ret
      exact ⟨by rw [hR.out, HF.out, u0, u1, u2, u3, u4, u5, u6, u7]; rfl, S1.out⟩
    go_wp2_with fail
    refine (rwithin_any x.cost 4294967295 _).mono ?_
    rintro e w1 ⟨rfl, rfl⟩
    cases u8 : upTo x.cost 4294967295
    · go_wp2_with fail
      go_ret
      exact ⟨by rw [hR.out, HF.out, u0, u1, u2, u3, u4, u5, u6, u7, u8]; rfl, S1.out⟩
    go_wp2_with fail
    go_ret
    exact ⟨by rw [hR.out, HF.out, u0, u1, u2, u3, u4, u5, u6, u7, u8]; rfl, S1.out⟩
  · have h5 : (x.kind != 2) = false := by rw [h4] at h3; simpa using h3
    go_wp2_with (rw [HE.out])
    refine (rwithin_any x.age 65535 _).mono ?_
    rintro e w1 ⟨rfl, rfl⟩
    cases u0 : upTo x.age 65535
    · go_wp2_with fail
      go_ret
      exact ⟨by rw [hR.out, HF.out, u0]; rfl, S1.out⟩
    go_wp2_with fail
    refine (rwithin_any x.most 65535 _).mono ?_
    rintro e w1 ⟨rfl, rfl⟩
    cases u1 : upTo x.most 65535
    · go_wp2_with fail
      go_ret
      exact ⟨by rw [hR.out, HF.out, u0, u1]; rfl, S1.out⟩
    go_wp2_with fail
    refine (rwithin_any x.hello 65535 _).mono ?_
    rintro e w1 ⟨rfl, rfl⟩
    cases u2 : upTo x.hello 65535
    · go_wp2_with fail
      go_ret
      exact ⟨by rw [hR.out, HF.out, u0, u1, u2]; rfl, S1.out⟩
    go_wp2_with fail
    refine (rwithin_any x.fwd 65535 _).mono ?_
    rintro e w1 ⟨rfl, rfl⟩
    cases u3 : upTo x.fwd 65535
    · go_wp2_with fail
      go_ret
      exact ⟨by rw [hR.out, HF.out, u0, u1, u2, u3]; rfl, S1.out⟩
    go_wp2_with fail
    refine (rwithin_any x.flags 255 _).mono ?_
    rintro e w1 ⟨rfl, rfl⟩
    cases u4 : upTo x.flags 255
    · go_wp2_with fail
      go_ret
      exact ⟨by rw [hR.out, HF.out, u0, u1, u2, u3, u4]; rfl, S1.out⟩
    go_wp2_with fail
    refine (rwithin_any x.root.p 65535 _).mono ?_
    rintro e w1 ⟨rfl, rfl⟩
    cases u5 : upTo x.root.p 65535
    · go_wp2_with fail
      go_ret
      exact ⟨by rw [hR.out, HF.out, u0, u1, u2, u3, u4, u5]; rfl, S1.out⟩
    go_wp2_with fail
    refine (rwithin_any x.bridge.p 65535 _).mono ?_
    rintro e w1 ⟨rfl, rfl⟩
    cases u6 : upTo x.bridge.p 65535
    · go_wp2_with fail
      go_ret
      exact ⟨by rw [hR.out, HF.out, u0, u1, u2, u3, u4, u5, u6]; rfl, S1.out⟩
    go_wp2_with fail
    refine (rwithin_any x.port 65535 _).mono ?_
    rintro e w1 ⟨rfl, rfl⟩
    cases u7 : upTo x.port 65535
    · go_wp2_with fail
      go_ret
      exact ⟨by rw [hR.out, HF.out, u0, u1, u2, u3, u4, u5, u6, u7]; rfl, S1.out⟩
    go_wp2_with fail
    refine (rwithin_any x.cost 4294967295 _).mono ?_
    rintro e w1 ⟨rfl, rfl⟩
    cases u8 : upTo x.cost 4294967295
    · go_wp2_with fail
      go_ret
      exact ⟨by rw [hR.out, HF.out, u0, u1, u2, u3, u4, u5, u6, u7, u8]; rfl, S1.out⟩
    go_wp2_with fail
    go_ret
    exact ⟨by rw [hR.out, HF.out, u0, u1, u2, u3, u4, u5, u6, u7, u8]; rfl, S1.out⟩

end Go.Proofs.Ytehlaomippbehaa
