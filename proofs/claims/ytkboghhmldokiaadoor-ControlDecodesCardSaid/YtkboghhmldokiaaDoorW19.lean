/- The code's reader. -/
import Derived.Test.YtkboghhmldokiaaDoorW18
namespace Go.Proofs.YtkboghhmldokiaaDoor
open Go.RowKit Go.Gm

theorem take_ok (g b off cap : Nat) (l : List Int) (n : Nat) (bad : Bool) (w : World) (hn : n < l.length) (hcap : l.length ≤ cap)
    (hr : w.heap[g]? = some (.cells #[.slice (some ⟨b, off, none⟩) l.length cap, .bool bad] 61 (0, 0))) :
    Calls Tryd.prog 45 #[.pointer (some ⟨g, 0, none⟩), .int .i64 n] w fun e w' => e = .returned (.slice (some ⟨b, off, none⟩) n cap) ∧ w' = w.setCell ⟨g, 0, none⟩ (.slice (some ⟨b, off + n, none⟩) (l.length - n) (cap - n)) := by
  have c0 := blk_cell hr 0
  have c1 := blk_cell hr 1
  have f0 := blk_frozen hr 0
  simp only [List.getElem?_toArray, List.getElem?_cons_zero, List.getElem?_cons_succ] at c0 c1
  have d1 : decide ((l.length : Int) < (n : Int)) = false := by simp; omega
  have d2 : decide (l.length < n) = false := by simp; omega
  have d3 : ¬ l.length < n := by omega
  have k0 : (0 : Int) ≤ (n : Int) := by omega
  have k1 : (n : Int) ≤ (cap : Int) := by omega
  have k2 : (n : Int) ≤ (l.length : Int) := by omega
  have k3 : n ≤ cap := by omega
  have k4 : n ≤ l.length := by omega
  have k5 : (l.length : Int) ≤ (cap : Int) := by omega
  clear hr
  go_enter Tryd.func45, Tryd.ntmps45
  go_wp2_with fail
  go_ret
  exact ⟨rfl, rfl⟩

/-- A reader in its variable: it has the bytes l before it. -/
structure Rdr (w0 w : World) (g b off cap : Nat) (l : List Int) : Prop where
  at_ : w.heap[g]? = some (.cells #[.slice (some ⟨b, off, none⟩) l.length cap, .bool false] 61 (0, 0))
  seen : ∀ j x, l[j]? = some x → w.cell? ⟨b, off + j, none⟩ = some (.int .u8 x)
  st : Step None w0 w
  new : w0.heap.size ≤ g
  old : b < w0.heap.size
  room : l.length ≤ cap
  small : Small l

theorem Rdr.still {w0 w w' : World} {g b off cap : Nat} {l : List Int} (h : Rdr w0 w g b off cap l) (hs : Step None w w') : Rdr w0 w' g b off cap l :=
  ⟨hs.blk h.at_ (fun s => s.elim), fun j x hj => by
    have := h.seen j x hj
    rw [hs.cell (p := ⟨b, off + j, none⟩) (World.block_lt_of_cell? _ _ this) (fun s => s.elim)]; exact this, h.st.then_ hs, h.new, h.old, h.room, h.small⟩

/-- Behind so many bytes. -/
theorem Rdr.taken {w0 w : World} {g b off cap : Nat} {l : List Int} (h : Rdr w0 w g b off cap l) {n : Nat} : Rdr w0 (w.setCell ⟨g, 0, none⟩ (.slice (some ⟨b, off + n, none⟩) (l.length - n) (cap - n))) g b (off + n) (cap - n) (l.drop n) := by
  have hne : g ≠ b := by have := h.new; have := h.old; omega
  refine ⟨?_, fun j x hj => ?_, h.st.setCell (fun hh => by have := h.new; simp at hh; omega) _, h.new, h.old, by have := h.room; simp; omega, fun x hx => h.small x (List.mem_of_mem_drop hx)⟩
  · have := blk_set h.at_ 0 (.slice (some ⟨b, off + n, none⟩) (l.length - n) (cap - n))
    simpa using this
  · rw [World.cell?_setCell_far _ _ _ _ (by simpa using hne)]
    rw [List.getElem?_drop] at hj
    have := h.seen (n + j) x hj
    rwa [show off + (n + j) = off + n + j by omega] at this

/-- The number that two bytes tell. -/
def of2 (x0 x1 : Int) : Int := x0 * 256 + x1

theorem or_shift {a b : Int} (k : Nat) (ha : 0 ≤ a) (hb : 0 ≤ b) (hk : b < 2 ^ k) (hs : a * 2 ^ k + b < 9223372036854775808) : bits BinOp.or .i64 (a * 2 ^ k) b = a * 2 ^ k + b := by
  obtain ⟨A, rfl⟩ : ∃ A : Nat, a = A := ⟨a.toNat, by omega⟩
  obtain ⟨B, rfl⟩ : ∃ B : Nat, b = B := ⟨b.toNat, by omega⟩
  have e1 : ((A : Int) * 2 ^ k) = ((A * 2 ^ k : Nat) : Int) := by simp
  rw [e1] at hs ⊢
  have hB : B < 2 ^ k := by
    have : ((2 : Int) ^ k) = ((2 ^ k : Nat) : Int) := by simp
    rw [this] at hk
    omega
  have e2 : A * 2 ^ k ||| B = A * 2 ^ k + B := by
    have := Nat.shiftLeft_add_eq_or_of_lt hB A
    rw [Nat.shiftLeft_eq] at this
    exact this.symm
  generalize A * 2 ^ k = C at *
  unfold bits
  simp only [BitVec.toNat_or, BitVec.toNat_ofInt]
  have h1 : (((C : Nat) : Int) % ((2 ^ IntKind.i64.bits : Nat) : Int)).toNat = C := by
    have : ((2 ^ IntKind.i64.bits : Nat) : Int) = 18446744073709551616 := by decide
    rw [this]; omega
  have h2 : (((B : Nat) : Int) % ((2 ^ IntKind.i64.bits : Nat) : Int)).toNat = B := by
    have : ((2 ^ IntKind.i64.bits : Nat) : Int) = 18446744073709551616 := by decide
    rw [this]; omega
  rw [h1, h2, e2, IntWalk.i64_in _ (by omega)]
  simp

theorem or_byte {x0 x1 : Int} (h0 : 0 ≤ x0 ∧ x0 ≤ 255) (h1 : 0 ≤ x1 ∧ x1 ≤ 255) : bits BinOp.or .i64 (x0 * 256) x1 = of2 x0 x1 :=
  or_shift (a := x0) (b := x1) 8 h0.1 h1.1 (by omega) (by omega)

set_option maxHeartbeats 1000000 in
theorem short_ok {w0 : World} {g b off cap : Nat} {x0 x1 : Int} {t : List Int} (w : World) (h : Rdr w0 w g b off cap (x0 :: x1 :: t)) (ht : t ≠ []) :
    Calls Tryd.prog 43 #[.pointer (some ⟨g, 0, none⟩)] w fun e w' => e = .returned (.int .i64 (of2 x0 x1)) ∧ Rdr w0 w' g b (off + 2) (cap - 2) t := by
  have ht' : 0 < t.length := by cases t with | nil => exact absurd rfl ht | cons a r => simp
  have T := Lib.hid (take_ok g b off cap (x0 :: x1 :: t) 2 false w (by simp; omega) h.room h.at_)
  have b0 := h.small x0 (by simp)
  have b1 := h.small x1 (by simp)
  have c0 := h.seen 0 x0 rfl
  have c1 := h.seen 1 x1 rfl
  have R1 := Lib.hid (h.taken (n := 2))
  have hne : g ≠ b := by have := h.new; have := h.old; omega
  have ho := or_byte b0 b1
  have e1 : IntKind.i64.wrap x0 = x0 := IntWalk.i64_in _ (by omega)
  have e2 : IntKind.i64.wrap x1 = x1 := IntWalk.i64_in _ (by omega)
  have e3 : IntKind.i64.wrap (x0 * 256) = x0 * 256 := IntWalk.i64_in _ (by omega)
  have HB := Lib.hid (And.intro b0 b1)
  have hcap : 2 ≤ cap := by have := h.room; simp at this; omega
  clear h b0 b1 ht ht'
  go_enter Tryd.func43, Tryd.ntmps43
  go_wp2_with fail
  refine T.out.mono ?_
  rintro e w1 ⟨rfl, rfl⟩
  have d0 : (w.setCell ⟨g, 0, none⟩ (.slice (some ⟨b, off + 2, none⟩) ((x0 :: x1 :: t).length - 2) (cap - 2))).cell? ⟨b, off, none⟩ = some (.int .u8 x0) := by
    rw [World.cell?_setCell_far _ _ _ _ (by simpa using hne)]; exact c0
  have d1 : (w.setCell ⟨g, 0, none⟩ (.slice (some ⟨b, off + 2, none⟩) ((x0 :: x1 :: t).length - 2) (cap - 2))).cell? ⟨b, off + 1, none⟩ = some (.int .u8 x1) := by
    rw [World.cell?_setCell_far _ _ _ _ (by simpa using hne)]; exact c1
  generalize w.setCell ⟨g, 0, none⟩ (.slice (some ⟨b, off + 2, none⟩) ((x0 :: x1 :: t).length - 2) (cap - 2)) = w1 at *
  clear c0 c1 T
  go_wp2_with fail
  refine wp_region_plan (fun w' => w'.cell? ⟨b, off, none⟩ = some (.int .u8 x0) ∧ w'.cell? ⟨b, off + 1, none⟩ = some (.int .u8 x1)) (.take 0 (.take 1 (.take 2 (.take 3 (.take 4 (.take 5 (.take 6 (.take 7 (.take 8 (.take 9 (.take 10 .done))))))))))) _
    (by simp only [Plan.map, opOf, List.getElem?_toArray, List.getElem?_cons_zero, List.getElem?_cons_succ, Option.getD_some]; rfl) (by kernel_rfl) (by kernel_rfl) (by kernel_rfl) (by decide) (by intro c a d v w; cases d <;> exact fun h => h) ⟨d0, d1⟩ ?_
  repeat (refine wpPlan.taken (by rfl) (by intro w' hS'; (try dsimp only at hS'); go_split_ands; go_simp; try with_reducible rfl) ?_; simp only [Act.put, List.setIfInBounds_toArray, List.set_cons_zero, List.set_cons_succ])
  refine wpPlan.done ?_
  go_wp2_with fail
  go_ret
  refine ⟨rfl, ?_⟩
  have := R1.out.still (Step.refl None _).drew
  simpa using this

/-- The number that four bytes tell. -/
def of4 (x0 x1 x2 x3 : Int) : Int := of2 x0 x1 * 65536 + of2 x2 x3

set_option maxHeartbeats 1000000 in
theorem long_ok {w0 : World} {g b off cap : Nat} {x0 x1 x2 x3 : Int} {t : List Int} (w : World) (h : Rdr w0 w g b off cap (x0 :: x1 :: x2 :: x3 :: t)) (ht : t ≠ []) :
    Calls Tryd.prog 42 #[.pointer (some ⟨g, 0, none⟩)] w fun e w' => e = .returned (.int .i64 (of4 x0 x1 x2 x3)) ∧ Rdr w0 w' g b (off + 2 + 2) (cap - 2 - 2) t := by
  have b0 := h.small x0 (by simp)
  have b1 := h.small x1 (by simp)
  have b2 := h.small x2 (by simp)
  have b3 := h.small x3 (by simp)
  have T := Lib.hid (short_ok w h (by simp))
  have hh : 0 ≤ of2 x0 x1 ∧ of2 x0 x1 < 65536 := by unfold of2; omega
  have hl : 0 ≤ of2 x2 x3 ∧ of2 x2 x3 < 65536 := by unfold of2; omega
  have ho : bits BinOp.or .i64 (of2 x0 x1 * 65536) (of2 x2 x3) = of4 x0 x1 x2 x3 := or_shift (a := of2 x0 x1) (b := of2 x2 x3) 16 hh.1 hl.1 (by omega) (by omega)
  have e3 : IntKind.i64.wrap (of2 x0 x1 * 65536) = of2 x0 x1 * 65536 := IntWalk.i64_in _ (by omega)
  clear hh hl h b0 b1 b2 b3
  go_enter Tryd.func42, Tryd.ntmps42
  go_wp2_with fail
  refine T.out.mono ?_
  rintro e w1 ⟨rfl, h1⟩
  have T1 := Lib.hid (short_ok w1 h1 ht)
  clear h1 T
  go_wp2_with fail
  refine T1.out.mono ?_
  rintro e w2 ⟨rfl, h2⟩
  have H2 := Lib.hid h2
  clear h2 T1
  go_wp2_with fail
  go_ret
  exact ⟨rfl, H2.out⟩

end Go.Proofs.YtkboghhmldokiaaDoor
