/- A list of notes, as a row; slices.Clone. -/
import Derived.Test.YtgchepijbpcckaaDoorW1
namespace Go.Proofs.YtgchepijbpcckaaDoor
open Go.RowKit Go.Gm

theorem T43 : SliceT Tryd.prog 43 36 11 64 := SliceT.mk' Tryd.underlying43 (z := .agg (bare.cells (.slice none 0 0))) (by kernel_rfl) rfl (by decide)
/-- The cells of notes, with their bodies' values. -/
def flatN (l : List (Note × Value)) : List Value := l.flatMap fun p => (p.1.cells p.2).toList
theorem flatN_snoc (l : List (Note × Value)) (n : Note) (v : Value) : flatN (l ++ [(n, v)]) = flatN l ++ (n.cells v).toList := by simp [flatN]
theorem flatN_drop : ∀ (l : List (Note × Value)) (k : Nat), (flatN l).drop (k * 11) = flatN (l.drop k)
  | l, 0 => by simp
  | [], k + 1 => by simp [flatN]
  | (n, v) :: r, k + 1 => by
    have hl : (n.cells v).toList.length = 11 := rfl
    show ((n.cells v).toList ++ flatN r).drop ((k + 1) * 11) = flatN (r.drop k)
    rw [← flatN_drop r k, List.drop_append, hl, show (k + 1) * 11 - 11 = k * 11 by omega, List.drop_of_length_le (by rw [hl]; omega), List.nil_append]
theorem flatN_get : ∀ (l : List (Note × Value)) (i j : Nat) (n : Note) (v u : Value), l[i]? = some (n, v) → (n.cells v)[j]? = some u → (flatN l)[i * 11 + j]? = some u
  | [], i, j, n, v, u, h, _ => by simp at h
  | (m, y) :: r, 0, j, n, v, u, h, hu => by
    simp at h
    obtain ⟨rfl, rfl⟩ := h
    have hj : j < 11 := (Array.getElem?_eq_some_iff.1 hu).1
    rw [Nat.zero_mul, Nat.zero_add]
    show ((m.cells y).toList ++ flatN r)[j]? = some u
    rw [List.getElem?_append_left (show j < (m.cells y).toList.length from hj)]
    simpa using hu
  | (m, y) :: r, i + 1, j, n, v, u, h, hu => by
    have ih := flatN_get r i j n v u (by simpa using h) hu
    show ((m.cells y).toList ++ flatN r)[(i + 1) * 11 + j]? = some u
    have hl : (m.cells y).toList.length = 11 := rfl
    rw [List.getElem?_append_right (by rw [hl]; omega), hl, show (i + 1) * 11 + j - 11 = i * 11 + j by omega]
    exact ih

theorem row_src {w : World} {a : Addr} {n cap : Nat} {xs : List Value} (h : Row w 36 11 (.slice (some a) n cap) n xs) (h1 : ∀ u ∈ xs, u.oneCell' = true) : Src Tryd.prog 11 43 (.slice (some a) n cap) n xs w := by
  refine Src.ofSlice w Tryd.underlying43 a n cap xs h.len (fun j u hj => ?_) h1
  have hp : 0 < n := by
    rcases Nat.eq_zero_or_pos n with h0 | h0
    · have hx : xs = [] := List.eq_nil_of_length_eq_zero (by have := h.len; rw [h0] at this; omega)
      rw [hx] at hj
      simp at hj
    · exact h0
  obtain ⟨b, off, cap', e, -, -, -, hc, -⟩ := h.cells hp
  simp only [Value.slice.injEq, Option.some.injEq] at e
  obtain ⟨rfl, -, rfl⟩ := e
  rw [add_plain]
  exact hc j u hj

theorem sclone_nil (w : World) : Calls Tryd.prog 46 #[.slice none 0 0] w fun e w' => e = .returned (.slice none 0 0) ∧ w = w' := by
  have hq : ∀ w, (binOp BinOp.eql 43 (.slice none 0 0) (.slice none 0 0)).run Tryd.prog w = .ok (.bool true) w := fun w => by kernel_rfl
  go_enter Tryd.func46, Tryd.ntmps46
  go_wp2_with fail
  go_ret
  exact ⟨rfl, rfl⟩
set_option maxHeartbeats 1000000 in
theorem sclone_some (a : Addr) (n cap : Nat) (xs : List Value) (w : World) (h : Row w 36 11 (.slice (some a) n cap) n xs) (h1 : ∀ u ∈ xs, u.oneCell' = true) (hn : n ≤ 100000) :
    Calls Tryd.prog 46 #[.slice (some a) n cap] w fun e w' => ∃ u, e = .returned u ∧ Row w' 36 11 u n xs ∧ Step None w w' ∧ ∀ k, Leads u k → w.heap.size ≤ k := by
  have hrow0 : Row (w.alloc (.cells #[] 36)) 36 11 (.slice (some ⟨w.heap.size, 0, none⟩) 0 0) 0 [] := Row.ofBlock (n := 0) (cap := 0) (heap_alloc_new w (.cells #[] 36)) (Nat.le_refl _) (by simp [maxLen]) (by simp)
  have sa := (Step.refl None w).alloc (.cells #[] 36)
  have src := row_src (h.alloc (.cells #[] 36)) h1
  obtain ⟨W, hW⟩ : ∃ W, w.alloc (.cells #[] 36) = W := ⟨_, rfl⟩
  have hsz : W.heap.size = w.heap.size + 1 := by rw [← hW]; simp
  rw [hW] at hrow0 sa src
  have R0 := Lib.hid hrow0
  have HE := Lib.hid hW
  have SRC := Lib.hid src
  have SA := Lib.hid sa
  have HL := Lib.hid hn
  have HZ := Lib.hid hsz
  have hq : ∀ w, (binOp BinOp.eql 43 (.slice (some a) n cap) (.slice none 0 0)).run Tryd.prog w = .ok (.bool false) w := fun w => by kernel_rfl
  clear hrow0 sa src hW h h1 hn hsz
  go_enter Tryd.func46, Tryd.ntmps46
  go_wp2_with (first
    | rw [HE.out]
    | (at_builtin; refine wpList_append_row T43 rfl (.tmp 5) (.tmp 6) rfl rfl R0.out rfl SRC.out ?ha ?hb ?_))
  case ha => have := HL.out; simp [maxLen]; omega
  case hb => have := HL.out; simp; omega
  intro v1 w1 r1 s1 l1
  have lead : ∀ k, Leads (.slice (some ⟨w.heap.size, 0, none⟩) 0 0) k → k = w.heap.size := fun k hk => by simp [Leads, Value.ownBlock] at hk; exact hk.symm
  have O := Lib.hid (show Row w1 36 11 v1 n xs by simpa using r1)
  have ST := Lib.hid (SA.out.trans s1 fun i hi hk => by have := lead i hk; omega)
  have NW : Hid (∀ k, Leads v1 k → w.heap.size ≤ k) := Lib.hid fun k hk => by
    rcases l1 k hk with h | h
    · have := lead k h; omega
    · have := HZ.out; omega
  clear r1 s1 l1 lead
  go_wp2_with fail
  go_ret
  exact ⟨_, rfl, O.out, ST.out, NW.out⟩
end Go.Proofs.YtgchepijbpcckaaDoor
