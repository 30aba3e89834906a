/- The reader of read: its closure take. -/
import Derived.Test.YtfpdfenepelcdaaD1
namespace Go.Proofs.Ytfpdfenepelcdaa
open Go.RowKit Go.Gm

theorem or_shift {a b : Int} (k : Nat) (ha : 0 ≤ a) (hb : 0 ≤ b) (hk : b < 2 ^ k) (hs : a * 2 ^ k + b < 9223372036854775808) : bits BinOp.or .i64 (a * 2 ^ k) b = a * 2 ^ k + b := by
  obtain ⟨A, rfl⟩ : ∃ A : Nat, a = A := ⟨a.toNat, by omega⟩
  obtain ⟨B, rfl⟩ : ∃ B : Nat, b = B := ⟨b.toNat, by omega⟩
  have e1 : ((A : Int) * 2 ^ k) = ((A * 2 ^ k : Nat) : Int) := by simp
  rw [e1] at hs ⊢
  have hB : B < 2 ^ k := by
    have : ((2 : Int) ^ k) = ((2 ^ k : Nat) : Int) := by simp
    rw [this] at hk
    omega
  have e2 : A * 2 ^ k ||| B = A * 2 ^ k + B := by
    have := Nat.shiftLeft_add_eq_or_of_lt hB A
    rw [Nat.shiftLeft_eq] at this
    exact this.symm
  generalize A * 2 ^ k = C at *
  unfold bits
  simp only [BitVec.toNat_or, BitVec.toNat_ofInt]
  have h1 : (((C : Nat) : Int) % ((2 ^ IntKind.i64.bits : Nat) : Int)).toNat = C := by
    have : ((2 ^ IntKind.i64.bits : Nat) : Int) = 18446744073709551616 := by decide
    rw [this]; omega
  have h2 : (((B : Nat) : Int) % ((2 ^ IntKind.i64.bits : Nat) : Int)).toNat = B := by
    have : ((2 ^ IntKind.i64.bits : Nat) : Int) = 18446744073709551616 := by decide
    rw [this]; omega
  rw [h1, h2, e2, IntWalk.i64_in _ (by omega)]
  simp

/-- A slice value that holds these bytes. -/
def Seg (w : World) (v : Value) (l : List Int) : Prop := ∃ ao cap, v = .slice ao l.length cap ∧ l.length ≤ cap ∧ cap ≤ 9223372036854775807 ∧ ∀ j x, l[j]? = some x → ∃ b off, ao = some ⟨b, off, none⟩ ∧ w.cell? ⟨b, off + j, none⟩ = some (.int .u8 x)
theorem Seg.still {w w' : World} {v : Value} {l : List Int} (h : Seg w v l) (hs : Step None w w') : Seg w' v l := by
  obtain ⟨ao, cap, rfl, h1, h2, h3⟩ := h
  refine ⟨ao, cap, rfl, h1, h2, fun j x hj => ?_⟩
  obtain ⟨b, off, e, hc⟩ := h3 j x hj
  exact ⟨b, off, e, (hs.cell (p := ⟨b, off + j, none⟩) (World.block_lt_of_cell? w _ hc) (fun s => s.elim)).trans hc⟩
def shortP : List PanicEntry := [{ v := .iface 64 (.agg #[]), recovered := false }]

theorem take_none {w0 : World} (C n : Nat) (v : Value) (l : List Int) (w : World) (hC : w.heap[C]? = some (.cells #[v] 29 (0, 0))) (hv : Seg w0 v l) (hn : l.length < n) :
    Calls Try.prog 36 #[.int .i64 n, .pointer (some ⟨C, 0, none⟩)] w fun e w' => e = .panicked shortP ∧ w = w' := by
  obtain ⟨ao, cap, rfl, h1, h2, h3⟩ := hv
  have c0 := blk_cell hC 0
  simp only [List.getElem?_toArray, List.getElem?_cons_zero] at c0
  have d1 : decide ((l.length : Int) < (n : Int)) = true := by simp; omega
  have d2 : decide (l.length < n) = true := by simp; omega
  clear hC h3
  go_enter Try.func36, Try.ntmps36
  go_wp2_with fail
  exact ⟨rfl, rfl, rfl⟩
theorem seg_take {w : World} {ao : Option Addr} {cap n : Nat} {l : List Int} (hn : n ≤ l.length) (hc : l.length ≤ cap) (hm : cap ≤ 9223372036854775807) (h : ∀ j x, l[j]? = some x → ∃ b off, ao = some ⟨b, off, none⟩ ∧ w.cell? ⟨b, off + j, none⟩ = some (.int .u8 x)) : Seg w (.slice ao n cap) (l.take n) := by
  refine ⟨ao, cap, by rw [List.length_take, Nat.min_eq_left hn], by rw [List.length_take]; omega, hm, fun j x hj => ?_⟩
  rw [List.getElem?_take] at hj
  split at hj
  · exact h j x hj
  · cases hj
theorem seg_drop {w : World} {ao : Option Addr} {cap n : Nat} {l : List Int} (hn : n ≤ l.length) (hc : l.length ≤ cap) (hm : cap ≤ 9223372036854775807) (h : ∀ j x, l[j]? = some x → ∃ b off, ao = some ⟨b, off, none⟩ ∧ w.cell? ⟨b, off + j, none⟩ = some (.int .u8 x)) : Seg w (.slice (Option.map (fun x => x.add n) ao) (l.length - n) (cap - n)) (l.drop n) := by
  refine ⟨_, cap - n, by rw [List.length_drop], by rw [List.length_drop]; omega, by omega, fun j x hj => ?_⟩
  rw [List.getElem?_drop] at hj
  obtain ⟨b, off, rfl, hc⟩ := h _ x hj
  refine ⟨b, off + n, ?_, ?_⟩
  · simp [add_plain]
  · rw [Nat.add_assoc]; exact hc
theorem take_some {w0 : World} (C n : Nat) (v : Value) (l : List Int) (w : World) (hC : w.heap[C]? = some (.cells #[v] 29 (0, 0))) (hv : Seg w0 v l) (hn : n ≤ l.length) :
    Calls Try.prog 36 #[.int .i64 n, .pointer (some ⟨C, 0, none⟩)] w fun e w' => ∃ u v', e = .returned u ∧ Seg w0 u (l.take n) ∧ Seg w0 v' (l.drop n) ∧ w' = w.setCell ⟨C, 0, none⟩ v' := by
  obtain ⟨ao, cap, rfl, h1, h2, h3⟩ := hv
  have c0 := blk_cell hC 0
  have f0 := blk_frozen hC 0
  simp only [List.getElem?_toArray, List.getElem?_cons_zero] at c0
  have d1 : decide ((l.length : Int) < (n : Int)) = false := by simp; omega
  have d2 : decide (l.length < n) = false := by simp; omega
  have d3 : ¬ l.length < n := by omega
  have k0 : (0 : Int) ≤ (n : Int) := by omega
  have k1 : (n : Int) ≤ (cap : Int) := by omega
  have k2 : (n : Int) ≤ (l.length : Int) := by omega
  have k3 : n ≤ cap := by omega
  have k4 : n ≤ l.length := by omega
  have k5 : (l.length : Int) ≤ (cap : Int) := by omega
  have H3 := Lib.hid h3
  clear hC h3
  go_enter Try.func36, Try.ntmps36
  go_wp2_with fail
  · by_cases hcap : cap = n
    rotate_left
    · exfalso
      simp_all
      done
    have hn' : n = l.length := by omega
    have hd : l.drop n = [] := List.drop_of_length_le (by omega)
    have ht := seg_take k4 h1 h2 H3.out
    rw [hcap] at ht
    go_ret
    refine ⟨_, rfl, ht, _, ?_, rfl⟩
    rw [hd]
    exact ⟨ao, 0, by simp; omega, by simp, by omega, fun j x hj => by simp at hj⟩
  · go_ret
    exact ⟨_, rfl, seg_take k4 h1 h2 H3.out, _, seg_drop k4 h1 h2 H3.out, rfl⟩
end Go.Proofs.Ytfpdfenepelcdaa
