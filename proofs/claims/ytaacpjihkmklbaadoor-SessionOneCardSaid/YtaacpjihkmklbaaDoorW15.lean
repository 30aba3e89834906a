/- The two, in their blocks, and what each said. -/
import Derived.Test.YtaacpjihkmklbaaDoorW14
namespace Go.Proofs.YtaacpjihkmklbaaDoor
open Go.RowKit Go.Gm

theorem T45 : SliceT Tryd.prog 45 36 14 88 := SliceT.mk' Tryd.underlying45 (z := .agg #[.int .i64 0, .int .i64 0, .int .i64 0, .int .i64 0, .int .i64 0, .int .u8 0, .int .u8 0, .int .u8 0, .int .u8 0, .int .u8 0, .int .u8 0, .int .i64 0, .int .i64 0, .slice none 0 0]) (by kernel_rfl) rfl (by decide)
/-- A hello, as it lies. -/
def helloC (h : Ses) : Array Value := Note.packet (Ses.note h) h.life 0 h.known (.slice none 0 0)
def flatH : List Ses → List Value
  | [] => []
  | h :: r => (helloC h).toList ++ flatH r
theorem flatH_len : ∀ l : List Ses, (flatH l).length = l.length * 14
  | [] => rfl
  | h :: r => by
    rw [flatH, List.length_append, flatH_len r, List.length_cons]
    show 14 + _ = _
    omega
theorem flatH_app : ∀ (l : List Ses) (h : Ses), flatH (l ++ [h]) = flatH l ++ (helloC h).toList
  | [], h => by simp [flatH]
  | x :: r, h => by
    rw [List.cons_append, flatH, flatH, flatH_app r h, List.append_assoc]
theorem flatH_get : ∀ (l : List Ses) (i : Nat) (h : Ses) (j : Nat) (u : Value), l[i]? = some h → (helloC h)[j]? = some u → (flatH l)[i * 14 + j]? = some u
  | [], i, h, j, u, hi, _ => by simp at hi
  | x :: r, 0, h, j, u, hi, hj => by
    simp only [List.getElem?_cons_zero, Option.some.injEq] at hi
    subst hi
    have hl : j < 14 := (Array.getElem?_eq_some_iff.1 hj).1
    rw [flatH, List.getElem?_append_left (by show 0 * 14 + j < 14; omega), Nat.zero_mul, Nat.zero_add]
    simpa using hj
  | x :: r, i + 1, h, j, u, hi, hj => by
    rw [flatH, List.getElem?_append_right (by show 14 ≤ _; omega)]
    have : (i + 1) * 14 + j - (helloC x).toList.length = i * 14 + j := by show (i + 1) * 14 + j - 14 = _; omega
    rw [this]
    exact flatH_get r i h j u (by simpa using hi) hj
theorem said_load {w : World} {v : Value} {l : List Ses} {i : Nat} {h : Ses} (hr : Row w 36 14 v l.length (flatH l)) (hi : l[i]? = some h) :
    ∃ b off cap, v = .slice (some ⟨b, off, none⟩) l.length cap ∧ Leads v b ∧ (Instr.loadAt 36 (.pointer (some ⟨b, off + i * 14, none⟩))).run Tryd.prog w = .ok (.agg (helloC h)) w := by
  have hlt := (List.getElem?_eq_some_iff.1 hi).1
  obtain ⟨b, off, cap, rfl, -, -, hld, hc, -⟩ := hr.cells (by omega)
  refine ⟨b, off, cap, rfl, hld, ?_⟩
  have := run_loadAt_mid (P := Tryd.prog) w b (off + i * 14) 36 (helloC h).toList _ (fun j u hj => by
    rw [Nat.add_assoc]
    exact hc _ _ (flatH_get l i h j u hi (by simpa using hj))) Tryd.underlying36 rfl (by kernel_rfl)
  simpa using this

/-- The two sessions, the array that leads to them, and what each said. -/
structure Duet (w0 w : World) (g h bx bs : Nat) (a b : Ses) (va vb : Value) (A B : List Ses) : Prop where
  one : ∃ op, w.heap[g]? = some (.cells (a.cells op) 63 (0, 0))
  two : ∃ op, w.heap[h]? = some (.cells (b.cells op) 63 (0, 0))
  arr : w.heap[bx]? = some (.cells #[.pointer (some ⟨g, 0, none⟩), .pointer (some ⟨h, 0, none⟩)] 42 (0, 0))
  sd : w.heap[bs]? = some (.cells #[va, vb] 46 (0, 0))
  ra : Row w 36 14 va A.length (flatH A)
  rb : Row w 36 14 vb B.length (flatH B)
  g0 : w0.heap.size ≤ g
  h0 : w0.heap.size ≤ h
  s0 : w0.heap.size ≤ bs
  t0 : 0 < w0.heap.size
  la : ∀ k, Leads va k → w0.heap.size ≤ k
  lb : ∀ k, Leads vb k → w0.heap.size ≤ k
  apart : ∀ k, Leads va k → ¬ Leads vb k
  ne : g ≠ h
  st : Step None w0 w
  oka : a.Ok
  okb : b.Ok
  tab : HasAt 0 w
section
variable {w0 w w1 : World} {g h bx bs : Nat} {a b a' b' : Ses} {va vb : Value} {A B : List Ses}
theorem Duet.two' (d : Duet w0 w g h bx bs a b va vb A B) : Two w w g h a b := ⟨d.one, d.two, d.ne, Step.refl _ _, d.oka, d.okb, d.tab⟩
theorem Duet.next (d : Duet w0 w g h bx bs a b va vb A B) (t : Two w w1 g h a' b') : Duet w0 w1 g h bx bs a' b' va vb A B := by
  obtain ⟨o1, h1⟩ := d.one
  obtain ⟨o2, h2⟩ := d.two
  refine ⟨t.one, t.two, t.st.blk d.arr ?_, t.st.blk d.sd ?_, d.ra.step t.st ?_, d.rb.step t.st ?_, d.g0, d.h0, d.s0, d.t0, d.la, d.lb, d.apart, d.ne, d.st.trans t.st ?_, t.oka, t.okb, t.tab⟩
  · exact fun e => e.elim (blk_ne d.arr h1 (by decide)) (blk_ne d.arr h2 (by decide))
  · exact fun e => e.elim (blk_ne d.sd h1 (by decide)) (blk_ne d.sd h2 (by decide))
  · rintro k hk (rfl | rfl)
    · exact d.ra.ne h1 (by decide) hk
    · exact d.ra.ne h2 (by decide) hk
  · rintro k hk (rfl | rfl)
    · exact d.rb.ne h1 (by decide) hk
    · exact d.rb.ne h2 (by decide) hk
  · rintro k hk (rfl | rfl)
    · have := d.g0; show False; omega
    · have := d.h0; show False; omega
theorem Duet.still (d : Duet w0 w g h bx bs a b va vb A B) (s : Step None w w1) : Duet w0 w1 g h bx bs a b va vb A B := d.next (d.two'.still s)
/-- What is read through the two arrays, while a row is written. -/
theorem Duet.cells (d : Duet w0 w g h bx bs a b va vb A B) {v : Value} {n : Nat} {xs : List Value} (hr : Row w 36 14 v n xs) (s : Step (Leads v) w w1) :
    w1.cell? ⟨bx, 0, none⟩ = some (.pointer (some ⟨g, 0, none⟩)) ∧ w1.cell? ⟨bx, 1, none⟩ = some (.pointer (some ⟨h, 0, none⟩)) ∧ w1.cell? ⟨bs, 0, none⟩ = some va ∧ w1.cell? ⟨bs, 1, none⟩ = some vb := by
  have k := blk_cell (s.blk d.arr (hr.ne d.arr (by decide)))
  have m := blk_cell (s.blk d.sd (hr.ne d.sd (by decide)))
  exact ⟨k 0, k 1, m 0, m 1⟩
/-- One was heard to say something. -/
theorem Duet.saidA (d : Duet w0 w g h bx bs a b va vb A B) {v' : Value} {x : Ses} (s : Step (Leads va) w w1) (hr : Row w1 36 14 v' (A.length + 1) (flatH A ++ (helloC x).toList)) (hl : ∀ k, Leads v' k → Leads va k ∨ w.heap.size ≤ k) :
    Duet w0 (w1.setCell ⟨bs, 0, none⟩ v') g h bx bs a b v' vb (A ++ [x]) B := by
  obtain ⟨o1, h1⟩ := d.one
  obtain ⟨o2, h2⟩ := d.two
  have hlt := blk_lt d.sd
  have e1 := s.blk h1 (d.ra.ne h1 (by decide))
  have e2 := s.blk h2 (d.ra.ne h2 (by decide))
  have e3 := s.blk d.arr (d.ra.ne d.arr (by decide))
  have e4 := s.blk d.sd (d.ra.ne d.sd (by decide))
  have rb1 := d.rb.step s (fun k hk hk' => d.apart k hk' hk)
  have q : Step (· = bs) w1 (w1.setCell ⟨bs, 0, none⟩ v') := (Step.refl (· = bs) w1).setCell (p := ⟨bs, 0, none⟩) (fun _ => rfl) v'
  refine ⟨⟨o1, q.blk e1 (blk_ne e1 e4 (by decide))⟩, ⟨o2, q.blk e2 (blk_ne e2 e4 (by decide))⟩, q.blk e3 (blk_ne e3 e4 (by decide)), ?_, ?_, rb1.step q (fun k hk e => rb1.ne e4 (by decide) (e ▸ hk)), d.g0, d.h0, d.s0, d.t0, fun k hk => ?_, d.lb, fun k hk hk' => ?_, d.ne, ?_, d.oka, d.okb, ?_⟩
  · have := blk_set e4 0 v'
    simpa using this
  · have := hr.step q (fun k hk e => hr.ne e4 (by decide) (e ▸ hk))
    rw [flatH_app, List.length_append]
    exact this
  · have := d.st.size
    rcases hl k hk with h | h
    · exact d.la k h
    · omega
  · rcases hl k hk with h | h
    · exact d.apart k h hk'
    · have := d.rb.lt hk'; omega
  · refine (d.st.trans s fun k hk e => ?_).trans q fun k hk e => ?_
    · have := d.la k e; show False; omega
    · have e' : k = bs := e
      have := d.s0; show False; omega
  · have z := d.t0
    refine (d.tab.step s fun e => ?_).step q fun e => ?_
    · have := d.la 0 e; omega
    · have e' : 0 = bs := e
      have := d.s0; omega
theorem Duet.saidB (d : Duet w0 w g h bx bs a b va vb A B) {v' : Value} {x : Ses} (s : Step (Leads vb) w w1) (hr : Row w1 36 14 v' (B.length + 1) (flatH B ++ (helloC x).toList)) (hl : ∀ k, Leads v' k → Leads vb k ∨ w.heap.size ≤ k) :
    Duet w0 (w1.setCell ⟨bs, 1, none⟩ v') g h bx bs a b va v' A (B ++ [x]) := by
  obtain ⟨o1, h1⟩ := d.one
  obtain ⟨o2, h2⟩ := d.two
  have hlt := blk_lt d.sd
  have e1 := s.blk h1 (d.rb.ne h1 (by decide))
  have e2 := s.blk h2 (d.rb.ne h2 (by decide))
  have e3 := s.blk d.arr (d.rb.ne d.arr (by decide))
  have e4 := s.blk d.sd (d.rb.ne d.sd (by decide))
  have ra1 := d.ra.step s (fun k hk hk' => d.apart k hk hk')
  have q : Step (· = bs) w1 (w1.setCell ⟨bs, 1, none⟩ v') := (Step.refl (· = bs) w1).setCell (p := ⟨bs, 1, none⟩) (fun _ => rfl) v'
  refine ⟨⟨o1, q.blk e1 (blk_ne e1 e4 (by decide))⟩, ⟨o2, q.blk e2 (blk_ne e2 e4 (by decide))⟩, q.blk e3 (blk_ne e3 e4 (by decide)), ?_, ra1.step q (fun k hk e => ra1.ne e4 (by decide) (e ▸ hk)), ?_, d.g0, d.h0, d.s0, d.t0, d.la, fun k hk => ?_, fun k hk hk' => ?_, d.ne, ?_, d.oka, d.okb, ?_⟩
  · have := blk_set e4 1 v'
    simpa using this
  · have := hr.step q (fun k hk e => hr.ne e4 (by decide) (e ▸ hk))
    rw [flatH_app, List.length_append]
    exact this
  · have := d.st.size
    rcases hl k hk with h | h
    · exact d.lb k h
    · omega
  · rcases hl k hk' with h | h
    · exact d.apart k hk h
    · have := d.ra.lt hk; omega
  · refine (d.st.trans s fun k hk e => ?_).trans q fun k hk e => ?_
    · have := d.lb k e; show False; omega
    · have e' : k = bs := e
      have := d.s0; show False; omega
  · have z := d.t0
    refine (d.tab.step s fun e => ?_).step q fun e => ?_
    · have := d.lb 0 e; omega
    · have e' : 0 = bs := e
      have := d.s0; omega
end
end Go.Proofs.YtaacpjihkmklbaaDoor
