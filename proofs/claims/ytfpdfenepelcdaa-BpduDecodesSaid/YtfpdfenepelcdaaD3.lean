/- read's closures: a number, an address. -/
import Derived.Test.YtfpdfenepelcdaaD2
namespace Go.Proofs.Ytfpdfenepelcdaa
open Go.RowKit Go.Gm

def posB : Nat → Nat
  | 0 => 4 | 1 => 5 | 2 => 7 | 3 => 13 | 4 => 17 | 5 => 19 | 6 => 25 | 7 => 27 | 8 => 29 | 9 => 31 | 10 => 33 | _ => 35
/-- What stands in read's variables when i fields were read. -/
structure Rd (w0 a : World) (P F C T : Nat) (l : List Int) (i : Nat) : Prop where
  p : a.heap[P]? = some (.cells (pB l i).cells 27 (0, 0))
  f : a.heap[F]? = some (.cells #[.bool false] 4 (0, 0))
  t : a.heap[T]? = some (.cells #[.func (.func 36) #[] #[.pointer (some ⟨C, 0, none⟩)]] 41 (0, 0))
  c : ∃ v, a.heap[C]? = some (.cells #[v] 29 (0, 0)) ∧ Seg w0 v (l.drop (posB i))
  len : posB i ≤ l.length
  st : Step None w0 a
  nP : w0.heap.size ≤ P
  nC : w0.heap.size ≤ C
/-- What is left of them when it panics. -/
def Ruin (w0 a : World) (P F : Nat) : Prop := (∃ cs : Array Value, a.heap[P]? = some (.cells cs 27 (0, 0)) ∧ cs.size = 22) ∧ (∃ x, a.heap[F]? = some (.cells #[x] 4 (0, 0))) ∧ Step None w0 a
theorem Rd.still {w0 a b : World} {P F C T : Nat} {l : List Int} {i : Nat} (h : Rd w0 a P F C T l i) (hs : Step None a b) : Rd w0 b P F C T l i := by
  obtain ⟨v, h1, h2⟩ := h.c
  exact ⟨hs.blk h.p (fun s => s.elim), hs.blk h.f (fun s => s.elim), hs.blk h.t (fun s => s.elim), ⟨v, hs.blk h1 (fun s => s.elim), h2⟩, h.len, h.st.then_ hs, h.nP, h.nC⟩
theorem Rd.ruin {w0 a : World} {P F C T : Nat} {l : List Int} {i : Nat} (h : Rd w0 a P F C T l i) : Ruin w0 a P F := ⟨⟨_, h.p, rfl⟩, ⟨_, h.f⟩, h.st⟩

/-- The number that bytes tell, behind another. -/
def beL : List Int → Int → Int
  | [], n => n
  | x :: r, n => beL r (n * 256 + x)
theorem beL_snoc : ∀ (l : List Int) (n x : Int), beL (l ++ [x]) n = beL l n * 256 + x
  | [], _, _ => rfl
  | _ :: r, _, x => beL_snoc r _ x
theorem beL_rng {l : List Int} (hs : Small l) (hl : l.length ≤ 4) : 0 ≤ beL l 0 ∧ beL l 0 < 4294967296 := by
  match l, hl with
  | [], _ => exact ⟨by decide, by decide⟩
  | [a], _ => have := hs a (by simp); simp only [beL]; omega
  | [a, b], _ => have := hs a (by simp); have := hs b (by simp); simp only [beL]; omega
  | [a, b, c], _ => have := hs a (by simp); have := hs b (by simp); have := hs c (by simp); simp only [beL]; omega
  | [a, b, c, d], _ => have := hs a (by simp); have := hs b (by simp); have := hs c (by simp); have := hs d (by simp); simp only [beL]; omega
  | _ :: _ :: _ :: _ :: _ :: _, hl => simp at hl
theorem beL_small {l : List Int} (hs : Small l) (hl : l.length < 4) : 0 ≤ beL l 0 ∧ beL l 0 < 16777216 := by
  match l, hl with
  | [], _ => exact ⟨by decide, by decide⟩
  | [a], _ => have := hs a (by simp); simp only [beL]; omega
  | [a, b], _ => have := hs a (by simp); have := hs b (by simp); simp only [beL]; omega
  | [a, b, c], _ => have := hs a (by simp); have := hs b (by simp); have := hs c (by simp); simp only [beL]; omega
  | _ :: _ :: _ :: _ :: _, hl => simp only [List.length_cons] at hl; omega

theorem taken_one {l : List Int} {p : Nat} (h : p < l.length) : (l.drop p).take 1 = [by_ l p] := by
  rw [List.drop_eq_getElem_cons h, List.take_succ_cons, List.take_zero]
  simp [by_, List.getD, h]
theorem taken_more {l : List Int} {p n : Nat} (h : p < l.length) : (l.drop p).take (n + 1) = by_ l p :: (l.drop (p + 1)).take n := by
  rw [List.drop_eq_getElem_cons h, List.take_succ_cons]
  simp [by_, List.getD, h]

theorem num_next {l : List Int} {i off k : Nat} (h : flds[i]? = some (.num off k)) (hl : posB i + k ≤ l.length) : (pB l i).cells[off]? = some (.int .i64 0) ∧ (pB l i).cells.setIfInBounds off (.int .i64 (beL ((l.drop (posB i)).take k) 0)) = (pB l (i + 1)).cells ∧ posB i + k = posB (i + 1) ∧ k ≤ 4 ∧ off < 22 := by
  match i, h with
  | 0, h =>
    simp only [flds, List.getElem?_cons_zero, Option.some.injEq, Fld.num.injEq] at h
    obtain ⟨rfl, rfl⟩ := h
    simp only [posB] at hl ⊢
    refine ⟨rfl, ?_, by decide, by decide, by decide⟩
    rw [taken_more (p := 4) (n := 0) (by omega), List.take_zero]
    simp only [beL]
    simp [pB, Bpd.cells]
  | 1, h =>
    simp only [flds, List.getElem?_cons_zero, List.getElem?_cons_succ, Option.some.injEq, Fld.num.injEq] at h
    obtain ⟨rfl, rfl⟩ := h
    simp only [posB] at hl ⊢
    refine ⟨rfl, ?_, by decide, by decide, by decide⟩
    rw [taken_more (p := 5) (n := 1) (by omega), taken_more (p := 6) (n := 0) (by omega), List.take_zero]
    simp only [beL]
    simp [pB, Bpd.cells]
  | 2, h => simp [flds] at h
  | 3, h =>
    simp only [flds, List.getElem?_cons_zero, List.getElem?_cons_succ, Option.some.injEq, Fld.num.injEq] at h
    obtain ⟨rfl, rfl⟩ := h
    simp only [posB] at hl ⊢
    refine ⟨rfl, ?_, by decide, by decide, by decide⟩
    rw [taken_more (p := 13) (n := 3) (by omega), taken_more (p := 14) (n := 2) (by omega), taken_more (p := 15) (n := 1) (by omega), taken_more (p := 16) (n := 0) (by omega), List.take_zero]
    simp only [beL]
    simp [pB, Bpd.cells]
  | 4, h =>
    simp only [flds, List.getElem?_cons_zero, List.getElem?_cons_succ, Option.some.injEq, Fld.num.injEq] at h
    obtain ⟨rfl, rfl⟩ := h
    simp only [posB] at hl ⊢
    refine ⟨rfl, ?_, by decide, by decide, by decide⟩
    rw [taken_more (p := 17) (n := 1) (by omega), taken_more (p := 18) (n := 0) (by omega), List.take_zero]
    simp only [beL]
    simp [pB, Bpd.cells]
  | 5, h => simp [flds] at h
  | 6, h =>
    simp only [flds, List.getElem?_cons_zero, List.getElem?_cons_succ, Option.some.injEq, Fld.num.injEq] at h
    obtain ⟨rfl, rfl⟩ := h
    simp only [posB] at hl ⊢
    refine ⟨rfl, ?_, by decide, by decide, by decide⟩
    rw [taken_more (p := 25) (n := 1) (by omega), taken_more (p := 26) (n := 0) (by omega), List.take_zero]
    simp only [beL]
    simp [pB, Bpd.cells]
  | 7, h =>
    simp only [flds, List.getElem?_cons_zero, List.getElem?_cons_succ, Option.some.injEq, Fld.num.injEq] at h
    obtain ⟨rfl, rfl⟩ := h
    simp only [posB] at hl ⊢
    refine ⟨rfl, ?_, by decide, by decide, by decide⟩
    rw [taken_more (p := 27) (n := 1) (by omega), taken_more (p := 28) (n := 0) (by omega), List.take_zero]
    simp only [beL]
    simp [pB, Bpd.cells]
  | 8, h =>
    simp only [flds, List.getElem?_cons_zero, List.getElem?_cons_succ, Option.some.injEq, Fld.num.injEq] at h
    obtain ⟨rfl, rfl⟩ := h
    simp only [posB] at hl ⊢
    refine ⟨rfl, ?_, by decide, by decide, by decide⟩
    rw [taken_more (p := 29) (n := 1) (by omega), taken_more (p := 30) (n := 0) (by omega), List.take_zero]
    simp only [beL]
    simp [pB, Bpd.cells]
  | 9, h =>
    simp only [flds, List.getElem?_cons_zero, List.getElem?_cons_succ, Option.some.injEq, Fld.num.injEq] at h
    obtain ⟨rfl, rfl⟩ := h
    simp only [posB] at hl ⊢
    refine ⟨rfl, ?_, by decide, by decide, by decide⟩
    rw [taken_more (p := 31) (n := 1) (by omega), taken_more (p := 32) (n := 0) (by omega), List.take_zero]
    simp only [beL]
    simp [pB, Bpd.cells]
  | 10, h =>
    simp only [flds, List.getElem?_cons_zero, List.getElem?_cons_succ, Option.some.injEq, Fld.num.injEq] at h
    obtain ⟨rfl, rfl⟩ := h
    simp only [posB] at hl ⊢
    refine ⟨rfl, ?_, by decide, by decide, by decide⟩
    rw [taken_more (p := 33) (n := 1) (by omega), taken_more (p := 34) (n := 0) (by omega), List.take_zero]
    simp only [beL]
    simp [pB, Bpd.cells]
  | n + 11, h => simp [flds] at h

theorem num_pos {i off k : Nat} (h : flds[i]? = some (.num off k)) : posB i + k ≤ 35 := by
  match i, h with
  | 0, h => simp [flds] at h; simp [posB]; try omega
  | 1, h => simp [flds] at h; simp [posB]; try omega
  | 2, h => simp [flds] at h
  | 3, h => simp [flds] at h; simp [posB]; try omega
  | 4, h => simp [flds] at h; simp [posB]; try omega
  | 5, h => simp [flds] at h
  | 6, h => simp [flds] at h; simp [posB]; try omega
  | 7, h => simp [flds] at h; simp [posB]; try omega
  | 8, h => simp [flds] at h; simp [posB]; try omega
  | 9, h => simp [flds] at h; simp [posB]; try omega
  | 10, h => simp [flds] at h; simp [posB]; try omega
  | n + 11, h => simp [flds] at h
theorem Rd.num {w0 a b : World} {P F C T : Nat} {l : List Int} {i off k : Nat} (h : Rd w0 a P F C T l i) (hi : flds[i]? = some (.num off k)) (hl : posB i + k ≤ l.length) {v' : Value} (hv : Seg w0 v' ((l.drop (posB i)).drop k))
    (hp : b.heap[P]? = some (.cells ((pB l i).cells.setIfInBounds off (.int .i64 (beL ((l.drop (posB i)).take k) 0))) 27 (0, 0))) (hc : b.heap[C]? = some (.cells #[v'] 29 (0, 0))) (hs : Step (fun k => k = P ∨ k = C) a b) : Rd w0 b P F C T l (i + 1) := by
  obtain ⟨n1, n2, n3, n4, n5⟩ := num_next hi hl
  obtain ⟨v, h1, h2⟩ := h.c
  have hPF : F ≠ P := blk_ne h.f h.p (by decide)
  have hPT : T ≠ P := blk_ne h.t h.p (by decide)
  have hCF : F ≠ C := blk_ne h.f h1 (by decide)
  have hCT : T ≠ C := blk_ne h.t h1 (by decide)
  refine ⟨by rw [hp, n2], hs.blk h.f (fun hh => hh.elim hPF hCF), hs.blk h.t (fun hh => hh.elim hPT hCT), ⟨v', hc, ?_⟩, by omega, h.st.trans hs fun j hj hh => ?_, h.nP, h.nC⟩
  · rw [List.drop_drop, n3] at hv
    exact hv
  · have := h.nP
    have := h.nC
    rcases hh with rfl | rfl <;> omega
theorem rd_other {a b : World} {P C : Nat} {cs v : Array Value} (hp : a.heap[P]? = some (.cells cs 27 (0, 0))) (hc : a.heap[C]? = some (.cells v 29 (0, 0))) (hs : Step (fun k => k = P ∨ k = C) a b) : Step (Other [46, 60] a) a b :=
  hs.mono fun k hk hh cs' t fr he => by
    rcases hh with rfl | rfl
    · rw [hp] at he; simp at he; rw [← he.2.1]; decide
    · rw [hc] at he; simp at he; rw [← he.2.1]; decide

set_option maxRecDepth 100000 in
set_option maxHeartbeats 8000000 in
theorem rd_num (w0 a : World) (P F C T : Nat) (l : List Int) (hsm : Small l) (i off k : Nat) (hi : flds[i]? = some (.num off k)) (h : Rd w0 a P F C T l i) :
    Calls Try.prog 37 #[.agg #[.pointer (some ⟨P, off, none⟩), .int .i64 k], .pointer (some ⟨T, 0, none⟩)] a fun e b => (e = .returned (.tuple #[]) ∧ Rd w0 b P F C T l (i + 1) ∧ Step (Other [46, 60] a) a b) ∨ (e = .panicked shortP ∧ Ruin w0 b P F ∧ l.length < 35) := by
  have sa := (Step.refl None a).alloc (.cells #[.pointer (some ⟨P, off, none⟩), .int .i64 k] 46)
  have ba := heap_alloc_new a (.cells #[.pointer (some ⟨P, off, none⟩), .int .i64 k] 46)
  obtain ⟨W, hW⟩ : ∃ W, a.alloc (.cells #[.pointer (some ⟨P, off, none⟩), .int .i64 k] 46) = W := ⟨_, rfl⟩
  rw [hW] at sa ba
  have HE := Lib.hid hW
  have R := Lib.hid (h.still sa)
  obtain ⟨v, hc0, hv⟩ := h.c
  have HCA := Lib.hid hc0
  have hc := sa.blk hc0 (fun s => s.elim)
  have b0 := blk_cell ba 0
  have b1 := blk_cell ba 1
  have t0 := blk_cell R.out.t 0
  simp only [List.getElem?_toArray, List.getElem?_cons_zero, List.getElem?_cons_succ] at b0 b1 t0
  have HC := Lib.hid hc
  have HV := Lib.hid hv
  have HI := Lib.hid hi
  have SM := Lib.hid hsm
  have SA := Lib.hid sa
  have BA := Lib.hid ba
  have HP := Lib.hid h.p
  have RA := Lib.hid h
  have ST0 := Lib.hid h.st
  clear hW h sa ba hc hc0 hv hi hsm
  by_cases hl : posB i + k ≤ l.length
  rotate_left
  · have CT := Lib.hid (take_none C k v (l.drop (posB i)) W HC.out HV.out (by have := R.out.len; simp; omega))
    go_enter Try.func37, Try.ntmps37
    go_wp2_with (first
      | rw [HE.out])
    refine CT.out.mono ?_
    rintro e w2 ⟨rfl, rfl⟩
    go_wp2_with fail
    exact ⟨rfl, .inr ⟨rfl, R.out.ruin, by have := num_pos HI.out; omega⟩⟩
  obtain ⟨n1, n2, n3, n4, n5⟩ := num_next HI.out hl
  have CT := Lib.hid (take_some C k v (l.drop (posB i)) W HC.out HV.out (by have := R.out.len; simp; omega))
  have HN := Lib.hid (And.intro n1 (And.intro n4 n5))
  have HL := Lib.hid hl
  clear n1 n2 n3 n5 hl
  go_enter Try.func37, Try.ntmps37
  go_wp2_with (first
    | rw [HE.out])
  refine CT.out.mono ?_
  rintro e w2 ⟨u, v', rfl, hu, hv', rfl⟩
  obtain ⟨ao, cp, eu, -, -, hb⟩ := hu
  have hlen : ((l.drop (posB i)).take k).length = k := by have := HL.out; simp; omega
  have HSM : Hid (Small ((l.drop (posB i)).take k)) := Lib.hid fun x hx => SM.out x (List.mem_of_mem_drop (List.mem_of_mem_take hx))
  obtain ⟨ys, hys⟩ : ∃ ys, (l.drop (posB i)).take k = ys := ⟨_, rfl⟩
  rw [hys] at hlen hb eu HSM
  have HYS := Lib.hid hys
  rw [hlen] at eu
  subst eu
  have HB := Lib.hid hb
  have HV' := Lib.hid hv'
  have HLY := Lib.hid hlen
  have hPC : P ≠ C := blk_ne R.out.p HC.out (by decide)
  -- behind take
  have pc := (Below.heap_setCell W ⟨C, 0, none⟩ v' P (by simpa using hPC)).trans R.out.p
  have cc := blk_set HC.out 0 v'
  have ba2 := (Below.heap_setCell W ⟨C, 0, none⟩ v' a.heap.size (by have := blk_ne BA.out HC.out (by decide); simpa using this)).trans BA.out
  have sc : Step (fun k => k = P ∨ k = C) a (W.setCell ⟨C, 0, none⟩ v') := (SA.out.none).setCell (fun _ => .inr rfl) v'
  simp only [Array.setIfInBounds, List.size_toArray, List.length_cons, List.length_nil, Nat.zero_add, Nat.lt_add_one, dite_true, List.set_toArray, List.set_cons_zero] at cc
  obtain ⟨W2, hW2⟩ : ∃ W2, W.setCell ⟨C, 0, none⟩ v' = W2 := ⟨_, rfl⟩
  rw [hW2] at pc cc ba2 sc
  rw [hW2]
  have PC := Lib.hid pc
  have CC := Lib.hid cc
  have BA2 := Lib.hid ba2
  have SC := Lib.hid sc
  clear hW2 pc cc ba2 sc hb hv' hys hlen b0 b1 t0 CT HE
  go_wp2_with fail
  generalize a.heap.size = X at *
  go_loopw [4, 10] (fun _ ix wr => ∃ (j : Nat) (V : World), V = wr ∧ j ≤ k ∧ ix = .int .i64 j ∧ Hid (wr.heap[P]? = some (.cells ((pB l i).cells.setIfInBounds off (.int .i64 (beL (ys.take j) 0))) 27 (0, 0))) ∧ Hid (wr.heap[C]? = some (.cells #[v'] 29 (0, 0))) ∧ Hid (wr.heap[X]? = some (.cells #[.pointer (some ⟨P, off, none⟩), .int .i64 k] 46 (0, 0))) ∧ Hid (Step (fun k => k = P ∨ k = C) a wr)) (fun _ ix _ => k - (intOf ix).toNat)
  case atStart =>
    refine ⟨0, _, rfl, Nat.zero_le _, rfl, Lib.hid ?_, CC, BA2, SC⟩
    rw [PC.out, List.take_zero]
    obtain ⟨h1, h2⟩ := Array.getElem?_eq_some_iff.1 HN.out.1
    rw [show beL [] 0 = 0 from rfl, ← h2, Array.setIfInBounds, dif_pos h1]
    simp
  case round =>
    obtain ⟨j, wr, rfl, hj, rfl, hp, hc, hx, hs⟩ := hrel
    by_cases hlt : j < k
    · obtain ⟨x, hxx⟩ : ∃ x, ys[j]? = some x := ⟨ys[j]'(by rw [HLY.out]; exact hlt), List.getElem?_eq_getElem _⟩
      obtain ⟨b, bo, rfl, cb⟩ := HB.out j x hxx
      have hx8 := HSM.out x (List.mem_of_getElem? hxx)
      have cbr : wr.cell? ⟨b, bo + j, none⟩ = some (.int .u8 x) := by
        have hlt0 := World.block_lt_of_cell? _ _ cb
        have nP := R.out.nP
        have nC := R.out.nC
        have hn : ¬ (b = P ∨ b = C) := fun hh => by rcases hh with rfl | rfl <;> (simp at hlt0; omega)
        have e1 := hs.out.cell (p := ⟨b, bo + j, none⟩) (by have := ST0.out.size; simp at hlt0 ⊢; omega) hn
        rw [e1, ST0.out.cell (p := ⟨b, bo + j, none⟩) hlt0 (fun s => s.elim)]
        exact cb
      have e1 : decide ((j : Int) < (k : Int)) = true := by simpa using hlt
      have k0 : (0 : Int) ≤ (j : Int) := by omega
      have k1 : (j : Int) < (k : Int) := by omega
      have k4 : k ≤ 4 := HN.out.2.1
      have hw1 : IntKind.i64.wrap ((j : Int) + 1) = ((j + 1 : Nat) : Int) := by rw [IntWalk.i64_in _ (by omega)]; omega
      have hsn : beL (ys.take (j + 1)) 0 = beL (ys.take j) 0 * 256 + x := by rw [List.take_add_one, hxx]; exact beL_snoc _ _ _
      have hrg := beL_small (l := ys.take j) (fun y hy => HSM.out y (List.mem_of_mem_take hy)) (by simp; omega)
      have pcell := blk_cell hp.out off
      have pfz := blk_frozen hp.out off
      rw [Array.getElem?_setIfInBounds, if_pos rfl, if_pos (by have := HN.out.2.2; exact this)] at pcell
      have pset := blk_set hp.out off (.int .i64 (beL (ys.take (j + 1)) 0))
      rw [Array.setIfInBounds_setIfInBounds] at pset
      have x0 := blk_cell hx.out 0
      simp only [List.getElem?_toArray, List.getElem?_cons_zero] at x0
      generalize beL (ys.take j) 0 = n at *
      have q1 : IntKind.i64.wrap (n * 256) = n * 256 := IntWalk.i64_in _ (by omega)
      have q2 : bits BinOp.or .i64 (n * 256) x = n * 256 + x := or_shift 8 hrg.1 hx8.1 (by omega) (by omega)
      have q0 : IntKind.i64.wrap x = x := IntWalk.i64_in _ (by omega)
      have Q := Lib.hid (And.intro q1 (And.intro q0 q2))
      have PS := Lib.hid pset
      have HS := Lib.hid hsn
      clear hxx hrg hx8 hsn pset q1 q2 q0 cb
      go_wp2_with fail
      refine wp_region_plan (fun w' => w'.cell? ⟨P, off, none⟩ = some (.int .i64 n) ∧ w'.cell? ⟨X, 0, none⟩ = some (.pointer (some ⟨P, off, none⟩))) (.take 0 (.take 1 (.take 2 (.take 3 (.take 4 (.take 5 (.take 6 (.take 7 (.take 8 (.take 9 (.take 10 (.last 11)))))))))))) _
        (by simp only [Plan.map, opOf, List.getElem?_toArray, List.getElem?_cons_zero, List.getElem?_cons_succ, Option.getD_some]; rfl) (by kernel_rfl) (by kernel_rfl) (by kernel_rfl) (by decide) (by intro c a d v w; cases d <;> exact fun h => h) ⟨pcell, x0⟩ ?_
      iterate 6 (refine wpPlan.taken (by rfl) (by intro w' hS'; (try dsimp only at hS'); go_split_ands; go_simp; try with_reducible rfl) ?_; simp only [Act.put, List.setIfInBounds_toArray, List.set_cons_zero, List.set_cons_succ])
      refine wpPlan.taken (v := .int .i64 (n * 256)) (by rfl) (by intro w' hS'; go_simp; exact Q.out.1) ?_
      simp only [Act.put, List.setIfInBounds_toArray, List.set_cons_zero, List.set_cons_succ]
      iterate 1 (refine wpPlan.taken (by rfl) (by intro w' hS'; (try dsimp only at hS'); go_split_ands; go_simp; try with_reducible rfl) ?_; simp only [Act.put, List.setIfInBounds_toArray, List.set_cons_zero, List.set_cons_succ])
      refine wpPlan.taken (v := .int .i64 x) (by rfl) (by intro w' hS'; go_simp; exact Q.out.2.1) ?_
      simp only [Act.put, List.setIfInBounds_toArray, List.set_cons_zero, List.set_cons_succ]
      refine wpPlan.taken (v := .int .i64 (n * 256 + x)) (by rfl) (by intro w' hS'; go_simp; exact Q.out.2.2) ?_
      simp only [Act.put, List.setIfInBounds_toArray, List.set_cons_zero, List.set_cons_succ]
      iterate 1 (refine wpPlan.taken (by rfl) (by intro w' hS'; (try dsimp only at hS'); go_split_ands; go_simp; try with_reducible rfl) ?_; simp only [Act.put, List.setIfInBounds_toArray, List.set_cons_zero, List.set_cons_succ])
      refine wpPlan.ends fun K' hK => ?_
      go_simp
      refine hK.out _ _ ?_
      clear hK K'
      have hXP : X ≠ P := blk_ne hx.out hp.out (by decide)
      have hCP : C ≠ P := blk_ne hc.out hp.out (by decide)
      have hc' := Lib.hid ((Below.heap_setCell wr ⟨P, off, none⟩ (.int .i64 (n * 256 + x)) C (by simpa using hCP)).trans hc.out)
      have hx' := Lib.hid ((Below.heap_setCell wr ⟨P, off, none⟩ (.int .i64 (n * 256 + x)) X (by simpa using hXP)).trans hx.out)
      have hs' := Lib.hid (hs.out.setCell (p := ⟨P, off, none⟩) (fun _ => .inl rfl) (.int .i64 (n * 256 + x)))
      rw [HS.out] at PS
      go_wp2_with fail
      go_roundw
      case rel => exact ⟨j + 1, _, rfl, by omega, rfl, by rw [HS.out]; exact PS, hc', hx', Lib.hid hs'.out.drew⟩
      case measure => simp [intOf]; omega
    · have e1 : decide ((j : Int) < (k : Int)) = false := by simpa using hlt
      obtain rfl : j = k := by omega
      have hp' := hp.out
      rw [List.take_of_length_le (by rw [HLY.out]; exact Nat.le_refl _), ← HYS.out] at hp'
      have RN := Lib.hid (Rd.num (w0 := w0) (a := a) (F := F) (T := T) RA.out HI.out HL.out HV'.out hp' hc.out hs.out)
      have RO := Lib.hid (rd_other RA.out.p HCA.out hs.out)
      go_wp2_with fail
      go_end0
      exact .inl ⟨rfl, RN.out, RO.out⟩
end Go.Proofs.Ytfpdfenepelcdaa
