/- What bytes tell: plain laws of Decode. -/
import Derived.Test.YtfpdfenepelcdaaW15
namespace Go.Proofs.Ytfpdfenepelcdaa
open Go.RowKit Go.Gm

def by_ (l : List Int) (i : Nat) : Int := l.getD i 0
/-- What the first i fields tell; the others are zero. -/
def pB (l : List Int) (i : Nat) : Bpd :=
  ⟨by_ l 3, if 0 < i then by_ l 4 else 0,
   ⟨if 1 < i then by_ l 5 * 256 + by_ l 6 else 0, if 2 < i then by_ l 7 else 0, if 2 < i then by_ l 8 else 0, if 2 < i then by_ l 9 else 0, if 2 < i then by_ l 10 else 0, if 2 < i then by_ l 11 else 0, if 2 < i then by_ l 12 else 0⟩,
   if 3 < i then ((by_ l 13 * 256 + by_ l 14) * 256 + by_ l 15) * 256 + by_ l 16 else 0,
   ⟨if 4 < i then by_ l 17 * 256 + by_ l 18 else 0, if 5 < i then by_ l 19 else 0, if 5 < i then by_ l 20 else 0, if 5 < i then by_ l 21 else 0, if 5 < i then by_ l 22 else 0, if 5 < i then by_ l 23 else 0, if 5 < i then by_ l 24 else 0⟩,
   if 6 < i then by_ l 25 * 256 + by_ l 26 else 0, if 7 < i then by_ l 27 * 256 + by_ l 28 else 0, if 8 < i then by_ l 29 * 256 + by_ l 30 else 0, if 9 < i then by_ l 31 * 256 + by_ l 32 else 0, if 10 < i then by_ l 33 * 256 + by_ l 34 else 0⟩
def headB (k : Int) : List Int := [0, 0, if k == 2 then 2 else 0, k % 256]
/-- Are they of the right form? -/
def rdOk (l : List Int) : Bool := decide (4 ≤ l.length) && (l.take 4 == headB (by_ l 3)) &&
  (if by_ l 3 == 128 then decide (l.length = 4) else if by_ l 3 == 2 then decide (l.length = 36) && (by_ l 35 == 0) else decide (l.length = 35))
def parsed (l : List Int) : Bpd := if by_ l 3 == 128 then pB l 0 else pB l 11
def decOk (l : List Int) : Bool := rdOk l && okB (parsed l)
/-- The one that bytes tell; where they tell none: the empty one. -/
def decB (l : List Int) : Bpd := if decOk l then parsed l else bare 0
def decCode (l : List Int) : Int := if decOk l then 0 else 2

theorem pB_zero (l : List Int) : pB l 0 = bare (by_ l 3) := by simp [pB, bare, noId]

theorem list4 {l : List Int} (h : l.length = 4) : l = [by_ l 0, by_ l 1, by_ l 2, by_ l 3] := by
  match l, h with
  | [_, _, _, _], _ => rfl
theorem uncons {l : List Int} {n : Nat} (h : l.length = n + 1) : ∃ a r, l = a :: r ∧ r.length = n := by
  cases l with
  | nil => simp at h
  | cons a r => exact ⟨a, r, rfl, by simpa using h⟩
theorem list35 {l : List Int} (h : l.length = 35) : ∃ a0 a1 a2 a3 a4 a5 a6 a7 a8 a9 a10 a11 a12 a13 a14 a15 a16 a17 a18 a19 a20 a21 a22 a23 a24 a25 a26 a27 a28 a29 a30 a31 a32 a33 a34 : Int, l = [a0, a1, a2, a3, a4, a5, a6, a7, a8, a9, a10, a11, a12, a13, a14, a15, a16, a17, a18, a19, a20, a21, a22, a23, a24, a25, a26, a27, a28, a29, a30, a31, a32, a33, a34] := by
  obtain ⟨a0, l0, rfl, h0⟩ := uncons (n := 34) h
  obtain ⟨a1, l1, rfl, h1⟩ := uncons (n := 33) h0
  obtain ⟨a2, l2, rfl, h2⟩ := uncons (n := 32) h1
  obtain ⟨a3, l3, rfl, h3⟩ := uncons (n := 31) h2
  obtain ⟨a4, l4, rfl, h4⟩ := uncons (n := 30) h3
  obtain ⟨a5, l5, rfl, h5⟩ := uncons (n := 29) h4
  obtain ⟨a6, l6, rfl, h6⟩ := uncons (n := 28) h5
  obtain ⟨a7, l7, rfl, h7⟩ := uncons (n := 27) h6
  obtain ⟨a8, l8, rfl, h8⟩ := uncons (n := 26) h7
  obtain ⟨a9, l9, rfl, h9⟩ := uncons (n := 25) h8
  obtain ⟨a10, l10, rfl, h10⟩ := uncons (n := 24) h9
  obtain ⟨a11, l11, rfl, h11⟩ := uncons (n := 23) h10
  obtain ⟨a12, l12, rfl, h12⟩ := uncons (n := 22) h11
  obtain ⟨a13, l13, rfl, h13⟩ := uncons (n := 21) h12
  obtain ⟨a14, l14, rfl, h14⟩ := uncons (n := 20) h13
  obtain ⟨a15, l15, rfl, h15⟩ := uncons (n := 19) h14
  obtain ⟨a16, l16, rfl, h16⟩ := uncons (n := 18) h15
  obtain ⟨a17, l17, rfl, h17⟩ := uncons (n := 17) h16
  obtain ⟨a18, l18, rfl, h18⟩ := uncons (n := 16) h17
  obtain ⟨a19, l19, rfl, h19⟩ := uncons (n := 15) h18
  obtain ⟨a20, l20, rfl, h20⟩ := uncons (n := 14) h19
  obtain ⟨a21, l21, rfl, h21⟩ := uncons (n := 13) h20
  obtain ⟨a22, l22, rfl, h22⟩ := uncons (n := 12) h21
  obtain ⟨a23, l23, rfl, h23⟩ := uncons (n := 11) h22
  obtain ⟨a24, l24, rfl, h24⟩ := uncons (n := 10) h23
  obtain ⟨a25, l25, rfl, h25⟩ := uncons (n := 9) h24
  obtain ⟨a26, l26, rfl, h26⟩ := uncons (n := 8) h25
  obtain ⟨a27, l27, rfl, h27⟩ := uncons (n := 7) h26
  obtain ⟨a28, l28, rfl, h28⟩ := uncons (n := 6) h27
  obtain ⟨a29, l29, rfl, h29⟩ := uncons (n := 5) h28
  obtain ⟨a30, l30, rfl, h30⟩ := uncons (n := 4) h29
  obtain ⟨a31, l31, rfl, h31⟩ := uncons (n := 3) h30
  obtain ⟨a32, l32, rfl, h32⟩ := uncons (n := 2) h31
  obtain ⟨a33, l33, rfl, h33⟩ := uncons (n := 1) h32
  obtain ⟨a34, l34, rfl, h34⟩ := uncons (n := 0) h33
  obtain rfl := List.eq_nil_of_length_eq_zero h34
  exact ⟨a0, a1, a2, a3, a4, a5, a6, a7, a8, a9, a10, a11, a12, a13, a14, a15, a16, a17, a18, a19, a20, a21, a22, a23, a24, a25, a26, a27, a28, a29, a30, a31, a32, a33, a34, rfl⟩

theorem two_be {a b : Int} (ha : 0 ≤ a ∧ a ≤ 255) (hb : 0 ≤ b ∧ b ≤ 255) : two (a * 256 + b) = [a, b] := by
  simp only [two, List.cons.injEq, and_true]
  omega
theorem four_be {a b c d : Int} (ha : 0 ≤ a ∧ a ≤ 255) (hb : 0 ≤ b ∧ b ≤ 255) (hc : 0 ≤ c ∧ c ≤ 255) (hd : 0 ≤ d ∧ d ≤ 255) : four (((a * 256 + b) * 256 + c) * 256 + d) = [a, b, c, d] := by
  simp only [four, List.cons.injEq, and_true]
  omega

/-- The bytes behind the head. -/
def tail35 (l : List Int) : List Int := [by_ l 4, by_ l 5, by_ l 6, by_ l 7, by_ l 8, by_ l 9, by_ l 10, by_ l 11, by_ l 12, by_ l 13, by_ l 14, by_ l 15, by_ l 16, by_ l 17, by_ l 18, by_ l 19, by_ l 20, by_ l 21, by_ l 22, by_ l 23, by_ l 24, by_ l 25, by_ l 26, by_ l 27, by_ l 28, by_ l 29, by_ l 30, by_ l 31, by_ l 32, by_ l 33, by_ l 34]
theorem by_small {l : List Int} (h : Small l) (i : Nat) : 0 ≤ by_ l i ∧ by_ l i ≤ 255 := by
  unfold by_
  rw [List.getD_eq_getElem?_getD]
  cases e : l[i]? with
  | none => simp
  | some x => exact h x (List.mem_of_getElem? e)
theorem split35 {l : List Int} (h : 35 ≤ l.length) : l = l.take 4 ++ (tail35 l ++ l.drop 35) := by
  obtain ⟨a, b, rfl, ha⟩ : ∃ a b, l = a ++ b ∧ a.length = 35 := ⟨l.take 35, l.drop 35, (List.take_append_drop 35 l).symm, by simp; omega⟩
  obtain ⟨a0, a1, a2, a3, a4, a5, a6, a7, a8, a9, a10, a11, a12, a13, a14, a15, a16, a17, a18, a19, a20, a21, a22, a23, a24, a25, a26, a27, a28, a29, a30, a31, a32, a33, a34, rfl⟩ := list35 ha
  simp [tail35, by_]
theorem encB_pB {l : List Int} (hs : Small l) (hk : (by_ l 3 == 128) = false) : encB (pB l 11) = [0, 0, version (pB l 11), by_ l 3 % 256] ++ (tail35 l ++ if by_ l 3 == 2 then [0] else []) := by
  have b := by_small hs
  have hk' : ((pB l 11).kind == 128) = false := hk
  unfold encB
  rw [hk', if_neg (by decide)]
  simp only [pB, Idn.bytes, Idn.mac]
  simp only [show (0 : Nat) < 11 by decide, show (1 : Nat) < 11 by decide, show (2 : Nat) < 11 by decide, show (3 : Nat) < 11 by decide, show (4 : Nat) < 11 by decide, show (5 : Nat) < 11 by decide, show (6 : Nat) < 11 by decide, show (7 : Nat) < 11 by decide, show (8 : Nat) < 11 by decide, show (9 : Nat) < 11 by decide, show (10 : Nat) < 11 by decide, if_true]
  rw [two_be (b 5) (b 6), four_be (b 13) (b 14) (b 15) (b 16), two_be (b 17) (b 18), two_be (b 25) (b 26), two_be (b 27) (b 28), two_be (b 29) (b 30), two_be (b 31) (b 32), two_be (b 33) (b 34), show by_ l 4 % 256 = by_ l 4 by have := b 4; omega]
  simp [tail35]
theorem version_pB (l : List Int) (i : Nat) : version (pB l i) = if by_ l 3 == 2 then 2 else 0 := rfl

theorem rdOk_parts {l : List Int} (h : rdOk l = true) : 4 ≤ l.length ∧ l.take 4 = headB (by_ l 3) ∧ ((by_ l 3 == 128) = true ∧ l.length = 4 ∨ (by_ l 3 == 128) = false ∧ (by_ l 3 == 2) = true ∧ l.length = 36 ∧ by_ l 35 = 0 ∨ (by_ l 3 == 128) = false ∧ (by_ l 3 == 2) = false ∧ l.length = 35) := by
  unfold rdOk at h
  simp only [Bool.and_eq_true, decide_eq_true_eq] at h
  obtain ⟨⟨h1, h2⟩, h3⟩ := h
  refine ⟨h1, by simpa using h2, ?_⟩
  cases k1 : (by_ l 3 == 128)
  · rw [k1, if_neg (by decide)] at h3
    cases k2 : (by_ l 3 == 2)
    · rw [k2, if_neg (by decide)] at h3
      exact .inr (.inr ⟨rfl, rfl, by simpa using h3⟩)
    · rw [k2, if_pos rfl] at h3
      simp only [Bool.and_eq_true, decide_eq_true_eq] at h3
      exact .inr (.inl ⟨rfl, rfl, h3.1, by simpa using h3.2⟩)
  · rw [k1, if_pos rfl] at h3
    exact .inl ⟨rfl, by simpa using h3⟩

/-- What is decoded has these bytes. -/
theorem dec_enc {l : List Int} (hs : Small l) (h : rdOk l = true) : encB (parsed l) = l := by
  obtain ⟨h1, h2, h3⟩ := rdOk_parts h
  unfold parsed
  rcases h3 with ⟨k, hl⟩ | ⟨k, k2, hl, h0⟩ | ⟨k, k2, hl⟩
  · rw [k, if_pos rfl]
    have hk : ((pB l 0).kind == 128) = true := k
    unfold encB
    rw [hk, if_pos rfl, version_pB]
    have := h2
    rw [List.take_of_length_le (by omega)] at this
    exact this.symm
  · rw [k, if_neg (by decide), encB_pB hs k, k2, if_pos rfl, version_pB, k2, if_pos rfl]
    have e := split35 (l := l) (by omega)
    have hd : l.drop 35 = [0] := by
      have : (l.drop 35).length = 1 := by simp; omega
      match hx : l.drop 35, this with
      | [z], _ =>
        have : l[35]? = some z := by
          have := congrArg (fun r => r[0]?) hx
          simpa using this
        unfold by_ at h0
        rw [List.getD_eq_getElem?_getD, this] at h0
        simp at h0
        rw [h0]
    rw [hd, h2] at e
    simp only [headB, k2] at e
    exact e.symm
  · rw [k, if_neg (by decide), encB_pB hs k, k2, version_pB, k2]
    have e := split35 (l := l) (by omega)
    rw [List.drop_of_length_le (show l.length ≤ 35 by omega), h2] at e
    simp only [headB, k2] at e
    exact e.symm

theorem be_two {n : Int} (h : 0 ≤ n ∧ n ≤ 65535) : n / 256 % 256 * 256 + n % 256 = n := by omega
theorem be_four {n : Int} (h : 0 ≤ n ∧ n ≤ 4294967295) : ((n / 65536 / 256 % 256 * 256 + n / 65536 % 256) * 256 + n / 256 % 256) * 256 + n % 256 = n := by omega

/-- One's bytes are decoded as it. -/
theorem enc_dec {x : Bpd} (h : okB x = true) : rdOk (encB x) = true ∧ (parsed (encB x)).flat = x.flat := by
  rcases okB_kind h with hk | ⟨hk, hf⟩ | ⟨hk, hf⟩
  · have e : encB x = [0, 0, 0, 128] := by simp [encB, version, hk]
    rw [e, bare_kind h hk]
    exact ⟨by decide, by decide⟩
  · obtain ⟨r1, r2, r3, r4, r5, r6, r7, r8, r9⟩ := fine_rng hf
    have e : encB x = [0, 0, 0, 0, x.flags % 256, x.root.p / 256 % 256, x.root.p % 256, x.root.m0, x.root.m1, x.root.m2, x.root.m3, x.root.m4, x.root.m5, x.cost / 65536 / 256 % 256, x.cost / 65536 % 256, x.cost / 256 % 256, x.cost % 256, x.bridge.p / 256 % 256, x.bridge.p % 256, x.bridge.m0, x.bridge.m1, x.bridge.m2, x.bridge.m3, x.bridge.m4, x.bridge.m5, x.port / 256 % 256, x.port % 256, x.age / 256 % 256, x.age % 256, x.most / 256 % 256, x.most % 256, x.hello / 256 % 256, x.hello % 256, x.fwd / 256 % 256, x.fwd % 256] := by
      simp [encB, version, hk, Idn.bytes, Idn.mac, two, four]
    rw [e]
    refine ⟨by simp [rdOk, headB, by_], ?_⟩
    simp only [parsed, by_, pB, Bpd.flat, Idn.flat, Idn.mac, List.getD_cons_succ, List.getD_cons_zero]
    simp [hk, be_two r6, be_two r7, be_two r8, be_two r1, be_two r2, be_two r3, be_two r4, be_four r9]
    omega
  · obtain ⟨r1, r2, r3, r4, r5, r6, r7, r8, r9⟩ := fine_rng hf
    have e : encB x = [0, 0, 2, 2, x.flags % 256, x.root.p / 256 % 256, x.root.p % 256, x.root.m0, x.root.m1, x.root.m2, x.root.m3, x.root.m4, x.root.m5, x.cost / 65536 / 256 % 256, x.cost / 65536 % 256, x.cost / 256 % 256, x.cost % 256, x.bridge.p / 256 % 256, x.bridge.p % 256, x.bridge.m0, x.bridge.m1, x.bridge.m2, x.bridge.m3, x.bridge.m4, x.bridge.m5, x.port / 256 % 256, x.port % 256, x.age / 256 % 256, x.age % 256, x.most / 256 % 256, x.most % 256, x.hello / 256 % 256, x.hello % 256, x.fwd / 256 % 256, x.fwd % 256, 0] := by
      simp [encB, version, hk, Idn.bytes, Idn.mac, two, four]
    rw [e]
    refine ⟨by simp [rdOk, headB, by_], ?_⟩
    simp only [parsed, by_, pB, Bpd.flat, Idn.flat, Idn.mac, List.getD_cons_succ, List.getD_cons_zero]
    simp [hk, be_two r6, be_two r7, be_two r8, be_two r1, be_two r2, be_two r3, be_two r4, be_four r9]
    omega

theorem Bpd.cells_flat {x y : Bpd} (h : x.flat = y.flat) : x.cells = y.cells := by
  simp only [Bpd.flat, Idn.flat, Idn.mac, List.cons_append, List.nil_append, List.cons.injEq] at h
  obtain ⟨h1, h2, h3, a0, a1, a2, a3, a4, a5, h4, h5, b0, b1, b2, b3, b4, b5, h6, h7, h8, h9, h10, -⟩ := h
  simp [Bpd.cells, h1, h2, h3, a0, a1, a2, a3, a4, a5, h4, h5, b0, b1, b2, b3, b4, b5, h6, h7, h8, h9, h10]
theorem okB_flat {x y : Bpd} (h : x.flat = y.flat) : okB x = okB y := by
  have h' := h
  simp only [Bpd.flat, Idn.flat, Idn.mac, List.cons_append, List.nil_append, List.cons.injEq] at h
  obtain ⟨h1, h2, h3, a0, a1, a2, a3, a4, a5, h4, h5, b0, b1, b2, b3, b4, b5, h6, h7, h8, h9, h10, -⟩ := h
  simp only [okB, fine, h1, h2, h3, h4, h5, h6, h7, h8, h9, h10, h']

/-- The document's. -/
def rguess (l : List Int) : Bpd := if 35 ≤ l.length then pB l 11 else bare (by_ l 3)
def rdecOk (l : List Int) : Bool := decide (4 ≤ l.length) && okB (rguess l) && (encB (rguess l) == l)
theorem rdec_same {l : List Int} (hs : Small l) : rdecOk l = decOk l ∧ (decOk l = true → (rguess l).flat = (parsed l).flat) := by
  have back : decOk l = true → rguess l = parsed l ∧ encB (parsed l) = l ∧ 4 ≤ l.length ∧ okB (parsed l) = true := by
    intro h
    simp only [decOk, Bool.and_eq_true] at h
    obtain ⟨h1, h2⟩ := h
    obtain ⟨p1, p2, p3⟩ := rdOk_parts h1
    refine ⟨?_, dec_enc hs h1, p1, h2⟩
    unfold rguess parsed
    rcases p3 with ⟨k, hl⟩ | ⟨k, k2, hl, h0⟩ | ⟨k, k2, hl⟩
    · rw [if_neg (by omega), k, if_pos rfl, pB_zero]
    · rw [if_pos (by omega), k, if_neg (by decide)]
    · rw [if_pos (by omega), k, if_neg (by decide)]
  refine ⟨?_, fun h => by rw [(back h).1]⟩
  rw [Bool.eq_iff_iff]
  constructor
  · intro h
    simp only [rdecOk, Bool.and_eq_true, decide_eq_true_eq] at h
    obtain ⟨⟨h1, h2⟩, h3⟩ := h
    have h3 : encB (rguess l) = l := by simpa using h3
    have e := enc_dec h2
    rw [h3] at e
    simp only [decOk, Bool.and_eq_true]
    exact ⟨e.1, by rw [okB_flat e.2]; exact h2⟩
  · intro h
    obtain ⟨b1, b2, b3, b4⟩ := back h
    simp only [rdecOk, Bool.and_eq_true, decide_eq_true_eq]
    rw [b1]
    exact ⟨⟨b3, b4⟩, by simpa using b2⟩
end Go.Proofs.Ytfpdfenepelcdaa
