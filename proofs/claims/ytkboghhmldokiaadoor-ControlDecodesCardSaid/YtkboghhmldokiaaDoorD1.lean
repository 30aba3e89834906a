/- Decode, in plain words. -/
import Derived.Test.YtkboghhmldokiaaDoorW21
import Derived.Test.YtkboghhmldokiaaDoorW16
namespace Go.Proofs.YtkboghhmldokiaaDoor
open Go.RowKit Go.Gm

/-- A reader: what is left, and whether there were too few. -/
abbrev Rs := List Int × Bool
def takeP (n : Nat) (s : Rs) : List Int × Rs := if s.1.length < n then (List.replicate n 0, ([], true)) else (s.1.take n, (s.1.drop n, s.2))
def byteP (s : Rs) : Int × Rs := ((takeP 1 s).1.getD 0 0, (takeP 1 s).2)
def shortP (s : Rs) : Int × Rs := (of2 ((takeP 2 s).1.getD 0 0) ((takeP 2 s).1.getD 1 0), (takeP 2 s).2)
def longP (s : Rs) : Int × Rs := ((shortP s).1 * 65536 + (shortP (shortP s).2).1, (shortP (shortP s).2).2)
def bodyP (s : Rs) : List Int × Rs := takeP (shortP s).1.toNat (shortP s).2
def opt {α : Type} (c : Bool) (d : α) (f : Rs → α × Rs) (s : Rs) : α × Rs := if c then f s else (d, s)

theorem small_nil : Small [] := fun x hx => by simp at hx
theorem small_left {a b : List Int} (h : Small (a ++ b)) : Small a := fun x hx => h x (List.mem_append.2 (.inl hx))
theorem small_right {a b : List Int} (h : Small (a ++ b)) : Small b := fun x hx => h x (List.mem_append.2 (.inr hx))

/-- f reads what g writes of a value of the range p. -/
structure Reads {α : Type} (f : Rs → α × Rs) (g : α → List Int) (p : α → Prop) : Prop where
  sound : ∀ s, Small s.1 → (f s).2.2 = false → s.2 = false ∧ s.1 = g (f s).1 ++ (f s).2.1 ∧ p (f s).1
  back : ∀ v r bd, p v → f (g v ++ r, bd) = (v, (r, bd))

theorem Reads.opt {α : Type} {f : Rs → α × Rs} {g : α → List Int} {p : α → Prop} (h : Reads f g p) (c : Bool) (d : α) : Reads (opt c d f) (fun v => if c then g v else []) (fun v => if c then p v else v = d) := by
  cases c
  · exact ⟨fun s _ hb => ⟨hb, rfl, rfl⟩, fun v r bd hv => by
      have hv : v = d := by simpa using hv
      subst hv; rfl⟩
  · exact ⟨fun s hs hb => h.sound s hs hb, fun v r bd hv => h.back v r bd hv⟩
theorem take_reads (n : Nat) : Reads (takeP n) (fun v => v) (fun v => v.length = n ∧ Small v) := by
  refine ⟨fun s hs hb => ?_, fun v r bd ⟨hv, _⟩ => ?_⟩
  · unfold takeP at hb ⊢
    split at hb
    · cases hb
    · rename_i hl
      rw [if_neg hl]
      exact ⟨hb, (List.take_append_drop n s.1).symm, by simp; omega, fun x hx => hs x (List.mem_of_mem_take hx)⟩
  · subst hv
    unfold takeP
    rw [if_neg (by simp)]
    simp
theorem byte_reads : Reads byteP (fun v => [v % 256]) (fun v => 0 ≤ v ∧ v ≤ 255) := by
  refine ⟨fun s hs hb => ?_, fun v r bd hv => ?_⟩
  · obtain ⟨h1, h2, h3, h4⟩ := (take_reads 1).sound s hs hb
    match h : (takeP 1 s).1, h3 with
    | [x], _ =>
      rw [h] at h2 h4
      have hx := h4 x (by simp)
      have e : byteP s = (x, (takeP 1 s).2) := by simp [byteP, h]
      rw [e]
      exact ⟨h1, by rw [h2]; simp; omega, hx⟩
  · have := (take_reads 1).back [v % 256] r bd ⟨rfl, fun x hx => by simp at hx; omega⟩
    unfold byteP
    (try dsimp only at this)
    rw [this]
    simp; omega
theorem short_reads : Reads shortP two (fun v => 0 ≤ v ∧ v < 65536) := by
  refine ⟨fun s hs hb => ?_, fun v r bd hv => ?_⟩
  · obtain ⟨h1, h2, h3, h4⟩ := (take_reads 2).sound s hs hb
    match h : (takeP 2 s).1, h3 with
    | [x, y], _ =>
      rw [h] at h2 h4
      have hx := h4 x (by simp)
      have hy := h4 y (by simp)
      have e : shortP s = (of2 x y, (takeP 2 s).2) := by simp [shortP, h]
      rw [e]
      exact ⟨h1, by rw [h2]; simp [two_of2 hx hy], by unfold of2; dsimp only; omega⟩
  · have := (take_reads 2).back (two v) r bd ⟨rfl, small_two v⟩
    unfold shortP
    (try dsimp only at this)
    rw [this]
    simp [two, of2]; omega
theorem two_two (v : Int) : two (v / 65536) ++ two (v % 65536) = four v := by
  simp only [two, four, List.cons_append, List.nil_append, List.cons.injEq, and_true, true_and]
  omega
theorem long_reads : Reads longP four (fun v => 0 ≤ v ∧ v < 4294967296) := by
  refine ⟨fun s hs hb => ?_, fun v r bd hv => ?_⟩
  · have hb2 : (shortP (shortP s).2).2.2 = false := hb
    -- the rest is small
    have hsm : Small (shortP s).2.1 := by
      show Small (takeP 2 s).2.1
      unfold takeP
      split
      · exact small_nil
      · exact fun x hx => hs x (List.mem_of_mem_drop hx)
    obtain ⟨h1, h2, h3⟩ := short_reads.sound (shortP s).2 hsm hb2
    obtain ⟨g1, g2, g3⟩ := short_reads.sound s hs h1
    refine ⟨g1, ?_, ?_⟩
    · show s.1 = four ((shortP s).1 * 65536 + (shortP (shortP s).2).1) ++ (shortP (shortP s).2).2.1
      rw [g2, h2, ← two_two, ← List.append_assoc]
      generalize (shortP s).1 = a at *
      generalize (shortP (shortP s).2).1 = b at *
      rw [show (a * 65536 + b) / 65536 = a by omega, show (a * 65536 + b) % 65536 = b by omega]
    · show 0 ≤ (shortP s).1 * 65536 + (shortP (shortP s).2).1 ∧ (shortP s).1 * 65536 + (shortP (shortP s).2).1 < 4294967296
      omega
  · have e1 := short_reads.back (v / 65536) (two (v % 65536) ++ r) bd (by omega)
    have e2 := short_reads.back (v % 65536) r bd (by omega)
    rw [← List.append_assoc, two_two] at e1
    unfold longP
    rw [e1]
    dsimp only
    rw [e2]
    dsimp only
    rw [show v / 65536 * 65536 + v % 65536 = v by omega]
theorem rest_small_take {n : Nat} {s : Rs} (h : Small s.1) : Small (takeP n s).2.1 := by
  unfold takeP
  split
  · exact small_nil
  · exact fun x hx => h x (List.mem_of_mem_drop hx)
theorem rest_small_short {s : Rs} (h : Small s.1) : Small (shortP s).2.1 := rest_small_take h
theorem rest_small_long {s : Rs} (h : Small s.1) : Small (longP s).2.1 := rest_small_short (rest_small_short h)
theorem body_reads : Reads bodyP (fun v => two v.length ++ v) (fun v => v.length < 65536 ∧ Small v) := by
  refine ⟨fun s hs hb => ?_, fun v r bd hv => ?_⟩
  · obtain ⟨h1, h2, h3, h4⟩ := (take_reads (shortP s).1.toNat).sound (shortP s).2 (rest_small_short hs) hb
    obtain ⟨g1, g2, g3⟩ := short_reads.sound s hs h1
    have hn : ((shortP s).1.toNat : Int) = (shortP s).1 := by omega
    have hl : ((bodyP s).1.length : Int) = (shortP s).1 := by
      show ((takeP (shortP s).1.toNat (shortP s).2).1.length : Int) = _
      rw [h3, hn]
    refine ⟨g1, ?_, by omega, h4⟩
    show s.1 = (two ((bodyP s).1.length : Int) ++ (bodyP s).1) ++ (bodyP s).2.1
    rw [hl, g2, h2, List.append_assoc]
    rfl
  · have e1 := short_reads.back v.length (v ++ r) bd (by omega)
    have e2 := (take_reads v.length).back v r bd ⟨rfl, hv.2⟩
    rw [← List.append_assoc] at e1
    unfold bodyP
    (try dsimp only at e2 ⊢)
    rw [e1]
    dsimp only
    rw [show ((v.length : Int)).toNat = v.length by omega, e2]

/-! The whole. -/
def head (l : List Int) : (Int × Int × Int × Int) × Rs :=
  ((( longP (l, false)).1, (longP (longP (l, false)).2).1, (longP (longP (longP (l, false)).2).2).1, (byteP (longP (longP (longP (l, false)).2).2).2).1), (byteP (longP (longP (longP (l, false)).2).2).2).2)
def pV (k : Nat) (s : Rs) : Int × Rs := opt (hasB k 1) 0 shortP s
def pM (k : Nat) (s : Rs) : List Int × Rs := opt (hasB k 2) [0, 0, 0, 0, 0, 0] (takeP 6) s
def pP (k : Nat) (s : Rs) : Int × Rs := opt (hasB k 4) 0 shortP s
def pS (k : Nat) (s : Rs) : Int × Rs := opt (hasB k 8) 0 byteP s
def pB (k : Nat) (s : Rs) : List Int × Rs := opt (hasB k 16) [] bodyP s
def mkN (k : Nat) (v : Int) (m : List Int) (p s : Int) (b : List Int) : Note := ⟨k, v, m.getD 0 0, m.getD 1 0, m.getD 2 0, m.getD 3 0, m.getD 4 0, m.getD 5 0, p, s, b⟩
def sV (k : Nat) (s : Rs) : Rs := (pV k s).2
def sM (k : Nat) (s : Rs) : Rs := (pM k (sV k s)).2
def sP (k : Nat) (s : Rs) : Rs := (pP k (sM k s)).2
def sS (k : Nat) (s : Rs) : Rs := (pS k (sP k s)).2
def sB (k : Nat) (s : Rs) : Rs := (pB k (sS k s)).2
def noteP (k : Nat) (s : Rs) : Note := mkN k (pV k s).1 (pM k (sV k s)).1 (pP k (sM k s)).1 (pS k (sP k s)).1 (pB k (sS k s)).1

theorem opt_small {α : Type} {f : Rs → α × Rs} {c : Bool} {d : α} {s : Rs} (hs : Small s.1) (h : Small s.1 → Small (f s).2.1) : Small (opt c d f s).2.1 := by
  cases c
  · exact hs
  · exact h hs
theorem sV_small {k : Nat} {s : Rs} (h : Small s.1) : Small (sV k s).1 := opt_small h rest_small_short
theorem sM_small {k : Nat} {s : Rs} (h : Small s.1) : Small (sM k s).1 := opt_small (sV_small h) rest_small_take
theorem sP_small {k : Nat} {s : Rs} (h : Small s.1) : Small (sP k s).1 := opt_small (sM_small h) rest_small_short
theorem sS_small {k : Nat} {s : Rs} (h : Small s.1) : Small (sS k s).1 := opt_small (sP_small h) (rest_small_take (n := 1))

theorem mac_of {m : List Int} (h : m.length = 6) : [m.getD 0 0, m.getD 1 0, m.getD 2 0, m.getD 3 0, m.getD 4 0, m.getD 5 0] = m := by
  match m, h with
  | [a, b, c, d, e, f], _ => rfl

/-- What was read whole is what was written. -/
theorem noteP_sound {k : Nat} {s : Rs} (hs : Small s.1) (hb : (sB k s).2 = false) (hr : (sB k s).1 = []) :
    s.2 = false ∧ s.1 = (if hasB k 1 then two (noteP k s).vlan else []) ++ (if hasB k 2 then (noteP k s).mac else []) ++ (if hasB k 4 then two (noteP k s).port else []) ++ (if hasB k 8 then [(noteP k s).state % 256] else []) ++ (if hasB k 16 then two (noteP k s).body.length ++ (noteP k s).body else []) ∧ Small (noteP k s).mac ∧ Small (noteP k s).body := by
  obtain ⟨b1, b2, b3⟩ := (body_reads.opt (hasB k 16) []).sound (sS k s) (sS_small hs) hb
  obtain ⟨q1, q2, q3⟩ := (byte_reads.opt (hasB k 8) 0).sound (sP k s) (sP_small hs) b1
  obtain ⟨p1, p2, p3⟩ := (short_reads.opt (hasB k 4) 0).sound (sM k s) (sM_small hs) q1
  obtain ⟨m1, m2, m3⟩ := ((take_reads 6).opt (hasB k 2) [0, 0, 0, 0, 0, 0]).sound (sV k s) (sV_small hs) p1
  obtain ⟨v1, v2, v3⟩ := (short_reads.opt (hasB k 1) 0).sound s hs m1
  have hm6 : (pM k (sV k s)).1.length = 6 ∧ Small (pM k (sV k s)).1 := by
    show (opt (hasB k 2) [0, 0, 0, 0, 0, 0] (takeP 6) (sV k s)).1.length = 6 ∧ Small (opt (hasB k 2) [0, 0, 0, 0, 0, 0] (takeP 6) (sV k s)).1
    generalize (opt (hasB k 2) [0, 0, 0, 0, 0, 0] (takeP 6) (sV k s)).1 = z at m3
    cases hh : hasB k 2
    · rw [hh] at m3
      have m3 : z = [0, 0, 0, 0, 0, 0] := by simpa using m3
      subst m3
      exact ⟨rfl, fun x hx => by simp at hx; omega⟩
    · rw [hh] at m3
      simpa using m3
  have hmac : (noteP k s).mac = (pM k (sV k s)).1 := mac_of hm6.1
  have hbs : Small (noteP k s).body := by
    show Small (opt (hasB k 16) [] bodyP (sS k s)).1
    generalize (opt (hasB k 16) [] bodyP (sS k s)).1 = z at b3
    cases hh : hasB k 16
    · rw [hh] at b3
      have b3 : z = [] := by simpa using b3
      subst b3
      exact small_nil
    · rw [hh] at b3
      exact (show _ ∧ Small z by simpa using b3).2
  refine ⟨v1, ?_, by rw [hmac]; exact hm6.2, hbs⟩
  rw [hmac]
  have hr' : (opt (hasB k 16) [] bodyP (sS k s)).2.1 = [] := hr
  rw [hr', List.append_nil] at b2
  rw [v2]
  show _ ++ (sV k s).1 = _
  rw [m2]
  show _ ++ (_ ++ (sM k s).1) = _
  rw [p2]
  show _ ++ (_ ++ (_ ++ (sP k s).1)) = _
  rw [q2]
  show _ ++ (_ ++ (_ ++ (_ ++ (sS k s).1))) = _
  rw [b2]
  simp only [List.append_assoc]
  rfl
theorem noteP_back {k : Nat} {n : Note} (r : List Int) (hk : n.kind = k) (hn : right n = true) (hm : Small n.mac) (hb : Small n.body) :
    noteP k ((if hasB k 1 then two n.vlan else []) ++ (if hasB k 2 then n.mac else []) ++ (if hasB k 4 then two n.port else []) ++ (if hasB k 8 then [n.state % 256] else []) ++ (if hasB k 16 then two n.body.length ++ n.body else []) ++ r, false) = n ∧
    sB k ((if hasB k 1 then two n.vlan else []) ++ (if hasB k 2 then n.mac else []) ++ (if hasB k 4 then two n.port else []) ++ (if hasB k 8 then [n.state % 256] else []) ++ (if hasB k 16 then two n.body.length ++ n.body else []) ++ r, false) = (r, false) := by
  obtain ⟨r1, r2, r3, r4⟩ := right_range n k hk hn
  obtain ⟨z1, z2, z3, z4, z5⟩ := right_zero n k hk hn
  simp only [List.append_assoc]
  obtain ⟨B, hB⟩ : ∃ B, (if hasB k 16 then two n.body.length ++ n.body else []) ++ r = B := ⟨_, rfl⟩
  obtain ⟨S, hS⟩ : ∃ S, (if hasB k 8 then [n.state % 256] else []) ++ B = S := ⟨_, rfl⟩
  obtain ⟨P, hP⟩ : ∃ P, (if hasB k 4 then two n.port else []) ++ S = P := ⟨_, rfl⟩
  obtain ⟨M, hM⟩ : ∃ M, (if hasB k 2 then n.mac else []) ++ P = M := ⟨_, rfl⟩
  obtain ⟨V, hV⟩ : ∃ V, (if hasB k 1 then two n.vlan else []) ++ M = V := ⟨_, rfl⟩
  rw [hB, hS, hP, hM, hV]
  have e1 : pV k (V, false) = (n.vlan, (M, false)) := by
    rw [← hV]
    refine (short_reads.opt (hasB k 1) 0).back n.vlan M false ?_
    cases hh : hasB k 1
    · exact z1 hh
    · exact ⟨r1.1, by omega⟩
  have e2 : pM k (M, false) = (n.mac, (P, false)) := by
    rw [← hM]
    refine ((take_reads 6).opt (hasB k 2) [0, 0, 0, 0, 0, 0]).back n.mac P false ?_
    cases hh : hasB k 2
    · obtain ⟨y0, y1, y2, y3, y4, y5⟩ := z2 hh
      show n.mac = _
      simp [Note.mac, y0, y1, y2, y3, y4, y5]
    · exact ⟨rfl, hm⟩
  have e3 : pP k (P, false) = (n.port, (S, false)) := by
    rw [← hP]
    refine (short_reads.opt (hasB k 4) 0).back n.port S false ?_
    cases hh : hasB k 4
    · exact z3 hh
    · exact ⟨r2.1, by omega⟩
  have e4 : pS k (S, false) = (n.state, (B, false)) := by
    rw [← hS]
    refine (byte_reads.opt (hasB k 8) 0).back n.state B false ?_
    cases hh : hasB k 8
    · exact z4 hh
    · exact ⟨r3.1, by omega⟩
  have e5 : pB k (B, false) = (n.body, (r, false)) := by
    have := (body_reads.opt (hasB k 16) []).back n.body r false (by
      cases hh : hasB k 16
      · exact z5 hh
      · exact ⟨by omega, hb⟩)
    (try dsimp only at this)
    rw [hB] at this
    exact this
  have f1 : sV k (V, false) = (M, false) := by rw [sV, e1]
  have f2 : sM k (V, false) = (P, false) := by rw [sM, f1, e2]
  have f3 : sP k (V, false) = (S, false) := by rw [sP, f2, e3]
  have f4 : sS k (V, false) = (B, false) := by rw [sS, f3, e4]
  refine ⟨?_, by rw [sB, f4, e5]⟩
  unfold noteP
  rw [f1, f2, f3, f4, e1, e2, e3, e4, e5]
  cases n
  simp only [mkN, Note.mac, Note.mk.injEq]
  (try dsimp only at hk)
  refine ⟨hk.symm, ?_, ?_, ?_, ?_, ?_, ?_, ?_, ?_, ?_, ?_⟩ <;> first | trivial | rfl

/-- What bytes are decoded as. -/
def kindOf (l : List Int) : Int := (head l).1.2.2.2
def noteOf (l : List Int) : Note := noteP (kindOf l).toNat (head l).2
def endOf (l : List Int) : Rs := sB (kindOf l).toNat (head l).2
def decOk (l : List Int) : Bool := decide (kindOf l < 9) && (!(endOf l).2 && ((endOf l).1.isEmpty && okP (head l).1.1 (head l).1.2.1 (head l).1.2.2.1 (noteOf l)))
theorem head_is {l : List Int} {A B C K : Int × Rs} (hA : longP (l, false) = A) (hB : longP A.2 = B) (hC : longP B.2 = C) (hK : byteP C.2 = K) : head l = ((A.1, B.1, C.1, K.1), K.2) := by
  subst hA hB hC hK
  rfl
theorem head_small {l : List Int} (hs : Small l) : Small (head l).2.1 := by
  obtain ⟨A, hA⟩ : ∃ A, longP (l, false) = A := ⟨_, rfl⟩
  obtain ⟨B, hB⟩ : ∃ B, longP A.2 = B := ⟨_, rfl⟩
  obtain ⟨C, hC⟩ : ∃ C, longP B.2 = C := ⟨_, rfl⟩
  obtain ⟨K, hK⟩ : ∃ K, byteP C.2 = K := ⟨_, rfl⟩
  have sA : Small A.2.1 := by rw [← hA]; exact rest_small_long hs
  have sB : Small B.2.1 := by rw [← hB]; exact rest_small_long sA
  have sC : Small C.2.1 := by rw [← hC]; exact rest_small_long sB
  have sK : Small K.2.1 := by rw [← hK]; exact rest_small_take (n := 1) sC
  rw [head_is hA hB hC hK]
  exact sK
theorem head_sound {l : List Int} (hs : Small l) (hb : (head l).2.2 = false) : l = four (head l).1.1 ++ four (head l).1.2.1 ++ four (head l).1.2.2.1 ++ [kindOf l] ++ (head l).2.1 ∧ 0 ≤ kindOf l ∧ kindOf l ≤ 255 := by
  obtain ⟨A, hA⟩ : ∃ A, longP (l, false) = A := ⟨_, rfl⟩
  obtain ⟨B, hB⟩ : ∃ B, longP A.2 = B := ⟨_, rfl⟩
  obtain ⟨C, hC⟩ : ∃ C, longP B.2 = C := ⟨_, rfl⟩
  obtain ⟨K, hK⟩ : ∃ K, byteP C.2 = K := ⟨_, rfl⟩
  have hh := head_is hA hB hC hK
  have hk : kindOf l = K.1 := by rw [kindOf, hh]
  rw [hh] at hb
  rw [hk, hh]
  have sA : Small A.2.1 := by rw [← hA]; exact rest_small_long hs
  have sB : Small B.2.1 := by rw [← hB]; exact rest_small_long sA
  have sC : Small C.2.1 := by rw [← hC]; exact rest_small_long sB
  obtain ⟨k1, k2, k3⟩ := byte_reads.sound C.2 sC (by rw [hK]; exact hb)
  obtain ⟨c1, c2, c3⟩ := long_reads.sound B.2 sB (by rw [hC]; exact k1)
  obtain ⟨b1, b2, b3⟩ := long_reads.sound A.2 sA (by rw [hB]; exact c1)
  obtain ⟨a1, a2, a3⟩ := long_reads.sound (l, false) hs (by rw [hA]; exact b1)
  rw [hK] at k2 k3
  rw [hC] at c2
  rw [hB] at b2
  rw [hA] at a2
  refine ⟨?_, k3.1, k3.2⟩
  have e : K.1 % 256 = K.1 := by omega
  rw [e] at k2
  have a2 : l = four A.1 ++ A.2.1 := a2
  rw [b2, c2, k2] at a2
  simp only [List.append_assoc] at a2 ⊢
  exact a2
/-- What is decoded is what was encoded. -/
theorem decOk_sound {l : List Int} (hs : Small l) (h : decOk l = true) : enc (head l).1.1 (head l).1.2.1 (head l).1.2.2.1 (noteOf l) (noteOf l).kind.toNat = l ∧ okP (head l).1.1 (head l).1.2.1 (head l).1.2.2.1 (noteOf l) = true ∧ Small (noteOf l).mac ∧ Small (noteOf l).body := by
  simp only [decOk, Bool.and_eq_true, decide_eq_true_eq, Bool.not_eq_true', List.isEmpty_iff] at h
  obtain ⟨h1, h2, h3, h4⟩ := h
  have s3 := head_small hs
  obtain ⟨n1, n2, n3, n4⟩ := noteP_sound (k := (kindOf l).toNat) s3 h2 h3
  obtain ⟨g1, g2, g3⟩ := head_sound hs n1
  refine ⟨?_, h4, n3, n4⟩
  have hk : (noteOf l).kind.toNat = (kindOf l).toNat := by show (((kindOf l).toNat : Nat) : Int).toNat = _; omega
  rw [hk, enc, show (((kindOf l).toNat : Nat) : Int) = kindOf l by omega]
  conv => rhs; rw [g1, n2]
  simp only [List.append_assoc]
  rfl
theorem decOk_rest {ep sq ak : Int} {n : Note} (r : List Int) (h : okP ep sq ak n = true) (hm : Small n.mac) (hb : Small n.body) :
    decOk (enc ep sq ak n n.kind.toNat ++ r) = r.isEmpty ∧ (head (enc ep sq ak n n.kind.toNat ++ r)).1.1 = ep ∧ (head (enc ep sq ak n n.kind.toNat ++ r)).1.2.1 = sq ∧ (head (enc ep sq ak n n.kind.toNat ++ r)).1.2.2.1 = ak ∧ noteOf (enc ep sq ak n n.kind.toNat ++ r) = n := by
  obtain ⟨hr, h1, h2, h3⟩ := okP_parts h
  obtain ⟨k, hk, hk9, hkn⟩ := right_kind hr
  obtain ⟨e5, e6⟩ := noteP_back r hk hr hm hb
  rw [hkn]
  have hE : enc ep sq ak n k ++ r = four ep ++ (four sq ++ (four ak ++ ([(k : Int) % 256] ++ ((if hasB k 1 then two n.vlan else []) ++ (if hasB k 2 then n.mac else []) ++ (if hasB k 4 then two n.port else []) ++ (if hasB k 8 then [n.state % 256] else []) ++ (if hasB k 16 then two n.body.length ++ n.body else []) ++ r)))) := by
    rw [enc, show (k : Int) % 256 = (k : Int) by omega]
    simp only [List.append_assoc]
  rw [hE]
  generalize (if hasB k 1 then two n.vlan else []) ++ (if hasB k 2 then n.mac else []) ++ (if hasB k 4 then two n.port else []) ++ (if hasB k 8 then [n.state % 256] else []) ++ (if hasB k 16 then two n.body.length ++ n.body else []) ++ r = T at *
  have a1 := long_reads.back ep (four sq ++ (four ak ++ ([(k : Int) % 256] ++ T))) false (by omega)
  have a2 := long_reads.back sq (four ak ++ ([(k : Int) % 256] ++ T)) false (by omega)
  have a3 := long_reads.back ak ([(k : Int) % 256] ++ T) false (by omega)
  have a4 := byte_reads.back k T false (by omega)
  (try dsimp only at a1 a2 a3 a4)
  have hh : head (four ep ++ (four sq ++ (four ak ++ ([(k : Int) % 256] ++ T)))) = ((ep, sq, ak, (k : Int)), (T, false)) := by
    unfold head
    rw [a1]
    dsimp only
    rw [a2]
    dsimp only
    rw [a3]
    dsimp only
    rw [a4]
  have hn : noteOf (four ep ++ (four sq ++ (four ak ++ ([(k : Int) % 256] ++ T)))) = n := by
    unfold noteOf kindOf
    rw [hh]
    dsimp only
    rw [show ((k : Int)).toNat = k by omega]
    exact e5
  have hend : endOf (four ep ++ (four sq ++ (four ak ++ ([(k : Int) % 256] ++ T)))) = (r, false) := by
    unfold endOf kindOf
    rw [hh]
    dsimp only
    rw [show ((k : Int)).toNat = k by omega]
    exact e6
  refine ⟨?_, by rw [hh], by rw [hh], by rw [hh], hn⟩
  unfold decOk
  rw [hn, hend]
  unfold kindOf
  rw [hh]
  simp [h]
  omega
theorem decOk_back {ep sq ak : Int} {n : Note} (h : okP ep sq ak n = true) (hm : Small n.mac) (hb : Small n.body) :
    decOk (enc ep sq ak n n.kind.toNat) = true ∧ (head (enc ep sq ak n n.kind.toNat)).1.1 = ep ∧ (head (enc ep sq ak n n.kind.toNat)).1.2.1 = sq ∧ (head (enc ep sq ak n n.kind.toNat)).1.2.2.1 = ak ∧ noteOf (enc ep sq ak n n.kind.toNat) = n := by
  have := decOk_rest [] h hm hb
  rwa [List.append_nil] at this
theorem decOk_less {l : List Int} {x : Int} (hs : Small l) (h : decOk (l ++ [x]) = true) : decOk l = false := by
  cases hd : decOk l
  · rfl
  · obtain ⟨e, ok, hm, hb⟩ := decOk_sound hs hd
    have := (decOk_rest [x] ok hm hb).1
    rw [e, h] at this
    cases this
end Go.Proofs.YtkboghhmldokiaaDoor
