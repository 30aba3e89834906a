/- QueueOrder: what holds between two steps. -/
import Derived.Test.YtboaelkpmfagfaaW9
namespace Go.Proofs.Ytboaelkpmfagfaa
open Go.RowKit Go.Gm

theorem T28 : SliceT Try.prog 28 9 1 16 := SliceT.mk' Try.underlying28 (z := .string ByteArray.empty) (by kernel_rfl) rfl (by decide)

/-- A box of eight lists of strings. -/
structure Lists (w : World) (B gp : Nat) (V : Nat → Value) (P : Nat → List ByteArray) : Prop where
  blk : ∃ cur, w.heap[gp]? = some (.cells cur 29 (0, 0)) ∧ cur.size = 8 ∧ ∀ c, c < 8 → cur[c]? = some (V c)
  rows : ∀ c, c < 8 → Row w 9 1 (V c) (P c).length ((P c).map .string)
  apart : ∀ c d, c < 8 → d < 8 → c ≠ d → ∀ k, Leads (V c) k → ¬ Leads (V d) k
  base : B ≤ gp ∧ ∀ c, c < 8 → ∀ k, Leads (V c) k → B ≤ k

theorem Lists.cells {w : World} {B g : Nat} {V : Nat → Value} {P : Nat → List ByteArray} (h : Lists w B g V P) : (∀ c, c < 8 → w.cell? ⟨g, c, none⟩ = some (V c)) ∧ ∀ j, w.frozen? ⟨g, j, none⟩ = false := by
  obtain ⟨cur, hb, hs, h1⟩ := h.blk
  exact ⟨fun c hc => by rw [blk_cell hb]; exact h1 c hc, blk_frozen hb⟩
theorem Lists.lt {w : World} {B g : Nat} {V : Nat → Value} {P : Nat → List ByteArray} (h : Lists w B g V P) : g < w.heap.size := by
  obtain ⟨cur, hb, -⟩ := h.blk
  exact blk_lt hb
theorem Lists.step {w w' : World} {S : Nat → Prop} {B g : Nat} {V : Nat → Value} {P : Nat → List ByteArray} (h : Lists w B g V P) (hw : Step S w w')
    (hn : ∀ k, S k → ∀ cs t, w.heap[k]? = some (.cells cs t (0, 0)) → t ≠ 29 ∧ t ≠ 9) : Lists w' B g V P := by
  obtain ⟨cur, hb, h1⟩ := h.blk
  refine ⟨⟨cur, hw.blk hb fun s => (hn g s _ _ hb).1 rfl, h1⟩, fun c hc => (h.rows c hc).step hw fun k hk s => ?_, h.apart, h.base⟩
  obtain ⟨cs, hcs⟩ := (h.rows c hc).typed hk
  exact (hn k s _ _ hcs).2 rfl
theorem Lists.own {w w' : World} {B Q g : Nat} {V : Nat → Value} {P : Nat → List ByteArray} (h : Lists w B g V P) (hw : Step (Own Q w) w w') : Lists w' B g V P :=
  h.step hw fun k hk cs t ht => by
    obtain ⟨-, cs', t', hk', h2⟩ := hk
    rw [ht] at hk'
    simp only [Option.some.injEq, Obj.cells.injEq] at hk'
    obtain ⟨-, rfl, -⟩ := hk'
    rcases h2 with rfl | rfl <;> exact ⟨by decide, by decide⟩
theorem Lists.alloc {w : World} {B g : Nat} {V : Nat → Value} {P : Nat → List ByteArray} (h : Lists w B g V P) (o : Obj) : Lists (w.alloc o) B g V P := h.step ((Step.refl None w).alloc o) fun _ s => s.elim
theorem Lists.drewN {w : World} {B g : Nat} {V : Nat → Value} {P : Nat → List ByteArray} (h : Lists w B g V P) (n : Nat) : Lists (w.drewN n) B g V P := h.step ((Step.refl None w).drewN n) fun _ s => s.elim

def nil8 : Array Value := #[.slice none 0 0, .slice none 0 0, .slice none 0 0, .slice none 0 0, .slice none 0 0, .slice none 0 0, .slice none 0 0, .slice none 0 0]
theorem Lists.new (w : World) {B : Nat} (hB : B ≤ w.heap.size) : Lists (w.alloc (.cells nil8 29)) B w.heap.size (fun _ => .slice none 0 0) (fun _ => []) :=
  ⟨⟨nil8, heap_alloc_new w _, rfl, by intro c hc; match c, hc with | 0, _ => rfl | 1, _ => rfl | 2, _ => rfl | 3, _ => rfl | 4, _ => rfl | 5, _ => rfl | 6, _ => rfl | 7, _ => rfl⟩,
    fun c _ => Row.nil _ _ _, fun _ _ _ _ _ k h => by simp [Leads, Value.ownBlock] at h, hB, fun _ _ k h => by simp [Leads, Value.ownBlock] at h⟩

/-- One string more of a class: behind the append and the store. -/
theorem Lists.put {w w1 : World} {B g c : Nat} {V : Nat → Value} {P : Nat → List ByteArray} (h : Lists w B g V P) (hc : c < 8) (hB : B ≤ w.heap.size) {v : Value} {x : ByteArray}
    (hr : Row w1 9 1 v ((P c).length + 1) ((P c).map .string ++ [.string x])) (hs : Step (Leads (V c)) w w1) (hl : ∀ k, Leads v k → Leads (V c) k ∨ w.heap.size ≤ k) :
    Lists (w1.setCell ⟨g, c, none⟩ v) B g (fun d => if d = c then v else V d) (fun d => if d = c then P c ++ [x] else P d) := by
  obtain ⟨cur, hb, hsz, h1⟩ := h.blk
  have hgl : ¬ Leads (V c) g := (h.rows c hc).ne hb (by decide)
  have hb1 := hs.blk hb hgl
  have e4 : Step (fun k => k = g) w1 (w1.setCell ⟨g, c, none⟩ v) := Step.setCell (S := fun k => k = g) (Step.refl _ w1) (p := ⟨g, c, none⟩) (fun _ => rfl) v
  refine ⟨⟨_, blk_set hb1 c v, by simpa using hsz, fun d hd => ?_⟩, fun d hd => ?_, fun d e hd he hne k hk hk' => ?_, h.base.1, fun d hd k hk => ?_⟩
  · show _ = some (if d = c then v else V d)
    by_cases e : d = c
    · subst e
      rw [if_pos rfl, Array.getElem?_setIfInBounds_self_of_lt (by omega)]
    · rw [if_neg e, Array.getElem?_setIfInBounds_ne (by omega)]; exact h1 d hd
  · by_cases e : d = c
    · subst e
      simp only [if_true, List.length_append, List.length_cons, List.length_nil, List.map_append, List.map_cons, List.map_nil]
      exact hr.step e4 fun k hk => by rintro rfl; exact hr.ne hb1 (by decide) hk
    · simp only [e, if_false]
      have h2 := (h.rows d hd).step hs fun k hk hk' => h.apart d c hd hc e k hk hk'
      exact h2.step e4 fun k hk => by rintro rfl; exact h2.ne hb1 (by decide) hk
  · by_cases e1 : d = c
    · subst e1
      rw [if_pos rfl] at hk
      rw [if_neg (Ne.symm hne)] at hk'
      rcases hl k hk with h3 | h3
      · exact h.apart d e hd he hne k h3 hk'
      · have := (h.rows e he).lt hk'
        omega
    · rw [if_neg e1] at hk
      by_cases e2 : e = c
      · subst e2
        rw [if_pos rfl] at hk'
        rcases hl k hk' with h3 | h3
        · exact h.apart d e hd he hne k hk h3
        · have := (h.rows d hd).lt hk
          omega
      · rw [if_neg e2] at hk'
        exact h.apart d e hd he hne k hk hk'
  · by_cases e : d = c
    · subst e
      simp only [if_true] at hk
      rcases hl k hk with h3 | h3
      · exact h.base.2 d hd k h3
      · omega
    · simp only [e, if_false] at hk
      exact h.base.2 d hd k hk

/-- The box behind an append to one of its lists. -/
theorem Lists.after {w w5 : World} {B g c : Nat} {V : Nat → Value} {P : Nat → List ByteArray} (h : Lists w B g V P) (hc : c < 8) {vc : Value} (hv : V c = vc) {o : Obj} {n : Nat} (hs : Step (Leads vc) ((w.drewN n).alloc o) w5) :
    w5.cell? ⟨g, c, none⟩ = some vc ∧ w5.frozen? ⟨g, c, none⟩ = false := by
  subst hv
  obtain ⟨cur, hb, hsz, h1⟩ := h.blk
  have hb5 := hs.blk ((Below.heap_alloc (w.drewN n) o g (blk_lt hb)).trans hb) ((h.rows c hc).ne hb (by decide))
  exact ⟨by rw [blk_cell hb5]; exact h1 c hc, blk_frozen hb5 c⟩

/-- What holds between two steps: of each class what was put and is not yet got is what waits. -/
structure Ord (w wr : World) (Q gq gp gb : Nat) (room : Int) (k : Nat) (X : Nat → List (List Int)) (L : Nat → Int) (V : Nat → Value) (P : Nat → List ByteArray) (G : Nat → Int) : Prop where
  st : QSt wr 0 Q gq room X L
  put : Lists wr w.heap.size gp V P
  got : Eight wr gb G
  base : w.heap.size ≤ Q ∧ w.heap.size ≤ gb
  law : ∀ c, c < 8 → ∃ n : Nat, G c = n ∧ n ≤ (P c).length ∧ (P c).length ≤ k ∧ (P c).drop n = (X c).map strOfNums ∧ 0 ≤ L c ∧ L c ≤ k
  below : Below w.heap.size w wr

section
variable {w wr : World} {Q gq gp gb : Nat} {room : Int} {k : Nat} {X : Nat → List (List Int)} {L : Nat → Int} {V : Nat → Value} {P : Nat → List ByteArray} {G : Nat → Int}
theorem Ord.alloc (h : Ord w wr Q gq gp gb room k X L V P G) (o : Obj) : Ord w (wr.alloc o) Q gq gp gb room k X L V P G :=
  ⟨h.st.alloc o, h.put.alloc o, h.got.step ((Step.refl None _).alloc o) (fun s => s.elim), h.base, h.law, h.below.alloc h.below.size o⟩
theorem Ord.later (h : Ord w wr Q gq gp gb room k X L V P G) : Ord w wr Q gq gp gb room (k + 1) X L V P G :=
  ⟨h.st, h.put, h.got, h.base, fun c hc => by obtain ⟨n, h1, h2, h3, h4, h5, h6⟩ := h.law c hc; exact ⟨n, h1, h2, by omega, h4, h5, by omega⟩, h.below⟩
theorem Ord.drewN (h : Ord w wr Q gq gp gb room k X L V P G) (n : Nat) : Ord w (wr.drewN n) Q gq gp gb room k X L V P G :=
  ⟨h.st.drewN n, h.put.drewN n, h.got.step ((Step.refl None _).drewN n) (fun s => s.elim), h.base, h.law, h.below.trans (((Step.refl None wr).drewN n).toBelow.mono h.below.size)⟩

/-- Put that is refused. -/
theorem Ord.put_not {w4 : World} (h : Ord w wr Q gq gp gb room k X L V P G) {c : Int} {bs : List Int} (hE : putE room X c ≠ 0)
    (q : QSt w4 0 Q gq room (putX room X c bs) (putL room X L c)) (s : Step (Own Q wr) wr w4) : Ord w w4 Q gq gp gb room (k + 1) X (putL room X L c) V P G := by
  have hX : putX room X c bs = X := by funext d; simp [putX, hE]
  rw [hX] at q
  refine ⟨q, h.put.own s, ?_, h.base, fun d hd => ?_, h.below.trans (s.belowOwn h.base.1 h.below.size)⟩
  · exact h.got.own s
  · obtain ⟨n, h1, h2, h3, h4, h5, h6⟩ := h.law d hd
    refine ⟨n, h1, h2, by omega, h4, ?_, ?_⟩ <;> (simp only [putL]; split <;> omega)

/-- Put that is taken: the queue's part. -/
theorem Ord.put_took {w4 w5 : World} {c : Nat} {bs : List Int} {v : Value} (h : Ord w wr Q gq gp gb room k X L V P G) (hc : c < 8) (hE : putE room X c = 0)
    (q : QSt w4 0 Q gq room (putX room X c bs) (putL room X L c)) (s : Step (Own Q wr) wr w4) {m : Nat}
    (hr : Row w5 9 1 v ((P c).length + 1) ((P c).map .string ++ [.string (strOfNums bs)])) (hs : Step (Leads (V c)) ((w4.drewN m).alloc (.cells #[.string (strOfNums bs)] 9)) w5) (hl : ∀ k, Leads v k → Leads (V c) k ∨ w4.heap.size + 1 ≤ k) :
    Ord w (w5.setCell ⟨gp, c, none⟩ v) Q gq gp gb room (k + 1) (putX room X c bs) (putL room X L c) (fun d => if d = c then v else V d) (fun d => if d = c then P c ++ [strOfNums bs] else P d) G := by
  have b4 := h.below.trans (s.belowOwn h.base.1 h.below.size)
  have p4 := h.put.own s
  have hs' : Step (Leads (V c)) w4 w5 := ((((Step.refl _ w4).drewN m).alloc _).then_ hs)
  have hrow := p4.rows c hc
  have e5 : Step (fun j => j = gp ∨ Leads (V c) j) w4 (w5.setCell ⟨gp, c, none⟩ v) := Step.setCell (S := fun j => j = gp ∨ Leads (V c) j) (hs'.mono fun _ _ s => Or.inr s) (p := ⟨gp, c, none⟩) (fun _ => .inl rfl) v
  obtain ⟨cur, hb, -⟩ := id p4.blk
  have hty : ∀ j, (j = gp ∨ Leads (V c) j) → ∀ cs t, w4.heap[j]? = some (.cells cs t (0, 0)) → t = 29 ∨ t = 9 := by
    rintro j (rfl | hj) cs t ht
    · rw [hb] at ht
      simp only [Option.some.injEq, Obj.cells.injEq] at ht
      exact .inl ht.2.1.symm
    · obtain ⟨cs', hcs⟩ := hrow.typed hj
      rw [hcs] at ht
      simp only [Option.some.injEq, Obj.cells.injEq] at ht
      exact .inr ht.2.1.symm
  have g4 := h.got.own s
  refine ⟨q.step e5 fun j hj cs t ht => ?_, p4.put hc b4.size hr hs' (fun j hj => by rcases hl j hj with h1 | h1 <;> first | exact .inl h1 | exact .inr (by omega)), g4.step e5 ?_, h.base, fun d hd => ?_, b4.trans (e5.below b4.size fun j hj => ?_)⟩
  · rcases hty j hj cs t ht with rfl | rfl <;> exact ⟨by decide, by decide, by intro; contradiction⟩
  · intro hj
    obtain ⟨cur2, hb2, -⟩ := g4
    rcases hty gb hj _ _ hb2 with h1 | h1 <;> contradiction
  · obtain ⟨n, h1, h2, h3, h4, h5, h6⟩ := h.law d hd
    by_cases e : d = c
    · subst e
      refine ⟨n, h1, ?_, ?_, ?_, ?_, ?_⟩
      · simp; omega
      · simp; omega
      · simp only [if_true, putX, hE, Int.toNat_natCast, true_and]
        rw [List.drop_append_of_le_length h2, h4]
        simp
      · simp [putL, hE]; omega
      · simp [putL, hE]; omega
    · refine ⟨n, h1, by simpa [e] using h2, by simp [e]; omega, ?_, ?_, ?_⟩
      · simp [putX, e, h4]
      · simp [putL, e, h5]
      · simp [putL, e]; omega
  · rcases hj with rfl | hj
    · exact p4.base.1
    · exact p4.base.2 c hc j hj

theorem Ord.get_ok {w4 : World} (h : Ord w wr Q gq gp gb room k X L V P G) {c : Nat} {b : List Int} {rest : List (List Int)} (hc : c < 8) (hX : X c = b :: rest)
    (q : QSt w4 0 Q gq room (getX X c rest) L) (s : Step (Own Q wr) wr w4) :
    Ord w (w4.setCell ⟨gb, c, none⟩ (.int .i64 (G c + 1))) Q gq gp gb room (k + 1) (getX X c rest) L V P (fun d => if d = c then G c + 1 else G d) := by
  have hg := h.got.own s
  have e4 : Step (fun j => j = gb) w4 (w4.setCell ⟨gb, c, none⟩ (.int .i64 (G c + 1))) := Step.setCell (S := fun j => j = gb) (Step.refl _ w4) (p := ⟨gb, c, none⟩) (fun _ => rfl) _
  obtain ⟨cur, hb, -⟩ := id hg
  have hty : ∀ j, j = gb → ∀ cs t, w4.heap[j]? = some (.cells cs t (0, 0)) → t = 30 := by
    rintro j rfl cs t hj
    rw [hb] at hj
    simp only [Option.some.injEq, Obj.cells.injEq] at hj
    exact hj.2.1.symm
  refine ⟨q.step e4 fun j hj cs t ht => by rw [hty j hj cs t ht]; exact ⟨by decide, by decide, by intro; contradiction⟩, (h.put.own s).step e4 fun j hj cs t ht => by rw [hty j hj cs t ht]; exact ⟨by decide, by decide⟩,
    hg.set hc _, h.base, fun d hd => ?_, (h.below.trans (s.belowOwn h.base.1 h.below.size)).setCell h.base.2 _⟩
  obtain ⟨n, h1, h2, h3, h4, h5, h6⟩ := h.law d hd
  by_cases e : d = c
  · subst e
    rw [hX] at h4
    have hn : n < (P d).length := by
      rcases Nat.lt_or_ge n (P d).length with h | h
      · exact h
      · rw [List.drop_eq_nil_of_le h] at h4; simp at h4
    refine ⟨n + 1, by simp [h1], by omega, by omega, ?_, h5, by omega⟩
    rw [← List.drop_drop, h4]
    simp [getX]
  · exact ⟨n, by simp [e, h1], h2, by omega, by simp [getX, e, h4], h5, by omega⟩

/-- What is got next is what was put. -/
theorem Ord.next (h : Ord w wr Q gq gp gb room k X L V P G) {c : Nat} {b : List Int} {rest : List (List Int)} (hc : c < 8) (hX : X c = b :: rest) :
    ∃ n : Nat, G c = n ∧ n < (P c).length ∧ (P c)[n]? = some (strOfNums b) := by
  obtain ⟨n, h1, h2, h3, h4, -⟩ := h.law c hc
  refine ⟨n, h1, ?_, ?_⟩
  · rcases Nat.lt_or_ge n (P c).length with h | h
    · exact h
    · rw [List.drop_eq_nil_of_le h, hX] at h4; simp at h4
  · have : ((P c).drop n)[0]? = some (strOfNums b) := by rw [h4, hX]; rfl
    simpa using this
theorem Ord.empty (h : Ord w wr Q gq gp gb room k X L V P G) {c : Nat} (hc : c < 8) (hX : X c = []) : G c = (P c).length := by
  obtain ⟨n, h1, h2, h3, h4, -⟩ := h.law c hc
  rw [hX] at h4
  have := congrArg List.length h4
  simp at this
  omega
end

end Go.Proofs.Ytboaelkpmfagfaa
