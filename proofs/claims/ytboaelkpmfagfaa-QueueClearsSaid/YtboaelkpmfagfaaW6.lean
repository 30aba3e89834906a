/- awake; QueueOwn. -/
import Derived.Test.YtboaelkpmfagfaaW5
import Derived.Test.YtboaelkpmfagfaaArgs
namespace Go.Proofs.Ytboaelkpmfagfaa
open Go.RowKit Go.Gm

theorem kconst (w : World) (C : Array Value) (n c g : Nat) (hg : g = w.heap.size) : (convert 31 31 (.slice (some ⟨g, 0, none⟩) n c)).run Try.prog (w.alloc (.cells C 5)) = .ok (.slice (some ⟨g, 0, none⟩) n c) (w.alloc (.cells C 5 (C.size, C.size + 1))) :=
  run_bytes_const (P := Try.prog) w 31 5 C n c g hg Try.underlying31 Try.underlying5

theorem QSt.alloc {w : World} {B Q g : Nat} {room : Int} {X : Nat → List (List Int)} {L : Nat → Int} (h : QSt w B Q g room X L) (o : Obj) : QSt (w.alloc o) B Q g room X L := h.step ((Step.refl None w).alloc o) fun _ s => s.elim

theorem QSt.drewN {w : World} {B Q g : Nat} {room : Int} {X : Nat → List (List Int)} {L : Nat → Int} (h : QSt w B Q g room X L) (n : Nat) : QSt (w.drewN n) B Q g room X L := h.step ((Step.refl None w).drewN n) fun _ s => s.elim

theorem _root_.Go.Gm.Step.belowOwn {Q B : Nat} {a c : World} (h : Step (Own Q a) a c) (hB : B ≤ Q) (hs : B ≤ a.heap.size) : Below B a c := h.below hs fun k hk => by have := hk.1; omega

theorem awake_any (w : World) : Calls Try.prog 8 #[] w fun e w' => e = .returned (.bool true) ∧ Below w.heap.size w w' := by
  have kc := kconst
  go_enter Try.func8, Try.ntmps8
  go_wp2_with fail
  refine (new_st 2 _ (by decide) (by decide) 0).mono ?_
  rintro e w1 ⟨rfl, q1, s1⟩
  have Q1 := Lib.hid q1
  have z1 : w.heap.size < w1.heap.size := q1.lt
  clear q1
  go_wp2_with fail
  refine (put_st _ 0 _ [97] _ (Q1.out.alloc _) (by exact Bytes.ofBlock (bs := [97]) (heap_alloc_new w1 _) rfl (by decide)) (Nat.zero_le _) (by simp; omega) (by decide) (fun c _ => by simp)).mono ?_
  rintro e w2 ⟨rfl, q2, s2⟩
  have Q2 := Lib.hid q2
  have z2 := s2.size
  simp only [World.size_alloc] at z2
  clear q2
  go_wp2_with fail
  refine (put_st _ 7 _ [98] _ (Q2.out.alloc _) (by exact Bytes.ofBlock (bs := [98]) (heap_alloc_new w2 _) rfl (by decide)) (Nat.zero_le _) (by simp; omega) (by decide) (fun c _ => by simp [putL, putE])).mono ?_
  rintro e w3 ⟨rfl, q3, s3⟩
  have Q3 := Lib.hid q3
  clear q3
  go_wp2_with fail
  refine (get_st _ _ (c := 7) (b := [98]) (rest := []) Q3.out ⟨by decide, fun d h1 h2 => by omega⟩ (by simp [putX, putE])).mono ?_
  rintro e w4 ⟨u, rfl, e4, q4, s4⟩
  have hs := run_string (P := Try.prog) (src := 31) (dst := 9) Try.underlying31 Try.underlying5 Try.underlying9 (e4.row.bytes (by decide))
  rw [show strOfNums [98] = ⟨#[98]⟩ from rfl] at hs
  have Q4 := Lib.hid q4
  clear q4
  go_wp2_with fail
  refine (len_st _ 0 _ Q4.out).mono ?_
  rintro e w5 ⟨rfl, rfl⟩
  rw [show lenE (getX (putX 2 (putX 2 (fun x => []) 0 [97]) 7 [98]) 7 []) 0 = 1 from by simp [lenE, getX, putX, putE]]
  go_wp2_with fail
  go_ret
  have b1 : Below w.heap.size w w1 := s1.toBelow
  have b2 := (b1.alloc b1.size (.cells #[.int .u8 97] 5 (1, 2))).trans (s2.belowOwn (Nat.le_refl _) (by simp; omega))
  have b3 := (b2.alloc b2.size (.cells #[.int .u8 98] 5 (1, 2))).trans (s3.belowOwn (Nat.le_refl _) (by simp; omega))
  exact ⟨rfl, b3.trans (s4.belowOwn (Nat.le_refl _) b3.size)⟩

theorem QSt.rebase {w : World} {B B' Q g : Nat} {room : Int} {X : Nat → List (List Int)} {L : Nat → Int} (h : QSt w B Q g room X L) (hX : ∀ c, X c = []) : QSt w B' Q g room X L := by
  obtain ⟨V, ⟨hb, hr, ha⟩, hl⟩ := h.rep
  refine ⟨⟨V, ⟨hb, fun c hc => ?_, ha⟩, hl⟩, h.base, h.few⟩
  obtain ⟨xs, hx, -⟩ := hr c hc
  exact ⟨xs, hx, fun j l hj => by rw [hX] at hj; simp at hj⟩

/-- What holds while the bytes that were handed in are turned. -/
structure Turning (w wr : World) (Q g : Nat) (X : Nat → List (List Int)) (L : Nat → Int) (B : Nat) (v : Value) (vb : Value) (bs : List Int) : Prop where
  row : ∃ ms : List Int, Row wr 5 1 v bs.length (ms.map (.int .u8))
  mine : ∀ k, Leads v k → w.heap.size ≤ k ∧ k < B
  st : QSt wr B Q g 2 X L
  below : Below w.heap.size w wr

theorem Turning.next {w wr : World} {Q g : Nat} {X : Nat → List (List Int)} {L : Nat → Int} {B : Nat} {v vb : Value} {bs : List Int} (h : Turning w wr Q g X L B v vb bs) {b off cap i : Nat} (hv : v = .slice (some ⟨b, off, none⟩) bs.length cap) (hi : i < bs.length) (x : Int) :
    Turning w (wr.setCell ⟨b, off + i, none⟩ (.int .u8 x)) Q g X L B v vb bs := by
  subst hv
  obtain ⟨ms, hr⟩ := h.row
  obtain ⟨h1, h2⟩ := h.mine b rfl
  obtain ⟨cur, hc⟩ := hr.typed (k := b) rfl
  refine ⟨⟨ms.set i x, ?_⟩, h.mine, h.st.step (Step.setCell (S := fun k => k = b) (Step.refl _ wr) (p := ⟨b, off + i, none⟩) (fun _ => rfl) _) ?_, h.below.setCell h1 _⟩
  · rw [List.map_set]
    exact hr.setAt hi _
  · rintro k rfl cs t hk
    rw [hc] at hk
    simp only [Option.some.injEq, Obj.cells.injEq] at hk
    obtain ⟨-, rfl, -⟩ := hk
    exact ⟨by decide, by decide, fun _ => h2⟩

theorem own_long (c : Int) (vb : Value) (bs : List Int) (w : World) (hb : Bytes w vb bs) (hl : 500 < bs.length) : Calls Try.prog 4 #[.int .i64 c, vb] w fun e w' => e = .returned (.bool true) ∧ Below w.heap.size w w' := by
  obtain ⟨ao, cap, rfl⟩ := hb.len
  have h500 : (500 : Int) < (bs.length : Int) := by omega
  clear hb
  go_enter Try.func4, Try.ntmps4
  go_wp2_with fail
  refine (awake_any w).mono ?_
  rintro e w1 ⟨rfl, b1⟩
  go_wp2_with fail
  refine (new_st 2 _ (by decide) (by decide) 0).mono ?_
  rintro e w2 ⟨rfl, q2, s2⟩
  clear q2
  go_wp2_with fail
  go_ret
  exact ⟨rfl, b1.trans (s2.toBelow.mono b1.size)⟩

set_option maxHeartbeats 400000 in
theorem own_short (c : Int) (vb : Value) (bs : List Int) (w : World) (hb : Bytes w vb bs) (hl : bs.length ≤ 500) : Calls Try.prog 4 #[.int .i64 c, vb] w fun e w' => e = .returned (.bool true) ∧ Below w.heap.size w w' := by
  obtain ⟨ao, cap, hvb⟩ := hb.len
  have HVB := Lib.hid hvb
  have HB := Lib.hid hb
  have h500 : decide ((500 : Int) < (bs.length : Int)) = false := by simp; omega
  subst hvb
  clear hb
  go_enter Try.func4, Try.ntmps4
  go_wp2_with fail
  refine (awake_any w).mono ?_
  rintro e w1 ⟨rfl, b1⟩
  go_wp2_with fail
  refine (new_st 2 _ (by decide) (by decide) 0).mono ?_
  rintro e w2 ⟨rfl, q2, s2⟩
  have Q2 := Lib.hid q2
  have z2 : w1.heap.size < w2.heap.size := q2.lt
  clear q2
  have hrow : Row (w2.alloc (.cells #[] 5)) 5 1 (.slice (some ⟨w2.heap.size, 0, none⟩) 0 0) 0 [] := Row.ofBlock (cur := #[]) (heap_alloc_new w2 _) (Nat.le_refl _) (by simp [maxLen]) (by simp)
  go_wp2_with (first | (at_builtin; refine wpList_append_row T31 rfl (.tmp 39) (.tmp 40) rfl rfl hrow rfl (Bytes.src Try.underlying31 ((((HB.out.step (Step.ofBelow b1) (fun _ _ s => s.elim)).step s2 (fun _ _ s => s.elim))).step ((Step.refl None w2).alloc (.cells #[] 5)) (fun _ _ s => s.elim))) ?ha ?hb ?_))
  case ha => simp [maxLen]; omega
  case hb => omega
  intro v3 w3 r3 s3 l3
  go_wp2_with fail
  obtain ⟨ao3, cap3, rfl, -, -⟩ := r3.form
  have z3 := s3.size
  simp only [World.size_alloc] at z3
  have l3' : ∀ k, Leads (.slice ao3 bs.length cap3) k → w2.heap.size ≤ k ∧ k < w3.heap.size := by
    intro k hk
    refine ⟨?_, r3.lt hk⟩
    rcases l3 k hk with h | h
    · simp [Leads, Value.ownBlock] at h
      omega
    · omega
  clear l3
  have q3 : QSt w3 w3.heap.size w1.heap.size w1.heap.size 2 (fun _ => []) (fun _ => 0) := ((Q2.out.rebase (B' := w3.heap.size) fun _ => rfl).alloc _).step s3 fun k hk cs t ht => by
    simp [Leads, Value.ownBlock] at hk
    subst hk
    rw [heap_alloc_new] at ht
    simp only [Option.some.injEq, Obj.cells.injEq] at ht
    obtain ⟨-, rfl, -⟩ := ht
    exact ⟨by decide, by decide, fun _ => by omega⟩
  have b3 : Below w.heap.size w w3 := ((b1.trans (s2.toBelow.mono b1.size)).alloc (by have := b1.size; have := z2; omega) _).trans (s3.below (by have := b1.size; simp; omega) fun k hk => by
    simp [Leads, Value.ownBlock] at hk
    have := b1.size
    omega)
  have B3 := Lib.hid b3
  have z1 := b1.size
  have Q3 := Lib.hid q3
  clear q3 b3
  refine (put_st _ c _ bs _ Q3.out (by exact r3.bytes (by omega)) (Nat.le_refl _) (by omega) (by decide) (fun c _ => by simp)).mono ?_
  rintro e w4 ⟨rfl, q4, s4⟩
  have z4 := s4.size
  have T4 : Turning w w4 w1.heap.size w1.heap.size (putX 2 (fun _ => []) c bs) (putL 2 (fun _ => []) (fun _ => 0) c) w3.heap.size (.slice ao3 bs.length cap3) (.slice ao bs.length cap) bs :=
    ⟨⟨bs, r3.step s4 fun k hk o => by
      obtain ⟨cs, hcs⟩ := r3.typed hk
      exact Own.other hcs (by decide) (by decide) o⟩, fun k hk => by have := l3' k hk; omega, q4, B3.out.trans (s4.belowOwn z1 (by omega))⟩
  have hT4 := Lib.hid T4
  clear T4 q4 s4 r3 s3 l3' hrow
  go_wp2_with fail
  go_loopw [10] (fun i wr => ∃ k : Nat, k ≤ bs.length ∧ i = .int .i64 k ∧ Hid (Turning w wr w1.heap.size w1.heap.size (putX 2 (fun _ => []) c bs) (putL 2 (fun _ => []) (fun _ => 0) c) w3.heap.size (.slice ao3 bs.length cap3) (.slice ao bs.length cap) bs)) (fun i _ => bs.length - (intOf i).toNat)
  case atStart => exact ⟨0, Nat.zero_le _, rfl, hT4⟩
  case round =>
    obtain ⟨k, hk, rfl, hT⟩ := hrel
    by_cases hlt : k < bs.length
    · obtain ⟨ms, hr⟩ := hT.out.row
      have hml : ms.length = bs.length := by simpa using hr.len
      obtain ⟨b, off, cap', hv, hc1, hc2, -, hc, hf⟩ := hr.cells (by omega)
      simp only [Value.slice.injEq] at hv
      obtain ⟨rfl, -, rfl⟩ := hv
      have hck := hc k (.int .u8 (ms[k]'(by omega))) (by simp)
      have hfk := hf (off + k)
      have hn := Lib.hid (fun x => hT.out.next rfl hlt x)
      clear hc hf hr
      go_wp2
      go_roundw
      case rel => exact ⟨k + 1, by omega, by go_num, hn.out _⟩
      case measure => simp [intOf]; omega
    · obtain rfl : k = bs.length := by omega
      have hbel := Lib.hid hT.out.below
      have hzr := hT.out.below.size
      by_cases hc8 : 0 ≤ c ∧ c < 8
      · obtain ⟨k, rfl⟩ : ∃ k : Nat, c = k := ⟨c.toNat, by omega⟩
        have hE : putE 2 (fun _ => []) (k : Int) = 0 := by simp [putE, hc8]
        have hX : ∀ d, putX 2 (fun _ => []) (k : Int) bs d = if d = k then [bs] else [] := fun d => by by_cases e : d = k <;> simp [putX, hE, e]
        have hk8 : k < 8 := by omega
        go_wp2_with fail
        refine (get_st _ _ hT.out.st (c := k) (b := bs) (rest := []) ⟨hk8, fun d h1 h2 => by rw [hX, if_neg (by omega)]⟩ (by rw [hX, if_pos rfl])).mono ?_
        rintro e w6 ⟨u, rfl, e6, q6, s6⟩
        have b6 := Lib.hid (hbel.out.trans (s6.belowOwn z1 hzr))
        have hs1 := run_string (P := Try.prog) (src := 31) (dst := 9) Try.underlying31 Try.underlying5 Try.underlying9 (e6.row.bytes (by omega))
        have hs2 := run_string (P := Try.prog) (src := 31) (dst := 9) Try.underlying31 Try.underlying5 Try.underlying9 (HB.out.step (Step.ofBelow b6.out) (fun _ _ s => s.elim))
        clear q6 s6 e6 hX hT
        go_wp2_with fail
        go_ret
        exact ⟨by simp, b6.out⟩
      · have hE : putE 2 (fun _ => []) c = 1 := by simp only [putE]; rw [if_neg hc8]
        have hX : ∀ d, putX 2 (fun _ => []) c bs d = [] := fun d => by simp [putX, hE]
        go_wp2_with fail
        refine (get_st_none _ _ hT.out.st fun d _ => hX d).mono ?_
        rintro e w6 ⟨rfl, rfl⟩
        go_wp2_with fail
        go_ret
        exact ⟨rfl, hbel.out⟩

theorem queueOwn_walk (v0 v1 : Value) (w : World) (h0 : Arg w (.int .i64) v0) (h1 : Arg w (.slice 1 1 (.int .u8)) v1) :
    Calls Try.prog 4 #[v0, v1] w fun e w' => e = .returned (.bool true) ∧ Below w.heap.size w w' := by
  obtain ⟨c, rfl, -⟩ := h0.int
  obtain ⟨bs, hb, -, -⟩ := (h1.one rfl).bytes
  by_cases hl : bs.length ≤ 500
  · exact own_short c v1 bs w hb hl
  · exact own_long c v1 bs w hb (by omega)

end Go.Proofs.Ytboaelkpmfagfaa
