/- read: the one that bytes tell. -/
import Derived.Test.YtfpdfenepelcdaaD5
import Derived.Great.BuildSlice
import Derived.Test.YtfpdfenepelcdaaCutw
namespace Go.Proofs.Ytfpdfenepelcdaa
open Go.RowKit Go.Gm

theorem results_read {tmps : Array Value} {w : World} {P F : Nat} {cs : Array Value} {x : Bool} (h2 : tmps.getD 2 undef = .pointer (some ⟨P, 0, none⟩)) (h3 : tmps.getD 3 undef = .pointer (some ⟨F, 0, none⟩))
    (hp : w.heap[P]? = some (.cells cs 27 (0, 0))) (hs : cs.size = 22) (hf : w.heap[F]? = some (.cells #[.bool x] 4 (0, 0))) : (results Try.f27 tmps).run Try.prog w = .ok (.tuple #[.agg cs, .bool x]) w := by
  have h2' : tmps[2]?.getD undef = .pointer (some ⟨P, 0, none⟩) := by simpa using h2
  have h3' : tmps[3]?.getD undef = .pointer (some ⟨F, 0, none⟩) := by simpa using h3
  have c := blk_cell hf 0
  simp only [List.getElem?_toArray, List.getElem?_cons_zero] at c
  have l1 := run_loadVar_row (P := Try.prog) w P 27 27 cs (0, 0) _ hp Try.underlying27 rfl (by rw [hs]; kernel_rfl)
  have l2 : (loadVar 4 ⟨F, 0, none⟩).run Try.prog w = .ok (.bool x) w := by
    simp [go_sem, c]
  simp [results, h2', h3', asAddr, l1, l2]

theorem door_panic {R : Ending → World → Prop} {tmps : Array Value} {w0 a : World} {P F : Nat} (h2 : tmps.getD 2 undef = .pointer (some ⟨P, 0, none⟩)) (h3 : tmps.getD 3 undef = .pointer (some ⟨F, 0, none⟩)) (hr : Ruin w0 a P F) (hP : w0.heap.size ≤ P) (hF : w0.heap.size ≤ F)
    (hR : ∀ b, Step None w0 b → R (.returned (.tuple #[.agg (bare 0).cells, .bool false])) b) :
    Leaves Try.prog Try.f27 tmps R [{ target := .fn (.func 35) #[.pointer (some ⟨P, 0, none⟩), .pointer (some ⟨F, 0, none⟩)], args := #[] }] (.panicking shortP) a := by
  obtain ⟨⟨old, hp, hs⟩, ⟨x, hf⟩, hst⟩ := hr
  refine leaves_cons (f := 35) (args := #[.pointer (some ⟨P, 0, none⟩), .pointer (some ⟨F, 0, none⟩)]) (by simp) (by simp [go_sem]) ?_
  refine (catch_panicking P F old x a hp hs hf).mono ?_
  rintro e u' w'' ⟨rfl, rfl, rfl⟩
  have s1 := step_setRow' (hst.alloc (.cells #[] 64)) (g := P) (fun h => by omega) (bare 0).cells
  have b1 : (a.alloc (.cells #[] 64)).heap[P]? = some (.cells old 27 (0, 0)) := ((Step.refl None a).alloc _).blk hp (fun s => s.elim)
  have b2 : (a.alloc (.cells #[] 64)).heap[F]? = some (.cells #[x] 4 (0, 0)) := ((Step.refl None a).alloc _).blk hf (fun s => s.elim)
  have hFP : F ≠ P := blk_ne hf hp (by decide)
  have c1 := setRow_heap _ P _ (bare 0).cells _ _ b1
  have c2 := (setRow_other (a.alloc (.cells #[] 64)) P F (bare 0).cells hFP).trans b2
  have d1 := (Below.heap_setCell ((a.alloc (.cells #[] 64)).setRow P (bare 0).cells) ⟨F, 0, none⟩ (.bool false) P (by simpa using Ne.symm hFP)).trans c1
  have d2 := blk_set c2 0 (.bool false)
  simp only [Array.setIfInBounds, List.size_toArray, List.length_cons, List.length_nil, Nat.zero_add, Nat.lt_add_one, dite_true, List.set_toArray, List.set_cons_zero] at d2
  have s2 := s1.setCell (p := ⟨F, 0, none⟩) (fun h => by simp at h; omega) (.bool false)
  simp only [settle, List.dropWhile_nil]
  exact ⟨_, results_read h2 h3 d1 rfl d2, hR _ s2⟩
theorem door_return {R : Ending → World → Prop} {tmps : Array Value} {w0 a : World} {P F : Nat} {cs : Array Value} {x : Bool} (h2 : tmps.getD 2 undef = .pointer (some ⟨P, 0, none⟩)) (h3 : tmps.getD 3 undef = .pointer (some ⟨F, 0, none⟩))
    (hp : a.heap[P]? = some (.cells cs 27 (0, 0))) (hs : cs.size = 22) (hf : a.heap[F]? = some (.cells #[.bool x] 4 (0, 0))) (hst : Step None w0 a)
    (hR : ∀ b, Step None w0 b → R (.returned (.tuple #[.agg cs, .bool x])) b) :
    Leaves Try.prog Try.f27 tmps R [{ target := .fn (.func 35) #[.pointer (some ⟨P, 0, none⟩), .pointer (some ⟨F, 0, none⟩)], args := #[] }] .returning a := by
  refine leaves_cons (f := 35) (args := #[.pointer (some ⟨P, 0, none⟩), .pointer (some ⟨F, 0, none⟩)]) (by simp) (by simp [go_sem]) ?_
  refine (catch_idle P F a).mono ?_
  rintro e u' w'' ⟨rfl, rfl, rfl⟩
  have b1 : (a.alloc (.cells #[] 64)).heap[P]? = some (.cells cs 27 (0, 0)) := ((Step.refl None a).alloc _).blk hp (fun s => s.elim)
  have b2 : (a.alloc (.cells #[] 64)).heap[F]? = some (.cells #[.bool x] 4 (0, 0)) := ((Step.refl None a).alloc _).blk hf (fun s => s.elim)
  exact ⟨_, results_read h2 h3 b1 hs b2, hR _ (hst.alloc _)⟩

theorem wp_cut0 {P : Program} {c : Code} {Q : Exit → Act → World → Prop} {a : Act} {w : World} {F : Act} (R : World → Prop)
    (h : c.wp P (fun e a' w' => e = .normal ∧ a' = F ∧ R w') a w) (hK : ∀ w', R w' → Q .normal F w') : c.wp P Q a w :=
  wp_mono h fun e a' w' ⟨he, ha, hr⟩ => by subst he ha; exact hK w' hr
theorem rdOk_head {l : List Int} (h4 : 4 ≤ l.length) (h : l.take 4 = headB (by_ l 3)) : rdOk l = if by_ l 3 == 128 then decide (l.length = 4) else if by_ l 3 == 2 then decide (l.length = 36) && (by_ l 35 == 0) else decide (l.length = 35) := by
  unfold rdOk
  simp [h4, ← h]
theorem rdOk_nohead {l : List Int} (h : ¬ l.take 4 = headB (by_ l 3)) : rdOk l = false := by
  unfold rdOk
  simp [h]
theorem rdOk_short {l : List Int} (hk : ¬ by_ l 3 = 128) (h : l.length < 35) : rdOk l = false := by
  have e : (by_ l 3 == 128) = false := by simpa using hk
  have h1 : ¬ l.length = 36 := by omega
  have h2 : ¬ l.length = 35 := by omega
  unfold rdOk
  rw [e]
  cases k2 : (by_ l 3 == 2) <;> simp [h1, h2]

set_option maxRecDepth 100000 in
set_option maxHeartbeats 8000000 in
theorem read_any (v : Value) (l : List Int) (w : World) (hs : Small l) (hv : Seg w v l) :
    Calls Try.prog 27 #[v] w fun e w' => (∃ x : Bpd, e = .returned (.tuple #[.agg x.cells, .bool (rdOk l)]) ∧ (rdOk l = true → x = parsed l)) ∧ Step None w w' := by
  have hmf : ∀ (fn : Fn) (first cap : Array Value) (w : World), (Instr.makeFunc fn first cap).run Try.prog w = .ok (.func fn first cap) w := fun _ _ _ _ => rfl
  have SG := Lib.hid hv
  have SM := Lib.hid hs
  obtain ⟨ao, cap, rfl, hc1, hc2, hc3⟩ := hv
  clear hc3 hs
  obtain ⟨W, hst, hsz, hC, hP, hF, hT, hWW⟩ : ∃ W, Step None w W ∧ ((((w.alloc (.cells #[.slice ao l.length cap] 29)).alloc (.cells #[.int .i64 0, .int .i64 0, .int .i64 0, .int .u8 0, .int .u8 0, .int .u8 0, .int .u8 0, .int .u8 0, .int .u8 0, .int .i64 0, .int .i64 0, .int .u8 0, .int .u8 0, .int .u8 0, .int .u8 0, .int .u8 0, .int .u8 0, .int .i64 0, .int .i64 0, .int .i64 0, .int .i64 0, .int .i64 0] 27)).alloc (.cells #[.bool false] 4)).alloc (.cells #[.nilFunc] 41)).heap[w.heap.size + 1 + 1 + 1]? = some (.cells #[.nilFunc] 41 (0, 0)) ∧ W.heap[w.heap.size]? = some (.cells #[.slice ao l.length cap] 29 (0, 0)) ∧ W.heap[w.heap.size + 1]? = some (.cells #[.int .i64 0, .int .i64 0, .int .i64 0, .int .u8 0, .int .u8 0, .int .u8 0, .int .u8 0, .int .u8 0, .int .u8 0, .int .i64 0, .int .i64 0, .int .u8 0, .int .u8 0, .int .u8 0, .int .u8 0, .int .u8 0, .int .u8 0, .int .i64 0, .int .i64 0, .int .i64 0, .int .i64 0, .int .i64 0] 27 (0, 0)) ∧ W.heap[w.heap.size + 1 + 1]? = some (.cells #[.bool false] 4 (0, 0)) ∧ W.heap[w.heap.size + 1 + 1 + 1]? = some (.cells #[.func (.func 36) #[] #[.pointer (some ⟨w.heap.size, 0, none⟩)]] 41 (0, 0)) ∧
      ((((w.alloc (.cells #[.slice ao l.length cap] 29)).alloc (.cells #[.int .i64 0, .int .i64 0, .int .i64 0, .int .u8 0, .int .u8 0, .int .u8 0, .int .u8 0, .int .u8 0, .int .u8 0, .int .i64 0, .int .i64 0, .int .u8 0, .int .u8 0, .int .u8 0, .int .u8 0, .int .u8 0, .int .u8 0, .int .i64 0, .int .i64 0, .int .i64 0, .int .i64 0, .int .i64 0] 27)).alloc (.cells #[.bool false] 4)).alloc (.cells #[.nilFunc] 41)).setRow (w.heap.size + 1 + 1 + 1) #[.func (.func 36) #[] #[.pointer (some ⟨w.heap.size, 0, none⟩)]] = W := by
    have b1 := heap_alloc_new w (.cells #[.slice ao l.length cap] 29)
    have b2 := heap_alloc_new (w.alloc (.cells #[.slice ao l.length cap] 29)) (.cells #[.int .i64 0, .int .i64 0, .int .i64 0, .int .u8 0, .int .u8 0, .int .u8 0, .int .u8 0, .int .u8 0, .int .u8 0, .int .i64 0, .int .i64 0, .int .u8 0, .int .u8 0, .int .u8 0, .int .u8 0, .int .u8 0, .int .u8 0, .int .i64 0, .int .i64 0, .int .i64 0, .int .i64 0, .int .i64 0] 27)
    have b3 := heap_alloc_new ((w.alloc (.cells #[.slice ao l.length cap] 29)).alloc (.cells #[.int .i64 0, .int .i64 0, .int .i64 0, .int .u8 0, .int .u8 0, .int .u8 0, .int .u8 0, .int .u8 0, .int .u8 0, .int .i64 0, .int .i64 0, .int .u8 0, .int .u8 0, .int .u8 0, .int .u8 0, .int .u8 0, .int .u8 0, .int .i64 0, .int .i64 0, .int .i64 0, .int .i64 0, .int .i64 0] 27)) (.cells #[.bool false] 4)
    have b4 := heap_alloc_new (((w.alloc (.cells #[.slice ao l.length cap] 29)).alloc (.cells #[.int .i64 0, .int .i64 0, .int .i64 0, .int .u8 0, .int .u8 0, .int .u8 0, .int .u8 0, .int .u8 0, .int .u8 0, .int .i64 0, .int .i64 0, .int .u8 0, .int .u8 0, .int .u8 0, .int .u8 0, .int .u8 0, .int .u8 0, .int .i64 0, .int .i64 0, .int .i64 0, .int .i64 0, .int .i64 0] 27)).alloc (.cells #[.bool false] 4)) (.cells #[.nilFunc] 41)
    have st := ((((Step.refl None w).alloc (.cells #[.slice ao l.length cap] 29)).alloc (.cells #[.int .i64 0, .int .i64 0, .int .i64 0, .int .u8 0, .int .u8 0, .int .u8 0, .int .u8 0, .int .u8 0, .int .u8 0, .int .i64 0, .int .i64 0, .int .u8 0, .int .u8 0, .int .u8 0, .int .u8 0, .int .u8 0, .int .u8 0, .int .i64 0, .int .i64 0, .int .i64 0, .int .i64 0, .int .i64 0] 27)).alloc (.cells #[.bool false] 4)).alloc (.cells #[.nilFunc] 41)
    have b3 := ((Step.refl None _).alloc (.cells #[.nilFunc] 41)).blk b3 (fun s => s.elim)
    have b2 := (((Step.refl None _).alloc (.cells #[.bool false] 4)).alloc (.cells #[.nilFunc] 41)).blk b2 (fun s => s.elim)
    have b1 := ((((Step.refl None _).alloc (.cells #[.int .i64 0, .int .i64 0, .int .i64 0, .int .u8 0, .int .u8 0, .int .u8 0, .int .u8 0, .int .u8 0, .int .u8 0, .int .i64 0, .int .i64 0, .int .u8 0, .int .u8 0, .int .u8 0, .int .u8 0, .int .u8 0, .int .u8 0, .int .i64 0, .int .i64 0, .int .i64 0, .int .i64 0, .int .i64 0] 27)).alloc (.cells #[.bool false] 4)).alloc (.cells #[.nilFunc] 41)).blk b1 (fun s => s.elim)
    simp only [World.size_alloc] at b2 b3 b4
    exact ⟨_, step_setRow' st (fun h => by omega) _, b4, (setRow_other _ _ _ _ (by omega)).trans b1, (setRow_other _ _ _ _ (by omega)).trans b2, (setRow_other _ _ _ _ (by omega)).trans b3, setRow_heap _ _ _ _ _ _ b4, rfl⟩
  have HE := Lib.hid hWW
  have HZ := Lib.hid hsz
  have HC := Lib.hid hC
  have HP := Lib.hid hP
  have HF := Lib.hid hF
  have HT := Lib.hid hT
  have ST := Lib.hid hst
  have t0 := blk_cell hT 0
  simp only [List.getElem?_toArray, List.getElem?_cons_zero] at t0
  clear hst hsz hC hP hF hT hWW
  go_enter_defers Try.func27, Try.ntmps27
  go_wp2_with (first
    | (refine wpList_store_oneTo rfl 41 (.tmp 4) (.tmp 7) rfl rfl (w.heap.size + 1 + 1 + 1) (.func (.func 36) #[] #[.pointer (some ⟨w.heap.size, 0, none⟩)]) rfl rfl rfl 41 .nilFunc HZ.out (by kernel_rfl) ?_; rw [HE.out]))
  have FIN : ∀ (R0 : rdOk l = false) (b : World), Step None w b → (∃ x : Bpd, Ending.returned (.tuple #[.agg (bare 0).cells, .bool false]) = .returned (.tuple #[.agg x.cells, .bool (rdOk l)]) ∧ (rdOk l = true → x = parsed l)) ∧ Step None w b := fun R0 b hb => ⟨⟨bare 0, by rw [R0], fun h => by rw [R0] at h; cases h⟩, hb⟩
  have HFIN := Lib.hid FIN
  clear FIN
  by_cases h4 : 4 ≤ l.length
  rotate_left
  · have R0 : rdOk l = false := by unfold rdOk; simp [h4]
    refine (take_none (w0 := w) w.heap.size 4 _ l W HC.out SG.out (by omega)).mono ?_
    rintro e w2 ⟨rfl, rfl⟩
    exact door_panic (w0 := w) rfl rfl ⟨⟨_, HP.out, rfl⟩, ⟨_, HF.out⟩, ST.out⟩ (by omega) (by omega) (HFIN.out R0)
  have H4 := Lib.hid h4
  refine (take_some (w0 := w) w.heap.size 4 _ l W HC.out SG.out h4).mono ?_
  rintro e w2 ⟨u, v', rfl, hu, hv', rfl⟩
  clear h4
  obtain ⟨ao1, cp1, eu, -, -, hb⟩ := hu
  have hlen : (l.take 4).length = 4 := by have := H4.out; simp; omega
  rw [hlen] at eu
  subst eu
  have g3 : (l.take 4)[3]? = some (by_ l 3) := by
    rw [List.getElem?_take_of_lt (by decide)]
    unfold by_
    rw [List.getD_eq_getElem?_getD, List.getElem?_eq_getElem (by have := H4.out; omega)]
    rfl
  obtain ⟨b, bo, rfl, c3⟩ := hb 3 _ g3
  have hbw := World.block_lt_of_cell? _ _ c3
  have hBY := by_small SM.out 3
  generalize hk : by_ l 3 = k at *
  have HK := Lib.hid hk
  clear hk
  -- behind take, and the kind
  have n1 : w.heap.size + 1 ≠ w.heap.size := by omega
  have pc := (Below.heap_setCell W ⟨w.heap.size, 0, none⟩ v' (w.heap.size + 1) (by simp)).trans HP.out
  have fc := (Below.heap_setCell W ⟨w.heap.size, 0, none⟩ v' (w.heap.size + 1 + 1) (by simp; omega)).trans HF.out
  have tc := (Below.heap_setCell W ⟨w.heap.size, 0, none⟩ v' (w.heap.size + 1 + 1 + 1) (by simp; omega)).trans HT.out
  have cc := blk_set HC.out 0 v'
  have sc := ST.out.setCell (p := ⟨w.heap.size, 0, none⟩) (fun h => by simp at h) v'
  simp only [Array.setIfInBounds, List.size_toArray, List.length_cons, List.length_nil, Nat.zero_add, Nat.lt_add_one, dite_true, List.set_toArray, List.set_cons_zero] at cc
  obtain ⟨W2, hW2⟩ : ∃ W2, W.setCell ⟨w.heap.size, 0, none⟩ v' = W2 := ⟨_, rfl⟩
  rw [hW2] at pc fc tc cc sc
  rw [hW2]
  have c3' : W2.cell? ⟨b, bo + 3, none⟩ = some (.int .u8 k) := (sc.cell (p := ⟨b, bo + 3, none⟩) hbw (fun s => s.elim)).trans c3
  have p0 := blk_cell pc 0
  have pf0 := blk_frozen pc 0
  simp only [List.getElem?_toArray, List.getElem?_cons_zero] at p0
  have pc3 := blk_set pc 0 (.int .i64 k)
  have sc3 := sc.setCell (p := ⟨w.heap.size + 1, 0, none⟩) (fun h => by simp at h; omega) (.int .i64 k)
  have fc3 := (Below.heap_setCell W2 ⟨w.heap.size + 1, 0, none⟩ (.int .i64 k) (w.heap.size + 1 + 1) (by simp)).trans fc
  have tc3 := (Below.heap_setCell W2 ⟨w.heap.size + 1, 0, none⟩ (.int .i64 k) (w.heap.size + 1 + 1 + 1) (by simp; omega)).trans tc
  have cc3 := (Below.heap_setCell W2 ⟨w.heap.size + 1, 0, none⟩ (.int .i64 k) w.heap.size (by simp)).trans cc
  obtain ⟨W3, hW3⟩ : ∃ W3, W2.setCell ⟨w.heap.size + 1, 0, none⟩ (.int .i64 k) = W3 := ⟨_, rfl⟩
  rw [hW3] at pc3 sc3 fc3 tc3 cc3
  have HE3 := Lib.hid hW3
  have pc3 : W3.heap[w.heap.size + 1]? = some (.cells (pB l 0).cells 27 (0, 0)) := by
    rw [pc3, pB_zero, HK.out]
    rfl
  have RD : Hid (Rd w W3 (w.heap.size + 1) (w.heap.size + 1 + 1) w.heap.size (w.heap.size + 1 + 1 + 1) l 0) := Lib.hid ⟨pc3, fc3, tc3, ⟨v', cc3, hv'⟩, H4.out, sc3, by omega, by omega⟩
  have hbt : Bytes w (.slice (some ⟨b, bo, none⟩) (l.take 4).length cp1) (l.take 4) := .inr ⟨⟨b, bo, none⟩, cp1, rfl, by rw [hlen]; decide, fun j y hj => by
    rw [List.getElem?_map] at hj
    obtain ⟨z, h1, rfl⟩ := Option.map_eq_some_iff.1 hj
    obtain ⟨b', bo', e, cb⟩ := hb j z h1
    cases e
    rw [add_plain]
    exact cb⟩
  rw [hlen] at hbt
  have KT : Hid (∀ w', Step None w w' → (convert 29 9 (.slice (some ⟨b, bo, none⟩) 4 cp1)).run Try.prog w' = .ok (.string (strOfNums (l.take 4))) w') := Lib.hid fun w' h' => run_string Try.underlying29 Try.underlying5 Try.underlying9 (hbt.step h' (fun _ _ s => s.elim))
  have KC : Hid (∀ w', Rd w w' (w.heap.size + 1) (w.heap.size + 1 + 1) w.heap.size (w.heap.size + 1 + 1 + 1) l 0 → w'.cell? ⟨w.heap.size + 1, 0, none⟩ = some (.int .i64 k) ∧ (convert 29 9 (.slice (some ⟨b, bo, none⟩) 4 cp1)).run Try.prog w' = .ok (.string (strOfNums (l.take 4))) w') := Lib.hid fun w' q => ⟨by rw [blk_cell q.p]; rw [← HK.out]; rfl, KT.out w' q.st⟩
  have hwk : IntKind.i64.wrap k = k := IntWalk.i64_in _ (by omega)
  clear HC HP HF HT HE ST HZ t0 hb g3 hbw n1 pc fc tc cc sc hW2 pc3 sc3 fc3 tc3 cc3 hW3 hv' c3 hbt KT
  go_wp2_with (first
    | rw [HE3.out])
  apply wp_cut1 (fun (_ : Value) (w' : World) => Rd w w' (w.heap.size + 1) (w.heap.size + 1 + 1) w.heap.size (w.heap.size + 1 + 1 + 1) l 0)
  · refine wp_region_plan (fun w' => w'.cell? ⟨w.heap.size + 1, 0, none⟩ = some (.int .i64 k) ∧ (convert 29 9 (.slice (some ⟨b, bo, none⟩) 4 cp1)).run Try.prog w' = .ok (.string (strOfNums (l.take 4))) w') (.take 0 (.take 1 (.take 2 (.take 3 (.alt 4 (.alt 5 (.take 6 .done) .none) .none))))) _
      (by simp only [Plan.map, opOf, List.getElem?_toArray, List.getElem?_cons_zero, List.getElem?_cons_succ, Option.getD_some]; rfl) (by kernel_rfl) (by kernel_rfl) (by kernel_rfl) (by decide) (by intro c a d v w h; exact absurd h.1 (by simp)) (KC.out _ (RD.out.still (Step.refl None W3).drew)) ?_
    repeat (refine wpPlan.taken (by rfl) (by intro w' hS'; (try dsimp only at hS'); go_split_ands; go_simp; try with_reducible rfl) ?_; simp only [Act.put, List.setIfInBounds_toArray, List.set_cons_zero, List.set_cons_succ])
    refine wpPlan.runs fun K' hK => ?_
    go_simp
    refine (head_any k _).mono ?_
    rintro e W4 ⟨u4, rfl, hb4, s4⟩
    have RD4 := Lib.hid ((RD.out.still (Step.refl None W3).drew).still s4)
    have tx4 := text_of hb4
    refine hK.out _ _ (KC.out _ RD4.out) ?_
    clear hK K' s4
    refine wpPlan.runs fun K' hK => ?_
    go_simp
    refine hK.out _ _ (KC.out _ RD4.out) ?_
    clear hK K'
    repeat (refine wpPlan.taken (by rfl) (by intro w' hS'; (try dsimp only at hS'); go_split_ands; go_simp; try with_reducible rfl) ?_; simp only [Act.put, List.setIfInBounds_toArray, List.set_cons_zero, List.set_cons_succ])
    refine wpPlan.done ?_
    exact ⟨rfl, u4, rfl, RD4.out⟩
  intro u4 W4 rd4
  obtain ⟨q2, hq2⟩ : ∃ q : Int, (if k = 2 then (2 : Int) else 0) = q := ⟨_, rfl⟩
  have HHB : Hid (headB (by_ l 3) = [0, 0, q2, k % 256]) := Lib.hid (by rw [HK.out, ← hq2]; simp [headB])
  have hq3 : 0 ≤ q2 ∧ q2 ≤ 2 := by rw [← hq2]; split <;> omega
  rw [hq2]
  clear hq2
  have TB := text_beq (a := l.take 4) (b := [0, 0, q2, k % 256]) (fun x hx => SM.out x (List.mem_of_mem_take hx)) (small_cons (by omega) (by omega) (small_cons (by omega) (by omega) (small_cons (by omega) (by omega) (small_cons (by omega) (by omega) small_nil))))
  rw [TB]
  clear TB HE3 KC p0 pf0 c3' hq3
  have RD4 := Lib.hid rd4
  have k0 := blk_cell rd4.p 0
  rw [show (pB l 0).cells[0]? = some (.int .i64 k) by rw [← HK.out]; rfl] at k0
  clear rd4
  by_cases hh : l.take 4 = [0, 0, q2, k % 256]
  rotate_left
  · have R0 : rdOk l = false := rdOk_nohead (by rw [HHB.out]; exact hh)
    rw [decide_eq_false hh, Bool.not_false]
    have HR0 := Lib.hid R0
    clear hh R0
    go_wp2_with fail
    exact door_panic (w0 := w) rfl rfl RD4.out.ruin (by omega) (by omega) (HFIN.out HR0.out)
  rw [decide_eq_true hh, Bool.not_true]
  have HHD := Lib.hid (rdOk_head H4.out (by rw [HHB.out]; exact hh))
  rw [HK.out] at HHD
  clear hh HHB
  by_cases k8 : k = 128
  · have e8 : (k != 128) = false := by simp [k8]
    have e2 : (k == 2) = false := by simp [k8]
    have HK8 := Lib.hid k8
    obtain ⟨vr, ec, ev⟩ := RD4.out.c
    have EP := Lib.hid RD4.out.p
    have EF := Lib.hid RD4.out.f
    have EC := Lib.hid ec
    have EV := Lib.hid ev
    have ES := Lib.hid RD4.out.st
    clear k8 ec ev RD4
    generalize W4 = WX at *
    obtain ⟨ao9, cp9, rfl, -, -, -⟩ := EV.out
    obtain ⟨n9, hn9⟩ : ∃ n, (l.drop (posB 0)).length = n := ⟨_, rfl⟩
    rw [hn9] at EC
    have ok9 : rdOk l = ((n9 : Int) == 0) := by
      rw [HHD.out, HK8.out]; simp [posB] at hn9; have := H4.out; by_cases h : l.length = 4 <;> simp [h] <;> omega
    have OK9 := Lib.hid ok9
    clear hn9 ok9
    have le9 := Lib.hid (load_bpd (w := WX.drew) EP.out)
    have cc9 := blk_cell EC.out 0
    simp only [List.getElem?_toArray, List.getElem?_cons_zero] at cc9
    have hFP9 : w.heap.size + 1 + 1 ≠ w.heap.size + 1 := by omega
    have s9 := step_setRow' ES.out.drew (g := w.heap.size + 1) (fun h => by omega) (pB l 0).cells
    have p9 := setRow_heap WX.drew (w.heap.size + 1) _ (pB l 0).cells _ _ EP.out
    have c9 := (setRow_other WX.drew (w.heap.size + 1) w.heap.size (pB l 0).cells (by omega)).trans EC.out
    have f9 := (setRow_other WX.drew (w.heap.size + 1) (w.heap.size + 1 + 1) (pB l 0).cells (by omega)).trans EF.out
    have LE2 := Lib.hid (load_bpd p9)
    have c92 := blk_cell c9 0
    simp only [List.getElem?_toArray, List.getElem?_cons_zero] at c92
    have f92 := blk_cell f9 0
    have ff92 := blk_frozen f9 0
    simp only [List.getElem?_toArray, List.getElem?_cons_zero] at f92
    have f93 := blk_set f9 0 (.bool ((n9 : Int) == 0))
    have s93 := s9.setCell (p := ⟨w.heap.size + 1 + 1, 0, none⟩) (fun h => by simp at h; omega) (.bool ((n9 : Int) == 0))
    have p93 := (Below.heap_setCell (WX.drew.setRow (w.heap.size + 1) (pB l 0).cells) ⟨w.heap.size + 1 + 1, 0, none⟩ (.bool ((n9 : Int) == 0)) (w.heap.size + 1) (by simp)).trans p9
    simp only [Array.setIfInBounds, List.size_toArray, List.length_cons, List.length_nil, Nat.zero_add, Nat.lt_add_one, dite_true, List.set_toArray, List.set_cons_zero] at f93
    have F93 := Lib.hid f93
    have P93 := Lib.hid p93
    have S93 := Lib.hid s93
    have PE := Lib.hid EP.out
    clear f93 p93 s93 s9 p9 c9 f9 EP EF EC ES
    go_wp2_with fail
    apply wp_cut0 (fun (w' : World) => w'.heap[w.heap.size + 1]? = some (.cells (pB l 0).cells 27 (0, 0)) ∧ w'.heap[w.heap.size + 1 + 1]? = some (.cells #[.bool ((n9 : Int) == 0)] 4 (0, 0)) ∧ Step None w w')
    · refine wp_region_plan (fun w' => (Instr.loadAt 27 (.pointer (some ⟨w.heap.size + 1, 0, none⟩))).run Try.prog w' = .ok (.agg (pB l 0).cells) w' ∧ w'.cell? ⟨w.heap.size, 0, none⟩ = some (.slice ao9 n9 cp9)) (.take 0 (.take 1 (.take 2 (.take 3 (.alt 4 (.last 5) .none))))) _
        (by simp only [Plan.map, opOf, List.getElem?_toArray, List.getElem?_cons_zero, List.getElem?_cons_succ, Option.getD_some]; rfl) (by kernel_rfl) (by kernel_rfl) (by kernel_rfl) (by decide) (by intro c a d v w h; exact absurd h.1 (by simp)) ⟨le9.out, cc9⟩ ?_
      repeat (first | (refine wpPlan.taken (by rfl) (fun w' hS' => run_load_op rfl rfl hS'.1) ?_; simp only [Act.put, List.setIfInBounds_toArray, List.set_cons_zero, List.set_cons_succ]) | (refine wpPlan.taken (by rfl) (by intro w' hS'; (try dsimp only at hS'); go_split_ands; go_simp; try with_reducible rfl) ?_; simp only [Act.put, List.setIfInBounds_toArray, List.set_cons_zero, List.set_cons_succ]))
      refine wpPlan.runs fun K' hK => ?_
      rw [if_pos (by rfl)]
      refine wp_store_row 27 (.tmp 2) (.tmp 42) rfl (w.heap.size + 1) (pB l 0).cells rfl rfl 27 _ PE.out (by kernel_rfl) rfl (by simp [Bpd.cells, Value.oneCell']) (hK.out _ _ ⟨LE2.out, c92⟩ ?_)
      clear hK K'
      refine wpPlan.ends fun K' hK => ?_
      go_simp
      exact hK.out _ _ ⟨rfl, rfl, P93.out, F93.out, S93.out⟩
    rintro W9 ⟨p9, f9, s9⟩
    have P9 := Lib.hid p9
    have F9 := Lib.hid f9
    have S9 := Lib.hid s9
    clear p9 f9 s9
    go_wp2_with fail
    exact door_return (w0 := w) rfl rfl P9.out rfl F9.out S9.out fun b hb => ⟨⟨pB l 0, by rw [OK9.out], fun h => by unfold parsed; rw [HK.out, HK8.out]; rfl⟩, hb⟩
  have e8 : (k != 128) = true := by simp [bne, k8]
  have HK8 := Lib.hid k8
  clear k8
  go_wp2_with fail
  refine (rd_walk w W4 (w.heap.size + 1) (w.heap.size + 1 + 1) w.heap.size (w.heap.size + 1 + 1 + 1) l SM.out RD4.out).mono ?_
  rintro e W5 (⟨rfl, rd⟩ | ⟨rfl, rn, hl5⟩)
  rotate_left
  · have R0 := Lib.hid (rdOk_short (l := l) (by rw [HK.out]; exact HK8.out) hl5)
    have RN := Lib.hid rn
    clear rn
    go_wp2_with fail
    exact door_panic (w0 := w) rfl rfl RN.out (by omega) (by omega) (HFIN.out R0.out)
  have RD5 := Lib.hid rd
  have k05 := blk_cell rd.p 0
  rw [show (pB l 11).cells[0]? = some (.int .i64 k) by rw [← HK.out]; rfl] at k05
  have t5 := blk_cell rd.t 0
  simp only [List.getElem?_toArray, List.getElem?_cons_zero] at t5
  have HL5 := Lib.hid rd.len
  clear rd RD4 k0 e8
  cases e2 : (k == 2)
  · obtain ⟨vr, ec, ev⟩ := RD5.out.c
    have EP := Lib.hid RD5.out.p
    have EF := Lib.hid RD5.out.f
    have EC := Lib.hid ec
    have EV := Lib.hid ev
    have ES := Lib.hid RD5.out.st
    have HE2 := Lib.hid e2
    clear ec ev RD5
    generalize W5 = WX at *
    obtain ⟨ao9, cp9, rfl, -, -, -⟩ := EV.out
    obtain ⟨n9, hn9⟩ : ∃ n, (l.drop (posB 11)).length = n := ⟨_, rfl⟩
    rw [hn9] at EC
    have ok9 : rdOk l = ((n9 : Int) == 0) := by
      rw [HHD.out, HE2.out, if_neg (by simpa using HK8.out), if_neg (by decide)]; simp [posB] at hn9; have := HL5.out; simp [posB] at this; by_cases h : l.length = 35 <;> simp [h] <;> omega
    have OK9 := Lib.hid ok9
    clear hn9 ok9
    have le9 := Lib.hid (load_bpd (w := WX.drew) EP.out)
    have cc9 := blk_cell EC.out 0
    simp only [List.getElem?_toArray, List.getElem?_cons_zero] at cc9
    have hFP9 : w.heap.size + 1 + 1 ≠ w.heap.size + 1 := by omega
    have s9 := step_setRow' ES.out.drew (g := w.heap.size + 1) (fun h => by omega) (pB l 11).cells
    have p9 := setRow_heap WX.drew (w.heap.size + 1) _ (pB l 11).cells _ _ EP.out
    have c9 := (setRow_other WX.drew (w.heap.size + 1) w.heap.size (pB l 11).cells (by omega)).trans EC.out
    have f9 := (setRow_other WX.drew (w.heap.size + 1) (w.heap.size + 1 + 1) (pB l 11).cells (by omega)).trans EF.out
    have LE2 := Lib.hid (load_bpd p9)
    have c92 := blk_cell c9 0
    simp only [List.getElem?_toArray, List.getElem?_cons_zero] at c92
    have f92 := blk_cell f9 0
    have ff92 := blk_frozen f9 0
    simp only [List.getElem?_toArray, List.getElem?_cons_zero] at f92
    have f93 := blk_set f9 0 (.bool ((n9 : Int) == 0))
    have s93 := s9.setCell (p := ⟨w.heap.size + 1 + 1, 0, none⟩) (fun h => by simp at h; omega) (.bool ((n9 : Int) == 0))
    have p93 := (Below.heap_setCell (WX.drew.setRow (w.heap.size + 1) (pB l 11).cells) ⟨w.heap.size + 1 + 1, 0, none⟩ (.bool ((n9 : Int) == 0)) (w.heap.size + 1) (by simp)).trans p9
    simp only [Array.setIfInBounds, List.size_toArray, List.length_cons, List.length_nil, Nat.zero_add, Nat.lt_add_one, dite_true, List.set_toArray, List.set_cons_zero] at f93
    have F93 := Lib.hid f93
    have P93 := Lib.hid p93
    have S93 := Lib.hid s93
    have PE := Lib.hid EP.out
    clear f93 p93 s93 s9 p9 c9 f9 EP EF EC ES
    go_wp2_with fail
    apply wp_cut0 (fun (w' : World) => w'.heap[w.heap.size + 1]? = some (.cells (pB l 11).cells 27 (0, 0)) ∧ w'.heap[w.heap.size + 1 + 1]? = some (.cells #[.bool ((n9 : Int) == 0)] 4 (0, 0)) ∧ Step None w w')
    · refine wp_region_plan (fun w' => (Instr.loadAt 27 (.pointer (some ⟨w.heap.size + 1, 0, none⟩))).run Try.prog w' = .ok (.agg (pB l 11).cells) w' ∧ w'.cell? ⟨w.heap.size, 0, none⟩ = some (.slice ao9 n9 cp9)) (.take 0 (.take 1 (.take 2 (.take 3 (.alt 4 (.last 5) .none))))) _
        (by simp only [Plan.map, opOf, List.getElem?_toArray, List.getElem?_cons_zero, List.getElem?_cons_succ, Option.getD_some]; rfl) (by kernel_rfl) (by kernel_rfl) (by kernel_rfl) (by decide) (by intro c a d v w h; exact absurd h.1 (by simp)) ⟨le9.out, cc9⟩ ?_
      repeat (first | (refine wpPlan.taken (by rfl) (fun w' hS' => run_load_op rfl rfl hS'.1) ?_; simp only [Act.put, List.setIfInBounds_toArray, List.set_cons_zero, List.set_cons_succ]) | (refine wpPlan.taken (by rfl) (by intro w' hS'; (try dsimp only at hS'); go_split_ands; go_simp; try with_reducible rfl) ?_; simp only [Act.put, List.setIfInBounds_toArray, List.set_cons_zero, List.set_cons_succ]))
      refine wpPlan.runs fun K' hK => ?_
      rw [if_pos (by rfl)]
      refine wp_store_row 27 (.tmp 2) (.tmp 42) rfl (w.heap.size + 1) (pB l 11).cells rfl rfl 27 _ PE.out (by kernel_rfl) rfl (by simp [Bpd.cells, Value.oneCell']) (hK.out _ _ ⟨LE2.out, c92⟩ ?_)
      clear hK K'
      refine wpPlan.ends fun K' hK => ?_
      go_simp
      exact hK.out _ _ ⟨rfl, rfl, P93.out, F93.out, S93.out⟩
    rintro W9 ⟨p9, f9, s9⟩
    have P9 := Lib.hid p9
    have F9 := Lib.hid f9
    have S9 := Lib.hid s9
    clear p9 f9 s9
    go_wp2_with fail
    exact door_return (w0 := w) rfl rfl P9.out rfl F9.out S9.out fun b hb => ⟨⟨pB l 11, by rw [OK9.out], fun h => by unfold parsed; rw [HK.out, if_neg (by simpa using HK8.out)]⟩, hb⟩
  have HE2 := Lib.hid e2
  obtain ⟨vr, ec, ev⟩ := RD5.out.c
  have EC5 := Lib.hid ec
  have EV5 := Lib.hid ev
  clear ec ev
  by_cases h36 : 36 ≤ l.length
  rotate_left
  · have R0 : Hid (rdOk l = false) := Lib.hid (by
      rw [HHD.out, HE2.out, if_neg (by simpa using HK8.out), if_pos rfl]
      simp
      intro h; omega)
    go_wp2_with fail
    refine (take_none (w0 := w) w.heap.size 1 vr _ W5 EC5.out EV5.out (by simp [posB]; omega)).mono ?_
    rintro e w6 ⟨rfl, rfl⟩
    go_wp2_with fail
    exact door_panic (w0 := w) rfl rfl RD5.out.ruin (by omega) (by omega) (HFIN.out R0.out)
  have H36 := Lib.hid h36
  clear h36
  go_wp2_with fail
  refine (take_some (w0 := w) w.heap.size 1 vr _ W5 EC5.out EV5.out (by have := H36.out; simp [posB]; omega)).mono ?_
  rintro e w6 ⟨u6, v6, rfl, hu6, hv6, rfl⟩
  obtain ⟨ao6, cp6, eu6, -, -, hb6⟩ := hu6
  have hl6 : ((l.drop (posB 11)).take 1).length = 1 := by have := H36.out; simp [posB]; omega
  rw [hl6] at eu6
  subst eu6
  have g6 : ((l.drop (posB 11)).take 1)[0]? = some (by_ l 35) := by
    rw [show posB 11 = 35 from rfl, taken_one (by have := H36.out; omega)]
    rfl
  obtain ⟨b6, o6, rfl, c6⟩ := hb6 0 _ g6
  have hbw6 := World.block_lt_of_cell? _ _ c6
  have EP := Lib.hid ((Below.heap_setCell W5 ⟨w.heap.size, 0, none⟩ v6 (w.heap.size + 1) (by simp)).trans RD5.out.p)
  have EF := Lib.hid ((Below.heap_setCell W5 ⟨w.heap.size, 0, none⟩ v6 (w.heap.size + 1 + 1) (by simp; omega)).trans RD5.out.f)
  have ec := blk_set EC5.out 0 v6
  have ES := Lib.hid (RD5.out.st.setCell (p := ⟨w.heap.size, 0, none⟩) (fun h => by simp at h) v6)
  simp only [Array.setIfInBounds, List.size_toArray, List.length_cons, List.length_nil, Nat.zero_add, Nat.lt_add_one, dite_true, List.set_toArray, List.set_cons_zero] at ec
  have EC := Lib.hid ec
  rw [List.drop_drop, show posB 11 + 1 = 36 from rfl] at hv6
  have EV := Lib.hid hv6
  clear ec hv6 hb6 g6 RD5 EC5 EV5 k05 t5
  obtain ⟨WX, hWX⟩ : ∃ WX, W5.setCell ⟨w.heap.size, 0, none⟩ v6 = WX := ⟨_, rfl⟩
  rw [hWX] at EP EF EC ES
  rw [hWX]
  clear hWX
  have c6' : WX.cell? ⟨b6, o6 + 0, none⟩ = some (.int .u8 (by_ l 35)) := (ES.out.cell (p := ⟨b6, o6 + 0, none⟩) hbw6 (fun s => s.elim)).trans c6
  rw [Nat.add_zero] at c6'
  have k06 := blk_cell EP.out 0
  rw [show (pB l 11).cells[0]? = some (.int .i64 k) by rw [← HK.out]; rfl] at k06
  generalize hx : by_ l 35 = x at *
  have HX := Lib.hid hx
  clear hx c6 hbw6
  cases ex : (x == 0)
  · have ex2 : (x != 0) = true := by simp [bne, ex]
    have R0 : Hid (rdOk l = false) := Lib.hid (by
      rw [HHD.out, HE2.out, if_neg (by simpa using HK8.out), if_pos rfl, ex]
      simp)
    have RN : Hid (Ruin w WX (w.heap.size + 1) (w.heap.size + 1 + 1)) := Lib.hid ⟨⟨_, EP.out, rfl⟩, ⟨_, EF.out⟩, ES.out⟩
    go_wp2_with fail
    exact door_panic (w0 := w) rfl rfl RN.out (by omega) (by omega) (HFIN.out R0.out)
  · have ex2 : (x != 0) = false := by simp [bne, ex]
    have HXX := Lib.hid ex
    obtain ⟨ao9, cp9, rfl, -, -, -⟩ := EV.out
    obtain ⟨n9, hn9⟩ : ∃ n, (l.drop (36)).length = n := ⟨_, rfl⟩
    rw [hn9] at EC
    have ok9 : rdOk l = ((n9 : Int) == 0) := by
      rw [HHD.out, HE2.out, if_neg (by simpa using HK8.out), if_pos rfl, HXX.out]; simp at hn9; have := H36.out; by_cases h : l.length = 36 <;> simp [h] <;> omega
    have OK9 := Lib.hid ok9
    clear hn9 ok9
    have le9 := Lib.hid (load_bpd (w := WX.drew) EP.out)
    have cc9 := blk_cell EC.out 0
    simp only [List.getElem?_toArray, List.getElem?_cons_zero] at cc9
    have hFP9 : w.heap.size + 1 + 1 ≠ w.heap.size + 1 := by omega
    have s9 := step_setRow' ES.out.drew (g := w.heap.size + 1) (fun h => by omega) (pB l 11).cells
    have p9 := setRow_heap WX.drew (w.heap.size + 1) _ (pB l 11).cells _ _ EP.out
    have c9 := (setRow_other WX.drew (w.heap.size + 1) w.heap.size (pB l 11).cells (by omega)).trans EC.out
    have f9 := (setRow_other WX.drew (w.heap.size + 1) (w.heap.size + 1 + 1) (pB l 11).cells (by omega)).trans EF.out
    have LE2 := Lib.hid (load_bpd p9)
    have c92 := blk_cell c9 0
    simp only [List.getElem?_toArray, List.getElem?_cons_zero] at c92
    have f92 := blk_cell f9 0
    have ff92 := blk_frozen f9 0
    simp only [List.getElem?_toArray, List.getElem?_cons_zero] at f92
    have f93 := blk_set f9 0 (.bool ((n9 : Int) == 0))
    have s93 := s9.setCell (p := ⟨w.heap.size + 1 + 1, 0, none⟩) (fun h => by simp at h; omega) (.bool ((n9 : Int) == 0))
    have p93 := (Below.heap_setCell (WX.drew.setRow (w.heap.size + 1) (pB l 11).cells) ⟨w.heap.size + 1 + 1, 0, none⟩ (.bool ((n9 : Int) == 0)) (w.heap.size + 1) (by simp)).trans p9
    simp only [Array.setIfInBounds, List.size_toArray, List.length_cons, List.length_nil, Nat.zero_add, Nat.lt_add_one, dite_true, List.set_toArray, List.set_cons_zero] at f93
    have F93 := Lib.hid f93
    have P93 := Lib.hid p93
    have S93 := Lib.hid s93
    have PE := Lib.hid EP.out
    clear f93 p93 s93 s9 p9 c9 f9 EP EF EC ES
    go_wp2_with fail
    apply wp_cut0 (fun (w' : World) => w'.heap[w.heap.size + 1]? = some (.cells (pB l 11).cells 27 (0, 0)) ∧ w'.heap[w.heap.size + 1 + 1]? = some (.cells #[.bool ((n9 : Int) == 0)] 4 (0, 0)) ∧ Step None w w')
    · refine wp_region_plan (fun w' => (Instr.loadAt 27 (.pointer (some ⟨w.heap.size + 1, 0, none⟩))).run Try.prog w' = .ok (.agg (pB l 11).cells) w' ∧ w'.cell? ⟨w.heap.size, 0, none⟩ = some (.slice ao9 n9 cp9)) (.take 0 (.take 1 (.take 2 (.take 3 (.alt 4 (.last 5) .none))))) _
        (by simp only [Plan.map, opOf, List.getElem?_toArray, List.getElem?_cons_zero, List.getElem?_cons_succ, Option.getD_some]; rfl) (by kernel_rfl) (by kernel_rfl) (by kernel_rfl) (by decide) (by intro c a d v w h; exact absurd h.1 (by simp)) ⟨le9.out, cc9⟩ ?_
      repeat (first | (refine wpPlan.taken (by rfl) (fun w' hS' => run_load_op rfl rfl hS'.1) ?_; simp only [Act.put, List.setIfInBounds_toArray, List.set_cons_zero, List.set_cons_succ]) | (refine wpPlan.taken (by rfl) (by intro w' hS'; (try dsimp only at hS'); go_split_ands; go_simp; try with_reducible rfl) ?_; simp only [Act.put, List.setIfInBounds_toArray, List.set_cons_zero, List.set_cons_succ]))
      refine wpPlan.runs fun K' hK => ?_
      rw [if_pos (by rfl)]
      refine wp_store_row 27 (.tmp 2) (.tmp 42) rfl (w.heap.size + 1) (pB l 11).cells rfl rfl 27 _ PE.out (by kernel_rfl) rfl (by simp [Bpd.cells, Value.oneCell']) (hK.out _ _ ⟨LE2.out, c92⟩ ?_)
      clear hK K'
      refine wpPlan.ends fun K' hK => ?_
      go_simp
      exact hK.out _ _ ⟨rfl, rfl, P93.out, F93.out, S93.out⟩
    rintro W9 ⟨p9, f9, s9⟩
    have P9 := Lib.hid p9
    have F9 := Lib.hid f9
    have S9 := Lib.hid s9
    clear p9 f9 s9
    go_wp2_with fail
    exact door_return (w0 := w) rfl rfl P9.out rfl F9.out S9.out fun b hb => ⟨⟨pB l 11, by rw [OK9.out], fun h => by unfold parsed; rw [HK.out, if_neg (by simpa using HK8.out)]⟩, hb⟩
end Go.Proofs.Ytfpdfenepelcdaa
