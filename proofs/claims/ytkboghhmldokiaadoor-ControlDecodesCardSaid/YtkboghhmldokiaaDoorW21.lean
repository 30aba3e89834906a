/- What bytes tell as a keepalive: the document. -/
import Derived.Test.YtkboghhmldokiaaDoorW20
namespace Go.Proofs.YtkboghhmldokiaaDoor
open Go.RowKit Go.Gm

/-- The number that bytes tell. -/
def ofL : List Int → Int → Int
  | [], n => n
  | a :: l, n => ofL l (n * 256 + a)
theorem ofL_snoc : ∀ (l : List Int) (n x : Int), ofL (l ++ [x]) n = ofL l n * 256 + x
  | [], _, _ => rfl
  | _ :: l, _, x => ofL_snoc l _ x
theorem ofL_rng : ∀ {l : List Int}, Small l → l.length ≤ 4 → 0 ≤ ofL l 0 ∧ ofL l 0 < 4294967296
  | [], _, _ => by simp [ofL]
  | [a], h, _ => by have := h a (by simp); simp [ofL]; omega
  | [a, b], h, _ => by have := h a (by simp); have := h b (by simp); simp [ofL]; omega
  | [a, b, c], h, _ => by have := h a (by simp); have := h b (by simp); have := h c (by simp); simp [ofL]; omega
  | [a, b, c, d], h, _ => by have := h a (by simp); have := h b (by simp); have := h c (by simp); have := h d (by simp); simp [ofL]; omega
  | _ :: _ :: _ :: _ :: _ :: _, _, h => by simp at h

theorem of_any (b off cap : Nat) (l : List Int) (w : World) (hl : l.length ≤ 4) (hs : Small l) (hc : ∀ j x, l[j]? = some x → w.cell? ⟨b, off + j, none⟩ = some (.int .u8 x)) :
    Calls Tryd.prog 44 #[.slice (some ⟨b, off, none⟩) l.length cap] w fun e w' => e = .returned (.int .i64 (ofL l 0)) ∧ w = w' := by
  have H := Lib.hid hc
  have HS := Lib.hid hs
  clear hc hs
  go_enter Tryd.func44, Tryd.ntmps44
  go_wp2_with fail
  go_loopw [3, 4] (fun n i wr => ∃ j : Nat, j ≤ l.length ∧ i = .int .i64 j ∧ n = .int .i64 (ofL (l.take j) 0) ∧ wr = w) (fun _ i _ => l.length - (intOf i).toNat)
  case atStart => exact ⟨0, Nat.zero_le _, rfl, rfl, rfl⟩
  case round =>
    obtain ⟨j, hj, rfl, rfl, rfl⟩ := hrel
    by_cases h : j < l.length
    · have d1 : decide ((j : Int) < (l.length : Int)) = true := by simpa using h
      have c0 : (0 : Int) ≤ (j : Int) := by omega
      have c1 : (j : Int) < (l.length : Int) := by omega
      obtain ⟨x, hx⟩ : ∃ x, l[j]? = some x := ⟨l[j], List.getElem?_eq_getElem h⟩
      have hcell := H.out j x hx
      have hb := HS.out x (List.mem_of_getElem? hx)
      have hn : l.take (j + 1) = l.take j ++ [x] := by rw [List.take_add_one, hx]; rfl
      have hr := ofL_rng (l := l.take j) (fun y hy => HS.out y (List.mem_of_mem_take hy)) (by simp; omega)
      have hsn := ofL_snoc (l.take j) 0 x
      rw [← hn] at hsn
      have hw1 : IntKind.i64.wrap ((j : Int) + 1) = ((j + 1 : Nat) : Int) := by rw [IntWalk.i64_in _ (by omega)]; omega
      have HN := Lib.hid hsn
      clear hsn hn hx
      generalize ofL (l.take j) 0 = N at *
      have e1 : IntKind.i64.wrap (N * 256) = N * 256 := IntWalk.i64_in _ (by omega)
      have e2 : IntKind.i64.wrap x = x := IntWalk.i64_in _ (by omega)
      have e3 : IntKind.i64.wrap (N * 256 + x) = N * 256 + x := IntWalk.i64_in _ (by omega)
      clear hr hb
      go_wp2_with fail
      go_roundw
      case rel => exact ⟨j + 1, by omega, rfl, by rw [HN.out], by trivial⟩
      case measure => simp [intOf]; omega
    · have d1 : decide ((j : Int) < (l.length : Int)) = false := by simpa using h
      obtain rfl : j = l.length := by omega
      have ht : l.take l.length = l := List.take_length
      rw [ht]
      clear ht
      go_wp2_with fail
      go_ret
      exact ⟨rfl, rfl⟩

theorem rtold_short (ao : Option Addr) (len cap : Nat) (w : World) (hl : len ≠ 8) : Calls Tryd.prog 19 #[.slice ao len cap] w fun e w' => e = .returned (.tuple toldNo) ∧ Step None w w' := by
  have h1 : ((len : Int) != 8) = true := by simp; omega
  unfold toldNo
  go_enter Tryd.func19, Tryd.ntmps19
  go_wp2_with fail
  (try simp only [Exit.inBlock, Exit.then])
  refine bodyPost_ret (results_four rfl _ _ _) rfl ?_
  exact ⟨rfl, Step.refl _ _⟩

theorem four_of4 {x0 x1 x2 x3 : Int} (h0 : 0 ≤ x0 ∧ x0 ≤ 255) (h1 : 0 ≤ x1 ∧ x1 ≤ 255) (h2 : 0 ≤ x2 ∧ x2 ≤ 255) (h3 : 0 ≤ x3 ∧ x3 ≤ 255) : four (of4 x0 x1 x2 x3) = [x0, x1, x2, x3] := by
  simp only [four, of4, of2, List.cons.injEq, and_true]
  refine ⟨?_, ?_, ?_, ?_⟩ <;> omega
theorem two_of2 {x0 x1 : Int} (h0 : 0 ≤ x0 ∧ x0 ≤ 255) (h1 : 0 ≤ x1 ∧ x1 ≤ 255) : two (of2 x0 x1) = [x0, x1] := by
  simp only [two, of2, List.cons.injEq, and_true]
  refine ⟨?_, ?_⟩ <;> omega

theorem encA_is {a x0 x1 x2 x3 y0 y1 z : Int} (hs : Small [a, x0, x1, x2, x3, y0, y1, z]) : ((strOfNums (encA (of4 x0 x1 x2 x3) (of2 y0 y1) (z == 1))).toList == (strOfNums [a, x0, x1, x2, x3, y0, y1, z]).toList) = (a == 75 && !decide (1 < z)) := by
  have ha := hs a (by simp)
  have b0 := hs x0 (by simp)
  have b1 := hs x1 (by simp)
  have b2 := hs x2 (by simp)
  have b3 := hs x3 (by simp)
  have c0 := hs y0 (by simp)
  have c1 := hs y1 (by simp)
  have hz := hs z (by simp)
  have e : encA (of4 x0 x1 x2 x3) (of2 y0 y1) (z == 1) = [75, x0, x1, x2, x3, y0, y1, if z == 1 then 1 else 0] := by
    rw [encA, four_of4 b0 b1 b2 b3, two_of2 c0 c1]
    simp
  rw [e, text_beq ?_ hs]
  · rw [Bool.eq_iff_iff]
    simp only [decide_eq_true_eq, List.cons.injEq, and_true, true_and, Bool.and_eq_true, beq_iff_eq, Bool.not_eq_true', decide_eq_false_iff_not]
    constructor
    · rintro ⟨h1, h2⟩
      refine ⟨h1.symm, ?_⟩
      split at h2 <;> omega
    · rintro ⟨h1, h2⟩
      refine ⟨h1.symm, ?_⟩
      split <;> omega
  · intro x hx
    simp only [List.mem_cons, List.not_mem_nil, or_false] at hx
    rcases hx with rfl | rfl | rfl | rfl | rfl | rfl | rfl | rfl
    · omega
    · exact b0
    · exact b1
    · exact b2
    · exact b3
    · exact c0
    · exact c1
    · split <;> omega

set_option linter.unusedSimpArgs false in
set_option maxHeartbeats 2000000 in
theorem rtold_eight (b off cap : Nat) (a x0 x1 x2 x3 y0 y1 z : Int) (w : World) (hcap : 8 ≤ cap) (hs : Small [a, x0, x1, x2, x3, y0, y1, z]) (hb : b < w.heap.size)
    (hc : ∀ j x, [a, x0, x1, x2, x3, y0, y1, z][j]? = some x → w.cell? ⟨b, off + j, none⟩ = some (.int .u8 x)) :
    Calls Tryd.prog 19 #[.slice (some ⟨b, off, none⟩) 8 cap] w fun e w' => e = .returned (.tuple (told [a, x0, x1, x2, x3, y0, y1, z])) ∧ Step None w w' := by
  have c7 := hc 7 z rfl
  have k1 : (1 : Int) ≤ (cap : Int) := by omega
  have k2 : (8 : Int) ≤ (cap : Int) := by omega
  have k3 : (5 : Int) ≤ (cap : Int) := by omega
  have k4 : (7 : Int) ≤ (cap : Int) := by omega
  have n1 : 1 ≤ cap := by omega
  have n5 : 5 ≤ cap := by omega
  have n7 : 7 ≤ cap := by omega
  have b0 := hs x0 (by simp)
  have b1 := hs x1 (by simp)
  have b2 := hs x2 (by simp)
  have b3 := hs x3 (by simp)
  have g0 := hs y0 (by simp)
  have g1 := hs y1 (by simp)
  have O1 : Hid (∀ c, Calls Tryd.prog 44 #[.slice (some ⟨b, off + 1, none⟩) 4 c] w fun e w' => e = .returned (.int .i64 (of4 x0 x1 x2 x3)) ∧ w = w') := Lib.hid fun c => by
    have h := of_any b (off + 1) c [x0, x1, x2, x3] w (by simp) (fun x hx => hs x (by simp at hx ⊢; omega)) (fun j x hj => by
      have : [a, x0, x1, x2, x3, y0, y1, z][j + 1]? = some x := by
        match j, hj with
        | 0, hj => exact hj
        | 1, hj => exact hj
        | 2, hj => exact hj
        | 3, hj => exact hj
        | j + 4, hj => simp at hj
      have := hc (j + 1) x this
      rwa [show off + (j + 1) = off + 1 + j by omega] at this)
    have e : ofL [x0, x1, x2, x3] 0 = of4 x0 x1 x2 x3 := by simp [ofL, of4, of2]; omega
    rwa [e] at h
  have O2 : Hid (∀ c, Calls Tryd.prog 44 #[.slice (some ⟨b, off + 5, none⟩) 2 c] w fun e w' => e = .returned (.int .i64 (of2 y0 y1)) ∧ w = w') := Lib.hid fun c => by
    have h := of_any b (off + 5) c [y0, y1] w (by simp) (fun x hx => hs x (by simp at hx ⊢; omega)) (fun j x hj => by
      have : [a, x0, x1, x2, x3, y0, y1, z][j + 5]? = some x := by
        match j, hj with
        | 0, hj => exact hj
        | 1, hj => exact hj
        | j + 2, hj => simp at hj
      have := hc (j + 5) x this
      rwa [show off + (j + 5) = off + 5 + j by omega] at this)
    have e : ofL [y0, y1] 0 = of2 y0 y1 := by simp [ofL, of2]
    rwa [e] at h
  have hp : isIn (of2 y0 y1) 0 65535 = true := by
    have h1 : 0 ≤ of2 y0 y1 ∧ of2 y0 y1 ≤ 65535 := by unfold of2; omega
    simp only [isIn, Bool.and_eq_true, decide_eq_true_eq]
    exact h1
  have ht := encA_is hs
  have hB : Hid (∀ w', Step None w w' → (convert 24 9 (.slice (some ⟨b, off, none⟩) 8 cap)).run Tryd.prog w' = .ok (.string (strOfNums [a, x0, x1, x2, x3, y0, y1, z])) w') := Lib.hid fun w' h' =>
    text_body (.inr ⟨_, cap, rfl, by simp, fun j u hj => by
      rw [add_plain, h'.cell (p := ⟨b, off + j, none⟩) hb (fun s => s.elim)]
      rw [List.getElem?_map] at hj
      obtain ⟨x, hx, rfl⟩ := Option.map_eq_some_iff.1 hj
      exact hc j x hx⟩)
  have K : Hid (∀ w', Step None w w' → w'.cell? ⟨b, off + 7, none⟩ = some (.int .u8 z)) := Lib.hid fun w' h' => by
    rw [h'.cell (p := ⟨b, off + 7, none⟩) hb (fun s => s.elim)]; exact c7
  have hsplit : toldOk a x0 x1 x2 x3 z = (num (of4 x0 x1 x2 x3) && (a == 75 && !decide (1 < z))) := by
    unfold toldOk
    cases num (of4 x0 x1 x2 x3) <;> cases (a == 75) <;> cases decide (1 < z) <;> rfl
  obtain ⟨V, hV⟩ : ∃ V, told [a, x0, x1, x2, x3, y0, y1, z] = V := ⟨_, rfl⟩
  have HV : Hid ((toldOk a x0 x1 x2 x3 z = false → V = toldNo) ∧ (toldOk a x0 x1 x2 x3 z = true → V = toldYes x0 x1 x2 x3 y0 y1 z)) := Lib.hid ⟨fun h => by rw [← hV]; simp [told, h], fun h => by rw [← hV]; simp [told, h]⟩
  rw [hV]
  rw [hsplit, ← ht] at HV
  have A := Lib.hid (ralive_any (of4 x0 x1 x2 x3) (of2 y0 y1) (z == 1))
  have HC : Hid ((num (of4 x0 x1 x2 x3) = false → codeA (of4 x0 x1 x2 x3) (of2 y0 y1) = 1) ∧ (num (of4 x0 x1 x2 x3) = true → codeA (of4 x0 x1 x2 x3) (of2 y0 y1) = 0 ∧ bytesA (of4 x0 x1 x2 x3) (of2 y0 y1) (z == 1) = encA (of4 x0 x1 x2 x3) (of2 y0 y1) (z == 1))) :=
    Lib.hid ⟨fun h => by simp [codeA, okA, h], fun h => ⟨by simp [codeA, okA, h, hp], by simp [bytesA, okA, h, hp]⟩⟩
  clear hV hsplit ht hp hc b0 b1 b2 b3 g0 g1 hs
  generalize hE : encA (of4 x0 x1 x2 x3) (of2 y0 y1) (z == 1) = E at *
  generalize hL : strOfNums [a, x0, x1, x2, x3, y0, y1, z] = L at *
  clear hE hL
  go_enter Tryd.func19, Tryd.ntmps19
  go_wp2_with fail
  refine (O1.out _).mono ?_
  rintro e w1 ⟨rfl, rfl⟩
  go_wp2_with fail
  refine (O2.out _).mono ?_
  rintro e w1 ⟨rfl, rfl⟩
  go_wp2_with fail
  refine (A.out _).mono ?_
  rintro e w2 ⟨u, rfl, hu, s2⟩
  have S2 := Lib.hid s2
  cases h1 : num (of4 x0 x1 x2 x3)
  · rw [HC.out.1 h1]
    clear hu s2
    go_wp2_with fail
    (try simp only [Exit.inBlock, Exit.then])
    refine bodyPost_ret (results_four rfl _ _ _) rfl ?_
    rw [HV.out.1 (by simp [h1])]
    exact ⟨rfl, S2.out⟩
  rw [(HC.out.2 h1).1]
  rw [(HC.out.2 h1).2] at hu
  have t1 := text_of hu
  have t2 := hB.out _ s2
  clear hu s2
  cases h2 : ((strOfNums E).toList == L.toList)
  · have h2' : ((strOfNums E).toList != L.toList) = true := by simp [bne, h2]
    go_wp2_with fail
    (try simp only [Exit.inBlock, Exit.then])
    refine bodyPost_ret (results_four rfl _ _ _) rfl ?_
    rw [HV.out.1 (by rw [h1, h2]; rfl)]
    exact ⟨rfl, S2.out⟩
  have h2' : ((strOfNums E).toList != L.toList) = false := by simp [bne, h2]
  go_wp2_with fail
  refine wp_region_plan (fun w' => w'.cell? ⟨b, off + 7, none⟩ = some (.int .u8 z)) (.take 0 (.take 1 (.take 2 (.take 3 (.take 4 (.take 5 (.take 6 (.take 7 (.take 8 (.take 9 .done)))))))))) _
    (by simp only [Plan.map, opOf, List.getElem?_toArray, List.getElem?_cons_zero, List.getElem?_cons_succ, Option.getD_some]; rfl) (by kernel_rfl) (by kernel_rfl) (by kernel_rfl) (by decide) (by intro c a d v w; cases d <;> exact fun h => h) (K.out _ S2.out.drew) ?_
  repeat (refine wpPlan.taken (by rfl) (by intro w' hS'; (try dsimp only at hS'); go_split_ands; go_simp; try with_reducible rfl) ?_; simp only [Act.put, List.setIfInBounds_toArray, List.set_cons_zero, List.set_cons_succ])
  refine wpPlan.done ?_
  go_wp2_with fail
  (try simp only [Exit.inBlock, Exit.then])
  refine bodyPost_ret (results_four rfl _ _ _) rfl ?_
  rw [HV.out.2 (by rw [h1, h2]; rfl)]
  exact ⟨rfl, S2.out.drew⟩

end Go.Proofs.YtkboghhmldokiaaDoor
