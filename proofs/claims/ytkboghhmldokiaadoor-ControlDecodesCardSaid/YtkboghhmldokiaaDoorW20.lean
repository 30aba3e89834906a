/- What bytes tell as a keepalive: the code. -/
import Derived.Test.YtkboghhmldokiaaDoorW19
namespace Go.Proofs.YtkboghhmldokiaaDoor
open Go.RowKit Go.Gm

theorem results_four {fn : Func} {t u v x : Tmp} (h : fn.results = #[.tmp t, .tmp u, .tmp v, .tmp x]) (tmps : Array Value) (P : Program) (w : World) :
    (results fn tmps).run P w = .ok (.tuple #[tmps.getD t undef, tmps.getD u undef, tmps.getD v undef, tmps.getD x undef]) w := by
  simp [results, h]

/-- Bytes that are handed in: none, or in a row. -/
theorem arg_bytes {w : World} {v : Value} (h : Arg w (.slice 1 1 (.int .u8)) v) : (∃ ao cap, v = .slice ao 0 cap) ∨ ∃ b off cap l, v = .slice (some ⟨b, off, none⟩) (List.length l) cap ∧ 0 < l.length ∧ l.length ≤ cap ∧ cap ≤ 140737488351232 ∧ Small l ∧ b < w.heap.size ∧ ∀ j x, l[j]? = some x → w.cell? ⟨b, off + j, none⟩ = some (.int .u8 x) := by
  obtain ⟨ao, bs, cap, rfl, h1, h2, hw, h3⟩ := (h.one rfl).ints
  rcases Nat.eq_zero_or_pos bs.length with h0 | hp
  · rw [h0]; exact .inl ⟨ao, cap, rfl⟩
  · right
    rcases h3 with ⟨rfl, rfl⟩ | ⟨a, rfl, h4, h5⟩
    · omega
    · obtain ⟨x, hx⟩ : ∃ x, bs[0]? = some x := ⟨bs[0], List.getElem?_eq_getElem hp⟩
      have hc := h5 0 (.int .u8 x) (by rw [List.getElem?_map, hx]; rfl)
      obtain ⟨b, off, spot⟩ := a
      have hsp : spot = none := by
        have := World.cell?_spot hc
        simpa [Addr.add] using this
      subst hsp
      refine ⟨b, off, cap, bs, rfl, hp, h1, by omega, fun y hy => wf_u8 (hw y hy), ?_, fun j y hj => ?_⟩
      · have := World.block_lt_of_cell? _ _ hc
        rw [add_plain] at this
        exact this
      · have := h5 j (.int .u8 y) (by rw [List.getElem?_map, hj]; rfl)
        rwa [add_plain] at this

/-- Is it one? -/
def toldOk (a x0 x1 x2 x3 z : Int) : Bool := a == 75 && (!decide (1 < z) && num (of4 x0 x1 x2 x3))
def toldNo : Array Value := #[.int .i64 0, .int .i64 0, .bool false, .int .i64 2]
def toldYes (x0 x1 x2 x3 y0 y1 z : Int) : Array Value := #[.int .i64 (of4 x0 x1 x2 x3), .int .i64 (of2 y0 y1), .bool (z == 1), .int .i64 0]
def told : List Int → Array Value
  | [a, x0, x1, x2, x3, y0, y1, z] => if toldOk a x0 x1 x2 x3 z then toldYes x0 x1 x2 x3 y0 y1 z else toldNo
  | _ => toldNo

set_option maxHeartbeats 2000000 in
theorem told_short (ao : Option Addr) (len cap : Nat) (w : World) (hl : len ≠ 8) : Calls Tryd.prog 18 #[.slice ao len cap] w fun e w' => e = .returned (.tuple toldNo) ∧ Step None w w' := by
  have h1 : ((len : Int) != 8) = true := by simp; omega
  unfold toldNo
  go_enter Tryd.func18, Tryd.ntmps18
  go_wp2_with fail
  (try simp only [Exit.inBlock, Exit.then])
  refine bodyPost_ret (results_four rfl _ _ _) rfl ?_
  exact ⟨rfl, Step.refl _ _⟩

set_option linter.unusedSimpArgs false in
set_option maxHeartbeats 2000000 in
theorem told_eight (b off cap : Nat) (a x0 x1 x2 x3 y0 y1 z : Int) (w : World) (hcap : 8 ≤ cap) (hs : Small [a, x0, x1, x2, x3, y0, y1, z]) (hb : b < w.heap.size)
    (hc : ∀ j x, [a, x0, x1, x2, x3, y0, y1, z][j]? = some x → w.cell? ⟨b, off + j, none⟩ = some (.int .u8 x)) :
    Calls Tryd.prog 18 #[.slice (some ⟨b, off, none⟩) 8 cap] w fun e w' => e = .returned (.tuple (told [a, x0, x1, x2, x3, y0, y1, z])) ∧ Step None w w' := by
  have c0 : w.cell? ⟨b, off, none⟩ = some (.int .u8 a) := hc 0 a rfl
  have c7 := hc 7 z rfl
  have k1 : (1 : Int) ≤ (cap : Int) := by omega
  have k2 : (8 : Int) ≤ (cap : Int) := by omega
  have k3 : 8 ≤ cap := hcap
  have hr : Hid (Rdr w (w.alloc (.cells #[.slice (some ⟨b, off + 1, none⟩) 7 (cap - 1), .bool false] 61)) w.heap.size b (off + 1) (cap - 1) [x0, x1, x2, x3, y0, y1, z]) := by
    refine Lib.hid ⟨by simpa using heap_alloc_new w _, fun j x hj => ?_, (Step.refl None w).alloc _, Nat.le_refl _, hb, by simp; omega, fun x hx => hs x (List.mem_cons_of_mem _ hx)⟩
    have h1 := hc (j + 1) x (by simpa using hj)
    rw [((Step.refl None w).alloc _).cell (p := ⟨b, off + 1 + j, none⟩) hb (fun s => s.elim)]
    rwa [show off + 1 + j = off + (j + 1) by omega]
  have HC := Lib.hid hc
  clear hc
  obtain ⟨V, hV⟩ : ∃ V, told [a, x0, x1, x2, x3, y0, y1, z] = V := ⟨_, rfl⟩
  have HV : Hid ((toldOk a x0 x1 x2 x3 z = false → V = toldNo) ∧ (toldOk a x0 x1 x2 x3 z = true → V = toldYes x0 x1 x2 x3 y0 y1 z)) := Lib.hid ⟨fun h => by rw [← hV]; simp [told, h], fun h => by rw [← hV]; simp [told, h]⟩
  rw [hV]
  clear hV
  go_enter Tryd.func18, Tryd.ntmps18
  cases h1 : (a == 75)
  · have h1' : (a != 75) = true := by simp [bne, h1]
    go_wp2_with fail
    (try simp only [Exit.inBlock, Exit.then])
    refine bodyPost_ret (results_four rfl _ _ _) rfl ?_
    rw [HV.out.1 (by simp [toldOk, h1])]
    exact ⟨rfl, Step.refl _ _⟩
  have h1' : (a != 75) = false := by simp [bne, h1]
  cases h2 : decide (1 < z)
  rotate_left
  · go_wp2_with fail
    (try simp only [Exit.inBlock, Exit.then])
    refine bodyPost_ret (results_four rfl _ _ _) rfl ?_
    rw [HV.out.1 (by simp [toldOk, h1, h2])]
    exact ⟨rfl, Step.refl _ _⟩
  go_wp2_with fail
  refine (long_ok _ hr.out (by simp)).mono ?_
  rintro e w1 ⟨rfl, r1⟩
  have R1 := Lib.hid r1
  clear r1
  go_wp2_with fail
  refine (short_ok _ R1.out (by simp)).mono ?_
  rintro e w2 ⟨rfl, r2⟩
  have R2 := Lib.hid r2
  clear r2
  go_wp2_with fail
  refine (numbered_any _ _).mono ?_
  rintro e w3 ⟨rfl, rfl⟩
  cases h3 : num (of4 x0 x1 x2 x3)
  · go_wp2_with fail
    (try simp only [Exit.inBlock, Exit.then])
    refine bodyPost_ret (results_four rfl _ _ _) rfl ?_
    rw [HV.out.1 (by simp [toldOk, h1, h2, h3])]
    exact ⟨rfl, R2.out.st⟩
  have K : Hid (∀ w', Step None w w' → w'.cell? ⟨b, off + 7, none⟩ = some (.int .u8 z)) := Lib.hid fun w' h' => by
    rw [h'.cell (p := ⟨b, off + 7, none⟩) hb (fun s => s.elim)]; exact HC.out 7 z rfl
  go_wp2_with fail
  refine wp_region_plan (fun w' => w'.cell? ⟨b, off + 7, none⟩ = some (.int .u8 z)) (.take 0 (.take 1 (.take 2 (.take 3 (.take 4 (.take 5 (.take 6 (.take 7 (.take 8 (.take 9 .done)))))))))) _
    (by simp only [Plan.map, opOf, List.getElem?_toArray, List.getElem?_cons_zero, List.getElem?_cons_succ, Option.getD_some]; rfl) (by kernel_rfl) (by kernel_rfl) (by kernel_rfl) (by decide) (by intro c a d v w; cases d <;> exact fun h => h) (K.out _ R2.out.st.drew) ?_
  repeat (refine wpPlan.taken (by rfl) (by intro w' hS'; (try dsimp only at hS'); go_split_ands; go_simp; try with_reducible rfl) ?_; simp only [Act.put, List.setIfInBounds_toArray, List.set_cons_zero, List.set_cons_succ])
  refine wpPlan.done ?_
  go_wp2_with fail
  (try simp only [Exit.inBlock, Exit.then])
  refine bodyPost_ret (results_four rfl _ _ _) rfl ?_
  rw [HV.out.2 (by simp [toldOk, h1, h2, h3])]
  exact ⟨rfl, R2.out.st.drew⟩

theorem told_any (b off cap : Nat) (l : List Int) (w : World) (hcap : l.length ≤ cap) (hs : Small l) (hb : b < w.heap.size) (hc : ∀ j x, l[j]? = some x → w.cell? ⟨b, off + j, none⟩ = some (.int .u8 x)) :
    Calls Tryd.prog 18 #[.slice (some ⟨b, off, none⟩) l.length cap] w fun e w' => e = .returned (.tuple (told l)) ∧ Step None w w' := by
  by_cases h : l.length = 8
  · match l, h with
    | [a, x0, x1, x2, x3, y0, y1, z], _ => exact told_eight b off cap a x0 x1 x2 x3 y0 y1 z w hcap hs hb hc
  · have : told l = toldNo := by
      match l, h with
      | [], _ => rfl
      | [_], _ => rfl
      | [_, _], _ => rfl
      | [_, _, _], _ => rfl
      | [_, _, _, _], _ => rfl
      | [_, _, _, _, _], _ => rfl
      | [_, _, _, _, _, _], _ => rfl
      | [_, _, _, _, _, _, _], _ => rfl
      | [_, _, _, _, _, _, _, _], h => exact absurd rfl h
      | _ :: _ :: _ :: _ :: _ :: _ :: _ :: _ :: _ :: _, _ => rfl
    rw [this]
    exact told_short _ _ _ _ h

end Go.Proofs.YtkboghhmldokiaaDoor
