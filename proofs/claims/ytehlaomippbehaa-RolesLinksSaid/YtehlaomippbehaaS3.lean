/- Ports of a list are written in place. -/
import Derived.Test.YtehlaomippbehaaS2
namespace Go.Proofs.Ytehlaomippbehaa
open Go.RowKit Go.Gm

theorem row_setCells {w : World} {e : TypeId} {sz n b off cap : Nat} {xs : List Value} (h : Row w e sz (.slice (some ⟨b, off, none⟩) n cap) n xs) (hp : 0 < n) (k : Nat) (vs : List Value) (hk : k + vs.length ≤ n * sz) :
    Row (w.setCells b (off + k) vs) e sz (.slice (some ⟨b, off, none⟩) n cap) n (xs.take k ++ vs ++ xs.drop (k + vs.length)) := by
  obtain ⟨b', off', cap', cur, hv, h2, h3, hb, h5, h6⟩ := h.lies hp
  simp only [Value.slice.injEq, Option.some.injEq, Addr.mk.injEq] at hv
  obtain ⟨⟨rfl, rfl, -⟩, -, rfl⟩ := hv
  have hl := h.len
  have hmul : n * sz ≤ cap * sz := Nat.mul_le_mul_right _ h2
  obtain ⟨cur', c1, c2, c3⟩ := setCells_row vs (off + k) w cur hb (by omega)
  refine ⟨by simp; omega, _, _, rfl, h2, h3, .inr ⟨b, off, cur', rfl, c1, by omega, ?_⟩⟩
  rw [c3]
  have hcl : cur.toList.length = cur.size := by simp
  generalize cur.toList = C at *
  obtain ⟨P, M, S, rfl, hP, hM⟩ : ∃ P M S, C = P ++ (M ++ S) ∧ P.length = off ∧ M.length = n * sz := ⟨C.take off, (C.drop off).take (n * sz), (C.drop off).drop (n * sz), by rw [List.take_append_drop, List.take_append_drop], by simp; omega, by simp; omega⟩
  subst hP
  rw [List.drop_left, ← hM, List.take_left] at h6
  subst h6
  obtain ⟨M1, M2, M3, rfl, h1, h2'⟩ : ∃ M1 M2 M3, M = M1 ++ (M2 ++ M3) ∧ M1.length = k ∧ M2.length = vs.length := ⟨M.take k, (M.drop k).take vs.length, (M.drop k).drop vs.length, by rw [List.take_append_drop, List.take_append_drop], by simp; omega, by simp; omega⟩
  subst h1
  have e1 : (P ++ (M1 ++ (M2 ++ M3) ++ S)).take (P.length + M1.length) = P ++ M1 := by
    rw [show P ++ (M1 ++ (M2 ++ M3) ++ S) = (P ++ M1) ++ (M2 ++ M3 ++ S) by simp, List.take_left' (by simp)]
  have e2 : (P ++ (M1 ++ (M2 ++ M3) ++ S)).drop (P.length + M1.length + vs.length) = M3 ++ S := by
    rw [show P ++ (M1 ++ (M2 ++ M3) ++ S) = (P ++ M1 ++ M2) ++ (M3 ++ S) by simp, List.drop_left' (by simp; omega)]
  have e3 : (M1 ++ (M2 ++ M3)).drop (M1.length + vs.length) = M3 := by
    rw [show M1 ++ (M2 ++ M3) = (M1 ++ M2) ++ M3 by simp, List.drop_left' (by simp; omega)]
  rw [e1, e2, e3, List.take_left, ← hM]
  rw [show P ++ M1 ++ vs ++ (M3 ++ S) = P ++ ((M1 ++ vs ++ M3) ++ S) by simp, List.drop_left, List.take_left' (by simp; omega)]
theorem step_setCells {w : World} {S : Nat → Prop} {b o : Nat} (vs : List Value) (hb : S b) : Step S w (w.setCells b o vs) := by
  obtain ⟨s1, s2, s3, s4⟩ := setCells_same b vs o w
  exact ⟨s1, s2, s3, by rw [s4]; exact Nat.le_refl _, fun k _ hk => setCells_far vs _ k (fun he => hk (by rw [he]; exact hb))⟩

theorem flatH_app (a b : List Hrd) : flatH (a ++ b) = flatH a ++ flatH b := by simp [flatH]
theorem flatH_len : ∀ l : List Hrd, (flatH l).length = l.length * 21
  | [] => rfl
  | x :: r => by
    have ih := flatH_len r
    have hl : x.cells.toList.length = 21 := rfl
    show (x.cells.toList ++ flatH r).length = _
    rw [List.length_append, ih, hl, List.length_cons]
    omega
theorem split_at {l : List Hrd} {i : Nat} {x : Hrd} (h : l[i]? = some x) : ∃ A B, l = A ++ x :: B ∧ A.length = i := by
  obtain ⟨hi, hx⟩ := List.getElem?_eq_some_iff.1 h
  exact ⟨l.take i, l.drop (i + 1), by rw [← hx, ← List.drop_eq_getElem_cons hi, List.take_append_drop], by simp; omega⟩
theorem flatH_has {l : List Hrd} {i : Nat} {x : Hrd} (h : l[i]? = some x) : (flatH l).take (i * 21 + 3) ++ [.bool true] ++ (flatH l).drop (i * 21 + 3 + [(Value.bool true)].length) = flatH (l.set i { x with has := true }) := by
  obtain ⟨A, B, rfl, rfl⟩ := split_at h
  have e0 : (A ++ x :: B).set A.length { x with has := true } = A ++ { x with has := true } :: B := by simp
  have hA := flatH_len A
  rw [e0, flatH_app, flatH_app]
  show (flatH A ++ (x.cells.toList ++ flatH B)).take (A.length * 21 + 3) ++ [.bool true] ++ (flatH A ++ (x.cells.toList ++ flatH B)).drop (A.length * 21 + 3 + 1) = flatH A ++ (({ x with has := true } : Hrd).cells.toList ++ flatH B)
  have hx : x.cells.toList = [.int .i64 x.port, .int .i64 x.cost, .bool x.up] ++ (.bool x.has :: x.v.cells.toList) := rfl
  have hy : ({ x with has := true } : Hrd).cells.toList = [.int .i64 x.port, .int .i64 x.cost, .bool x.up] ++ (.bool true :: x.v.cells.toList) := rfl
  rw [hx, hy]
  generalize x.v.cells.toList = V
  rw [show flatH A ++ ([.int .i64 x.port, .int .i64 x.cost, .bool x.up] ++ (.bool x.has :: V) ++ flatH B) = (flatH A ++ [.int .i64 x.port, .int .i64 x.cost, .bool x.up]) ++ (.bool x.has :: (V ++ flatH B)) by simp,
    List.take_left' (by simp [hA]),
    show (flatH A ++ [.int .i64 x.port, .int .i64 x.cost, .bool x.up]) ++ (.bool x.has :: (V ++ flatH B)) = (flatH A ++ [.int .i64 x.port, .int .i64 x.cost, .bool x.up, .bool x.has]) ++ (V ++ flatH B) by simp, List.drop_left' (by simp [hA])]
  simp
theorem flatH_v {l : List Hrd} {i : Nat} {x : Hrd} (h : l[i]? = some x) (v : Vec) : (flatH l).take (i * 21 + 4) ++ v.cells.toList ++ (flatH l).drop (i * 21 + 4 + v.cells.toList.length) = flatH (l.set i { x with v := v }) := by
  obtain ⟨A, B, rfl, rfl⟩ := split_at h
  have e0 : (A ++ x :: B).set A.length { x with v := v } = A ++ { x with v := v } :: B := by simp
  have hA := flatH_len A
  rw [e0, flatH_app, flatH_app]
  show (flatH A ++ (x.cells.toList ++ flatH B)).take (A.length * 21 + 4) ++ v.cells.toList ++ (flatH A ++ (x.cells.toList ++ flatH B)).drop (A.length * 21 + 4 + 17) = flatH A ++ (({ x with v := v } : Hrd).cells.toList ++ flatH B)
  have hx : x.cells.toList = [.int .i64 x.port, .int .i64 x.cost, .bool x.up, .bool x.has] ++ x.v.cells.toList := rfl
  have hy : ({ x with v := v } : Hrd).cells.toList = [.int .i64 x.port, .int .i64 x.cost, .bool x.up, .bool x.has] ++ v.cells.toList := rfl
  have hV : x.v.cells.toList.length = 17 := rfl
  rw [hx, hy]
  generalize x.v.cells.toList = V at hV
  generalize v.cells.toList = V'
  rw [show flatH A ++ ([.int .i64 x.port, .int .i64 x.cost, .bool x.up, .bool x.has] ++ V ++ flatH B) = (flatH A ++ [.int .i64 x.port, .int .i64 x.cost, .bool x.up, .bool x.has]) ++ (V ++ flatH B) by simp,
    List.take_left' (by simp [hA]),
    show (flatH A ++ [.int .i64 x.port, .int .i64 x.cost, .bool x.up, .bool x.has]) ++ (V ++ flatH B) = (flatH A ++ [.int .i64 x.port, .int .i64 x.cost, .bool x.up, .bool x.has] ++ V) ++ flatH B by simp, List.drop_left' (by simp [hA, hV])]
  simp

/-- Two lists of the call's own, apart. -/
structure Two (w0 w : World) (v1 v2 : Value) (l1 l2 : List Hrd) : Prop where
  one : Lst w0 w v1 l1
  two : Lst w0 w v2 l2
  ap : ∀ k, Leads v1 k → ¬ Leads v2 k
theorem Lst.beside {w0 w w' : World} {v v2 : Value} {l l2 : List Hrd} (h : Lst w0 w v2 l2) (h1 : Lst w0 w v l) (hs : Step (Leads v) w w') (ap : ∀ k, Leads v k → ¬ Leads v2 k) : Lst w0 w' v2 l2 :=
  ⟨h.row.step hs fun k hk hk' => ap k hk' hk, h.new, h.fine, h.st.trans hs fun i hi hk => by have := h1.new i hk; omega⟩
theorem Two.swap {w0 w : World} {v1 v2 : Value} {l1 l2 : List Hrd} (h : Two w0 w v1 v2 l1 l2) : Two w0 w v2 v1 l2 l1 := ⟨h.two, h.one, fun k hk hk' => h.ap k hk' hk⟩
theorem Two.still {w0 w w' : World} {v1 v2 : Value} {l1 l2 : List Hrd} (h : Two w0 w v1 v2 l1 l2) (hs : Step None w w') : Two w0 w' v1 v2 l1 l2 := ⟨h.one.still hs, h.two.still hs, h.ap⟩
theorem Two.more {w0 w w' : World} {v1 v2 v' : Value} {l1 l2 : List Hrd} {x : Hrd} (h : Two w0 w v1 v2 l1 l2) (fx : x.v.fine) (hr : Row w' 52 21 v' (l1.length + 1) (flatH l1 ++ x.cells.toList)) (hs : Step (Leads v1) w w') (hl : ∀ k, Leads v' k → Leads v1 k ∨ w.heap.size ≤ k) : Two w0 w' v' v2 (l1 ++ [x]) l2 :=
  ⟨h.one.more fx hr hs hl, h.two.beside h.one hs h.ap, fun k hk hk' => by
    rcases hl k hk with h1 | h1
    · exact h.ap k h1 hk'
    · have := h.two.row.lt hk'; omega⟩
theorem Two.has {w0 w : World} {v2 : Value} {b off cap i : Nat} {l1 l2 : List Hrd} {x : Hrd} (h : Two w0 w (.slice (some ⟨b, off, none⟩) l1.length cap) v2 l1 l2) (hx : l1[i]? = some x) :
    Two w0 (w.setCell ⟨b, off + i * 21 + 3, none⟩ (.bool true)) (.slice (some ⟨b, off, none⟩) l1.length cap) v2 (l1.set i { x with has := true }) l2 ∧ Step (Leads (.slice (some ⟨b, off, none⟩) l1.length cap)) w (w.setCell ⟨b, off + i * 21 + 3, none⟩ (.bool true)) := by
  have hi := (List.getElem?_eq_some_iff.1 hx).1
  have hs : Step (Leads (.slice (some ⟨b, off, none⟩) l1.length cap)) w (w.setCells b (off + (i * 21 + 3)) [.bool true]) := step_setCells _ rfl
  have hr := row_setCells h.one.row (by omega) (i * 21 + 3) [.bool true] (by simp; omega)
  rw [flatH_has hx] at hr
  have e : w.setCells b (off + (i * 21 + 3)) [.bool true] = w.setCell ⟨b, off + i * 21 + 3, none⟩ (.bool true) := by rw [← Nat.add_assoc]; rfl
  rw [e] at hr hs
  refine ⟨⟨⟨by simpa using hr, h.one.new, fun y hy => ?_, h.one.st.trans hs fun k hk hk' => by have := h.one.new k hk'; omega⟩, h.two.beside h.one hs h.ap, h.ap⟩, hs⟩
  rcases List.mem_or_eq_of_mem_set hy with hy | rfl
  · exact h.one.fine y hy
  · exact h.one.fine x (List.mem_of_getElem? hx)
theorem Two.way {w0 w : World} {v2 : Value} {b off cap i : Nat} {l1 l2 : List Hrd} {x : Hrd} (h : Two w0 w (.slice (some ⟨b, off, none⟩) l1.length cap) v2 l1 l2) (hx : l1[i]? = some x) {v : Vec} (hv : v.fine) :
    Two w0 (w.setCells b (off + i * 21 + 4) v.cells.toList) (.slice (some ⟨b, off, none⟩) l1.length cap) v2 (l1.set i { x with v := v }) l2 ∧ Step (Leads (.slice (some ⟨b, off, none⟩) l1.length cap)) w (w.setCells b (off + i * 21 + 4) v.cells.toList) := by
  have hi := (List.getElem?_eq_some_iff.1 hx).1
  have hl : v.cells.toList.length = 17 := rfl
  have hs : Step (Leads (.slice (some ⟨b, off, none⟩) l1.length cap)) w (w.setCells b (off + (i * 21 + 4)) v.cells.toList) := step_setCells _ rfl
  have hr := row_setCells h.one.row (by omega) (i * 21 + 4) v.cells.toList (by rw [hl]; omega)
  rw [flatH_v hx] at hr
  rw [← Nat.add_assoc] at hr hs
  refine ⟨⟨⟨by simpa using hr, h.one.new, fun y hy => ?_, h.one.st.trans hs fun k hk hk' => by have := h.one.new k hk'; omega⟩, h.two.beside h.one hs h.ap, h.ap⟩, hs⟩
  rcases List.mem_or_eq_of_mem_set hy with hy | rfl
  · exact h.one.fine y hy
  · exact hv
/-- The slice's room. -/
theorem Lst.at_ {w0 w : World} {v : Value} {l : List Hrd} {i : Nat} {x : Hrd} (h : Lst w0 w v l) (hx : l[i]? = some x) : ∃ b off cap, v = .slice (some ⟨b, off, none⟩) l.length cap ∧ Leads v b ∧ (∀ j u, x.cells[j]? = some u → w.cell? ⟨b, off + i * 21 + j, none⟩ = some u) ∧ (∀ j, w.frozen? ⟨b, j, none⟩ = false) ∧ w.there b (off + i * 21 + 4) 17 := by
  have hi := (List.getElem?_eq_some_iff.1 hx).1
  obtain ⟨b, off, cap, rfl, -, -, hL, hc, hf⟩ := h.row.cells (by omega)
  have hcc : ∀ j u, x.cells[j]? = some u → w.cell? ⟨b, off + i * 21 + j, none⟩ = some u := fun j u hu => by
    rw [Nat.add_assoc]
    exact hc _ u (flatH_get l i j x u hx hu)
  refine ⟨b, off, cap, rfl, hL, hcc, hf, fun j hj => ⟨?_, hf _⟩⟩
  have hsz : x.cells.size = 21 := rfl
  have := hcc (4 + j) _ (Array.getElem?_eq_getElem (by omega))
  rw [Nat.add_assoc (off + i * 21) 4 j, this]
  rfl
theorem Ints.list {w0 w w' : World} {v : Value} {l : List Hrd} {ao : Option Addr} {xs : List Int} (h : Ints w ao xs) (hl : Lst w0 w v l) (hs : Step (Leads v) w w') : Ints w' ao xs :=
  h.step hs fun k hk cs fr hb => hl.row.ne hb (by decide) hk
end Go.Proofs.Ytehlaomippbehaa
