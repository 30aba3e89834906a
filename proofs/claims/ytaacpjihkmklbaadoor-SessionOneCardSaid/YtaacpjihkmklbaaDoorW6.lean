/- New, Hello and awake. -/
import Derived.Test.YtaacpjihkmklbaaDoorW5
namespace Go.Proofs.YtaacpjihkmklbaaDoor
open Go.RowKit Go.Gm

theorem step_setRow {S : Nat → Prop} {a w : World} (h : Step S a w) {g : Nat} (hg : g < a.heap.size → S g) (cs : Array Value) : Step S a (w.setRow g cs) :=
  ⟨h.os, h.tape, h.output, by rw [setRow_size]; exact h.size, fun k hk hn => (setRow_other w g k cs (fun e => hn (by subst e; exact hg hk))).trans (h.block k hk hn)⟩
def newOk (id prio life : Int) : Prop := (0 ≤ id ∧ id ≤ 1) ∧ (0 ≤ prio ∧ prio ≤ 1000) ∧ (1 ≤ life ∧ life ≤ 536870912)
instance (id prio life : Int) : Decidable (newOk id prio life) := inferInstanceAs (Decidable (_ ∧ _))
def ses0 (id prio life : Int) : Ses := ⟨id, prio, life, 0, false, 0, 0, 0, 0⟩
theorem ses0_ok {id prio life : Int} (h : newOk id prio life) : (ses0 id prio life).Ok := by
  obtain ⟨h1, h2, h3⟩ := h
  exact ⟨by show id = 0 ∨ id = 1; omega, h2, h3, ⟨show (0 : Int) ≤ 0 by omega, show (0 : Int) ≤ 536870912 by omega⟩, ⟨show (0 : Int) ≤ 0 by omega, show (0 : Int) ≤ 2 by omega⟩, ⟨show (0 : Int) ≤ 0 by omega, show (0 : Int) ≤ 2 by omega⟩, ⟨show (0 : Int) ≤ 0 by omega, show (0 : Int) ≤ 1099511627776 by omega⟩, ⟨show (0 : Int) ≤ 0 by omega, show (0 : Int) ≤ 1099511627776 by omega⟩⟩

set_option maxHeartbeats 2000000 in
theorem new_ok (id prio life : Int) (w : World) (h : newOk id prio life) : Calls Tryd.prog 9 #[.int .i64 id, .int .i64 prio, .int .i64 life] w fun e w' => e = .returned (.tuple #[.pointer (some ⟨w.heap.size, 0, none⟩), .int .i64 0]) ∧ w'.heap[w.heap.size]? = some (.cells ((ses0 id prio life).cells 0) 63 (0, 0)) ∧ Step None w w' := by
  obtain ⟨h1, h2, h3⟩ := h
  have d1 : decide (id < 0) = false := by simp; omega
  have d2 : decide (1 < id) = false := by simp; omega
  have d3 : decide (prio < 0) = false := by simp; omega
  have d4 : decide (1000 < prio) = false := by simp; omega
  have d5 : decide (life < 1) = false := by simp; omega
  have d6 : decide (536870912 < life) = false := by simp; omega
  have hw : wrap64 (1 - id) = 1 - id := by unfold wrap64; omega
  have hw2 : IntKind.i64.wrap (1 - id) = 1 - id := by rw [IntWalk.i64_in _ (by omega)]
  have p := heap_alloc_new w (.cells ((ses0 id prio life).cells 0) 63)
  have sa := (Step.refl None w).alloc (.cells ((ses0 id prio life).cells 0) 63)
  have P := Lib.hid p
  have SA := Lib.hid sa
  clear h1 h2 h3 p sa
  go_enter Tryd.func9, Tryd.ntmps9
  go_wp2_with fail
  go_ret2
  exact ⟨rfl, P.out, SA.out⟩

set_option maxHeartbeats 2000000 in
theorem new_bad (id prio life : Int) (w : World) (h : ¬ newOk id prio life) : Calls Tryd.prog 9 #[.int .i64 id, .int .i64 prio, .int .i64 life] w fun e w' => e = .returned (.tuple #[.pointer none, .int .i64 1]) ∧ w = w' := by
  have h' : id < 0 ∨ 1 < id ∨ prio < 0 ∨ 1000 < prio ∨ life < 1 ∨ 536870912 < life := by unfold newOk at h; omega
  clear h
  go_enter Tryd.func9, Tryd.ntmps9
  cases d1 : decide (id < 0)
  · cases d2 : decide (1 < id)
    · cases d3 : decide (prio < 0)
      · cases d4 : decide (1000 < prio)
        · cases d5 : decide (life < 1)
          · have d6 : decide (536870912 < life) = true := by simp at d1 d2 d3 d4 d5 ⊢; omega
            clear h'
            go_wp2_with fail
            go_ret2
            exact ⟨rfl, rfl⟩
          · clear h'
            go_wp2_with fail
            go_ret2
            exact ⟨rfl, rfl⟩
        · clear h'
          go_wp2_with fail
          go_ret2
          exact ⟨rfl, rfl⟩
      · clear h'
        go_wp2_with fail
        go_ret2
        exact ⟨rfl, rfl⟩
    · clear h'
      go_wp2_with fail
      go_ret2
      exact ⟨rfl, rfl⟩
  · clear h'
    go_wp2_with fail
    go_ret2
    exact ⟨rfl, rfl⟩

set_option maxHeartbeats 2000000 in
theorem rnew_ok (id prio life : Int) (w : World) (h : newOk id prio life) : Calls Tryd.prog 19 #[.int .i64 id, .int .i64 prio, .int .i64 life] w fun e w' => e = .returned (.tuple #[.pointer (some ⟨w.heap.size, 0, none⟩), .int .i64 0]) ∧ w'.heap[w.heap.size]? = some (.cells ((ses0 id prio life).rcells) 58 (0, 0)) ∧ Step None w w' := by
  obtain ⟨h1, h2, h3⟩ := h
  have d1 : decide (id < 0) = false := by simp; omega
  have d2 : decide (1 < id) = false := by simp; omega
  have d3 : decide (prio < 0) = false := by simp; omega
  have d4 : decide (1000 < prio) = false := by simp; omega
  have d5 : decide (life < 1) = false := by simp; omega
  have d6 : decide (536870912 < life) = false := by simp; omega
  have hw : wrap64 (1 - id) = 1 - id := by unfold wrap64; omega
  have hw2 : IntKind.i64.wrap (1 - id) = 1 - id := by rw [IntWalk.i64_in _ (by omega)]
  have p := heap_alloc_new w (.cells ((ses0 id prio life).rcells) 58)
  have sa := (Step.refl None w).alloc (.cells ((ses0 id prio life).rcells) 58)
  have P := Lib.hid p
  have SA := Lib.hid sa
  clear h1 h2 h3 p sa
  go_enter Tryd.func19, Tryd.ntmps19
  go_wp2_with fail
  go_ret2
  exact ⟨rfl, P.out, SA.out⟩

set_option maxHeartbeats 2000000 in
theorem rnew_bad (id prio life : Int) (w : World) (h : ¬ newOk id prio life) : Calls Tryd.prog 19 #[.int .i64 id, .int .i64 prio, .int .i64 life] w fun e w' => e = .returned (.tuple #[.pointer none, .int .i64 1]) ∧ w = w' := by
  have h' : id < 0 ∨ 1 < id ∨ prio < 0 ∨ 1000 < prio ∨ life < 1 ∨ 536870912 < life := by unfold newOk at h; omega
  clear h
  go_enter Tryd.func19, Tryd.ntmps19
  cases d1 : decide (id < 0)
  · cases d2 : decide (1 < id)
    · cases d3 : decide (prio < 0)
      · cases d4 : decide (1000 < prio)
        · cases d5 : decide (life < 1)
          · have d6 : decide (536870912 < life) = true := by simp at d1 d2 d3 d4 d5 ⊢; omega
            clear h'
            go_wp2_with fail
            go_ret2
            exact ⟨rfl, rfl⟩
          · clear h'
            go_wp2_with fail
            go_ret2
            exact ⟨rfl, rfl⟩
        · clear h'
          go_wp2_with fail
          go_ret2
          exact ⟨rfl, rfl⟩
      · clear h'
        go_wp2_with fail
        go_ret2
        exact ⟨rfl, rfl⟩
    · clear h'
      go_wp2_with fail
      go_ret2
      exact ⟨rfl, rfl⟩
  · clear h'
    go_wp2_with fail
    go_ret2
    exact ⟨rfl, rfl⟩

/-- What a session says to the other one. -/
def Ses.note (s : Ses) : Note := ⟨6, 0, 0, 0, 0, 0, 0, 0, s.prio, s.claim, []⟩
theorem hello_ok {s : Ses} (h : s.Ok) : helB s.life 0 s.known (Ses.note s) = true := by
  obtain ⟨-, h2, h3, h4, -, h6, -, -⟩ := h
  have e : right (Ses.note s) = (true && ((((true && true) && isIn s.prio 0 1000) && isIn s.claim 0 2) && true)) := by kernel_rfl
  have i1 : isIn s.prio 0 1000 = true := by simp [isIn, h2]
  have i2 : isIn s.claim 0 2 = true := by simp [isIn, h6]
  have n1 : num s.life = true := by simp [num, isIn]; omega
  have n2 : num s.known = true := by simp [num, isIn]; omega
  have n3 : num 0 = true := by decide
  unfold helB okP
  rw [e, i1, i2, n1, n2, n3]
  simp only [Ses.note, Bool.and_true, Bool.true_and, beq_self_eq_true, Bool.and_eq_true, decide_eq_true_eq]
  omega

set_option maxHeartbeats 4000000 in
theorem say_any (g : Nat) (s : Ses) (op : Int) (w : World) (h : w.heap[g]? = some (.cells (s.cells op) 63 (0, 0))) : Calls Tryd.prog 11 #[.pointer (some ⟨g, 0, none⟩)] w fun e w' => e = .returned (.agg (Note.packet (Ses.note s) s.life 0 s.known (.slice none 0 0))) ∧ Step None w w' := by
  have p1 := heap_alloc_new w (.cells #[.int .i64 0, .int .i64 0, .int .i64 0, .int .i64 0, .int .i64 0, .int .u8 0, .int .u8 0, .int .u8 0, .int .u8 0, .int .u8 0, .int .u8 0, .int .i64 0, .int .i64 0, .slice none 0 0] 36)
  have s1 := (Step.refl None w).alloc (.cells #[.int .i64 0, .int .i64 0, .int .i64 0, .int .i64 0, .int .i64 0, .int .u8 0, .int .u8 0, .int .u8 0, .int .u8 0, .int .u8 0, .int .u8 0, .int .i64 0, .int .i64 0, .slice none 0 0] 36)
  obtain ⟨W, hW⟩ : ∃ W, w.alloc (.cells #[.int .i64 0, .int .i64 0, .int .i64 0, .int .i64 0, .int .i64 0, .int .u8 0, .int .u8 0, .int .u8 0, .int .u8 0, .int .u8 0, .int .u8 0, .int .i64 0, .int .i64 0, .slice none 0 0] 36) = W := ⟨_, rfl⟩
  rw [hW] at p1 s1
  have k := SC.of (s1.blk h (fun s => s.elim))
  have HE := Lib.hid hW
  have P1 := Lib.hid p1
  have S1 := Lib.hid s1
  have k4 := k.c4
  have k5 := k.c5
  have k0 := k.c0
  have k8 := k.c8
  clear hW p1 s1 h k
  go_enter Tryd.func11, Tryd.ntmps11
  go_wp2_with (rw [HE.out])
  refine wp_region_plan (fun w' => w'.cell? ⟨g, 4, none⟩ = some (.int .i64 s.life) ∧ w'.cell? ⟨g, 5, none⟩ = some (.int .i64 s.known) ∧ w'.cell? ⟨g, 0, none⟩ = some (.int .i64 s.prio) ∧ w'.cell? ⟨g, 8, none⟩ = some (.int .i64 s.claim)) (.take 0 (.take 1 (.take 2 (.take 3 (.take 4 (.take 5 (.take 6 (.take 7 (.take 8 (.take 9 (.take 10 (.take 11 (.take 12 (.take 13 (.take 14 (.take 15 (.take 16 (.take 17 (.take 18 (.last 19)))))))))))))))))))) _
    (by simp only [Plan.map, opOf, List.getElem?_toArray, List.getElem?_cons_zero, List.getElem?_cons_succ, Option.getD_some]; rfl) (by kernel_rfl) (by kernel_rfl) (by kernel_rfl) (by decide) (by intro c a d v w; cases d <;> exact fun h => h) ⟨k4, k5, k0, k8⟩ ?_
  repeat (first | (refine wpPlan.taken (by rfl) (by intro w' hS'; (try dsimp only at hS'); go_split_ands; go_simp; try with_reducible rfl) ?_; simp only [Act.put, List.setIfInBounds_toArray, List.set_cons_zero, List.set_cons_succ]) | (refine wpPlan.passed (by rfl) ?_; simp only [Act.put, List.setIfInBounds_toArray, List.set_cons_zero, List.set_cons_succ]))
  refine wpPlan.ends fun K' hK => ?_
  rw [if_pos (by rfl)]
  refine wp_store_row 36 (.tmp 2) (.tmp 21) rfl w.heap.size #[.int .i64 s.life, .int .i64 0, .int .i64 s.known, .int .i64 6, .int .i64 0, .int .u8 0, .int .u8 0, .int .u8 0, .int .u8 0, .int .u8 0, .int .u8 0, .int .i64 s.prio, .int .i64 s.claim, .slice none 0 0] rfl rfl 36 #[.int .i64 0, .int .i64 0, .int .i64 0, .int .i64 0, .int .i64 0, .int .u8 0, .int .u8 0, .int .u8 0, .int .u8 0, .int .u8 0, .int .u8 0, .int .i64 0, .int .i64 0, .slice none 0 0] (by exact P1.out) (by kernel_rfl) rfl (by simp [Value.oneCell']) (hK.out _ _ ?_)
  clear hK K'
  go_wp2_with fail
  (try simp only [Exit.inBlock, Exit.then])
  refine bodyPost_ret (results_cell_row (P := Tryd.prog) (fn := Tryd.f11) rfl _ _ w.heap.size 36 #[.int .i64 s.life, .int .i64 0, .int .i64 s.known, .int .i64 6, .int .i64 0, .int .u8 0, .int .u8 0, .int .u8 0, .int .u8 0, .int .u8 0, .int .u8 0, .int .i64 s.prio, .int .i64 s.claim, .slice none 0 0] (0, 0) _ rfl (setRow_heap _ _ _ _ _ _ (by exact P1.out)) Tryd.underlying36 rfl (by kernel_rfl)) rfl ?_
  exact ⟨rfl, step_setRow S1.out.drew (fun h => by omega) _⟩
end Go.Proofs.YtaacpjihkmklbaaDoor
