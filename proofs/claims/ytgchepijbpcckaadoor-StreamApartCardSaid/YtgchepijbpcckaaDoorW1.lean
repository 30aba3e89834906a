/- New; bytes.Clone. -/
import Derived.Test.YtgchepijbpcckaaDoorA1
namespace Go.Proofs.YtgchepijbpcckaaDoor
open Go.RowKit Go.Gm

/-- A body of the call's own: nil, or a row of bytes. -/
def Own5 (w : World) (v : Value) (l : List Int) : Prop := Row w 5 1 v l.length (l.map (.int .u8))
theorem Own5.nil (w : World) : Own5 w (.slice none 0 0) [] := Row.nil _ _ _
theorem Own5.step {S : Nat → Prop} {w w' : World} {v : Value} {l : List Int} (h : Own5 w v l) (hs : Step S w w') (hS : ∀ k, S k → ∀ cs fr, w.heap[k]? ≠ some (.cells cs 5 fr)) : Own5 w' v l := Row.step h hs fun k hk hk' => by
  obtain ⟨cur, hc⟩ := Row.typed h hk
  exact hS k hk' _ _ hc
theorem Own5.bytes {w : World} {v : Value} {l : List Int} (h : Own5 w v l) (hl : l.length ≤ 140737488355328) : Bytes w v l := Row.bytes h hl

theorem clone_nil (w : World) : Calls Tryd.prog 25 #[.slice none 0 0] w fun e w' => e = .returned (.slice none 0 0) ∧ w = w' := by
  have hq : ∀ w, (binOp BinOp.eql 34 (.slice none 0 0) (.slice none 0 0)).run Tryd.prog w = .ok (.bool true) w := fun w => by kernel_rfl
  go_enter Tryd.func25, Tryd.ntmps25
  go_wp2_with fail
  go_ret
  exact ⟨rfl, rfl⟩
set_option maxHeartbeats 1000000 in
theorem clone_some (a : Addr) (cap : Nat) (l : List Int) (w : World) (hb : Bytes w (.slice (some a) l.length cap) l) (hl : l.length ≤ 100000) :
    Calls Tryd.prog 25 #[.slice (some a) l.length cap] w fun e w' => ∃ u, e = .returned u ∧ Own5 w' u l ∧ Step None w w' ∧ ∀ k, Leads u k → w.heap.size ≤ k := by
  have hrow0 : Row (w.alloc (.cells #[] 5)) 5 1 (.slice (some ⟨w.heap.size, 0, none⟩) 0 0) 0 [] := Row.ofBlock (n := 0) (cap := 0) (heap_alloc_new w (.cells #[] 5)) (Nat.le_refl _) (by simp [maxLen]) (by simp)
  have sa := (Step.refl None w).alloc (.cells #[] 5)
  have src := (hb.step sa (fun _ _ s => s.elim)).src Tryd.underlying34
  obtain ⟨W, hW⟩ : ∃ W, w.alloc (.cells #[] 5) = W := ⟨_, rfl⟩
  have hsz : W.heap.size = w.heap.size + 1 := by rw [← hW]; simp
  rw [hW] at hrow0 sa src
  have R0 := Lib.hid hrow0
  have HE := Lib.hid hW
  have SRC := Lib.hid src
  have SA := Lib.hid sa
  have HL := Lib.hid hl
  have HZ := Lib.hid hsz
  have hq : ∀ w, (binOp BinOp.eql 34 (.slice (some a) l.length cap) (.slice none 0 0)).run Tryd.prog w = .ok (.bool false) w := fun w => by kernel_rfl
  clear hrow0 sa src hW hb hl hsz
  go_enter Tryd.func25, Tryd.ntmps25
  go_wp2_with (first
    | rw [HE.out]
    | (at_builtin; refine wpList_append_row T24 rfl (.tmp 5) (.tmp 6) rfl rfl R0.out rfl SRC.out ?ha ?hb ?_))
  case ha => have := HL.out; simp [maxLen]; omega
  case hb => have := HL.out; simp; omega
  intro v1 w1 r1 s1 l1
  have lead : ∀ k, Leads (.slice (some ⟨w.heap.size, 0, none⟩) 0 0) k → k = w.heap.size := fun k hk => by simp [Leads, Value.ownBlock] at hk; exact hk.symm
  have O := Lib.hid (show Own5 w1 v1 l by simpa [Own5] using r1)
  have ST := Lib.hid (SA.out.trans s1 fun i hi hk => by have := lead i hk; omega)
  have NW : Hid (∀ k, Leads v1 k → w.heap.size ≤ k) := Lib.hid fun k hk => by
    rcases l1 k hk with h | h
    · have := lead k h; omega
    · have := HZ.out; omega
  clear r1 s1 l1 lead
  go_wp2_with fail
  go_ret
  exact ⟨_, rfl, O.out, ST.out, NW.out⟩

def Stm.cells (s : Stm) (v : Value) : Array Value := #[.int .i64 s.ep, .int .i64 s.win, v, .int .i64 s.first, .int .i64 s.out, .int .i64 s.last, .int .i64 s.taken, .bool s.due]
set_option maxHeartbeats 1000000 in
theorem new_ok (ep win : Int) (w : World) (h : Stm.newOk ep win = true) : Calls Tryd.prog 8 #[.int .i64 ep, .int .i64 win] w fun e w' => e = .returned (.tuple #[.pointer (some ⟨w.heap.size, 0, none⟩), .int .i64 0]) ∧ w'.heap[w.heap.size]? = some (.cells ((Stm.start ep win).cells (.slice none 0 0)) 66 (0, 0)) ∧ Step None w w' := by
  simp only [Stm.newOk, Bool.and_eq_true, decide_eq_true_eq] at h
  obtain ⟨⟨⟨h1, h2⟩, h3⟩, h4⟩ := h
  have d1 : decide (ep < 0) = false := decide_eq_false (by omega)
  have d2 : decide (1073741824 < ep) = false := decide_eq_false (by omega)
  have d3 : decide (win < 1) = false := decide_eq_false (by omega)
  have d4 : decide (100 < win) = false := decide_eq_false (by omega)
  have p := heap_alloc_new w (.cells ((Stm.start ep win).cells (.slice none 0 0)) 66)
  have sa := (Step.refl None w).alloc (.cells ((Stm.start ep win).cells (.slice none 0 0)) 66)
  have P := Lib.hid p
  have SA := Lib.hid sa
  clear h1 h2 h3 h4 p sa
  go_enter Tryd.func8, Tryd.ntmps8
  go_wp2_with fail
  go_ret2
  exact ⟨rfl, P.out, SA.out⟩
set_option maxHeartbeats 1000000 in
theorem new_bad (ep win : Int) (w : World) (h : Stm.newOk ep win = false) : Calls Tryd.prog 8 #[.int .i64 ep, .int .i64 win] w fun e w' => e = .returned (.tuple #[.pointer none, .int .i64 1]) ∧ w = w' := by
  have h' : decide (ep < 0) = true ∨ decide (1073741824 < ep) = true ∨ decide (win < 1) = true ∨ decide (100 < win) = true := by
    by_cases a : ep < 0
    · simp [a]
    by_cases b : 1073741824 < ep
    · simp [b]
    by_cases c : win < 1
    · simp [c]
    by_cases d : 100 < win
    · simp [d]
    · exfalso
      simp [Stm.newOk] at h
      omega
  clear h
  go_enter Tryd.func8, Tryd.ntmps8
  cases a : decide (ep < 0)
  rotate_left
  · go_wp2_with fail
    go_ret2
    exact ⟨rfl, rfl⟩
  cases b : decide (1073741824 < ep)
  rotate_left
  · go_wp2_with fail
    go_ret2
    exact ⟨rfl, rfl⟩
  cases c : decide (win < 1)
  rotate_left
  · go_wp2_with fail
    go_ret2
    exact ⟨rfl, rfl⟩
  cases d : decide (100 < win)
  rotate_left
  · go_wp2_with fail
    go_ret2
    exact ⟨rfl, rfl⟩
  simp [a, b, c, d] at h'
end Go.Proofs.YtgchepijbpcckaaDoor
