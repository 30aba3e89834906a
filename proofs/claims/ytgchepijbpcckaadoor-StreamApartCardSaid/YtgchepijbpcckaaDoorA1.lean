/- Stream, in plain words. -/
import Derived.Test.YtgchepijbpcckaaDoorK16
namespace Go.Proofs.YtgchepijbpcckaaDoor
open Go.RowKit Go.Gm

/-- A packet. -/
structure Pkt where
  ep : Int
  sq : Int
  ak : Int
  n : Note
def bare : Note := ⟨0, 0, 0, 0, 0, 0, 0, 0, 0, 0, []⟩
/-- What a stream knows. -/
structure Stm where
  ep : Int
  win : Int
  ws : List Note
  first : Int
  out : Int
  last : Int
  taken : Int
  due : Bool
namespace Stm
def newOk (ep win : Int) : Bool := decide (0 ≤ ep) && decide (ep ≤ 1073741824) && decide (1 ≤ win) && decide (win ≤ 100)
def start (ep win : Int) : Stm := ⟨ep, win, [], 1, 0, 0, 0, false⟩
def send (s : Stm) (n : Note) : Stm × Int :=
  if n.kind = 0 ∨ right n = false then (s, 2) else if 5000 ≤ s.ws.length ∨ 1073741824 ≤ s.first + s.ws.length then (s, 3) else ({ s with ws := s.ws ++ [n] }, 0)
def acked (s : Stm) (k : Int) : Stm :=
  if 0 < k - s.first + 1 ∧ k - s.first + 1 ≤ s.out then { s with ws := s.ws.drop (k - s.first + 1).toNat, out := s.out - (k - s.first + 1), first := s.first + (k - s.first + 1) } else s
def take (s : Stm) (p : Pkt) : Stm × Note × Bool × Int :=
  if okP p.ep p.sq p.ak p.n = false then (s, bare, false, 2) else if p.ep ≠ s.ep then (s, bare, false, 6) else if 0 < p.sq ∧ p.n.kind = 0 then (s, bare, false, 2) else
    if p.sq = 0 ∨ p.sq ≠ s.taken + 1 then ({ s.acked p.ak with due := s.due || decide (0 < p.sq) }, bare, false, 0) else ({ s.acked p.ak with due := true, taken := s.taken + 1 }, p.n, true, 0)
/-- The notes that wait, from a place to another one, as packets. -/
def pkts (s : Stm) (a b : Nat) : List Pkt := (List.range (b - a)).map fun i => ⟨s.ep, s.first + (a + i : Nat), s.taken, s.ws.getD (a + i) bare⟩
/-- From where to where a tick sends. -/
def span (s : Stm) (now : Int) : Int × Int :=
  if min (s.ws.length : Int) s.win ≤ s.out ∧ 3 ≤ now - s.last then (0, s.out) else (s.out, min (s.ws.length : Int) s.win)
def tick (s : Stm) (now : Int) : Stm × List Pkt × Int :=
  if now < 0 ∨ 1099511627776 < now then (s, [], 1) else
    let q := s.pkts (s.span now).1.toNat (s.span now).2.toNat
    if q ≠ [] then ({ s with out := max s.out (s.span now).2, last := now, due := false }, q, 0) else if s.due then ({ s with due := false }, [⟨s.ep, 0, s.taken, bare⟩], 0) else (s, [], 0)
theorem pkts_len (s : Stm) (a b : Nat) : (s.pkts a b).length = b - a := by simp [pkts]
/-- What always holds of a stream. -/
structure Ok (s : Stm) : Prop where
  epo : 0 ≤ s.ep ∧ s.ep ≤ 1073741824
  win : 1 ≤ s.win ∧ s.win ≤ 100
  out : 0 ≤ s.out ∧ s.out ≤ s.ws.length ∧ s.out ≤ 100
  first : 1 ≤ s.first
  sum : s.first + s.ws.length ≤ 1073741824 ∨ s.ws = [] ∧ s.first = 1
  len : s.ws.length ≤ 5000
  taken : 0 ≤ s.taken ∧ s.taken ≤ 1073741824
  last : 0 ≤ s.last ∧ s.last ≤ 1099511627776
  note : ∀ n ∈ s.ws, right n = true
theorem start_ok {ep win : Int} (h : newOk ep win = true) : (start ep win).Ok := by
  simp only [newOk, Bool.and_eq_true, decide_eq_true_eq] at h
  exact ⟨⟨h.1.1.1, h.1.1.2⟩, ⟨h.1.2, h.2⟩, ⟨Int.le_refl _, by simp [start], by simp [start]⟩, Int.le_refl _, .inr ⟨rfl, rfl⟩, by simp [start], ⟨Int.le_refl _, by simp [start]⟩, ⟨Int.le_refl _, by simp [start]⟩, by simp [start]⟩
theorem send_ok {s : Stm} (h : s.Ok) (n : Note) : (s.send n).1.Ok := by
  unfold send
  split
  · exact h
  · rename_i hk
    split
    · exact h
    · rename_i hf
      refine ⟨h.epo, h.win, ⟨h.out.1, ?_, h.out.2.2⟩, h.first, .inl ?_, ?_, h.taken, h.last, fun m hm => ?_⟩
      · have := h.out.2.1; simp only [List.length_append, List.length_cons, List.length_nil]; omega
      · simp only [List.length_append, List.length_cons, List.length_nil]; omega
      · simp only [List.length_append, List.length_cons, List.length_nil]; omega
      · rcases List.mem_append.1 hm with hm | hm
        · exact h.note m hm
        · simp at hm; subst hm
          cases hr : right m
          · exact absurd (.inr hr) hk
          · rfl
theorem acked_ok {s : Stm} (h : s.Ok) (k : Int) : (s.acked k).Ok := by
  unfold acked
  split
  · rename_i hk
    have h1 := h.out
    have h2 := h.sum
    have h3 := h.len
    have h4 := h.first
    refine ⟨h.epo, h.win, ⟨by show 0 ≤ s.out - _; omega, ?_, by show s.out - _ ≤ 100; omega⟩, by show 1 ≤ s.first + _; omega, .inl ?_, ?_, h.taken, h.last, fun n hn => h.note n (List.mem_of_mem_drop hn)⟩
    · show s.out - _ ≤ ((s.ws.drop _).length : Int)
      rw [List.length_drop]; omega
    · show s.first + _ + ((s.ws.drop _).length : Int) ≤ _
      rw [List.length_drop]
      rcases h2 with h2 | ⟨h2, h5⟩
      · omega
      · rw [h2] at h1; simp at h1; omega
    · show (s.ws.drop _).length ≤ 5000
      rw [List.length_drop]; omega
  · exact h
theorem right_len {n : Note} (h : right n = true) : n.body.length ≤ 1600 := by
  obtain ⟨k, hk, -, -⟩ := right_kind h
  exact (right_range n k hk h).2.2.2
theorem acked_len (s : Stm) (k : Int) : (s.acked k).ws.length ≤ s.ws.length := by
  unfold acked
  split
  · show (s.ws.drop _).length ≤ _
    rw [List.length_drop]; omega
  · exact Nat.le_refl _
theorem due_ok {s : Stm} (h : s.Ok) (d : Bool) (t : Int) (ht : 0 ≤ t ∧ t ≤ 1073741824) : ({ s with due := d, taken := t } : Stm).Ok := ⟨h.epo, h.win, h.out, h.first, h.sum, h.len, ht, h.last, h.note⟩
theorem take_ok {s : Stm} (h : s.Ok) (p : Pkt) : (s.take p).1.Ok := by
  unfold take
  split
  · exact h
  · rename_i hp
    split
    · exact h
    · split
      · exact h
      · have ha := acked_ok h p.ak
        have ht : (s.acked p.ak).taken = s.taken := by unfold acked; split <;> rfl
        split
        · exact ⟨ha.epo, ha.win, ha.out, ha.first, ha.sum, ha.len, by rw [show ({ s.acked p.ak with due := s.due || decide (0 < p.sq) } : Stm).taken = s.taken from ht]; exact h.taken, ha.last, ha.note⟩
        · rename_i hq
          have hb := okP_parts (show okP p.ep p.sq p.ak p.n = true by simpa using hp)
          exact due_ok ha true (s.taken + 1) (by have := h.taken; omega)
theorem span_le {s : Stm} (h : s.Ok) (now : Int) : 0 ≤ (s.span now).1 ∧ 0 ≤ (s.span now).2 ∧ (s.span now).2 ≤ s.ws.length ∧ (s.span now).2 ≤ 100 := by
  have h1 := h.out
  have h2 := h.win
  unfold span
  split <;> simp only <;> omega
theorem tick_ok {s : Stm} (h : s.Ok) (now : Int) : (s.tick now).1.Ok := by
  unfold tick
  split
  · exact h
  · rename_i hn
    have h1 := h.out
    have h2 := span_le h now
    simp only
    split
    · exact ⟨h.epo, h.win, ⟨by show 0 ≤ max s.out _; omega, by show max s.out _ ≤ (s.ws.length : Int); omega, by show max s.out _ ≤ 100; omega⟩, h.first, h.sum, h.len, h.taken, by show 0 ≤ now ∧ now ≤ 1099511627776; omega, h.note⟩
    · split
      · exact ⟨h.epo, h.win, h.out, h.first, h.sum, h.len, h.taken, h.last, h.note⟩
      · exact h
end Stm
end Go.Proofs.YtgchepijbpcckaaDoor
