/- What one of two knows of the other one, and what it does: plain. Of no program. -/
import Derived.Test.YtaacpjihkmklbaaDoorLex
namespace Go.Gm

structure Ses where
  id : Int
  prio : Int
  life : Int
  known : Int
  up : Bool
  role : Int
  claim : Int
  link : Int
  beat : Int

def mom (n : Int) : Bool := decide (0 ≤ n) && decide (n ≤ 1099511627776)
namespace Ses
def fresh (s : Ses) : Ses := { s with up := false, claim := s.role, life := min (s.life + 1) 536870912 }
def first (s : Ses) (prio : Int) : Bool := decide (s.prio < prio) || (s.prio == prio && s.id == 0)
/-- What is known, when something is heard. -/
def heard (s : Ses) (ep now : Int) : Ses :=
  let t := { s with link := now }
  { (if decide (t.known < ep) && t.up then t.fresh else t) with known := ep }
def meet (s : Ses) (port state : Int) : Ses := { s with up := true, role := if decide (state < s.claim) || (s.claim == state && s.first port) then 2 else 1 }
def take (s : Ses) (hel : Bool) (ep ack port state now : Int) : Bool × Int × Ses :=
  if mom now then
    if hel then
      if ep < s.known then (false, 6, s)
      else if ack ≠ (s.heard ep now).life ∨ (s.heard ep now).up = true ∨ (s.heard ep now).life = 536870912 then (false, 0, s.heard ep now)
      else (true, 0, (s.heard ep now).meet port state)
    else (false, 2, s)
  else (false, 1, s)
def tick (s : Ses) (now : Int) : Bool × Int × Ses :=
  if mom now then
    if 6 ≤ now - s.link then
      if s.up then (true, 0, s.fresh)
      else if 6 ≤ now - s.beat ∧ s.role ≠ 2 then (false, 0, ({ s with role := 2 } : Ses).fresh)
      else (false, 0, s)
    else (false, 0, s)
  else (false, 1, s)
def seen (s : Ses) (now : Int) : Int × Ses := if mom now then (0, { s with link := now }) else (1, s)
def alive (s : Ses) (now : Int) : Int × Ses := if mom now then (0, { s with beat := now }) else (1, s)
def epoch (s : Ses) : Int := if s.up then s.life + s.known else 0

structure Ok (s : Ses) : Prop where
  id : s.id = 0 ∨ s.id = 1
  prio : 0 ≤ s.prio ∧ s.prio ≤ 1000
  life : 1 ≤ s.life ∧ s.life ≤ 536870912
  known : 0 ≤ s.known ∧ s.known ≤ 536870912
  role : 0 ≤ s.role ∧ s.role ≤ 2
  claim : 0 ≤ s.claim ∧ s.claim ≤ 2
  link : 0 ≤ s.link ∧ s.link ≤ 1099511627776
  beat : 0 ≤ s.beat ∧ s.beat ≤ 1099511627776

theorem Ok.fresh {s : Ses} (h : s.Ok) : s.fresh.Ok := by
  obtain ⟨h1, h2, h3, h4, h5, h6, h7, h8⟩ := h
  exact ⟨h1, h2, by show 1 ≤ min (s.life + 1) 536870912 ∧ min (s.life + 1) 536870912 ≤ 536870912; omega, h4, h5, h5, h7, h8⟩
theorem Ok.heard {s : Ses} (h : s.Ok) {ep now : Int} (he : 0 ≤ ep ∧ ep ≤ 536870912) (hn : mom now = true) : (s.heard ep now).Ok := by
  simp only [mom, Bool.and_eq_true, decide_eq_true_eq] at hn
  have h0 : ({ s with link := now } : Ses).Ok := ⟨h.id, h.prio, h.life, h.known, h.role, h.claim, hn, h.beat⟩
  unfold Ses.heard
  simp only
  split
  · have h1 := h0.fresh
    exact ⟨h1.id, h1.prio, h1.life, he, h1.role, h1.claim, h1.link, h1.beat⟩
  · exact ⟨h0.id, h0.prio, h0.life, he, h0.role, h0.claim, h0.link, h0.beat⟩
theorem Ok.meet {s : Ses} (h : s.Ok) (port state : Int) : (s.meet port state).Ok :=
  ⟨h.id, h.prio, h.life, h.known, by unfold Ses.meet; simp only; split <;> omega, h.claim, h.link, h.beat⟩
theorem Ok.take {s : Ses} (h : s.Ok) {hel : Bool} {ep : Int} (he : hel = true → 1 ≤ ep ∧ ep ≤ 536870912) (ack port state now : Int) : (s.take hel ep ack port state now).2.2.Ok := by
  unfold Ses.take
  split
  · rename_i hm
    split
    · rename_i hh
      have he := he hh
      split
      · exact h
      · have h1 := h.heard (ep := ep) (now := now) ⟨by omega, he.2⟩ hm
        split
        · exact h1
        · exact h1.meet _ _
    · exact h
  · exact h
theorem Ok.tick {s : Ses} (h : s.Ok) (now : Int) : (s.tick now).2.2.Ok := by
  unfold Ses.tick
  split
  · split
    · split
      · exact h.fresh
      · split
        · have : ({ s with role := 2 } : Ses).Ok := ⟨h.id, h.prio, h.life, h.known, ⟨show (0 : Int) ≤ 2 by omega, show (2 : Int) ≤ 2 by omega⟩, h.claim, h.link, h.beat⟩
          exact this.fresh
        · exact h
    · exact h
  · exact h
theorem Ok.seen {s : Ses} (h : s.Ok) (now : Int) : (s.seen now).2.Ok := by
  unfold Ses.seen
  split
  · rename_i hm
    simp only [mom, Bool.and_eq_true, decide_eq_true_eq] at hm
    exact ⟨h.id, h.prio, h.life, h.known, h.role, h.claim, hm, h.beat⟩
  · exact h
theorem Ok.alive {s : Ses} (h : s.Ok) (now : Int) : (s.alive now).2.Ok := by
  unfold Ses.alive
  split
  · rename_i hm
    simp only [mom, Bool.and_eq_true, decide_eq_true_eq] at hm
    exact ⟨h.id, h.prio, h.life, h.known, h.role, h.claim, h.link, hm⟩
  · exact h
end Ses
end Go.Gm
