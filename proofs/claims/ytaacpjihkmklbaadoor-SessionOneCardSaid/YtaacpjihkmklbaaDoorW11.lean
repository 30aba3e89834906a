/- Two meet: plain; and the two of them together. -/
import Derived.Test.YtaacpjihkmklbaaDoorW10
namespace Go.Proofs.YtaacpjihkmklbaaDoor
open Go.RowKit Go.Gm

def joined (a b : Ses) (now : Int) : Ses := ({ a with link := now, known := b.life } : Ses).meet b.prio b.claim
def told (b a : Ses) (now : Int) : Ses := { b with link := now, known := a.life }
/-- Neither is up, and neither knows of the other one's life. -/
structure Far (a b : Ses) : Prop where
  oka : a.Ok
  okb : b.Ok
  upa : a.up = false
  upb : b.up = false
  ka : a.known < b.life
  kb : b.known < a.life
  la : a.life < 536870912
  lb : b.life < 536870912
  bta : a.beat = 0
  btb : b.beat = 0
theorem hears_told {a b : Ses} {now : Int} (h : Far a b) (hn : mom now = true) : b.hears a now = (false, 0, told b a now) := by
  have h1 := h.kb
  have h2 := h.ka
  simp only [Ses.hears, Ses.take, Ses.heard, hn, h.upb, if_true, Bool.and_false, Bool.false_eq_true, if_false]
  rw [if_neg (by omega), if_pos (.inl (by show a.known ≠ b.life; omega))]
  simp [told, h.upb]
theorem hears_up {a c : Ses} {now : Int} (hn : mom now = true) (hu : a.up = false) (hk : a.known ≤ c.life) (hl : a.life < 536870912) (hc : c.known = a.life) : a.hears c now = (true, 0, joined a c now) := by
  simp only [Ses.hears, Ses.take, Ses.heard, hn, hu, if_true, Bool.and_false, Bool.false_eq_true, if_false]
  rw [if_neg (by omega), if_neg]
  · rfl
  · rintro (e | e | e)
    · exact e hc
    · exact absurd e (by simp)
    · have e' : a.life = 536870912 := e
      omega
theorem hears_link {a c : Ses} {now : Int} (hn : mom now = true) (hu : a.up = true) (hk : a.known = c.life) : a.hears c now = (false, 0, { a with link := now }) := by
  have : decide (a.known < c.life) = false := by simp; omega
  simp only [Ses.hears, Ses.take, Ses.heard, hn, hu, if_true, this, Bool.false_and, Bool.false_eq_true, if_false]
  rw [if_neg (by omega), if_pos (.inr (.inl trivial)), hk, ← hk]
theorem meet1 {a b : Ses} {now : Int} (h : Far a b) (hn : mom now = true) : a.hears (told b a now) now = (true, 0, joined a b now) :=
  hears_up hn h.upa (Int.le_of_lt h.ka) h.la rfl
theorem meet2 {a b : Ses} {now : Int} (h : Far a b) (hn : mom now = true) : (told b a now).hears (joined a b now) now = (true, 0, joined b a now) :=
  hears_up hn h.upb (Int.le_refl _) h.lb rfl
theorem meet3 {a b : Ses} {now : Int} (hn : mom now = true) : (joined a b now).hears (joined b a now) now = (false, 0, joined a b now) :=
  hears_link hn rfl rfl
theorem joined_ok {a b : Ses} {now : Int} (ha : a.Ok) (hb : b.Ok) (hn : mom now = true) : (joined a b now).Ok := by
  have hl := hb.life
  have h1 : ({ a with link := now, known := b.life } : Ses).Ok := by
    simp only [mom, Bool.and_eq_true, decide_eq_true_eq] at hn
    exact ⟨ha.id, ha.prio, ha.life, ⟨by show 0 ≤ b.life; omega, hl.2⟩, ha.role, ha.claim, hn, ha.beat⟩
  exact h1.meet _ _
theorem told_ok {a b : Ses} {now : Int} (ha : a.Ok) (hb : b.Ok) (hn : mom now = true) : (told b a now).Ok := by
  have hl := ha.life
  simp only [mom, Bool.and_eq_true, decide_eq_true_eq] at hn
  exact ⟨hb.id, hb.prio, hb.life, ⟨by show 0 ≤ a.life; omega, hl.2⟩, hb.role, hb.claim, hn, hb.beat⟩
theorem joined_roles {a b : Ses} {now : Int} (i1 : a.id = 0) (i2 : b.id = 1) : ((joined a b now).role == 2) ≠ ((joined b a now).role == 2) := by
  simp only [joined, Ses.meet, Ses.first, i1, i2]
  rcases Int.lt_trichotomy a.claim b.claim with hc | hc | hc
  · have e1 : decide (b.claim < a.claim) = false := by simp; omega
    have e2 : (b.claim == a.claim) = false := by simp; omega
    have e3 : decide (a.claim < b.claim) = true := by simp; omega
    have e4 : (a.claim == b.claim) = false := by simp; omega
    simp [e1, e2, e3, e4]
  · have e1 : decide (b.claim < a.claim) = false := by simp; omega
    have e3 : decide (a.claim < b.claim) = false := by simp; omega
    rcases Int.lt_trichotomy a.prio b.prio with hp | hp | hp
    · have e5 : decide (a.prio < b.prio) = true := by simp; omega
      have e6 : decide (b.prio < a.prio) = false := by simp; omega
      have e7 : (b.prio == a.prio) = false := by simp; omega
      simp [e5, e6, e7, hc]
    · have e5 : decide (a.prio < b.prio) = false := by simp; omega
      have e6 : decide (b.prio < a.prio) = false := by simp; omega
      simp [hc, hp]
    · have e5 : decide (a.prio < b.prio) = false := by simp; omega
      have e6 : decide (b.prio < a.prio) = true := by simp; omega
      have e7 : (a.prio == b.prio) = false := by simp; omega
      simp [e5, e6, e7, hc]
  · have e1 : decide (b.claim < a.claim) = true := by simp; omega
    have e2 : (b.claim == a.claim) = false := by simp; omega
    have e3 : decide (a.claim < b.claim) = false := by simp; omega
    have e4 : (a.claim == b.claim) = false := by simp; omega
    simp [e1, e2, e3, e4]
def sa (a b : Ses) (now : Int) : Nat → Ses
  | 0 => a
  | _ => joined a b now
def sb (a b : Ses) (now : Int) : Nat → Ses
  | 0 => b
  | 1 => told b a now
  | _ => joined b a now
theorem sb_next {a b : Ses} {now : Int} (h : Far a b) (hn : mom now = true) : ∀ k, ((sb a b now k).hears (sa a b now k) now).2 = (0, sb a b now (k + 1))
  | 0 => by show (b.hears a now).2 = _; rw [hears_told h hn]; rfl
  | 1 => by show ((told b a now).hears (joined a b now) now).2 = _; rw [meet2 h hn]; rfl
  | k + 2 => by show ((joined b a now).hears (joined a b now) now).2 = _; rw [meet3 hn]; rfl
theorem sa_next {a b : Ses} {now : Int} (h : Far a b) (hn : mom now = true) : ∀ k, ((sa a b now k).hears (sb a b now (k + 1)) now).2 = (0, sa a b now (k + 1))
  | 0 => by show (a.hears (told b a now) now).2 = _; rw [meet1 h hn]; rfl
  | k + 1 => by show ((joined a b now).hears (joined b a now) now).2 = _; rw [meet3 hn]; rfl
theorem sa_ok {a b : Ses} {now : Int} (h : Far a b) (hn : mom now = true) : ∀ k, (sa a b now k).Ok
  | 0 => h.oka
  | _ + 1 => joined_ok h.oka h.okb hn
theorem sb_ok {a b : Ses} {now : Int} (h : Far a b) (hn : mom now = true) : ∀ k, (sb a b now k).Ok
  | 0 => h.okb
  | 1 => told_ok h.oka h.okb hn
  | _ + 2 => joined_ok h.okb h.oka hn
def lost (a b : Ses) (now : Int) : Ses := (joined a b now).fresh
theorem tick_lost {a b : Ses} {now : Int} (hn : mom (now + 6) = true) : (joined a b now).tick (now + 6) = (true, 0, lost a b now) := by
  unfold Ses.tick
  rw [if_pos hn, if_pos (by show 6 ≤ now + 6 - now; omega), if_pos (show (joined a b now).up = true from rfl)]
  rfl
def alone (a b : Ses) (now : Int) : Ses := ((lost a b now).tick (now + 12)).2.2
theorem alone_role {a b : Ses} {now : Int} (hb : a.beat = 0) (h0 : 0 ≤ now) (hn : mom (now + 12) = true) : (alone a b now).role = 2 := by
  unfold alone Ses.tick
  rw [if_pos hn, if_pos (by show 6 ≤ now + 12 - now; omega), if_neg (by show ¬ false = true; decide)]
  split
  · rfl
  · rename_i hc
    have : ¬ (lost a b now).role ≠ 2 := fun h => hc ⟨by show 6 ≤ now + 12 - a.beat; omega, h⟩
    simpa using this
theorem alone_facts {a b : Ses} {now : Int} (ha : a.Ok) (hl : a.life < 268435456 + 4) : (alone a b now).id = a.id ∧ (alone a b now).up = false ∧ (alone a b now).known = b.life ∧ a.life < (alone a b now).life ∧ (alone a b now).life ≤ a.life + 2 ∧ (alone a b now).beat = a.beat := by
  have h1 := ha.life
  have hf : (lost a b now).id = a.id ∧ (lost a b now).up = false ∧ (lost a b now).known = b.life ∧ (lost a b now).life = a.life + 1 ∧ (lost a b now).beat = a.beat := by
    refine ⟨rfl, rfl, rfl, ?_, rfl⟩
    show min (a.life + 1) 536870912 = a.life + 1
    omega
  unfold alone
  generalize lost a b now = s at *
  obtain ⟨h2, h3, h4, h5, h6⟩ := hf
  unfold Ses.tick
  split
  · split
    · rw [if_neg (by rw [h3]; decide)]
      split
      · refine ⟨h2, rfl, h4, ?_, ?_, h6⟩
        · show a.life < min (s.life + 1) 536870912; omega
        · show min (s.life + 1) 536870912 ≤ a.life + 2; omega
      · exact ⟨h2, h3, h4, by show a.life < s.life; omega, by show s.life ≤ a.life + 2; omega, h6⟩
    · exact ⟨h2, h3, h4, by show a.life < s.life; omega, by show s.life ≤ a.life + 2; omega, h6⟩
  · exact ⟨h2, h3, h4, by show a.life < s.life; omega, by show s.life ≤ a.life + 2; omega, h6⟩
theorem far_alone {a b : Ses} {now : Int} (h : Far a b) (hn : mom now = true) (la : a.life < 268435456 + 4) (lb : b.life < 268435456 + 4) : Far (alone a b now) (alone b a now) := by
  obtain ⟨a1, a2, a3, a4, a5, a6⟩ := alone_facts (b := b) (now := now) h.oka la
  obtain ⟨b1, b2, b3, b4, b5, b6⟩ := alone_facts (b := a) (now := now) h.okb lb
  exact ⟨(joined_ok h.oka h.okb hn).fresh.tick _, (joined_ok h.okb h.oka hn).fresh.tick _, a2, b2, by omega, by omega, by omega, by omega, a6.trans h.bta, b6.trans h.btb⟩
theorem far_new {p q m n : Int} (ha : newOk 0 p m) (hb : newOk 1 q n) (lm : m < 536870912) (ln : n < 536870912) : Far (ses0 0 p m) (ses0 1 q n) := by
  have h1 := ha.2.2
  have h2 := hb.2.2
  exact ⟨ses0_ok ha, ses0_ok hb, rfl, rfl, by show 0 < n; omega, by show 0 < m; omega, lm, ln, rfl, rfl⟩

/-- The two, in their blocks. -/
structure Two (w0 w : World) (g h : Nat) (a b : Ses) : Prop where
  one : ∃ op, w.heap[g]? = some (.cells (a.cells op) 63 (0, 0))
  two : ∃ op, w.heap[h]? = some (.cells (b.cells op) 63 (0, 0))
  ne : g ≠ h
  st : Step (fun k => k = g ∨ k = h) w0 w
  oka : a.Ok
  okb : b.Ok
  tab : HasAt 0 w
theorem Two.still {w0 w w1 : World} {g h : Nat} {a b : Ses} (t : Two w0 w g h a b) (s : Step None w w1) : Two w0 w1 g h a b := by
  obtain ⟨op, h1⟩ := t.one
  obtain ⟨oq, h2⟩ := t.two
  exact ⟨⟨op, s.blk h1 (fun s => s.elim)⟩, ⟨oq, s.blk h2 (fun s => s.elim)⟩, t.ne, t.st.then_ s.none, t.oka, t.okb, t.tab.still s⟩
theorem Two.left {w0 w w1 : World} {g h : Nat} {a b c : Ses} {op : Int} (t : Two w0 w g h a b) (hc : c.Ok) (s : Step (· = g) w w1) (h1 : w1.heap[g]? = some (.cells (c.cells op) 63 (0, 0))) : Two w0 w1 g h c b := by
  obtain ⟨o1, g1⟩ := t.one
  obtain ⟨oq, h2⟩ := t.two
  exact ⟨⟨op, h1⟩, ⟨oq, s.blk h2 (fun e => t.ne e.symm)⟩, t.ne, t.st.then_ (s.mono fun k _ e => .inl e), hc, t.okb, t.tab.step s (has_ne t.tab g1 rfl)⟩
theorem Two.right {w0 w w1 : World} {g h : Nat} {a b c : Ses} {op : Int} (t : Two w0 w g h a b) (hc : c.Ok) (s : Step (· = h) w w1) (h1 : w1.heap[h]? = some (.cells (c.cells op) 63 (0, 0))) : Two w0 w1 g h a c := by
  obtain ⟨o1, g1⟩ := t.one
  obtain ⟨oq, h2⟩ := t.two
  exact ⟨⟨o1, s.blk g1 (fun e => t.ne e)⟩, ⟨op, h1⟩, t.ne, t.st.then_ (s.mono fun k _ e => .inr e), t.oka, hc, t.tab.step s (has_ne t.tab h2 rfl)⟩
section
variable {w0 w : World} {g h : Nat} {a b : Ses}
theorem Two.sayA (t : Two w0 w g h a b) : Calls Tryd.prog 11 #[.pointer (some ⟨g, 0, none⟩)] w fun e w' => e = .returned (.agg (Note.packet (Ses.note a) a.life 0 a.known (.slice none 0 0))) ∧ Two w0 w' g h a b := by
  obtain ⟨op, h1⟩ := t.one
  exact (say_any g a op w h1).mono fun e w' hh => ⟨hh.1, t.still hh.2⟩
theorem Two.sayB (t : Two w0 w g h a b) : Calls Tryd.prog 11 #[.pointer (some ⟨h, 0, none⟩)] w fun e w' => e = .returned (.agg (Note.packet (Ses.note b) b.life 0 b.known (.slice none 0 0))) ∧ Two w0 w' g h a b := by
  obtain ⟨op, h1⟩ := t.two
  exact (say_any h b op w h1).mono fun e w' hh => ⟨hh.1, t.still hh.2⟩
theorem Two.hearsA (t : Two w0 w g h a b) {c : Ses} (hc : c.Ok) (now : Int) : Calls Tryd.prog 10 #[.pointer (some ⟨g, 0, none⟩), .agg (Note.packet (Ses.note c) c.life 0 c.known (.slice none 0 0)), .int .i64 now] w fun e w' => e = .returned (.tuple #[.bool (a.hears c now).1, .int .i64 (a.hears c now).2.1]) ∧ Two w0 w' g h (a.hears c now).2.2 b := by
  obtain ⟨op, h1⟩ := t.one
  exact (hears_any g a c op now w t.tab t.oka hc h1).mono fun e w' hh => by
    obtain ⟨o2, e1, h2, s2⟩ := hh
    exact ⟨e1, t.left (Ses.Ok.hears t.oka hc now) s2 h2⟩
theorem Two.hearsB (t : Two w0 w g h a b) {c : Ses} (hc : c.Ok) (now : Int) : Calls Tryd.prog 10 #[.pointer (some ⟨h, 0, none⟩), .agg (Note.packet (Ses.note c) c.life 0 c.known (.slice none 0 0)), .int .i64 now] w fun e w' => e = .returned (.tuple #[.bool (b.hears c now).1, .int .i64 (b.hears c now).2.1]) ∧ Two w0 w' g h a (b.hears c now).2.2 := by
  obtain ⟨op, h1⟩ := t.two
  exact (hears_any h b c op now w t.tab t.okb hc h1).mono fun e w' hh => by
    obtain ⟨o2, e1, h2, s2⟩ := hh
    exact ⟨e1, t.right (Ses.Ok.hears t.okb hc now) s2 h2⟩
theorem Two.tickA (t : Two w0 w g h a b) (now : Int) : Calls Tryd.prog 15 #[.pointer (some ⟨g, 0, none⟩), .int .i64 now] w fun e w' => e = .returned (.tuple #[.bool (a.tick now).1, .int .i64 (a.tick now).2.1]) ∧ Two w0 w' g h (a.tick now).2.2 b := by
  obtain ⟨op, h1⟩ := t.one
  exact (tick_any g a op now w t.oka h1).mono fun e w' hh => ⟨hh.1, t.left (t.oka.tick now) hh.2.2 hh.2.1⟩
theorem Two.tickB (t : Two w0 w g h a b) (now : Int) : Calls Tryd.prog 15 #[.pointer (some ⟨h, 0, none⟩), .int .i64 now] w fun e w' => e = .returned (.tuple #[.bool (b.tick now).1, .int .i64 (b.tick now).2.1]) ∧ Two w0 w' g h a (b.tick now).2.2 := by
  obtain ⟨op, h1⟩ := t.two
  exact (tick_any h b op now w t.okb h1).mono fun e w' hh => ⟨hh.1, t.right (t.okb.tick now) hh.2.2 hh.2.1⟩
theorem Two.seenA (t : Two w0 w g h a b) (now : Int) : Calls Tryd.prog 17 #[.pointer (some ⟨g, 0, none⟩), .int .i64 now] w fun e w' => e = .returned (.int .i64 (a.seen now).1) ∧ Two w0 w' g h (a.seen now).2 b := by
  obtain ⟨op, h1⟩ := t.one
  exact (seen_any g a op now w h1).mono fun e w' hh => ⟨hh.1, t.left (t.oka.seen now) hh.2.2 hh.2.1⟩
theorem Two.seenB (t : Two w0 w g h a b) (now : Int) : Calls Tryd.prog 17 #[.pointer (some ⟨h, 0, none⟩), .int .i64 now] w fun e w' => e = .returned (.int .i64 (b.seen now).1) ∧ Two w0 w' g h a (b.seen now).2 := by
  obtain ⟨op, h1⟩ := t.two
  exact (seen_any h b op now w h1).mono fun e w' hh => ⟨hh.1, t.right (t.okb.seen now) hh.2.2 hh.2.1⟩
theorem Two.aliveA (t : Two w0 w g h a b) (now : Int) : Calls Tryd.prog 18 #[.pointer (some ⟨g, 0, none⟩), .int .i64 now] w fun e w' => e = .returned (.int .i64 (a.alive now).1) ∧ Two w0 w' g h (a.alive now).2 b := by
  obtain ⟨op, h1⟩ := t.one
  exact (alive_any g a op now w h1).mono fun e w' hh => ⟨hh.1, t.left (t.oka.alive now) hh.2.2 hh.2.1⟩
theorem Two.aliveB (t : Two w0 w g h a b) (now : Int) : Calls Tryd.prog 18 #[.pointer (some ⟨h, 0, none⟩), .int .i64 now] w fun e w' => e = .returned (.int .i64 (b.alive now).1) ∧ Two w0 w' g h a (b.alive now).2 := by
  obtain ⟨op, h1⟩ := t.two
  exact (alive_any h b op now w h1).mono fun e w' hh => ⟨hh.1, t.right (t.okb.alive now) hh.2.2 hh.2.1⟩
theorem Two.upA (t : Two w0 w g h a b) : Calls Tryd.prog 12 #[.pointer (some ⟨g, 0, none⟩)] w fun e w' => e = .returned (.bool a.up) ∧ w = w' := by
  obtain ⟨op, h1⟩ := t.one
  exact up_any g a op w h1
theorem Two.upB (t : Two w0 w g h a b) : Calls Tryd.prog 12 #[.pointer (some ⟨h, 0, none⟩)] w fun e w' => e = .returned (.bool b.up) ∧ w = w' := by
  obtain ⟨op, h1⟩ := t.two
  exact up_any h b op w h1
theorem Two.roleA (t : Two w0 w g h a b) : Calls Tryd.prog 14 #[.pointer (some ⟨g, 0, none⟩)] w fun e w' => e = .returned (.int .i64 a.role) ∧ w = w' := by
  obtain ⟨op, h1⟩ := t.one
  exact role_any g a op w h1
theorem Two.roleB (t : Two w0 w g h a b) : Calls Tryd.prog 14 #[.pointer (some ⟨h, 0, none⟩)] w fun e w' => e = .returned (.int .i64 b.role) ∧ w = w' := by
  obtain ⟨op, h1⟩ := t.two
  exact role_any h b op w h1
theorem Two.epochA (t : Two w0 w g h a b) : Calls Tryd.prog 13 #[.pointer (some ⟨g, 0, none⟩)] w fun e w' => e = .returned (.int .i64 a.epoch) ∧ Two w0 w' g h a b := by
  obtain ⟨op, h1⟩ := t.one
  exact (epoch_any g a op w t.oka h1).mono fun e w' hh => ⟨hh.1, t.still hh.2⟩
theorem Two.epochB (t : Two w0 w g h a b) : Calls Tryd.prog 13 #[.pointer (some ⟨h, 0, none⟩)] w fun e w' => e = .returned (.int .i64 b.epoch) ∧ Two w0 w' g h a b := by
  obtain ⟨op, h1⟩ := t.two
  exact (epoch_any h b op w t.okb h1).mono fun e w' hh => ⟨hh.1, t.still hh.2⟩
end
end Go.Proofs.YtaacpjihkmklbaaDoor
