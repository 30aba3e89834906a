/- Of two that hear one another's hellos, whichever and whenever: plain. -/
import Derived.Test.YtaacpjihkmklbaaDoorW13
namespace Go.Proofs.YtaacpjihkmklbaaDoor
open Go.RowKit Go.Gm

/-- What a is, where b's is what it came up by. -/
def el (a b : Ses) : Int := if decide (b.claim < a.claim) || (a.claim == b.claim && a.first b.prio) then 2 else 1
theorem el_one (a b : Ses) : el a b = 1 ∨ el a b = 2 := by unfold el; split <;> simp
theorem el_parts {a b : Ses} (i1 : a.id = 0) (i2 : b.id = 1) : (el a b == 2) ≠ (el b a == 2) := by
  have := joined_roles (now := 0) i1 i2
  exact this

/-- What a knows of b: H is what b said, each as b was then. -/
structure Ear (a b : Ses) (H : List Ses) : Prop where
  said : ∀ h ∈ H, h.Ok ∧ h.life ≤ b.life ∧ h.known ≤ b.known ∧ h.prio = b.prio ∧ (h.life = b.life → h.claim = b.claim)
  known : a.known ≤ b.life
  up : a.up = true → a.life ≤ b.known
  role : a.up = true → a.known = b.life → a.role = el a b
  some : a.up = true → a.role = 1 ∨ a.role = 2

/-- What a turns into, as the other one sees it. -/
structure Move (a a' : Ses) : Prop where
  id : a'.id = a.id
  prio : a'.prio = a.prio
  known : a.known ≤ a'.known
  life : (a'.life = a.life ∧ a'.claim = a.claim) ∨ a'.life = a.life + 1

theorem Ear.other {b a a' : Ses} {H : List Ses} (e : Ear b a H) (m : Move a a') : Ear b a' H := by
  have h1 := m.known
  have h2 := e.known
  refine ⟨fun h hh => ?_, ?_, fun u => ?_, fun u k => ?_, e.some⟩
  · obtain ⟨k0, k1, k2, k3, k4⟩ := e.said h hh
    rcases m.life with ⟨l, c⟩ | l
    · exact ⟨k0, by omega, by omega, k3.trans m.prio.symm, fun q => (k4 (by omega)).trans c.symm⟩
    · exact ⟨k0, by omega, by omega, k3.trans m.prio.symm, fun q => by omega⟩
  · rcases m.life with ⟨l, c⟩ | l <;> omega
  · have := e.up u; omega
  · rcases m.life with ⟨l, c⟩ | l
    · rw [e.role u (by omega)]
      unfold el Ses.first
      rw [c, m.prio]
    · omega
theorem Ear.say {b a : Ses} {H : List Ses} (e : Ear b a H) (ok : a.Ok) : Ear b a (H ++ [a]) := by
  refine ⟨fun h hh => ?_, e.known, e.up, e.role, e.some⟩
  rcases List.mem_append.1 hh with hh | hh
  · exact e.said h hh
  · simp only [List.mem_cons, List.not_mem_nil, or_false] at hh
    subst hh
    exact ⟨ok, Int.le_refl _, Int.le_refl _, rfl, fun _ => rfl⟩

theorem fresh_life {s : Ses} (h : s.life < 536870912) : s.fresh.life = s.life + 1 := by
  show min (s.life + 1) 536870912 = s.life + 1
  omega
theorem move_tick {a : Ses} (h : a.life < 536870912) (now : Int) : Move a (a.tick now).2.2 := by
  unfold Ses.tick
  split
  · split
    · split
      · exact ⟨rfl, rfl, Int.le_refl _, .inr (fresh_life h)⟩
      · split
        · exact ⟨rfl, rfl, Int.le_refl _, .inr (fresh_life (s := { a with role := 2 }) h)⟩
        · exact ⟨rfl, rfl, Int.le_refl _, .inl ⟨rfl, rfl⟩⟩
    · exact ⟨rfl, rfl, Int.le_refl _, .inl ⟨rfl, rfl⟩⟩
  · exact ⟨rfl, rfl, Int.le_refl _, .inl ⟨rfl, rfl⟩⟩
theorem move_seen (a : Ses) (now : Int) : Move a (a.seen now).2 := by
  unfold Ses.seen
  split <;> exact ⟨rfl, rfl, Int.le_refl _, .inl ⟨rfl, rfl⟩⟩
theorem move_alive (a : Ses) (now : Int) : Move a (a.alive now).2 := by
  unfold Ses.alive
  split <;> exact ⟨rfl, rfl, Int.le_refl _, .inl ⟨rfl, rfl⟩⟩
theorem ear_tick {a b : Ses} {H : List Ses} (e : Ear a b H) (now : Int) : Ear (a.tick now).2.2 b H := by
  have off : ∀ s : Ses, s.known = a.known → Ear s.fresh b H := fun s hs => ⟨e.said, by show s.known ≤ b.life; rw [hs]; exact e.known, fun u => by exact absurd u (by simp [Ses.fresh]), fun u => by exact absurd u (by simp [Ses.fresh]), fun u => by exact absurd u (by simp [Ses.fresh])⟩
  unfold Ses.tick
  split
  · split
    · split
      · exact off a rfl
      · split
        · exact off { a with role := 2 } rfl
        · exact e
    · exact e
  · exact e
theorem ear_seen {a b : Ses} {H : List Ses} (e : Ear a b H) (now : Int) : Ear (a.seen now).2 b H := by
  unfold Ses.seen
  split
  · exact ⟨e.said, e.known, e.up, e.role, e.some⟩
  · exact e
theorem ear_alive {a b : Ses} {H : List Ses} (e : Ear a b H) (now : Int) : Ear (a.alive now).2 b H := by
  unfold Ses.alive
  split
  · exact ⟨e.said, e.known, e.up, e.role, e.some⟩
  · exact e
theorem move_hears {a h : Ses} (hl : a.life < 536870912) (now : Int) : Move a (a.hears h now).2.2 := by
  unfold Ses.hears Ses.take
  split
  · rw [if_pos rfl]
    split
    · exact ⟨rfl, rfl, Int.le_refl _, .inl ⟨rfl, rfl⟩⟩
    · rename_i hk
      have hh : Move a (a.heard h.life now) := by
        unfold Ses.heard
        simp only
        split
        · refine ⟨rfl, rfl, ?_, .inr ?_⟩
          · show a.known ≤ h.life; omega
          · exact fresh_life (s := { a with link := now }) hl
        · refine ⟨rfl, rfl, ?_, .inl ⟨rfl, rfl⟩⟩
          show a.known ≤ h.life; omega
      split
      · exact hh
      · exact ⟨hh.id, hh.prio, hh.known, hh.life⟩
  · exact ⟨rfl, rfl, Int.le_refl _, .inl ⟨rfl, rfl⟩⟩
theorem ear_hears {a b : Ses} {H : List Ses} (e : Ear a b H) {h : Ses} (hh : h ∈ H) (now : Int) : Ear (a.hears h now).2.2 b H := by
  obtain ⟨k0, k1, k2, k3, k4⟩ := e.said h hh
  unfold Ses.hears Ses.take
  split
  · rw [if_pos rfl]
    split
    · exact e
    · rename_i hk
      have hq : Ear (a.heard h.life now) b H ∧ (a.heard h.life now).known = h.life := by
        unfold Ses.heard
        simp only
        split
        · exact ⟨⟨e.said, k1, fun u => by exact absurd u (by simp [Ses.fresh]), fun u => by exact absurd u (by simp [Ses.fresh]), fun u => by exact absurd u (by simp [Ses.fresh])⟩, trivial⟩
        · rename_i hc
          refine ⟨⟨e.said, k1, e.up, fun u q => ?_, e.some⟩, trivial⟩
          have u' : a.up = true := u
          have q' : h.life = b.life := q
          have hk2 : ¬ a.known < h.life := by
            intro hlt
            exact hc (by simp [hlt, u'])
          exact e.role u (by omega)
      split
      · exact hq.1
      · rename_i hc
        generalize a.heard h.life now = t at *
        have hack : h.known = t.life := by
          by_cases x : h.known = t.life
          · exact x
          · exact absurd (.inl x) hc
        refine ⟨e.said, hq.1.known, fun _ => ?_, fun _ q => ?_, fun _ => ?_⟩
        · show t.life ≤ b.known; omega
        · have q' : t.known = b.life := q
          have hcl := k4 (by omega)
          show (if decide (h.claim < t.claim) || (t.claim == h.claim && t.first h.prio) then (2 : Int) else 1) = el (t.meet h.prio h.claim) b
          rw [hcl, k3]
          rfl
        · show (if _ then (2 : Int) else 1) = 1 ∨ (if _ then (2 : Int) else 1) = 2
          split <;> simp
  · exact e

/-- Both. -/
structure Duo (a b : Ses) (A B : List Ses) (i : Nat) : Prop where
  oka : a.Ok
  okb : b.Ok
  ida : a.id = 0
  idb : b.id = 1
  la : a.life ≤ 1 + i
  lb : b.life ≤ 1 + i
  ab : Ear a b B
  ba : Ear b a A
section
variable {a b a' b' : Ses} {A B : List Ses} {i : Nat}
theorem Duo.left (d : Duo a b A B i) (ok : a'.Ok) (m : Move a a') (e : Ear a' b B) : Duo a' b A B (i + 1) :=
  ⟨ok, d.okb, m.id.trans d.ida, d.idb, by have := d.la; rcases m.life with ⟨l, -⟩ | l <;> omega, by have := d.lb; omega, e, d.ba.other m⟩
theorem Duo.right (d : Duo a b A B i) (ok : b'.Ok) (m : Move b b') (e : Ear b' a A) : Duo a b' A B (i + 1) :=
  ⟨d.oka, ok, d.ida, m.id.trans d.idb, by have := d.la; omega, by have := d.lb; rcases m.life with ⟨l, -⟩ | l <;> omega, d.ab.other m, e⟩
theorem Duo.sayA (d : Duo a b A B i) : Duo a b (A ++ [a]) B (i + 1) := ⟨d.oka, d.okb, d.ida, d.idb, by have := d.la; omega, by have := d.lb; omega, d.ab, d.ba.say d.oka⟩
theorem Duo.sayB (d : Duo a b A B i) : Duo a b A (B ++ [b]) (i + 1) := ⟨d.oka, d.okb, d.ida, d.idb, by have := d.la; omega, by have := d.lb; omega, d.ab.say d.okb, d.ba⟩
theorem Duo.none (d : Duo a b A B i) : Duo a b A B (i + 1) := ⟨d.oka, d.okb, d.ida, d.idb, by have := d.la; omega, by have := d.lb; omega, d.ab, d.ba⟩
/-- The law. -/
theorem Duo.one (d : Duo a b A B i) (ua : a.up = true) (ub : b.up = true) (_ : a.epoch = b.epoch) : ((a.role == 2) == (b.role == 2)) = false := by
  have h1 := d.ab.known
  have h2 := d.ba.known
  have h3 := d.ab.up ua
  have h4 := d.ba.up ub
  have r1 := d.ab.role ua (by omega)
  have r2 := d.ba.role ub (by omega)
  have := el_parts d.ida d.idb
  rw [← r1, ← r2] at this
  simpa using this
theorem Duo.roleA (d : Duo a b A B i) (ua : a.up = true) : (a.role == 0) = false := by rcases d.ab.some ua with h | h <;> simp [h]
theorem Duo.roleB (d : Duo a b A B i) (ub : b.up = true) : (b.role == 0) = false := by rcases d.ba.some ub with h | h <;> simp [h]
theorem Duo.pos (d : Duo a b A B i) : decide (0 < a.epoch) = a.up := by
  unfold Ses.epoch
  have := d.oka.life
  have := d.oka.known
  cases h : a.up
  · simp
  · simp; omega
theorem duo_new {p q : Int} (ha : newOk 0 p 1) (hb : newOk 1 q 1) : Duo (ses0 0 p 1) (ses0 1 q 1) [] [] 0 :=
  ⟨ses0_ok ha, ses0_ok hb, rfl, rfl, by show (1 : Int) ≤ 1 + ((0 : Nat) : Int); omega, by show (1 : Int) ≤ 1 + ((0 : Nat) : Int); omega, ⟨by simp, by show (0 : Int) ≤ 1; omega, fun u => by exact absurd u (by simp [ses0]), fun u => by exact absurd u (by simp [ses0]), fun u => by exact absurd u (by simp [ses0])⟩,
    ⟨by simp, by show (0 : Int) ≤ 1; omega, fun u => by exact absurd u (by simp [ses0]), fun u => by exact absurd u (by simp [ses0]), fun u => by exact absurd u (by simp [ses0])⟩⟩
end
end Go.Proofs.YtaacpjihkmklbaaDoor
