/- awake. -/
import Derived.Test.YtaacpjihkmklbaaDoorW6
namespace Go.Proofs.YtaacpjihkmklbaaDoor
open Go.RowKit Go.Gm

/-- A session hears another one's hello. -/
def _root_.Go.Gm.Ses.hears (s t : Ses) (now : Int) : Bool × Int × Ses := s.take true t.life t.known t.prio t.claim now
theorem hears_any (g : Nat) (s t : Ses) (op now : Int) (w : World) (hT : HasAt 0 w) (hs : s.Ok) (ht : t.Ok) (h : w.heap[g]? = some (.cells (s.cells op) 63 (0, 0))) :
    Calls Tryd.prog 10 #[.pointer (some ⟨g, 0, none⟩), .agg (Note.packet (Ses.note t) t.life 0 t.known (.slice none 0 0)), .int .i64 now] w fun e w' => ∃ op', e = .returned (.tuple #[.bool (s.hears t now).1, .int .i64 (s.hears t now).2.1]) ∧ w'.heap[g]? = some (.cells ((s.hears t now).2.2.cells op') 63 (0, 0)) ∧ Step (· = g) w w' := by
  have := take_any g s op t.life 0 t.known now (Ses.note t) none 0 w hT hs h (.inl ⟨rfl, rfl⟩) (Nat.zero_le 10000)
  rw [hello_ok ht] at this
  exact this
theorem Ses.Ok.hears {s t : Ses} (hs : s.Ok) (ht : t.Ok) (now : Int) : (s.hears t now).2.2.Ok := hs.take (fun _ => ht.life) _ _ _ _

def aw0 : Ses := ses0 0 5 1
def aw1 : Ses := ses0 1 5 1
theorem aw0_ok : aw0.Ok := ses0_ok (by decide)
theorem aw1_ok : aw1.Ok := ses0_ok (by decide)
def awB : Ses := (aw1.hears aw0 1).2.2
def awA : Ses := (aw0.hears awB 1).2.2
def awC : Ses := (awB.hears awA 1).2.2
theorem aw_one : (aw0.hears awB 1).1 = true := by decide
theorem aw_two : (awB.hears awA 1).1 = true := by decide
theorem aw_up : awA.up = true ∧ awC.up = true ∧ awA.epoch = 2 ∧ awA.role = 2 ∧ awC.role = 1 := by decide
/-- The table's block is none of a session's. -/
theorem has_ne {w : World} {g : Nat} {cs : Array Value} {fr : Nat × Nat} {t : TypeId} {x : Int} (hT : HasAt 0 w) (h : w.heap[g]? = some (.cells cs t fr)) (h0 : cs[0]? = some (.int .i64 x)) : ¬ 0 = g := by
  rintro rfl
  have h1 := hT 0 (by decide)
  rw [blk_cell h, h0] at h1
  simp at h1

set_option maxHeartbeats 8000000 in
theorem awake_any (w : World) (hT : HasAt 0 w) : Calls Tryd.prog 8 #[] w fun e w' => e = .returned (.bool true) ∧ Step None w w' := by
  have A := Lib.hid (new_ok 0 5 1 w (by decide))
  have HT := Lib.hid hT
  clear hT
  go_enter Tryd.func8, Tryd.ntmps8
  go_wp2_with fail
  refine A.out.mono ?_
  rintro e w1 ⟨rfl, a1, s1⟩
  have A1 := Lib.hid a1
  have S1 := Lib.hid s1
  clear A a1 s1
  go_wp2_with fail
  refine (new_ok 1 5 1 w1 (by decide)).mono ?_
  rintro e w2 ⟨rfl, b2, s2⟩
  have NE : Hid (¬ w.heap.size = w1.heap.size ∧ ¬ w1.heap.size = w.heap.size ∧ ¬ 0 = w.heap.size ∧ ¬ 0 = w1.heap.size) := Lib.hid (by
    have := blk_lt A1.out
    have := HT.out.lt
    have := S1.out.size
    omega)
  have NW : Hid (w.heap.size ≤ w1.heap.size) := Lib.hid S1.out.size
  have A2 := Lib.hid (s2.blk A1.out (fun s => s.elim))
  have B2 := Lib.hid b2
  have T2 := Lib.hid ((HT.out.still S1.out).still s2)
  have S2 := Lib.hid ((S1.out.then_ s2).none (S := fun k => k = w.heap.size ∨ k = w1.heap.size))
  clear S1 A1 b2 s2 HT
  generalize ga : w.heap.size = g at *
  generalize w1.heap.size = h at *
  go_wp2_with fail
  refine (say_any g aw0 0 w2 A2.out).mono ?_
  rintro e w3 ⟨rfl, s3⟩
  have A3 := Lib.hid (s3.blk A2.out (fun s => s.elim))
  have B3 := Lib.hid (s3.blk B2.out (fun s => s.elim))
  have T3 := Lib.hid (T2.out.still s3)
  have S3 := Lib.hid (S2.out.then_ s3.none)
  clear s3 A2 B2 T2 S2
  go_wp2_with fail
  refine (hears_any h aw1 aw0 0 1 w3 T3.out aw1_ok aw0_ok B3.out).mono ?_
  rintro e w4 ⟨op4, rfl, b4, s4⟩
  have A4 := Lib.hid (s4.blk A3.out NE.out.1)
  have B4 : Hid (w4.heap[h]? = some (.cells (awB.cells op4) 63 (0, 0))) := Lib.hid b4
  have T4 := Lib.hid (T3.out.step s4 NE.out.2.2.2)
  have S4 := Lib.hid (S3.out.then_ (s4.mono fun k _ e => .inr e))
  clear b4 s4 A3 B3 T3 S3
  go_wp2_with fail
  refine (say_any h awB op4 w4 B4.out).mono ?_
  rintro e w5 ⟨rfl, s5⟩
  have A5 := Lib.hid (s5.blk A4.out (fun s => s.elim))
  have B5 := Lib.hid (s5.blk B4.out (fun s => s.elim))
  have T5 := Lib.hid (T4.out.still s5)
  have S5 := Lib.hid (S4.out.then_ s5.none)
  clear s5 A4 B4 T4 S4
  go_wp2_with fail
  refine (hears_any g aw0 awB 0 1 w5 T5.out aw0_ok (Ses.Ok.hears aw1_ok aw0_ok 1) A5.out).mono ?_
  rintro e w6 ⟨op6, rfl, a6, s6⟩
  have A6 : Hid (w6.heap[g]? = some (.cells (awA.cells op6) 63 (0, 0))) := Lib.hid a6
  have B6 := Lib.hid (s6.blk B5.out NE.out.2.1)
  have T6 := Lib.hid (T5.out.step s6 NE.out.2.2.1)
  have S6 := Lib.hid (S5.out.then_ (s6.mono fun k _ e => .inl e))
  rw [aw_one]
  clear a6 s6 A5 B5 T5 S5
  have OA : Hid awA.Ok := Lib.hid (Ses.Ok.hears aw0_ok (Ses.Ok.hears aw1_ok aw0_ok 1) 1)
  have OB : Hid awB.Ok := Lib.hid (Ses.Ok.hears aw1_ok aw0_ok 1)
  go_wp2_with fail
  refine (say_any g awA op6 w6 A6.out).mono ?_
  rintro e w7 ⟨rfl, s7⟩
  have A7 := Lib.hid (s7.blk A6.out (fun s => s.elim))
  have B7 := Lib.hid (s7.blk B6.out (fun s => s.elim))
  have T7 := Lib.hid (T6.out.still s7)
  have S7 := Lib.hid (S6.out.then_ s7.none)
  clear s7 A6 B6 T6 S6
  go_wp2_with fail
  refine (hears_any h awB awA op4 1 w7 T7.out OB.out OA.out B7.out).mono ?_
  rintro e w8 ⟨op8, rfl, b8, s8⟩
  have A8 := Lib.hid (s8.blk A7.out NE.out.1)
  have B8 : Hid (w8.heap[h]? = some (.cells (awC.cells op8) 63 (0, 0))) := Lib.hid b8
  have S8 := Lib.hid (S7.out.then_ (s8.mono fun k _ e => .inr e))
  rw [aw_two]
  clear b8 s8 A7 B7 T7 S7
  obtain ⟨u1, u2, u3, u4, u5⟩ := aw_up
  go_wp2_with fail
  refine (up_any g awA op6 w8 A8.out).mono ?_
  rintro e w9 ⟨rfl, rfl⟩
  rw [u1]
  go_wp2_with fail
  refine (up_any h awC op8 w8 B8.out).mono ?_
  rintro e w9 ⟨rfl, rfl⟩
  rw [u2]
  go_wp2_with fail
  refine (epoch_any g awA op6 w8 OA.out A8.out).mono ?_
  rintro e w9 ⟨rfl, s9⟩
  have A9 := Lib.hid (s9.blk A8.out (fun s => s.elim))
  have B9 := Lib.hid (s9.blk B8.out (fun s => s.elim))
  have S9 := Lib.hid (S8.out.then_ s9.none)
  clear s9 A8 B8 S8
  rw [u3]
  go_wp2_with fail
  refine (role_any g awA op6 w9 A9.out).mono ?_
  rintro e w10 ⟨rfl, rfl⟩
  rw [u4]
  go_wp2_with fail
  refine (role_any h awC op8 w9 B9.out).mono ?_
  rintro e w10 ⟨rfl, rfl⟩
  rw [u5]
  go_wp2_with fail
  go_ret
  refine ⟨rfl, S9.out.mono ?_⟩
  rintro k hk (rfl | rfl)
  · omega
  · have := NW.out; omega
end Go.Proofs.YtaacpjihkmklbaaDoor
