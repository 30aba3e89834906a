/- What bridges tell: may one be? The document. -/
import Derived.Test.YtehlaomippbehaaW6
import Derived.Laws.StructEq
namespace Go.Proofs.Ytehlaomippbehaa
open Go.RowKit Go.Gm

structure Bpd where
  kind : Int
  flags : Int
  root : Idn
  cost : Int
  bridge : Idn
  port : Int
  age : Int
  most : Int
  hello : Int
  fwd : Int
def Bpd.cells (x : Bpd) : Array Value := #[.int .i64 x.kind, .int .i64 x.flags, .int .i64 x.root.p, .int .u8 x.root.m0, .int .u8 x.root.m1, .int .u8 x.root.m2, .int .u8 x.root.m3, .int .u8 x.root.m4, .int .u8 x.root.m5, .int .i64 x.cost, .int .i64 x.bridge.p, .int .u8 x.bridge.m0, .int .u8 x.bridge.m1, .int .u8 x.bridge.m2, .int .u8 x.bridge.m3, .int .u8 x.bridge.m4, .int .u8 x.bridge.m5, .int .i64 x.port, .int .i64 x.age, .int .i64 x.most, .int .i64 x.hello, .int .i64 x.fwd]
def noId : Idn := ⟨0, 0, 0, 0, 0, 0, 0⟩
/-- One of which nothing but its kind is told. -/
def bare (k : Int) : Bpd := ⟨k, 0, noId, 0, noId, 0, 0, 0, 0, 0⟩
def Bpd.flat (x : Bpd) : List Int := x.kind :: x.flags :: (x.root.flat ++ (x.cost :: (x.bridge.flat ++ [x.port, x.age, x.most, x.hello, x.fwd])))

set_option linter.unusedSimpArgs false in
set_option maxHeartbeats 4000000 in
theorem eq_bpd (x y : Bpd) (w : World) : (Op.equalIn 10000 39 (.agg x.cells) (.agg y.cells)).run Try.prog w = .ok (x.flat == y.flat) w := by
  have u3 := Try.underlying3
  have a3 := Try.isAgg3
  have z3 := Try.sizeOf3
  have a25 := Try.isAgg25
  have z25 := Try.sizeOf25
  have hS : Try.prog.underlying 39 = some (.struct (Try.prog.fieldsOf 39)) := by kernel_rfl
  have hr := eq_id x.root y.root
  have hb := eq_id x.bridge y.bridge
  rw [show (10000 : Nat) = 9999 + 1 from rfl, run_equalIn_agg w 9999 39 _ _ hS (by kernel_rfl)]
  simp only [Program.fieldsOf, Try.underlying39]
  unfold Bpd.cells
  unfold Idn.cells at hr hb
  go_simp
  have e : (x.flat = y.flat) ↔ (x.kind = y.kind ∧ x.flags = y.flags ∧ x.root.flat = y.root.flat ∧ x.cost = y.cost ∧ x.bridge.flat = y.bridge.flat ∧ x.port = y.port ∧ x.age = y.age ∧ x.most = y.most ∧ x.hello = y.hello ∧ x.fwd = y.fwd) := by
    simp [Bpd.flat, Idn.flat, Idn.mac, and_assoc]
  have e2 : (x.flat == y.flat) = decide (x.flat = y.flat) := by rw [Bool.eq_iff_iff]; simp
  rw [e2]
  simp only [e]
  by_cases h1 : x.kind = y.kind
  rotate_left
  · simp [h1]
  by_cases h2 : x.flags = y.flags
  rotate_left
  · simp [h1, h2]
  by_cases h3 : x.root.flat = y.root.flat
  rotate_left
  · simp [h1, h2, h3]
  by_cases h4 : x.cost = y.cost
  rotate_left
  · simp [h1, h2, h3, h4]
  by_cases h5 : x.bridge.flat = y.bridge.flat
  rotate_left
  · simp [h1, h2, h3, h4, h5]
  by_cases h6 : x.port = y.port
  rotate_left
  · simp [h1, h2, h3, h4, h5, h6]
  by_cases h7 : x.age = y.age
  rotate_left
  · simp [h1, h2, h3, h4, h5, h6, h7]
  by_cases h8 : x.most = y.most
  rotate_left
  · simp [h1, h2, h3, h4, h5, h6, h7, h8]
  by_cases h9 : x.hello = y.hello
  rotate_left
  · simp [h1, h2, h3, h4, h5, h6, h7, h8, h9]
  by_cases h10 : x.fwd = y.fwd <;> simp [h1, h2, h3, h4, h5, h6, h7, h8, h9, h10]

/-- Is a number from 0 to another one? -/
def upTo (n high : Int) : Bool := decide (0 ≤ n) && decide (n ≤ high)
theorem rwithin_any (n high : Int) (w : World) : Calls Try.prog 50 #[.int .i64 n, .int .i64 high] w fun e w' => e = .returned (.bool (upTo n high)) ∧ w = w' := by
  unfold upTo
  go_enter Try.func50, Try.ntmps50
  cases h1 : decide (0 ≤ n)
  · go_wp2
    go_ret
    exact ⟨by simp, rfl⟩
  · cases h2 : decide (n ≤ high)
    · go_wp2
      go_ret
      exact ⟨by simp, rfl⟩
    · go_wp2
      go_ret
      exact ⟨by simp, rfl⟩

end Go.Proofs.Ytehlaomippbehaa
