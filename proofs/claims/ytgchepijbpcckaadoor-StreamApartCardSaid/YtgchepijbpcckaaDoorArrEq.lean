/- Two arrays of six bytes, compared. -/
import Derived.Test.YtgchepijbpcckaaDoorTyp
namespace Go.Gm
open Go.RowKit

theorem run_equalIn_six {P : Program} (w : World) (d : Nat) (t e : TypeId) (ht : P.underlying t = some (.array 6 e)) (he : P.underlying e = some (.int .u8)) (hsz : ∀ w, (sizeOf e).run P w = .ok 1 w)
    (a0 a1 a2 a3 a4 a5 b0 b1 b2 b3 b4 b5 : Int) :
    (Op.equalIn (d + 2) t (.agg #[.int .u8 a0, .int .u8 a1, .int .u8 a2, .int .u8 a3, .int .u8 a4, .int .u8 a5]) (.agg #[.int .u8 b0, .int .u8 b1, .int .u8 b2, .int .u8 b3, .int .u8 b4, .int .u8 b5])).run P w
      = .ok (a0 == b0 && a1 == b1 && a2 == b2 && a3 == b3 && a4 == b4 && a5 == b5) w := by
  have hr : List.range' 0 6 1 = [0, 1, 2, 3, 4, 5] := rfl
  have pe : ∀ (x y : Int) (w : World), (Op.equalIn (d + 1) e (.int .u8 x) (.int .u8 y)).run P w = .ok (x == y) w := fun x y w => run_equalIn_int w d e .u8 .u8 x y he
  rw [Op.equalIn]
  simp only [Sem.run_bind, run_underlying ht, Result.andThen_ok, hsz, Std.Legacy.Range.forIn_eq_forIn_range', Std.Legacy.Range.size, Nat.sub_zero, Nat.add_sub_cancel, Nat.div_one, hr]
  have part0 : ∀ (xs : Array Value) (i : Nat) (x : Value) (w : World), xs[i]? = some x → (part e xs i).run P w = .ok x w := fun xs i x w hx => by
    simp [part, isAgg, run_underlying he, hx]
  have pa0 := fun w => part0 #[.int .u8 a0, .int .u8 a1, .int .u8 a2, .int .u8 a3, .int .u8 a4, .int .u8 a5] 0 (.int .u8 a0) w rfl
  have pb0 := fun w => part0 #[.int .u8 b0, .int .u8 b1, .int .u8 b2, .int .u8 b3, .int .u8 b4, .int .u8 b5] 0 (.int .u8 b0) w rfl
  have pa1 := fun w => part0 #[.int .u8 a0, .int .u8 a1, .int .u8 a2, .int .u8 a3, .int .u8 a4, .int .u8 a5] 1 (.int .u8 a1) w rfl
  have pb1 := fun w => part0 #[.int .u8 b0, .int .u8 b1, .int .u8 b2, .int .u8 b3, .int .u8 b4, .int .u8 b5] 1 (.int .u8 b1) w rfl
  have pa2 := fun w => part0 #[.int .u8 a0, .int .u8 a1, .int .u8 a2, .int .u8 a3, .int .u8 a4, .int .u8 a5] 2 (.int .u8 a2) w rfl
  have pb2 := fun w => part0 #[.int .u8 b0, .int .u8 b1, .int .u8 b2, .int .u8 b3, .int .u8 b4, .int .u8 b5] 2 (.int .u8 b2) w rfl
  have pa3 := fun w => part0 #[.int .u8 a0, .int .u8 a1, .int .u8 a2, .int .u8 a3, .int .u8 a4, .int .u8 a5] 3 (.int .u8 a3) w rfl
  have pb3 := fun w => part0 #[.int .u8 b0, .int .u8 b1, .int .u8 b2, .int .u8 b3, .int .u8 b4, .int .u8 b5] 3 (.int .u8 b3) w rfl
  have pa4 := fun w => part0 #[.int .u8 a0, .int .u8 a1, .int .u8 a2, .int .u8 a3, .int .u8 a4, .int .u8 a5] 4 (.int .u8 a4) w rfl
  have pb4 := fun w => part0 #[.int .u8 b0, .int .u8 b1, .int .u8 b2, .int .u8 b3, .int .u8 b4, .int .u8 b5] 4 (.int .u8 b4) w rfl
  have pa5 := fun w => part0 #[.int .u8 a0, .int .u8 a1, .int .u8 a2, .int .u8 a3, .int .u8 a4, .int .u8 a5] 5 (.int .u8 a5) w rfl
  have pb5 := fun w => part0 #[.int .u8 b0, .int .u8 b1, .int .u8 b2, .int .u8 b3, .int .u8 b4, .int .u8 b5] 5 (.int .u8 b5) w rfl
  cases h0 : (a0 == b0)
  · simp [pa0, pb0, pe, h0]
  cases h1 : (a1 == b1)
  · simp [pa0, pb0, pa1, pb1, pe, h0, h1]
  cases h2 : (a2 == b2)
  · simp [pa0, pb0, pa1, pb1, pa2, pb2, pe, h0, h1, h2]
  cases h3 : (a3 == b3)
  · simp [pa0, pb0, pa1, pb1, pa2, pb2, pa3, pb3, pe, h0, h1, h2, h3]
  cases h4 : (a4 == b4)
  · simp [pa0, pb0, pa1, pb1, pa2, pb2, pa3, pb3, pa4, pb4, pe, h0, h1, h2, h3, h4]
  cases h5 : (a5 == b5)
  · simp [pa0, pb0, pa1, pb1, pa2, pb2, pa3, pb3, pa4, pb4, pa5, pb5, pe, h0, h1, h2, h3, h4, h5]
  simp [pa0, pb0, pa1, pb1, pa2, pb2, pa3, pb3, pa4, pb4, pa5, pb5, pe, h0, h1, h2, h3, h4, h5]
end Go.Gm
