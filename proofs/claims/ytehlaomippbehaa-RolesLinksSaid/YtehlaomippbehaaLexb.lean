/- internal/bytealg.Compare over two slices whose cells are known. Of no program. -/
import Derived.Test.YtehlaomippbehaaLex
import Derived.Lib.Bytealg
import Derived.Lib.BytesEntry
import Derived.Laws.Externs
namespace Go.Gm

theorem u8_lt {x y : Int} (hx : 0 ≤ x ∧ x ≤ 255) (hy : 0 ≤ y ∧ y ≤ 255) : x.toNat.toUInt8 < y.toNat.toUInt8 ↔ x < y := by
  rw [UInt8.lt_iff_toNat_lt]
  have e1 : x.toNat.toUInt8.toNat = x.toNat := by simp [Nat.toUInt8]; omega
  have e2 : y.toNat.toUInt8.toNat = y.toNat := by simp [Nat.toUInt8]; omega
  rw [e1, e2]
  omega

theorem compareBytes_lex : ∀ {xs ys : List Int}, Small xs → Small ys → Lib.compareBytes (xs.map fun x => x.toNat.toUInt8) (ys.map fun x => x.toNat.toUInt8) = lex xs ys
  | [], [], _, _ => rfl
  | [], _ :: _, _, _ => rfl
  | _ :: _, [], _, _ => rfl
  | x :: xs, y :: ys, hx, hy => by
    have ih := compareBytes_lex (xs := xs) (ys := ys) (fun z hz => hx z (by simp [hz])) (fun z hz => hy z (by simp [hz]))
    have h1 := hx x (by simp)
    have h2 := hy y (by simp)
    simp only [List.map_cons, Lib.compareBytes, lex]
    rw [ih]
    simp only [u8_lt h1 h2, u8_lt h2 h1, cmpI]
    by_cases a : x < y
    · simp [a]
    · by_cases b : y < x
      · simp [a, b]
      · simp [a, b]

theorem run_compareSlices {P : Program} {w : World} {xs ys : List Int} {a b : Addr} {c d : Nat} (hx : Small xs) (hy : Small ys) (ha : ∀ j x, xs[j]? = some x → w.cell? (a.add j) = some (.int .u8 x)) (hb : ∀ j x, ys[j]? = some x → w.cell? (b.add j) = some (.int .u8 x)) :
    (Extern.BytealgCompare.compare #[.slice (some a) xs.length c, .slice (some b) ys.length d]).run P w = .ok (.int .i64 (lex xs ys)) w := by
  change Sem.run P (do pure (goInt (Extern.BytealgCompare.cmp (← Extern.Bytes.bytesOf (.slice (some a) xs.length c)) (← Extern.Bytes.bytesOf (.slice (some b) ys.length d))))) w = _
  simp only [Extern.Bytes.bytesOf, Sem.run_bind, Sem.run_pure, Lib.run_loadBytesX w xs a .empty ha, Lib.run_loadBytesX w ys b .empty hb, Result.andThen]
  rw [Lib.cmp_eq]
  have e : ∀ zs : List Int, (ByteArray.mk (ByteArray.empty.data ++ (Lib.bytesOf zs).toArray)).data.toList = zs.map fun x => x.toNat.toUInt8 := fun zs => by
    simp [Lib.bytesOf, ByteArray.empty, ByteArray.emptyWithCapacity]; rfl
  rw [e, e, compareBytes_lex hx hy]
  rfl
end Go.Gm
