/- The document's Same. -/
import Derived.Test.YthebgpbofjgcoaaDoorW7
import Derived.Test.YthebgpbofjgcoaaDoorTxt
namespace Go.Proofs.YthebgpbofjgcoaaDoor
open Go.RowKit Go.Gm

def macEq (n m : Note) : Bool := n.m0 == m.m0 && n.m1 == m.m1 && n.m2 == m.m2 && n.m3 == m.m3 && n.m4 == m.m4 && n.m5 == m.m5
/-- Are two notes the same? -/
def sameN (n m : Note) : Bool := n.kind == m.kind && (n.vlan == m.vlan && (macEq n m && (n.port == m.port && (n.state == m.state && ((strOfNums n.body).toList == (strOfNums m.body).toList)))))

theorem text_body {w : World} {v : Value} {l : List Int} (h : Bytes w v l) : (convert 33 9 v).run Tryd.prog w = .ok (.string (strOfNums l)) w :=
  run_string Tryd.underlying33 Tryd.underlying5 (by kernel_rfl) h

set_option linter.unusedSimpArgs false in
set_option maxHeartbeats 4000000 in
theorem sameN_any (n m : Note) (bo bo' : Option Addr) (bc bc' : Nat) (w : World) (hb : Bytes w (.slice bo n.body.length bc) n.body) (hb' : Bytes w (.slice bo' m.body.length bc') m.body) :
    Calls Tryd.prog 31 #[.agg (n.cells (.slice bo n.body.length bc)), .agg (m.cells (.slice bo' m.body.length bc'))] w fun e w' => e = .returned (.bool (sameN n m)) ∧ Step None w w' := by
  have st := ((Step.refl None w).alloc (.cells (n.cells (.slice bo n.body.length bc)) 35)).alloc (.cells (m.cells (.slice bo' m.body.length bc')) 35)
  have t1 := text_body (hb.step st (fun _ _ s => s.elim))
  have t2 := text_body (hb'.step st (fun _ _ s => s.elim))
  have ST := Lib.hid st
  clear st hb hb'
  have hmac : ∀ W, (Op.equalIn 10000 32 (.agg #[.int .u8 n.m0, .int .u8 n.m1, .int .u8 n.m2, .int .u8 n.m3, .int .u8 n.m4, .int .u8 n.m5]) (.agg #[.int .u8 m.m0, .int .u8 m.m1, .int .u8 m.m2, .int .u8 m.m3, .int .u8 m.m4, .int .u8 m.m5])).run Tryd.prog W = .ok (macEq n m) W := fun W =>
    run_equalIn_six W 9998 32 5 Tryd.underlying32 Tryd.underlying5 (fun w => by kernel_rfl) n.m0 n.m1 n.m2 n.m3 n.m4 n.m5 m.m0 m.m1 m.m2 m.m3 m.m4 m.m5
  unfold Note.cells at *
  unfold sameN
  go_enter Tryd.func31, Tryd.ntmps31
  cases h1 : (n.kind == m.kind)
  · go_wp2_with fail
    go_ret
    exact ⟨by simp, ST.out⟩
  cases h2 : (n.vlan == m.vlan)
  · go_wp2_with fail
    go_ret
    exact ⟨by simp, ST.out⟩
  cases h3 : macEq n m
  · go_wp2_with fail
    go_ret
    exact ⟨by simp [h3], ST.out⟩
  cases h4 : (n.port == m.port)
  · go_wp2_with fail
    go_ret
    exact ⟨by simp, ST.out⟩
  cases h5 : (n.state == m.state)
  · go_wp2_with fail
    go_ret
    exact ⟨by simp, ST.out⟩
  go_wp2_with fail
  go_ret
  exact ⟨by simp, ST.out⟩

theorem sameN_refl (n : Note) : sameN n n = true := by simp [sameN, macEq]
end Go.Proofs.YthebgpbofjgcoaaDoor
