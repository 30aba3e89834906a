/- ControlKinds, walked. -/
import Derived.Test.YtkboghhmldokiaaDoorW13
namespace Go.Proofs.YtkboghhmldokiaaDoor
open Go.RowKit Go.Gm

/-- A note of which its kind and its VLAN are told. -/
def slim (kind vlan : Int) : Note := ⟨kind, vlan, 0, 0, 0, 0, 0, 0, 0, 0, []⟩
def hasVl (kind : Int) : Bool := kind == 1 || (kind == 2 || kind == 8)
def isBare (kind : Int) : Bool := kind == 0 || (decide (3 ≤ kind) && decide (kind ≤ 7))

theorem slim_right (kind vlan : Int) : right (slim kind vlan) = (hasVl kind && isIn vlan 1 4094 || isBare kind && (vlan == 0)) := by
  by_cases hk : 0 ≤ kind ∧ kind ≤ 8
  · have : ∀ k : Fin 9, ∀ x y : Bool, (isIn (k.val : Int) 0 8 && ((hasB k.val 2 || true) && (if hasB k.val 1 then x else y) && true && true && true)) = (hasVl (k.val : Int) && x || isBare (k.val : Int) && y) := by decide
    have h := this ⟨kind.toNat, by omega⟩ (isIn vlan 1 4094) (vlan == 0)
    have e : ((kind.toNat : Nat) : Int) = kind := by omega
    simp only [e] at h
    rw [← h]
    unfold right rightAt
    have hv : fit kind.toNat vlan 1 1 4094 = (if hasB kind.toNat 1 then isIn vlan 1 4094 else (vlan == 0)) := by
      cases hh : hasB kind.toNat 1
      · simpa using fit_not hh
      · simpa using fit_has hh
    have hz : ∀ f hi : Int, 0 ≤ hi → fit kind.toNat 0 f 0 hi = true := by
      intro f hi h0
      cases hh : hasB kind.toNat f <;> simp [fit, bnd, isIn, hh, h0]
    have hst : (0 : Int) ≤ states kind.toNat := by unfold states; repeat (split <;> try omega)
    simp only [slim, hv, hz 4 1000 (by omega), hz 8 _ hst, List.length_nil, Int.ofNat_zero, Note.noMac]
    rw [hz 16 1600 (by omega)]
    simp
  · have h1 : isIn kind 0 8 = false := by simp [isIn]; omega
    have h2 : hasVl kind = false := by simp [hasVl]; omega
    have h3 : isBare kind = false := by simp [isBare]; omega
    simp [right, slim, h1, h2, h3]

theorem slim_bare (kind : Int) : right (slim kind 0) = isBare kind := by
  rw [slim_right]
  cases hasVl kind <;> simp [isIn]

set_option linter.unusedSimpArgs false in
set_option maxHeartbeats 4000000 in
theorem controlKinds_walk (v0 v1 : Value) (w : World) (hT : HasAt 0 w) (h0 : Arg w (.int .i64) v0) (h1 : Arg w (.int .i64) v1) :
    Calls Tryd.prog 5 #[v0, v1] w fun e w' => e = .returned (.bool true) ∧ Below w.heap.size w w' := by
  obtain ⟨kind, rfl, -⟩ := h0.int
  obtain ⟨vlan, rfl, -⟩ := h1.int
  have T := Lib.hid hT
  clear hT
  have R1 : Hid (∀ w, HasAt 0 w → Calls Tryd.prog 13 #[.agg #[.int .i64 kind, .int .i64 0, .int .u8 0, .int .u8 0, .int .u8 0, .int .u8 0, .int .u8 0, .int .u8 0, .int .i64 0, .int .i64 0, .slice none 0 0]] w fun e w' => e = .returned (.bool (isBare kind)) ∧ Step None w w') := fun w hT => by
    rw [← slim_bare]
    exact right_any (slim kind 0) none 0 w hT
  have R2 : Hid (∀ w, HasAt 0 w → Calls Tryd.prog 13 #[.agg #[.int .i64 kind, .int .i64 vlan, .int .u8 0, .int .u8 0, .int .u8 0, .int .u8 0, .int .u8 0, .int .u8 0, .int .i64 0, .int .i64 0, .slice none 0 0]] w fun e w' => e = .returned (.bool (hasVl kind && isIn vlan 1 4094 || isBare kind && (vlan == 0))) ∧ Step None w w') := fun w hT => by
    rw [← slim_right]
    exact right_any (slim kind vlan) none 0 w hT
  go_enter Tryd.func5, Tryd.ntmps5
  go_wp2_with fail
  refine (awake_any _ T.out).mono ?_
  rintro e w2 ⟨rfl, s2⟩
  have S2 := Lib.hid s2
  clear s2
  go_wp2_with fail
  refine (R1.out _ (T.out.still S2.out)).mono ?_
  rintro e w3 ⟨rfl, s3⟩
  have S3 := Lib.hid (S2.out.then_ s3)
  clear s3
  go_wp2_with fail
  refine (R2.out _ (T.out.still S3.out)).mono ?_
  rintro e w4 ⟨rfl, s4⟩
  have S4 := Lib.hid (S3.out.then_ s4)
  clear s4 R1 R2 S2 S3
  have hB : isBare kind = ((kind == 0) || (decide (3 ≤ kind) && decide (kind ≤ 7))) := rfl
  have hI : isIn vlan 1 4094 = (decide (1 ≤ vlan) && decide (vlan ≤ 4094)) := rfl
  have hV : hasVl kind = ((kind == 1) || ((kind == 2) || (kind == 8))) := rfl
  rw [hB, hI, hV]
  clear hB hI hV
  cases a1 : (kind == 1) <;> cases a2 : (kind == 2) <;> cases a3 : (kind == 8) <;> cases a4 : (kind == 0) <;> cases a5 : decide (3 ≤ kind) <;> cases a6 : decide (kind ≤ 7) <;> cases a7 : decide (1 ≤ vlan) <;> cases a8 : decide (vlan ≤ 4094) <;> cases a9 : (vlan == 0) <;> first | (exfalso; simp at a1 a2 a3 a4 a5 a6 a7 a8 a9; omega) | skip
  all_goals
    go_wp2_with fail
    go_ret
    exact ⟨rfl, S4.out.toBelow⟩
end Go.Proofs.YtkboghhmldokiaaDoor
