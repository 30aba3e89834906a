/- The document's small functions. -/
import Derived.Test.YtgchepijbpcckaaDoorK1
import Derived.Test.YtgchepijbpcckaaDoorK2
namespace Go.Proofs.YtgchepijbpcckaaDoor
open Go.RowKit Go.Gm

theorem rhas_vlan (k : Nat) (hk : k < 9) (w : World) : Calls Tryd.prog 48 #[.int .i64 k] w fun e w' => e = .returned (.bool (hasB k 1)) ∧ w = w' := by
  rcases (show k = 0 ∨ k = 1 ∨ k = 2 ∨ k = 3 ∨ k = 4 ∨ k = 5 ∨ k = 6 ∨ k = 7 ∨ k = 8 by omega) with rfl | rfl | rfl | rfl | rfl | rfl | rfl | rfl | rfl <;>
    (go_enter Tryd.func48, Tryd.ntmps48
     go_wp2
     go_ret
     exact ⟨congrArg (fun x => Ending.returned (.bool x)) (by decide), rfl⟩)

theorem rhas_mac (k : Nat) (hk : k < 9) (w : World) : Calls Tryd.prog 49 #[.int .i64 k] w fun e w' => e = .returned (.bool (hasB k 2)) ∧ w = w' := by
  rcases (show k = 0 ∨ k = 1 ∨ k = 2 ∨ k = 3 ∨ k = 4 ∨ k = 5 ∨ k = 6 ∨ k = 7 ∨ k = 8 by omega) with rfl | rfl | rfl | rfl | rfl | rfl | rfl | rfl | rfl <;>
    (go_enter Tryd.func49, Tryd.ntmps49
     go_wp2
     go_ret
     exact ⟨congrArg (fun x => Ending.returned (.bool x)) (by decide), rfl⟩)

theorem rhas_port (k : Nat) (hk : k < 9) (w : World) : Calls Tryd.prog 50 #[.int .i64 k] w fun e w' => e = .returned (.bool (hasB k 4)) ∧ w = w' := by
  rcases (show k = 0 ∨ k = 1 ∨ k = 2 ∨ k = 3 ∨ k = 4 ∨ k = 5 ∨ k = 6 ∨ k = 7 ∨ k = 8 by omega) with rfl | rfl | rfl | rfl | rfl | rfl | rfl | rfl | rfl <;>
    (go_enter Tryd.func50, Tryd.ntmps50
     go_wp2
     go_ret
     exact ⟨congrArg (fun x => Ending.returned (.bool x)) (by decide), rfl⟩)

theorem rhas_state (k : Nat) (hk : k < 9) (w : World) : Calls Tryd.prog 51 #[.int .i64 k] w fun e w' => e = .returned (.bool (hasB k 8)) ∧ w = w' := by
  rcases (show k = 0 ∨ k = 1 ∨ k = 2 ∨ k = 3 ∨ k = 4 ∨ k = 5 ∨ k = 6 ∨ k = 7 ∨ k = 8 by omega) with rfl | rfl | rfl | rfl | rfl | rfl | rfl | rfl | rfl <;>
    (go_enter Tryd.func51, Tryd.ntmps51
     go_wp2
     go_ret
     exact ⟨congrArg (fun x => Ending.returned (.bool x)) (by decide), rfl⟩)

theorem rhas_body (k : Nat) (hk : k < 9) (w : World) : Calls Tryd.prog 52 #[.int .i64 k] w fun e w' => e = .returned (.bool (hasB k 16)) ∧ w = w' := by
  rcases (show k = 0 ∨ k = 1 ∨ k = 2 ∨ k = 3 ∨ k = 4 ∨ k = 5 ∨ k = 6 ∨ k = 7 ∨ k = 8 by omega) with rfl | rfl | rfl | rfl | rfl | rfl | rfl | rfl | rfl <;>
    (go_enter Tryd.func52, Tryd.ntmps52
     go_wp2
     go_ret
     exact ⟨congrArg (fun x => Ending.returned (.bool x)) (by decide), rfl⟩)

theorem rwithin_any (n low high : Int) (w : World) : Calls Tryd.prog 47 #[.int .i64 n, .int .i64 low, .int .i64 high] w fun e w' => e = .returned (.bool (isIn n low high)) ∧ w = w' := by
  unfold isIn
  by_cases h : low ≤ n
  · have h' : decide (low ≤ n) = true := by simpa using h
    go_enter Tryd.func47, Tryd.ntmps47
    go_wp2
    go_ret
    exact ⟨by simp [h], rfl⟩
  · have h' : decide (low ≤ n) = false := by simpa using h
    go_enter Tryd.func47, Tryd.ntmps47
    go_wp2
    go_ret
    exact ⟨by simp, rfl⟩

end Go.Proofs.YtgchepijbpcckaaDoor
