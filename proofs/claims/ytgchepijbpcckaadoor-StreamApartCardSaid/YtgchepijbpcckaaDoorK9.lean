/- The document's Right. -/
import Derived.Test.YtgchepijbpcckaaDoorK7
namespace Go.Proofs.YtgchepijbpcckaaDoor
open Go.RowKit Go.Gm

theorem fit_has {k : Nat} {f v lo hi : Int} (h : hasB k f = true) : fit k v f lo hi = isIn v lo hi := by simp [fit, bnd, h]
theorem fit_not {k : Nat} {f v lo hi : Int} (h : hasB k f = false) : fit k v f lo hi = (v == 0) := by
  simp only [fit, bnd, h, Bool.false_eq_true, if_false, isIn]
  by_cases hv : v = 0
  · simp [hv]
  · have : (v == 0) = false := by simpa using hv
    rw [this]
    simp
    omega

set_option linter.unusedSimpArgs false in
set_option maxHeartbeats 8000000 in
theorem rright_at (k : Nat) (hk : k < 9) (vlan m0 m1 m2 m3 m4 m5 port state : Int) (len : Nat) (ao : Option Addr) (cap : Nat) (nm : Bool) (hnm : (m0 == 0 && m1 == 0 && m2 == 0 && m3 == 0 && m4 == 0 && m5 == 0) = nm) (w : World) :
    Calls Tryd.prog 31 #[.agg #[.int .i64 k, .int .i64 vlan, .int .u8 m0, .int .u8 m1, .int .u8 m2, .int .u8 m3, .int .u8 m4, .int .u8 m5, .int .i64 port, .int .i64 state, .slice ao len cap]] w fun e w' => e = .returned (.bool ((hasB k 2 || nm) && fit k vlan 1 1 4094 && fit k port 4 0 1000 && fit k state 8 0 (states k) && fit k len 16 0 1600)) ∧ Step None w w' := by
  have k0 : (0 : Int) ≤ (k : Int) := by omega
  have k9 : (k : Int) < 9 := by omega
  have hin : isIn (k : Int) 0 8 = true := by simp [isIn]; omega
  have hmac : ∀ W, (Op.equalIn 10000 33 (.agg #[.int .u8 m0, .int .u8 m1, .int .u8 m2, .int .u8 m3, .int .u8 m4, .int .u8 m5]) (.agg #[.int .u8 0, .int .u8 0, .int .u8 0, .int .u8 0, .int .u8 0, .int .u8 0])).run Tryd.prog W = .ok nm W := fun W => by
    rw [← hnm]
    exact run_equalIn_six W 9998 33 5 Tryd.underlying33 Tryd.underlying5 (fun w => by kernel_rfl) m0 m1 m2 m3 m4 m5 0 0 0 0 0 0
  clear hnm
  have hs := (Step.refl None w).alloc (.cells #[.int .i64 k, .int .i64 vlan, .int .u8 m0, .int .u8 m1, .int .u8 m2, .int .u8 m3, .int .u8 m4, .int .u8 m5, .int .i64 port, .int .i64 state, .slice ao len cap] 36)
  have HS := Lib.hid hs
  clear hs
  rcases (show k = 0 ∨ k = 1 ∨ k = 2 ∨ k = 3 ∨ k = 4 ∨ k = 5 ∨ k = 6 ∨ k = 7 ∨ k = 8 by omega) with hk0 | hk0 | hk0 | hk0 | hk0 | hk0 | hk0 | hk0 | hk0
  · have hv : hasB k 1 = false := by rw [hk0]; decide
    have hm : hasB k 2 = false := by rw [hk0]; decide
    have hp : hasB k 4 = false := by rw [hk0]; decide
    have hq : hasB k 8 = false := by rw [hk0]; decide
    have hb : hasB k 16 = false := by rw [hk0]; decide
    have hst : states k = 1 := by rw [hk0]; rfl
    have e6 : ((k : Int) == 6) = false := by rw [hk0]; decide
    have e8 : ((k : Int) == 8) = false := by rw [hk0]; decide
    clear hk0
    rw [fit_not hv, fit_not hp, hst, hm, fit_not hb]
    rw [show fit k state 8 0 1 = isIn state 0 0 by simp [fit, bnd, hq]]
    go_enter Tryd.func31, Tryd.ntmps31
    go_wp2_with fail
    refine (rwithin_any _ _ _ _).mono ?_
    rintro e w' ⟨rfl, rfl⟩
    go_wp2_with fail
    refine (rhas_vlan k hk _).mono ?_
    rintro e w' ⟨rfl, rfl⟩
    rw [hv]
    go_wp2_with fail
    refine (rhas_vlan k hk _).mono ?_
    rintro e w' ⟨rfl, rfl⟩
    rw [hv]
    cases f1 : (vlan == 0)
    · have f1' : (vlan != 0) = true := by simp [bne, f1]
      go_wp2_with fail
      go_ret
      exact ⟨by simp [f1], HS.out⟩
    have f1' : (vlan != 0) = false := by simp [bne, f1]
    go_wp2_with fail
    refine (rhas_mac k hk _).mono ?_
    rintro e w' ⟨rfl, rfl⟩
    rw [hm]
    cases nm
    · go_wp2_with fail
      go_ret
      exact ⟨by simp, HS.out⟩
    go_wp2_with fail
    refine (rhas_port k hk _).mono ?_
    rintro e w' ⟨rfl, rfl⟩
    rw [hp]
    go_wp2_with fail
    refine (rhas_port k hk _).mono ?_
    rintro e w' ⟨rfl, rfl⟩
    rw [hp]
    cases f4 : (port == 0)
    · have f4' : (port != 0) = true := by simp [bne, f4]
      go_wp2_with fail
      go_ret
      exact ⟨by simp [f4], HS.out⟩
    have f4' : (port != 0) = false := by simp [bne, f4]
    go_wp2_with fail
    refine (rhas_state k hk _).mono ?_
    rintro e w' ⟨rfl, rfl⟩
    rw [hq]
    go_wp2_with fail
    refine (rwithin_any _ _ _ _).mono ?_
    rintro e w' ⟨rfl, rfl⟩
    cases f8 : isIn state 0 0
    · go_wp2_with fail
      go_ret
      exact ⟨by simp [f8], HS.out⟩
    go_wp2_with fail
    refine (rhas_body k hk _).mono ?_
    rintro e w' ⟨rfl, rfl⟩
    rw [hb]
    go_wp2_with fail
    go_ret
    exact ⟨by simp [f1, f4, f8], HS.out⟩
  · have hv : hasB k 1 = true := by rw [hk0]; decide
    have hm : hasB k 2 = true := by rw [hk0]; decide
    have hp : hasB k 4 = true := by rw [hk0]; decide
    have hq : hasB k 8 = false := by rw [hk0]; decide
    have hb : hasB k 16 = false := by rw [hk0]; decide
    have hst : states k = 1 := by rw [hk0]; rfl
    have e6 : ((k : Int) == 6) = false := by rw [hk0]; decide
    have e8 : ((k : Int) == 8) = false := by rw [hk0]; decide
    clear hk0
    rw [fit_has hv, fit_has hp, hst, hm, fit_not hb]
    rw [show fit k state 8 0 1 = isIn state 0 0 by simp [fit, bnd, hq]]
    go_enter Tryd.func31, Tryd.ntmps31
    go_wp2_with fail
    refine (rwithin_any _ _ _ _).mono ?_
    rintro e w' ⟨rfl, rfl⟩
    go_wp2_with fail
    refine (rhas_vlan k hk _).mono ?_
    rintro e w' ⟨rfl, rfl⟩
    rw [hv]
    go_wp2_with fail
    refine (rwithin_any _ _ _ _).mono ?_
    rintro e w' ⟨rfl, rfl⟩
    cases f1 : isIn vlan 1 4094
    · go_wp2_with fail
      go_ret
      exact ⟨by simp [f1], HS.out⟩
    go_wp2_with fail
    refine (rhas_vlan k hk _).mono ?_
    rintro e w' ⟨rfl, rfl⟩
    rw [hv]
    go_wp2_with fail
    refine (rhas_mac k hk _).mono ?_
    rintro e w' ⟨rfl, rfl⟩
    rw [hm]
    go_wp2_with fail
    refine (rhas_port k hk _).mono ?_
    rintro e w' ⟨rfl, rfl⟩
    rw [hp]
    go_wp2_with fail
    refine (rwithin_any _ _ _ _).mono ?_
    rintro e w' ⟨rfl, rfl⟩
    cases f4 : isIn port 0 1000
    · go_wp2_with fail
      go_ret
      exact ⟨by simp [f4], HS.out⟩
    go_wp2_with fail
    refine (rhas_port k hk _).mono ?_
    rintro e w' ⟨rfl, rfl⟩
    rw [hp]
    go_wp2_with fail
    refine (rhas_state k hk _).mono ?_
    rintro e w' ⟨rfl, rfl⟩
    rw [hq]
    go_wp2_with fail
    refine (rwithin_any _ _ _ _).mono ?_
    rintro e w' ⟨rfl, rfl⟩
    cases f8 : isIn state 0 0
    · go_wp2_with fail
      go_ret
      exact ⟨by simp [f8], HS.out⟩
    go_wp2_with fail
    refine (rhas_body k hk _).mono ?_
    rintro e w' ⟨rfl, rfl⟩
    rw [hb]
    go_wp2_with fail
    go_ret
    exact ⟨by simp [f1, f4, f8], HS.out⟩
  · have hv : hasB k 1 = true := by rw [hk0]; decide
    have hm : hasB k 2 = true := by rw [hk0]; decide
    have hp : hasB k 4 = false := by rw [hk0]; decide
    have hq : hasB k 8 = false := by rw [hk0]; decide
    have hb : hasB k 16 = false := by rw [hk0]; decide
    have hst : states k = 1 := by rw [hk0]; rfl
    have e6 : ((k : Int) == 6) = false := by rw [hk0]; decide
    have e8 : ((k : Int) == 8) = false := by rw [hk0]; decide
    clear hk0
    rw [fit_has hv, fit_not hp, hst, hm, fit_not hb]
    rw [show fit k state 8 0 1 = isIn state 0 0 by simp [fit, bnd, hq]]
    go_enter Tryd.func31, Tryd.ntmps31
    go_wp2_with fail
    refine (rwithin_any _ _ _ _).mono ?_
    rintro e w' ⟨rfl, rfl⟩
    go_wp2_with fail
    refine (rhas_vlan k hk _).mono ?_
    rintro e w' ⟨rfl, rfl⟩
    rw [hv]
    go_wp2_with fail
    refine (rwithin_any _ _ _ _).mono ?_
    rintro e w' ⟨rfl, rfl⟩
    cases f1 : isIn vlan 1 4094
    · go_wp2_with fail
      go_ret
      exact ⟨by simp [f1], HS.out⟩
    go_wp2_with fail
    refine (rhas_vlan k hk _).mono ?_
    rintro e w' ⟨rfl, rfl⟩
    rw [hv]
    go_wp2_with fail
    refine (rhas_mac k hk _).mono ?_
    rintro e w' ⟨rfl, rfl⟩
    rw [hm]
    go_wp2_with fail
    refine (rhas_port k hk _).mono ?_
    rintro e w' ⟨rfl, rfl⟩
    rw [hp]
    go_wp2_with fail
    refine (rhas_port k hk _).mono ?_
    rintro e w' ⟨rfl, rfl⟩
    rw [hp]
    cases f4 : (port == 0)
    · have f4' : (port != 0) = true := by simp [bne, f4]
      go_wp2_with fail
      go_ret
      exact ⟨by simp [f4], HS.out⟩
    have f4' : (port != 0) = false := by simp [bne, f4]
    go_wp2_with fail
    refine (rhas_state k hk _).mono ?_
    rintro e w' ⟨rfl, rfl⟩
    rw [hq]
    go_wp2_with fail
    refine (rwithin_any _ _ _ _).mono ?_
    rintro e w' ⟨rfl, rfl⟩
    cases f8 : isIn state 0 0
    · go_wp2_with fail
      go_ret
      exact ⟨by simp [f8], HS.out⟩
    go_wp2_with fail
    refine (rhas_body k hk _).mono ?_
    rintro e w' ⟨rfl, rfl⟩
    rw [hb]
    go_wp2_with fail
    go_ret
    exact ⟨by simp [f1, f4, f8], HS.out⟩
  · have hv : hasB k 1 = false := by rw [hk0]; decide
    have hm : hasB k 2 = false := by rw [hk0]; decide
    have hp : hasB k 4 = true := by rw [hk0]; decide
    have hq : hasB k 8 = true := by rw [hk0]; decide
    have hb : hasB k 16 = false := by rw [hk0]; decide
    have hst : states k = 1 := by rw [hk0]; rfl
    have e6 : ((k : Int) == 6) = false := by rw [hk0]; decide
    have e8 : ((k : Int) == 8) = false := by rw [hk0]; decide
    clear hk0
    rw [fit_not hv, fit_has hp, hst, hm, fit_not hb]
    rw [fit_has hq]
    go_enter Tryd.func31, Tryd.ntmps31
    go_wp2_with fail
    refine (rwithin_any _ _ _ _).mono ?_
    rintro e w' ⟨rfl, rfl⟩
    go_wp2_with fail
    refine (rhas_vlan k hk _).mono ?_
    rintro e w' ⟨rfl, rfl⟩
    rw [hv]
    go_wp2_with fail
    refine (rhas_vlan k hk _).mono ?_
    rintro e w' ⟨rfl, rfl⟩
    rw [hv]
    cases f1 : (vlan == 0)
    · have f1' : (vlan != 0) = true := by simp [bne, f1]
      go_wp2_with fail
      go_ret
      exact ⟨by simp [f1], HS.out⟩
    have f1' : (vlan != 0) = false := by simp [bne, f1]
    go_wp2_with fail
    refine (rhas_mac k hk _).mono ?_
    rintro e w' ⟨rfl, rfl⟩
    rw [hm]
    cases nm
    · go_wp2_with fail
      go_ret
      exact ⟨by simp, HS.out⟩
    go_wp2_with fail
    refine (rhas_port k hk _).mono ?_
    rintro e w' ⟨rfl, rfl⟩
    rw [hp]
    go_wp2_with fail
    refine (rwithin_any _ _ _ _).mono ?_
    rintro e w' ⟨rfl, rfl⟩
    cases f4 : isIn port 0 1000
    · go_wp2_with fail
      go_ret
      exact ⟨by simp [f4], HS.out⟩
    go_wp2_with fail
    refine (rhas_port k hk _).mono ?_
    rintro e w' ⟨rfl, rfl⟩
    rw [hp]
    go_wp2_with fail
    refine (rhas_state k hk _).mono ?_
    rintro e w' ⟨rfl, rfl⟩
    rw [hq]
    go_wp2_with fail
    refine (rwithin_any _ _ _ _).mono ?_
    rintro e w' ⟨rfl, rfl⟩
    cases f8 : isIn state 0 1
    · go_wp2_with fail
      go_ret
      exact ⟨by simp [f8], HS.out⟩
    go_wp2_with fail
    refine (rhas_body k hk _).mono ?_
    rintro e w' ⟨rfl, rfl⟩
    rw [hb]
    go_wp2_with fail
    go_ret
    exact ⟨by simp [f1, f4, f8], HS.out⟩
  · have hv : hasB k 1 = false := by rw [hk0]; decide
    have hm : hasB k 2 = false := by rw [hk0]; decide
    have hp : hasB k 4 = true := by rw [hk0]; decide
    have hq : hasB k 8 = true := by rw [hk0]; decide
    have hb : hasB k 16 = false := by rw [hk0]; decide
    have hst : states k = 1 := by rw [hk0]; rfl
    have e6 : ((k : Int) == 6) = false := by rw [hk0]; decide
    have e8 : ((k : Int) == 8) = false := by rw [hk0]; decide
    clear hk0
    rw [fit_not hv, fit_has hp, hst, hm, fit_not hb]
    rw [fit_has hq]
    go_enter Tryd.func31, Tryd.ntmps31
    go_wp2_with fail
    refine (rwithin_any _ _ _ _).mono ?_
    rintro e w' ⟨rfl, rfl⟩
    go_wp2_with fail
    refine (rhas_vlan k hk _).mono ?_
    rintro e w' ⟨rfl, rfl⟩
    rw [hv]
    go_wp2_with fail
    refine (rhas_vlan k hk _).mono ?_
    rintro e w' ⟨rfl, rfl⟩
    rw [hv]
    cases f1 : (vlan == 0)
    · have f1' : (vlan != 0) = true := by simp [bne, f1]
      go_wp2_with fail
      go_ret
      exact ⟨by simp [f1], HS.out⟩
    have f1' : (vlan != 0) = false := by simp [bne, f1]
    go_wp2_with fail
    refine (rhas_mac k hk _).mono ?_
    rintro e w' ⟨rfl, rfl⟩
    rw [hm]
    cases nm
    · go_wp2_with fail
      go_ret
      exact ⟨by simp, HS.out⟩
    go_wp2_with fail
    refine (rhas_port k hk _).mono ?_
    rintro e w' ⟨rfl, rfl⟩
    rw [hp]
    go_wp2_with fail
    refine (rwithin_any _ _ _ _).mono ?_
    rintro e w' ⟨rfl, rfl⟩
    cases f4 : isIn port 0 1000
    · go_wp2_with fail
      go_ret
      exact ⟨by simp [f4], HS.out⟩
    go_wp2_with fail
    refine (rhas_port k hk _).mono ?_
    rintro e w' ⟨rfl, rfl⟩
    rw [hp]
    go_wp2_with fail
    refine (rhas_state k hk _).mono ?_
    rintro e w' ⟨rfl, rfl⟩
    rw [hq]
    go_wp2_with fail
    refine (rwithin_any _ _ _ _).mono ?_
    rintro e w' ⟨rfl, rfl⟩
    cases f8 : isIn state 0 1
    · go_wp2_with fail
      go_ret
      exact ⟨by simp [f8], HS.out⟩
    go_wp2_with fail
    refine (rhas_body k hk _).mono ?_
    rintro e w' ⟨rfl, rfl⟩
    rw [hb]
    go_wp2_with fail
    go_ret
    exact ⟨by simp [f1, f4, f8], HS.out⟩
  · have hv : hasB k 1 = false := by rw [hk0]; decide
    have hm : hasB k 2 = false := by rw [hk0]; decide
    have hp : hasB k 4 = true := by rw [hk0]; decide
    have hq : hasB k 8 = false := by rw [hk0]; decide
    have hb : hasB k 16 = true := by rw [hk0]; decide
    have hst : states k = 1 := by rw [hk0]; rfl
    have e6 : ((k : Int) == 6) = false := by rw [hk0]; decide
    have e8 : ((k : Int) == 8) = false := by rw [hk0]; decide
    clear hk0
    rw [fit_not hv, fit_has hp, hst, hm, fit_has hb]
    rw [show fit k state 8 0 1 = isIn state 0 0 by simp [fit, bnd, hq]]
    go_enter Tryd.func31, Tryd.ntmps31
    go_wp2_with fail
    refine (rwithin_any _ _ _ _).mono ?_
    rintro e w' ⟨rfl, rfl⟩
    go_wp2_with fail
    refine (rhas_vlan k hk _).mono ?_
    rintro e w' ⟨rfl, rfl⟩
    rw [hv]
    go_wp2_with fail
    refine (rhas_vlan k hk _).mono ?_
    rintro e w' ⟨rfl, rfl⟩
    rw [hv]
    cases f1 : (vlan == 0)
    · have f1' : (vlan != 0) = true := by simp [bne, f1]
      go_wp2_with fail
      go_ret
      exact ⟨by simp [f1], HS.out⟩
    have f1' : (vlan != 0) = false := by simp [bne, f1]
    go_wp2_with fail
    refine (rhas_mac k hk _).mono ?_
    rintro e w' ⟨rfl, rfl⟩
    rw [hm]
    cases nm
    · go_wp2_with fail
      go_ret
      exact ⟨by simp, HS.out⟩
    go_wp2_with fail
    refine (rhas_port k hk _).mono ?_
    rintro e w' ⟨rfl, rfl⟩
    rw [hp]
    go_wp2_with fail
    refine (rwithin_any _ _ _ _).mono ?_
    rintro e w' ⟨rfl, rfl⟩
    cases f4 : isIn port 0 1000
    · go_wp2_with fail
      go_ret
      exact ⟨by simp [f4], HS.out⟩
    go_wp2_with fail
    refine (rhas_port k hk _).mono ?_
    rintro e w' ⟨rfl, rfl⟩
    rw [hp]
    go_wp2_with fail
    refine (rhas_state k hk _).mono ?_
    rintro e w' ⟨rfl, rfl⟩
    rw [hq]
    go_wp2_with fail
    refine (rwithin_any _ _ _ _).mono ?_
    rintro e w' ⟨rfl, rfl⟩
    cases f8 : isIn state 0 0
    · go_wp2_with fail
      go_ret
      exact ⟨by simp [f8], HS.out⟩
    go_wp2_with fail
    refine (rhas_body k hk _).mono ?_
    rintro e w' ⟨rfl, rfl⟩
    rw [hb]
    cases f9 : decide (len ≤ 1600)
    · have f9' : decide ((len : Int) ≤ 1600) = false := by simp at f9 ⊢; omega
      have f10 : isIn (len : Int) 0 1600 = false := by simp at f9; simp [isIn]; omega
      have f11 : ((len : Int) == 0) = false := by simp at f9 ⊢; omega
      go_wp2_with fail
      go_ret
      exact ⟨by simp [f1, f4, f8, f10], HS.out⟩
    · have f9' : decide ((len : Int) ≤ 1600) = true := by simp at f9 ⊢; omega
      have f10 : isIn (len : Int) 0 1600 = true := by simp at f9; simp [isIn]; omega
      go_wp2_with fail
      go_ret
      exact ⟨by simp [f1, f4, f8, f10], HS.out⟩
  · have hv : hasB k 1 = false := by rw [hk0]; decide
    have hm : hasB k 2 = false := by rw [hk0]; decide
    have hp : hasB k 4 = true := by rw [hk0]; decide
    have hq : hasB k 8 = true := by rw [hk0]; decide
    have hb : hasB k 16 = false := by rw [hk0]; decide
    have hst : states k = 2 := by rw [hk0]; rfl
    have e6 : ((k : Int) == 6) = true := by rw [hk0]; decide
    have e8 : ((k : Int) == 8) = false := by rw [hk0]; decide
    clear hk0
    rw [fit_not hv, fit_has hp, hst, hm, fit_not hb]
    rw [fit_has hq]
    go_enter Tryd.func31, Tryd.ntmps31
    go_wp2_with fail
    refine (rwithin_any _ _ _ _).mono ?_
    rintro e w' ⟨rfl, rfl⟩
    go_wp2_with fail
    refine (rhas_vlan k hk _).mono ?_
    rintro e w' ⟨rfl, rfl⟩
    rw [hv]
    go_wp2_with fail
    refine (rhas_vlan k hk _).mono ?_
    rintro e w' ⟨rfl, rfl⟩
    rw [hv]
    cases f1 : (vlan == 0)
    · have f1' : (vlan != 0) = true := by simp [bne, f1]
      go_wp2_with fail
      go_ret
      exact ⟨by simp [f1], HS.out⟩
    have f1' : (vlan != 0) = false := by simp [bne, f1]
    go_wp2_with fail
    refine (rhas_mac k hk _).mono ?_
    rintro e w' ⟨rfl, rfl⟩
    rw [hm]
    cases nm
    · go_wp2_with fail
      go_ret
      exact ⟨by simp, HS.out⟩
    go_wp2_with fail
    refine (rhas_port k hk _).mono ?_
    rintro e w' ⟨rfl, rfl⟩
    rw [hp]
    go_wp2_with fail
    refine (rwithin_any _ _ _ _).mono ?_
    rintro e w' ⟨rfl, rfl⟩
    cases f4 : isIn port 0 1000
    · go_wp2_with fail
      go_ret
      exact ⟨by simp [f4], HS.out⟩
    go_wp2_with fail
    refine (rhas_port k hk _).mono ?_
    rintro e w' ⟨rfl, rfl⟩
    rw [hp]
    go_wp2_with fail
    refine (rhas_state k hk _).mono ?_
    rintro e w' ⟨rfl, rfl⟩
    rw [hq]
    go_wp2_with fail
    refine (rwithin_any _ _ _ _).mono ?_
    rintro e w' ⟨rfl, rfl⟩
    cases f8 : isIn state 0 2
    · go_wp2_with fail
      go_ret
      exact ⟨by simp [f8], HS.out⟩
    go_wp2_with fail
    refine (rhas_body k hk _).mono ?_
    rintro e w' ⟨rfl, rfl⟩
    rw [hb]
    go_wp2_with fail
    go_ret
    exact ⟨by simp [f1, f4, f8], HS.out⟩
  · have hv : hasB k 1 = false := by rw [hk0]; decide
    have hm : hasB k 2 = false := by rw [hk0]; decide
    have hp : hasB k 4 = false := by rw [hk0]; decide
    have hq : hasB k 8 = true := by rw [hk0]; decide
    have hb : hasB k 16 = false := by rw [hk0]; decide
    have hst : states k = 1 := by rw [hk0]; rfl
    have e6 : ((k : Int) == 6) = false := by rw [hk0]; decide
    have e8 : ((k : Int) == 8) = false := by rw [hk0]; decide
    clear hk0
    rw [fit_not hv, fit_not hp, hst, hm, fit_not hb]
    rw [fit_has hq]
    go_enter Tryd.func31, Tryd.ntmps31
    go_wp2_with fail
    refine (rwithin_any _ _ _ _).mono ?_
    rintro e w' ⟨rfl, rfl⟩
    go_wp2_with fail
    refine (rhas_vlan k hk _).mono ?_
    rintro e w' ⟨rfl, rfl⟩
    rw [hv]
    go_wp2_with fail
    refine (rhas_vlan k hk _).mono ?_
    rintro e w' ⟨rfl, rfl⟩
    rw [hv]
    cases f1 : (vlan == 0)
    · have f1' : (vlan != 0) = true := by simp [bne, f1]
      go_wp2_with fail
      go_ret
      exact ⟨by simp [f1], HS.out⟩
    have f1' : (vlan != 0) = false := by simp [bne, f1]
    go_wp2_with fail
    refine (rhas_mac k hk _).mono ?_
    rintro e w' ⟨rfl, rfl⟩
    rw [hm]
    cases nm
    · go_wp2_with fail
      go_ret
      exact ⟨by simp, HS.out⟩
    go_wp2_with fail
    refine (rhas_port k hk _).mono ?_
    rintro e w' ⟨rfl, rfl⟩
    rw [hp]
    go_wp2_with fail
    refine (rhas_port k hk _).mono ?_
    rintro e w' ⟨rfl, rfl⟩
    rw [hp]
    cases f4 : (port == 0)
    · have f4' : (port != 0) = true := by simp [bne, f4]
      go_wp2_with fail
      go_ret
      exact ⟨by simp [f4], HS.out⟩
    have f4' : (port != 0) = false := by simp [bne, f4]
    go_wp2_with fail
    refine (rhas_state k hk _).mono ?_
    rintro e w' ⟨rfl, rfl⟩
    rw [hq]
    go_wp2_with fail
    refine (rwithin_any _ _ _ _).mono ?_
    rintro e w' ⟨rfl, rfl⟩
    cases f8 : isIn state 0 1
    · go_wp2_with fail
      go_ret
      exact ⟨by simp [f8], HS.out⟩
    go_wp2_with fail
    refine (rhas_body k hk _).mono ?_
    rintro e w' ⟨rfl, rfl⟩
    rw [hb]
    go_wp2_with fail
    go_ret
    exact ⟨by simp [f1, f4, f8], HS.out⟩
  · have hv : hasB k 1 = true := by rw [hk0]; decide
    have hm : hasB k 2 = false := by rw [hk0]; decide
    have hp : hasB k 4 = true := by rw [hk0]; decide
    have hq : hasB k 8 = true := by rw [hk0]; decide
    have hb : hasB k 16 = true := by rw [hk0]; decide
    have hst : states k = 250 := by rw [hk0]; rfl
    have e6 : ((k : Int) == 6) = false := by rw [hk0]; decide
    have e8 : ((k : Int) == 8) = true := by rw [hk0]; decide
    clear hk0
    rw [fit_has hv, fit_has hp, hst, hm, fit_has hb]
    rw [fit_has hq]
    go_enter Tryd.func31, Tryd.ntmps31
    go_wp2_with fail
    refine (rwithin_any _ _ _ _).mono ?_
    rintro e w' ⟨rfl, rfl⟩
    go_wp2_with fail
    refine (rhas_vlan k hk _).mono ?_
    rintro e w' ⟨rfl, rfl⟩
    rw [hv]
    go_wp2_with fail
    refine (rwithin_any _ _ _ _).mono ?_
    rintro e w' ⟨rfl, rfl⟩
    cases f1 : isIn vlan 1 4094
    · go_wp2_with fail
      go_ret
      exact ⟨by simp [f1], HS.out⟩
    go_wp2_with fail
    refine (rhas_vlan k hk _).mono ?_
    rintro e w' ⟨rfl, rfl⟩
    rw [hv]
    go_wp2_with fail
    refine (rhas_mac k hk _).mono ?_
    rintro e w' ⟨rfl, rfl⟩
    rw [hm]
    cases nm
    · go_wp2_with fail
      go_ret
      exact ⟨by simp, HS.out⟩
    go_wp2_with fail
    refine (rhas_port k hk _).mono ?_
    rintro e w' ⟨rfl, rfl⟩
    rw [hp]
    go_wp2_with fail
    refine (rwithin_any _ _ _ _).mono ?_
    rintro e w' ⟨rfl, rfl⟩
    cases f4 : isIn port 0 1000
    · go_wp2_with fail
      go_ret
      exact ⟨by simp [f4], HS.out⟩
    go_wp2_with fail
    refine (rhas_port k hk _).mono ?_
    rintro e w' ⟨rfl, rfl⟩
    rw [hp]
    go_wp2_with fail
    refine (rhas_state k hk _).mono ?_
    rintro e w' ⟨rfl, rfl⟩
    rw [hq]
    go_wp2_with fail
    refine (rwithin_any _ _ _ _).mono ?_
    rintro e w' ⟨rfl, rfl⟩
    cases f8 : isIn state 0 250
    · go_wp2_with fail
      go_ret
      exact ⟨by simp [f8], HS.out⟩
    go_wp2_with fail
    refine (rhas_body k hk _).mono ?_
    rintro e w' ⟨rfl, rfl⟩
    rw [hb]
    cases f9 : decide (len ≤ 1600)
    · have f9' : decide ((len : Int) ≤ 1600) = false := by simp at f9 ⊢; omega
      have f10 : isIn (len : Int) 0 1600 = false := by simp at f9; simp [isIn]; omega
      have f11 : ((len : Int) == 0) = false := by simp at f9 ⊢; omega
      go_wp2_with fail
      go_ret
      exact ⟨by simp [f1, f4, f8, f10], HS.out⟩
    · have f9' : decide ((len : Int) ≤ 1600) = true := by simp at f9 ⊢; omega
      have f10 : isIn (len : Int) 0 1600 = true := by simp at f9; simp [isIn]; omega
      go_wp2_with fail
      go_ret
      exact ⟨by simp [f1, f4, f8, f10], HS.out⟩

theorem rright_any (n : Note) (ao : Option Addr) (cap : Nat) (w : World) :
    Calls Tryd.prog 31 #[.agg (n.cells (.slice ao n.body.length cap))] w fun e w' => e = .returned (.bool (right n)) ∧ Step None w w' := by
  obtain ⟨kind, vlan, m0, m1, m2, m3, m4, m5, port, state, body⟩ := n
  unfold Note.cells right
  dsimp only
  by_cases hin : isIn kind 0 8 = true
  · rw [hin]
    obtain ⟨k, rfl⟩ : ∃ k : Nat, kind = k := ⟨kind.toNat, by simp [isIn] at hin; omega⟩
    have hk : k < 9 := by simp [isIn] at hin; omega
    exact rright_at k hk vlan m0 m1 m2 m3 m4 m5 port state body.length ao cap _ rfl w
  · have hin' : isIn kind 0 8 = false := by simpa using hin
    rw [hin']
    go_enter Tryd.func31, Tryd.ntmps31
    go_wp2_with fail
    refine (rwithin_any _ _ _ _).mono ?_
    rintro e w' ⟨rfl, rfl⟩
    go_wp2_with fail
    go_ret
    exact ⟨rfl, (Step.refl None w).alloc _⟩

end Go.Proofs.YtgchepijbpcckaaDoor
