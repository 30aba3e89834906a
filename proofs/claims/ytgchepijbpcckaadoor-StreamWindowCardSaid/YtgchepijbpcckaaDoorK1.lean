/- The small functions of package control. -/
import Derived.Test.YtgchepijbpcckaaDoorRows
import Derived.Test.YtgchepijbpcckaaDoorHas
import Derived.Test.YtgchepijbpcckaaDoorArrEq
namespace Go.Proofs.YtgchepijbpcckaaDoor
open Go.RowKit Go.Gm

def isIn (n low high : Int) : Bool := decide (low ≤ n) && decide (n ≤ high)

theorem within_any (n low high : Int) (w : World) : Calls Tryd.prog 33 #[.int .i64 n, .int .i64 low, .int .i64 high] w fun e w' => e = .returned (.bool (isIn n low high)) ∧ w = w' := by
  unfold isIn
  by_cases h : low ≤ n
  · have h' : decide (low ≤ n) = true := by simpa using h
    go_enter Tryd.func33, Tryd.ntmps33
    go_wp2
    go_ret
    exact ⟨by simp [h], rfl⟩
  · have h' : decide (low ≤ n) = false := by simpa using h
    go_enter Tryd.func33, Tryd.ntmps33
    go_wp2
    go_ret
    exact ⟨by simp, rfl⟩

def num (n : Int) : Bool := isIn n 0 1073741824
theorem numbered_any (n : Int) (w : World) : Calls Tryd.prog 37 #[.int .i64 n] w fun e w' => e = .returned (.bool (num n)) ∧ w = w' := by
  go_enter Tryd.func37, Tryd.ntmps37
  go_wp2_with (first | (go_at_call 33; refine (within_any _ _ _ _).mono ?_; rintro e w' ⟨rfl, rfl⟩))
  go_ret
  exact ⟨rfl, rfl⟩

/-- Has a kind the field? -/
def hasB (k : Nat) (f : Int) : Bool := bits BinOp.and .i64 (tab.getD k 0) f != 0

def bnd (k : Nat) (f v : Int) : Int := if hasB k f then v else 0
theorem bounds_any (k : Nat) (f low high : Int) (w : World) (hk : k < 9) (hT : HasAt 0 w) :
    Calls Tryd.prog 35 #[.int .i64 k, .int .i64 f, .int .i64 low, .int .i64 high] w fun e w' => e = .returned (.tuple #[.int .i64 (bnd k f low), .int .i64 (bnd k f high)]) ∧ w = w' := by
  have h0 := hT k hk
  have k0 : (0 : Int) ≤ (k : Int) := by omega
  have k9 : (k : Int) < 9 := by omega
  have hw : IntKind.i64.wrap (tab.getD k 0) = tab.getD k 0 := by
    have : ∀ i : Fin 9, IntKind.i64.wrap (tab.getD i.val 0) = tab.getD i.val 0 := by decide
    exact this ⟨k, hk⟩
  clear hT
  generalize htk : tab.getD k 0 = tk at h0 hw
  by_cases hb : bits BinOp.and .i64 tk f = 0
  · have hB : hasB k f = false := by unfold hasB; rw [htk]; simp [hb]
    rw [show bnd k f low = 0 by simp [bnd, hB], show bnd k f high = 0 by simp [bnd, hB]]
    have hb' : (bits BinOp.and .i64 tk f == 0) = true := by simpa using hb
    clear htk hB hb
    go_enter Tryd.func35, Tryd.ntmps35
    go_wp2
    go_ret2
    exact ⟨rfl, rfl⟩
  · have hB : hasB k f = true := by unfold hasB; rw [htk]; simp [hb]
    rw [show bnd k f low = low by simp [bnd, hB], show bnd k f high = high by simp [bnd, hB]]
    have hb' : (bits BinOp.and .i64 tk f == 0) = false := by simpa using hb
    clear htk hB hb
    go_enter Tryd.func35, Tryd.ntmps35
    go_wp2
    go_ret2
    exact ⟨rfl, rfl⟩

/-- Is a value one that the kind may have? -/
def fit (k : Nat) (v f low high : Int) : Bool := isIn v (bnd k f low) (bnd k f high)

theorem fits_any (g k : Nat) (v f low high : Int) (w : World) (hk : k < 9) (hT : HasAt 0 w) (hc : w.cell? ⟨g, 0, none⟩ = some (.int .i64 k)) :
    Calls Tryd.prog 34 #[.int .i64 v, .int .i64 f, .int .i64 low, .int .i64 high, .pointer (some ⟨g, 0, none⟩)] w fun e w' => e = .returned (.bool (fit k v f low high)) ∧ w = w' := by
  unfold fit
  have HT := Lib.hid hT
  clear hT
  go_enter Tryd.func34, Tryd.ntmps34
  go_wp2_with fail
  refine (bounds_any k f low high w hk HT.out).mono ?_
  rintro e w' ⟨rfl, rfl⟩
  go_wp2_with fail
  refine (within_any _ _ _ _).mono ?_
  rintro e w' ⟨rfl, rfl⟩
  go_wp2_with fail
  go_ret
  exact ⟨rfl, rfl⟩

/-- A note. -/
structure Note where
  kind : Int
  vlan : Int
  m0 : Int
  m1 : Int
  m2 : Int
  m3 : Int
  m4 : Int
  m5 : Int
  port : Int
  state : Int
  body : List Int

def Note.cells (n : Note) (bv : Value) : Array Value := #[.int .i64 n.kind, .int .i64 n.vlan, .int .u8 n.m0, .int .u8 n.m1, .int .u8 n.m2, .int .u8 n.m3, .int .u8 n.m4, .int .u8 n.m5, .int .i64 n.port, .int .i64 n.state, bv]
def Note.noMac (n : Note) : Bool := n.m0 == 0 && n.m1 == 0 && n.m2 == 0 && n.m3 == 0 && n.m4 == 0 && n.m5 == 0
def states (k : Nat) : Int := if k = 6 then 2 else if k = 8 then 250 else 1

def rightAt (n : Note) (k : Nat) : Bool :=
  (hasB k 2 || n.noMac) && fit k n.vlan 1 1 4094 && fit k n.port 4 0 1000 && fit k n.state 8 0 (states k) && fit k n.body.length 16 0 1600
/-- May a note be? -/
def right (n : Note) : Bool := isIn n.kind 0 8 && rightAt n n.kind.toNat

set_option maxHeartbeats 4000000 in
/-- The walk for one way through the switch. -/
theorem right_at (k : Nat) (hk : k < 9) (vlan m0 m1 m2 m3 m4 m5 port state : Int) (len : Nat) (ao : Option Addr) (cap : Nat) (nm : Bool) (hnm : (m0 == 0 && m1 == 0 && m2 == 0 && m3 == 0 && m4 == 0 && m5 == 0) = nm) (w : World) (hT : HasAt 0 w) :
    Calls Tryd.prog 24 #[.agg #[.int .i64 k, .int .i64 vlan, .int .u8 m0, .int .u8 m1, .int .u8 m2, .int .u8 m3, .int .u8 m4, .int .u8 m5, .int .i64 port, .int .i64 state, .slice ao len cap]] w fun e w' => e = .returned (.bool ((hasB k 2 || nm) && fit k vlan 1 1 4094 && fit k port 4 0 1000 && fit k state 8 0 (states k) && fit k len 16 0 1600)) ∧ Step None w w' := by
  have HT := Lib.hid (hT.still ((Step.refl None w).alloc (.cells #[.int .i64 k, .int .i64 vlan, .int .u8 m0, .int .u8 m1, .int .u8 m2, .int .u8 m3, .int .u8 m4, .int .u8 m5, .int .i64 port, .int .i64 state, .slice ao len cap] 36)))
  have ht := HT.out k hk
  have k0 : (0 : Int) ≤ (k : Int) := by omega
  have k9 : (k : Int) < 9 := by omega
  have hin : isIn (k : Int) 0 8 = true := by simp [isIn]; omega
  have hw : IntKind.i64.wrap (tab.getD k 0) = tab.getD k 0 := by
    have : ∀ i : Fin 9, IntKind.i64.wrap (tab.getD i.val 0) = tab.getD i.val 0 := by decide
    exact this ⟨k, hk⟩
  have hmac : ∀ W, (Op.equalIn 10000 33 (.agg #[.int .u8 m0, .int .u8 m1, .int .u8 m2, .int .u8 m3, .int .u8 m4, .int .u8 m5]) (.agg #[.int .u8 0, .int .u8 0, .int .u8 0, .int .u8 0, .int .u8 0, .int .u8 0])).run Tryd.prog W = .ok nm W := fun W => by
    rw [← hnm]
    exact run_equalIn_six W 9998 33 5 Tryd.underlying33 Tryd.underlying5 (fun w => by kernel_rfl) m0 m1 m2 m3 m4 m5 0 0 0 0 0 0
  clear hT hnm
  have hst : k = 6 ∨ k = 8 ∨ (k ≠ 6 ∧ k ≠ 8) := by omega
  cases hb2 : hasB k 2
  · have hb2' : (bits BinOp.and .i64 (tab.getD k 0) 2 == 0) = true := by unfold hasB at hb2; simpa using hb2
    generalize tab.getD k 0 = tk at ht hw hb2'
    rcases hst with hk6 | hk8 | ⟨n6, n8⟩
    · have e6 : ((k : Int) == 6) = true := by simp; omega
      have e8 : ((k : Int) == 8) = false := by simp; omega
      obtain ⟨st, hsk⟩ : ∃ st, states k = st ∧ st = 2 := ⟨_, rfl, by simp [states, hk6]⟩
      clear hk6
      obtain ⟨hsk, hs2⟩ := hsk
      rw [hsk]
      subst hs2
      cases nm
      · go_enter Tryd.func24, Tryd.ntmps24
        go_wp2_with (first | (go_at_call 33; refine (within_any _ _ _ _).mono ?_; rintro e w' ⟨rfl, rfl⟩))
        go_ret
        exact ⟨by simp, (Step.refl None w).alloc _⟩
      · go_enter Tryd.func24, Tryd.ntmps24
        go_wp2_with (first | (go_at_call 33; refine (within_any _ _ _ _).mono ?_; rintro e w' ⟨rfl, rfl⟩))
        refine (fits_any w.heap.size k _ _ _ _ _ hk (by exact HT.out) (by simp)).mono ?_
        rintro e w' ⟨rfl, rfl⟩
        cases f1 : fit k vlan 1 1 4094
        · go_wp2_with fail
          go_ret
          exact ⟨by simp [f1], (Step.refl None w).alloc _⟩
        go_wp2_with fail
        refine (fits_any w.heap.size k _ _ _ _ _ hk (by exact HT.out) (by simp)).mono ?_
        rintro e w' ⟨rfl, rfl⟩
        cases f2 : fit k port 4 0 1000
        · go_wp2_with fail
          go_ret
          exact ⟨by simp [f1, f2], (Step.refl None w).alloc _⟩
        go_wp2_with fail
        refine (fits_any w.heap.size k _ _ _ _ _ hk (by exact HT.out) (by simp)).mono ?_
        rintro e w' ⟨rfl, rfl⟩
        cases f3 : fit k state 8 0 2
        · go_wp2_with fail
          go_ret
          exact ⟨by simp [f1, f2, f3], (Step.refl None w).alloc _⟩
        go_wp2_with fail
        refine (fits_any w.heap.size k _ _ _ _ _ hk (by exact HT.out) (by simp)).mono ?_
        rintro e w' ⟨rfl, rfl⟩
        cases f4 : fit k len 16 0 1600
        · go_wp2_with fail
          go_ret
          exact ⟨by simp [f1, f2, f3, f4], (Step.refl None w).alloc _⟩
        go_wp2_with fail
        go_ret
        exact ⟨by simp [f1, f2, f3, f4], (Step.refl None w).alloc _⟩
    · have e6 : ((k : Int) == 6) = false := by simp; omega
      have e8 : ((k : Int) == 8) = true := by simp; omega
      obtain ⟨st, hsk⟩ : ∃ st, states k = st ∧ st = 250 := ⟨_, rfl, by simp [states, hk8]⟩
      clear hk8
      obtain ⟨hsk, hs2⟩ := hsk
      rw [hsk]
      subst hs2
      cases nm
      · go_enter Tryd.func24, Tryd.ntmps24
        go_wp2_with (first | (go_at_call 33; refine (within_any _ _ _ _).mono ?_; rintro e w' ⟨rfl, rfl⟩))
        go_ret
        exact ⟨by simp, (Step.refl None w).alloc _⟩
      · go_enter Tryd.func24, Tryd.ntmps24
        go_wp2_with (first | (go_at_call 33; refine (within_any _ _ _ _).mono ?_; rintro e w' ⟨rfl, rfl⟩))
        refine (fits_any w.heap.size k _ _ _ _ _ hk (by exact HT.out) (by simp)).mono ?_
        rintro e w' ⟨rfl, rfl⟩
        cases f1 : fit k vlan 1 1 4094
        · go_wp2_with fail
          go_ret
          exact ⟨by simp [f1], (Step.refl None w).alloc _⟩
        go_wp2_with fail
        refine (fits_any w.heap.size k _ _ _ _ _ hk (by exact HT.out) (by simp)).mono ?_
        rintro e w' ⟨rfl, rfl⟩
        cases f2 : fit k port 4 0 1000
        · go_wp2_with fail
          go_ret
          exact ⟨by simp [f1, f2], (Step.refl None w).alloc _⟩
        go_wp2_with fail
        refine (fits_any w.heap.size k _ _ _ _ _ hk (by exact HT.out) (by simp)).mono ?_
        rintro e w' ⟨rfl, rfl⟩
        cases f3 : fit k state 8 0 250
        · go_wp2_with fail
          go_ret
          exact ⟨by simp [f1, f2, f3], (Step.refl None w).alloc _⟩
        go_wp2_with fail
        refine (fits_any w.heap.size k _ _ _ _ _ hk (by exact HT.out) (by simp)).mono ?_
        rintro e w' ⟨rfl, rfl⟩
        cases f4 : fit k len 16 0 1600
        · go_wp2_with fail
          go_ret
          exact ⟨by simp [f1, f2, f3, f4], (Step.refl None w).alloc _⟩
        go_wp2_with fail
        go_ret
        exact ⟨by simp [f1, f2, f3, f4], (Step.refl None w).alloc _⟩
    · have e6 : ((k : Int) == 6) = false := by simp; omega
      have e8 : ((k : Int) == 8) = false := by simp; omega
      obtain ⟨st, hsk⟩ : ∃ st, states k = st ∧ st = 1 := ⟨_, rfl, by simp [states, n6, n8]⟩
      clear n6 n8
      obtain ⟨hsk, hs2⟩ := hsk
      rw [hsk]
      subst hs2
      cases nm
      · go_enter Tryd.func24, Tryd.ntmps24
        go_wp2_with (first | (go_at_call 33; refine (within_any _ _ _ _).mono ?_; rintro e w' ⟨rfl, rfl⟩))
        go_ret
        exact ⟨by simp, (Step.refl None w).alloc _⟩
      · go_enter Tryd.func24, Tryd.ntmps24
        go_wp2_with (first | (go_at_call 33; refine (within_any _ _ _ _).mono ?_; rintro e w' ⟨rfl, rfl⟩))
        refine (fits_any w.heap.size k _ _ _ _ _ hk (by exact HT.out) (by simp)).mono ?_
        rintro e w' ⟨rfl, rfl⟩
        cases f1 : fit k vlan 1 1 4094
        · go_wp2_with fail
          go_ret
          exact ⟨by simp [f1], (Step.refl None w).alloc _⟩
        go_wp2_with fail
        refine (fits_any w.heap.size k _ _ _ _ _ hk (by exact HT.out) (by simp)).mono ?_
        rintro e w' ⟨rfl, rfl⟩
        cases f2 : fit k port 4 0 1000
        · go_wp2_with fail
          go_ret
          exact ⟨by simp [f1, f2], (Step.refl None w).alloc _⟩
        go_wp2_with fail
        refine (fits_any w.heap.size k _ _ _ _ _ hk (by exact HT.out) (by simp)).mono ?_
        rintro e w' ⟨rfl, rfl⟩
        cases f3 : fit k state 8 0 1
        · go_wp2_with fail
          go_ret
          exact ⟨by simp [f1, f2, f3], (Step.refl None w).alloc _⟩
        go_wp2_with fail
        refine (fits_any w.heap.size k _ _ _ _ _ hk (by exact HT.out) (by simp)).mono ?_
        rintro e w' ⟨rfl, rfl⟩
        cases f4 : fit k len 16 0 1600
        · go_wp2_with fail
          go_ret
          exact ⟨by simp [f1, f2, f3, f4], (Step.refl None w).alloc _⟩
        go_wp2_with fail
        go_ret
        exact ⟨by simp [f1, f2, f3, f4], (Step.refl None w).alloc _⟩
  · have hb2' : (bits BinOp.and .i64 (tab.getD k 0) 2 == 0) = false := by unfold hasB at hb2; simpa using hb2
    generalize tab.getD k 0 = tk at ht hw hb2'
    have n68 : k ≠ 6 ∧ k ≠ 8 := by
      have : ∀ i : Fin 9, hasB i.val 2 = true → i.val ≠ 6 ∧ i.val ≠ 8 := by decide
      exact this ⟨k, hk⟩ hb2
    have e6 : ((k : Int) == 6) = false := by have := n68.1; simp; omega
    have e8 : ((k : Int) == 8) = false := by have := n68.2; simp; omega
    have hsk : states k = 1 := by simp [states, n68.1, n68.2]
    rw [hsk]
    go_enter Tryd.func24, Tryd.ntmps24
    go_wp2_with (first | (go_at_call 33; refine (within_any _ _ _ _).mono ?_; rintro e w' ⟨rfl, rfl⟩))
    refine (fits_any w.heap.size k _ _ _ _ _ hk (by exact HT.out) (by simp)).mono ?_
    rintro e w' ⟨rfl, rfl⟩
    cases f1 : fit k vlan 1 1 4094
    · go_wp2_with fail
      go_ret
      exact ⟨by simp [f1], (Step.refl None w).alloc _⟩
    go_wp2_with fail
    refine (fits_any w.heap.size k _ _ _ _ _ hk (by exact HT.out) (by simp)).mono ?_
    rintro e w' ⟨rfl, rfl⟩
    cases f2 : fit k port 4 0 1000
    · go_wp2_with fail
      go_ret
      exact ⟨by simp [f1, f2], (Step.refl None w).alloc _⟩
    go_wp2_with fail
    refine (fits_any w.heap.size k _ _ _ _ _ hk (by exact HT.out) (by simp)).mono ?_
    rintro e w' ⟨rfl, rfl⟩
    cases f3 : fit k state 8 0 1
    · go_wp2_with fail
      go_ret
      exact ⟨by simp [f1, f2, f3], (Step.refl None w).alloc _⟩
    go_wp2_with fail
    refine (fits_any w.heap.size k _ _ _ _ _ hk (by exact HT.out) (by simp)).mono ?_
    rintro e w' ⟨rfl, rfl⟩
    cases f4 : fit k len 16 0 1600
    · go_wp2_with fail
      go_ret
      exact ⟨by simp [f1, f2, f3, f4], (Step.refl None w).alloc _⟩
    go_wp2_with fail
    go_ret
    exact ⟨by simp [f1, f2, f3, f4], (Step.refl None w).alloc _⟩

theorem right_any (n : Note) (ao : Option Addr) (cap : Nat) (w : World) (hT : HasAt 0 w) :
    Calls Tryd.prog 24 #[.agg (n.cells (.slice ao n.body.length cap))] w fun e w' => e = .returned (.bool (right n)) ∧ Step None w w' := by
  obtain ⟨kind, vlan, m0, m1, m2, m3, m4, m5, port, state, body⟩ := n
  unfold Note.cells right
  dsimp only
  by_cases hin : isIn kind 0 8 = true
  · rw [hin]
    obtain ⟨k, rfl⟩ : ∃ k : Nat, kind = k := ⟨kind.toNat, by simp [isIn] at hin; omega⟩
    have hk : k < 9 := by simp [isIn] at hin; omega
    exact right_at k hk vlan m0 m1 m2 m3 m4 m5 port state body.length ao cap _ rfl w hT
  · have hin' : isIn kind 0 8 = false := by simpa using hin
    rw [hin']
    go_enter Tryd.func24, Tryd.ntmps24
    go_wp2_with (first | (go_at_call 33; refine (within_any _ _ _ _).mono ?_; rintro e w' ⟨rfl, rfl⟩))
    go_ret
    exact ⟨rfl, (Step.refl None w).alloc _⟩

end Go.Proofs.YtgchepijbpcckaaDoor
