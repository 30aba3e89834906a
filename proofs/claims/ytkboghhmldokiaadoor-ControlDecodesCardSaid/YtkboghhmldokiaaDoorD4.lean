/- Decode's get. -/
import Derived.Test.YtkboghhmldokiaaDoorD3
namespace Go.Proofs.YtkboghhmldokiaaDoor
open Go.RowKit Go.Gm

theorem tab_small (k : Nat) (hk9 : k < 9) : IntKind.i64.wrap (tab.getD k 0) = tab.getD k 0 := by
  have : ∀ i : Fin 9, IntKind.i64.wrap (tab.getD i.val 0) = tab.getD i.val 0 := by decide
  exact this ⟨k, hk9⟩
theorem get_not {w0 : World} {T V P N g : Nat} {ep sq ak : Int} {n : Note} {bv : Value} {s : Rs} (f : Int) (G : Value) (k : Nat) (w : World) (h : Dc w0 w T V P N g ep sq ak n bv s) (hk : n.kind = k) (hk9 : k < 9) (hB : hasB k f = false) :
    Calls Tryd.prog 46 #[.int .i64 f, G, .pointer (some ⟨N, 0, none⟩)] w fun e w' => e = .returned (.tuple #[]) ∧ w = w' := by
  have h0 : w.cell? ⟨P, 3, none⟩ = some (.int .i64 k) := by rw [← hk]; exact blk_cell h.p 3
  have hn := h.see.2
  have h1 := h.tab k hk9
  have k0 : (0 : Int) ≤ (k : Int) := by omega
  have k9 : (k : Int) < 9 := by omega
  have hw := tab_small k hk9
  have hb' : (bits BinOp.and .i64 (tab.getD k 0) f == 0) = true := by unfold hasB at hB; simpa using hB
  have hb2 : (bits BinOp.and .i64 (tab.getD k 0) f != 0) = false := hB
  generalize tab.getD k 0 = tk at h1 hw hb' hb2
  clear h hB hk
  go_enter Tryd.func46, Tryd.ntmps46
  go_wp2_with fail
  go_end0
  exact ⟨rfl, rfl⟩

theorem get_vlan {w0 : World} {T V P N g : Nat} {ep sq ak : Int} {n : Note} {bv : Value} {s : Rs} (k : Nat) (w : World) (h : Dc w0 w T V P N g ep sq ak n bv s) (hk : n.kind = k) (hk9 : k < 9) (hz : n.vlan = 0) :
    Calls Tryd.prog 46 #[.int .i64 1, .func (.func 47) #[] #[.pointer (some ⟨V, 0, none⟩), .pointer (some ⟨N, 0, none⟩)], .pointer (some ⟨N, 0, none⟩)] w fun e w' => e = .returned (.tuple #[]) ∧ Dc w0 w' T V P N g ep sq ak { n with vlan := (pV k s).1 } bv (pV k s).2 := by
  cases hB : hasB k 1
  · refine (get_not 1 _ k w h hk hk9 hB).mono ?_
    rintro e w' ⟨rfl, rfl⟩
    refine ⟨rfl, ?_⟩
    have e : pV k s = (0, s) := by unfold pV opt; rw [hB]; rfl
    rw [e]
    have e2 : ({ n with vlan := (0 : Int) } : Note) = n := by rw [← hz]
    show Dc w0 w T V P N g ep sq ak { n with vlan := (0 : Int) } bv s
    rw [e2]
    exact h
  · have e : pV k s = shortP s := by unfold pV opt; rw [hB]; rfl
    rw [e]
    clear e
    have h0 : w.cell? ⟨P, 3, none⟩ = some (.int .i64 k) := by rw [← hk]; exact blk_cell h.p 3
    have hn := h.see.2
    have h1 := h.tab k hk9
    have k0 : (0 : Int) ≤ (k : Int) := by omega
    have k9 : (k : Int) < 9 := by omega
    have hw := tab_small k hk9
    have hb' : (bits BinOp.and .i64 (tab.getD k 0) 1 == 0) = false := by unfold hasB at hB; simpa using hB
    have hb2 : (bits BinOp.and .i64 (tab.getD k 0) 1 != 0) = true := hB
    generalize tab.getD k 0 = tk at h1 hw hb' hb2
    have C := Lib.hid (vlan_any w h)
    clear h hB hk
    go_enter Tryd.func46, Tryd.ntmps46
    go_wp2_with fail
    refine C.out.mono ?_
    rintro e w1 ⟨rfl, hd⟩
    have HD := Lib.hid hd
    clear hd C
    go_wp2_with fail
    go_end0
    exact ⟨rfl, HD.out⟩

theorem get_port {w0 : World} {T V P N g : Nat} {ep sq ak : Int} {n : Note} {bv : Value} {s : Rs} (k : Nat) (w : World) (h : Dc w0 w T V P N g ep sq ak n bv s) (hk : n.kind = k) (hk9 : k < 9) (hz : n.port = 0) :
    Calls Tryd.prog 46 #[.int .i64 4, .func (.func 49) #[] #[.pointer (some ⟨V, 0, none⟩), .pointer (some ⟨N, 0, none⟩)], .pointer (some ⟨N, 0, none⟩)] w fun e w' => e = .returned (.tuple #[]) ∧ Dc w0 w' T V P N g ep sq ak { n with port := (pP k s).1 } bv (pP k s).2 := by
  cases hB : hasB k 4
  · refine (get_not 4 _ k w h hk hk9 hB).mono ?_
    rintro e w' ⟨rfl, rfl⟩
    refine ⟨rfl, ?_⟩
    have e : pP k s = (0, s) := by unfold pP opt; rw [hB]; rfl
    rw [e]
    have e2 : ({ n with port := (0 : Int) } : Note) = n := by rw [← hz]
    show Dc w0 w T V P N g ep sq ak { n with port := (0 : Int) } bv s
    rw [e2]
    exact h
  · have e : pP k s = shortP s := by unfold pP opt; rw [hB]; rfl
    rw [e]
    clear e
    have h0 : w.cell? ⟨P, 3, none⟩ = some (.int .i64 k) := by rw [← hk]; exact blk_cell h.p 3
    have hn := h.see.2
    have h1 := h.tab k hk9
    have k0 : (0 : Int) ≤ (k : Int) := by omega
    have k9 : (k : Int) < 9 := by omega
    have hw := tab_small k hk9
    have hb' : (bits BinOp.and .i64 (tab.getD k 0) 4 == 0) = false := by unfold hasB at hB; simpa using hB
    have hb2 : (bits BinOp.and .i64 (tab.getD k 0) 4 != 0) = true := hB
    generalize tab.getD k 0 = tk at h1 hw hb' hb2
    have C := Lib.hid (port_any w h)
    clear h hB hk
    go_enter Tryd.func46, Tryd.ntmps46
    go_wp2_with fail
    refine C.out.mono ?_
    rintro e w1 ⟨rfl, hd⟩
    have HD := Lib.hid hd
    clear hd C
    go_wp2_with fail
    go_end0
    exact ⟨rfl, HD.out⟩

theorem get_state {w0 : World} {T V P N g : Nat} {ep sq ak : Int} {n : Note} {bv : Value} {s : Rs} (k : Nat) (w : World) (h : Dc w0 w T V P N g ep sq ak n bv s) (hk : n.kind = k) (hk9 : k < 9) (hz : n.state = 0) :
    Calls Tryd.prog 46 #[.int .i64 8, .func (.func 50) #[] #[.pointer (some ⟨V, 0, none⟩), .pointer (some ⟨N, 0, none⟩)], .pointer (some ⟨N, 0, none⟩)] w fun e w' => e = .returned (.tuple #[]) ∧ Dc w0 w' T V P N g ep sq ak { n with state := (pS k s).1 } bv (pS k s).2 := by
  cases hB : hasB k 8
  · refine (get_not 8 _ k w h hk hk9 hB).mono ?_
    rintro e w' ⟨rfl, rfl⟩
    refine ⟨rfl, ?_⟩
    have e : pS k s = (0, s) := by unfold pS opt; rw [hB]; rfl
    rw [e]
    have e2 : ({ n with state := (0 : Int) } : Note) = n := by rw [← hz]
    show Dc w0 w T V P N g ep sq ak { n with state := (0 : Int) } bv s
    rw [e2]
    exact h
  · have e : pS k s = byteP s := by unfold pS opt; rw [hB]; rfl
    rw [e]
    clear e
    have h0 : w.cell? ⟨P, 3, none⟩ = some (.int .i64 k) := by rw [← hk]; exact blk_cell h.p 3
    have hn := h.see.2
    have h1 := h.tab k hk9
    have k0 : (0 : Int) ≤ (k : Int) := by omega
    have k9 : (k : Int) < 9 := by omega
    have hw := tab_small k hk9
    have hb' : (bits BinOp.and .i64 (tab.getD k 0) 8 == 0) = false := by unfold hasB at hB; simpa using hB
    have hb2 : (bits BinOp.and .i64 (tab.getD k 0) 8 != 0) = true := hB
    generalize tab.getD k 0 = tk at h1 hw hb' hb2
    have C := Lib.hid (state_any w h)
    clear h hB hk
    go_enter Tryd.func46, Tryd.ntmps46
    go_wp2_with fail
    refine C.out.mono ?_
    rintro e w1 ⟨rfl, hd⟩
    have HD := Lib.hid hd
    clear hd C
    go_wp2_with fail
    go_end0
    exact ⟨rfl, HD.out⟩

theorem get_mac {w0 : World} {T V P N g : Nat} {ep sq ak : Int} {n : Note} {bv : Value} {s : Rs} (k : Nat) (w : World) (h : Dc w0 w T V P N g ep sq ak n bv s) (hk : n.kind = k) (hk9 : k < 9) (hz : n.setMac [0, 0, 0, 0, 0, 0] = n) :
    Calls Tryd.prog 46 #[.int .i64 2, .func (.func 48) #[] #[.pointer (some ⟨N, 0, none⟩), .pointer (some ⟨V, 0, none⟩)], .pointer (some ⟨N, 0, none⟩)] w fun e w' => e = .returned (.tuple #[]) ∧ Dc w0 w' T V P N g ep sq ak (n.setMac (pM k s).1) bv (pM k s).2 := by
  cases hB : hasB k 2
  · refine (get_not 2 _ k w h hk hk9 hB).mono ?_
    rintro e w' ⟨rfl, rfl⟩
    refine ⟨rfl, ?_⟩
    have e : pM k s = ([0, 0, 0, 0, 0, 0], s) := by unfold pM opt; rw [hB]; rfl
    rw [e]
    show Dc w0 w T V P N g ep sq ak (n.setMac [0, 0, 0, 0, 0, 0]) bv s
    rw [hz]
    exact h
  · have e : pM k s = takeP 6 s := by unfold pM opt; rw [hB]; rfl
    rw [e]
    clear e
    have h0 : w.cell? ⟨P, 3, none⟩ = some (.int .i64 k) := by rw [← hk]; exact blk_cell h.p 3
    have hn := h.see.2
    have h1 := h.tab k hk9
    have k0 : (0 : Int) ≤ (k : Int) := by omega
    have k9 : (k : Int) < 9 := by omega
    have hw := tab_small k hk9
    have hb' : (bits BinOp.and .i64 (tab.getD k 0) 2 == 0) = false := by unfold hasB at hB; simpa using hB
    have hb2 : (bits BinOp.and .i64 (tab.getD k 0) 2 != 0) = true := hB
    generalize tab.getD k 0 = tk at h1 hw hb' hb2
    have C := Lib.hid (mac_any w h)
    clear h hB hk
    go_enter Tryd.func46, Tryd.ntmps46
    go_wp2_with fail
    refine C.out.mono ?_
    rintro e w1 ⟨rfl, hd⟩
    have HD := Lib.hid hd
    clear hd C
    go_wp2_with fail
    go_end0
    exact ⟨rfl, HD.out⟩

theorem get_body {w0 : World} {T V P N g : Nat} {ep sq ak : Int} {n : Note} {bv : Value} {s : Rs} (k : Nat) (w : World) (h : Dc w0 w T V P N g ep sq ak n bv s) (hk : n.kind = k) (hk9 : k < 9) (hz : n.body = []) (hv : bv = .slice none 0 0) :
    Calls Tryd.prog 46 #[.int .i64 16, .func (.func 51) #[] #[.pointer (some ⟨V, 0, none⟩), .pointer (some ⟨N, 0, none⟩)], .pointer (some ⟨N, 0, none⟩)] w fun e w' => e = .returned (.tuple #[]) ∧ ∃ bo bc, Dc w0 w' T V P N g ep sq ak { n with body := (pB k s).1 } (.slice bo (pB k s).1.length bc) (pB k s).2 ∧ Bytes w' (.slice bo (pB k s).1.length bc) (pB k s).1 ∧ ¬ Leads (.slice bo (pB k s).1.length bc) T := by
  cases hB : hasB k 16
  · refine (get_not 16 _ k w h hk hk9 hB).mono ?_
    rintro e w' ⟨rfl, rfl⟩
    refine ⟨rfl, ?_⟩
    have e : pB k s = ([], s) := by unfold pB opt; rw [hB]; rfl
    rw [e]
    have e2 : ({ n with body := [] } : Note) = n := by rw [← hz]
    refine ⟨none, 0, ?_, .inl ⟨rfl, rfl⟩, fun hk => by simp [Leads, Value.ownBlock] at hk⟩
    show Dc w0 w T V P N g ep sq ak { n with body := [] } (.slice none 0 0) s
    rw [e2, ← hv]
    exact h
  · have e : pB k s = bodyP s := by unfold pB opt; rw [hB]; rfl
    rw [e]
    clear e
    have h0 : w.cell? ⟨P, 3, none⟩ = some (.int .i64 k) := by rw [← hk]; exact blk_cell h.p 3
    have hn := h.see.2
    have h1 := h.tab k hk9
    have k0 : (0 : Int) ≤ (k : Int) := by omega
    have k9 : (k : Int) < 9 := by omega
    have hw := tab_small k hk9
    have hb' : (bits BinOp.and .i64 (tab.getD k 0) 16 == 0) = false := by unfold hasB at hB; simpa using hB
    have hb2 : (bits BinOp.and .i64 (tab.getD k 0) 16 != 0) = true := hB
    generalize tab.getD k 0 = tk at h1 hw hb' hb2
    have C := Lib.hid (bodyc_any w h)
    clear h hB hk
    go_enter Tryd.func46, Tryd.ntmps46
    go_wp2_with fail
    refine C.out.mono ?_
    rintro e w1 ⟨rfl, hd⟩
    have HD := Lib.hid hd
    clear hd C
    go_wp2_with fail
    go_end0
    exact ⟨rfl, HD.out⟩

end Go.Proofs.YtkboghhmldokiaaDoor