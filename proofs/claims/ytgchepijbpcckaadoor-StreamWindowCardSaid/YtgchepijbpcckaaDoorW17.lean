/- StreamWindow, walked. -/
import Derived.Test.YtgchepijbpcckaaDoorW16
namespace Go.Proofs.YtgchepijbpcckaaDoor
open Go.RowKit Go.Gm

/-- A stream of a window that was sent so many notes. -/
def sW (win : Int) (n : Nat) : Stm := ⟨3, win, (List.range n).map fun k : Nat => noteOf ((k : Int) + 1), 1, 0, 0, 0, false⟩
theorem sW_len (win : Int) (n : Nat) : (sW win n).ws.length = n := by simp [sW]
theorem sW_send (win : Int) (n : Nat) (h : n ≤ 300) : (sW win n).send (noteOf ((n : Int) + 1)) = (sW win (n + 1), 0) := by
  have hl := sW_len win n
  unfold Stm.send
  rw [if_neg (by rw [right_noteOf]; simp [noteOf]), if_neg (by rw [hl]; show ¬ (5000 ≤ n ∨ (1073741824 : Int) ≤ 1 + (n : Int)); omega)]
  simp [sW, List.range_succ]
theorem sW_get (win : Int) {n j : Nat} (h : j < n) : (sW win n).ws.getD j bare = noteOf ((j : Int) + 1) := by
  rw [List.getD_eq_getElem?_getD]
  simp [sW, h]
/-- Behind so many ticks. -/
def sU (win : Int) (n many : Nat) (k : Nat) : Stm := if k = 0 then sW win n else { sW win n with out := many, last := 10 + 3 * (((k - 1) / 3 : Nat) : Int) }
theorem sU_pkts (win : Int) (n many k a b : Nat) : (sU win n many k).pkts a b = (sW win n).pkts a b := by
  unfold sU
  split <;> rfl
theorem sU_same (win : Int) (n many k : Nat) : (sU win n many k).ws = (sW win n).ws ∧ (sU win n many k).taken = 0 := by
  unfold sU
  split <;> exact ⟨rfl, rfl⟩
theorem span_of {s : Stm} {now mn on : Int} (hm : min (s.ws.length : Int) s.win = mn) (ho : s.out = on) : s.span now = if mn ≤ on ∧ 3 ≤ now - s.last then (0, on) else (on, mn) := by
  unfold Stm.span
  rw [hm, ho]
theorem sU_tick (win : Int) (n many k : Nat) (hm : min (n : Int) win = many) (hm0 : 0 < many) (hk : k < 10) :
    (sU win n many k).tick (10 + (k : Int)) = (sU win n many (k + 1), if k % 3 = 0 then (sW win n).pkts 0 many else [], 0) := by
  have hl := sW_len win n
  have hne : (sW win n).pkts 0 many ≠ [] := fun e => by have := Stm.pkts_len (sW win n) 0 many; rw [e] at this; simp at this; omega
  have hnil : (sW win n).pkts many many = [] := List.eq_nil_of_length_eq_zero (by rw [Stm.pkts_len]; omega)
  have e1 : sU win n many (k + 1) = { sW win n with out := many, last := 10 + 3 * ((k / 3 : Nat) : Int) } := by
    unfold sU
    rw [if_neg (by omega)]
    simp
  unfold Stm.tick
  rw [if_neg (by omega), e1]
  by_cases h0 : k = 0
  · subst h0
    have hsp : (sU win n many 0).span (10 + ((0 : Nat) : Int)) = (0, (many : Int)) := by
      have e0 : sU win n many 0 = sW win n := by unfold sU; rw [if_pos rfl]
      rw [e0, span_of (s := sW win n) (mn := many) (on := 0) (by rw [hl]; exact hm) rfl, if_neg (by omega)]
    rw [hsp]
    simp only [Int.toNat_natCast, Int.toNat_zero, sU_pkts, if_pos hne]
    unfold sU
    simp [sW]
  · have hU : sU win n many k = { sW win n with out := many, last := 10 + 3 * (((k - 1) / 3 : Nat) : Int) } := by unfold sU; rw [if_neg h0]
    have hsp : (sU win n many k).span (10 + (k : Int)) = if k % 3 = 0 then (0, (many : Int)) else ((many : Int), (many : Int)) := by
      rw [hU, span_of (s := { sW win n with out := many, last := 10 + 3 * (((k - 1) / 3 : Nat) : Int) }) (mn := many) (on := many) (by show min (((sW win n).ws.length : Nat) : Int) win = _; rw [hl]; exact hm) rfl]
      show (if (many : Int) ≤ (many : Int) ∧ 3 ≤ 10 + (k : Int) - (10 + 3 * (((k - 1) / 3 : Nat) : Int)) then ((0 : Int), (many : Int)) else ((many : Int), (many : Int))) = _
      by_cases h3 : k % 3 = 0
      · rw [if_pos h3, if_pos (by omega)]
      · rw [if_neg h3, if_neg (by omega)]
    rw [hsp]
    by_cases h3 : k % 3 = 0
    · rw [if_pos h3, if_pos h3]
      simp only [Int.toNat_natCast, Int.toNat_zero, sU_pkts, if_pos hne]
      rw [hU]
      simp [sW]
      omega
    · rw [if_neg h3, if_neg h3]
      simp only [Int.toNat_natCast, sU_pkts, hnil]
      rw [if_neg (by simp), hU]
      have e3 : (k - 1) / 3 = k / 3 := by omega
      simp [sW, e3]
theorem Pks.cells {w : World} {B b off k cap : Nat} {l : List Pkt} {bvs : List Value} {j : Nat} {p : Pkt} (h : Pks w B (.slice (some ⟨b, off, none⟩) k cap) l bvs) (hp : l[j]? = some p) :
    w.cell? ⟨b, off + j * 14, none⟩ = some (.int .i64 p.ep) ∧ w.cell? ⟨b, off + j * 14 + 1, none⟩ = some (.int .i64 p.sq) ∧ w.cell? ⟨b, off + j * 14 + 2, none⟩ = some (.int .i64 p.ak) ∧ w.cell? ⟨b, off + j * 14 + 11, none⟩ = some (.int .i64 p.n.port) := by
  have hlt := (List.getElem?_eq_some_iff.1 hp).1
  obtain ⟨c, hc⟩ : ∃ c, bvs[j]? = some c := ⟨_, List.getElem?_eq_getElem (by rw [h.len]; exact hlt)⟩
  obtain ⟨b', off', cap', e, -, -, -, hcell, -⟩ := h.row.cells (by omega)
  simp only [Value.slice.injEq, Option.some.injEq, Addr.mk.injEq] at e
  obtain ⟨⟨rfl, rfl, -⟩, -, rfl⟩ := e
  have hz : (l.zip bvs)[j]? = some (p, c) := by rw [List.getElem?_zip_eq_some]; exact ⟨hp, hc⟩
  have go : ∀ i u, (p.n.packet p.ep p.sq p.ak (encV c))[i]? = some u → w.cell? ⟨b, off + j * 14 + i, none⟩ = some u := fun i u hi => by
    rw [Nat.add_assoc]
    exact hcell _ _ (flatP_get _ j i p c u hz hi)
  exact ⟨go 0 _ rfl, go 1 _ rfl, go 2 _ rfl, go 11 _ rfl⟩
set_option maxRecDepth 100000 in
set_option maxHeartbeats 16000000 in
theorem streamWindow_walk (v0 v1 : Value) (w : World) (hT : HasAt 0 w) (h0 : Arg w (.int .i64) v0) (h1 : Arg w (.int .i64) v1) :
    Calls Tryd.prog 6 #[v0, v1] w fun e w' => e = .returned (.bool true) ∧ Below w.heap.size w w' := by
  obtain ⟨win, rfl, -⟩ := h0.int
  obtain ⟨n, rfl, -⟩ := h1.int
  clear h0 h1
  have T0 := Lib.hid hT
  have AW := Lib.hid (awake_any w hT)
  clear hT
  cases hok : Stm.newOk 3 win
  · have N := Lib.hid (fun w => new_bad 3 win w hok)
    clear hok
    go_enter Tryd.func6, Tryd.ntmps6
    go_wp2_with fail
    refine AW.out.mono ?_
    rintro e w2 ⟨rfl, s2⟩
    have S2 := Lib.hid s2
    clear s2
    go_wp2_with fail
    refine (N.out _).mono ?_
    rintro e w3 ⟨rfl, rfl⟩
    go_wp2_with fail
    go_ret
    exact ⟨rfl, S2.out.toBelow⟩
  have N := Lib.hid (fun w => new_ok 3 win w hok)
  by_cases hn : n < 1 ∨ 200 < n
  · clear hok
    cases d1 : decide (n < 1)
    · have d2 : decide (200 < n) = true := by simp at d1 ⊢; omega
      clear hn
      go_enter Tryd.func6, Tryd.ntmps6
      go_wp2_with fail
      refine AW.out.mono ?_
      rintro e w2 ⟨rfl, s2⟩
      have S2 := Lib.hid s2
      clear s2
      go_wp2_with fail
      refine (N.out _).mono ?_
      rintro e w3 ⟨rfl, -, s3⟩
      have S3 := Lib.hid (S2.out.then_ s3)
      clear s3
      go_wp2_with fail
      go_ret
      exact ⟨rfl, S3.out.toBelow⟩
    · clear hn
      go_enter Tryd.func6, Tryd.ntmps6
      go_wp2_with fail
      refine AW.out.mono ?_
      rintro e w2 ⟨rfl, s2⟩
      have S2 := Lib.hid s2
      clear s2
      go_wp2_with fail
      refine (N.out _).mono ?_
      rintro e w3 ⟨rfl, -, s3⟩
      have S3 := Lib.hid (S2.out.then_ s3)
      clear s3
      go_wp2_with fail
      go_ret
      exact ⟨rfl, S3.out.toBelow⟩
  obtain ⟨m, rfl⟩ : ∃ m : Nat, n = m := ⟨n.toNat, by omega⟩
  have hwin : 1 ≤ win ∧ win ≤ 100 := by
    simp only [Stm.newOk, Bool.and_eq_true, decide_eq_true_eq] at hok
    exact ⟨hok.1.2, hok.2⟩
  obtain ⟨many, hmany⟩ : ∃ k : Nat, min (m : Int) win = k := ⟨(min (m : Int) win).toNat, by omega⟩
  have HM : Hid (1 ≤ m ∧ m ≤ 200 ∧ 0 < many ∧ many ≤ m ∧ many ≤ 100) := Lib.hid (by omega)
  have HMN := Lib.hid hmany
  have OK0 : Hid (∀ k, k ≤ 300 → (sW win k).Ok) := Lib.hid fun k => by
    induction k with
    | zero => intro _; exact Stm.start_ok hok
    | succ k ih => intro hk; have := Stm.send_ok (ih (by omega)) (noteOf ((k : Int) + 1)); rwa [sW_send win k (by omega)] at this
  have OKU : Hid (∀ k, k ≤ 10 → (sU win m many k).Ok) := Lib.hid fun k => by
    induction k with
    | zero => intro _; exact OK0.out m (by have := HM.out; omega)
    | succ k ih => intro hk; have := Stm.tick_ok (ih (by omega)) (10 + (k : Int)); rwa [sU_tick win m many k hmany HM.out.2.2.1 (by omega)] at this
  have d1 : decide ((m : Int) < 1) = false := decide_eq_false (by omega)
  have d1' : decide (m < 1) = false := decide_eq_false (by omega)
  have d2 : decide (200 < (m : Int)) = false := decide_eq_false (by omega)
  have d2' : decide (200 < m) = false := decide_eq_false (by omega)
  have hmin : ∀ w ts t, (Builtin.min_ ts t #[.int .i64 (m : Int), .int .i64 win]).run Tryd.prog w = .ok (.int .i64 (many : Int)) w := fun w ts t => by rw [run_min_int, hmany]
  clear hn hwin hmany hok
  go_enter Tryd.func6, Tryd.ntmps6
  go_wp2_with fail
  refine AW.out.mono ?_
  rintro e w2 ⟨rfl, s2⟩
  have S2 := Lib.hid s2
  have T2 := Lib.hid (T0.out.still s2)
  clear s2
  go_wp2_with fail
  refine (N.out _).mono ?_
  rintro e w3 ⟨rfl, b3, s3⟩
  have S3 := Lib.hid (S2.out.then_ s3)
  have T3 := Lib.hid (T2.out.still s3)
  obtain ⟨g, hg⟩ : ∃ g, w2.heap.size = g := ⟨_, rfl⟩
  rw [hg] at b3 ⊢
  have HG : Hid (w.heap.size ≤ g) := Lib.hid (by have := S2.out.size; omega)
  have F3 : Hid (∃ v bs, Sm 66 w3 g v (sW win 0) bs ∧ (∀ k, Leads v k → w.heap.size ≤ k) ∧ Step None w w3 ∧ HasAt 0 w3) := Lib.hid ⟨_, _, Sm.fresh b3, fun k hk => by simp [Leads, Value.ownBlock] at hk, S3.out, T3.out⟩
  clear b3 s3 hg
  go_wp2_with fail
  clear d1 d1' d2 d2'
  go_loopw [8] (fun t wr => ∃ i : Nat, t = .int .i64 ((i : Int) + 1) ∧ i ≤ m ∧ Hid (∃ v bs, Sm 66 wr g v (sW win i) bs ∧ (∀ k, Leads v k → w.heap.size ≤ k) ∧ Step None w wr ∧ HasAt 0 wr)) (fun t _ => m + 1 - (intOf t).toNat)
  case atStart => exact ⟨0, rfl, Nat.zero_le _, F3⟩
  case round =>
    obtain ⟨i, rfl, him, hF⟩ := hrel
    rename_i wr
    clear F3
    have HI := Lib.hid him
    have ai := and_511 ((i : Int) + 1)
    by_cases hlt : i < m
    · have d1 : decide ((i : Int) + 1 ≤ (m : Int)) = true := decide_eq_true (by omega)
      have d1' : decide (i + 1 ≤ m) = true := decide_eq_true (by omega)
      have d1'' : decide (i < m) = true := decide_eq_true hlt
      have HLT := Lib.hid hlt
      have hw1 : 0 ≤ (i : Int) + 1 + 1 ∧ (i : Int) + 1 + 1 ≤ 2000000000000 := by have := HM.out; omega
      obtain ⟨wi1, wi2⟩ := small_wrap hw1.1 hw1.2
      clear hw1 hlt him
      go_wp2_with fail
      refine (note_any ((i : Int) + 1) wr).mono ?_
      rintro e w5 ⟨rfl, s5⟩
      obtain ⟨v, bs, sm, vb, st, tab⟩ := hF.out
      have SM := Lib.hid (sm.still s5)
      have VB := Lib.hid vb
      have ST := Lib.hid (st.then_ s5)
      have TB := Lib.hid (tab.still s5)
      clear sm vb st tab s5 hF
      go_wp2_with fail
      refine (send_any g v _ bs (noteOf ((i : Int) + 1)) none 0 w5 SM.out (OK0.out i (by have := HM.out; have := HI.out; omega)) TB.out (.inl ⟨rfl, rfl⟩)).mono ?_
      rintro e w6 ⟨rfl, went⟩
      rw [sW_send win i (by have := HM.out; have := HI.out; omega)] at went ⊢
      have F6 : Hid (∃ v bs, Sm 66 w6 g v (sW win (i + 1)) bs ∧ (∀ k, Leads v k → w.heap.size ≤ k) ∧ Step None w w6 ∧ HasAt 0 w6) := Lib.hid (by
        obtain ⟨v', bs', h1, h2, h3⟩ := went
        refine ⟨v', bs', h1, fun k hk => ?_, ST.out.trans h2 fun k hk e => ?_, TB.out.step h2 fun e => ?_⟩
        · rcases h3 k hk with e | e
          · exact VB.out k e
          · exact Nat.le_trans ST.out.size e
        · rcases e with e | e
          · have := HG.out; show False; omega
          · have := VB.out k e; show False; omega
        · have := T0.out.lt
          rcases e with e | e
          · have := HG.out; omega
          · have := VB.out 0 e; omega)
      clear went SM VB ST TB
      go_wp2_with fail
      go_roundw
      case rel =>
        have := HLT.out
        exact ⟨i + 1, by simp, by omega, F6⟩
      case measure =>
        have := HLT.out
        simp [intOf]
        omega
    have hie : i = m := by omega
    subst hie
    have d1 : decide ((i : Int) + 1 ≤ (i : Int)) = false := decide_eq_false (by omega)
    have d1' : decide (i + 1 ≤ i) = false := decide_eq_false (by omega)
    have d1'' : decide (i < i) = false := decide_eq_false (by omega)
    clear hlt him HI ai
    have F0 : Hid (∃ v bs, Sm 66 wr g v (sU win i many 0) bs ∧ (∀ k, Leads v k → w.heap.size ≤ k) ∧ Step None w wr ∧ HasAt 0 wr) := hF
    clear hF
    go_wp2_with fail
    go_loopw [11] (fun t wr => ∃ (k : Nat) (W : World), W = wr ∧ t = .int .i64 (10 + (k : Int)) ∧ k ≤ 10 ∧ Hid (∃ v bs, Sm 66 wr g v (sU win i many k) bs ∧ (∀ j, Leads v j → w.heap.size ≤ j) ∧ Step None w wr ∧ HasAt 0 wr)) (fun t _ => 20 - (intOf t).toNat)
    case atStart => exact ⟨0, _, rfl, rfl, Nat.zero_le _, F0⟩
    case round =>
      obtain ⟨k, wr2, rfl, rfl, hk, hF⟩ := hrel
      clear F0
      obtain ⟨v, bs, sm, vb, st, tab⟩ := hF.out
      have SM := Lib.hid sm
      have VB := Lib.hid vb
      have ST := Lib.hid st
      have TB := Lib.hid tab
      clear sm vb st tab hF
      by_cases hk10 : k = 10
      · subst hk10
        have d3 : decide ((10 : Int) + ((10 : Nat) : Int) < 20) = false := by decide
        clear hk
        go_wp2_with fail
        refine (waits_any g v _ bs wr2 SM.out).mono ?_
        rintro e wz ⟨rfl, rfl⟩
        rw [(sU_same win i many 10).1, sW_len]
        go_wp2_with fail
        refine (taken_any g v _ bs wr2 SM.out).mono ?_
        rintro e wz ⟨rfl, rfl⟩
        rw [(sU_same win i many 10).2]
        go_wp2_with fail
        go_ret
        exact ⟨rfl, ST.out.toBelow⟩
      have hk9 : k < 10 := by omega
      have HK := Lib.hid hk9
      have d3 : decide ((10 : Int) + (k : Int) < 20) = true := decide_eq_true (by omega)
      have EK : Hid ((10 : Int) + (k : Int) + 1 = 10 + ((k + 1 : Nat) : Int) ∧ k + 1 ≤ 10) := Lib.hid (by omega)
      have HMS : Hid (20 - ((10 : Int) + (k : Int) + 1).toNat < 20 - ((10 : Int) + (k : Int)).toNat) := Lib.hid (by omega)
      have hw1 : 0 ≤ (10 : Int) + (k : Int) + 1 ∧ (10 : Int) + (k : Int) + 1 ≤ 2000000000000 := by omega
      have hw2 : 0 ≤ (10 : Int) + (k : Int) - 10 ∧ (10 : Int) + (k : Int) - 10 ≤ 2000000000000 := by omega
      have ek : (10 : Int) + (k : Int) - 10 = k := by omega
      have WK1 := Lib.hid (small_wrap hw1.1 hw1.2)
      have WK2 : Hid (IntKind.i64.wrap ((10 : Int) + (k : Int) - 10) = (k : Int) ∧ wrap64 ((10 : Int) + (k : Int) - 10) = (k : Int)) := Lib.hid ⟨(small_wrap hw2.1 hw2.2).1.trans ek, (small_wrap hw2.1 hw2.2).2.trans ek⟩
      have hU := sU_tick win i many k HMN.out HM.out.2.2.1 hk9
      have HUK := Lib.hid hU
      clear hk hk10 hk9 hw1 hw2 hU ek
      go_wp2_with fail
      refine (tick_any g v _ bs (10 + (k : Int)) wr2 SM.out (OKU.out k (by have := HK.out; omega))).mono ?_
      rintro e w5 ⟨u, bvs, rfl, pk, sm, hs⟩
      rw [HUK.out] at pk sm ⊢
      have PK := Lib.hid pk
      have F5 : Hid (∃ v bs, Sm 66 w5 g v (sU win i many (k + 1)) bs ∧ (∀ j, Leads v j → w.heap.size ≤ j) ∧ Step None w w5 ∧ HasAt 0 w5) := Lib.hid ⟨v, bs, sm, VB.out, ST.out.trans hs fun j hj e => by have := HG.out; show False; omega, TB.out.step hs fun e => by have := HG.out; have := T0.out.lt; omega⟩
      clear pk sm hs SM VB ST TB
      by_cases h3 : k % 3 = 0
      rotate_left
      · have ek3 : ((k : Int) % 3 == 0) = false := by simp; omega
        have hnil : (if k % 3 = 0 then (sW win i).pkts 0 many else []) = ([] : List Pkt) := if_neg h3
        have PN := PK.out
        rw [hnil] at PN
        obtain ⟨uo, uc, rfl, -, -⟩ := PN.row.form
        clear hnil PN PK h3
        obtain ⟨wk1, wk2⟩ := WK1.out
        obtain ⟨wk3, wk4⟩ := WK2.out
        go_wp2_with fail
        go_loopw [15] (fun t wr => t = .int .i64 0 ∧ w5 = wr) (fun _ _ => 0)
        case atStart => exact ⟨rfl, rfl⟩
        case round =>
          obtain ⟨rfl, rfl⟩ := hrel
          go_wp2_with fail
          go_roundw
          case rel =>
            exact ⟨k + 1, _, by first | trivial | rfl, by rw [EK.out.1], EK.out.2, F5⟩
          case measure => first | exact HMS.out | (simp only [intOf]; exact HMS.out) | simpa [intOf] using HMS.out
      have ek3 : ((k : Int) % 3 == 0) = true := by simp; omega
      have hpk : (if k % 3 = 0 then (sW win i).pkts 0 many else []) = (sW win i).pkts 0 many := if_pos h3
      have PN := PK.out
      rw [hpk] at PN
      have hlen : ((sW win i).pkts 0 many).length = many := by rw [Stm.pkts_len]; omega
      obtain ⟨b, off, cp, cur, hu, hcp, -⟩ := PN.row.lies (by rw [hlen]; exact HM.out.2.2.1)
      subst hu
      rw [hlen] at PN
      have PQ := Lib.hid PN
      rw [hlen]
      have dn : ((many : Int) != (many : Int)) = false := by simp
      clear hpk PN PK h3 hlen hcp
      obtain ⟨wk3, wk4⟩ := WK2.out
      go_wp2_with fail
      clear wk3 wk4
      go_loopw [15] (fun t wr => ∃ j : Nat, t = .int .i64 j ∧ j ≤ many ∧ w5 = wr) (fun t _ => many - (intOf t).toNat)
      case atStart => exact ⟨0, rfl, Nat.zero_le _, rfl⟩
      case round =>
        obtain ⟨j, rfl, hj, rfl⟩ := hrel
        by_cases hjm : j < many
        · have d4 : decide ((j : Int) < (many : Int)) = true := decide_eq_true (by omega)
          have d4' : decide (j < many) = true := decide_eq_true hjm
          have HJ := Lib.hid hjm
          have i0 : (0 : Int) ≤ (j : Int) := by omega
          have i1 : (j : Int) < (many : Int) := by omega
          have hp : ((sW win i).pkts 0 many)[j]? = some ⟨3, (j : Int) + 1, 0, noteOf ((j : Int) + 1)⟩ := by
            rw [Stm.pkts, List.getElem?_map, List.getElem?_range (by omega)]
            simp only [Option.map_some, Option.some.injEq, Nat.zero_add]
            rw [sW_get win (by have := HM.out; omega)]
            show (⟨3, 1 + (j : Int), 0, _⟩ : Pkt) = _
            rw [Int.add_comm]
          obtain ⟨c0, c1, c2, c11⟩ := PQ.out.cells hp
          have c11' : w5.cell? ⟨b, off + j * 14 + 11, none⟩ = some (.int .i64 (((j : Int) + 1) % 512)) := c11
          have aj := and_511 ((j : Int) + 1)
          have hw1 : 0 ≤ (j : Int) + 1 ∧ (j : Int) + 1 ≤ 2000000000000 := by have := HM.out; omega
          have EJ : Hid (j + 1 ≤ many) := Lib.hid (by omega)
          have MJ : Hid (many - ((j : Int) + 1).toNat < many - (j : Int).toNat) := Lib.hid (by omega)
          obtain ⟨wj1, wj2⟩ := small_wrap hw1.1 hw1.2
          clear hp c11 hw1 hj hjm
          go_wp2_with fail
          go_roundw
          case rel => exact ⟨j + 1, by simp, EJ.out, by first | trivial | rfl⟩
          case measure => exact MJ.out
        · have d4 : decide ((j : Int) < (many : Int)) = false := decide_eq_false (by omega)
          have d4' : decide (j < many) = false := decide_eq_false hjm
          clear hj hjm
          obtain ⟨wk1, wk2⟩ := WK1.out
          go_wp2_with fail
          go_roundw
          case rel =>
            exact ⟨k + 1, _, by first | trivial | rfl, by rw [EK.out.1], EK.out.2, F5⟩
          case measure => first | exact HMS.out | (simp only [intOf]; exact HMS.out) | simpa [intOf] using HMS.out
end Go.Proofs.YtgchepijbpcckaaDoor
