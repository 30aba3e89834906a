/- ControlLong, ControlBack: plain laws; bytes as arguments. -/
import Derived.Test.YtkboghhmldokiaaDoorD5
import Derived.Test.YtkboghhmldokiaaDoorW22
import Derived.Test.YtkboghhmldokiaaDoorW17
namespace Go.Proofs.YtkboghhmldokiaaDoor
open Go.RowKit Go.Gm

theorem arg_seg {w : World} {v : Value} (h : Arg w (.slice 1 1 (.int .u8)) v) : ∃ l, Seg w v l ∧ Small l ∧ l.length ≤ 140737488355328 := by
  obtain ⟨ao, bs, cap, rfl, h1, h2, hw, h3⟩ := (h.one rfl).ints
  have hsm : Small bs := fun y hy => wf_u8 (hw y hy)
  rcases h3 with ⟨rfl, rfl⟩ | ⟨a, rfl, h4, h5⟩
  · obtain rfl : bs = [] := List.eq_nil_of_length_eq_zero (by omega)
    exact ⟨[], Seg.nil w, hsm, by simp⟩
  · refine ⟨bs, ⟨some a, cap, rfl, h1, by simp only [maxLen] at h2; omega, fun e => (by cases e), fun j x hj => ?_⟩, hsm, by omega⟩
    have hp : 0 < bs.length := by have := (List.getElem?_eq_some_iff.1 hj).1; omega
    have h0 := h5 0 (.int .u8 bs[0]) (by rw [List.getElem?_map, List.getElem?_eq_getElem hp]; rfl)
    have hc := h5 j (.int .u8 x) (by rw [List.getElem?_map, hj]; rfl)
    obtain ⟨b, off, spot⟩ := a
    have hsp : spot = none := by
      have := World.cell?_spot h0
      simpa [Addr.add] using this
    subst hsp
    rw [add_plain] at hc
    exact ⟨b, off, rfl, hc⟩
theorem seg_row {w : World} {u : Value} {l : List Int} (h : Row w 5 1 u l.length (l.map (.int .u8))) : Seg w u l := by
  obtain ⟨-, ao, cap, rfl, h2, h3, h4⟩ := h
  refine ⟨ao, cap, rfl, h2, by simp only [maxLen] at h3; omega, fun e => ?_, fun j x hj => ?_⟩
  · subst e
    rcases h4 with ⟨-, h4⟩ | ⟨b, off, cur, e, -⟩
    · exact h4
    · cases e
  · have hp : 0 < l.length := by have := (List.getElem?_eq_some_iff.1 hj).1; omega
    rcases h4 with ⟨rfl, rfl⟩ | ⟨b, off, cur, rfl, hb, h5, h6⟩
    · omega
    · refine ⟨b, off, rfl, ?_⟩
      rw [blk_cell hb]
      have h7 : (l.map (Value.int .u8))[j]? = some (.int .u8 x) := by rw [List.getElem?_map, hj]; rfl
      rw [← h6, List.getElem?_take] at h7
      split at h7
      · rw [List.getElem?_drop] at h7
        simpa using h7
      · cases h7
theorem seg_text {w : World} {v : Value} {l : List Int} (h : Seg w v l) (hl : l.length ≤ 140737488355328) : (convert 24 9 v).run Tryd.prog w = .ok (.string (strOfNums l)) w := text_body (h.bytes hl)

theorem told_seg (v : Value) (l : List Int) (w : World) (hs : Small l) (hv : Seg w v l) : Calls Tryd.prog 18 #[v] w fun e w' => e = .returned (.tuple (told l)) ∧ Step None w w' := by
  rcases Nat.eq_zero_or_pos l.length with h0 | hp
  · obtain ⟨ao, cap, rfl⟩ := hv.form
    obtain rfl : l = [] := List.eq_nil_of_length_eq_zero h0
    exact told_short ao 0 cap w (by decide)
  · have hv2 := hv
    obtain ⟨ao, cap', ev, hcap, -⟩ := hv
    obtain ⟨b, off, cap, rfl, hc⟩ := hv2.at_ hp
    simp only [Value.slice.injEq] at ev
    obtain ⟨rfl, -, rfl⟩ := ev
    exact told_any b off cap l w hcap hs (World.block_lt_of_cell? _ _ (hc 0 l[0] (List.getElem?_eq_getElem hp))) hc
/-- What bytes tell as a keepalive: nothing, or what their bytes are. -/
theorem told_cases (l : List Int) (hs : Small l) : told l = toldNo ∨ ∃ E P B, told l = #[.int .i64 E, .int .i64 P, .bool B, .int .i64 0] ∧ l.length = 8 ∧ codeA E P = 0 ∧ bytesA E P B = l := by
  by_cases h8 : l.length = 8
  rotate_left
  · exact .inl (told_not h8)
  match l, h8 with
  | [a, x0, x1, x2, x3, y0, y1, z], _ =>
    cases h : toldOk a x0 x1 x2 x3 z
    · left; simp [told, h]
    · right
      have h' := h
      simp only [toldOk, Bool.and_eq_true, beq_iff_eq, Bool.not_eq_true', decide_eq_false_iff_not] at h'
      obtain ⟨ha, hz, hn⟩ := h'
      have b0 := hs x0 (by simp)
      have b1 := hs x1 (by simp)
      have b2 := hs x2 (by simp)
      have b3 := hs x3 (by simp)
      have c0 := hs y0 (by simp)
      have c1 := hs y1 (by simp)
      have hz0 := hs z (by simp)
      have hp : isIn (of2 y0 y1) 0 65535 = true := by
        have h1 : 0 ≤ of2 y0 y1 ∧ of2 y0 y1 ≤ 65535 := by unfold of2; omega
        simp only [isIn, Bool.and_eq_true, decide_eq_true_eq]
        exact h1
      refine ⟨of4 x0 x1 x2 x3, of2 y0 y1, (z == 1), by simp [told, h, toldYes], rfl, by simp [codeA, okA, hn, hp], ?_⟩
      simp only [bytesA, okA, hn, hp, Bool.and_self, if_true]
      rw [encA, four_of4 b0 b1 b2 b3, two_of2 c0 c1]
      have hz2 : (if (z == 1) = true then (1 : Int) else 0) = z := by
        by_cases e : z = 1
        · simp [e]
        · have : z = 0 := by omega
          simp [this]
      rw [hz2, ha]
      rfl
/-- Behind encoded bytes. -/
theorem back_law {ep sq ak : Int} {n : Note} (h : okP ep sq ak n = true) (hm : Small n.mac) (hb : Small n.body) : decN (encB ep sq ak n) = n ∧ decE (encB ep sq ak n) = ep ∧ decS (encB ep sq ak n) = sq ∧ decA (encB ep sq ak n) = ak ∧ decCode (encB ep sq ak n) = 0 := by
  have e : encB ep sq ak n = enc ep sq ak n n.kind.toNat := by rw [encB, if_pos h]
  rw [e]
  obtain ⟨h1, h2, h3, h4, h5⟩ := decOk_back h hm hb
  obtain ⟨e1, e2, e3, e4, e5⟩ := dec_yes h1
  exact ⟨by rw [e1, h5], by rw [e2, h2], by rw [e3, h3], by rw [e4, h4], e5⟩
theorem forth_law {l : List Int} (hs : Small l) (h : decOk l = true) : codeB (decE l) (decS l) (decA l) (decN l) = 0 ∧ encB (decE l) (decS l) (decA l) (decN l) = l ∧ (decN l).body.length ≤ 1600 ∧ 13 ≤ l.length := by
  obtain ⟨e1, e2, e3, e4, e5⟩ := dec_yes h
  obtain ⟨h1, h2, h3, h4⟩ := decOk_sound hs h
  rw [e1, e2, e3, e4]
  refine ⟨by rw [codeB, if_pos h2], by rw [encB, if_pos h2]; exact h1, ?_, ?_⟩
  · obtain ⟨hr, -⟩ := okP_parts h2
    obtain ⟨k, hk, -, -⟩ := right_kind hr
    exact (right_range _ k hk hr).2.2.2
  · rw [← h1]
    exact (enc_len _ _ _ _ _).1
theorem len_law (ep sq ak ep' sq' ak' : Int) (n : Note) (k : Nat) : (enc ep sq ak n k).length = (enc ep' sq' ak' n k).length := by
  simp [enc, four]
theorem more_law {ep sq ak : Int} {n : Note} (h : okP ep sq ak n = true) (hm : Small n.mac) (hb : Small n.body) {r : List Int} (hr : r ≠ []) : decCode (encB ep sq ak n ++ r) = 2 := by
  have e : encB ep sq ak n = enc ep sq ak n n.kind.toNat := by rw [encB, if_pos h]
  rw [e, decCode, (decOk_rest r h hm hb).1]
  cases r with
  | nil => exact absurd rfl hr
  | cons x y => rfl
theorem less_law {ep sq ak : Int} {n : Note} (h : okP ep sq ak n = true) (hm : Small n.mac) (hb : Small n.body) : decCode ((encB ep sq ak n).take ((encB ep sq ak n).length - 1)) = 2 := by
  have e : encB ep sq ak n = enc ep sq ak n n.kind.toNat := by rw [encB, if_pos h]
  have hd := (decOk_back h hm hb).1
  have hsm := encB_small (ep := ep) (sq := sq) (ak := ak) hm hb
  have hlen := (enc_len ep sq ak n n.kind.toNat).1
  rw [e] at hsm ⊢
  generalize enc ep sq ak n n.kind.toNat = a at *
  obtain ⟨l, x, rfl⟩ : ∃ l x, a = l ++ [x] := ⟨a.take (a.length - 1), a[a.length - 1]'(by omega), by
    conv => lhs; rw [← List.take_append_drop (a.length - 1) a]
    rw [List.drop_eq_getElem_cons (by omega), List.drop_of_length_le (by omega)]⟩
  have : (l ++ [x]).take ((l ++ [x]).length - 1) = l := by simp
  rw [this, decCode, decOk_less (small_left hsm) hd]
  rfl
theorem enc_max (ep sq ak : Int) (n : Note) (k : Nat) : (enc ep sq ak n k).length ≤ 30 + n.body.length := by
  unfold enc
  simp only [List.length_append]
  have h1 := ite_len (hasB k 1) (two n.vlan)
  have h2 := ite_len (hasB k 2) n.mac
  have h3 := ite_len (hasB k 4) (two n.port)
  have h4 := ite_len (hasB k 8) [n.state % 256]
  have h5 := ite_len (hasB k 16) (two n.body.length ++ n.body)
  simp only [List.length_append] at h5
  have e1 : (two n.vlan).length = 2 := rfl
  have e2 : n.mac.length = 6 := rfl
  have e3 : (two n.port).length = 2 := rfl
  have e4 : [n.state % 256].length = 1 := rfl
  have e5 : (two (n.body.length : Int)).length = 2 := rfl
  have e6 : (four ep).length = 4 := rfl
  have e7 : (four sq).length = 4 := rfl
  have e8 : (four ak).length = 4 := rfl
  have e9 : [(k : Int)].length = 1 := rfl
  omega
theorem encB_max (ep sq ak : Int) (n : Note) : (encB ep sq ak n).length ≤ 30 + n.body.length := by
  unfold encB
  split
  · exact enc_max _ _ _ _ _
  · simp
end Go.Proofs.YtkboghhmldokiaaDoor
