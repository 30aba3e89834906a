/- The document's Decode, in plain words; what kinds have, any kind. -/
import Derived.Test.YtkboghhmldokiaaDoorD9
import Derived.Test.YtkboghhmldokiaaDoorW7
namespace Go.Proofs.YtkboghhmldokiaaDoor
open Go.RowKit Go.Gm

def pad : List Int := List.replicate 20 0
def refBody (R : List Int) : List Int := (R.drop 2).take (min (shortP (R, false)).1 ((R.length : Int) - 2)).toNat
def refN (k : Nat) (s : Rs) : Note := mkN k (pV k s).1 (pM k (sV k s)).1 (pP k (sM k s)).1 (pS k (sP k s)).1 (if hasB k 16 then refBody (sS k s).1 else [])

theorem takeP_cons {a : List Int} {r : List Int} {bd : Bool} : takeP a.length (a ++ r, bd) = (a, (r, bd)) := by
  unfold takeP
  rw [if_neg (by simp)]
  simp
theorem shortP_cons (a b : Int) (r : List Int) (bd : Bool) : shortP (a :: b :: r, bd) = (of2 a b, (r, bd)) := by
  have := takeP_cons (a := [a, b]) (r := r) (bd := bd)
  unfold shortP
  rw [show takeP 2 (a :: b :: r, bd) = ([a, b], (r, bd)) from this]
  rfl
theorem byteP_cons (a : Int) (r : List Int) (bd : Bool) : byteP (a :: r, bd) = (a, (r, bd)) := by
  have := takeP_cons (a := [a]) (r := r) (bd := bd)
  unfold byteP
  rw [show takeP 1 (a :: r, bd) = ([a], (r, bd)) from this]
  rfl
theorem longP_cons (a b c d : Int) (r : List Int) (bd : Bool) : longP (a :: b :: c :: d :: r, bd) = (of4 a b c d, (r, bd)) := by
  unfold longP
  rw [shortP_cons]
  dsimp only
  rw [shortP_cons]
  rfl
theorem head_cons (x0 x1 x2 x3 x4 x5 x6 x7 x8 x9 x10 x11 x12 : Int) (t : List Int) : head (x0 :: x1 :: x2 :: x3 :: x4 :: x5 :: x6 :: x7 :: x8 :: x9 :: x10 :: x11 :: x12 :: t) = ((of4 x0 x1 x2 x3, of4 x4 x5 x6 x7, of4 x8 x9 x10 x11, x12), (t, false)) :=
  head_is (longP_cons _ _ _ _ _ _) (longP_cons _ _ _ _ _ _) (longP_cons _ _ _ _ _ _) (byteP_cons _ _ _)
theorem small_pad : Small pad := fun x hx => by
  have := (List.mem_replicate.1 hx).2
  omega

theorem refN_small {k : Nat} {s : Rs} (hs : Small s.1) : Small (refN k s).mac ∧ Small (refN k s).body := by
  constructor
  · have h6 : (pM k (sV k s)).1.length = 6 ∧ Small (pM k (sV k s)).1 := by
      unfold pM opt
      split
      · exact ⟨takeP_len 6 _, takeP_small (sV_small hs)⟩
      · exact ⟨rfl, fun x hx => by simp at hx; omega⟩
    have : (refN k s).mac = (pM k (sV k s)).1 := mac_of h6.1
    rw [this]
    exact h6.2
  · show Small (if hasB k 16 then refBody (sS k s).1 else [])
    split
    · exact fun x hx => sS_small hs x (List.mem_of_mem_drop (List.mem_of_mem_take hx))
    · exact small_nil
theorem body_same {k : Nat} {s : Rs} (h : (sB k s).2 = false) : refN k s = noteP k s := by
  unfold refN noteP
  congr 1
  unfold sB pB opt at h
  unfold pB opt
  cases hh : hasB k 16
  · rfl
  · rw [hh] at h
    simp only [if_true] at h ⊢
    show refBody (sS k s).1 = (bodyP (sS k s)).1
    generalize sS k s = z at *
    obtain ⟨R, bd⟩ := z
    unfold bodyP at h ⊢
    -- enough bytes
    have h2 : (shortP (R, bd)).2.2 = false := by
      cases hx : (shortP (R, bd)).2.2
      · rfl
      · unfold takeP at h
        split at h
        · cases h
        · rw [show ((List.take (shortP (R, bd)).1.toNat (shortP (R, bd)).2.1, List.drop (shortP (R, bd)).1.toNat (shortP (R, bd)).2.1, (shortP (R, bd)).2.2) : List Int × Rs).2.2 = (shortP (R, bd)).2.2 from rfl, hx] at h
          cases h
    have hl : 2 ≤ R.length := by
      unfold shortP takeP at h2
      split at h2
      · cases h2
      · rename_i h3; simpa using h3
    match R, hl with
    | a :: b :: R', _ =>
      rw [shortP_cons] at h h2 ⊢
      dsimp only at h h2 ⊢
      unfold refBody
      rw [shortP_cons]
      dsimp only
      unfold takeP at h ⊢
      dsimp only at h ⊢
      split
      · rename_i hlt
        rw [if_pos hlt] at h
        cases h
      · rename_i hge
        show (List.drop 2 (a :: b :: R')).take (min (of2 a b) (((a :: b :: R').length : Int) - 2)).toNat = R'.take (of2 a b).toNat
        rw [show (List.drop 2 (a :: b :: R')) = R' from rfl]
        congr 1
        simp only [List.length_cons]
        omega
/-- The document's answer is the code's. -/
theorem ref_law {x0 x1 x2 x3 x4 x5 x6 x7 x8 x9 x10 x11 x12 : Int} {t l : List Int} (hl : l = x0 :: x1 :: x2 :: x3 :: x4 :: x5 :: x6 :: x7 :: x8 :: x9 :: x10 :: x11 :: x12 :: t) (hs : Small l) {k : Nat} (hk : x12 = k) :
    (decOk l = false → okP (of4 x0 x1 x2 x3) (of4 x4 x5 x6 x7) (of4 x8 x9 x10 x11) (refN k (t ++ pad, false)) = false ∨ encB (of4 x0 x1 x2 x3) (of4 x4 x5 x6 x7) (of4 x8 x9 x10 x11) (refN k (t ++ pad, false)) ≠ l) ∧
    (decOk l = true → okP (of4 x0 x1 x2 x3) (of4 x4 x5 x6 x7) (of4 x8 x9 x10 x11) (refN k (t ++ pad, false)) = true ∧ encB (of4 x0 x1 x2 x3) (of4 x4 x5 x6 x7) (of4 x8 x9 x10 x11) (refN k (t ++ pad, false)) = l ∧ decN l = refN k (t ++ pad, false) ∧ decE l = of4 x0 x1 x2 x3 ∧ decS l = of4 x4 x5 x6 x7 ∧ decA l = of4 x8 x9 x10 x11) := by
  have hh := head_cons x0 x1 x2 x3 x4 x5 x6 x7 x8 x9 x10 x11 x12 t
  rw [← hl] at hh
  have hst : Small (t ++ pad) := small_app (fun x hx => hs x (by rw [hl]; simp [hx])) small_pad
  obtain ⟨hm, hb⟩ := refN_small (k := k) (s := (t ++ pad, false)) hst
  constructor
  · intro hno
    cases ho : okP (of4 x0 x1 x2 x3) (of4 x4 x5 x6 x7) (of4 x8 x9 x10 x11) (refN k (t ++ pad, false))
    · exact .inl rfl
    · refine .inr fun e => ?_
      have := (decOk_back ho hm hb).1
      rw [encB, if_pos ho] at e
      rw [e, hno] at this
      cases this
  · intro hy
    obtain ⟨h1, h2, h3, h4⟩ := decOk_sound hs hy
    have hkk : (kindOf l).toNat = k := by unfold kindOf; rw [hh]; dsimp only; omega
    have hn : noteOf l = noteP k (t, false) := by unfold noteOf; rw [hkk, hh]
    -- the pieces
    simp only [decOk, Bool.and_eq_true, decide_eq_true_eq, Bool.not_eq_true', List.isEmpty_iff] at hy
    obtain ⟨y1, y2, y3, y4⟩ := hy
    unfold endOf at y2 y3
    rw [hkk, hh] at y2 y3
    have hts : Small t := small_left hst
    obtain ⟨n1, n2, n3, n4⟩ := noteP_sound (k := k) (s := (t, false)) hts y2 y3
    have hr : right (noteP k (t, false)) = true := by rw [← hn]; exact (okP_parts h2).1
    obtain ⟨e1, e2⟩ := noteP_back (k := k) pad (show (noteP k (t, false)).kind = k from rfl) hr n3 n4
    rw [← n2] at e1 e2
    have e3 : refN k (t ++ pad, false) = noteP k (t, false) := by
      rw [body_same (by show (sB k (t ++ pad, false)).2 = false; rw [show ((t, false) : Rs).1 = t from rfl] at e2; rw [e2])]
      exact e1
    have hy' : decOk l = true := by
      simp only [decOk, Bool.and_eq_true, decide_eq_true_eq, Bool.not_eq_true', List.isEmpty_iff]
      unfold endOf
      rw [hkk, hh]
      exact ⟨y1, y2, y3, by rw [hh] at y4; exact y4⟩
    obtain ⟨d1, d2, d3, d4, -⟩ := dec_yes hy'
    rw [hn, hh] at h1 h2
    dsimp only at h1 h2
    rw [e3]
    refine ⟨h2, by rw [encB, if_pos h2]; exact h1, by rw [d1, hn], by rw [d2, hh], by rw [d3, hh], by rw [d4, hh]⟩

/-! What kinds have, any kind. -/
theorem hasB_big {k : Nat} (hk : 9 ≤ k) (f : Int) : hasB k f = false := by
  have h9 : tab.length = 9 := by decide
  have e : tab.getD k 0 = 0 := by
    rw [List.getD_eq_getElem?_getD, List.getElem?_eq_none (by omega)]
    rfl
  unfold hasB
  rw [e]
  simp [bits]
  decide
set_option linter.unusedSimpArgs false in
theorem rhas_big (k : Nat) (hk : 9 ≤ k) (hk2 : k ≤ 255) (w : World) : (Calls Tryd.prog 33 #[.int .i64 k] w fun e w' => e = .returned (.bool false) ∧ w = w') ∧ (Calls Tryd.prog 34 #[.int .i64 k] w fun e w' => e = .returned (.bool false) ∧ w = w') ∧ (Calls Tryd.prog 35 #[.int .i64 k] w fun e w' => e = .returned (.bool false) ∧ w = w') ∧
    (Calls Tryd.prog 36 #[.int .i64 k] w fun e w' => e = .returned (.bool false) ∧ w = w') ∧ (Calls Tryd.prog 37 #[.int .i64 k] w fun e w' => e = .returned (.bool false) ∧ w = w') := by
  have e1 : ((k : Int) == 1) = false := beq_eq_false_iff_ne.2 (by omega)
  have e2 : ((k : Int) == 2) = false := beq_eq_false_iff_ne.2 (by omega)
  have e3 : ((k : Int) == 3) = false := beq_eq_false_iff_ne.2 (by omega)
  have e4 : ((k : Int) == 4) = false := beq_eq_false_iff_ne.2 (by omega)
  have e5 : ((k : Int) == 5) = false := beq_eq_false_iff_ne.2 (by omega)
  have e6 : ((k : Int) == 6) = false := beq_eq_false_iff_ne.2 (by omega)
  have e7 : ((k : Int) == 7) = false := beq_eq_false_iff_ne.2 (by omega)
  have e8 : ((k : Int) == 8) = false := beq_eq_false_iff_ne.2 (by omega)
  have d3 : decide ((3 : Int) ≤ (k : Int)) = true := decide_eq_true (by omega)
  have d6 : decide ((6 : Int) ≤ (k : Int)) = true := decide_eq_true (by omega)
  have c6 : decide ((k : Int) ≤ 6) = false := decide_eq_false (by omega)
  have c8 : decide ((k : Int) ≤ 8) = false := decide_eq_false (by omega)
  refine ⟨?_, ?_, ?_, ?_, ?_⟩
  · go_enter Tryd.func33, Tryd.ntmps33
    go_wp2_with fail
    go_ret
    exact ⟨rfl, rfl⟩
  · go_enter Tryd.func34, Tryd.ntmps34
    go_wp2_with fail
    go_ret
    exact ⟨rfl, rfl⟩
  · go_enter Tryd.func35, Tryd.ntmps35
    go_wp2_with fail
    go_ret
    exact ⟨rfl, rfl⟩
  · go_enter Tryd.func36, Tryd.ntmps36
    go_wp2_with fail
    go_ret
    exact ⟨rfl, rfl⟩
  · go_enter Tryd.func37, Tryd.ntmps37
    go_wp2_with fail
    go_ret
    exact ⟨rfl, rfl⟩
theorem rhas_all (k : Nat) (hk2 : k ≤ 255) (w : World) : (Calls Tryd.prog 33 #[.int .i64 k] w fun e w' => e = .returned (.bool (hasB k 1)) ∧ w = w') ∧ (Calls Tryd.prog 34 #[.int .i64 k] w fun e w' => e = .returned (.bool (hasB k 2)) ∧ w = w') ∧ (Calls Tryd.prog 35 #[.int .i64 k] w fun e w' => e = .returned (.bool (hasB k 4)) ∧ w = w') ∧
    (Calls Tryd.prog 36 #[.int .i64 k] w fun e w' => e = .returned (.bool (hasB k 8)) ∧ w = w') ∧ (Calls Tryd.prog 37 #[.int .i64 k] w fun e w' => e = .returned (.bool (hasB k 16)) ∧ w = w') := by
  rcases Nat.lt_or_ge k 9 with h | h
  · exact ⟨rhas_vlan k h w, rhas_mac k h w, rhas_port k h w, rhas_state k h w, rhas_body k h w⟩
  · rw [hasB_big h, hasB_big h, hasB_big h, hasB_big h, hasB_big h]
    exact rhas_big k h hk2 w
theorem pats_all (k : Nat) : (hasB k 1 = false ∧ hasB k 2 = false ∧ hasB k 4 = false ∧ hasB k 8 = false ∧ hasB k 16 = false) ∨ (hasB k 1 = true ∧ hasB k 2 = true ∧ hasB k 4 = true ∧ hasB k 8 = false ∧ hasB k 16 = false) ∨
    (hasB k 1 = true ∧ hasB k 2 = true ∧ hasB k 4 = false ∧ hasB k 8 = false ∧ hasB k 16 = false) ∨ (hasB k 1 = false ∧ hasB k 2 = false ∧ hasB k 4 = true ∧ hasB k 8 = true ∧ hasB k 16 = false) ∨
    (hasB k 1 = false ∧ hasB k 2 = false ∧ hasB k 4 = true ∧ hasB k 8 = false ∧ hasB k 16 = true) ∨ (hasB k 1 = false ∧ hasB k 2 = false ∧ hasB k 4 = false ∧ hasB k 8 = true ∧ hasB k 16 = false) ∨
    (hasB k 1 = true ∧ hasB k 2 = false ∧ hasB k 4 = true ∧ hasB k 8 = true ∧ hasB k 16 = true) := by
  rcases Nat.lt_or_ge k 9 with h | h
  · exact has_pats k h
  · exact .inl ⟨hasB_big h 1, hasB_big h 2, hasB_big h 4, hasB_big h 8, hasB_big h 16⟩
end Go.Proofs.YtkboghhmldokiaaDoor
