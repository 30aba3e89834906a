/- Encode's closure of an address; the head; Encode. -/
import Derived.Test.YtfpdfenepelcdaaW10
namespace Go.Proofs.Ytfpdfenepelcdaa
open Go.RowKit Go.Gm

set_option maxHeartbeats 4000000 in
theorem encMac (w0 : World) (B C off : Nat) (x : Bpd) (l m : List Int) (a : World) (h : En w0 B C x l a) (hm : m.length = 6) (hv : ∀ (j : Nat) y, m[j]? = some y → x.cells[off + j]? = some (.int .u8 y)) (hl : l.length ≤ 100) :
    Calls Try.prog 21 #[.pointer (some ⟨B, off, none⟩), .pointer (some ⟨C, 0, none⟩)] a fun e b => e = .returned (.tuple #[]) ∧ En w0 B C x (l ++ m) b ∧ Step (Other [46, 60] a) a b := by
  obtain ⟨u, hu, hf⟩ := h.cap
  have c0 := blk_cell hu 0
  simp only [List.getElem?_toArray, List.getElem?_cons_zero] at c0
  obtain ⟨ao, cp, rfl⟩ := hf.form
  have src : Src Try.prog 1 29 (.slice (some ⟨B, off, none⟩) 6 6) 6 (m.map (.int .u8)) a.drew := by
    refine Src.ofSlice _ Try.underlying29 ⟨B, off, none⟩ 6 6 _ (by simp [hm]) (fun j y hj => ?_) (fun y hy => ?_)
    · obtain ⟨z, hz, rfl⟩ : ∃ z, m[j]? = some z ∧ .int .u8 z = y := by simpa using hj
      rw [add_plain]
      show a.cell? _ = _
      rw [blk_cell h.one]
      exact hv j z hz
    · obtain ⟨z, -, rfl⟩ := List.mem_map.1 hy
      rfl
  have HF := Lib.hid hf
  have HU := Lib.hid hu
  have SRC := Lib.hid src
  have H := Lib.hid h
  have HM := Lib.hid hm
  clear hf hu src h hv hm
  go_enter Try.func21, Try.ntmps21
  go_wp2_with fail
  refine wp_region_plan (fun w' => w'.cell? ⟨C, 0, none⟩ = some (.slice ao l.length cp)) (.take 0 (.take 1 (.take 2 (.take 3 (.alt 4 (.last 5) .none))))) _
    (by simp only [Plan.map, opOf, List.getElem?_toArray, List.getElem?_cons_zero, List.getElem?_cons_succ, Option.getD_some]; rfl) (by kernel_rfl) (by kernel_rfl) (by kernel_rfl) (by decide) (by intro c a d v w; cases d <;> exact fun h => h) c0 ?_
  repeat (refine wpPlan.taken (by rfl) (by intro w' hS'; (try dsimp only at hS'); go_split_ands; go_simp; try with_reducible rfl) ?_; simp only [Act.put, List.setIfInBounds_toArray, List.set_cons_zero, List.set_cons_succ])
  refine wpPlan.runs fun K' hK => ?_
  refine step_append_row (m := 6) T29 (by rfl) (.tmp 3) (.tmp 6) (by rfl) (by rfl) (HF.out.still ((Step.refl None a).drew)).row (by rfl) SRC.out (by simp [maxLen]; omega) (by simp; omega) ?_
  intro v2 w2 hr2 hs2 hl2
  obtain ⟨vo, vc, rfl, -, -⟩ := hr2.form
  have M := Lib.hid (H.out.more (more := m) HU.out HF.out ((Step.refl None a).drew) (by rw [HM.out]; exact hr2) hs2 (fun k hk => (hl2 k hk).imp id fun h => h))
  have bC := (((Step.refl None a).drew.none).then_ hs2).blk HU.out (HF.out.row.ne HU.out (by decide))
  have cw := blk_cell bC 0
  have fz := blk_frozen bC 0
  simp only [List.getElem?_toArray, List.getElem?_cons_zero] at cw
  refine hK.out _ _ cw ?_
  clear bC HU HF SRC hr2 hs2 hl2 c0 H HM hK K'
  refine wpPlan.ends fun K' hK => ?_
  go_simp
  refine hK.out _ _ ?_
  clear hK K'
  go_wp2_with fail
  go_end0
  exact ⟨rfl, M.out⟩

theorem head_any (k : Int) (w : World) : Calls Try.prog 18 #[.int .i64 k] w fun e w' => ∃ u, e = .returned u ∧ Buf 5 w' w.heap.size u [0, 0, if k == 2 then 2 else 0, k % 256] ∧ Step None w w' := by
  have wr := IntKind.wrap_u8 k
  have p1 := heap_alloc_new w (.cells #[.int .u8 0, .int .u8 0, .int .u8 0, .int .u8 (k % 256)] 5)
  have s1 := (Step.refl None w).alloc (.cells #[.int .u8 0, .int .u8 0, .int .u8 0, .int .u8 (k % 256)] 5)
  have p2 := heap_alloc_new w (.cells #[.int .u8 0, .int .u8 0, .int .u8 2, .int .u8 (k % 256)] 5)
  have S2 := Lib.hid ((Step.refl None w).alloc (.cells #[.int .u8 0, .int .u8 0, .int .u8 2, .int .u8 (k % 256)] 5))
  have P1 := Lib.hid p1
  have S1 := Lib.hid s1
  have P2 := Lib.hid p2
  clear p1 s1 p2
  cases hk : (k == 2)
  · go_enter Try.func18, Try.ntmps18
    go_wp2_with fail
    go_ret
    exact ⟨_, rfl, ⟨Row.ofBlock (cur := #[.int .u8 0, .int .u8 0, .int .u8 0, .int .u8 (k % 256)]) P1.out (Nat.le_refl _) (by simp [maxLen]) (by simp), fun k hk => by simp [Leads, Value.ownBlock] at hk; omega⟩, S1.out⟩
  · go_enter Try.func18, Try.ntmps18
    go_wp2_with fail
    go_ret
    exact ⟨_, rfl, ⟨Row.ofBlock (cur := #[.int .u8 0, .int .u8 0, .int .u8 2, .int .u8 (k % 256)]) P2.out (Nat.le_refl _) (by simp [maxLen]) (by simp), fun k hk => by simp [Leads, Value.ownBlock] at hk; omega⟩, S2.out⟩

def pieces (x : Bpd) : List (List Int) := [bytesOf x.flags 1, bytesOf x.root.p 2, x.root.mac, bytesOf x.cost 4, bytesOf x.bridge.p 2, x.bridge.mac, bytesOf x.port 2, bytesOf x.age 2, bytesOf x.most 2, bytesOf x.hello 2, bytesOf x.fwd 2]
def encUp (x : Bpd) : Nat → List Int
  | 0 => [0, 0, version x, x.kind % 256]
  | i + 1 => encUp x i ++ (pieces x).getD i []
theorem encUp_len (x : Bpd) : ∀ i, i ≤ 11 → (encUp x i).length ≤ 4 + 6 * i
  | 0, _ => by simp [encUp]
  | i + 1, h => by
    have := encUp_len x i (by omega)
    have hp : ((pieces x).getD i []).length ≤ 6 := by
      have hcs : i = 0 ∨ i = 1 ∨ i = 2 ∨ i = 3 ∨ i = 4 ∨ i = 5 ∨ i = 6 ∨ i = 7 ∨ i = 8 ∨ i = 9 ∨ i = 10 := by omega
      rcases hcs with rfl | rfl | rfl | rfl | rfl | rfl | rfl | rfl | rfl | rfl | rfl <;> simp [pieces, bytesOf, two, four, Idn.mac]
    simp only [encUp, List.length_append]
    omega

set_option maxHeartbeats 4000000 in
theorem enc_walk (x : Bpd) (w0 w : World) (B C : Nat) (h : En w0 B C x (encUp x 0) w) : Calls Try.prog 19 #[.pointer (some ⟨B, 0, none⟩), .func (.func 20) #[] #[.pointer (some ⟨C, 0, none⟩)], .func (.func 21) #[] #[.pointer (some ⟨C, 0, none⟩)]] w fun e w' => e = .returned (.tuple #[]) ∧ En w0 B C x (encUp x 11) w' := by
  refine (walk20 B (.pointer (some ⟨C, 0, none⟩)) (.pointer (some ⟨C, 0, none⟩)) (fun i a => En w0 B C x (encUp x i) a) (fun _ _ => False) w (fun _ _ h => h.elim) (fun i a b h s => h.still s) h ?_ ?_).mono ?_
  · intro i a off k hi hj
    have hil : i ≤ 10 := by
      have := (List.getElem?_eq_some_iff.1 hi).1
      simp [flds] at this
      omega
    have hlen := encUp_len x i (by omega)
    have one : ∀ (v : Int), x.cells[off]? = some (.int .i64 v) → (k = 1 ∨ k = 2 ∨ k = 4) → (pieces x).getD i [] = bytesOf v k →
        Calls Try.prog 20 #[.agg #[.pointer (some ⟨B, off, none⟩), .int .i64 k], .pointer (some ⟨C, 0, none⟩)] a fun e b => (e = .returned (.tuple #[]) ∧ En w0 B C x (encUp x (i + 1)) b ∧ Step (Other [46, 60] a) a b) ∨ False := by
      intro v hv hk hc
      show Calls _ _ _ _ fun e b => (e = .returned (.tuple #[]) ∧ En w0 B C x (encUp x i ++ (pieces x).getD i []) b ∧ Step (Other [46, 60] a) a b) ∨ False
      rw [hc]
      rcases hk with rfl | rfl | rfl
      · exact (enc1 w0 B C off x _ v a hj hv (by omega)).mono fun e b h => .inl h
      · exact (enc2 w0 B C off x _ v a hj hv (by omega)).mono fun e b h => .inl h
      · exact (enc4 w0 B C off x _ v a hj hv (by omega)).mono fun e b h => .inl h
    match i, hi with
    | 0, hi => simp only [flds, List.getElem?_cons_zero, Option.some.injEq, Fld.num.injEq] at hi; obtain ⟨rfl, rfl⟩ := hi; exact one x.flags rfl (by decide) rfl
    | 1, hi => simp only [flds, List.getElem?_cons_zero, List.getElem?_cons_succ, Option.some.injEq, Fld.num.injEq] at hi; obtain ⟨rfl, rfl⟩ := hi; exact one x.root.p rfl (by decide) rfl
    | 2, hi => simp [flds] at hi
    | 3, hi => simp only [flds, List.getElem?_cons_zero, List.getElem?_cons_succ, Option.some.injEq, Fld.num.injEq] at hi; obtain ⟨rfl, rfl⟩ := hi; exact one x.cost rfl (by decide) rfl
    | 4, hi => simp only [flds, List.getElem?_cons_zero, List.getElem?_cons_succ, Option.some.injEq, Fld.num.injEq] at hi; obtain ⟨rfl, rfl⟩ := hi; exact one x.bridge.p rfl (by decide) rfl
    | 5, hi => simp [flds] at hi
    | 6, hi => simp only [flds, List.getElem?_cons_zero, List.getElem?_cons_succ, Option.some.injEq, Fld.num.injEq] at hi; obtain ⟨rfl, rfl⟩ := hi; exact one x.port rfl (by decide) rfl
    | 7, hi => simp only [flds, List.getElem?_cons_zero, List.getElem?_cons_succ, Option.some.injEq, Fld.num.injEq] at hi; obtain ⟨rfl, rfl⟩ := hi; exact one x.age rfl (by decide) rfl
    | 8, hi => simp only [flds, List.getElem?_cons_zero, List.getElem?_cons_succ, Option.some.injEq, Fld.num.injEq] at hi; obtain ⟨rfl, rfl⟩ := hi; exact one x.most rfl (by decide) rfl
    | 9, hi => simp only [flds, List.getElem?_cons_zero, List.getElem?_cons_succ, Option.some.injEq, Fld.num.injEq] at hi; obtain ⟨rfl, rfl⟩ := hi; exact one x.hello rfl (by decide) rfl
    | 10, hi => simp only [flds, List.getElem?_cons_zero, List.getElem?_cons_succ, Option.some.injEq, Fld.num.injEq] at hi; obtain ⟨rfl, rfl⟩ := hi; exact one x.fwd rfl (by decide) rfl
    | n + 11, hi => simp [flds] at hi
  · intro i a off hi hj
    have hil : i ≤ 10 := by
      have := (List.getElem?_eq_some_iff.1 hi).1
      simp [flds] at this
      omega
    have hlen := encUp_len x i (by omega)
    show Calls _ _ _ _ fun e b => (e = .returned (.tuple #[]) ∧ En w0 B C x (encUp x i ++ (pieces x).getD i []) b ∧ Step (Other [46, 60] a) a b) ∨ False
    match i, hi with
    | 0, hi => simp [flds] at hi
    | 1, hi => simp [flds] at hi
    | 2, hi =>
      simp only [flds, List.getElem?_cons_zero, List.getElem?_cons_succ, Option.some.injEq, Fld.mac.injEq] at hi; subst hi
      exact (encMac w0 B C _ x _ x.root.mac a hj rfl (fun j y hy => by
        match j, hy with
        | 0, hy => simp only [Idn.mac, List.getElem?_cons_zero, Option.some.injEq] at hy; subst hy; rfl
        | 1, hy => simp only [Idn.mac, List.getElem?_cons_zero, List.getElem?_cons_succ, Option.some.injEq] at hy; subst hy; rfl
        | 2, hy => simp only [Idn.mac, List.getElem?_cons_zero, List.getElem?_cons_succ, Option.some.injEq] at hy; subst hy; rfl
        | 3, hy => simp only [Idn.mac, List.getElem?_cons_zero, List.getElem?_cons_succ, Option.some.injEq] at hy; subst hy; rfl
        | 4, hy => simp only [Idn.mac, List.getElem?_cons_zero, List.getElem?_cons_succ, Option.some.injEq] at hy; subst hy; rfl
        | 5, hy => simp only [Idn.mac, List.getElem?_cons_zero, List.getElem?_cons_succ, Option.some.injEq] at hy; subst hy; rfl
        | j + 6, hy => simp [Idn.mac] at hy) (by omega)).mono fun e b h => .inl h
    | 3, hi => simp [flds] at hi
    | 4, hi => simp [flds] at hi
    | 5, hi =>
      simp only [flds, List.getElem?_cons_zero, List.getElem?_cons_succ, Option.some.injEq, Fld.mac.injEq] at hi; subst hi
      exact (encMac w0 B C _ x _ x.bridge.mac a hj rfl (fun j y hy => by
        match j, hy with
        | 0, hy => simp only [Idn.mac, List.getElem?_cons_zero, Option.some.injEq] at hy; subst hy; rfl
        | 1, hy => simp only [Idn.mac, List.getElem?_cons_zero, List.getElem?_cons_succ, Option.some.injEq] at hy; subst hy; rfl
        | 2, hy => simp only [Idn.mac, List.getElem?_cons_zero, List.getElem?_cons_succ, Option.some.injEq] at hy; subst hy; rfl
        | 3, hy => simp only [Idn.mac, List.getElem?_cons_zero, List.getElem?_cons_succ, Option.some.injEq] at hy; subst hy; rfl
        | 4, hy => simp only [Idn.mac, List.getElem?_cons_zero, List.getElem?_cons_succ, Option.some.injEq] at hy; subst hy; rfl
        | 5, hy => simp only [Idn.mac, List.getElem?_cons_zero, List.getElem?_cons_succ, Option.some.injEq] at hy; subst hy; rfl
        | j + 6, hy => simp [Idn.mac] at hy) (by omega)).mono fun e b h => .inl h
    | 6, hi => simp [flds] at hi
    | 7, hi => simp [flds] at hi
    | 8, hi => simp [flds] at hi
    | 9, hi => simp [flds] at hi
    | 10, hi => simp [flds] at hi
    | n + 11, hi => simp [flds] at hi
  · rintro e w' (⟨rfl, h⟩ | h)
    · exact ⟨rfl, h⟩
    · exact h.elim

theorem encUp_all (x : Bpd) (hf : fine x = true) (h : (x.kind == 128) = false) : encB x = encUp x 11 ++ if x.kind == 2 then [0] else [] := by
  have hr := fine_rng hf
  have e1 : bytesOf x.flags 1 = [x.flags % 256] := rfl
  unfold encB
  rw [h, if_neg (by decide)]
  simp [encUp, pieces, bytesOf, Idn.bytes, Idn.mac]

set_option maxHeartbeats 4000000 in
theorem encode_bad (x : Bpd) (w : World) (hno : okB x = false) : Calls Try.prog 10 #[.agg x.cells] w fun e w' => e = .returned (.tuple #[.slice none 0 0, .int .i64 1]) ∧ Step None w w' := by
  have p1 := heap_alloc_new w (.cells x.cells 27)
  have s1 := (Step.refl None w).alloc (.cells x.cells 27)
  obtain ⟨W, hW⟩ : ∃ W, w.alloc (.cells x.cells 27) = W := ⟨_, rfl⟩
  rw [hW] at p1 s1
  have HE := Lib.hid hW
  have P1 := Lib.hid p1
  have S1 := Lib.hid s1
  have R := Lib.hid (right_any x W)
  rw [hno] at R
  clear hW p1 s1 hno
  go_enter Try.func10, Try.ntmps10
  go_wp2_with (first | rw [HE.out] | (refine wpList_load_row rfl 27 (.tmp 1) rfl w.heap.size rfl 27 x.cells (0, 0) _ P1.out Try.underlying27 rfl (by kernel_rfl) ?_))
  refine R.out.mono ?_
  rintro e w2 ⟨rfl, s2⟩
  have S2 := Lib.hid (S1.out.then_ s2)
  clear s2
  go_wp2_with fail
  go_ret2
  exact ⟨rfl, S2.out⟩

set_option maxHeartbeats 8000000 in
theorem encode_ok (x : Bpd) (w : World) (hyes : okB x = true) : Calls Try.prog 10 #[.agg x.cells] w fun e w' => ∃ u, e = .returned (.tuple #[u, .int .i64 0]) ∧ Buf 5 w' w.heap.size u (encB x) ∧ Step None w w' := by
  have p1 := heap_alloc_new w (.cells x.cells 27)
  have s1 := (Step.refl None w).alloc (.cells x.cells 27)
  obtain ⟨W, hW⟩ : ∃ W, w.alloc (.cells x.cells 27) = W := ⟨_, rfl⟩
  rw [hW] at p1 s1
  have HE := Lib.hid hW
  have P1 := Lib.hid p1
  have S1 := Lib.hid s1
  have R := Lib.hid (right_any x W)
  rw [hyes] at R
  have HN := Lib.hid (show w.heap.size + 1 = W.heap.size by rw [← hW]; simp)
  clear hW p1 s1
  go_enter Try.func10, Try.ntmps10
  go_wp2_with (first | rw [HE.out] | (refine wpList_load_row rfl 27 (.tmp 1) rfl w.heap.size rfl 27 x.cells (0, 0) _ P1.out Try.underlying27 rfl (by kernel_rfl) ?_))
  refine R.out.mono ?_
  rintro e w2 ⟨rfl, s2⟩
  have P2 := Lib.hid (s2.blk P1.out (fun s => s.elim))
  have S2 := Lib.hid (S1.out.then_ s2)
  clear s2 P1 S1 R HE
  have c0 := blk_cell P2.out 0
  simp only [Bpd.cells, List.getElem?_toArray, List.getElem?_cons_zero] at c0
  have HD := Lib.hid (head_any x.kind w2)
  go_wp2_with fail
  refine HD.out.mono ?_
  rintro e w3 ⟨u, rfl, b3, s3⟩
  obtain ⟨ao, cp, rfl⟩ := b3.form
  have en : En w w.heap.size w3.heap.size x (encUp x 0) (w3.alloc (.cells #[.slice ao [0, 0, if x.kind == 2 then 2 else 0, x.kind % 256].length cp] 29)) := by
    have al := (Step.refl None w3).alloc (.cells #[.slice ao [0, 0, if x.kind == 2 then 2 else 0, x.kind % 256].length cp] 29)
    refine ⟨al.blk (s3.blk P2.out (fun s => s.elim)) (fun s => s.elim), ⟨_, heap_alloc_new w3 _, ?_⟩, (S2.out.then_ s3).then_ al, ?_⟩
    · exact ⟨b3.row.step al (fun _ _ s => s.elim), fun k hk => by have := b3.base k hk; have := S2.out.size; omega⟩
    · have := (S2.out.then_ s3).size; exact this
  simp only [List.length_cons, List.length_nil] at en
  obtain ⟨W3, hW3⟩ : ∃ W3, w3.alloc (.cells #[.slice ao 4 cp] 29) = W3 := ⟨_, rfl⟩
  rw [hW3] at en
  have HE3 := Lib.hid hW3
  have EN := Lib.hid en
  have P3 := Lib.hid (s3.blk P2.out (fun s => s.elim))
  have c3 := blk_cell P3.out 0
  have k3 := blk_cell en.one 0
  simp only [Bpd.cells, List.getElem?_toArray, List.getElem?_cons_zero] at c3 k3
  have v3 : W3.cell? ⟨w3.heap.size, 0, none⟩ = some (.slice ao 4 cp) := by
    rw [← hW3, blk_cell (heap_alloc_new w3 _)]; rfl
  clear b3 s3 hW3 en P2 S2 HD c0
  cases k1 : (x.kind == 128)
  · have hf : fine x = true := by
      cases k2 : (x.kind == 0) <;> cases k4 : (x.kind == 2) <;> simp [okB, k1, k2, k4] at hyes <;> exact hyes
    have HA := Lib.hid (encUp_all x hf k1)
    have WK := Lib.hid (enc_walk x w W3 _ _ EN.out)
    have HL := encUp_len x 11 (by omega)
    clear hyes hf EN
    generalize encUp x 11 = L at *
    go_wp2_with (rw [HE3.out])
    refine WK.out.mono ?_
    rintro e w4 ⟨rfl, en⟩
    obtain ⟨u4, hu, hf⟩ := en.cap
    obtain ⟨bo, bp, rfl⟩ := hf.form
    have EN := Lib.hid en
    have HF := Lib.hid hf
    have HU := Lib.hid hu
    have cu := blk_cell hu 0
    have ck := blk_cell en.one 0
    simp only [Bpd.cells, List.getElem?_toArray, List.getElem?_cons_zero] at cu ck
    clear WK HE3 en hu hf c3 k3 v3 P3
    cases k2 : (x.kind == 2)
    · rw [k2, if_neg (by decide), List.append_nil] at HA
      go_wp2_with fail
      go_ret2
      exact ⟨_, rfl, by rw [HA.out]; exact HF.out, EN.out.st⟩
    · rw [k2, if_pos rfl] at HA
      go_wp2_with (first | (at_builtin; refine wpList_append_row T29 rfl (.tmp 21) (.tmp 22) rfl rfl (HF.out.row.alloc _) rfl (Src.ofBlock T29 (m := 1) (c := 1) (heap_alloc_new w4 (.cells #[.int .u8 0] 5)) (by rfl) (by simp [Value.oneCell'])) ?ha ?hb ?_))
      case ha => simp [maxLen]; omega
      case hb => simp; omega
      intro v5 w5 hr5 hs5 hl5
      obtain ⟨vo, vp, rfl, -, -⟩ := hr5.form
      have M := Lib.hid (EN.out.more (more := [0]) HU.out HF.out ((Step.refl None w4).alloc _) hr5 hs5 (by simpa using hl5))
      have bC := (((Step.refl None w4).alloc _).none.then_ hs5).blk HU.out (HF.out.row.ne HU.out (by decide))
      have cw := blk_cell bC 0
      have fz := blk_frozen bC 0
      have bS := Lib.hid (blk_set bC 0 (.slice vo (L.length + 1) vp))
      simp only [List.getElem?_toArray, List.getElem?_cons_zero] at cw
      clear bC HU HF hr5 hs5 hl5 EN
      go_wp2_with fail
      go_ret2
      obtain ⟨u6, h6, h7⟩ := M.out.1.cap
      have e6 : u6 = .slice vo (L.length + 1) vp := by
        have := bS.out
        rw [h6] at this
        simpa using this
      subst e6
      exact ⟨_, rfl, by rw [HA.out]; exact h7, M.out.1.st⟩
  · have HA : Hid (encB x = [0, 0, if x.kind == 2 then 2 else 0, x.kind % 256]) := Lib.hid (by simp [encB, k1, version])
    go_wp2_with (rw [HE3.out])
    go_ret2
    have h7 := EN.out.cap
    obtain ⟨u, h1, h2⟩ := EN.out.cap
    have e4 : u = .slice ao 4 cp := by
      have := blk_cell h1 0
      rw [v3] at this
      simpa using this.symm
    subst e4
    exact ⟨_, rfl, by rw [HA.out]; exact h2, EN.out.st⟩
end Go.Proofs.Ytfpdfenepelcdaa
