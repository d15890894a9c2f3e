import Derived.Test.YtkgcfgoaabkcpaaH6
namespace Go.Proofs.Ytkgcfgoaabkcpaa.Pa
open Go.RowKit Go.Proofs.YtkgcfgoaabkcpaaW.PrintWords Go.Proofs.YtkgcfgoaabkcpaaW.PrintLast Go.Proofs.YtkgcfgoaabkcpaaW.PrintMore
set_option linter.unusedVariables false
set_option linter.unusedSimpArgs false

/-! ### Feed -/
def FeedC (s : WSt) (kind hd : Int) (nm out : ByteArray) : Int × WSt :=
  ((feedC s kind hd nm out).1, if (feedC s kind hd nm out).1 = 0 then (feedC s kind hd nm out).2 else { (feedC s kind hd nm out).2 with bad := s.bad + 1 })
theorem feedC_bad (s : WSt) (kind hd : Int) (nm out : ByteArray) : (feedC s kind hd nm out).2.bad = s.bad := by
  unfold feedC
  split
  · rfl
  · split
    · split
      · rfl
      · split <;> rfl
    · split
      · rfl
      · split
        · rfl
        · split <;> rfl
theorem feedC_rg (s : WSt) (kind hd : Int) (nm out : ByteArray) : (feedC s kind hd nm out).2.rg = s.rg := by
  unfold feedC
  split
  · rfl
  · split
    · split
      · rfl
      · split <;> rfl
    · split
      · rfl
      · split
        · rfl
        · split <;> rfl

set_option maxHeartbeats 4000000 in
theorem Feed_calls (w0 W : World) (N gm gw : Nat) (mu : Nat → Prop) (s : WSt) (kind hd : Int) (nm out : ByteArray) (nn : Int) (hW : WatchAt w0 W N gm gw mu s) (hG : GoodW s) (hN : N ≤ W.heap.size) (hnm : nm.size ≤ 140737488351232) (hl : s.hs.length ≤ 1000000) (hb0 : 0 ≤ s.bad) (hb1 : s.bad ≤ 1000000) :
    Calls Try.prog 37 #[.pointer (some ⟨gw, 0, none⟩), .agg #[.int .i64 kind, .int .i64 hd, .string nm, .string out, .int .i64 nn]] W (WFed w0 W N gm gw mu (FeedC s kind hd nm out)) := by
  obtain ⟨W1, hW1⟩ : ∃ W1, W1 = W.alloc (.cells #[.int .i64 kind, .int .i64 hd, .string nm, .string out, .int .i64 nn] 71) := ⟨_, rfl⟩
  have hbw : Below W.heap.size W W1 := by rw [hW1]; exact (Below.refl _ _).alloc (Nat.le_refl _) _
  have HB1 := Lib.hid hbw
  have hK : W1.heap[W.heap.size]? = some (.cells #[.int .i64 kind, .int .i64 hd, .string nm, .string out, .int .i64 nn] 71 (0, 0)) := by rw [hW1]; exact heap_alloc_new _ _
  have k0 : W1.cell? ⟨W.heap.size, 0, none⟩ = some (.int .i64 kind) := by simpa using blk_cell hK 0
  have k1 : W1.cell? ⟨W.heap.size, 1, none⟩ = some (.int .i64 hd) := by simpa using blk_cell hK 1
  have k2 : W1.cell? ⟨W.heap.size, 2, none⟩ = some (.string nm) := by simpa using blk_cell hK 2
  have k3 : W1.cell? ⟨W.heap.size, 3, none⟩ = some (.string out) := by simpa using blk_cell hK 3
  have k4 : W1.cell? ⟨W.heap.size, 4, none⟩ = some (.int .i64 nn) := by simpa using blk_cell hK 4
  have HMU := Lib.hid (show ∀ k, (mu k ∨ W.heap.size ≤ k) → N ≤ k from by
    obtain ⟨_, _, _, _, _, _, _, _, _, _, h, _⟩ := hW
    exact fun k hk => hk.elim (h k) (fun h => Nat.le_trans hN h))
  have HC := Lib.hid (feed_calls w0 W1 N gm gw mu s kind hd nm out nn (hW.below hbw) hG (Nat.le_trans hN hbw.size) hnm hl)
  obtain ⟨r, hr⟩ : ∃ r, r = feedC s kind hd nm out := ⟨_, rfl⟩
  have hbad := feedC_bad s kind hd nm out
  have HE := Lib.hid (show FeedC s kind hd nm out = (r.1, if r.1 = 0 then r.2 else { r.2 with bad := s.bad + 1 }) by rw [hr]; rfl)
  rw [← hr] at HC hbad
  obtain ⟨v, t⟩ := r
  simp only at hbad HE
  have HBAD := Lib.hid hbad
  have hs0 : s.bad + 1 ≤ 1000001 := by omega
  clear hW hG hN hK hbw hr hbad
  go_enter Try.func37, Try.ntmps37
  go_upto_region 1 with (fail)
  rw [← hW1]
  clear hW1
  go_wp2_with fail
  refine HC.out.mono ?_
  rintro e w5 ⟨rfl, hw5, hk5⟩
  have HW5 := Aside0.mk hw5; have HK5 := Aside0.mk hk5
  obtain ⟨A5, c5, _, _, q2, _, qf, ql, _, _⟩ := hw5.cells
  have qf2 := qf 2
  rw [HBAD.out] at q2
  clear hw5 hk5 qf k0 k1 k2 k3 k4
  have HWM := Lib.hid (fun (w' : World) (t' : WSt) (h : WatchAt w0 w' N gm gw (fun k => mu k ∨ W1.heap.size ≤ k) t') => h.mono (mu' := fun k => mu k ∨ W.heap.size ≤ k) (fun k h => h.imp id (fun h => Nat.le_trans HB1.out.size h)) HMU.out)
  by_cases hv : v = 0
  · subst hv
    have HE2 := Lib.hid (show FeedC s kind hd nm out = (0, t) from HE.out.trans (by simp))
    go_wp2
    go_ret
    rw [HE2.out]
    exact ⟨rfl, HWM.out _ _ HW5.out, Kept.trans' (Kept.of_below' HB1.out (fun _ => False)) HK5.out (fun _ h => h.elim) (fun _ h => h)⟩
  · have hv' : (v != 0) = true := by simpa using hv
    have HE2 := Lib.hid (show FeedC s kind hd nm out = (v, { t with bad := s.bad + 1 }) from HE.out.trans (by rw [if_neg hv]))
    clear hv
    go_wp2
    go_ret
    rw [HE2.out]
    have hs := HW5.out.setBad (s.bad + 1)
    exact ⟨rfl, HWM.out _ _ hs.1, Kept.trans' (Kept.trans' (S := fun k => k = gw ∨ mu k) (Kept.of_below' HB1.out (fun _ => False)) HK5.out (fun _ h => h.elim) (fun _ h => h)) hs.2 (fun _ h => h) (fun _ h => .inl h)⟩

/-! ### Open -/
def openL (rg : List (Nat × S25)) : List (Nat × Int) → Nat → List Int
  | [], _ => []
  | h :: hs, i => if (rd_T62 (autoOf rg h.1).f1 h.2).f1 = true then openL rg hs (i + 1) else (i : Int) :: openL rg hs (i + 1)

set_option maxHeartbeats 8000000 in
theorem Open_calls (w0 W : World) (N gm gw : Nat) (mu : Nat → Prop) (s : WSt) (hW : WatchAt w0 W N gm gw mu s) (hG : GoodW s) (hl : s.hs.length ≤ 1000000) :
    Calls Try.prog 39 #[.pointer (some ⟨gw, 0, none⟩)] W fun e w' => ∃ v, e = .returned v ∧ RdI w' v (openL s.rg s.hs 0) ∧ Below W.heap.size W w' := by
  obtain ⟨A, c, _, g1, _, _, _, hgl, gr, gl⟩ := hW.cells
  have HW := Lib.hid hW
  have HG := Lib.hid hG
  have HR := Lib.hid gr
  obtain ⟨R, hR⟩ : ∃ R, R = openL s.rg s.hs 0 := ⟨_, rfl⟩
  rw [← hR]
  have HA : Aside0 ([] ++ openL s.rg (s.hs.drop 0) 0 = R) := ⟨by rw [List.drop_zero, hR]; rfl⟩
  have HNil := Aside0.mk (Kd.R_nil (Kd.int .i64) 3 W W.heap.size (fun _ => True))
  clear hW hG gr hR
  go_enter Try.func39, Try.ntmps39
  go_wp2
  go_loopg [3, 11] s.hs.length (fun gg s3 s11 wr => ∃ (i : Nat) (acc : List Int), i ≤ s.hs.length ∧ s.hs.length - i ≤ gg ∧ s11 = .int .i64 i ∧ acc.length ≤ i ∧ Aside0 ((Kd.int .i64).R 3 wr W.heap.size (fun _ => True) s3 acc) ∧ Aside0 (acc ++ openL s.rg (s.hs.drop i) i = R) ∧ Aside0 (Below W.heap.size W wr))
  case atStart => exact ⟨0, [], Nat.zero_le _, by omega, rfl, by simp, HNil, HA, ⟨Below.refl _ _⟩⟩
  case round =>
    clear HA HNil
    obtain ⟨i, acc, hi, hgg, rfl, hal, HN, HA, BW⟩ := hrel
    obtain ⟨Ao, co, rfl, hco, hCo⟩ := Kd.R_reads HN.out
    have HCo := Aside0.mk hCo; clear hCo
    by_cases hlt : i < s.hs.length
    · have hltz : (i : Int) < (s.hs.length : Int) := by omega
      have hltd : decide (i < s.hs.length) = true := decide_eq_true hlt
      obtain ⟨wo, rfl⟩ : ∃ wo : World, wo = wr := ⟨_, rfl⟩
      obtain ⟨gh, rfl, hmu, hbs, hlth, _, a0, a1, _, _⟩ := kh_at HR.out hlt
      have hgd := HG.out.hs _ (List.getElem_mem hlt)
      have hmem := autoOf_mem hgd.1
      have hAt := HW.out.auto hmem
      have hrt := (HG.out.autos _ hmem).1
      have HA1 := HA.out
      rw [List.drop_eq_getElem_cons hlt, openL] at HA1
      clear HA
      generalize hx : s.hs[i] = x at a0 a1 hgd hmem hAt hrt HA1
      obtain ⟨ga, st⟩ := x
      generalize hp : autoOf s.rg ga = p at hgd hmem hAt hrt HA1
      obtain ⟨p0, p1, p2⟩ := p
      simp only at a0 a1 hgd hmem hAt hrt HA1
      obtain ⟨_, hst0, hst1⟩ := hgd
      have h16 := hrt.few
      have HAT := Lib.hid hAt
      have H16 := Lib.hid h16
      replace a0 := pw_cell_below BW.out a0
      replace a1 := pw_cell_below BW.out a1
      clear hx hmem hp hAt hrt
      obtain ⟨W1, hW1⟩ : ∃ W1, W1 = wo.alloc (.cells #[.pointer (some ⟨ga, 0, none⟩), .int .i64 st] 127) := ⟨_, rfl⟩
      have HB1 := Lib.hid (show Below wo.heap.size wo W1 by rw [hW1]; exact (Below.refl _ _).alloc (Nat.le_refl _) _)
      have hK : W1.heap[wo.heap.size]? = some (.cells #[.pointer (some ⟨ga, 0, none⟩), .int .i64 st] 127 (0, 0)) := by rw [hW1]; exact heap_alloc_new _ _
      have b0 : W1.cell? ⟨wo.heap.size, 0, none⟩ = some (.pointer (some ⟨ga, 0, none⟩)) := by simpa using blk_cell hK 0
      have b1 : W1.cell? ⟨wo.heap.size, 1, none⟩ = some (.int .i64 st) := by simpa using blk_cell hK 1
      obtain ⟨F, hF⟩ : ∃ F, F = finS p1 p1.length := ⟨_, rfl⟩
      have hFl : F < 2 ^ 32 := by rw [hF]; exact finS_lt p1 _ (by omega)
      have HCF := Lib.hid (fun x : At W1 => Calls.at_ (by rw [hF]; exact Finals_calls ga p0 p1 p2 x.1 (AutoAt.below HAT.out (bch BW.out (bch HB1.out x.2))) H16.out : Calls Try.prog 21 #[.pointer (some ⟨ga, 0, none⟩)] x.1 fun e w' => e = .returned (.int .u32 (F : Nat)) ∧ Below x.1.heap.size x.1 w'))
      obtain ⟨J, hJ, hj1, hj2⟩ := shr_facts F st hst0 (by omega)
      have hbit := bit_eq F st hFl hst0 (by omega)
      rw [← hJ] at hbit
      have hfb : F.testBit st.toNat = (rd_T62 p1 st).f1 := by
        rw [hF, finS_bit, show ((st.toNat : Nat) : Int) = st by omega]
        simp; omega
      obtain ⟨b, hb⟩ : ∃ b, b = (rd_T62 p1 st).f1 := ⟨_, rfl⟩
      rw [← hb] at hfb HA1
      have hq : (Go.bits .and .u32 J 1 == 0) = !b := by rw [hbit, hfb]; cases b <;> rfl
      have hst0t := eq_true hst0
      have hst0d : decide (0 ≤ st) = true := decide_eq_true hst0
      have b0' := fun x : At W1 => At.cell b0 x
      have b1' := fun x : At W1 => At.cell b1 x
      have HR1 := Lib.hid (Kd.R_below HN.out HB1.out)
      clear hK hF hJ hbit hfb hb
      go_upto_region 5 with (fail)
      rw [← hW1]
      clear hW1
      refine wp_region_at (by kernel_rfl) (by kernel_rfl) ?_
      repeat (go_big_quiet_step ((go_at_call 21; with_reducible exact HCF.out _)))
      refine wpQuiet_nil ?_
      intro w5 hw'
      obtain ⟨⟨_, hb5⟩, rfl⟩ := hw'
      have HB5 := Aside0.mk hb5
      have HR5 := Lib.hid (Kd.R_below HR1.out HB5.out)
      have HBB := Lib.hid (show Below W.heap.size W w5 from bch BW.out (bch HB1.out HB5.out))
      clear HCF b0' b1' b0 b1 hb5 a0 a1 hj1 hj2
      cases b with
      | true =>
        have HA2 : Aside0 (acc ++ openL s.rg (s.hs.drop (i + 1)) (i + 1) = R) := ⟨by rw [if_pos rfl] at HA1; exact HA1⟩
        have hq' : (Go.bits .and .u32 J 1 == 0) = false := hq
        clear HA1 hq
        go_wp2
        go_roundg (s.hs.length - (i + 1))
        case measure => omega
        case rel => exact ⟨i + 1, acc, by omega, by omega, by go_num, by omega, ⟨HR5.out⟩, HA2, ⟨HBB.out⟩⟩
      | false =>
        have HA2 : Aside0 ((acc ++ [(i : Int)]) ++ openL s.rg (s.hs.drop (i + 1)) (i + 1) = R) := ⟨by rw [if_neg (by decide)] at HA1; rw [← HA1]; simp⟩
        have hq' : (Go.bits .and .u32 J 1 == 0) = true := hq
        have HBZ := Lib.hid HBB.out.size
        clear HA1 hq
        go_wp2_with (at_builtin; refine Kd.R_append (Kd.int .i64) (w0 := W) W.heap.size rfl _ _ 73 3 (.int .i64 0) 8 rfl Try.underlying73 info3 rfl (by decide) (by decide) (.slice Ao acc.length co) acc (i : Int) [.int .i64 i] (fun _ => True) (fun _ => False) rfl rfl rfl (fun _ h => h.elim) (fun _ _ => trivial) HR5.out HBB.out HBZ.out (by omega) ?_; intro v1 w6 hR1 hB1 hg1 _hat1; have HR6 := Aside0.mk hR1; have HB6 := Aside0.mk hB1; clear hR1 hB1 hg1 _hat1)
        go_roundg (s.hs.length - (i + 1))
        case measure => omega
        case rel => exact ⟨i + 1, acc ++ [(i : Int)], by omega, by omega, by go_num, by simp; omega, HR6, HA2, HB6⟩
    · have hltz : ¬ (i : Int) < (s.hs.length : Int) := by omega
      have hltd : decide (i < s.hs.length) = false := decide_eq_false hlt
      have HA1 : acc = R := by
        have := HA.out; rw [List.drop_of_length_le (by omega : s.hs.length ≤ i)] at this; simpa [openL] using this
      subst HA1
      go_wp2
      go_ret
      exact ⟨_, rfl, ⟨_, _, rfl, hco, HCo.out⟩, BW.out⟩
end Go.Proofs.Ytkgcfgoaabkcpaa.Pa
