import Derived.Test.YtkgcfgoaabkcpaaH5
namespace Go.Proofs.Ytkgcfgoaabkcpaa.Pa
open Go.RowKit Go.Proofs.YtkgcfgoaabkcpaaW.PrintWords Go.Proofs.YtkgcfgoaabkcpaaW.PrintLast Go.Proofs.YtkgcfgoaabkcpaaW.PrintMore
set_option linter.unusedVariables false
set_option linter.unusedSimpArgs false

theorem info127 : (Try.prog.info? 127).map (fun i => (i.zero, i.size, i.bytes)) = some (some (.agg #[.pointer none, .int .i64 0]), 2, 16) := by kernel_rfl
theorem findR_mem {rg : List (Nat × S25)} {nm : ByteArray} {e : Nat × S25} (h : findR rg nm = some e) : e ∈ rg := List.mem_of_find?_eq_some h

set_option maxHeartbeats 16000000 in
theorem feed_calls (w0 W : World) (N gm gw : Nat) (mu : Nat → Prop) (s : WSt) (kind hd : Int) (nm out : ByteArray) (nn : Int) (hW : WatchAt w0 W N gm gw mu s) (hG : GoodW s) (hN : N ≤ W.heap.size) (hnm : nm.size ≤ 140737488351232) (hl : s.hs.length ≤ 1000000) :
    Calls Try.prog 72 #[.pointer (some ⟨gw, 0, none⟩), .agg #[.int .i64 kind, .int .i64 hd, .string nm, .string out, .int .i64 nn]] W (WFed w0 W N gm gw mu (feedC s kind hd nm out)) := by
  obtain ⟨W1, hW1⟩ : ∃ W1, W1 = W.alloc (.cells #[.int .i64 kind, .int .i64 hd, .string nm, .string out, .int .i64 nn] 71) := ⟨_, rfl⟩
  have hb1 : Below W.heap.size W W1 := by rw [hW1]; exact (Below.refl _ _).alloc (Nat.le_refl _) _
  have HK := Lib.hid (show W1.heap[W.heap.size]? = some (.cells #[.int .i64 kind, .int .i64 hd, .string nm, .string out, .int .i64 nn] 71 (0, 0)) by rw [hW1]; exact heap_alloc_new _ _)
  have hlb : W.heap.size < W1.heap.size := by rw [hW1]; simp
  have HB1 := Lib.hid hb1
  have hw1 := hW.below hb1
  have HMU := Lib.hid (show ∀ k, mu k → N ≤ k from by obtain ⟨_, _, _, _, _, _, _, _, _, _, h, _⟩ := hW; exact h)
  have HW1 := Lib.hid hw1
  have HGD := Lib.hid hG
  have HN := Lib.hid hN
  have HML := Lib.hid (show nm.size ≤ maxLen by unfold maxLen; omega)
  obtain ⟨A, c, g0, g1, g2, g3, gf, hgl, gr, gl⟩ := hw1.cells
  have GR := Lib.hid gr
  have GF := Lib.hid gf
  have k0 : W1.cell? ⟨W.heap.size, 0, none⟩ = some (.int .i64 kind) := by simpa using blk_cell HK.out 0
  have k1 : W1.cell? ⟨W.heap.size, 1, none⟩ = some (.int .i64 hd) := by simpa using blk_cell HK.out 1
  have k2 : W1.cell? ⟨W.heap.size, 2, none⟩ = some (.string nm) := by simpa using blk_cell HK.out 2
  have k3 : W1.cell? ⟨W.heap.size, 3, none⟩ = some (.string out) := by simpa using blk_cell HK.out 3
  have k4 : W1.cell? ⟨W.heap.size, 4, none⟩ = some (.int .i64 nn) := by simpa using blk_cell HK.out 4
  -- what a world leaves that has only grown
  have HSAME := Lib.hid (fun (w' : World) (hb : Below W1.heap.size W1 w') => show WatchAt w0 w' N gm gw (fun k => mu k ∨ W.heap.size ≤ k) s ∧ Kept W w' (fun k => k = gw ∨ mu k) from
    ⟨(hw1.below hb).mono (fun k h => .inl h) (fun k h => h.elim (HMU.out k) (fun h => Nat.le_trans HN.out h)), Kept.of_below' (bch hb1 hb) _⟩)
  clear hw1 hb1 gr gf hW hG hN
  obtain ⟨T, hT⟩ : ∃ T, T = feedC s kind hd nm out := ⟨_, rfl⟩
  rw [← hT]
  by_cases hen : s.ended = true
  · have HE := Lib.hid (show T = (5, s) by rw [hT]; unfold feedC; rw [if_pos (.inl hen)])
    rw [hen] at g3
    clear hT hen
    go_enter Try.func72, Try.ntmps72
    go_upto_region 1 with (fail)
    rw [← hW1]
    clear hW1
    go_wp2
    go_ret
    rw [HE.out]
    exact ⟨rfl, HSAME.out _ (Below.refl _ _)⟩
  have hen' : s.ended = false := by simpa using hen
  rw [hen'] at g3
  by_cases hk0 : kind < 0
  · have HE := Lib.hid (show T = (5, s) by rw [hT]; unfold feedC; rw [if_pos (.inr (.inl hk0))])
    clear hT hen hen'
    go_enter Try.func72, Try.ntmps72
    go_upto_region 1 with (fail)
    rw [← hW1]
    clear hW1
    go_wp2
    go_ret
    rw [HE.out]
    exact ⟨rfl, HSAME.out _ (Below.refl _ _)⟩
  by_cases hk5 : 5 < kind
  · have HE := Lib.hid (show T = (5, s) by rw [hT]; unfold feedC; rw [if_pos (.inr (.inr hk5))])
    clear hT hen hen'
    go_enter Try.func72, Try.ntmps72
    go_upto_region 1 with (fail)
    rw [← hW1]
    clear hW1
    go_wp2
    go_ret
    rw [HE.out]
    exact ⟨rfl, HSAME.out _ (Below.refl _ _)⟩
  have hT1 : T = _ := hT.trans (show feedC s kind hd nm out = if kind = 0 then (match findR s.rg nm with | none => (1, s) | some e => if hd = s.hs.length then (0, { s with hs := s.hs ++ [(e.1, 0)] }) else (1, s)) else
    if kind = 2 then ((doneC s kind hd nm out).1, { s with hs := (doneC s kind hd nm out).2 }) else
    if kind = 3 then ((doneC s kind hd nm out).1, { s with hs := (doneC s kind hd nm out).2, ended := (doneC s kind hd nm out).1 == 3 }) else
    if kind = 1 then (0, s) else (0, { s with ended := true }) by unfold feedC; rw [if_neg (by rw [hen']; simp; omega)]; rfl)
  have HTT := Lib.hid hT1
  clear hT hT1 hen hen'
  by_cases h0 : kind = 0
  · subst h0
    cases hf : findR s.rg nm with
    | none =>
      have HE := Lib.hid (show T = (1, s) by rw [HTT.out, if_pos rfl, hf])
      have HLK := Lib.hid (fun n => by
        obtain ⟨D, A, c, _, g2, g3, _⟩ := HW1.out.drewN n
        exact look_none g2 g3 HML.out hf : ∀ n, (Instr.lookup 118 (.map (some gm)) (.string nm) true).run Try.prog (W1.drewN n) = .ok (.tuple #[.pointer none, .bool false]) (W1.drewN n))
      clear hf
      have hrun := HLK.out
      go_enter Try.func72, Try.ntmps72
      go_upto_region 1 with (fail)
      rw [← hW1]
      clear hW1
      go_wp2_with fail
      go_quiet (fail)
      go_wp2_with fail
      go_quiet (fail)
      go_wp2
      go_ret
      rw [HE.out]
      exact ⟨rfl, HSAME.out _ (pw_below_drewN (pw_below_drewN (Below.refl _ _) _) _)⟩
    | some en =>
      have HLK := Lib.hid (fun n => by
        obtain ⟨D, A, c, _, g2, g3, _⟩ := HW1.out.drewN n
        exact look_some g2 g3 HML.out hf : ∀ n, (Instr.lookup 118 (.map (some gm)) (.string nm) true).run Try.prog (W1.drewN n) = .ok (.tuple #[.pointer (some ⟨en.1, 0, none⟩), .bool true]) (W1.drewN n))
      by_cases hd0 : hd = s.hs.length
      · have HE := Lib.hid (show T = (0, { s with hs := s.hs ++ [(en.1, 0)] }) by rw [HTT.out, if_pos rfl, hf]; simp only; rw [if_pos hd0])
        obtain ⟨gx, hgx⟩ : ∃ gx, gx = en.1 := ⟨_, rfl⟩
        rw [← hgx] at HLK HE
        subst hd0
        clear hf hgx
        have hrun := HLK.out
        go_enter Try.func72, Try.ntmps72
        go_upto_region 1 with (fail)
        rw [← hW1]
        clear hW1
        go_wp2_with fail
        go_quiet (fail)
        go_wp2_with fail
        go_quiet (fail)
        go_upto_region 7 with (fail)
        generalize hq : (W1.drewN _).drewN _ = wq
        have HBq := Lib.hid (show Below W1.heap.size W1 wq by rw [← hq]; exact pw_below_drewN (pw_below_drewN (Below.refl _ _) _) _)
        have HWq := Lib.hid (HW1.out.below HBq.out)
        have HRq := Lib.hid (Kd.R_mono (ok' := fun k => mu k ∨ W.heap.size ≤ k) (Kd.R_below GR.out HBq.out) (fun _ h => .inl h))
        have HB0 := Lib.hid (show Below w0.heap.size w0 wq from by obtain ⟨_, _, _, _, _, _, _, _, _, _, _, h, _⟩ := HWq.out; exact h)
        have HFR := Lib.hid (show ∀ k, wq.heap.size ≤ k → (mu k ∨ W.heap.size ≤ k) from fun k hk => .inr (Nat.le_trans (Nat.le_trans HB1.out.size HBq.out.size) hk))
        have HBLK := Lib.hid (fun (w5 : World) (hg : wq.grownBy w5 (Value.slice A s.hs.length c).ownBlock) => show w5.cell? ⟨gw, 1, none⟩ = some (.slice A s.hs.length c) ∧ w5.frozen? ⟨gw, 1, none⟩ = false ∧ Kept wq w5 (fun k => mu k ∨ W.heap.size ≤ k) from by
          have hown : ∀ k, (Value.slice A s.hs.length c).ownBlock = some k → mu k := fun k hk => GR.out.1 k hk
          obtain ⟨D, A', c', b1, _, _, _, _, _, b7, _⟩ := HWq.out
          have b2 := pw_cell_below HBq.out g1
          have b3 : wq.cell? ⟨gw, 1, none⟩ = some (.slice A' s.hs.length c') := by simpa using blk_cell b1 1
          rw [b2] at b3
          injection b3 with b3
          injection b3 with e1 _ e2
          subst e1; subst e2
          have b4 := blk_grown b1 hg (fun h => by have := HMU.out gw (hown gw h.symm); omega)
          exact ⟨by simpa using blk_cell b4 1, blk_frozen b4 1, hg.size, fun k hk hn => hg.block k hk (fun h => hn (.inl (hown k h.symm)))⟩)
        have gq := pw_cell_below HBq.out g1
        clear hq hrun HLK k0 k1 k2 k3 k4 g0 g1 g2 g3
        go_wp2_with (at_builtin; refine Kd.R_append kh (w0 := w0) w0.heap.size rfl _ _ 119 127 (.agg #[.pointer none, .int .i64 0]) 16 rfl Try.underlying119 info127 rfl (Nat.lt_of_sub_eq_succ rfl) (by decide) (.slice A s.hs.length c) s.hs (gx, 0) [.pointer (some ⟨gx, 0, none⟩), .int .i64 0] (fun k => mu k ∨ W.heap.size ≤ k) (fun _ => False) rfl rfl (kh_mk _ _ _ _) (fun _ h => h.elim) HFR.out HRq.out HB0.out HB0.out.size (by omega) ?_; intro v1 w5 hR1 hB1 hg1 _hat1; obtain ⟨A5, c5, rfl⟩ := Kd.R_slice hR1; obtain ⟨p1, p2, p3⟩ := HBLK.out _ hg1; have HR5 := Aside0.mk hR1; have HB5 := Aside0.mk hB1; have HK5 := Aside0.mk p3; clear hR1 hB1 hg1 _hat1 p3)
        go_ret
        rw [HE.out]
        have hadd := HWq.out.add (fun k h => .inl h) (fun k h => h.elim (HMU.out k) (fun h => Nat.le_trans HN.out h)) HR5.out HB5.out HK5.out
        simp only [List.length_append, List.length_cons, List.length_nil, Nat.zero_add] at hadd
        refine ⟨rfl, hadd.1, Nat.le_trans (Nat.le_trans HB1.out.size HBq.out.size) hadd.2.1, fun k hk hn => ?_⟩
        exact (hadd.2.2 k (Nat.lt_of_lt_of_le hk (Nat.le_trans HB1.out.size HBq.out.size)) (fun h => h.elim (fun h => hn (.inl h)) (fun h => h.elim (fun h => hn (.inr h)) (fun h => by omega)))).trans ((bch HB1.out HBq.out).block k hk)
      · have HE := Lib.hid (show T = (1, s) by rw [HTT.out, if_pos rfl, hf]; simp only; rw [if_neg hd0])
        have hd0' : (hd != (s.hs.length : Int)) = true := by simpa using hd0
        obtain ⟨gx, hgx⟩ : ∃ gx, gx = en.1 := ⟨_, rfl⟩
        rw [← hgx] at HLK
        clear hf hgx hd0
        have hrun := HLK.out
        go_enter Try.func72, Try.ntmps72
        go_upto_region 1 with (fail)
        rw [← hW1]
        clear hW1
        go_wp2_with fail
        go_quiet (fail)
        go_wp2_with fail
        go_quiet (fail)
        go_wp2
        go_ret
        rw [HE.out]
        exact ⟨rfl, HSAME.out _ (pw_below_drewN (pw_below_drewN (Below.refl _ _) _) _)⟩
  · have h0' : (kind == 0) = false := by simpa using h0
    by_cases h2 : kind = 2
    · subst h2
      have HE := Lib.hid (show T = ((doneC s 2 hd nm out).1, { s with hs := (doneC s 2 hd nm out).2 }) by rw [HTT.out, if_neg h0, if_pos rfl])
      clear h0 h0'
      go_enter Try.func72, Try.ntmps72
      go_upto_region 1 with (fail)
      rw [← hW1]
      clear hW1
      go_wp2_with fail
      refine (done_calls w0 W1 N gm gw mu s 2 hd nm out nn HW1.out HGD.out).mono ?_
      rintro e w5 ⟨rfl, hw5, hk5⟩
      have HW5 := Aside0.mk hw5; have HK5 := Aside0.mk hk5
      clear hw5 hk5
      go_wp2
      go_ret
      rw [HE.out]
      exact ⟨rfl, HW5.out.mono (fun k h => .inl h) (fun k h => h.elim (HMU.out k) (fun h => Nat.le_trans HN.out h)), Kept.trans' (Kept.of_below' HB1.out (fun _ => False)) HK5.out (fun _ h => h.elim) (fun _ h => .inr h)⟩
    · have h2' : (kind == 2) = false := by simpa using h2
      by_cases h3 : kind = 3
      · subst h3
        obtain ⟨v, hv⟩ : ∃ v, v = (doneC s 3 hd nm out).1 := ⟨_, rfl⟩
        have HE := Lib.hid (show T = (v, { s with hs := (doneC s 3 hd nm out).2, ended := v == 3 }) by rw [HTT.out, if_neg h0, if_neg h2, if_pos rfl, hv])
        have HV := Lib.hid hv
        clear h0 h0' h2 h2' hv
        go_enter Try.func72, Try.ntmps72
        go_upto_region 1 with (fail)
        rw [← hW1]
        clear hW1
        go_wp2_with fail
        refine (done_calls w0 W1 N gm gw mu s 3 hd nm out nn HW1.out HGD.out).mono ?_
        rw [← HV.out]
        rintro e w5 ⟨rfl, hw5, hk5⟩
        have HW5 := Aside0.mk hw5; have HK5 := Aside0.mk hk5
        obtain ⟨A5, c5, _, _, _, q3, qf, ql, _, _⟩ := hw5.cells
        have qf3 := qf 3
        clear hw5 hk5 qf g0 g1 g2 g3 k0 k1 k2 k3 k4
        go_wp2
        go_ret
        rw [HE.out]
        have hs := HW5.out.setEnded (v == 3)
        exact ⟨rfl, hs.1.mono (fun k h => .inl h) (fun k h => h.elim (HMU.out k) (fun h => Nat.le_trans HN.out h)), Kept.trans' (Kept.trans' (S := fun k => k = gw ∨ mu k) (Kept.of_below' HB1.out (fun _ => False)) HK5.out (fun _ h => h.elim) (fun _ h => .inr h)) hs.2 (fun _ h => h) (fun _ h => .inl h)⟩
      · have h3' : (kind == 3) = false := by simpa using h3
        by_cases h1 : kind = 1
        · subst h1
          have HE := Lib.hid (show T = (0, s) by rw [HTT.out, if_neg h0, if_neg h2, if_neg h3, if_pos rfl])
          clear h0 h0' h2 h2' h3 h3'
          go_enter Try.func72, Try.ntmps72
          go_upto_region 1 with (fail)
          rw [← hW1]
          clear hW1
          go_wp2
          go_ret
          rw [HE.out]
          exact ⟨rfl, HSAME.out _ (Below.refl _ _)⟩
        · have h1' : (kind != 1) = true := by simpa using h1
          have HE := Lib.hid (show T = (0, { s with ended := true }) by rw [HTT.out, if_neg h0, if_neg h2, if_neg h3, if_neg h1])
          have qf3 := GF.out 3
          clear h0 h2 h3 h1
          go_enter Try.func72, Try.ntmps72
          go_upto_region 1 with (fail)
          rw [← hW1]
          clear hW1
          go_wp2
          go_ret
          rw [HE.out]
          have hs := HW1.out.setEnded true
          exact ⟨rfl, hs.1.mono (fun k h => .inl h) (fun k h => h.elim (HMU.out k) (fun h => Nat.le_trans HN.out h)), Kept.trans' (Kept.of_below' HB1.out (fun _ => False)) hs.2 (fun _ h => h.elim) (fun _ h => .inl h)⟩
end Go.Proofs.Ytkgcfgoaabkcpaa.Pa
