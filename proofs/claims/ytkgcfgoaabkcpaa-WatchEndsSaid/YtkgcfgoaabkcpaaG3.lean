import Derived.Test.YtkgcfgoaabkcpaaG2
import Derived.Laws.BitsAllLaws
namespace Go.Proofs.Ytkgcfgoaabkcpaa.Pa
open Go.RowKit Go.Proofs.YtkgcfgoaabkcpaaW.PrintWords Go.Proofs.YtkgcfgoaabkcpaaW.PrintLast Go.Proofs.YtkgcfgoaabkcpaaW.PrintMore
set_option linter.unusedVariables false
set_option linter.unusedSimpArgs false

/-! ### Plain: what is kept -/
theorem ofM_bit (p : S39 → Bool) (op : ByteArray) (j : Nat) : ∀ (ms : List S39) (s : Nat), (ofM p op ms s).testBit j = true ↔ (s.testBit j = true ∨ ∃ m ∈ ms, m.f0.toList = op.toList ∧ p m = true ∧ m.f1.toNat = j)
  | [], s => by simp [ofM]
  | m :: ms, s => by
    unfold ofM
    rw [ofM_bit p op j ms]
    by_cases h : (m.f0.toList == op.toList) = true ∧ p m = true
    · rw [if_pos h, test_or, Bool.or_eq_true, decide_eq_true_eq]
      have h' := ba_eq.1 h.1
      constructor
      · rintro ((h1 | h1) | ⟨x, hx, h2⟩)
        · exact .inl h1
        · exact .inr ⟨m, List.mem_cons_self, h', h.2, h1⟩
        · exact .inr ⟨x, List.mem_cons_of_mem _ hx, h2⟩
      · rintro (h1 | ⟨x, hx, h2, h3, h4⟩)
        · exact .inl (.inl h1)
        · rcases List.mem_cons.1 hx with rfl | hx
          · exact .inl (.inr h4)
          · exact .inr ⟨x, hx, h2, h3, h4⟩
    · rw [if_neg h]
      constructor
      · rintro (h1 | ⟨x, hx, h2⟩)
        · exact .inl h1
        · exact .inr ⟨x, List.mem_cons_of_mem _ hx, h2⟩
      · rintro (h1 | ⟨x, hx, h2, h3, h4⟩)
        · exact .inl h1
        · rcases List.mem_cons.1 hx with rfl | hx
          · exact absurd ⟨ba_eq.2 h2, h3⟩ h
          · exact .inr ⟨x, hx, h2, h3, h4⟩
theorem ofM_lt {l2 : List S39} (hin : In16 l2) (p : S39 → Bool) (op : ByteArray) : ofM p op l2 0 < 2 ^ 32 := by
  refine Nat.lt_of_lt_of_le (m := 2 ^ 16) (Nat.lt_pow_two_of_testBit _ (fun j hj => ?_)) (by decide)
  cases h : (ofM p op l2 0).testBit j with
  | false => rfl
  | true =>
    rw [ofM_bit] at h
    rcases h with h | ⟨m, hm, _, _, h1⟩
    · simp at h
    · have := (hin m hm).1; omega
theorem andnot_zero (A B : Nat) (hA : A < 2 ^ 32) (hB : B < 2 ^ 32) (h : ∀ j, A.testBit j = true → B.testBit j = true) : Go.bits .andNot .u32 (A : Int) (B : Int) = 0 := by
  rw [Go.u32_andNot_nat A B (by omega) (by omega)]
  have : A &&& (4294967295 - B) = 0 := Nat.eq_of_testBit_eq fun j => by
    rw [Nat.testBit_and, show 4294967295 - B = 2 ^ 32 - (B + 1) by omega, Nat.testBit_two_pow_sub_succ hB, Nat.zero_testBit]
    cases hj : A.testBit j with
    | false => simp
    | true => simp [h j hj]
  rw [this]; rfl
theorem stepM_lt32x {l2 : List S39} (hin : In16 l2) (S : Nat) (op nm : ByteArray) : stepM S op nm l2 0 < 2 ^ 32 := Nat.lt_of_lt_of_le (stepM_lt hin S op nm) (by decide)
theorem stays_iff (m : S39) : stays m = true ↔ ∀ o ∈ m.f2, o.f1 = m.f1 := by
  unfold stays
  rw [Bool.not_eq_true', List.any_eq_false]
  constructor
  · intro h o ho
    have := h o ho
    simpa using this
  · intro h o ho
    simp [h o ho]
theorem keeps_sub (l2 : List S39) (op : ByteArray) (j : Nat) (h : (ofM stays op l2 0).testBit j = true) : (ofM (fun _ => true) op l2 0).testBit j = true := by
  rw [ofM_bit] at h ⊢
  rcases h with h | ⟨m, hm, h1, _, h2⟩
  · exact .inl h
  · exact .inr ⟨m, hm, h1, rfl, h2⟩
theorem Right.keeps_step {l1 : List S62} {l2 : List S39} (h : Right l1 l2) (s : Nat) (op nm : ByteArray) (j : Nat) (hj : (stepM (s &&& ofM stays op l2 0) op nm l2 0).testBit j = true) : (s &&& ofM stays op l2 0).testBit j = true := by
  rw [stepM_bit] at hj
  rcases hj with hj | ⟨m, hm, h1, h2, o, ho, h3, h4⟩
  · simp at hj
  · have hs := h2
    rw [Nat.testBit_and, Bool.and_eq_true, ofM_bit] at hs
    obtain ⟨_, hs | ⟨x, hx, k1, k2, k3⟩⟩ := hs
    · simp at hs
    · have e1 := h.from_lt hm
      have e2 := h.from_lt hx
      obtain ⟨i, hi, rfl⟩ := List.getElem_of_mem hm
      obtain ⟨k, hk, rfl⟩ := List.getElem_of_mem hx
      have := h.uniq hi hk (h1.trans k1.symm) (by omega)
      subst this
      have := (stays_iff _).1 k2 o ho
      rw [← h4, this]; exact h2

set_option maxRecDepth 4000 in
set_option maxHeartbeats 16000000 in
theorem AutoKeeps_walk (a0 : ByteArray) (A1 : Option Addr) (c1 : Nat) (l1 : List S62) (A2 : Option Addr) (c2 : Nat) (l2 : List S39) (s : Nat) (w : World)
    (hr1 : Kd.C k62 w A1 l1.length l1) (hc1 : l1.length ≤ c1) (hr2 : Kd.C k39 w A2 l2.length l2) (hc2 : l2.length ≤ c2) (hz : SzP l1 l2) (hs : s < 2 ^ 32) :
    Calls Try.prog 5 #[.agg #[.string a0, .slice A1 l1.length c1, .slice A2 l2.length c2], .int .u32 s] w fun e w' => e = .returned (.bool true) ∧ Below w.heap.size w w' := by
  obtain ⟨W0, hW0⟩ : ∃ W0, W0 = w.alloc (.cells #[.string a0, .slice A1 l1.length c1, .slice A2 l2.length c2] 25) := ⟨_, rfl⟩
  have hbw : Below w.heap.size w W0 := by rw [hW0]; exact (Below.refl w.heap.size w).alloc (Nat.le_refl _) _
  have hsz : w.heap.size < W0.heap.size := by rw [hW0]; simp
  have F0 := Lib.hid (show W0.cell? ⟨w.heap.size, 0, none⟩ = some (.string a0) by rw [hW0, World.cell?_alloc_at _ _ _ _ rfl]; rfl)
  have F1 := Lib.hid (show W0.cell? ⟨w.heap.size, 1, none⟩ = some (.slice A1 l1.length c1) by rw [hW0, World.cell?_alloc_at _ _ _ _ rfl]; rfl)
  have F2 := Lib.hid (show W0.cell? ⟨w.heap.size, 2, none⟩ = some (.slice A2 l2.length c2) by rw [hW0, World.cell?_alloc_at _ _ _ _ rfl]; rfl)
  have G1 := Lib.hid (Kd.C_below hr1 hbw)
  have G2 := Lib.hid (Kd.C_below hr2 hbw)
  have HZ := Lib.hid hz
  obtain ⟨bs, ks, hks, hfits⟩ := small_f a0 l1 l2 hz
  have HKS := Lib.hid hks; have HFITS := Lib.hid hfits
  clear hr1 hr2 hz hks hfits
  go_enter Try.func5, Try.ntmps5
  go_wp2_with fail
  rw [← hW0]
  refine (awake_calls W0).mono ?_
  rintro e w1 ⟨rfl, hb1⟩
  have f0 := (hb1.cell (p := ⟨w.heap.size, 0, none⟩) hsz).trans F0.out
  have f1 := (hb1.cell (p := ⟨w.heap.size, 1, none⟩) hsz).trans F1.out
  have f2 := (hb1.cell (p := ⟨w.heap.size, 2, none⟩) hsz).trans F2.out
  have HB1 := Aside0.mk hb1
  clear hb1 hW0
  go_wp2_with fail
  refine (ballcockref09_Small.calls ks a0 A1 c1 l1 A2 c2 l2 bs w1 (Kd.C_below G1.out HB1.out) hc1 (Kd.C_below G2.out HB1.out) hc2 HKS.out).mono ?_
  rintro e w2 ⟨rfl, hb2⟩
  have HB2 := Aside0.mk (bch HB1.out hb2)
  clear hb2 f0 f1 f2 HB1
  cases bs with
  | false =>
    go_wp2_with fail
    refine (awake_calls w2).mono ?_
    rintro e w3 ⟨rfl, hb3⟩
    have HB3 := Aside0.mk (bch HB2.out hb3)
    clear hb3
    go_wp2
    go_ret
    exact ⟨rfl, bch hbw HB3.out⟩
  | true =>
    have hf80 := HFITS.out rfl
    have HFt := Lib.hid (show Fits l1 l2 from ⟨by omega, by omega, fun m hm => by have := hf80.2.2 m hm; omega⟩)
    clear hf80 HFITS
    have f0 := (HB2.out.cell (p := ⟨w.heap.size, 0, none⟩) hsz).trans F0.out
    have f1 := (HB2.out.cell (p := ⟨w.heap.size, 1, none⟩) hsz).trans F1.out
    have f2 := (HB2.out.cell (p := ⟨w.heap.size, 2, none⟩) hsz).trans F2.out
    obtain ⟨kw, hkw⟩ := wrong_f a0 l1 l2 HFt.out
    have HKW := Lib.hid hkw; clear hkw
    obtain ⟨R1, hR1⟩ : ∃ R1, R1 = (wrongF l1 l2).1 := ⟨_, rfl⟩
    obtain ⟨R2, hR2⟩ : ∃ R2, R2 = (wrongF l1 l2).2 := ⟨_, rfl⟩
    have HKW2 := Lib.hid (show auto_Wrong.f kw a0 l1 l2 = some (R1, R2) by rw [hR1, hR2]; exact HKW.out)
    have HR1 := Lib.hid hR1; have HR2 := Lib.hid hR2
    clear hR1 hR2
    by_cases h0 : R1 = 0
    · subst h0
      have HRT := Lib.hid (right_of HR1.out.symm)
      have HIN := Lib.hid HRT.out.in16
      go_wp2_with fail
      refine (New_yes kw a0 A1 c1 l1 A2 c2 l2 R2 w2 (Kd.C_below G1.out HB2.out) hc1 (Kd.C_below G2.out HB2.out) hc2 HKW2.out HFt.out).mono ?_
      rintro e w3 ⟨g, rfl, hat, _, hb3⟩
      have HB3 := Aside0.mk (bch HB2.out hb3)
      have HAT0 := Aside0.mk hat
      clear hb3 f0 f1 f2 HB2 hat
      have f0 := (HB3.out.cell (p := ⟨w.heap.size, 0, none⟩) hsz).trans F0.out
      have f1 := (HB3.out.cell (p := ⟨w.heap.size, 1, none⟩) hsz).trans F1.out
      have f2 := (HB3.out.cell (p := ⟨w.heap.size, 2, none⟩) hsz).trans F2.out
      have HC15 := refWrong_calls a0 A1 c1 l1 A2 c2 l2 w3 (Kd.C_below G1.out HB3.out) hc1 (Kd.C_below G2.out HB3.out) hc2 HFt.out
      rw [← HR1.out, ← HR2.out] at HC15
      go_wp2_with fail
      refine HC15.mono ?_
      rintro e w4 ⟨rfl, hb4⟩
      have HB4 := Aside0.mk (bch HB3.out hb4)
      have HAT := Aside0.mk (AutoAt.below HAT0.out hb4)
      clear hb4 f0 f1 f2 HC15 HAT0
      have hsz4 : w.heap.size < w4.heap.size := by have := HB4.out.size; omega
      have P0 := Aside0.mk ((HB4.out.cell (p := ⟨w.heap.size, 0, none⟩) hsz).trans F0.out)
      have P1 := Aside0.mk ((HB4.out.cell (p := ⟨w.heap.size, 1, none⟩) hsz).trans F1.out)
      have P2 := Aside0.mk ((HB4.out.cell (p := ⟨w.heap.size, 2, none⟩) hsz).trans F2.out)
      have K1 := Aside0.mk (Kd.C_below G1.out HB4.out)
      have K2 := Aside0.mk (Kd.C_below G2.out HB4.out)
      have HBW := Aside0.mk (bch hbw HB4.out)
      clear HB3 F0 F1 F2 G1 G2 HZ HKS HKW HKW2 HR1 HR2 hbw HB4
      have hl1 := Kd.C_max K1.out
      have hl2 := Kd.C_max K2.out
      have HS := Lib.hid hs
      go_wp2
      go_loopg [9] l2.length (fun gm s9 wm => ∃ (i : Nat), i ≤ l2.length ∧ l2.length - i ≤ gm ∧ s9 = .int .i64 i ∧ Aside0 (Below w4.heap.size w4 wm))
      case atStart => exact ⟨0, Nat.zero_le _, by omega, rfl, ⟨Below.refl _ _⟩⟩
      case round =>
        obtain ⟨i, hi, hgi, rfl, BW⟩ := hrel
        have f2 := (BW.out.cell (p := ⟨w.heap.size, 2, none⟩) hsz4).trans P2.out
        by_cases hli : i < l2.length
        · have hliz : (i : Int) < (l2.length : Int) := by omega
          have hlid : decide (i < l2.length) = true := decide_eq_true hli
          obtain ⟨wo, rfl⟩ : ∃ wo : World, wo = wr := ⟨_, rfl⟩
          obtain ⟨adm, Am, cm, em, hm0, hm1, hm2, hmc, hmo⟩ := at_T39 (Kd.C_below K2.out BW.out) i (by omega) hliz
          generalize rd_T39 l2 i = mv at hm0 hm1 hm2 hmc hmo
          obtain ⟨v0, v1, v2⟩ := mv
          simp only at hm0 hm1 hm2 hmc hmo
          simp only [Int.toNat_natCast] at hm0 hm1 hm2
          cases em
          clear hmo
          obtain ⟨K, hK⟩ : ∃ K, K = ofM stays v0 l2 0 := ⟨_, rfl⟩
          obtain ⟨E, hE⟩ : ∃ E, E = ofM (fun _ => true) v0 l2 0 := ⟨_, rfl⟩
          have hKl : K < 2 ^ 32 := by rw [hK]; exact ofM_lt HIN.out _ _
          have hEl : E < 2 ^ 32 := by rw [hE]; exact ofM_lt HIN.out _ _
          have hand := and32 s K HS.out hKl
          obtain ⟨kk, hkk⟩ : ∃ kk, kk = s &&& K := ⟨_, rfl⟩
          rw [← hkk] at hand
          have hkl : kk < 2 ^ 32 := by rw [hkk]; exact Nat.and_lt_two_pow _ hKl
          have hsub := andnot_zero K E hKl hEl (fun j hj => by rw [hE]; rw [hK] at hj; exact keeps_sub _ _ _ hj)
          have hsubn : (Go.bits .andNot .u32 (K : Int) (E : Int) != 0) = false := by rw [hsub]; rfl
          have HST := Lib.hid (fun (nm : ByteArray) => show (Go.bits .andNot .u32 ((stepM kk v0 nm l2 0 : Nat) : Int) (kk : Int) != 0) = false by
            rw [andnot_zero _ kk (stepM_lt32x HIN.out _ _ _) hkl (fun j hj => by rw [hkk, hK] at hj ⊢; exact HRT.out.keeps_step s v0 nm j hj)]; rfl)
          have HKe := Lib.hid hK; have HEe := Lib.hid hE
          clear hK hE hkk hsub hm1 hm2
          go_wp2_with fail
          refine (Keeps_calls g a0 l1 l2 v0 _ (AutoAt.below HAT.out BW.out) HIN.out).mono ?_
          rw [← HKe.out]
          rintro e w5 ⟨rfl, hb5⟩
          have BW5 := Aside0.mk (bch BW.out hb5)
          clear hb5 f2 hm0
          go_wp2_with fail
          refine (Keeps_calls g a0 l1 l2 v0 _ (AutoAt.below HAT.out BW5.out) HIN.out).mono ?_
          rw [← HKe.out]
          rintro e w6 ⟨rfl, hb6⟩
          have BW6 := Aside0.mk (bch BW5.out hb6)
          clear hb6
          go_wp2_with fail
          refine (Enabled_calls g a0 l1 l2 v0 _ (AutoAt.below HAT.out BW6.out) HIN.out).mono ?_
          rw [← HEe.out]
          rintro e w7 ⟨rfl, hb7⟩
          have BW7 := Aside0.mk (bch BW6.out hb7)
          clear hb7
          go_wp2_with fail
          refine (Outcomes_calls g a0 l1 l2 v0 _ (AutoAt.below HAT.out BW7.out) HFt.out.2.1 HFt.out.2.2).mono ?_
          rintro e w8 ⟨vo, rfl, ⟨Ao, co, rfl, hco, hCo⟩, hb8⟩
          have BW8 := Aside0.mk (bch BW7.out hb8)
          obtain ⟨os, hos⟩ : ∃ os, os = outcM v0 l2 [] := ⟨_, rfl⟩
          rw [← hos] at hco hCo ⊢
          have HCO := Aside0.mk hCo
          have hom := Kd.C_max hCo
          clear hb8 hos hCo hsubn hand
          go_wp2
          go_loopg [13] os.length (fun go s13 wq => ∃ (o : Nat), o ≤ os.length ∧ os.length - o ≤ go ∧ s13 = .int .i64 o ∧ Aside0 (Below w8.heap.size w8 wq))
          case atStart => exact ⟨0, Nat.zero_le _, by omega, rfl, ⟨Below.refl _ _⟩⟩
          case round =>
            obtain ⟨o, ho, hgo, rfl, BQ⟩ := hrel
            by_cases hlo : o < os.length
            · have hloz : (o : Int) < (os.length : Int) := by omega
              have hlod : decide (o < os.length) = true := decide_eq_true hlo
              obtain ⟨wp, rfl⟩ : ∃ wp : World, wp = wr := ⟨_, rfl⟩
              obtain ⟨ado, eo, ho0⟩ := Kd.at_string (Kd.C_below HCO.out BQ.out) o (by omega) hloz
              generalize rdOf ByteArray.empty os o = nm at ho0
              simp only [Int.toNat_natCast] at ho0
              cases eo
              have hst := HST.out nm
              have HSC := Lib.hid (Step_calls g a0 l1 l2 kk v0 nm wp (AutoAt.below HAT.out (bch BW8.out BQ.out)) hkl HIN.out)
              obtain ⟨t, ht⟩ : ∃ t, t = stepM kk v0 nm l2 0 := ⟨_, rfl⟩
              rw [← ht] at hst HSC
              clear ht
              go_wp2_with fail
              refine HSC.out.mono ?_
              rintro e w9 ⟨rfl, hb9⟩
              have BQ9 := Aside0.mk (bch BQ.out hb9)
              clear hb9 ho0
              go_wp2
              go_roundg (os.length - (o + 1))
              case measure => omega
              case rel => exact ⟨o + 1, by omega, by omega, by go_num, BQ9⟩
            · have hloz : ¬ (o : Int) < (os.length : Int) := by omega
              have hlod : decide (o < os.length) = false := decide_eq_false hlo
              go_wp2
              go_roundg (l2.length - (i + 1))
              case measure => omega
              case rel => exact ⟨i + 1, by omega, by omega, by go_num, ⟨bch BW8.out BQ.out⟩⟩
        · have hliz : ¬ (i : Int) < (l2.length : Int) := by omega
          have hlid : decide (i < l2.length) = false := decide_eq_false hli
          go_wp2
          go_ret
          exact ⟨rfl, bch HBW.out BW.out⟩
    · have h0' : (R1 == 0) = false := beq_eq_false_iff_ne.mpr h0
      have h0n : (R1 != 0) = true := bne_iff_ne.mpr h0
      go_wp2_with fail
      refine (New_no kw a0 A1 c1 l1 A2 c2 l2 R1 R2 w2 (Kd.C_below G1.out HB2.out) hc1 (Kd.C_below G2.out HB2.out) hc2 HKW2.out h0).mono ?_
      rintro e w3 ⟨rfl, hb3⟩
      have HB3 := Aside0.mk (bch HB2.out hb3)
      clear hb3 f0 f1 f2 HB2
      have f0 := (HB3.out.cell (p := ⟨w.heap.size, 0, none⟩) hsz).trans F0.out
      have f1 := (HB3.out.cell (p := ⟨w.heap.size, 1, none⟩) hsz).trans F1.out
      have f2 := (HB3.out.cell (p := ⟨w.heap.size, 2, none⟩) hsz).trans F2.out
      have HC15 := refWrong_calls a0 A1 c1 l1 A2 c2 l2 w3 (Kd.C_below G1.out HB3.out) hc1 (Kd.C_below G2.out HB3.out) hc2 HFt.out
      rw [← HR1.out, ← HR2.out] at HC15
      go_wp2_with fail
      refine HC15.mono ?_
      rintro e w4 ⟨rfl, hb4⟩
      have HB4 := Aside0.mk (bch HB3.out hb4)
      clear hb4 f0 f1 f2 HC15
      go_wp2
      go_ret
      exact ⟨rfl, bch hbw HB4.out⟩

theorem u32_natx {a : Int} (h : (Lit.int .u32 a).wf = true) : ∃ n : Nat, a = (n : Int) ∧ n < 2 ^ 32 := by
  simp [Lit.wf, IntKind.min, IntKind.max, IntKind.signed, IntKind.bits] at h
  exact ⟨a.toNat, by omega, by omega⟩
theorem AutoKeeps_row (x : S25) (cs : List Value) (a : Int) (w : World) (hk : k25.K w x cs) (hq : Q25 x) (ha : (Lit.int .u32 a).wf = true) : Calls Try.prog 5 #[.agg cs.toArray, .int .u32 a] w fun e w' => e = .returned (.bool true) ∧ Below w.heap.size w w' := by
  obtain ⟨A1, c1, A2, c2, rfl, h1, h2, h3, h4⟩ := open25 hk
  obtain ⟨a, rfl, ha2⟩ := u32_natx ha
  exact AutoKeeps_walk x.f0 A1 c1 x.f1 A2 c2 x.f2 a w h2 h1 h4 h3 hq.sz ha2
end Go.Proofs.Ytkgcfgoaabkcpaa.Pa
