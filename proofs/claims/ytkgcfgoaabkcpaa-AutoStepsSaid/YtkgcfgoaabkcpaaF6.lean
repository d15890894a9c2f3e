import Derived.Test.YtkgcfgoaabkcpaaB8
namespace Go.Proofs.Ytkgcfgoaabkcpaa.Pa
open Go.RowKit Go.Proofs.YtkgcfgoaabkcpaaW.PrintWords Go.Proofs.YtkgcfgoaabkcpaaW.PrintLast Go.Proofs.YtkgcfgoaabkcpaaW.PrintMore
set_option linter.unusedVariables false
set_option linter.unusedSimpArgs false

theorem stepM_lt32 {l2 : List S39} (hin : In16 l2) (S : Nat) (op nm : ByteArray) : stepM S op nm l2 0 < 2 ^ 32 := Nat.lt_of_lt_of_le (stepM_lt hin S op nm) (by decide)

set_option maxRecDepth 4000 in
set_option maxHeartbeats 16000000 in
theorem AutoSteps_walk (a0 : ByteArray) (A1 : Option Addr) (c1 : Nat) (l1 : List S62) (A2 : Option Addr) (c2 : Nat) (l2 : List S39) (a b : Nat) (w : World)
    (hr1 : Kd.C k62 w A1 l1.length l1) (hc1 : l1.length ≤ c1) (hr2 : Kd.C k39 w A2 l2.length l2) (hc2 : l2.length ≤ c2) (hz : SzP l1 l2) (ha : a < 2 ^ 32) (hb : b < 2 ^ 32) :
    Calls Try.prog 4 #[.agg #[.string a0, .slice A1 l1.length c1, .slice A2 l2.length c2], .int .u32 a, .int .u32 b] w fun e w' => e = .returned (.bool true) ∧ Below w.heap.size w w' := by
  obtain ⟨W0, hW0⟩ : ∃ W0, W0 = w.alloc (.cells #[.string a0, .slice A1 l1.length c1, .slice A2 l2.length c2] 25) := ⟨_, rfl⟩
  have hbw : Below w.heap.size w W0 := by rw [hW0]; exact (Below.refl w.heap.size w).alloc (Nat.le_refl _) _
  have hsz : w.heap.size < W0.heap.size := by rw [hW0]; simp
  have F0 := Lib.hid (show W0.cell? ⟨w.heap.size, 0, none⟩ = some (.string a0) by rw [hW0, World.cell?_alloc_at _ _ _ _ rfl]; rfl)
  have F1 := Lib.hid (show W0.cell? ⟨w.heap.size, 1, none⟩ = some (.slice A1 l1.length c1) by rw [hW0, World.cell?_alloc_at _ _ _ _ rfl]; rfl)
  have F2 := Lib.hid (show W0.cell? ⟨w.heap.size, 2, none⟩ = some (.slice A2 l2.length c2) by rw [hW0, World.cell?_alloc_at _ _ _ _ rfl]; rfl)
  have G1 := Lib.hid (Kd.C_below hr1 hbw)
  have G2 := Lib.hid (Kd.C_below hr2 hbw)
  have HZ := Lib.hid hz
  obtain ⟨bs, ks, hks, hfits⟩ := small_f a0 l1 l2 hz
  have HKS := Lib.hid hks; have HFITS := Lib.hid hfits
  clear hr1 hr2 hz hks hfits
  go_enter Try.func4, Try.ntmps4
  go_wp2_with fail
  rw [← hW0]
  refine (awake_calls W0).mono ?_
  rintro e w1 ⟨rfl, hb1⟩
  have f0 := (hb1.cell (p := ⟨w.heap.size, 0, none⟩) hsz).trans F0.out
  have f1 := (hb1.cell (p := ⟨w.heap.size, 1, none⟩) hsz).trans F1.out
  have f2 := (hb1.cell (p := ⟨w.heap.size, 2, none⟩) hsz).trans F2.out
  have HB1 := Aside0.mk hb1
  clear hb1 hW0
  go_wp2_with fail
  refine (ballcockref09_Small.calls ks a0 A1 c1 l1 A2 c2 l2 bs w1 (Kd.C_below G1.out HB1.out) hc1 (Kd.C_below G2.out HB1.out) hc2 HKS.out).mono ?_
  rintro e w2 ⟨rfl, hb2⟩
  have HB2 := Aside0.mk (bch HB1.out hb2)
  clear hb2 f0 f1 f2 HB1
  cases bs with
  | false =>
    go_wp2_with fail
    refine (awake_calls w2).mono ?_
    rintro e w3 ⟨rfl, hb3⟩
    have HB3 := Aside0.mk (bch HB2.out hb3)
    clear hb3
    go_wp2
    go_ret
    exact ⟨rfl, bch hbw HB3.out⟩
  | true =>
    have hf80 := HFITS.out rfl
    have HFt := Lib.hid (show Fits l1 l2 from ⟨by omega, by omega, fun m hm => by have := hf80.2.2 m hm; omega⟩)
    clear hf80 HFITS
    have f0 := (HB2.out.cell (p := ⟨w.heap.size, 0, none⟩) hsz).trans F0.out
    have f1 := (HB2.out.cell (p := ⟨w.heap.size, 1, none⟩) hsz).trans F1.out
    have f2 := (HB2.out.cell (p := ⟨w.heap.size, 2, none⟩) hsz).trans F2.out
    obtain ⟨kw, hkw⟩ := wrong_f a0 l1 l2 HFt.out
    have HKW := Lib.hid hkw; clear hkw
    obtain ⟨R1, hR1⟩ : ∃ R1, R1 = (wrongF l1 l2).1 := ⟨_, rfl⟩
    obtain ⟨R2, hR2⟩ : ∃ R2, R2 = (wrongF l1 l2).2 := ⟨_, rfl⟩
    have HKW2 := Lib.hid (show auto_Wrong.f kw a0 l1 l2 = some (R1, R2) by rw [hR1, hR2]; exact HKW.out)
    have HR1 := Lib.hid hR1; have HR2 := Lib.hid hR2
    clear hR1 hR2
    by_cases h0 : R1 = 0
    · subst h0
      have HRT := Lib.hid (right_of HR1.out.symm)
      have HIN := Lib.hid HRT.out.in16
      go_wp2_with fail
      refine (New_yes kw a0 A1 c1 l1 A2 c2 l2 R2 w2 (Kd.C_below G1.out HB2.out) hc1 (Kd.C_below G2.out HB2.out) hc2 HKW2.out HFt.out).mono ?_
      rintro e w3 ⟨g, rfl, hat, _, hb3⟩
      have HB3 := Aside0.mk (bch HB2.out hb3)
      have HAT0 := Aside0.mk hat
      clear hb3 f0 f1 f2 HB2 hat
      have f0 := (HB3.out.cell (p := ⟨w.heap.size, 0, none⟩) hsz).trans F0.out
      have f1 := (HB3.out.cell (p := ⟨w.heap.size, 1, none⟩) hsz).trans F1.out
      have f2 := (HB3.out.cell (p := ⟨w.heap.size, 2, none⟩) hsz).trans F2.out
      have HC15 := refWrong_calls a0 A1 c1 l1 A2 c2 l2 w3 (Kd.C_below G1.out HB3.out) hc1 (Kd.C_below G2.out HB3.out) hc2 HFt.out
      rw [← HR1.out, ← HR2.out] at HC15
      go_wp2_with fail
      refine HC15.mono ?_
      rintro e w4 ⟨rfl, hb4⟩
      have HB4 := Aside0.mk (bch HB3.out hb4)
      have HAT := Aside0.mk (AutoAt.below HAT0.out hb4)
      clear hb4 f0 f1 f2 HC15 HAT0
      have hsz4 : w.heap.size < w4.heap.size := by have := HB4.out.size; omega
      have P0 := Aside0.mk ((HB4.out.cell (p := ⟨w.heap.size, 0, none⟩) hsz).trans F0.out)
      have P1 := Aside0.mk ((HB4.out.cell (p := ⟨w.heap.size, 1, none⟩) hsz).trans F1.out)
      have P2 := Aside0.mk ((HB4.out.cell (p := ⟨w.heap.size, 2, none⟩) hsz).trans F2.out)
      have K2 := Aside0.mk (Kd.C_below G2.out HB4.out)
      clear HB3 F0 F1 F2 G1
      have hl2 := Kd.C_max K2.out
      have HAB := Lib.hid (or32 a b ha hb)
      have HLAB := Lib.hid (Nat.or_lt_two_pow ha hb)
      go_wp2
      go_loopg [11] l2.length (fun gm s11 wm => ∃ (i : Nat), i ≤ l2.length ∧ l2.length - i ≤ gm ∧ s11 = .int .i64 i ∧ Aside0 (Below w4.heap.size w4 wm))
      case atStart => exact ⟨0, Nat.zero_le _, by omega, rfl, ⟨Below.refl _ _⟩⟩
      case round =>
        obtain ⟨i, hi, hgi, rfl, BW⟩ := hrel
        have f0 := (BW.out.cell (p := ⟨w.heap.size, 0, none⟩) hsz4).trans P0.out
        have f1 := (BW.out.cell (p := ⟨w.heap.size, 1, none⟩) hsz4).trans P1.out
        have f2 := (BW.out.cell (p := ⟨w.heap.size, 2, none⟩) hsz4).trans P2.out
        by_cases hli : i < l2.length
        · have hliz : (i : Int) < (l2.length : Int) := by omega
          have hlid : decide (i < l2.length) = true := decide_eq_true hli
          obtain ⟨wo, rfl⟩ : ∃ wo : World, wo = wr := ⟨_, rfl⟩
          obtain ⟨adm, Am, cm, em, hm0, hm1, hm2, hmc, hmo⟩ := at_T39 (Kd.C_below K2.out BW.out) i (by omega) hliz
          have hmem := rd39_mem hli
          have HMEM := Lib.hid hmem
          obtain ⟨hv, HO⟩ := HIN.out _ hmem
          have HO := Lib.hid HO
          clear hmem
          generalize rd_T39 l2 i = mv at hm0 hm1 hm2 hmc hmo hv HO HMEM
          obtain ⟨v0, v1, v2⟩ := mv
          simp only at hm0 hm1 hm2 hmc hmo hv HO HMEM
          simp only [Int.toNat_natCast] at hm0 hm1 hm2
          cases em
          obtain ⟨hv0, hv1⟩ := hv
          have hol := Kd.C_max hmo
          have HMO := Lib.hid hmo; clear hmo
          obtain ⟨W1, hW1⟩ : ∃ W1, W1 = wo.alloc (.cells #[.string v0, .int .i64 v1, .slice Am v2.length cm] 39) := ⟨_, rfl⟩
          have HBo := Lib.hid (show Below wo.heap.size wo W1 by rw [hW1]; exact (Below.refl _ _).alloc (Nat.le_refl _) _)
          have hszo : wo.heap.size < W1.heap.size := by rw [hW1]; simp
          have M0 := Lib.hid (show W1.cell? ⟨wo.heap.size, 0, none⟩ = some (.string v0) by rw [hW1, World.cell?_alloc_at _ _ _ _ rfl]; rfl)
          have M1 := Lib.hid (show W1.cell? ⟨wo.heap.size, 1, none⟩ = some (.int .i64 v1) by rw [hW1, World.cell?_alloc_at _ _ _ _ rfl]; rfl)
          have M2 := Lib.hid (show W1.cell? ⟨wo.heap.size, 2, none⟩ = some (.slice Am v2.length cm) by rw [hW1, World.cell?_alloc_at _ _ _ _ rfl]; rfl)
          go_wp2
          rw [← hW1]
          clear hW1 hm0 hm1 hm2 f0 f1 f2
          go_loopg [13] v2.length (fun go s13 wq => ∃ (o : Nat), o ≤ v2.length ∧ v2.length - o ≤ go ∧ s13 = .int .i64 o ∧ Aside0 (Below W1.heap.size W1 wq))
          case atStart => exact ⟨0, Nat.zero_le _, by omega, rfl, ⟨Below.refl _ _⟩⟩
          case round =>
            obtain ⟨o, ho, hgo, rfl, BQ⟩ := hrel
            have BQ4 := Lib.hid (bch BW.out (bch HBo.out BQ.out))
            have g0 := (BQ.out.cell (p := ⟨wo.heap.size, 0, none⟩) hszo).trans M0.out
            have g1 := (BQ.out.cell (p := ⟨wo.heap.size, 1, none⟩) hszo).trans M1.out
            have g2 := (BQ.out.cell (p := ⟨wo.heap.size, 2, none⟩) hszo).trans M2.out
            have f0 := (BQ4.out.cell (p := ⟨w.heap.size, 0, none⟩) hsz4).trans P0.out
            have f1 := (BQ4.out.cell (p := ⟨w.heap.size, 1, none⟩) hsz4).trans P1.out
            have f2 := (BQ4.out.cell (p := ⟨w.heap.size, 2, none⟩) hsz4).trans P2.out
            by_cases hlo : o < v2.length
            · have hloz : (o : Int) < (v2.length : Int) := by omega
              have hlod : decide (o < v2.length) = true := decide_eq_true hlo
              obtain ⟨wp, rfl⟩ : ∃ wp : World, wp = wr := ⟨_, rfl⟩
              obtain ⟨ado, eo, ho0, ho1⟩ := at_T42 (Kd.C_below HMO.out (bch HBo.out BQ.out)) o (by omega) hloz
              have hmo := rd42_mem hlo
              obtain ⟨ht0, ht1⟩ := HO.out _ hmo
              have HTK := Lib.hid (fun (hA : a.testBit v1.toNat = true) => step_takes HMEM.out hmo a hA)
              clear hmo
              generalize rd_T42 v2 o = ov at ho0 ho1 ht0 ht1 HTK
              obtain ⟨o0, o1⟩ := ov
              simp only at ho0 ho1 ht0 ht1 HTK
              simp only [Int.toNat_natCast] at ho0 ho1
              cases eo
              obtain ⟨s, hs⟩ : ∃ s, s = stepM a v0 o0 l2 0 := ⟨_, rfl⟩
              obtain ⟨t, ht⟩ : ∃ t, t = stepM b v0 o0 l2 0 := ⟨_, rfl⟩
              have hsl : s < 2 ^ 32 := by rw [hs]; exact stepM_lt32 HIN.out _ _ _
              have htl : t < 2 ^ 32 := by rw [ht]; exact stepM_lt32 HIN.out _ _ _
              have HC1 := Lib.hid (fun x : At wp => Calls.at_ (by rw [hs]; exact Step_calls g a0 l1 l2 a v0 o0 x.1 (AutoAt.below HAT.out (bch BQ4.out x.2)) ha HIN.out : Calls Try.prog 19 #[.pointer (some ⟨g, 0, none⟩), .int .u32 a, .string v0, .string o0] x.1 fun e w' => e = .returned (.int .u32 (s : Nat)) ∧ Below x.1.heap.size x.1 w'))
              have HC2 := Lib.hid (fun x : At wp => Calls.at_ (by rw [ht]; exact Step_calls g a0 l1 l2 b v0 o0 x.1 (AutoAt.below HAT.out (bch BQ4.out x.2)) hb HIN.out : Calls Try.prog 19 #[.pointer (some ⟨g, 0, none⟩), .int .u32 b, .string v0, .string o0] x.1 fun e w' => e = .returned (.int .u32 (t : Nat)) ∧ Below x.1.heap.size x.1 w'))
              have g0' := fun x : At wp => At.cell g0 x
              have g2' := fun x : At wp => At.cell g2 x
              have o0' := fun x : At wp => At.cell ho0 x
              go_wp2
              refine wp_region_at (by kernel_rfl) (by kernel_rfl) ?_
              repeat (go_big_quiet_step ((go_at_call 19; first | (with_reducible exact HC1.out _) | (with_reducible exact HC2.out _))))
              refine wpQuiet_nil ?_
              intro w5 hw'
              obtain ⟨⟨_, hb5⟩, rfl⟩ := hw'
              have HB5 := Aside0.mk hb5
              clear HC1 HC2 g0' g2' o0'
              have BQ5 := Lib.hid (bch BQ.out HB5.out)
              have BQ45 := Lib.hid (bch BQ4.out HB5.out)
              replace g0 := (HB5.out.cell (World.block_lt_of_cell? wp _ g0)).trans g0
              replace g1 := (HB5.out.cell (World.block_lt_of_cell? wp _ g1)).trans g1
              replace g2 := (HB5.out.cell (World.block_lt_of_cell? wp _ g2)).trans g2
              replace f0 := (HB5.out.cell (World.block_lt_of_cell? wp _ f0)).trans f0
              replace f1 := (HB5.out.cell (World.block_lt_of_cell? wp _ f1)).trans f1
              replace f2 := (HB5.out.cell (World.block_lt_of_cell? wp _ f2)).trans f2
              replace ho0 := (HB5.out.cell (World.block_lt_of_cell? wp _ ho0)).trans ho0
              replace ho1 := (HB5.out.cell (World.block_lt_of_cell? wp _ ho1)).trans ho1
              clear hb5 HB5 BQ4
              have hst := or32 s t hsl htl
              have hab := HAB.out
              obtain ⟨ab, hab2⟩ : ∃ ab, ab = a ||| b := ⟨_, rfl⟩
              obtain ⟨stt, hst2⟩ : ∃ stt, stt = s ||| t := ⟨_, rfl⟩
              obtain ⟨fi, hfi⟩ : ∃ fi, fi = finS l1 l1.length := ⟨_, rfl⟩
              rw [← hab2] at hab
              rw [← hst2] at hst
              have HC20 := Lib.hid (fun x : At w5 => Calls.at_ (by rw [hs, ← HRT.out.step_eq]; exact refStep_calls a0 A1 c1 l1 _ c2 l2 a v0 o0 x.1 (Kd.C_below K2.out (bch BQ45.out x.2)) ha HIN.out HRT.out.few : Calls Try.prog 20 #[.agg #[.string a0, .slice A1 l1.length c1, .slice (some adm) l2.length c2], .int .u32 a, .string v0, .string o0] x.1 fun e w' => e = .returned (.int .u32 (s : Nat)) ∧ Below x.1.heap.size x.1 w'))
              have HC3 := Lib.hid (fun x : At w5 => Calls.at_ (by rw [hst2, hs, ht, ← step_union, hab2]; exact Step_calls g a0 l1 l2 (a ||| b) v0 o0 x.1 (AutoAt.below HAT.out (bch BQ45.out x.2)) HLAB.out HIN.out : Calls Try.prog 19 #[.pointer (some ⟨g, 0, none⟩), .int .u32 ab, .string v0, .string o0] x.1 fun e w' => e = .returned (.int .u32 (stt : Nat)) ∧ Below x.1.heap.size x.1 w'))
              have HCF := Lib.hid (fun x : At w5 => Calls.at_ (by rw [hfi]; exact Finals_calls g a0 l1 l2 x.1 (AutoAt.below HAT.out (bch BQ45.out x.2)) HRT.out.few : Calls Try.prog 21 #[.pointer (some ⟨g, 0, none⟩)] x.1 fun e w' => e = .returned (.int .u32 (fi : Nat)) ∧ Below x.1.heap.size x.1 w'))
              have HC4 := Lib.hid (fun x : At w5 => Calls.at_ (by have h := Step_calls g a0 l1 l2 (finS l1 l1.length) v0 o0 x.1 (AutoAt.below HAT.out (bch BQ45.out x.2)) (finS_lt l1 _ (by have := HRT.out.few; omega)) HIN.out; rw [HRT.out.step_fin] at h; rw [hfi]; exact h : Calls Try.prog 19 #[.pointer (some ⟨g, 0, none⟩), .int .u32 fi, .string v0, .string o0] x.1 fun e w' => e = .returned (.int .u32 0) ∧ Below x.1.heap.size x.1 w'))
              have HS2 := Lib.hid hs
              clear hs ht hab2 hst2 hfi
              have g0' := fun x : At w5 => At.cell g0 x
              have g2' := fun x : At w5 => At.cell g2 x
              have o0' := fun x : At w5 => At.cell ho0 x
              have f0' := fun x : At w5 => At.cell f0 x
              have f1' := fun x : At w5 => At.cell f1 x
              have f2' := fun x : At w5 => At.cell f2 x
              go_wp2
              refine wp_region_at (by kernel_rfl) (by kernel_rfl) ?_
              repeat (go_big_quiet_step (first | (go_at_call 19; first | (with_reducible exact HC3.out _) | (with_reducible exact HC4.out _)) | (go_at_call 20; with_reducible exact HC20.out _) | (go_at_call 21; with_reducible exact HCF.out _)))
              refine wpQuiet_nil ?_
              intro w6 hw'
              obtain ⟨⟨_, hb6⟩, rfl⟩ := hw'
              have HB6 := Aside0.mk hb6
              clear HC20 HC3 HCF HC4 g0' g2' o0' f0' f1' f2'
              replace g1 := (HB6.out.cell (World.block_lt_of_cell? w5 _ g1)).trans g1
              replace g2 := (HB6.out.cell (World.block_lt_of_cell? w5 _ g2)).trans g2
              replace ho1 := (HB6.out.cell (World.block_lt_of_cell? w5 _ ho1)).trans ho1
              clear hb6 f0 f1 f2 g0 ho0
              obtain ⟨J1, hJ1, hj1, hj2⟩ := shr_facts a v1 hv0 hv1
              have hbit := bit_eq a v1 ha hv0 hv1
              rw [← hJ1] at hbit
              obtain ⟨J2, hJ2, hj3, hj4⟩ := shr_facts s o1 ht0 ht1
              have hbit2 := bit_eq s o1 hsl ht0 ht1
              rw [← hJ2] at hbit2
              clear hJ1 hJ2
              have hv0t := eq_true hv0
              have hv0d : decide (0 ≤ v1) = true := decide_eq_true hv0
              have ht0t := eq_true ht0
              have ht0d : decide (0 ≤ o1) = true := decide_eq_true ht0
              cases hba : a.testBit v1.toNat with
              | false =>
                have hq1 : (Go.bits .and .u32 J1 1 == 1) = false := by rw [hbit, hba]; rfl
                clear hbit hbit2 hba
                go_wp2
                go_roundg (v2.length - (o + 1))
                case measure => omega
                case rel => exact ⟨o + 1, by omega, by omega, by go_num, ⟨bch BQ5.out HB6.out⟩⟩
              | true =>
                have hq1 : (Go.bits .and .u32 J1 1 == 1) = true := by rw [hbit, hba]; rfl
                have htk := HTK.out hba
                rw [← HS2.out] at htk
                have hq2 : (Go.bits .and .u32 J2 1 == 0) = false := by rw [hbit2, htk]; rfl
                clear hbit hbit2 hba htk
                go_wp2
                go_roundg (v2.length - (o + 1))
                case measure => omega
                case rel => exact ⟨o + 1, by omega, by omega, by go_num, ⟨bch BQ5.out HB6.out⟩⟩
            · have hloz : ¬ (o : Int) < (v2.length : Int) := by omega
              have hlod : decide (o < v2.length) = false := decide_eq_false hlo
              go_wp2
              go_roundg (l2.length - (i + 1))
              case measure => omega
              case rel => exact ⟨i + 1, by omega, by omega, by go_num, ⟨BQ4.out⟩⟩
        · have hliz : ¬ (i : Int) < (l2.length : Int) := by omega
          have hlid : decide (i < l2.length) = false := decide_eq_false hli
          obtain ⟨wo, rfl⟩ : ∃ wo : World, wo = wr := ⟨_, rfl⟩
          obtain ⟨s, hs⟩ : ∃ s, s = stepM a ⟨#[63]⟩ ⟨#[63]⟩ l2 0 := ⟨_, rfl⟩
          have HC1 := Lib.hid (fun x : At wo => Calls.at_ (by rw [hs]; exact Step_calls g a0 l1 l2 a ⟨#[63]⟩ ⟨#[63]⟩ x.1 (AutoAt.below HAT.out (bch BW.out x.2)) ha HIN.out : Calls Try.prog 19 #[.pointer (some ⟨g, 0, none⟩), .int .u32 a, .string ⟨#[63]⟩, .string ⟨#[63]⟩] x.1 fun e w' => e = .returned (.int .u32 (s : Nat)) ∧ Below x.1.heap.size x.1 w'))
          have HC2 := Lib.hid (fun x : At wo => Calls.at_ (by rw [hs, ← HRT.out.step_eq]; exact refStep_calls a0 A1 c1 l1 A2 c2 l2 a ⟨#[63]⟩ ⟨#[63]⟩ x.1 (Kd.C_below K2.out (bch BW.out x.2)) ha HIN.out HRT.out.few : Calls Try.prog 20 #[.agg #[.string a0, .slice A1 l1.length c1, .slice A2 l2.length c2], .int .u32 a, .string ⟨#[63]⟩, .string ⟨#[63]⟩] x.1 fun e w' => e = .returned (.int .u32 (s : Nat)) ∧ Below x.1.heap.size x.1 w'))
          have f0' := fun x : At wo => At.cell f0 x
          have f1' := fun x : At wo => At.cell f1 x
          have f2' := fun x : At wo => At.cell f2 x
          go_wp2
          refine wp_region_at (by kernel_rfl) (by kernel_rfl) ?_
          repeat (go_big_quiet_step (first | (go_at_call 19; exact HC1.out _) | (go_at_call 20; exact HC2.out _)))
          refine wpQuiet_nil ?_
          intro _ hw'
          obtain ⟨⟨w5, hb5⟩, rfl⟩ := hw'
          have HB5 := Aside0.mk hb5
          clear HC1 HC2 f0' f1' f2'
          go_wp2
          go_ret
          exact ⟨rfl, bch hbw (bch HB4.out (bch BW.out HB5.out))⟩
    · have h0' : (R1 == 0) = false := beq_eq_false_iff_ne.mpr h0
      have h0n : (R1 != 0) = true := bne_iff_ne.mpr h0
      go_wp2_with fail
      refine (New_no kw a0 A1 c1 l1 A2 c2 l2 R1 R2 w2 (Kd.C_below G1.out HB2.out) hc1 (Kd.C_below G2.out HB2.out) hc2 HKW2.out h0).mono ?_
      rintro e w3 ⟨rfl, hb3⟩
      have HB3 := Aside0.mk (bch HB2.out hb3)
      clear hb3 f0 f1 f2 HB2
      have f0 := (HB3.out.cell (p := ⟨w.heap.size, 0, none⟩) hsz).trans F0.out
      have f1 := (HB3.out.cell (p := ⟨w.heap.size, 1, none⟩) hsz).trans F1.out
      have f2 := (HB3.out.cell (p := ⟨w.heap.size, 2, none⟩) hsz).trans F2.out
      have HC15 := refWrong_calls a0 A1 c1 l1 A2 c2 l2 w3 (Kd.C_below G1.out HB3.out) hc1 (Kd.C_below G2.out HB3.out) hc2 HFt.out
      rw [← HR1.out, ← HR2.out] at HC15
      go_wp2_with fail
      refine HC15.mono ?_
      rintro e w4 ⟨rfl, hb4⟩
      have HB4 := Aside0.mk (bch HB3.out hb4)
      clear hb4 f0 f1 f2 HC15
      go_wp2
      go_ret
      exact ⟨rfl, bch hbw HB4.out⟩
end Go.Proofs.Ytkgcfgoaabkcpaa.Pa
